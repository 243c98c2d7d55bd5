/- LedgerNil is proved: for every key, number and account the law returns true. No condition beyond the given row's own. -/
import Derived.Test.YthagpdhnblmokaaGreatDoorCards
import Derived.Test.YthagpdhnblmokaaGreatDoorTie
import Derived.Test.YthagpdhnblmokaaGreatDoorRow
import Derived.Test.YthagpdhnblmokaaGreatDoorLawNil
import Derived.Test.YthagpdhnblmokaaGreatDoorNilFacts
import Derived.Lib.SmallJoins
namespace Go.Proofs.YthagpdhnblmokaaGreatDoor.ledgerNil
open Go.ChangeShapes Go.WideShapes Go.ChangeAt Go.RowKit Go.Joins
open Go.Proofs.YthagpdhnblmokaaGreatDoor

set_option maxRecDepth 100000 in
theorem contract (H : Type) (enc : TypeId × Value → H) (W : World) (base : Nat) (args : Array Value) (ds gs : List (DataW H)) (before : List MemPlace)
    (hval : ∀ (j : Nat) t v, Tryz.f5.params[j]? = some t → args[j]? = some v → Value.okWide Tryz.prog W .any base t v)
    (hW : DataW.Whole enc Tryz.prog Tryz.f5.params.toList Rows.ledgerNilSpec.vars false W args.toList ds gs before) (hL : laidMetH Tryz.prog Rows.ledgerNilRow.laid W) :
    Calls Tryz.prog 5 args W fun e W' => ∃ v, e = .returned v ∧ Rows.ledgerNilSpec.post enc Tryz.prog Tryz.f5 false true false false W args v W' := by
  have hW' := hW
  obtain ⟨p, q, hA0, hV, rfl, hfz, hnd⟩ := hW
  have hA : DataW.TrodAll enc Tryz.prog W 0 (fun _ => true) true Tryz.f5.params.toList args.toList ds p := hA0
  rw [Tryz.params5] at hA hval
  obtain ⟨v0, vs0, d0, ds0, p0, q0, hargs, rfl, rfl, h0, r0⟩ := trodAll_cons hA
  obtain ⟨v1, vs1, d1, ds1, p1, q1, rfl, rfl, rfl, h1, r1⟩ := trodAll_cons r0
  obtain ⟨v2, vs2, d2, ds2, p2, q2, rfl, rfl, rfl, h2, r2⟩ := trodAll_cons r1
  obtain ⟨rfl, rfl, rfl⟩ := trodAll_nil r2
  obtain rfl : args = #[v0, v1, v2] := by cases args; simp_all
  obtain ⟨rfl, rfl⟩ := trodVars_none hV
  obtain ⟨a0, a1, a2, a3, y0, y1, y2, y3, m, rfl, rfl, rfl, g0, g1, g2, g3⟩ := open_agg4 Tryz.underlying33 (by kernel_rfl) (by kernel_rfl) (hval 0 _ v0 rfl rfl) h0
  obtain ⟨n0, e0, rfl, w0⟩ := DataW.trod_int Tryz.underlying23 g0
  obtain ⟨n1, e1, rfl, w1⟩ := DataW.trod_int Tryz.underlying31 g1
  obtain ⟨n2, e2, rfl, w2⟩ := DataW.trod_int Tryz.underlying5 g2
  obtain ⟨n3, e3, rfl, w3⟩ := DataW.trod_int Tryz.underlying23 g3
  obtain rfl : a0 = .int .u32 n0 := by simpa using e0
  obtain rfl : a1 = .int .i32 n1 := by simpa using e1
  obtain rfl : a2 = .int .u8 n2 := by simpa using e2
  obtain rfl : a3 = .int .u32 n3 := by simpa using e3
  obtain ⟨i, rfl, rfl, rfl, wi⟩ := open_int Tryz.underlying3 (hval 1 _ v1 rfl rfl) h1
  obtain ⟨c, rfl, rfl, rfl, wc⟩ := open_int Tryz.underlying5 (hval 2 _ v2 rfl rfl) h2
  have hg := glob_of_laid (List.mem_singleton.2 rfl) hL.2
  have hwalk := lawNil_any ⟨UInt32.ofNat n0.toNat, Int32.ofInt n1, UInt8.ofNat n2.toNat, UInt32.ofNat n3.toNat⟩ i (UInt8.ofNat c.toNat) W hg
  simp only [keyVal, of_u32 w0, of_i32 w1, of_u8 w2, of_u32 w3, of_u8 wc] at hwalk
  refine hwalk.mono fun e W' ⟨he, hb⟩ => ?_
  subst he
  exact ⟨_, rfl, law_post laidOut (by kernel_rfl) rfl rfl rfl Tryz.underlying4 hW' hb⟩

theorem laid_met (os : Os) (args : Array Value) : laidMetH Tryz.prog Rows.ledgerNilRow.laid ((laidWorld os).forCall (fun _ _ => 0) ⟨#[], args, []⟩).memory :=
  laidMetH_of_parts (laidMet_nil _ _) (by kernel_rfl)
theorem reads (os : Os) {H : Type} (enc : TypeId × Value → H) : DataW.whole enc Tryz.prog ((laidWorld os).forCall (fun _ _ => 0) ⟨#[], #[.agg #[.int .u32 0, .int .i32 0, .int .u8 0, .int .u32 0], .int .i64 0, .int .u8 0], []⟩).memory Tryz.f5.params.toList Rows.ledgerNilSpec.vars false #[Value.agg #[.int .u32 0, .int .i32 0, .int .u8 0, .int .u32 0], .int .i64 0, .int .u8 0].toList 8 = some ([.agg [.lit (.int .u32 0), .lit (.int .i32 0), .lit (.int .u8 0), .lit (.int .u32 0)], .lit (.int .i64 0), .lit (.int .u8 0)], [], []) := by kernel_rfl

theorem noInit : Tryz.checked.prog.inits.idxOf? 5 = none := by kernel_rfl
theorem w_vars (os : Os) : ((laidWorld os).forCall (fun _ _ => 0) ⟨#[], #[.agg #[.int .u32 0, .int .i32 0, .int .u8 0, .int .u32 0], .int .i64 0, .int .u8 0], []⟩).variablesB Tryz.checked.prog = true := by kernel_rfl
theorem w_heap (os : Os) : (((laidWorld os).forCall (fun _ _ => 0) ⟨#[], #[.agg #[.int .u32 0, .int .i32 0, .int .u8 0, .int .u32 0], .int .i64 0, .int .u8 0], []⟩).heap.toList.drop Tryz.checked.prog.globals.size).take ((begin Tryz.checked.prog (fun _ _ => 0) default).world.heap.size - Tryz.checked.prog.globals.size) =
      (begin Tryz.checked.prog (fun _ _ => 0) default).world.heap.toList.drop Tryz.checked.prog.globals.size := by kernel_rfl
theorem w_input (os : Os) : Input.okWideB Tryz.checked.prog ((laidWorld os).forCall (fun _ _ => 0) ⟨#[], #[.agg #[.int .u32 0, .int .i32 0, .int .u8 0, .int .u32 0], .int .i64 0, .int .u8 0], []⟩) 5 ⟨#[], #[.agg #[.int .u32 0, .int .i32 0, .int .u8 0, .int .u32 0], .int .i64 0, .int .u8 0], []⟩ = true := by kernel_rfl
theorem w_size (os : Os) {H : Type} (enc : TypeId × Value → H) : (OpenSpec.ofChange Rows.ledgerNilSpec).bare.sizedB enc Tryz.prog Tryz.f5 false ((laidWorld os).forCall (fun _ _ => 0) ⟨#[], #[.agg #[.int .u32 0, .int .i32 0, .int .u8 0, .int .u32 0], .int .i64 0, .int .u8 0], []⟩).memory #[.agg #[.int .u32 0, .int .i32 0, .int .u8 0, .int .u32 0], .int .i64 0, .int .u8 0] 8 = true := by kernel_rfl
theorem w_pre (os : Os) {H : Type} (enc : TypeId × Value → H) : (OpenSpec.ofChange Rows.ledgerNilSpec).preRow enc Tryz.prog Tryz.f5 Rows.ledgerNilRow.domain false Rows.ledgerNilRow.laid ((laidWorld os).forCall (fun _ _ => 0) ⟨#[], #[.agg #[.int .u32 0, .int .i32 0, .int .u8 0, .int .u32 0], .int .i64 0, .int .u8 0], []⟩).memory #[.agg #[.int .u32 0, .int .i32 0, .int .u8 0, .int .u32 0], .int .i64 0, .int .u8 0] :=
  OpenSpec.preRow_of_cond 8 (reads os enc) rfl (fun k hk => by cases hk) (w_size os enc) (laid_met os _)
set_option maxRecDepth 100000 in
theorem lifted (os : Os) (started : os.Started) (H : Type) (enc : TypeId × Value → H) (F : Stop.Interp) :
    ReturnsInHanded {} Tryz.checked os 5 .any ((OpenSpec.ofChange Rows.ledgerNilSpec).preRow enc Tryz.prog Tryz.f5 Rows.ledgerNilRow.domain false Rows.ledgerNilRow.laid) (((OpenSpec.ofChange Rows.ledgerNilSpec).at F).post enc Tryz.prog Tryz.f5 false true false false) := by
  refine returnsInHanded_of_row (C := Tryz.checked) (s := OpenSpec.ofChange Rows.ledgerNilSpec) own started noInit Tryz.func5
    (witness_row_at (enc := enc) (C := Tryz.checked) false (laidWorld os) #[.agg #[.int .u32 0, .int .i32 0, .int .u8 0, .int .u32 0], .int .i64 0, .int .u8 0] rfl (w_vars os) (w_heap os) (w_input os) (w_pre os enc)) ?_
  intro W base args ds gs before hval hW _ _ _ hL _ _
  exact contract H enc W base args ds gs before hval hW hL

theorem named : Tryz.pinned.checked.prog.funcNamed Rows.ledgerNilRow.func = some 5 := by kernel_rfl
theorem inst : Tryz.f5.isInstance Tryz.pinned.checked.prog Rows.ledgerNilRow.origin Rows.ledgerNilRow.targs := of_decide_eq_true (by kernel_rfl)
theorem wrap : Tryz.f5.isWrapper Tryz.pinned.checked.prog Rows.ledgerNilRow.wrapper Rows.ledgerNilRow.mainSum := by unfold Func.isWrapper; first | (rw [if_pos (by decide +kernel)]; kernel_rfl) | (rw [if_neg (by decide +kernel)]; exact ⟨rfl, rfl⟩)
theorem said : Rows.LedgerNilSaid :=
  OpenClaim.holds_of_cond 5 Tryz.f5 rfl rfl rfl rfl rfl rfl rfl ⟨rfl, rfl, rfl, rfl, rfl⟩ rfl rfl rfl rfl rfl named Tryz.func5 joined inst wrap
    (fun os started H enc _ F => by rw [OpenClaim.pre_eq_preRow]; exact lifted os started H enc F)

theorem plain (f : FuncId) (fn : Func) (hf : Tryz.pinned.checked.prog.funcNamed "arrears/arrearslaw14.LedgerNil" = some f) (hfn : Tryz.pinned.checked.prog.funcs[f]? = some fn) :
    true = Tryz.pinned.checked.prog.looks [] ∧ ∀ (j : Nat) t, fn.params[j]? = some t → Tryz.pinned.checked.prog.wantsStandIn t = false := by
  obtain rfl : f = 5 := Option.some.inj ((show Tryz.prog.funcNamed "arrears/arrearslaw14.LedgerNil" = some 5 by kernel_rfl).symm.trans hf) |>.symm
  obtain rfl : fn = Tryz.f5 := (Option.some.inj (Tryz.func5.symm.trans hfn)).symm
  refine ⟨looksAll, fun j t ht => ?_⟩
  rw [Tryz.params5] at ht
  have hm : t ∈ [33, 3, 5] := by simpa using Array.mem_of_getElem? ht
  have hall : ([33, 3, 5].all fun u => !Tryz.prog.wantsStandIn u) = true := by kernel_rfl
  exact (show Tryz.prog.wantsStandIn t = false by simpa using List.all_eq_true.1 hall t hm)

theorem byText : Rows.ledgerNilRow.wfByText (OpenSpec.ofChange Rows.ledgerNilSpec) = true := by kernel_rfl
theorem main : Tryz.pinned.checked.prog.mainIs = some (Rows.ledgerNilCard.stood.harness.1, Rows.ledgerNilCard.stood.harness.2.toList) := by kernel_rfl
theorem goes : false = Rows.ledgerNilRow.goesBy Tryz.pinned.checked.prog := by kernel_rfl
theorem ledgerNil_holds : Rows.LedgerNilCardSaid :=
  Claim7.holds_tied_plain_at .later [] _ _ _ _ said (fun _ h => by cases h) byText (fun _ h => by cases h) ledgerNil_row_tie rfl ⟨rfl, rfl⟩ main rfl plain goes
#print axioms ledgerNil_holds
end Go.Proofs.YthagpdhnblmokaaGreatDoor.ledgerNil
