/- The ledger's add. -/
import Derived.Test.YthagpdhnblmokaaGreatDoorAddLaw
import Derived.Deep.AppendLies
import Derived.Deep.RegionLaw
namespace Go.Proofs.YthagpdhnblmokaaGreatDoor
open Go.RowKit Go.Maps

theorem wp_region_all {P : Program} {id : Nat} {Q : Exit → Act → World → Prop} {a : Act} {w : World} {l : List Oper} (hm : P.follows .mixedOrders = true) (hB : Region.lexB .any l.toArray = true)
    (h : wpStill P l.toArray w.drew (fun a' => Q .normal a' w.drew) l a) : (Code.region id l.toArray true).wp P Q a w := wp_region_still_lit hm hB h

theorem wpStill_fm_look {α : Type} [DecidableEq α] {P : Program} {ops : Array Oper} {rest : List Oper} {o : Oper} {a : Act} {Q : Act → Prop} {w : World} {k e t : TypeId} {kv : α → Value} {kl : α → Lit} {b n : Nat} {f : α → Option Int}
    (hg : o.guard = none) (m x : Operand) (hop : o.op = Op.lookup t m x false) (K : KeyEnc P k kv kl) (ht : P.underlying t = some (.map k e)) (he : P.underlying e = some (.int .i64)) (hz : (zeroValue e).run P w = .ok (.int .i64 0) w) (h : FMap P k e kl w b n f)
    (y : α) (c : Int) (hc : (f y).getD 0 = c) (hm : a.eval m = .map (some b)) (hx : a.eval x = kv y) (hK : wpStill P ops w Q rest (a.put o.dst (.int .i64 c))) : wpStill P ops w Q (o :: rest) a := by
  refine wpStill_step (fun K' hK' => ?_)
  have hl := h.look K ht he hz y
  rw [hc] at hl
  unfold Oper.still
  simp [Region.wanted, hg, execOp, hop, hm, hx, hl, Result.andThen, Oper.stillUpon_value]
  exact hK' _ hK

theorem Tryz.infoLine : (Tryz.prog.info? 57).map (fun i => (i.zero, i.size, i.bytes)) = some (some (.agg #[.int .u32 0, .int .i32 0, .int .u8 0, .int .u32 0, .slice none 0 0, .int .i64 0]), 6, 48) := by kernel_rfl

theorem FMap.own_ne {α : Type} {P : Program} {k e : TypeId} {kl : α → Lit} {w : World} {b n : Nat} {f : α → Option Int} (h : FMap P k e kl w b n f) {base m size : Nat} {t : TypeId} {v : Value} {xs : List Value} (ho : w.ownsRow base t size v m xs) : v.ownBlock ≠ some b := by
  obtain ⟨D, ⟨es, clock, hb, _⟩, _⟩ := h
  rcases ho.2 with ⟨rfl, _⟩ | ⟨g', cap, cur, rfl, _, hh, _⟩
  · simp [Value.ownBlock]
  · intro he
    have e' : g' = b := by simpa [Value.ownBlock] using he
    subst e'
    rw [hb] at hh
    cases hh
theorem FMap.blk_ne {α : Type} {P : Program} {k e : TypeId} {kl : α → Lit} {w : World} {b n : Nat} {f : α → Option Int} (h : FMap P k e kl w b n f) {g : Nat} {t : TypeId} {cs : Array Value} (hg : Blk w g t cs) : g ≠ b := by
  obtain ⟨D, ⟨es, clock, hb, _⟩, _⟩ := h
  intro e; subst e
  unfold Blk at hg
  rw [hb] at hg; cases hg
theorem FMap.legs_ne {α : Type} {P : Program} {k e : TypeId} {kl : α → Lit} {w : World} {b n : Nat} {f : α → Option Int} (h : FMap P k e kl w b n f) {S : Nat → Prop} {A : Option Addr} {m : Nat} {ls : List MLeg} (hl : LegsAt w S A m ls) : LegsAt w (fun i => S i ∧ i ≠ b ∧ i < w.heap.size) A m ls := by
  obtain ⟨D, ⟨es, clock, hb, _⟩, _⟩ := h
  refine ⟨hl.1, fun hm => ?_⟩
  obtain ⟨i, o, e, hs, hi, hc⟩ := hl.2 hm
  refine ⟨i, o, e, ⟨hs, fun h => ?_, hi⟩, hi, hc⟩
  subst h
  have h0 : 0 < ls.length := by rw [hl.1]; exact hm
  have := (hc 0 ls[0] (by simp [h0])).1
  simp [World.cell?, hb] at this
/-- The error that tells of which loan it is. -/
def IsFault (w w' : World) (n : UInt32) (code : Int) (e : Ending) : Prop := ∃ gf, e = .returned (.iface 163 (.pointer (some ⟨gf, 0, none⟩))) ∧ w.heap.size ≤ gf ∧ Blk w' gf 165 #[.int .u64 n.toNat, errV code] ∧ Below w.heap.size w w'
def AddOut (g : Nat) (M S : Nat → Prop) (bl bs nl ns : Nat) (rs : List MRow) (fl : MKey → Option Int) (L : List MLine) (k : MKey) (ls : List MLeg) (of : Nat) (w : World) (e : Ending) (w' : World) : Prop :=
  (addOk k.loan ls L = true ∧ e = .returned .nilIface ∧ ∃ (M' S' : Nat → Prop) (v' : Value) (ns' : Nat) (r : MRow) (fs' : MPair → Option Int), LedRep w' g M' S' v' bl bs nl ns' (rs ++ [r]) fl fs' ∧ r.line = ⟨k, ls, of⟩ ∧ (∀ p, (fs' p).getD 0 = pairSum (L ++ [⟨k, ls, of⟩]) p) ∧ ns' ≤ ns + 16 ∧
    Only M w w' ∧ (∀ b, b < w.heap.size → M' b → M b) ∧ (∀ b, b < w.heap.size → S' b → S b)) ∨
  (addOk k.loan ls L = false ∧ IsFault w w' k.loan 12 e)

theorem add_fin {g : Nat} {M S : Nat → Prop} {v : Value} {bl bs nl ns : Nat} {rs : List MRow} {fl : MKey → Option Int} {fs fs3 : MPair → Option Int} {L : List MLine} {k : MKey} {ls : List MLeg} {of j cap gg c5 : Nat} {A5 : Option Addr} {w w3 w5 w6 : World} {X : Obj} {Av : Option Addr} {cv : Nat}
    (hr : LedRep w g M S v bl bs nl ns rs fl fs) (hv : v = .slice Av rs.length cv) (hW3 : Only (fun i => i = bs) w w3) (hsm3 : FMap Tryz.prog 157 50 klPair w3 bs (ns + 2 * j) fs3) (hb5 : Below w3.heap.size w3 w5) (hl5 : LegsAt w5 (fun i => w3.heap.size ≤ i) A5 j ls) (hA5 : A5 = none → j = 0) (hj : j ≤ 8)
    (hown6 : w6.ownsRow 0 57 6 (.slice (some ⟨gg, 0, none⟩) (rs.length + 1) cap) (rs.length + 1) (rowsCells rs ++ [.int .u32 k.loan.toNat, .int .i32 k.day.toInt, .int .u8 k.kind.toNat, .int .u32 k.seq.toNat, .slice A5 j c5, .int .i64 of]))
    (hgrow : (w5.alloc X).grownBy w6 (Value.slice Av rs.length cv).ownBlock) (hat : (Value.slice Av rs.length cv).ownBlock = some gg ∨ gg = w5.heap.size + 1) (hlt : gg < w6.heap.size)
    (hfs3 : ∀ p, (fs3 p).getD 0 = pairSum (L ++ [⟨k, ls, of⟩]) p) (hok : addOk k.loan ls L = true) (hgbs : g ≠ bs) :
    AddOut g M S bl bs nl ns rs fl L k ls of w (.returned .nilIface) (w6.setCell ⟨g, 0, none⟩ (.slice (some ⟨gg, 0, none⟩) (rs.length + 1) cap)) := by
  rw [← hv] at hgrow hat
  have hvne := hr.sums.own_ne hr.row
  have hvbl := hr.live.own_ne hr.row
  have hgbl := hr.live.blk_ne hr.blk
  have hvg := hr.blk.own_ne hr.row (by decide)
  have hvM := hr.mr
  have hgl := hr.blk.lt
  have hs3 := hW3.size
  have hs5 := hb5.size
  have hs6 : w5.heap.size + 1 ≤ w6.heap.size := by have := hgrow.size; simp at this; omega
  have hggg : gg ≠ g := by
    rcases hat with h | h
    · intro e; subst e; exact hvg h
    · omega
  have hO6 : Only (fun i => v.ownBlock = some i) w3 w6 := ((Only.of_below (S := fun i => v.ownBlock = some i) hb5).alloc X).trans (Only.of_grown hgrow) (fun _ _ h => h)
  have hO56 : Only (fun i => v.ownBlock = some i) w5 w6 := ((Only.refl (fun i => v.ownBlock = some i) w5).alloc X).trans (Only.of_grown hgrow) (fun _ _ h => h)
  have hO7 := only_set1 w6 g 0 (.slice (some ⟨gg, 0, none⟩) (rs.length + 1) cap)
  have hO67 : Only (fun i => v.ownBlock = some i ∨ i = g) w3 (w6.setCell ⟨g, 0, none⟩ (.slice (some ⟨gg, 0, none⟩) (rs.length + 1) cap)) := (hO6.mono (fun _ _ h => .inl h)).trans hO7 (fun _ _ h => .inr h)
  have hO57 : Only (fun i => v.ownBlock = some i ∨ i = g) w5 (w6.setCell ⟨g, 0, none⟩ (.slice (some ⟨gg, 0, none⟩) (rs.length + 1) cap)) := (hO56.mono (fun _ _ h => .inl h)).trans hO7 (fun _ _ h => .inr h)
  have hOall : Only (fun i => i = bs ∨ v.ownBlock = some i ∨ i = g) w (w6.setCell ⟨g, 0, none⟩ (.slice (some ⟨gg, 0, none⟩) (rs.length + 1) cap)) := (hW3.mono (fun _ _ h => .inl h)).trans hO67 (fun _ _ h => .inr h)
  have hsz := hO7.size
  have hSlt := hr.slt
  have hMlt := hr.mlt
  have hnS : ∀ b, S b → ¬ (b = bs ∨ v.ownBlock = some b ∨ b = g) := fun b hb h => by
    rcases h with h | h | h
    · subst h; exact hr.apart _ hr.ms hb
    · exact hr.apart _ (hvM _ h) hb
    · subst h; exact hr.apart _ hr.mg hb
  refine .inl ⟨hok, rfl, fun b => M b ∨ b = gg, fun b => S b ∨ (w3.heap.size ≤ b ∧ b < w5.heap.size), .slice (some ⟨gg, 0, none⟩) (rs.length + 1) cap, ns + 2 * j, ⟨⟨k, ls, of⟩, A5, c5⟩, fs3, ?_, rfl, hfs3, by omega, hOall.mono (fun i _ h => ?_), fun b hb h => ?_, fun b hb h => ?_⟩
  · refine ⟨?_, ?_, ?_, ?_, hr.ne, ?_, .inl hr.mg, .inl hr.ml, .inl hr.ms, ?_, ?_, ?_, ?_⟩
    · have := ((hr.blk.only hW3 hgbs).only hO6 hvg).set 0 (.slice (some ⟨gg, 0, none⟩) (rs.length + 1) cap)
      simpa using this
    · have := own_only hown6 hO7 (fun b hb e => by
        have hb' : gg = b := by simpa [Value.ownBlock] using hb
        omega)
      have hlen : ls.length = j := hl5.1
      simpa [rowsCells_append, rowsCells, rowCells, MRow.legsVal, hlen] using this
    · exact (hr.live.only hW3 hr.ne).only hO67 (fun h => by
        rcases h with h | h
        · exact hvbl h
        · exact hgbl h.symm)
    · exact hsm3.only hO67 (fun h => by
        rcases h with h | h
        · exact hvne h
        · exact hgbs h.symm)
    · refine LegsOf.append ((hr.legs.only hOall hnS).mono (fun _ _ h => .inl h)) ?_ ?_ ?_
      · have h1 := (hl5.mono (T := fun b => w3.heap.size ≤ b ∧ b < w5.heap.size) (fun b hb h => ⟨h, hb⟩)).only hO57 (fun b hb h => by
          rcases h with h | h
          · have := hMlt _ (hvM _ h); omega
          · omega)
        have h2 : ls.length = j := hl5.1
        subst h2
        exact h1.mono (fun _ _ h => .inr h)
      · intro h; rw [hl5.1]; exact hA5 h
      · show ls.length ≤ _; rw [hl5.1]; omega
    · intro b hb
      have hb' : gg = b := by simpa [Value.ownBlock] using hb
      exact .inr hb'.symm
    · rintro b (hb | hb) (h | h)
      · exact hr.apart b hb h
      · have := hMlt b hb; omega
      · subst hb
        rcases hat with h1 | h1
        · exact hr.apart _ (hvM _ h1) h
        · have := hSlt _ h; omega
      · subst hb
        rcases hat with h1 | h1
        · have := hMlt _ (hvM _ h1); omega
        · omega
    · rintro b (hb | hb)
      · have := hMlt b hb; omega
      · subst hb; omega
    · rintro b (hb | hb)
      · have := hSlt b hb; omega
      · omega
  · rcases h with h | h | h
    · subst h; exact hr.ms
    · exact hvM _ h
    · subst h; exact hr.mg
  · rcases h with h | h
    · exact h
    · subst h
      rcases hat with h1 | h1
      · exact hvM _ h1
      · omega
  · rcases h with h | h
    · exact h
    · omega

set_option maxRecDepth 100000 in
set_option maxHeartbeats 4000000 in
theorem lAdd_any (g : Nat) (M S S0 : Nat → Prop) (v : Value) (bl bs nl ns : Nat) (rs : List MRow) (fl : MKey → Option Int) (fs : MPair → Option Int) (L : List MLine) (k : MKey) (A : Option Addr) (n c of : Nat) (ls : List MLeg) (w : World)
    (hr : LedRep w g M S v bl bs nl ns rs fl fs) (_hL : rs.map (·.line) = L) (hfs : ∀ p, (fs p).getD 0 = pairSum L p) (hl : LegsAt w S0 A n ls) (hA : A = none → n = 0) (hrt : rightB k ls = true) (hn : ns ≤ 100000000) (hrl : rs.length ≤ 1000000) :
    Calls Tryz.prog 77 #[.pointer (some ⟨g, 0, none⟩), entVal k (.slice A n c), .int .i64 of] w (AddOut g M S bl bs nl ns rs fl L k ls of w) := by
  have hn8 : n ≤ 8 := by have := right_len hrt; rw [hl.1] at this; omega
  have hap := right_apart hrt
  have hgl := hr.blk.lt
  have hc := hr.blk.cell
  have hsl := hr.sums.lt
  have hsm := hr.sums
  have hbd : ∀ p, -9223372036854775808 ≤ pairSum L p ∧ pairSum L p ≤ 9223372036854775807 := fun p => by
    rw [← hfs p]
    cases hp : fs p with
    | none => simp
    | some d =>
      have := hsm.bound kePair Tryz.underlying139 uTCoin (zTCoin w) p hp
      simp [Lit.wf, IntKind.min, IntKind.max, IntKind.bits, IntKind.signed] at this
      simp; omega
  have hHbd := Lib.hid hbd
  have hHr := Lib.hid hr
  have hHl := Lib.hid (hsm.legs_ne hl)
  have hgbs := hsm.blk_ne hr.blk
  have hHfs := Lib.hid hfs
  have hw64 : IntKind.u64.wrap (k.loan.toNat : Int) = k.loan.toNat := by
    have := u32b k.loan
    simp [IntKind.wrap, IntKind.bits, IntKind.signed]; omega
  have hmm := @run_makeMap Tryz.prog
  have hlen : ls.length = n := hl.1
  have hl2 := hl.2
  clear hr hfs hrt _hL hl hbd
  go_enter Tryz.func77, Tryz.ntmps77
  go_wp2_with fail
  go_loopw [18] (fun i wr => ∃ (j : Nat), j ≤ n ∧ i = .int .i64 j ∧ Blk wr w.heap.size 55 #[.int .u32 k.loan.toNat, .int .i32 k.day.toInt, .int .u8 k.kind.toNat, .int .u32 k.seq.toNat, .slice A n c] ∧ FMap Tryz.prog 157 50 klPair wr (w.heap.size + 1) (2 * j) (nextOf k.loan L (ls.take j)) ∧ (ls.take j).all (legOk k.loan L) = true ∧ Below w.heap.size w wr) (fun i _ => n - (intOf i).toNat)
  case atStart =>
    refine ⟨0, by omega, rfl, (Blk.new w 55 _).alloc _, ?_, rfl, by go_grown⟩
    have := FMap.made (w.alloc (.cells #[.int .u32 k.loan.toNat, .int .i32 k.day.toInt, .int .u8 k.kind.toNat, .int .u32 k.seq.toNat, .slice A n c] 55)) Tryz.prog 157 50 klPair
    rw [show (w.alloc (.cells #[.int .u32 k.loan.toNat, .int .i32 k.day.toInt, .int .u8 k.kind.toNat, .int .u32 k.seq.toNat, .slice A n c] 55)).heap.size = w.heap.size + 1 by simp] at this
    exact this
  case round =>
    obtain ⟨j, hj, rfl, hB, hnx, hall, hbr⟩ := hrel
    have hcB := hB.cell
    have hBl := hB.lt
    have hnl := hnx.lt
    by_cases hlt : j < n
    · obtain ⟨b, o, rfl, hS, hbl, hcl⟩ := hl2 (by omega)
      have hjl : j < ls.length := by omega
      obtain ⟨l, hlj⟩ : ∃ l, l = ls[j] := ⟨_, rfl⟩
      obtain ⟨c1, c2⟩ := hcl j l (by rw [hlj]; exact List.getElem?_eq_getElem hjl)
      have c1' := (hbr.cell (p := ⟨b, o + j * 2, none⟩) hbl).trans c1
      have c2' := (hbr.cell (p := ⟨b, o + j * 2 + 1, none⟩) hbl).trans c2
      have hmem : l ∈ ls := by rw [hlj]; exact List.getElem_mem hjl
      have htk : ls.take (j + 1) = ls.take j ++ [l] := by rw [hlj, List.take_succ_eq_append_getElem hjl]
      have hbnd := i64b l.amount
      have hgc : wr.cell? ⟨g, 2, none⟩ = some (.map (some bs)) := (hbr.cell (p := ⟨g, 2, none⟩) hgl).trans (hc 2)
      have hgl2 : g < wr.heap.size := Nat.lt_of_lt_of_le hgl hbr.size
      have hgl3 : g < wr.heap.size + 1 := by omega
      have hgl4 : g < wr.heap.size + 1 + 1 := by omega
      have hwl3 : w.heap.size < wr.heap.size + 1 := by omega
      have hwl4 : w.heap.size < wr.heap.size + 1 + 1 := by omega
      have hsm1 := hsm.only (Only.of_below (S := fun _ => False) hbr) (fun h => h)
      clear c1 c2 hcl hlj hc
      have hvA : Hid ((fs (pAcc k.loan l.account)).getD 0 = sumLoan k.loan l.account L) := hHfs.out (pAcc k.loan l.account)
      have hvC : Hid ((fs (pCtl l.account)).getD 0 = sumAll l.account L) := hHfs.out (pCtl l.account)
      have hbA : Hid (-9223372036854775808 ≤ sumLoan k.loan l.account L ∧ sumLoan k.loan l.account L ≤ 9223372036854775807) := hHbd.out (pAcc k.loan l.account)
      have hbC : Hid (-9223372036854775808 ≤ sumAll l.account L ∧ sumAll l.account L ≤ 9223372036854775807) := hHbd.out (pCtl l.account)
      have hLg := ((Blk.new wr 63 #[.int .u8 l.account.toNat, .int .i64 l.amount.toInt]).alloc (.cells #[.int .u32 k.loan.toNat, .int .u8 l.account.toNat, .bool false, .int .u32 0, .int .u8 l.account.toNat, .bool true] 157)).alloc (.cells #[.int .u32 k.loan.toNat, .int .u8 l.account.toNat, .bool false] 157)
      have hPr : Blk (((wr.alloc (.cells #[.int .u8 l.account.toNat, .int .i64 l.amount.toInt] 63)).alloc (.cells #[.int .u32 k.loan.toNat, .int .u8 l.account.toNat, .bool false, .int .u32 0, .int .u8 l.account.toNat, .bool true] 157)).alloc (.cells #[.int .u32 k.loan.toNat, .int .u8 l.account.toNat, .bool false] 157)) (wr.heap.size + 1) 157 #[.int .u32 k.loan.toNat, .int .u8 l.account.toNat, .bool false, .int .u32 0, .int .u8 l.account.toNat, .bool true] := by
        have := (Blk.new (wr.alloc (.cells #[.int .u8 l.account.toNat, .int .i64 l.amount.toInt] 63)) 157 #[.int .u32 k.loan.toNat, .int .u8 l.account.toNat, .bool false, .int .u32 0, .int .u8 l.account.toNat, .bool true]).alloc (.cells #[.int .u32 k.loan.toNat, .int .u8 l.account.toNat, .bool false] 157)
        simpa using this
      have hO1 := (((((Only.refl (fun _ => False) wr).alloc (.cells #[.int .u8 l.account.toNat, .int .i64 l.amount.toInt] 63)).alloc (.cells #[.int .u32 k.loan.toNat, .int .u8 l.account.toNat, .bool false, .int .u32 0, .int .u8 l.account.toNat, .bool true] 157)).alloc (.cells #[.int .u32 k.loan.toNat, .int .u8 l.account.toNat, .bool false] 157)).drew)
      have hO1' := hO1.mono (T := fun i => i = w.heap.size + 1) (fun _ _ h => h.elim)
      have hnx1 := hnx.only hO1 (fun h => h)
      have hb1 := below_only hbr hO1 hbr.size (fun i h => h.elim)
      have hB1 := hB.only hO1 (fun h => h)
      go_wp2_with fail
      refine wp_loop_rounds 3 ?_
      rw [rounds_succ]
      go_wp2_with fail
      refine wp_region_all (by kernel_rfl) (by kernel_rfl) ?_
      iterate 5 still_step
      refine wpStill_fm_look rfl _ _ rfl kePair Tryz.underlying139 uTCoin (zTCoin _) (hsm1.only hO1 (fun h => h)) (pAcc k.loan l.account) (sumLoan k.loan l.account L) hvA.out rfl rfl ?_
      iterate 2 still_step
      by_cases hfA : fits (sumLoan k.loan l.account L + l.amount.toInt) = true
      · obtain ⟨fA1, fA2⟩ := fits_iff.1 hfA
        have hwfA : (Lit.int .i64 (sumLoan k.loan l.account L + l.amount.toInt)).wf = true := by
          simp [Lit.wf, IntKind.min, IntKind.max, IntKind.bits, IntKind.signed]; omega
        still_call (same_flip (add_ok _ _ _ fA1 fA2 hbnd.1 hbnd.2))
        iterate 5 still_step
        refine wpStill_nil ?_
        go_wp2_with (first
          | (at_mapUpdate; refine wpList_fm_update rfl _ _ _ rfl kePair Tryz.underlying139 uTCoin hnx1 (by unfold maxLen; omega) (pAcc k.loan l.account) (sumLoan k.loan l.account L + l.amount.toInt) rfl rfl rfl hwfA ?_
             intro w2 hnx2 htu
             have hO2 := turned_only htu
             have hs2 := turned_size htu
             have hs2' : w2.heap.size = wr.heap.size + 3 := by (rw [hs2]; simp)
             have hLg2 := (Blk.drew hLg).only hO2 (fun e => (by have e' : wr.heap.size = w.heap.size + 1 := e; omega))
             have hPr2 := (Blk.drew hPr).only hO2 (fun e => (by have e' : wr.heap.size + 1 = w.heap.size + 1 := e; omega))
             have hcL2 := hLg2.cell
             have hcP2 := hPr2.cell
             have hgc2 : w2.cell? ⟨g, 2, none⟩ = some (.map (some bs)) := by (rw [(hO1'.trans hO2 (fun i _ e => e)).cell (p := ⟨g, 2, none⟩) hgl2 (by show ¬ g = w.heap.size + 1; omega)]; exact hgc)
             clear hs2 hcB)
          | go_in)
        have hgl5 : g < w2.heap.size := by omega
        have hwl5 : w.heap.size < w2.heap.size := by omega
        have hll5 : wr.heap.size < w2.heap.size := by omega
        have hpl5 : wr.heap.size + 1 < w2.heap.size := by omega
        have hsm2 := (hsm1.only hO1 (fun h => h)).only hO2 (fun e => by omega)
        have hB2 := hB1.only hO2 (fun e => by omega)
        have hcB2 := hB2.cell
        have hb2 := below_only hb1 hO2 hb1.size (fun i e => by omega)
        have hO3 := (((Only.refl (fun _ => False) w2).alloc (.cells #[.int .u32 0, .int .u8 l.account.toNat, .bool true] 157)).drew)
        have hnx3 := hnx2.only hO3 (fun h => h)
        have hsm3 := hsm2.only hO3 (fun h => h)
        have hB3 := hB2.only hO3 (fun h => h)
        have hb3 := below_only hb2 hO3 hb2.size (fun i h => h.elim)
        rw [rounds_succ]
        go_wp2_with fail
        refine wp_region_all (by kernel_rfl) (by kernel_rfl) ?_
        iterate 5 still_step
        refine wpStill_fm_look rfl _ _ rfl kePair Tryz.underlying139 uTCoin (zTCoin _) hsm3 (pCtl l.account) (sumAll l.account L) hvC.out rfl rfl ?_
        iterate 2 still_step
        by_cases hfC : fits (sumAll l.account L + l.amount.toInt) = true
        · obtain ⟨fC1, fC2⟩ := fits_iff.1 hfC
          have hwfC : (Lit.int .i64 (sumAll l.account L + l.amount.toInt)).wf = true := by
            simp [Lit.wf, IntKind.min, IntKind.max, IntKind.bits, IntKind.signed]; omega
          still_call (same_flip (add_ok _ _ _ fC1 fC2 hbnd.1 hbnd.2))
          iterate 5 still_step
          refine wpStill_nil ?_
          go_wp2_with (first
            | (at_mapUpdate; refine wpList_fm_update rfl _ _ _ rfl kePair Tryz.underlying139 uTCoin hnx3 (by unfold maxLen; omega) (pCtl l.account) (sumAll l.account L + l.amount.toInt) rfl rfl rfl hwfC ?_
               intro w4 hnx4 htu4
               have hO4 := turned_only htu4
               have hs4 := turned_size htu4)
            | go_in)
          rw [rounds_succ]
          go_wp2_with fail
          go_roundw
          case rel =>
            refine ⟨j + 1, by omega, by go_num, hB3.only hO4 (fun e => by omega), ?_, ?_, below_only hb3 hO4 hb3.size (fun i e => by omega)⟩
            · exact (hnx4.congr (fun p => by rw [htk, nextOf_snoc]; rfl)).mono (by omega)
            · rw [htk, List.all_append, hall]; simp [legOk, hfA, hfC]
          case measure => simp [intOf]; omega
        · have hfC' : fits (sumAll l.account L + l.amount.toInt) = false := by simpa using hfC
          have hbad : addOk k.loan ls L = false := List.all_eq_false.2 ⟨l, hmem, by simp [legOk, hfC']⟩
          still_call (same_flip (add_over _ _ _ hbC.out.1 hbC.out.2 hbnd.1 hbnd.2 (fits_not.1 hfC')))
          iterate 5 still_step
          refine wpStill_nil ?_
          go_wp2_with fail
          go_ret
          refine .inr ⟨hbad, _, rfl, by omega, ?_, ?_⟩
          · have := (Blk.new (w2.alloc (.cells #[.int .u32 0, .int .u8 l.account.toNat, .bool true] 157)) 165 #[.int .u64 k.loan.toNat, errV 12]).drew
            simpa [hs2'] using this
          · exact below_alloc hb3 _
      · have hfA' : fits (sumLoan k.loan l.account L + l.amount.toInt) = false := by simpa using hfA
        have hbad : addOk k.loan ls L = false := List.all_eq_false.2 ⟨l, hmem, by simp [legOk, hfA']⟩
        still_call (same_flip (add_over _ _ _ hbA.out.1 hbA.out.2 hbnd.1 hbnd.2 (fits_not.1 hfA')))
        iterate 5 still_step
        refine wpStill_nil ?_
        go_wp2_with fail
        go_ret
        refine .inr ⟨hbad, wr.heap.size + 1 + 1 + 1, rfl, by omega, ?_, ?_⟩
        · have := (Blk.new (((wr.alloc (.cells #[.int .u8 l.account.toNat, .int .i64 l.amount.toInt] 63)).alloc (.cells #[.int .u32 k.loan.toNat, .int .u8 l.account.toNat, .bool false, .int .u32 0, .int .u8 l.account.toNat, .bool true] 157)).alloc (.cells #[.int .u32 k.loan.toNat, .int .u8 l.account.toNat, .bool false] 157)) 165 #[.int .u64 k.loan.toNat, errV 12]).drew
          simpa using this
        · exact below_alloc hb1 _
    · obtain rfl : j = n := by omega
      have hok : addOk k.loan ls L = true := by unfold addOk; rwa [List.take_of_length_le (by omega)] at hall
      rw [List.take_of_length_le (by omega)] at hnx
      have hr := hHr.out
      have hfs' := sums_after k.loan L ls fs hHfs.out hap k rfl of
      have hHfs' := Lib.hid hfs'
      have hgc : wr.cell? ⟨g, 2, none⟩ = some (.map (some bs)) := (hbr.cell (p := ⟨g, 2, none⟩) hgl).trans (hc 2)
      have hsm1 := hsm.only (Only.of_below (S := fun _ => False) hbr) (fun h => h)
      clear hall hfs' hc hr
      go_wp2_with (go_at_call 152; refine (mapsCopy_any bs (w.heap.size + 1) ns (2 * j) fs (nextOf k.loan L ls) _ hsm1 hnx (by omega) (by omega)).mono ?_
                   rintro e w3 ⟨rfl, hsm3, hO3⟩)
      have hr := hHr.out
      have hvne := hr.sums.own_ne hr.row
      have hvg := hr.blk.own_ne hr.row (by decide)
      have hvM := hr.mr
      obtain ⟨Av, cv, hv⟩ := own_slice hr.row
      have hvl : ∀ b, v.ownBlock = some b → b < w.heap.size := fun b hb => hr.mlt b (hvM b hb)
      have hW3 : Only (fun i => i = bs) w w3 := ((Only.of_below (S := fun i => i = bs) hbr).trans hO3 (fun _ _ h => h))
      have hown3 : w3.ownsRow 0 57 6 v rs.length (rowsCells rs) := own_only hr.row hW3 (fun b hb e => hvne (e ▸ hb))
      have hB3 := hB.only hO3 (fun e => by omega)
      have hg3 := hr.blk.only hW3 hgbs
      have hl3 := (hHl.out.only hW3 (fun b hb => hb.2.1)).mono (T := fun b => b < w.heap.size) (fun b _ hb => hb.2.2)
      have hl3' : LegsAt w3.drew (fun b => b < w.heap.size) A j ls := hl3
      have hsz3 : w.heap.size < w3.heap.size := hB3.lt
      have hgc3 : w3.cell? ⟨g, 0, none⟩ = some (.slice Av rs.length cv) := by rw [hg3.cell 0, hv]; rfl
      have hHvne := Lib.hid hvne
      have hHvg := Lib.hid hvg
      have hHvM := Lib.hid hvM
      have hHv := Lib.hid hv
      have hHvl := Lib.hid hvl
      have hHown := Lib.hid hown3
      have hg3l := hg3.lt
      have hb0 : w3.cell? ⟨w.heap.size, 0, none⟩ = some (.int .u32 k.loan.toNat) := hB3.cell 0
      have hb1 : w3.cell? ⟨w.heap.size, 1, none⟩ = some (.int .i32 k.day.toInt) := hB3.cell 1
      have hb2 : w3.cell? ⟨w.heap.size, 2, none⟩ = some (.int .u8 k.kind.toNat) := hB3.cell 2
      have hb3 : w3.cell? ⟨w.heap.size, 3, none⟩ = some (.int .u32 k.seq.toNat) := hB3.cell 3
      have hb4 : w3.cell? ⟨w.heap.size, 4, none⟩ = some (.slice A j c) := hB3.cell 4
      obtain ⟨i0, hi0, hz0, hz1, hz2⟩ := info_parts Tryz.infoLine
      clear hr hvne hvg hvM hv hvl hown3 hnx hsm1 hgc hcB hmm hHbd
      go_region_law (first
          | (go_simp; go_at_call 144; refine (cloneLegs_any A j c ls _ _ hl3' hA (by omega)).mono ?_; rintro e w5 ⟨A5, c5, rfl, hl5, hA5, hb5⟩
             have hcc5 := (bcell hb5).1
             have hff5 := (bcell hb5).2
             have hs5 : w3.heap.size ≤ w5.heap.size := hb5.size
             have hg5l : g < w5.heap.size := by (omega)
             have hk50 : w5.cell? ⟨w.heap.size, 0, none⟩ = some (.int .u32 k.loan.toNat) := by (rw [hcc5 _ _ (by simp; omega)]; exact hb0)
             have hk51 : w5.cell? ⟨w.heap.size, 1, none⟩ = some (.int .i32 k.day.toInt) := by (rw [hcc5 _ _ (by simp; omega)]; exact hb1)
             have hk52 : w5.cell? ⟨w.heap.size, 2, none⟩ = some (.int .u8 k.kind.toNat) := by (rw [hcc5 _ _ (by simp; omega)]; exact hb2)
             have hk53 : w5.cell? ⟨w.heap.size, 3, none⟩ = some (.int .u32 k.seq.toNat) := by (rw [hcc5 _ _ (by simp; omega)]; exact hb3)
             have hgc5 : w5.cell? ⟨g, 0, none⟩ = some (.slice Av rs.length cv) := by (rw [hcc5 _ _ (by simp; omega)]; exact hgc3)
             have hgf5 : w5.frozen? ⟨g, 0, none⟩ = false := by (rw [hff5 _ _ (by simp; omega)]; exact hg3.frozen 0)
             have hown5 : (w5.alloc (.cells #[.int .u32 k.loan.toNat, .int .i32 k.day.toInt, .int .u8 k.kind.toNat, .int .u32 k.seq.toNat, .slice A5 j c5, .int .i64 of] 57)).ownsRow 0 57 6 (.slice Av rs.length cv) rs.length (rowsCells rs) := by
               (rw [← hHv.out]; exact own_only hHown.out ((Only.of_below (S := fun _ => False) (undrew hb5)).alloc _) (fun _ _ h => h)))
          | (refine step_append_lies _ (by rfl) _ _ _ (by rfl) 0 57 i0 _ 6 48 Tryz.underlying140 hi0 hz0 hz1 hz2 rfl (by omega) (.slice Av rs.length cv) rs.length (rowsCells rs) (by rfl) hown5 ⟨w5.heap.size, 0, none⟩ 1 1 [.int .u32 k.loan.toNat, .int .i32 k.day.toInt, .int .u8 k.kind.toNat, .int .u32 k.seq.toNat, .slice A5 j c5, .int .i64 of] (by rfl) (by rfl) (World.news_of_block (cs := #[.int .u32 k.loan.toNat, .int .i32 k.day.toInt, .int .u8 k.kind.toNat, .int .u32 k.seq.toNat, .slice A5 j c5, .int .i64 of]) (t := 57) (fr := (0, 0)) (heap_alloc_new w5 _)) (by simp [Value.oneCell']) (by omega) (by unfold maxLen; omega) (by omega) (by omega) (w5.heap.size + 1) (by simp) ?_
             intro gg cap w6 hown6 hgrow hat hlt6
             have hs6 : w5.heap.size + 1 ≤ w6.heap.size := by (have := hgrow.size; simp at this; omega)
             have hfar0 : some w.heap.size ≠ (Value.slice Av rs.length cv).ownBlock := fun e => (by (rw [← hHv.out] at e; have := hHvl.out _ e.symm; omega))
             have hfarg : some g ≠ (Value.slice Av rs.length cv).ownBlock := fun e => (by (rw [← hHv.out] at e; exact hHvg.out e.symm))
             have hgc6 : w6.cell? ⟨g, 0, none⟩ = some (.slice Av rs.length cv) := by (rw [hgrow.cell_far _ (by simp; omega) hfarg]; simpa [go_sem, hg5l] using hgc5)
             have hgf6 : w6.frozen? ⟨g, 0, none⟩ = false := by (rw [hgrow.frozen_far _ (by simp; omega) hfarg]; simpa [go_sem, hg5l] using hgf5)))
      all_goals (go_wp2_with fail
                 go_ret
                 exact add_fin hHr.out hHv.out hW3 hsm3 (undrew hb5) hl5 hA5 hn8 hown6 hgrow hat hlt6 hHfs'.out hok hgbs)
end Go.Proofs.YthagpdhnblmokaaGreatDoor
