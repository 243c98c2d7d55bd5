/- The ledger's Post and Reverse. -/
import Derived.Test.YthagpdhnblmokaaGreatDoorAdd
namespace Go.Proofs.YthagpdhnblmokaaGreatDoor
open Go.RowKit Go.Maps

theorem wpStill_fm_look_ok {α : Type} [DecidableEq α] {P : Program} {ops : Array Oper} {rest : List Oper} {o : Oper} {a : Act} {Q : Act → Prop} {w : World} {k e t : TypeId} {kv : α → Value} {kl : α → Lit} {b n : Nat} {f : α → Option Int}
    (hg : o.guard = none) (m x : Operand) (hop : o.op = Op.lookup t m x true) (K : KeyEnc P k kv kl) (ht : P.underlying t = some (.map k e)) (he : P.underlying e = some (.int .i64)) (hz : (zeroValue e).run P w = .ok (.int .i64 0) w) (h : FMap P k e kl w b n f)
    (y : α) (c : Int) (d : Bool) (hc : (f y).getD 0 = c) (hd : (f y).isSome = d) (hm : a.eval m = .map (some b)) (hx : a.eval x = kv y) (hK : wpStill P ops w Q rest (a.put o.dst (.tuple #[.int .i64 c, .bool d]))) : wpStill P ops w Q (o :: rest) a := by
  refine wpStill_step (fun K' hK' => ?_)
  have hl := h.look_ok K ht he hz y
  rw [hc, hd] at hl
  unfold Oper.still
  simp [Region.wanted, hg, execOp, hop, hm, hx, hl, Result.andThen, Oper.stillUpon_value]
  exact hK' _ hK

theorem LedRep.turn_live {w w' : World} {g : Nat} {M S : Nat → Prop} {v : Value} {bl bs nl ns nl' : Nat} {rs : List MRow} {fl fl' : MKey → Option Int} {fs : MPair → Option Int} (hr : LedRep w g M S v bl bs nl ns rs fl fs)
    (h : FMap Tryz.prog 33 3 klKey w' bl nl' fl') (ht : w.mapTurned w' bl) : LedRep w' g M S v bl bs nl' ns rs fl' fs := by
  have ho := turned_only ht
  have hs := turned_size ht
  have h1 := hr.live.own_ne hr.row
  have h2 := hr.live.blk_ne hr.blk
  exact ⟨hr.blk.only ho h2, own_only hr.row ho (fun b hb e => h1 (e ▸ hb)), h, hr.sums.only ho (fun e => hr.ne e.symm), hr.ne, hr.legs.only ho (fun b hb e => hr.apart _ hr.ml (e ▸ hb)), hr.mg, hr.ml, hr.ms, hr.mr, hr.apart, fun b hb => by rw [hs]; exact hr.mlt b hb, fun b hb => by rw [hs]; exact hr.slt b hb⟩

/-- What a step of a ledger from L to L' leaves, where its error is 'code' (0: none); n: the loan. -/
def StepOut (g : Nat) (M S : Nat → Prop) (L' : List MLine) (code : Nat) (n : UInt32) (w : World) (e : Ending) (w' : World) : Prop :=
  (code = 0 ∧ e = .returned .nilIface ∧ ∃ M' S' : Nat → Prop, IsLed w' g M' S' L' ∧ Only M w w' ∧ (∀ b, b < w.heap.size → M' b → M b) ∧ (∀ b, b < w.heap.size → S' b → S b)) ∨
  (code ≠ 0 ∧ Below w.heap.size w w' ∧ ((e = .returned (errV code) ∧ (code = 1 ∨ code = 12)) ∨ IsFault w w' n code e))
def postCode (k : MKey) (ls : List MLeg) (L : List MLine) : Nat := if rightB k ls = false then 1 else if (Go.Proofs.YthagpdhnblmokaaGreatDoor.live L k).isSome then 10 else if addOk k.loan ls L = false then 12 else 0

theorem live_lt {L : List MLine} {k : MKey} {i : Nat} (h : Go.Proofs.YthagpdhnblmokaaGreatDoor.live L k = some i) : i < L.length := by
  revert h
  refine snoc_ind (P := fun L => Go.Proofs.YthagpdhnblmokaaGreatDoor.live L k = some i → i < L.length) (fun h => by cases h) (fun L x ih h => ?_) L
  rw [live_snoc] at h
  simp only [List.length_append, List.length_cons, List.length_nil]
  split at h
  · injection h with h; omega
  · split at h
    · cases h
    · have := ih h; omega

set_option maxRecDepth 100000 in
set_option maxHeartbeats 2000000 in
theorem post_any (g : Nat) (M S S0 : Nat → Prop) (L : List MLine) (k : MKey) (A : Option Addr) (n c : Nat) (ls : List MLeg) (w : World) (h : IsLed w g M S L) (hl : LegsAt w S0 A n ls) (hA : A = none → n = 0) (hn : n ≤ 1000000) (hL : L.length ≤ 1000000) :
    Calls Tryz.prog 26 #[.pointer (some ⟨g, 0, none⟩), entVal k (.slice A n c)] w (StepOut g M S (L ++ [⟨k, ls, 0⟩]) (postCode k ls L) k.loan w) := by
  obtain ⟨v, bl, bs, nl, ns, rs, fl, fs, hr, hrL, hfl, hfs, hnl, hns⟩ := h
  have hw64 : IntKind.u64.wrap (k.loan.toNat : Int) = k.loan.toNat := by
    have := u32b k.loan
    simp [IntKind.wrap, IntKind.bits, IntKind.signed]; omega
  have hHr := Lib.hid hr
  have hl1 : LegsAt (w.alloc (.cells #[.int .u32 k.loan.toNat, .int .i32 k.day.toInt, .int .u8 k.kind.toNat, .int .u32 k.seq.toNat, .slice A n c] 55)) (fun b => S0 b ∧ b < w.heap.size) A n ls := (hl.mono (fun b hb h => ⟨h, hb⟩)).only ((Only.refl (fun _ => False) w).alloc _) (fun _ _ h => h)
  have hHl1 := Lib.hid hl1
  have hHfl := Lib.hid hfl
  have hHfs := Lib.hid hfs
  clear hl hfl hfs hr
  go_enter Tryz.func26, Tryz.ntmps26
  go_wp2_with fail
  refine (eRight_any k A n c ls _ _ hHl1.out hn).mono ?_
  rintro e w1 ⟨rfl, hb⟩
  have hbw : Below w.heap.size w w1 := below_then ((Below.refl _ _).alloc (Nat.le_refl _) _) hb
  have hsz : w.heap.size < w1.heap.size := by have := hb.size; simp at this; omega
  have hB1 : Blk w1 w.heap.size 55 #[.int .u32 k.loan.toNat, .int .i32 k.day.toInt, .int .u8 k.kind.toNat, .int .u32 k.seq.toNat, .slice A n c] := Blk.below (Blk.new w 55 _) hb (by simp)
  have hl2 := hHl1.out.only (Only.of_below (S := fun _ => False) hb) (fun _ _ h => h)
  have hHl2 := Lib.hid hl2
  have hcB := hB1.cell
  clear hb hl1 hl2
  by_cases hrt : rightB k ls = true
  · rw [hrt]
    have hr1 := hHr.out.only (Only.of_below (S := fun _ => False) hbw) (fun _ _ h => h) (fun _ _ h => h)
    have hc1 : w1.cell? ⟨g, 1, none⟩ = some (.map (some bl)) := hr1.blk.cell 1
    have hgl1 := hr1.blk.lt
    have hgw : g ≠ w.heap.size := fun e => by have := hHr.out.blk.lt; omega
    have hHr1 := Lib.hid hr1
    clear hr1
    go_wp2_with fail
    refine wp_region_all (by kernel_rfl) (by kernel_rfl) ?_
    iterate 6 still_step
    cases hlv : Go.Proofs.YthagpdhnblmokaaGreatDoor.live L k with
    | some i =>
      have hfk : fl k = some (i : Int) := by rw [hHfl.out, hlv]; rfl
      refine wpStill_fm_look_ok rfl _ _ rfl keKey Tryz.underlying138 uTint (zTint _) hHr1.out.live.drew k i true (by rw [hfk]; rfl) (by rw [hfk]; rfl) rfl rfl ?_
      iterate 5 still_step
      refine wpStill_nil ?_
      go_wp2_with fail
      go_ret
      refine .inr ⟨by simp [postCode, hrt, hlv], below_alloc (below_drewN hbw 1) _, .inr ?_⟩
      refine ⟨w1.heap.size, by simp, by omega, ?_, below_alloc (below_drewN hbw 1) _⟩
      have := (Blk.new w1 165 #[.int .u64 k.loan.toNat, errV 10]).drew
      simpa [postCode, hrt, hlv] using this
    | none =>
      have hfk : fl k = none := by rw [hHfl.out, hlv]; rfl
      refine wpStill_fm_look_ok rfl _ _ rfl keKey Tryz.underlying138 uTint (zTint _) hHr1.out.live.drew k 0 false (by rw [hfk]; rfl) (by rw [hfk]; rfl) rfl rfl ?_
      iterate 5 still_step
      refine wpStill_nil ?_
      go_wp2_with fail
      refine (lAdd_any g M S (fun b => S0 b ∧ b < w.heap.size) v bl bs nl ns rs fl fs L k A n c 0 ls w1.drew (hHr1.out.only ((Only.refl (fun _ => False) w1).drew) (fun _ _ h => h) (fun _ _ h => h)) hrL hHfs.out (hHl2.out.only ((Only.refl (fun _ => False) w1).drew) (fun _ _ h => h)) hA hrt (by omega) (by rw [← hrL] at hL; simpa using hL)).mono ?_
      rintro e w2 h2
      rcases h2 with ⟨hok, rfl, M2, S2, v2, ns2, r, fs2, hr2, hrl, hfs2, hns2, hO2, hM2, hS2⟩ | ⟨hok, gf, rfl, hgf, hBf, hbf⟩
      · have hnM : ¬ M w.heap.size := fun h => by have := hHr.out.mlt _ h; omega
        have hB2 : Blk w2 w.heap.size 55 #[.int .u32 k.loan.toNat, .int .i32 k.day.toInt, .int .u8 k.kind.toNat, .int .u32 k.seq.toNat, .slice A n c] := (Blk.drew hB1).only hO2 hnM
        have hb0 : w2.cell? ⟨w.heap.size, 0, none⟩ = some (.int .u32 k.loan.toNat) := hB2.cell 0
        have hb1 : w2.cell? ⟨w.heap.size, 1, none⟩ = some (.int .i32 k.day.toInt) := hB2.cell 1
        have hb2 : w2.cell? ⟨w.heap.size, 2, none⟩ = some (.int .u8 k.kind.toNat) := hB2.cell 2
        have hb3 : w2.cell? ⟨w.heap.size, 3, none⟩ = some (.int .u32 k.seq.toNat) := hB2.cell 3
        have hgl2 : w2.cell? ⟨g, 1, none⟩ = some (.map (some bl)) := hr2.blk.cell 1
        obtain ⟨Av, cv, hv2⟩ := own_slice hr2.row
        have hgv2 : w2.cell? ⟨g, 0, none⟩ = some (.slice Av (rs ++ [r]).length cv) := (hr2.blk.cell 0).trans (by rw [hv2]; rfl)
        rw [List.length_append, List.length_singleton] at hgv2
        have hwr : IntKind.i64.wrap (rs.length : Int) = rs.length := by
          have : rs.length ≤ 1000000 := by rw [← hrL] at hL; simpa using hL
          simp [IntKind.wrap, IntKind.bits, IntKind.signed]; omega
        have hHr2 := Lib.hid hr2
        have hHfs2 := Lib.hid hfs2
        have hwf : (Lit.int .i64 (rs.length : Int)).wf = true := by
          have : rs.length ≤ 1000000 := by rw [← hrL] at hL; simpa using hL
          simp [Lit.wf, IntKind.min, IntKind.max, IntKind.bits, IntKind.signed]; omega
        clear hcB hr2 hfs2 hv2 hc1
        go_wp2_with fail
        refine wp_region_tail 12 (by kernel_rfl) (by kernel_rfl) ?_
        simp only [List.take_succ_cons, List.take_zero, List.drop_succ_cons, List.drop_zero]
        iterate 12 still_step
        refine wpStill_nil ?_
        have hnm : nl < maxLen := by unfold maxLen; omega
        go_wp2_with (first
          | (at_mapUpdate; refine wpList_fm_update rfl _ _ _ rfl keKey Tryz.underlying138 uTint hHr2.out.live.drew hnm k (rs.length : Int) rfl rfl rfl hwf ?_
             intro w3 hf3 ht3)
          | go_in)
        go_ret
        have hcode : postCode k ls L = 0 := by simp [postCode, hrt, hlv, hok]
        have hlL : L.length = rs.length := by rw [← hrL]; simp
        have hr3 := (hHr2.out.only ((Only.refl (fun _ => False) w2).drew) (fun _ _ h => h) (fun _ _ h => h)).turn_live hf3 ht3
        have hO3 : Only M w1.drew w3 := hO2.trans (T := fun i => i = bl) ((Only.refl (fun i => i = bl) w2).drew.trans (turned_only ht3) (fun _ _ h => h)) (fun i _ e => by subst e; exact hHr.out.ml)
        have hO : Only M w w3 := (Only.of_below (S := M) hbw).trans (T := M) ⟨hO3.os, hO3.tape, hO3.output, hO3.size, hO3.block⟩ (fun _ _ h => h)
        refine .inl ⟨hcode, rfl, M2, S2, ⟨v2, bl, bs, nl + 1, ns2, rs ++ [r], _, fs2, hr3, ?_, ?_, hHfs2.out, ?_, ?_⟩, hO, fun b hb h => hM2 b (Nat.lt_of_lt_of_le hb hbw.size) h, fun b hb h => hS2 b (Nat.lt_of_lt_of_le hb hbw.size) h⟩
        · rw [List.map_append, hrL]; simp [hrl]
        · intro z
          rw [live_snoc]
          by_cases hz : z = k
          · subst hz; simp [hlL]
          · have hz' : ¬ k = z := fun e => hz e.symm
            simp [hz, hz', hHfl.out]
        · simp; omega
        · simp; omega
      · have hcode : postCode k ls L = 12 := by simp [postCode, hrt, hlv, hok]
        go_wp2_with fail
        go_ret
        rw [hcode]
        exact .inr ⟨by decide, hbw.trans (undrew hbf |>.mono hbw.size), .inr ⟨gf, rfl, by have := hbw.size; simp at hgf; omega, hBf, hbw.trans (undrew hbf |>.mono hbw.size)⟩⟩
  · have hrt' : rightB k ls = false := by simpa using hrt
    rw [hrt']
    go_wp2_with fail
    go_ret
    exact .inr ⟨by simp [postCode, hrt'], hbw, .inl ⟨by simp [postCode, hrt'], .inl (by simp [postCode, hrt'])⟩⟩
end Go.Proofs.YthagpdhnblmokaaGreatDoor
