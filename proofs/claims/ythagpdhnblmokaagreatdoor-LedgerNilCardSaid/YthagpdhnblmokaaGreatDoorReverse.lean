/- The ledger's Reverse. -/
import Derived.Test.YthagpdhnblmokaaGreatDoorPost
namespace Go.Proofs.YthagpdhnblmokaaGreatDoor
open Go.RowKit Go.Maps

def WfL (L : List MLine) : Prop := ∀ x ∈ L, rightB x.key x.legs = true
def revCode (L : List MLine) (k : MKey) (ls : List MLeg) : Nat := if (ls.any isLow || !rightB k (negLegs ls)) then 12 else if addOk k.loan (negLegs ls) L = false then 12 else 0

theorem live_at {L : List MLine} {k : MKey} {i : Nat} (h : Go.Proofs.YthagpdhnblmokaaGreatDoor.live L k = some i) : ∃ x, L[i]? = some x ∧ x.key = k ∧ x.of = 0 := by
  revert h
  refine snoc_ind (P := fun L => Go.Proofs.YthagpdhnblmokaaGreatDoor.live L k = some i → ∃ x, L[i]? = some x ∧ x.key = k ∧ x.of = 0) (fun h => by cases h) (fun L x ih h => ?_) L
  rw [live_snoc] at h
  split at h
  · next hc =>
    injection h with h
    subst h
    exact ⟨x, by simp, hc.2, hc.1⟩
  · split at h
    · cases h
    · obtain ⟨y, hy, h1, h2⟩ := ih h
      exact ⟨y, by rw [List.getElem?_append_left (List.getElem?_eq_some_iff.1 hy).1]; exact hy, h1, h2⟩

set_option maxRecDepth 100000 in
set_option maxHeartbeats 2000000 in
theorem reverse_none (g : Nat) (M S : Nat → Prop) (L L' : List MLine) (k : MKey) (w : World) (h : IsLed w g M S L) (hlv : Go.Proofs.YthagpdhnblmokaaGreatDoor.live L k = none) :
    Calls Tryz.prog 28 #[.pointer (some ⟨g, 0, none⟩), keyVal k] w (StepOut g M S L' 3 k.loan w) := by
  obtain ⟨v, bl, bs, nl, ns, rs, fl, fs, hr, hrL, hfl, hfs, hnl, hns⟩ := h
  have hw64 : IntKind.u64.wrap (k.loan.toNat : Int) = k.loan.toNat := by
    have := u32b k.loan
    simp [IntKind.wrap, IntKind.bits, IntKind.signed]; omega
  have hfk : fl k = none := by rw [hfl, hlv]; rfl
  have hHr := Lib.hid hr
  have hc1 : w.cell? ⟨g, 1, none⟩ = some (.map (some bl)) := hr.blk.cell 1
  have hgl1 := hr.blk.lt
  clear hfl hfs hr
  go_enter Tryz.func28, Tryz.ntmps28
  go_wp2_with fail
  refine wp_region_all (by kernel_rfl) (by kernel_rfl) ?_
  iterate 5 still_step
  refine wpStill_fm_look_ok rfl _ _ rfl keKey Tryz.underlying138 uTint (zTint _) (hHr.out.live.only (((Only.refl (fun _ => False) w).alloc _).drew) (fun h => h)) k 0 false (by rw [hfk]; rfl) (by rw [hfk]; rfl) rfl rfl ?_
  iterate 5 still_step
  refine wpStill_nil ?_
  go_wp2_with fail
  go_ret
  have hb : Below w.heap.size w (((w.alloc (.cells #[.int .u32 k.loan.toNat, .int .i32 k.day.toInt, .int .u8 k.kind.toNat, .int .u32 k.seq.toNat] 33)).alloc (.cells #[.int .u64 k.loan.toNat, errV 3] 165)).drew) := below_drewN (((Below.refl _ _).alloc (Nat.le_refl _) _).alloc (by simp) _) 1
  refine .inr ⟨by decide, hb, .inr ⟨w.heap.size + 1, rfl, by omega, ?_, hb⟩⟩
  have := (Blk.new (w.alloc (.cells #[.int .u32 k.loan.toNat, .int .i32 k.day.toInt, .int .u8 k.kind.toNat, .int .u32 k.seq.toNat] 33)) 165 #[.int .u64 k.loan.toNat, errV 3]).drew
  simpa using this

set_option maxRecDepth 100000 in
set_option maxHeartbeats 2000000 in
theorem reverse_some (g : Nat) (M S : Nat → Prop) (L : List MLine) (k : MKey) (i : Nat) (x : MLine) (w : World) (h : IsLed w g M S L) (hwf : WfL L) (hlv : Go.Proofs.YthagpdhnblmokaaGreatDoor.live L k = some i) (hx : L[i]? = some x) (hL : L.length ≤ 1000000) :
    Calls Tryz.prog 28 #[.pointer (some ⟨g, 0, none⟩), keyVal k] w (StepOut g M S (L ++ [⟨k, negLegs x.legs, i + 1⟩]) (revCode L k x.legs) k.loan w) := by
  obtain ⟨v, bl, bs, nl, ns, rs, fl, fs, hr, hrL, hfl, hfs, hnl, hns⟩ := h
  have hfk : fl k = some (i : Int) := by rw [hfl, hlv]; rfl
  have hxk : x.key = k := by
    obtain ⟨y, hy, h1, _⟩ := live_at hlv
    rw [hx] at hy; injection hy with hy; subst hy; exact h1
  have hrx : rightB k x.legs = true := by rw [← hxk]; exact hwf x (List.mem_of_getElem? hx)
  have hi : i < rs.length := by have := (List.getElem?_eq_some_iff.1 hx).1; rw [← hrL] at this; simpa using this
  obtain ⟨r, hjr, rfl⟩ : ∃ r, rs[i]? = some r ∧ r.line = x := by
    rw [← hrL, List.getElem?_map] at hx
    obtain ⟨r, h1, h2⟩ := Option.map_eq_some_iff.1 hx
    exact ⟨r, h1, h2⟩
  have hHrx := Lib.hid hrx
  obtain ⟨gr, c, hv, _, hgr, hn, c0, c1, c2, c3, c4, c5⟩ := own_row_cells hr.row hjr
  simp only [Nat.zero_add] at c0 c1 c2 c3 c4
  rw [hxk] at c0 c1 c2 c3
  obtain ⟨q1, q2, q3⟩ := hr.legs r (List.mem_of_getElem? hjr)
  have hi0 : (0 : Int) ≤ (i : Int) := Int.natCast_nonneg _
  have hi1 : (i : Int) < (rs.length : Int) := by omega
  have hHr := Lib.hid hr
  have hcg1 : w.cell? ⟨g, 1, none⟩ = some (.map (some bl)) := hr.blk.cell 1
  have hcg0 : w.cell? ⟨g, 0, none⟩ = some (.slice (some ⟨gr, 0, none⟩) rs.length c) := (hr.blk.cell 0).trans (by rw [hv]; rfl)
  have hgl1 := hr.blk.lt
  have hHfl := Lib.hid hfl
  have hHfs := Lib.hid hfs
  have hHv := Lib.hid hv
  have hHxk := Lib.hid hxk
  have q1' : LegsAt (w.alloc (.cells #[.int .u32 k.loan.toNat, .int .i32 k.day.toInt, .int .u8 k.kind.toNat, .int .u32 k.seq.toNat] 33)).drew (fun b => S b ∧ b < w.heap.size) r.addr r.line.legs.length r.line.legs := (q1.mono (fun b hb h => ⟨h, hb⟩)).only (((Only.refl (fun _ => False) w).alloc _).drew) (fun _ _ h => h)
  clear hfl hfs hr hv hrx hxk hn c5
  go_enter Tryz.func28, Tryz.ntmps28
  go_wp2_with fail
  refine wp_region_all (by kernel_rfl) (by kernel_rfl) ?_
  iterate 5 still_step
  refine wpStill_fm_look_ok rfl _ _ rfl keKey Tryz.underlying138 uTint (zTint _) (hHr.out.live.only (((Only.refl (fun _ => False) w).alloc _).drew) (fun h => h)) k i true (by rw [hfk]; rfl) (by rw [hfk]; rfl) rfl rfl ?_
  iterate 5 still_step
  refine wpStill_nil ?_
  go_wp2_with fail
  refine (turned_any k r.addr r.line.legs.length r.cap r.line.legs _ _ q1' q3 hHrx.out).mono ?_
  rintro e w1 ⟨hb, hbad, hgood⟩
  have hb' : Below w.heap.size (w.alloc (.cells #[.int .u32 k.loan.toNat, .int .i32 k.day.toInt, .int .u8 k.kind.toNat, .int .u32 k.seq.toNat] 33)) w1 := (undrew hb).mono (by simp)
  have hbw : Below w.heap.size w w1 := ((Below.refl _ _).alloc (Nat.le_refl _) _).trans hb'
  have hsz : w.heap.size < w1.heap.size := by have := hb.size; simp at this; omega
  have hB1 : Blk w1 w.heap.size 33 #[.int .u32 k.loan.toNat, .int .i32 k.day.toInt, .int .u8 k.kind.toNat, .int .u32 k.seq.toNat] := Blk.below (Blk.drew (Blk.new w 33 _)) hb (by simp)
  by_cases ht : (r.line.legs.any isLow || !rightB k (negLegs r.line.legs)) = true
  · rw [hbad ht]
    have hcode : revCode L k r.line.legs = 12 := by unfold revCode; rw [if_pos ht]
    have hHc := Lib.hid hcode
    clear hbad hgood hb ht hcode
    go_wp2_with fail
    go_ret
    rw [hHc.out]
    exact .inr ⟨by decide, below_alloc hbw _, .inl ⟨rfl, .inr rfl⟩⟩
  · have ht' : (r.line.legs.any isLow || !rightB k (negLegs r.line.legs)) = false := by simpa using ht
    obtain ⟨A1, c1', rfl, hl1, hA1⟩ := hgood ht'
    have hrn : rightB k (negLegs r.line.legs) = true := by
      simp only [Bool.or_eq_false_iff] at ht'
      simpa using ht'.2
    have hHrn := Lib.hid hrn
    have hcode : revCode L k r.line.legs = if addOk k.loan (negLegs r.line.legs) L = false then 12 else 0 := by unfold revCode; rw [if_neg ht]
    have hHc := Lib.hid hcode
    have hr1 := hHr.out.only (Only.of_below (S := fun _ => False) hbw) (fun _ _ h => h) (fun _ _ h => h)
    have hl1' := (hl1.mono (T := fun b => b < w1.heap.size) (fun b hb _ => hb))
    have hHr1 := Lib.hid hr1
    clear hbad hgood hb ht ht' hrn hcode hr1 hl1
    have hwr : wrap64 ((i : Int) + 1) = (i : Int) + 1 := by
      have : rs.length ≤ 1000000 := by rw [← hrL] at hL; simpa using hL
      unfold wrap64; omega
    go_wp2_with fail
    refine (lAdd_any g M S (fun b => b < w1.heap.size) v bl bs nl ns rs fl fs L k A1 r.line.legs.length c1' (i + 1) (negLegs r.line.legs) _ (hHr1.out.only ((Only.refl (fun _ => False) w1).alloc _) (fun _ _ h => h) (fun _ _ h => h)) hrL hHfs.out (hl1'.only ((Only.refl (fun _ => False) w1).alloc _) (fun _ _ h => h)) hA1 hHrn.out (by omega) (by rw [← hrL] at hL; simpa using hL)).mono ?_
    rintro e w2 h2
    rcases h2 with ⟨hok, rfl, M2, S2, v2, ns2, r2, fs2, hr2, hrl, hfs2, hns2, hO2, hM2, hS2⟩ | ⟨hok, gf, rfl, hgf, hBf, hbf⟩
    · have hnM : ¬ M w.heap.size := fun h => by have := hHr.out.mlt _ h; omega
      have hB2 : Blk w2 w.heap.size 33 #[.int .u32 k.loan.toNat, .int .i32 k.day.toInt, .int .u8 k.kind.toNat, .int .u32 k.seq.toNat] := (hB1.alloc _).only hO2 hnM
      have hb0 : w2.cell? ⟨w.heap.size, 0, none⟩ = some (.int .u32 k.loan.toNat) := hB2.cell 0
      have hb1 : w2.cell? ⟨w.heap.size, 1, none⟩ = some (.int .i32 k.day.toInt) := hB2.cell 1
      have hb2 : w2.cell? ⟨w.heap.size, 2, none⟩ = some (.int .u8 k.kind.toNat) := hB2.cell 2
      have hb3 : w2.cell? ⟨w.heap.size, 3, none⟩ = some (.int .u32 k.seq.toNat) := hB2.cell 3
      have hgl2 : w2.cell? ⟨g, 1, none⟩ = some (.map (some bl)) := hr2.blk.cell 1
      have hHr2 := Lib.hid hr2
      have hHfs2 := Lib.hid hfs2
      have hHO2 := Lib.hid hO2
      clear hr2 hfs2 hO2 c0 c1 c2 c3 c4 hcg0 hcg1
      go_wp2_with fail
      refine wp_region_tail 5 (by kernel_rfl) (by kernel_rfl) ?_
      simp only [List.take_succ_cons, List.take_zero, List.drop_succ_cons, List.drop_zero]
      iterate 5 still_step
      refine wpStill_nil ?_
      go_wp2_with (first
        | (at_delete; refine wpList_fm_delete rfl _ _ rfl keKey Tryz.underlying138 hHr2.out.live.drew k rfl rfl ?_
           intro w3 hf3 ht3)
        | go_in)
      go_ret
      have hcode : revCode L k r.line.legs = 0 := by rw [hHc.out]; simp [hok]
      have hr3 := (hHr2.out.only ((Only.refl (fun _ => False) w2).drew) (fun _ _ h => h) (fun _ _ h => h)).turn_live hf3 ht3
      have hO3 : Only M w1 w3 := (((Only.refl M w1).alloc _).trans hHO2.out (fun _ _ h => h)).trans (T := fun i => i = bl) ((Only.refl (fun i => i = bl) w2).drew.trans (turned_only ht3) (fun _ _ h => h)) (fun i _ e => by subst e; exact hHr.out.ml)
      have hO : Only M w w3 := (Only.of_below (S := M) hbw).trans hO3 (fun _ _ h => h)
      have hszw : w.heap.size ≤ (w1.alloc (.cells #[.int .u32 k.loan.toNat, .int .i32 k.day.toInt, .int .u8 k.kind.toNat, .int .u32 k.seq.toNat, .slice A1 r.line.legs.length c1'] 55)).heap.size := by simp; omega
      refine .inl ⟨hcode, rfl, M2, S2, ⟨v2, bl, bs, nl, ns2, rs ++ [r2], _, fs2, hr3, ?_, ?_, hHfs2.out, ?_, ?_⟩, hO, fun b hb h => hM2 b (Nat.lt_of_lt_of_le hb hszw) h, fun b hb h => hS2 b (Nat.lt_of_lt_of_le hb hszw) h⟩
      · rw [List.map_append, hrL]; simp [hrl]
      · intro z
        rw [live_snoc]
        by_cases hz : z = k
        · subst hz; simp [hlv]
        · have hz' : ¬ Go.Proofs.YthagpdhnblmokaaGreatDoor.live L z = some i := fun e => by
            obtain ⟨y, hy, h1, _⟩ := live_at e
            obtain ⟨y', hy', h1', _⟩ := live_at hlv
            rw [hy] at hy'; injection hy' with hy'; subst hy'
            exact hz (h1.symm.trans h1')
          simp [hz, hz', hHfl.out]
      · simp; omega
      · simp; omega
    · have hcode : revCode L k r.line.legs = 12 := by rw [hHc.out]; simp [hok]
      have hHco := Lib.hid hcode
      have hb2 : Below w.heap.size w w2 := (below_alloc hbw _).trans (hbf.mono (by simp; omega))
      have hHb := Lib.hid hBf
      clear hcode hbf hBf
      go_wp2_with fail
      go_ret
      rw [hHco.out]
      exact .inr ⟨by decide, hb2, .inr ⟨gf, rfl, by simp at hgf; omega, hHb.out, hb2⟩⟩
end Go.Proofs.YthagpdhnblmokaaGreatDoor
