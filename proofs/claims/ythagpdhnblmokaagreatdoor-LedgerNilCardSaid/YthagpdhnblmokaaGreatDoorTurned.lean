/- The contract of an entry the other way. -/
import Derived.Test.YthagpdhnblmokaaGreatDoorLegs
namespace Go.Proofs.YthagpdhnblmokaaGreatDoor
open Go.RowKit

def isLow (l : MLeg) : Bool := l.amount.toInt == -9223372036854775808
def negLeg (l : MLeg) : MLeg := ⟨l.account, -l.amount⟩
def negLegs (ls : List MLeg) : List MLeg := ls.map negLeg
abbrev zeroEnt : Value := .agg #[.int .u32 0, .int .i32 0, .int .u8 0, .int .u32 0, .slice none 0 0]
theorem neg_low' (a : Int) (w : World) (h : a = -9223372036854775808) : Calls Tryz.prog 157 #[.int .i64 a] w fun e w' => e = .returned (.tuple #[.int .i64 0, errV 12]) ∧ w = w' := by
  subst h; exact neg_low w
theorem negLeg_amount {l : MLeg} (h : isLow l = false) : (negLeg l).amount.toInt = -l.amount.toInt := by
  have h1 := i64b l.amount
  have h2 : l.amount.toInt ≠ -9223372036854775808 := by simpa [isLow] using h
  simp only [negLeg, Int64.toInt_neg]
  rw [Int.bmod_def]
  omega

set_option maxRecDepth 100000 in
set_option maxHeartbeats 2000000 in
theorem turned_any (k : MKey) (A : Option Addr) (n c : Nat) (ls : List MLeg) (S : Nat → Prop) (w : World) (hl : LegsAt w S A n ls) (hn : n ≤ 1000000) (hr : rightB k ls = true) :
    Calls Tryz.prog 79 #[entVal k (.slice A n c)] w fun e w' => Below w.heap.size w w' ∧ ((ls.any isLow || !rightB k (negLegs ls)) = true → e = .returned (.tuple #[zeroEnt, errV 12])) ∧
      ((ls.any isLow || !rightB k (negLegs ls)) = false → ∃ A' c', e = .returned (.tuple #[entVal k (.slice A' n c'), .nilIface]) ∧ LegsAt w' (fun g => w.heap.size ≤ g) A' n (negLegs ls) ∧ (A' = none → n = 0)) := by
  obtain ⟨i0, hi, hz0, hz1, hz2⟩ := info_parts Tryz.infoLeg
  have hl1 : LegsAt ((w.alloc (.cells #[.int .u32 k.loan.toNat, .int .i32 k.day.toInt, .int .u8 k.kind.toNat, .int .u32 k.seq.toNat, .slice A n c] 55)).alloc (.cells #[.int .u32 0, .int .i32 0, .int .u8 0, .int .u32 0, .slice none 0 0] 55)) S A n ls :=
    hl.only (T := fun _ => False) (((Only.refl _ _).alloc _).alloc _) (fun _ _ h => h)
  go_enter Tryz.func79, Tryz.ntmps79
  go_wp2_with fail
  refine (eRight_any k A n c ls S _ hl1 hn).mono ?_
  rintro e w1 ⟨rfl, hb⟩
  rw [hr]
  have hbw : Below w.heap.size w w1 := below_then (((Below.refl _ _).alloc (Nat.le_refl _) _).alloc (by simp) _) hb
  have hsz : w.heap.size + 1 < w1.heap.size := by have := hb.size; simp at this; omega
  have hsz0 : w.heap.size < w1.heap.size := by omega
  have hB1 : Blk w1 (w.heap.size + 1) 55 #[.int .u32 0, .int .i32 0, .int .u8 0, .int .u32 0, .slice none 0 0] := Blk.below (by simpa using Blk.new (w.alloc _) 55 _) hb (by simp)
  have hB0 : Blk w1 w.heap.size 55 #[.int .u32 k.loan.toNat, .int .i32 k.day.toInt, .int .u8 k.kind.toNat, .int .u32 k.seq.toNat, .slice A n c] := ((Blk.new w 55 _).alloc _).below hb (by simp; omega)
  have hc0 := hB0.cell
  clear hb hl1
  go_wp2_with fail
  clear hc0 hB0
  go_loopw [20] (fun i wr => ∃ (j : Nat) (v : Value), j ≤ n ∧ i = .int .i64 j ∧ Blk wr w1.heap.size 55 #[.int .u32 k.loan.toNat, .int .i32 k.day.toInt, .int .u8 k.kind.toNat, .int .u32 k.seq.toNat, v] ∧ wr.ownsRow (w1.heap.size + 1) 63 2 v j (legCells (negLegs (ls.take j))) ∧ Below w1.heap.size w1 wr ∧ (ls.take j).any isLow = false) (fun i _ => n - (intOf i).toNat)
  case atStart => exact ⟨0, .slice none 0 0, by omega, rfl, Blk.new _ _ _, ⟨by simp [legCells, negLegs], .inl ⟨rfl, rfl⟩⟩, (Below.refl _ _).alloc (Nat.le_refl _) _, by simp⟩
  case round =>
    obtain ⟨j, v, hj, rfl, hB, hown, hbr, hlow⟩ := hrel
    have hcB := hB.cell
    have hfB := hB.frozen
    have hbrw := below_then hbw hbr
    have hR := hB1.below hbr hsz
    have hcR := hR.cell
    have hfR := hR.frozen
    have hgl := hB.lt
    have hRl : w.heap.size + 1 < wr.heap.size := hR.lt
    by_cases hlt : j < n
    · obtain ⟨b, o, rfl, hS, hbl, hcl⟩ := hl.2 (by omega)
      have hjl : j < ls.length := by rw [hl.1]; exact hlt
      obtain ⟨l, hlj⟩ : ∃ l, l = ls[j] := ⟨_, rfl⟩
      obtain ⟨c1, c2⟩ := hcl j l (by rw [hlj]; exact List.getElem?_eq_getElem hjl)
      have c1' := (hbrw.cell (p := ⟨b, o + j * 2, none⟩) hbl).trans c1
      have c2' := (hbrw.cell (p := ⟨b, o + j * 2 + 1, none⟩) hbl).trans c2
      have htk0 : ls.take (j + 1) = ls.take j ++ [l] := by rw [hlj, List.take_succ_eq_append_getElem hjl]
      have ha := i64b l.amount
      have hmem : l ∈ ls := by rw [hlj]; exact List.getElem_mem hjl
      by_cases hL : isLow l = true
      · have hany : Hid ((ls.any isLow || !rightB k (negLegs ls)) = true) := by
          have : ls.any isLow = true := List.any_eq_true.2 ⟨l, hmem, hL⟩
          unfold Hid; rw [this]; rfl
        have hlow' : l.amount.toInt = -9223372036854775808 := by simpa [isLow] using hL
        have hlowH := Lib.hid hlow'
        clear htk0 hlow hL c1 c2 hcl hlj hlow' ha hcB hfB hB hown hgl
        go_wp2_with (go_at_call 157; refine (neg_low' _ _ hlowH.out).mono ?_; rintro e w2 ⟨rfl, rfl⟩)
        have hF := (blk_set5 hR (.int .u32 0) (.int .i32 0) (.int .u8 0) (.int .u32 0) (.slice none 0 0)).alloc (.cells #[.int .u8 l.account.toNat, .int .i64 l.amount.toInt] 63)
        have hO := only_set5 wr (w.heap.size + 1) (.int .u32 0) (.int .i32 0) (.int .u8 0) (.int .u32 0) (.slice none 0 0)
        have hbF := below_alloc (below_only hbrw hO hbrw.size (fun i e => by omega)) (.cells #[.int .u8 l.account.toNat, .int .i64 l.amount.toInt] 63)
        exact bodyPost_ret (results_blk2 (l := [.int .u32 0, .int .i32 0, .int .u8 0, .int .u32 0, .slice none 0 0]) Tryz.results79 rfl Tryz.isAgg55 Tryz.sizeOf55 hF) rfl ⟨hbF, fun _ => rfl, fun h => by rw [hany.out] at h; cases h⟩
      · have hL' : isLow l = false := by simpa using hL
        have hna := negLeg_amount hL'
        have hlo : -9223372036854775808 < l.amount.toInt := by
          have : l.amount.toInt ≠ -9223372036854775808 := by simpa [isLow] using hL
          omega
        have hlow2 : Hid ((ls.take (j + 1)).any isLow = false) := by unfold Hid; rw [htk0, List.any_append, hlow]; simp [hL']
        have htk : Hid (legCells (negLegs (ls.take (j + 1))) = legCells (negLegs (ls.take j)) ++ legCells [negLeg l]) := by
          unfold Hid; rw [htk0, ← legCells_append]; simp [negLegs]
        have hcn : Hid (legCells [negLeg l] = [.int .u8 l.account.toNat, .int .i64 (-l.amount.toInt)]) := by unfold Hid; simp [legCells, negLeg] at hna ⊢; exact hna
        clear htk0 hlow hL hL' c1 c2 hcl hlj hna hmem
        have hne := hB.own_ne hown (by decide)
        have hsz2 : w1.heap.size + 1 ≤ ((wr.alloc (.cells #[.int .u8 l.account.toNat, .int .i64 l.amount.toInt] 63)).alloc (.cells #[.int .u8 l.account.toNat, .int .i64 (-l.amount.toInt)] 63)).heap.size := by simp; omega
        go_wp2_with (first
                   | (go_at_call 157; refine (neg_ok _ _ hlo ha.2).mono ?_; rintro e w2 ⟨rfl, rfl⟩)
                   | (at_builtin
                      refine wpList_append_own_at _ rfl (.tmp 35) (.tmp 40) 34 rfl (w1.heap.size + 1) 63 i0 _ 2 16 Tryz.underlying34 hi hz0 hz1 hz2 rfl (by decide) v j (legCells (negLegs (ls.take j))) rfl ((hown.alloc _).alloc _) ⟨wr.heap.size + 1, 0, none⟩ 1 1 [.int .u8 l.account.toNat, .int .i64 (-l.amount.toInt)] rfl rfl (new_cells (wr.alloc _) [.int .u8 l.account.toNat, .int .i64 (-l.amount.toInt)] 63 _ (by simp)) (by intro u hu; simp at hu; rcases hu with rfl | rfl <;> rfl) (by unfold maxLen; omega) (by omega) hsz2 ?_
                      intro v' w2 hown2 hg2 hz hat
                      have hB2 := ((hB.alloc (.cells #[.int .u8 l.account.toNat, .int .i64 l.amount.toInt] 63)).alloc (.cells #[.int .u8 l.account.toNat, .int .i64 (-l.amount.toInt)] 63)).grown hg2 (fun e => hne e.symm)
                      obtain ⟨A2, c2, hv2⟩ := own_slice hown2
                      rw [hv2] at hown2 hat ⊢
                      clear hv2 hz
                      have hcB2 := hB2.cell
                      have hfB2 := hB2.frozen))
        rw [← hcn.out, ← htk.out] at hown2
        go_roundw
        case rel =>
          have hb2 : Below w1.heap.size w1 w2 := ((hbr.alloc hbr.size _).alloc (Nat.le_trans hbr.size (by simp)) _).grown hg2 (by simp; omega) (fun g hg => by have := own_base hown g hg; omega)
          refine ⟨j + 1, .slice A2 (j + 1) c2, by omega, by go_num, ?_, ?_, hb2.setCell (Nat.le_refl _) _, hlow2.out⟩
          · simpa using hB2.set 4 (.slice A2 (j + 1) c2)
          · exact ownsRow_setCell_below hown2 (by simp) _
        case measure => simp [intOf]; omega
    · obtain rfl : n = j := by omega
      rw [List.take_of_length_le (by rw [hl.1]; exact Nat.le_refl _)] at hown hlow
      obtain ⟨A2, c2, rfl, hL2, hA2⟩ := LegsAt.of_own hown
      have hlen2 : (negLegs ls).length = n := by simp [negLegs, hl.1]
      go_wp2_with fail
      refine (eRight_any k A2 n c2 (negLegs ls) _ _ hL2 hn).mono ?_
      rintro e w2 ⟨rfl, hb2⟩
      have hR2 := hR.below hb2 hRl
      have hB2 := hB.below hb2 hgl
      have hL3 := hL2.only (Only.of_below (S := fun _ => False) hb2) (fun _ _ h => h)
      have hcR2 := hR2.cell
      have hfR2 := hR2.frozen
      have hcB2 := hB2.cell
      have hb3 := below_then hbrw hb2
      clear hcR hfR hcB hfB hB hown hR hb2 hL2
      by_cases hrr : rightB k (negLegs ls) = true
      · rw [hrr]
        go_wp2_with fail
        have hF := blk_set5 hR2 (.int .u32 k.loan.toNat) (.int .i32 k.day.toInt) (.int .u8 k.kind.toNat) (.int .u32 k.seq.toNat) (.slice A2 n c2)
        have hO := only_set5 w2 (w.heap.size + 1) (.int .u32 k.loan.toNat) (.int .i32 k.day.toInt) (.int .u8 k.kind.toNat) (.int .u32 k.seq.toNat) (.slice A2 n c2)
        have hbF := below_only hb3 hO hb3.size (fun i e => by omega)
        have hLF := (hL3.only hO (fun b hb e => by omega)).mono (T := fun g => w.heap.size ≤ g) (fun b _ hb => by omega)
        exact bodyPost_ret (results_blk2 (l := [.int .u32 k.loan.toNat, .int .i32 k.day.toInt, .int .u8 k.kind.toNat, .int .u32 k.seq.toNat, .slice A2 n c2]) Tryz.results79 rfl Tryz.isAgg55 Tryz.sizeOf55 hF) rfl ⟨hbF, fun h => (by rw [hlow, hrr] at h; cases h), fun _ => ⟨A2, c2, rfl, hLF, hA2⟩⟩
      · have hrr' : rightB k (negLegs ls) = false := by simpa using hrr
        rw [hrr']
        go_wp2_with fail
        have hF := blk_set5 hR2 (.int .u32 0) (.int .i32 0) (.int .u8 0) (.int .u32 0) (.slice none 0 0)
        have hO := only_set5 w2 (w.heap.size + 1) (.int .u32 0) (.int .i32 0) (.int .u8 0) (.int .u32 0) (.slice none 0 0)
        have hbF := below_only hb3 hO hb3.size (fun i e => by omega)
        exact bodyPost_ret (results_blk2 (l := [.int .u32 0, .int .i32 0, .int .u8 0, .int .u32 0, .slice none 0 0]) Tryz.results79 rfl Tryz.isAgg55 Tryz.sizeOf55 hF) rfl ⟨hbF, fun _ => rfl, fun h => by rw [hlow, hrr'] at h; cases h⟩
end Go.Proofs.YthagpdhnblmokaaGreatDoor
