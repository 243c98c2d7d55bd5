/- The document's example of layer 14 holds. -/
import Derived.Test.YthagpdhnblmokaaGreatDoorNil
namespace Go.Proofs.YthagpdhnblmokaaGreatDoor
open Go.RowKit Go.Maps

def legs2 : List MLeg := [⟨1, -5⟩, ⟨2, 5⟩]
theorem legs2_at {w : World} {g : Nat} (h : Blk w g 63 #[.int .u8 1, .int .i64 (-5), .int .u8 2, .int .i64 5]) : LegsAt w (fun b => b = g) (some ⟨g, 0, none⟩) 2 legs2 := by
  refine ⟨rfl, fun _ => ⟨g, 0, rfl, rfl, h.lt, fun j l hj => ?_⟩⟩
  have hc := h.cell
  match j, hj with
  | 0, hj =>
    obtain rfl : (⟨1, -5⟩ : MLeg) = l := by simpa [legs2] using hj
    exact ⟨by rw [hc]; rfl, by rw [hc]; rfl⟩
  | 1, hj =>
    obtain rfl : (⟨2, 5⟩ : MLeg) = l := by simpa [legs2] using hj
    exact ⟨by rw [hc]; rfl, by rw [hc]; rfl⟩
  | j + 2, hj => simp [legs2] at hj
def keyOne (n : UInt32) : MKey := ⟨n, 0, 1, 0⟩
def lineOne (n : UInt32) : MLine := ⟨keyOne n, legs2, 0⟩
def lineTwo (n : UInt32) : MLine := ⟨keyOne n, negLegs legs2, 1⟩
theorem right_one (n : UInt32) : rightB (keyOne n) legs2 = true := by
  kernel_rfl
theorem code_first (n : UInt32) : postCode (keyOne n) legs2 [] = 0 := by
  unfold postCode
  rw [right_one, live_nil]
  have h : addOk (keyOne n).loan legs2 [] = true := by
    simp only [addOk, legs2, List.all_cons, List.all_nil, legOk, sumLoan, sumAll]
    decide +kernel
  rw [h]
  rfl
theorem live_one (n : UInt32) : Go.Proofs.YthagpdhnblmokaaGreatDoor.live [lineOne n] (keyOne n) = some 0 := by
  have := live_snoc [] (lineOne n) (keyOne n)
  rw [List.nil_append] at this
  rw [this, if_pos ⟨rfl, rfl⟩]
  rfl
theorem code_again (n : UInt32) : postCode (keyOne n) legs2 [lineOne n] = 10 := by
  unfold postCode
  rw [right_one, live_one]
  rfl

def legsA : List MLine := [lineOne 1]
def legsB : List MLine := [lineOne 1, lineTwo 1]
def legsC : List MLine := [lineOne 1, lineTwo 1, lineOne 1]
theorem awk_live1 : Go.Proofs.YthagpdhnblmokaaGreatDoor.live legsA (keyOne 1) = some 0 := by decide +kernel
theorem awk_live2 : Go.Proofs.YthagpdhnblmokaaGreatDoor.live legsC (keyOne 1) = some 2 := by decide +kernel
theorem awk_rev : revCode legsA (keyOne 1) legs2 = 0 := by decide +kernel
theorem awk_post : postCode (keyOne 1) legs2 legsB = 0 := by decide +kernel
theorem awk_wf : WfL legsA := by intro x hx; simp only [legsA, List.mem_singleton] at hx; subst hx; exact right_one 1
theorem awk_sum : sumLoan 1 2 legsC = 5 := by decide +kernel
theorem awk_ctl : sumAll 1 legsC = -5 := by decide +kernel

set_option maxRecDepth 100000 in
set_option maxHeartbeats 2000000 in
theorem awake14_any (w : World) : Calls Tryz.prog 15 #[] w fun e w' => e = .returned (.bool true) ∧ Below w.heap.size w w' := by
  have hLg0 : Blk ((w.alloc (.cells #[.int .u8 1, .int .i64 (-5), .int .u8 2, .int .i64 5] 63)).alloc (.cells #[.int .u32 1, .int .i32 0, .int .u8 1, .int .u32 0, .slice (some ⟨w.heap.size, 0, none⟩) 2 2] 55)) w.heap.size 63 #[.int .u8 1, .int .i64 (-5), .int .u8 2, .int .i64 5] := (Blk.new w _ _).alloc _
  have hBx0 : Blk ((w.alloc (.cells #[.int .u8 1, .int .i64 (-5), .int .u8 2, .int .i64 5] 63)).alloc (.cells #[.int .u32 1, .int .i32 0, .int .u8 1, .int .u32 0, .slice (some ⟨w.heap.size, 0, none⟩) 2 2] 55)) (w.heap.size + 1) 55 #[.int .u32 1, .int .i32 0, .int .u8 1, .int .u32 0, .slice (some ⟨w.heap.size, 0, none⟩) 2 2] := by
    simpa using Blk.new (w.alloc (.cells #[.int .u8 1, .int .i64 (-5), .int .u8 2, .int .i64 5] 63)) 55 #[.int .u32 1, .int .i32 0, .int .u8 1, .int .u32 0, .slice (some ⟨w.heap.size, 0, none⟩) 2 2]
  go_enter Tryz.func15, Tryz.ntmps15
  go_wp2_with fail
  refine (new_above _).mono ?_
  rintro e w1 ⟨g, rfl, hled, hb1⟩
  have hled1 : LedAbove w1 (w.heap.size + 2) g [] := by simpa using hled
  have hLg1 := hLg0.below hb1 (by simp; omega)
  have hBx1 := hBx0.below hb1 (by simp)
  have hbw1 : Below w.heap.size w w1 := below_then (((Below.refl _ _).alloc (Nat.le_refl _) _).alloc (by simp) _) hb1
  have hc1 := hBx1.cell
  clear hled hb1 hLg0 hBx0
  go_wp2_with fail
  refine (post_above (w.heap.size + 2) g _ [] (keyOne 1) (some ⟨w.heap.size, 0, none⟩) 2 2 legs2 _ hled1 (legs2_at hLg1) (fun e => by cases e) (by decide) (by simp) (code_first 1)).mono ?_
  rintro e w2 ⟨rfl, hled2, hb2⟩
  have hled2' : LedAbove w2 (w.heap.size + 2) g legsA := hled2
  have hLg2 := hLg1.below hb2 (by omega)
  have hBx2 := hBx1.below hb2 (by omega)
  have hbw2 : Below w.heap.size w w2 := hbw1.trans (hb2.mono (by omega))
  have hc2 := hBx2.cell
  clear hled1 hled2 hb2 hLg1 hBx1 hc1 hbw1
  go_wp2_with fail
  refine (reverse_above (w.heap.size + 2) g legsA (keyOne 1) 0 (lineOne 1) _ hled2' awk_wf awk_live1 rfl (by decide) awk_rev).mono ?_
  rintro e w3 ⟨rfl, hled3, hb3⟩
  have hled3' : LedAbove w3 (w.heap.size + 2) g legsB := hled3
  have hLg3 := hLg2.below hb3 (by omega)
  have hBx3 := hBx2.below hb3 (by omega)
  have hbw3 : Below w.heap.size w w3 := hbw2.trans (hb3.mono (by omega))
  have hc3 := hBx3.cell
  clear hled2' hled3 hb3 hLg2 hBx2 hc2 hbw2
  go_wp2_with fail
  refine (post_above (w.heap.size + 2) g _ legsB (keyOne 1) (some ⟨w.heap.size, 0, none⟩) 2 2 legs2 _ hled3' (legs2_at hLg3) (fun e => by cases e) (by decide) (by decide) awk_post).mono ?_
  rintro e w4 ⟨rfl, hled4, hb4⟩
  have hled4' : LedAbove w4 (w.heap.size + 2) g legsC := hled4
  have hLg4 := hLg3.below hb4 (by omega)
  have hBx4 := hBx3.below hb4 (by omega)
  have hbw4 : Below w.heap.size w w4 := hbw3.trans (hb4.mono (by omega))
  have hc4 := hBx4.cell
  clear hled3' hled4 hb4 hLg3 hBx3 hc3 hbw3
  go_wp2_with fail
  refine (len_above (w.heap.size + 2) g legsC _ hled4' (by decide)).mono ?_
  rintro e w' ⟨rfl, rfl⟩
  go_wp2_with fail
  refine (live_above (w.heap.size + 2) g legsC (keyOne 1) 2 (lineOne 1) _ hled4' (by decide) awk_live2 rfl).mono ?_
  rintro e w5 ⟨A, c, rfl, hl5, hA5, hb5, hs5⟩
  have hled5 := hled4'.below hb5
  have hLg5 := hLg4.below hb5 hLg4.lt
  have hBx5 := hBx4.below hb5 hBx4.lt
  have hbw5 : Below w.heap.size w w5 := below_then hbw4 hb5
  have hc5 := hBx5.cell
  have hlt5 := hBx5.lt
  clear hled4' hLg4 hBx4 hbw4 hc4 hb5
  go_wp2_with fail
  have hlS := hl5.only ((Only.refl (fun _ => False) w5).alloc (.cells #[.int .u32 (lineOne 1).key.loan.toNat, .int .i32 (lineOne 1).key.day.toInt, .int .u8 (lineOne 1).key.kind.toNat, .int .u32 (lineOne 1).key.seq.toNat, .slice A (lineOne 1).legs.length c] 55)) (fun _ _ h => h)
  have hlT := (legs2_at hLg5).only ((Only.refl (fun _ => False) w5).alloc (.cells #[.int .u32 (lineOne 1).key.loan.toNat, .int .i32 (lineOne 1).key.day.toInt, .int .u8 (lineOne 1).key.kind.toNat, .int .u32 (lineOne 1).key.seq.toNat, .slice A (lineOne 1).legs.length c] 55)) (fun _ _ h => h)
  refine (same_any (lineOne 1).key (keyOne 1) A (some ⟨w.heap.size, 0, none⟩) 2 2 c 2 legs2 legs2 _ _ _ hlS hlT (by decide) (by decide)).mono ?_
  rintro e w6 ⟨rfl, hb6⟩
  rw [show (decide ((lineOne 1).key = keyOne 1) && decide (legs2 = legs2)) = true from by decide +kernel]
  have hled6 := (hled5.below (below_alloc (Below.refl _ w5) _)).below hb6
  have hbw6 : Below w.heap.size w w6 := below_then (below_alloc hbw5 _) hb6
  clear hled5 hb6 hlS hlT hc5
  go_wp2_with fail
  refine (balance_above (w.heap.size + 2) g legsC 1 2 _ hled6).mono ?_
  rintro e w' ⟨rfl, rfl⟩
  rw [awk_sum]
  go_wp2_with fail
  refine (control_above (w.heap.size + 2) g legsC 1 _ hled6).mono ?_
  rintro e w' ⟨rfl, rfl⟩
  rw [awk_ctl]
  go_wp2_with fail
  go_ret
  exact ⟨rfl, hbw6⟩
end Go.Proofs.YthagpdhnblmokaaGreatDoor
