/- Contracts of the comparisons of keys. -/
import Derived.Test.YthagpdhnblmokaaGreatDoorLeaf
namespace Go.Proofs.YthagpdhnblmokaaGreatDoor
open Go.RowKit

/-- Go's cmp.Compare on whole numbers. -/
def cmp3 (x y : Int) : Int := if x < y then -1 else if y < x then 1 else 0

theorem cmp3_lt {x y : Int} (h : x < y) : cmp3 x y = -1 := by rw [cmp3, if_pos h]
theorem cmp3_gt {x y : Int} (h : y < x) : cmp3 x y = 1 := by rw [cmp3, if_neg (by omega), if_pos h]
theorem cmp3_eq {x y : Int} (h : ¬ x < y) (h' : ¬ y < x) : cmp3 x y = 0 := by rw [cmp3, if_neg h, if_neg h']

set_option maxHeartbeats 400000 in
theorem cmpByte_any (x y : Int) (w : World) :
    Calls Tryz.prog 139 #[.int .u8 x, .int .u8 y] w fun e w' => e = .returned (.int .i64 (cmp3 x y)) ∧ w = w' := by
  by_cases h1 : x < y
  · go_enter Tryz.func139, Tryz.ntmps139
    go_wp2
    all_goals (go_ret; exact ⟨by rw [cmp3_lt (by omega)]; rfl, rfl⟩)
  · by_cases h2 : y < x
    · go_enter Tryz.func139, Tryz.ntmps139
      go_wp2
      all_goals (go_ret; exact ⟨by rw [cmp3_gt (by omega)]; rfl, rfl⟩)
    · go_enter Tryz.func139, Tryz.ntmps139
      go_wp2
      all_goals (go_ret; exact ⟨by rw [cmp3_eq (by omega) (by omega)]; rfl, rfl⟩)
set_option maxHeartbeats 400000 in
theorem cmpU32_any (x y : Int) (w : World) :
    Calls Tryz.prog 148 #[.int .u32 x, .int .u32 y] w fun e w' => e = .returned (.int .i64 (cmp3 x y)) ∧ w = w' := by
  by_cases h1 : x < y
  · go_enter Tryz.func148, Tryz.ntmps148
    go_wp2
    all_goals (go_ret; exact ⟨by rw [cmp3_lt (by omega)]; rfl, rfl⟩)
  · by_cases h2 : y < x
    · go_enter Tryz.func148, Tryz.ntmps148
      go_wp2
      all_goals (go_ret; exact ⟨by rw [cmp3_gt (by omega)]; rfl, rfl⟩)
    · go_enter Tryz.func148, Tryz.ntmps148
      go_wp2
      all_goals (go_ret; exact ⟨by rw [cmp3_eq (by omega) (by omega)]; rfl, rfl⟩)
set_option maxHeartbeats 400000 in
theorem cmpDay_any (x y : Int) (w : World) :
    Calls Tryz.prog 149 #[.int .i32 x, .int .i32 y] w fun e w' => e = .returned (.int .i64 (cmp3 x y)) ∧ w = w' := by
  by_cases h1 : x < y
  · go_enter Tryz.func149, Tryz.ntmps149
    go_wp2
    all_goals (go_ret; exact ⟨by rw [cmp3_lt (by omega)]; rfl, rfl⟩)
  · by_cases h2 : y < x
    · go_enter Tryz.func149, Tryz.ntmps149
      go_wp2
      all_goals (go_ret; exact ⟨by rw [cmp3_gt (by omega)]; rfl, rfl⟩)
    · go_enter Tryz.func149, Tryz.ntmps149
      go_wp2
      all_goals (go_ret; exact ⟨by rw [cmp3_eq (by omega) (by omega)]; rfl, rfl⟩)

/-- The first that isn't 0. -/
def or4 (a b c d : Int) : Int := if a ≠ 0 then a else if b ≠ 0 then b else if c ≠ 0 then c else d

set_option maxHeartbeats 1000000 in
theorem cmpOr_any (a b c d : Int) (g : Nat) (w : World) (h0 : w.cell? ⟨g, 0, none⟩ = some (.int .i64 a)) (h1 : w.cell? ⟨g, 1, none⟩ = some (.int .i64 b)) (h2 : w.cell? ⟨g, 2, none⟩ = some (.int .i64 c)) (h3 : w.cell? ⟨g, 3, none⟩ = some (.int .i64 d)) :
    Calls Tryz.prog 147 #[.slice (some ⟨g, 0, none⟩) 4 4] w fun e w' => e = .returned (.int .i64 (or4 a b c d)) ∧ w = w' := by
  by_cases ha : a = 0
  · by_cases hb : b = 0
    · by_cases hc : c = 0
      · by_cases hd : d = 0
        · subst ha hb hc hd
          go_enter Tryz.func147, Tryz.ntmps147
          go_wp2
          refine wp_loop_rounds 5 ?_
          iterate 5 (rw [rounds_succ]; go_wp2)
          all_goals (go_ret; exact ⟨by simp [or4], rfl⟩)
        · subst ha hb hc
          have hd' : (d == 0) = false := by simpa using hd
          have hd2 : (d != 0) = true := by simpa using hd
          go_enter Tryz.func147, Tryz.ntmps147
          go_wp2
          refine wp_loop_rounds 4 ?_
          iterate 4 (rw [rounds_succ]; go_wp2)
          all_goals (go_ret; exact ⟨by simp [or4], rfl⟩)
      · subst ha hb
        have hd2 : (c != 0) = true := by simpa using hc
        go_enter Tryz.func147, Tryz.ntmps147
        go_wp2
        refine wp_loop_rounds 3 ?_
        iterate 3 (rw [rounds_succ]; go_wp2)
        all_goals (go_ret; exact ⟨by simp [or4, hc], rfl⟩)
    · subst ha
      have hd2 : (b != 0) = true := by simpa using hb
      go_enter Tryz.func147, Tryz.ntmps147
      go_wp2
      refine wp_loop_rounds 2 ?_
      iterate 2 (rw [rounds_succ]; go_wp2)
      all_goals (go_ret; exact ⟨by simp [or4, hb], rfl⟩)
  · have hd2 : (a != 0) = true := by simpa using ha
    go_enter Tryz.func147, Tryz.ntmps147
    go_wp2
    refine wp_loop_rounds 1 ?_
    iterate 1 (rw [rounds_succ]; go_wp2)
    all_goals (go_ret; exact ⟨by simp [or4, ha], rfl⟩)

/-- Is a key ahead of another one? -/
def MKey.less (k l : MKey) : Bool := decide (or4 (cmp3 k.loan.toNat l.loan.toNat) (cmp3 k.day.toInt l.day.toInt) (cmp3 k.kind.toNat l.kind.toNat) (cmp3 k.seq.toNat l.seq.toNat) < 0)


set_option maxRecDepth 100000 in
set_option maxHeartbeats 1000000 in
theorem less_any (k l : MKey) (w : World) :
    Calls Tryz.prog 71 #[keyVal k, keyVal l] w fun e w' => e = .returned (.bool (k.less l)) ∧ Below w.heap.size w w' := by
  go_enter Tryz.func71, Tryz.ntmps71
  go_wp2_with fail
  refine wp_region_tail 20 (by kernel_rfl) (by kernel_rfl) ?_
  simp only [List.take_succ_cons, List.take_zero, List.drop_succ_cons, List.drop_zero]
  iterate 4 still_step
  still_call (same_flip (cmpU32_any _ _ _))
  iterate 4 still_step
  still_call (same_flip (cmpDay_any _ _ _))
  iterate 4 still_step
  still_call (same_flip (cmpByte_any _ _ _))
  iterate 4 still_step
  still_call (same_flip (cmpU32_any _ _ _))
  try refine wpStill_nil ?_
  go_wp2_with fail
  refine (cmpOr_any (cmp3 k.loan.toNat l.loan.toNat) (cmp3 k.day.toInt l.day.toInt) (cmp3 k.kind.toNat l.kind.toNat) (cmp3 k.seq.toNat l.seq.toNat) _ _ ?_ ?_ ?_ ?_).mono ?_
  · simp [go_sem]
  · simp [go_sem]
  · simp [go_sem]
  · simp [go_sem]
  rintro e w' ⟨rfl, rfl⟩
  go_wp2_with fail
  go_ret
  exact ⟨rfl, by go_grown⟩
end Go.Proofs.YthagpdhnblmokaaGreatDoor
