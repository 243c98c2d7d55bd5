/- Contracts of small functions: coin's sums, days, names. -/
import Derived.Test.YthagpdhnblmokaaGreatDoorBase
namespace Go.Proofs.YthagpdhnblmokaaGreatDoor
open Go.RowKit

/-- Is a sum within 64 bits? -/
def fits (n : Int) : Bool := decide (-9223372036854775808 ≤ n) && decide (n ≤ 9223372036854775807)
theorem fits_iff {n : Int} : fits n = true ↔ -9223372036854775808 ≤ n ∧ n ≤ 9223372036854775807 := by simp [fits]
theorem fits_not {n : Int} : fits n = false ↔ n < -9223372036854775808 ∨ 9223372036854775807 < n := by
  simp only [fits, Bool.and_eq_false_iff, decide_eq_false_iff_not]; omega

set_option maxHeartbeats 400000 in
theorem add_ok (a b : Int) (w : World) (h1 : -9223372036854775808 ≤ a + b) (h2 : a + b ≤ 9223372036854775807) (hb : -9223372036854775808 ≤ b) (hb2 : b ≤ 9223372036854775807) :
    Calls Tryz.prog 136 #[.int .i64 a, .int .i64 b] w fun e w' => e = .returned (.tuple #[.int .i64 (a + b), .nilIface]) ∧ w = w' := by
  go_enter Tryz.func136, Tryz.ntmps136
  go_wp2
  all_goals (go_ret2; exact ⟨rfl, rfl⟩)
set_option maxHeartbeats 400000 in
theorem add_over (a b : Int) (w : World) (ha : -9223372036854775808 ≤ a) (ha2 : a ≤ 9223372036854775807) (hb : -9223372036854775808 ≤ b) (hb2 : b ≤ 9223372036854775807) (h : a + b < -9223372036854775808 ∨ 9223372036854775807 < a + b) :
    Calls Tryz.prog 136 #[.int .i64 a, .int .i64 b] w fun e w' => e = .returned (.tuple #[.int .i64 0, errV 12]) ∧ w = w' := by
  rcases h with h | h
  · have hw : wrap64 (a + b) = a + b + 18446744073709551616 := by unfold wrap64; omega
    go_enter Tryz.func136, Tryz.ntmps136
    go_wp2
    all_goals (go_ret2; exact ⟨rfl, rfl⟩)
  · have hw : wrap64 (a + b) = a + b - 18446744073709551616 := by unfold wrap64; omega
    go_enter Tryz.func136, Tryz.ntmps136
    go_wp2
    all_goals (go_ret2; exact ⟨rfl, rfl⟩)

set_option maxHeartbeats 400000 in
theorem neg_ok (a : Int) (w : World) (h1 : -9223372036854775808 < a) (h2 : a ≤ 9223372036854775807) :
    Calls Tryz.prog 157 #[.int .i64 a] w fun e w' => e = .returned (.tuple #[.int .i64 (-a), .nilIface]) ∧ w = w' := by
  go_enter Tryz.func157, Tryz.ntmps157
  go_wp2
  all_goals (go_ret2; exact ⟨rfl, rfl⟩)
set_option maxHeartbeats 400000 in
theorem neg_low (w : World) :
    Calls Tryz.prog 157 #[.int .i64 (-9223372036854775808)] w fun e w' => e = .returned (.tuple #[.int .i64 0, errV 12]) ∧ w = w' := by
  go_enter Tryz.func157, Tryz.ntmps157
  go_wp2
  all_goals (go_ret2; exact ⟨rfl, rfl⟩)
set_option maxHeartbeats 400000 in
theorem r4Add_ok (a b : Int) (w : World) (_ha : -9223372036854775808 ≤ a) (_ha2 : a ≤ 9223372036854775807) (hb : -9223372036854775808 ≤ b) (hb2 : b ≤ 9223372036854775807) (h1 : -9223372036854775808 ≤ a + b) (h2 : a + b ≤ 9223372036854775807) :
    Calls Tryz.prog 134 #[.int .i64 a, .int .i64 b] w fun e w' => e = .returned (.tuple #[.int .i64 (a + b), .bool true]) ∧ w = w' := by
  go_enter Tryz.func134, Tryz.ntmps134
  go_wp2
  all_goals (go_ret2; exact ⟨rfl, rfl⟩)
set_option maxHeartbeats 400000 in
theorem r4Add_over (a b : Int) (w : World) (ha : -9223372036854775808 ≤ a) (ha2 : a ≤ 9223372036854775807) (hb : -9223372036854775808 ≤ b) (hb2 : b ≤ 9223372036854775807) (h : a + b < -9223372036854775808 ∨ 9223372036854775807 < a + b) :
    Calls Tryz.prog 134 #[.int .i64 a, .int .i64 b] w fun e w' => e = .returned (.tuple #[.int .i64 0, .bool false]) ∧ w = w' := by
  rcases h with h | h
  · go_enter Tryz.func134, Tryz.ntmps134
    go_wp2
    all_goals (go_ret2; exact ⟨rfl, rfl⟩)
  · go_enter Tryz.func134, Tryz.ntmps134
    go_wp2
    all_goals (go_ret2; exact ⟨rfl, rfl⟩)
def dayOk (d : Int) : Bool := decide (0 ≤ d) && decide (d ≤ 3652058)
set_option maxHeartbeats 400000 in
theorem dayRight_any (d : Int) (w : World) :
    Calls Tryz.prog 127 #[.int .i32 d] w fun e w' => e = .returned (.bool (dayOk d)) ∧ w = w' := by
  by_cases h0 : 0 ≤ d
  · by_cases h1 : d ≤ 3652058
    · go_enter Tryz.func127, Tryz.ntmps127
      go_wp2
      all_goals (go_ret; exact ⟨by simp [dayOk, h0, h1], rfl⟩)
    · go_enter Tryz.func127, Tryz.ntmps127
      go_wp2
      all_goals (go_ret; exact ⟨by simp [dayOk, h0, h1], rfl⟩)
  · go_enter Tryz.func127, Tryz.ntmps127
    go_wp2
    all_goals (go_ret; exact ⟨by rw [show dayOk d = false by simp [dayOk]; omega]; rfl, rfl⟩)
def kindB : Nat → ByteArray
  | 1 => ⟨#[98, 111, 97, 114, 100]⟩
  | 2 => ⟨#[97, 99, 99, 114, 117, 101]⟩
  | 3 => ⟨#[108, 97, 116, 101]⟩
  | 4 => ⟨#[112, 97, 121]⟩
  | 5 => ⟨#[102, 101, 101]⟩
  | 6 => ⟨#[119, 97, 105, 118, 101]⟩
  | 7 => ⟨#[111, 102, 102]⟩
  | _ => ⟨#[]⟩
def acctB : Nat → ByteArray
  | 1 => ⟨#[99, 97, 115, 104]⟩
  | 2 => ⟨#[112, 114, 105, 110, 99, 105, 112, 97, 108]⟩
  | 3 => ⟨#[105, 110, 116, 101, 114, 101, 115, 116]⟩
  | 4 => ⟨#[102, 101, 101, 115]⟩
  | 5 => ⟨#[115, 117, 115, 112, 101, 110, 115, 101]⟩
  | 6 => ⟨#[105, 110, 99, 111, 109, 101]⟩
  | 7 => ⟨#[99, 104, 97, 114, 103, 101, 115]⟩
  | 8 => ⟨#[108, 111, 115, 115]⟩
  | 9 => ⟨#[114, 101, 99, 111, 118, 101, 114, 101, 100]⟩
  | _ => ⟨#[]⟩

set_option maxHeartbeats 1000000 in
theorem kind_any (n : Nat) (w : World) (hn : n ≤ 255) :
    Calls Tryz.prog 89 #[.int .u8 (n : Int)] w fun e w' => e = .returned (.string (kindB n)) ∧ Below w.heap.size w w' := by
  by_cases h : n < 8
  · rcases (show n = 0 ∨ n = 1 ∨ n = 2 ∨ n = 3 ∨ n = 4 ∨ n = 5 ∨ n = 6 ∨ n = 7 by omega) with rfl | rfl | rfl | rfl | rfl | rfl | rfl | rfl <;>
    (go_enter Tryz.func89, Tryz.ntmps89
     go_wp2
     go_ret
     exact ⟨rfl, (Below.refl _ _).alloc (Nat.le_refl _) _⟩)
  · have e : kindB n = ⟨#[]⟩ := by
      unfold kindB
      split <;> first | rfl | omega
    go_enter Tryz.func89, Tryz.ntmps89
    go_wp2
    go_ret
    exact ⟨by rw [e]; rfl, (Below.refl _ _).alloc (Nat.le_refl _) _⟩

set_option maxHeartbeats 1000000 in
theorem account_any (n : Nat) (w : World) (hn : n ≤ 255) :
    Calls Tryz.prog 151 #[.int .u8 (n : Int)] w fun e w' => e = .returned (.string (acctB n)) ∧ Below w.heap.size w w' := by
  by_cases h : n < 10
  · rcases (show n = 0 ∨ n = 1 ∨ n = 2 ∨ n = 3 ∨ n = 4 ∨ n = 5 ∨ n = 6 ∨ n = 7 ∨ n = 8 ∨ n = 9 by omega) with rfl | rfl | rfl | rfl | rfl | rfl | rfl | rfl | rfl | rfl <;>
    (go_enter Tryz.func151, Tryz.ntmps151
     go_wp2
     go_ret
     exact ⟨rfl, (Below.refl _ _).alloc (Nat.le_refl _) _⟩)
  · have e : acctB n = ⟨#[]⟩ := by
      unfold acctB
      split <;> first | rfl | omega
    go_enter Tryz.func151, Tryz.ntmps151
    go_wp2
    go_ret
    exact ⟨by rw [e]; rfl, (Below.refl _ _).alloc (Nat.le_refl _) _⟩
end Go.Proofs.YthagpdhnblmokaaGreatDoor
