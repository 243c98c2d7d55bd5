/- When two entries are alike. -/
import Derived.Test.YthagpdhnblmokaaGreatDoorTurned
import Derived.Laws.StructEq
namespace Go.Proofs.YthagpdhnblmokaaGreatDoor
open Go.RowKit

theorem leg_ne {a b : MLeg} (h : a ≠ b) : ¬ ((a.account.toNat : Int) = (b.account.toNat : Int)) ∨ ((a.account.toNat : Int) = (b.account.toNat : Int) ∧ ¬ (a.amount.toInt = b.amount.toInt)) := by
  by_cases h1 : (a.account.toNat : Int) = (b.account.toNat : Int)
  · refine .inr ⟨h1, fun h2 => h ?_⟩
    have e1 : a.account = b.account := UInt8.toNat_inj.1 (by omega)
    have e2 : a.amount = b.amount := Int64.toInt_inj.1 h2
    cases a; cases b; simp_all
  · exact .inl h1

/-- A leg's cells, wherever the slice's value says. -/
theorem LegsAt.at_ {w : World} {S : Nat → Prop} {A : Option Addr} {n : Nat} {ls : List MLeg} (h : LegsAt w S A n ls) {j : Nat} (hj : j < n) :
    ∃ b o l, A = some ⟨b, o, none⟩ ∧ S b ∧ b < w.heap.size ∧ ls[j]? = some l ∧ w.cell? ⟨b, o + j * 2, none⟩ = some (.int .u8 l.account.toNat) ∧ w.cell? ⟨b, o + j * 2 + 1, none⟩ = some (.int .i64 l.amount.toInt) := by
  obtain ⟨b, o, e, hS, hb, hc⟩ := h.2 (by omega)
  have hjl : j < ls.length := by rw [h.1]; exact hj
  obtain ⟨c1, c2⟩ := hc j ls[j] (List.getElem?_eq_getElem hjl)
  exact ⟨b, o, ls[j], e, hS, hb, List.getElem?_eq_getElem hjl, c1, c2⟩

theorem list_ne_of_at {α : Type} {a b : List α} {j : Nat} {x y : α} (hx : a[j]? = some x) (hy : b[j]? = some y) (h : x ≠ y) : a ≠ b := fun e => h (by rw [e, hy] at hx; injection hx with hx; exact hx.symm)

set_option maxRecDepth 100000 in
set_option maxHeartbeats 2000000 in
theorem eqLegs_any (A B : Option Addr) (n m c d : Nat) (xs ys : List MLeg) (S T : Nat → Prop) (w : World) (hx : LegsAt w S A n xs) (hy : LegsAt w T B m ys) (hn : n ≤ 1000000) (hm : m ≤ 1000000) :
    Calls Tryz.prog 75 #[.slice A n c, .slice B m d] w fun e w' => e = .returned (.bool (decide (xs = ys))) ∧ Below w.heap.size w w' := by
  by_cases hnm : n = m
  · subst hnm
    go_enter Tryz.func75, Tryz.ntmps75
    go_wp2_with fail
    go_loopw [13] (fun i wr => ∃ (j : Nat), j ≤ n ∧ i = .int .i64 j ∧ (∀ i, i < j → xs[i]? = ys[i]?) ∧ Below w.heap.size w wr) (fun i _ => n - (intOf i).toNat)
    case atStart => exact ⟨0, by omega, rfl, fun i h => by omega, Below.refl _ _⟩
    case round =>
      obtain ⟨j, hj, rfl, heq, hbr⟩ := hrel
      have Heq := Lib.hid heq
      clear heq
      by_cases hlt : j < n
      · obtain ⟨b, o, l, rfl, hS, hbl, hlx, c1, c2⟩ := hx.at_ hlt
        obtain ⟨b', o', l', rfl, hS', hbl', hly, c1', c2'⟩ := hy.at_ hlt
        have d1 := (hbr.cell (p := ⟨b, o + j * 2, none⟩) hbl).trans c1
        have d2 := (hbr.cell (p := ⟨b, o + j * 2 + 1, none⟩) hbl).trans c2
        have d1' := (hbr.cell (p := ⟨b', o' + j * 2, none⟩) hbl').trans c1'
        have d2' := (hbr.cell (p := ⟨b', o' + j * 2 + 1, none⟩) hbl').trans c2'
        have Hx := Lib.hid hlx
        have Hy := Lib.hid hly
        have hji : (j : Int) < (n : Int) := by omega
        have hj0 : 0 ≤ (j : Int) := by omega
        clear hlx hly c1 c2 c1' c2'
        by_cases hE : l = l'
        · subst hE
          go_wp2_with fail
          go_quiet (fail)
          go_wp2_with fail
          go_roundw
          case rel => exact ⟨j + 1, by omega, by go_num, fun i hi => by
            by_cases h : i < j
            · exact Heq.out i h
            · obtain rfl : i = j := by omega
              rw [Hx.out, Hy.out], below_drewN hbr _⟩
          case measure => simp [intOf]; omega
        · have hr : Hid (decide (xs = ys) = false) := by unfold Hid; exact decide_eq_false (list_ne_of_at Hx.out Hy.out hE)
          rcases leg_ne hE with h1 | ⟨h1, h2⟩
          · go_wp2_with fail
            go_quiet (fail)
            go_wp2_with fail
            go_ret
            exact ⟨by rw [hr.out]; rfl, below_drewN hbr _⟩
          · go_wp2_with fail
            go_quiet (fail)
            go_wp2_with fail
            go_ret
            exact ⟨by rw [hr.out]; rfl, below_drewN hbr _⟩
      · have hr : Hid (decide (xs = ys) = true) := by
          unfold Hid
          refine decide_eq_true (List.ext_getElem? fun i => ?_)
          by_cases h : i < j
          · exact Heq.out i h
          · rw [List.getElem?_eq_none (by rw [hx.1]; omega), List.getElem?_eq_none (by rw [hy.1]; omega)]
        go_wp2_with fail
        go_ret
        exact ⟨by rw [hr.out]; rfl, hbr⟩
  · have hr : Hid (decide (xs = ys) = false) := by
      unfold Hid
      exact decide_eq_false (fun e => hnm (by rw [← hx.1, ← hy.1, e]))
    have hne : ((n : Int) != (m : Int)) = true := by simp; omega
    go_enter Tryz.func75, Tryz.ntmps75
    go_wp2
    go_ret
    exact ⟨by rw [hr.out]; rfl, Below.refl _ _⟩

theorem key_ne {a b : MKey} (h : a ≠ b) : ¬ ((a.loan.toNat : Int) = (b.loan.toNat : Int)) ∨ ((a.loan.toNat : Int) = (b.loan.toNat : Int) ∧ ¬ (a.day.toInt = b.day.toInt)) ∨ ((a.loan.toNat : Int) = (b.loan.toNat : Int) ∧ a.day.toInt = b.day.toInt ∧ ¬ ((a.kind.toNat : Int) = (b.kind.toNat : Int))) ∨
    ((a.loan.toNat : Int) = (b.loan.toNat : Int) ∧ a.day.toInt = b.day.toInt ∧ (a.kind.toNat : Int) = (b.kind.toNat : Int) ∧ ¬ ((a.seq.toNat : Int) = (b.seq.toNat : Int))) := by
  by_cases h1 : (a.loan.toNat : Int) = (b.loan.toNat : Int)
  · by_cases h2 : a.day.toInt = b.day.toInt
    · by_cases h3 : (a.kind.toNat : Int) = (b.kind.toNat : Int)
      · refine .inr (.inr (.inr ⟨h1, h2, h3, fun h4 => h ?_⟩))
        have e1 : a.loan = b.loan := UInt32.toNat_inj.1 (by omega)
        have e2 : a.day = b.day := Int32.toInt_inj.1 h2
        have e3 : a.kind = b.kind := UInt8.toNat_inj.1 (by omega)
        have e4 : a.seq = b.seq := UInt32.toNat_inj.1 (by omega)
        cases a; cases b; simp_all
      · exact .inr (.inr (.inl ⟨h1, h2, h3⟩))
    · exact .inr (.inl ⟨h1, h2⟩)
  · exact .inl h1

set_option maxRecDepth 100000 in
set_option maxHeartbeats 2000000 in
theorem same_any (k k' : MKey) (A B : Option Addr) (n m c d : Nat) (xs ys : List MLeg) (S T : Nat → Prop) (w : World) (hx : LegsAt w S A n xs) (hy : LegsAt w T B m ys) (hn : n ≤ 1000000) (hm : m ≤ 1000000) :
    Calls Tryz.prog 24 #[entVal k (.slice A n c), entVal k' (.slice B m d)] w fun e w' => e = .returned (.bool (decide (k = k') && decide (xs = ys))) ∧ Below w.heap.size w w' := by
  by_cases hk : k = k'
  · subst hk
    go_enter Tryz.func24, Tryz.ntmps24
    go_wp2_with fail
    refine (eqLegs_any A B n m c d xs ys S T _ (hx.only (T := fun _ => False) (((Only.refl _ _).alloc _).alloc _) (fun _ _ h => h)) (hy.only (T := fun _ => False) (((Only.refl _ _).alloc _).alloc _) (fun _ _ h => h)) hn hm).mono ?_
    rintro e w1 ⟨rfl, hb⟩
    have hb1 := below_then (((Below.refl _ _).alloc (Nat.le_refl _) _).alloc (by simp) _) hb
    clear hb
    go_wp2_with fail
    go_ret
    exact ⟨by simp, hb1⟩
  · have hr : Hid ((decide (k = k') && decide (xs = ys)) = false) := by unfold Hid; simp [hk]
    rcases key_ne hk with h1 | ⟨h1, h2⟩ | ⟨h1, h2, h3⟩ | ⟨h1, h2, h3, h4⟩ <;>
    (go_enter Tryz.func24, Tryz.ntmps24
     go_wp2_with fail
     go_ret
     exact ⟨by rw [hr.out]; rfl, by go_grown⟩)
end Go.Proofs.YthagpdhnblmokaaGreatDoor
