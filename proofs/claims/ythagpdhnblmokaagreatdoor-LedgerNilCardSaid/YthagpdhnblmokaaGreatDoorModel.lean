/- A journal as plain data: which line of a key is live, what all lines come to. -/
import Derived.Test.YthagpdhnblmokaaGreatDoorLines
namespace Go.Proofs.YthagpdhnblmokaaGreatDoor

def liveStep (k : MKey) (s : Nat × Option Nat) (x : MLine) : Nat × Option Nat :=
  (s.1 + 1, if x.of = 0 ∧ x.key = k then some s.1 else if 0 < x.of ∧ s.2 = some (x.of - 1) then none else s.2)
def live (L : List MLine) (k : MKey) : Option Nat := (L.foldl (liveStep k) (0, none)).2
theorem live_fst (k : MKey) (L : List MLine) : ∀ s, (L.foldl (liveStep k) s).1 = s.1 + L.length := by
  induction L with
  | nil => intro s; rfl
  | cons x r ih => intro s; rw [List.foldl_cons, ih]; simp only [liveStep, List.length_cons]; omega
theorem live_nil (k : MKey) : live [] k = none := rfl
theorem live_snoc (L : List MLine) (x : MLine) (k : MKey) : live (L ++ [x]) k = if x.of = 0 ∧ x.key = k then some L.length else if 0 < x.of ∧ live L k = some (x.of - 1) then none else live L k := by
  unfold live
  rw [List.foldl_append, List.foldl_cons, List.foldl_nil]
  have := live_fst k L (0, none)
  simp only [liveStep, this, Nat.zero_add]

def legSum (a : UInt8) : List MLeg → Int
  | [] => 0
  | l :: r => (if l.account = a then l.amount.toInt else 0) + legSum a r
def sumLoan (n : UInt32) (a : UInt8) : List MLine → Int
  | [] => 0
  | x :: r => (if x.key.loan = n then legSum a x.legs else 0) + sumLoan n a r
def sumAll (a : UInt8) : List MLine → Int
  | [] => 0
  | x :: r => legSum a x.legs + sumAll a r
theorem sumLoan_append (n : UInt32) (a : UInt8) (L M : List MLine) : sumLoan n a (L ++ M) = sumLoan n a L + sumLoan n a M := by
  induction L with
  | nil => simp [sumLoan]
  | cons x r ih => simp only [List.cons_append, sumLoan, ih]; omega
theorem sumAll_append (a : UInt8) (L M : List MLine) : sumAll a (L ++ M) = sumAll a L + sumAll a M := by
  induction L with
  | nil => simp [sumAll]
  | cons x r ih => simp only [List.cons_append, sumAll, ih]; omega
def pairSum (L : List MLine) (p : MPair) : Int := if p.control then (if p.loan = 0 then sumAll p.account L else 0) else sumLoan p.loan p.account L
end Go.Proofs.YthagpdhnblmokaaGreatDoor
