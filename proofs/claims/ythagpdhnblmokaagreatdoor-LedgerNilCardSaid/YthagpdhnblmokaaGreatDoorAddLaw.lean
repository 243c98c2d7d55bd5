/- What one more line does to the sums: plain law. -/
import Derived.Test.YthagpdhnblmokaaGreatDoorCopyMap
namespace Go.Proofs.YthagpdhnblmokaaGreatDoor
open Go.RowKit Go.Maps

theorem snoc_ind {α : Type} {P : List α → Prop} (h0 : P []) (h1 : ∀ l a, P l → P (l ++ [a])) (l : List α) : P l := by
  have h : ∀ m : List α, P m.reverse := fun m => by
    induction m with
    | nil => exact h0
    | cons a m ih => rw [List.reverse_cons]; exact h1 _ _ ih
  have := h l.reverse
  rwa [List.reverse_reverse] at this

abbrev pAcc (n : UInt32) (a : UInt8) : MPair := ⟨n, a, false⟩
abbrev pCtl (a : UInt8) : MPair := ⟨0, a, true⟩
def legOk (n : UInt32) (L : List MLine) (l : MLeg) : Bool := fits (sumLoan n l.account L + l.amount.toInt) && fits (sumAll l.account L + l.amount.toInt)
def addOk (n : UInt32) (ls : List MLeg) (L : List MLine) : Bool := ls.all (legOk n L)
def nextStep (n : UInt32) (L : List MLine) (f : MPair → Option Int) (l : MLeg) : MPair → Option Int :=
  fun p => if p = pCtl l.account then some (sumAll l.account L + l.amount.toInt) else if p = pAcc n l.account then some (sumLoan n l.account L + l.amount.toInt) else f p
def nextOf (n : UInt32) (L : List MLine) (ls : List MLeg) : MPair → Option Int := ls.foldl (nextStep n L) fun _ => none
theorem nextOf_snoc (n : UInt32) (L : List MLine) (ls : List MLeg) (l : MLeg) : nextOf n L (ls ++ [l]) = nextStep n L (nextOf n L ls) l := by simp [nextOf]
theorem legSum_append (a : UInt8) (x y : List MLeg) : legSum a (x ++ y) = legSum a x + legSum a y := by
  induction x with
  | nil => simp [legSum]
  | cons l r ih => simp only [List.cons_append, legSum, ih]; omega
theorem legSum_none (a : UInt8) (x : List MLeg) (h : ∀ l ∈ x, l.account ≠ a) : legSum a x = 0 := by
  induction x with
  | nil => rfl
  | cons l r ih => simp only [legSum]; rw [if_neg (h l (by simp)), ih (fun m hm => h m (by simp [hm]))]; rfl
/-- What the legs ls of loan n add to a pair. -/
def addTo (n : UInt32) (ls : List MLeg) (p : MPair) : Int := if p.control then (if p.loan = 0 then legSum p.account ls else 0) else (if p.loan = n then legSum p.account ls else 0)
theorem pairSum_snoc (L : List MLine) (x : MLine) (p : MPair) : pairSum (L ++ [x]) p = pairSum L p + addTo x.key.loan x.legs p := by
  have e : (x.key.loan = p.loan) = (p.loan = x.key.loan) := propext eq_comm
  simp only [pairSum, addTo, sumAll_append, sumLoan_append, sumAll, sumLoan, e]
  split
  · split <;> simp
  · simp
def Apart (ls : List MLeg) : Prop := ls.Pairwise fun x y => x.account ≠ y.account
theorem nextOf_says (n : UInt32) (L : List MLine) (ls : List MLeg) (h : Apart ls) (p : MPair) : (∀ c, nextOf n L ls p = some c → c = pairSum L p + addTo n ls p) ∧ (nextOf n L ls p = none → addTo n ls p = 0) := by
  revert h
  refine snoc_ind (P := fun ls => Apart ls → (∀ c, nextOf n L ls p = some c → c = pairSum L p + addTo n ls p) ∧ (nextOf n L ls p = none → addTo n ls p = 0)) ?_ ?_ ls
  · exact fun _ => ⟨fun c hc => by simp [nextOf] at hc, fun _ => by simp [addTo, legSum]⟩
  · intro ls l ih h
    obtain ⟨h1, _, h3⟩ := List.pairwise_append.1 h
    obtain ⟨i1, i2⟩ := ih h1
    have hz : legSum l.account ls = 0 := legSum_none _ _ (fun m hm => h3 m hm l (by simp))
    rw [nextOf_snoc]
    simp only [nextStep]
    by_cases hc : p = pCtl l.account
    · rw [if_pos hc]
      subst hc
      refine ⟨fun c hc => ?_, fun hc => by cases hc⟩
      injection hc with hc
      rw [← hc]
      simp [pairSum, addTo, legSum_append, hz, legSum]
    · rw [if_neg hc]
      by_cases ha : p = pAcc n l.account
      · rw [if_pos ha]
        subst ha
        refine ⟨fun c hc => ?_, fun hc => by cases hc⟩
        injection hc with hc
        rw [← hc]
        simp [pairSum, addTo, legSum_append, hz, legSum]
      · rw [if_neg ha]
        have hs : addTo n (ls ++ [l]) p = addTo n ls p := by
          obtain ⟨ln, ac, ct⟩ := p
          simp only [addTo, legSum_append, legSum]
          cases ct with
          | true =>
            by_cases h0 : ln = 0
            · have : l.account ≠ ac := fun e => hc (by rw [h0, ← e])
              simp [h0, this]
            · simp [h0]
          | false =>
            by_cases h0 : ln = n
            · have : l.account ≠ ac := fun e => ha (by rw [h0, ← e])
              simp [h0, this]
            · simp [h0]
        rw [hs]; exact ⟨i1, i2⟩
theorem sums_after (n : UInt32) (L : List MLine) (ls : List MLeg) (fs : MPair → Option Int) (hfs : ∀ p, (fs p).getD 0 = pairSum L p) (h : Apart ls) (k : MKey) (hk : k.loan = n) (of : Nat) (p : MPair) :
    (if (nextOf n L ls p).isSome then nextOf n L ls p else fs p).getD 0 = pairSum (L ++ [⟨k, ls, of⟩]) p := by
  subst hk
  rw [pairSum_snoc]
  obtain ⟨h1, h2⟩ := nextOf_says k.loan L ls h p
  cases hn : nextOf k.loan L ls p with
  | none => simp [hfs, h2 hn]
  | some c => simp [h1 c hn]
theorem rightGo_apart : ∀ (ls : List MLeg) (sum : Int) (last : Nat), rightGo sum last ls = true → (∀ l ∈ ls, last < l.account.toNat) ∧ Apart ls
  | [], _, _, _ => ⟨fun l h => (by cases h), List.Pairwise.nil⟩
  | l :: r, sum, last, h => by
    unfold rightGo at h
    split at h
    · next hc =>
      obtain ⟨h1, h2⟩ := rightGo_apart r _ _ h
      simp only [Bool.and_eq_true, decide_eq_true_eq] at hc
      refine ⟨fun m hm => ?_, List.pairwise_cons.2 ⟨fun m hm e => ?_, h2⟩⟩
      · rcases List.mem_cons.1 hm with rfl | hm
        · exact hc.1.2
        · have := h1 m hm; omega
      · have := h1 m hm; rw [e] at this; omega
    · cases h
theorem right_apart {k : MKey} {ls : List MLeg} (h : rightB k ls = true) : Apart ls := (rightGo_apart ls 0 0 (by simp only [rightB, Bool.and_eq_true] at h; exact h.2)).2
theorem right_len {k : MKey} {ls : List MLeg} (h : rightB k ls = true) : 1 ≤ ls.length ∧ ls.length ≤ 8 := by
  simp only [rightB, headOk, Bool.and_eq_true, decide_eq_true_eq] at h
  omega
end Go.Proofs.YthagpdhnblmokaaGreatDoor
