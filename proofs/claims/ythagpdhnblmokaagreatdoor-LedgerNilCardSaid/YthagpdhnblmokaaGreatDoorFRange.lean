/- Going through a map whose elements are whole numbers of 64 bits. -/
import Derived.Test.YthagpdhnblmokaaGreatDoorFMap
namespace Go.Proofs.YthagpdhnblmokaaGreatDoor
open Go.RowKit Go.Maps

/-- 'for x, c := range m' under way: left tells which keys are still to come. -/
def FRange {α : Type} (P : Program) (k e : TypeId) (kl : α → Lit) (w : World) (b r n : Nat) (f : α → Option Int) (left : α → Bool) (cnt : Nat) : Prop :=
  ∃ (D : DataW Unit) (lf : Lit → Bool), w.ranges P k (plainElem P e) b r n D lf cnt ∧ Tells kl D f ∧ ∀ x, lf (kl x) = left x

section
variable {α : Type} {P : Program} {ops : Array Oper} {rest : List Oper} {o : Oper} {a : Act} {Q : Exit → Act → World → Prop} {w w' : World} {k e t : TypeId} {kv : α → Value} {kl : α → Lit} {b r n : Nat} {f : α → Option Int} {left : α → Bool} {cnt : Nat}

theorem FRange.map (h : FRange P k e kl w b r n f left cnt) : FMap P k e kl w b n f := by
  obtain ⟨D, lf, h1, h2, _⟩ := h
  exact ⟨D, h1.owns, h2⟩
theorem FRange.left_eq (h : FRange P k e kl w b r n f left cnt) : w.rangeLeft b r = cnt := by
  obtain ⟨D, lf, h1, h2, _⟩ := h
  exact h1.left_eq
theorem FRange.lt (h : FRange P k e kl w b r n f left cnt) : r < w.heap.size := by
  obtain ⟨D, lf, h1, h2, _⟩ := h
  exact h1.lt
theorem FRange.ne (h : FRange P k e kl w b r n f left cnt) : r ≠ b := by
  obtain ⟨D, lf, h1, h2, _⟩ := h
  exact h1.ne
theorem FRange.only {S : Nat → Prop} (h : FRange P k e kl w b r n f left cnt) (ho : Only S w w') (hb : ¬ S b) (hr : ¬ S r) : FRange P k e kl w' b r n f left cnt := by
  have hlt := h.lt
  have hlb := h.map.lt
  obtain ⟨D, lf, ⟨es, clock, since, seen, c0, hh, r1, r2, r3, r4, rr⟩, h2, h3⟩ := h
  exact ⟨D, lf, ⟨es, clock, since, seen, c0, (ho.block b hlb hb).trans hh, r1, r2, r3, (ho.block r hlt hr).trans r4, rr⟩, h2, h3⟩

theorem wpList_fm_range (hg : o.guard = none) (m : Operand) (hop : o.op = Op.range t m) (K : KeyEnc P k kv kl) (ht : P.underlying t = some (.map k e)) (h : FMap P k e kl w b n f) (hm : a.eval m = .map (some b))
    (hK : ∀ w' cnt, FRange P k e kl w' b w.heap.size n f (fun x => (f x).isSome) cnt → cnt ≤ n → w.grownBy w' none → w'.heap.size = w.heap.size + 1 → wpList P ops Q rest (a.put o.dst (.pointer (some ⟨w.heap.size, 0, none⟩))) w') : wpList P ops Q (o :: rest) a w := by
  obtain ⟨D, h1, h2⟩ := h
  exact wpList_range_own w hg m t hop k e K.keyed ht _ b n D hm h1 fun w' hr hgr hs => hK w' _ ⟨D, _, hr, h2, h2.has⟩ h1.size_le hgr hs

theorem wpList_fm_next [DecidableEq α] (hg : o.guard = none) (it : Operand) (hop : o.op = Op.next it false) (K : KeyEnc P k kv kl) (he : P.underlying e = some (.int .i64)) (h : FRange P k e kl w b r n f left cnt) (hit : a.eval it = .pointer (some ⟨r, 0, none⟩))
    (hDone : cnt = 0 → (∀ x, left x = false) → wpList P ops Q rest (a.put o.dst (.tuple #[.bool false])) w)
    (hMore : ∀ (x : α) (c : Int) (w' : World) (cnt' : Nat), left x = true → f x = some c → (Lit.int .i64 c).wf = true → FRange P k e kl w' b r n f (fun y => left y && !decide (y = x)) cnt' → cnt' < cnt →
      w.grownBy w' (some r) → w'.heap.size = w.heap.size → (Instr.entry (.pointer (some ⟨r, 0, none⟩))).run P w' = .ok (.tuple #[kv x, .int .i64 c]) w' → wpList P ops Q rest (a.put o.dst (.tuple #[.bool true, kv x, .int .i64 c])) w') : wpList P ops Q (o :: rest) a w := by
  obtain ⟨D, lf, h1, h2, h3⟩ := h
  refine wpList_next_ranges (α := α) (β := { c : Int // (Lit.int .i64 c).wf = true }) w hg it hop k K.keyed (plainElem P e) kv (fun c => .int .i64 c.1) (fun key l hk => by obtain ⟨x, hx, _⟩ := K.inv key l hk; exact ⟨x, hx⟩)
    (fun v y hv => by obtain ⟨c, hc, _, hw⟩ := plainElem_int_inv he hv; exact ⟨⟨c, hw⟩, hc⟩) b r n D lf cnt hit h1 (fun h0 hl => hDone h0 (fun x => by rw [← h3 x]; exact hl _)) ?_
  rintro x ⟨c, hw⟩ l y w' cnt' hk hlk hR hat hr hlt hgr hs hen
  obtain ⟨x', hx', rfl⟩ := K.inv _ _ hk
  have hxx : kl x = kl x' := by
    have e1 := K.enc x
    have e2 := K.enc x'
    rw [hx'] at e1
    rw [e1] at e2
    injection e2 with e2
  obtain rfl : x = x' := K.inj _ _ hxx
  have hy : y = (.lit (.int .i64 c), []) := by rw [plainElem_int he hw] at hR; injection hR with hR; exact hR.symm
  have hfx : f x = some c := by
    have hat0 := hat (.lit (.int .i64 c))
    cases hf : f x with
    | none =>
      have hh := h2.has x
      rw [hf] at hh
      -- a key that isn't there reads as whatever is asked
      have h4 := hat (.lit (.int .i64 (c + 1)))
      rw [Maps.atKey_of_not_has hh, hy] at h4
      injection h4 with h4
      injection h4 with _ h4
      omega
    | some d =>
      rw [h2.at_ x d hf, hy] at hat0
      injection hat0 with hat0
      injection hat0 with _ hat0
      rw [hat0]
  refine hMore x c w' cnt' (by rw [← h3 x]; exact hlk) hfx hw ⟨D, _, hr, h2, fun z => ?_⟩ hlt hgr hs hen
  show (lf (kl z) && !(kl z).sameKey (kl x)) = _
  rw [h3 z]
  congr 2
  by_cases hzx : z = x
  · subst hzx
    rw [WideAt.sameKey_self (key_isLit K z)]; simp
  · rw [Maps.sameKey_ne (fun e => hzx (K.inj _ _ e))]; simp [hzx]
end
end Go.Proofs.YthagpdhnblmokaaGreatDoor
