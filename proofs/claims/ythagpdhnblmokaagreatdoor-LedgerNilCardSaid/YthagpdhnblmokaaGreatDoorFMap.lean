/- Maps whose elements are whole numbers of 64 bits, as functions. -/
import Derived.Test.YthagpdhnblmokaaGreatDoorKeyEnc
namespace Go.Proofs.YthagpdhnblmokaaGreatDoor
open Go.RowKit Go.Maps

/-- What is told of a map's datum. -/
structure Tells {α : Type} (kl : α → Lit) (D : DataW Unit) (f : α → Option Int) : Prop where
  has : ∀ x, Maps.has D (kl x) = (f x).isSome
  at_ : ∀ x c, f x = some c → ∀ z, D.atKey (kl x) z = .lit (.int .i64 c)
/-- Block b is a map of at most n entries that holds what f tells. -/
def FMap {α : Type} (P : Program) (k e : TypeId) (kl : α → Lit) (w : World) (b n : Nat) (f : α → Option Int) : Prop :=
  ∃ D : DataW Unit, w.ownsMap P k (plainElem P e) b n D ∧ Tells kl D f

section
variable {α : Type} {P : Program} {k e t : TypeId} {kv : α → Value} {kl : α → Lit} {w w' : World} {b n : Nat} {f : α → Option Int}

theorem FMap.congr {g : α → Option Int} (h : FMap P k e kl w b n f) (hg : ∀ x, g x = f x) : FMap P k e kl w b n g := by
  obtain rfl : g = f := funext hg
  exact h
theorem FMap.mono {m : Nat} (h : FMap P k e kl w b n f) (hm : n ≤ m) : FMap P k e kl w b m f := by
  obtain ⟨D, h1, h2⟩ := h
  exact ⟨D, h1.mono hm, h2⟩
theorem FMap.lt (h : FMap P k e kl w b n f) : b < w.heap.size := by
  obtain ⟨D, h1, _⟩ := h
  exact h1.lt
theorem FMap.made (w : World) (P : Program) (k e : TypeId) (kl : α → Lit) : FMap P k e kl (w.alloc (.map #[] 0)) w.heap.size 0 fun _ => none :=
  ⟨_, World.ownsMap_made w P k _, ⟨fun _ => rfl, fun x c h => by cases h⟩⟩
theorem FMap.only {S : Nat → Prop} (h : FMap P k e kl w b n f) (ho : Only S w w') (hn : ¬ S b) : FMap P k e kl w' b n f := by
  obtain ⟨D, h1, h2⟩ := h
  obtain ⟨es, clock, hb, r⟩ := h1
  exact ⟨D, ⟨es, clock, (ho.block b (Array.getElem?_eq_some_iff.1 hb).1 hn).trans hb, r⟩, h2⟩
theorem FMap.drewN (h : FMap P k e kl w b n f) (m : Nat) : FMap P k e kl (w.drewN m) b n f := h
theorem FMap.drew (h : FMap P k e kl w b n f) : FMap P k e kl w.drew b n f := h

theorem FMap.look (h : FMap P k e kl w b n f) (K : KeyEnc P k kv kl) (ht : P.underlying t = some (.map k e)) (he : P.underlying e = some (.int .i64)) (hz : (zeroValue e).run P w = .ok (.int .i64 0) w) (x : α) :
    (Instr.lookup t (.map (some b)) (kv x) false).run P w = .ok (.int .i64 ((f x).getD 0)) w := by
  obtain ⟨D, h1, h2⟩ := h
  obtain ⟨c, hrun, hat, _⟩ := h1.lookup_int K.keyed ht he hz (K.enc x)
  rw [hrun]
  cases hf : f x with
  | none =>
    have hh := h2.has x
    rw [hf] at hh
    rw [Maps.atKey_of_not_has hh] at hat
    injection hat with hat
    injection hat with _ hat
    rw [← hat]; rfl
  | some d =>
    rw [h2.at_ x d hf] at hat
    injection hat with hat
    injection hat with _ hat
    rw [← hat]; rfl
theorem FMap.look_ok (h : FMap P k e kl w b n f) (K : KeyEnc P k kv kl) (ht : P.underlying t = some (.map k e)) (he : P.underlying e = some (.int .i64)) (hz : (zeroValue e).run P w = .ok (.int .i64 0) w) (x : α) :
    (Instr.lookup t (.map (some b)) (kv x) true).run P w = .ok (.tuple #[.int .i64 ((f x).getD 0), .bool (f x).isSome]) w := by
  obtain ⟨D, h1, h2⟩ := h
  obtain ⟨v, ps, hrun, hR⟩ := h1.look_ok K.keyed ht hz (plainElem_int he (by decide)) (K.enc x)
  obtain ⟨c, rfl, hc, _⟩ := plainElem_int_inv he hR
  rw [hrun, h2.has x]
  simp only [Prod.mk.injEq] at hc
  have hat := hc.1
  cases hf : f x with
  | none =>
    have hh := h2.has x
    rw [hf] at hh
    rw [Maps.atKey_of_not_has hh] at hat
    injection hat with hat
    injection hat with _ hat
    rw [← hat]; rfl
  | some d =>
    rw [h2.at_ x d hf] at hat
    injection hat with hat
    injection hat with _ hat
    rw [← hat]; rfl
theorem FMap.bound (h : FMap P k e kl w b n f) (K : KeyEnc P k kv kl) (ht : P.underlying t = some (.map k e)) (he : P.underlying e = some (.int .i64)) (hz : (zeroValue e).run P w = .ok (.int .i64 0) w) (x : α) {c : Int} (hf : f x = some c) :
    (Lit.int .i64 c).wf = true := by
  obtain ⟨D, h1, h2⟩ := h
  obtain ⟨d, _, hat, hw⟩ := h1.lookup_int K.keyed ht he hz (K.enc x)
  rw [h2.at_ x c hf] at hat
  injection hat with hat
  injection hat with _ hat
  rw [hat]; exact hw

theorem key_isLit (K : KeyEnc P k kv kl) (x : α) : WideAt.IsKeyLit (kl x) := K.keyed.key (K.enc x)
theorem Tells.put [DecidableEq α] {D : DataW Unit} (h : Tells kl D f) (K : KeyEnc P k kv kl) (hD : Maps.IsMap D) (x : α) (c : Int) : Tells kl (D.put (kl x) (.lit (.int .i64 c))) (fun y => if y = x then some c else f y) where
  has y := by
    by_cases hy : y = x
    · subst hy
      rw [if_pos rfl, Maps.has_put_same hD (key_isLit K y)]; rfl
    · rw [if_neg hy, Maps.has_put_other (fun e => hy (K.inj _ _ e))]; exact h.has y
  at_ y d hd z := by
    by_cases hy : y = x
    · subst hy
      rw [if_pos rfl] at hd
      injection hd with hd
      rw [Maps.atKey_put_same hD (key_isLit K y), hd]
    · rw [if_neg hy] at hd
      rw [Maps.atKey_put_other (fun e => hy (K.inj _ _ e))]; exact h.at_ y d hd z
theorem Tells.del [DecidableEq α] {D : DataW Unit} (h : Tells kl D f) (K : KeyEnc P k kv kl) (x : α) : Tells kl (D.del (kl x)) (fun y => if y = x then none else f y) where
  has y := by
    by_cases hy : y = x
    · subst hy
      rw [if_pos rfl, Maps.has_del_same]; rfl
    · rw [if_neg hy, Maps.has_del_other (fun e => hy (K.inj _ _ e))]; exact h.has y
  at_ y d hd z := by
    by_cases hy : y = x
    · subst hy
      rw [if_pos rfl] at hd
      cases hd
    · rw [if_neg hy] at hd
      rw [Maps.atKey_del_other (fun e => hy (K.inj _ _ e))]; exact h.at_ y d hd z

theorem FMap.update [DecidableEq α] (h : FMap P k e kl w b n f) (K : KeyEnc P k kv kl) (ht : P.underlying t = some (.map k e)) (he : P.underlying e = some (.int .i64)) (hn : n < maxLen) (x : α) {c : Int} (hc : (Lit.int .i64 c).wf = true) :
    ∃ w', (Instr.mapUpdate t (.map (some b)) (kv x) (.int .i64 c)).run P w = .ok () w' ∧ FMap P k e kl w' b (n + 1) (fun y => if y = x then some c else f y) ∧ w.mapTurned w' b := by
  obtain ⟨D, h1, h2⟩ := h
  obtain ⟨w', hrun, h3, h4⟩ := h1.store K.keyed ht hn (K.enc x) (plainElem_int he hc)
  exact ⟨w', hrun, ⟨_, h3, h2.put K h1.isMap x c⟩, h4⟩
theorem FMap.drop [DecidableEq α] (h : FMap P k e kl w b n f) (K : KeyEnc P k kv kl) (ht : P.underlying t = some (.map k e)) (x : α) (ty : TypeId) :
    ∃ w', (Builtin.delete_ #[t, k] ty #[.map (some b), kv x]).run P w = .ok (.tuple #[]) w' ∧ FMap P k e kl w' b n (fun y => if y = x then none else f y) ∧ w.mapTurned w' b := by
  obtain ⟨D, h1, h2⟩ := h
  obtain ⟨w', hrun, h3, h4⟩ := h1.drop K.keyed ht (K.enc x) ty
  exact ⟨w', hrun, ⟨_, h3, h2.del K x⟩, h4⟩
theorem turned_only (h : w.mapTurned w' b) : Only (fun i => i = b) w w' := by
  have hg := h.grown
  exact ⟨hg.os, hg.tape, hg.output, hg.size, fun i hi hn => hg.block i hi (fun e => hn (by injection e))⟩
theorem turned_size (h : w.mapTurned w' b) : w'.heap.size = w.heap.size := by
  obtain ⟨es, clock, es', clock', hb, rfl⟩ := h
  simp [ChangeMaps.setBlock]
end

section
variable {α : Type} {P : Program} {ops : Array Oper} {rest : List Oper} {o : Oper} {a : Act} {Q : Exit → Act → World → Prop} {w : World} {k e t : TypeId} {kv : α → Value} {kl : α → Lit} {b n : Nat} {f : α → Option Int}
/-- 'm[x] = c', at the operation. -/
theorem wpList_fm_update [DecidableEq α] (hg : o.guard = none) (m x v : Operand) (hop : o.op = Op.mapUpdate t m x v) (K : KeyEnc P k kv kl) (ht : P.underlying t = some (.map k e)) (he : P.underlying e = some (.int .i64)) (h : FMap P k e kl w b n f) (hn : n < maxLen)
    (y : α) (c : Int) (hm : a.eval m = .map (some b)) (hx : a.eval x = kv y) (hv : a.eval v = .int .i64 c) (hc : (Lit.int .i64 c).wf = true)
    (hK : ∀ w', FMap P k e kl w' b (n + 1) (fun z => if z = y then some c else f z) → w.mapTurned w' b → wpList P ops Q rest (a.put o.dst undef) w') : wpList P ops Q (o :: rest) a w := by
  refine wpList_plain hg fun K' hK' => ?_
  obtain ⟨w', hrun, r1, r2⟩ := h.update K ht he hn y hc
  unfold Oper.wp
  simp [execOp, hop, hm, hx, hv, hrun, Result.andThen]
  exact hK' _ _ (hK w' r1 r2)
/-- 'delete(m, x)', at the operation. -/
theorem wpList_fm_delete [DecidableEq α] (hg : o.guard = none) (m x : Operand) (hop : o.op = Op.call { callee := Callee.builtin Builtin.delete, args := #[m, x], argTypes := #[t, k] }) (K : KeyEnc P k kv kl) (ht : P.underlying t = some (.map k e)) (h : FMap P k e kl w b n f)
    (y : α) (hm : a.eval m = .map (some b)) (hx : a.eval x = kv y)
    (hK : ∀ w', FMap P k e kl w' b n (fun z => if z = y then none else f z) → w.mapTurned w' b → wpList P ops Q rest (a.put o.dst (.tuple #[])) w') : wpList P ops Q (o :: rest) a w := by
  refine wpList_plain hg fun K' hK' => ?_
  obtain ⟨w', hrun, r1, r2⟩ := h.drop K ht y o.type
  unfold Oper.wp
  simp [execOp, hop, resolve, invoke, builtin, hm, hx, hrun, Result.andThen]
  exact hK' _ _ (hK w' r1 r2)
end
end Go.Proofs.YthagpdhnblmokaaGreatDoor
