/- Lines of a journal in memory. -/
import Derived.Test.YthagpdhnblmokaaGreatDoorFRange
namespace Go.Proofs.YthagpdhnblmokaaGreatDoor
open Go.RowKit

structure MLine where
  key : MKey
  legs : List MLeg
  of : Nat
  deriving DecidableEq

/-- A line, and where its legs lie. -/
structure MRow where
  line : MLine
  addr : Option Addr
  cap : Nat
abbrev MRow.legsVal (r : MRow) : Value := .slice r.addr r.line.legs.length r.cap
def rowCells (r : MRow) : List Value := [.int .u32 r.line.key.loan.toNat, .int .i32 r.line.key.day.toInt, .int .u8 r.line.key.kind.toNat, .int .u32 r.line.key.seq.toNat, r.legsVal, .int .i64 r.line.of]
def rowsCells (rs : List MRow) : List Value := rs.flatMap rowCells
theorem rowsCells_length (rs : List MRow) : (rowsCells rs).length = rs.length * 6 := by
  induction rs with
  | nil => rfl
  | cons l r ih => simp only [rowsCells, List.flatMap_cons, List.length_append, List.length_cons] at *; simp only [rowCells, List.length_cons, List.length_nil]; omega
theorem rowsCells_append (a b : List MRow) : rowsCells (a ++ b) = rowsCells a ++ rowsCells b := by simp [rowsCells]
theorem rowsCells_at (rs : List MRow) (j : Nat) (r : MRow) (h : rs[j]? = some r) (i : Nat) (hi : i < 6) : (rowsCells rs)[j * 6 + i]? = (rowCells r)[i]? := by
  induction rs generalizing j with
  | nil => simp at h
  | cons x rs ih =>
    have e : rowsCells (x :: rs) = rowCells x ++ rowsCells rs := rfl
    cases j with
    | zero =>
      simp at h; subst h
      rw [e, List.getElem?_append_left (by simp [rowCells]; omega)]; simp
    | succ j =>
      have := ih j (by simpa using h)
      rw [e, show (j + 1) * 6 + i = 6 + (j * 6 + i) by omega]
      rw [List.getElem?_append_right (by simp [rowCells])]
      simpa [rowCells] using this
theorem rowsCells_one (rs : List MRow) : ∀ u ∈ rowsCells rs, u.oneCell' = true := by
  intro u hu
  simp only [rowsCells, List.mem_flatMap, rowCells, List.mem_cons, List.not_mem_nil, or_false] at hu
  obtain ⟨l, _, h⟩ := hu
  rcases h with rfl | rfl | rfl | rfl | rfl | rfl <;> rfl

/-- The legs of each line lie in blocks of S. -/
def LegsOf (w : World) (S : Nat → Prop) (rs : List MRow) : Prop := ∀ r ∈ rs, LegsAt w S r.addr r.line.legs.length r.line.legs ∧ (r.addr = none → r.line.legs.length = 0) ∧ r.line.legs.length ≤ 1000000
theorem LegsOf.only {w w' : World} {S T : Nat → Prop} {rs : List MRow} (h : LegsOf w S rs) (ho : Only T w w') (hd : ∀ b, S b → ¬ T b) : LegsOf w' S rs := fun r hr => ⟨(h r hr).1.only ho hd, (h r hr).2⟩
theorem LegsOf.mono {w : World} {S T : Nat → Prop} {rs : List MRow} (h : LegsOf w S rs) (hd : ∀ b, b < w.heap.size → S b → T b) : LegsOf w T rs := fun r hr => ⟨(h r hr).1.mono hd, (h r hr).2⟩
theorem LegsOf.append {w : World} {S : Nat → Prop} {rs : List MRow} {r : MRow} (h : LegsOf w S rs) (h1 : LegsAt w S r.addr r.line.legs.length r.line.legs) (h2 : r.addr = none → r.line.legs.length = 0) (h3 : r.line.legs.length ≤ 1000000) : LegsOf w S (rs ++ [r]) := by
  intro x hx
  rcases List.mem_append.1 hx with hx | hx
  · exact h x hx
  · simp only [List.mem_singleton] at hx; subst hx; exact ⟨h1, h2, h3⟩

/-- The six cells of a line of an owned row. -/
theorem own_row_cells {w : World} {base : Nat} {T : TypeId} {v : Value} {n : Nat} {rs : List MRow} (h : w.ownsRow base T 6 v n (rowsCells rs)) {j : Nat} {r : MRow} (hj : rs[j]? = some r) :
    ∃ g c, v = .slice (some ⟨g, 0, none⟩) n c ∧ base ≤ g ∧ g < w.heap.size ∧ n = rs.length ∧ w.cell? ⟨g, 0 + j * 6, none⟩ = some (.int .u32 r.line.key.loan.toNat) ∧ w.cell? ⟨g, 0 + j * 6 + 1, none⟩ = some (.int .i32 r.line.key.day.toInt) ∧ w.cell? ⟨g, 0 + j * 6 + 2, none⟩ = some (.int .u8 r.line.key.kind.toNat) ∧
      w.cell? ⟨g, 0 + j * 6 + 3, none⟩ = some (.int .u32 r.line.key.seq.toNat) ∧ w.cell? ⟨g, 0 + j * 6 + 4, none⟩ = some r.legsVal ∧ w.cell? ⟨g, 0 + j * 6 + 5, none⟩ = some (.int .i64 r.line.of) := by
  have hl := h.1
  rw [rowsCells_length] at hl
  have hn : rs.length = n := by omega
  have hjl : j < rs.length := (List.getElem?_eq_some_iff.1 hj).1
  obtain ⟨g, c, rfl, hb, hg⟩ : ∃ g c, v = .slice (some ⟨g, 0, none⟩) n c ∧ base ≤ g ∧ g < w.heap.size := by
    rcases h.2 with ⟨_, h0⟩ | ⟨g, cap, cur, rfl, hb, hh, _⟩
    · omega
    · exact ⟨g, cap, rfl, hb, (Array.getElem?_eq_some_iff.1 hh).1⟩
  have hc : ∀ i u, i < 6 → (rowCells r)[i]? = some u → w.cell? ⟨g, 0 + j * 6 + i, none⟩ = some u := fun i u hi hu => by
    have := h.cells (g := g) rfl (j * 6 + i) u (by rw [rowsCells_at rs j r hj i hi]; exact hu)
    rw [addr_add] at this
    rw [show 0 + j * 6 + i = 0 + (j * 6 + i) by omega]; exact this
  exact ⟨g, c, rfl, hb, hg, hn.symm, hc 0 _ (by omega) rfl, hc 1 _ (by omega) rfl, hc 2 _ (by omega) rfl, hc 3 _ (by omega) rfl, hc 4 _ (by omega) rfl, hc 5 _ (by omega) rfl⟩
end Go.Proofs.YthagpdhnblmokaaGreatDoor
