/- A struct result that lies in a block: what is returned. -/
import Derived.Test.YthagpdhnblmokaaGreatDoorBase
import Derived.Laws.Cells
namespace Go.Proofs.YthagpdhnblmokaaGreatDoor
open Go.RowKit

theorem loadVar_blk {P : Program} {w : World} {T T' : TypeId} {g : Nat} {l : List Value} (hA : ∀ w, (isAgg T).run P w = .ok true w) (hS : ∀ w, (sizeOf T).run P w = .ok l.length w) (hB : Blk w g T' l.toArray) :
    (loadVar T ⟨g, 0, none⟩).run P w = .ok (.agg l.toArray) w := by
  have h := run_loadCells_list (P := P) w ⟨g, 0, none⟩ l (fun j v hj => by
    have e : (⟨g, 0, none⟩ : Addr).add j = ⟨g, j, none⟩ := by unfold Addr.add; split <;> simp_all
    rw [e, hB.cell j]; simpa using hj)
  unfold loadVar
  simp only [Sem.run_bind, hA, Result.andThen, if_true, hS, h, Sem.run_pure]
theorem results_blk1 {P : Program} {fn : Func} {t : Tmp} {w : World} {T T' : TypeId} {g : Nat} {l : List Value} {tmps : Array Value} (h : fn.results = #[.cell t T]) (ht : tmps.getD t undef = .pointer (some ⟨g, 0, none⟩))
    (hA : ∀ w, (isAgg T).run P w = .ok true w) (hS : ∀ w, (sizeOf T).run P w = .ok l.length w) (hB : Blk w g T' l.toArray) : (results fn tmps).run P w = .ok (.agg l.toArray) w := by
  have e : (asAddr (.pointer (some ⟨g, 0, none⟩))).run P w = .ok ⟨g, 0, none⟩ w := by simp [asAddr]
  simp only [results, h]
  rw [Array.getD_eq_getD_getElem?] at ht
  simp [Sem.run_bind, Result.andThen, ht, e, loadVar_blk hA hS hB]
theorem results_blk2 {P : Program} {fn : Func} {t u : Tmp} {w : World} {T T' : TypeId} {g : Nat} {l : List Value} {tmps : Array Value} (h : fn.results = #[.cell t T, .tmp u]) (ht : tmps.getD t undef = .pointer (some ⟨g, 0, none⟩))
    (hA : ∀ w, (isAgg T).run P w = .ok true w) (hS : ∀ w, (sizeOf T).run P w = .ok l.length w) (hB : Blk w g T' l.toArray) : (results fn tmps).run P w = .ok (.tuple #[.agg l.toArray, tmps.getD u undef]) w := by
  have e : (asAddr (.pointer (some ⟨g, 0, none⟩))).run P w = .ok ⟨g, 0, none⟩ w := by simp [asAddr]
  rw [results_cell_tmp h]
  simp [Result.andThen, ht, e, loadVar_blk hA hS hB]

theorem below_only {B : Nat} {a w w' : World} {S : Nat → Prop} (h : Below B a w) (ho : Only S w w') (hB : B ≤ w.heap.size) (hS : ∀ i, S i → B ≤ i) : Below B a w' :=
  h.trans ⟨ho.os, ho.tape, ho.output, ho.size, fun i hi => ho.block i (by omega) (fun hs => by have := hS i hs; omega)⟩
theorem below_alloc {w W : World} (h : Below w.heap.size w W) (o : Obj) : Below w.heap.size w (W.alloc o) := h.alloc h.size o
theorem only_set1 (w : World) (g i : Nat) (u : Value) : Only (fun j => j = g) w (w.setCell ⟨g, i, none⟩ u) := (Only.refl (fun j => j = g) w).setCell (p := ⟨g, i, none⟩) (.inr rfl) u
theorem only_set2 (w : World) (g i j : Nat) (u v : Value) : Only (fun j => j = g) w ((w.setCell ⟨g, i, none⟩ u).setCell ⟨g, j, none⟩ v) := (only_set1 w g i u).trans (only_set1 _ g j v) (fun _ _ h => h)
theorem only_set5 (w : World) (g : Nat) (a b c d e : Value) : Only (fun j => j = g) w (((((w.setCell ⟨g, 0, none⟩ a).setCell ⟨g, 1, none⟩ b).setCell ⟨g, 2, none⟩ c).setCell ⟨g, 3, none⟩ d).setCell ⟨g, 4, none⟩ e) :=
  ((only_set2 w g 0 1 a b).trans (only_set2 _ g 2 3 c d) (fun _ _ h => h)).trans (only_set1 _ g 4 e) (fun _ _ h => h)
theorem blk_set5 {w : World} {g : Nat} {T : TypeId} {a0 b0 c0 d0 e0 : Value} (h : Blk w g T #[a0, b0, c0, d0, e0]) (a b c d e : Value) : Blk (((((w.setCell ⟨g, 0, none⟩ a).setCell ⟨g, 1, none⟩ b).setCell ⟨g, 2, none⟩ c).setCell ⟨g, 3, none⟩ d).setCell ⟨g, 4, none⟩ e) g T #[a, b, c, d, e] := by
  simpa using ((((h.set 0 a).set 1 b).set 2 c).set 3 d).set 4 e
end Go.Proofs.YthagpdhnblmokaaGreatDoor
