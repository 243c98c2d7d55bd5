/- api.Code and api.At. -/
import Derived.Test.YthagpdhnblmokaaGreatDoorAs
import Derived.Test.YthagpdhnblmokaaGreatDoorRes
namespace Go.Proofs.YthagpdhnblmokaaGreatDoor
open Go.RowKit

/-- What errors.As reads: the handle of the type 'error'. -/
def Glob (w : World) : Prop := w.cell? ⟨0, 0, none⟩ = some (.iface 331 (.agg #[hdl 67]))
theorem Glob.only {w w' : World} {S : Nat → Prop} (h : Glob w) (ho : Only S w w') (hn : ¬ S 0) : Glob w' := by
  have hlt : 0 < w.heap.size := by
    rcases Nat.eq_zero_or_pos w.heap.size with h0 | h1
    · unfold Glob at h; simp [World.cell?, h0] at h
    · exact h1
  exact (ho.cell (p := ⟨0, 0, none⟩) hlt hn).trans h

set_option maxHeartbeats 1000000 in
theorem code_nil (w : World) : Calls Tryz.prog 27 #[.nilIface] w fun e w' => e = .returned (.int .i64 0) ∧ w = w' := by
  go_enter Tryz.func27, Tryz.ntmps27
  go_wp2
  go_ret
  exact ⟨rfl, rfl⟩
set_option maxHeartbeats 1000000 in
theorem code_errno (n : Int) (w : World) (hg : Glob w) : Calls Tryz.prog 27 #[errV n] w fun e w' => e = .returned (.int .i64 n) ∧ Below w.heap.size w w' := by
  have hh := errAs_errno n ⟨w.heap.size, 0, none⟩ (.int .i64 0) (w.alloc (.cells #[.int .i64 0] 69)) (hg.only ((Only.refl (fun _ => False) w).alloc _) (fun h => h)) (by simp) (by simp)
  have hHh := Lib.hid hh
  clear hh
  go_enter Tryz.func27, Tryz.ntmps27
  go_wp2_with (go_at_call 78; refine hHh.out.mono ?_; rintro e w1 ⟨rfl, h1, h2⟩; (have h2' := Lib.hid h2); clear h2)
  go_ret
  exact ⟨rfl, below_only ((Below.refl _ _).alloc (Nat.le_refl _) _) h2'.out (by simp) (fun i e => by subst e; exact Nat.le_refl _)⟩
set_option maxHeartbeats 1000000 in
theorem code_fault (n : Int) (g : Nat) (e0 : Value) (w : World) (hg : Glob w) (hB : Blk w g 165 #[e0, errV n]) : Calls Tryz.prog 27 #[.iface 163 (.pointer (some ⟨g, 0, none⟩))] w fun e w' => e = .returned (.int .i64 n) ∧ Below w.heap.size w w' := by
  have hh := errAs_fault n g e0 ⟨w.heap.size, 0, none⟩ (.int .i64 0) (w.alloc (.cells #[.int .i64 0] 69)) (hg.only ((Only.refl (fun _ => False) w).alloc _) (fun h => h)) (hB.alloc _) (by simp) (by simp)
  have hHh := Lib.hid hh
  clear hh hB
  go_enter Tryz.func27, Tryz.ntmps27
  go_wp2_with (go_at_call 78; refine hHh.out.mono ?_; rintro e w1 ⟨rfl, h1, h2⟩; (have h2' := Lib.hid h2); clear h2)
  go_ret
  exact ⟨rfl, below_only ((Below.refl _ _).alloc (Nat.le_refl _) _) h2'.out (by simp) (fun i e => by subst e; exact Nat.le_refl _)⟩
set_option maxHeartbeats 1000000 in
theorem at_fault (n : Int) (g : Nat) (e1 : Value) (w : World) (hg : Glob w) (hB : Blk w g 165 #[.int .u64 n, e1]) : Calls Tryz.prog 32 #[.iface 163 (.pointer (some ⟨g, 0, none⟩))] w fun e w' => e = .returned (.int .u64 n) ∧ Below w.heap.size w w' := by
  have hh := errAs_faultF ⟨g, 0, none⟩ ⟨w.heap.size, 0, none⟩ (.pointer none) (w.alloc (.cells #[.pointer none] 163)) (hg.only ((Only.refl (fun _ => False) w).alloc _) (fun h => h)) (by simp) (by simp)
  have hHh := Lib.hid hh
  have hgl := hB.lt
  clear hh
  go_enter Tryz.func32, Tryz.ntmps32
  go_wp2_with (go_at_call 78; refine hHh.out.mono ?_; rintro e w1 ⟨rfl, h1, h2⟩
               have hB1 := (hB.alloc (.cells #[.pointer none] 163)).only h2 (fun e => (by have e' : g = w.heap.size := e; omega))
               have hc1 := hB1.cell
               (have h2' := Lib.hid h2); clear h2)
  go_ret
  exact ⟨rfl, below_only ((Below.refl _ _).alloc (Nat.le_refl _) _) h2'.out (by simp) (fun i e => by subst e; exact Nat.le_refl _)⟩
end Go.Proofs.YthagpdhnblmokaaGreatDoor
