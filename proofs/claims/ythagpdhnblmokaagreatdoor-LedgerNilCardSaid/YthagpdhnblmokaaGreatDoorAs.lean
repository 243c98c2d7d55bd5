/- errors.As at this program's errors. -/
import Derived.Test.YthagpdhnblmokaaGreatDoorAsFacts2
namespace Go.Proofs.YthagpdhnblmokaaGreatDoor
open Go.RowKit Go.Extern.Stop Go.Stop Go.Extern

set_option maxRecDepth 100000 in
set_option maxHeartbeats 4000000 in
theorem erras_errno (n : Int) (t v : Addr) (tg : Value) (old : Value) (w : World) (hv : w.cell? v = some (.pointer (some t))) (ht0 : w.cell? t = some old) (hf0 : w.frozen? t = false) :
    Calls Tryz.prog 156 #[.iface 69 (.int .i64 n), tg, .agg #[hdl 168, .pointer (some v), .int .u64 150], .iface 331 (.agg #[hdl 69])] w fun ev w' => ev = .returned (.bool true) ∧ w'.cell? t = some (.int .i64 n) ∧ Only (fun i => i = t.block) w w' := by
  have x1 := Tryz.xTypeOf
  have x2 := Tryz.xAssignable
  have x3 := Tryz.xElemV
  have x4 := Tryz.xSet
  have x5 := Tryz.xValueOf
  have tO := Tryz.rlTypeOfErrno
  have mA := Tryz.methodAssignableTo
  have aE := Tryz.rlAssErrnoN
  have vE := Tryz.rlValueOfErrno
  have hvl : v.block < w.heap.size := by
    rcases Nat.lt_or_ge v.block w.heap.size with h | h
    · exact h
    · simp [World.cell?, Array.getElem?_eq_none h] at hv
  have htl : t.block < w.heap.size := by
    rcases Nat.lt_or_ge t.block w.heap.size with h | h
    · exact h
    · simp [World.cell?, Array.getElem?_eq_none h] at ht0
  have el := Tryz.rlElemVN v t (w.alloc (.cells #[hdl 168, .pointer (some v), .int .u64 150] 257)) (by rw [World.cell?_alloc_lt _ _ v hvl]; exact hv)
  have st := Tryz.rlSetN t ⟨w.heap.size + 1, 0, none⟩ old (.int .i64 n) ((w.alloc (.cells #[hdl 168, .pointer (some v), .int .u64 150] 257)).alloc (.cells #[.int .i64 n] 69)) ⟨n, rfl⟩
    (by rw [World.cell?_alloc_at _ _ _ _ (by simp)]; rfl)
    (by rw [World.cell?_alloc_lt _ _ t (by simp; omega), World.cell?_alloc_lt _ _ t htl]; exact ht0)
    (by rw [World.frozen?_alloc_old _ _ t (by simp; omega), World.frozen?_alloc_old _ _ t (Nat.ne_of_lt htl)]; exact hf0)
  go_enter Tryz.func156, Tryz.ntmps156
  go_wp2
  refine wp_loop_rounds 1 ?_
  rw [rounds_succ]
  go_wp2
  go_ret
  refine ⟨rfl, ?_, ((((Only.refl (fun i => i = t.block) w).alloc _).alloc _).setCell (.inr rfl) _)⟩
  refine World.cell?_setCell_same' _ _ _ ?_
  rw [World.cell?_alloc_lt _ _ t (by simp; omega), World.cell?_alloc_lt _ _ t htl, ht0]; rfl
set_option maxRecDepth 100000 in
set_option maxHeartbeats 4000000 in
theorem erras_faultF (p : Addr) (t v : Addr) (tg : Value) (old : Value) (w : World) (hv : w.cell? v = some (.pointer (some t))) (ht0 : w.cell? t = some old) (hf0 : w.frozen? t = false) :
    Calls Tryz.prog 156 #[.iface 163 (.pointer (some p)), tg, .agg #[hdl 178, .pointer (some v), .int .u64 150], .iface 331 (.agg #[hdl 163])] w fun ev w' => ev = .returned (.bool true) ∧ w'.cell? t = some (.pointer (some p)) ∧ Only (fun i => i = t.block) w w' := by
  have x1 := Tryz.xTypeOf
  have x2 := Tryz.xAssignable
  have x3 := Tryz.xElemV
  have x4 := Tryz.xSet
  have x5 := Tryz.xValueOf
  have tO := Tryz.rlTypeOfPFault
  have mA := Tryz.methodAssignableTo
  have aE := Tryz.rlAssPFaultF
  have vE := Tryz.rlValueOfPFault
  have hvl : v.block < w.heap.size := by
    rcases Nat.lt_or_ge v.block w.heap.size with h | h
    · exact h
    · simp [World.cell?, Array.getElem?_eq_none h] at hv
  have htl : t.block < w.heap.size := by
    rcases Nat.lt_or_ge t.block w.heap.size with h | h
    · exact h
    · simp [World.cell?, Array.getElem?_eq_none h] at ht0
  have el := Tryz.rlElemVF v t (w.alloc (.cells #[hdl 178, .pointer (some v), .int .u64 150] 257)) (by rw [World.cell?_alloc_lt _ _ v hvl]; exact hv)
  have st := Tryz.rlSetF t ⟨w.heap.size + 1, 0, none⟩ old (.pointer (some p)) ((w.alloc (.cells #[hdl 178, .pointer (some v), .int .u64 150] 257)).alloc (.cells #[.pointer (some p)] 163)) ⟨p, rfl⟩
    (by rw [World.cell?_alloc_at _ _ _ _ (by simp)]; rfl)
    (by rw [World.cell?_alloc_lt _ _ t (by simp; omega), World.cell?_alloc_lt _ _ t htl]; exact ht0)
    (by rw [World.frozen?_alloc_old _ _ t (by simp; omega), World.frozen?_alloc_old _ _ t (Nat.ne_of_lt htl)]; exact hf0)
  go_enter Tryz.func156, Tryz.ntmps156
  go_wp2
  refine wp_loop_rounds 1 ?_
  rw [rounds_succ]
  go_wp2
  go_ret
  refine ⟨rfl, ?_, ((((Only.refl (fun i => i = t.block) w).alloc _).alloc _).setCell (.inr rfl) _)⟩
  refine World.cell?_setCell_same' _ _ _ ?_
  rw [World.cell?_alloc_lt _ _ t (by simp; omega), World.cell?_alloc_lt _ _ t htl, ht0]; rfl

set_option maxHeartbeats 1000000 in
theorem unwrap_any (g : Nat) (e0 e : Value) (w : World) (hB : Blk w g 165 #[e0, e]) : Calls Tryz.prog 330 #[.pointer (some ⟨g, 0, none⟩)] w fun ev w' => ev = .returned e ∧ w = w' := by
  have hc := hB.cell
  go_enter Tryz.func330, Tryz.ntmps330
  go_wp2
  go_ret
  exact ⟨rfl, rfl⟩

set_option maxRecDepth 100000 in
set_option maxHeartbeats 4000000 in
theorem erras_fault (n : Int) (g : Nat) (e0 : Value) (t v : Addr) (tg : Value) (old : Value) (w : World) (hB : Blk w g 165 #[e0, errV n]) (hv : w.cell? v = some (.pointer (some t))) (ht0 : w.cell? t = some old) (hf0 : w.frozen? t = false) :
    Calls Tryz.prog 156 #[.iface 163 (.pointer (some ⟨g, 0, none⟩)), tg, .agg #[hdl 168, .pointer (some v), .int .u64 150], .iface 331 (.agg #[hdl 69])] w fun ev w' => ev = .returned (.bool true) ∧ w'.cell? t = some (.int .i64 n) ∧ Only (fun i => i = t.block) w w' := by
  have x1 := Tryz.xTypeOf
  have x2 := Tryz.xAssignable
  have x3 := Tryz.xElemV
  have x4 := Tryz.xSet
  have x5 := Tryz.xValueOf
  have tO := Tryz.rlTypeOfErrno
  have tO2 := Tryz.rlTypeOfPFault
  have mA := Tryz.methodAssignableTo
  have mU := Tryz.methodUnwrap
  have aE := Tryz.rlAssErrnoN
  have aE2 := Tryz.rlAssPFaultN
  have ta1 := Tryz.taAsPFault
  have ta2 := Tryz.taUnwrapPFault
  have vE := Tryz.rlValueOfErrno
  have hvl : v.block < w.heap.size := by
    rcases Nat.lt_or_ge v.block w.heap.size with h | h
    · exact h
    · simp [World.cell?, Array.getElem?_eq_none h] at hv
  have htl : t.block < w.heap.size := by
    rcases Nat.lt_or_ge t.block w.heap.size with h | h
    · exact h
    · simp [World.cell?, Array.getElem?_eq_none h] at ht0
  have el := Tryz.rlElemVN v t (w.alloc (.cells #[hdl 168, .pointer (some v), .int .u64 150] 257)) (by rw [World.cell?_alloc_lt _ _ v hvl]; exact hv)
  have st := Tryz.rlSetN t ⟨w.heap.size + 1, 0, none⟩ old (.int .i64 n) ((w.alloc (.cells #[hdl 168, .pointer (some v), .int .u64 150] 257)).alloc (.cells #[.int .i64 n] 69)) ⟨n, rfl⟩
    (by rw [World.cell?_alloc_at _ _ _ _ (by simp)]; rfl)
    (by rw [World.cell?_alloc_lt _ _ t (by simp; omega), World.cell?_alloc_lt _ _ t htl]; exact ht0)
    (by rw [World.frozen?_alloc_old _ _ t (by simp; omega), World.frozen?_alloc_old _ _ t (Nat.ne_of_lt htl)]; exact hf0)
  have hun := unwrap_any g e0 (errV n) (w.alloc (.cells #[hdl 168, .pointer (some v), .int .u64 150] 257)) (hB.alloc _)
  have hHB := Lib.hid hB
  clear hB
  go_enter Tryz.func156, Tryz.ntmps156
  go_wp2
  refine wp_loop_rounds 2 ?_
  rw [rounds_succ]
  go_wp2_with (go_at_call 330; refine hun.mono ?_; rintro e w1 ⟨rfl, rfl⟩)
  rw [rounds_succ]
  go_wp2
  go_ret
  refine ⟨rfl, ?_, ((((Only.refl (fun i => i = t.block) w).alloc _).alloc _).setCell (.inr rfl) _)⟩
  refine World.cell?_setCell_same' _ _ _ ?_
  rw [World.cell?_alloc_lt _ _ t (by simp; omega), World.cell?_alloc_lt _ _ t htl, ht0]; rfl

set_option maxRecDepth 100000 in
set_option maxHeartbeats 4000000 in
theorem errAs_errno (n : Int) (t : Addr) (old : Value) (w : World) (hg : w.cell? ⟨0, 0, none⟩ = some (.iface 331 (.agg #[hdl 67]))) (ht0 : w.cell? t = some old) (hf0 : w.frozen? t = false) :
    Calls Tryz.prog 78 #[errV n, .iface 168 (.pointer (some t))] w fun ev w' => ev = .returned (.bool true) ∧ w'.cell? t = some (.int .i64 n) ∧ Only (fun i => i = t.block) w w' := by
  have x1 := Tryz.xValueOf
  have x2 := Tryz.xType
  have x3 := Tryz.xIsNil
  have x4 := Tryz.xKind
  have x5 := Tryz.xElemT
  have x6 := Tryz.xImplements
  have vP := Tryz.rlValueOfPErrno
  have tP := Tryz.rlTypeN
  have mK := Tryz.methodKind
  have mE := Tryz.methodElem
  have mI := Tryz.methodImplements
  have kP := Tryz.rlKindPN
  have kE := Tryz.rlKindEN
  have eP := Tryz.rlElemN
  have iE := Tryz.rlImplN
  have hlt : 0 < w.heap.size := by
    rcases Nat.eq_zero_or_pos w.heap.size with h0 | h
    · simp [World.cell?, h0] at hg
    · exact h
  have htl : t.block < w.heap.size := by
    rcases Nat.lt_or_ge t.block w.heap.size with h | h
    · exact h
    · simp [World.cell?, Array.getElem?_eq_none h] at ht0
  have n8 := Tryz.rlIsNilN ⟨w.heap.size, 0, none⟩ t ((w.alloc (.cells #[.pointer (some t)] 168)).alloc (.cells #[hdl 168, .pointer (some ⟨w.heap.size, 0, none⟩), .int .u64 150] 257)) (by simp)
  have hg2 : ((w.alloc (.cells #[.pointer (some t)] 168)).alloc (.cells #[hdl 168, .pointer (some ⟨w.heap.size, 0, none⟩), .int .u64 150] 257)).cell? ⟨0, 0, none⟩ = some (.iface 331 (.agg #[hdl 67])) := by
    rw [World.cell?_alloc_lt _ _ ⟨0, 0, none⟩ (by simp), World.cell?_alloc_lt _ _ ⟨0, 0, none⟩ hlt]; exact hg
  have hin := erras_errno n t ⟨w.heap.size, 0, none⟩ (.iface 168 (.pointer (some t))) old ((w.alloc (.cells #[.pointer (some t)] 168)).alloc (.cells #[hdl 168, .pointer (some ⟨w.heap.size, 0, none⟩), .int .u64 150] 257)) (by simp)
    (by rw [World.cell?_alloc_lt _ _ t (by simp; omega), World.cell?_alloc_lt _ _ t htl]; exact ht0)
    (by rw [World.frozen?_alloc_old _ _ t (by simp; omega), World.frozen?_alloc_old _ _ t (Nat.ne_of_lt htl)]; exact hf0)
  have hHin := Lib.hid hin
  clear hin
  go_enter Tryz.func78, Tryz.ntmps78
  go_wp2_with (go_at_call 156; refine hHin.out.mono ?_; rintro e w1 ⟨rfl, h1, h2⟩; (have h1' := Lib.hid h1); clear h1)
  go_ret
  exact ⟨rfl, h1'.out, (((Only.refl (fun i => i = t.block) w).alloc _).alloc _).trans h2 (fun _ _ h => h)⟩

set_option maxRecDepth 100000 in
set_option maxHeartbeats 4000000 in
theorem errAs_fault (n : Int) (g : Nat) (e0 : Value) (t : Addr) (old : Value) (w : World) (hg : w.cell? ⟨0, 0, none⟩ = some (.iface 331 (.agg #[hdl 67]))) (hB : Blk w g 165 #[e0, errV n]) (ht0 : w.cell? t = some old) (hf0 : w.frozen? t = false) :
    Calls Tryz.prog 78 #[.iface 163 (.pointer (some ⟨g, 0, none⟩)), .iface 168 (.pointer (some t))] w fun ev w' => ev = .returned (.bool true) ∧ w'.cell? t = some (.int .i64 n) ∧ Only (fun i => i = t.block) w w' := by
  have x1 := Tryz.xValueOf
  have x2 := Tryz.xType
  have x3 := Tryz.xIsNil
  have x4 := Tryz.xKind
  have x5 := Tryz.xElemT
  have x6 := Tryz.xImplements
  have vP := Tryz.rlValueOfPErrno
  have tP := Tryz.rlTypeN
  have mK := Tryz.methodKind
  have mE := Tryz.methodElem
  have mI := Tryz.methodImplements
  have kP := Tryz.rlKindPN
  have kE := Tryz.rlKindEN
  have eP := Tryz.rlElemN
  have iE := Tryz.rlImplN
  have hlt : 0 < w.heap.size := by
    rcases Nat.eq_zero_or_pos w.heap.size with h0 | h
    · simp [World.cell?, h0] at hg
    · exact h
  have htl : t.block < w.heap.size := by
    rcases Nat.lt_or_ge t.block w.heap.size with h | h
    · exact h
    · simp [World.cell?, Array.getElem?_eq_none h] at ht0
  have n8 := Tryz.rlIsNilN ⟨w.heap.size, 0, none⟩ t ((w.alloc (.cells #[.pointer (some t)] 168)).alloc (.cells #[hdl 168, .pointer (some ⟨w.heap.size, 0, none⟩), .int .u64 150] 257)) (by simp)
  have hg2 : ((w.alloc (.cells #[.pointer (some t)] 168)).alloc (.cells #[hdl 168, .pointer (some ⟨w.heap.size, 0, none⟩), .int .u64 150] 257)).cell? ⟨0, 0, none⟩ = some (.iface 331 (.agg #[hdl 67])) := by
    rw [World.cell?_alloc_lt _ _ ⟨0, 0, none⟩ (by simp), World.cell?_alloc_lt _ _ ⟨0, 0, none⟩ hlt]; exact hg
  have hin := erras_fault n g e0 t ⟨w.heap.size, 0, none⟩ (.iface 168 (.pointer (some t))) old ((w.alloc (.cells #[.pointer (some t)] 168)).alloc (.cells #[hdl 168, .pointer (some ⟨w.heap.size, 0, none⟩), .int .u64 150] 257)) ((hB.alloc _).alloc _) (by simp)
    (by rw [World.cell?_alloc_lt _ _ t (by simp; omega), World.cell?_alloc_lt _ _ t htl]; exact ht0)
    (by rw [World.frozen?_alloc_old _ _ t (by simp; omega), World.frozen?_alloc_old _ _ t (Nat.ne_of_lt htl)]; exact hf0)
  have hHin := Lib.hid hin
  clear hin hB
  go_enter Tryz.func78, Tryz.ntmps78
  go_wp2_with (go_at_call 156; refine hHin.out.mono ?_; rintro e w1 ⟨rfl, h1, h2⟩; (have h1' := Lib.hid h1); clear h1)
  go_ret
  exact ⟨rfl, h1'.out, (((Only.refl (fun i => i = t.block) w).alloc _).alloc _).trans h2 (fun _ _ h => h)⟩

set_option maxRecDepth 100000 in
set_option maxHeartbeats 4000000 in
theorem errAs_faultF (p : Addr) (t : Addr) (old : Value) (w : World) (hg : w.cell? ⟨0, 0, none⟩ = some (.iface 331 (.agg #[hdl 67]))) (ht0 : w.cell? t = some old) (hf0 : w.frozen? t = false) :
    Calls Tryz.prog 78 #[.iface 163 (.pointer (some p)), .iface 178 (.pointer (some t))] w fun ev w' => ev = .returned (.bool true) ∧ w'.cell? t = some (.pointer (some p)) ∧ Only (fun i => i = t.block) w w' := by
  have x1 := Tryz.xValueOf
  have x2 := Tryz.xType
  have x3 := Tryz.xIsNil
  have x4 := Tryz.xKind
  have x5 := Tryz.xElemT
  have x6 := Tryz.xImplements
  have vP := Tryz.rlValueOfPPFault
  have tP := Tryz.rlTypeF
  have mK := Tryz.methodKind
  have mE := Tryz.methodElem
  have mI := Tryz.methodImplements
  have kP := Tryz.rlKindPF
  have kE := Tryz.rlKindEF
  have eP := Tryz.rlElemF
  have iE := Tryz.rlImplF
  have hlt : 0 < w.heap.size := by
    rcases Nat.eq_zero_or_pos w.heap.size with h0 | h
    · simp [World.cell?, h0] at hg
    · exact h
  have htl : t.block < w.heap.size := by
    rcases Nat.lt_or_ge t.block w.heap.size with h | h
    · exact h
    · simp [World.cell?, Array.getElem?_eq_none h] at ht0
  have n8 := Tryz.rlIsNilF ⟨w.heap.size, 0, none⟩ t ((w.alloc (.cells #[.pointer (some t)] 178)).alloc (.cells #[hdl 178, .pointer (some ⟨w.heap.size, 0, none⟩), .int .u64 150] 257)) (by simp)
  have hg2 : ((w.alloc (.cells #[.pointer (some t)] 178)).alloc (.cells #[hdl 178, .pointer (some ⟨w.heap.size, 0, none⟩), .int .u64 150] 257)).cell? ⟨0, 0, none⟩ = some (.iface 331 (.agg #[hdl 67])) := by
    rw [World.cell?_alloc_lt _ _ ⟨0, 0, none⟩ (by simp), World.cell?_alloc_lt _ _ ⟨0, 0, none⟩ hlt]; exact hg
  have hin := erras_faultF p t ⟨w.heap.size, 0, none⟩ (.iface 178 (.pointer (some t))) old ((w.alloc (.cells #[.pointer (some t)] 178)).alloc (.cells #[hdl 178, .pointer (some ⟨w.heap.size, 0, none⟩), .int .u64 150] 257)) (by simp)
    (by rw [World.cell?_alloc_lt _ _ t (by simp; omega), World.cell?_alloc_lt _ _ t htl]; exact ht0)
    (by rw [World.frozen?_alloc_old _ _ t (by simp; omega), World.frozen?_alloc_old _ _ t (Nat.ne_of_lt htl)]; exact hf0)
  have hHin := Lib.hid hin
  clear hin
  go_enter Tryz.func78, Tryz.ntmps78
  go_wp2_with (go_at_call 156; refine hHin.out.mono ?_; rintro e w1 ⟨rfl, h1, h2⟩; (have h1' := Lib.hid h1); clear h1)
  go_ret
  exact ⟨rfl, h1'.out, (((Only.refl (fun i => i = t.block) w).alloc _).alloc _).trans h2 (fun _ _ h => h)⟩

end Go.Proofs.YthagpdhnblmokaaGreatDoor
