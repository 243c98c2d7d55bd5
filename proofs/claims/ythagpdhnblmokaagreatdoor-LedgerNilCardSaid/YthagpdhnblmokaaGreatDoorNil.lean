/- A nil ledger, and a ledger above a base: what the three laws of the ledger use. -/
import Derived.Test.YthagpdhnblmokaaGreatDoorReverse
import Derived.Test.YthagpdhnblmokaaGreatDoorSame
namespace Go.Proofs.YthagpdhnblmokaaGreatDoor
open Go.RowKit Go.Maps

set_option maxHeartbeats 1000000 in
theorem post_nil (k : MKey) (v : Value) (w : World) : Calls Tryz.prog 26 #[.pointer none, entVal k v] w fun e w' => e = .returned (errV 3) ∧ Below w.heap.size w w' := by
  go_enter Tryz.func26, Tryz.ntmps26
  go_wp2
  go_ret
  exact ⟨rfl, by go_grown⟩
set_option maxHeartbeats 1000000 in
theorem reverse_nil (k : MKey) (w : World) : Calls Tryz.prog 28 #[.pointer none, keyVal k] w fun e w' => e = .returned (errV 3) ∧ Below w.heap.size w w' := by
  go_enter Tryz.func28, Tryz.ntmps28
  go_wp2
  go_ret
  exact ⟨rfl, by go_grown⟩
set_option maxHeartbeats 1000000 in
theorem loan_nil (n : Int) (w : World) : Calls Tryz.prog 19 #[.pointer none, .int .u32 n] w fun e w' => e = .returned (.slice none 0 0) ∧ w = w' := by
  go_enter Tryz.func19, Tryz.ntmps19
  go_wp2
  go_ret
  exact ⟨rfl, rfl⟩
set_option maxHeartbeats 1000000 in
theorem loans_nil (w : World) : Calls Tryz.prog 18 #[.pointer none] w fun e w' => e = .returned (.slice none 0 0) ∧ w = w' := by
  go_enter Tryz.func18, Tryz.ntmps18
  go_wp2
  go_ret
  exact ⟨rfl, rfl⟩
set_option maxHeartbeats 1000000 in
theorem lBytes_nil (w : World) : Calls Tryz.prog 29 #[.pointer none] w fun e w' => e = .returned (.slice none 0 0) ∧ w = w' := by
  go_enter Tryz.func29, Tryz.ntmps29
  go_wp2
  go_ret
  exact ⟨rfl, rfl⟩
set_option maxHeartbeats 1000000 in
theorem lCopy_nil (w : World) : Calls Tryz.prog 21 #[.pointer none] w fun e w' => e = .returned (.pointer none) ∧ w = w' := by
  go_enter Tryz.func21, Tryz.ntmps21
  go_wp2
  go_ret
  exact ⟨rfl, rfl⟩
set_option maxHeartbeats 1000000 in
theorem balance_nil (n a : Int) (w : World) : Calls Tryz.prog 20 #[.pointer none, .int .u32 n, .int .u8 a] w fun e w' => e = .returned (.int .i64 0) ∧ w = w' := by
  go_enter Tryz.func20, Tryz.ntmps20
  go_wp2
  go_ret
  exact ⟨rfl, rfl⟩
set_option maxHeartbeats 1000000 in
theorem control_nil (a : Int) (w : World) : Calls Tryz.prog 30 #[.pointer none, .int .u8 a] w fun e w' => e = .returned (.int .i64 0) ∧ w = w' := by
  go_enter Tryz.func30, Tryz.ntmps30
  go_wp2
  go_ret
  exact ⟨rfl, rfl⟩
set_option maxHeartbeats 1000000 in
theorem lSame_nn (w : World) : Calls Tryz.prog 31 #[.pointer none, .pointer none] w fun e w' => e = .returned (.bool true) ∧ w = w' := by
  go_enter Tryz.func31, Tryz.ntmps31
  go_wp2
  go_ret
  exact ⟨rfl, rfl⟩
set_option maxHeartbeats 1000000 in
theorem lSame_np (g : Nat) (w : World) : Calls Tryz.prog 31 #[.pointer none, .pointer (some ⟨g, 0, none⟩)] w fun e w' => e = .returned (.bool false) ∧ w = w' := by
  go_enter Tryz.func31, Tryz.ntmps31
  go_wp2
  go_ret
  exact ⟨rfl, rfl⟩

/-! ### A ledger whose blocks all lie above a base -/
def LedAbove (w : World) (base g : Nat) (L : List MLine) : Prop := base ≤ w.heap.size ∧ ∃ M S : Nat → Prop, IsLed w g M S L ∧ (∀ b, M b → base ≤ b) ∧ (∀ b, S b → base ≤ b)
theorem IsLed.lts {w : World} {g : Nat} {M S : Nat → Prop} {L : List MLine} (h : IsLed w g M S L) : (∀ b, M b → b < w.heap.size) ∧ (∀ b, S b → b < w.heap.size) := by
  obtain ⟨v, bl, bs, nl, ns, rs, fl, fs, hr, _⟩ := h
  exact ⟨hr.mlt, hr.slt⟩
theorem LedAbove.only {w w' : World} {base g : Nat} {L : List MLine} {T : Nat → Prop} (h : LedAbove w base g L) (ho : Only T w w') (hT : ∀ b, b < w.heap.size → T b → b < base) : LedAbove w' base g L := by
  obtain ⟨hb, M, S, hl, hM, hS⟩ := h
  obtain ⟨h1, h2⟩ := hl.lts
  refine ⟨Nat.le_trans hb ho.size, M, S, hl.only ho (fun b hm ht => ?_) (fun b hm ht => ?_), hM, hS⟩
  · have := hM b hm; have := hT b (h1 b hm) ht; omega
  · have := hS b hm; have := hT b (h2 b hm) ht; omega
theorem LedAbove.below {w w' : World} {base g : Nat} {L : List MLine} (h : LedAbove w base g L) (hb : Below w.heap.size w w') : LedAbove w' base g L := h.only (Only.of_below (S := fun _ => False) hb) (fun _ _ h => h.elim)
theorem new_above (w : World) : Calls Tryz.prog 16 #[] w fun e w' => ∃ g, e = .returned (.pointer (some ⟨g, 0, none⟩)) ∧ LedAbove w' w.heap.size g [] ∧ Below w.heap.size w w' :=
  (lNew_any w).mono fun _e _w' ⟨g, he, _, hl, hb⟩ => ⟨g, he, ⟨hb.size, _, _, hl, fun _ h => h.1, fun _ h => h.elim⟩, hb⟩
theorem step_above {base g : Nat} {M S : Nat → Prop} {L' : List MLine} {n : UInt32} {w w' : World} {e : Ending} (hM : ∀ b, M b → base ≤ b) (hS : ∀ b, S b → base ≤ b) (hb : base ≤ w.heap.size) (h : StepOut g M S L' 0 n w e w') :
    e = .returned .nilIface ∧ LedAbove w' base g L' ∧ Below base w w' := by
  rcases h with ⟨_, he, M', S', hl, hO, hM', hS'⟩ | ⟨h, _⟩
  · refine ⟨he, ⟨Nat.le_trans hb hO.size, M', S', hl, fun b h => ?_, fun b h => ?_⟩, hO.below hb (fun i hi h => by have := hM i h; omega)⟩
    · rcases Nat.lt_or_ge b w.heap.size with h1 | h1
      · exact hM b (hM' b h1 h)
      · omega
    · rcases Nat.lt_or_ge b w.heap.size with h1 | h1
      · exact hS b (hS' b h1 h)
      · omega
  · exact absurd rfl h
theorem post_above (base g : Nat) (S0 : Nat → Prop) (L : List MLine) (k : MKey) (A : Option Addr) (n c : Nat) (ls : List MLeg) (w : World) (h : LedAbove w base g L) (hl : LegsAt w S0 A n ls) (hA : A = none → n = 0) (hn : n ≤ 1000000) (hL : L.length ≤ 1000000) (hc : postCode k ls L = 0) :
    Calls Tryz.prog 26 #[.pointer (some ⟨g, 0, none⟩), entVal k (.slice A n c)] w fun e w' => e = .returned .nilIface ∧ LedAbove w' base g (L ++ [⟨k, ls, 0⟩]) ∧ Below base w w' := by
  obtain ⟨hb, M, S, hd, hM, hS⟩ := h
  have := post_any g M S S0 L k A n c ls w hd hl hA hn hL
  rw [hc] at this
  exact this.mono fun e w' h => step_above hM hS hb h
theorem post_fault (base g : Nat) (S0 : Nat → Prop) (L : List MLine) (k : MKey) (A : Option Addr) (n c : Nat) (ls : List MLeg) (w : World) (h : LedAbove w base g L) (hl : LegsAt w S0 A n ls) (hA : A = none → n = 0) (hn : n ≤ 1000000) (hL : L.length ≤ 1000000) (hc : postCode k ls L = 10) :
    Calls Tryz.prog 26 #[.pointer (some ⟨g, 0, none⟩), entVal k (.slice A n c)] w fun e w' => IsFault w w' k.loan 10 e := by
  obtain ⟨hb, M, S, hd, hM, hS⟩ := h
  have := post_any g M S S0 L k A n c ls w hd hl hA hn hL
  rw [hc] at this
  refine this.mono fun e w' h => ?_
  rcases h with ⟨h, _⟩ | ⟨_, hbl, ⟨_, h | h⟩ | h⟩
  · cases h
  · cases h
  · cases h
  · exact h
theorem reverse_above (base g : Nat) (L : List MLine) (k : MKey) (i : Nat) (x : MLine) (w : World) (h : LedAbove w base g L) (hwf : WfL L) (hlv : Go.Proofs.YthagpdhnblmokaaGreatDoor.live L k = some i) (hx : L[i]? = some x) (hL : L.length ≤ 1000000) (hc : revCode L k x.legs = 0) :
    Calls Tryz.prog 28 #[.pointer (some ⟨g, 0, none⟩), keyVal k] w fun e w' => e = .returned .nilIface ∧ LedAbove w' base g (L ++ [⟨k, negLegs x.legs, i + 1⟩]) ∧ Below base w w' := by
  obtain ⟨hb, M, S, hd, hM, hS⟩ := h
  have := reverse_some g M S L k i x w hd hwf hlv hx hL
  rw [hc] at this
  exact this.mono fun e w' h => step_above hM hS hb h
theorem len_above (base g : Nat) (L : List MLine) (w : World) (h : LedAbove w base g L) (hL : L.length ≤ 1000000) : Calls Tryz.prog 22 #[.pointer (some ⟨g, 0, none⟩)] w fun e w' => e = .returned (.int .i64 L.length) ∧ w = w' := by
  obtain ⟨hb, M, S, hd, hM, hS⟩ := h
  exact lLen_any g M S L w hd hL
theorem balance_above (base g : Nat) (L : List MLine) (n : UInt32) (a : UInt8) (w : World) (h : LedAbove w base g L) : Calls Tryz.prog 20 #[.pointer (some ⟨g, 0, none⟩), .int .u32 n.toNat, .int .u8 a.toNat] w fun e w' => e = .returned (.int .i64 (sumLoan n a L)) ∧ w = w' := by
  obtain ⟨hb, M, S, hd, hM, hS⟩ := h
  exact lBalance_any g M S L n a w hd
theorem control_above (base g : Nat) (L : List MLine) (a : UInt8) (w : World) (h : LedAbove w base g L) : Calls Tryz.prog 30 #[.pointer (some ⟨g, 0, none⟩), .int .u8 a.toNat] w fun e w' => e = .returned (.int .i64 (sumAll a L)) ∧ w = w' := by
  obtain ⟨hb, M, S, hd, hM, hS⟩ := h
  exact lControl_any g M S L a w hd
theorem line_above (base g : Nat) (L : List MLine) (j : Nat) (x : MLine) (w : World) (h : LedAbove w base g L) (hL : L.length ≤ 1000000) (hj : L[j]? = some x) : Calls Tryz.prog 23 #[.pointer (some ⟨g, 0, none⟩), .int .i64 j] w fun e w' => ∃ A c, e = .returned (.tuple #[lineVal x.key (.slice A x.legs.length c) x.of, .bool true]) ∧ LegsAt w' (fun g => w.heap.size ≤ g ∧ FreeB w' g) A x.legs.length x.legs ∧ (A = none → x.legs.length = 0) ∧ Below w.heap.size w w' ∧ w.heap.size < w'.heap.size := by
  obtain ⟨hb, M, S, hd, hM, hS⟩ := h
  exact lLine_some g M S L j x w hd hL hj
theorem live_above (base g : Nat) (L : List MLine) (k : MKey) (j : Nat) (x : MLine) (w : World) (h : LedAbove w base g L) (hL : L.length ≤ 1000000) (hk : Go.Proofs.YthagpdhnblmokaaGreatDoor.live L k = some j) (hj : L[j]? = some x) : Calls Tryz.prog 25 #[.pointer (some ⟨g, 0, none⟩), keyVal k] w fun e w' => ∃ A c, e = .returned (.tuple #[entVal x.key (.slice A x.legs.length c), .bool true]) ∧ LegsAt w' (fun g => w.heap.size ≤ g ∧ FreeB w' g) A x.legs.length x.legs ∧ (A = none → x.legs.length = 0) ∧ Below w.heap.size w w' ∧ w.heap.size < w'.heap.size := by
  obtain ⟨hb, M, S, hd, hM, hS⟩ := h
  exact lLive_some g M S L k j x w hd hL hk hj
end Go.Proofs.YthagpdhnblmokaaGreatDoor
