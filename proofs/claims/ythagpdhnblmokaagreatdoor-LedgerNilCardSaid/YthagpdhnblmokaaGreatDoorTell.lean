/- What a ledger tells: balances, controls, lines, live entries. -/
import Derived.Test.YthagpdhnblmokaaGreatDoorLed
import Derived.Deep.RegionHeld3
namespace Go.Proofs.YthagpdhnblmokaaGreatDoor
open Go.RowKit Go.Maps

theorem undrew {B : Nat} {w w2 : World} (h : Below B w.drew w2) : Below B w w2 := ⟨h.os, h.tape, h.output, h.size, h.block⟩
theorem undrewN {B n : Nat} {w w2 : World} (h : Below B (w.drewN n) w2) : Below B w w2 := ⟨h.os, h.tape, h.output, h.size, h.block⟩
theorem uTint : Tryz.prog.underlying 3 = some (.int .i64) := Tryz.underlying3
theorem uTCoin : Tryz.prog.underlying 50 = some (.int .i64) := Tryz.underlying50
theorem zTint (w : World) : (zeroValue 3).run Tryz.prog w = .ok (.int .i64 0) w := Tryz.zeroValue3 w
theorem zTCoin (w : World) : (zeroValue 50).run Tryz.prog w = .ok (.int .i64 0) w := Tryz.zeroValue50 w

set_option maxHeartbeats 1000000 in
theorem cloneLegs_zero (p : Addr) (c : Nat) (w : World) :
    Calls Tryz.prog 144 #[.slice (some p) 0 c] w fun e w' => ∃ A' c', e = .returned (.slice A' 0 c') ∧ Below w.heap.size w w' := by
  have q := fun (w : World) (a : Option Addr) (n c n' c' : Nat) => Lib.run_eql_slice_nil (P := Tryz.prog) w _ _ a n c n' c' Tryz.underlying34
  obtain ⟨i0, hi, hz0, hz1, hz2⟩ := info_parts Tryz.infoLeg
  go_enter Tryz.func144, Tryz.ntmps144
  have hown : (w.alloc (.cells #[] 63)).ownsRow w.heap.size 63 2 (.slice (some ⟨w.heap.size, 0, none⟩) 0 0) 0 [] := own_empty w _ _
  go_wp2_with (at_builtin
               refine wpList_append_own_at _ rfl (.tmp 5) (.tmp 6) 34 rfl w.heap.size 63 i0 _ 2 16 Tryz.underlying34 hi hz0 hz1 hz2 rfl (by decide) _ _ _ rfl hown p 0 c [] rfl rfl (fun j u h => by simp at h) (fun u h => by simp at h) (by unfold maxLen; omega) (by omega) (by simp) ?_
               intro v' w1 hown1 hg1 hz hat)
  go_ret
  rw [List.nil_append, Nat.zero_add] at hown1
  obtain ⟨A', c', rfl⟩ := own_slice hown1
  exact ⟨⟨A', c', rfl⟩, ((Below.refl _ _).alloc (Nat.le_refl _) _).grown hg1 (by simp) (fun k hk => by cases hk; exact Nat.le_refl _)⟩

/-- None of a block's cells is frozen. -/
def FreeB (w : World) (g : Nat) : Prop := ∀ j, w.frozen? ⟨g, j, none⟩ = false
theorem LegsAt.of_ownF {w : World} {base : Nat} {T : TypeId} {v : Value} {n : Nat} {ls : List MLeg} (h : w.ownsRow base T 2 v n (legCells ls)) :
    ∃ A c, v = .slice A n c ∧ LegsAt w (fun b => base ≤ b ∧ FreeB w b) A n ls ∧ (A = none → n = 0) := by
  obtain ⟨A, c, rfl, h1, h2⟩ := LegsAt.of_own h
  refine ⟨A, c, rfl, ⟨h1.1, fun hn => ?_⟩, h2⟩
  obtain ⟨b, o, rfl, hb, hl, hc⟩ := h1.2 hn
  refine ⟨b, o, rfl, ⟨hb, fun j => ?_⟩, hl, hc⟩
  rcases h.2 with ⟨h3, _⟩ | ⟨g, cap, cur, h3, _, hh, _⟩
  · cases h3
  · injection h3 with h3
    injection h3 with h3
    injection h3 with h3
    subst h3
    simp [World.frozen?, hh]
/-- Legs that are moved on to a later world. -/
theorem LegsAt.move {w1 wF : World} {B B' : Nat} {T : Nat → Prop} {A : Option Addr} {n : Nat} {ls : List MLeg} (h : LegsAt w1 (fun g => B ≤ g ∧ FreeB w1 g) A n ls) (hO : Only T w1 wF) (hT : ∀ b, B ≤ b → b < w1.heap.size → ¬ T b) (hB : B' ≤ B) : LegsAt wF (fun g => B' ≤ g ∧ FreeB wF g) A n ls :=
  ⟨h.1, fun hn => by
    obtain ⟨b, o, e, hs, hb, hc⟩ := h.2 hn
    refine ⟨b, o, e, ⟨Nat.le_trans hB hs.1, fun j => (hO.frozen (p := ⟨b, j, none⟩) hb (hT b hs.1 hb)).trans (hs.2 j)⟩, Nat.lt_of_lt_of_le hb hO.size, fun j l hl => ?_⟩
    obtain ⟨h1, h2⟩ := hc j l hl
    exact ⟨(hO.cell (p := ⟨b, _, none⟩) hb (hT b hs.1 hb)).trans h1, (hO.cell (p := ⟨b, _, none⟩) hb (hT b hs.1 hb)).trans h2⟩⟩
set_option maxHeartbeats 1000000 in
theorem cloneLegs_someF (b o n c : Nat) (ls : List MLeg) (S : Nat → Prop) (w : World) (hl : LegsAt w S (some ⟨b, o, none⟩) n ls) (hn : n ≤ 1000000) :
    Calls Tryz.prog 144 #[.slice (some ⟨b, o, none⟩) n c] w fun e w' => ∃ A' c', e = .returned (.slice A' n c') ∧ LegsAt w' (fun g => w.heap.size ≤ g ∧ FreeB w' g) A' n ls ∧ (A' = none → n = 0) ∧ Below w.heap.size w w' := by
  have q := fun (w : World) (a : Option Addr) (n c n' c' : Nat) => Lib.run_eql_slice_nil (P := Tryz.prog) w _ _ a n c n' c' Tryz.underlying34
  obtain ⟨i0, hi, hz0, hz1, hz2⟩ := info_parts Tryz.infoLeg
  have hlen : (legCells ls).length = n * 2 := by rw [legCells_length, hl.1]
  go_enter Tryz.func144, Tryz.ntmps144
  have hown : (w.alloc (.cells #[] 63)).ownsRow w.heap.size 63 2 (.slice (some ⟨w.heap.size, 0, none⟩) 0 0) 0 [] := own_empty w _ _
  have hl1 : LegsAt (w.alloc (.cells #[] 63)) (fun g => g < w.heap.size) (some ⟨b, o, none⟩) n ls := (hl.mono (fun g hg _ => hg)).only ((Only.refl (fun _ => False) _).alloc _) (fun _ _ h => h)
  go_wp2_with (at_builtin
               refine wpList_append_own_at _ rfl (.tmp 5) (.tmp 6) 34 rfl w.heap.size 63 i0 _ 2 16 Tryz.underlying34 hi hz0 hz1 hz2 rfl (by decide) _ _ _ rfl hown ⟨b, o, none⟩ n c (legCells ls) rfl hlen hl1.cells (legCells_one ls) (by unfold maxLen; omega) (by omega) (by simp) ?_
               intro v' w1 hown1 hg1 hz hat)
  go_ret
  rw [List.nil_append, Nat.zero_add] at hown1
  obtain ⟨A', c', rfl, h1, h2⟩ := LegsAt.of_ownF hown1
  exact ⟨A', c', rfl, h1, h2, ((Below.refl _ _).alloc (Nat.le_refl _) _).grown hg1 (by simp) (fun k hk => by cases hk; exact Nat.le_refl _)⟩
theorem cloneLegs_anyF (A : Option Addr) (n c : Nat) (ls : List MLeg) (S : Nat → Prop) (w : World) (hl : LegsAt w S A n ls) (hA : A = none → n = 0) (hn : n ≤ 1000000) :
    Calls Tryz.prog 144 #[.slice A n c] w fun e w' => ∃ A' c', e = .returned (.slice A' n c') ∧ LegsAt w' (fun g => w.heap.size ≤ g ∧ FreeB w' g) A' n ls ∧ (A' = none → n = 0) ∧ Below w.heap.size w w' := by
  by_cases h0 : n = 0
  · subst h0
    obtain rfl : ls = [] := List.eq_nil_of_length_eq_zero hl.1
    cases A with
    | none => exact (cloneLegs_nil 0 c w).mono fun e w' ⟨he, hw⟩ => ⟨none, 0, he, LegsAt.nil, fun _ => rfl, by subst hw; exact Below.refl _ _⟩
    | some p => exact (cloneLegs_zero p c w).mono fun e w' ⟨A', c', he, h2⟩ => ⟨A', c', he, LegsAt.nil, fun _ => rfl, h2⟩
  · obtain ⟨b, o, rfl, _⟩ := hl.2 (by omega)
    exact cloneLegs_someF b o n c ls S w hl hn
theorem cloneLegs_any (A : Option Addr) (n c : Nat) (ls : List MLeg) (S : Nat → Prop) (w : World) (hl : LegsAt w S A n ls) (hA : A = none → n = 0) (hn : n ≤ 1000000) :
    Calls Tryz.prog 144 #[.slice A n c] w fun e w' => ∃ A' c', e = .returned (.slice A' n c') ∧ LegsAt w' (fun g => w.heap.size ≤ g) A' n ls ∧ (A' = none → n = 0) ∧ Below w.heap.size w w' := by
  by_cases h0 : n = 0
  · subst h0
    obtain rfl : ls = [] := List.eq_nil_of_length_eq_zero hl.1
    cases A with
    | none => exact (cloneLegs_nil 0 c w).mono fun e w' ⟨he, hw⟩ => ⟨none, 0, he, LegsAt.nil, fun _ => rfl, by subst hw; exact Below.refl _ _⟩
    | some p => exact (cloneLegs_zero p c w).mono fun e w' ⟨A', c', he, h2⟩ => ⟨A', c', he, LegsAt.nil, fun _ => rfl, h2⟩
  · obtain ⟨b, o, rfl, _⟩ := hl.2 (by omega)
    exact cloneLegs_some b o n c ls S w hl hn

set_option maxHeartbeats 1000000 in
theorem copied_anyF (k : MKey) (A : Option Addr) (n c : Nat) (ls : List MLeg) (S : Nat → Prop) (w : World) (hl : LegsAt w S A n ls) (hA : A = none → n = 0) (hn : n ≤ 1000000) :
    Calls Tryz.prog 68 #[entVal k (.slice A n c)] w fun e w' => ∃ A' c', e = .returned (entVal k (.slice A' n c')) ∧ LegsAt w' (fun g => w.heap.size ≤ g ∧ FreeB w' g) A' n ls ∧ (A' = none → n = 0) ∧ Below w.heap.size w w' ∧ w.heap.size < w'.heap.size := by
  go_enter Tryz.func68, Tryz.ntmps68
  go_wp2_with fail
  refine (cloneLegs_anyF A n c ls (fun b => S b ∧ b < w.heap.size) _ ((hl.mono (fun b hb h => ⟨h, hb⟩)).only (((Only.refl (fun _ => False) w).alloc _).alloc _) (fun _ _ h => h)) hA hn).mono ?_
  rintro e w1 ⟨A1, c1, rfl, hl1, hA1, hb⟩
  have hbw : Below w.heap.size w w1 := below_then (((Below.refl _ _).alloc (Nat.le_refl _) _).alloc (by simp) _) hb
  have hsz : w.heap.size + 1 < w1.heap.size := by have := hb.size; simp at this; omega
  have hsz0 : w.heap.size < w1.heap.size := by omega
  have hB1 : Blk w1 (w.heap.size + 1) 55 #[.int .u32 0, .int .i32 0, .int .u8 0, .int .u32 0, .slice none 0 0] := Blk.below (by simpa using Blk.new (w.alloc _) 55 _) hb (by simp)
  have hB0 : Blk w1 w.heap.size 55 #[.int .u32 k.loan.toNat, .int .i32 k.day.toInt, .int .u8 k.kind.toNat, .int .u32 k.seq.toNat, .slice A n c] := ((Blk.new w 55 _).alloc _).below hb (by simp; omega)
  have hc0 := hB0.cell
  have hc1 := hB1.cell
  have hf0 := hB0.frozen
  have hf1 := hB1.frozen
  clear hb
  go_wp2_with fail
  have hO := (((((((Only.refl (fun j => j = w.heap.size ∨ j = w.heap.size + 1) w1).setCell (p := ⟨w.heap.size, 4, none⟩) (.inr (.inl rfl)) (.slice A1 n c1)).setCell (p := ⟨w.heap.size + 1, 0, none⟩) (.inr (.inr rfl)) (.int .u32 k.loan.toNat)).setCell (p := ⟨w.heap.size + 1, 1, none⟩) (.inr (.inr rfl)) (.int .i32 k.day.toInt)).setCell (p := ⟨w.heap.size + 1, 2, none⟩) (.inr (.inr rfl)) (.int .u8 k.kind.toNat)).setCell (p := ⟨w.heap.size + 1, 3, none⟩) (.inr (.inr rfl)) (.int .u32 k.seq.toNat)).setCell (p := ⟨w.heap.size + 1, 4, none⟩) (.inr (.inr rfl)) (.slice A1 n c1))
  have hF := blk_set5 (hB1.far (p := ⟨w.heap.size, 4, none⟩) (by simp) (.slice A1 n c1)) (.int .u32 k.loan.toNat) (.int .i32 k.day.toInt) (.int .u8 k.kind.toNat) (.int .u32 k.seq.toNat) (.slice A1 n c1)
  have hLF := hl1.move hO (fun b hb _ e => by simp at hb; omega) (B' := w.heap.size) (by simp; omega)
  have hbF := below_only hbw hO hbw.size (fun i e => by omega)
  have hsF := Nat.lt_of_lt_of_le hsz0 hO.size
  exact bodyPost_ret (results_blk1 (l := [.int .u32 k.loan.toNat, .int .i32 k.day.toInt, .int .u8 k.kind.toNat, .int .u32 k.seq.toNat, .slice A1 n c1]) Tryz.results68 rfl Tryz.isAgg55 Tryz.sizeOf55 hF) rfl ⟨A1, c1, rfl, hLF, hA1, hbF, hsF⟩

theorem copied_any (k : MKey) (A : Option Addr) (n c : Nat) (ls : List MLeg) (S : Nat → Prop) (w : World) (hl : LegsAt w S A n ls) (hA : A = none → n = 0) (hn : n ≤ 1000000) :
    Calls Tryz.prog 68 #[entVal k (.slice A n c)] w fun e w' => ∃ A' c', e = .returned (entVal k (.slice A' n c')) ∧ LegsAt w' (fun g => w.heap.size ≤ g) A' n ls ∧ (A' = none → n = 0) ∧ Below w.heap.size w w' ∧ w.heap.size < w'.heap.size :=
  (copied_anyF k A n c ls S w hl hA hn).mono fun _ _ ⟨A', c', h1, h2, h3⟩ => ⟨A', c', h1, h2.mono (fun _ _ h => h.1), h3⟩

set_option maxHeartbeats 1000000 in
theorem lBalance_any (g : Nat) (M S : Nat → Prop) (L : List MLine) (n : UInt32) (a : UInt8) (w : World) (h : IsLed w g M S L) : Calls Tryz.prog 20 #[.pointer (some ⟨g, 0, none⟩), .int .u32 n.toNat, .int .u8 a.toNat] w fun e w' => e = .returned (.int .i64 (sumLoan n a L)) ∧ w = w' := by
  obtain ⟨v, bl, bs, nl, ns, rs, fl, fs, hr, hL, hfl, hfs, _⟩ := h
  have hc := hr.blk.cell
  have hlk := hr.sums.look kePair Tryz.underlying139 uTCoin (zTCoin w) ⟨n, a, false⟩
  have hs : Hid ((fs ⟨n, a, false⟩).getD 0 = sumLoan n a L) := by unfold Hid; rw [hfs]; rfl
  clear hfs hfl hL
  go_enter Tryz.func20, Tryz.ntmps20
  go_wp2
  go_ret
  exact ⟨congrArg (fun z => Ending.returned (.int .i64 z)) hs.out, rfl⟩
set_option maxHeartbeats 1000000 in
theorem lControl_any (g : Nat) (M S : Nat → Prop) (L : List MLine) (a : UInt8) (w : World) (h : IsLed w g M S L) : Calls Tryz.prog 30 #[.pointer (some ⟨g, 0, none⟩), .int .u8 a.toNat] w fun e w' => e = .returned (.int .i64 (sumAll a L)) ∧ w = w' := by
  obtain ⟨v, bl, bs, nl, ns, rs, fl, fs, hr, hL, hfl, hfs, _⟩ := h
  have hc := hr.blk.cell
  have hlk : (Instr.lookup 139 (.map (some bs)) (.agg #[.int .u32 0, .int .u8 a.toNat, .bool true]) false).run Tryz.prog w = .ok (.int .i64 ((fs ⟨0, a, true⟩).getD 0)) w := hr.sums.look kePair Tryz.underlying139 uTCoin (zTCoin w) ⟨0, a, true⟩
  have hs : Hid ((fs ⟨0, a, true⟩).getD 0 = sumAll a L) := by unfold Hid; rw [hfs]; rfl
  clear hfs hfl hL
  go_enter Tryz.func30, Tryz.ntmps30
  go_wp2
  go_ret
  exact ⟨congrArg (fun z => Ending.returned (.int .i64 z)) hs.out, rfl⟩

abbrev lineVal (k : MKey) (v : Value) (n : Int) : Value := .agg #[.int .u32 k.loan.toNat, .int .i32 k.day.toInt, .int .u8 k.kind.toNat, .int .u32 k.seq.toNat, v, .int .i64 n]
theorem blk_set6 {w : World} {g : Nat} {T : TypeId} {a0 b0 c0 d0 e0 f0 : Value} (h : Blk w g T #[a0, b0, c0, d0, e0, f0]) (a b c d e f : Value) : Blk ((((((w.setCell ⟨g, 0, none⟩ a).setCell ⟨g, 1, none⟩ b).setCell ⟨g, 2, none⟩ c).setCell ⟨g, 3, none⟩ d).setCell ⟨g, 4, none⟩ e).setCell ⟨g, 5, none⟩ f) g T #[a, b, c, d, e, f] := by
  simpa using (((((h.set 0 a).set 1 b).set 2 c).set 3 d).set 4 e).set 5 f
theorem only_set6 (w : World) (g : Nat) (a b c d e f : Value) : Only (fun j => j = g) w ((((((w.setCell ⟨g, 0, none⟩ a).setCell ⟨g, 1, none⟩ b).setCell ⟨g, 2, none⟩ c).setCell ⟨g, 3, none⟩ d).setCell ⟨g, 4, none⟩ e).setCell ⟨g, 5, none⟩ f) :=
  (only_set5 w g a b c d e).trans (only_set1 _ g 5 f) (fun _ _ h => h)
abbrev zeroLine : Value := lineVal ⟨0, 0, 0, 0⟩ (.slice none 0 0) 0

set_option maxHeartbeats 1000000 in
theorem lLen_nil (w : World) : Calls Tryz.prog 22 #[.pointer none] w fun e w' => e = .returned (.int .i64 0) ∧ w = w' := by
  go_enter Tryz.func22, Tryz.ntmps22
  go_wp2
  go_ret
  exact ⟨rfl, rfl⟩

set_option maxHeartbeats 1000000 in
theorem lLine_none (p : Option Addr) (i : Int) (n : Nat) (w : World) (hp : ∀ W, Below w.heap.size w W → Calls Tryz.prog 22 #[.pointer p] W fun e w' => e = .returned (.int .i64 n) ∧ W = w') (hi : i < 0 ∨ (n : Int) ≤ i) : Calls Tryz.prog 23 #[.pointer p, .int .i64 i] w fun e w' => e = .returned (.tuple #[zeroLine, .bool false]) ∧ Below w.heap.size w w' ∧ w.heap.size < w'.heap.size := by
  have hpz := hp (w.alloc (.cells #[.int .u32 0, .int .i32 0, .int .u8 0, .int .u32 0, .slice none 0 0, .int .i64 0] 57)) (by go_grown)
  clear hp
  go_enter Tryz.func23, Tryz.ntmps23
  by_cases h0 : i < 0
  · have hd : decide (i < 0) = true := by simpa using h0
    go_wp2_with fail
    have hB := Blk.new w 57 #[.int .u32 0, .int .i32 0, .int .u8 0, .int .u32 0, .slice none 0 0, .int .i64 0]
    exact bodyPost_ret (results_blk2 (l := [.int .u32 0, .int .i32 0, .int .u8 0, .int .u32 0, .slice none 0 0, .int .i64 0]) Tryz.results23 rfl Tryz.isAgg57 Tryz.sizeOf57 hB) rfl ⟨rfl, by go_grown, by simp⟩
  · have hd : decide (i < 0) = false := by simpa using h0
    have hd2 : decide ((n : Int) ≤ i) = true := by simp; omega
    go_wp2_with (go_at_call 22; refine hpz.mono ?_; rintro e w1 ⟨rfl, rfl⟩)
    have hB := Blk.new w 57 #[.int .u32 0, .int .i32 0, .int .u8 0, .int .u32 0, .slice none 0 0, .int .i64 0]
    exact bodyPost_ret (results_blk2 (l := [.int .u32 0, .int .i32 0, .int .u8 0, .int .u32 0, .slice none 0 0, .int .i64 0]) Tryz.results23 rfl Tryz.isAgg57 Tryz.sizeOf57 hB) rfl ⟨rfl, by go_grown, by simp⟩

set_option maxRecDepth 100000 in
set_option maxHeartbeats 1000000 in
theorem lLine_some (g : Nat) (M S : Nat → Prop) (L : List MLine) (j : Nat) (x : MLine) (w : World) (h : IsLed w g M S L) (hL : L.length ≤ 1000000) (hj : L[j]? = some x) : Calls Tryz.prog 23 #[.pointer (some ⟨g, 0, none⟩), .int .i64 j] w fun e w' => ∃ A c, e = .returned (.tuple #[lineVal x.key (.slice A x.legs.length c) x.of, .bool true]) ∧ LegsAt w' (fun g => w.heap.size ≤ g ∧ FreeB w' g) A x.legs.length x.legs ∧ (A = none → x.legs.length = 0) ∧ Below w.heap.size w w' ∧ w.heap.size < w'.heap.size := by
  have hlen0 := lLen_any g M S L (w.alloc (.cells #[.int .u32 0, .int .i32 0, .int .u8 0, .int .u32 0, .slice none 0 0, .int .i64 0] 57)) (h.only ((Only.refl (fun _ => False) w).alloc _) (fun _ _ h => h) (fun _ _ h => h)) hL
  obtain ⟨v, bl, bs, nl, ns, rs, fl, fs, hr, rfl, _⟩ := h
  have hlen := hr.row.1
  rw [List.getElem?_map] at hj
  obtain ⟨r, hjr, rfl⟩ := Option.map_eq_some_iff.1 hj
  obtain ⟨gr, c, rfl, _, hgr, hn, c0, c1, c2, c3, c4, c5⟩ := own_row_cells hr.row hjr
  obtain ⟨q1, q2, q3⟩ := hr.legs r (List.mem_of_getElem? hjr)
  have hjl : j < rs.length := (List.getElem?_eq_some_iff.1 hjr).1
  have hd : decide ((j : Int) < 0) = false := by simp
  have hd2 : decide ((rs.length : Int) ≤ j) = false := by simp; omega
  have hgl := hr.blk.lt
  have hB := (hr.blk.alloc (.cells #[.int .u32 0, .int .i32 0, .int .u8 0, .int .u32 0, .slice none 0 0, .int .i64 0] 57))
  have hcl := hr.blk.cell
  rw [List.length_map] at hlen0
  clear hr hn hlen hj
  go_enter Tryz.func23, Tryz.ntmps23
  go_wp2_with (go_at_call 22; refine hlen0.mono ?_; rintro e w1 ⟨rfl, rfl⟩)
  simp only [Nat.zero_add] at c0 c1 c2 c3 c4 c5
  have q1' : LegsAt (w.alloc (.cells #[.int .u32 0, .int .i32 0, .int .u8 0, .int .u32 0, .slice none 0 0, .int .i64 0] 57)).drew (fun b => S b ∧ b < w.heap.size) r.addr r.line.legs.length r.line.legs := (q1.mono (fun b hb h => ⟨h, hb⟩)).only (((Only.refl (fun _ => False) w).alloc _).drew) (fun _ _ h => h)
  have hBn := Blk.new w 57 #[.int .u32 0, .int .i32 0, .int .u8 0, .int .u32 0, .slice none 0 0, .int .i64 0]
  have hfn := hBn.frozen
  go_region_held3 (fun W => W.cell? ⟨g, 0, none⟩ = some (.slice (some ⟨gr, 0, none⟩) rs.length c) ∧ W.cell? ⟨gr, j * 6, none⟩ = some (.int .u32 r.line.key.loan.toNat) ∧ W.cell? ⟨gr, j * 6 + 1, none⟩ = some (.int .i32 r.line.key.day.toInt) ∧ W.cell? ⟨gr, j * 6 + 2, none⟩ = some (.int .u8 r.line.key.kind.toNat) ∧
      W.cell? ⟨gr, j * 6 + 3, none⟩ = some (.int .u32 r.line.key.seq.toNat) ∧ W.cell? ⟨gr, j * 6 + 4, none⟩ = some r.legsVal ∧ W.cell? ⟨gr, j * 6 + 5, none⟩ = some (.int .i64 r.line.of))
    (first
      | go_keep
      | (go_split_ands
         have hcc := bcell hb2
         refine ⟨?_, ?_, ?_, ?_, ?_, ?_, ?_⟩
         all_goals (rw [hcc.1 _ _ (by simp; omega)]; assumption))
      | (go_split_ands
         refine ⟨?_, ?_, ?_, ?_, ?_, ?_, ?_⟩
         all_goals (refine ((only_set6 _ _ _ _ _ _ _ _).cell ?_ ?_).trans ?_ <;> first | assumption | (simp; omega))))
    ((go_at_call 68; refine (copied_anyF r.line.key r.addr r.line.legs.length r.cap r.line.legs _ _ q1' q2 q3).mono ?_; rintro e w2 ⟨A2, c2, rfl, hl2, hA2, hb2, hs2⟩
      have hBw := Blk.below (Blk.drew hBn) hb2 (by simp)
      have hfw := hBw.frozen
      have hcw := hBw.cell
      have hs3 : w.heap.size < w2.heap.size := by (simp at hs2; omega)))
  go_wp2_with fail
  have hbw : Below w.heap.size w w2 := below_then (((Below.refl _ _).alloc (Nat.le_refl _) (.cells #[.int .u32 0, .int .i32 0, .int .u8 0, .int .u32 0, .slice none 0 0, .int .i64 0] 57))) (undrew hb2)
  have hF := blk_set6 hBw (.int .u32 r.line.key.loan.toNat) (.int .i32 r.line.key.day.toInt) (.int .u8 r.line.key.kind.toNat) (.int .u32 r.line.key.seq.toNat) (.slice A2 r.line.legs.length c2) (.int .i64 r.line.of)
  have hO := only_set6 w2 w.heap.size (.int .u32 r.line.key.loan.toNat) (.int .i32 r.line.key.day.toInt) (.int .u8 r.line.key.kind.toNat) (.int .u32 r.line.key.seq.toNat) (.slice A2 r.line.legs.length c2) (.int .i64 r.line.of)
  have hLF := hl2.move hO (fun b hb _ e => by simp at hb; omega) (B' := w.heap.size) (by simp)
  have hbF := below_only hbw hO hbw.size (fun i e => by omega)
  have hsF := Nat.lt_of_lt_of_le hs3 hO.size
  refine bodyPost_ret (results_blk2 (t := 4) (u := 5) (l := [.int .u32 r.line.key.loan.toNat, .int .i32 r.line.key.day.toInt, .int .u8 r.line.key.kind.toNat, .int .u32 r.line.key.seq.toNat, .slice A2 r.line.legs.length c2, .int .i64 r.line.of]) Tryz.results23 ?_ Tryz.isAgg57 Tryz.sizeOf57 hF) ?_ ?_
  · rfl
  · rfl
  · exact ⟨A2, c2, rfl, hLF, hA2, hbF, hsF⟩

/-! ### The live entry of a key -/
set_option maxHeartbeats 1000000 in
theorem lLive_nil (k : MKey) (w : World) : Calls Tryz.prog 25 #[.pointer none, keyVal k] w fun e w' => e = .returned (.tuple #[zeroEnt, .bool false]) ∧ Below w.heap.size w w' := by
  go_enter Tryz.func25, Tryz.ntmps25
  go_wp2_with fail
  have hB : Blk ((w.alloc (.cells #[.int .u32 k.loan.toNat, .int .i32 k.day.toInt, .int .u8 k.kind.toNat, .int .u32 k.seq.toNat] 33)).alloc (.cells #[.int .u32 0, .int .i32 0, .int .u8 0, .int .u32 0, .slice none 0 0] 55)) (w.heap.size + 1) 55 #[.int .u32 0, .int .i32 0, .int .u8 0, .int .u32 0, .slice none 0 0] := by simpa using Blk.new (w.alloc (.cells #[.int .u32 k.loan.toNat, .int .i32 k.day.toInt, .int .u8 k.kind.toNat, .int .u32 k.seq.toNat] 33)) 55 #[.int .u32 0, .int .i32 0, .int .u8 0, .int .u32 0, .slice none 0 0]
  exact bodyPost_ret (results_blk2 (l := [.int .u32 0, .int .i32 0, .int .u8 0, .int .u32 0, .slice none 0 0]) Tryz.results25 rfl Tryz.isAgg55 Tryz.sizeOf55 hB) rfl ⟨rfl, by go_grown⟩
set_option maxRecDepth 100000 in
set_option maxHeartbeats 1000000 in
theorem lLive_none (g : Nat) (M S : Nat → Prop) (L : List MLine) (k : MKey) (w : World) (h : IsLed w g M S L) (hk : Go.Proofs.YthagpdhnblmokaaGreatDoor.live L k = none) : Calls Tryz.prog 25 #[.pointer (some ⟨g, 0, none⟩), keyVal k] w fun e w' => e = .returned (.tuple #[zeroEnt, .bool false]) ∧ Below w.heap.size w w' := by
  obtain ⟨v, bl, bs, nl, ns, rs, fl, fs, hr, _, hfl, _⟩ := h
  have hlk : ∀ n, (Instr.lookup 138 (.map (some bl)) (.agg #[.int .u32 k.loan.toNat, .int .i32 k.day.toInt, .int .u8 k.kind.toNat, .int .u32 k.seq.toNat]) true).run Tryz.prog (((w.alloc (.cells #[.int .u32 k.loan.toNat, .int .i32 k.day.toInt, .int .u8 k.kind.toNat, .int .u32 k.seq.toNat] 33)).alloc (.cells #[.int .u32 0, .int .i32 0, .int .u8 0, .int .u32 0, .slice none 0 0] 55)).drewN n) = .ok (.tuple #[.int .i64 0, .bool false]) (((w.alloc (.cells #[.int .u32 k.loan.toNat, .int .i32 k.day.toInt, .int .u8 k.kind.toNat, .int .u32 k.seq.toNat] 33)).alloc (.cells #[.int .u32 0, .int .i32 0, .int .u8 0, .int .u32 0, .slice none 0 0] 55)).drewN n) := by
    intro n
    have hlk := (hr.live.only ((((Only.refl (fun _ => False) w).alloc (.cells #[.int .u32 k.loan.toNat, .int .i32 k.day.toInt, .int .u8 k.kind.toNat, .int .u32 k.seq.toNat] 33)).alloc (.cells #[.int .u32 0, .int .i32 0, .int .u8 0, .int .u32 0, .slice none 0 0] 55)).drewN n) (fun h => h)).look_ok keKey Tryz.underlying138 uTint (zTint _) k
    rw [hfl, hk] at hlk
    exact hlk
  have hc := hr.blk.cell
  have hgl := hr.blk.lt
  clear hr hfl
  go_enter Tryz.func25, Tryz.ntmps25
  go_wp2_with fail
  go_quiet (fail)
  go_wp2_with fail
  have hB : Blk ((w.alloc (.cells #[.int .u32 k.loan.toNat, .int .i32 k.day.toInt, .int .u8 k.kind.toNat, .int .u32 k.seq.toNat] 33)).alloc (.cells #[.int .u32 0, .int .i32 0, .int .u8 0, .int .u32 0, .slice none 0 0] 55)) (w.heap.size + 1) 55 #[.int .u32 0, .int .i32 0, .int .u8 0, .int .u32 0, .slice none 0 0] := by simpa using Blk.new (w.alloc (.cells #[.int .u32 k.loan.toNat, .int .i32 k.day.toInt, .int .u8 k.kind.toNat, .int .u32 k.seq.toNat] 33)) 55 #[.int .u32 0, .int .i32 0, .int .u8 0, .int .u32 0, .slice none 0 0]
  have hF := blk_set5 (hB.drewN nq) (.int .u32 0) (.int .i32 0) (.int .u8 0) (.int .u32 0) (.slice none 0 0)
  have hO := only_set5 (((w.alloc (.cells #[.int .u32 k.loan.toNat, .int .i32 k.day.toInt, .int .u8 k.kind.toNat, .int .u32 k.seq.toNat] 33)).alloc (.cells #[.int .u32 0, .int .i32 0, .int .u8 0, .int .u32 0, .slice none 0 0] 55)).drewN nq) (w.heap.size + 1) (.int .u32 0) (.int .i32 0) (.int .u8 0) (.int .u32 0) (.slice none 0 0)
  have hbF := below_only (below_drewN (((Below.refl w.heap.size w).alloc (Nat.le_refl _) _).alloc (by simp) _) nq) hO (by simp [World.drewN]; omega) (fun i e => by omega)
  exact bodyPost_ret (results_blk2 (l := [.int .u32 0, .int .i32 0, .int .u8 0, .int .u32 0, .slice none 0 0]) Tryz.results25 rfl Tryz.isAgg55 Tryz.sizeOf55 hF) rfl ⟨rfl, hbF⟩

set_option maxRecDepth 100000 in
set_option maxHeartbeats 1000000 in
theorem lLive_some (g : Nat) (M S : Nat → Prop) (L : List MLine) (k : MKey) (j : Nat) (x : MLine) (w : World) (h : IsLed w g M S L) (hL : L.length ≤ 1000000) (hk : Go.Proofs.YthagpdhnblmokaaGreatDoor.live L k = some j) (hj : L[j]? = some x) : Calls Tryz.prog 25 #[.pointer (some ⟨g, 0, none⟩), keyVal k] w fun e w' => ∃ A c, e = .returned (.tuple #[entVal x.key (.slice A x.legs.length c), .bool true]) ∧ LegsAt w' (fun g => w.heap.size ≤ g ∧ FreeB w' g) A x.legs.length x.legs ∧ (A = none → x.legs.length = 0) ∧ Below w.heap.size w w' ∧ w.heap.size < w'.heap.size := by
  obtain ⟨v, bl, bs, nl, ns, rs, fl, fs, hr, rfl, hfl, _⟩ := h
  have hlk : ∀ n, (Instr.lookup 138 (.map (some bl)) (.agg #[.int .u32 k.loan.toNat, .int .i32 k.day.toInt, .int .u8 k.kind.toNat, .int .u32 k.seq.toNat]) true).run Tryz.prog (((w.alloc (.cells #[.int .u32 k.loan.toNat, .int .i32 k.day.toInt, .int .u8 k.kind.toNat, .int .u32 k.seq.toNat] 33)).alloc (.cells #[.int .u32 0, .int .i32 0, .int .u8 0, .int .u32 0, .slice none 0 0] 55)).drewN n) = .ok (.tuple #[.int .i64 j, .bool true]) (((w.alloc (.cells #[.int .u32 k.loan.toNat, .int .i32 k.day.toInt, .int .u8 k.kind.toNat, .int .u32 k.seq.toNat] 33)).alloc (.cells #[.int .u32 0, .int .i32 0, .int .u8 0, .int .u32 0, .slice none 0 0] 55)).drewN n) := by
    intro n
    have hlk := (hr.live.only ((((Only.refl (fun _ => False) w).alloc (.cells #[.int .u32 k.loan.toNat, .int .i32 k.day.toInt, .int .u8 k.kind.toNat, .int .u32 k.seq.toNat] 33)).alloc (.cells #[.int .u32 0, .int .i32 0, .int .u8 0, .int .u32 0, .slice none 0 0] 55)).drewN n) (fun h => h)).look_ok keKey Tryz.underlying138 uTint (zTint _) k
    rw [hfl, hk] at hlk
    exact hlk
  rw [List.getElem?_map] at hj
  obtain ⟨r, hjr, rfl⟩ := Option.map_eq_some_iff.1 hj
  obtain ⟨gr, c, rfl, _, hgr, hn, c0, c1, c2, c3, c4, c5⟩ := own_row_cells hr.row hjr
  simp only [Nat.zero_add] at c0 c1 c2 c3 c4 c5
  obtain ⟨q1, q2, q3⟩ := hr.legs r (List.mem_of_getElem? hjr)
  have hjl : j < rs.length := (List.getElem?_eq_some_iff.1 hjr).1
  have hgl := hr.blk.lt
  have hcl := hr.blk.cell
  clear hr hn hj hfl
  go_enter Tryz.func25, Tryz.ntmps25
  go_wp2_with fail
  go_quiet (fail)
  have hi0 : (0 : Int) ≤ (j : Int) := Int.natCast_nonneg _
  have hi1 : (j : Int) < (rs.length : Int) := by omega
  have q1' : LegsAt (((w.alloc (.cells #[.int .u32 k.loan.toNat, .int .i32 k.day.toInt, .int .u8 k.kind.toNat, .int .u32 k.seq.toNat] 33)).alloc (.cells #[.int .u32 0, .int .i32 0, .int .u8 0, .int .u32 0, .slice none 0 0] 55)).drewN nq) (fun b => S b ∧ b < w.heap.size) r.addr r.line.legs.length r.line.legs := (q1.mono (fun b hb h => ⟨h, hb⟩)).only ((((Only.refl (fun _ => False) w).alloc _).alloc _).drewN nq) (fun _ _ h => h)
  go_wp2_with fail
  refine (copied_anyF r.line.key r.addr r.line.legs.length r.cap r.line.legs _ _ q1' q2 q3).mono ?_
  rintro e w2 ⟨A2, c2, rfl, hl2, hA2, hb2, hs2⟩
  have hB : Blk ((w.alloc (.cells #[.int .u32 k.loan.toNat, .int .i32 k.day.toInt, .int .u8 k.kind.toNat, .int .u32 k.seq.toNat] 33)).alloc (.cells #[.int .u32 0, .int .i32 0, .int .u8 0, .int .u32 0, .slice none 0 0] 55)) (w.heap.size + 1) 55 #[.int .u32 0, .int .i32 0, .int .u8 0, .int .u32 0, .slice none 0 0] := by simpa using Blk.new (w.alloc (.cells #[.int .u32 k.loan.toNat, .int .i32 k.day.toInt, .int .u8 k.kind.toNat, .int .u32 k.seq.toNat] 33)) 55 #[.int .u32 0, .int .i32 0, .int .u8 0, .int .u32 0, .slice none 0 0]
  have hBw := Blk.below (hB.drewN nq) hb2 (by simp [World.drewN])
  have hfw := hBw.frozen
  have hcw := hBw.cell
  have hs3 : w.heap.size + 1 < w2.heap.size := by simp [World.drewN] at hs2; omega
  have hbw := below_then (((Below.refl w.heap.size w).alloc (Nat.le_refl _) _).alloc (by simp) _) (undrewN hb2)
  clear hlk hb2
  go_wp2_with fail
  have hF := blk_set5 hBw (.int .u32 r.line.key.loan.toNat) (.int .i32 r.line.key.day.toInt) (.int .u8 r.line.key.kind.toNat) (.int .u32 r.line.key.seq.toNat) (.slice A2 r.line.legs.length c2)
  have hO := only_set5 w2 (w.heap.size + 1) (.int .u32 r.line.key.loan.toNat) (.int .i32 r.line.key.day.toInt) (.int .u8 r.line.key.kind.toNat) (.int .u32 r.line.key.seq.toNat) (.slice A2 r.line.legs.length c2)
  have hLF := hl2.move hO (fun b hb _ e => by simp [World.drewN] at hb; omega) (B' := w.heap.size) (by simp [World.drewN]; omega)
  have hbF := below_only hbw hO hbw.size (fun i e => by omega)
  have hsF := Nat.lt_of_lt_of_le (Nat.lt_of_succ_lt hs3) hO.size
  exact bodyPost_ret (results_blk2 (l := [.int .u32 r.line.key.loan.toNat, .int .i32 r.line.key.day.toInt, .int .u8 r.line.key.kind.toNat, .int .u32 r.line.key.seq.toNat, .slice A2 r.line.legs.length c2]) Tryz.results25 rfl Tryz.isAgg55 Tryz.sizeOf55 hF) rfl ⟨A2, c2, rfl, hLF, hA2, hbF, hsF⟩
end Go.Proofs.YthagpdhnblmokaaGreatDoor
