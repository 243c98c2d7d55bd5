/- The walk of the law LedgerNil: it returns true, whatever the key, the number and the account. -/
import Derived.Test.YthagpdhnblmokaaGreatDoorAwake14
import Derived.Test.YthagpdhnblmokaaGreatDoorCode
import Derived.Test.YthagpdhnblmokaaGreatDoorNilOrder
namespace Go.Proofs.YthagpdhnblmokaaGreatDoor
open Go.RowKit Go.Maps

theorem line_one (base g : Nat) (n : UInt32) (w : World) (h : LedAbove w base g [lineOne n]) : Calls Tryz.prog 23 #[.pointer (some ⟨g, 0, none⟩), .int .i64 0] w fun e w' => ∃ b o c, e = .returned (.tuple #[lineVal (keyOne n) (.slice (some ⟨b, o, none⟩) 2 c) 0, .bool true]) ∧ w.heap.size ≤ b ∧ b < w'.heap.size ∧ (∀ j, w'.frozen? ⟨b, j, none⟩ = false) ∧ w'.cell? ⟨b, o + 1, none⟩ = some (.int .i64 (-5)) ∧ Below w.heap.size w w' := by
  refine (line_above base g [lineOne n] 0 (lineOne n) w h (by simp) rfl).mono fun e w' ⟨A, c, he, hl, hA, hb, _⟩ => ?_
  obtain ⟨b, o, rfl, ⟨h1, h2⟩, h3, h4⟩ := hl.2 (show 0 < 2 by decide)
  have h5 := (h4 0 ⟨1, -5⟩ rfl).2
  rw [show o + 0 * 2 + 1 = o + 1 by omega] at h5
  exact ⟨b, o, c, he, h1, h3, h2, h5, hb⟩
theorem live_one' (base g : Nat) (n : UInt32) (w : World) (h : LedAbove w base g [lineOne n]) : Calls Tryz.prog 25 #[.pointer (some ⟨g, 0, none⟩), keyVal (keyOne n)] w fun e w' => ∃ b o c, e = .returned (.tuple #[entVal (keyOne n) (.slice (some ⟨b, o, none⟩) 2 c), .bool true]) ∧ w.heap.size ≤ b ∧ b < w'.heap.size ∧ (∀ j, w'.frozen? ⟨b, j, none⟩ = false) ∧ w'.cell? ⟨b, o + 1, none⟩ = some (.int .i64 (-5)) ∧ Below w.heap.size w w' := by
  refine (live_above base g [lineOne n] (keyOne n) 0 (lineOne n) w h (by simp) (live_one n) rfl).mono fun e w' ⟨A, c, he, hl, hA, hb, _⟩ => ?_
  obtain ⟨b, o, rfl, ⟨h1, h2⟩, h3, h4⟩ := hl.2 (show 0 < 2 by decide)
  have h5 := (h4 0 ⟨1, -5⟩ rfl).2
  rw [show o + 0 * 2 + 1 = o + 1 by omega] at h5
  exact ⟨b, o, c, he, h1, h3, h2, h5, hb⟩

/-- The law's own blocks: the key's box, the legs, the entry's box. -/
structure St (w w1 : World) (k : MKey) (x : Int) (W : World) : Prop where
  key : Blk W w.heap.size 33 #[.int .u32 k.loan.toNat, .int .i32 k.day.toInt, .int .u8 k.kind.toNat, .int .u32 k.seq.toNat]
  legs : Blk W w1.heap.size 63 #[.int .u8 1, .int .i64 x, .int .u8 2, .int .i64 5]
  ent : Blk W (w1.heap.size + 1) 55 #[.int .u32 k.loan.toNat, .int .i32 0, .int .u8 1, .int .u32 0, .slice (some ⟨w1.heap.size, 0, none⟩) 2 2]
  low : Below w.heap.size w W
  lt : w.heap.size < w1.heap.size
theorem St.below {w w1 W W' : World} {k : MKey} {x : Int} {B : Nat} (h : St w w1 k x W) (hb : Below B W W') (hB : w1.heap.size + 1 < B) : St w w1 k x W' :=
  ⟨h.key.below hb (by have := h.lt; omega), h.legs.below hb (by omega), h.ent.below hb hB, h.low.trans (hb.mono (by have := h.lt; omega)), h.lt⟩
theorem St.new {w w1 W W' : World} {k : MKey} {x : Int} (h : St w w1 k x W) (hb : Below W.heap.size W W') : St w w1 k x W' := h.below hb h.ent.lt
theorem St.alloc {w w1 W : World} {k : MKey} {x : Int} (h : St w w1 k x W) (o : Obj) : St w w1 k x (W.alloc o) := h.new (below_alloc (Below.refl _ W) o)
theorem St.cells {w w1 W : World} {k : MKey} {x : Int} (h : St w w1 k x W) : (∀ i, W.cell? ⟨w.heap.size, i, none⟩ = #[.int .u32 k.loan.toNat, .int .i32 k.day.toInt, .int .u8 k.kind.toNat, .int .u32 k.seq.toNat][i]?) ∧
    (∀ i, W.cell? ⟨w1.heap.size, i, none⟩ = #[.int .u8 1, .int .i64 x, .int .u8 2, .int .i64 5][i]?) ∧
    (∀ i, W.cell? ⟨w1.heap.size + 1, i, none⟩ = #[.int .u32 k.loan.toNat, .int .i32 0, .int .u8 1, .int .u32 0, .slice (some ⟨w1.heap.size, 0, none⟩) 2 2][i]?) ∧ (∀ i, W.frozen? ⟨w1.heap.size, i, none⟩ = false) ∧
    w.heap.size < W.heap.size ∧ w1.heap.size < W.heap.size ∧ w1.heap.size + 1 < W.heap.size :=
  ⟨h.key.cell, h.legs.cell, h.ent.cell, h.legs.frozen, h.key.lt, h.legs.lt, h.ent.lt⟩

theorem St.set {w w1 W : World} {k : MKey} {x : Int} (h : St w w1 k x W) (y : Int) : St w w1 k y (W.setCell ⟨w1.heap.size, 1, none⟩ (.int .i64 y)) :=
  ⟨h.key.far (by have := h.lt; simp; omega) _, by simpa using h.legs.set 1 (.int .i64 y), h.ent.far (by simp) _, h.low.setCell (by have := h.lt; simp; omega) _, h.lt⟩
theorem LedAbove.set {W : World} {base g : Nat} {L : List MLine} (h : LedAbove W base g L) (b i : Nat) (hb : b < base) (u : Value) : LedAbove (W.setCell ⟨b, i, none⟩ u) base g L :=
  h.only (only_set1 W b i u) (fun _ _ e => by have e' : _ = b := e; omega)
/-- What the last line reads. -/
structure Sz (w w1 : World) (k : MKey) (base g bw b o c gf : Nat) (W : World) : Prop where
  st : St w w1 k (-5) W
  led : LedAbove W base g [lineOne k.loan]
  box : Blk W bw 55 #[.int .u32 (keyOne k.loan).loan.toNat, .int .i32 (keyOne k.loan).day.toInt, .int .u8 (keyOne k.loan).kind.toNat, .int .u32 (keyOne k.loan).seq.toNat, .slice (some ⟨b, o, none⟩) 2 c]
  leg : W.cell? ⟨b, o + 1, none⟩ = some (.int .i64 (-5))
  blt : b < W.heap.size
  fault : Blk W gf 165 #[.int .u64 k.loan.toNat, errV 10]
theorem Sz.new {w w1 W W' : World} {k : MKey} {base g bw b o c gf : Nat} (h : Sz w w1 k base g bw b o c gf W) (hb : Below W.heap.size W W') : Sz w w1 k base g bw b o c gf W' :=
  ⟨h.st.new hb, h.led.below hb, h.box.below hb h.box.lt, (hb.cell (p := ⟨b, o + 1, none⟩) h.blt).trans h.leg, Nat.lt_of_lt_of_le h.blt hb.size, h.fault.below hb h.fault.lt⟩
theorem Sz.alloc {w w1 W : World} {k : MKey} {base g bw b o c gf : Nat} (h : Sz w w1 k base g bw b o c gf W) (x : Obj) : Sz w w1 k base g bw b o c gf (W.alloc x) := h.new (below_alloc (Below.refl _ W) x)
theorem Sz.glob {w w1 W : World} {k : MKey} {base g bw b o c gf : Nat} (h : Sz w w1 k base g bw b o c gf W) (hg : Glob w) : Glob W := hg.only (Only.of_below (S := fun _ => False) h.st.low) (fun h => h)

set_option maxRecDepth 100000 in
set_option maxHeartbeats 2000000 in
theorem lawNil_any (k : MKey) (i : Int) (a : UInt8) (w : World) (hg : Glob w) : Calls Tryz.prog 5 #[keyVal k, .int .i64 i, .int .u8 a.toNat] w fun e w' => e = .returned (.bool true) ∧ Below w.heap.size w w' := by
  have hw64 : IntKind.u64.wrap (k.loan.toNat : Int) = k.loan.toNat := by
    have := u32b k.loan
    simp [IntKind.wrap, IntKind.bits, IntKind.signed]; omega
  have hK0 := Blk.new w 33 #[.int .u32 k.loan.toNat, .int .i32 k.day.toInt, .int .u8 k.kind.toNat, .int .u32 k.seq.toNat]
  go_enter Tryz.func5, Tryz.ntmps5
  go_wp2_with fail
  refine (awake14_any _).mono ?_
  rintro e w1 ⟨rfl, hb1⟩
  have hK1 := hK0.below hb1 (by simp)
  have hbw1 : Below w.heap.size w w1 := below_then ((Below.refl _ _).alloc (Nat.le_refl _) _) hb1
  have hcK1 := hK1.cell
  have hltK1 := hK1.lt
  clear hK0 hb1
  go_wp2_with fail
  have hS2 : St w w1 k (-5) ((w1.alloc (.cells #[.int .u8 1, .int .i64 (-5), .int .u8 2, .int .i64 5] 63)).alloc (.cells #[.int .u32 k.loan.toNat, .int .i32 0, .int .u8 1, .int .u32 0, .slice (some ⟨w1.heap.size, 0, none⟩) 2 2] 55)) :=
    ⟨(hK1.alloc _).alloc _, (Blk.new w1 _ _).alloc _, by
      simpa using Blk.new (w1.alloc (.cells #[.int .u8 1, .int .i64 (-5), .int .u8 2, .int .i64 5] 63)) 55 #[.int .u32 k.loan.toNat, .int .i32 0, .int .u8 1, .int .u32 0, .slice (some ⟨w1.heap.size, 0, none⟩) 2 2],
      below_alloc (below_alloc hbw1 _) _, hltK1⟩
  generalize ((w1.alloc (.cells #[.int .u8 1, .int .i64 (-5), .int .u8 2, .int .i64 5] 63)).alloc (.cells #[.int .u32 k.loan.toNat, .int .i32 0, .int .u8 1, .int .u32 0, .slice (some ⟨w1.heap.size, 0, none⟩) 2 2] 55)) = w2 at hS2 ⊢
  clear hK1 hbw1 hcK1
  refine (lLine_none none i 0 w2 (fun W _ => lLen_nil W) (by omega)).mono ?_
  rintro e w3 ⟨rfl, hb3, -⟩
  have hS3 := hS2.new hb3
  obtain ⟨c1, c2, c3, c4, l1, l2, l3⟩ := hS3.cells
  clear hS2 hb3
  go_wp2_with fail
  refine (lLive_nil k _).mono ?_
  rintro e w4 ⟨rfl, hb4⟩
  have hS4 := (hS3.alloc _).new hb4
  clear hS3 hb4 c1 c2 c3 c4 l1 l2 l3
  go_wp2_with fail
  refine (new_above _).mono ?_
  rintro e w5 ⟨g, rfl, hled, hb5⟩
  have hS5 := (hS4.alloc _).new hb5
  obtain ⟨base, hled5, hbase⟩ : ∃ base, LedAbove w5 base g [] ∧ w1.heap.size + 1 < base := ⟨_, hled, (hS4.alloc (.cells #[.int .u32 0, .int .i32 0, .int .u8 0, .int .u32 0, .slice none 0 0] 55)).ent.lt⟩
  obtain ⟨c1, c2, c3, c4, l1, l2, l3⟩ := hS5.cells
  clear hled hb5 hS4
  go_wp2_with fail
  refine (post_above base g _ [] (keyOne k.loan) (some ⟨w1.heap.size, 0, none⟩) 2 2 legs2 _ hled5 (legs2_at hS5.legs) (fun e => by cases e) (by decide) (by simp) (code_first k.loan)).mono ?_
  rintro e w6 ⟨rfl, hled6, hb6⟩
  have hS6 := hS5.below hb6 hbase
  have hled6' : LedAbove w6 base g [lineOne k.loan] := hled6
  clear hled5 hled6 hS5 hb6 c1 c2 c3 c4 l1 l2 l3
  obtain ⟨c1, c2, c3, c4, l1, l2, l3⟩ := hS6.cells
  go_wp2_with fail
  have hS7 := hS6.set 9
  have hled7 := hled6'.set w1.heap.size 1 (by omega) (.int .i64 9)
  refine (line_one base g k.loan _ hled7).mono ?_
  rintro e w8 ⟨b, o, c, rfl, hbl, hbu, hfr, hcl, hb8⟩
  have hS8 := hS7.new hb8
  clear c1 c2 c3 c4 l1 l2 l3 hS6
  obtain ⟨c1, c2, c3, c4, l1, l2, l3⟩ := hS8.cells
  have hn1 : ¬ (w1.heap.size = b) := by have := hS7.legs.lt; omega
  have hn2 : ¬ (w1.heap.size + 1 = b) := by have := hS7.ent.lt; omega
  have hn3 : ¬ (w.heap.size = b) := by have := hS7.key.lt; omega
  have hHb := Lib.hid hb8
  have hHbl := Lib.hid hbl
  clear hb8 hbl hled6'
  go_wp2_with fail
  have hb9 := below_alloc (hHb.out.setCell (p := ⟨b, o + 1, none⟩) hHbl.out (.int .i64 8)) (.cells #[.int .u32 (keyOne k.loan).loan.toNat, .int .i32 (keyOne k.loan).day.toInt, .int .u8 (keyOne k.loan).kind.toNat, .int .u32 (keyOne k.loan).seq.toNat, .slice (some ⟨b, o, none⟩) 2 c, .int .i64 0] 57)
  have hS9 := hS7.new hb9
  have hled9 := hled7.below hb9
  clear hS7 hled7 hb9 c1 c2 c3 c4 l1 l2 l3 hn1 hn2 hn3 hHb hHbl hfr hcl hbu hS8
  refine (live_one' base g k.loan _ hled9).mono ?_
  rintro e w10 ⟨b, o, c, rfl, hbl, hbu, hfr, hcl, hb10⟩
  have hS10 := hS9.new hb10
  obtain ⟨c1, c2, c3, c4, l1, l2, l3⟩ := hS10.cells
  have hn1 : ¬ (w1.heap.size = b) := by have := hS9.legs.lt; omega
  have hn2 : ¬ (w1.heap.size + 1 = b) := by have := hS9.ent.lt; omega
  have hn3 : ¬ (w.heap.size = b) := by have := hS9.key.lt; omega
  have hHb := Lib.hid hb10
  have hHbl := Lib.hid hbl
  clear hb10 hbl
  go_wp2_with fail
  have hb11 := below_alloc (hHb.out.setCell (p := ⟨b, o + 1, none⟩) hHbl.out (.int .i64 7)) (.cells #[.int .u32 (keyOne k.loan).loan.toNat, .int .i32 (keyOne k.loan).day.toInt, .int .u8 (keyOne k.loan).kind.toNat, .int .u32 (keyOne k.loan).seq.toNat, .slice (some ⟨b, o, none⟩) 2 c] 55)
  have hS11 := hS9.new hb11
  have hled11 := hled9.below hb11
  clear hS9 hled9 hb11 c1 c2 c3 c4 l1 l2 l3 hn1 hn2 hn3 hHb hHbl hfr hcl hbu hS10
  refine (live_one' base g k.loan _ hled11).mono ?_
  rintro e w12 ⟨b, o, c, rfl, hbl, hbu, hfr, hcl, hb12⟩
  have hS12 := hS11.new hb12
  have hled12 := hled11.below hb12
  have hn1 : ¬ (w1.heap.size = b) := by have := hS11.legs.lt; omega
  obtain ⟨c1, c2, c3, c4, l1, l2, l3⟩ := hS12.cells
  clear hS11 hled11 hb12 hbl hfr
  go_wp2_with fail
  have hS13 := (hS12.set (-5)).alloc (.cells #[.int .u32 (keyOne k.loan).loan.toNat, .int .i32 (keyOne k.loan).day.toInt, .int .u8 (keyOne k.loan).kind.toNat, .int .u32 (keyOne k.loan).seq.toNat, .slice (some ⟨b, o, none⟩) 2 c] 55)
  have hled13 := (hled12.set w1.heap.size 1 (by omega) (.int .i64 (-5))).below (below_alloc (Below.refl _ _) (.cells #[.int .u32 (keyOne k.loan).loan.toNat, .int .i32 (keyOne k.loan).day.toInt, .int .u8 (keyOne k.loan).kind.toNat, .int .u32 (keyOne k.loan).seq.toNat, .slice (some ⟨b, o, none⟩) 2 c] 55))
  have hB13 := Blk.new (w12.setCell ⟨w1.heap.size, 1, none⟩ (.int .i64 (-5))) 55 #[.int .u32 (keyOne k.loan).loan.toNat, .int .i32 (keyOne k.loan).day.toInt, .int .u8 (keyOne k.loan).kind.toNat, .int .u32 (keyOne k.loan).seq.toNat, .slice (some ⟨b, o, none⟩) 2 c]
  have hl13 : ((w12.setCell ⟨w1.heap.size, 1, none⟩ (.int .i64 (-5))).alloc (.cells #[.int .u32 (keyOne k.loan).loan.toNat, .int .i32 (keyOne k.loan).day.toInt, .int .u8 (keyOne k.loan).kind.toNat, .int .u32 (keyOne k.loan).seq.toNat, .slice (some ⟨b, o, none⟩) 2 c] 55)).cell? ⟨b, o + 1, none⟩ = some (.int .i64 (-5)) := by
    rw [World.cell?_alloc_lt _ _ _ (by simpa [World.setCell] using hbu), World.cell?_setCell_other _ _ _ _ (fun e => hn1 (by injection e))]
    exact hcl
  have hs12 : (w12.setCell ⟨w1.heap.size, 1, none⟩ (.int .i64 (-5))).heap.size = w12.heap.size := by simp [World.setCell]
  rw [hs12] at hB13
  refine (post_fault base g _ [lineOne k.loan] (keyOne k.loan) (some ⟨w1.heap.size, 0, none⟩) 2 2 legs2 _ hled13 (legs2_at hS13.legs) (fun e => by cases e) (by decide) (by simp) (code_again k.loan)).mono ?_
  rintro e w14 ⟨gf, rfl, hgf, hBf, hb14⟩
  have hz14 : Sz w w1 k base g w12.heap.size b o c gf w14 := ⟨hS13.new hb14, hled13.below hb14, hB13.below hb14 hB13.lt, (hb14.cell (p := ⟨b, o + 1, none⟩) (by first | (simp; done) | (simp; omega))).trans hl13, Nat.lt_of_lt_of_le (by first | (simp; done) | (simp; omega)) hb14.size, hBf⟩
  clear hS12 hS13 hled12 hled13 hB13 hl13 hs12 hgf hBf hb14 c1 c2 c3 c4 l1 l2 l3 hn1 hcl hbu hbase
  go_wp2_with fail
  refine (lLine_none (some ⟨g, 0, none⟩) 1 1 _ (fun W hb => len_above base g [lineOne k.loan] W (hz14.led.below hb) (by simp)) (by omega)).mono ?_
  rintro e w15 ⟨rfl, hb15, -⟩
  have hz15 := hz14.new hb15
  obtain ⟨c1, c2, c3, c4, l1, l2, l3⟩ := hz15.st.cells
  clear hz14 hb15
  go_wp2_with fail
  have hz16 := hz15.alloc (.cells #[.int .u32 0, .int .i32 0, .int .u8 0, .int .u32 0, .slice none 0 0, .int .i64 0] 57)
  clear hz15 c1 c2 c3 c4 l1 l2 l3
  show Code.wp Tryz.prog (.region 18 (List.toArray _) true) _ _ _
  refine wp_region_class (C := Sz w w1 k base g w12.heap.size b o c gf) (by kernel_rfl) nil_order (hz16.new (below_drewN (Below.refl _ _) 1)) ?_
  simp only [List.append]
  repeat (first
    | (go_big_quiet_want; go_big_quiet_op; go_big_quiet_on)
    | (go_big_quiet_want; go_big_quiet_op; apply Exists.intro; refine ⟨fun W hW => rfl, ?_⟩; go_big_quiet_on))
  go_big_quiet_want
  go_big_quiet_op
  refine ⟨(.agg #[.int .u32 k.loan.toNat, .int .i32 0, .int .u8 1, .int .u32 0, .slice (some ⟨w1.heap.size, 0, none⟩) 2 2] : Value), fun W hW => ?_, ?_⟩
  · obtain ⟨c1, c2, c3, c4, l1, l2, l3⟩ := hW.st.cells
    clear hW
    go_simp
  go_big_quiet_on
  repeat (first
    | (go_big_quiet_want; go_big_quiet_op; go_big_quiet_on)
    | (go_big_quiet_want; go_big_quiet_op; apply Exists.intro; refine ⟨fun W hW => rfl, ?_⟩; go_big_quiet_on))
  go_big_quiet_want
  go_big_quiet_op
  refine ⟨errV 3, fun W hW => ?_, ?_⟩
  · exact (post_nil (keyOne k.loan) _ W).mono fun e w' ⟨he, hb⟩ => ⟨he, hW.new hb⟩
  go_big_quiet_on
  repeat (first
    | (go_big_quiet_want; go_big_quiet_op; go_big_quiet_on)
    | (go_big_quiet_want; go_big_quiet_op; apply Exists.intro; refine ⟨fun W hW => rfl, ?_⟩; go_big_quiet_on))
  go_big_quiet_want
  go_big_quiet_op
  refine ⟨.int .i64 3, fun W hW => ?_, ?_⟩
  · exact (code_errno 3 W (hW.glob hg)).mono fun e w' ⟨he, hb⟩ => ⟨he, hW.new hb⟩
  go_big_quiet_on
  repeat (first
    | (go_big_quiet_want; go_big_quiet_op; go_big_quiet_on)
    | (go_big_quiet_want; go_big_quiet_op; apply Exists.intro; refine ⟨fun W hW => rfl, ?_⟩; go_big_quiet_on))
  go_big_quiet_want
  go_big_quiet_op
  refine ⟨(.agg #[.int .u32 k.loan.toNat, .int .i32 k.day.toInt, .int .u8 k.kind.toNat, .int .u32 k.seq.toNat] : Value), fun W hW => ?_, ?_⟩
  · obtain ⟨c1, c2, c3, c4, l1, l2, l3⟩ := hW.st.cells
    clear hW
    go_simp
  go_big_quiet_on
  repeat (first
    | (go_big_quiet_want; go_big_quiet_op; go_big_quiet_on)
    | (go_big_quiet_want; go_big_quiet_op; apply Exists.intro; refine ⟨fun W hW => rfl, ?_⟩; go_big_quiet_on))
  go_big_quiet_want
  go_big_quiet_op
  refine ⟨errV 3, fun W hW => ?_, ?_⟩
  · exact (reverse_nil k W).mono fun e w' ⟨he, hb⟩ => ⟨he, hW.new hb⟩
  go_big_quiet_on
  repeat (first
    | (go_big_quiet_want; go_big_quiet_op; go_big_quiet_on)
    | (go_big_quiet_want; go_big_quiet_op; apply Exists.intro; refine ⟨fun W hW => rfl, ?_⟩; go_big_quiet_on))
  go_big_quiet_want
  go_big_quiet_op
  refine ⟨.int .i64 3, fun W hW => ?_, ?_⟩
  · exact (code_errno 3 W (hW.glob hg)).mono fun e w' ⟨he, hb⟩ => ⟨he, hW.new hb⟩
  go_big_quiet_on
  repeat (first
    | (go_big_quiet_want; go_big_quiet_op; go_big_quiet_on)
    | (go_big_quiet_want; go_big_quiet_op; apply Exists.intro; refine ⟨fun W hW => rfl, ?_⟩; go_big_quiet_on))
  go_big_quiet_want
  go_big_quiet_op
  refine ⟨.slice none 0 0, fun W hW => ?_, ?_⟩
  · exact (loan_nil 1 W).mono fun e w' ⟨he, hb⟩ => ⟨he, hb ▸ hW⟩
  go_big_quiet_on
  repeat (first
    | (go_big_quiet_want; go_big_quiet_op; go_big_quiet_on)
    | (go_big_quiet_want; go_big_quiet_op; apply Exists.intro; refine ⟨fun W hW => rfl, ?_⟩; go_big_quiet_on))
  go_big_quiet_want
  go_big_quiet_op
  refine ⟨.slice none 0 0, fun W hW => ?_, ?_⟩
  · exact (loans_nil W).mono fun e w' ⟨he, hb⟩ => ⟨he, hb ▸ hW⟩
  go_big_quiet_on
  repeat (first
    | (go_big_quiet_want; go_big_quiet_op; go_big_quiet_on)
    | (go_big_quiet_want; go_big_quiet_op; apply Exists.intro; refine ⟨fun W hW => rfl, ?_⟩; go_big_quiet_on))
  go_big_quiet_want
  go_big_quiet_op
  refine ⟨.slice none 0 0, fun W hW => ?_, ?_⟩
  · exact (lBytes_nil W).mono fun e w' ⟨he, hb⟩ => ⟨he, hb ▸ hW⟩
  go_big_quiet_on
  repeat (first
    | (go_big_quiet_want; go_big_quiet_op; go_big_quiet_on)
    | (go_big_quiet_want; go_big_quiet_op; apply Exists.intro; refine ⟨fun W hW => rfl, ?_⟩; go_big_quiet_on))
  go_big_quiet_want
  go_big_quiet_op
  refine ⟨.int .i64 0, fun W hW => ?_, ?_⟩
  · exact (lLen_nil W).mono fun e w' ⟨he, hb⟩ => ⟨he, hb ▸ hW⟩
  go_big_quiet_on
  repeat (first
    | (go_big_quiet_want; go_big_quiet_op; go_big_quiet_on)
    | (go_big_quiet_want; go_big_quiet_op; apply Exists.intro; refine ⟨fun W hW => rfl, ?_⟩; go_big_quiet_on))
  go_big_quiet_want
  go_big_quiet_op
  refine ⟨.int .u32 k.loan.toNat, fun W hW => ?_, ?_⟩
  · obtain ⟨c1, c2, c3, c4, l1, l2, l3⟩ := hW.st.cells
    clear hW
    go_simp
  go_big_quiet_on
  repeat (first
    | (go_big_quiet_want; go_big_quiet_op; go_big_quiet_on)
    | (go_big_quiet_want; go_big_quiet_op; apply Exists.intro; refine ⟨fun W hW => rfl, ?_⟩; go_big_quiet_on))
  go_big_quiet_want
  go_big_quiet_op
  refine ⟨.int .i64 0, fun W hW => ?_, ?_⟩
  · exact (balance_nil _ _ W).mono fun e w' ⟨he, hb⟩ => ⟨he, hb ▸ hW⟩
  go_big_quiet_on
  repeat (first
    | (go_big_quiet_want; go_big_quiet_op; go_big_quiet_on)
    | (go_big_quiet_want; go_big_quiet_op; apply Exists.intro; refine ⟨fun W hW => rfl, ?_⟩; go_big_quiet_on))
  go_big_quiet_want
  go_big_quiet_op
  refine ⟨.int .i64 0, fun W hW => ?_, ?_⟩
  · exact (control_nil _ W).mono fun e w' ⟨he, hb⟩ => ⟨he, hb ▸ hW⟩
  go_big_quiet_on
  repeat (first
    | (go_big_quiet_want; go_big_quiet_op; go_big_quiet_on)
    | (go_big_quiet_want; go_big_quiet_op; apply Exists.intro; refine ⟨fun W hW => rfl, ?_⟩; go_big_quiet_on))
  go_big_quiet_want
  go_big_quiet_op
  refine ⟨.pointer none, fun W hW => ?_, ?_⟩
  · exact (lCopy_nil W).mono fun e w' ⟨he, hb⟩ => ⟨he, hb ▸ hW⟩
  go_big_quiet_on
  repeat (first
    | (go_big_quiet_want; go_big_quiet_op; go_big_quiet_on)
    | (go_big_quiet_want; go_big_quiet_op; apply Exists.intro; refine ⟨fun W hW => rfl, ?_⟩; go_big_quiet_on))
  go_big_quiet_want
  go_big_quiet_op
  refine ⟨.bool true, fun W hW => ?_, ?_⟩
  · exact (lSame_nn W).mono fun e w' ⟨he, hb⟩ => ⟨he, hb ▸ hW⟩
  go_big_quiet_on
  repeat (first
    | (go_big_quiet_want; go_big_quiet_op; go_big_quiet_on)
    | (go_big_quiet_want; go_big_quiet_op; apply Exists.intro; refine ⟨fun W hW => rfl, ?_⟩; go_big_quiet_on))
  go_big_quiet_want
  go_big_quiet_op
  refine ⟨.bool false, fun W hW => ?_, ?_⟩
  · exact (lSame_np g W).mono fun e w' ⟨he, hb⟩ => ⟨he, hb ▸ hW⟩
  go_big_quiet_on
  repeat (first
    | (go_big_quiet_want; go_big_quiet_op; go_big_quiet_on)
    | (go_big_quiet_want; go_big_quiet_op; apply Exists.intro; refine ⟨fun W hW => rfl, ?_⟩; go_big_quiet_on))
  go_big_quiet_want
  go_big_quiet_op
  refine ⟨.slice (some ⟨b, o, none⟩) 2 c, fun W hW => ?_, ?_⟩
  · have c1 := hW.box.cell
    clear hW
    go_simp
  go_big_quiet_on
  repeat (first
    | (go_big_quiet_want; go_big_quiet_op; go_big_quiet_on)
    | (go_big_quiet_want; go_big_quiet_op; apply Exists.intro; refine ⟨fun W hW => rfl, ?_⟩; go_big_quiet_on))
  go_big_quiet_want
  go_big_quiet_op
  refine ⟨.int .i64 (-5), fun W hW => ?_, ?_⟩
  · have c1 := hW.leg
    clear hW
    go_simp
  go_big_quiet_on
  repeat (first
    | (go_big_quiet_want; go_big_quiet_op; go_big_quiet_on)
    | (go_big_quiet_want; go_big_quiet_op; apply Exists.intro; refine ⟨fun W hW => rfl, ?_⟩; go_big_quiet_on))
  go_big_quiet_want
  go_big_quiet_op
  refine ⟨.int .i64 10, fun W hW => ?_, ?_⟩
  · exact (code_fault 10 gf _ W (hW.glob hg) hW.fault).mono fun e w' ⟨he, hb⟩ => ⟨he, hW.new hb⟩
  go_big_quiet_on
  repeat (first
    | (go_big_quiet_want; go_big_quiet_op; go_big_quiet_on)
    | (go_big_quiet_want; go_big_quiet_op; apply Exists.intro; refine ⟨fun W hW => rfl, ?_⟩; go_big_quiet_on))
  go_big_quiet_want
  go_big_quiet_op
  refine ⟨.int .u64 k.loan.toNat, fun W hW => ?_, ?_⟩
  · exact (at_fault k.loan.toNat gf _ W (hW.glob hg) hW.fault).mono fun e w' ⟨he, hb⟩ => ⟨he, hW.new hb⟩
  go_big_quiet_on
  repeat (first
    | (go_big_quiet_want; go_big_quiet_op; go_big_quiet_on)
    | (go_big_quiet_want; go_big_quiet_op; apply Exists.intro; refine ⟨fun W hW => rfl, ?_⟩; go_big_quiet_on))
  go_big_quiet_want
  go_big_quiet_op
  refine ⟨.int .u32 k.loan.toNat, fun W hW => ?_, ?_⟩
  · obtain ⟨c1, c2, c3, c4, l1, l2, l3⟩ := hW.st.cells
    clear hW
    go_simp
  go_big_quiet_on
  repeat (first
    | (go_big_quiet_want; go_big_quiet_op; go_big_quiet_on)
    | (go_big_quiet_want; go_big_quiet_op; apply Exists.intro; refine ⟨fun W hW => rfl, ?_⟩; go_big_quiet_on))
  refine wpQuiet_nil ?_
  intro W hW
  go_wp2_with fail
  go_ret
  exact ⟨rfl, hW.st.low⟩
end Go.Proofs.YthagpdhnblmokaaGreatDoor
