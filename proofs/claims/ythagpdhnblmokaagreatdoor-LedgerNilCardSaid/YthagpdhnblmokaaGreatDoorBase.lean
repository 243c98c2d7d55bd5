/- The words of this seat's proofs: keys, legs and entries as plain data, how they lie in memory, what a call leaves as it was. -/
import Derived.Test.YthagpdhnblmokaaGreatDoorProg
import Derived.WalkKit
import Derived.WalkSpells
import Derived.WalkLawsBesides
import Derived.Lib.Hide
import Derived.Deep.QuietTactic
import Derived.BigQuiet
import Derived.Handy
import Derived.StillTailTactics
namespace Go.Proofs.YthagpdhnblmokaaGreatDoor
open Go.RowKit

/-! ### Plain data -/
structure MKey where
  loan : UInt32
  day : Int32
  kind : UInt8
  seq : UInt32
  deriving DecidableEq
structure MLeg where
  account : UInt8
  amount : Int64
  deriving DecidableEq

theorem u8b (x : UInt8) : (x.toNat : Int) ≤ 255 := by have := x.toNat_lt; omega
theorem u32b (x : UInt32) : (x.toNat : Int) ≤ 4294967295 := by have := x.toNat_lt; omega
theorem i32b (x : Int32) : -2147483648 ≤ x.toInt ∧ x.toInt ≤ 2147483647 := by have := x.le_toInt; have := x.toInt_lt; omega
theorem i64b (x : Int64) : -9223372036854775808 ≤ x.toInt ∧ x.toInt ≤ 9223372036854775807 := by have := x.le_toInt; have := x.toInt_lt; omega

abbrev keyVal (k : MKey) : Value := .agg #[.int .u32 k.loan.toNat, .int .i32 k.day.toInt, .int .u8 k.kind.toNat, .int .u32 k.seq.toNat]
abbrev entVal (k : MKey) (v : Value) : Value := .agg #[.int .u32 k.loan.toNat, .int .i32 k.day.toInt, .int .u8 k.kind.toNat, .int .u32 k.seq.toNat, v]
abbrev legVal (l : MLeg) : Value := .agg #[.int .u8 l.account.toNat, .int .i64 l.amount.toInt]
abbrev errV (n : Int) : Value := .iface 69 (.int .i64 n)

/-! ### What a call leaves as it was -/
/-- Only blocks of S, and new ones, may differ. -/
structure Only (S : Nat → Prop) (w w' : World) : Prop where
  os : w'.os = w.os
  tape : w'.tape = w.tape
  output : w'.output = w.output
  size : w.heap.size ≤ w'.heap.size
  block : ∀ i, i < w.heap.size → ¬ S i → w'.heap[i]? = w.heap[i]?

section
variable {S T : Nat → Prop} {a b c w w' : World}
theorem Only.refl (S : Nat → Prop) (w : World) : Only S w w := ⟨rfl, rfl, rfl, Nat.le_refl _, fun _ _ _ => rfl⟩
theorem Only.trans (h : Only S a b) (k : Only T b c) (hT : ∀ i, i < a.heap.size → T i → S i) : Only S a c :=
  ⟨k.os.trans h.os, k.tape.trans h.tape, k.output.trans h.output, Nat.le_trans h.size k.size, fun i hi hn => (k.block i (Nat.lt_of_lt_of_le hi h.size) (fun ht => hn (hT i hi ht))).trans (h.block i hi hn)⟩
theorem Only.mono (h : Only S a b) (hS : ∀ i, i < a.heap.size → S i → T i) : Only T a b :=
  ⟨h.os, h.tape, h.output, h.size, fun i hi hn => h.block i hi (fun hs => hn (hS i hi hs))⟩
theorem Only.of_below (h : Below a.heap.size a b) : Only S a b := ⟨h.os, h.tape, h.output, h.size, fun i hi _ => h.block i hi⟩
theorem Only.of_grown {row : Option Nat} (h : a.grownBy b row) : Only (fun i => row = some i) a b := ⟨h.os, h.tape, h.output, h.size, fun i hi hn => h.block i hi (fun e => hn e.symm)⟩
theorem Only.below (h : Only S a b) {B : Nat} (hB : B ≤ a.heap.size) (hS : ∀ i, i < B → ¬ S i) : Below B a b :=
  ⟨h.os, h.tape, h.output, h.size, fun i hi => h.block i (by omega) (hS i hi)⟩
theorem Only.cell (h : Only S w w') {p : Addr} (hp : p.block < w.heap.size) (hn : ¬ S p.block) : w'.cell? p = w.cell? p := World.cell?_of_block (h.block p.block hp hn)
theorem Only.frozen (h : Only S w w') {p : Addr} (hp : p.block < w.heap.size) (hn : ¬ S p.block) : w'.frozen? p = w.frozen? p := World.frozen?_of_block (h.block p.block hp hn)
theorem Only.drewN (h : Only S a b) (n : Nat) : Only S a (b.drewN n) := ⟨h.os, h.tape, h.output, h.size, h.block⟩
theorem Only.drew (h : Only S a b) : Only S a b.drew := ⟨h.os, h.tape, h.output, h.size, h.block⟩
theorem Only.alloc (h : Only S a b) (o : Obj) : Only S a (b.alloc o) :=
  h.trans (T := fun _ => False) ⟨rfl, rfl, rfl, by simp, fun i hi _ => Below.heap_alloc _ _ _ hi⟩ (fun _ _ h => h.elim)
theorem Only.setCell (h : Only S a b) {p : Addr} (hp : a.heap.size ≤ p.block ∨ S p.block) (u : Value) : Only S a (b.setCell p u) :=
  h.trans (T := fun i => i = p.block) ⟨rfl, rfl, rfl, by simp [World.setCell], fun i _ hn => Below.heap_setCell _ _ _ _ hn⟩ (fun i hi e => by
    subst e
    rcases hp with hp | hp
    · omega
    · exact hp)
end

theorem bcell {W w1 : World} (hb : Below W.heap.size W w1) : (∀ b o, b < W.heap.size → w1.cell? ⟨b, o, none⟩ = W.cell? ⟨b, o, none⟩) ∧ (∀ b o, b < W.heap.size → w1.frozen? ⟨b, o, none⟩ = W.frozen? ⟨b, o, none⟩) :=
  ⟨fun b o h => hb.cell (p := ⟨b, o, none⟩) h, fun b o h => hb.frozen (p := ⟨b, o, none⟩) h⟩
theorem below_drewN {B : Nat} {a w : World} (h : Below B a w) (n : Nat) : Below B a (w.drewN n) := ⟨h.os, h.tape, h.output, h.size, h.block⟩
theorem below_then {a w w1 : World} (h : Below a.heap.size a w) (k : Below w.heap.size w w1) : Below a.heap.size a w1 := h.trans (k.mono h.size)

/-! ### A block that is known whole -/
def Blk (w : World) (g : Nat) (t : TypeId) (cs : Array Value) : Prop := w.heap[g]? = some (.cells cs t (0, 0))
section
variable {w w' : World} {g : Nat} {t : TypeId} {cs : Array Value}
theorem Blk.lt (h : Blk w g t cs) : g < w.heap.size := (Array.getElem?_eq_some_iff.1 h).1
theorem Blk.cell (h : Blk w g t cs) (i : Nat) : w.cell? ⟨g, i, none⟩ = cs[i]? := by unfold Blk at h; simp [World.cell?, h]
theorem Blk.frozen (h : Blk w g t cs) (i : Nat) : w.frozen? ⟨g, i, none⟩ = false := by unfold Blk at h; simp [World.frozen?, h]
theorem Blk.new (w : World) (t : TypeId) (cs : Array Value) : Blk (w.alloc (.cells cs t)) w.heap.size t cs := heap_alloc_new w _
theorem Blk.only {S : Nat → Prop} (h : Blk w g t cs) (ho : Only S w w') (hn : ¬ S g) : Blk w' g t cs := (ho.block g h.lt hn).trans h
theorem Blk.below {B : Nat} (h : Blk w g t cs) (hb : Below B w w') (hg : g < B) : Blk w' g t cs := (hb.block g hg).trans h
theorem Blk.grown {row : Option Nat} (h : Blk w g t cs) (hb : w.grownBy w' row) (hg : some g ≠ row) : Blk w' g t cs := (hb.block g h.lt hg).trans h
theorem Blk.alloc (h : Blk w g t cs) (o : Obj) : Blk (w.alloc o) g t cs := (Below.heap_alloc w o g h.lt).trans h
theorem Blk.drewN (h : Blk w g t cs) (n : Nat) : Blk (w.drewN n) g t cs := h
theorem Blk.drew (h : Blk w g t cs) : Blk w.drew g t cs := h
theorem Blk.far (h : Blk w g t cs) {p : Addr} (hp : g ≠ p.block) (u : Value) : Blk (w.setCell p u) g t cs := (Below.heap_setCell w p u g hp).trans h
theorem Blk.set (h : Blk w g t cs) (i : Nat) (u : Value) : Blk (w.setCell ⟨g, i, none⟩ u) g t (cs.setIfInBounds i u) := by
  unfold Blk at h ⊢
  simp [World.setCell, Array.getElem?_modify, h]
theorem Blk.own_ne {base : Nat} {e : TypeId} {size n : Nat} {v : Value} {xs : List Value} (hg : Blk w g t cs) (h : w.ownsRow base e size v n xs) (hne : e ≠ t) : v.ownBlock ≠ some g := by
  rcases h.2 with ⟨rfl, _⟩ | ⟨g', cap, cur, rfl, _, hh, _⟩
  · simp [Value.ownBlock]
  · intro he
    have e' : g' = g := by simpa [Value.ownBlock] using he
    subst e'
    unfold Blk at hg
    rw [hg] at hh
    injection hh with hh
    injection hh with _ ht
    exact hne ht.symm
end

/-! ### A slice of legs in memory -/
/-- The slice value '.slice A n c' holds the legs ls, in a block of S. -/
def LegsAt (w : World) (S : Nat → Prop) (A : Option Addr) (n : Nat) (ls : List MLeg) : Prop :=
  ls.length = n ∧ (0 < n → ∃ b o, A = some ⟨b, o, none⟩ ∧ S b ∧ b < w.heap.size ∧ ∀ j l, ls[j]? = some l → w.cell? ⟨b, o + j * 2, none⟩ = some (.int .u8 l.account.toNat) ∧ w.cell? ⟨b, o + j * 2 + 1, none⟩ = some (.int .i64 l.amount.toInt))
theorem LegsAt.only {w w' : World} {S T : Nat → Prop} {A : Option Addr} {n : Nat} {ls : List MLeg} (h : LegsAt w S A n ls) (ho : Only T w w') (hd : ∀ b, S b → ¬ T b) : LegsAt w' S A n ls :=
  ⟨h.1, fun hn => by
    obtain ⟨b, o, e, hs, hb, hc⟩ := h.2 hn
    refine ⟨b, o, e, hs, Nat.lt_of_lt_of_le hb ho.size, fun j l hl => ?_⟩
    obtain ⟨h1, h2⟩ := hc j l hl
    exact ⟨(ho.cell (p := ⟨b, _, none⟩) hb (hd b hs)).trans h1, (ho.cell (p := ⟨b, _, none⟩) hb (hd b hs)).trans h2⟩⟩
theorem LegsAt.mono {w : World} {S T : Nat → Prop} {A : Option Addr} {n : Nat} {ls : List MLeg} (h : LegsAt w S A n ls) (hd : ∀ b, b < w.heap.size → S b → T b) : LegsAt w T A n ls :=
  ⟨h.1, fun hn => by
    obtain ⟨b, o, e, hs, hb, hc⟩ := h.2 hn
    exact ⟨b, o, e, hd b hb hs, hb, hc⟩⟩
theorem LegsAt.nil {w : World} {S : Nat → Prop} {A : Option Addr} : LegsAt w S A 0 [] := ⟨rfl, fun h => absurd h (by omega)⟩

/-! ### A region that draws its order: reads and quiet calls, then a forced tail -/
theorem wp_region_tail {P : Program} {id : Nat} {Q : Exit → Act → World → Prop} {a : Act} {w : World} {l : List Oper} (n : Nat) (hm : P.follows .mixedOrders = true) (hB : Region.lexTailB .any l.toArray n = true)
    (h : wpStill P l.toArray w.drew (fun a' => wpList P l.toArray Q (l.drop n) a' w.drew) (l.take n) a) : (Code.region id l.toArray true).wp P Q a w := wp_region_still_tail n hm hB h
theorem same_flip {P : Program} {f : FuncId} {args : Array Value} {w : World} {v : Value} (h : Calls P f args w fun e w' => e = .returned v ∧ w = w') : Calls P f args w fun e w' => e = .returned v ∧ w' = w :=
  h.mono fun _ _ ⟨he, hw⟩ => ⟨he, hw.symm⟩
end Go.Proofs.YthagpdhnblmokaaGreatDoor
