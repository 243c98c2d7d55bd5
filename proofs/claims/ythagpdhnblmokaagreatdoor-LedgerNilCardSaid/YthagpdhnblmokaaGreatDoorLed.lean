/- A ledger in memory. -/
import Derived.Test.YthagpdhnblmokaaGreatDoorModel
namespace Go.Proofs.YthagpdhnblmokaaGreatDoor
open Go.RowKit Go.Maps

noncomputable abbrev klKey := klit Tryz.prog 33 fun k : MKey => keyVal k
noncomputable abbrev klPair := klit Tryz.prog 157 fun k : MPair => pairVal k

/-- The ledger at block g: M: the blocks that it may write, S: those that it only reads. -/
structure LedRep (w : World) (g : Nat) (M S : Nat → Prop) (v : Value) (bl bs nl ns : Nat) (rs : List MRow) (fl : MKey → Option Int) (fs : MPair → Option Int) : Prop where
  blk : Blk w g 142 #[v, .map (some bl), .map (some bs)]
  row : w.ownsRow 0 57 6 v rs.length (rowsCells rs)
  live : FMap Tryz.prog 33 3 klKey w bl nl fl
  sums : FMap Tryz.prog 157 50 klPair w bs ns fs
  ne : bl ≠ bs
  legs : LegsOf w S rs
  mg : M g
  ml : M bl
  ms : M bs
  mr : ∀ b, v.ownBlock = some b → M b
  apart : ∀ b, M b → ¬ S b
  mlt : ∀ b, M b → b < w.heap.size
  slt : ∀ b, S b → b < w.heap.size
def IsLed (w : World) (g : Nat) (M S : Nat → Prop) (L : List MLine) : Prop :=
  ∃ v bl bs nl ns rs fl fs, LedRep w g M S v bl bs nl ns rs fl fs ∧ rs.map (·.line) = L ∧ (∀ k, fl k = (Go.Proofs.YthagpdhnblmokaaGreatDoor.live L k).map Int.ofNat) ∧ (∀ p, (fs p).getD 0 = pairSum L p) ∧ nl ≤ L.length ∧ ns ≤ L.length * 16

section
variable {w w' : World} {g : Nat} {M S T : Nat → Prop} {v : Value} {bl bs nl ns : Nat} {rs : List MRow} {fl : MKey → Option Int} {fs : MPair → Option Int} {L : List MLine}
theorem own_only {base : Nat} {e : TypeId} {size n : Nat} {xs : List Value} (h : w.ownsRow base e size v n xs) (ho : Only T w w') (hd : ∀ b, v.ownBlock = some b → ¬ T b) : w'.ownsRow base e size v n xs := by
  refine ⟨h.1, ?_⟩
  rcases h.2 with h2 | ⟨g', cap, cur, rfl, hb, hh, r⟩
  · exact .inl h2
  · exact .inr ⟨g', cap, cur, rfl, hb, (ho.block g' (Array.getElem?_eq_some_iff.1 hh).1 (hd g' rfl)).trans hh, r⟩
theorem LedRep.only (h : LedRep w g M S v bl bs nl ns rs fl fs) (ho : Only T w w') (hm : ∀ b, M b → ¬ T b) (hs : ∀ b, S b → ¬ T b) : LedRep w' g M S v bl bs nl ns rs fl fs where
  blk := h.blk.only ho (hm _ h.mg)
  row := own_only h.row ho (fun b hb => hm b (h.mr b hb))
  live := h.live.only ho (hm _ h.ml)
  sums := h.sums.only ho (hm _ h.ms)
  ne := h.ne
  legs := h.legs.only ho hs
  mg := h.mg
  ml := h.ml
  ms := h.ms
  mr := h.mr
  apart := h.apart
  mlt := fun b hb => Nat.lt_of_lt_of_le (h.mlt b hb) ho.size
  slt := fun b hb => Nat.lt_of_lt_of_le (h.slt b hb) ho.size
theorem IsLed.only (h : IsLed w g M S L) (ho : Only T w w') (hm : ∀ b, M b → ¬ T b) (hs : ∀ b, S b → ¬ T b) : IsLed w' g M S L := by
  obtain ⟨v, bl, bs, nl, ns, rs, fl, fs, hr, rest⟩ := h
  exact ⟨v, bl, bs, nl, ns, rs, fl, fs, hr.only ho hm hs, rest⟩
end

set_option maxHeartbeats 1000000 in
theorem lNew_any (w : World) : Calls Tryz.prog 16 #[] w fun e w' => ∃ g, e = .returned (.pointer (some ⟨g, 0, none⟩)) ∧ w.heap.size ≤ g ∧ IsLed w' g (fun i => w.heap.size ≤ i ∧ i < w.heap.size + 3) (fun _ => False) [] ∧ Below w.heap.size w w' := by
  have hmm := @run_makeMap Tryz.prog
  go_enter Tryz.func16, Tryz.ntmps16
  go_wp2
  go_ret
  refine ⟨w.heap.size + 2, rfl, by omega, ?_, by go_grown⟩
  have hb : Below w.heap.size w (((w.alloc (.map #[] 0)).alloc (.map #[] 0)).alloc (.cells #[.slice none 0 0, .map (some w.heap.size), .map (some (w.heap.size + 1))] 142)) := by go_grown
  refine ⟨.slice none 0 0, w.heap.size, w.heap.size + 1, 0, 0, [], fun _ => none, fun _ => none, ⟨?_, ?_, ?_, ?_, by omega, ?_, by simp <;> omega, by simp <;> omega, by simp <;> omega, ?_, fun _ _ h => h, ?_, fun _ h => h.elim⟩, rfl, fun k => rfl, fun p => ?_, by simp, by simp⟩
  · have := Blk.new ((w.alloc (.map #[] 0)).alloc (.map #[] 0)) 142 #[.slice none 0 0, .map (some w.heap.size), .map (some (w.heap.size + 1))]
    simpa using this
  · exact ⟨rfl, .inl ⟨rfl, rfl⟩⟩
  · exact ((FMap.made w Tryz.prog 33 3 klKey).only (Only.refl (fun _ => False) _ |>.alloc _ |>.alloc _) (fun h => h))
  · have := FMap.made (w.alloc (.map #[] 0)) Tryz.prog 157 50 klPair
    rw [show (w.alloc (.map #[] 0)).heap.size = w.heap.size + 1 by simp] at this
    exact this.only (Only.refl (fun _ => False) _ |>.alloc _) (fun h => h)
  · intro r h; cases h
  · intro b h; cases h
  · intro b h; simp; omega
  · unfold pairSum; split
    · split <;> rfl
    · rfl

set_option maxHeartbeats 1000000 in
theorem lLen_any (g : Nat) (M S : Nat → Prop) (L : List MLine) (w : World) (h : IsLed w g M S L) (hL : L.length ≤ 1000000) : Calls Tryz.prog 22 #[.pointer (some ⟨g, 0, none⟩)] w fun e w' => e = .returned (.int .i64 L.length) ∧ w = w' := by
  obtain ⟨v, bl, bs, nl, ns, rs, fl, fs, hr, rfl, _⟩ := h
  have hc := hr.blk.cell
  have hlen := hr.row.1
  obtain ⟨A, c, rfl⟩ := own_slice hr.row
  go_enter Tryz.func22, Tryz.ntmps22
  go_wp2
  go_ret
  exact ⟨by simp, rfl⟩
end Go.Proofs.YthagpdhnblmokaaGreatDoor
