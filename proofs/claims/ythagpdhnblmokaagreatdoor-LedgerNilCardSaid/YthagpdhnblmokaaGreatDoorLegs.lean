/- Legs in memory of the call's own: copies, the reference's own words of an entry. -/
import Derived.Test.YthagpdhnblmokaaGreatDoorRefRight
import Derived.Test.YthagpdhnblmokaaGreatDoorRes
import Derived.Maps.AppendAt
namespace Go.Proofs.YthagpdhnblmokaaGreatDoor
open Go.RowKit

def legCells (ls : List MLeg) : List Value := ls.flatMap fun l => [.int .u8 l.account.toNat, .int .i64 l.amount.toInt]
theorem legCells_length (ls : List MLeg) : (legCells ls).length = ls.length * 2 := by
  induction ls with
  | nil => rfl
  | cons l r ih => simp only [legCells, List.flatMap_cons, List.length_append, List.length_cons, List.length_nil] at *; omega
theorem legCells_append (a b : List MLeg) : legCells (a ++ b) = legCells a ++ legCells b := by simp [legCells]
theorem legCells_at (ls : List MLeg) (j : Nat) (l : MLeg) (h : ls[j]? = some l) : (legCells ls)[j * 2]? = some (.int .u8 l.account.toNat) ∧ (legCells ls)[j * 2 + 1]? = some (.int .i64 l.amount.toInt) := by
  induction ls generalizing j with
  | nil => simp at h
  | cons x r ih =>
    cases j with
    | zero => simp at h; subst h; exact ⟨rfl, rfl⟩
    | succ j =>
      have := ih j (by simpa using h)
      have e : legCells (x :: r) = [.int .u8 x.account.toNat, .int .i64 x.amount.toInt] ++ legCells r := rfl
      rw [e, show (j + 1) * 2 = 2 + j * 2 by omega, show 2 + j * 2 + 1 = 2 + (j * 2 + 1) by omega]
      rw [List.getElem?_append_right (by simp), List.getElem?_append_right (by simp)]
      simpa using this
theorem legCells_one (ls : List MLeg) : ∀ u ∈ legCells ls, u.oneCell' = true := by
  intro u hu
  simp only [legCells, List.mem_flatMap, List.mem_cons, List.not_mem_nil, or_false] at hu
  obtain ⟨l, _, rfl | rfl⟩ := hu <;> rfl
theorem legCells_inv (ls : List MLeg) (i : Nat) (u : Value) (h : (legCells ls)[i]? = some u) : ∃ j l, ls[j]? = some l ∧ ((i = j * 2 ∧ u = .int .u8 l.account.toNat) ∨ (i = j * 2 + 1 ∧ u = .int .i64 l.amount.toInt)) := by
  have hi : i < ls.length * 2 := by
    have := (List.getElem?_eq_some_iff.1 h).1
    rwa [legCells_length] at this
  have hj : i / 2 < ls.length := by omega
  have hl := legCells_at ls (i / 2) ls[i / 2] (List.getElem?_eq_getElem hj)
  refine ⟨i / 2, ls[i / 2], List.getElem?_eq_getElem hj, ?_⟩
  rcases Nat.mod_two_eq_zero_or_one i with h0 | h1
  · have e : i = i / 2 * 2 := by omega
    rw [← e] at hl
    rw [h] at hl
    exact .inl ⟨e, by injection hl.1⟩
  · have e : i = i / 2 * 2 + 1 := by omega
    have := hl.2
    rw [← e, h] at this
    exact .inr ⟨e, by injection this⟩

theorem addr_add (g o j : Nat) : (⟨g, o, none⟩ : Addr).add j = ⟨g, o + j, none⟩ := by unfold Addr.add; split <;> simp_all

/-- A row of the call's own that holds the legs' cells reads as the legs. -/
theorem LegsAt.of_own {w : World} {base : Nat} {T : TypeId} {v : Value} {n : Nat} {ls : List MLeg} (h : w.ownsRow base T 2 v n (legCells ls)) :
    ∃ A c, v = .slice A n c ∧ LegsAt w (fun b => base ≤ b) A n ls ∧ (A = none → n = 0) := by
  have hl : ls.length = n := by have := h.1; rw [legCells_length] at this; omega
  rcases h.2 with ⟨rfl, rfl⟩ | ⟨g, cap, cur, rfl, hb, hh, h1, h2, h3, h4⟩
  · exact ⟨none, 0, rfl, ⟨hl, fun hn => absurd hn (by omega)⟩, fun _ => rfl⟩
  · refine ⟨_, cap, rfl, ⟨hl, fun _ => ⟨g, 0, rfl, hb, (Array.getElem?_eq_some_iff.1 hh).1, fun j l hj => ?_⟩⟩, fun e => by cases e⟩
    obtain ⟨a1, a2⟩ := legCells_at ls j l hj
    have c1 := h.cells (g := g) rfl (j * 2) _ a1
    have c2 := h.cells (g := g) rfl (j * 2 + 1) _ a2
    rw [addr_add] at c1 c2
    exact ⟨c1, by simpa [Nat.add_assoc] using c2⟩
/-- .. and as cells behind its address. -/
theorem LegsAt.cells {w : World} {S : Nat → Prop} {n b o : Nat} {ls : List MLeg} (h : LegsAt w S (some ⟨b, o, none⟩) n ls) : ∀ j u, (legCells ls)[j]? = some u → w.cell? ((⟨b, o, none⟩ : Addr).add j) = some u := by
  intro j u hu
  obtain ⟨i, l, hi, hh⟩ := legCells_inv ls j u hu
  have hn : 0 < n := by have := (List.getElem?_eq_some_iff.1 hi).1; have := h.1; omega
  obtain ⟨b', o', e, _, _, hc⟩ := h.2 hn
  obtain ⟨rfl, rfl⟩ : b = b' ∧ o = o' := by injection e with e; injection e; constructor <;> assumption
  obtain ⟨c1, c2⟩ := hc i l hi
  rw [addr_add]
  rcases hh with ⟨rfl, rfl⟩ | ⟨rfl, rfl⟩
  · exact c1
  · rw [← Nat.add_assoc]; exact c2

/-- What a new block holds, cell by cell. -/
theorem new_cells (w : World) (cs : List Value) (e : TypeId) (g : Nat) (hg : g = w.heap.size) : ∀ j u, cs[j]? = some u → (w.alloc (.cells cs.toArray e)).cell? ((⟨g, 0, none⟩ : Addr).add j) = some u := by
  intro j u hu
  subst hg
  rw [addr_add, Nat.zero_add, (Blk.new w e cs.toArray).cell j]
  simpa using hu
theorem own_slice {w : World} {base n : Nat} {e : TypeId} {size : Nat} {v : Value} {xs : List Value} (h : w.ownsRow base e size v n xs) : ∃ A c, v = .slice A n c := by
  rcases h.2 with ⟨rfl, rfl⟩ | ⟨g, cap, cur, rfl, _⟩
  · exact ⟨none, 0, rfl⟩
  · exact ⟨_, cap, rfl⟩
theorem own_base {w : World} {base : Nat} {e : TypeId} {size n : Nat} {v : Value} {xs : List Value} (h : w.ownsRow base e size v n xs) (k : Nat) (hk : v.ownBlock = some k) : base ≤ k := by
  rcases h.2 with ⟨rfl, _⟩ | ⟨g, cap, cur, rfl, hb, _⟩
  · simp [Value.ownBlock] at hk
  · have : g = k := by simpa [Value.ownBlock] using hk
    omega
theorem own_empty (w : World) (e : TypeId) (size : Nat) : (w.alloc (.cells #[] e)).ownsRow w.heap.size e size (.slice (some ⟨w.heap.size, 0, none⟩) 0 0) 0 [] :=
  ⟨by simp, .inr ⟨w.heap.size, 0, #[], rfl, Nat.le_refl _, heap_alloc_new w _, Nat.le_refl _, by simp [maxLen], by simp, by simp⟩⟩

theorem Tryz.infoLeg : (Tryz.prog.info? 63).map (fun i => (i.zero, i.size, i.bytes)) = some (some (.agg #[.int .u8 0, .int .i64 0]), 2, 16) := by kernel_rfl
theorem Tryz.infoRLeg : (Tryz.prog.info? 232).map (fun i => (i.zero, i.size, i.bytes)) = some (some (.agg #[.int .u8 0, .int .i64 0]), 2, 16) := by kernel_rfl

set_option maxHeartbeats 1000000 in
theorem cloneLegs_nil (n c : Nat) (w : World) : Calls Tryz.prog 144 #[.slice none n c] w fun e w' => e = .returned (.slice none 0 0) ∧ w = w' := by
  have q := fun (w : World) (a : Option Addr) (n c n' c' : Nat) => Lib.run_eql_slice_nil (P := Tryz.prog) w _ _ a n c n' c' Tryz.underlying34
  go_enter Tryz.func144, Tryz.ntmps144
  go_wp2
  go_ret
  exact ⟨rfl, rfl⟩
set_option maxHeartbeats 1000000 in
theorem cloneLegs_some (b o n c : Nat) (ls : List MLeg) (S : Nat → Prop) (w : World) (hl : LegsAt w S (some ⟨b, o, none⟩) n ls) (hn : n ≤ 1000000) :
    Calls Tryz.prog 144 #[.slice (some ⟨b, o, none⟩) n c] w fun e w' => ∃ A' c', e = .returned (.slice A' n c') ∧ LegsAt w' (fun g => w.heap.size ≤ g) A' n ls ∧ (A' = none → n = 0) ∧ Below w.heap.size w w' := by
  have q := fun (w : World) (a : Option Addr) (n c n' c' : Nat) => Lib.run_eql_slice_nil (P := Tryz.prog) w _ _ a n c n' c' Tryz.underlying34
  obtain ⟨i0, hi, hz0, hz1, hz2⟩ := info_parts Tryz.infoLeg
  have hlen : (legCells ls).length = n * 2 := by rw [legCells_length, hl.1]
  go_enter Tryz.func144, Tryz.ntmps144
  have hown : (w.alloc (.cells #[] 63)).ownsRow w.heap.size 63 2 (.slice (some ⟨w.heap.size, 0, none⟩) 0 0) 0 [] := own_empty w _ _
  have hl1 : LegsAt (w.alloc (.cells #[] 63)) (fun g => g < w.heap.size) (some ⟨b, o, none⟩) n ls := (hl.mono (fun g hg _ => hg)).only ((Only.refl (fun _ => False) _).alloc _) (fun _ _ h => h)
  go_wp2_with (at_builtin
               refine wpList_append_own_at _ rfl (.tmp 5) (.tmp 6) 34 rfl w.heap.size 63 i0 _ 2 16 Tryz.underlying34 hi hz0 hz1 hz2 rfl (by decide) _ _ _ rfl hown ⟨b, o, none⟩ n c (legCells ls) rfl hlen hl1.cells (legCells_one ls) (by unfold maxLen; omega) (by omega) (by simp) ?_
               intro v' w1 hown1 hg1 hz hat)
  go_ret
  rw [List.nil_append, Nat.zero_add] at hown1
  obtain ⟨A', c', rfl, h1, h2⟩ := LegsAt.of_own hown1
  exact ⟨A', c', rfl, h1, h2, ((Below.refl _ _).alloc (Nat.le_refl _) _).grown hg1 (by simp) (fun k hk => by cases hk; exact Nat.le_refl _)⟩

set_option maxHeartbeats 1000000 in
theorem key_any (k : MKey) (w : World) : Calls Tryz.prog 62 #[keyVal k] w fun e w' => e = .returned (keyVal k) ∧ Below w.heap.size w w' := by
  go_enter Tryz.func62, Tryz.ntmps62
  go_wp2
  go_returns
  exact ⟨rfl, by go_grown⟩

set_option maxRecDepth 100000 in
set_option maxHeartbeats 1000000 in
theorem own_any (k : MKey) (A : Option Addr) (n c : Nat) (ls : List MLeg) (S : Nat → Prop) (w : World) (hl : LegsAt w S A n ls) (hn : n ≤ 1000000) :
    Calls Tryz.prog 65 #[entVal k (.slice A n c)] w fun e w' => ∃ A' c', e = .returned (entVal k (.slice A' n c')) ∧ LegsAt w' (fun g => w.heap.size ≤ g) A' n ls ∧ (A' = none → n = 0) ∧ Below w.heap.size w w' := by
  obtain ⟨i0, hi, hz0, hz1, hz2⟩ := info_parts Tryz.infoRLeg
  go_enter Tryz.func65, Tryz.ntmps65
  go_wp2_with fail
  refine (key_any k _).mono ?_
  rintro e w1 ⟨rfl, hb⟩
  have hbw : Below w.heap.size w w1 := below_then (((Below.refl _ _).alloc (Nat.le_refl _) _).alloc (by simp) _) hb
  have hsz : w.heap.size + 1 < w1.heap.size := by have := hb.size; simp at this; omega
  have hsz0 : w.heap.size < w1.heap.size := by omega
  have hB1 : Blk w1 (w.heap.size + 1) 45 #[.int .u32 0, .int .i32 0, .int .u8 0, .int .u32 0, .slice none 0 0] := Blk.below (by simpa using Blk.new (w.alloc _) 45 _) hb (by simp)
  have hcell : w1.cell? ⟨w.heap.size, 4, none⟩ = some (.slice A n c) := by rw [hb.cell (p := ⟨w.heap.size, 4, none⟩) (by simp; omega)]; simp [go_sem]
  clear hb
  go_wp2_with fail
  go_loopw [13] (fun i wr => ∃ (j : Nat) (v : Value), j ≤ n ∧ i = .int .i64 j ∧ Blk wr w1.heap.size 45 #[.int .u32 k.loan.toNat, .int .i32 k.day.toInt, .int .u8 k.kind.toNat, .int .u32 k.seq.toNat, v] ∧ wr.ownsRow (w1.heap.size + 1) 232 2 v j (legCells (ls.take j)) ∧ Below w1.heap.size w1 wr) (fun i _ => n - (intOf i).toNat)
  case atStart => exact ⟨0, .slice none 0 0, by omega, rfl, Blk.new _ _ _, ⟨by simp [legCells], .inl ⟨rfl, rfl⟩⟩, (Below.refl _ _).alloc (Nat.le_refl _) _⟩
  case round =>
    obtain ⟨j, v, hj, rfl, hB, hown, hbr⟩ := hrel
    have hcB := hB.cell
    have hfB := hB.frozen
    have hbrw := below_then hbw hbr
    by_cases hlt : j < n
    · obtain ⟨b, o, rfl, hS, hbl, hcl⟩ := hl.2 (by omega)
      have hjl : j < ls.length := by rw [hl.1]; exact hlt
      obtain ⟨l, hlj⟩ : ∃ l, l = ls[j] := ⟨_, rfl⟩
      obtain ⟨c1, c2⟩ := hcl j l (by rw [hlj]; exact List.getElem?_eq_getElem hjl)
      have c1' := (hbrw.cell (p := ⟨b, o + j * 2, none⟩) hbl).trans c1
      have c2' := (hbrw.cell (p := ⟨b, o + j * 2 + 1, none⟩) hbl).trans c2
      have htk : Hid (legCells (ls.take (j + 1)) = legCells (ls.take j) ++ legCells [l]) := by
        unfold Hid
        rw [← legCells_append, hlj, List.take_succ_eq_append_getElem hjl]
      clear c1 c2 hcl hlj
      have hgl := hB.lt
      have hne := hB.own_ne hown (by decide)
      have hsz2 : w1.heap.size + 1 ≤ ((wr.alloc (.cells #[.int .u8 l.account.toNat, .int .i64 l.amount.toInt] 63)).alloc (.cells #[.int .u8 l.account.toNat, .int .i64 l.amount.toInt] 232)).heap.size := by simp; omega
      go_wp2_with (at_builtin
                   refine wpList_append_own_at _ rfl (.tmp 18) (.tmp 24) 43 rfl (w1.heap.size + 1) 232 i0 _ 2 16 Tryz.underlying43 hi hz0 hz1 hz2 rfl (by decide) v j (legCells (ls.take j)) rfl ((hown.alloc _).alloc _) ⟨wr.heap.size + 1, 0, none⟩ 1 1 (legCells [l]) rfl rfl (new_cells (wr.alloc _) (legCells [l]) 232 _ (by simp)) (legCells_one [l]) (by unfold maxLen; omega) (by omega) hsz2 ?_
                   intro v' w2 hown2 hg2 hz hat
                   have hB2 := ((hB.alloc (.cells #[.int .u8 l.account.toNat, .int .i64 l.amount.toInt] 63)).alloc (.cells #[.int .u8 l.account.toNat, .int .i64 l.amount.toInt] 232)).grown hg2 (fun e => hne e.symm)
                   obtain ⟨A2, c2, hv2⟩ := own_slice hown2
                   rw [hv2] at hown2 hat ⊢
                   clear hv2 hz
                   have hcB2 := hB2.cell
                   have hfB2 := hB2.frozen)
      rw [← htk.out] at hown2
      go_roundw
      case rel => 
        have hb2 : Below w1.heap.size w1 w2 := ((hbr.alloc hbr.size _).alloc (Nat.le_trans hbr.size (by simp)) _).grown hg2 (by simp; omega) (fun g hg => by have := own_base hown g hg; omega)
        refine ⟨j + 1, .slice A2 (j + 1) c2, by omega, by go_num, ?_, ?_, hb2.setCell (Nat.le_refl _) _⟩
        · simpa using hB2.set 4 (.slice A2 (j + 1) c2)
        · exact ownsRow_setCell_below hown2 (by simp) _
      case measure => simp [intOf]; omega
    · obtain rfl : n = j := by omega
      have hR := hB1.below hbr hsz
      have hcR := hR.cell
      have hfR := hR.frozen
      have hfin : LegsAt wr (fun g => w.heap.size ≤ g) A n ls ∨ True := .inr trivial
      rw [List.take_of_length_le (by rw [hl.1]; exact Nat.le_refl _)] at hown
      obtain ⟨A2, c2, rfl, hL2, hA2⟩ := LegsAt.of_own hown
      go_wp2_with fail
      have hF := blk_set5 hR (.int .u32 k.loan.toNat) (.int .i32 k.day.toInt) (.int .u8 k.kind.toNat) (.int .u32 k.seq.toNat) (.slice A2 n c2)
      have hO := only_set5 wr (w.heap.size + 1) (.int .u32 k.loan.toNat) (.int .i32 k.day.toInt) (.int .u8 k.kind.toNat) (.int .u32 k.seq.toNat) (.slice A2 n c2)
      have hbF := below_only hbrw hO hbrw.size (fun i e => by omega)
      have hLF := (hL2.only hO (fun b hb e => by omega)).mono (T := fun g => w.heap.size ≤ g) (fun b _ hb => by omega)
      exact bodyPost_ret (results_blk1 (l := [.int .u32 k.loan.toNat, .int .i32 k.day.toInt, .int .u8 k.kind.toNat, .int .u32 k.seq.toNat, .slice A2 n c2]) Tryz.results65 rfl Tryz.isAgg45 Tryz.sizeOf45 hF) rfl ⟨A2, c2, rfl, hLF, hA2, hbF⟩
end Go.Proofs.YthagpdhnblmokaaGreatDoor
