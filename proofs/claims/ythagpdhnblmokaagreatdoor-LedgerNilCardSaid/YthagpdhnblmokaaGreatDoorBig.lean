/- Great regions that draw their order: the order's test on a light skeleton; one walk in a class of worlds. -/
import Derived.BigQuiet
namespace Go.Proofs.YthagpdhnblmokaaGreatDoor

/-- What the order's test looks at in one operation: where it writes, what it looks at, what it waits for. -/
structure Sk where
  dst : List Nat
  looks : List Nat
  after : List Nat
def skOf (ops : Array Oper) (o : Oper) : Sk := ⟨o.dst.toList, Oper.looksAt ops o, ((o.after.toList.filter (Region.binds .any)).map (·.on))⟩
def Sk.apart (x y : Sk) : Bool := x.dst.all (fun d => !y.looks.contains d && !y.dst.contains d) && y.dst.all (fun d => !x.looks.contains d)
def skLex : Nat → List Sk → Bool
  | _, [] => true
  | k, s :: r => s.after.all (fun e => Nat.blt e k) && r.all (fun t => t.after.contains k || s.apart t) && skLex (k + 1) r

def pre (n k : Nat) : Array Bool := (Array.range n).map fun i => decide (i < k)
theorem pre_size (n k : Nat) : (pre n k).size = n := by simp [pre]
theorem pre_getD (n k i : Nat) (d : Bool) : (pre n k).getD i d = if i < n then decide (i < k) else d := by
  unfold pre
  by_cases h : i < n
  · simp [Array.getD, h]
  · simp [Array.getD, h]
theorem pre_zero (n : Nat) : pre n 0 = Array.replicate n false := by
  apply Array.ext
  · simp [pre]
  · intro i h1 h2; simp [pre]
theorem pre_succ (n k : Nat) : (pre n k).setIfInBounds k true = pre n (k + 1) := by
  apply Array.ext
  · simp [pre]
  · intro i h1 h2
    rw [Array.getElem_setIfInBounds]
    · simp only [pre, Array.getElem_map, Array.getElem_range]
      by_cases h : k = i
      · subst h; simp
      · rw [if_neg h]; congr 1; exact propext ⟨fun hh => by omega, fun hh => by omega⟩
    · rw [pre_size] at h2 ⊢; exact h2

theorem apart_of_sk {ops : Array Oper} {x y : Oper} (h : (skOf ops x).apart (skOf ops y) = true) : Oper.apart ops x y = true := by
  unfold Sk.apart skOf at h
  unfold Oper.apart
  simp only [Bool.and_eq_true] at h ⊢
  obtain ⟨h1, h2⟩ := h
  refine ⟨?_, ?_⟩
  · cases hx : x.dst with
    | none => rfl
    | some d =>
      simp only [hx, Option.toList, List.all_cons, List.all_nil, Bool.and_true, Bool.and_eq_true] at h1
      simp only [Bool.and_eq_true]
      refine ⟨h1.1, ?_⟩
      cases hy : y.dst with
      | none => rfl
      | some e =>
        have := h1.2
        simp only [hy, List.contains_cons, List.contains_nil, Bool.or_false, Bool.not_eq_true'] at this
        have hne : e ≠ d := fun he => by subst he; simp at this
        simpa using hne
  · cases hy : y.dst with
    | none => rfl
    | some d =>
      simpa only [hy, Option.toList, List.all_cons, List.all_nil, Bool.and_true] using h2

theorem lexFrom_of_sk {ops : Array Oper} : ∀ (r : List Oper) (k : Nat), k + r.length = ops.size → (∀ j, r[j]? = ops[k + j]?) → skLex k (r.map (skOf ops)) = true → Region.lexFrom .any ops r.length k (pre ops.size k) = true
  | [], k, hn, _, _ => by
    simp only [List.length_nil, Region.lexFrom, List.isEmpty_iff]
    simp only [List.length_nil, Nat.add_zero] at hn
    unfold Region.ready
    rw [List.filter_eq_nil_iff]
    intro i hi
    have hlt : i < ops.size := List.mem_range.1 hi
    rw [pre_getD, if_pos hlt]
    simp; omega
  | o :: r, k, hn, hl, h => by
    simp only [List.map_cons, skLex, Bool.and_eq_true] at h
    obtain ⟨⟨h1, h2⟩, h3⟩ := h
    simp only [List.length_cons] at hn
    have hk : k < ops.size := by omega
    have ho : ops[k]? = some o := by have := hl 0; simpa using this.symm
    simp only [List.length_cons, Region.lexFrom, Bool.and_eq_true]
    refine ⟨⟨?_, ?_⟩, ?_⟩
    · rw [List.contains_iff_mem]
      unfold Region.ready
      rw [List.mem_filter]
      refine ⟨List.mem_range.2 hk, ?_⟩
      rw [pre_getD, if_pos hk, ho]
      simp only [Nat.lt_irrefl, decide_false, Bool.not_false, Bool.true_and, Option.map_some, Option.getD_some]
      rw [Array.all_eq_true']
      intro e he
      by_cases hb : Region.binds .any e = true
      · have hm : e.on ∈ (skOf ops o).after := List.mem_map.2 ⟨e, List.mem_filter.2 ⟨by simpa using he, hb⟩, rfl⟩
        have := List.all_eq_true.1 h1 _ hm
        have hlt : e.on < k := by simpa [Nat.blt_eq] using this
        rw [pre_getD, if_pos (by omega)]
        simp [hlt]
      · simp [hb]
    · unfold Region.free
      rw [ho]
      simp only [List.all_eq_true, List.mem_range]
      intro j hj
      rw [pre_getD, if_pos hj]
      by_cases hjk : j = k
      · simp [hjk]
      · by_cases hlt : j < k
        · simp [hlt]
        · obtain ⟨m, rfl⟩ : ∃ m, j = k + (m + 1) := ⟨j - k - 1, by omega⟩
          have hoj := hl (m + 1)
          rw [List.getElem?_cons_succ] at hoj
          have hml : m < r.length := by omega
          rw [← hoj, List.getElem?_eq_getElem hml]
          have hmem : skOf ops r[m] ∈ r.map (skOf ops) := List.mem_map.2 ⟨_, List.getElem_mem hml, rfl⟩
          have := List.all_eq_true.1 h2 _ hmem
          simp only [Bool.or_eq_true] at this ⊢
          refine .inr ?_
          rcases this with h4 | h4
          · refine .inl ?_
            rw [List.contains_iff_mem] at h4
            obtain ⟨e, he, hek⟩ := List.mem_map.1 h4
            obtain ⟨he1, he2⟩ := List.mem_filter.1 he
            rw [Array.any_eq_true']
            exact ⟨e, by simpa using he1, by simp [he2, hek]⟩
          · exact .inr (apart_of_sk h4)
    · rw [pre_succ]
      exact lexFrom_of_sk r (k + 1) (by omega) (fun j => by have := hl (j + 1); rw [List.getElem?_cons_succ] at this; rw [this]; congr 1; omega) h3

theorem lexB_of_sk {l : List Oper} {sk : List Sk} (h0 : Region.noSelect l.toArray = true) (h1 : l.map (skOf l.toArray) = sk) (h2 : skLex 0 sk = true) : Region.lexB .any l.toArray = true := by
  unfold Region.lexB
  rw [h0, Bool.true_and, ← pre_zero]
  have := lexFrom_of_sk (ops := l.toArray) l 0 (by simp) (fun j => by simp) (by rw [h1]; exact h2)
  simpa using this

/-- A region of a code, by its number. -/
def regionOf (id : Nat) : Code → Option (List Oper)
  | .region i ops _ => if i = id then some ops.toList else none
  | .seq a b => (regionOf id a).or (regionOf id b)
  | .cond _ a b => (regionOf id a).or (regionOf id b)
  | .block _ b => regionOf id b
  | .loop b => regionOf id b
  | .rangeFunc _ _ a b => (regionOf id a).or (regionOf id b)
  | .scope b => regionOf id b
  | _ => none
def opsOf (f : Func) (id : Nat) : List Oper := (f.body.bind (regionOf id)).getD []

/-- A region that draws its order, every operation quiet in a class of worlds: one walk in the text's order. -/
theorem wp_region_class {P : Program} {C : World → Prop} {id : Nat} {Q : Exit → Act → World → Prop} {a : Act} {w : World} {l : List Oper} (hm : P.follows .mixedOrders = true) (hB : Region.lexB .any l.toArray = true) (hC : C w.drew)
    (h : wpQuiet P l.toArray C (fun a' => ∀ w', C w' → Q .normal a' w') l a) : (Code.region id l.toArray true).wp P Q a w :=
  wp_region_quiet (C := C) hm hB hC (by simpa using h)
section
variable {P : Program} {C : World → Prop} {o : Oper} {a : Act} {K : Act → Prop}
theorem quiet_of_run (v : Value) (h : ∀ w, C w → (execOp a.eval o).run P w = .ok (.value v) w) (hk : K (a.put o.dst v)) : o.quiet P a C K :=
  ⟨v, fun w hw => by unfold Oper.quietAt; rw [h w hw]; exact ⟨rfl, rfl⟩, hk⟩
theorem quiet_of_call (v : Value) (f : FuncId) (args : Array Value) (h : ∀ w, C w → (execOp a.eval o).run P w = .ok (.enter f args) w) (hc : ∀ w, C w → Calls P f args w fun e w' => e = .returned v ∧ C w') (hk : K (a.put o.dst v)) : o.quiet P a C K :=
  ⟨v, fun w hw => by unfold Oper.quietAt; rw [h w hw]; exact ⟨rfl, hc w hw⟩, hk⟩
end
end Go.Proofs.YthagpdhnblmokaaGreatDoor
