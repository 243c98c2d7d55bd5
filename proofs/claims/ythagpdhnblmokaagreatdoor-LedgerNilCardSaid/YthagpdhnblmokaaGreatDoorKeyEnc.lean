/- The keys of the program's maps. -/
import Derived.Test.YthagpdhnblmokaaGreatDoorSame
import Derived.Test.YthagpdhnblmokaaGreatDoorKeyLaw
namespace Go.Proofs.YthagpdhnblmokaaGreatDoor
open Go.RowKit Go.Maps

/-- What a map's laws want of its keys' type: how a key is written, how it reads. -/
structure KeyEnc {α : Type} (P : Program) (k : TypeId) (kv : α → Value) (kl : α → Lit) : Prop where
  keyed : Keyed P k
  enc : ∀ x, keyOf P k (kv x) = some (kl x)
  inj : ∀ x y, kl x = kl y → x = y
  inv : ∀ v l, keyOf P k v = some l → ∃ x, v = kv x ∧ l = kl x

/-- A ledger's pair. -/
structure MPair where
  loan : UInt32
  account : UInt8
  control : Bool
  deriving DecidableEq
abbrev pairVal (p : MPair) : Value := .agg #[.int .u32 p.loan.toNat, .int .u8 p.account.toNat, .bool p.control]

theorem wf_u8 (x : UInt8) : (Lit.int .u8 x.toNat).wf = true := by have := x.toNat_lt; simp [Lit.wf, IntKind.min, IntKind.max, IntKind.bits, IntKind.signed]; omega
theorem wf_u32 (x : UInt32) : (Lit.int .u32 x.toNat).wf = true := by have := x.toNat_lt; simp [Lit.wf, IntKind.min, IntKind.max, IntKind.bits, IntKind.signed]; omega
theorem wf_i32 (x : Int32) : (Lit.int .i32 x.toInt).wf = true := by have := i32b x; simp [Lit.wf, IntKind.min, IntKind.max, IntKind.bits, IntKind.signed]; omega

theorem keyOf_key (k : MKey) : ∃ l, keyOf Tryz.prog 33 (keyVal k) = some l := by
  obtain ⟨n, hn⟩ := nTypes
  have w1 := wf_u32 k.loan
  have w2 := wf_i32 k.day
  have w3 := wf_u8 k.kind
  have w4 := wf_u32 k.seq
  refine ⟨.string (keyBytes [.int .u32 k.loan.toNat, .int .i32 k.day.toInt, .int .u8 k.kind.toNat, .int .u32 k.seq.toNat]), ?_⟩
  unfold keyOf
  simp only [Tryz.underlying33, ktKey, Bool.true_and, hn]
  rw [if_pos (by simp [Value.formed, Tryz.underlying33, cellsKey])]
  simp [Program.keyLits, Tryz.underlying33, Tryz.underlying23, Tryz.underlying31, Tryz.underlying5, cellsKey, cellsU32, cellsDay, cellsByte, Value.cells, w1, w2, w3, w4]

theorem of_u32 {n : Int} (h : (Lit.int .u32 n).wf = true) : ((UInt32.ofNat n.toNat).toNat : Int) = n := by
  simp [Lit.wf, IntKind.min, IntKind.max, IntKind.bits, IntKind.signed] at h
  rw [UInt32.toNat_ofNat']
  omega
theorem of_u8 {n : Int} (h : (Lit.int .u8 n).wf = true) : ((UInt8.ofNat n.toNat).toNat : Int) = n := by
  simp [Lit.wf, IntKind.min, IntKind.max, IntKind.bits, IntKind.signed] at h
  rw [UInt8.toNat_ofNat']
  omega
theorem of_i32 {n : Int} (h : (Lit.int .i32 n).wf = true) : (Int32.ofInt n).toInt = n := by
  simp [Lit.wf, IntKind.min, IntKind.max, IntKind.bits, IntKind.signed] at h
  rw [Int32.toInt_ofInt_of_le] <;> omega
theorem of_i64 {n : Int} (h : (Lit.int .i64 n).wf = true) : (Int64.ofInt n).toInt = n := by
  simp [Lit.wf, IntKind.min, IntKind.max, IntKind.bits, IntKind.signed] at h
  rw [Int64.toInt_ofInt_of_le] <;> omega

/-- A literal of an integer kind, off one cell. -/
theorem keyLits_int {P : Program} {t : TypeId} {q : IntKind} (ht : P.underlying t = some (.int q)) {d : Nat} {c : Value} {L : List Lit} (h : P.keyLits (d + 1) t [c] = some L) : ∃ n, c = .int q n ∧ (Lit.int q n).wf = true ∧ L = [.int q n] := by
  unfold Program.keyLits at h
  rw [ht] at h
  cases c <;> simp at h
  obtain ⟨⟨rfl, hw⟩, rfl⟩ := h
  exact ⟨_, rfl, hw, rfl⟩
theorem keyLits_bool {P : Program} {t : TypeId} (ht : P.underlying t = some .bool) {d : Nat} {c : Value} {L : List Lit} (h : P.keyLits (d + 1) t [c] = some L) : ∃ b, c = .bool b ∧ L = [.bool b] := by
  unfold Program.keyLits at h
  rw [ht] at h
  cases c <;> simp at h
  exact ⟨_, rfl, h.symm⟩

set_option maxRecDepth 100000 in
theorem keyOf_key_inv (v : Value) (l : Lit) (h : keyOf Tryz.prog 33 v = some l) : ∃ k, v = keyVal k := by
  obtain ⟨n, hn⟩ := nTypes
  unfold keyOf at h
  simp only [Tryz.underlying33, ktKey, Bool.true_and, hn] at h
  split at h
  · rename_i hf
    obtain ⟨L, hL, _⟩ := Option.map_eq_some_iff.1 h
    cases v with
    | agg cs =>
      obtain ⟨cl⟩ := cs
      have hsz : cl.length = 4 := by simpa [Value.formed, Tryz.underlying33, cellsKey] using hf
      match cl, hsz with
      | [c0, c1, c2, c3], _ =>
        unfold Program.keyLits at hL
        simp only [Tryz.underlying33, Value.cells, cellsKey] at hL
        rw [if_pos (by simp)] at hL
        simp only [List.mapM_cons, List.mapM_nil, cellsU32, cellsDay, cellsByte, Option.map_eq_some_iff, Option.bind_eq_bind, Option.bind_eq_some_iff, Option.pure_def, List.drop_zero, List.take_succ_cons, List.take_zero, List.drop_succ_cons] at hL
        obtain ⟨_, ⟨L0, h0, _, ⟨L1, h1, _, ⟨L2, h2, _, ⟨L3, h3, _⟩, _⟩, _⟩, _⟩, _⟩ := hL
        obtain ⟨n0, rfl, w0, _⟩ := keyLits_int Tryz.underlying23 h0
        obtain ⟨n1, rfl, w1, _⟩ := keyLits_int Tryz.underlying31 h1
        obtain ⟨n2, rfl, w2, _⟩ := keyLits_int Tryz.underlying5 h2
        obtain ⟨n3, rfl, w3, _⟩ := keyLits_int Tryz.underlying23 h3
        exact ⟨⟨UInt32.ofNat n0.toNat, Int32.ofInt n1, UInt8.ofNat n2.toNat, UInt32.ofNat n3.toNat⟩, by simp only [keyVal, of_u32 w0, of_i32 w1, of_u8 w2, of_u32 w3]⟩
    | _ => simp [Value.formed, Tryz.underlying33] at hf
  · cases h

theorem keyOf_pair (k : MPair) : ∃ l, keyOf Tryz.prog 157 (pairVal k) = some l := by
  obtain ⟨n, hn⟩ := nTypes
  have w1 := wf_u32 k.loan
  have w3 := wf_u8 k.account
  refine ⟨.string (keyBytes [.int .u32 k.loan.toNat, .int .u8 k.account.toNat, .bool k.control]), ?_⟩
  unfold keyOf
  simp only [Tryz.underlying157, ktPair, Bool.true_and, hn]
  rw [if_pos (by simp [Value.formed, Tryz.underlying157, cellsPair])]
  simp [Program.keyLits, Tryz.underlying157, Tryz.underlying23, Tryz.underlying5, Tryz.underlying4, cellsPair, cellsU32, cellsBool, cellsByte, Value.cells, w1, w3]
set_option maxRecDepth 100000 in
theorem keyOf_pair_inv (v : Value) (l : Lit) (h : keyOf Tryz.prog 157 v = some l) : ∃ k, v = pairVal k := by
  obtain ⟨n, hn⟩ := nTypes
  unfold keyOf at h
  simp only [Tryz.underlying157, ktPair, Bool.true_and, hn] at h
  split at h
  · rename_i hf
    obtain ⟨L, hL, _⟩ := Option.map_eq_some_iff.1 h
    cases v with
    | agg cs =>
      obtain ⟨cl⟩ := cs
      have hsz : cl.length = 3 := by simpa [Value.formed, Tryz.underlying157, cellsPair] using hf
      match cl, hsz with
      | [c0, c1, c2], _ =>
        unfold Program.keyLits at hL
        simp only [Tryz.underlying157, Value.cells, cellsPair] at hL
        rw [if_pos (by simp)] at hL
        simp only [List.mapM_cons, List.mapM_nil, cellsU32, cellsBool, cellsByte, Option.map_eq_some_iff, Option.bind_eq_bind, Option.bind_eq_some_iff, Option.pure_def, List.drop_zero, List.take_succ_cons, List.take_zero, List.drop_succ_cons] at hL
        obtain ⟨_, ⟨L0, h0, _, ⟨L1, h1, _, ⟨L2, h2, _⟩, _⟩, _⟩, _⟩ := hL
        obtain ⟨n0, rfl, w0, _⟩ := keyLits_int Tryz.underlying23 h0
        obtain ⟨n1, rfl, w1, _⟩ := keyLits_int Tryz.underlying5 h1
        obtain ⟨b2, rfl, _⟩ := keyLits_bool Tryz.underlying4 h2
        exact ⟨⟨UInt32.ofNat n0.toNat, UInt8.ofNat n1.toNat, b2⟩, by simp only [pairVal, of_u32 w0, of_u8 w1]⟩
    | _ => simp [Value.formed, Tryz.underlying157] at hf
  · cases h

def klit {α : Type} (P : Program) (k : TypeId) (kv : α → Value) (x : α) : Lit := (keyOf P k (kv x)).getD (.bool false)
theorem KeyEnc.of {α : Type} {P : Program} {k : TypeId} {kv : α → Value} (K : Keyed P k) (hs : ∀ x, ∃ l, keyOf P k (kv x) = some l) (hi : ∀ v l, keyOf P k v = some l → ∃ x, v = kv x) (hinj : ∀ x y, kv x = kv y → x = y) : KeyEnc P k kv (klit P k kv) where
  keyed := K
  enc x := by obtain ⟨l, hl⟩ := hs x; simp [klit, hl]
  inj x y h := by
    obtain ⟨l, hl⟩ := hs x
    obtain ⟨m, hm⟩ := hs y
    simp only [klit, hl, hm, Option.getD_some] at h
    subst h
    exact hinj _ _ (K.inj hl hm)
  inv v l h := by
    obtain ⟨x, rfl⟩ := hi v l h
    exact ⟨x, rfl, by simp [klit, h]⟩

theorem keKey : KeyEnc Tryz.prog 33 (fun k : MKey => keyVal k) (klit Tryz.prog 33 fun k : MKey => keyVal k) :=
  KeyEnc.of lawKey keyOf_key keyOf_key_inv (fun x y h => by
    simp only [Value.agg.injEq, Array.mk.injEq, List.cons.injEq, Value.int.injEq, true_and, and_true] at h
    obtain ⟨h1, h2, h3, h4⟩ := h
    have e1 : x.loan = y.loan := UInt32.toNat_inj.1 (by omega)
    have e2 : x.day = y.day := Int32.toInt_inj.1 h2
    have e3 : x.kind = y.kind := UInt8.toNat_inj.1 (by omega)
    have e4 : x.seq = y.seq := UInt32.toNat_inj.1 (by omega)
    cases x; cases y; simp_all)
theorem kePair : KeyEnc Tryz.prog 157 (fun k : MPair => pairVal k) (klit Tryz.prog 157 fun k : MPair => pairVal k) :=
  KeyEnc.of lawPair keyOf_pair keyOf_pair_inv (fun x y h => by
    simp only [Value.agg.injEq, Array.mk.injEq, List.cons.injEq, Value.int.injEq, Value.bool.injEq, true_and, and_true] at h
    obtain ⟨h1, h2, h3⟩ := h
    have e1 : x.loan = y.loan := UInt32.toNat_inj.1 (by omega)
    have e2 : x.account = y.account := UInt8.toNat_inj.1 (by omega)
    cases x; cases y; simp_all)
theorem keByte : KeyEnc Tryz.prog 5 (fun x : UInt8 => .int .u8 x.toNat) (klit Tryz.prog 5 fun x : UInt8 => .int .u8 x.toNat) :=
  KeyEnc.of (int_keyed Tryz.underlying5) (fun x => ⟨_, keyOf_int_mk Tryz.underlying5 (wf_u8 x)⟩) (fun v l h => by
    obtain ⟨x, rfl, _, hw⟩ := Maps.keyOf_int_inv Tryz.underlying5 h
    exact ⟨UInt8.ofNat x.toNat, by rw [of_u8 hw]⟩) (fun x y h => by
    simp only [Value.int.injEq, true_and] at h
    exact UInt8.toNat_inj.1 (by omega))
theorem keU32 : KeyEnc Tryz.prog 23 (fun x : UInt32 => .int .u32 x.toNat) (klit Tryz.prog 23 fun x : UInt32 => .int .u32 x.toNat) :=
  KeyEnc.of (int_keyed Tryz.underlying23) (fun x => ⟨_, keyOf_int_mk Tryz.underlying23 (wf_u32 x)⟩) (fun v l h => by
    obtain ⟨x, rfl, _, hw⟩ := Maps.keyOf_int_inv Tryz.underlying23 h
    exact ⟨UInt32.ofNat x.toNat, by rw [of_u32 hw]⟩) (fun x y h => by
    simp only [Value.int.injEq, true_and] at h
    exact UInt32.toNat_inj.1 (by omega))
end Go.Proofs.YthagpdhnblmokaaGreatDoor
