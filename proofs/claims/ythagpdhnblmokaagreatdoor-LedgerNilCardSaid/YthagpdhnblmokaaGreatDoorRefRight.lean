/- The contract of the reference's Right. -/
import Derived.Test.YthagpdhnblmokaaGreatDoorRight
namespace Go.Proofs.YthagpdhnblmokaaGreatDoor
open Go.RowKit

theorem rightGo_step {sum : Int} {last : Nat} {l : MLeg} {r : List MLeg} (hf : fits (sum + l.amount.toInt) = true) (h1 : last < l.account.toNat) (h9 : l.account.toNat ≤ 9) : rightGo sum last (l :: r) = rightGo (sum + l.amount.toInt) l.account.toNat r := by simp [rightGo, hf, h1, h9]
theorem rightGo_bad {sum : Int} {last : Nat} {l : MLeg} {r : List MLeg} (h : fits (sum + l.amount.toInt) = false ∨ ¬ last < l.account.toNat ∨ ¬ l.account.toNat ≤ 9) : rightGo sum last (l :: r) = false := by
  unfold rightGo
  rw [if_neg]
  simp only [Bool.and_eq_true, decide_eq_true_eq]
  rintro ⟨⟨a, b⟩, c⟩
  rcases h with h | h | h
  · rw [h] at a; cases a
  · exact h b
  · exact h c

set_option maxHeartbeats 2000000 in
theorem r13Right_any (k : MKey) (A : Option Addr) (n c : Nat) (ls : List MLeg) (S : Nat → Prop) (w : World) (hl : LegsAt w S A n ls) (hn : n ≤ 1000000) :
    Calls Tryz.prog 140 #[entVal k (.slice A n c)] w fun e w' => e = .returned (.bool (rightB k ls)) ∧ Below w.heap.size w w' := by
  have hk := u8b k.kind
  by_cases hK : (1 ≤ k.kind.toNat ∧ k.kind.toNat ≤ 7) ∧ (0 ≤ k.day.toInt ∧ k.day.toInt ≤ 3652058) ∧ (1 ≤ n ∧ n ≤ 8)
  · obtain ⟨⟨hK1, hK2⟩, ⟨hD1, hD2⟩, hL1, hL2⟩ := hK
    have hg : headOk k ls.length = true := by simp [headOk, hl.1, dayOk]; omega
    go_enter Tryz.func140, Tryz.ntmps140
    go_wp2_with fail
    have hb1 : Below w.heap.size w (w.alloc (.cells #[.int .u32 k.loan.toNat, .int .i32 k.day.toInt, .int .u8 k.kind.toNat, .int .u32 k.seq.toNat, .slice A n c] 45)) := (Below.refl _ _).alloc (Nat.le_refl _) _
    have hr : Hid (rightB k ls = rightGo 0 0 ls) := by simp [rightB, hg, Hid]
    clear hg
    go_loopw [3, 45] (fun s i wr => ∃ (j : Nat) (sum : Int) (last : Nat), j ≤ n ∧ i = .int .i64 j ∧ s = .int .i64 sum ∧ fits sum = true ∧ rightGo 0 0 ls = rightGo sum last (ls.drop j) ∧ (j = 0 → last = 0) ∧ (0 < j → ∀ l, ls[j - 1]? = some l → last = l.account.toNat) ∧ Below w.heap.size w wr ∧ wr.cell? ⟨w.heap.size, 4, none⟩ = some (.slice A n c)) (fun _ i _ => n - (intOf i).toNat)
    case atStart => exact ⟨0, 0, 0, by omega, rfl, rfl, by decide, by simp, fun _ => rfl, fun h => by omega, hb1, by simp [go_sem]⟩
    case round =>
      obtain ⟨j, sum, last, hj, rfl, rfl, hsum, hgo, hl0, hl1, hbr, hce⟩ := hrel
      obtain ⟨hs1, hs2⟩ := fits_iff.1 hsum
      clear hsum
      by_cases hlt : j < n
      · obtain ⟨b, o, rfl, hS, hbl, hcell⟩ := hl.2 (by omega)
        have hjl : j < ls.length := by rw [hl.1]; exact hlt
        obtain ⟨l, hlj⟩ : ∃ l, l = ls[j] := ⟨_, rfl⟩
        have hd : ls.drop j = l :: ls.drop (j + 1) := by rw [hlj]; exact List.drop_eq_getElem_cons hjl
        rw [hd] at hgo
        obtain ⟨c1, c2⟩ := hcell j l (by rw [hlj]; exact List.getElem?_eq_getElem hjl)
        have c1' := (hbr.cell (p := ⟨b, o + j * 2, none⟩) hbl).trans c1
        have c2' := (hbr.cell (p := ⟨b, o + j * 2 + 1, none⟩) hbl).trans c2
        have ha := i64b l.amount
        have hc := u8b l.account
        have hln : Hid (∀ l', ls[j]? = some l' → l.account.toNat = l'.account.toNat) := fun l' h => by rw [List.getElem?_eq_getElem hjl] at h; injection h with h; rw [← h, hlj]
        have hbx : b < wr.heap.size := Nat.lt_of_lt_of_le hbl hbr.size
        have hprev : Hid (0 < j → wr.cell? ⟨b, o + (j - 1) * 2, none⟩ = some (.int .u8 last)) := fun h0 => by
          have hjl' : j - 1 < ls.length := by omega
          have := (hcell (j - 1) ls[j - 1] (List.getElem?_eq_getElem hjl')).1
          rw [hl1 h0 _ (List.getElem?_eq_getElem hjl')]
          exact (hbr.cell (p := ⟨b, _, none⟩) hbl).trans this
        clear c1 c2 hcell hlj hd hl1
        by_cases hf : -9223372036854775808 ≤ sum + l.amount.toInt ∧ sum + l.amount.toInt ≤ 9223372036854775807
        · obtain ⟨hf1, hf2⟩ := hf
          have hzz : w.heap.size < wr.heap.size := World.block_lt_of_cell? wr _ hce
          by_cases hA1 : l.account.toNat < 1
          · have d1 : decide ((l.account.toNat : Int) < 1) = true := by simp; omega
            have hr2 : Hid (rightB k ls = false) := hr.out.trans (hgo.trans (rightGo_bad (.inr (.inl (by omega)))))
            clear hr hgo hl0
            go_wp2_with (go_at_call 134; refine (r4Add_ok _ _ _ (by omega) (by omega) (by omega) (by omega) (by omega) (by omega)).mono ?_; rintro e w2 ⟨rfl, rfl⟩)
            go_quiet (fail)
            go_wp2
            go_ret
            exact ⟨by rw [hr2.out]; rfl, below_drewN (hbr.alloc hbr.size _) _⟩
          · have d1 : decide ((l.account.toNat : Int) < 1) = false := by simp; omega
            by_cases hA9 : 9 < l.account.toNat
            · have d2 : decide ((9 : Int) < (l.account.toNat : Int)) = true := by simp; omega
              have hr2 : Hid (rightB k ls = false) := hr.out.trans (hgo.trans (rightGo_bad (.inr (.inr (by omega)))))
              clear hr hgo hl0
              go_wp2_with (go_at_call 134; refine (r4Add_ok _ _ _ (by omega) (by omega) (by omega) (by omega) (by omega) (by omega)).mono ?_; rintro e w2 ⟨rfl, rfl⟩)
              go_quiet (fail)
              go_wp2
              go_ret
              exact ⟨by rw [hr2.out]; rfl, below_drewN (hbr.alloc hbr.size _) _⟩
            · have d2 : decide ((9 : Int) < (l.account.toNat : Int)) = false := by simp; omega
              by_cases hj0 : 0 < j
              · have d3 : decide ((0 : Int) < (j : Int)) = true := by simp; omega
                have hpc := hprev.out hj0
                have hjm : Hid (((j : Int) - 1).toNat = j - 1) := by unfold Hid; omega
                have hjw : Hid (IntKind.i64.wrap ((j : Int) - 1) = (j : Int) - 1) := by unfold Hid; exact IntWalk.i64_in _ (by omega)
                have hj1 : 0 ≤ (j : Int) - 1 := by omega
                have hj2 : 1 ≤ (j : Int) := by omega
                have hj3 : (j : Int) - 1 < n := by omega
                by_cases hla : last < l.account.toNat
                · have d4 : decide ((l.account.toNat : Int) ≤ (last : Int)) = false := by simp; omega
                  have hgo2 : Hid (rightGo 0 0 ls = rightGo (sum + l.amount.toInt) l.account.toNat (ls.drop (j + 1))) := hgo.trans (rightGo_step (fits_iff.2 ⟨hf1, hf2⟩) hla (by omega))
                  clear hgo hl0
                  go_wp2_with (go_at_call 134; refine (r4Add_ok _ _ _ (by omega) (by omega) (by omega) (by omega) (by omega) (by omega)).mono ?_; rintro e w2 ⟨rfl, rfl⟩)
                  have hjm2 := hjm.out
                  have hjw2 := hjw.out
                  go_quiet (fail)
                  clear hjm2 hjw2
                  go_wp2
                  go_roundw
                  case rel => exact ⟨j + 1, _, l.account.toNat, by omega, by go_num, rfl, fits_iff.2 ⟨hf1, hf2⟩, hgo2.out, fun h => by omega, fun _ l' h => hln.out l' h, below_drewN (hbr.alloc hbr.size _) _, by simp [go_sem, hce, hzz]⟩
                  case measure => simp [intOf]; omega
                · have d4 : decide ((l.account.toNat : Int) ≤ (last : Int)) = true := by simp; omega
                  have hr2 : Hid (rightB k ls = false) := hr.out.trans (hgo.trans (rightGo_bad (.inr (.inl hla))))
                  clear hr hgo hl0
                  go_wp2_with (go_at_call 134; refine (r4Add_ok _ _ _ (by omega) (by omega) (by omega) (by omega) (by omega) (by omega)).mono ?_; rintro e w2 ⟨rfl, rfl⟩)
                  have hjm2 := hjm.out
                  have hjw2 := hjw.out
                  go_quiet (fail)
                  clear hjm2 hjw2
                  go_wp2
                  go_ret
                  exact ⟨by rw [hr2.out]; rfl, below_drewN (hbr.alloc hbr.size _) _⟩
              · have hj00 : j = 0 := by omega
                have hlast := hl0 hj00
                subst hj00
                have hgo2 : Hid (rightGo 0 0 ls = rightGo (sum + l.amount.toInt) l.account.toNat (ls.drop (0 + 1))) := hgo.trans (rightGo_step (fits_iff.2 ⟨hf1, hf2⟩) (by omega) (by omega))
                clear hgo hl0 hlast
                have hd0 : decide ((0 : Int) < ((0 : Nat) : Int)) = false := by decide
                have c10 : wr.cell? ⟨b, o, none⟩ = some (.int .u8 l.account.toNat) := by simpa using c1'
                have c20 : wr.cell? ⟨b, o + 1, none⟩ = some (.int .i64 l.amount.toInt) := by simpa using c2'
                go_wp2_with (go_at_call 134; refine (r4Add_ok _ _ _ (by omega) (by omega) (by omega) (by omega) (by omega) (by omega)).mono ?_; rintro e w2 ⟨rfl, rfl⟩)
                go_quiet (fail)
                go_wp2
                go_roundw
                case rel => exact ⟨0 + 1, _, l.account.toNat, by omega, by go_num, rfl, fits_iff.2 ⟨hf1, hf2⟩, hgo2.out, fun h => by omega, fun _ l' h => hln.out l' h, below_drewN (hbr.alloc hbr.size _) _, by simp [go_sem, hce, hzz]⟩
                case measure => simp [intOf]; omega
        · have hr2 : Hid (rightB k ls = false) := hr.out.trans (hgo.trans (rightGo_bad (.inl (fits_not.2 (by omega)))))
          clear hr hgo hl0
          go_wp2_with (go_at_call 134; refine (r4Add_over _ _ _ (by omega) (by omega) (by omega) (by omega) (by omega)).mono ?_; rintro e w2 ⟨rfl, rfl⟩)
          go_quiet (fail)
          go_wp2
          go_ret
          exact ⟨by rw [hr2.out]; rfl, below_drewN (hbr.alloc hbr.size _) _⟩
      · have hr2 : Hid (rightB k ls = (sum == 0)) := by
          have e : ls.drop j = [] := List.drop_eq_nil_of_le (by rw [hl.1]; omega)
          exact hr.out.trans (hgo.trans (by rw [e]; rfl))
        clear hr hgo hl0 hl1
        go_wp2
        go_ret
        exact ⟨by rw [hr2.out]; rfl, hbr⟩
  · have hr : Hid (rightB k ls = false) := by unfold Hid; simp [rightB, headOk, dayOk, hl.1]; omega
    have h6 : (k.kind.toNat < 1) ∨ (1 ≤ k.kind.toNat ∧ 7 < k.kind.toNat) ∨ (1 ≤ k.kind.toNat ∧ k.kind.toNat ≤ 7 ∧ k.day.toInt < 0) ∨ (1 ≤ k.kind.toNat ∧ k.kind.toNat ≤ 7 ∧ 0 ≤ k.day.toInt ∧ 3652058 < k.day.toInt) ∨ (1 ≤ k.kind.toNat ∧ k.kind.toNat ≤ 7 ∧ 0 ≤ k.day.toInt ∧ k.day.toInt ≤ 3652058 ∧ n < 1) ∨ (1 ≤ k.kind.toNat ∧ k.kind.toNat ≤ 7 ∧ 0 ≤ k.day.toInt ∧ k.day.toInt ≤ 3652058 ∧ 1 ≤ n ∧ 8 < n) := by omega
    clear hK
    rcases h6 with h | ⟨_, h⟩ | ⟨_, _, h⟩ | ⟨_, _, _, h⟩ | ⟨_, _, _, _, h⟩ | ⟨_, _, _, _, _, h⟩ <;>
    (go_enter Tryz.func140, Tryz.ntmps140
     go_wp2
     go_ret
     exact ⟨by rw [hr.out]; rfl, (Below.refl _ _).alloc (Nat.le_refl _) _⟩)
end Go.Proofs.YthagpdhnblmokaaGreatDoor
