/- Contracts of what tells whether an entry may be. -/
import Derived.Test.YthagpdhnblmokaaGreatDoorKeys
namespace Go.Proofs.YthagpdhnblmokaaGreatDoor
open Go.RowKit

def rightGo : Int → Nat → List MLeg → Bool
  | sum, _, [] => sum == 0
  | sum, last, l :: r => if fits (sum + l.amount.toInt) && decide (last < l.account.toNat) && decide (l.account.toNat ≤ 9) then rightGo (sum + l.amount.toInt) l.account.toNat r else false
def headOk (k : MKey) (n : Nat) : Bool := decide (1 ≤ k.kind.toNat) && decide (k.kind.toNat ≤ 7) && dayOk k.day.toInt && decide (1 ≤ n) && decide (n ≤ 8)
def rightB (k : MKey) (ls : List MLeg) : Bool := headOk k ls.length && rightGo 0 0 ls

theorem kindB_none (n : Nat) (h : ¬ (1 ≤ n ∧ n ≤ 7)) : kindB n = ⟨#[]⟩ := by
  unfold kindB
  split <;> first | rfl | omega
theorem acctB_some (n : Nat) (h : 1 ≤ n) (h' : n ≤ 9) : (acctB n).toList.isEmpty = false := by
  rcases (show n = 1 ∨ n = 2 ∨ n = 3 ∨ n = 4 ∨ n = 5 ∨ n = 6 ∨ n = 7 ∨ n = 8 ∨ n = 9 by omega) with rfl | rfl | rfl | rfl | rfl | rfl | rfl | rfl | rfl <;> decide +kernel
theorem acctB_none (n : Nat) (h : ¬ (1 ≤ n ∧ n ≤ 9)) : acctB n = ⟨#[]⟩ := by
  unfold acctB
  split <;> first | rfl | omega
theorem kindB_some (n : Nat) (h : 1 ≤ n) (h' : n ≤ 7) : (kindB n).toList.isEmpty = false := by
  rcases (show n = 1 ∨ n = 2 ∨ n = 3 ∨ n = 4 ∨ n = 5 ∨ n = 6 ∨ n = 7 by omega) with rfl | rfl | rfl | rfl | rfl | rfl | rfl <;> decide +kernel

set_option maxHeartbeats 1000000 in
theorem eRight_any (k : MKey) (A : Option Addr) (n c : Nat) (ls : List MLeg) (S : Nat → Prop) (w : World) (hl : LegsAt w S A n ls) (hn : n ≤ 1000000) :
    Calls Tryz.prog 76 #[entVal k (.slice A n c)] w fun e w' => e = .returned (.bool (rightB k ls)) ∧ Below w.heap.size w w' := by
  have hk := u8b k.kind
  by_cases hK : 1 ≤ k.kind.toNat ∧ k.kind.toNat ≤ 7
  · have hs := kindB_some _ hK.1 hK.2
    by_cases hD : dayOk k.day.toInt = true
    · by_cases hL : 1 ≤ n ∧ n ≤ 8
      · have hg : headOk k ls.length = true := by simp [headOk, hl.1, hD]; omega
        have hn0 : ((n : Int) == 0) = false := by simp; omega
        go_enter Tryz.func76, Tryz.ntmps76
        go_wp2_with fail
        refine (kind_any k.kind.toNat _ (by omega)).mono ?_
        rintro e w1 ⟨rfl, hb⟩
        obtain ⟨hc, hf⟩ := bcell hb
        go_wp2_with (go_at_call 127; refine (dayRight_any _ _).mono ?_; rintro e w2 ⟨rfl, rfl⟩; rw [hD])
        have hb1 : Below w.heap.size w w1 := below_then ((Below.refl _ _).alloc (Nat.le_refl _) _) hb
        clear hc hf hb
        have hr : Hid (rightB k ls = rightGo 0 0 ls) := by simp [rightB, hg, Hid]
        clear hg hs hK hD
        go_loopw [3, 4, 35] (fun s la i wr => ∃ (j : Nat) (sum : Int) (last : Nat), j ≤ n ∧ i = .int .i64 j ∧ s = .int .i64 sum ∧ la = .int .u8 last ∧ fits sum = true ∧ rightGo 0 0 ls = rightGo sum last (ls.drop j) ∧ Below w.heap.size w wr) (fun _ _ i _ => n - (intOf i).toNat)
        case atStart => exact ⟨0, 0, 0, by omega, rfl, rfl, rfl, by decide, by simp, hb1⟩
        case round =>
          obtain ⟨j, sum, last, hj, rfl, rfl, rfl, hsum, hgo, hbr⟩ := hrel
          obtain ⟨hs1, hs2⟩ := fits_iff.1 hsum
          clear hsum hn0
          by_cases hlt : j < n
          · obtain ⟨b, o, rfl, hS, hbl, hcell⟩ := hl.2 (by omega)
            have hjl : j < ls.length := by rw [hl.1]; exact hlt
            obtain ⟨l, hlj⟩ : ∃ l, l = ls[j] := ⟨_, rfl⟩
            have hd : ls.drop j = l :: ls.drop (j + 1) := by rw [hlj]; exact List.drop_eq_getElem_cons hjl
            rw [hd] at hgo
            obtain ⟨c1, c2⟩ := hcell j l (by rw [hlj]; exact List.getElem?_eq_getElem hjl)
            have c1' := (hbr.cell (p := ⟨b, o + j * 2, none⟩) hbl).trans c1
            have c2' := (hbr.cell (p := ⟨b, o + j * 2 + 1, none⟩) hbl).trans c2
            clear c1 c2 hcell hlj hd
            have ha := i64b l.amount
            have hc := u8b l.account
            by_cases hf : -9223372036854775808 ≤ sum + l.amount.toInt ∧ sum + l.amount.toInt ≤ 9223372036854775807
            · obtain ⟨hf1, hf2⟩ := hf
              by_cases hla : last < l.account.toNat
              · by_cases h9 : l.account.toNat ≤ 9
                · have hr2 : Hid (rightB k ls = rightGo (sum + l.amount.toInt) l.account.toNat (ls.drop (j + 1))) := by
                    have e : fits (sum + l.amount.toInt) = true := fits_iff.2 ⟨hf1, hf2⟩
                    exact hr.out.trans (hgo.trans (by simp [rightGo, e, hla, h9]))
                  have hgo0 : Hid (rightGo 0 0 ls = rightGo (sum + l.amount.toInt) l.account.toNat (ls.drop (j + 1))) := hr.out.symm.trans hr2.out
                  have hz := acctB_some l.account.toNat (by omega) h9
                  clear hgo hr2
                  have hlz : ((l.account.toNat : Int) ≤ (last : Int)) = False := by simp; omega
                  go_wp2_with (first | (go_at_call 136; refine (add_ok _ _ _ (by omega) (by omega) (by omega) (by omega)).mono ?_; rintro e w2 ⟨rfl, rfl⟩) | (go_at_call 151; refine (account_any _ _ (by omega)).mono ?_; rintro e w2 ⟨rfl, hb2⟩; obtain ⟨hc2, hf2'⟩ := bcell hb2))
                  go_roundw
                  case rel => exact ⟨j + 1, _, l.account.toNat, by omega, by go_num, rfl, rfl, fits_iff.2 ⟨hf1, hf2⟩, hgo0.out, below_then (hbr.alloc hbr.size _) hb2⟩
                  case measure => simp [intOf]; omega
                · have hr2 : Hid (rightB k ls = false) := hr.out.trans (hgo.trans (by simp [rightGo, h9]))
                  have hz := acctB_none l.account.toNat (by omega)
                  clear hr hgo
                  go_wp2_with (first | (go_at_call 136; refine (add_ok _ _ _ (by omega) (by omega) (by omega) (by omega)).mono ?_; rintro e w2 ⟨rfl, rfl⟩) | (go_at_call 151; refine (account_any _ _ (by omega)).mono ?_; rintro e w2 ⟨rfl, hb2⟩; rw [hz]))
                  go_ret
                  exact ⟨by rw [hr2.out]; rfl, below_then (hbr.alloc hbr.size _) hb2⟩
              · have hr2 : Hid (rightB k ls = false) := hr.out.trans (hgo.trans (by simp [rightGo, hla]))
                clear hr hgo
                go_wp2_with (go_at_call 136; refine (add_ok _ _ _ (by omega) (by omega) (by omega) (by omega)).mono ?_; rintro e w2 ⟨rfl, rfl⟩)
                go_ret
                exact ⟨by rw [hr2.out]; rfl, hbr.alloc hbr.size _⟩
            · have hr2 : Hid (rightB k ls = false) := by
                have e : fits (sum + l.amount.toInt) = false := fits_not.2 (by omega)
                exact hr.out.trans (hgo.trans (by simp [rightGo, e]))
              clear hr hgo
              go_wp2_with (go_at_call 136; refine (add_over _ _ _ (by omega) (by omega) (by omega) (by omega) (by omega)).mono ?_; rintro e w2 ⟨rfl, rfl⟩)
              go_ret
              exact ⟨by rw [hr2.out]; rfl, hbr.alloc hbr.size _⟩
          · have hr2 : Hid (rightB k ls = (sum == 0)) := by
              have e : ls.drop j = [] := List.drop_eq_nil_of_le (by rw [hl.1]; omega)
              exact hr.out.trans (hgo.trans (by rw [e]; rfl))
            clear hr hgo
            go_wp2
            go_ret
            exact ⟨by rw [hr2.out]; rfl, hbr⟩
      · have hr : rightB k ls = false := by simp [rightB, headOk, hl.1]; omega
        have h0 : n = 0 ∨ 8 < n := by omega
        rcases h0 with h0 | h0
        · subst h0
          go_enter Tryz.func76, Tryz.ntmps76
          go_wp2_with fail
          refine (kind_any k.kind.toNat _ (by omega)).mono ?_
          rintro e w1 ⟨rfl, hb⟩
          obtain ⟨hc, hf⟩ := bcell hb
          go_wp2_with (go_at_call 127; refine (dayRight_any _ _).mono ?_; rintro e w2 ⟨rfl, rfl⟩; rw [hD])
          go_ret
          exact ⟨by rw [hr]; rfl, below_then ((Below.refl _ _).alloc (Nat.le_refl _) _) hb⟩
        · have hn0 : ((n : Int) == 0) = false := by simp; omega
          go_enter Tryz.func76, Tryz.ntmps76
          go_wp2_with fail
          refine (kind_any k.kind.toNat _ (by omega)).mono ?_
          rintro e w1 ⟨rfl, hb⟩
          obtain ⟨hc, hf⟩ := bcell hb
          go_wp2_with (go_at_call 127; refine (dayRight_any _ _).mono ?_; rintro e w2 ⟨rfl, rfl⟩; rw [hD])
          go_ret
          exact ⟨by rw [hr]; rfl, below_then ((Below.refl _ _).alloc (Nat.le_refl _) _) hb⟩
    · have hr : rightB k ls = false := by simp [rightB, headOk, hD]
      have hD' : dayOk k.day.toInt = false := by simpa using hD
      go_enter Tryz.func76, Tryz.ntmps76
      go_wp2_with fail
      refine (kind_any k.kind.toNat _ (by omega)).mono ?_
      rintro e w1 ⟨rfl, hb⟩
      obtain ⟨hc, hf⟩ := bcell hb
      go_wp2_with (go_at_call 127; refine (dayRight_any _ _).mono ?_; rintro e w2 ⟨rfl, rfl⟩; rw [hD'])
      go_ret
      exact ⟨by rw [hr]; rfl, below_then ((Below.refl _ _).alloc (Nat.le_refl _) _) hb⟩
  · have hr : rightB k ls = false := by simp [rightB, headOk]; omega
    have hz := kindB_none _ hK
    go_enter Tryz.func76, Tryz.ntmps76
    go_wp2_with fail
    refine (kind_any k.kind.toNat _ (by omega)).mono ?_
    rintro e w1 ⟨rfl, hb⟩
    obtain ⟨hc, hf⟩ := bcell hb
    rw [hz]
    go_wp2_with fail
    go_ret
    exact ⟨by rw [hr]; rfl, below_then ((Below.refl _ _).alloc (Nat.le_refl _) _) hb⟩
end Go.Proofs.YthagpdhnblmokaaGreatDoor
