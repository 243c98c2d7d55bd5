/- maps.Copy at the ledger's sums. -/
import Derived.Test.YthagpdhnblmokaaGreatDoorTell
namespace Go.Proofs.YthagpdhnblmokaaGreatDoor
open Go.RowKit Go.Maps

def overBy (fs fd : MPair → Option Int) (left : MPair → Bool) (p : MPair) : Option Int := if (fs p).isSome && !left p then fs p else fd p

set_option maxRecDepth 100000 in
set_option maxHeartbeats 1000000 in
theorem mapsCopy_any (d s nd ns : Nat) (fd fs : MPair → Option Int) (w : World) (hd : FMap Tryz.prog 157 50 klPair w d nd fd) (hs : FMap Tryz.prog 157 50 klPair w s ns fs) (hne : d ≠ s) (hn : nd + ns ≤ 1000000000) :
    Calls Tryz.prog 152 #[.map (some d), .map (some s)] w fun e w' => e = .returned (.tuple #[]) ∧ FMap Tryz.prog 157 50 klPair w' d (nd + ns) (fun p => if (fs p).isSome then fs p else fd p) ∧ Only (fun i => i = d) w w' := by
  have hsl := hs.lt
  have hdl := hd.lt
  go_enter Tryz.func152, Tryz.ntmps152
  go_wp2_with (first
    | (at_range; refine wpList_fm_range rfl _ rfl kePair Tryz.underlying139 hs rfl ?_; intro w0 cnt0 hrg0 hcnt0 hg0 hs0)
    | go_in)
  go_frame
  go_loopw [4, 5] (fun _ _ wr => ∃ (left : MPair → Bool) (cnt : Nat), FRange Tryz.prog 157 50 klPair wr s w.heap.size ns fs left cnt ∧ cnt ≤ ns ∧ FMap Tryz.prog 157 50 klPair wr d (nd + (ns - cnt)) (overBy fs fd left) ∧ Only (fun i => i = d) w wr)
    (fun _ _ wr => wr.rangeLeft s w.heap.size)
  case atStart =>
    refine ⟨_, _, hrg0, hcnt0, ?_, (Only.of_grown hg0).mono (fun i _ e => by cases e)⟩
    refine ((hd.only (Only.of_grown hg0) (fun e => by cases e)).congr (fun p => ?_)).mono (by omega)
    simp only [overBy]; rw [if_neg]; cases fs p <;> simp
  case round =>
    obtain ⟨left, cnt, hrg, hcs, hout, hO⟩ := hrel
    have hszr := hO.size
    go_wp2_with (first
      | (at_next; refine wpList_fm_next rfl _ rfl kePair uTCoin hrg rfl ?_ ?_)
      | go_in)
    · intro hc0 hl0
      go_wp2
      go_end0
      subst hc0
      exact ⟨rfl, (hout.mono (by omega)).congr (fun p => by simp [overBy, hl0]), hO⟩
    · intro x c w1 cnt1 hlx hfx hwc hrg1 hlt hg1 hs1 hen
      have hO1 := (hO.trans (Only.of_grown hg1) (S := fun i => i = d) (fun i hi e => by injection e with e; omega)).alloc (.cells #[.int .u32 x.loan.toNat, .int .u8 x.account.toNat, .bool x.control] 157)
      have hout1 := (hout.only (Only.of_grown hg1) (fun e => by injection e with e; omega)).only ((Only.refl (fun _ => False) w1).alloc (.cells #[.int .u32 x.loan.toNat, .int .u8 x.account.toNat, .bool x.control] 157)) (fun h => h)
      have hrg2 := hrg1.only ((Only.refl (fun _ => False) w1).alloc (.cells #[.int .u32 x.loan.toNat, .int .u8 x.account.toNat, .bool x.control] 157)) (fun h => h) (fun h => h)
      go_wp2_with (first
        | (at_mapUpdate; refine wpList_fm_update rfl _ _ _ rfl kePair Tryz.underlying139 uTCoin hout1 (by unfold maxLen; omega) x c rfl rfl rfl hwc ?_; intro w2 hout2 htu; have hO2 := turned_only htu; go_frame)
        | go_in)
      have hrg3 := hrg2.only hO2 (fun e => hne e.symm) (fun e => by omega)
      go_roundw
      case rel =>
        refine ⟨_, cnt1, hrg3, by omega, (hout2.congr (fun p => ?_)).mono (by omega), hO1.trans hO2 (fun i _ e => e)⟩
        by_cases hp : p = x
        · subst hp; simp [overBy, hfx]
        · simp [overBy, hp]
      case measure => rw [hrg3.left_eq, hrg.left_eq]; exact hlt
end Go.Proofs.YthagpdhnblmokaaGreatDoor
