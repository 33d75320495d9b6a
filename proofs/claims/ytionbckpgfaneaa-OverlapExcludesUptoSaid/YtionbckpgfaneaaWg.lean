/- Walks, part g: reached, the references' Placed. -/
import Derived.Test.YtionbckpgfaneaaWf
import Derived.Deep.QuietTactic
import Derived.BigQuiet
namespace Go.Proofs.Ytionbckpgfaneaa
open Go.RowKit
set_option maxHeartbeats 1000000
set_option maxRecDepth 100000
attribute [local go_sem] index44_0 index44_1 index44_2
theorem below_drewN {B : Nat} {a w : World} (h : Below B a w) (n : Nat) : Below B a (w.drewN n) := ⟨h.os, h.tape, h.output, h.size, h.block⟩
theorem cls (a : Iv) : (decide (a.lo < -268435456) = true) ∨ (decide (a.lo < -268435456) = false ∧ decide (a.hi < a.lo) = true) ∨ (decide (a.lo < -268435456) = false ∧ decide (a.hi < a.lo) = false ∧ decide (268435456 < a.hi) = true) ∨ (decide (a.lo < -268435456) = false ∧ decide (a.hi < a.lo) = false ∧ decide (268435456 < a.hi) = false) := by
  by_cases h1 : a.lo < -268435456
  · simp [h1]
  · by_cases h2 : a.hi < a.lo
    · simp [h1, h2]
    · by_cases h3 : 268435456 < a.hi
      · simp [h1, h2, h3]
      · simp [h1, h2, h3]
/-- armplanref10.reached -/
theorem reached_any (v : IV) (w : World) :
    Calls Try.prog 145 #[v.v] w fun e w' => e = .returned (.bool v.ok) ∧ Below w.heap.size w w' := by
  unfold IV.v
  go_enter Try.func145, Try.ntmps145
  go_wp2
  go_loopw [3] (fun i wr => ∃ k : Int, i = .int .i64 k ∧ 0 ≤ k ∧ k ≤ 3 ∧ (0 < k → v.x.ok = true) ∧ (1 < k → v.y.ok = true) ∧ (2 < k → v.z.ok = true) ∧ ∃ n, wr = (w.alloc (.cells #[.int .i64 v.x.lo, .int .i64 v.x.hi, .int .i64 v.y.lo, .int .i64 v.y.hi, .int .i64 v.z.lo, .int .i64 v.z.hi] 44)).drewN n) (fun i _ => 3 - (intOf i).toNat)
  case atStart => exact ⟨0, rfl, by omega, by omega, by omega, by omega, by omega, 0, rfl⟩
  case round =>
    obtain ⟨k, rfl, hk0, hk3, p0, p1, p2, n, rfl⟩ := hrel
    have P0 := hide p0; have P1 := hide p1; have P2 := hide p2
    clear p0 p1 p2
    obtain rfl | rfl | rfl | rfl : k = 0 ∨ k = 1 ∨ k = 2 ∨ k = 3 := by omega
    · rcases cls v.x with d1 | ⟨d1, d2⟩ | ⟨d1, d2, d3⟩ | ⟨d1, d2, d3⟩
      all_goals go_wp2
      all_goals go_quiet (fail)
      all_goals go_wp2
      all_goals first
        | (go_ret; refine ⟨ret_bool (ok_not v (by simp at d1; omega)).symm, ?_⟩; (refine below_drewN (below_drewN ?_ _) _; go_grown; done))
        | (go_ret; refine ⟨ret_bool (ok_not v (by simp at d1 d2; omega)).symm, ?_⟩; (refine below_drewN (below_drewN ?_ _) _; go_grown; done))
        | (go_ret; refine ⟨ret_bool (ok_not v (by simp at d1 d2 d3; omega)).symm, ?_⟩; (refine below_drewN (below_drewN ?_ _) _; go_grown; done))
        | (go_roundw
           case rel => exact ⟨1, rfl, by omega, by omega, fun _ => by simp at d1 d2 d3; simp [Iv.ok]; omega, fun h => absurd h (by omega), fun h => absurd h (by omega), _, rfl⟩
           case measure => simp [intOf])
    · rcases cls v.y with d1 | ⟨d1, d2⟩ | ⟨d1, d2, d3⟩ | ⟨d1, d2, d3⟩
      all_goals go_wp2
      all_goals go_quiet (fail)
      all_goals go_wp2
      all_goals first
        | (go_ret; refine ⟨ret_bool (ok_not v (by simp at d1; omega)).symm, ?_⟩; (refine below_drewN (below_drewN ?_ _) _; go_grown; done))
        | (go_ret; refine ⟨ret_bool (ok_not v (by simp at d1 d2; omega)).symm, ?_⟩; (refine below_drewN (below_drewN ?_ _) _; go_grown; done))
        | (go_ret; refine ⟨ret_bool (ok_not v (by simp at d1 d2 d3; omega)).symm, ?_⟩; (refine below_drewN (below_drewN ?_ _) _; go_grown; done))
        | (go_roundw
           case rel => exact ⟨2, rfl, by omega, by omega, fun _ => P0.out (by omega), fun _ => by simp at d1 d2 d3; simp [Iv.ok]; omega, fun h => absurd h (by omega), _, rfl⟩
           case measure => simp [intOf])
    · rcases cls v.z with d1 | ⟨d1, d2⟩ | ⟨d1, d2, d3⟩ | ⟨d1, d2, d3⟩
      all_goals go_wp2
      all_goals go_quiet (fail)
      all_goals go_wp2
      all_goals first
        | (go_ret; refine ⟨ret_bool (ok_not v (by simp at d1; omega)).symm, ?_⟩; (refine below_drewN (below_drewN ?_ _) _; go_grown; done))
        | (go_ret; refine ⟨ret_bool (ok_not v (by simp at d1 d2; omega)).symm, ?_⟩; (refine below_drewN (below_drewN ?_ _) _; go_grown; done))
        | (go_ret; refine ⟨ret_bool (ok_not v (by simp at d1 d2 d3; omega)).symm, ?_⟩; (refine below_drewN (below_drewN ?_ _) _; go_grown; done))
        | (go_roundw
           case rel => exact ⟨3, rfl, by omega, by omega, fun _ => P0.out (by omega), fun _ => P1.out (by omega), fun _ => by simp at d1 d2 d3; simp [Iv.ok]; omega, _, rfl⟩
           case measure => simp [intOf])
    · go_wp2
      go_ret
      refine ⟨ret_bool ?_, below_drewN (by go_grown) _⟩
      have h0 := P0.out (by omega); have h1 := P1.out (by omega); have h2 := P2.out (by omega)
      simp [IV.ok, h0, h1, h2]
/-- armplanref10.Placed -/
theorem placed_ref (A : Option Addr) (l : List IV) (c : Nat) (w : World) (hs : SlI w A l) (hm : l.length ≤ 9223372036854775807) :
    Calls Try.prog 130 #[.slice A l.length c] w fun e w' => e = .returned (.bool (placedB l)) ∧ Below w.heap.size w w' := by
  have HS := hide hs
  clear hs
  go_enter Try.func130, Try.ntmps130
  go_wp2_with fail
  go_loopw [3] (fun i wr => ∃ k : Nat, k ≤ l.length ∧ k ≤ 9 ∧ i = .int .i64 k ∧ (∀ j (_ : j < k) (h' : j < l.length), l[j].ok = true) ∧ Below w.heap.size w wr) (fun i _ => l.length - (intOf i).toNat)
  case atStart => exact ⟨0, Nat.zero_le _, Nat.zero_le _, rfl, fun j h => absurd h (by omega), Below.refl _ _⟩
  case round =>
    obtain ⟨k, hk, hk9, rfl, hok, hb⟩ := hrel
    have HO := hide hok; have HB := hide hb; have hz := hb.size
    clear hok hb
    by_cases hlt : k < l.length
    · by_cases h8 : k ≤ 8
      · obtain ⟨b, off, rfl, hbb⟩ := HS.out.addr (by omega)
        obtain ⟨h0, h1, h2, h3, h4, h5⟩ := (HS.out.below HB.out).at_ hlt
        go_wp2_with fail
        refine (reached_any l[k] _).mono ?_
        rintro e w1 ⟨rfl, hb1⟩
        have HB1 := hide hb1
        clear hb1
        cases hv : l[k].ok
        · go_wp2
          go_ret
          exact ⟨ret_bool (placed_not l k hlt hv), HB.out.trans (HB1.out.mono hz)⟩
        · have HV := hide hv
          go_wp2
          go_roundw
          case rel => exact ⟨k + 1, by omega, by omega, by simp, fun j hj hj' => by
               rcases Nat.lt_or_ge j k with h | h
               · exact HO.out j h hj'
               · obtain rfl : j = k := by omega
                 exact HV.out, HB.out.trans (HB1.out.mono hz)⟩
          case measure => simp [intOf] <;> omega
      · have hge : 8 < l.length := by omega
        have H := hide (placed_bad l (Or.inr hge))
        go_wp2
        all_goals
          go_ret
          exact ⟨ret_bool ((by simp; omega : decide ((l.length : Int) ≤ 8) = false).trans H.out), HB.out⟩
    · have hkl : k = l.length := by omega
      by_cases h1 : 1 ≤ l.length
      · by_cases h8 : l.length ≤ 8
        · have H := hide (placed_yes l h1 h8 (fun j hj => HO.out j (by omega) hj))
          clear hkl
          go_wp2
          all_goals
            go_ret
            exact ⟨ret_bool ((by simp; omega : decide ((l.length : Int) ≤ 8) = true).trans H.out), HB.out⟩
        · have H := hide (placed_bad l (Or.inr (by omega)))
          clear hkl
          go_wp2
          all_goals
            go_ret
            exact ⟨ret_bool ((by simp; omega : decide ((l.length : Int) ≤ 8) = false).trans H.out), HB.out⟩
      · have H := hide (placed_bad l (Or.inl (by omega)))
        clear hkl
        go_wp2
        all_goals
          go_ret
          exact ⟨ret_bool H.out, HB.out⟩
end Go.Proofs.Ytionbckpgfaneaa
