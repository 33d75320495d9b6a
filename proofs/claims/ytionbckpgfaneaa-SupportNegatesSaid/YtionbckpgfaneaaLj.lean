/- SupportNegates, walked. -/
import Derived.Test.YtionbckpgfaneaaVa
import Derived.Test.YtionbckpgfaneaaWy
import Derived.Test.YtionbckpgfaneaaWx
import Derived.Test.YtionbckpgfaneaaLe
namespace Go.Proofs.Ytionbckpgfaneaa
open Go.RowKit
set_option maxHeartbeats 1000000
set_option maxRecDepth 100000
theorem supportNegates_walk (a b c : Int) (l : List Int) (A4 : Option Addr) (c4 : Nat) (w : World)
    (hs4 : SlN w A4 l) (m4 : l.length ≤ 9223372036854775807) :
    Calls Try.prog 15 #[.int .i64 a, .int .i64 b, .int .i64 c, .slice A4 l.length c4] w fun e w' => e = .returned (.bool true) ∧ Below w.heap.size w w' := by
  have S4 := hide hs4; clear hs4
  have B0 := hide (Below.refl w.heap.size w)
  have z0 : w.heap.size ≤ w.heap.size := Nat.le_refl _
  go_enter Try.func15, Try.ntmps15
  go_wp2_with fail
  refine (mkNormal_any a b c _).mono ?_
  rintro e w1 ⟨n, hun, rfl, hb1⟩
  have z1 : w.heap.size ≤ w1.heap.size := Nat.le_trans z0 hb1.size
  have B1 := hide (B0.out.trans (hb1.mono z0)); clear B0
  replace S4 := hide (S4.out.below hb1)
  have HUn := hide hun; clear hun
  unfold V3.v
  clear hb1
  go_wp2_with fail
  refine (points_any A4 l c4 3000 _ S4.out m4 (by omega) (by omega)).mono ?_
  rintro e w2 ⟨vx, xs, rfl, lx1, lx5, okx, hox, hb2⟩
  have z2 : w.heap.size ≤ w2.heap.size := Nat.le_trans z1 hb2.size
  have B2 := hide (B1.out.trans (hb2.mono z1)); clear B1
  replace S4 := hide (S4.out.below hb2)
  obtain ⟨Ax, cx, rfl, _, _, _⟩ := own_val hox
  have SX := hide (show SlI w2 Ax xs from own_sl hox)
  have OKX := hide okx
  clear hox okx
  clear hb2
  go_wp2_with fail
  have PX := hide (placed_made (by omega) lx1 (by omega) OKX.out)
  obtain ⟨w3, hw3⟩ : ∃ W, W = (w2.alloc (.cells #[.int .i64 n.x, .int .i64 n.y, .int .i64 n.z] 47)) := ⟨_, rfl⟩
  rw [← hw3]
  have hb3 : Below w2.heap.size w2 w3 := by rw [hw3]; go_grown
  have z3 : w.heap.size ≤ w3.heap.size := Nat.le_trans z2 hb3.size
  have B3 := hide (B2.out.trans (hb3.mono z2)); clear B2
  replace S4 := hide (S4.out.below hb3)
  replace SX := hide (SX.out.below hb3)
  have KN := hide (show w3.heap[w2.heap.size]? = some (.cells (vcs n) 47 (0, 0)) by rw [hw3]; exact new_at _ _ (by simp))
  have yN : w2.heap.size < w3.heap.size := by rw [hw3]; simp <;> omega
  clear hw3 hb3
  obtain ⟨⟨a1, a2⟩, ⟨b1, b2⟩, c1, c2⟩ := inR_of (usable_of HUn.out).1
  have cN := blk_cell KN.out; simp only [vcs] at cN
  clear cN
  refine (greatest_any n Ax xs cx _ SX.out (by omega)).mono ?_
  rintro e w4 ⟨rfl, hb4⟩
  have z4 : w.heap.size ≤ w4.heap.size := Nat.le_trans z3 hb4.size
  have B4 := hide (B3.out.trans (hb4.mono z3)); clear B3
  replace S4 := hide (S4.out.below hb4)
  replace SX := hide (SX.out.below hb4)
  replace KN := hide ((hb4.block _ yN).trans KN.out)
  replace yN := Nat.lt_of_lt_of_le yN hb4.size
  rw [greatR_yes (HUn.out) PX.out]
  generalize hP1 : greatV n xs = P1
  generalize hI1 : greatI n xs = I1
  have HP1 := hide hP1; have HI1 := hide hI1; clear hP1 hI1
  clear hb4
  have cN := blk_cell KN.out; simp only [vcs] at cN
  have bd := greatV_bd HUn.out PX.out; rw [HP1.out] at bd
  go_wp2_with fail
  clear cN
  refine (least_any (negV n) Ax xs cx _ SX.out (by omega)).mono ?_
  rintro e w5 ⟨rfl, hb5⟩
  have z5 : w.heap.size ≤ w5.heap.size := Nat.le_trans z4 hb5.size
  have B5 := hide (B4.out.trans (hb5.mono z4)); clear B4
  replace S4 := hide (S4.out.below hb5)
  replace SX := hide (SX.out.below hb5)
  replace KN := hide ((hb5.block _ yN).trans KN.out)
  replace yN := Nat.lt_of_lt_of_le yN hb5.size
  rw [leastR_yes (usable_neg HUn.out) PX.out]
  generalize hP2 : leastV (negV n) xs = P2
  generalize hI2 : leastI (negV n) xs = I2
  have HP2 := hide hP2; have HI2 := hide hI2; clear hP2 hI2
  clear hb5
  go_wp2_with fail
  have f1 : P1 = -P2 := by rw [← HP1.out, ← HP2.out, leastV_neg, Int.neg_neg]
  have f2 : I1 = I2 := by rw [← HI1.out, ← HI2.out, leastI_neg]
  subst f2
  have f3 : P2 = -P1 := by omega
  subst f3
  clear f1
  refine (awake13 _).mono ?_
  rintro e w6 ⟨rfl, hb6⟩
  have z6 : w.heap.size ≤ w6.heap.size := Nat.le_trans z5 hb6.size
  have B6 := hide (B5.out.trans (hb6.mono z5)); clear B5
  replace S4 := hide (S4.out.below hb6)
  replace SX := hide (SX.out.below hb6)
  replace KN := hide ((hb6.block _ yN).trans KN.out)
  replace yN := Nat.lt_of_lt_of_le yN hb6.size
  clear hb6
  go_wp2_with fail
  go_ret
  exact ⟨by simp, B6.out⟩
end Go.Proofs.Ytionbckpgfaneaa
