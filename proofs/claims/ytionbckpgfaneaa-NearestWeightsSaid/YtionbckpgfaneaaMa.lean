/- NearestWeights, walked. -/
import Derived.Test.YtionbckpgfaneaaNh
namespace Go.Proofs.Ytionbckpgfaneaa
open Go.RowKit
set_option maxHeartbeats 4000000
set_option maxRecDepth 100000
theorem nearestWeights_walk (l m : List Int) (rho steps : Int) (A0 A1 : Option Addr) (c0 c1 : Nat) (w : World) (hs0 : SlN w A0 l) (hs1 : SlN w A1 m) (m0 : l.length ≤ 9223372036854775807) (m1 : m.length ≤ 9223372036854775807) (hr : I64 rho) :
    Calls Try.prog 27 #[.slice A0 l.length c0, .slice A1 m.length c1, .int .i64 rho, .int .i64 steps] w fun e w' => e = .returned (.bool true) ∧ Below w.heap.size w w' := by
  have S0 := hide hs0; have S1 := hide hs1; clear hs0 hs1
  go_enter Try.func27, Try.ntmps27
  go_wp2_with fail
  refine (hulls_any A0 A1 l m c0 c1 rho _ S0.out S1.out m0 m1 hr).mono ?_
  rintro e w1 ⟨x, y, A, B, c, d, rfl, sx, sy, lc, ld, SX0, SY0, hb1⟩
  obtain ⟨q0, q1⟩ := rad14_bd rho
  obtain ⟨q, hq⟩ : ∃ q, rad14 rho = q := ⟨_, rfl⟩
  rw [hq] at q0 q1 ⊢
  clear hq
  have FX := hide sx.few; have FY := hide sy.few
  obtain ⟨lx1, lx5, _⟩ := sx
  obtain ⟨ly1, ly5, _⟩ := sy
  have SX := hide SX0; have SY := hide SY0
  have B1 := hide hb1
  clear hb1 SX0 SY0
  go_wp2_with fail
  refine (round_any steps 65 _ (by decide) (by decide)).mono ?_
  rintro e w' ⟨rfl, rfl⟩
  obtain ⟨k, hk⟩ : ∃ k : Nat, steps % 65 = (k : Int) := ⟨(steps % 65).toNat, by omega⟩
  rw [hk]
  have kb : k ≤ 64 := by omega
  clear hk
  go_wp2_with fail
  refine (search_any A B x y c d q k _ SX.out SY.out FX.out FY.out q0 q1 kb).mono ?_
  rintro e w2 ⟨gL, gR, rfl, sL, sR, hb2⟩
  obtain ⟨⟨r0, r1⟩, nL, nR, nk⟩ := search_keeps (rho := q) (steps := k) lx1 ly1
  obtain ⟨r, hr'⟩ : ∃ r, searchN x y q k = r := ⟨_, rfl⟩
  rw [hr'] at r0 r1 nL nR nk sL sR ⊢
  clear hr'
  unfold nearV
  have SL := hide sL; have SR := hide sR; have NL := hide nL; have NR := hide nR
  have B2 := hide (stepB hb2 B1.out)
  clear sL sR nL nR hb2 B1
  go_wp2_with fail
  refine (awake14 _).mono ?_
  rintro e w3 ⟨rfl, hb3⟩
  have K3 := hide (newB hb3)
  have b3 := stepB hb3 ((Below.refl w2.heap.size w2).alloc (Nat.le_refl _) _)
  replace SL := hide (SL.out.below b3); replace SR := hide (SR.out.below b3)
  have B3 := hide (stepB b3 B2.out)
  have y3 := blt K3.out
  have c3 := blk_cell K3.out
  clear hb3 b3 B2
  go_wp2_with fail
  refine (weights14_any _ r.2.L _ x.length _ SL.out NL.out (by omega)).mono ?_
  rintro e w' ⟨rfl, rfl⟩
  go_wp2_with fail
  refine (weights14_any _ r.2.R _ y.length _ SR.out NR.out (by omega)).mono ?_
  rintro e w' ⟨rfl, rfl⟩
  go_wp2_with fail
  go_ret
  exact ⟨rfl, B3.out⟩
end Go.Proofs.Ytionbckpgfaneaa
