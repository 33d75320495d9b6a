/- NearestMore, walked. -/
import Derived.Test.YtionbckpgfaneaaNh
namespace Go.Proofs.Ytionbckpgfaneaa
open Go.RowKit
set_option maxHeartbeats 4000000
set_option maxRecDepth 100000
theorem nearestMore_walk (l m : List Int) (rho steps more : Int) (A0 A1 : Option Addr) (c0 c1 : Nat) (w : World) (hs0 : SlN w A0 l) (hs1 : SlN w A1 m) (m0 : l.length ≤ 9223372036854775807) (m1 : m.length ≤ 9223372036854775807) (hr : I64 rho) :
    Calls Try.prog 32 #[.slice A0 l.length c0, .slice A1 m.length c1, .int .i64 rho, .int .i64 steps, .int .i64 more] w fun e w' => e = .returned (.bool true) ∧ Below w.heap.size w w' := by
  have S0 := hide hs0; have S1 := hide hs1; clear hs0 hs1
  go_enter Try.func32, Try.ntmps32
  go_wp2_with fail
  refine (hulls_any A0 A1 l m c0 c1 rho _ S0.out S1.out m0 m1 hr).mono ?_
  rintro e w1 ⟨x, y, A, B, c, d, rfl, sx, sy, lc, ld, SX0, SY0, hb1⟩
  obtain ⟨q0, q1⟩ := rad14_bd rho
  obtain ⟨q, hq⟩ : ∃ q, rad14 rho = q := ⟨_, rfl⟩
  rw [hq] at q0 q1 ⊢
  clear hq
  have FX := hide sx.few; have FY := hide sy.few
  obtain ⟨lx1, lx5, _⟩ := sx
  obtain ⟨ly1, ly5, _⟩ := sy
  have SX := hide SX0; have SY := hide SY0
  have B1 := hide hb1
  clear hb1 SX0 SY0
  go_wp2_with fail
  refine (round_any steps 65 _ (by decide) (by decide)).mono ?_
  rintro e w' ⟨rfl, rfl⟩
  obtain ⟨k, hk⟩ : ∃ k : Nat, steps % 65 = (k : Int) := ⟨(steps % 65).toNat, by omega⟩
  rw [hk]
  have kb : k ≤ 64 := by omega
  clear hk
  go_wp2_with fail
  refine (search_any A B x y c d q k _ SX.out SY.out FX.out FY.out q0 q1 kb).mono ?_
  rintro e w2 ⟨gL, gR, rfl, sL, sR, hb2⟩
  obtain ⟨⟨r0, r1⟩, nL, nR, nk⟩ := search_keeps (rho := q) (steps := k) lx1 ly1
  obtain ⟨r, hr'⟩ : ∃ r, searchN x y q k = r := ⟨_, rfl⟩
  rw [hr'] at r0 r1 nL nR nk sL sR ⊢
  have HR := hide hr'
  clear hr'
  unfold nearV
  have SL := hide sL; have SR := hide sR; have NL := hide nL; have NR := hide nR
  replace SX := hide (SX.out.below hb2); replace SY := hide (SY.out.below hb2)
  have B2 := hide (stepB hb2 B1.out)
  clear sL sR nL nR hb2 B1
  go_wp2_with fail
  refine (round_any more _ _ (by omega) (by omega)).mono ?_
  rintro e w' ⟨rfl, rfl⟩
  obtain ⟨j, hj⟩ : ∃ j : Nat, more % (64 - (k : Int) + 1) = (j : Int) := ⟨(more % (64 - (k : Int) + 1)).toNat, by have := Int.emod_nonneg more (show (64 - (k : Int) + 1) ≠ 0 by omega); omega⟩
  have jb : k + j ≤ 64 := by have := Int.emod_lt_of_pos more (show 0 < 64 - (k : Int) + 1 by omega); omega
  rw [hj]
  clear hj
  obtain ⟨k2, hk2⟩ : ∃ k2 : Nat, k2 = k + j := ⟨_, rfl⟩
  have ek : (k : Int) + (j : Int) = (k2 : Int) := by omega
  have b2 : k2 ≤ 64 := by omega
  have HK2 := hide (show k ≤ k2 by omega)
  clear hk2 jb
  go_wp2_with fail
  refine (search_any A B x y c d q k2 _ (by exact Sl.alloc SX.out _) (by exact Sl.alloc SY.out _) FX.out FY.out q0 q1 b2).mono ?_
  rintro e w3 ⟨hL, hR, rfl, sL, sR, hb3⟩
  have MO := search_more (a := x) (b := y) (rho := q) HK2.out
  obtain ⟨t, ht⟩ : ∃ t, searchN x y q k2 = t := ⟨_, rfl⟩
  rw [ht] at sL sR MO ⊢
  rw [HR.out] at MO
  clear ht
  obtain ⟨mo1, mo2⟩ := MO
  have MO1 := hide mo1
  clear mo1
  unfold nearV
  have TL := hide sL; have TR := hide sR
  have K3 := hide (newB hb3)
  have b3 := stepB hb3 ((Below.refl w2.heap.size w2).alloc (Nat.le_refl _) _)
  replace SL := hide (SL.out.below b3); replace SR := hide (SR.out.below b3)
  have B3 := hide (stepB b3 B2.out)
  clear sL sR hb3 b3 B2 ek
  go_wp2_with fail
  refine (awake14 _).mono ?_
  rintro e w4 ⟨rfl, hb4⟩
  have K4 := hide (newB hb4)
  have b4 := stepB hb4 ((Below.refl w3.heap.size w3).alloc (Nat.le_refl _) _)
  replace K3 := hide ((b4.block _ (blt K3.out)).trans K3.out)
  replace SL := hide (SL.out.below b4); replace SR := hide (SR.out.below b4); replace TL := hide (TL.out.below b4); replace TR := hide (TR.out.below b4)
  have B4 := hide (stepB b4 B3.out)
  clear hb4 b4 B3
  have y3 := blt K3.out; have c3 := blk_cell K3.out
  have y4 := blt K4.out; have c4 := blk_cell K4.out
  have mo3 : (r.2.k : Int) ≤ (t.2.k : Int) := by omega
  by_cases hz : r.1 = 0
  · have hz' : (r.1 == 0) = true := by simp [hz]
    clear hz
    go_wp2_with fail
    go_ret
    exact ⟨rfl, B4.out⟩
  · have hz' : (r.1 == 0) = false := by simp [hz]
    obtain rfl := MO1.out hz
    have eL := hide NL.out.1; have eR := hide NR.out.1
    clear hz
    go_wp2_with fail
    refine (sameN2 r.1 r.2.N.x r.2.N.y r.2.N.z r.2.k r.2.L r.2.R (some ⟨gL, 0, none⟩) (some ⟨gR, 0, none⟩) (some ⟨hL, 0, none⟩) (some ⟨hR, 0, none⟩) x.length y.length _ _ _ _ _ SL.out SR.out TL.out TR.out eL.out eR.out (by omega) (by omega)).mono ?_
    rintro e w5 ⟨rfl, hb5⟩
    have K35 := hide ((hb5.block _ y3).trans K3.out); have K45 := hide ((hb5.block _ y4).trans K4.out)
    have B5 := hide (stepB hb5 B4.out)
    clear hb5 c3 c4 y3 y4
    have y3 := blt K35.out; have c3 := blk_cell K35.out
    have y4 := blt K45.out; have c4 := blk_cell K45.out
    go_wp2_with fail
    go_ret
    exact ⟨rfl, B5.out⟩
end Go.Proofs.Ytionbckpgfaneaa
