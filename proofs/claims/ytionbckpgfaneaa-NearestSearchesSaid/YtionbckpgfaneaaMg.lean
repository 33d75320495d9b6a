/- NearestSearches, walked. -/
import Derived.Test.YtionbckpgfaneaaNt
import Derived.Test.YtionbckpgfaneaaNs
namespace Go.Proofs.Ytionbckpgfaneaa
open Go.RowKit
set_option maxHeartbeats 4000000
set_option maxRecDepth 100000
/-- armplanlaw14.searches -/
theorem searches_any (A B : Option Addr) (a b : List V3) (ca cb : Nat) (rho st : Int) (w : World) (hs : SlV w A a) (ht : SlV w B b) (ma : a.length ≤ 9223372036854775807) (mb : b.length ≤ 9223372036854775807) :
    Calls Try.prog 80 #[.slice A a.length ca, .slice B b.length cb, .int .i64 rho, .int .i64 st] w fun e w' => e = .returned (.bool true) ∧ Below w.heap.size w w' := by
  have HS := hide hs; have HT := hide ht
  clear hs ht
  by_cases hok : okArgs a b rho st
  · obtain ⟨fa, fb, ⟨r0, r1⟩, s0, s1⟩ := hok
    obtain ⟨m, rfl⟩ : ∃ m : Nat, st = (m : Int) := ⟨st.toNat, by omega⟩
    have hm : m ≤ 64 := by omega
    have FA := hide fa; have FB := hide fb
    obtain ⟨la1, la8, _⟩ := few_of fa
    obtain ⟨lb1, lb8, _⟩ := few_of fb
    have NK := hide (search_keeps (a := a) (b := b) (rho := rho) (steps := m) la1 lb1).2
    clear fa fb
    go_enter Try.func80, Try.ntmps80
    go_wp2_with fail
    refine (search_any A B a b ca cb rho m _ HS.out HT.out FA.out FB.out r0 r1 hm).mono ?_
    rintro e w1 ⟨gL, gR, rfl, sL, sR, hb1⟩
    unfold nearV
    have SL := hide sL; have SR := hide sR
    replace HS := hide (HS.out.below hb1); replace HT := hide (HT.out.below hb1)
    have B1 := hide hb1
    clear sL sR hb1
    go_wp2_with fail
    refine (searchRef_any A B a b ca cb rho m _ HS.out HT.out FA.out FB.out r0 r1 hm).mono ?_
    rintro e w2 ⟨hL, hR, cL, cR, rfl, tL, tR, hb2⟩
    unfold rC
    have TL := hide tL; have TR := hide tR
    replace SL := hide (SL.out.below hb2); replace SR := hide (SR.out.below hb2)
    have B2 := hide (stepB hb2 B1.out)
    clear tL tR hb2 B1
    obtain ⟨r, hr⟩ : ∃ r, searchN a b rho m = r := ⟨_, rfl⟩
    rw [hr] at SL SR TL TR NK ⊢
    clear hr
    have eL := hide NK.out.1.1; have eR := hide NK.out.2.1.1
    go_wp2_with fail
    refine (sameN2 r.1 r.2.N.x r.2.N.y r.2.N.z r.2.k r.2.L r.2.R (some ⟨gL, 0, none⟩) (some ⟨gR, 0, none⟩) (some ⟨hL, 0, none⟩) (some ⟨hR, 0, none⟩) a.length b.length _ _ _ _ _ SL.out SR.out TL.out TR.out eL.out eR.out (by omega) (by omega)).mono ?_
    rintro e w3 ⟨rfl, hb3⟩
    have B3 := hide (stepB hb3 B2.out)
    clear hb3
    go_wp2_with fail
    go_ret
    exact ⟨rfl, B3.out⟩
  · have BAD := hide hok
    clear hok
    go_enter Try.func80, Try.ntmps80
    go_wp2_with fail
    refine (search_zero A B a b ca cb rho st _ HS.out HT.out ma mb BAD.out).mono ?_
    rintro e w1 ⟨rfl, hb1⟩
    unfold zero7
    replace HS := hide (HS.out.below hb1); replace HT := hide (HT.out.below hb1)
    have B1 := hide hb1
    clear hb1
    go_wp2_with fail
    refine (searchRef_zero A B a b ca cb rho st _ HS.out HT.out ma mb BAD.out).mono ?_
    rintro e w2 ⟨rfl, hb2⟩
    unfold zero7
    have B2 := hide (stepB hb2 B1.out)
    clear hb2
    go_wp2_with fail
    refine (sameN2 0 0 0 0 0 [] [] none none none none 0 0 0 0 0 0 _ Sl.nil Sl.nil Sl.nil Sl.nil rfl rfl (by omega) (by omega)).mono ?_
    rintro e w3 ⟨rfl, hb3⟩
    have B3 := hide (stepB hb3 B2.out)
    clear hb3
    go_wp2_with fail
    go_ret
    exact ⟨rfl, B3.out⟩
theorem nearestSearches_walk (a b : List V3) (rho st : Int) (l m : List Int) (A0 A1 A4 A5 : Option Addr) (c0 c1 c4 c5 : Nat) (w : World) (hs0 : SlV w A0 a) (hs1 : SlV w A1 b) (hs4 : SlN w A4 l) (hs5 : SlN w A5 m) (m0 : a.length ≤ 9223372036854775807) (m1 : b.length ≤ 9223372036854775807) (m4 : l.length ≤ 9223372036854775807) (m5 : m.length ≤ 9223372036854775807) (hr : I64 rho) (_hst : I64 st) :
    Calls Try.prog 26 #[.slice A0 a.length c0, .slice A1 b.length c1, .int .i64 rho, .int .i64 st, .slice A4 l.length c4, .slice A5 m.length c5] w fun e w' => e = .returned (.bool true) ∧ Below w.heap.size w w' := by
  have SA := hide hs0; have SB := hide hs1; have S4 := hide hs4; have S5 := hide hs5
  clear hs0 hs1 hs4 hs5
  go_enter Try.func26, Try.ntmps26
  go_wp2_with fail
  refine (hulls_any A4 A5 l m c4 c5 rho _ S4.out S5.out m4 m5 hr).mono ?_
  rintro e w1 ⟨x, y, A, B, c, d, rfl, sx, sy, lc, ld, SX0, SY0, hb1⟩
  obtain ⟨q, hq⟩ : ∃ q, rad14 rho = q := ⟨_, rfl⟩
  rw [hq]
  clear hq
  obtain ⟨lx1, lx5, _⟩ := sx
  obtain ⟨ly1, ly5, _⟩ := sy
  have SX := hide SX0; have SY := hide SY0
  replace SA := hide (SA.out.below hb1); replace SB := hide (SB.out.below hb1)
  have B1 := hide hb1
  clear hb1 SX0 SY0
  go_wp2_with fail
  refine (round_any st 67 _ (by decide) (by decide)).mono ?_
  rintro e w' ⟨rfl, rfl⟩
  obtain ⟨k, hk⟩ : ∃ k, st % 67 = k := ⟨_, rfl⟩
  have k0 : 0 ≤ k := by omega
  have k1 : k ≤ 66 := by omega
  rw [hk]
  clear hk
  go_wp2_with fail
  refine (awake14 _).mono ?_
  rintro e w2 ⟨rfl, hb⟩
  replace SA := hide (SA.out.below hb); replace SB := hide (SB.out.below hb); replace SX := hide (SX.out.below hb); replace SY := hide (SY.out.below hb)
  have B2 := hide (stepB hb B1.out)
  clear hb B1
  go_wp2_with fail
  refine (searches_any A0 A1 a b c0 c1 rho st _ SA.out SB.out m0 m1).mono ?_
  rintro e w3 ⟨rfl, hb⟩
  replace SA := hide (SA.out.below hb); replace SB := hide (SB.out.below hb); replace SX := hide (SX.out.below hb); replace SY := hide (SY.out.below hb)
  have B3 := hide (stepB hb B2.out)
  clear hb B2
  go_wp2_with fail
  refine (searches_any A B x y c d q (k - 1) _ SX.out SY.out (by omega) (by omega)).mono ?_
  rintro e w4 ⟨rfl, hb⟩
  replace SA := hide (SA.out.below hb); replace SB := hide (SB.out.below hb); replace SX := hide (SX.out.below hb); replace SY := hide (SY.out.below hb)
  have B4 := hide (stepB hb B3.out)
  clear hb B3
  go_wp2_with fail
  refine (searches_any A B x y c d q 64 _ SX.out SY.out (by omega) (by omega)).mono ?_
  rintro e w5 ⟨rfl, hb⟩
  replace SA := hide (SA.out.below hb); replace SB := hide (SB.out.below hb); replace SX := hide (SX.out.below hb); replace SY := hide (SY.out.below hb)
  have B5 := hide (stepB hb B4.out)
  clear hb B4
  go_wp2_with fail
  refine (searches_any A A1 x b c c1 q (k - 1) _ SX.out SB.out (by omega) m1).mono ?_
  rintro e w6 ⟨rfl, hb⟩
  replace SA := hide (SA.out.below hb); replace SB := hide (SB.out.below hb); replace SX := hide (SX.out.below hb); replace SY := hide (SY.out.below hb)
  have B6 := hide (stepB hb B5.out)
  clear hb B5
  go_wp2_with fail
  refine (searches_any A B x y c d rho (k - 1) _ SX.out SY.out (by omega) (by omega)).mono ?_
  rintro e w7 ⟨rfl, hb⟩
  replace SA := hide (SA.out.below hb); replace SB := hide (SB.out.below hb); replace SX := hide (SX.out.below hb); replace SY := hide (SY.out.below hb)
  have B7 := hide (stepB hb B6.out)
  clear hb B6
  go_wp2_with fail
  go_ret
  exact ⟨rfl, B7.out⟩
end Go.Proofs.Ytionbckpgfaneaa
