import Derived.Test.YtionbckpgfaneaaWn
namespace Go.Proofs.Ytionbckpgfaneaa
open Go.RowKit
set_option maxHeartbeats 1000000
set_option maxRecDepth 100000
theorem overlapExcess_walk (left right : List Int) (ra rb : Int) (raw : List IV) (l m ws : List Int) (p q : Int) (A1 A2 A3 A4 A5 A6 : Option Addr) (c1 c2 c3 c4 c5 c6 : Nat) (w : World)
    (hs1 : SlN w A1 left) (hs2 : SlN w A2 right) (hs3 : SlI w A3 raw) (hs4 : SlN w A4 l) (hs5 : SlN w A5 m) (hs6 : SlN w A6 ws)
    (m1 : left.length ≤ 9223372036854775807) (m2 : right.length ≤ 9223372036854775807) (m3 : raw.length ≤ 9223372036854775807) (m4 : l.length ≤ 9223372036854775807) (m5 : m.length ≤ 9223372036854775807) (m6 : ws.length ≤ 1048576) (hp : I64 p) (hq : I64 q) :
    Calls Try.prog 3 #[.slice A1 left.length c1, .slice A2 right.length c2, .int .i64 ra, .int .i64 rb, .slice A3 raw.length c3, .slice A4 l.length c4, .slice A5 m.length c5, .slice A6 ws.length c6, .int .i64 p, .int .i64 q] w
      fun e w' => e = .returned (.bool true) ∧ Below w.heap.size w w' := by
  have S1 := hide hs1; clear hs1
  have S2 := hide hs2; clear hs2
  have S3 := hide hs3; clear hs3
  have S4 := hide hs4; clear hs4
  have S5 := hide hs5; clear hs5
  have S6 := hide hs6; clear hs6
  have HP := hide hp; have HQ := hide hq; clear hp hq
  have B0 := hide (Below.refl w.heap.size w)
  have z0 : w.heap.size ≤ w.heap.size := Nat.le_refl _
  go_enter Try.func3, Try.ntmps3
  go_wp2_with fail
  refine (points_any A4 l c4 3000 _ S4.out m4 (by omega) (by omega)).mono ?_
  rintro e w1 ⟨va, as_, rfl, la1, la5, oka, hoa, hb1⟩
  have z1 : w.heap.size ≤ w1.heap.size := Nat.le_trans z0 hb1.size
  have B1 := hide (B0.out.trans (hb1.mono z0)); clear B0
  replace S1 := hide (S1.out.below hb1)
  replace S2 := hide (S2.out.below hb1)
  replace S3 := hide (S3.out.below hb1)
  replace S4 := hide (S4.out.below hb1)
  replace S5 := hide (S5.out.below hb1)
  replace S6 := hide (S6.out.below hb1)
  obtain ⟨Aa, ca, rfl, _, _, _⟩ := own_val hoa
  have SA := hide (show SlI w1 Aa as_ from own_sl hoa)
  have OKA := hide oka
  clear hoa oka
  clear hb1
  go_wp2_with fail
  refine (points_any A5 m c5 3000 _ S5.out m5 (by omega) (by omega)).mono ?_
  rintro e w2 ⟨vb, bs, rfl, lb1, lb5, okb, hob, hb2⟩
  have z2 : w.heap.size ≤ w2.heap.size := Nat.le_trans z1 hb2.size
  have B2 := hide (B1.out.trans (hb2.mono z1)); clear B1
  replace S1 := hide (S1.out.below hb2)
  replace S2 := hide (S2.out.below hb2)
  replace S3 := hide (S3.out.below hb2)
  replace S4 := hide (S4.out.below hb2)
  replace S5 := hide (S5.out.below hb2)
  replace S6 := hide (S6.out.below hb2)
  replace SA := hide (SA.out.below hb2)
  obtain ⟨Ab, cb, rfl, _, _, _⟩ := own_val hob
  have SB := hide (show SlI w2 Ab bs from own_sl hob)
  have OKB := hide okb
  clear hob okb
  clear hb2
  go_wp2_with fail
  refine (equal_any as_.length bs.length A6 ws c6 _ S6.out m6 (by omega) (by omega) (by omega) (by omega)).mono ?_
  rintro e w3 ⟨vs, vt, s, t, rfl, ls, lt, s9, t9, hst, s1, s2, hos, hot, hb3⟩
  have z3 : w.heap.size ≤ w3.heap.size := Nat.le_trans z2 hb3.size
  have B3 := hide (B2.out.trans (hb3.mono z2)); clear B2
  replace S1 := hide (S1.out.below hb3)
  replace S2 := hide (S2.out.below hb3)
  replace S3 := hide (S3.out.below hb3)
  replace S4 := hide (S4.out.below hb3)
  replace S5 := hide (S5.out.below hb3)
  replace S6 := hide (S6.out.below hb3)
  replace SA := hide (SA.out.below hb3)
  replace SB := hide (SB.out.below hb3)
  rw [← ls] at hos
  rw [← lt] at hot
  obtain ⟨As, cs, rfl, _, _, _⟩ := own_val hos
  obtain ⟨At, ct, rfl, _, _, _⟩ := own_val hot
  have SS := hide (show SlN w3 As s from own_sl hos)
  have ST := hide (show SlN w3 At t from own_sl hot)
  have LS := hide ls; have LT := hide lt
  have hls : s.length ≤ 5 := by omega
  have hlt : t.length ≤ 5 := by omega
  clear hos hot hst ls lt s9 t9
  clear hb3
  go_wp2_with fail
  refine (awake16 _).mono ?_
  rintro e w4 ⟨rfl, hb4⟩
  have z4 : w.heap.size ≤ w4.heap.size := Nat.le_trans z3 hb4.size
  have B4 := hide (B3.out.trans (hb4.mono z3)); clear B3
  replace S1 := hide (S1.out.below hb4)
  replace S2 := hide (S2.out.below hb4)
  replace S3 := hide (S3.out.below hb4)
  replace S4 := hide (S4.out.below hb4)
  replace S5 := hide (S5.out.below hb4)
  replace S6 := hide (S6.out.below hb4)
  replace SA := hide (SA.out.below hb4)
  replace SB := hide (SB.out.below hb4)
  replace SS := hide (SS.out.below hb4)
  replace ST := hide (ST.out.below hb4)
  clear hb4
  go_wp2_with fail
  refine (excess16 left right raw bs ra rb A1 A2 A3 Ab c1 c2 c3 cb _ S1.out S2.out S3.out SB.out m1 m2 m3 (by omega)).mono ?_
  rintro e w5 ⟨rfl, hb5⟩
  have z5 : w.heap.size ≤ w5.heap.size := Nat.le_trans z4 hb5.size
  have B5 := hide (B4.out.trans (hb5.mono z4)); clear B4
  replace S1 := hide (S1.out.below hb5)
  replace S2 := hide (S2.out.below hb5)
  replace S3 := hide (S3.out.below hb5)
  replace S4 := hide (S4.out.below hb5)
  replace S5 := hide (S5.out.below hb5)
  replace S6 := hide (S6.out.below hb5)
  replace SA := hide (SA.out.below hb5)
  replace SB := hide (SB.out.below hb5)
  replace SS := hide (SS.out.below hb5)
  replace ST := hide (ST.out.below hb5)
  clear hb5
  go_wp2_with fail
  refine (radius16_any p _ HP.out).mono ?_
  rintro e w' ⟨rfl, rfl⟩
  go_wp2_with fail
  refine (radius16_any q _ HQ.out).mono ?_
  rintro e w' ⟨rfl, rfl⟩
  go_wp2_with fail
  refine (excess16 s t as_ bs (radOf 4 1 30000 200000 1048577 p) (radOf 4 1 30000 200000 1048577 q) As At Aa Ab cs ct ca cb _ SS.out ST.out SA.out SB.out (by omega) (by omega) (by omega) (by omega)).mono ?_
  rintro e w6 ⟨rfl, hb6⟩
  have z6 : w.heap.size ≤ w6.heap.size := Nat.le_trans z5 hb6.size
  have B6 := hide (B5.out.trans (hb6.mono z5)); clear B5
  replace S1 := hide (S1.out.below hb6)
  replace S2 := hide (S2.out.below hb6)
  replace S3 := hide (S3.out.below hb6)
  replace S4 := hide (S4.out.below hb6)
  replace S5 := hide (S5.out.below hb6)
  replace S6 := hide (S6.out.below hb6)
  replace SA := hide (SA.out.below hb6)
  replace SB := hide (SB.out.below hb6)
  replace SS := hide (SS.out.below hb6)
  replace ST := hide (ST.out.below hb6)
  clear hb6
  go_wp2_with fail
  refine (radius16_any p _ HP.out).mono ?_
  rintro e w' ⟨rfl, rfl⟩
  go_wp2_with fail
  refine (radius16_any q _ HQ.out).mono ?_
  rintro e w' ⟨rfl, rfl⟩
  go_wp2_with fail
  refine (excess16 left t as_ bs (radOf 4 1 30000 200000 1048577 p) (radOf 4 1 30000 200000 1048577 q) A1 At Aa Ab c1 ct ca cb _ S1.out ST.out SA.out SB.out (by omega) (by omega) (by omega) (by omega)).mono ?_
  rintro e w7 ⟨rfl, hb7⟩
  have z7 : w.heap.size ≤ w7.heap.size := Nat.le_trans z6 hb7.size
  have B7 := hide (B6.out.trans (hb7.mono z6)); clear B6
  replace S1 := hide (S1.out.below hb7)
  replace S2 := hide (S2.out.below hb7)
  replace S3 := hide (S3.out.below hb7)
  replace S4 := hide (S4.out.below hb7)
  replace S5 := hide (S5.out.below hb7)
  replace S6 := hide (S6.out.below hb7)
  replace SA := hide (SA.out.below hb7)
  replace SB := hide (SB.out.below hb7)
  replace SS := hide (SS.out.below hb7)
  replace ST := hide (ST.out.below hb7)
  clear hb7
  go_wp2_with fail
  refine (excess16 s t as_ bs (ra) (rb) As At Aa Ab cs ct ca cb _ SS.out ST.out SA.out SB.out (by omega) (by omega) (by omega) (by omega)).mono ?_
  rintro e w8 ⟨rfl, hb8⟩
  have z8 : w.heap.size ≤ w8.heap.size := Nat.le_trans z7 hb8.size
  have B8 := hide (B7.out.trans (hb8.mono z7)); clear B7
  replace S1 := hide (S1.out.below hb8)
  replace S2 := hide (S2.out.below hb8)
  replace S3 := hide (S3.out.below hb8)
  replace S4 := hide (S4.out.below hb8)
  replace S5 := hide (S5.out.below hb8)
  replace S6 := hide (S6.out.below hb8)
  replace SA := hide (SA.out.below hb8)
  replace SB := hide (SB.out.below hb8)
  replace SS := hide (SS.out.below hb8)
  replace ST := hide (ST.out.below hb8)
  clear hb8
  go_wp2_with fail
  refine (weights_any bs.length A6 ws c6 _ S6.out (by omega) (by omega) (by omega)).mono ?_
  rintro e w9 ⟨vx, xs, rfl, lx, x9, x1, hox, hb9⟩
  have z9 : w.heap.size ≤ w9.heap.size := Nat.le_trans z8 hb9.size
  have B9 := hide (B8.out.trans (hb9.mono z8)); clear B8
  replace S1 := hide (S1.out.below hb9)
  replace S2 := hide (S2.out.below hb9)
  replace S3 := hide (S3.out.below hb9)
  replace S4 := hide (S4.out.below hb9)
  replace S5 := hide (S5.out.below hb9)
  replace S6 := hide (S6.out.below hb9)
  replace SA := hide (SA.out.below hb9)
  replace SB := hide (SB.out.below hb9)
  replace SS := hide (SS.out.below hb9)
  replace ST := hide (ST.out.below hb9)
  obtain ⟨Ax, cx, rfl, _, _, _⟩ := own_val hox
  have SX := hide (show SlN w9 Ax xs from own_sl hox)
  have hlx : xs.length ≤ 5 := by omega
  clear hox x9 lx
  clear hb9
  go_wp2_with fail
  refine (radius16_any p _ HP.out).mono ?_
  rintro e w' ⟨rfl, rfl⟩
  go_wp2_with fail
  refine (radius16_any q _ HQ.out).mono ?_
  rintro e w' ⟨rfl, rfl⟩
  go_wp2_with fail
  refine (excess16 s xs as_ bs (radOf 4 1 30000 200000 1048577 p) (radOf 4 1 30000 200000 1048577 q) As Ax Aa Ab cs cx ca cb _ SS.out SX.out SA.out SB.out (by omega) (by omega) (by omega) (by omega)).mono ?_
  rintro e w10 ⟨rfl, hb10⟩
  have z10 : w.heap.size ≤ w10.heap.size := Nat.le_trans z9 hb10.size
  have B10 := hide (B9.out.trans (hb10.mono z9)); clear B9
  replace S1 := hide (S1.out.below hb10)
  replace S2 := hide (S2.out.below hb10)
  replace S3 := hide (S3.out.below hb10)
  replace S4 := hide (S4.out.below hb10)
  replace S5 := hide (S5.out.below hb10)
  replace S6 := hide (S6.out.below hb10)
  replace SA := hide (SA.out.below hb10)
  replace SB := hide (SB.out.below hb10)
  replace SS := hide (SS.out.below hb10)
  replace ST := hide (ST.out.below hb10)
  replace SX := hide (SX.out.below hb10)
  clear hb10
  go_wp2_with fail
  go_ret
  exact ⟨rfl, B10.out⟩
end Go.Proofs.Ytionbckpgfaneaa
