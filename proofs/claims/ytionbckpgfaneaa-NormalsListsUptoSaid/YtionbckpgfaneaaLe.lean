/- OverlapMonotone, walked. -/
import Derived.Test.YtionbckpgfaneaaXb
import Derived.Test.YtionbckpgfaneaaWp
namespace Go.Proofs.Ytionbckpgfaneaa
open Go.RowKit
set_option maxHeartbeats 1000000
set_option maxRecDepth 100000
theorem ok_made {width : Int} (hw : width ≤ 3000) {l : List IV} (h : ∀ p ∈ l, IVOk width p) : ∀ p ∈ l, p.ok = true := fun p hp => by
  obtain ⟨⟨a1, a2, a3, a4⟩, ⟨b1, b2, b3, b4⟩, c1, c2, c3, c4⟩ := h p hp
  exact ok_yes p (by omega) (by omega) (by omega)
theorem overlapMonotone_walk (l m ws o r : List Int) (p q : Int) (A4 A5 A6 A7 A8 : Option Addr) (c4 c5 c6 c7 c8 : Nat) (w : World)
    (hs4 : SlN w A4 l) (hs5 : SlN w A5 m) (hs6 : SlN w A6 ws) (hs7 : SlN w A7 o) (hs8 : SlN w A8 r) (m4 : l.length ≤ 9223372036854775807) (m5 : m.length ≤ 9223372036854775807) (m6 : ws.length ≤ 1048576) (m7 : o.length ≤ 9223372036854775807) (m8 : r.length ≤ 9223372036854775807) (hp : I64 p) (hq : I64 q) :
    Calls Try.prog 5 #[.slice A4 l.length c4, .slice A5 m.length c5, .slice A6 ws.length c6, .slice A7 o.length c7, .slice A8 r.length c8, .int .i64 p, .int .i64 q] w
      fun e w' => e = .returned (.bool true) ∧ Below w.heap.size w w' := by
  have S4 := hide hs4; clear hs4
  have S5 := hide hs5; clear hs5
  have S6 := hide hs6; clear hs6
  have S7 := hide hs7; clear hs7
  have S8 := hide hs8; clear hs8
  have HP := hide hp; clear hp
  have HQ := hide hq; clear hq
  have B0 := hide (Below.refl w.heap.size w)
  have z0 : w.heap.size ≤ w.heap.size := Nat.le_refl _
  go_enter Try.func5, Try.ntmps5
  go_wp2_with fail
  refine (points_any A4 l c4 3000 _ S4.out m4 (by omega) (by omega)).mono ?_
  rintro e w1 ⟨va, as_, rfl, la1, la5, oka, hoa, hb1⟩
  have z1 : w.heap.size ≤ w1.heap.size := Nat.le_trans z0 hb1.size
  have B1 := hide (B0.out.trans (hb1.mono z0)); clear B0
  replace S4 := hide (S4.out.below hb1)
  replace S5 := hide (S5.out.below hb1)
  replace S6 := hide (S6.out.below hb1)
  replace S7 := hide (S7.out.below hb1)
  replace S8 := hide (S8.out.below hb1)
  obtain ⟨Aa, ca, rfl, _, _, _⟩ := own_val hoa
  have SA := hide (show SlI w1 Aa as_ from own_sl hoa)
  have OKA := hide oka
  clear hoa oka
  clear hb1
  go_wp2_with fail
  refine (points_any A5 m c5 3000 _ S5.out m5 (by omega) (by omega)).mono ?_
  rintro e w2 ⟨vb, bs, rfl, lb1, lb5, okb, hob, hb2⟩
  have z2 : w.heap.size ≤ w2.heap.size := Nat.le_trans z1 hb2.size
  have B2 := hide (B1.out.trans (hb2.mono z1)); clear B1
  replace S4 := hide (S4.out.below hb2)
  replace S5 := hide (S5.out.below hb2)
  replace S6 := hide (S6.out.below hb2)
  replace S7 := hide (S7.out.below hb2)
  replace S8 := hide (S8.out.below hb2)
  replace SA := hide (SA.out.below hb2)
  obtain ⟨Ab, cb, rfl, _, _, _⟩ := own_val hob
  have SB := hide (show SlI w2 Ab bs from own_sl hob)
  have OKB := hide okb
  clear hob okb
  clear hb2
  go_wp2_with fail
  refine (equal_any as_.length bs.length A6 ws c6 _ S6.out m6 (by omega) (by omega) (by omega) (by omega)).mono ?_
  rintro e w3 ⟨vs, vt, s, t, rfl, ls, lt, s9, t9, hst, s1, s2, hos, hot, hb3⟩
  have z3 : w.heap.size ≤ w3.heap.size := Nat.le_trans z2 hb3.size
  have B3 := hide (B2.out.trans (hb3.mono z2)); clear B2
  replace S4 := hide (S4.out.below hb3)
  replace S5 := hide (S5.out.below hb3)
  replace S6 := hide (S6.out.below hb3)
  replace S7 := hide (S7.out.below hb3)
  replace S8 := hide (S8.out.below hb3)
  replace SA := hide (SA.out.below hb3)
  replace SB := hide (SB.out.below hb3)
  have CA := hide (comb_made (by omega) la1 (by omega) OKA.out ls s9 s1 s2)
  have CB := hide (comb_made (by omega) lb1 (by omega) OKB.out lt t9 (by omega) (by omega))
  have HST := hide hst
  rw [← ls] at hos
  rw [← lt] at hot
  obtain ⟨As, cs, rfl, _, _, _⟩ := own_val hos
  obtain ⟨At, ct, rfl, _, _, _⟩ := own_val hot
  have SS := hide (show SlN w3 As s from own_sl hos)
  have ST := hide (show SlN w3 At t from own_sl hot)
  have LS := hide ls; have LT := hide lt
  have S9 := hide s9; have T9 := hide t9
  have hls : s.length ≤ 5 := by omega
  have hlt : t.length ≤ 5 := by omega
  clear hos hot hst ls lt s9 t9
  clear hb3
  go_wp2_with fail
  refine (radius16_any p _ HP.out).mono ?_
  rintro e w' ⟨rfl, rfl⟩
  go_wp2_with fail
  refine (radius16_any q _ HQ.out).mono ?_
  rintro e w' ⟨rfl, rfl⟩
  go_wp2_with fail
  refine (overlaps_any s t as_ bs (rad16 p) (rad16 q) As At Aa Ab cs ct ca cb _ SS.out ST.out SA.out SB.out (by omega) (by omega) (by omega) (by omega)).mono ?_
  rintro e w4 ⟨rfl, hb4⟩
  have z4 : w.heap.size ≤ w4.heap.size := Nat.le_trans z3 hb4.size
  have B4 := hide (B3.out.trans (hb4.mono z3)); clear B3
  replace S4 := hide (S4.out.below hb4)
  replace S5 := hide (S5.out.below hb4)
  replace S6 := hide (S6.out.below hb4)
  replace S7 := hide (S7.out.below hb4)
  replace S8 := hide (S8.out.below hb4)
  replace SA := hide (SA.out.below hb4)
  replace SB := hide (SB.out.below hb4)
  replace SS := hide (SS.out.below hb4)
  replace ST := hide (ST.out.below hb4)
  cases hX : ovl s t as_ bs (rad16 p) (rad16 q)
  clear hb4
  · clear hX
    go_wp2_with fail
    refine (awake16 _).mono ?_
    rintro e w5 ⟨rfl, hb5⟩
    have z5 : w.heap.size ≤ w5.heap.size := Nat.le_trans z4 hb5.size
    have B5 := hide (B4.out.trans (hb5.mono z4)); clear B4
    replace S4 := hide (S4.out.below hb5)
    replace S5 := hide (S5.out.below hb5)
    replace S6 := hide (S6.out.below hb5)
    replace S7 := hide (S7.out.below hb5)
    replace S8 := hide (S8.out.below hb5)
    replace SA := hide (SA.out.below hb5)
    replace SB := hide (SB.out.below hb5)
    replace SS := hide (SS.out.below hb5)
    replace ST := hide (ST.out.below hb5)
    clear hb5
    go_wp2_with fail
    go_ret
    exact ⟨rfl, B5.out⟩
  · have HX := hide hX; clear hX
    go_wp2_with fail
    refine (awake16 _).mono ?_
    rintro e w5 ⟨rfl, hb5⟩
    have z5 : w.heap.size ≤ w5.heap.size := Nat.le_trans z4 hb5.size
    have B5 := hide (B4.out.trans (hb5.mono z4)); clear B4
    replace S4 := hide (S4.out.below hb5)
    replace S5 := hide (S5.out.below hb5)
    replace S6 := hide (S6.out.below hb5)
    replace S7 := hide (S7.out.below hb5)
    replace S8 := hide (S8.out.below hb5)
    replace SA := hide (SA.out.below hb5)
    replace SB := hide (SB.out.below hb5)
    replace SS := hide (SS.out.below hb5)
    replace ST := hide (ST.out.below hb5)
    clear hb5
    go_wp2_with fail
    refine (chosen_any Aa A7 as_ o ca c7 _ SA.out S7.out (by omega) m7 (ok_made (by omega) OKA.out)).mono ?_
    rintro e w6 ⟨vx, xs, rfl, chx, hox, hb6⟩
    have z6 : w.heap.size ≤ w6.heap.size := Nat.le_trans z5 hb6.size
    have B6 := hide (B5.out.trans (hb6.mono z5)); clear B5
    replace S4 := hide (S4.out.below hb6)
    replace S5 := hide (S5.out.below hb6)
    replace S6 := hide (S6.out.below hb6)
    replace S7 := hide (S7.out.below hb6)
    replace S8 := hide (S8.out.below hb6)
    replace SA := hide (SA.out.below hb6)
    replace SB := hide (SB.out.below hb6)
    replace SS := hide (SS.out.below hb6)
    replace ST := hide (ST.out.below hb6)
    have hlx := chx.1
    have hlx8 : xs.length ≤ 5 := by omega
    have hlx1 : 1 ≤ xs.length := by omega
    obtain ⟨Ax, cx, rfl, _, _, _⟩ := own_val hox
    have SX := hide (show SlI w6 Ax xs from own_sl hox)
    have CHX := hide chx
    clear hox chx hlx
    clear hb6
    go_wp2_with fail
    refine (radius16_any p _ HP.out).mono ?_
    rintro e w' ⟨rfl, rfl⟩
    go_wp2_with fail
    refine (chosen_any Ab A8 bs r cb c8 _ SB.out S8.out (by omega) m8 (ok_made (by omega) OKB.out)).mono ?_
    rintro e w7 ⟨vy, ys, rfl, chy, hoy, hb7⟩
    have z7 : w.heap.size ≤ w7.heap.size := Nat.le_trans z6 hb7.size
    have B7 := hide (B6.out.trans (hb7.mono z6)); clear B6
    replace S4 := hide (S4.out.below hb7)
    replace S5 := hide (S5.out.below hb7)
    replace S6 := hide (S6.out.below hb7)
    replace S7 := hide (S7.out.below hb7)
    replace S8 := hide (S8.out.below hb7)
    replace SA := hide (SA.out.below hb7)
    replace SB := hide (SB.out.below hb7)
    replace SS := hide (SS.out.below hb7)
    replace ST := hide (ST.out.below hb7)
    replace SX := hide (SX.out.below hb7)
    have hly := chy.1
    have hly8 : ys.length ≤ 5 := by omega
    have hly1 : 1 ≤ ys.length := by omega
    obtain ⟨Ay, cy, rfl, _, _, _⟩ := own_val hoy
    have SY := hide (show SlI w7 Ay ys from own_sl hoy)
    have CHY := hide chy
    clear hoy chy hly
    clear hb7
    go_wp2_with fail
    refine (radius16_any q _ HQ.out).mono ?_
    rintro e w' ⟨rfl, rfl⟩
    go_wp2_with fail
    refine (overlaps_any s t xs ys (rad16 p) (rad16 q) As At Ax Ay cs ct cx cy _ SS.out ST.out SX.out SY.out (by omega) (by omega) (by omega) (by omega)).mono ?_
    rintro e w8 ⟨rfl, hb8⟩
    have z8 : w.heap.size ≤ w8.heap.size := Nat.le_trans z7 hb8.size
    have B8 := hide (B7.out.trans (hb8.mono z7)); clear B7
    replace S4 := hide (S4.out.below hb8)
    replace S5 := hide (S5.out.below hb8)
    replace S6 := hide (S6.out.below hb8)
    replace S7 := hide (S7.out.below hb8)
    replace S8 := hide (S8.out.below hb8)
    replace SA := hide (SA.out.below hb8)
    replace SB := hide (SB.out.below hb8)
    replace SS := hide (SS.out.below hb8)
    replace ST := hide (ST.out.below hb8)
    replace SX := hide (SX.out.below hb8)
    replace SY := hide (SY.out.below hb8)
    rw [ovl_chosen_yes CA.out CB.out HST.out (rad16_bd p) (rad16_bd q) CHX.out CHY.out (fun x hx => (S9.out x hx).1) (fun x hx => (T9.out x hx).1) HX.out]
    clear hb8
    go_wp2_with fail
    go_ret
    exact ⟨rfl, B8.out⟩
end Go.Proofs.Ytionbckpgfaneaa
