/- PlaneSound, walked. -/
import Derived.Test.YtionbckpgfaneaaVe
import Derived.Test.YtionbckpgfaneaaLm
namespace Go.Proofs.Ytionbckpgfaneaa
open Go.RowKit
set_option maxHeartbeats 1000000
set_option maxRecDepth 100000
theorem w9_tot {s : List Int} (h : ∀ x ∈ s, 0 ≤ x ∧ x ≤ 9) : ∀ x ∈ s, -1099511627776 ≤ x ∧ x ≤ 1099511627776 := fun x hx => by have := h x hx; omega
theorem pl_ok {l : List IV} (h : placedB l = true) : ∀ p ∈ l, p.ok = true := fun p hp => by
  obtain ⟨j, hj, rfl⟩ := List.getElem_of_mem hp
  exact (placed_of h).2.2 j hj
theorem valW_bd {n : V3} {s : List Int} {l : List IV} (hn : inR n = true) (hl : placedB l = true) (hw : ∀ x ∈ s, 0 ≤ x ∧ x ≤ 9) (h : s.length = l.length) (h5 : l.length ≤ 5 := by omega) : -1000000000000000 ≤ valW n s l ∧ valW n s l ≤ 1000000000000000 := by
  have := dotV_bd hn (pl_ok hl) hw l.length (by omega) (Nat.le_refl _)
  rw [List.take_of_length_le (by omega), List.take_of_length_le (Nat.le_refl _)] at this
  unfold valW
  omega
theorem planeSound_walk (l m o r ws vs : List Int) (x y z p q : Int) (A4 A5 A6 A7 A8 A9 : Option Addr) (c4 c5 c6 c7 c8 c9 : Nat) (w : World)
    (hs4 : SlN w A4 l) (hs5 : SlN w A5 m) (hs6 : SlN w A6 o) (hs7 : SlN w A7 r) (hs8 : SlN w A8 ws) (hs9 : SlN w A9 vs) (m4 : l.length ≤ 9223372036854775807) (m5 : m.length ≤ 9223372036854775807) (m6 : o.length ≤ 9223372036854775807) (m7 : r.length ≤ 9223372036854775807) (m8 : ws.length ≤ 9223372036854775807) (m9 : vs.length ≤ 9223372036854775807) (hp : I64 p) (hq : I64 q) :
    Calls Try.prog 23 #[.slice A4 l.length c4, .slice A5 m.length c5, .slice A6 o.length c6, .slice A7 r.length c7, .slice A8 ws.length c8, .slice A9 vs.length c9, .int .i64 x, .int .i64 y, .int .i64 z, .int .i64 p, .int .i64 q] w fun e w' => e = .returned (.bool true) ∧ Below w.heap.size w w' := by
  have S4 := hide hs4; clear hs4
  have S5 := hide hs5; clear hs5
  have S6 := hide hs6; clear hs6
  have S7 := hide hs7; clear hs7
  have S8 := hide hs8; clear hs8
  have S9 := hide hs9; clear hs9
  have HP := hide hp; clear hp
  have HQ := hide hq; clear hq
  have B0 := hide (Below.refl w.heap.size w)
  have z0 : w.heap.size ≤ w.heap.size := Nat.le_refl _
  go_enter Try.func23, Try.ntmps23
  go_wp2_with fail
  refine (points_any A4 l c4 3000 _ S4.out m4 (by omega) (by omega)).mono ?_
  rintro e w1 ⟨va, as_, rfl, la1, la5, oka, hoa, hb1⟩
  have z1 : w.heap.size ≤ w1.heap.size := Nat.le_trans z0 hb1.size
  have B1 := hide (B0.out.trans (hb1.mono z0)); clear B0
  replace S4 := hide (S4.out.below hb1)
  replace S5 := hide (S5.out.below hb1)
  replace S6 := hide (S6.out.below hb1)
  replace S7 := hide (S7.out.below hb1)
  replace S8 := hide (S8.out.below hb1)
  replace S9 := hide (S9.out.below hb1)
  obtain ⟨Aa, ca, rfl, _, _, _⟩ := own_val hoa
  have SA := hide (show SlI w1 Aa as_ from own_sl hoa)
  have OKA := hide oka
  clear hoa oka
  clear hb1
  go_wp2_with fail
  have PA := hide (placed_made (by omega) la1 (by omega) OKA.out)
  refine (points_any A5 m c5 3000 _ S5.out m5 (by omega) (by omega)).mono ?_
  rintro e w2 ⟨vb, bs, rfl, lb1, lb5, okb, hob, hb2⟩
  have z2 : w.heap.size ≤ w2.heap.size := Nat.le_trans z1 hb2.size
  have B2 := hide (B1.out.trans (hb2.mono z1)); clear B1
  replace S4 := hide (S4.out.below hb2)
  replace S5 := hide (S5.out.below hb2)
  replace S6 := hide (S6.out.below hb2)
  replace S7 := hide (S7.out.below hb2)
  replace S8 := hide (S8.out.below hb2)
  replace S9 := hide (S9.out.below hb2)
  replace SA := hide (SA.out.below hb2)
  obtain ⟨Ab, cb, rfl, _, _, _⟩ := own_val hob
  have SB := hide (show SlI w2 Ab bs from own_sl hob)
  have OKB := hide okb
  clear hob okb
  clear hb2
  go_wp2_with fail
  have PB := hide (placed_made (by omega) lb1 (by omega) OKB.out)
  refine (mkNormal_any x y z _).mono ?_
  rintro e w3 ⟨n, hun, rfl, hb3⟩
  have z3 : w.heap.size ≤ w3.heap.size := Nat.le_trans z2 hb3.size
  have B3 := hide (B2.out.trans (hb3.mono z2)); clear B2
  replace S4 := hide (S4.out.below hb3)
  replace S5 := hide (S5.out.below hb3)
  replace S6 := hide (S6.out.below hb3)
  replace S7 := hide (S7.out.below hb3)
  replace S8 := hide (S8.out.below hb3)
  replace S9 := hide (S9.out.below hb3)
  replace SA := hide (SA.out.below hb3)
  replace SB := hide (SB.out.below hb3)
  have HUn := hide hun; clear hun
  unfold V3.v
  clear hb3
  go_wp2_with fail
  obtain ⟨w4, hw4⟩ : ∃ W, W = (w3.alloc (.cells #[.int .i64 n.x, .int .i64 n.y, .int .i64 n.z] 47)) := ⟨_, rfl⟩
  rw [← hw4]
  have hb4 : Below w3.heap.size w3 w4 := by rw [hw4]; go_grown
  have z4 : w.heap.size ≤ w4.heap.size := Nat.le_trans z3 hb4.size
  have B4 := hide (B3.out.trans (hb4.mono z3)); clear B3
  replace S4 := hide (S4.out.below hb4)
  replace S5 := hide (S5.out.below hb4)
  replace S6 := hide (S6.out.below hb4)
  replace S7 := hide (S7.out.below hb4)
  replace S8 := hide (S8.out.below hb4)
  replace S9 := hide (S9.out.below hb4)
  replace SA := hide (SA.out.below hb4)
  replace SB := hide (SB.out.below hb4)
  have KN := hide (show w4.heap[w3.heap.size]? = some (.cells (vcs n) 47 (0, 0)) by rw [hw4]; exact new_at _ _ (by simp))
  have yN : w3.heap.size < w4.heap.size := by rw [hw4]; simp <;> omega
  clear hw4 hb4
  refine (chosen_any Aa A6 as_ o ca c6 _ SA.out S6.out (by omega) m6 (ok_made (by omega) OKA.out)).mono ?_
  rintro e w5 ⟨vc, xs, rfl, chc, hoc, hb5⟩
  have z5 : w.heap.size ≤ w5.heap.size := Nat.le_trans z4 hb5.size
  have B5 := hide (B4.out.trans (hb5.mono z4)); clear B4
  replace S4 := hide (S4.out.below hb5)
  replace S5 := hide (S5.out.below hb5)
  replace S6 := hide (S6.out.below hb5)
  replace S7 := hide (S7.out.below hb5)
  replace S8 := hide (S8.out.below hb5)
  replace S9 := hide (S9.out.below hb5)
  replace SA := hide (SA.out.below hb5)
  replace SB := hide (SB.out.below hb5)
  replace KN := hide ((hb5.block _ yN).trans KN.out)
  replace yN := Nat.lt_of_lt_of_le yN hb5.size
  have hlc := chc.1
  have hlc8 : xs.length ≤ 5 := by omega
  have hlc1 : 1 ≤ xs.length := by omega
  obtain ⟨Ac, cc, rfl, _, _, _⟩ := own_val hoc
  have SC := hide (show SlI w5 Ac xs from own_sl hoc)
  have CHC := hide chc
  clear hoc chc hlc
  clear hb5
  go_wp2_with fail
  have PC := hide (CHC.out.placed PA.out)
  refine (chosen_any Ab A7 bs r cb c7 _ SB.out S7.out (by omega) m7 (ok_made (by omega) OKB.out)).mono ?_
  rintro e w6 ⟨vd, ys, rfl, chd, hod, hb6⟩
  have z6 : w.heap.size ≤ w6.heap.size := Nat.le_trans z5 hb6.size
  have B6 := hide (B5.out.trans (hb6.mono z5)); clear B5
  replace S4 := hide (S4.out.below hb6)
  replace S5 := hide (S5.out.below hb6)
  replace S6 := hide (S6.out.below hb6)
  replace S7 := hide (S7.out.below hb6)
  replace S8 := hide (S8.out.below hb6)
  replace S9 := hide (S9.out.below hb6)
  replace SA := hide (SA.out.below hb6)
  replace SB := hide (SB.out.below hb6)
  replace SC := hide (SC.out.below hb6)
  replace KN := hide ((hb6.block _ yN).trans KN.out)
  replace yN := Nat.lt_of_lt_of_le yN hb6.size
  have hld := chd.1
  have hld8 : ys.length ≤ 5 := by omega
  have hld1 : 1 ≤ ys.length := by omega
  obtain ⟨Ad, cd, rfl, _, _, _⟩ := own_val hod
  have SD := hide (show SlI w6 Ad ys from own_sl hod)
  have CHD := hide chd
  clear hod chd hld
  clear hb6
  go_wp2_with fail
  have PD := hide (CHD.out.placed PB.out)
  refine (weights_any as_.length A8 ws c8 _ S8.out m8 (by omega) (by omega)).mono ?_
  rintro e w7 ⟨vs, s, rfl, lws, w9s, w1s, hos, hb7⟩
  have z7 : w.heap.size ≤ w7.heap.size := Nat.le_trans z6 hb7.size
  have B7 := hide (B6.out.trans (hb7.mono z6)); clear B6
  replace S4 := hide (S4.out.below hb7)
  replace S5 := hide (S5.out.below hb7)
  replace S6 := hide (S6.out.below hb7)
  replace S7 := hide (S7.out.below hb7)
  replace S8 := hide (S8.out.below hb7)
  replace S9 := hide (S9.out.below hb7)
  replace SA := hide (SA.out.below hb7)
  replace SB := hide (SB.out.below hb7)
  replace SC := hide (SC.out.below hb7)
  replace SD := hide (SD.out.below hb7)
  replace KN := hide ((hb7.block _ yN).trans KN.out)
  replace yN := Nat.lt_of_lt_of_le yN hb7.size
  obtain ⟨As, cs, rfl, _, _, _⟩ := own_val hos
  have SS := hide (show SlN w7 As s from own_sl hos)
  have W9S := hide w9s
  have lws5 : s.length ≤ 5 := by omega
  have LWS := hide lws
  clear hos w9s lws
  clear hb7
  go_wp2_with fail
  refine (weights_any bs.length A9 vs c9 _ S9.out m9 (by omega) (by omega)).mono ?_
  rintro e w8 ⟨vt, t, rfl, lwt, w9t, w1t, hot, hb8⟩
  have z8 : w.heap.size ≤ w8.heap.size := Nat.le_trans z7 hb8.size
  have B8 := hide (B7.out.trans (hb8.mono z7)); clear B7
  replace S4 := hide (S4.out.below hb8)
  replace S5 := hide (S5.out.below hb8)
  replace S6 := hide (S6.out.below hb8)
  replace S7 := hide (S7.out.below hb8)
  replace S8 := hide (S8.out.below hb8)
  replace S9 := hide (S9.out.below hb8)
  replace SA := hide (SA.out.below hb8)
  replace SB := hide (SB.out.below hb8)
  replace SC := hide (SC.out.below hb8)
  replace SD := hide (SD.out.below hb8)
  replace SS := hide (SS.out.below hb8)
  replace KN := hide ((hb8.block _ yN).trans KN.out)
  replace yN := Nat.lt_of_lt_of_le yN hb8.size
  obtain ⟨At, ct, rfl, _, _, _⟩ := own_val hot
  have ST := hide (show SlN w8 At t from own_sl hot)
  have W9T := hide w9t
  have lwt5 : t.length ≤ 5 := by omega
  have LWT := hide lwt
  clear hot w9t lwt
  clear hb8
  go_wp2_with fail
  have LC := hide (CHC.out.1); have LD := hide (CHD.out.1)
  have kN0 := blk_cell KN.out; simp only [vcs] at kN0
  have kN := kN0
  have g0 : Below w8.heap.size w8 w8.drew := (Below.refl _ _).drew
  go_region_held3 (fun w' => (∀ i, w'.cell? ⟨w3.heap.size, i, none⟩ = #[.int .i64 n.x, .int .i64 n.y, .int .i64 n.z][i]?))
    (first | with_reducible exact kN | go_keep)
    (first | (go_at_call 69; (with_reducible refine (radius15_any p _ HP.out).mono ?_); rintro e w' ⟨rfl, rfl⟩) | (go_at_call 69; (with_reducible refine (radius15_any q _ HQ.out).mono ?_); rintro e w' ⟨rfl, rfl⟩) | (go_at_call 70; (with_reducible refine (margin_any n Aa as_ ca (rad15 p) Ab bs cb (rad15 q) _ (SA.out.below g0) (SB.out.below g0) (by omega) (by omega)).mono ?_); rintro e w9 ⟨rfl, b1⟩; have g1 := g0.trans (b1.mono g0.size); have kN := keepe g1 yN kN0; rw [margR_made HUn.out PA.out PB.out (rad15_bd p) (rad15_bd q)]; generalize hU : margX n as_ (rad15 p) bs (rad15 q) = U; have HU := hide hU; clear hU))
  clear kN0 kN b1
  have z9 : w.heap.size ≤ w9.heap.size := Nat.le_trans z8 g1.size
  have B9 := hide (B8.out.trans (g1.mono z8)); clear B8
  replace S4 := hide (S4.out.below g1)
  replace S5 := hide (S5.out.below g1)
  replace S6 := hide (S6.out.below g1)
  replace S7 := hide (S7.out.below g1)
  replace S8 := hide (S8.out.below g1)
  replace S9 := hide (S9.out.below g1)
  replace SA := hide (SA.out.below g1)
  replace SB := hide (SB.out.below g1)
  replace SC := hide (SC.out.below g1)
  replace SD := hide (SD.out.below g1)
  replace SS := hide (SS.out.below g1)
  replace ST := hide (ST.out.below g1)
  replace KN := hide ((g1.block _ yN).trans KN.out)
  replace yN := Nat.lt_of_lt_of_le yN g1.size
  clear g0 g1
  have mb1 := marg_bd (margOk_yes HUn.out PA.out PB.out (rad15_bd p) (rad15_bd q)); rw [HU.out] at mb1
  have msound := marg_sound n (rad15 p) (rad15 q) CHC.out CHD.out LWS.out LWT.out (fun x hx => (W9S.out x hx).1) (fun x hx => (W9T.out x hx).1)
  rw [HU.out] at msound
  have v1 := valW_bd (usable_of HUn.out).1 PC.out W9S.out (by have := LC.out; have := LWS.out; omega)
  have v2 := valW_bd (usable_of HUn.out).1 PD.out W9T.out (by have := LD.out; have := LWT.out; omega)
  have ss := sum_le s 9 (fun x hx => (W9S.out x hx).2)
  have st := sum_le t 9 (fun x hx => (W9T.out x hx).2)
  have sb : s.sum ≤ 45 := by omega
  have tb : t.sum ≤ 45 := by omega
  obtain ⟨X, hX⟩ : ∃ X, X = valW n s xs := ⟨_, rfl⟩
  obtain ⟨Y, hY⟩ : ∃ Y, Y = valW n t ys := ⟨_, rfl⟩
  rw [← hX] at msound v1
  rw [← hY] at msound v2
  obtain ⟨S, hS⟩ : ∃ S, S = s.sum := ⟨_, rfl⟩
  obtain ⟨T, hT⟩ : ∃ T, T = t.sum := ⟨_, rfl⟩
  rw [← hS] at msound sb w1s
  rw [← hT] at msound tb w1t
  have mX := mul_bd T X 45 1000000000000000 (by omega) tb (by omega) (by omega)
  have mY := mul_bd S Y 45 1000000000000000 (by omega) sb (by omega) (by omega)
  rw [Int.mul_comm T X] at mX
  rw [Int.mul_comm S Y] at mY
  have nb := normF_bd n
  have rp := rad15_bd p
  have rq := rad15_bd q
  have mN := mul_bd (normF n) (rad15 p + rad15 q) 32768 2097152 nb.1 nb.2 (by omega) (by omega)
  obtain ⟨Z, hZ⟩ : ∃ Z, Z = U + normF n * (rad15 p + rad15 q) := ⟨_, rfl⟩
  have zb : -200000000000000 ≤ Z ∧ Z ≤ 200000000000000 := by omega
  rw [← hZ] at msound
  have mZ := mul_bd S Z 45 200000000000000 (by omega) sb (by omega) (by omega)
  rw [Int.mul_comm S Z] at mZ
  have mZ2 := mul_bd T (Z * S) 45 9000000000000000 (by omega) tb (by omega) (by omega)
  rw [Int.mul_comm T (Z * S)] at mZ2
  have HX := hide hX; have HY := hide hY; have HS := hide hS; have HT := hide hT; have HZ := hide hZ; have MS := hide msound
  clear hX hY hS hT hZ msound ss st
  have q1 := IntWalk.i64_in (X * T) (by omega); have q2 := IntWalk.i64_in (Y * S) (by omega)
  go_wp2_with fail
  have kN0 := blk_cell KN.out; simp only [vcs] at kN0
  have kN := kN0
  have g0 : Below w9.heap.size w9 w9.drew := (Below.refl _ _).drew
  go_region_held3 (fun w' => (∀ i, w'.cell? ⟨w3.heap.size, i, none⟩ = #[.int .i64 n.x, .int .i64 n.y, .int .i64 n.z][i]?))
    (first | with_reducible exact kN | go_keep)
    (first | (go_at_call 72; (with_reducible refine (value_any n Ac As xs s cc cs _ (SC.out.below g0) (SS.out.below g0) (by omega) (by rw [LWS.out, LC.out]) (usable_of HUn.out).1 (pl_ok PC.out) W9S.out).mono ?_); rintro e v1_ ⟨rfl, b1⟩; have g1 := g0.trans (b1.mono g0.size); have kN := keepe g1 yN kN0; rw [← HX.out]) | (go_at_call 53; have _t := g1; (with_reducible refine (total_any At t ct _ (ST.out.below g1) (w9_tot W9T.out) (by omega)).mono ?_); rintro e w' ⟨rfl, rfl⟩; rw [← HT.out]) | (go_at_call 72; (with_reducible refine (value_any n Ad At ys t cd ct _ (SD.out.below g1) (ST.out.below g1) (by omega) (by rw [LWT.out, LD.out]) (usable_of HUn.out).1 (pl_ok PD.out) W9T.out).mono ?_); rintro e w10 ⟨rfl, b2⟩; have g2 := g1.trans (b2.mono g1.size); have kN := keepe g2 yN kN0; rw [← HY.out]) | (go_at_call 53; have _t := g2; (with_reducible refine (total_any As s cs _ (SS.out.below g2) (w9_tot W9S.out) (by omega)).mono ?_); rintro e w' ⟨rfl, rfl⟩; rw [← HS.out]))
  clear kN0 kN b1 b2 q1 q2
  have z10 : w.heap.size ≤ w10.heap.size := Nat.le_trans z9 g2.size
  have B10 := hide (B9.out.trans (g2.mono z9)); clear B9
  replace S4 := hide (S4.out.below g2)
  replace S5 := hide (S5.out.below g2)
  replace S6 := hide (S6.out.below g2)
  replace S7 := hide (S7.out.below g2)
  replace S8 := hide (S8.out.below g2)
  replace S9 := hide (S9.out.below g2)
  replace SA := hide (SA.out.below g2)
  replace SB := hide (SB.out.below g2)
  replace SC := hide (SC.out.below g2)
  replace SD := hide (SD.out.below g2)
  replace SS := hide (SS.out.below g2)
  replace ST := hide (ST.out.below g2)
  replace KN := hide ((g2.block _ yN).trans KN.out)
  replace yN := Nat.lt_of_lt_of_le yN g2.size
  clear g0 g1 g2
  go_wp2_with fail
  refine (awake15 _).mono ?_
  rintro e w11 ⟨rfl, hb11⟩
  have z11 : w.heap.size ≤ w11.heap.size := Nat.le_trans z10 hb11.size
  have B11 := hide (B10.out.trans (hb11.mono z10)); clear B10
  replace S4 := hide (S4.out.below hb11)
  replace S5 := hide (S5.out.below hb11)
  replace S6 := hide (S6.out.below hb11)
  replace S7 := hide (S7.out.below hb11)
  replace S8 := hide (S8.out.below hb11)
  replace S9 := hide (S9.out.below hb11)
  replace SA := hide (SA.out.below hb11)
  replace SB := hide (SB.out.below hb11)
  replace SC := hide (SC.out.below hb11)
  replace SD := hide (SD.out.below hb11)
  replace SS := hide (SS.out.below hb11)
  replace ST := hide (ST.out.below hb11)
  replace KN := hide ((hb11.block _ yN).trans KN.out)
  replace yN := Nat.lt_of_lt_of_le yN hb11.size
  clear hb11
  have cN := blk_cell KN.out; simp only [vcs] at cN
  go_wp2_with fail
  clear cN
  refine (norm_ref n _).mono ?_
  rintro e w12 ⟨rfl, hb12⟩
  have z12 : w.heap.size ≤ w12.heap.size := Nat.le_trans z11 hb12.size
  have B12 := hide (B11.out.trans (hb12.mono z11)); clear B11
  replace S4 := hide (S4.out.below hb12)
  replace S5 := hide (S5.out.below hb12)
  replace S6 := hide (S6.out.below hb12)
  replace S7 := hide (S7.out.below hb12)
  replace S8 := hide (S8.out.below hb12)
  replace S9 := hide (S9.out.below hb12)
  replace SA := hide (SA.out.below hb12)
  replace SB := hide (SB.out.below hb12)
  replace SC := hide (SC.out.below hb12)
  replace SD := hide (SD.out.below hb12)
  replace SS := hide (SS.out.below hb12)
  replace ST := hide (ST.out.below hb12)
  replace KN := hide ((hb12.block _ yN).trans KN.out)
  replace yN := Nat.lt_of_lt_of_le yN hb12.size
  clear hb12
  go_wp2_with fail
  refine (radius15_any p _ HP.out).mono ?_
  rintro e w' ⟨rfl, rfl⟩
  go_wp2_with fail
  refine (radius15_any q _ HQ.out).mono ?_
  rintro e w' ⟨rfl, rfl⟩
  unfold rad15 at *
  go_wp2_with fail
  rw [← HZ.out]
  refine (total_any As s cs _ SS.out (w9_tot W9S.out) (by omega)).mono ?_
  rintro e w' ⟨rfl, rfl⟩
  rw [← HS.out]
  go_wp2_with fail
  refine (total_any At t ct _ ST.out (w9_tot W9T.out) (by omega)).mono ?_
  rintro e w' ⟨rfl, rfl⟩
  rw [← HT.out]
  have ms := MS.out
  go_wp2_with fail
  go_ret
  exact ⟨by simp, B12.out⟩
end Go.Proofs.Ytionbckpgfaneaa
