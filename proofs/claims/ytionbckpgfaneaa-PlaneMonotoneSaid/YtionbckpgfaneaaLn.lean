/- PlaneMonotone, walked. -/
import Derived.Test.YtionbckpgfaneaaLm
namespace Go.Proofs.Ytionbckpgfaneaa
open Go.RowKit
set_option maxHeartbeats 1000000
set_option maxRecDepth 100000
theorem planeMonotone_walk (l m o r : List Int) (x y z p q : Int) (A4 A5 A6 A7 : Option Addr) (c4 c5 c6 c7 : Nat) (w : World)
    (hs4 : SlN w A4 l) (hs5 : SlN w A5 m) (hs6 : SlN w A6 o) (hs7 : SlN w A7 r) (m4 : l.length ≤ 9223372036854775807) (m5 : m.length ≤ 9223372036854775807) (m6 : o.length ≤ 9223372036854775807) (m7 : r.length ≤ 9223372036854775807) (hp : I64 p) (hq : I64 q) :
    Calls Try.prog 20 #[.slice A4 l.length c4, .slice A5 m.length c5, .slice A6 o.length c6, .slice A7 r.length c7, .int .i64 x, .int .i64 y, .int .i64 z, .int .i64 p, .int .i64 q] w fun e w' => e = .returned (.bool true) ∧ Below w.heap.size w w' := by
  have S4 := hide hs4; clear hs4
  have S5 := hide hs5; clear hs5
  have S6 := hide hs6; clear hs6
  have S7 := hide hs7; clear hs7
  have HP := hide hp; clear hp
  have HQ := hide hq; clear hq
  have B0 := hide (Below.refl w.heap.size w)
  have z0 : w.heap.size ≤ w.heap.size := Nat.le_refl _
  go_enter Try.func20, Try.ntmps20
  go_wp2_with fail
  refine (points_any A4 l c4 3000 _ S4.out m4 (by omega) (by omega)).mono ?_
  rintro e w1 ⟨va, as_, rfl, la1, la5, oka, hoa, hb1⟩
  have z1 : w.heap.size ≤ w1.heap.size := Nat.le_trans z0 hb1.size
  have B1 := hide (B0.out.trans (hb1.mono z0)); clear B0
  replace S4 := hide (S4.out.below hb1)
  replace S5 := hide (S5.out.below hb1)
  replace S6 := hide (S6.out.below hb1)
  replace S7 := hide (S7.out.below hb1)
  obtain ⟨Aa, ca, rfl, _, _, _⟩ := own_val hoa
  have SA := hide (show SlI w1 Aa as_ from own_sl hoa)
  have OKA := hide oka
  clear hoa oka
  clear hb1
  go_wp2_with fail
  have PA := hide (placed_made (by omega) la1 (by omega) OKA.out)
  refine (points_any A5 m c5 3000 _ S5.out m5 (by omega) (by omega)).mono ?_
  rintro e w2 ⟨vb, bs, rfl, lb1, lb5, okb, hob, hb2⟩
  have z2 : w.heap.size ≤ w2.heap.size := Nat.le_trans z1 hb2.size
  have B2 := hide (B1.out.trans (hb2.mono z1)); clear B1
  replace S4 := hide (S4.out.below hb2)
  replace S5 := hide (S5.out.below hb2)
  replace S6 := hide (S6.out.below hb2)
  replace S7 := hide (S7.out.below hb2)
  replace SA := hide (SA.out.below hb2)
  obtain ⟨Ab, cb, rfl, _, _, _⟩ := own_val hob
  have SB := hide (show SlI w2 Ab bs from own_sl hob)
  have OKB := hide okb
  clear hob okb
  clear hb2
  go_wp2_with fail
  have PB := hide (placed_made (by omega) lb1 (by omega) OKB.out)
  refine (mkNormal_any x y z _).mono ?_
  rintro e w3 ⟨n, hun, rfl, hb3⟩
  have z3 : w.heap.size ≤ w3.heap.size := Nat.le_trans z2 hb3.size
  have B3 := hide (B2.out.trans (hb3.mono z2)); clear B2
  replace S4 := hide (S4.out.below hb3)
  replace S5 := hide (S5.out.below hb3)
  replace S6 := hide (S6.out.below hb3)
  replace S7 := hide (S7.out.below hb3)
  replace SA := hide (SA.out.below hb3)
  replace SB := hide (SB.out.below hb3)
  have HUn := hide hun; clear hun
  unfold V3.v
  clear hb3
  go_wp2_with fail
  obtain ⟨w4, hw4⟩ : ∃ W, W = (w3.alloc (.cells #[.int .i64 n.x, .int .i64 n.y, .int .i64 n.z] 47)) := ⟨_, rfl⟩
  rw [← hw4]
  have hb4 : Below w3.heap.size w3 w4 := by rw [hw4]; go_grown
  have z4 : w.heap.size ≤ w4.heap.size := Nat.le_trans z3 hb4.size
  have B4 := hide (B3.out.trans (hb4.mono z3)); clear B3
  replace S4 := hide (S4.out.below hb4)
  replace S5 := hide (S5.out.below hb4)
  replace S6 := hide (S6.out.below hb4)
  replace S7 := hide (S7.out.below hb4)
  replace SA := hide (SA.out.below hb4)
  replace SB := hide (SB.out.below hb4)
  have KN := hide (show w4.heap[w3.heap.size]? = some (.cells (vcs n) 47 (0, 0)) by rw [hw4]; exact new_at _ _ (by simp))
  have yN : w3.heap.size < w4.heap.size := by rw [hw4]; simp <;> omega
  clear hw4 hb4
  have kN0 := blk_cell KN.out; simp only [vcs] at kN0
  have kN := kN0
  have g0 : Below w4.heap.size w4 w4.drew := (Below.refl _ _).drew
  go_region_held3 (fun w' => (∀ i, w'.cell? ⟨w3.heap.size, i, none⟩ = #[.int .i64 n.x, .int .i64 n.y, .int .i64 n.z][i]?))
    (first | with_reducible exact kN | go_keep)
    (first | (go_at_call 69; (with_reducible refine (radius15_any p _ HP.out).mono ?_); rintro e w' ⟨rfl, rfl⟩) | (go_at_call 69; (with_reducible refine (radius15_any q _ HQ.out).mono ?_); rintro e w' ⟨rfl, rfl⟩) | (go_at_call 70; (with_reducible refine (margin_any n Aa as_ ca (rad15 p) Ab bs cb (rad15 q) _ (SA.out.below g0) (SB.out.below g0) (by omega) (by omega)).mono ?_); rintro e w5 ⟨rfl, b1⟩; have g1 := g0.trans (b1.mono g0.size); have kN := keepe g1 yN kN0; rw [margR_made HUn.out PA.out PB.out (rad15_bd p) (rad15_bd q)]; generalize hU : margX n as_ (rad15 p) bs (rad15 q) = U; have HU := hide hU; clear hU))
  clear kN0 kN b1
  have z5 : w.heap.size ≤ w5.heap.size := Nat.le_trans z4 g1.size
  have B5 := hide (B4.out.trans (g1.mono z4)); clear B4
  replace S4 := hide (S4.out.below g1)
  replace S5 := hide (S5.out.below g1)
  replace S6 := hide (S6.out.below g1)
  replace S7 := hide (S7.out.below g1)
  replace SA := hide (SA.out.below g1)
  replace SB := hide (SB.out.below g1)
  replace KN := hide ((g1.block _ yN).trans KN.out)
  replace yN := Nat.lt_of_lt_of_le yN g1.size
  clear g0 g1
  go_wp2_with fail
  have kN0 := blk_cell KN.out; simp only [vcs] at kN0
  have kN := kN0
  have g0 : Below w5.heap.size w5 w5.drew := (Below.refl _ _).drew
  go_region_held3 (fun w' => (∀ i, w'.cell? ⟨w3.heap.size, i, none⟩ = #[.int .i64 n.x, .int .i64 n.y, .int .i64 n.z][i]?))
    (first | with_reducible exact kN | go_keep)
    (first | (go_at_call 49; (with_reducible refine (chosen_any Aa A6 as_ o ca c6 _ (SA.out.below g0) (S6.out.below g0) (by omega) m6 (ok_made (by omega) OKA.out)).mono ?_); rintro e v1 ⟨vx, xs, rfl, chx, hox, b1⟩; have g1 := g0.trans (b1.mono g0.size); have kN := keepe g1 yN kN0; obtain ⟨Ax, cx, rfl, _, _, _⟩ := own_val hox; have hlx8 : xs.length ≤ 5 := (by have := chx.1; omega); have hlx1 : 1 ≤ xs.length := (by have := chx.1; omega); have SX := hide (show SlI v1 Ax xs from own_sl hox); have CHX := hide chx; have PX := hide (chx.placed PA.out); clear hox chx) | (go_at_call 69; (with_reducible refine (radius15_any p _ HP.out).mono ?_); rintro e w' ⟨rfl, rfl⟩) | (go_at_call 49; (with_reducible refine (chosen_any Ab A7 bs r cb c7 _ (SB.out.below g1) (S7.out.below g1) (by omega) m7 (ok_made (by omega) OKB.out)).mono ?_); rintro e v2 ⟨vy, ys, rfl, chy, hoy, b2⟩; have g2 := g1.trans (b2.mono g1.size); have kN := keepe g2 yN kN0; obtain ⟨Ay, cy, rfl, _, _, _⟩ := own_val hoy; have hly8 : ys.length ≤ 5 := (by have := chy.1; omega); have hly1 : 1 ≤ ys.length := (by have := chy.1; omega); have SY := hide (show SlI v2 Ay ys from own_sl hoy); have CHY := hide chy; have PY := hide (chy.placed PB.out); have SX := hide (SX.out.below b2); clear hoy chy) | (go_at_call 69; (with_reducible refine (radius15_any q _ HQ.out).mono ?_); rintro e w' ⟨rfl, rfl⟩) | (go_at_call 70; (with_reducible refine (margin_any n Ax xs cx (rad15 p) Ay ys cy (rad15 q) _ SX.out SY.out (by omega) (by omega)).mono ?_); rintro e w6 ⟨rfl, b3⟩; have g3 := g2.trans (b3.mono g2.size); have kN := keepe g3 yN kN0; rw [margR_made HUn.out PX.out PY.out (rad15_bd p) (rad15_bd q)]; generalize hV : margX n xs (rad15 p) ys (rad15 q) = V; have HV := hide hV; clear hV))
  clear kN0 kN b1 b2 b3
  have z6 : w.heap.size ≤ w6.heap.size := Nat.le_trans z5 g3.size
  have B6 := hide (B5.out.trans (g3.mono z5)); clear B5
  replace S4 := hide (S4.out.below g3)
  replace S5 := hide (S5.out.below g3)
  replace S6 := hide (S6.out.below g3)
  replace S7 := hide (S7.out.below g3)
  replace SA := hide (SA.out.below g3)
  replace SB := hide (SB.out.below g3)
  replace KN := hide ((g3.block _ yN).trans KN.out)
  replace yN := Nat.lt_of_lt_of_le yN g3.size
  clear g0 g1 g2 g3
  have f1 : U ≤ V := by rw [← HV.out, ← HU.out]; exact marg_chosen n _ _ CHX.out CHY.out (by omega) (by omega)
  go_wp2_with fail
  refine (awake15 _).mono ?_
  rintro e w7 ⟨rfl, hb7⟩
  have z7 : w.heap.size ≤ w7.heap.size := Nat.le_trans z6 hb7.size
  have B7 := hide (B6.out.trans (hb7.mono z6)); clear B6
  replace S4 := hide (S4.out.below hb7)
  replace S5 := hide (S5.out.below hb7)
  replace S6 := hide (S6.out.below hb7)
  replace S7 := hide (S7.out.below hb7)
  replace SA := hide (SA.out.below hb7)
  replace SB := hide (SB.out.below hb7)
  replace KN := hide ((hb7.block _ yN).trans KN.out)
  replace yN := Nat.lt_of_lt_of_le yN hb7.size
  clear hb7
  go_wp2_with fail
  go_ret
  exact ⟨by simp, B7.out⟩
end Go.Proofs.Ytionbckpgfaneaa
