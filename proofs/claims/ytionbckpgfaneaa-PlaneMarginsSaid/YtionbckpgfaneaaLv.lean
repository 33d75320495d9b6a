/- PlaneMargins, walked. -/
import Derived.Test.YtionbckpgfaneaaLm
namespace Go.Proofs.Ytionbckpgfaneaa
open Go.RowKit
set_option maxHeartbeats 1000000
set_option maxRecDepth 100000
theorem planeMargins_walk (v : V3) (ra rb : Int) (raw : List IV) (l m : List Int) (x y z p q : Int) (A3 A4 A5 : Option Addr) (c3 c4 c5 : Nat) (w : World) (hs3 : SlI w A3 raw) (m3 : raw.length ≤ 9223372036854775807)
    (hs4 : SlN w A4 l) (hs5 : SlN w A5 m) (m4 : l.length ≤ 9223372036854775807) (m5 : m.length ≤ 9223372036854775807) (hp : I64 p) (hq : I64 q) :
    Calls Try.prog 18 #[v.v, .int .i64 ra, .int .i64 rb, .slice A3 raw.length c3, .slice A4 l.length c4, .slice A5 m.length c5, .int .i64 x, .int .i64 y, .int .i64 z, .int .i64 p, .int .i64 q] w fun e w' => e = .returned (.bool true) ∧ Below w.heap.size w w' := by
  unfold V3.v
  have S3 := hide hs3; clear hs3
  have S4 := hide hs4; clear hs4
  have S5 := hide hs5; clear hs5
  have HP := hide hp; clear hp
  have HQ := hide hq; clear hq
  have B0 := hide (Below.refl w.heap.size w)
  have z0 : w.heap.size ≤ w.heap.size := Nat.le_refl _
  go_enter Try.func18, Try.ntmps18
  go_wp2_with fail
  obtain ⟨w1, hw1⟩ : ∃ W, W = (w.alloc (.cells #[.int .i64 v.x, .int .i64 v.y, .int .i64 v.z] 47)) := ⟨_, rfl⟩
  rw [← hw1]
  have hb1 : Below w.heap.size w w1 := by rw [hw1]; go_grown
  have z1 : w.heap.size ≤ w1.heap.size := Nat.le_trans z0 hb1.size
  have B1 := hide (B0.out.trans (hb1.mono z0)); clear B0
  replace S3 := hide (S3.out.below hb1)
  replace S4 := hide (S4.out.below hb1)
  replace S5 := hide (S5.out.below hb1)
  have KT := hide (show w1.heap[w.heap.size]? = some (.cells (vcs v) 47 (0, 0)) by rw [hw1]; exact new_at _ _ (by simp))
  have yT : w.heap.size < w1.heap.size := by rw [hw1]; simp <;> omega
  clear hw1 hb1
  refine (points_any A4 l c4 3000 _ S4.out m4 (by omega) (by omega)).mono ?_
  rintro e w2 ⟨va, as_, rfl, la1, la5, oka, hoa, hb2⟩
  have z2 : w.heap.size ≤ w2.heap.size := Nat.le_trans z1 hb2.size
  have B2 := hide (B1.out.trans (hb2.mono z1)); clear B1
  replace S3 := hide (S3.out.below hb2)
  replace S4 := hide (S4.out.below hb2)
  replace S5 := hide (S5.out.below hb2)
  replace KT := hide ((hb2.block _ yT).trans KT.out)
  replace yT := Nat.lt_of_lt_of_le yT hb2.size
  obtain ⟨Aa, ca, rfl, _, _, _⟩ := own_val hoa
  have SA := hide (show SlI w2 Aa as_ from own_sl hoa)
  have OKA := hide oka
  clear hoa oka
  clear hb2
  go_wp2_with fail
  refine (points_any A5 m c5 3000 _ S5.out m5 (by omega) (by omega)).mono ?_
  rintro e w3 ⟨vb, bs, rfl, lb1, lb5, okb, hob, hb3⟩
  have z3 : w.heap.size ≤ w3.heap.size := Nat.le_trans z2 hb3.size
  have B3 := hide (B2.out.trans (hb3.mono z2)); clear B2
  replace S3 := hide (S3.out.below hb3)
  replace S4 := hide (S4.out.below hb3)
  replace S5 := hide (S5.out.below hb3)
  replace SA := hide (SA.out.below hb3)
  replace KT := hide ((hb3.block _ yT).trans KT.out)
  replace yT := Nat.lt_of_lt_of_le yT hb3.size
  obtain ⟨Ab, cb, rfl, _, _, _⟩ := own_val hob
  have SB := hide (show SlI w3 Ab bs from own_sl hob)
  have OKB := hide okb
  clear hob okb
  clear hb3
  go_wp2_with fail
  refine (mkNormal_any x y z _).mono ?_
  rintro e w4 ⟨n, hun, rfl, hb4⟩
  have z4 : w.heap.size ≤ w4.heap.size := Nat.le_trans z3 hb4.size
  have B4 := hide (B3.out.trans (hb4.mono z3)); clear B3
  replace S3 := hide (S3.out.below hb4)
  replace S4 := hide (S4.out.below hb4)
  replace S5 := hide (S5.out.below hb4)
  replace SA := hide (SA.out.below hb4)
  replace SB := hide (SB.out.below hb4)
  replace KT := hide ((hb4.block _ yT).trans KT.out)
  replace yT := Nat.lt_of_lt_of_le yT hb4.size
  have HUn := hide hun; clear hun
  unfold V3.v
  clear hb4
  go_wp2_with fail
  obtain ⟨w5, hw5⟩ : ∃ W, W = (w4.alloc (.cells #[.int .i64 n.x, .int .i64 n.y, .int .i64 n.z] 47)) := ⟨_, rfl⟩
  rw [← hw5]
  have hb5 : Below w4.heap.size w4 w5 := by rw [hw5]; go_grown
  have z5 : w.heap.size ≤ w5.heap.size := Nat.le_trans z4 hb5.size
  have B5 := hide (B4.out.trans (hb5.mono z4)); clear B4
  replace S3 := hide (S3.out.below hb5)
  replace S4 := hide (S4.out.below hb5)
  replace S5 := hide (S5.out.below hb5)
  replace SA := hide (SA.out.below hb5)
  replace SB := hide (SB.out.below hb5)
  replace KT := hide ((hb5.block _ yT).trans KT.out)
  replace yT := Nat.lt_of_lt_of_le yT hb5.size
  have KN := hide (show w5.heap[w4.heap.size]? = some (.cells (vcs n) 47 (0, 0)) by rw [hw5]; exact new_at _ _ (by simp))
  have yN : w4.heap.size < w5.heap.size := by rw [hw5]; simp <;> omega
  clear hw5 hb5
  have rp := rad15_bd p
  have rq := rad15_bd q
  unfold rad15 at rp rq
  have q1 := IntWalk.i64_in (radOf 4 1 9000 70000 1048577 p - 1) (by omega)
  have q2 := IntWalk.i64_in (2 * radOf 4 1 9000 70000 1048577 q) (by omega)
  have kT0 := blk_cell KT.out; simp only [vcs] at kT0
  have kT := kT0
  have kN0 := blk_cell KN.out; simp only [vcs] at kN0
  have kN := kN0
  have g0 : Below w5.heap.size w5 w5.drew := (Below.refl _ _).drew
  go_region_held3 (fun w' => (∀ i, w'.cell? ⟨w.heap.size, i, none⟩ = #[.int .i64 v.x, .int .i64 v.y, .int .i64 v.z][i]?) ∧ (∀ i, w'.cell? ⟨w4.heap.size, i, none⟩ = #[.int .i64 n.x, .int .i64 n.y, .int .i64 n.z][i]?))
    (first | with_reducible exact ⟨kT, kN⟩ | go_keep)
    (first | (go_at_call 67; (with_reducible refine (awake15 _).mono ?_); rintro e v1 ⟨rfl, b1⟩; have g1 := g0.trans (b1.mono g0.size); have kT := keepe g1 yT kT0; have kN := keepe g1 yN kN0) | (go_at_call 69; (with_reducible refine (radius15_any p _ HP.out).mono ?_); rintro e w' ⟨rfl, rfl⟩) | (go_at_call 69; (with_reducible refine (radius15_any q _ HQ.out).mono ?_); rintro e w' ⟨rfl, rfl⟩) | (go_at_call 68; (with_reducible refine (margins_any v A3 raw c3 ra Aa as_ ca rb _ (S3.out.below g1) (SA.out.below g1) (by omega) (by omega)).mono ?_); rintro e v2 ⟨rfl, b2⟩; have g2 := g1.trans (b2.mono g1.size); have kT := keepe g2 yT kT0; have kN := keepe g2 yN kN0) | (go_at_call 68; (with_reducible refine (margins_any n Aa as_ ca (rad15 p) Ab bs cb (rad15 q) _ (SA.out.below g2) (SB.out.below g2) (by omega) (by omega)).mono ?_); rintro e v3 ⟨rfl, b3⟩; have g3 := g2.trans (b3.mono g2.size); have kT := keepe g3 yT kT0; have kN := keepe g3 yN kN0) | (go_at_call 68; (with_reducible refine (margins_any n Aa as_ ca ra Ab bs cb rb _ (SA.out.below g3) (SB.out.below g3) (by omega) (by omega)).mono ?_); rintro e v4 ⟨rfl, b4⟩; have g4 := g3.trans (b4.mono g3.size); have kT := keepe g4 yT kT0; have kN := keepe g4 yN kN0) | (go_at_call 68; (with_reducible refine (margins_any v Aa as_ ca (rad15 p) A3 raw c3 (rad15 q) _ (SA.out.below g4) (S3.out.below g4) (by omega) (by omega)).mono ?_); rintro e v5 ⟨rfl, b5⟩; have g5 := g4.trans (b5.mono g4.size); have kT := keepe g5 yT kT0; have kN := keepe g5 yN kN0) | (go_at_call 68; (with_reducible refine (margins_any n Aa as_ ca (radOf 4 1 9000 70000 1048577 p - 1) Ab bs cb (2 * radOf 4 1 9000 70000 1048577 q) _ (SA.out.below g5) (SB.out.below g5) (by omega) (by omega)).mono ?_); rintro e w6 ⟨rfl, b6⟩; have g6 := g5.trans (b6.mono g5.size); have kT := keepe g6 yT kT0; have kN := keepe g6 yN kN0))
  clear kT0 kT kN0 kN b1 b2 b3 b4 b5 b6
  have z6 : w.heap.size ≤ w6.heap.size := Nat.le_trans z5 g6.size
  have B6 := hide (B5.out.trans (g6.mono z5)); clear B5
  replace S3 := hide (S3.out.below g6)
  replace S4 := hide (S4.out.below g6)
  replace S5 := hide (S5.out.below g6)
  replace SA := hide (SA.out.below g6)
  replace SB := hide (SB.out.below g6)
  replace KT := hide ((g6.block _ yT).trans KT.out)
  replace yT := Nat.lt_of_lt_of_le yT g6.size
  replace KN := hide ((g6.block _ yN).trans KN.out)
  replace yN := Nat.lt_of_lt_of_le yN g6.size
  clear g0 g1 g2 g3 g4 g5 g6
  clear q1 q2
  go_wp2_with fail
  go_ret
  exact ⟨rfl, B6.out⟩
end Go.Proofs.Ytionbckpgfaneaa
