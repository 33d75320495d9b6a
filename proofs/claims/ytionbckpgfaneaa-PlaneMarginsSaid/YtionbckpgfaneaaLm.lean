/- PlaneFlips, walked. -/
import Derived.Test.YtionbckpgfaneaaVd
import Derived.Test.YtionbckpgfaneaaWx
import Derived.Test.YtionbckpgfaneaaLe
namespace Go.Proofs.Ytionbckpgfaneaa
open Go.RowKit
set_option maxHeartbeats 1000000
set_option maxRecDepth 100000
abbrev rad15 (p : Int) : Int := radOf 4 1 9000 70000 1048577 p
theorem rad15_bd (p : Int) : 0 ≤ rad15 p ∧ rad15 p ≤ 1048576 := by
  have := radOf_bd 4 1 9000 70000 1048577 p (by omega) (by omega) (by omega) (by omega) (by omega) (by omega) (by omega)
  unfold rad15
  omega
theorem margR_made {n : V3} {a b : List IV} {ra rb : Int} (h1 : usable n = true) (h2 : placedB a = true) (h3 : placedB b = true) (h4 : 0 ≤ ra ∧ ra ≤ 1048576) (h5 : 0 ≤ rb ∧ rb ≤ 1048576) : margR n a ra b rb = .tuple #[.int .i64 (margX n a ra b rb), .bool true] := margR_yes (margOk_yes h1 h2 h3 h4 h5)
theorem sepB_made {n : V3} {a b : List IV} {ra rb : Int} (h1 : usable n = true) (h2 : placedB a = true) (h3 : placedB b = true) (h4 : 0 ≤ ra ∧ ra ≤ 1048576) (h5 : 0 ≤ rb ∧ rb ≤ 1048576) : sepB n a ra b rb = decide (0 < margX n a ra b rb) := sepB_yes (margOk_yes h1 h2 h3 h4 h5)
theorem planeFlips_walk (l m : List Int) (x y z p q : Int) (A4 A5 : Option Addr) (c4 c5 : Nat) (w : World)
    (hs4 : SlN w A4 l) (hs5 : SlN w A5 m) (m4 : l.length ≤ 9223372036854775807) (m5 : m.length ≤ 9223372036854775807) (hp : I64 p) (hq : I64 q) :
    Calls Try.prog 19 #[.slice A4 l.length c4, .slice A5 m.length c5, .int .i64 x, .int .i64 y, .int .i64 z, .int .i64 p, .int .i64 q] w fun e w' => e = .returned (.bool true) ∧ Below w.heap.size w w' := by
  have S4 := hide hs4; clear hs4
  have S5 := hide hs5; clear hs5
  have HP := hide hp; clear hp
  have HQ := hide hq; clear hq
  have B0 := hide (Below.refl w.heap.size w)
  have z0 : w.heap.size ≤ w.heap.size := Nat.le_refl _
  go_enter Try.func19, Try.ntmps19
  go_wp2_with fail
  refine (points_any A4 l c4 3000 _ S4.out m4 (by omega) (by omega)).mono ?_
  rintro e w1 ⟨va, as_, rfl, la1, la5, oka, hoa, hb1⟩
  have z1 : w.heap.size ≤ w1.heap.size := Nat.le_trans z0 hb1.size
  have B1 := hide (B0.out.trans (hb1.mono z0)); clear B0
  replace S4 := hide (S4.out.below hb1)
  replace S5 := hide (S5.out.below hb1)
  obtain ⟨Aa, ca, rfl, _, _, _⟩ := own_val hoa
  have SA := hide (show SlI w1 Aa as_ from own_sl hoa)
  have OKA := hide oka
  clear hoa oka
  clear hb1
  go_wp2_with fail
  have PA := hide (placed_made (by omega) la1 (by omega) OKA.out)
  refine (points_any A5 m c5 3000 _ S5.out m5 (by omega) (by omega)).mono ?_
  rintro e w2 ⟨vb, bs, rfl, lb1, lb5, okb, hob, hb2⟩
  have z2 : w.heap.size ≤ w2.heap.size := Nat.le_trans z1 hb2.size
  have B2 := hide (B1.out.trans (hb2.mono z1)); clear B1
  replace S4 := hide (S4.out.below hb2)
  replace S5 := hide (S5.out.below hb2)
  replace SA := hide (SA.out.below hb2)
  obtain ⟨Ab, cb, rfl, _, _, _⟩ := own_val hob
  have SB := hide (show SlI w2 Ab bs from own_sl hob)
  have OKB := hide okb
  clear hob okb
  clear hb2
  go_wp2_with fail
  have PB := hide (placed_made (by omega) lb1 (by omega) OKB.out)
  refine (mkNormal_any x y z _).mono ?_
  rintro e w3 ⟨n, hun, rfl, hb3⟩
  have z3 : w.heap.size ≤ w3.heap.size := Nat.le_trans z2 hb3.size
  have B3 := hide (B2.out.trans (hb3.mono z2)); clear B2
  replace S4 := hide (S4.out.below hb3)
  replace S5 := hide (S5.out.below hb3)
  replace SA := hide (SA.out.below hb3)
  replace SB := hide (SB.out.below hb3)
  have HUn := hide hun; clear hun
  unfold V3.v
  clear hb3
  go_wp2_with fail
  obtain ⟨w4, hw4⟩ : ∃ W, W = (w3.alloc (.cells #[.int .i64 n.x, .int .i64 n.y, .int .i64 n.z] 47)) := ⟨_, rfl⟩
  rw [← hw4]
  have hb4 : Below w3.heap.size w3 w4 := by rw [hw4]; go_grown
  have z4 : w.heap.size ≤ w4.heap.size := Nat.le_trans z3 hb4.size
  have B4 := hide (B3.out.trans (hb4.mono z3)); clear B3
  replace S4 := hide (S4.out.below hb4)
  replace S5 := hide (S5.out.below hb4)
  replace SA := hide (SA.out.below hb4)
  replace SB := hide (SB.out.below hb4)
  have KN := hide (show w4.heap[w3.heap.size]? = some (.cells (vcs n) 47 (0, 0)) by rw [hw4]; exact new_at _ _ (by simp))
  have yN : w3.heap.size < w4.heap.size := by rw [hw4]; simp <;> omega
  clear hw4 hb4
  have kN0 := blk_cell KN.out; simp only [vcs] at kN0
  have kN := kN0
  have g0 : Below w4.heap.size w4 w4.drew := (Below.refl _ _).drew
  go_region_held3 (fun w' => (∀ i, w'.cell? ⟨w3.heap.size, i, none⟩ = #[.int .i64 n.x, .int .i64 n.y, .int .i64 n.z][i]?))
    (first | with_reducible exact kN | go_keep)
    (first | (go_at_call 69; (with_reducible refine (radius15_any p _ HP.out).mono ?_); rintro e w' ⟨rfl, rfl⟩) | (go_at_call 69; (with_reducible refine (radius15_any q _ HQ.out).mono ?_); rintro e w' ⟨rfl, rfl⟩) | (go_at_call 70; (with_reducible refine (margin_any n Aa as_ ca (rad15 p) Ab bs cb (rad15 q) _ (SA.out.below g0) (SB.out.below g0) (by omega) (by omega)).mono ?_); rintro e w5 ⟨rfl, b1⟩; have g1 := g0.trans (b1.mono g0.size); have kN := keepe g1 yN kN0; rw [margR_made HUn.out PA.out PB.out (rad15_bd p) (rad15_bd q)]; generalize hU : margX n as_ (rad15 p) bs (rad15 q) = U; have HU := hide hU; clear hU))
  clear kN0 kN b1
  have z5 : w.heap.size ≤ w5.heap.size := Nat.le_trans z4 g1.size
  have B5 := hide (B4.out.trans (g1.mono z4)); clear B4
  replace S4 := hide (S4.out.below g1)
  replace S5 := hide (S5.out.below g1)
  replace SA := hide (SA.out.below g1)
  replace SB := hide (SB.out.below g1)
  replace KN := hide ((g1.block _ yN).trans KN.out)
  replace yN := Nat.lt_of_lt_of_le yN g1.size
  clear g0 g1
  have mb1 := marg_bd (margOk_yes HUn.out PA.out PB.out (rad15_bd p) (rad15_bd q)); rw [HU.out] at mb1
  obtain ⟨⟨a1, a2⟩, ⟨b1, b2⟩, c1, c2⟩ := inR_of (usable_of HUn.out).1
  go_wp2_with fail
  have q1 := IntWalk.i64_in (-n.x) (by omega); have q2 := IntWalk.i64_in (-n.y) (by omega); have q3 := IntWalk.i64_in (-n.z) (by omega)
  have kN0 := blk_cell KN.out; simp only [vcs] at kN0
  have kN := kN0
  have g0 : Below w5.heap.size w5 w5.drew := (Below.refl _ _).drew
  go_region_held3 (fun w' => (∀ i, w'.cell? ⟨w3.heap.size, i, none⟩ = #[.int .i64 n.x, .int .i64 n.y, .int .i64 n.z][i]?))
    (first | with_reducible exact kN | go_keep)
    (first | (go_at_call 69; (with_reducible refine (radius15_any q _ HQ.out).mono ?_); rintro e w' ⟨rfl, rfl⟩) | (go_at_call 69; (with_reducible refine (radius15_any p _ HP.out).mono ?_); rintro e w' ⟨rfl, rfl⟩) | (go_at_call 70; (with_reducible refine (margin_any ⟨-n.x, -n.y, -n.z⟩ Ab bs cb (rad15 q) Aa as_ ca (rad15 p) _ (SB.out.below g0) (SA.out.below g0) (by omega) (by omega)).mono ?_); rintro e w6 ⟨rfl, b1⟩; have g1 := g0.trans (b1.mono g0.size); have kN := keepe g1 yN kN0; rw [margR_made (show usable ⟨-n.x, -n.y, -n.z⟩ = true from usable_neg HUn.out) PB.out PA.out (rad15_bd q) (rad15_bd p)]; generalize hV : margX ⟨-n.x, -n.y, -n.z⟩ bs (rad15 q) as_ (rad15 p) = V; have HV := hide hV; clear hV))
  clear kN0 kN b1
  have z6 : w.heap.size ≤ w6.heap.size := Nat.le_trans z5 g1.size
  have B6 := hide (B5.out.trans (g1.mono z5)); clear B5
  replace S4 := hide (S4.out.below g1)
  replace S5 := hide (S5.out.below g1)
  replace SA := hide (SA.out.below g1)
  replace SB := hide (SB.out.below g1)
  replace KN := hide ((g1.block _ yN).trans KN.out)
  replace yN := Nat.lt_of_lt_of_le yN g1.size
  clear g0 g1
  clear q1 q2 q3
  have f1 : V = U := by rw [← HV.out, ← HU.out]; exact marg_flip n as_ _ bs _
  subst f1
  go_wp2_with fail
  refine (awake15 _).mono ?_
  rintro e w7 ⟨rfl, hb7⟩
  have z7 : w.heap.size ≤ w7.heap.size := Nat.le_trans z6 hb7.size
  have B7 := hide (B6.out.trans (hb7.mono z6)); clear B6
  replace S4 := hide (S4.out.below hb7)
  replace S5 := hide (S5.out.below hb7)
  replace SA := hide (SA.out.below hb7)
  replace SB := hide (SB.out.below hb7)
  replace KN := hide ((hb7.block _ yN).trans KN.out)
  replace yN := Nat.lt_of_lt_of_le yN hb7.size
  clear hb7
  go_wp2_with fail
  go_ret
  exact ⟨by simp, B7.out⟩
end Go.Proofs.Ytionbckpgfaneaa
