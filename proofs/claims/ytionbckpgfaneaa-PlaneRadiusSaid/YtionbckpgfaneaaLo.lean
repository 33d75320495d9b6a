/- PlaneRadius, walked. -/
import Derived.Test.YtionbckpgfaneaaLm
namespace Go.Proofs.Ytionbckpgfaneaa
open Go.RowKit
set_option maxHeartbeats 1000000
set_option maxRecDepth 100000
theorem planeRadius_walk (l m : List Int) (x y z p q more : Int) (A4 A5 : Option Addr) (c4 c5 : Nat) (w : World)
    (hs4 : SlN w A4 l) (hs5 : SlN w A5 m) (m4 : l.length ≤ 9223372036854775807) (m5 : m.length ≤ 9223372036854775807) (hp : I64 p) (hq : I64 q) :
    Calls Try.prog 22 #[.slice A4 l.length c4, .slice A5 m.length c5, .int .i64 x, .int .i64 y, .int .i64 z, .int .i64 p, .int .i64 q, .int .i64 more] w fun e w' => e = .returned (.bool true) ∧ Below w.heap.size w w' := by
  have S4 := hide hs4; clear hs4
  have S5 := hide hs5; clear hs5
  have HP := hide hp; clear hp
  have HQ := hide hq; clear hq
  have B0 := hide (Below.refl w.heap.size w)
  have z0 : w.heap.size ≤ w.heap.size := Nat.le_refl _
  go_enter Try.func22, Try.ntmps22
  go_wp2_with fail
  refine (points_any A4 l c4 3000 _ S4.out m4 (by omega) (by omega)).mono ?_
  rintro e w1 ⟨va, as_, rfl, la1, la5, oka, hoa, hb1⟩
  have z1 : w.heap.size ≤ w1.heap.size := Nat.le_trans z0 hb1.size
  have B1 := hide (B0.out.trans (hb1.mono z0)); clear B0
  replace S4 := hide (S4.out.below hb1)
  replace S5 := hide (S5.out.below hb1)
  obtain ⟨Aa, ca, rfl, _, _, _⟩ := own_val hoa
  have SA := hide (show SlI w1 Aa as_ from own_sl hoa)
  have OKA := hide oka
  clear hoa oka
  clear hb1
  go_wp2_with fail
  have PA := hide (placed_made (by omega) la1 (by omega) OKA.out)
  refine (points_any A5 m c5 3000 _ S5.out m5 (by omega) (by omega)).mono ?_
  rintro e w2 ⟨vb, bs, rfl, lb1, lb5, okb, hob, hb2⟩
  have z2 : w.heap.size ≤ w2.heap.size := Nat.le_trans z1 hb2.size
  have B2 := hide (B1.out.trans (hb2.mono z1)); clear B1
  replace S4 := hide (S4.out.below hb2)
  replace S5 := hide (S5.out.below hb2)
  replace SA := hide (SA.out.below hb2)
  obtain ⟨Ab, cb, rfl, _, _, _⟩ := own_val hob
  have SB := hide (show SlI w2 Ab bs from own_sl hob)
  have OKB := hide okb
  clear hob okb
  clear hb2
  go_wp2_with fail
  have PB := hide (placed_made (by omega) lb1 (by omega) OKB.out)
  refine (mkNormal_any x y z _).mono ?_
  rintro e w3 ⟨n, hun, rfl, hb3⟩
  have z3 : w.heap.size ≤ w3.heap.size := Nat.le_trans z2 hb3.size
  have B3 := hide (B2.out.trans (hb3.mono z2)); clear B2
  replace S4 := hide (S4.out.below hb3)
  replace S5 := hide (S5.out.below hb3)
  replace SA := hide (SA.out.below hb3)
  replace SB := hide (SB.out.below hb3)
  have HUn := hide hun; clear hun
  unfold V3.v
  clear hb3
  go_wp2_with fail
  obtain ⟨w4, hw4⟩ : ∃ W, W = (w3.alloc (.cells #[.int .i64 n.x, .int .i64 n.y, .int .i64 n.z] 47)) := ⟨_, rfl⟩
  rw [← hw4]
  have hb4 : Below w3.heap.size w3 w4 := by rw [hw4]; go_grown
  have z4 : w.heap.size ≤ w4.heap.size := Nat.le_trans z3 hb4.size
  have B4 := hide (B3.out.trans (hb4.mono z3)); clear B3
  replace S4 := hide (S4.out.below hb4)
  replace S5 := hide (S5.out.below hb4)
  replace SA := hide (SA.out.below hb4)
  replace SB := hide (SB.out.below hb4)
  have KN := hide (show w4.heap[w3.heap.size]? = some (.cells (vcs n) 47 (0, 0)) by rw [hw4]; exact new_at _ _ (by simp))
  have yN : w3.heap.size < w4.heap.size := by rw [hw4]; simp <;> omega
  clear hw4 hb4
  refine (radius15_any p _ HP.out).mono ?_
  rintro e w' ⟨rfl, rfl⟩
  go_wp2_with fail
  refine (radius15_any q _ HQ.out).mono ?_
  rintro e w' ⟨rfl, rfl⟩
  obtain ⟨r1, r2⟩ := rad15_bd p
  obtain ⟨r3, r4⟩ := rad15_bd q
  obtain ⟨ra, hra⟩ : ∃ ra, ra = rad15 p := ⟨_, rfl⟩
  obtain ⟨rb, hrb⟩ : ∃ rb, rb = rad15 q := ⟨_, rfl⟩
  rw [← hra] at r1 r2
  rw [← hrb] at r3 r4
  rw [show radOf 4 1 9000 70000 1048577 p = ra from hra.symm, show radOf 4 1 9000 70000 1048577 q = rb from hrb.symm]
  clear hra hrb
  obtain ⟨d, hd⟩ : ∃ d, d = more % (1048576 - ra + 1) := ⟨_, rfl⟩
  have d1 := Int.emod_nonneg more (b := 1048576 - ra + 1) (by omega)
  have d2 := Int.emod_lt_of_pos more (b := 1048576 - ra + 1) (by omega)
  rw [← hd] at d1 d2
  have HD := hide hd; clear hd
  go_wp2_with fail
  refine (round_any more (1048576 - ra + 1) _ (by omega) (by omega)).mono ?_
  rintro e w' ⟨rfl, rfl⟩
  rw [← HD.out]
  have cN := blk_cell KN.out; simp only [vcs] at cN
  go_wp2_with fail
  clear cN
  refine (margin_any n Aa as_ ca ra Ab bs cb rb _ SA.out SB.out (by omega) (by omega)).mono ?_
  rintro e w5 ⟨rfl, hb5⟩
  have z5 : w.heap.size ≤ w5.heap.size := Nat.le_trans z4 hb5.size
  have B5 := hide (B4.out.trans (hb5.mono z4)); clear B4
  replace S4 := hide (S4.out.below hb5)
  replace S5 := hide (S5.out.below hb5)
  replace SA := hide (SA.out.below hb5)
  replace SB := hide (SB.out.below hb5)
  replace KN := hide ((hb5.block _ yN).trans KN.out)
  replace yN := Nat.lt_of_lt_of_le yN hb5.size
  rw [margR_made HUn.out PA.out PB.out (⟨r1, r2⟩) (⟨r3, r4⟩)]
  have mbU := marg_bd (margOk_yes HUn.out PA.out PB.out (show 0 ≤ ra ∧ ra ≤ 1048576 from ⟨r1, r2⟩) (show 0 ≤ rb ∧ rb ≤ 1048576 from ⟨r3, r4⟩))
  generalize hU : margX n as_ ra bs rb = U at mbU
  have HU := hide hU; clear hU
  clear hb5
  have cN := blk_cell KN.out; simp only [vcs] at cN
  go_wp2_with fail
  clear cN
  refine (margin_any n Aa as_ ca (ra + d) Ab bs cb rb _ SA.out SB.out (by omega) (by omega)).mono ?_
  rintro e w6 ⟨rfl, hb6⟩
  have z6 : w.heap.size ≤ w6.heap.size := Nat.le_trans z5 hb6.size
  have B6 := hide (B5.out.trans (hb6.mono z5)); clear B5
  replace S4 := hide (S4.out.below hb6)
  replace S5 := hide (S5.out.below hb6)
  replace SA := hide (SA.out.below hb6)
  replace SB := hide (SB.out.below hb6)
  replace KN := hide ((hb6.block _ yN).trans KN.out)
  replace yN := Nat.lt_of_lt_of_le yN hb6.size
  rw [margR_made HUn.out PA.out PB.out (by omega) (⟨r3, r4⟩)]
  have mbV := marg_bd (margOk_yes HUn.out PA.out PB.out (show 0 ≤ (ra + d) ∧ (ra + d) ≤ 1048576 from by omega) (show 0 ≤ rb ∧ rb ≤ 1048576 from ⟨r3, r4⟩))
  generalize hV : margX n as_ (ra + d) bs rb = V at mbV
  have HV := hide hV; clear hV
  clear hb6
  go_wp2_with fail
  have nb := normF_bd n
  have f1 : U - V = normF n * d := by rw [← HU.out, ← HV.out]; exact marg_radius n as_ bs ra rb d
  have m1 := mul_bd (normF n) d 32768 1048576 nb.1 nb.2 (by omega) (by omega)
  obtain ⟨N, hN⟩ : ∃ N, N = normF n := ⟨_, rfl⟩
  rw [← hN] at f1 m1
  obtain ⟨D, hDD⟩ : ∃ D, D = N * d := ⟨_, rfl⟩
  rw [← hDD] at f1 m1
  have HN := hide hN; have HDD := hide hDD; clear hN hDD nb
  refine (awake15 _).mono ?_
  rintro e w7 ⟨rfl, hb7⟩
  have z7 : w.heap.size ≤ w7.heap.size := Nat.le_trans z6 hb7.size
  have B7 := hide (B6.out.trans (hb7.mono z6)); clear B6
  replace S4 := hide (S4.out.below hb7)
  replace S5 := hide (S5.out.below hb7)
  replace SA := hide (SA.out.below hb7)
  replace SB := hide (SB.out.below hb7)
  replace KN := hide ((hb7.block _ yN).trans KN.out)
  replace yN := Nat.lt_of_lt_of_le yN hb7.size
  clear hb7
  have cN := blk_cell KN.out; simp only [vcs] at cN
  go_wp2_with fail
  clear cN
  refine (norm_ref n _).mono ?_
  rintro e w8 ⟨rfl, hb8⟩
  have z8 : w.heap.size ≤ w8.heap.size := Nat.le_trans z7 hb8.size
  have B8 := hide (B7.out.trans (hb8.mono z7)); clear B7
  replace S4 := hide (S4.out.below hb8)
  replace S5 := hide (S5.out.below hb8)
  replace SA := hide (SA.out.below hb8)
  replace SB := hide (SB.out.below hb8)
  replace KN := hide ((hb8.block _ yN).trans KN.out)
  replace yN := Nat.lt_of_lt_of_le yN hb8.size
  rw [← HN.out]
  clear hb8
  have m2 : -34359738368 ≤ N * d ∧ N * d ≤ 34359738368 := by rw [← HDD.out]; exact m1
  have f2 : U - V = N * d := by rw [← HDD.out]; exact f1
  clear m1
  go_wp2_with fail
  go_ret
  exact ⟨by simp; exact HDD.out, B8.out⟩
end Go.Proofs.Ytionbckpgfaneaa
