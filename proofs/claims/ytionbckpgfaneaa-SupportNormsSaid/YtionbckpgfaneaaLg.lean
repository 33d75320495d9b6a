/- SupportNormals, walked. -/
import Derived.Test.YtionbckpgfaneaaWy
import Derived.Test.YtionbckpgfaneaaWx
namespace Go.Proofs.Ytionbckpgfaneaa
open Go.RowKit
set_option maxHeartbeats 1000000
set_option maxRecDepth 100000
theorem shr_ok {x : Int} (h : I64 x) (k : Nat) : I64 (x / 2 ^ k) := by
  obtain ⟨h1, h2⟩ := h
  have p : (0 : Int) < 2 ^ k := Int.pow_pos (by omega)
  constructor
  · rcases Int.le_total 0 x with h0 | h0
    · have := Int.ediv_nonneg h0 (show (0 : Int) ≤ 2 ^ k by omega)
      omega
    · have := Int.le_ediv_of_mul_le (a := x) (b := x) (c := 2 ^ k) p (by have := Int.mul_le_mul_of_nonneg_left (show (1 : Int) ≤ 2 ^ k by omega) (show 0 ≤ -x by omega); simp only [Int.neg_mul] at this; omega)
      omega
  · rcases Int.le_total 0 x with h0 | h0
    · have := Int.ediv_le_self (2 ^ k) h0
      omega
    · have := Int.ediv_le_ediv p h0
      rw [Int.zero_ediv] at this
      omega
theorem ok64_of_usable {n : V3} (h : usable n = true) : n.ok64 := by
  obtain ⟨a, b, c⟩ := inR_of (usable_of h).1
  unfold V3.ok64 I64
  omega
theorem supportNormals_walk (v : V3) (a b c f : Int) (w : World) (hv : v.ok64) (hf0 : 0 ≤ f) (hf1 : f ≤ 255) :
    Calls Try.prog 11 #[v.v, .int .i64 a, .int .i64 b, .int .i64 c, .int .u8 f] w fun e w' => e = .returned (.bool true) ∧ Below w.heap.size w w' := by
  unfold V3.v
  have HV := hide hv; clear hv
  have B0 := hide (Below.refl w.heap.size w)
  have z0 : w.heap.size ≤ w.heap.size := Nat.le_refl _
  go_enter Try.func11, Try.ntmps11
  go_wp2_with fail
  obtain ⟨w1, hw1⟩ : ∃ W, W = (w.alloc (.cells #[.int .i64 v.x, .int .i64 v.y, .int .i64 v.z] 47)) := ⟨_, rfl⟩
  rw [← hw1]
  have hb1 : Below w.heap.size w w1 := by rw [hw1]; go_grown
  have z1 : w.heap.size ≤ w1.heap.size := Nat.le_trans z0 hb1.size
  have B1 := hide (B0.out.trans (hb1.mono z0)); clear B0
  have KV := hide (show w1.heap[w.heap.size]? = some (.cells (vcs v) 47 (0, 0)) by rw [hw1]; exact new_at _ _ (by simp))
  have yV : w.heap.size < w1.heap.size := by rw [hw1]; simp <;> omega
  clear hw1 hb1
  refine (mkNormal_any a b c _).mono ?_
  rintro e w2 ⟨n, hun, rfl, hb2⟩
  have z2 : w.heap.size ≤ w2.heap.size := Nat.le_trans z1 hb2.size
  have B2 := hide (B1.out.trans (hb2.mono z1)); clear B1
  replace KV := hide ((hb2.block _ yV).trans KV.out)
  replace yV := Nat.lt_of_lt_of_le yV hb2.size
  have HUn := hide hun; clear hun
  unfold V3.v
  clear hb2
  have cV := blk_cell KV.out; simp only [vcs] at cV
  go_wp2_with fail
  generalize hu1 : v.x / 2 ^ (f % 64).toNat = u1
  generalize hu2 : v.y / 2 ^ (f % 64).toNat = u2
  generalize hu3 : v.z / 2 ^ (f / 4 % 64).toNat = u3
  have OU := hide (show (⟨u1, u2, u3⟩ : V3).ok64 from ⟨by rw [← hu1]; exact shr_ok HV.out.1 _, by rw [← hu2]; exact shr_ok HV.out.2.1 _, by rw [← hu3]; exact shr_ok HV.out.2.2 _⟩)
  clear hu1 hu2 hu3
  clear cV
  obtain ⟨w3, hw3⟩ : ∃ W, W = ((w2.alloc (.cells #[.int .i64 n.x, .int .i64 n.y, .int .i64 n.z] 47)).alloc (.cells #[.int .i64 u1, .int .i64 u2, .int .i64 u3] 47)) := ⟨_, rfl⟩
  rw [← hw3]
  have hb3 : Below w2.heap.size w2 w3 := by rw [hw3]; go_grown
  have z3 : w.heap.size ≤ w3.heap.size := Nat.le_trans z2 hb3.size
  have B3 := hide (B2.out.trans (hb3.mono z2)); clear B2
  replace KV := hide ((hb3.block _ yV).trans KV.out)
  replace yV := Nat.lt_of_lt_of_le yV hb3.size
  have KN := hide (show w3.heap[w2.heap.size]? = some (.cells (vcs n) 47 (0, 0)) by rw [hw3]; exact (Below.heap_alloc _ _ _ (by simp <;> omega)).trans (new_at _ _ (by simp)))
  have yN : w2.heap.size < w3.heap.size := by rw [hw3]; simp <;> omega
  have KU := hide (show w3.heap[w2.heap.size + 1]? = some (.cells (vcs ⟨u1, u2, u3⟩) 47 (0, 0)) by rw [hw3]; exact new_at _ _ (by simp))
  have yU : w2.heap.size + 1 < w3.heap.size := by rw [hw3]; simp <;> omega
  clear hw3 hb3
  refine (awake13 _).mono ?_
  rintro e w4 ⟨rfl, hb4⟩
  have z4 : w.heap.size ≤ w4.heap.size := Nat.le_trans z3 hb4.size
  have B4 := hide (B3.out.trans (hb4.mono z3)); clear B3
  replace KV := hide ((hb4.block _ yV).trans KV.out)
  replace yV := Nat.lt_of_lt_of_le yV hb4.size
  replace KN := hide ((hb4.block _ yN).trans KN.out)
  replace yN := Nat.lt_of_lt_of_le yN hb4.size
  replace KU := hide ((hb4.block _ yU).trans KU.out)
  replace yU := Nat.lt_of_lt_of_le yU hb4.size
  clear hb4
  have cV := blk_cell KV.out; simp only [vcs] at cV
  go_wp2_with fail
  clear cV
  refine (normals_any v _ HV.out).mono ?_
  rintro e w5 ⟨rfl, hb5⟩
  have z5 : w.heap.size ≤ w5.heap.size := Nat.le_trans z4 hb5.size
  have B5 := hide (B4.out.trans (hb5.mono z4)); clear B4
  replace KV := hide ((hb5.block _ yV).trans KV.out)
  replace yV := Nat.lt_of_lt_of_le yV hb5.size
  replace KN := hide ((hb5.block _ yN).trans KN.out)
  replace yN := Nat.lt_of_lt_of_le yN hb5.size
  replace KU := hide ((hb5.block _ yU).trans KU.out)
  replace yU := Nat.lt_of_lt_of_le yU hb5.size
  clear hb5
  have cU := blk_cell KU.out; simp only [vcs] at cU
  go_wp2_with fail
  clear cU
  refine (normals_any ⟨u1, u2, u3⟩ _ OU.out).mono ?_
  rintro e w6 ⟨rfl, hb6⟩
  have z6 : w.heap.size ≤ w6.heap.size := Nat.le_trans z5 hb6.size
  have B6 := hide (B5.out.trans (hb6.mono z5)); clear B5
  replace KV := hide ((hb6.block _ yV).trans KV.out)
  replace yV := Nat.lt_of_lt_of_le yV hb6.size
  replace KN := hide ((hb6.block _ yN).trans KN.out)
  replace yN := Nat.lt_of_lt_of_le yN hb6.size
  replace KU := hide ((hb6.block _ yU).trans KU.out)
  replace yU := Nat.lt_of_lt_of_le yU hb6.size
  clear hb6
  have cN := blk_cell KN.out; simp only [vcs] at cN
  go_wp2_with fail
  clear cN
  refine (normals_any n _ (ok64_of_usable HUn.out)).mono ?_
  rintro e w7 ⟨rfl, hb7⟩
  have z7 : w.heap.size ≤ w7.heap.size := Nat.le_trans z6 hb7.size
  have B7 := hide (B6.out.trans (hb7.mono z6)); clear B6
  replace KV := hide ((hb7.block _ yV).trans KV.out)
  replace yV := Nat.lt_of_lt_of_le yV hb7.size
  replace KN := hide ((hb7.block _ yN).trans KN.out)
  replace yN := Nat.lt_of_lt_of_le yN hb7.size
  replace KU := hide ((hb7.block _ yU).trans KU.out)
  replace yU := Nat.lt_of_lt_of_le yU hb7.size
  clear hb7
  have cN := blk_cell KN.out; simp only [vcs] at cN
  go_wp2_with fail
  clear cN
  refine (usable_any n _).mono ?_
  rintro e w8 ⟨rfl, hb8⟩
  have z8 : w.heap.size ≤ w8.heap.size := Nat.le_trans z7 hb8.size
  have B8 := hide (B7.out.trans (hb8.mono z7)); clear B7
  replace KV := hide ((hb8.block _ yV).trans KV.out)
  replace yV := Nat.lt_of_lt_of_le yV hb8.size
  replace KN := hide ((hb8.block _ yN).trans KN.out)
  replace yN := Nat.lt_of_lt_of_le yN hb8.size
  replace KU := hide ((hb8.block _ yU).trans KU.out)
  replace yU := Nat.lt_of_lt_of_le yU hb8.size
  rw [HUn.out]
  clear hb8
  go_wp2_with fail
  go_ret
  exact ⟨rfl, B8.out⟩
end Go.Proofs.Ytionbckpgfaneaa
