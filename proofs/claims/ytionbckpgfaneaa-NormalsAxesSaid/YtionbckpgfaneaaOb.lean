/- NormalsAxes, walked. -/
import Derived.Test.YtionbckpgfaneaaLp
import Derived.Test.YtionbckpgfaneaaQm
namespace Go.Proofs.Ytionbckpgfaneaa
open Go.RowKit
set_option maxHeartbeats 1000000
set_option maxRecDepth 100000
theorem findR_two (o : Option V3) : ∃ (n : V3) (t : Bool), findR o = .tuple #[.agg #[.int .i64 n.x, .int .i64 n.y, .int .i64 n.z], .bool t] ∧ (t = false → o = none) := by
  cases o with
  | none => exact ⟨zeroV, false, rfl, fun _ => rfl⟩
  | some n => exact ⟨n, true, rfl, fun h => by cases h⟩
theorem rad17_bd (p : Int) : 0 ≤ rad15 p ∧ rad15 p ≤ 1048576 := by
  have := radOf_bd 4 1 9000 70000 1048577 p (by omega) (by omega) (by omega) (by omega) (by omega) (by omega) (by omega)
  unfold rad15
  omega
theorem find_box0 {a b : List IV} {ra rb : Int} {k : Nat} (ha : placedB a = true) (hb : placedB b = true) (hr : 0 ≤ ra ∧ ra ≤ 1048576) (hq : 0 ≤ rb ∧ rb ≤ 1048576) (hf : findN a ra b rb [] = none) : ¬ (compI (boundF b rb) k).hi < (compI (boundF a ra) k).lo ∧ ¬ (compI (boundF a ra) k).hi < (compI (boundF b rb) k).lo := by
  constructor
  · intro h
    have := find_box (hs := []) (k := k) ha hb hr hq (by simp [apartK, h])
    rw [hf] at this
    cases this
  · intro h
    have := find_box (hs := []) (k := k) ha hb hr hq (by simp [apartK, h])
    rw [hf] at this
    cases this
theorem normalsAxes_walk (l m : List Int) (axis p q : Int) (A4 A5 : Option Addr) (c4 c5 : Nat) (w : World)
    (hs4 : SlN w A4 l) (hs5 : SlN w A5 m) (m4 : l.length ≤ 9223372036854775807) (m5 : m.length ≤ 9223372036854775807) (hp : I64 p) (hq : I64 q) :
    Calls Try.prog 36 #[.slice A4 l.length c4, .slice A5 m.length c5, .int .i64 axis, .int .i64 p, .int .i64 q] w fun e w' => e = .returned (.bool true) ∧ Below w.heap.size w w' := by
  have S4 := hide hs4; clear hs4
  have S5 := hide hs5; clear hs5
  have HP := hide hp; clear hp
  have HQ := hide hq; clear hq
  have B0 := hide (Below.refl w.heap.size w)
  have z0 : w.heap.size ≤ w.heap.size := Nat.le_refl _
  go_enter Try.func36, Try.ntmps36
  go_wp2_with fail
  refine (points_any A4 l c4 3000 _ S4.out m4 (by omega) (by omega)).mono ?_
  rintro e w1 ⟨va, as_, rfl, la1, la5, oka, hoa, hb1⟩
  have z1 : w.heap.size ≤ w1.heap.size := Nat.le_trans z0 hb1.size
  have B1 := hide (B0.out.trans (hb1.mono z0)); clear B0
  replace S4 := hide (S4.out.below hb1)
  replace S5 := hide (S5.out.below hb1)
  obtain ⟨Aa, ca, rfl, _, _, _⟩ := own_val hoa
  have SA := hide (show SlI w1 Aa as_ from own_sl hoa)
  have OKA := hide oka
  clear hoa oka
  clear hb1
  go_wp2_with fail
  have PA := hide (placed_made (by omega) la1 (by omega) OKA.out)
  refine (points_any A5 m c5 3000 _ S5.out m5 (by omega) (by omega)).mono ?_
  rintro e w2 ⟨vb, bs, rfl, lb1, lb5, okb, hob, hb2⟩
  have z2 : w.heap.size ≤ w2.heap.size := Nat.le_trans z1 hb2.size
  have B2 := hide (B1.out.trans (hb2.mono z1)); clear B1
  replace S4 := hide (S4.out.below hb2)
  replace S5 := hide (S5.out.below hb2)
  replace SA := hide (SA.out.below hb2)
  obtain ⟨Ab, cb, rfl, _, _, _⟩ := own_val hob
  have SB := hide (show SlI w2 Ab bs from own_sl hob)
  have OKB := hide okb
  clear hob okb
  clear hb2
  go_wp2_with fail
  have PB := hide (placed_made (by omega) lb1 (by omega) OKB.out)
  have k1 := Int.emod_nonneg axis (b := 3) (by omega); have k2 := Int.emod_lt_of_pos axis (b := 3) (by omega)
  refine (round_any axis 3 _ (by omega) (by omega)).mono ?_
  rintro e w' ⟨rfl, rfl⟩
  obtain ⟨k, hk⟩ : ∃ k, axis % 3 = k := ⟨_, rfl⟩
  rw [hk] at k1 k2 ⊢
  clear hk
  go_wp2_with fail
  refine (radius17_any p _ HP.out).mono ?_
  rintro e w' ⟨rfl, rfl⟩
  go_wp2_with fail
  refine (bound_ref Aa as_ ca (rad15 p) _ SA.out PA.out (rad17_bd p)).mono ?_
  rintro e w3 ⟨rfl, hb3⟩
  have z3 : w.heap.size ≤ w3.heap.size := Nat.le_trans z2 hb3.size
  have B3 := hide (B2.out.trans (hb3.mono z2)); clear B2
  replace S4 := hide (S4.out.below hb3)
  replace S5 := hide (S5.out.below hb3)
  replace SA := hide (SA.out.below hb3)
  replace SB := hide (SB.out.below hb3)
  obtain ⟨X, hX⟩ : ∃ X, boundF as_ (rad15 p) = X := ⟨_, rfl⟩
  rw [hX]
  have HX := hide hX; clear hX
  unfold IV.v
  clear hb3
  go_wp2_with fail
  refine (radius17_any q _ HQ.out).mono ?_
  rintro e w' ⟨rfl, rfl⟩
  go_wp2_with fail
  refine (bound_ref Ab bs cb (rad15 q) _ SB.out PB.out (rad17_bd q)).mono ?_
  rintro e w4 ⟨rfl, hb4⟩
  have z4 : w.heap.size ≤ w4.heap.size := Nat.le_trans z3 hb4.size
  have B4 := hide (B3.out.trans (hb4.mono z3)); clear B3
  replace S4 := hide (S4.out.below hb4)
  replace S5 := hide (S5.out.below hb4)
  replace SA := hide (SA.out.below hb4)
  replace SB := hide (SB.out.below hb4)
  obtain ⟨Y, hY⟩ : ∃ Y, boundF bs (rad15 q) = Y := ⟨_, rfl⟩
  rw [hY]
  have HY := hide hY; clear hY
  unfold IV.v
  clear hb4
  go_wp2_with fail
  obtain ⟨w5, hw5⟩ : ∃ W, W = ((w4.alloc (.cells #[.int .i64 X.x.lo, .int .i64 X.x.hi, .int .i64 X.y.lo, .int .i64 X.y.hi, .int .i64 X.z.lo, .int .i64 X.z.hi] 44)).alloc (.cells #[.int .i64 Y.x.lo, .int .i64 Y.x.hi, .int .i64 Y.y.lo, .int .i64 Y.y.hi, .int .i64 Y.z.lo, .int .i64 Y.z.hi] 44)) := ⟨_, rfl⟩
  rw [← hw5]
  have hb5 : Below w4.heap.size w4 w5 := by rw [hw5]; go_grown
  have z5 : w.heap.size ≤ w5.heap.size := Nat.le_trans z4 hb5.size
  have B5 := hide (B4.out.trans (hb5.mono z4)); clear B4
  replace S4 := hide (S4.out.below hb5)
  replace S5 := hide (S5.out.below hb5)
  replace SA := hide (SA.out.below hb5)
  replace SB := hide (SB.out.below hb5)
  have KX := hide (show w5.heap[w4.heap.size]? = some (.cells (ivc X) 44 (0, 0)) by rw [hw5]; exact (Below.heap_alloc _ _ _ (by simp <;> omega)).trans (new_at _ _ (by simp)))
  have yX : w4.heap.size < w5.heap.size := by rw [hw5]; simp <;> omega
  have KY := hide (show w5.heap[w4.heap.size + 1]? = some (.cells (ivc Y) 44 (0, 0)) by rw [hw5]; exact new_at _ _ (by simp))
  have yY : w4.heap.size + 1 < w5.heap.size := by rw [hw5]; simp <;> omega
  clear hw5 hb5
  refine (radius17_any p _ HP.out).mono ?_
  rintro e w' ⟨rfl, rfl⟩
  go_wp2_with fail
  refine (radius17_any q _ HQ.out).mono ?_
  rintro e w' ⟨rfl, rfl⟩
  go_wp2_with fail
  refine (find_any Aa Ab none ca cb 0 as_ bs [] (rad15 p) (rad15 q) _ SA.out SB.out (nilV _) (by omega) (by omega) (by simp)).mono ?_
  rintro e w6 ⟨rfl, hb6⟩
  have z6 : w.heap.size ≤ w6.heap.size := Nat.le_trans z5 hb6.size
  have B6 := hide (B5.out.trans (hb6.mono z5)); clear B5
  replace S4 := hide (S4.out.below hb6)
  replace S5 := hide (S5.out.below hb6)
  replace SA := hide (SA.out.below hb6)
  replace SB := hide (SB.out.below hb6)
  replace KX := hide ((hb6.block _ yX).trans KX.out)
  replace yX := Nat.lt_of_lt_of_le yX hb6.size
  replace KY := hide ((hb6.block _ yY).trans KY.out)
  replace yY := Nat.lt_of_lt_of_le yY hb6.size
  obtain ⟨n, t, hn, ht⟩ := findR_two (findN as_ (rad15 p) bs (rad15 q) [])
  rw [hn]
  have TF := hide (fun j ht0 => find_box0 (k := j) PA.out PB.out (rad17_bd p) (rad17_bd q) (ht ht0))
  rw [HX.out, HY.out] at TF
  clear hn ht
  clear hb6
  go_upto_region 5 with fail
  obtain ⟨w7, hw7⟩ : ∃ W, W = (w6.alloc (.cells #[.int .i64 n.x, .int .i64 n.y, .int .i64 n.z] 47)) := ⟨_, rfl⟩
  rw [← hw7]
  have hb7 : Below w6.heap.size w6 w7 := by rw [hw7]; go_grown
  have z7 : w.heap.size ≤ w7.heap.size := Nat.le_trans z6 hb7.size
  have B7 := hide (B6.out.trans (hb7.mono z6)); clear B6
  replace S4 := hide (S4.out.below hb7)
  replace S5 := hide (S5.out.below hb7)
  replace SA := hide (SA.out.below hb7)
  replace SB := hide (SB.out.below hb7)
  replace KX := hide ((hb7.block _ yX).trans KX.out)
  replace yX := Nat.lt_of_lt_of_le yX hb7.size
  replace KY := hide ((hb7.block _ yY).trans KY.out)
  replace yY := Nat.lt_of_lt_of_le yY hb7.size
  have KN := hide (show w7.heap[w6.heap.size]? = some (.cells (vcs n) 47 (0, 0)) by rw [hw7]; exact new_at _ _ (by simp))
  have yN : w6.heap.size < w7.heap.size := by rw [hw7]; simp <;> omega
  clear hw7 hb7
  have cX := blk_cell KX.out; simp only [ivc] at cX
  have cY := blk_cell KY.out; simp only [ivc] at cY
  obtain rfl | rfl | rfl : k = 0 ∨ k = 1 ∨ k = 2 := by omega
  · have f := TF.out 0
    simp [compI] at f
    by_cases h1 : Y.x.hi < X.x.lo
    · obtain rfl : t = true := by cases t; (have := f rfl; omega); rfl
      clear f TF
      go_wp2_with fail
      go_quiet (fail)
      go_wp2_with fail
      refine (awake17 _).mono ?_
      rintro e w' ⟨rfl, hb⟩
      go_wp2_with fail
      go_ret
      exact ⟨by simp <;> omega, (below_drewN B7.out _).trans (hb.mono z7)⟩
    · by_cases h2 : X.x.hi < Y.x.lo
      · obtain rfl : t = true := by cases t; (have := f rfl; omega); rfl
        clear f TF
        go_wp2_with fail
        go_quiet (fail)
        go_wp2_with fail
        refine (awake17 _).mono ?_
        rintro e w' ⟨rfl, hb⟩
        go_wp2_with fail
        go_ret
        exact ⟨by simp <;> omega, (below_drewN B7.out _).trans (hb.mono z7)⟩
      · clear f TF
        cases t
        all_goals
          go_wp2_with fail
          go_quiet (fail)
          go_wp2_with fail
          refine (awake17 _).mono ?_
          rintro e w' ⟨rfl, hb⟩
          go_wp2_with fail
          go_ret
          exact ⟨by simp <;> omega, (below_drewN B7.out _).trans (hb.mono z7)⟩
  · have f := TF.out 1
    simp [compI] at f
    by_cases h1 : Y.y.hi < X.y.lo
    · obtain rfl : t = true := by cases t; (have := f rfl; omega); rfl
      clear f TF
      go_wp2_with fail
      go_quiet (fail)
      go_wp2_with fail
      refine (awake17 _).mono ?_
      rintro e w' ⟨rfl, hb⟩
      go_wp2_with fail
      go_ret
      exact ⟨by simp <;> omega, (below_drewN B7.out _).trans (hb.mono z7)⟩
    · by_cases h2 : X.y.hi < Y.y.lo
      · obtain rfl : t = true := by cases t; (have := f rfl; omega); rfl
        clear f TF
        go_wp2_with fail
        go_quiet (fail)
        go_wp2_with fail
        refine (awake17 _).mono ?_
        rintro e w' ⟨rfl, hb⟩
        go_wp2_with fail
        go_ret
        exact ⟨by simp <;> omega, (below_drewN B7.out _).trans (hb.mono z7)⟩
      · clear f TF
        cases t
        all_goals
          go_wp2_with fail
          go_quiet (fail)
          go_wp2_with fail
          refine (awake17 _).mono ?_
          rintro e w' ⟨rfl, hb⟩
          go_wp2_with fail
          go_ret
          exact ⟨by simp <;> omega, (below_drewN B7.out _).trans (hb.mono z7)⟩
  · have f := TF.out 2
    simp [compI] at f
    by_cases h1 : Y.z.hi < X.z.lo
    · obtain rfl : t = true := by cases t; (have := f rfl; omega); rfl
      clear f TF
      go_wp2_with fail
      go_quiet (fail)
      go_wp2_with fail
      refine (awake17 _).mono ?_
      rintro e w' ⟨rfl, hb⟩
      go_wp2_with fail
      go_ret
      exact ⟨by simp <;> omega, (below_drewN B7.out _).trans (hb.mono z7)⟩
    · by_cases h2 : X.z.hi < Y.z.lo
      · obtain rfl : t = true := by cases t; (have := f rfl; omega); rfl
        clear f TF
        go_wp2_with fail
        go_quiet (fail)
        go_wp2_with fail
        refine (awake17 _).mono ?_
        rintro e w' ⟨rfl, hb⟩
        go_wp2_with fail
        go_ret
        exact ⟨by simp <;> omega, (below_drewN B7.out _).trans (hb.mono z7)⟩
      · clear f TF
        cases t
        all_goals
          go_wp2_with fail
          go_quiet (fail)
          go_wp2_with fail
          refine (awake17 _).mono ?_
          rintro e w' ⟨rfl, hb⟩
          go_wp2_with fail
          go_ret
          exact ⟨by simp <;> omega, (below_drewN B7.out _).trans (hb.mono z7)⟩
end Go.Proofs.Ytionbckpgfaneaa
