/- SupportNorms, walked. -/
import Derived.Test.YtionbckpgfaneaaLg
namespace Go.Proofs.Ytionbckpgfaneaa
open Go.RowKit
set_option maxHeartbeats 1000000
set_option maxRecDepth 100000
attribute [local go_sem] eq47
theorem supportNorms_walk (v : V3) (f : Int) (w : World) (hv : v.ok64) (hf0 : 0 ≤ f) (hf1 : f ≤ 255) :
    Calls Try.prog 12 #[v.v, .int .u8 f] w fun e w' => e = .returned (.bool true) ∧ Below w.heap.size w w' := by
  unfold V3.v
  have HV := hide hv; clear hv
  have B0 := hide (Below.refl w.heap.size w)
  have z0 : w.heap.size ≤ w.heap.size := Nat.le_refl _
  go_enter Try.func12, Try.ntmps12
  go_wp2_with fail
  generalize hu1 : v.x / 2 ^ (f % 64).toNat = u1
  generalize hu2 : v.y / 2 ^ (f % 64).toNat = u2
  generalize hu3 : v.z / 2 ^ (f / 4 % 64).toNat = u3
  have OU := hide (show (⟨u1, u2, u3⟩ : V3).ok64 from ⟨by rw [← hu1]; exact shr_ok HV.out.1 _, by rw [← hu2]; exact shr_ok HV.out.2.1 _, by rw [← hu3]; exact shr_ok HV.out.2.2 _⟩)
  clear hu1 hu2 hu3
  obtain ⟨u, hu⟩ : ∃ u : V3, u = ⟨u1, u2, u3⟩ := ⟨_, rfl⟩
  rw [← hu] at OU
  have e1 : u1 = u.x := by rw [hu]
  have e2 : u2 = u.y := by rw [hu]
  have e3 : u3 = u.z := by rw [hu]
  rw [e1, e2, e3]
  clear hu e1 e2 e3
  obtain ⟨w1, hw1⟩ : ∃ W, W = (w.alloc (.cells #[.int .i64 u.x, .int .i64 u.y, .int .i64 u.z] 47)) := ⟨_, rfl⟩
  rw [← hw1]
  have hb1 : Below w.heap.size w w1 := by rw [hw1]; go_grown
  have z1 : w.heap.size ≤ w1.heap.size := Nat.le_trans z0 hb1.size
  have B1 := hide (B0.out.trans (hb1.mono z0)); clear B0
  have KU := hide (show w1.heap[w.heap.size]? = some (.cells (vcs u) 47 (0, 0)) by rw [hw1]; exact new_at _ _ (by simp))
  have yU : w.heap.size < w1.heap.size := by rw [hw1]; simp <;> omega
  clear hw1 hb1
  refine (normal_any u _ OU.out).mono ?_
  rintro e w2 ⟨rfl, hb2⟩
  have z2 : w.heap.size ≤ w2.heap.size := Nat.le_trans z1 hb2.size
  have B2 := hide (B1.out.trans (hb2.mono z1)); clear B1
  replace KU := hide ((hb2.block _ yU).trans KU.out)
  replace yU := Nat.lt_of_lt_of_le yU hb2.size
  unfold normalR
  generalize hX : normalF u = X
  have HX := hide hX; clear hX
  clear hb2
  have cU := blk_cell KU.out; simp only [vcs] at cU
  cases hz : isZ u
  · have hz2 : eqV ⟨u.x, u.y, u.z⟩ ⟨0, 0, 0⟩ = false := hz
    have HZ := hide hz; clear hz
    have HUX := hide (show usable X = true by rw [← HX.out]; exact normalF_usable OU.out HZ.out)
    go_wp2_with fail
    clear cU
    obtain ⟨w3, hw3⟩ : ∃ W, W = (w2.alloc (.cells #[.int .i64 X.x, .int .i64 X.y, .int .i64 X.z] 47)) := ⟨_, rfl⟩
    rw [← hw3]
    have hb3 : Below w2.heap.size w2 w3 := by rw [hw3]; go_grown
    have z3 : w.heap.size ≤ w3.heap.size := Nat.le_trans z2 hb3.size
    have B3 := hide (B2.out.trans (hb3.mono z2)); clear B2
    replace KU := hide ((hb3.block _ yU).trans KU.out)
    replace yU := Nat.lt_of_lt_of_le yU hb3.size
    have KX := hide (show w3.heap[w2.heap.size]? = some (.cells (vcs X) 47 (0, 0)) by rw [hw3]; exact new_at _ _ (by simp))
    have yX : w2.heap.size < w3.heap.size := by rw [hw3]; simp <;> omega
    clear hw3 hb3
    refine (normal_any X _ (ok64_of_usable HUX.out)).mono ?_
    rintro e w4 ⟨rfl, hb4⟩
    have z4 : w.heap.size ≤ w4.heap.size := Nat.le_trans z3 hb4.size
    have B4 := hide (B3.out.trans (hb4.mono z3)); clear B3
    replace KU := hide ((hb4.block _ yU).trans KU.out)
    replace yU := Nat.lt_of_lt_of_le yU hb4.size
    replace KX := hide ((hb4.block _ yX).trans KX.out)
    replace yX := Nat.lt_of_lt_of_le yX hb4.size
    unfold normalR
    rw [normalF_in (usable_of HUX.out).1, (usable_of HUX.out).2]
    clear hb4
    have cX := blk_cell KX.out; simp only [vcs] at cX
    have cU := blk_cell KU.out; simp only [vcs] at cU
    go_wp2_with fail
    clear cX cU
    obtain ⟨w5, hw5⟩ : ∃ W, W = (w4.alloc (.cells #[.int .i64 X.x, .int .i64 X.y, .int .i64 X.z] 47)) := ⟨_, rfl⟩
    rw [← hw5]
    have hb5 : Below w4.heap.size w4 w5 := by rw [hw5]; go_grown
    have z5 : w.heap.size ≤ w5.heap.size := Nat.le_trans z4 hb5.size
    have B5 := hide (B4.out.trans (hb5.mono z4)); clear B4
    replace KU := hide ((hb5.block _ yU).trans KU.out)
    replace yU := Nat.lt_of_lt_of_le yU hb5.size
    replace KX := hide ((hb5.block _ yX).trans KX.out)
    replace yX := Nat.lt_of_lt_of_le yX hb5.size
    have KM := hide (show w5.heap[w4.heap.size]? = some (.cells (vcs X) 47 (0, 0)) by rw [hw5]; exact new_at _ _ (by simp))
    have yM : w4.heap.size < w5.heap.size := by rw [hw5]; simp <;> omega
    clear hw5 hb5
    have sg := nrm_sgn 50 u
    rw [show nrm 50 u = X from HX.out] at sg
    have SG := hide sg; clear sg
    have cX := blk_cell KX.out; simp only [vcs] at cX
    have cU := blk_cell KU.out; simp only [vcs] at cU
    go_loop [9] (fun i => ∃ k : Int, i = .int .i64 k ∧ 0 ≤ k ∧ k ≤ 3) (fun i => 3 - (intOf i).toNat)
    case atStart => exact ⟨0, rfl, by omega, by omega⟩
    case round =>
      obtain ⟨k, rfl, hk0, hk3⟩ := hrel
      obtain rfl | rfl | rfl | rfl : k = 0 ∨ k = 1 ∨ k = 2 ∨ k = 3 := by omega
      · obtain ⟨g1, g2⟩ := SG.out.1
        by_cases p1 : 0 < X.x
        · have p2 := g1 p1
          have p3 : ¬ u.x ≤ 0 := by omega
          have p4 : ¬ X.x < 0 := by omega
          clear g1 g2
          go_wp2
          go_round
          case rel => exact ⟨1, rfl, by omega, by omega⟩
          case measure => simp [intOf]
        · by_cases p2 : X.x < 0
          · have p3 := g2 p2
            have p4 : ¬ 0 ≤ u.x := by omega
            clear g1 g2
            go_wp2
            go_round
            case rel => exact ⟨1, rfl, by omega, by omega⟩
            case measure => simp [intOf]
          · clear g1 g2
            go_wp2
            go_round
            case rel => exact ⟨1, rfl, by omega, by omega⟩
            case measure => simp [intOf]
      · obtain ⟨g1, g2⟩ := SG.out.2.1
        by_cases p1 : 0 < X.y
        · have p2 := g1 p1
          have p3 : ¬ u.y ≤ 0 := by omega
          have p4 : ¬ X.y < 0 := by omega
          clear g1 g2
          go_wp2
          go_round
          case rel => exact ⟨2, rfl, by omega, by omega⟩
          case measure => simp [intOf]
        · by_cases p2 : X.y < 0
          · have p3 := g2 p2
            have p4 : ¬ 0 ≤ u.y := by omega
            clear g1 g2
            go_wp2
            go_round
            case rel => exact ⟨2, rfl, by omega, by omega⟩
            case measure => simp [intOf]
          · clear g1 g2
            go_wp2
            go_round
            case rel => exact ⟨2, rfl, by omega, by omega⟩
            case measure => simp [intOf]
      · obtain ⟨g1, g2⟩ := SG.out.2.2
        by_cases p1 : 0 < X.z
        · have p2 := g1 p1
          have p3 : ¬ u.z ≤ 0 := by omega
          have p4 : ¬ X.z < 0 := by omega
          clear g1 g2
          go_wp2
          go_round
          case rel => exact ⟨3, rfl, by omega, by omega⟩
          case measure => simp [intOf]
        · by_cases p2 : X.z < 0
          · have p3 := g2 p2
            have p4 : ¬ 0 ≤ u.z := by omega
            clear g1 g2
            go_wp2
            go_round
            case rel => exact ⟨3, rfl, by omega, by omega⟩
            case measure => simp [intOf]
          · clear g1 g2
            go_wp2
            go_round
            case rel => exact ⟨3, rfl, by omega, by omega⟩
            case measure => simp [intOf]
      · have sp := normF_spec HUX.out
        obtain ⟨⟨s1, s2⟩, ⟨s3, s4⟩, s5, s6⟩ := sq_bd14 (usable_of HUX.out).1
        have nb := normF_bd X
        have np := normF_pos HUX.out
        obtain ⟨sp1, sp2, sp3⟩ := sp
        have sp4 := sp3 (by omega)
        unfold lenSq at sp2 sp4
        have q1 := mul_bd (normF X) (normF X) 32768 32768 nb.1 nb.2 (by omega) (by omega)
        have q2 := mul_bd (normF X - 1) (normF X - 1) 32768 32768 (by omega) (by omega) (by omega) (by omega)
        have heq : eqV ⟨X.x, X.y, X.z⟩ ⟨X.x, X.y, X.z⟩ = true := by simp [eqV]
        clear sp3 hz2
        generalize hd : normF X = d at *
        have HD := hide hd; clear hd
        go_wp2_with fail
        clear cX cU
        refine (norm_any X _).mono ?_
        rintro e w6 ⟨rfl, hb6⟩
        have z6 : w.heap.size ≤ w6.heap.size := Nat.le_trans z5 hb6.size
        have B6 := hide (B5.out.trans (hb6.mono z5)); clear B5
        replace KU := hide ((hb6.block _ yU).trans KU.out)
        replace yU := Nat.lt_of_lt_of_le yU hb6.size
        replace KX := hide ((hb6.block _ yX).trans KX.out)
        replace yX := Nat.lt_of_lt_of_le yX hb6.size
        replace KM := hide ((hb6.block _ yM).trans KM.out)
        replace yM := Nat.lt_of_lt_of_le yM hb6.size
        rw [HD.out]
        clear hb6
        have cX := blk_cell KX.out; simp only [vcs] at cX
        go_wp2_with fail
        clear cX
        refine (awake13 _).mono ?_
        rintro e w7 ⟨rfl, hb7⟩
        have z7 : w.heap.size ≤ w7.heap.size := Nat.le_trans z6 hb7.size
        have B7 := hide (B6.out.trans (hb7.mono z6)); clear B6
        replace KU := hide ((hb7.block _ yU).trans KU.out)
        replace yU := Nat.lt_of_lt_of_le yU hb7.size
        replace KX := hide ((hb7.block _ yX).trans KX.out)
        replace yX := Nat.lt_of_lt_of_le yX hb7.size
        replace KM := hide ((hb7.block _ yM).trans KM.out)
        replace yM := Nat.lt_of_lt_of_le yM hb7.size
        clear hb7
        have cX := blk_cell KX.out; simp only [vcs] at cX
        have cM := blk_cell KM.out; simp only [vcs] at cM
        go_wp2_with fail
        clear cX cM
        refine (usable_any X _).mono ?_
        rintro e w8 ⟨rfl, hb8⟩
        have z8 : w.heap.size ≤ w8.heap.size := Nat.le_trans z7 hb8.size
        have B8 := hide (B7.out.trans (hb8.mono z7)); clear B7
        replace KU := hide ((hb8.block _ yU).trans KU.out)
        replace yU := Nat.lt_of_lt_of_le yU hb8.size
        replace KX := hide ((hb8.block _ yX).trans KX.out)
        replace yX := Nat.lt_of_lt_of_le yX hb8.size
        replace KM := hide ((hb8.block _ yM).trans KM.out)
        replace yM := Nat.lt_of_lt_of_le yM hb8.size
        rw [HUX.out]
        clear hb8
        go_wp2_with fail
        all_goals
          go_ret
          exact ⟨rfl, B8.out⟩
  · have hz2 : eqV ⟨u.x, u.y, u.z⟩ ⟨0, 0, 0⟩ = true := hz
    obtain ⟨e1, e2, e3⟩ := isZ_of hz
    have hX0 : X = zeroV := by rw [← HX.out, normalF_in (decide_eq_true (by omega))]; exact V3.ext_ e1 e2 e3
    have HX0 := hide hX0
    have he : eqV ⟨X.x, X.y, X.z⟩ ⟨u.x, u.y, u.z⟩ = true := by rw [hX0]; exact decide_eq_true ⟨e1.symm, e2.symm, e3.symm⟩
    have hz3 : isZ X = true := by rw [hX0]; rfl
    clear hX0 e1 e2 e3 hz
    go_wp2_with fail
    clear cU
    obtain ⟨w3, hw3⟩ : ∃ W, W = (w2.alloc (.cells #[.int .i64 X.x, .int .i64 X.y, .int .i64 X.z] 47)) := ⟨_, rfl⟩
    rw [← hw3]
    have hb3 : Below w2.heap.size w2 w3 := by rw [hw3]; go_grown
    have z3 : w.heap.size ≤ w3.heap.size := Nat.le_trans z2 hb3.size
    have B3 := hide (B2.out.trans (hb3.mono z2)); clear B2
    replace KU := hide ((hb3.block _ yU).trans KU.out)
    replace yU := Nat.lt_of_lt_of_le yU hb3.size
    have KX := hide (show w3.heap[w2.heap.size]? = some (.cells (vcs X) 47 (0, 0)) by rw [hw3]; exact new_at _ _ (by simp))
    have yX : w2.heap.size < w3.heap.size := by rw [hw3]; simp <;> omega
    clear hw3 hb3
    refine (awake13 _).mono ?_
    rintro e w4 ⟨rfl, hb4⟩
    have z4 : w.heap.size ≤ w4.heap.size := Nat.le_trans z3 hb4.size
    have B4 := hide (B3.out.trans (hb4.mono z3)); clear B3
    replace KU := hide ((hb4.block _ yU).trans KU.out)
    replace yU := Nat.lt_of_lt_of_le yU hb4.size
    replace KX := hide ((hb4.block _ yX).trans KX.out)
    replace yX := Nat.lt_of_lt_of_le yX hb4.size
    clear hb4
    have cX := blk_cell KX.out; simp only [vcs] at cX
    have cU := blk_cell KU.out; simp only [vcs] at cU
    go_wp2_with fail
    go_ret
    exact ⟨rfl, B4.out⟩
end Go.Proofs.Ytionbckpgfaneaa
