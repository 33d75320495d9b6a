/- SupportHull, walked. -/
import Derived.Test.YtionbckpgfaneaaXd
import Derived.Test.YtionbckpgfaneaaWy
import Derived.Test.YtionbckpgfaneaaWx
import Derived.Test.YtionbckpgfaneaaLe
import Derived.Test.YtionbckpgfaneaaXe
namespace Go.Proofs.Ytionbckpgfaneaa
open Go.RowKit
set_option maxHeartbeats 1000000
set_option maxRecDepth 100000
theorem dotV_bd {n : V3} {ws : List Int} {ys : List IV} (hn : inR n = true) (hy : ∀ p ∈ ys, p.ok = true) (hw : ∀ x ∈ ws, 0 ≤ x ∧ x ≤ 9) (k : Nat) (h1 : k ≤ ws.length) (h2 : k ≤ ys.length) :
    -(k * 200000000000000) ≤ dotL (ws.take k) ((ys.take k).map fun p => dotV n (cornerV p)) ∧ dotL (ws.take k) ((ys.take k).map fun p => dotV n (cornerV p)) ≤ k * 200000000000000 := by
  induction k with
  | zero => simp [dotL]
  | succ k ih =>
    have := ih (by omega) (by omega)
    rw [dotL_snocG ws ys _ k (by omega) (by omega)]
    have w1 := hw (ws[k]'(by omega)) (by simp)
    obtain ⟨⟨a1, a2⟩, ⟨b1, b2⟩, c1, c2⟩ := inR_of hn
    obtain ⟨⟨d1, d2, d3⟩, ⟨e1, e2, e3⟩, f1, f2, f3⟩ := ok_of (hy (ys[k]'(by omega)) (by simp))
    have g1 := mul_bd2 n.x (ys[k]'(by omega)).x.lo 16384 268435456 a1 a2 (by omega) (by omega)
    have g2 := mul_bd2 n.y (ys[k]'(by omega)).y.lo 16384 268435456 b1 b2 (by omega) (by omega)
    have g3 := mul_bd2 n.z (ys[k]'(by omega)).z.lo 16384 268435456 c1 c2 (by omega) (by omega)
    have := mul_bd (ws[k]'(by omega)) (dotV n (cornerV (ys[k]'(by omega)))) 9 20000000000000 w1.1 w1.2 (by simp only [dotV, cornerV]; omega) (by simp only [dotV, cornerV]; omega)
    omega
theorem supportHull_walk (a b c : Int) (l m o : List Int) (A4 A5 A6 : Option Addr) (c4 c5 c6 : Nat) (w : World)
    (hs4 : SlN w A4 l) (hs5 : SlN w A5 m) (hs6 : SlN w A6 o) (m4 : l.length ≤ 9223372036854775807) (m5 : m.length ≤ 9223372036854775807) (m6 : o.length ≤ 9223372036854775807) :
    Calls Try.prog 16 #[.int .i64 a, .int .i64 b, .int .i64 c, .slice A4 l.length c4, .slice A5 m.length c5, .slice A6 o.length c6] w fun e w' => e = .returned (.bool true) ∧ Below w.heap.size w w' := by
  have S4 := hide hs4; clear hs4
  have S5 := hide hs5; clear hs5
  have S6 := hide hs6; clear hs6
  have B0 := hide (Below.refl w.heap.size w)
  have z0 : w.heap.size ≤ w.heap.size := Nat.le_refl _
  go_enter Try.func16, Try.ntmps16
  go_wp2_with fail
  refine (mkNormal_any a b c _).mono ?_
  rintro e w1 ⟨n, hun, rfl, hb1⟩
  have z1 : w.heap.size ≤ w1.heap.size := Nat.le_trans z0 hb1.size
  have B1 := hide (B0.out.trans (hb1.mono z0)); clear B0
  replace S4 := hide (S4.out.below hb1)
  replace S5 := hide (S5.out.below hb1)
  replace S6 := hide (S6.out.below hb1)
  have HUn := hide hun; clear hun
  unfold V3.v
  clear hb1
  go_wp2_with fail
  refine (points_any A4 l c4 3000 _ S4.out m4 (by omega) (by omega)).mono ?_
  rintro e w2 ⟨vx, xs, rfl, lx1, lx5, okx, hox, hb2⟩
  have z2 : w.heap.size ≤ w2.heap.size := Nat.le_trans z1 hb2.size
  have B2 := hide (B1.out.trans (hb2.mono z1)); clear B1
  replace S4 := hide (S4.out.below hb2)
  replace S5 := hide (S5.out.below hb2)
  replace S6 := hide (S6.out.below hb2)
  obtain ⟨Ax, cx, rfl, _, _, _⟩ := own_val hox
  have SX := hide (show SlI w2 Ax xs from own_sl hox)
  have OKX := hide okx
  clear hox okx
  clear hb2
  go_wp2_with fail
  have PX := hide (placed_made (by omega) lx1 (by omega) OKX.out)
  obtain ⟨w3, hw3⟩ : ∃ W, W = (w2.alloc (.cells #[.int .i64 n.x, .int .i64 n.y, .int .i64 n.z] 47)) := ⟨_, rfl⟩
  rw [← hw3]
  have hb3 : Below w2.heap.size w2 w3 := by rw [hw3]; go_grown
  have z3 : w.heap.size ≤ w3.heap.size := Nat.le_trans z2 hb3.size
  have B3 := hide (B2.out.trans (hb3.mono z2)); clear B2
  replace S4 := hide (S4.out.below hb3)
  replace S5 := hide (S5.out.below hb3)
  replace S6 := hide (S6.out.below hb3)
  replace SX := hide (SX.out.below hb3)
  have KN := hide (show w3.heap[w2.heap.size]? = some (.cells (vcs n) 47 (0, 0)) by rw [hw3]; exact new_at _ _ (by simp))
  have yN : w2.heap.size < w3.heap.size := by rw [hw3]; simp <;> omega
  clear hw3 hb3
  refine (weights_any xs.length A5 m c5 _ S5.out m5 (by omega) (by omega)).mono ?_
  rintro e w4 ⟨vv, ws, rfl, lwv, w9v, w1v, hov, hb4⟩
  have z4 : w.heap.size ≤ w4.heap.size := Nat.le_trans z3 hb4.size
  have B4 := hide (B3.out.trans (hb4.mono z3)); clear B3
  replace S4 := hide (S4.out.below hb4)
  replace S5 := hide (S5.out.below hb4)
  replace S6 := hide (S6.out.below hb4)
  replace SX := hide (SX.out.below hb4)
  replace KN := hide ((hb4.block _ yN).trans KN.out)
  replace yN := Nat.lt_of_lt_of_le yN hb4.size
  obtain ⟨Av, cv, rfl, _, _, _⟩ := own_val hov
  have SV := hide (show SlN w4 Av ws from own_sl hov)
  have W9V := hide w9v
  have lwv5 : ws.length ≤ 5 := by omega
  have LWV := hide lwv
  clear hov w9v lwv
  clear hb4
  go_wp2_with fail
  refine (chosen_any Ax A6 xs o cx c6 _ SX.out S6.out (by omega) m6 (ok_made (by omega) OKX.out)).mono ?_
  rintro e w5 ⟨vy, ys, rfl, chy, hoy, hb5⟩
  have z5 : w.heap.size ≤ w5.heap.size := Nat.le_trans z4 hb5.size
  have B5 := hide (B4.out.trans (hb5.mono z4)); clear B4
  replace S4 := hide (S4.out.below hb5)
  replace S5 := hide (S5.out.below hb5)
  replace S6 := hide (S6.out.below hb5)
  replace SX := hide (SX.out.below hb5)
  replace SV := hide (SV.out.below hb5)
  replace KN := hide ((hb5.block _ yN).trans KN.out)
  replace yN := Nat.lt_of_lt_of_le yN hb5.size
  have hly := chy.1
  have hly8 : ys.length ≤ 5 := by omega
  have hly1 : 1 ≤ ys.length := by omega
  obtain ⟨Ay, cy, rfl, _, _, _⟩ := own_val hoy
  have SY := hide (show SlI w5 Ay ys from own_sl hoy)
  have CHY := hide chy
  clear hoy chy hly
  clear hb5
  go_wp2_with fail
  have PY := hide (CHY.out.placed PX.out)
  have LY := hide CHY.out.1
  obtain ⟨⟨a1, a2⟩, ⟨b1, b2⟩, c1, c2⟩ := inR_of (usable_of HUn.out).1
  go_loopw [17, 18] (fun t i wr => ∃ k : Nat, k ≤ ys.length ∧ i = .int .i64 k ∧ t = .int .i64 (dotL (ws.take k) ((ys.take k).map fun p => dotV n (cornerV p))) ∧ Below w5.heap.size w5 wr) (fun _ i _ => ys.length - (intOf i).toNat)
  case atStart => exact ⟨0, by omega, rfl, by simp [dotL], Below.refl _ _⟩
  case round =>
    obtain ⟨k, hk, rfl, rfl, hb⟩ := hrel
    have HBk := hide hb
    by_cases hkl : k < ys.length
    · have hkw : k < ws.length := by have := LY.out; have := LWV.out; omega
      obtain ⟨b, off, rfl, hbb⟩ := SlI.addr SY.out (by omega)
      obtain ⟨b', off', rfl, hbb'⟩ := SlN.addr SV.out (by omega)
      obtain ⟨h0, _, h2, _, h4, _⟩ := SlI.at_ (Sl.below SY.out hb) hkl
      have h6 := SlN.at_ (Sl.below SV.out hb) hkw
      have hN := blk_cell ((hb.block _ yN).trans KN.out); simp only [vcs] at hN
      have hlt := Nat.lt_of_lt_of_le yN hb.size
      have hlt1 := Nat.lt_of_lt_of_le hbb hb.size
      have hlt2 := Nat.lt_of_lt_of_le hbb' hb.size
      obtain ⟨⟨d1, d2, d3⟩, ⟨e1, e2, e3⟩, f1, f2, f3⟩ := ok_of ((placed_of PY.out).2.2 k hkl)
      obtain ⟨w91, w92⟩ := W9V.out ws[k] (by simp)
      have g1 := mul_bd2 n.x ys[k].x.lo 16384 268435456 a1 a2 (by omega) (by omega)
      have g2 := mul_bd2 n.y ys[k].y.lo 16384 268435456 b1 b2 (by omega) (by omega)
      have g3 := mul_bd2 n.z ys[k].z.lo 16384 268435456 c1 c2 (by omega) (by omega)
      have g4 := mul_bd ws[k] (n.x * ys[k].x.lo + n.y * ys[k].y.lo + n.z * ys[k].z.lo) 9 20000000000000 w91 w92 (by omega) (by omega)
      have g5 := dotV_bd (n := n) (ws := ws) (usable_of HUn.out).1 (fun p hp => by obtain ⟨j, hj, rfl⟩ := List.getElem_of_mem hp; exact (placed_of PY.out).2.2 j hj) W9V.out k (by omega) hk
      have SN := hide (dotL_snocG ws ys (fun p => dotV n (cornerV p)) k hkw hkl)
      generalize hT : dotL (ws.take k) ((ys.take k).map fun p => dotV n (cornerV p)) = T at *
      have hi1 : (0 : Int) ≤ (k : Int) := Int.natCast_nonneg _
      have hi2 : (k : Int) < (ys.length : Int) := by omega
      have hi3 : (k : Int) < (ws.length : Int) := by omega
      have q1 := IntWalk.i64_in (n.x * ys[k].x.lo + n.y * ys[k].y.lo) (by omega)
      have q2 := IntWalk.i64_in (n.x * ys[k].x.lo + n.y * ys[k].y.lo + n.z * ys[k].z.lo) (by omega)
      have q3 := IntWalk.i64_in (T + ws[k] * (n.x * ys[k].x.lo + n.y * ys[k].y.lo + n.z * ys[k].z.lo)) (by omega)
      have HT := hide hT
      clear hT hb
      go_wp2_with fail
      go_quiet (fail)
      clear q1 q2 q3
      go_wp2_with fail
      go_roundw
      case rel => exact ⟨k + 1, by omega, by simp, by rw [SN.out]; rfl, below_drewN HBk.out _⟩
      case measure => simp [intOf] <;> omega
    · obtain rfl : k = ys.length := by omega
      have e1 : ys.take ys.length = ys := List.take_of_length_le (Nat.le_refl _)
      have e2 : ws.take ys.length = ws := List.take_of_length_le (by have := LY.out; have := LWV.out; omega)
      rw [e1, e2]
      obtain ⟨w6, rfl⟩ : ∃ W : World, W = wr := ⟨_, rfl⟩
      clear e1 e2 HBk
      have z6 : w.heap.size ≤ w6.heap.size := Nat.le_trans z5 hb.size
      have B6 := hide (B5.out.trans (hb.mono z5)); clear B5
      replace S4 := hide (S4.out.below hb)
      replace S5 := hide (S5.out.below hb)
      replace S6 := hide (S6.out.below hb)
      replace SX := hide (SX.out.below hb)
      replace SV := hide (SV.out.below hb)
      replace SY := hide (SY.out.below hb)
      replace KN := hide ((hb.block _ yN).trans KN.out)
      replace yN := Nat.lt_of_lt_of_le yN hb.size
      have vw := valW_between n CHY.out LWV.out (fun x hx => (W9V.out x hx).1)
      unfold valW at vw
      generalize hT : dotL ws (ys.map fun p => dotV n (cornerV p)) = T at *
      have sw := sum_le ws 9 (fun x hx => (W9V.out x hx).2)
      have hws : ws.sum ≤ 45 := by omega
      have VW := hide vw
      clear hb hkl hk hT vw
      have cN := blk_cell KN.out; simp only [vcs] at cN
      go_wp2_with fail
      clear cN
      refine (least_any n Ax xs cx _ SX.out (by omega)).mono ?_
      rintro e w7 ⟨rfl, hb7⟩
      have z7 : w.heap.size ≤ w7.heap.size := Nat.le_trans z6 hb7.size
      have B7 := hide (B6.out.trans (hb7.mono z6)); clear B6
      replace S4 := hide (S4.out.below hb7)
      replace S5 := hide (S5.out.below hb7)
      replace S6 := hide (S6.out.below hb7)
      replace SX := hide (SX.out.below hb7)
      replace SV := hide (SV.out.below hb7)
      replace SY := hide (SY.out.below hb7)
      replace KN := hide ((hb7.block _ yN).trans KN.out)
      replace yN := Nat.lt_of_lt_of_le yN hb7.size
      rw [leastR_yes (HUn.out) PX.out]
      generalize hP1 : leastV n xs = P1
      generalize hI1 : leastI n xs = I1
      have HP1 := hide hP1; have HI1 := hide hI1; clear hP1 hI1
      clear hb7
      have bd1 := leastV_bd HUn.out PX.out; rw [HP1.out] at bd1
      have cN := blk_cell KN.out; simp only [vcs] at cN
      go_wp2_with fail
      clear cN
      refine (greatest_any n Ax xs cx _ SX.out (by omega)).mono ?_
      rintro e w8 ⟨rfl, hb8⟩
      have z8 : w.heap.size ≤ w8.heap.size := Nat.le_trans z7 hb8.size
      have B8 := hide (B7.out.trans (hb8.mono z7)); clear B7
      replace S4 := hide (S4.out.below hb8)
      replace S5 := hide (S5.out.below hb8)
      replace S6 := hide (S6.out.below hb8)
      replace SX := hide (SX.out.below hb8)
      replace SV := hide (SV.out.below hb8)
      replace SY := hide (SY.out.below hb8)
      replace KN := hide ((hb8.block _ yN).trans KN.out)
      replace yN := Nat.lt_of_lt_of_le yN hb8.size
      rw [greatR_yes (HUn.out) PX.out]
      generalize hP2 : greatV n xs = P2
      generalize hI2 : greatI n xs = I2
      have HP2 := hide hP2; have HI2 := hide hI2; clear hP2 hI2
      clear hb8
      have bd2 := greatV_bd HUn.out PX.out; rw [HP2.out] at bd2
      go_wp2_with fail
      refine (total_any Av ws cv _ SV.out (fun x hx => by have := W9V.out x hx; omega) (by omega)).mono ?_
      rintro e w' ⟨rfl, rfl⟩
      have tw := VW.out
      rw [HP1.out, HP2.out] at tw
      obtain ⟨t1, t2⟩ := tw
      have m1 := mul_bd ws.sum P1 45 13194139533312 (by omega) hws (by omega) (by omega)
      have m2 := mul_bd ws.sum P2 45 13194139533312 (by omega) hws (by omega) (by omega)
      rw [Int.mul_comm ws.sum P1] at m1
      rw [Int.mul_comm ws.sum P2] at m2
      go_wp2_with fail
      refine (awake13 _).mono ?_
      rintro e w9 ⟨rfl, hb9⟩
      have z9 : w.heap.size ≤ w9.heap.size := Nat.le_trans z8 hb9.size
      have B9 := hide (B8.out.trans (hb9.mono z8)); clear B8
      replace S4 := hide (S4.out.below hb9)
      replace S5 := hide (S5.out.below hb9)
      replace S6 := hide (S6.out.below hb9)
      replace SX := hide (SX.out.below hb9)
      replace SV := hide (SV.out.below hb9)
      replace SY := hide (SY.out.below hb9)
      replace KN := hide ((hb9.block _ yN).trans KN.out)
      replace yN := Nat.lt_of_lt_of_le yN hb9.size
      clear hb9
      go_wp2_with fail
      go_ret
      exact ⟨by simp, B9.out⟩
end Go.Proofs.Ytionbckpgfaneaa
