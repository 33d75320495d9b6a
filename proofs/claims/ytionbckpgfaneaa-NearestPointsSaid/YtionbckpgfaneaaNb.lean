/- Walks of the search, part b: rounding up, closeness. -/
import Derived.Test.YtionbckpgfaneaaNa
import Derived.Deep.QuietTactic
import Derived.BigQuiet
namespace Go.Proofs.Ytionbckpgfaneaa
open Go.RowKit
set_option maxHeartbeats 1000000
set_option maxRecDepth 100000
attribute [local go_sem] index47_0 index47_1 index47_2
theorem ceil16 (a : Int) (_h0 : 0 ≤ a) : (a / 65536 * 65536 = a → a / 65536 = ceilF a 65536) ∧ (a / 65536 * 65536 ≠ a → a / 65536 + 1 = ceilF a 65536) := by
  unfold ceilF
  omega
/-- fixed.ShiftUp by 16 -/
theorem shiftUp_any (a : Int) (w : World) (h0 : 0 ≤ a) (h1 : a ≤ 1000000000000000000) :
    Calls Try.prog 176 #[.int .i64 a, .int .i64 16] w fun e w' => e = .returned (.int .i64 (ceilF a 65536)) ∧ w = w' := by
  obtain ⟨c1, c2⟩ := ceil16 a h0
  have b1 : 0 ≤ a / 65536 := by omega
  have b2 : a / 65536 * 65536 ≤ 1000000000000000000 := by omega
  by_cases hc : a / 65536 * 65536 = a
  · have H := hide (c1 hc)
    have hb : (a / 65536 * 65536 != a) = false := by simp [hc]
    clear c1 c2 hc
    go_enter Try.func176, Try.ntmps176
    go_wp2
    all_goals
      go_ret
      exact ⟨ret_int H.out, rfl⟩
  · have H := hide (c2 hc)
    have hb : (a / 65536 * 65536 != a) = true := by simp [hc]
    clear c1 c2 hc
    go_enter Try.func176, Try.ntmps176
    go_wp2
    all_goals
      go_ret
      exact ⟨ret_int H.out, rfl⟩
theorem up16_bd {z : Int} (h1 : -35184372088832 ≤ z) (h2 : z ≤ 35184372088832) : 0 ≤ up16 z ∧ up16 z ≤ 536870912 := by
  unfold up16 ceilF
  omega
def clAcc (w : V3) (k : Int) : Int := if k = 0 then 0 else if k = 1 then up16 w.x * up16 w.x else if k = 2 then up16 w.x * up16 w.x + up16 w.y * up16 w.y else up16 w.x * up16 w.x + up16 w.y * up16 w.y + up16 w.z * up16 w.z
def WB (v : V3) : Prop := (-35184372088832 ≤ v.x ∧ v.x ≤ 35184372088832) ∧ (-35184372088832 ≤ v.y ∧ v.y ≤ 35184372088832) ∧ (-35184372088832 ≤ v.z ∧ v.z ≤ 35184372088832)
theorem shiftUp16 (z : Int) (w : World) (h1 : -35184372088832 ≤ z) (h2 : z ≤ 35184372088832) : Calls Try.prog 176 #[.int .i64 (max z (-z)), .int .i64 16] w fun e w' => e = .returned (.int .i64 (up16 z)) ∧ w = w' := shiftUp_any _ w (by omega) (by omega)
/-- nearest.isClose -/
theorem isClose_any (v : V3) (rho : Int) (w : World) (hv : WB v) (h0 : 0 ≤ rho) (h1 : rho ≤ 2097152) :
    Calls Try.prog 164 #[.agg #[.int .i64 v.x, .int .i64 v.y, .int .i64 v.z], .int .i64 rho] w fun e w' => e = .returned (.bool (closeF v rho)) ∧ Below w.heap.size w w' := by
  obtain ⟨⟨x1, x2⟩, ⟨y1, y2⟩, z1, z2⟩ := hv
  obtain ⟨p1, p2⟩ := up16_bd x1 x2
  obtain ⟨p3, p4⟩ := up16_bd y1 y2
  obtain ⟨p5, p6⟩ := up16_bd z1 z2
  have m1 := mul_bd (up16 v.x) (up16 v.x) 536870912 536870912 p1 p2 (by omega) p2
  have m2 := mul_bd (up16 v.y) (up16 v.y) 536870912 536870912 p3 p4 (by omega) p4
  have m3 := mul_bd (up16 v.z) (up16 v.z) 536870912 536870912 p5 p6 (by omega) p6
  have s1 := sq_nn (up16 v.x); have s2 := sq_nn (up16 v.y); have s3 := sq_nn (up16 v.z)
  have m4 := mul_bd rho rho 2097152 2097152 h0 h1 (by omega) h1
  go_enter Try.func164, Try.ntmps164
  go_wp2_with fail
  go_loop [5, 10] (fun t i => ∃ k : Int, i = .int .i64 k ∧ 0 ≤ k ∧ k ≤ 3 ∧ t = .int .i64 (clAcc v k)) (fun _ i => 3 - (intOf i).toNat)
  case atStart => exact ⟨0, rfl, by omega, by omega, rfl⟩
  case round =>
    obtain ⟨k, rfl, hk0, hk3, rfl⟩ := hrel
    obtain rfl | rfl | rfl | rfl : k = 0 ∨ k = 1 ∨ k = 2 ∨ k = 3 := by omega
    · simp only [clAcc]
      go_wp2_with fail
      refine (shiftUp16 v.x _ (by omega) (by omega)).mono ?_
      rintro e w' ⟨rfl, rfl⟩
      go_wp2_with fail
      go_round
      case rel => exact ⟨1, rfl, by omega, by omega, rfl⟩
      case measure => simp [intOf]
    · simp only [clAcc]
      go_wp2_with fail
      refine (shiftUp16 v.y _ (by omega) (by omega)).mono ?_
      rintro e w' ⟨rfl, rfl⟩
      go_wp2_with fail
      go_round
      case rel => exact ⟨2, rfl, by omega, by omega, rfl⟩
      case measure => simp [intOf]
    · simp only [clAcc]
      go_wp2_with fail
      refine (shiftUp16 v.z _ (by omega) (by omega)).mono ?_
      rintro e w' ⟨rfl, rfl⟩
      go_wp2_with fail
      go_round
      case rel => exact ⟨3, rfl, by omega, by omega, rfl⟩
      case measure => simp [intOf]
    · simp only [clAcc]
      go_wp2_with fail
      go_ret
      exact ⟨rfl, by go_grown⟩
def ClInv (w : World) (v : V3) (t i : Value) (wr : World) : Prop := ∃ k : Int, i = .int .i64 k ∧ 0 ≤ k ∧ k ≤ 3 ∧ t = .int .i64 (clAcc v k) ∧ wr.heap[w.heap.size]? = some (.cells (vcs v) 47 (0, 0)) ∧ Below w.heap.size w wr ∧ w.heap.size < wr.heap.size
theorem ceil16_max (z : Int) (w : World) (h1 : -35184372088832 ≤ z) (h2 : z ≤ 35184372088832) :
    Calls Try.prog 54 #[.int .i64 (max z (-z)), .int .i64 65536] w fun e w' => e = .returned (.int .i64 (up16 z)) ∧ w = w' := ceil_any _ 65536 w ⟨by omega, by omega⟩ (by omega)
/-- armplanref14.near -/
theorem near14_any (v : V3) (rho : Int) (w : World) (hv : WB v) (h0 : 0 ≤ rho) (h1 : rho ≤ 2097152) :
    Calls Try.prog 158 #[.agg #[.int .i64 v.x, .int .i64 v.y, .int .i64 v.z], .int .i64 rho] w fun e w' => e = .returned (.bool (closeF v rho)) ∧ Below w.heap.size w w' := by
  obtain ⟨⟨x1, x2⟩, ⟨y1, y2⟩, z1, z2⟩ := hv
  obtain ⟨p1, p2⟩ := up16_bd x1 x2
  obtain ⟨p3, p4⟩ := up16_bd y1 y2
  obtain ⟨p5, p6⟩ := up16_bd z1 z2
  have m1 := mul_bd (up16 v.x) (up16 v.x) 536870912 536870912 p1 p2 (by omega) p2
  have m2 := mul_bd (up16 v.y) (up16 v.y) 536870912 536870912 p3 p4 (by omega) p4
  have m3 := mul_bd (up16 v.z) (up16 v.z) 536870912 536870912 p5 p6 (by omega) p6
  have s1 := sq_nn (up16 v.x); have s2 := sq_nn (up16 v.y); have s3 := sq_nn (up16 v.z)
  have m4 := mul_bd rho rho 2097152 2097152 h0 h1 (by omega) h1
  go_enter Try.func158, Try.ntmps158
  go_wp2_with fail
  go_loopw [5, 6] (fun t i wr => ClInv w v t i wr) (fun _ i _ => 3 - (intOf i).toNat)
  case atStart => exact ⟨0, rfl, by omega, by omega, rfl, heap_alloc_new w _, by go_grown, by simp⟩
  case round =>
    obtain ⟨k, rfl, hk0, hk3, rfl, jN, jB, jz⟩ := hrel
    have JN := hide jN; have JB := hide jB
    have hc := blk_cell jN; simp only [vcs] at hc
    clear jN jB
    obtain rfl | rfl | rfl | rfl : k = 0 ∨ k = 1 ∨ k = 2 ∨ k = 3 := by omega
    · simp only [clAcc]
      have q1 := IntWalk.i64_in (-v.x) (by omega)
      go_wp2_with fail
      go_quiet ((go_at_call 54; exact quiet_same (ceil16_max v.x _ (by omega) (by omega))))
      clear q1
      go_wp2_with fail
      go_roundw
      case rel => exact ⟨1, rfl, by omega, by omega, rfl, JN.out, below_drewN JB.out _, jz⟩
      case measure => simp [intOf]
    · simp only [clAcc]
      have q1 := IntWalk.i64_in (-v.y) (by omega)
      go_wp2_with fail
      go_quiet ((go_at_call 54; exact quiet_same (ceil16_max v.y _ (by omega) (by omega))))
      clear q1
      go_wp2_with fail
      go_roundw
      case rel => exact ⟨2, rfl, by omega, by omega, rfl, JN.out, below_drewN JB.out _, jz⟩
      case measure => simp [intOf]
    · simp only [clAcc]
      have q1 := IntWalk.i64_in (-v.z) (by omega)
      go_wp2_with fail
      go_quiet ((go_at_call 54; exact quiet_same (ceil16_max v.z _ (by omega) (by omega))))
      clear q1
      go_wp2_with fail
      go_roundw
      case rel => exact ⟨3, rfl, by omega, by omega, rfl, JN.out, below_drewN JB.out _, jz⟩
      case measure => simp [intOf]
    · simp only [clAcc]
      go_wp2_with fail
      go_ret
      exact ⟨rfl, JB.out⟩
end Go.Proofs.Ytionbckpgfaneaa
