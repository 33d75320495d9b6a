/- Walks, part v: Norm, Dot. -/
import Derived.Test.YtionbckpgfaneaaWu
import Derived.Deep.QuietTactic
import Derived.BigQuiet
namespace Go.Proofs.Ytionbckpgfaneaa
open Go.RowKit
set_option maxHeartbeats 1000000
set_option maxRecDepth 100000
attribute [local go_sem] index44_0 index44_1 index44_2 index47_0 index47_1 index47_2 eq47
theorem sq_bd14 {v : V3} (h : inR v = true) : (0 ≤ v.x * v.x ∧ v.x * v.x ≤ 268435456) ∧ (0 ≤ v.y * v.y ∧ v.y * v.y ≤ 268435456) ∧ (0 ≤ v.z * v.z ∧ v.z * v.z ≤ 268435456) := by
  obtain ⟨a, b, c⟩ := inR_of h
  have := sq_nn v.x; have := sq_nn v.y; have := sq_nn v.z
  have := sq_bd a.1 a.2; have := sq_bd b.1 b.2; have := sq_bd c.1 c.2
  omega
/-- support.Norm -/
theorem norm_any (v : V3) (w : World) :
    Calls Try.prog 61 #[.agg #[.int .i64 v.x, .int .i64 v.y, .int .i64 v.z]] w fun e w' => e = .returned (.int .i64 (normF v)) ∧ Below w.heap.size w w' := by
  go_enter Try.func61, Try.ntmps61
  go_wp2_with fail
  refine (usable_any v _).mono ?_
  rintro e w1 ⟨rfl, hb1⟩
  have hN : w1.heap[w.heap.size]? = some (.cells #[.int .i64 v.x, .int .i64 v.y, .int .i64 v.z] 47 (0, 0)) := (hb1.block _ (by simp)).trans (heap_alloc_new w _)
  have hc := blk_cell hN
  have hz : w.heap.size < w1.heap.size := by have := hb1.size; simp at this; omega
  have HB := hide (show Below w.heap.size w w1 from ((Below.refl _ _).alloc (Nat.le_refl _) _).trans (hb1.mono (by simp)))
  clear hN hb1
  cases hu : usable v
  · have H := hide (show normF v = 0 by simp [normF, hu])
    go_wp2_with fail
    go_ret
    exact ⟨ret_int H.out.symm, HB.out⟩
  · have H := hide (show normF v = rootUp (lenSq v) by simp [normF, hu])
    obtain ⟨⟨s1, s2⟩, ⟨s3, s4⟩, s5, s6⟩ := sq_bd14 (usable_of hu).1
    have hl : 1 ≤ v.x * v.x + v.y * v.y + v.z * v.z := lenSq_pos (usable_of hu).2
    clear hu
    go_wp2_with fail
    refine (rootUp_any (v.x * v.x + v.y * v.y + v.z * v.z) _ hl (by omega)).mono ?_
    rintro e w2 ⟨rfl, m, rfl⟩
    go_wp2_with fail
    go_ret
    exact ⟨ret_int H.out.symm, below_drewN HB.out _⟩
/-- armplanref10.Norm -/
theorem norm_ref (v : V3) (w : World) :
    Calls Try.prog 71 #[.agg #[.int .i64 v.x, .int .i64 v.y, .int .i64 v.z]] w fun e w' => e = .returned (.int .i64 (normF v)) ∧ Below w.heap.size w w' := by
  go_enter Try.func71, Try.ntmps71
  go_wp2_with fail
  refine (usable_ref v _).mono ?_
  rintro e w1 ⟨rfl, hb1⟩
  have hN : w1.heap[w.heap.size]? = some (.cells #[.int .i64 v.x, .int .i64 v.y, .int .i64 v.z] 47 (0, 0)) := (hb1.block _ (by simp)).trans (heap_alloc_new w _)
  have hc := blk_cell hN
  have hz : w.heap.size < w1.heap.size := by have := hb1.size; simp at this; omega
  have HB := hide (show Below w.heap.size w w1 from ((Below.refl _ _).alloc (Nat.le_refl _) _).trans (hb1.mono (by simp)))
  clear hN hb1
  cases hu : usable v
  · have H := hide (show normF v = 0 by simp [normF, hu])
    go_wp2_with fail
    go_ret
    exact ⟨ret_int H.out.symm, HB.out⟩
  · have H := hide (show normF v = rootUp (lenSq v) by simp [normF, hu])
    obtain ⟨⟨s1, s2⟩, ⟨s3, s4⟩, s5, s6⟩ := sq_bd14 (usable_of hu).1
    have hl : 1 ≤ v.x * v.x + v.y * v.y + v.z * v.z := lenSq_pos (usable_of hu).2
    clear hu
    go_wp2_with fail
    refine (rootUp_ref (v.x * v.x + v.y * v.y + v.z * v.z) _ hl (by omega)).mono ?_
    rintro e w2 ⟨rfl, rfl⟩
    go_wp2_with fail
    go_ret
    exact ⟨ret_int H.out.symm, HB.out⟩
/-- partial sums of a scalar product -/
def acc3 (a b c k : Int) : Int := if k = 0 then 0 else if k = 1 then a else if k = 2 then a + b else a + b + c
def mn (n : Int) (a : Iv) : Int := min (n * a.lo) (n * a.hi)
def mx (n : Int) (a : Iv) : Int := max (n * a.lo) (n * a.hi)
def DInv (w : World) (n : V3) (v : IV) (t u i : Value) (wr : World) : Prop :=
  ∃ k : Int, i = .int .i64 k ∧ 0 ≤ k ∧ k ≤ 3 ∧ t = .int .i64 (acc3 (mn n.x v.x) (mn n.y v.y) (mn n.z v.z) k) ∧ u = .int .i64 (acc3 (mx n.x v.x) (mx n.y v.y) (mx n.z v.z) k) ∧
    wr.heap[w.heap.size]? = some (.cells #[.int .i64 n.x, .int .i64 n.y, .int .i64 n.z] 47 (0, 0)) ∧ Below w.heap.size w wr
theorem mn_bd (n : Int) (a : Iv) (h1 : -16384 ≤ n) (h2 : n ≤ 16384) (h3 : -268435456 ≤ a.lo) (h4 : a.lo ≤ a.hi) (h5 : a.hi ≤ 268435456) :
    (-4398046511104 ≤ n * a.lo ∧ n * a.lo ≤ 4398046511104) ∧ (-4398046511104 ≤ n * a.hi ∧ n * a.hi ≤ 4398046511104) := by
  have g1 := mul_bd2 n a.lo 16384 268435456 h1 h2 (by omega) (by omega)
  have g2 := mul_bd2 n a.hi 16384 268435456 h1 h2 (by omega) (by omega)
  omega
/-- support.dot -/
theorem dot_any (n : V3) (v : IV) (w : World) (hn : inR n = true) (hv : v.ok = true) :
    Calls Try.prog 144 #[.agg #[.int .i64 n.x, .int .i64 n.y, .int .i64 n.z], .agg #[.int .i64 v.x.lo, .int .i64 v.x.hi, .int .i64 v.y.lo, .int .i64 v.y.hi, .int .i64 v.z.lo, .int .i64 v.z.hi]] w
      fun e w' => e = .returned (.tuple #[.int .i64 (dlo n v), .int .i64 (dhi n v)]) ∧ Below w.heap.size w w' := by
  obtain ⟨⟨a1, a2⟩, ⟨b1, b2⟩, c1, c2⟩ := inR_of hn
  obtain ⟨⟨d1, d2, d3⟩, ⟨e1, e2, e3⟩, f1, f2, f3⟩ := ok_of hv
  clear hn hv
  obtain ⟨⟨x1, x2⟩, x3, x4⟩ := mn_bd n.x v.x a1 a2 d1 d2 d3
  obtain ⟨⟨y1, y2⟩, y3, y4⟩ := mn_bd n.y v.y b1 b2 e1 e2 e3
  obtain ⟨⟨z1, z2⟩, z3, z4⟩ := mn_bd n.z v.z c1 c2 f1 f2 f3
  have mx1 : -4398046511104 ≤ mn n.x v.x ∧ mn n.x v.x ≤ 4398046511104 := by unfold mn; omega
  have mx2 : -4398046511104 ≤ mn n.y v.y ∧ mn n.y v.y ≤ 4398046511104 := by unfold mn; omega
  have mx3 : -4398046511104 ≤ mx n.x v.x ∧ mx n.x v.x ≤ 4398046511104 := by unfold mx; omega
  have mx4 : -4398046511104 ≤ mx n.y v.y ∧ mx n.y v.y ≤ 4398046511104 := by unfold mx; omega
  go_enter Try.func144, Try.ntmps144
  go_wp2_with fail
  go_loopw [6, 7, 13] (fun t u i wr => DInv w n v t u i wr) (fun _ _ i _ => 3 - (intOf i).toNat)
  case atStart => exact ⟨0, rfl, by omega, by omega, rfl, rfl, (Below.heap_alloc _ _ _ (by simp)).trans (heap_alloc_new w _), by go_grown⟩
  case round =>
    obtain ⟨k, rfl, hk0, hk3, rfl, rfl, jN, jB⟩ := hrel
    have JN := hide jN; have JB := hide jB; have jz := jB.size
    have jlt : w.heap.size < wr.heap.size := by
      rcases Nat.lt_or_ge w.heap.size wr.heap.size with h | h
      · exact h
      · rw [Array.getElem?_eq_none h] at jN; cases jN
    have hc := blk_cell jN
    clear jN jB
    obtain rfl | rfl | rfl | rfl : k = 0 ∨ k = 1 ∨ k = 2 ∨ k = 3 := by omega
    · simp only [acc3]
      go_wp2_with fail
      go_quiet (fail)
      go_wp2_with fail
      go_roundw
      case rel => exact ⟨1, rfl, by omega, by omega, rfl, rfl, (Below.heap_alloc _ _ _ jlt).trans JN.out, below_drewN (JB.out.alloc jz _) _⟩
      case measure => simp [intOf]
    · simp only [acc3]
      go_wp2_with fail
      go_quiet (fail)
      go_wp2_with fail
      go_roundw
      case rel => exact ⟨2, rfl, by omega, by omega, rfl, rfl, (Below.heap_alloc _ _ _ jlt).trans JN.out, below_drewN (JB.out.alloc jz _) _⟩
      case measure => simp [intOf]
    · simp only [acc3]
      go_wp2_with fail
      go_quiet (fail)
      go_wp2_with fail
      go_roundw
      case rel => exact ⟨3, rfl, by omega, by omega, rfl, rfl, (Below.heap_alloc _ _ _ jlt).trans JN.out, below_drewN (JB.out.alloc jz _) _⟩
      case measure => simp [intOf]
    · simp only [acc3]
      go_wp2_with fail
      go_ret2
      exact ⟨rfl, JB.out⟩
def dotOk (n : V3) (v : IV) : Bool := usable n && v.ok
/-- what Dot returns -/
def dotR (n : V3) (v : IV) : Value := if dotOk n v then .tuple #[.int .i64 (dlo n v), .int .i64 (dhi n v)] else .tuple #[.int .i64 0, .int .i64 0]
theorem dotR_no {n : V3} {v : IV} (h : dotOk n v = false) : dotR n v = .tuple #[.int .i64 0, .int .i64 0] := by simp [dotR, h]
theorem dotR_yes {n : V3} {v : IV} (h : dotOk n v = true) : dotR n v = .tuple #[.int .i64 (dlo n v), .int .i64 (dhi n v)] := by simp [dotR, h]
theorem placedB_one (v : IV) : placedB [v] = v.ok := by simp [placedB]
theorem Sl.newW (w : World) (cs : Array Value) (t : TypeId) : Sl (w.alloc (.cells cs t)) (some ⟨w.heap.size, 0, none⟩) cs.toList := fun _ =>
  ⟨w.heap.size, 0, rfl, by simp, fun j u hu => by
    rw [Nat.zero_add, blk_cell (heap_alloc_new w _) j]
    simpa using hu⟩
/-- support.Dot -/
theorem Dot_any (n : V3) (v : IV) (w : World) :
    Calls Try.prog 109 #[.agg #[.int .i64 n.x, .int .i64 n.y, .int .i64 n.z], .agg #[.int .i64 v.x.lo, .int .i64 v.x.hi, .int .i64 v.y.lo, .int .i64 v.y.hi, .int .i64 v.z.lo, .int .i64 v.z.hi]] w
      fun e w' => e = .returned (dotR n v) ∧ Below w.heap.size w w' := by
  go_enter Try.func109, Try.ntmps109
  go_wp2_with fail
  refine (usable_any n _).mono ?_
  rintro e w1 ⟨rfl, hb1⟩
  have hN : w1.heap[w.heap.size]? = some (.cells #[.int .i64 n.x, .int .i64 n.y, .int .i64 n.z] 47 (0, 0)) := (hb1.block _ (by simp; omega)).trans ((Below.heap_alloc _ _ _ (by simp)).trans (heap_alloc_new w _))
  have hV : w1.heap[w.heap.size + 1]? = some (.cells #[.int .i64 v.x.lo, .int .i64 v.x.hi, .int .i64 v.y.lo, .int .i64 v.y.hi, .int .i64 v.z.lo, .int .i64 v.z.hi] 44 (0, 0)) := (hb1.block _ (by simp)).trans (new_at _ _ (by simp))
  have hz : w.heap.size + 1 < w1.heap.size := by have := hb1.size; simp at this; omega
  have hz0 : w.heap.size < w1.heap.size := by omega
  have HB := hide (show Below w.heap.size w w1 from (((Below.refl _ _).alloc (Nat.le_refl _) _).alloc (by simp) _).trans (hb1.mono (by simp; omega)))
  have HN := hide hN; have HV := hide hV
  clear hb1 hN hV
  cases hu : usable n
  · have H := hide (dotR_no (show dotOk n v = false by simp [dotOk, hu]))
    go_wp2_with fail
    go_ret2
    exact ⟨by rw [H.out]; rfl, HB.out⟩
  · have hc := blk_cell HV.out
    go_wp2_with fail
    refine (placed_any (some ⟨w1.heap.size, 0, none⟩) [v] 1 _ (Sl.newW w1 _ 44) (by simp)).mono ?_
    rintro e w2 ⟨rfl, hb2⟩
    rw [placedB_one]
    have hc2 := blk_cell ((hb2.block _ (by simp; omega)).trans ((Below.heap_alloc _ _ _ hz).trans HV.out))
    have hd2 := blk_cell ((hb2.block _ (by simp; omega)).trans ((Below.heap_alloc _ _ _ hz0).trans HN.out))
    have hz2 : w.heap.size + 1 < w2.heap.size := by have := hb2.size; simp at this; omega
    have hz3 : w.heap.size < w2.heap.size := by omega
    have HB2 := hide (show Below w.heap.size w w2 from (HB.out.alloc (by omega) _).trans (hb2.mono (by simp; omega)))
    clear hb2 hc
    cases ho : v.ok
    · have H := hide (dotR_no (show dotOk n v = false by simp [dotOk, ho]))
      go_wp2_with fail
      go_ret2
      exact ⟨by rw [H.out]; rfl, HB2.out⟩
    · have H := hide (dotR_yes (show dotOk n v = true by simp [dotOk, ho, hu]))
      have HU := hide (usable_of hu).1; have HO := hide ho
      clear hu ho
      go_wp2_with fail
      refine (dot_any n v _ HU.out HO.out).mono ?_
      rintro e w3 ⟨rfl, hb3⟩
      have HB3 := hide (show Below w.heap.size w w3 from HB2.out.trans (hb3.mono (by omega)))
      clear hb3 hc2 hd2
      go_wp2_with fail
      go_ret2
      exact ⟨by rw [H.out]; rfl, HB3.out⟩
end Go.Proofs.Ytionbckpgfaneaa
