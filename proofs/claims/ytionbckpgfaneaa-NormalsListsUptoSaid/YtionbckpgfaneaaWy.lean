/- Walks, part y: the comparisons of the support statements. -/
import Derived.Test.YtionbckpgfaneaaXc
import Derived.Deep.RegionHeld3
import Derived.Deep.DrawnRows
namespace Go.Proofs.Ytionbckpgfaneaa
open Go.RowKit
set_option maxHeartbeats 1000000
set_option maxRecDepth 100000
attribute [local go_sem] eq47
theorem dot_aw : dotR ⟨1, -2, 0⟩ ⟨⟨0, 1⟩, ⟨3, 4⟩, ⟨5, 5⟩⟩ = .tuple #[.int .i64 (-8), .int .i64 (-5)] := by kernel_rfl
theorem norm_aw : normF ⟨1, 1, 1⟩ = 2 := by
  have h : usable ⟨1, 1, 1⟩ = true := rfl
  unfold normF
  rw [if_pos h]
  exact rootUp_eq ⟨by omega, by decide, fun _ => by decide⟩
/-- armplanlaw13.awake -/
theorem awake13 (w : World) : Calls Try.prog 56 #[] w fun e w' => e = .returned (.bool true) ∧ Below w.heap.size w w' := by
  go_enter Try.func56, Try.ntmps56
  go_wp2_with fail
  refine (Dot_any ⟨1, -2, 0⟩ ⟨⟨0, 1⟩, ⟨3, 4⟩, ⟨5, 5⟩⟩ _).mono ?_
  rintro e w1 ⟨rfl, hb1⟩
  rw [dot_aw]
  have HB := hide hb1; clear hb1
  go_wp2_with fail
  refine (norm_any ⟨1, 1, 1⟩ _).mono ?_
  rintro e w2 ⟨rfl, hb2⟩
  rw [norm_aw]
  have HB2 := hide (HB.out.trans (hb2.mono HB.out.size)); clear hb2
  go_wp2_with fail
  go_ret
  exact ⟨rfl, HB2.out⟩
theorem dotR_form (n : V3) (v : IV) : dotR n v = .tuple #[.int .i64 (if dotOk n v then dlo n v else 0), .int .i64 (if dotOk n v then dhi n v else 0)] := by
  unfold dotR
  split <;> simp_all
/-- armplanlaw13.dots -/
theorem dots_any (n : V3) (v : IV) (w : World) :
    Calls Try.prog 57 #[.agg #[.int .i64 n.x, .int .i64 n.y, .int .i64 n.z], .agg #[.int .i64 v.x.lo, .int .i64 v.x.hi, .int .i64 v.y.lo, .int .i64 v.y.hi, .int .i64 v.z.lo, .int .i64 v.z.hi]] w
      fun e w' => e = .returned (.bool true) ∧ Below w.heap.size w w' := by
  go_enter Try.func57, Try.ntmps57
  go_wp2_with fail
  refine (Dot_any n v _).mono ?_
  rintro e w1 ⟨rfl, hb1⟩
  rw [dotR_form]
  generalize hX : (if dotOk n v then dlo n v else 0) = X
  generalize hY : (if dotOk n v then dhi n v else 0) = Y
  have HX := hide hX; have HY := hide hY; clear hX hY
  have hN : w1.heap[w.heap.size]? = some (.cells (vcs n) 47 (0, 0)) := (hb1.block _ (by simp; omega)).trans ((Below.heap_alloc _ _ _ (by simp)).trans (heap_alloc_new w _))
  have hV : w1.heap[w.heap.size + 1]? = some (.cells (ivs v) 44 (0, 0)) := (hb1.block _ (by simp)).trans (new_at _ _ (by simp))
  have hz : w.heap.size + 1 < w1.heap.size := by have := hb1.size; simp at this; omega
  have hz0 : w.heap.size < w1.heap.size := by omega
  have HB := hide (show Below w.heap.size w w1 from (((Below.refl _ _).alloc (Nat.le_refl _) _).alloc (by simp) _).trans (hb1.mono (by simp; omega)))
  have c1 := blk_cell hN; have c2 := blk_cell hV
  simp only [vcs, ivs] at c1 c2
  clear hb1 hN hV
  go_wp2_with fail
  refine (dot_ref n v _).mono ?_
  rintro e w2 ⟨rfl, hb2⟩
  rw [dotR_form, HX.out, HY.out]
  have HB2 := hide (HB.out.trans (hb2.mono (by omega))); clear hb2 c1 c2
  go_wp2_with fail
  go_ret
  exact ⟨by simp, HB2.out⟩
theorem keepc {w w' : World} {N b : Nat} {f : Nat → Option Value} (h : Below N w w') (hz : b < N) (k : ∀ i, w.cell? ⟨b, i, none⟩ = f i) : ∀ i, w'.cell? ⟨b, i, none⟩ = f i := fun i => (h.cell (p := ⟨b, i, none⟩) hz).trans (k i)
/-- armplanlaw13.normals -/
theorem normals_any (v : V3) (w : World) (hv : v.ok64) :
    Calls Try.prog 58 #[.agg #[.int .i64 v.x, .int .i64 v.y, .int .i64 v.z]] w fun e w' => e = .returned (.bool true) ∧ Below w.heap.size w w' := by
  have OK := hide hv; clear hv
  go_enter Try.func58, Try.ntmps58
  go_wp2_with fail
  refine (normal_any v _ OK.out).mono ?_
  rintro e w1 ⟨rfl, hb1⟩
  unfold normalR
  generalize hX : normalF v = X
  have HX := hide hX; clear hX
  have hN : w1.heap[w.heap.size]? = some (.cells (vcs v) 47 (0, 0)) := (hb1.block _ (by simp)).trans (heap_alloc_new w _)
  have hz0 : w.heap.size < w1.heap.size := by have := hb1.size; simp at this; omega
  have HB := hide (show Below w.heap.size w w1 from (((Below.refl _ _).alloc (Nat.le_refl _) _)).trans (hb1.mono (by simp)))
  have c1 := blk_cell hN
  simp only [vcs] at c1
  have HN := hide hN
  clear hb1 hN
  go_wp2_with fail
  refine (normal_ref v _ OK.out).mono ?_
  rintro e w2 ⟨rfl, hb2⟩
  unfold normalR
  rw [HX.out]
  have hN2 := (hb2.block _ (by simp; omega)).trans ((Below.heap_alloc w1 _ _ hz0).trans HN.out)
  have hX2 : w2.heap[w1.heap.size]? = some (.cells (vcs X) 47 (0, 0)) := (hb2.block _ (by simp)).trans (heap_alloc_new w1 _)
  have hz1 : w1.heap.size < w2.heap.size := by have := hb2.size; simp at this; omega
  have hz2 : w.heap.size < w2.heap.size := by omega
  have HB2 := hide (show Below w.heap.size w w2 from (HB.out.alloc (by omega) _).trans (hb2.mono (by simp; omega)))
  have HN2 := hide hN2; have HX2 := hide hX2
  clear hb2 c1 hN2 hX2 HN HB
  go_wp2_with fail
  obtain ⟨W, hW⟩ : ∃ W, W = w2.alloc (.cells #[.int .i64 X.x, .int .i64 X.y, .int .i64 X.z] 47) := ⟨_, rfl⟩
  have k0 := blk_cell (show W.heap[w.heap.size]? = some (.cells (vcs v) 47 (0, 0)) by rw [hW]; exact (Below.heap_alloc w2 _ _ hz2).trans HN2.out)
  have k1 := blk_cell (show W.heap[w1.heap.size]? = some (.cells (vcs X) 47 (0, 0)) by rw [hW]; exact (Below.heap_alloc w2 _ _ hz1).trans HX2.out)
  have k2 := blk_cell (show W.heap[w2.heap.size]? = some (.cells (vcs X) 47 (0, 0)) by rw [hW]; exact heap_alloc_new w2 _)
  have z0 : w2.heap.size < W.heap.size := by rw [hW]; simp
  have z1 : w1.heap.size < W.heap.size := by omega
  have z2 : w.heap.size < W.heap.size := by omega
  have HB3 := hide (show Below w.heap.size w W by rw [hW]; exact HB2.out.alloc (by omega) _)
  rw [← hW]
  simp only [vcs] at k0 k1 k2
  clear hW HN2 HX2 HB2
  have heq : eqV ⟨X.x, X.y, X.z⟩ ⟨X.x, X.y, X.z⟩ = true := by simp [eqV]
  have he2 : ((!isZ X) == (!isZ X)) = true := by simp
  have he3 : (usable v == usable v) = true := by simp
  go_region_held3 (fun w' => (∀ i, w'.cell? ⟨w.heap.size, i, none⟩ = #[.int .i64 v.x, .int .i64 v.y, .int .i64 v.z][i]?) ∧ (∀ i, w'.cell? ⟨w1.heap.size, i, none⟩ = #[.int .i64 X.x, .int .i64 X.y, .int .i64 X.z][i]?) ∧ (∀ i, w'.cell? ⟨w2.heap.size, i, none⟩ = #[.int .i64 X.x, .int .i64 X.y, .int .i64 X.z][i]?))
    (first | exact ⟨k0, k1, k2⟩ | go_keep)
    (first | (go_at_call 71; (with_reducible refine (norm_ref v _).mono ?_); rintro e w8 ⟨rfl, b8⟩; have k0 := keepc b8 z27 k0; have k1 := keepc b8 z17 k1; have k2 := keepc b8 z07 k2) | (go_at_call 61; (with_reducible refine (norm_any v _).mono ?_); rintro e w7 ⟨rfl, b7⟩; have k0 := keepc b7 z26 k0; have k1 := keepc b7 z16 k1; have k2 := keepc b7 z06 k2; have z07 := Nat.lt_of_lt_of_le z06 b7.size; have z17 := Nat.lt_of_lt_of_le z16 b7.size; have z27 := Nat.lt_of_lt_of_le z26 b7.size) | (go_at_call 108; (with_reducible refine (usable_ref v _).mono ?_); rintro e w6 ⟨rfl, b6⟩; have k0 := keepc b6 z25 k0; have k1 := keepc b6 z15 k1; have k2 := keepc b6 z05 k2; have z06 := Nat.lt_of_lt_of_le z05 b6.size; have z16 := Nat.lt_of_lt_of_le z15 b6.size; have z26 := Nat.lt_of_lt_of_le z25 b6.size) | (go_at_call 59; (with_reducible refine (usable_any v _).mono ?_); rintro e w5 ⟨rfl, b5⟩; have k0 := keepc b5 z2 k0; have k1 := keepc b5 z1 k1; have k2 := keepc b5 z0 k2; have z05 := Nat.lt_of_lt_of_le z0 b5.size; have z15 := Nat.lt_of_lt_of_le z1 b5.size; have z25 := Nat.lt_of_lt_of_le z2 b5.size))
  have HB8 := hide (((((HB3.out.drew.trans (b5.mono (Nat.le_of_lt z2))).trans (b6.mono (Nat.le_of_lt z25))).trans (b7.mono (Nat.le_of_lt z26))).trans (b8.mono (Nat.le_of_lt z27))))
  clear k0 k1 k2 b5 b6 b7 b8
  go_wp2_with fail
  go_ret
  exact ⟨rfl, HB8.out⟩
end Go.Proofs.Ytionbckpgfaneaa
