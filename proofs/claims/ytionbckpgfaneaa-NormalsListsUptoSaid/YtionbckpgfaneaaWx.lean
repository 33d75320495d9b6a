/- Walks, part x: the making of normals. -/
import Derived.Test.YtionbckpgfaneaaXc
namespace Go.Proofs.Ytionbckpgfaneaa
open Go.RowKit
set_option maxHeartbeats 1000000
set_option maxRecDepth 100000
def NormalPost (w : World) (e : Ending) (w' : World) : Prop := ∃ n : V3, usable n = true ∧ e = .returned n.v ∧ Below w.heap.size w w'
/-- armplanmake.Normal -/
theorem mkNormal_any (a b c : Int) (w : World) :
    Calls Try.prog 55 #[.int .i64 a, .int .i64 b, .int .i64 c] w (NormalPost w) := by
  have r1 := Int.emod_nonneg a (b := 41) (by omega); have r2 := Int.emod_lt_of_pos a (b := 41) (by omega)
  have r3 := Int.emod_nonneg b (b := 41) (by omega); have r4 := Int.emod_lt_of_pos b (b := 41) (by omega)
  have r5 := Int.emod_nonneg c (b := 41) (by omega); have r6 := Int.emod_lt_of_pos c (b := 41) (by omega)
  have s1 := Int.emod_nonneg a (b := 32769) (by omega); have s2 := Int.emod_lt_of_pos a (b := 32769) (by omega)
  have s3 := Int.emod_nonneg b (b := 32769) (by omega); have s4 := Int.emod_lt_of_pos b (b := 32769) (by omega)
  have s5 := Int.emod_nonneg c (b := 32769) (by omega); have s6 := Int.emod_lt_of_pos c (b := 32769) (by omega)
  cases h8 : (bits .and .i64 a 8 == 8)
  · go_enter Try.func55, Try.ntmps55
    go_wp2_with (go_at_call 50; refine (round_any _ _ _ (by omega) (by omega)).mono ?_; rintro e w' ⟨rfl, rfl⟩)
    refine (usable_ref ⟨a % 41 - 20, b % 41 - 20, c % 41 - 20⟩ _).mono ?_
    rintro e w1 ⟨rfl, hb1⟩
    have hR : w1.heap[w.heap.size]? = some (.cells #[.int .i64 0, .int .i64 0, .int .i64 0] 47 (0, 0)) := (hb1.block _ (by simp; omega)).trans ((Below.heap_alloc _ _ _ (by simp)).trans (heap_alloc_new w _))
    have hN : w1.heap[w.heap.size + 1]? = some (.cells #[.int .i64 (a % 41 - 20), .int .i64 (b % 41 - 20), .int .i64 (c % 41 - 20)] 47 (0, 0)) := (hb1.block _ (by simp)).trans (new_at _ _ (by simp))
    have hz : w.heap.size + 1 < w1.heap.size := by have := hb1.size; simp at this; omega
    have hz0 : w.heap.size < w1.heap.size := by omega
    have HB := hide (show Below w.heap.size w w1 from (((Below.refl _ _).alloc (Nat.le_refl _) _).alloc (by simp) _).trans (hb1.mono (by simp; omega)))
    have c1 := blk_cell hR; have f1 := blk_frozen hR; have c2 := blk_cell hN
    clear hb1 hR hN
    cases hu : usable ⟨a % 41 - 20, b % 41 - 20, c % 41 - 20⟩
    · clear hu
      go_wp2_with fail
      refine bodyPost_ret (v := (⟨1, 0, 0⟩ : V3).v) (by simp [results, Try.results55, go_sem, c1, V3.v]) rfl ⟨⟨1, 0, 0⟩, rfl, rfl, ?_⟩
      exact ((HB.out.setCell (by simp) _).setCell (by simp) _).setCell (by simp) _
    · have HU := hide hu; clear hu
      go_wp2_with fail
      refine bodyPost_ret (v := (⟨a % 41 - 20, b % 41 - 20, c % 41 - 20⟩ : V3).v) (by simp [results, Try.results55, go_sem, c1, V3.v]) rfl ⟨_, HU.out, rfl, ?_⟩
      exact ((HB.out.setCell (by simp) _).setCell (by simp) _).setCell (by simp) _
  · go_enter Try.func55, Try.ntmps55
    go_wp2_with (go_at_call 50; refine (round_any _ _ _ (by omega) (by omega)).mono ?_; rintro e w' ⟨rfl, rfl⟩)
    refine (usable_ref ⟨a % 32769 - 16384, b % 32769 - 16384, c % 32769 - 16384⟩ _).mono ?_
    rintro e w1 ⟨rfl, hb1⟩
    have hR : w1.heap[w.heap.size]? = some (.cells #[.int .i64 0, .int .i64 0, .int .i64 0] 47 (0, 0)) := (hb1.block _ (by simp; omega)).trans ((Below.heap_alloc _ _ _ (by simp)).trans (heap_alloc_new w _))
    have hN : w1.heap[w.heap.size + 1]? = some (.cells #[.int .i64 (a % 32769 - 16384), .int .i64 (b % 32769 - 16384), .int .i64 (c % 32769 - 16384)] 47 (0, 0)) := (hb1.block _ (by simp)).trans (new_at _ _ (by simp))
    have hz : w.heap.size + 1 < w1.heap.size := by have := hb1.size; simp at this; omega
    have hz0 : w.heap.size < w1.heap.size := by omega
    have HB := hide (show Below w.heap.size w w1 from (((Below.refl _ _).alloc (Nat.le_refl _) _).alloc (by simp) _).trans (hb1.mono (by simp; omega)))
    have c1 := blk_cell hR; have f1 := blk_frozen hR; have c2 := blk_cell hN
    clear hb1 hR hN
    cases hu : usable ⟨a % 32769 - 16384, b % 32769 - 16384, c % 32769 - 16384⟩
    · clear hu
      go_wp2_with fail
      refine bodyPost_ret (v := (⟨1, 0, 0⟩ : V3).v) (by simp [results, Try.results55, go_sem, c1, V3.v]) rfl ⟨⟨1, 0, 0⟩, rfl, rfl, ?_⟩
      exact ((HB.out.setCell (by simp) _).setCell (by simp) _).setCell (by simp) _
    · have HU := hide hu; clear hu
      go_wp2_with fail
      refine bodyPost_ret (v := (⟨a % 32769 - 16384, b % 32769 - 16384, c % 32769 - 16384⟩ : V3).v) (by simp [results, Try.results55, go_sem, c1, V3.v]) rfl ⟨_, HU.out, rfl, ?_⟩
      exact ((HB.out.setCell (by simp) _).setCell (by simp) _).setCell (by simp) _
end Go.Proofs.Ytionbckpgfaneaa
