/- Walks, part n: awake of the overlap statements. -/
import Derived.Test.YtionbckpgfaneaaWl
import Derived.Test.YtionbckpgfaneaaWm
namespace Go.Proofs.Ytionbckpgfaneaa
open Go.RowKit
set_option maxHeartbeats 1000000
set_option maxRecDepth 100000
theorem Sl.new (w : World) (cs : Array Value) (t : TypeId) : Sl (w.alloc (.cells cs t)) (some ⟨w.heap.size, 0, none⟩) cs.toList := fun _ =>
  ⟨w.heap.size, 0, rfl, by simp, fun j u hu => by
    rw [Nat.zero_add, blk_cell (heap_alloc_new w _) j]
    simpa using hu⟩
theorem Sl.at_new (w : World) (cs : Array Value) (t : TypeId) {k : Nat} (h : k = w.heap.size) : Sl (w.alloc (.cells cs t)) (some ⟨k, 0, none⟩) cs.toList := by rw [h]; exact Sl.new w cs t
theorem pt0 : ptI ⟨0, 0, 0⟩ = zeroIV := by kernel_rfl
/-- armplanlaw16.awake -/
theorem awake16 (w : World) : Calls Try.prog 43 #[] w fun e w' => e = .returned (.bool true) ∧ Below w.heap.size w w' := by
  go_enter Try.func43, Try.ntmps43
  go_wp2_with fail
  refine (boxed_any (some ⟨w.heap.size, 0, none⟩) [⟨0, 0, 0⟩] 1 _ (Sl.new w _ _) (by simp)).mono ?_
  rintro e w1 ⟨v, rfl, hown, hb1⟩
  have hown1 : w1.ownsRow w.heap.size 44 6 v 1 (([zeroIV] : List IV).flatMap IV.cells) := by
    rw [List.map_cons, pt0] at hown
    exact own_mono hown (by simp)
  obtain ⟨g, c, rfl, hg1, hg2, _, _⟩ := own_form hown1 (by omega)
  have hz1 : w.heap.size < w1.heap.size := by omega
  have s1 : SlI w1 (some ⟨g, 0, none⟩) [zeroIV] := own_sl hown1
  have B1 := hide (show Below w.heap.size w w1 from ((Below.refl _ _).alloc (Nat.le_refl _) _).trans (hb1.mono (by simp)))
  have S1 := hide s1
  clear hown hown1 hb1 s1
  go_wp2_with fail
  refine (excess_any [1] [1] [zeroIV] [⟨⟨3, 4⟩, ⟨0, 0⟩, ⟨0, 0⟩⟩] 3 1 (some ⟨w1.heap.size + 1, 0, none⟩) (some ⟨w1.heap.size + 1 + 1, 0, none⟩) (some ⟨g, 0, none⟩) (some ⟨w1.heap.size, 0, none⟩) 1 1 c 1 _ (Sl.alloc (Sl.at_new _ #[.int .i64 1] 2 (by simp)) _) (Sl.at_new _ #[.int .i64 1] 2 (by simp)) (Sl.alloc (Sl.alloc (Sl.alloc S1.out _) _) _) (Sl.alloc (Sl.alloc (Sl.new w1 _ 44) _) _) (by simp) (by simp) (by simp) (by simp)).mono ?_
  rintro e w2 ⟨rfl, hb2⟩
  rw [aw1]
  have hz2 : w1.heap.size < w2.heap.size := by have := hb2.size; simp at this; omega
  have S2 := hide (show SlI w2 (some ⟨g, 0, none⟩) [zeroIV] from Sl.below (Sl.alloc (Sl.alloc (Sl.alloc S1.out _) _) _) hb2)
  have T2 := hide (show SlI w2 (some ⟨w1.heap.size, 0, none⟩) [⟨⟨3, 4⟩, ⟨0, 0⟩, ⟨0, 0⟩⟩] from Sl.below (Sl.alloc (Sl.alloc (Sl.new w1 _ 44) _) _) hb2)
  have B2 := hide (show Below w.heap.size w w2 from (((B1.out.alloc (by omega) _).alloc (by simp; omega) _).alloc (by simp; omega) _).trans (hb2.mono (by simp; omega)))
  clear hb2 S1 B1
  go_wp2_with fail
  refine (excess_any [1] [1] [zeroIV] [⟨⟨3, 4⟩, ⟨0, 0⟩, ⟨0, 0⟩⟩] 3 0 (some ⟨w2.heap.size, 0, none⟩) (some ⟨w2.heap.size + 1, 0, none⟩) (some ⟨g, 0, none⟩) (some ⟨w1.heap.size, 0, none⟩) 1 1 c 1 _ (Sl.alloc (Sl.new w2 #[.int .i64 1] 2) _) (Sl.at_new _ #[.int .i64 1] 2 (by simp)) (Sl.alloc (Sl.alloc S2.out _) _) (Sl.alloc (Sl.alloc T2.out _) _) (by simp) (by simp) (by simp) (by simp)).mono ?_
  rintro e w3 ⟨rfl, hb3⟩
  rw [aw2]
  have hz3 : w2.heap.size < w3.heap.size := by have := hb3.size; simp at this; omega
  have S3 := hide (show SlI w3 (some ⟨g, 0, none⟩) [zeroIV] from Sl.below (Sl.alloc (Sl.alloc S2.out _) _) hb3)
  have T3 := hide (show SlI w3 (some ⟨w1.heap.size, 0, none⟩) [⟨⟨3, 4⟩, ⟨0, 0⟩, ⟨0, 0⟩⟩] from Sl.below (Sl.alloc (Sl.alloc T2.out _) _) hb3)
  have B3 := hide (show Below w.heap.size w w3 from ((B2.out.alloc (by omega) _).alloc (by simp; omega) _).trans (hb3.mono (by simp; omega)))
  clear hb3 S2 B2 T2
  go_wp2_with fail
  refine (overlaps_any [1] [1] [zeroIV] [⟨⟨3, 4⟩, ⟨0, 0⟩, ⟨0, 0⟩⟩] 3 1 (some ⟨w3.heap.size, 0, none⟩) (some ⟨w3.heap.size + 1, 0, none⟩) (some ⟨g, 0, none⟩) (some ⟨w1.heap.size, 0, none⟩) 1 1 c 1 _ (Sl.alloc (Sl.new w3 #[.int .i64 1] 2) _) (Sl.at_new _ #[.int .i64 1] 2 (by simp)) (Sl.alloc (Sl.alloc S3.out _) _) (Sl.alloc (Sl.alloc T3.out _) _) (by simp) (by simp) (by simp) (by simp)).mono ?_
  rintro e w4 ⟨rfl, hb4⟩
  rw [aw3]
  have B4 := hide (show Below w.heap.size w w4 from ((B3.out.alloc (by omega) _).alloc (by simp; omega) _).trans (hb4.mono (by simp; omega)))
  clear hb4
  go_wp2_with fail
  go_ret
  exact ⟨rfl, B4.out⟩
end Go.Proofs.Ytionbckpgfaneaa
