/- Walks, part F: the comparison of Least and Greatest. -/
import Derived.Test.YtionbckpgfaneaaVd
namespace Go.Proofs.Ytionbckpgfaneaa
open Go.RowKit
set_option maxHeartbeats 1000000
set_option maxRecDepth 100000
/-- armplanlaw13.extremes -/
theorem extremes_any (n : V3) (A : Option Addr) (l : List IV) (c : Nat) (w : World) (hs : SlI w A l) (hm : l.length ≤ 9223372036854775807) :
    Calls Try.prog 62 #[.agg #[.int .i64 n.x, .int .i64 n.y, .int .i64 n.z], .slice A l.length c] w fun e w' => e = .returned (.bool true) ∧ Below w.heap.size w w' := by
  have SA := hide hs; clear hs
  go_enter Try.func62, Try.ntmps62
  go_wp2_with fail
  refine (least_any n A l c _ (by exact Sl.alloc SA.out _) hm).mono ?_
  rintro e w1 ⟨rfl, hb1⟩
  rw [leastR_form]
  generalize hX : (if supOk n l then leastV n l else 0) = X
  generalize hI : (if supOk n l then leastI n l else 0 : Nat) = I
  generalize hF : supOk n l = F
  have HX := hide hX; have HI := hide hI; have HF := hide hF; clear hX hI hF
  have hN : w1.heap[w.heap.size]? = some (.cells (vcs n) 47 (0, 0)) := (hb1.block _ (by simp)).trans (heap_alloc_new w _)
  have hz0 : w.heap.size < w1.heap.size := by have := hb1.size; simp at this; omega
  have HB := hide (show Below w.heap.size w w1 from (((Below.refl _ _).alloc (Nat.le_refl _) _)).trans (hb1.mono (by simp)))
  have HN := hide hN; have cN := blk_cell hN; simp only [vcs] at cN
  clear hN hb1
  go_wp2_with fail
  refine (least_ref n A l c _ (SA.out.below HB.out) hm).mono ?_
  rintro e w2 ⟨rfl, hb2⟩
  rw [leastR_form, HX.out, HI.out, HF.out]
  have HN2 := hide ((hb2.block _ hz0).trans HN.out)
  have yz0 : w.heap.size < w2.heap.size := Nat.lt_of_lt_of_le hz0 hb2.size
  have HB2 := hide (HB.out.trans (hb2.mono (by omega)))
  clear hb2 cN HN HB
  have cN := blk_cell HN2.out; simp only [vcs] at cN
  go_wp2_with fail
  refine (greatest_any n A l c _ (SA.out.below HB2.out) hm).mono ?_
  rintro e w3 ⟨rfl, hb3⟩
  rw [greatR_form]
  generalize hY : (if supOk n l then greatV n l else 0) = Y
  generalize hJ : (if supOk n l then greatI n l else 0 : Nat) = J
  rw [HF.out]
  have HY := hide hY; have HJ := hide hJ; clear hY hJ
  have HN3 := hide ((hb3.block _ yz0).trans HN2.out)
  have xz0 : w.heap.size < w3.heap.size := Nat.lt_of_lt_of_le yz0 hb3.size
  have HB3 := hide (HB2.out.trans (hb3.mono (by omega)))
  clear hb3 cN HN2 HB2
  have cN := blk_cell HN3.out; simp only [vcs] at cN
  go_wp2_with fail
  refine (greatest_ref n A l c _ (SA.out.below HB3.out) hm).mono ?_
  rintro e w4 ⟨rfl, hb4⟩
  rw [greatR_form, HY.out, HJ.out, HF.out]
  have HB4 := hide (HB3.out.trans (hb4.mono (by omega)))
  clear hb4 cN
  go_wp2_with fail
  go_ret
  exact ⟨by simp, HB4.out⟩
end Go.Proofs.Ytionbckpgfaneaa
