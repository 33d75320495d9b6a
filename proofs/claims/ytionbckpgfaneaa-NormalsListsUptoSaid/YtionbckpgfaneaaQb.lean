/- Walks of the normals, part b: the axes. -/
import Derived.Test.YtionbckpgfaneaaQa
namespace Go.Proofs.Ytionbckpgfaneaa
open Go.RowKit
set_option maxHeartbeats 4000000
set_option maxRecDepth 100000
def AxesPost (w : World) (e : Ending) (w' : World) : Prop := ∃ (A : Option Addr) (c : Nat), e = .returned (.slice A 6 c) ∧ SlV w' A axesL ∧ Below w.heap.size w w'
/-- normals.Axes -/
theorem axes_any (w : World) : Calls Try.prog 96 #[] w (AxesPost w) := by
  go_enter Try.func96, Try.ntmps96
  go_wp2_with fail
  go_ret
  exact ⟨some ⟨w.heap.size, 0, none⟩, 6, rfl, Sl.newW w _ 47, by go_grown⟩
/-- armplanref14.Axes -/
theorem axes_ref (w : World) : Calls Try.prog 97 #[] w (AxesPost w) := by
  go_enter Try.func97, Try.ntmps97
  go_wp2_with fail
  go_ret
  exact ⟨some ⟨w.heap.size, 0, none⟩, 6, rfl, Sl.newW w _ 47, by go_grown⟩
end Go.Proofs.Ytionbckpgfaneaa
