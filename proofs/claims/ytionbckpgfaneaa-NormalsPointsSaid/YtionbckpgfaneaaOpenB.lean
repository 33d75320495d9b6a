/- The arguments of the statements, opened to cells: a byte, a vector and a box by value. -/
import Derived.Test.YtionbckpgfaneaaOpen
namespace Go.Proofs.Ytionbckpgfaneaa
open Go.ChangeShapes Go.WideShapes Go.ChangeAt Go.RowKit Go.Deep
set_option maxRecDepth 100000
theorem U8_of_wf {n : Int} (h : (Lit.int .u8 n).wf = true) : 0 ≤ n ∧ n ≤ 255 := by
  simpa [Lit.wf, IntKind.min, IntKind.max, IntKind.signed, IntKind.bits] using h
theorem agg_of_cells {v : Value} {l : List Value} (h : v.cells.toList = l) (hl : 2 ≤ l.length) : v = .agg l.toArray := by
  cases v with
  | agg cs => simp only [Value.cells] at h; rw [← h]
  | _ => simp only [Value.cells] at h; rw [← h] at hl; simp at hl
section
variable {H : Type} {enc : TypeId × Value → H} {W : World} {base : Nat} {v : Value} {d : DataW H} {p : List MemPlace}
theorem openV (h : DataW.Trod enc Try.prog W 0 (fun _ => true) true 47 v d p) (_ : Value.okWide Try.prog W .any base 47 v) : ∃ u : V3, v = u.v ∧ u.ok64 := by
  obtain ⟨fuel, hf⟩ := h
  obtain ⟨u, hu, hok⟩ := readV hf
  exact ⟨u, agg_of_cells hu (by simp), hok⟩
theorem openIV (h : DataW.Trod enc Try.prog W 0 (fun _ => true) true 44 v d p) (_ : Value.okWide Try.prog W .any base 44 v) : ∃ u : IV, v = u.v ∧ u.ok64 := by
  obtain ⟨fuel, hf⟩ := h
  obtain ⟨u, hu, hok⟩ := readIV hf
  exact ⟨u, agg_of_cells hu (by simp), hok⟩
end
end Go.Proofs.Ytionbckpgfaneaa
