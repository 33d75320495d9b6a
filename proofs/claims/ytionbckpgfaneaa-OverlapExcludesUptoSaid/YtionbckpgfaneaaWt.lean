/- Equality of vectors, as the model has it. -/
import Derived.Test.YtionbckpgfaneaaPe
import Derived.ChangeKeysEq
import Derived.Laws.StructEq
namespace Go.Proofs.Ytionbckpgfaneaa
open Go.RowKit
set_option maxRecDepth 100000
def eqV (a b : V3) : Bool := decide (a.x = b.x ∧ a.y = b.y ∧ a.z = b.z)
theorem eq47 (a b c x y z : Int) (w : World) : Sem.run Try.prog (Op.equalIn 10000 47 (.agg #[.int .i64 a, .int .i64 b, .int .i64 c]) (.agg #[.int .i64 x, .int .i64 y, .int .i64 z])) w = .ok (eqV ⟨a, b, c⟩ ⟨x, y, z⟩) w := by
  obtain ⟨i, hi, _⟩ : ∃ i, Try.prog.info? 2 = some i ∧ i.size = 1 := by
    have h : (Try.prog.info? 2).map (fun i => i.size) = some 1 := by kernel_rfl
    cases hh : Try.prog.info? 2 with
    | none => rw [hh] at h; simp at h
    | some i => rw [hh] at h; exact ⟨i, rfl, by simpa using h⟩
  rw [run_equalIn_array w 9999 _ _ Try.underlying47 hi]
  have hc : Try.prog.cellsOf 2 = 1 := by kernel_rfl
  rw [hc]
  have p0 : ∀ (u0 u1 u2 : Value) (w : World), (part 2 #[u0, u1, u2] 0).run Try.prog w = .ok u0 w := fun _ _ _ _ => by kernel_rfl
  have p1 : ∀ (u0 u1 u2 : Value) (w : World), (part 2 #[u0, u1, u2] 1).run Try.prog w = .ok u1 w := fun _ _ _ _ => by kernel_rfl
  have p2 : ∀ (u0 u1 u2 : Value) (w : World), (part 2 #[u0, u1, u2] 2).run Try.prog w = .ok u2 w := fun _ _ _ _ => by kernel_rfl
  have q : ∀ (m n : Int) (w : World), (Op.equalIn 9999 2 (.int .i64 m) (.int .i64 n)).run Try.prog w = .ok (m == n) w := fun m n w => run_equalIn_int w 9998 2 .i64 .i64 m n Try.underlying2
  simp [Op.eqItems, List.range_succ, -Array.getElem?_eq_getElem]
  rw [p0, Result.andThen_ok, p0, Result.andThen_ok, q, Result.andThen_ok]
  unfold eqV
  by_cases h1 : a = x
  · subst h1
    simp only [BEq.rfl, Bool.true_eq_false, if_false]
    rw [p1, Result.andThen_ok, p1, Result.andThen_ok, q, Result.andThen_ok]
    by_cases h2 : b = y
    · subst h2
      simp only [BEq.rfl, Bool.true_eq_false, if_false]
      rw [p2, Result.andThen_ok, p2, Result.andThen_ok, q, Result.andThen_ok]
      by_cases h3 : c = z
      · subst h3; simp
      · simp [h3]
    · simp [h2]
  · simp [h1]
end Go.Proofs.Ytionbckpgfaneaa
