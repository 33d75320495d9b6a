/- The first normal of a list, as the place and as the normal. -/
import Derived.Test.YtionbckpgfaneaaVe
import Derived.Test.YtionbckpgfaneaaXe
namespace Go.Proofs.Ytionbckpgfaneaa
open Go.RowKit
theorem first_take (l : List V3) (a : List IV) (ra : Int) (b : List IV) (rb : Int) (k : Nat) (hk : k ≤ l.length) :
    (firstI l a ra b rb k = none ∧ (l.take k).find? (fun n => sepB n a ra b rb) = none) ∨ ∃ i, ∃ h : i < l.length, firstI l a ra b rb k = some i ∧ (l.take k).find? (fun n => sepB n a ra b rb) = some l[i] := by
  induction k with
  | zero => left; simp [firstI]
  | succ k ih =>
    have hk' : k < l.length := by omega
    have e : l.take (k + 1) = l.take k ++ [l[k]] := by rw [List.take_add_one, List.getElem?_eq_getElem hk']; rfl
    rcases ih (by omega) with ⟨h1, h2⟩ | ⟨i, hi, h1, h2⟩
    · cases hs : sepB l[k] a ra b rb
      · left
        refine ⟨firstI_miss hk' h1 hs, ?_⟩
        rw [e, List.find?_append, h2]
        simp [hs]
      · right
        refine ⟨k, hk', firstI_hit hk' h1 hs _ (by omega), ?_⟩
        rw [e, List.find?_append, h2]
        simp [hs]
    · right
      refine ⟨i, hi, by simp [firstI, h1], ?_⟩
      rw [e, List.find?_append, h2]
      rfl
theorem first_find (l : List V3) (a : List IV) (ra : Int) (b : List IV) (rb : Int) :
    (firstI l a ra b rb l.length = none ∧ l.find? (fun n => sepB n a ra b rb) = none) ∨ ∃ i, ∃ h : i < l.length, firstI l a ra b rb l.length = some i ∧ l.find? (fun n => sepB n a ra b rb) = some l[i] := by
  have := first_take l a ra b rb l.length (Nat.le_refl _)
  rwa [List.take_length] at this
theorem firstR_cases (l : List V3) (a : List IV) (ra : Int) (b : List IV) (rb : Int) :
    (firstR l a ra b rb = .tuple #[.int .i64 0, .bool false] ∧ l.find? (fun n => sepB n a ra b rb) = none) ∨ ∃ i, ∃ h : i < l.length, firstR l a ra b rb = .tuple #[.int .i64 i, .bool true] ∧ l.find? (fun n => sepB n a ra b rb) = some l[i] := by
  rcases first_find l a ra b rb with ⟨h1, h2⟩ | ⟨i, hi, h1, h2⟩
  · exact .inl ⟨firstR_none h1, h2⟩
  · exact .inr ⟨i, hi, by unfold firstR; rw [h1], h2⟩
end Go.Proofs.Ytionbckpgfaneaa
