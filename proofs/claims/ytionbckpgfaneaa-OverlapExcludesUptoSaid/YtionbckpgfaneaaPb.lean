/- Plain facts on weighted sums of boxes. -/
import Derived.Test.YtionbckpgfaneaaWg
import Derived.Test.YtionbckpgfaneaaWd
namespace Go.Proofs.Ytionbckpgfaneaa
open Go.RowKit
def dotL (ws xs : List Int) : Int := (List.zipWith (· * ·) ws xs).sum
/-- the weighted sum of boxes -/
def comb (l : List IV) (ws : List Int) : IV :=
  ⟨⟨dotL ws (l.map (·.x.lo)), dotL ws (l.map (·.x.hi))⟩, ⟨dotL ws (l.map (·.y.lo)), dotL ws (l.map (·.y.hi))⟩, ⟨dotL ws (l.map (·.z.lo)), dotL ws (l.map (·.z.hi))⟩⟩
def wOk (ws : List Int) : Bool := ws.all fun x => decide (0 ≤ x ∧ x ≤ 65536)
def combOk (l : List IV) (ws : List Int) : Bool := placedB l && decide (ws.length = l.length) && wOk ws && decide (1 ≤ ws.sum ∧ ws.sum ≤ 65536)
def zeroIV : IV := ⟨⟨0, 0⟩, ⟨0, 0⟩, ⟨0, 0⟩⟩
def combR (l : List IV) (ws : List Int) : Value := if combOk l ws then .tuple #[(comb l ws).v, .int .i64 ws.sum, .bool true] else .tuple #[zeroIV.v, .int .i64 0, .bool false]
theorem dotL_snoc (ws : List Int) (l : List IV) (f : IV → Int) (k : Nat) (h1 : k < ws.length) (h2 : k < l.length) :
    dotL (ws.take (k + 1)) ((l.take (k + 1)).map f) = dotL (ws.take k) ((l.take k).map f) + ws[k] * f l[k] := by
  unfold dotL
  rw [List.take_succ_eq_append_getElem h1, List.take_succ_eq_append_getElem h2, List.map_append, List.zipWith_append (by simp; omega), List.sum_append]
  simp
theorem mul_bd (a x A X : Int) (h0 : 0 ≤ a) (h1 : a ≤ A) (h2 : -X ≤ x) (h3 : x ≤ X) : -(A * X) ≤ a * x ∧ a * x ≤ A * X := by
  have hX : 0 ≤ X := by omega
  have e1 : a * x ≤ a * X := Int.mul_le_mul_of_nonneg_left h3 h0
  have e2 : a * X ≤ A * X := Int.mul_le_mul_of_nonneg_right h1 hX
  have e3 : a * (-X) ≤ a * x := Int.mul_le_mul_of_nonneg_left h2 h0
  rw [Int.mul_neg] at e3
  omega
theorem dotL_bd (ws : List Int) (l : List IV) (f : IV → Int) (k : Nat) (h1 : k ≤ ws.length) (h2 : k ≤ l.length) (hw : ∀ j (_ : j < k) (h : j < ws.length), 0 ≤ ws[j] ∧ ws[j] ≤ 65536) (hf : ∀ j (h : j < l.length), -268435456 ≤ f l[j] ∧ f l[j] ≤ 268435456) :
    -(k * 17592186044416) ≤ dotL (ws.take k) ((l.take k).map f) ∧ dotL (ws.take k) ((l.take k).map f) ≤ k * 17592186044416 := by
  induction k with
  | zero => simp [dotL]
  | succ k ih =>
    have := ih (by omega) (by omega) (fun j hj h => hw j (by omega) h)
    rw [dotL_snoc ws l f k (by omega) (by omega)]
    have w1 := hw k (by omega) (by omega)
    have f1 := hf k (by omega)
    have := mul_bd (ws[k]'(by omega)) (f (l[k]'(by omega))) 65536 268435456 w1.1 w1.2 f1.1 f1.2
    omega
def IvIn (a : Iv) (m : Int) : Prop := (-m ≤ a.lo ∧ a.lo ≤ m) ∧ (-m ≤ a.hi ∧ a.hi ≤ m)
def IVIn (v : IV) (m : Int) : Prop := IvIn v.x m ∧ IvIn v.y m ∧ IvIn v.z m
theorem ok_of {v : IV} (h : v.ok = true) : (-268435456 ≤ v.x.lo ∧ v.x.lo ≤ v.x.hi ∧ v.x.hi ≤ 268435456) ∧ (-268435456 ≤ v.y.lo ∧ v.y.lo ≤ v.y.hi ∧ v.y.hi ≤ 268435456) ∧ (-268435456 ≤ v.z.lo ∧ v.z.lo ≤ v.z.hi ∧ v.z.hi ≤ 268435456) := by
  simp [IV.ok, Iv.ok] at h
  omega
theorem placed_of {l : List IV} (h : placedB l = true) : 1 ≤ l.length ∧ l.length ≤ 8 ∧ ∀ j (hj : j < l.length), l[j].ok = true := by
  simp [placedB] at h
  exact ⟨h.1.1, h.1.2, fun j hj => h.2 _ (by simp)⟩
theorem comb_bd (ws : List Int) (l : List IV) (k : Nat) (h1 : k ≤ ws.length) (h2 : k ≤ l.length) (hp : placedB l = true) (hw : ∀ j (_ : j < k) (h : j < ws.length), 0 ≤ ws[j] ∧ ws[j] ≤ 65536) : IVIn (comb (l.take k) (ws.take k)) 140737488355328 := by
  obtain ⟨_, p8, p⟩ := placed_of hp
  have e (f : IV → Int) (hf : ∀ j (h : j < l.length), -268435456 ≤ f l[j] ∧ f l[j] ≤ 268435456) : -140737488355328 ≤ dotL (ws.take k) ((l.take k).map f) ∧ dotL (ws.take k) ((l.take k).map f) ≤ 140737488355328 := by
    have := dotL_bd ws l f k h1 h2 hw hf
    omega
  refine ⟨⟨e _ ?_, e _ ?_⟩, ⟨e _ ?_, e _ ?_⟩, ⟨e _ ?_, e _ ?_⟩⟩ <;> intro j hj <;> have := ok_of (p j hj) <;> omega
theorem comb_snoc (ws : List Int) (l : List IV) (k : Nat) (h1 : k < ws.length) (h2 : k < l.length) : comb (l.take (k + 1)) (ws.take (k + 1)) =
    ⟨⟨(comb (l.take k) (ws.take k)).x.lo + ws[k] * l[k].x.lo, (comb (l.take k) (ws.take k)).x.hi + ws[k] * l[k].x.hi⟩, ⟨(comb (l.take k) (ws.take k)).y.lo + ws[k] * l[k].y.lo, (comb (l.take k) (ws.take k)).y.hi + ws[k] * l[k].y.hi⟩, ⟨(comb (l.take k) (ws.take k)).z.lo + ws[k] * l[k].z.lo, (comb (l.take k) (ws.take k)).z.hi + ws[k] * l[k].z.hi⟩⟩ := by
  unfold comb
  rw [dotL_snoc ws l _ k h1 h2, dotL_snoc ws l _ k h1 h2, dotL_snoc ws l _ k h1 h2, dotL_snoc ws l _ k h1 h2, dotL_snoc ws l _ k h1 h2, dotL_snoc ws l _ k h1 h2]
theorem wOk_yes (ws : List Int) (h : ∀ j (h : j < ws.length), 0 ≤ ws[j] ∧ ws[j] ≤ 65536) : wOk ws = true := by
  unfold wOk
  rw [List.all_eq_true]
  intro x hx
  obtain ⟨j, hj, rfl⟩ := List.getElem_of_mem hx
  simpa using h j hj
theorem wOk_no (ws : List Int) (k : Nat) (hk : k < ws.length) (h : ¬ (0 ≤ ws[k] ∧ ws[k] ≤ 65536)) : wOk ws = false := by
  unfold wOk
  rw [List.all_eq_false]
  exact ⟨ws[k], by simp, by simpa using h⟩
theorem combR_no {l : List IV} {ws : List Int} (h : combOk l ws = false) : combR l ws = .tuple #[zeroIV.v, .int .i64 0, .bool false] := by simp [combR, h]
theorem combR_yes {l : List IV} {ws : List Int} (h : combOk l ws = true) : combR l ws = .tuple #[(comb l ws).v, .int .i64 ws.sum, .bool true] := by simp [combR, h]
theorem combOk_p {l : List IV} {ws : List Int} (h : placedB l = false) : combOk l ws = false := by simp [combOk, h]
theorem combOk_l {l : List IV} {ws : List Int} (h : ¬ ws.length = l.length) : combOk l ws = false := by simp [combOk, h]
theorem combOk_w {l : List IV} {ws : List Int} (h : wOk ws = false) : combOk l ws = false := by simp [combOk, h]
theorem combOk_s {l : List IV} {ws : List Int} (h : ¬ (1 ≤ ws.sum ∧ ws.sum ≤ 65536)) : combOk l ws = false := by simp [combOk, h]
theorem combOk_yes {l : List IV} {ws : List Int} (h1 : placedB l = true) (h2 : ws.length = l.length) (h3 : wOk ws = true) (h4 : 1 ≤ ws.sum ∧ ws.sum ≤ 65536) : combOk l ws = true := by simp [combOk, h1, h2, h3, h4]
end Go.Proofs.Ytionbckpgfaneaa
