/- Plain laws of the excess: what is made is in form; swapping, scaling, greater radii. -/
import Derived.Test.YtionbckpgfaneaaWm
namespace Go.Proofs.Ytionbckpgfaneaa
open Go.RowKit
/-- a list of made points is placed -/
theorem placed_made {width : Int} (hw : width ≤ 3000) {l : List IV} (h1 : 1 ≤ l.length) (h5 : l.length ≤ 8) (h : ∀ p ∈ l, IVOk width p) : placedB l = true := by
  unfold placedB
  simp only [Bool.and_eq_true, decide_eq_true_eq, List.all_eq_true]
  refine ⟨⟨h1, h5⟩, fun p hp => ?_⟩
  obtain ⟨⟨a1, a2, a3, a4⟩, ⟨b1, b2, b3, b4⟩, c1, c2, c3, c4⟩ := h p hp
  simp [IV.ok, Iv.ok]
  omega
theorem comb_made {width : Int} (hw : width ≤ 3000) {l : List IV} {s : List Int} (h1 : 1 ≤ l.length) (h5 : l.length ≤ 8) (h : ∀ p ∈ l, IVOk width p) (hl : s.length = l.length) (h9 : ∀ x ∈ s, 0 ≤ x ∧ x ≤ 9009) (s1 : 1 ≤ s.sum) (s2 : s.sum ≤ 9000) : combOk l s = true :=
  combOk_yes (placed_made hw h1 h5 h) hl (wOk_yes s fun j hj => by have := h9 s[j] (by simp); omega) ⟨s1, by omega⟩
abbrev rad16 (p : Int) : Int := radOf 4 1 30000 200000 1048577 p
theorem rad16_bd (p : Int) : 0 ≤ rad16 p ∧ rad16 p ≤ 1048576 := by
  have := radOf_bd 4 1 30000 200000 1048577 p (by omega) (by omega) (by omega) (by omega) (by omega) (by omega) (by omega)
  unfold rad16
  omega
theorem radOk_of {r : Int} (h : 0 ≤ r ∧ r ≤ 1048576) : radOk r = true := by simp [radOk, h]
theorem combT_yes {l : List IV} {s : List Int} (h : combOk l s = true) : combT l s = s.sum := by simp [combT, h]
theorem combU_yes {l : List IV} {s : List Int} (h : combOk l s = true) : combU l s = comb l s := by simp [combU, h]
theorem excOk_yes {s t : List Int} {a b : List IV} {ra rb : Int} (h1 : combOk a s = true) (h2 : combOk b t = true) (h : s.sum = t.sum) (hr : 0 ≤ ra ∧ ra ≤ 1048576) (hq : 0 ≤ rb ∧ rb ≤ 1048576) : excOk s t a b ra rb = true := by
  simp [excOk, h1, h2, combT_yes h1, combT_yes h2, h, radOk_of hr, radOk_of hq]
theorem excX_yes {s t : List Int} {a b : List IV} {ra rb : Int} (h1 : combOk a s = true) (h2 : combOk b t = true) (h : s.sum = t.sum) (hr : 0 ≤ ra ∧ ra ≤ 1048576) (hq : 0 ≤ rb ∧ rb ≤ 1048576) : excX s t a b ra rb = exc (comb a s) (comb b t) s.sum (ra + rb) := by
  simp [excX, excOk_yes h1 h2 h hr hq, combU_yes h1, combU_yes h2, combT_yes h1]
theorem excR_made {s t : List Int} {a b : List IV} {ra rb : Int} (h1 : combOk a s = true) (h2 : combOk b t = true) (h : s.sum = t.sum) (hr : 0 ≤ ra ∧ ra ≤ 1048576) (hq : 0 ≤ rb ∧ rb ≤ 1048576) : excR s t a b ra rb = .tuple #[.int .i64 (exc (comb a s) (comb b t) s.sum (ra + rb)), .bool true] := by
  rw [excR_form, excX_yes h1 h2 h hr hq, excOk_yes h1 h2 h hr hq]
theorem ovl_made {s t : List Int} {a b : List IV} {ra rb : Int} (h1 : combOk a s = true) (h2 : combOk b t = true) (h : s.sum = t.sum) (hr : 0 ≤ ra ∧ ra ≤ 1048576) (hq : 0 ≤ rb ∧ rb ≤ 1048576) : ovl s t a b ra rb = decide (0 ≤ exc (comb a s) (comb b t) s.sum (ra + rb)) := by
  rw [ovl, excX_yes h1 h2 h hr hq, excOk_yes h1 h2 h hr hq, Bool.true_and]
theorem far1_swap (u v : Iv) (W : Int) : far1 u v W = far1 v u W := by
  unfold far1
  congr 1
  unfold absmax
  omega
theorem exc_swap (u v : IV) (W R : Int) : exc u v W R = exc v u W R := by
  unfold exc
  rw [far1_swap u.x, far1_swap u.y, far1_swap u.z]
/-- an overlap: each component's bound and the sum of squares -/
theorem exc_nn {u v : IV} {W R : Int} (h : 0 ≤ exc u v W R) : far1 u.x v.x W ≤ R ∧ far1 u.y v.y W ≤ R ∧ far1 u.z v.z W ≤ R ∧
    far1 u.x v.x W * far1 u.x v.x W + far1 u.y v.y W * far1 u.y v.y W + far1 u.z v.z W * far1 u.z v.z W ≤ R * R := by
  unfold exc at h
  split at h
  · omega
  · omega
theorem exc_of {u v : IV} {W R : Int} (h0 : far1 u.x v.x W ≤ R) (h1 : far1 u.y v.y W ≤ R) (h2 : far1 u.z v.z W ≤ R)
    (h : far1 u.x v.x W * far1 u.x v.x W + far1 u.y v.y W * far1 u.y v.y W + far1 u.z v.z W * far1 u.z v.z W ≤ R * R) : 0 ≤ exc u v W R := by
  unfold exc
  rw [if_neg (by omega)]
  omega
theorem sq_mono {a b : Int} (h0 : 0 ≤ a) (h : a ≤ b) : a * a ≤ b * b := Int.mul_le_mul h h h0 (by omega)
theorem exc_radius {u v : IV} {W R d : Int} (h0 : 0 ≤ R) (hd : 0 ≤ d) (h : 0 ≤ exc u v W R) : 0 ≤ exc u v W (R + d) := by
  obtain ⟨a, b, c, e⟩ := exc_nn h
  have := sq_mono (a := R) (b := R + d) h0 (by omega)
  exact exc_of (by omega) (by omega) (by omega) (by omega)
/-- a list of parts of boxes -/
def Iv.sub (a b : Iv) : Prop := b.lo ≤ a.lo ∧ a.hi ≤ b.hi
def IV.sub (a b : IV) : Prop := a.x.sub b.x ∧ a.y.sub b.y ∧ a.z.sub b.z
theorem ceilF_mono {x y W : Int} (hW : 1 ≤ W) (h : x ≤ y) : ceilF x W ≤ ceilF y W := by
  rw [← ceil_eq x W hW, ← ceil_eq y W hW]
  exact Int.ediv_le_ediv (by omega) (by omega)
theorem far1_mono {u v u' v' : Iv} {W : Int} (hW : 1 ≤ W) (hu : u'.sub u) (hv : v'.sub v) (hu' : u'.lo ≤ u'.hi) (hv' : v'.lo ≤ v'.hi) : far1 u' v' W ≤ far1 u v W := by
  unfold far1
  apply ceilF_mono hW
  unfold absmax
  unfold Iv.sub at hu hv
  omega
theorem exc_mono {u v u' v' : IV} {W R : Int} (hW : 1 ≤ W) (hu : u'.sub u) (hv : v'.sub v) (ou : u'.x.lo ≤ u'.x.hi ∧ u'.y.lo ≤ u'.y.hi ∧ u'.z.lo ≤ u'.z.hi) (ov : v'.x.lo ≤ v'.x.hi ∧ v'.y.lo ≤ v'.y.hi ∧ v'.z.lo ≤ v'.z.hi)
    (h : 0 ≤ exc u v W R) : 0 ≤ exc u' v' W R := by
  obtain ⟨a, b, c, e⟩ := exc_nn h
  have f0 := far1_mono hW hu.1 hv.1 ou.1 ov.1
  have f1 := far1_mono hW hu.2.1 hv.2.1 ou.2.1 ov.2.1
  have f2 := far1_mono hW hu.2.2 hv.2.2 ou.2.2 ov.2.2
  have g0 := sq_mono (far1_nn u'.x v'.x W hW) f0
  have g1 := sq_mono (far1_nn u'.y v'.y W hW) f1
  have g2 := sq_mono (far1_nn u'.z v'.z W hW) f2
  exact exc_of (by omega) (by omega) (by omega) (by omega)
theorem dotL_cons (w x : Int) (ws xs : List Int) : dotL (w :: ws) (x :: xs) = w * x + dotL ws xs := by simp [dotL]
theorem dotL_nil (xs : List Int) : dotL [] xs = 0 := by simp [dotL]
theorem dotL_nil' (xs : List Int) : dotL xs [] = 0 := by simp [dotL]
theorem dotL_mono (ws : List Int) (l m : List IV) (f g : IV → Int) (hw : ∀ x ∈ ws, 0 ≤ x) (hl : l.length = m.length) (h : ∀ j (hj : j < l.length) (hm : j < m.length), f l[j] ≤ g m[j]) : dotL ws (l.map f) ≤ dotL ws (m.map g) := by
  induction ws generalizing l m with
  | nil => simp [dotL]
  | cons w ws ih =>
    cases l with
    | nil => cases m with
      | nil => simp [dotL]
      | cons b m => simp at hl
    | cons a l => cases m with
      | nil => simp at hl
      | cons b m =>
        simp only [List.map_cons, dotL_cons]
        have i := ih l m (fun x hx => hw x (by simp [hx])) (by simpa using hl) (fun j hj hm => by have := h (j + 1) (by simp; omega) (by simp; omega); simpa using this)
        have h0 := h 0 (by simp) (by simp)
        have := Int.mul_le_mul_of_nonneg_left (show f a ≤ g b by simpa using h0) (hw w (by simp))
        omega
theorem comb_mono {ws : List Int} {l m : List IV} (hw : ∀ x ∈ ws, 0 ≤ x) (hl : l.length = m.length) (h : ∀ j (hj : j < l.length) (hm : j < m.length), (l[j]).sub m[j]) : (comb l ws).sub (comb m ws) := by
  refine ⟨⟨?_, ?_⟩, ⟨?_, ?_⟩, ⟨?_, ?_⟩⟩
  · exact dotL_mono ws m l _ _ hw hl.symm fun j h1 h2 => (h j h2 h1).1.1
  · exact dotL_mono ws l m _ _ hw hl fun j h1 h2 => (h j h1 h2).1.2
  · exact dotL_mono ws m l _ _ hw hl.symm fun j h1 h2 => (h j h2 h1).2.1.1
  · exact dotL_mono ws l m _ _ hw hl fun j h1 h2 => (h j h1 h2).2.1.2
  · exact dotL_mono ws m l _ _ hw hl.symm fun j h1 h2 => (h j h2 h1).2.2.1
  · exact dotL_mono ws l m _ _ hw hl fun j h1 h2 => (h j h1 h2).2.2.2
theorem comb_le {ws : List Int} {l : List IV} (hw : ∀ x ∈ ws, 0 ≤ x) (h : ∀ p ∈ l, p.x.lo ≤ p.x.hi ∧ p.y.lo ≤ p.y.hi ∧ p.z.lo ≤ p.z.hi) : (comb l ws).x.lo ≤ (comb l ws).x.hi ∧ (comb l ws).y.lo ≤ (comb l ws).y.hi ∧ (comb l ws).z.lo ≤ (comb l ws).z.hi := by
  refine ⟨dotL_mono ws l l _ _ hw rfl fun j h1 _ => (h l[j] (by simp)).1, dotL_mono ws l l _ _ hw rfl fun j h1 _ => (h l[j] (by simp)).2.1, dotL_mono ws l l _ _ hw rfl fun j h1 _ => (h l[j] (by simp)).2.2⟩
/-- scaling -/
theorem dotL_scale (f : Int) (ws xs : List Int) : dotL (ws.map (· * f)) xs = f * dotL ws xs := by
  induction ws generalizing xs with
  | nil => simp [dotL]
  | cons w ws ih => cases xs with
    | nil => simp [dotL]
    | cons x xs => rw [List.map_cons, dotL_cons, dotL_cons, ih, Int.mul_add, ← Int.mul_assoc, Int.mul_comm f w]
theorem sum_scale (f : Int) (ws : List Int) : (ws.map (· * f)).sum = f * ws.sum := by
  induction ws with
  | nil => simp
  | cons w ws ih => rw [List.map_cons, List.sum_cons, List.sum_cons, ih, Int.mul_add, Int.mul_comm f w]
theorem ceilF_scale {f x W : Int} (hf : 1 ≤ f) : ceilF (f * x) (f * W) = ceilF x W := by
  unfold ceilF
  rw [show -(f * x) = f * (-x) by rw [Int.mul_neg], Int.mul_ediv_mul_of_pos _ _ (by omega)]
theorem max_scale {f : Int} (hf : 1 ≤ f) (x y : Int) : max (f * x) (f * y) = f * max x y := by
  rcases Int.le_total x y with h | h
  · rw [Int.max_eq_right h, Int.max_eq_right (Int.mul_le_mul_of_nonneg_left h (by omega))]
  · rw [Int.max_eq_left h, Int.max_eq_left (Int.mul_le_mul_of_nonneg_left h (by omega))]
theorem far1_scale {f W : Int} (hf : 1 ≤ f) (a b c d : Int) : far1 ⟨f * a, f * b⟩ ⟨f * c, f * d⟩ (f * W) = far1 ⟨a, b⟩ ⟨c, d⟩ W := by
  unfold far1
  simp only
  rw [← ceilF_scale (x := absmax (a - d) (b - c)) (W := W) hf]
  congr 1
  unfold absmax
  rw [← Int.mul_sub, ← Int.mul_sub, ← Int.mul_neg, ← Int.mul_neg, max_scale hf, max_scale hf, max_scale hf]
theorem exc_scale {f : Int} (hf : 1 ≤ f) (a b : List IV) (s t : List Int) (W R : Int) : exc (comb a (s.map (· * f))) (comb b (t.map (· * f))) (f * W) R = exc (comb a s) (comb b t) W R := by
  have e : ∀ a (s : List Int), comb a (s.map (· * f)) = ⟨⟨f * (comb a s).x.lo, f * (comb a s).x.hi⟩, ⟨f * (comb a s).y.lo, f * (comb a s).y.hi⟩, ⟨f * (comb a s).z.lo, f * (comb a s).z.hi⟩⟩ := fun a s => by
    unfold comb
    simp only [dotL_scale]
  rw [e, e]
  unfold exc
  simp only [far1_scale hf]
end Go.Proofs.Ytionbckpgfaneaa
