/- Plain laws of the overlap over chosen points: parts of boxes, corners, sums, a common point. -/
import Derived.Test.YtionbckpgfaneaaPc
namespace Go.Proofs.Ytionbckpgfaneaa
open Go.RowKit
/-- a point of an interval, as an interval without width -/
def PtIn (a b : Iv) : Prop := a.lo = a.hi ∧ b.lo ≤ a.lo ∧ a.hi ≤ b.hi
def ChIn (a b : IV) : Prop := PtIn a.x b.x ∧ PtIn a.y b.y ∧ PtIn a.z b.z
/-- points that are chosen out of boxes -/
def ChosenOf (l m : List IV) : Prop := l.length = m.length ∧ ∀ j (h : j < l.length) (h' : j < m.length), ChIn l[j] m[j]
theorem ChIn.sub {a b : IV} (h : ChIn a b) : a.sub b := by
  obtain ⟨⟨_, h1, h2⟩, ⟨_, h3, h4⟩, _, h5, h6⟩ := h
  exact ⟨⟨h1, h2⟩, ⟨h3, h4⟩, ⟨h5, h6⟩⟩
theorem ChosenOf.mem {l m : List IV} (h : ChosenOf l m) {p : IV} (hp : p ∈ l) : ∃ q ∈ m, ChIn p q := by
  obtain ⟨j, hj, rfl⟩ := List.getElem_of_mem hp
  have hm : j < m.length := by rw [← h.1]; exact hj
  exact ⟨m[j], by simp, h.2 j hj hm⟩
theorem ChosenOf.le {l m : List IV} (h : ChosenOf l m) : ∀ p ∈ l, p.x.lo ≤ p.x.hi ∧ p.y.lo ≤ p.y.hi ∧ p.z.lo ≤ p.z.hi := fun p hp => by
  obtain ⟨q, _, ⟨e1, _, _⟩, ⟨e2, _, _⟩, e3, _, _⟩ := h.mem hp
  omega
theorem ChosenOf.placed {l m : List IV} (h : ChosenOf l m) (hm : placedB m = true) : placedB l = true := by
  obtain ⟨m1, m8, mo⟩ := placed_of hm
  unfold placedB
  simp only [Bool.and_eq_true, decide_eq_true_eq, List.all_eq_true]
  have hl := h.1
  refine ⟨⟨by omega, by omega⟩, fun p hp => ?_⟩
  obtain ⟨q, hq, c⟩ := h.mem hp
  obtain ⟨j, hj, rfl⟩ := List.getElem_of_mem hq
  have o := ok_of (mo j hj)
  obtain ⟨⟨e1, a1, b1⟩, ⟨e2, a2, b2⟩, e3, a3, b3⟩ := c
  exact ok_yes p (by omega) (by omega) (by omega)
theorem ChosenOf.combOk {l m : List IV} {s : List Int} (h : ChosenOf l m) (hm : combOk m s = true) : combOk l s = true := by
  obtain ⟨h1, h2, h3, h4⟩ := combOk_of hm
  exact combOk_yes (h.placed h1) (by rw [h2, h.1]) h3 h4
theorem ovl_chosen {s t : List Int} {a b a' b' : List IV} {ra rb : Int} (h1 : combOk a s = true) (h2 : combOk b t = true) (h : s.sum = t.sum) (hr : 0 ≤ ra ∧ ra ≤ 1048576) (hq : 0 ≤ rb ∧ rb ≤ 1048576)
    (ha : ChosenOf a' a) (hb : ChosenOf b' b) (hs : ∀ x ∈ s, 0 ≤ x) (ht : ∀ x ∈ t, 0 ≤ x) (ho : ovl s t a b ra rb = true) : 0 ≤ exc (comb a' s) (comb b' t) s.sum (ra + rb) := by
  rw [ovl_made h1 h2 h hr hq] at ho
  have hW := (combOk_of h1).2.2.2.1
  exact exc_mono hW (comb_mono hs ha.1 fun j x y => (ha.2 j x y).sub) (comb_mono ht hb.1 fun j x y => (hb.2 j x y).sub) (comb_le hs ha.le) (comb_le ht hb.le) (of_decide_eq_true ho)
theorem ovl_chosen_yes {s t : List Int} {a b a' b' : List IV} {ra rb : Int} (h1 : combOk a s = true) (h2 : combOk b t = true) (h : s.sum = t.sum) (hr : 0 ≤ ra ∧ ra ≤ 1048576) (hq : 0 ≤ rb ∧ rb ≤ 1048576)
    (ha : ChosenOf a' a) (hb : ChosenOf b' b) (hs : ∀ x ∈ s, 0 ≤ x) (ht : ∀ x ∈ t, 0 ≤ x) (ho : ovl s t a b ra rb = true) : ovl s t a' b' ra rb = true := by
  rw [ovl_made (ha.combOk h1) (hb.combOk h2) h hr hq]
  exact decide_eq_true (ovl_chosen h1 h2 h hr hq ha hb hs ht ho)
/-- the corners of boxes and their weighted sum -/
def cornerV (v : IV) : V3 := ⟨v.x.lo, v.y.lo, v.z.lo⟩
def sumV (l : List V3) (ws : List Int) : V3 := ⟨dotL ws (l.map (·.x)), dotL ws (l.map (·.y)), dotL ws (l.map (·.z))⟩
theorem sumV_corner (l : List IV) (ws : List Int) : sumV (l.map cornerV) ws = ⟨(comb l ws).x.lo, (comb l ws).y.lo, (comb l ws).z.lo⟩ := by
  simp [sumV, comb, List.map_map, cornerV, Function.comp_def]
theorem dotL_congr (ws : List Int) (l : List IV) (f g : IV → Int) (h : ∀ p ∈ l, f p = g p) : dotL ws (l.map f) = dotL ws (l.map g) := by
  rw [List.map_congr_left h]
theorem comb_point {l m : List IV} (h : ChosenOf l m) (ws : List Int) : (comb l ws).x.hi = (comb l ws).x.lo ∧ (comb l ws).y.hi = (comb l ws).y.lo ∧ (comb l ws).z.hi = (comb l ws).z.lo := by
  have e : ∀ p ∈ l, p.x.hi = p.x.lo ∧ p.y.hi = p.y.lo ∧ p.z.hi = p.z.lo := fun p hp => by
    obtain ⟨q, _, ⟨e1, _, _⟩, ⟨e2, _, _⟩, e3, _, _⟩ := h.mem hp
    omega
  exact ⟨dotL_congr ws l _ _ fun p hp => (e p hp).1, dotL_congr ws l _ _ fun p hp => (e p hp).2.1, dotL_congr ws l _ _ fun p hp => (e p hp).2.2⟩
theorem far1_point {x y : Iv} {W : Int} (h1 : x.hi = x.lo) (h2 : y.hi = y.lo) : far1 x y W = ceilF (max (x.lo - y.lo) (y.lo - x.lo)) W := by
  unfold far1 absmax
  rw [h1, h2]
  congr 1
  omega
/-- the sum of squares of OverlapSound -/
def dist1 (x y n : Int) : Int := ceilF (max (x - y) (y - x)) n
theorem sound_plain {s t : List Int} {a b a' b' : List IV} {ra rb : Int} (h1 : combOk a s = true) (h2 : combOk b t = true) (h : s.sum = t.sum) (hr : 0 ≤ ra ∧ ra ≤ 1048576) (hq : 0 ≤ rb ∧ rb ≤ 1048576)
    (ha : ChosenOf a' a) (hb : ChosenOf b' b) (hs : ∀ x ∈ s, 0 ≤ x) (ht : ∀ x ∈ t, 0 ≤ x) (ho : ovl s t a b ra rb = true) :
    let x := sumV (a'.map cornerV) s; let y := sumV (b'.map cornerV) t
    dist1 x.x y.x s.sum * dist1 x.x y.x s.sum + dist1 x.y y.y s.sum * dist1 x.y y.y s.sum + dist1 x.z y.z s.sum * dist1 x.z y.z s.sum ≤ (ra + rb) * (ra + rb) ∧
    dist1 x.x y.x s.sum ≤ ra + rb ∧ dist1 x.y y.y s.sum ≤ ra + rb ∧ dist1 x.z y.z s.sum ≤ ra + rb := by
  obtain ⟨f1, f2, f3, f4⟩ := exc_nn (ovl_chosen h1 h2 h hr hq ha hb hs ht ho)
  obtain ⟨u1, u2, u3⟩ := comb_point ha s
  obtain ⟨v1, v2, v3⟩ := comb_point hb t
  rw [far1_point u1 v1, far1_point u2 v2, far1_point u3 v3] at f4
  rw [far1_point u1 v1] at f1
  rw [far1_point u2 v2] at f2
  rw [far1_point u3 v3] at f3
  intro x y
  have hx : x = ⟨(comb a' s).x.lo, (comb a' s).y.lo, (comb a' s).z.lo⟩ := sumV_corner a' s
  have hy : y = ⟨(comb b' t).x.lo, (comb b' t).y.lo, (comb b' t).z.lo⟩ := sumV_corner b' t
  rw [hx, hy]
  exact ⟨f4, f1, f2, f3⟩
/-- one weight alone -/
def oneAt (n k : Nat) (c : Int) : List Int := (List.replicate n 0).set k c
theorem oneAt_len (n k : Nat) (c : Int) : (oneAt n k c).length = n := by simp [oneAt]
theorem oneAt_mem {n k : Nat} {c x : Int} (h : x ∈ oneAt n k c) : x = 0 ∨ x = c := by
  rcases List.mem_or_eq_of_mem_set h with h | h
  · left; exact (List.mem_replicate.1 h).2
  · right; exact h
theorem oneAt_sum {n k : Nat} {c : Int} (h : k < n) : (oneAt n k c).sum = c := by
  have e := sum_set (List.replicate n (0 : Int)) k (by simpa using h) c
  simp only [List.getElem_replicate, Int.zero_add] at e
  unfold oneAt
  rw [e]
  have : ∀ m : Nat, (List.replicate m (0 : Int)).sum = 0 := fun m => by
    induction m with
    | zero => rfl
    | succ m ih => simp [List.replicate_succ, ih]
  rw [this]; omega
theorem dotL_zero (n : Nat) (xs : List Int) : dotL (List.replicate n 0) xs = 0 := by
  induction n generalizing xs with
  | zero => simp [dotL]
  | succ n ih => cases xs with
    | nil => simp [dotL]
    | cons x xs => rw [List.replicate_succ, dotL_cons, ih]; simp
theorem dotL_one (n k : Nat) (c : Int) (xs : List Int) (h : k < n) (hx : k < xs.length) : dotL (oneAt n k c) xs = c * xs[k] := by
  unfold oneAt
  induction n generalizing k xs with
  | zero => omega
  | succ n ih => cases xs with
    | nil => simp at hx
    | cons x xs => cases k with
      | zero => rw [List.replicate_succ, List.set_cons_zero, dotL_cons, dotL_zero]; simp
      | succ k =>
        rw [List.replicate_succ, List.set_cons_succ, dotL_cons, ih k xs (by omega) (by simpa using hx)]
        simp
theorem comb_one (l : List IV) (n k : Nat) (c : Int) (h : k < n) (hl : k < l.length) : comb l (oneAt n k c) = ⟨⟨c * l[k].x.lo, c * l[k].x.hi⟩, ⟨c * l[k].y.lo, c * l[k].y.hi⟩, ⟨c * l[k].z.lo, c * l[k].z.hi⟩⟩ := by
  unfold comb
  rw [dotL_one n k c _ h (by simpa using hl), dotL_one n k c _ h (by simpa using hl), dotL_one n k c _ h (by simpa using hl), dotL_one n k c _ h (by simpa using hl), dotL_one n k c _ h (by simpa using hl), dotL_one n k c _ h (by simpa using hl)]
  simp
theorem far1_zero {x : Iv} {W : Int} (h : x.hi = x.lo) : far1 x x W = 0 := by
  rw [far1_point h h]
  unfold ceilF
  simp
theorem common_plain {a b : List IV} {k j : Nat} {c ra rb : Int} (ha : placedB a = true) (hb : placedB b = true) (hk : k < a.length) (hj : j < b.length) (e : b[j] = a[k]) (hp : a[k].x.hi = a[k].x.lo ∧ a[k].y.hi = a[k].y.lo ∧ a[k].z.hi = a[k].z.lo)
    (c1 : 1 ≤ c) (c2 : c ≤ 65536) (hr : 0 ≤ ra ∧ ra ≤ 1048576) (hq : 0 ≤ rb ∧ rb ≤ 1048576) : ovl (oneAt a.length k c) (oneAt b.length j c) a b ra rb = true := by
  have w : ∀ n k, wOk (oneAt n k c) = true := fun n k => wOk_yes _ fun i hi => by
    rcases oneAt_mem (List.getElem_mem hi) with h | h <;> omega
  have h1 : combOk a (oneAt a.length k c) = true := combOk_yes ha (oneAt_len _ _ _) (w _ _) (by rw [oneAt_sum hk]; omega)
  have h2 : combOk b (oneAt b.length j c) = true := combOk_yes hb (oneAt_len _ _ _) (w _ _) (by rw [oneAt_sum hj]; omega)
  rw [ovl_made h1 h2 (by rw [oneAt_sum hk, oneAt_sum hj]) hr hq, comb_one a _ k c hk hk, comb_one b _ j c hj hj, e]
  obtain ⟨e1, e2, e3⟩ := hp
  have f := Int.mul_nonneg (show 0 ≤ ra + rb by omega) (show 0 ≤ ra + rb by omega)
  refine decide_eq_true (exc_of ?_ ?_ ?_ ?_)
  · rw [far1_zero (by rw [e1])]; omega
  · rw [far1_zero (by rw [e2])]; omega
  · rw [far1_zero (by rw [e3])]; omega
  · rw [far1_zero (by rw [e1]), far1_zero (by rw [e2]), far1_zero (by rw [e3])]; omega
end Go.Proofs.Ytionbckpgfaneaa
