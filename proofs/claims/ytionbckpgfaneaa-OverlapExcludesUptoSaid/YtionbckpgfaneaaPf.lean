/- Plain laws of least and greatest values, margins and separation. -/
import Derived.Test.YtionbckpgfaneaaPd
import Derived.Test.YtionbckpgfaneaaPe
namespace Go.Proofs.Ytionbckpgfaneaa
open Go.RowKit
theorem supOk_of {n : V3} {l : List IV} (h : supOk n l = true) : usable n = true ∧ placedB l = true := by simpa [supOk] using h
theorem supOk_yes {n : V3} {l : List IV} (h : usable n = true) (k : placedB l = true) : supOk n l = true := by simp [supOk, h, k]
theorem leastR_yes {n : V3} {l : List IV} (h : usable n = true) (k : placedB l = true) : leastR n l = .tuple #[.int .i64 (leastV n l), .int .i64 (leastI n l), .bool true] := by simp [leastR, supR, supOk, h, k]
theorem greatR_yes {n : V3} {l : List IV} (h : usable n = true) (k : placedB l = true) : greatR n l = .tuple #[.int .i64 (greatV n l), .int .i64 (greatI n l), .bool true] := by simp [greatR, supR, supOk, h, k]
theorem vlo_neg (n : V3) (l : List IV) : vlo (negV n) l = fun i => -vhi n l i := by funext i; exact dlo_neg n _
theorem vhi_neg (n : V3) (l : List IV) : vhi (negV n) l = fun i => -vlo n l i := by funext i; exact dhi_neg n _
theorem leastI_neg (n : V3) (l : List IV) : leastI (negV n) l = greatI n l := by unfold leastI greatI; rw [vlo_neg]
theorem leastV_neg (n : V3) (l : List IV) : leastV (negV n) l = -greatV n l := by unfold leastV greatV; rw [leastI_neg, vlo_neg]
theorem greatI_neg (n : V3) (l : List IV) : greatI (negV n) l = leastI n l := by
  have := leastI_neg (negV n) l
  rw [negV_negV] at this
  exact this.symm
theorem greatV_neg (n : V3) (l : List IV) : greatV (negV n) l = -leastV n l := by
  have := leastV_neg (negV n) l
  rw [negV_negV] at this
  omega
theorem chosen_dot {n : V3} {a b : IV} (h : ChIn a b) : dlo n b ≤ dlo n a ∧ dhi n a ≤ dhi n b ∧ dlo n a = dotV n (cornerV a) ∧ dhi n a = dotV n (cornerV a) := by
  obtain ⟨⟨e1, a1, b1⟩, ⟨e2, a2, b2⟩, e3, a3, b3⟩ := h
  have d := dot_between (n := n) (v := b) (x := cornerV a) (by simp only [cornerV]; omega) (by simp only [cornerV]; omega) (by simp only [cornerV]; omega)
  have l : dlo n a = dotV n (cornerV a) := by simp only [dlo, dotV, cornerV, ← e1, ← e2, ← e3]; omega
  have g : dhi n a = dotV n (cornerV a) := by simp only [dhi, dotV, cornerV, ← e1, ← e2, ← e3]; omega
  omega
theorem leastV_chosen (n : V3) {a b : List IV} (h : ChosenOf a b) (hb : 0 < b.length) : leastV n b ≤ leastV n a := by
  have ha : 0 < a.length := by rw [h.1]; exact hb
  have hi := leastI_lt n ha
  have hi' : leastI n a < b.length := by rw [← h.1]; exact hi
  rw [leastV_at n ha]
  have := leastV_le n b _ hi'
  have := (chosen_dot (n := n) (h.2 _ hi hi')).1
  omega
theorem greatV_chosen (n : V3) {a b : List IV} (h : ChosenOf a b) (hb : 0 < b.length) : greatV n a ≤ greatV n b := by
  have ha : 0 < a.length := by rw [h.1]; exact hb
  have hi := greatI_lt n ha
  have hi' : greatI n a < b.length := by rw [← h.1]; exact hi
  rw [greatV_at n ha]
  have := greatV_ge n b _ hi'
  have := (chosen_dot (n := n) (h.2 _ hi hi')).2.1
  omega
theorem leastV_le_greatV (n : V3) {l : List IV} (h : 0 < l.length) : leastV n l ≤ greatV n l := by
  have a := leastV_le n l 0 h
  have b := greatV_ge n l 0 h
  have := dlo_le_dhi n l[0]
  omega
/-- the weighted sum of the values of points -/
def valW (n : V3) (ws : List Int) (l : List IV) : Int := dotL ws (l.map fun p => dotV n (cornerV p))
theorem dotL_ge (ws : List Int) (xs : List Int) (m : Int) (hl : ws.length = xs.length) (hw : ∀ x ∈ ws, 0 ≤ x) (h : ∀ x ∈ xs, m ≤ x) : m * ws.sum ≤ dotL ws xs := by
  induction ws generalizing xs with
  | nil => simp [dotL]
  | cons w ws ih => cases xs with
    | nil => simp at hl
    | cons x xs =>
      have i := ih xs (by simpa using hl) (fun y hy => hw y (by simp [hy])) (fun y hy => h y (by simp [hy]))
      rw [dotL_cons, List.sum_cons, Int.mul_add]
      have := Int.mul_le_mul_of_nonneg_left (h x (by simp)) (hw w (by simp))
      rw [Int.mul_comm w m] at this
      omega
theorem dotL_le (ws : List Int) (xs : List Int) (m : Int) (hl : ws.length = xs.length) (hw : ∀ x ∈ ws, 0 ≤ x) (h : ∀ x ∈ xs, x ≤ m) : dotL ws xs ≤ m * ws.sum := by
  induction ws generalizing xs with
  | nil => simp [dotL]
  | cons w ws ih => cases xs with
    | nil => simp at hl
    | cons x xs =>
      have i := ih xs (by simpa using hl) (fun y hy => hw y (by simp [hy])) (fun y hy => h y (by simp [hy]))
      rw [dotL_cons, List.sum_cons, Int.mul_add]
      have := Int.mul_le_mul_of_nonneg_left (h x (by simp)) (hw w (by simp))
      rw [Int.mul_comm w m] at this
      omega
theorem valW_between (n : V3) {a b : List IV} {ws : List Int} (h : ChosenOf a b) (hl : ws.length = b.length) (hw : ∀ x ∈ ws, 0 ≤ x) : leastV n b * ws.sum ≤ valW n ws a ∧ valW n ws a ≤ greatV n b * ws.sum := by
  have hal := h.1
  have key : ∀ p ∈ a, leastV n b ≤ dotV n (cornerV p) ∧ dotV n (cornerV p) ≤ greatV n b := fun p hp => by
    obtain ⟨j, hj, rfl⟩ := List.getElem_of_mem hp
    have hj' : j < b.length := by omega
    obtain ⟨c1, c2, c3, c4⟩ := chosen_dot (n := n) (h.2 j hj hj')
    have := leastV_le n b j hj'
    have := greatV_ge n b j hj'
    omega
  constructor
  · apply dotL_ge ws _ _ (by simp; omega) hw
    intro x hx
    obtain ⟨p, hp, rfl⟩ := List.mem_map.1 hx
    exact (key p hp).1
  · apply dotL_le ws _ _ (by simp; omega) hw
    intro x hx
    obtain ⟨p, hp, rfl⟩ := List.mem_map.1 hx
    exact (key p hp).2
/-- moved boxes -/
def addIV (v : IV) (t : V3) : IV := ⟨⟨v.x.lo + t.x, v.x.hi + t.x⟩, ⟨v.y.lo + t.y, v.y.hi + t.y⟩, ⟨v.z.lo + t.z, v.z.hi + t.z⟩⟩
theorem dlo_add (n : V3) (v : IV) (t : V3) : dlo n (addIV v t) = dlo n v + dotV n t := by
  simp only [dlo, addIV, dotV, Int.mul_add]
  omega
theorem dhi_add (n : V3) (v : IV) (t : V3) : dhi n (addIV v t) = dhi n v + dotV n t := by
  simp only [dhi, addIV, dotV, Int.mul_add]
  omega
theorem vlo_add (n : V3) (l : List IV) (t : V3) (i : Nat) (h : i < l.length) : vlo n (l.map (addIV · t)) i = vlo n l i + dotV n t := by
  rw [vlo_at n l i h, vlo_at n _ i (by simpa using h), List.getElem_map, dlo_add]
theorem vhi_add (n : V3) (l : List IV) (t : V3) (i : Nat) (h : i < l.length) : vhi n (l.map (addIV · t)) i = vhi n l i + dotV n t := by
  rw [vhi_at n l i h, vhi_at n _ i (by simpa using h), List.getElem_map, dhi_add]
theorem leastI_add (n : V3) (l : List IV) (t : V3) : leastI n (l.map (addIV · t)) = leastI n l := by
  unfold leastI
  rw [List.length_map]
  refine amin_congr _ fun i j hi hj => ?_
  rw [vlo_add n l t i hi, vlo_add n l t j hj]
  omega
theorem greatI_add (n : V3) (l : List IV) (t : V3) : greatI n (l.map (addIV · t)) = greatI n l := by
  unfold greatI
  rw [List.length_map]
  refine amin_congr _ fun i j hi hj => ?_
  rw [vhi_add n l t i hi, vhi_add n l t j hj]
  omega
theorem leastV_add (n : V3) {l : List IV} (t : V3) (h : 0 < l.length) : leastV n (l.map (addIV · t)) = leastV n l + dotV n t := by
  unfold leastV
  rw [leastI_add, vlo_add n l t _ (leastI_lt n h)]
theorem greatV_add (n : V3) {l : List IV} (t : V3) (h : 0 < l.length) : greatV n (l.map (addIV · t)) = greatV n l + dotV n t := by
  unfold greatV
  rw [greatI_add, vhi_add n l t _ (greatI_lt n h)]
/-- the margin -/
def margOk (n : V3) (a : List IV) (ra : Int) (b : List IV) (rb : Int) : Bool := usable n && placedB a && placedB b && radOk ra && radOk rb
noncomputable def margX (n : V3) (a : List IV) (ra : Int) (b : List IV) (rb : Int) : Int := leastV n a - greatV n b - normF n * (ra + rb)
noncomputable def margV (n : V3) (a : List IV) (ra : Int) (b : List IV) (rb : Int) : Int := if margOk n a ra b rb then margX n a ra b rb else 0
noncomputable def sepB (n : V3) (a : List IV) (ra : Int) (b : List IV) (rb : Int) : Bool := margOk n a ra b rb && decide (0 < margV n a ra b rb)
theorem margOk_of {n : V3} {a b : List IV} {ra rb : Int} (h : margOk n a ra b rb = true) : usable n = true ∧ placedB a = true ∧ placedB b = true ∧ (0 ≤ ra ∧ ra ≤ 1048576) ∧ (0 ≤ rb ∧ rb ≤ 1048576) := by
  simp [margOk, radOk] at h
  exact ⟨h.1.1.1.1, h.1.1.1.2, h.1.1.2, h.1.2, h.2⟩
theorem margOk_yes {n : V3} {a b : List IV} {ra rb : Int} (h1 : usable n = true) (h2 : placedB a = true) (h3 : placedB b = true) (h4 : 0 ≤ ra ∧ ra ≤ 1048576) (h5 : 0 ≤ rb ∧ rb ≤ 1048576) : margOk n a ra b rb = true := by
  simp [margOk, radOk, h1, h2, h3, h4, h5]
theorem margV_yes {n : V3} {a b : List IV} {ra rb : Int} (h : margOk n a ra b rb = true) : margV n a ra b rb = margX n a ra b rb := by simp [margV, h]
theorem sepB_yes {n : V3} {a b : List IV} {ra rb : Int} (h : margOk n a ra b rb = true) : sepB n a ra b rb = decide (0 < margX n a ra b rb) := by simp [sepB, h, margV]
theorem marg_flip (n : V3) (a : List IV) (ra : Int) (b : List IV) (rb : Int) : margX (negV n) b rb a ra = margX n a ra b rb := by
  unfold margX
  rw [leastV_neg, greatV_neg, normF_neg, Int.add_comm rb ra]
  omega
theorem marg_chosen (n : V3) {a b a' b' : List IV} (ra rb : Int) (ha : ChosenOf a' a) (hb : ChosenOf b' b) (la : 0 < a.length) (lb : 0 < b.length) : margX n a ra b rb ≤ margX n a' ra b' rb := by
  have := leastV_chosen n ha la
  have := greatV_chosen n hb lb
  unfold margX
  omega
theorem marg_add (n : V3) {a b : List IV} (ra rb : Int) (t : V3) (la : 0 < a.length) (lb : 0 < b.length) : margX n (a.map (addIV · t)) ra (b.map (addIV · t)) rb = margX n a ra b rb := by
  unfold margX
  rw [leastV_add n t la, greatV_add n t lb]
  omega
theorem marg_radius (n : V3) (a b : List IV) (ra rb d : Int) : margX n a ra b rb - margX n a (ra + d) b rb = normF n * d := by
  unfold margX
  have e : normF n * (ra + d + rb) = normF n * (ra + rb) + normF n * d := by rw [← Int.mul_add]; congr 1; omega
  rw [e]
  omega
theorem marg_bd {n : V3} {a b : List IV} {ra rb : Int} (h : margOk n a ra b rb = true) : -100000000000000 ≤ margX n a ra b rb ∧ margX n a ra b rb ≤ 100000000000000 := by
  obtain ⟨h1, h2, h3, h4, h5⟩ := margOk_of h
  have := leastV_bd h1 h2
  have := greatV_bd h1 h3
  have k := normF_bd n
  have := mul_bd (normF n) (ra + rb) 32768 2097152 k.1 k.2 (by omega) (by omega)
  unfold margX
  omega
theorem marg_never (n : V3) {a b : List IV} {ra rb : Int} (hr : 0 ≤ ra) (hq : 0 ≤ rb) {k j : Nat} (hk : k < a.length) (hj : j < b.length) (e : b[j] = a[k]) : margX n a ra b rb ≤ 0 := by
  have h1 := leastV_le n a k hk
  have h2 := greatV_ge n b j hj
  rw [e] at h2
  have h3 := dlo_le_dhi n a[k]
  have := Int.mul_nonneg (normF_bd n).1 (show 0 ≤ ra + rb by omega)
  unfold margX
  omega
theorem marg_sound (n : V3) {a b c d : List IV} {s t : List Int} (ra rb : Int) (hc : ChosenOf c a) (hd : ChosenOf d b) (ls : s.length = a.length) (lt : t.length = b.length) (hs : ∀ x ∈ s, 0 ≤ x) (ht : ∀ x ∈ t, 0 ≤ x) :
    (margX n a ra b rb + normF n * (ra + rb)) * s.sum * t.sum ≤ valW n s c * t.sum - valW n t d * s.sum := by
  have e : margX n a ra b rb + normF n * (ra + rb) = leastV n a - greatV n b := by unfold margX; omega
  rw [e]
  have h1 := (valW_between n hc ls hs).1
  have h2 := (valW_between n hd lt ht).2
  have s0 := sum_nonneg s hs
  have t0 := sum_nonneg t ht
  have g1 := Int.mul_le_mul_of_nonneg_right h1 t0
  have g2 := Int.mul_le_mul_of_nonneg_right h2 s0
  rw [Int.sub_mul, Int.sub_mul]
  rw [Int.mul_assoc (greatV n b), Int.mul_comm t.sum] at g2
  rw [Int.mul_assoc (greatV n b)]
  omega
/-- Cauchy and Schwarz -/
theorem cauchy (a b c x y z : Int) : (a * x + b * y + c * z) * (a * x + b * y + c * z) ≤ (a * a + b * b + c * c) * (x * x + y * y + z * z) := by
  have e : (a * x + b * y + c * z) * (a * x + b * y + c * z) + ((a * y - b * x) * (a * y - b * x) + (a * z - c * x) * (a * z - c * x) + (b * z - c * y) * (b * z - c * y)) = (a * a + b * b + c * c) * (x * x + y * y + z * z) := by grind
  have := sq_nn (a * y - b * x)
  have := sq_nn (a * z - c * x)
  have := sq_nn (b * z - c * y)
  omega
theorem le_of_sq {a b : Int} (hb : 0 ≤ b) (h : a * a ≤ b * b) : a ≤ b := by
  rcases Int.le_total a b with h1 | h1
  · exact h1
  · rcases Int.lt_or_eq_of_le h1 with h2 | h2
    · have := sq_le (show 0 ≤ b + 1 by omega) (show b + 1 ≤ a by omega)
      have e : (b + 1) * (b + 1) = b * b + 2 * b + 1 := by grind
      omega
    · omega
/-- the product with a difference is bounded by the absolute values -/
theorem mul_abs (n d m W : Int) (h1 : -(m * W) ≤ d) (h2 : d ≤ m * W) : n * d ≤ max n (-n) * m * W := by
  rcases Int.le_total 0 n with h | h
  · rw [Int.max_eq_left (by omega), Int.mul_assoc]
    exact Int.mul_le_mul_of_nonneg_left h2 h
  · rw [Int.max_eq_right (by omega), Int.mul_assoc]
    have := Int.mul_le_mul_of_nonneg_left (show -d ≤ m * W by omega) (show 0 ≤ -n by omega)
    rw [Int.neg_mul_neg] at this
    exact this
theorem ceilF_ge (x W : Int) (hW : 1 ≤ W) : x ≤ ceilF x W * W := by
  unfold ceilF
  have := Int.ediv_mul_le (-x) (b := W) (by omega)
  rw [Int.neg_mul]
  omega
theorem far1_ge {u v : Iv} {W : Int} (hW : 1 ≤ W) {x y : Int} (hx : u.lo ≤ x ∧ x ≤ u.hi) (hy : v.lo ≤ y ∧ y ≤ v.hi) : -(far1 u v W * W) ≤ x - y ∧ x - y ≤ far1 u v W * W := by
  have := ceilF_ge (absmax (u.lo - v.hi) (u.hi - v.lo)) W hW
  unfold far1
  unfold absmax at *
  omega
theorem abs_sq (n : Int) : max n (-n) * max n (-n) = n * n := by
  rcases Int.le_total 0 n with h | h
  · rw [Int.max_eq_left (by omega)]
  · rw [Int.max_eq_right (by omega), Int.neg_mul_neg]
theorem dotL_lin (ws : List Int) (l : List IV) (a b c : Int) (f g h : IV → Int) : dotL ws (l.map fun p => a * f p + b * g p + c * h p) = a * dotL ws (l.map f) + b * dotL ws (l.map g) + c * dotL ws (l.map h) := by
  induction ws generalizing l with
  | nil => simp [dotL]
  | cons w ws ih => cases l with
    | nil => simp [dotL]
    | cons p l =>
      simp only [List.map_cons, dotL_cons, ih]
      grind
theorem valW_dot (n : V3) (ws : List Int) (l : List IV) : valW n ws l = dotV n (sumV (l.map cornerV) ws) := by
  unfold valW
  rw [sumV_corner]
  simp only [dotV, cornerV, comb]
  exact dotL_lin ws l _ _ _ _ _ _
theorem valW_boxes (n : V3) {l : List IV} {ws : List Int} (hp : placedB l = true) (hl : ws.length = l.length) (hw : ∀ x ∈ ws, 0 ≤ x) : leastV n l * ws.sum ≤ valW n ws l ∧ valW n ws l ≤ greatV n l * ws.sum := by
  obtain ⟨l1, _, lo⟩ := placed_of hp
  have key : ∀ p ∈ l, leastV n l ≤ dotV n (cornerV p) ∧ dotV n (cornerV p) ≤ greatV n l := fun p hp => by
    obtain ⟨j, hj, rfl⟩ := List.getElem_of_mem hp
    have o := ok_of (lo j hj)
    have d := dot_between (n := n) (v := l[j]) (x := cornerV l[j]) (by simp only [cornerV]; omega) (by simp only [cornerV]; omega) (by simp only [cornerV]; omega)
    have := leastV_le n l j hj
    have := greatV_ge n l j hj
    omega
  constructor
  · apply dotL_ge ws _ _ (by simp; omega) hw
    intro x hx
    obtain ⟨p, hp, rfl⟩ := List.mem_map.1 hx
    exact (key p hp).1
  · apply dotL_le ws _ _ (by simp; omega) hw
    intro x hx
    obtain ⟨p, hp, rfl⟩ := List.mem_map.1 hx
    exact (key p hp).2
theorem comb_corner_in {l : List IV} {ws : List Int} (hp : placedB l = true) (hw : ∀ x ∈ ws, 0 ≤ x) : (comb l ws).x.lo ≤ (comb l ws).x.hi ∧ (comb l ws).y.lo ≤ (comb l ws).y.hi ∧ (comb l ws).z.lo ≤ (comb l ws).z.hi := by
  obtain ⟨_, _, lo⟩ := placed_of hp
  refine comb_le hw fun p hp => ?_
  obtain ⟨j, hj, rfl⟩ := List.getElem_of_mem hp
  have := ok_of (lo j hj)
  omega
/-- an overlap excludes a separating normal -/
theorem excludes_plain {n : V3} {s t : List Int} {a b : List IV} {ra rb : Int} (h1 : combOk a s = true) (h2 : combOk b t = true) (h : s.sum = t.sum) (hn : usable n = true) (hr : 0 ≤ ra ∧ ra ≤ 1048576) (hq : 0 ≤ rb ∧ rb ≤ 1048576)
    (ho : ovl s t a b ra rb = true) : sepB n a ra b rb = false := by
  obtain ⟨pa, la, wa, sa, _⟩ := combOk_of h1
  obtain ⟨pb, lb, wb, _, _⟩ := combOk_of h2
  have hs : ∀ x ∈ s, 0 ≤ x := fun x hx => (wOk_of wa x hx).1
  have ht : ∀ x ∈ t, 0 ≤ x := fun x hx => (wOk_of wb x hx).1
  rw [sepB_yes (margOk_yes hn pa pb hr hq)]
  rw [ovl_made h1 h2 h hr hq] at ho
  obtain ⟨f1, f2, f3, f4⟩ := exc_nn (of_decide_eq_true ho)
  have va := (valW_boxes n pa la hs).1
  have vb := (valW_boxes n pb lb ht).2
  rw [← h] at vb
  rw [valW_dot, sumV_corner] at va vb
  have ca := comb_corner_in pa hs
  have cb := comb_corner_in pb ht
  obtain ⟨W, hW⟩ : ∃ W, W = s.sum := ⟨_, rfl⟩
  rw [← hW] at va vb f1 f2 f3 f4 sa
  obtain ⟨u, hu⟩ : ∃ u, u = comb a s := ⟨_, rfl⟩
  obtain ⟨v, hv⟩ : ∃ v, v = comb b t := ⟨_, rfl⟩
  rw [← hu] at va f1 f2 f3 f4 ca
  rw [← hv] at vb f1 f2 f3 f4 cb
  have g1 := far1_ge (u := u.x) (v := v.x) (W := W) sa (x := u.x.lo) (y := v.x.lo) (by omega) (by omega)
  have g2 := far1_ge (u := u.y) (v := v.y) (W := W) sa (x := u.y.lo) (y := v.y.lo) (by omega) (by omega)
  have g3 := far1_ge (u := u.z) (v := v.z) (W := W) sa (x := u.z.lo) (y := v.z.lo) (by omega) (by omega)
  have m1 := mul_abs n.x (u.x.lo - v.x.lo) _ W g1.1 g1.2
  have m2 := mul_abs n.y (u.y.lo - v.y.lo) _ W g2.1 g2.2
  have m3 := mul_abs n.z (u.z.lo - v.z.lo) _ W g3.1 g3.2
  obtain ⟨D, hD⟩ : ∃ D, D = max n.x (-n.x) * far1 u.x v.x W + max n.y (-n.y) * far1 u.y v.y W + max n.z (-n.z) * far1 u.z v.z W := ⟨_, rfl⟩
  have hle : (leastV n a - greatV n b) * W ≤ D * W := by
    simp only [dotV] at va vb
    rw [hD, Int.sub_mul, Int.add_mul, Int.add_mul]
    rw [Int.mul_sub] at m1 m2 m3
    omega
  have hle2 : leastV n a - greatV n b ≤ D := Int.le_of_mul_le_mul_right hle (by omega)
  have c := cauchy (max n.x (-n.x)) (max n.y (-n.y)) (max n.z (-n.z)) (far1 u.x v.x W) (far1 u.y v.y W) (far1 u.z v.z W)
  rw [← hD, abs_sq, abs_sq, abs_sq] at c
  have sp := normF_spec hn
  have nb := normF_bd n
  have l0 := lenSq_bd (usable_of hn).1
  have q1 : lenSq n * (far1 u.x v.x W * far1 u.x v.x W + far1 u.y v.y W * far1 u.y v.y W + far1 u.z v.z W * far1 u.z v.z W) ≤ lenSq n * ((ra + rb) * (ra + rb)) := Int.mul_le_mul_of_nonneg_left f4 l0.1
  have q2 : lenSq n * ((ra + rb) * (ra + rb)) ≤ (normF n * normF n) * ((ra + rb) * (ra + rb)) := Int.mul_le_mul_of_nonneg_right sp.2.1 (sq_nn _)
  have q3 : (normF n * normF n) * ((ra + rb) * (ra + rb)) = (normF n * (ra + rb)) * (normF n * (ra + rb)) := by grind
  have c' : D * D ≤ lenSq n * (far1 u.x v.x W * far1 u.x v.x W + far1 u.y v.y W * far1 u.y v.y W + far1 u.z v.z W * far1 u.z v.z W) := c
  have hD2 : D ≤ normF n * (ra + rb) := le_of_sq (Int.mul_nonneg nb.1 (by omega)) (by omega)
  refine decide_eq_false ?_
  unfold margX
  omega
end Go.Proofs.Ytionbckpgfaneaa
