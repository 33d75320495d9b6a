/- Plain facts on normals, scalar products, roots, least and greatest values. -/
import Derived.Test.YtionbckpgfaneaaPb
namespace Go.Proofs.Ytionbckpgfaneaa
open Go.RowKit
def zeroV : V3 := ⟨0, 0, 0⟩
def inR (v : V3) : Bool := decide ((-16384 ≤ v.x ∧ v.x ≤ 16384) ∧ (-16384 ≤ v.y ∧ v.y ≤ 16384) ∧ (-16384 ≤ v.z ∧ v.z ≤ 16384))
def isZ (v : V3) : Bool := decide (v.x = 0 ∧ v.y = 0 ∧ v.z = 0)
def usable (v : V3) : Bool := inR v && !isZ v
theorem inR_of {v : V3} (h : inR v = true) : (-16384 ≤ v.x ∧ v.x ≤ 16384) ∧ (-16384 ≤ v.y ∧ v.y ≤ 16384) ∧ (-16384 ≤ v.z ∧ v.z ≤ 16384) := of_decide_eq_true h
theorem isZ_of {v : V3} (h : isZ v = true) : v.x = 0 ∧ v.y = 0 ∧ v.z = 0 := of_decide_eq_true h
theorem isZ_not {v : V3} (h : isZ v = false) : ¬ (v.x = 0 ∧ v.y = 0 ∧ v.z = 0) := of_decide_eq_false h
theorem usable_of {v : V3} (h : usable v = true) : inR v = true ∧ isZ v = false := by simpa [usable] using h
/-- the scalar product of a normal with a box: least and greatest -/
def dlo (n : V3) (v : IV) : Int := min (n.x * v.x.lo) (n.x * v.x.hi) + min (n.y * v.y.lo) (n.y * v.y.hi) + min (n.z * v.z.lo) (n.z * v.z.hi)
def dhi (n : V3) (v : IV) : Int := max (n.x * v.x.lo) (n.x * v.x.hi) + max (n.y * v.y.lo) (n.y * v.y.hi) + max (n.z * v.z.lo) (n.z * v.z.hi)
def dotV (a b : V3) : Int := a.x * b.x + a.y * b.y + a.z * b.z
theorem mul_bd2 (a x A X : Int) (h0 : -A ≤ a) (h1 : a ≤ A) (h2 : -X ≤ x) (h3 : x ≤ X) : -(A * X) ≤ a * x ∧ a * x ≤ A * X := by
  rcases Int.le_total 0 a with h | h
  · exact mul_bd a x A X h h1 h2 h3
  · have := mul_bd (-a) x A X (by omega) (by omega) h2 h3
    rw [Int.neg_mul] at this
    omega
theorem dlo_bd {n : V3} {v : IV} (hn : inR n = true) (hv : v.ok = true) : -13194139533312 ≤ dlo n v ∧ dlo n v ≤ 13194139533312 := by
  obtain ⟨⟨a1, a2⟩, ⟨b1, b2⟩, c1, c2⟩ := inR_of hn
  obtain ⟨⟨d1, d2, d3⟩, ⟨e1, e2, e3⟩, f1, f2, f3⟩ := ok_of hv
  have g1 := mul_bd2 n.x v.x.lo 16384 268435456 a1 a2 (by omega) (by omega)
  have g2 := mul_bd2 n.x v.x.hi 16384 268435456 a1 a2 (by omega) (by omega)
  have g3 := mul_bd2 n.y v.y.lo 16384 268435456 b1 b2 (by omega) (by omega)
  have g4 := mul_bd2 n.y v.y.hi 16384 268435456 b1 b2 (by omega) (by omega)
  have g5 := mul_bd2 n.z v.z.lo 16384 268435456 c1 c2 (by omega) (by omega)
  have g6 := mul_bd2 n.z v.z.hi 16384 268435456 c1 c2 (by omega) (by omega)
  unfold dlo
  omega
theorem dhi_bd {n : V3} {v : IV} (hn : inR n = true) (hv : v.ok = true) : -13194139533312 ≤ dhi n v ∧ dhi n v ≤ 13194139533312 := by
  obtain ⟨⟨a1, a2⟩, ⟨b1, b2⟩, c1, c2⟩ := inR_of hn
  obtain ⟨⟨d1, d2, d3⟩, ⟨e1, e2, e3⟩, f1, f2, f3⟩ := ok_of hv
  have g1 := mul_bd2 n.x v.x.lo 16384 268435456 a1 a2 (by omega) (by omega)
  have g2 := mul_bd2 n.x v.x.hi 16384 268435456 a1 a2 (by omega) (by omega)
  have g3 := mul_bd2 n.y v.y.lo 16384 268435456 b1 b2 (by omega) (by omega)
  have g4 := mul_bd2 n.y v.y.hi 16384 268435456 b1 b2 (by omega) (by omega)
  have g5 := mul_bd2 n.z v.z.lo 16384 268435456 c1 c2 (by omega) (by omega)
  have g6 := mul_bd2 n.z v.z.hi 16384 268435456 c1 c2 (by omega) (by omega)
  unfold dhi
  omega
def negV (n : V3) : V3 := ⟨-n.x, -n.y, -n.z⟩
theorem dlo_neg (n : V3) (v : IV) : dlo (negV n) v = -dhi n v := by
  simp only [dlo, dhi, negV, Int.neg_mul]
  omega
theorem dhi_neg (n : V3) (v : IV) : dhi (negV n) v = -dlo n v := by
  simp only [dlo, dhi, negV, Int.neg_mul]
  omega
theorem usable_neg {n : V3} (h : usable n = true) : usable (negV n) = true := by
  obtain ⟨h1, h2⟩ := usable_of h
  have a := inR_of h1
  have b := isZ_not h2
  have c : inR (negV n) = true := decide_eq_true (by simp only [negV]; omega)
  have d : isZ (negV n) = false := decide_eq_false (by simp only [negV]; omega)
  simp [usable, c, d]
/-- between the ends of an interval a product lies between the products of the ends -/
theorem mul_between (n lo hi x : Int) (h1 : lo ≤ x) (h2 : x ≤ hi) : min (n * lo) (n * hi) ≤ n * x ∧ n * x ≤ max (n * lo) (n * hi) := by
  rcases Int.le_total 0 n with h | h
  · have a := Int.mul_le_mul_of_nonneg_left h1 h
    have b := Int.mul_le_mul_of_nonneg_left h2 h
    omega
  · have a := Int.mul_le_mul_of_nonneg_left h1 (show 0 ≤ -n by omega)
    have b := Int.mul_le_mul_of_nonneg_left h2 (show 0 ≤ -n by omega)
    rw [Int.neg_mul, Int.neg_mul] at a b
    omega
theorem dlo_le_dhi (n : V3) (v : IV) : dlo n v ≤ dhi n v := by
  unfold dlo dhi
  omega
theorem dot_between {n : V3} {v : IV} {x : V3} (h1 : v.x.lo ≤ x.x ∧ x.x ≤ v.x.hi) (h2 : v.y.lo ≤ x.y ∧ x.y ≤ v.y.hi) (h3 : v.z.lo ≤ x.z ∧ x.z ≤ v.z.hi) : dlo n v ≤ dotV n x ∧ dotV n x ≤ dhi n v := by
  have a := mul_between n.x _ _ _ h1.1 h1.2
  have b := mul_between n.y _ _ _ h2.1 h2.2
  have c := mul_between n.z _ _ _ h3.1 h3.2
  unfold dlo dhi dotV
  omega
/-- the first index with the least value -/
def amin (f : Nat → Int) : Nat → Nat
  | 0 => 0
  | k + 1 => if k = 0 then 0 else if f k < f (amin f k) then k else amin f k
theorem amin_one (f : Nat → Int) : amin f 1 = 0 := rfl
theorem amin_succ (f : Nat → Int) (k : Nat) (hk : 0 < k) : amin f (k + 1) = if f k < f (amin f k) then k else amin f k := by
  simp [amin, show k ≠ 0 by omega]
theorem amin_lt (f : Nat → Int) (k : Nat) (hk : 0 < k) : amin f k < k := by
  induction k with
  | zero => omega
  | succ k ih =>
    rcases Nat.eq_zero_or_pos k with h | h
    · subst h; simp [amin]
    · rw [amin_succ f k h]
      have := ih h
      split <;> omega
theorem amin_le (f : Nat → Int) (k : Nat) : ∀ i, i < k → f (amin f k) ≤ f i := by
  induction k with
  | zero => intro i hi; omega
  | succ k ih =>
    intro i hi
    rcases Nat.eq_zero_or_pos k with h | h
    · subst h
      obtain rfl : i = 0 := by omega
      simp [amin]
    · rw [amin_succ f k h]
      rcases Nat.lt_or_ge i k with hlt | hge
      · have := ih i hlt
        split <;> omega
      · obtain rfl : i = k := by omega
        split <;> omega
theorem amin_congr {f g : Nat → Int} (k : Nat) (h : ∀ i j, i < k → j < k → (f i < f j ↔ g i < g j)) : amin f k = amin g k := by
  induction k with
  | zero => rfl
  | succ k ih =>
    rcases Nat.eq_zero_or_pos k with h0 | h0
    · subst h0; rfl
    · rw [amin_succ f k h0, amin_succ g k h0, ih fun i j hi hj => h i j (by omega) (by omega)]
      have := amin_lt g k h0
      have e := h k (amin g k) (by omega) (by omega)
      by_cases hc : f k < f (amin g k)
      · rw [if_pos hc, if_pos (e.1 hc)]
      · rw [if_neg hc, if_neg (fun x => hc (e.2 x))]
def vlo (n : V3) (l : List IV) (i : Nat) : Int := dlo n (l.getD i zeroIV)
def vhi (n : V3) (l : List IV) (i : Nat) : Int := dhi n (l.getD i zeroIV)
def leastI (n : V3) (l : List IV) : Nat := amin (vlo n l) l.length
def leastV (n : V3) (l : List IV) : Int := vlo n l (leastI n l)
def greatI (n : V3) (l : List IV) : Nat := amin (fun i => -vhi n l i) l.length
def greatV (n : V3) (l : List IV) : Int := vhi n l (greatI n l)
def supOk (n : V3) (l : List IV) : Bool := usable n && placedB l
def supR (b : Bool) (v : Int) (i : Nat) : Value := if b then .tuple #[.int .i64 v, .int .i64 i, .bool true] else .tuple #[.int .i64 0, .int .i64 0, .bool false]
def leastR (n : V3) (l : List IV) : Value := supR (supOk n l) (leastV n l) (leastI n l)
def greatR (n : V3) (l : List IV) : Value := supR (supOk n l) (greatV n l) (greatI n l)
theorem vlo_at (n : V3) (l : List IV) (k : Nat) (h : k < l.length) : vlo n l k = dlo n l[k] := by simp [vlo, List.getD, List.getElem?_eq_getElem h]
theorem vhi_at (n : V3) (l : List IV) (k : Nat) (h : k < l.length) : vhi n l k = dhi n l[k] := by simp [vhi, List.getD, List.getElem?_eq_getElem h]
theorem leastI_lt (n : V3) {l : List IV} (h : 0 < l.length) : leastI n l < l.length := amin_lt _ _ h
theorem greatI_lt (n : V3) {l : List IV} (h : 0 < l.length) : greatI n l < l.length := amin_lt _ _ h
theorem leastV_le (n : V3) (l : List IV) (i : Nat) (h : i < l.length) : leastV n l ≤ dlo n l[i] := by
  have := amin_le (vlo n l) l.length i h
  rw [vlo_at n l i h] at this
  exact this
theorem greatV_ge (n : V3) (l : List IV) (i : Nat) (h : i < l.length) : dhi n l[i] ≤ greatV n l := by
  have := amin_le (fun i => -vhi n l i) l.length i h
  simp only [vhi_at n l i h] at this
  have e : greatV n l = vhi n l (amin (fun i => -vhi n l i) l.length) := rfl
  omega
theorem leastV_at (n : V3) {l : List IV} (h : 0 < l.length) : leastV n l = dlo n (l[leastI n l]'(leastI_lt n h)) := vlo_at n l _ _
theorem greatV_at (n : V3) {l : List IV} (h : 0 < l.length) : greatV n l = dhi n (l[greatI n l]'(greatI_lt n h)) := vhi_at n l _ _
theorem leastV_bd {n : V3} {l : List IV} (hn : usable n = true) (hl : placedB l = true) : -13194139533312 ≤ leastV n l ∧ leastV n l ≤ 13194139533312 := by
  obtain ⟨l1, _, lo⟩ := placed_of hl
  rw [leastV_at n (by omega)]
  exact dlo_bd (usable_of hn).1 (lo _ _)
theorem greatV_bd {n : V3} {l : List IV} (hn : usable n = true) (hl : placedB l = true) : -13194139533312 ≤ greatV n l ∧ greatV n l ≤ 13194139533312 := by
  obtain ⟨l1, _, lo⟩ := placed_of hl
  rw [greatV_at n (by omega)]
  exact dhi_bd (usable_of hn).1 (lo _ _)
/-- the root rounded up -/
def IsRootUp (n r : Int) : Prop := 0 ≤ r ∧ n ≤ r * r ∧ (0 < r → (r - 1) * (r - 1) < n)
theorem sq_le {a b : Int} (h0 : 0 ≤ a) (h : a ≤ b) : a * a ≤ b * b := Int.mul_le_mul h h h0 (by omega)
theorem IsRootUp.uniq {n r s : Int} (h : IsRootUp n r) (k : IsRootUp n s) : r = s := by
  obtain ⟨h1, h2, h3⟩ := h
  obtain ⟨k1, k2, k3⟩ := k
  rcases Int.lt_trichotomy r s with hlt | heq | hgt
  · have a := k3 (by omega)
    have b := sq_le h1 (show r ≤ s - 1 by omega)
    omega
  · exact heq
  · have a := h3 (by omega)
    have b := sq_le k1 (show s ≤ r - 1 by omega)
    omega
open Classical in
noncomputable def rootUp (n : Int) : Int := if h : ∃ r, IsRootUp n r then Classical.choose h else 0
theorem rootUp_eq {n r : Int} (h : IsRootUp n r) : rootUp n = r := by
  have hx : ∃ r, IsRootUp n r := ⟨r, h⟩
  unfold rootUp
  rw [dif_pos hx]
  exact (Classical.choose_spec hx).uniq h
theorem rootUp_ex (n : Int) : ∃ r, IsRootUp n r := by
  rcases Int.le_total n 0 with h | h
  · exact ⟨0, by omega, by omega, by omega⟩
  · obtain ⟨m, rfl⟩ : ∃ m : Nat, n = (m : Int) := ⟨n.toNat, by omega⟩
    induction m with
    | zero => exact ⟨0, by omega, by omega, by omega⟩
    | succ m ih =>
      obtain ⟨r, h1, h2, h3⟩ := ih (by omega)
      by_cases hc : ((m + 1 : Nat) : Int) ≤ r * r
      · exact ⟨r, h1, hc, fun h => by have := h3 h; omega⟩
      · refine ⟨r + 1, by omega, ?_, fun _ => ?_⟩
        · have : (r + 1) * (r + 1) = r * r + 2 * r + 1 := by rw [Int.add_mul, Int.mul_add]; omega
          omega
        · rw [show r + 1 - 1 = r by omega]; omega
theorem rootUp_spec (n : Int) : IsRootUp n (rootUp n) := by
  obtain ⟨r, h⟩ := rootUp_ex n
  rw [rootUp_eq h]
  exact h
def lenSq (n : V3) : Int := n.x * n.x + n.y * n.y + n.z * n.z
theorem sq_nn (a : Int) : 0 ≤ a * a := by
  rcases Int.le_total 0 a with h | h
  · exact Int.mul_nonneg h h
  · have := Int.mul_nonneg (show 0 ≤ -a by omega) (show 0 ≤ -a by omega)
    rw [Int.neg_mul, Int.mul_neg, Int.neg_neg] at this
    exact this
theorem sq_bd {a M : Int} (h1 : -M ≤ a) (h2 : a ≤ M) : a * a ≤ M * M := by
  rcases Int.le_total 0 a with h | h
  · exact sq_le h h2
  · have := sq_le (show 0 ≤ -a by omega) (show -a ≤ M by omega)
    rw [Int.neg_mul, Int.mul_neg, Int.neg_neg] at this
    exact this
theorem lenSq_bd {n : V3} (h : inR n = true) : 0 ≤ lenSq n ∧ lenSq n ≤ 805306368 := by
  obtain ⟨a, b, c⟩ := inR_of h
  have := sq_nn n.x; have := sq_nn n.y; have := sq_nn n.z
  have := sq_bd a.1 a.2; have := sq_bd b.1 b.2; have := sq_bd c.1 c.2
  unfold lenSq
  omega
theorem sq_pos {a : Int} (h : a ≠ 0) : 1 ≤ a * a := by
  rcases Int.lt_or_gt_of_ne h with h | h
  · have := sq_le (a := 1) (b := -a) (by omega) (by omega)
    rw [Int.neg_mul, Int.mul_neg, Int.neg_neg] at this
    omega
  · have := sq_le (a := 1) (b := a) (by omega) (by omega)
    omega
theorem lenSq_pos {n : V3} (h : isZ n = false) : 1 ≤ lenSq n := by
  have := sq_nn n.x; have := sq_nn n.y; have := sq_nn n.z
  have hz := isZ_not h
  unfold lenSq
  by_cases h1 : n.x = 0
  · by_cases h2 : n.y = 0
    · have := sq_pos (a := n.z) (fun h3 => hz ⟨h1, h2, h3⟩)
      omega
    · have := sq_pos h2
      omega
  · have := sq_pos h1
    omega
noncomputable def normF (n : V3) : Int := if usable n then rootUp (lenSq n) else 0
theorem rootUp_nn (n : Int) : 0 ≤ rootUp n := (rootUp_spec n).1
theorem rootUp_le {n M : Int} (hM : 0 ≤ M) (h : n ≤ M * M) : rootUp n ≤ M := by
  obtain ⟨h1, h2, h3⟩ := rootUp_spec n
  rcases Int.le_total (rootUp n) M with hle | hge
  · exact hle
  · rcases Int.lt_or_eq_of_le hge with hlt | heq
    · have a := h3 (by omega)
      have b := sq_le hM (show M ≤ rootUp n - 1 by omega)
      omega
    · omega
theorem normF_bd (n : V3) : 0 ≤ normF n ∧ normF n ≤ 32768 := by
  unfold normF
  split
  · rename_i h
    have := lenSq_bd (usable_of h).1
    exact ⟨rootUp_nn _, rootUp_le (by omega) (by omega)⟩
  · omega
theorem normF_spec {n : V3} (h : usable n = true) : IsRootUp (lenSq n) (normF n) := by
  unfold normF
  rw [if_pos h]
  exact rootUp_spec _
theorem normF_pos {n : V3} (h : usable n = true) : 1 ≤ normF n := by
  obtain ⟨h1, h2, h3⟩ := normF_spec h
  have := lenSq_pos (usable_of h).2
  rcases Int.lt_or_eq_of_le h1 with h | h
  · omega
  · rw [← h] at h2; omega
theorem lenSq_neg (n : V3) : lenSq (negV n) = lenSq n := by simp only [lenSq, negV, Int.neg_mul_neg]
theorem negV_negV (n : V3) : negV (negV n) = n := by simp [negV]
theorem usable_neg_iff (n : V3) : usable (negV n) = usable n := by
  cases h : usable n
  · cases h' : usable (negV n)
    · rfl
    · have := usable_neg h'
      rw [negV_negV, h] at this
      cases this
  · exact usable_neg h
theorem normF_neg (n : V3) : normF (negV n) = normF n := by
  unfold normF
  rw [usable_neg_iff, lenSq_neg]
/-- halving towards zero until the vector is in range -/
def halve (v : V3) : V3 := ⟨v.x.tdiv 2, v.y.tdiv 2, v.z.tdiv 2⟩
def nrm : Nat → V3 → V3
  | 0, v => v
  | k + 1, v => if inR v then v else nrm k (halve v)
def normalF (v : V3) : V3 := nrm 50 v
def Within (v : V3) (m : Int) : Prop := (-m ≤ v.x ∧ v.x ≤ m) ∧ (-m ≤ v.y ∧ v.y ≤ m) ∧ (-m ≤ v.z ∧ v.z ≤ m)
theorem tdiv2 (a : Int) : (0 ≤ a → a.tdiv 2 = a / 2) ∧ (a ≤ 0 → a.tdiv 2 = -((-a) / 2)) := by
  constructor
  · intro h; exact Int.tdiv_eq_ediv_of_nonneg h
  · intro h
    have : a.tdiv 2 = -((-a).tdiv 2) := by rw [Int.neg_tdiv, Int.neg_neg]
    rw [this, Int.tdiv_eq_ediv_of_nonneg (by omega)]
theorem tdiv2_bd {a m : Int} (h1 : -(2 * m) ≤ a) (h2 : a ≤ 2 * m) : -m ≤ a.tdiv 2 ∧ a.tdiv 2 ≤ m := by
  obtain ⟨p, q⟩ := tdiv2 a
  rcases Int.le_total 0 a with h | h
  · have := p h; omega
  · have := q h; omega
theorem halve_within {v : V3} {m : Int} (h : Within v (2 * m)) : Within (halve v) m := by
  obtain ⟨⟨a, b⟩, ⟨c, d⟩, e, f⟩ := h
  exact ⟨tdiv2_bd a b, tdiv2_bd c d, tdiv2_bd e f⟩
theorem nrm_in {v : V3} (h : inR v = true) (k : Nat) : nrm k v = v := by
  cases k with
  | zero => rfl
  | succ k => simp [nrm, h]
theorem nrm_not {v : V3} (h : inR v = false) (k : Nat) : nrm (k + 1) v = nrm k (halve v) := by simp [nrm, h]
theorem inR_within {v : V3} (h : Within v 16384) : inR v = true := decide_eq_true h
theorem nrm_inR (k : Nat) : ∀ v : V3, Within v (16384 * 2 ^ k) → inR (nrm k v) = true := by
  induction k with
  | zero => intro v h; exact inR_within (by simpa [nrm] using h)
  | succ k ih =>
    intro v h
    cases hv : inR v
    · rw [nrm_not hv]
      apply ih
      apply halve_within
      have : (2 : Int) * (16384 * 2 ^ k) = 16384 * 2 ^ (k + 1) := by rw [Int.pow_succ]; omega
      rw [this]
      exact h
    · rw [nrm_in hv]
      exact hv
theorem isZ_halve {v : V3} (h : inR v = false) : isZ (halve v) = false := by
  have hn := of_decide_eq_false h
  refine decide_eq_false fun hz => hn ?_
  obtain ⟨h1, h2, h3⟩ := hz
  simp only [halve] at h1 h2 h3
  have a := tdiv2 v.x; have b := tdiv2 v.y; have c := tdiv2 v.z
  have key : ∀ x : Int, x.tdiv 2 = 0 → (0 ≤ x → x.tdiv 2 = x / 2) ∧ (x ≤ 0 → x.tdiv 2 = -((-x) / 2)) → -16384 ≤ x ∧ x ≤ 16384 := fun x hx h => by
    rcases Int.le_total 0 x with h0 | h0
    · have := h.1 h0; omega
    · have := h.2 h0; omega
  exact ⟨key _ h1 a, key _ h2 b, key _ h3 c⟩
theorem nrm_isZ (k : Nat) : ∀ v : V3, isZ v = false → isZ (nrm k v) = false := by
  induction k with
  | zero => intro v h; exact h
  | succ k ih =>
    intro v h
    cases hv : inR v
    · rw [nrm_not hv]
      exact ih _ (isZ_halve hv)
    · rw [nrm_in hv]
      exact h
/-- the signs are kept -/
def SgnOk (n v : Int) : Prop := (0 < n → 0 < v) ∧ (n < 0 → v < 0)
theorem sgn_tdiv (a : Int) : SgnOk (a.tdiv 2) a := by
  obtain ⟨p, q⟩ := tdiv2 a
  constructor
  · intro h
    rcases Int.le_total 0 a with h0 | h0
    · have := p h0; omega
    · have := q h0; omega
  · intro h
    rcases Int.le_total 0 a with h0 | h0
    · have := p h0; omega
    · have := q h0; omega
theorem SgnOk.trans {a b c : Int} (h : SgnOk a b) (k : SgnOk b c) : SgnOk a c := ⟨fun x => k.1 (h.1 x), fun x => k.2 (h.2 x)⟩
theorem nrm_sgn (k : Nat) : ∀ v : V3, SgnOk (nrm k v).x v.x ∧ SgnOk (nrm k v).y v.y ∧ SgnOk (nrm k v).z v.z := by
  induction k with
  | zero => intro v; exact ⟨⟨id, id⟩, ⟨id, id⟩, ⟨id, id⟩⟩
  | succ k ih =>
    intro v
    cases hv : inR v
    · rw [nrm_not hv]
      obtain ⟨a, b, c⟩ := ih (halve v)
      exact ⟨a.trans (sgn_tdiv _), b.trans (sgn_tdiv _), c.trans (sgn_tdiv _)⟩
    · rw [nrm_in hv]
      exact ⟨⟨id, id⟩, ⟨id, id⟩, ⟨id, id⟩⟩
theorem within64 {v : V3} (h : v.ok64) : Within v (16384 * 2 ^ 50) := by
  obtain ⟨⟨a, b⟩, ⟨c, d⟩, e, f⟩ := h
  unfold Within
  omega
theorem normalF_inR {v : V3} (h : v.ok64) : inR (normalF v) = true := nrm_inR 50 v (within64 h)
theorem normalF_usable {v : V3} (h : v.ok64) (hz : isZ v = false) : usable (normalF v) = true := by
  have h1 := normalF_inR h
  have h2 := nrm_isZ 50 v hz
  rw [show nrm 50 v = normalF v from rfl] at h2
  simp [usable, h1, h2]
theorem normalF_in {v : V3} (h : inR v = true) : normalF v = v := nrm_in h 50
/-- one division by a power of two is a halving repeated -/
theorem tdiv_nn (a s : Int) (h : 0 ≤ a) (hs : 0 < s) : a.tdiv (s * 2) = (a.tdiv s).tdiv 2 := by
  rw [Int.tdiv_eq_ediv_of_nonneg h, Int.tdiv_eq_ediv_of_nonneg h, Int.tdiv_eq_ediv_of_nonneg (Int.ediv_nonneg h (by omega)), Int.ediv_ediv, if_neg (by omega), Int.sub_zero]
theorem tdiv_pow (a : Int) (j : Nat) : a.tdiv (2 ^ (j + 1)) = (a.tdiv (2 ^ j)).tdiv 2 := by
  rw [Int.pow_succ]
  have p : (0:Int) < 2 ^ j := Int.pow_pos (by omega)
  rcases Int.le_total 0 a with h | h
  · exact tdiv_nn a _ h p
  · have := tdiv_nn (-a) _ (by omega) p
    rw [Int.neg_tdiv, Int.neg_tdiv, Int.neg_tdiv] at this
    omega
def divV (v : V3) (s : Int) : V3 := ⟨v.x.tdiv s, v.y.tdiv s, v.z.tdiv s⟩
theorem divV_succ (v : V3) (j : Nat) : divV v (2 ^ (j + 1)) = halve (divV v (2 ^ j)) := by
  simp only [divV, halve, tdiv_pow]
theorem divV_zero (v : V3) : divV v (2 ^ 0) = v := by simp [divV]
/-- the search for the first power of two that suffices ends with the repeated halving -/
theorem divV_found (v : V3) (j : Nat) (hj : j ≤ 50) (hno : ∀ i, i < j → inR (divV v (2 ^ i)) = false) : nrm (50 - j) (divV v (2 ^ j)) = normalF v := by
  induction j with
  | zero => rw [divV_zero]; rfl
  | succ j ih =>
    rw [← ih (by omega) (fun i hi => hno i (by omega)), divV_succ]
    have := hno j (by omega)
    rw [show 50 - j = (50 - (j + 1)) + 1 by omega, nrm_not this]
theorem divV_in (v : V3) (h : v.ok64) (j : Nat) (hj : 50 ≤ j) : inR (divV v (2 ^ j)) = true := by
  have key : ∀ (j : Nat) (m : Int), Within v (m * 2 ^ j) → Within (divV v (2 ^ j)) m := by
    intro j
    induction j with
    | zero => intro m hm; rw [divV_zero]; simpa using hm
    | succ j ih =>
      intro m hm
      rw [divV_succ]
      apply halve_within
      apply ih
      have e : (2 : Int) * m * 2 ^ j = m * 2 ^ (j + 1) := by rw [Int.pow_succ, Int.mul_comm 2 m, Int.mul_assoc, Int.mul_comm 2]
      rw [e]
      exact hm
  obtain ⟨i, rfl⟩ : ∃ i, j = 50 + i := ⟨j - 50, by omega⟩
  induction i with
  | zero => exact inR_within (key 50 _ (within64 h))
  | succ i ih =>
    have := ih (by omega)
    rw [show 50 + (i + 1) = 50 + i + 1 by omega, divV_succ]
    obtain ⟨⟨a, b⟩, ⟨c, d⟩, e, f⟩ := inR_of this
    exact inR_within (halve_within ⟨⟨by omega, by omega⟩, ⟨by omega, by omega⟩, by omega, by omega⟩)
end Go.Proofs.Ytionbckpgfaneaa
