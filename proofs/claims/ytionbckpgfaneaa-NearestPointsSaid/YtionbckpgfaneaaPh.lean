/- The laws of the search in plain numbers. -/
import Derived.Test.YtionbckpgfaneaaNb
import Derived.Test.YtionbckpgfaneaaPg
import Derived.Test.YtionbckpgfaneaaWl
import Derived.Test.YtionbckpgfaneaaWm
namespace Go.Proofs.Ytionbckpgfaneaa
open Go.RowKit
def ptV (v : V3) : IV := ⟨⟨v.x, v.x⟩, ⟨v.y, v.y⟩, ⟨v.z, v.z⟩⟩
theorem vok_of {v : V3} (h : vok v = true) : (-268435456 ≤ v.x ∧ v.x ≤ 268435456) ∧ (-268435456 ≤ v.y ∧ v.y ≤ 268435456) ∧ (-268435456 ≤ v.z ∧ v.z ≤ 268435456) := of_decide_eq_true h
theorem clamp_in {a : Int} (h1 : -268435456 ≤ a) (h2 : a ≤ 268435456) : clampF a = a := by unfold clampF; omega
theorem pt_eq {v : V3} (h : vok v = true) : ptI v = ptV v := by
  obtain ⟨⟨a, b⟩, ⟨c, d⟩, e, f⟩ := vok_of h
  unfold ptI ptV
  rw [clamp_in a b, clamp_in c d, clamp_in e f]
theorem few_pts {l : List V3} (h : fewB l = true) : l.map ptI = l.map ptV := List.map_congr_left fun v hv => by
  obtain ⟨j, hj, rfl⟩ := List.getElem_of_mem hv
  exact pt_eq ((few_of h).2.2 j hj)
theorem few_placed {l : List V3} (h : fewB l = true) : placedB (l.map ptV) = true := by
  obtain ⟨h1, h8, h⟩ := few_of h
  refine (placed_yes _ (by simpa using h1) (by simpa using h8) fun j hj => ?_).symm
  rw [List.getElem_map]
  have := vok_of (h j (by simpa using hj))
  refine ok_yes _ ?_ ?_ ?_ <;> simp only [ptV] <;> omega
theorem comb_pts (l : List V3) (ws : List Int) : comb (l.map ptV) ws = ptV (sumV l ws) := by
  simp [comb, sumV, ptV, Function.comp_def]
theorem mem_le_sum (l : List Int) (h : ∀ x ∈ l, 0 ≤ x) : ∀ x ∈ l, x ≤ l.sum := by
  induction l with
  | nil => simp
  | cons y l ih =>
    intro x hx
    have h1 := h y (by simp)
    have h2 := sum_nonneg l fun x hx => h x (by simp [hx])
    rw [List.sum_cons]
    rcases List.mem_cons.1 hx with rfl | hx
    · omega
    · have := ih (fun x hx => h x (by simp [hx])) x hx
      omega
theorem WI.bd {L : List Int} {n : Nat} (h : WI L n) : ∀ x ∈ L, 0 ≤ x ∧ x ≤ 65536 := fun x hx => by
  have := mem_le_sum L h.2.1 x hx
  have := h.2.2
  have := h.2.1 x hx
  omega
theorem WI.wOk {L : List Int} {n : Nat} (h : WI L n) : wOk L = true := wOk_yes L fun j hj => h.bd _ (by simp)
theorem WI.combOk {L : List Int} {l : List V3} (h : WI L l.length) (hl : fewB l = true) : combOk (l.map ptV) L = true :=
  combOk_yes (few_placed hl) (by rw [List.length_map]; exact h.1) h.wOk (by have := h.2.2; omega)
theorem far1_pt (a b : Int) : far1 ⟨a, a⟩ ⟨b, b⟩ 65536 = up16 (a - b) := by
  unfold far1 absmax up16
  congr 1
  simp only
  omega
theorem close_of {w : V3} {rho : Int} (h0 : 0 ≤ rho) (h : closeF w rho = true) : (up16 w.x ≤ rho ∧ up16 w.y ≤ rho ∧ up16 w.z ≤ rho) ∧ up16 w.x * up16 w.x + up16 w.y * up16 w.y + up16 w.z * up16 w.z ≤ rho * rho := by
  have h := of_decide_eq_true h
  have s1 := sq_nn (up16 w.x); have s2 := sq_nn (up16 w.y); have s3 := sq_nn (up16 w.z)
  exact ⟨⟨le_of_sq h0 (by omega), le_of_sq h0 (by omega), le_of_sq h0 (by omega)⟩, h⟩
/-- a close search: the weights prove an overlap -/
theorem decides_close {a b : List V3} {L R : List Int} {rho : Int} (ha : fewB a = true) (hb : fewB b = true) (hL : WI L a.length) (hR : WI R b.length) (h0 : 0 ≤ rho) (h1 : rho ≤ 2097152)
    (h : closeF (subV (sumV a L) (sumV b R)) rho = true) : ovl L R (a.map ptI) (b.map ptI) (rho / 2) (rho - rho / 2) = true := by
  obtain ⟨⟨c1, c2, c3⟩, c4⟩ := close_of h0 h
  rw [few_pts ha, few_pts hb, ovl_made (hL.combOk ha) (hR.combOk hb) (hL.2.2.trans hR.2.2.symm) (by omega) (by omega), comb_pts, comb_pts, hL.2.2]
  refine decide_eq_true (exc_of ?_ ?_ ?_ ?_) <;> simp only [ptV, far1_pt] <;> simp only [subV] at c1 c2 c3 c4
  · omega
  · omega
  · omega
  · rw [show rho / 2 + (rho - rho / 2) = rho by omega]; exact c4
theorem dlo_pt (n v : V3) : dlo n (ptV v) = dotV n v := by simp [dlo, ptV, dotV]
theorem dhi_pt (n v : V3) : dhi n (ptV v) = dotV n v := by simp [dhi, ptV, dotV]
theorem getD_pt (l : List V3) (i : Nat) : (l.map ptV).getD i zeroIV = ptV (l.getD i zeroV) := by
  rcases Nat.lt_or_ge i l.length with h | h
  · simp [List.getD, List.getElem?_eq_getElem h]
  · simp [List.getD, List.getElem?_eq_none h]; rfl
theorem vlo_pt (n : V3) (l : List V3) : vlo n (l.map ptV) = dgo n l := by
  funext i
  rw [vlo, getD_pt, dlo_pt, dgo]
theorem vhi_pt (n : V3) (l : List V3) : vhi n (l.map ptV) = dgo n l := by
  funext i
  rw [vhi, getD_pt, dhi_pt, dgo]
theorem leastV_pt (n : V3) (l : List V3) : leastV n (l.map ptV) = dgo n l (exLo n l) := by
  unfold leastV leastI exLo
  rw [vlo_pt, List.length_map]
theorem greatV_pt (n : V3) (l : List V3) : greatV n (l.map ptV) = dgo n l (exHi n l) := by
  unfold greatV greatI exHi
  rw [vhi_pt, List.length_map]
theorem sumV_bd {l : List V3} {L : List Int} (hl : fewB l = true) (h : WI L l.length) : (-17592186044416 ≤ (sumV l L).x ∧ (sumV l L).x ≤ 17592186044416) ∧ (-17592186044416 ≤ (sumV l L).y ∧ (sumV l L).y ≤ 17592186044416) ∧ (-17592186044416 ≤ (sumV l L).z ∧ (sumV l L).z ≤ 17592186044416) := by
  obtain ⟨_, _, hv⟩ := few_of hl
  have e (f : V3 → Int) (hf : ∀ v, vok v = true → -268435456 ≤ f v ∧ f v ≤ 268435456) : -17592186044416 ≤ dotL L (l.map f) ∧ dotL L (l.map f) ≤ 17592186044416 := by
    have k : ∀ x ∈ l.map f, -268435456 ≤ x ∧ x ≤ 268435456 := fun x hx => by
      obtain ⟨v, hv', rfl⟩ := List.mem_map.1 hx
      obtain ⟨j, hj, rfl⟩ := List.getElem_of_mem hv'
      exact hf _ (hv j hj)
    have a := dotL_ge L (l.map f) (-268435456) (by rw [List.length_map]; exact h.1) h.2.1 fun x hx => (k x hx).1
    have b := dotL_le L (l.map f) 268435456 (by rw [List.length_map]; exact h.1) h.2.1 fun x hx => (k x hx).2
    rw [h.2.2] at a b
    omega
  exact ⟨e _ fun v hv => (vok_of hv).1, e _ fun v hv => (vok_of hv).2.1, e _ fun v hv => (vok_of hv).2.2⟩
theorem wOf_bd {a b : List V3} {steps : Nat} {s : Nst} (ha : fewB a = true) (hb : fewB b = true) (h : NI a b steps s) : WB (wOf a b s) := by
  have h1 := sumV_bd ha h.1
  have h2 := sumV_bd hb h.2.1
  unfold WB wOf subV
  simp only
  omega
theorem tdiv16 {z : Int} (h1 : -35184372088832 ≤ z) (h2 : z ≤ 35184372088832) : -536870912 ≤ z.tdiv 65536 ∧ z.tdiv 65536 ≤ 536870912 := by
  rcases Int.le_total 0 z with h | h
  · rw [Int.tdiv_eq_ediv_of_nonneg h]; omega
  · have e : z.tdiv 65536 = -((-z).tdiv 65536) := by rw [Int.neg_tdiv, Int.neg_neg]
    rw [e, Int.tdiv_eq_ediv_of_nonneg (by omega)]; omega
def XB (v : V3) : Prop := (-536870912 ≤ v.x ∧ v.x ≤ 536870912) ∧ (-536870912 ≤ v.y ∧ v.y ≤ 536870912) ∧ (-536870912 ≤ v.z ∧ v.z ≤ 536870912)
theorem xOf_bd {a b : List V3} {s : Nst} (h : WB (wOf a b s)) : XB (xOf a b s) :=
  ⟨tdiv16 h.1.1 h.1.2, tdiv16 h.2.1.1 h.2.1.2, tdiv16 h.2.2.1 h.2.2.2⟩
theorem XB.ok64 {v : V3} (h : XB v) : v.ok64 := by
  unfold XB at h
  unfold V3.ok64 I64
  omega
/-- an apart search: its normal separates -/
theorem decides_apart {a b : List V3} {rho : Int} {steps : Nat} (ha : fewB a = true) (hb : fewB b = true) (h : (searchN a b rho steps).1 = 1) :
    usable (searchN a b rho steps).2.N = true ∧ normF (searchN a b rho steps).2.N * rho < leastV (searchN a b rho steps).2.N (a.map ptI) - greatV (searchN a b rho steps).2.N (b.map ptI) := by
  have la := (few_of ha).1
  have lb := (few_of hb).1
  obtain ⟨s, hz, hs, hA, e⟩ := (search_decides (rho := rho) (steps := steps) la lb).1 h
  rw [e, few_pts ha, few_pts hb, leastV_pt, greatV_pt]
  exact ⟨normalF_usable (xOf_bd (wOf_bd ha hb hs)).ok64 hz, of_decide_eq_true hA⟩
theorem up16_mul (z : Int) : up16 (65536 * z) = max z (-z) := by
  unfold up16 ceilF
  omega
theorem sumV_one (p : V3) : sumV [p] (oneAt 1 0 65536) = ⟨65536 * p.x, 65536 * p.y, 65536 * p.z⟩ := by
  have e : oneAt 1 0 65536 = [65536] := rfl
  rw [e]
  simp [sumV, dotL]
/-- two single points -/
theorem search_points (p q : V3) {rho : Int} (steps : Nat) (_h0 : 0 ≤ rho) :
    (searchN [p] [q] rho steps).2.k = 0 ∧ ((searchN [p] [q] rho steps).1 = 2 ↔ lenSq (subV p q) ≤ rho * rho) := by
  have ew : wOf [p] [q] (startN [p] [q]) = ⟨65536 * (p.x - q.x), 65536 * (p.y - q.y), 65536 * (p.z - q.z)⟩ := by
    unfold wOf startN
    simp only [List.length_singleton]
    rw [sumV_one, sumV_one]
    unfold subV
    apply V3.ext_ <;> simp only <;> omega
  have ex : xOf [p] [q] (startN [p] [q]) = subV p q := by
    unfold xOf
    rw [ew]
    unfold divV subV
    apply V3.ext_ <;> simp only <;> exact Int.mul_tdiv_cancel_left _ (by decide)
  have ec : closeF (wOf [p] [q] (startN [p] [q])) rho = decide (lenSq (subV p q) ≤ rho * rho) := by
    rw [ew]
    unfold closeF lenSq subV
    simp only [up16_mul, abs_sq]
  have i0 : ∀ n, exLo n [p] = 0 := fun _ => rfl
  have i1 : ∀ n, exHi n [q] = 0 := fun _ => rfl
  have et : tOf [p] [q] (startN [p] [q]) = 0 := by
    unfold tOf
    rw [i0, i1, ex]
    have : dotV (subV p q) (subV (subV p q) (subV ([p].getD 0 zeroV) ([q].getD 0 zeroV))) = 0 := by
      simp [dotV, subV]
    unfold partF
    rw [if_pos (by rw [this]; exact Int.le_refl _)]
  unfold searchN
  rcases run_cases [p] [q] rho steps (startN [p] [q]) with c | ⟨c, d⟩ | ⟨c, d, e⟩ | ⟨c, d, e, g⟩ | ⟨c, d, e, g, i⟩
  · rw [runN_close c]
    rw [ec] at c
    exact ⟨rfl, fun _ => of_decide_eq_true c, fun _ => rfl⟩
  all_goals
    have cc := c
    rw [ec] at cc
    have cc := of_decide_eq_false cc
  · rw [runN_zero c d]
    exact ⟨rfl, fun h => by simp at h, fun h => absurd h cc⟩
  · rw [runN_apart c d e]
    exact ⟨rfl, fun h => by simp at h, fun h => absurd h cc⟩
  · rw [runN_stop c d e g]
    exact ⟨rfl, fun h => by simp at h, fun h => absurd h cc⟩
  · exact absurd et i
def Sm (v : V3) : Prop := (-400000 ≤ v.x ∧ v.x ≤ 400000) ∧ (-400000 ≤ v.y ∧ v.y ≤ 400000) ∧ (-400000 ≤ v.z ∧ v.z ≤ 400000)
/-- one to five points of small size -/
def Sml (l : List V3) : Prop := 1 ≤ l.length ∧ l.length ≤ 5 ∧ ∀ v ∈ l, Sm v
theorem few_all {l : List V3} (h1 : 1 ≤ l.length) (h8 : l.length ≤ 8) (h : ∀ v ∈ l, vok v = true) : fewB l = true := (few_yes l h1 h8 fun j hj => h _ (by simp)).symm
theorem Sm.vok {v : V3} (h : Sm v) : vok v = true := (nearB_yes (by unfold Sm at h; omega)).symm
theorem Sml.few {l : List V3} (h : Sml l) : fewB l = true := few_all h.1 (by have := h.2.1; omega) fun v hv => (h.2.2 v hv).vok
theorem sml_corner {width : Int} {pts : List IV} (h1 : 1 ≤ pts.length) (h5 : pts.length ≤ 5) (ok : ∀ p ∈ pts, IVOk width p) : Sml (pts.map cornerV) := by
  refine ⟨by simpa using h1, by simpa using h5, fun v hv => ?_⟩
  obtain ⟨p, hp, rfl⟩ := List.mem_map.1 hv
  obtain ⟨a, b, c⟩ := ok p hp
  unfold PtOk at a b c
  unfold Sm cornerV
  simp only
  omega
theorem Sml.moved {l : List V3} (h : Sml l) {t : V3} (ht : (-4194304 ≤ t.x ∧ t.x ≤ 4194304) ∧ (-4194304 ≤ t.y ∧ t.y ≤ 4194304) ∧ (-4194304 ≤ t.z ∧ t.z ≤ 4194304)) : fewB (l.map (addV · t)) = true := by
  refine few_all (by simpa using h.1) (by have := h.2.1; simp; omega) fun v hv => ?_
  obtain ⟨p, hp, rfl⟩ := List.mem_map.1 hv
  have := h.2.2 p hp
  unfold Sm at this
  refine (nearB_yes ?_).symm
  unfold addV
  simp only
  omega
end Go.Proofs.Ytionbckpgfaneaa
