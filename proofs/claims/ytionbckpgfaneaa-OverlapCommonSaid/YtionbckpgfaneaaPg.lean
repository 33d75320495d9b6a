/- The search for nearest points as a plain machine, and its laws. -/
import Derived.Test.YtionbckpgfaneaaPf
namespace Go.Proofs.Ytionbckpgfaneaa
open Go.RowKit
def subV (a b : V3) : V3 := ⟨a.x - b.x, a.y - b.y, a.z - b.z⟩
def dgo (n : V3) (l : List V3) (i : Nat) : Int := dotV n (l.getD i zeroV)
def exLo (n : V3) (l : List V3) : Nat := amin (dgo n l) l.length
def exHi (n : V3) (l : List V3) : Nat := amin (fun i => -dgo n l i) l.length
def partF (x s : V3) : Int := if dotV x (subV x s) ≤ 0 then 0 else min 256 (dotV x (subV x s) / max 1 (dotV (subV x s) (subV x s) / 256))
def up16 (z : Int) : Int := ceilF (max z (-z)) 65536
def closeF (w : V3) (rho : Int) : Bool := decide (up16 w.x * up16 w.x + up16 w.y * up16 w.y + up16 w.z * up16 w.z ≤ rho * rho)
def lostL (L : List Int) (t : Int) : Int := (L.map fun x => x * t / 256).sum
def keptL (L : List Int) (t : Int) : List Int := L.map fun x => x - x * t / 256
def movedL (L : List Int) (t : Int) (i : Nat) : List Int := (keptL L t).set i ((keptL L t).getD i 0 + lostL L t)
structure Nst where
  N : V3
  L : List Int
  R : List Int
  k : Nat
/-- the difference of the weighted sums -/
def wOf (a b : List V3) (s : Nst) : V3 := subV (sumV a s.L) (sumV b s.R)
def xOf (a b : List V3) (s : Nst) : V3 := divV (wOf a b s) 65536
def nOf (a b : List V3) (s : Nst) : V3 := normalF (xOf a b s)
def tOf (a b : List V3) (s : Nst) : Int := partF (xOf a b s) (subV (a.getD (exLo (nOf a b s) a) zeroV) (b.getD (exHi (nOf a b s) b) zeroV))
noncomputable def apartB (a b : List V3) (rho : Int) (s : Nst) : Bool := decide (normF (nOf a b s) * rho < dgo (nOf a b s) a (exLo (nOf a b s) a) - dgo (nOf a b s) b (exHi (nOf a b s) b))
def atN (a b : List V3) (s : Nst) : Nst := ⟨nOf a b s, s.L, s.R, s.k⟩
def nextN (a b : List V3) (s : Nst) : Nst := ⟨nOf a b s, movedL s.L (tOf a b s) (exLo (nOf a b s) a), movedL s.R (tOf a b s) (exHi (nOf a b s) b), s.k + 1⟩
/-- the rounds -/
noncomputable def runN (a b : List V3) (rho : Int) (steps : Nat) : Nat → Nst → Int × Nst
  | 0, s => (0, s)
  | f + 1, s =>
    if closeF (wOf a b s) rho then (2, s)
    else if isZ (xOf a b s) then (0, atN a b s)
    else if apartB a b rho s then (1, atN a b s)
    else if s.k = steps then (0, atN a b s)
    else if tOf a b s = 0 then (0, atN a b s)
    else runN a b rho steps f (nextN a b s)
section
variable {a b : List V3} {rho : Int} {steps f : Nat} {s : Nst}
theorem runN_close (h : closeF (wOf a b s) rho = true) : runN a b rho steps (f + 1) s = (2, s) := by simp [runN, h]
theorem runN_zero (h : closeF (wOf a b s) rho = false) (h1 : isZ (xOf a b s) = true) : runN a b rho steps (f + 1) s = (0, atN a b s) := by simp [runN, h, h1]
theorem runN_apart (h : closeF (wOf a b s) rho = false) (h1 : isZ (xOf a b s) = false) (h2 : apartB a b rho s = true) : runN a b rho steps (f + 1) s = (1, atN a b s) := by simp [runN, h, h1, h2]
theorem runN_stop (h : closeF (wOf a b s) rho = false) (h1 : isZ (xOf a b s) = false) (h2 : apartB a b rho s = false) (h3 : s.k = steps ∨ tOf a b s = 0) : runN a b rho steps (f + 1) s = (0, atN a b s) := by
  rcases h3 with h3 | h3 <;> simp [runN, h, h1, h2, h3]
theorem runN_next (h : closeF (wOf a b s) rho = false) (h1 : isZ (xOf a b s) = false) (h2 : apartB a b rho s = false) (h3 : s.k ≠ steps) (h4 : tOf a b s ≠ 0) : runN a b rho steps (f + 1) s = runN a b rho steps f (nextN a b s) := by simp [runN, h, h1, h2, h3, h4]
/-- the ways of a round -/
theorem run_cases (a b : List V3) (rho : Int) (steps : Nat) (s : Nst) : (closeF (wOf a b s) rho = true) ∨ (closeF (wOf a b s) rho = false ∧ isZ (xOf a b s) = true) ∨ (closeF (wOf a b s) rho = false ∧ isZ (xOf a b s) = false ∧ apartB a b rho s = true) ∨
    (closeF (wOf a b s) rho = false ∧ isZ (xOf a b s) = false ∧ apartB a b rho s = false ∧ (s.k = steps ∨ tOf a b s = 0)) ∨ (closeF (wOf a b s) rho = false ∧ isZ (xOf a b s) = false ∧ apartB a b rho s = false ∧ s.k ≠ steps ∧ tOf a b s ≠ 0) := by
  cases closeF (wOf a b s) rho
  · cases isZ (xOf a b s)
    · cases apartB a b rho s
      · by_cases h3 : s.k = steps
        · exact .inr (.inr (.inr (.inl ⟨rfl, rfl, rfl, .inl h3⟩)))
        · by_cases h4 : tOf a b s = 0
          · exact .inr (.inr (.inr (.inl ⟨rfl, rfl, rfl, .inr h4⟩)))
          · exact .inr (.inr (.inr (.inr ⟨rfl, rfl, rfl, h3, h4⟩)))
      · exact .inr (.inr (.inl ⟨rfl, rfl, rfl⟩))
    · exact .inr (.inl ⟨rfl, rfl⟩)
  · exact .inl rfl
end
/-- weights: not negative, with the sum 65536 -/
def WI (L : List Int) (n : Nat) : Prop := L.length = n ∧ (∀ x ∈ L, 0 ≤ x) ∧ L.sum = 65536
theorem WI.one {n : Nat} (h : 0 < n) : WI (oneAt n 0 65536) n := ⟨oneAt_len _ _ _, fun x hx => by rcases oneAt_mem hx with h | h <;> omega, oneAt_sum h⟩
theorem part_bd {x t : Int} (h0 : 0 ≤ x) (t0 : 0 ≤ t) (t1 : t ≤ 256) : 0 ≤ x * t / 256 ∧ x * t / 256 ≤ x := by
  have a := Int.mul_nonneg h0 t0
  have b := Int.mul_le_mul_of_nonneg_left t1 h0
  omega
theorem kept_lost (L : List Int) (t : Int) : (keptL L t).sum + lostL L t = L.sum := by
  unfold keptL lostL
  induction L with
  | nil => simp
  | cons x L ih => simp only [List.map_cons, List.sum_cons]; omega
theorem moved_len (L : List Int) (t : Int) (i : Nat) : (movedL L t i).length = L.length := by simp [movedL, keptL]
theorem kept_len (L : List Int) (t : Int) : (keptL L t).length = L.length := by simp [keptL]
theorem WI.moved {L : List Int} {n : Nat} (h : WI L n) {t : Int} (t0 : 0 ≤ t) (t1 : t ≤ 256) {i : Nat} (hi : i < n) : WI (movedL L t i) n := by
  obtain ⟨h1, h2, h3⟩ := h
  have lost0 : 0 ≤ lostL L t := sum_nonneg _ fun y hy => by
    obtain ⟨x, hx, rfl⟩ := List.mem_map.1 hy
    exact (part_bd (h2 x hx) t0 t1).1
  have kept0 : ∀ y ∈ keptL L t, 0 ≤ y := fun y hy => by
    obtain ⟨x, hx, rfl⟩ := List.mem_map.1 hy
    have := part_bd (h2 x hx) t0 t1
    omega
  have hk : i < (keptL L t).length := by rw [kept_len]; omega
  have e : (keptL L t).getD i 0 = (keptL L t)[i] := by simp [List.getD, List.getElem?_eq_getElem hk]
  refine ⟨by rw [moved_len, h1], fun y hy => ?_, ?_⟩
  · unfold movedL at hy
    rcases List.mem_or_eq_of_mem_set hy with h | h
    · exact kept0 y h
    · rw [h, e]
      have := kept0 (keptL L t)[i] (by simp)
      omega
  · unfold movedL
    rw [e, sum_set _ i hk, kept_lost, h3]
theorem partF_bd (x s : V3) : 0 ≤ partF x s ∧ partF x s ≤ 256 := by
  unfold partF
  split
  · omega
  · rename_i h
    have : 0 ≤ dotV x (subV x s) / max 1 (dotV (subV x s) (subV x s) / 256) := Int.ediv_nonneg (by omega) (by omega)
    omega
theorem exLo_lt (n : V3) {l : List V3} (h : 0 < l.length) : exLo n l < l.length := amin_lt _ _ h
theorem exHi_lt (n : V3) {l : List V3} (h : 0 < l.length) : exHi n l < l.length := amin_lt _ _ h
/-- what the rounds keep -/
def NI (a b : List V3) (steps : Nat) (s : Nst) : Prop := WI s.L a.length ∧ WI s.R b.length ∧ s.k ≤ steps
theorem NI.atN {a b : List V3} {steps : Nat} {s : Nst} (h : NI a b steps s) : NI a b steps (atN a b s) := h
theorem NI.next {a b : List V3} {steps : Nat} {s : Nst} (h : NI a b steps s) (ha : 0 < a.length) (hb : 0 < b.length) (hk : s.k ≠ steps) : NI a b steps (nextN a b s) := by
  obtain ⟨h1, h2, h3⟩ := h
  have t := partF_bd (xOf a b s) (subV (a.getD (exLo (nOf a b s) a) zeroV) (b.getD (exHi (nOf a b s) b) zeroV))
  exact ⟨h1.moved t.1 t.2 (exLo_lt _ ha), h2.moved t.1 t.2 (exHi_lt _ hb), by simp only [nextN]; omega⟩
def startN (a b : List V3) : Nst := ⟨zeroV, oneAt a.length 0 65536, oneAt b.length 0 65536, 0⟩
theorem NI.start {a b : List V3} (steps : Nat) (ha : 0 < a.length) (hb : 0 < b.length) : NI a b steps (startN a b) := ⟨WI.one ha, WI.one hb, Nat.zero_le _⟩
noncomputable def searchN (a b : List V3) (rho : Int) (steps : Nat) : Int × Nst := runN a b rho steps 65 (startN a b)
theorem run_keeps {a b : List V3} {rho : Int} {steps : Nat} (ha : 0 < a.length) (hb : 0 < b.length) (P : Int × Nst → Prop)
    (h0 : ∀ s, NI a b steps s → P (0, s)) (h1 : ∀ s, NI a b steps s → isZ (xOf a b s) = false → apartB a b rho s = true → P (1, atN a b s)) (h2 : ∀ s, NI a b steps s → closeF (wOf a b s) rho = true → P (2, s)) :
    ∀ f s, NI a b steps s → P (runN a b rho steps f s) := by
  intro f
  induction f with
  | zero => intro s hs; exact h0 s hs
  | succ f ih =>
    intro s hs
    rcases run_cases a b rho steps s with c | ⟨c, d⟩ | ⟨c, d, e⟩ | ⟨c, d, e, g⟩ | ⟨c, d, e, g, i⟩
    · rw [runN_close c]; exact h2 s hs c
    · rw [runN_zero c d]; exact h0 _ hs.atN
    · rw [runN_apart c d e]; exact h1 s hs d e
    · rw [runN_stop c d e g]; exact h0 _ hs.atN
    · rw [runN_next c d e g i]; exact ih _ (hs.next ha hb g)
theorem search_keeps {a b : List V3} {rho : Int} {steps : Nat} (ha : 0 < a.length) (hb : 0 < b.length) :
    (0 ≤ (searchN a b rho steps).1 ∧ (searchN a b rho steps).1 ≤ 2) ∧ NI a b steps (searchN a b rho steps).2 :=
  run_keeps ha hb (fun r => (0 ≤ r.1 ∧ r.1 ≤ 2) ∧ NI a b steps r.2) (fun _ h => ⟨⟨by omega, by omega⟩, h⟩) (fun _ h _ _ => ⟨⟨by simp only; omega, by simp only; omega⟩, h.atN⟩) (fun _ h _ => ⟨⟨by simp only; omega, by simp only; omega⟩, h⟩) 65 _ (NI.start steps ha hb)
/-- a decided search: what it shows -/
theorem search_decides {a b : List V3} {rho : Int} {steps : Nat} (ha : 0 < a.length) (hb : 0 < b.length) :
    ((searchN a b rho steps).1 = 1 → ∃ s, isZ (xOf a b s) = false ∧ NI a b steps s ∧ apartB a b rho s = true ∧ (searchN a b rho steps).2.N = nOf a b s) ∧
    ((searchN a b rho steps).1 = 2 → closeF (wOf a b (searchN a b rho steps).2) rho = true) :=
  run_keeps ha hb (fun r => (r.1 = 1 → ∃ s, isZ (xOf a b s) = false ∧ NI a b steps s ∧ apartB a b rho s = true ∧ r.2.N = nOf a b s) ∧ (r.1 = 2 → closeF (wOf a b r.2) rho = true))
    (fun _ _ => ⟨fun h => by simp at h, fun h => by simp at h⟩) (fun s h d e => ⟨fun _ => ⟨s, d, h, e, rfl⟩, fun h => by simp at h⟩) (fun _ _ c => ⟨fun h => by simp at h, fun _ => c⟩) 65 _ (NI.start steps ha hb)
/-- more steps -/
theorem run_k {a b : List V3} {rho : Int} {steps : Nat} : ∀ f s, s.k ≤ (runN a b rho steps f s).2.k := by
  intro f
  induction f with
  | zero => intro s; exact Nat.le_refl _
  | succ f ih =>
    intro s
    rcases run_cases a b rho steps s with c | ⟨c, d⟩ | ⟨c, d, e⟩ | ⟨c, d, e, g⟩ | ⟨c, d, e, g, i⟩
    · rw [runN_close c]; exact Nat.le_refl _
    · rw [runN_zero c d]; exact Nat.le_refl _
    · rw [runN_apart c d e]; exact Nat.le_refl _
    · rw [runN_stop c d e g]; exact Nat.le_refl _
    · rw [runN_next c d e g i]
      have := ih (nextN a b s)
      simp only [nextN] at this ⊢
      omega
theorem run_more {a b : List V3} {rho : Int} {m1 m2 : Nat} (h : m1 ≤ m2) : ∀ f s, s.k ≤ m1 → ((runN a b rho m1 f s).1 ≠ 0 → runN a b rho m1 f s = runN a b rho m2 f s) ∧ (runN a b rho m1 f s).2.k ≤ (runN a b rho m2 f s).2.k := by
  intro f
  induction f with
  | zero => intro s _; exact ⟨fun _ => rfl, Nat.le_refl _⟩
  | succ f ih =>
    intro s hs
    rcases run_cases a b rho m1 s with c | ⟨c, d⟩ | ⟨c, d, e⟩ | ⟨c, d, e, g⟩ | ⟨c, d, e, g, i⟩
    · rw [runN_close c, runN_close c]; exact ⟨fun _ => rfl, Nat.le_refl _⟩
    · rw [runN_zero c d, runN_zero c d]; exact ⟨fun _ => rfl, Nat.le_refl _⟩
    · rw [runN_apart c d e, runN_apart c d e]; exact ⟨fun _ => rfl, Nat.le_refl _⟩
    · rw [runN_stop c d e g]
      exact ⟨fun h => absurd rfl h, run_k (rho := rho) (steps := m2) (f + 1) s⟩
    · rw [runN_next c d e g i, runN_next c d e (by omega) i]
      exact ih _ (by simp only [nextN]; omega)
theorem search_more {a b : List V3} {rho : Int} {m1 m2 : Nat} (h : m1 ≤ m2) : ((searchN a b rho m1).1 ≠ 0 → searchN a b rho m1 = searchN a b rho m2) ∧ (searchN a b rho m1).2.k ≤ (searchN a b rho m2).2.k :=
  run_more h 65 _ (Nat.zero_le _)
/-- a common point excludes Apart -/
theorem dgo_lo (n : V3) (l : List V3) (i : Nat) (h : i < l.length) : dgo n l (exLo n l) ≤ dgo n l i := amin_le _ _ i h
theorem dgo_hi (n : V3) (l : List V3) (i : Nat) (h : i < l.length) : dgo n l i ≤ dgo n l (exHi n l) := by
  have := amin_le (fun i => -dgo n l i) l.length i h
  have e : exHi n l = amin (fun i => -dgo n l i) l.length := rfl
  rw [e]
  omega
theorem apart_common {a b : List V3} {rho : Int} (hr : 0 ≤ rho) {i j : Nat} (hi : i < a.length) (hj : j < b.length) (e : a[i] = b[j]) (s : Nst) : apartB a b rho s = false := by
  refine decide_eq_false ?_
  have h1 := dgo_lo (nOf a b s) a i hi
  have h2 := dgo_hi (nOf a b s) b j hj
  have e1 : dgo (nOf a b s) a i = dgo (nOf a b s) b j := by
    unfold dgo
    simp [List.getD, List.getElem?_eq_getElem hi, List.getElem?_eq_getElem hj, e]
  have := Int.mul_nonneg (normF_bd (nOf a b s)).1 hr
  omega
theorem search_common {a b : List V3} {rho : Int} {steps : Nat} (hr : 0 ≤ rho) {i j : Nat} (hi : i < a.length) (hj : j < b.length) (e : a[i] = b[j]) : (searchN a b rho steps).1 ≠ 1 := by
  intro h
  obtain ⟨s, _, _, h2, _⟩ := (search_decides (rho := rho) (steps := steps) (show 0 < a.length by omega) (show 0 < b.length by omega)).1 h
  rw [apart_common hr hi hj e s] at h2
  cases h2
/-- moving -/
def addV (v t : V3) : V3 := ⟨v.x + t.x, v.y + t.y, v.z + t.z⟩
theorem dotL_addc (ws : List Int) (l : List V3) (f : V3 → Int) (c : Int) (h : ws.length = l.length) : dotL ws (l.map fun p => f p + c) = dotL ws (l.map f) + c * ws.sum := by
  induction ws generalizing l with
  | nil => simp [dotL]
  | cons w ws ih => cases l with
    | nil => simp at h
    | cons p l =>
      simp only [List.map_cons, dotL_cons, List.sum_cons, ih l (by simpa using h)]
      grind
theorem sumV_add (l : List V3) (ws : List Int) (t : V3) (h : ws.length = l.length) : sumV (l.map (addV · t)) ws = ⟨(sumV l ws).x + t.x * ws.sum, (sumV l ws).y + t.y * ws.sum, (sumV l ws).z + t.z * ws.sum⟩ := by
  simp only [sumV, List.map_map, Function.comp_def, addV]
  rw [dotL_addc ws l _ _ h, dotL_addc ws l _ _ h, dotL_addc ws l _ _ h]
theorem wOf_add {a b : List V3} {steps : Nat} {s : Nst} (t : V3) (h : NI a b steps s) : wOf (a.map (addV · t)) (b.map (addV · t)) s = wOf a b s := by
  obtain ⟨⟨h1, _, h2⟩, ⟨h3, _, h4⟩, _⟩ := h
  unfold wOf
  rw [sumV_add a s.L t h1, sumV_add b s.R t h3, h2, h4]
  simp only [subV]
  apply V3.ext_ <;> simp only <;> omega
theorem dgo_add (n : V3) (l : List V3) (t : V3) (i : Nat) (h : i < l.length) : dgo n (l.map (addV · t)) i = dgo n l i + dotV n t := by
  unfold dgo
  simp only [List.getD, List.getElem?_map, List.getElem?_eq_getElem h, Option.map_some, Option.getD_some, dotV, addV]
  grind
theorem exLo_add (n : V3) (l : List V3) (t : V3) : exLo n (l.map (addV · t)) = exLo n l := by
  unfold exLo
  rw [List.length_map]
  refine amin_congr _ fun i j hi hj => ?_
  rw [dgo_add n l t i hi, dgo_add n l t j hj]
  omega
theorem exHi_add (n : V3) (l : List V3) (t : V3) : exHi n (l.map (addV · t)) = exHi n l := by
  unfold exHi
  rw [List.length_map]
  refine amin_congr _ fun i j hi hj => ?_
  rw [dgo_add n l t i hi, dgo_add n l t j hj]
  omega
theorem getD_add (l : List V3) (t : V3) (i : Nat) (h : i < l.length) : (l.map (addV · t)).getD i zeroV = addV (l.getD i zeroV) t := by
  simp [List.getD, List.getElem?_eq_getElem h]
theorem run_add {a b : List V3} {rho : Int} {steps : Nat} (t : V3) (ha : 0 < a.length) (hb : 0 < b.length) : ∀ f s, NI a b steps s → runN (a.map (addV · t)) (b.map (addV · t)) rho steps f s = runN a b rho steps f s := by
  intro f
  induction f with
  | zero => intro s _; rfl
  | succ f ih =>
    intro s hs
    have e1 := wOf_add t hs
    have e2 : xOf (a.map (addV · t)) (b.map (addV · t)) s = xOf a b s := by unfold xOf; rw [e1]
    have e3 : nOf (a.map (addV · t)) (b.map (addV · t)) s = nOf a b s := by unfold nOf; rw [e2]
    have e4 : atN (a.map (addV · t)) (b.map (addV · t)) s = atN a b s := by unfold atN; rw [e3]
    have la := exLo_lt (nOf a b s) ha
    have lb := exHi_lt (nOf a b s) hb
    have e5 : apartB (a.map (addV · t)) (b.map (addV · t)) rho s = apartB a b rho s := by
      unfold apartB
      rw [e3, exLo_add, exHi_add, dgo_add _ _ _ _ la, dgo_add _ _ _ _ lb, show ∀ x y z : Int, x + z - (y + z) = x - y from fun x y z => by omega]
    have e6 : tOf (a.map (addV · t)) (b.map (addV · t)) s = tOf a b s := by
      unfold tOf
      rw [e2, e3, exLo_add, exHi_add, getD_add _ _ _ la, getD_add _ _ _ lb]
      congr 1
      simp only [subV, addV]
      apply V3.ext_ <;> simp only <;> omega
    have e7 : nextN (a.map (addV · t)) (b.map (addV · t)) s = nextN a b s := by unfold nextN; rw [e3, e6, exLo_add, exHi_add]
    rcases run_cases a b rho steps s with c | ⟨c, d⟩ | ⟨c, d, e⟩ | ⟨c, d, e, g⟩ | ⟨c, d, e, g, i⟩
    · rw [runN_close c, runN_close (by rw [e1]; exact c)]
    · rw [runN_zero c d, runN_zero (by rw [e1]; exact c) (by rw [e2]; exact d), e4]
    · rw [runN_apart c d e, runN_apart (by rw [e1]; exact c) (by rw [e2]; exact d) (by rw [e5]; exact e), e4]
    · rw [runN_stop c d e g, runN_stop (by rw [e1]; exact c) (by rw [e2]; exact d) (by rw [e5]; exact e) (by rw [e6]; exact g), e4]
    · rw [runN_next c d e g i, runN_next (by rw [e1]; exact c) (by rw [e2]; exact d) (by rw [e5]; exact e) g (by rw [e6]; exact i), e7]
      exact ih _ (hs.next ha hb g)
theorem search_add {a b : List V3} {rho : Int} {steps : Nat} (t : V3) (ha : 0 < a.length) (hb : 0 < b.length) : searchN (a.map (addV · t)) (b.map (addV · t)) rho steps = searchN a b rho steps := by
  unfold searchN
  have e : startN (a.map (addV · t)) (b.map (addV · t)) = startN a b := by unfold startN; simp
  rw [e]
  exact run_add t ha hb 65 _ (NI.start steps ha hb)
end Go.Proofs.Ytionbckpgfaneaa
