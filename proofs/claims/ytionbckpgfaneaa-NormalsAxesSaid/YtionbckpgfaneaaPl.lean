/- The box round a list of boxes, in plain numbers, and axes that separate such boxes. -/
import Derived.Test.YtionbckpgfaneaaXe
namespace Go.Proofs.Ytionbckpgfaneaa
open Go.RowKit
def hullI (a b : Iv) : Iv := ⟨min a.lo b.lo, max a.hi b.hi⟩
def hullV (a b : IV) : IV := ⟨hullI a.x b.x, hullI a.y b.y, hullI a.z b.z⟩
/-- the box round the first k + 1 boxes -/
def boxN (l : List IV) : Nat → IV
  | 0 => l.getD 0 zeroIV
  | k + 1 => hullV (boxN l k) (l.getD (k + 1) zeroIV)
def growI (a : Iv) (r : Int) : Iv := ⟨a.lo - r, a.hi + r⟩
def growV (a : IV) (r : Int) : IV := ⟨growI a.x r, growI a.y r, growI a.z r⟩
def boundF (l : List IV) (r : Int) : IV := if placedB l && radOk r then growV (boxN l (l.length - 1)) r else zeroIV
theorem boxN_sub (l : List IV) (k j : Nat) (h : j ≤ k) : (l.getD j zeroIV).sub (boxN l k) := by
  induction k with
  | zero =>
    obtain rfl : j = 0 := by omega
    simp only [boxN, IV.sub, Iv.sub]
    omega
  | succ k ih =>
    simp only [boxN, hullV, hullI, IV.sub, Iv.sub]
    by_cases hj : j = k + 1
    · subst hj
      omega
    · have := ih (by omega)
      simp only [IV.sub, Iv.sub] at this
      omega
theorem box_all (l : List IV) (p : IV) (hp : p ∈ l) : p.sub (boxN l (l.length - 1)) := by
  obtain ⟨j, hj, rfl⟩ := List.getElem_of_mem hp
  have := boxN_sub l (l.length - 1) j (by omega)
  rwa [show l.getD j zeroIV = l[j] by simp [List.getD, List.getElem?_eq_getElem hj]] at this
def compI (v : IV) (k : Nat) : Iv := if k = 0 then v.x else if k = 1 then v.y else v.z
def apartK (x y : IV) (k : Nat) : Bool := decide ((compI y k).hi < (compI x k).lo) || decide ((compI x k).hi < (compI y k).lo)
theorem dlo_axis (v : IV) (h : (v.x.lo ≤ v.x.hi) ∧ (v.y.lo ≤ v.y.hi) ∧ (v.z.lo ≤ v.z.hi)) :
    (dlo ⟨1, 0, 0⟩ v = v.x.lo ∧ dhi ⟨1, 0, 0⟩ v = v.x.hi) ∧ (dlo ⟨-1, 0, 0⟩ v = -v.x.hi ∧ dhi ⟨-1, 0, 0⟩ v = -v.x.lo) ∧
    (dlo ⟨0, 1, 0⟩ v = v.y.lo ∧ dhi ⟨0, 1, 0⟩ v = v.y.hi) ∧ (dlo ⟨0, -1, 0⟩ v = -v.y.hi ∧ dhi ⟨0, -1, 0⟩ v = -v.y.lo) ∧
    (dlo ⟨0, 0, 1⟩ v = v.z.lo ∧ dhi ⟨0, 0, 1⟩ v = v.z.hi) ∧ (dlo ⟨0, 0, -1⟩ v = -v.z.hi ∧ dhi ⟨0, 0, -1⟩ v = -v.z.lo) := by
  unfold dlo dhi
  simp only [Int.one_mul, Int.zero_mul, Int.neg_mul]
  omega
theorem find_box {a b : List IV} {ra rb : Int} {hs : List V3} {k : Nat} (ha : placedB a = true) (hb : placedB b = true) (hr : 0 ≤ ra ∧ ra ≤ 1048576) (hq : 0 ≤ rb ∧ rb ≤ 1048576)
    (h : apartK (boundF a ra) (boundF b rb) k = true) : (findN a ra b rb hs).isSome = true := by
  have ga : boundF a ra = growV (boxN a (a.length - 1)) ra := by unfold boundF; rw [if_pos (by simp [ha, radOk_of hr])]
  have gb : boundF b rb = growV (boxN b (b.length - 1)) rb := by unfold boundF; rw [if_pos (by simp [hb, radOk_of hq])]
  rw [ga, gb] at h
  have wa : ∀ p ∈ a, (p.x.lo ≤ p.x.hi) ∧ (p.y.lo ≤ p.y.hi) ∧ (p.z.lo ≤ p.z.hi) := fun p hp => by
    obtain ⟨j, hj, rfl⟩ := List.getElem_of_mem hp
    have := ok_of ((placed_of ha).2.2 j hj)
    omega
  have wb : ∀ p ∈ b, (p.x.lo ≤ p.x.hi) ∧ (p.y.lo ≤ p.y.hi) ∧ (p.z.lo ≤ p.z.hi) := fun p hp => by
    obtain ⟨j, hj, rfl⟩ := List.getElem_of_mem hp
    have := ok_of ((placed_of hb).2.2 j hj)
    omega
  have key : ∀ n : V3, n ∈ axesL → (∀ p ∈ a, ∀ q ∈ b, dhi n q + (ra + rb) < dlo n p) → (findN a ra b rb hs).isSome = true := fun n hn hh => find_axis hn ha hb hr hq hh
  unfold apartK compI growV growI at h
  simp only [Bool.or_eq_true, decide_eq_true_eq] at h
  have sa := box_all a
  have sb := box_all b
  simp only [IV.sub, Iv.sub] at sa sb
  by_cases h0 : k = 0
  · simp only [h0, if_true] at h
    rcases h with h | h
    · refine key ⟨1, 0, 0⟩ (by simp [axesL]) fun p hp q hq' => ?_
      have d1 := dlo_axis p (wa p hp); have d2 := dlo_axis q (wb q hq'); have e1 := sa p hp; have e2 := sb q hq'
      omega
    · refine key ⟨-1, 0, 0⟩ (by simp [axesL]) fun p hp q hq' => ?_
      have d1 := dlo_axis p (wa p hp); have d2 := dlo_axis q (wb q hq'); have e1 := sa p hp; have e2 := sb q hq'
      omega
  · by_cases h1 : k = 1
    · subst h1
      simp only [if_neg (show ¬ (1 : Nat) = 0 by omega), if_true] at h
      rcases h with h | h
      · refine key ⟨0, 1, 0⟩ (by simp [axesL]) fun p hp q hq' => ?_
        have d1 := dlo_axis p (wa p hp); have d2 := dlo_axis q (wb q hq'); have e1 := sa p hp; have e2 := sb q hq'
        omega
      · refine key ⟨0, -1, 0⟩ (by simp [axesL]) fun p hp q hq' => ?_
        have d1 := dlo_axis p (wa p hp); have d2 := dlo_axis q (wb q hq'); have e1 := sa p hp; have e2 := sb q hq'
        omega
    · simp only [if_neg h0, if_neg h1] at h
      rcases h with h | h
      · refine key ⟨0, 0, 1⟩ (by simp [axesL]) fun p hp q hq' => ?_
        have d1 := dlo_axis p (wa p hp); have d2 := dlo_axis q (wb q hq'); have e1 := sa p hp; have e2 := sb q hq'
        omega
      · refine key ⟨0, 0, -1⟩ (by simp [axesL]) fun p hp q hq' => ?_
        have d1 := dlo_axis p (wa p hp); have d2 := dlo_axis q (wb q hq'); have e1 := sa p hp; have e2 := sb q hq'
        omega
end Go.Proofs.Ytionbckpgfaneaa
