/- Texts merged into one: Na Nb Ph Pi Wr Nc Nd Pj Pk. -/
import Derived.Test.YtionbckpgfaneaaXb
import Derived.Test.YtionbckpgfaneaaXc
import Derived.Deep.QuietTactic
import Derived.BigQuiet
import Derived.Test.YtionbckpgfaneaaXa
import Derived.Laws.OwnMore
import Derived.Laws.MakeOwn
import Derived.RegionTactic
import Derived.Deep.RegionHeld3
import Derived.Deep.RegionWith
/- Walks of the search, part a: differences, products, usable lists. -/
namespace Go.Proofs.Ytionbckpgfaneaa
open Go.RowKit
set_option maxHeartbeats 1000000
set_option maxRecDepth 100000
attribute [local go_sem] index47_0 index47_1 index47_2
theorem minus157 (a b : V3) (w : World) (h1 : -9223372036854775808 ≤ a.x - b.x ∧ a.x - b.x ≤ 9223372036854775807) (h2 : -9223372036854775808 ≤ a.y - b.y ∧ a.y - b.y ≤ 9223372036854775807) (h3 : -9223372036854775808 ≤ a.z - b.z ∧ a.z - b.z ≤ 9223372036854775807) :
    Calls Try.prog 157 #[.agg #[.int .i64 a.x, .int .i64 a.y, .int .i64 a.z], .agg #[.int .i64 b.x, .int .i64 b.y, .int .i64 b.z]] w fun e w' => e = .returned (.agg #[.int .i64 (a.x - b.x), .int .i64 (a.y - b.y), .int .i64 (a.z - b.z)]) ∧ Below w.heap.size w w' := by
  obtain ⟨p1, p2⟩ := h1; obtain ⟨p3, p4⟩ := h2; obtain ⟨p5, p6⟩ := h3
  go_enter Try.func157, Try.ntmps157
  go_wp2_with fail
  refine bodyPost_ret (v := .agg #[.int .i64 (a.x - b.x), .int .i64 (a.y - b.y), .int .i64 (a.z - b.z)]) (by simp [results, Try.results157, go_sem]) rfl ⟨rfl, ?_⟩
  go_grown
theorem minus162 (a b : V3) (w : World) (h1 : -9223372036854775808 ≤ a.x - b.x ∧ a.x - b.x ≤ 9223372036854775807) (h2 : -9223372036854775808 ≤ a.y - b.y ∧ a.y - b.y ≤ 9223372036854775807) (h3 : -9223372036854775808 ≤ a.z - b.z ∧ a.z - b.z ≤ 9223372036854775807) :
    Calls Try.prog 162 #[.agg #[.int .i64 a.x, .int .i64 a.y, .int .i64 a.z], .agg #[.int .i64 b.x, .int .i64 b.y, .int .i64 b.z]] w fun e w' => e = .returned (.agg #[.int .i64 (a.x - b.x), .int .i64 (a.y - b.y), .int .i64 (a.z - b.z)]) ∧ Below w.heap.size w w' := by
  obtain ⟨p1, p2⟩ := h1; obtain ⟨p3, p4⟩ := h2; obtain ⟨p5, p6⟩ := h3
  go_enter Try.func162, Try.ntmps162
  go_wp2_with fail
  refine bodyPost_ret (v := .agg #[.int .i64 (a.x - b.x), .int .i64 (a.y - b.y), .int .i64 (a.z - b.z)]) (by simp [results, Try.results162, go_sem]) rfl ⟨rfl, ?_⟩
  go_grown
theorem dotn177 (a b : V3) (M : Int) (w : World) (hM : M ≤ 3000000000000000000) (h1 : -M ≤ a.x * b.x ∧ a.x * b.x ≤ M) (h2 : -M ≤ a.y * b.y ∧ a.y * b.y ≤ M) (h3 : -M ≤ a.z * b.z ∧ a.z * b.z ≤ M) :
    Calls Try.prog 177 #[.agg #[.int .i64 a.x, .int .i64 a.y, .int .i64 a.z], .agg #[.int .i64 b.x, .int .i64 b.y, .int .i64 b.z]] w fun e w' => e = .returned (.int .i64 (dotV a b)) ∧ Below w.heap.size w w' := by
  obtain ⟨p1, p2⟩ := h1; obtain ⟨p3, p4⟩ := h2; obtain ⟨p5, p6⟩ := h3
  go_enter Try.func177, Try.ntmps177
  go_wp2_with fail
  go_ret
  exact ⟨rfl, by go_grown⟩
theorem dotn160 (a b : V3) (M : Int) (w : World) (hM : M ≤ 3000000000000000000) (h1 : -M ≤ a.x * b.x ∧ a.x * b.x ≤ M) (h2 : -M ≤ a.y * b.y ∧ a.y * b.y ≤ M) (h3 : -M ≤ a.z * b.z ∧ a.z * b.z ≤ M) :
    Calls Try.prog 160 #[.agg #[.int .i64 a.x, .int .i64 a.y, .int .i64 a.z], .agg #[.int .i64 b.x, .int .i64 b.y, .int .i64 b.z]] w fun e w' => e = .returned (.int .i64 (dotV a b)) ∧ Below w.heap.size w w' := by
  obtain ⟨p1, p2⟩ := h1; obtain ⟨p3, p4⟩ := h2; obtain ⟨p5, p6⟩ := h3
  go_enter Try.func160, Try.ntmps160
  go_wp2_with fail
  go_ret
  exact ⟨rfl, by go_grown⟩
/-- one to eight points within the reach -/
def vok (v : V3) : Bool := nearB 268435456 v
def fewB (l : List V3) : Bool := decide (1 ≤ l.length) && decide (l.length ≤ 8) && l.all vok
theorem few_bad (l : List V3) (h : l.length < 1 ∨ 8 < l.length) : false = fewB l := by
  unfold fewB
  rcases h with h | h
  · simp [show ¬ 1 ≤ l.length by omega]
  · simp [show ¬ l.length ≤ 8 by omega]
theorem few_not (l : List V3) (k : Nat) (hk : k < l.length) (h : vok l[k] = false) : false = fewB l := by
  unfold fewB
  have : l.all vok = false := by
    rw [List.all_eq_false]
    exact ⟨l[k], by simp, by simp [h]⟩
  simp [this]
theorem few_yes (l : List V3) (h1 : 1 ≤ l.length) (h8 : l.length ≤ 8) (h : ∀ j (hj : j < l.length), vok l[j] = true) : true = fewB l := by
  unfold fewB
  have : l.all vok = true := by
    rw [List.all_eq_true]
    intro x hx
    obtain ⟨j, hj, rfl⟩ := List.getElem_of_mem hx
    exact h j hj
  simp [this, h1, h8]
theorem few_of {l : List V3} (h : fewB l = true) : 1 ≤ l.length ∧ l.length ≤ 8 ∧ ∀ j (hj : j < l.length), vok l[j] = true := by
  simp [fewB] at h
  exact ⟨h.1.1, h.1.2, fun j hj => h.2 _ (by simp)⟩
/-- nearest.usable -/
theorem usableN_any (A : Option Addr) (l : List V3) (c : Nat) (w : World) (hs : SlV w A l) (hm : l.length ≤ 9223372036854775807) :
    Calls Try.prog 127 #[.slice A l.length c] w fun e w' => e = .returned (.bool (fewB l)) ∧ Below w.heap.size w w' := by
  have HS := hide hs
  clear hs
  by_cases hbad : l.length < 1 ∨ 8 < l.length
  · have H := hide (few_bad l hbad)
    rcases hbad with h | h
    · go_enter Try.func127, Try.ntmps127
      go_wp2
      go_ret
      exact ⟨ret_bool H.out, Below.refl _ _⟩
    · have h1 : ¬ l.length < 1 := by omega
      go_enter Try.func127, Try.ntmps127
      go_wp2
      go_ret
      exact ⟨ret_bool H.out, Below.refl _ _⟩
  · have hn1 : 1 ≤ l.length := by omega
    have hn8 : l.length ≤ 8 := by omega
    clear hbad
    obtain ⟨b, off, rfl, hbb⟩ := HS.out.addr (by omega)
    go_enter Try.func127, Try.ntmps127
    go_wp2
    go_loopw [17] (fun i wr => ∃ k : Nat, k ≤ l.length ∧ i = .int .i64 k ∧ (∀ j (_ : j < k) (h' : j < l.length), vok l[j] = true) ∧ Below w.heap.size w wr) (fun i _ => l.length - (intOf i).toNat)
    case atStart => exact ⟨0, Nat.zero_le _, rfl, fun j h => absurd h (by omega), Below.refl _ _⟩
    case round =>
      obtain ⟨k, hk, rfl, hok, hb⟩ := hrel
      have HO := hide hok; have HB := hide hb
      clear hok hb
      by_cases hlt : k < l.length
      · obtain ⟨h0, h1, h2⟩ := (HS.out.below HB.out).at_ hlt
        go_wp2
        go_rounds 4
        all_goals first
          | (go_ret; refine ⟨ret_bool (few_not l k hlt (nearB_no (by omega)).symm), ?_⟩; refine HB.out.trans ?_; have := HB.out.size; go_grown)
          | (go_roundw
             case rel => exact ⟨k + 1, by omega, by simp, fun j hj hj' => by
               rcases Nat.lt_or_ge j k with h | h
               · exact HO.out j h hj'
               · obtain rfl : j = k := by omega
                 exact (nearB_yes (by omega)).symm, by refine HB.out.trans ?_; have := HB.out.size; go_grown⟩
             case measure => simp [intOf] <;> omega)
      · go_wp2
        go_ret
        exact ⟨ret_bool (few_yes l hn1 hn8 (fun j hj => HO.out j (by omega) hj)), HB.out⟩
/-- armplanref14.few -/
theorem few_ref (A : Option Addr) (l : List V3) (c : Nat) (w : World) (hs : SlV w A l) (hm : l.length ≤ 9223372036854775807) :
    Calls Try.prog 156 #[.slice A l.length c] w fun e w' => e = .returned (.bool (fewB l)) ∧ Below w.heap.size w w' := by
  have HS := hide hs
  clear hs
  go_enter Try.func156, Try.ntmps156
  go_wp2_with fail
  go_loopw [3] (fun i wr => ∃ k : Nat, k ≤ l.length ∧ k ≤ 9 ∧ i = .int .i64 k ∧ (∀ j (_ : j < k) (h' : j < l.length), vok l[j] = true) ∧ Below w.heap.size w wr) (fun i _ => l.length - (intOf i).toNat)
  case atStart => exact ⟨0, Nat.zero_le _, Nat.zero_le _, rfl, fun j h => absurd h (by omega), Below.refl _ _⟩
  case round =>
    obtain ⟨k, hk, hk9, rfl, hok, hb⟩ := hrel
    have HO := hide hok; have HB := hide hb; have hz := hb.size
    clear hok hb
    by_cases hlt : k < l.length
    · by_cases h8 : k ≤ 8
      · obtain ⟨b, off, rfl, hbb⟩ := HS.out.addr (by omega)
        obtain ⟨h0, h1, h2⟩ := (HS.out.below HB.out).at_ hlt
        go_wp2_with fail
        refine (near_any l[k] 268435456 _ (by omega) (by omega)).mono ?_
        rintro e w1 ⟨rfl, hb1⟩
        have HB1 := hide hb1
        clear hb1
        cases hv : nearB 268435456 l[k]
        · go_wp2
          go_ret
          exact ⟨ret_bool (few_not l k hlt hv), HB.out.trans (HB1.out.mono hz)⟩
        · have HV := hide hv
          go_wp2
          go_roundw
          case rel => exact ⟨k + 1, by omega, by omega, by simp, fun j hj hj' => by
               rcases Nat.lt_or_ge j k with h | h
               · exact HO.out j h hj'
               · obtain rfl : j = k := by omega
                 exact HV.out, HB.out.trans (HB1.out.mono hz)⟩
          case measure => simp [intOf] <;> omega
      · have hge : 8 < l.length := by omega
        have H := hide (few_bad l (Or.inr hge))
        go_wp2
        all_goals
          go_ret
          exact ⟨ret_bool ((by simp; omega : decide ((l.length : Int) ≤ 8) = false).trans H.out), HB.out⟩
    · have hkl : k = l.length := by omega
      by_cases h1 : 1 ≤ l.length
      · by_cases h8 : l.length ≤ 8
        · have H := hide (few_yes l h1 h8 (fun j hj => HO.out j (by omega) hj))
          clear hkl
          go_wp2
          all_goals
            go_ret
            exact ⟨ret_bool ((by simp; omega : decide ((l.length : Int) ≤ 8) = true).trans H.out), HB.out⟩
        · have H := hide (few_bad l (Or.inr (by omega)))
          clear hkl
          go_wp2
          all_goals
            go_ret
            exact ⟨ret_bool ((by simp; omega : decide ((l.length : Int) ≤ 8) = false).trans H.out), HB.out⟩
      · have H := hide (few_bad l (Or.inl (by omega)))
        clear hkl
        go_wp2
        all_goals
          go_ret
          exact ⟨ret_bool H.out, HB.out⟩
end Go.Proofs.Ytionbckpgfaneaa
/- Walks of the search, part b: rounding up, closeness. -/
namespace Go.Proofs.Ytionbckpgfaneaa
open Go.RowKit
set_option maxHeartbeats 1000000
set_option maxRecDepth 100000
attribute [local go_sem] index47_0 index47_1 index47_2
theorem ceil16 (a : Int) (_h0 : 0 ≤ a) : (a / 65536 * 65536 = a → a / 65536 = ceilF a 65536) ∧ (a / 65536 * 65536 ≠ a → a / 65536 + 1 = ceilF a 65536) := by
  unfold ceilF
  omega
/-- fixed.ShiftUp by 16 -/
theorem shiftUp_any (a : Int) (w : World) (h0 : 0 ≤ a) (h1 : a ≤ 1000000000000000000) :
    Calls Try.prog 176 #[.int .i64 a, .int .i64 16] w fun e w' => e = .returned (.int .i64 (ceilF a 65536)) ∧ w = w' := by
  obtain ⟨c1, c2⟩ := ceil16 a h0
  have b1 : 0 ≤ a / 65536 := by omega
  have b2 : a / 65536 * 65536 ≤ 1000000000000000000 := by omega
  by_cases hc : a / 65536 * 65536 = a
  · have H := hide (c1 hc)
    have hb : (a / 65536 * 65536 != a) = false := by simp [hc]
    clear c1 c2 hc
    go_enter Try.func176, Try.ntmps176
    go_wp2
    all_goals
      go_ret
      exact ⟨ret_int H.out, rfl⟩
  · have H := hide (c2 hc)
    have hb : (a / 65536 * 65536 != a) = true := by simp [hc]
    clear c1 c2 hc
    go_enter Try.func176, Try.ntmps176
    go_wp2
    all_goals
      go_ret
      exact ⟨ret_int H.out, rfl⟩
theorem up16_bd {z : Int} (h1 : -35184372088832 ≤ z) (h2 : z ≤ 35184372088832) : 0 ≤ up16 z ∧ up16 z ≤ 536870912 := by
  unfold up16 ceilF
  omega
def clAcc (w : V3) (k : Int) : Int := if k = 0 then 0 else if k = 1 then up16 w.x * up16 w.x else if k = 2 then up16 w.x * up16 w.x + up16 w.y * up16 w.y else up16 w.x * up16 w.x + up16 w.y * up16 w.y + up16 w.z * up16 w.z
def WB (v : V3) : Prop := (-35184372088832 ≤ v.x ∧ v.x ≤ 35184372088832) ∧ (-35184372088832 ≤ v.y ∧ v.y ≤ 35184372088832) ∧ (-35184372088832 ≤ v.z ∧ v.z ≤ 35184372088832)
theorem shiftUp16 (z : Int) (w : World) (h1 : -35184372088832 ≤ z) (h2 : z ≤ 35184372088832) : Calls Try.prog 176 #[.int .i64 (max z (-z)), .int .i64 16] w fun e w' => e = .returned (.int .i64 (up16 z)) ∧ w = w' := shiftUp_any _ w (by omega) (by omega)
/-- nearest.isClose -/
theorem isClose_any (v : V3) (rho : Int) (w : World) (hv : WB v) (h0 : 0 ≤ rho) (h1 : rho ≤ 2097152) :
    Calls Try.prog 164 #[.agg #[.int .i64 v.x, .int .i64 v.y, .int .i64 v.z], .int .i64 rho] w fun e w' => e = .returned (.bool (closeF v rho)) ∧ Below w.heap.size w w' := by
  obtain ⟨⟨x1, x2⟩, ⟨y1, y2⟩, z1, z2⟩ := hv
  obtain ⟨p1, p2⟩ := up16_bd x1 x2
  obtain ⟨p3, p4⟩ := up16_bd y1 y2
  obtain ⟨p5, p6⟩ := up16_bd z1 z2
  have m1 := mul_bd (up16 v.x) (up16 v.x) 536870912 536870912 p1 p2 (by omega) p2
  have m2 := mul_bd (up16 v.y) (up16 v.y) 536870912 536870912 p3 p4 (by omega) p4
  have m3 := mul_bd (up16 v.z) (up16 v.z) 536870912 536870912 p5 p6 (by omega) p6
  have s1 := sq_nn (up16 v.x); have s2 := sq_nn (up16 v.y); have s3 := sq_nn (up16 v.z)
  have m4 := mul_bd rho rho 2097152 2097152 h0 h1 (by omega) h1
  go_enter Try.func164, Try.ntmps164
  go_wp2_with fail
  go_loop [5, 10] (fun t i => ∃ k : Int, i = .int .i64 k ∧ 0 ≤ k ∧ k ≤ 3 ∧ t = .int .i64 (clAcc v k)) (fun _ i => 3 - (intOf i).toNat)
  case atStart => exact ⟨0, rfl, by omega, by omega, rfl⟩
  case round =>
    obtain ⟨k, rfl, hk0, hk3, rfl⟩ := hrel
    obtain rfl | rfl | rfl | rfl : k = 0 ∨ k = 1 ∨ k = 2 ∨ k = 3 := by omega
    · simp only [clAcc]
      go_wp2_with fail
      refine (shiftUp16 v.x _ (by omega) (by omega)).mono ?_
      rintro e w' ⟨rfl, rfl⟩
      go_wp2_with fail
      go_round
      case rel => exact ⟨1, rfl, by omega, by omega, rfl⟩
      case measure => simp [intOf]
    · simp only [clAcc]
      go_wp2_with fail
      refine (shiftUp16 v.y _ (by omega) (by omega)).mono ?_
      rintro e w' ⟨rfl, rfl⟩
      go_wp2_with fail
      go_round
      case rel => exact ⟨2, rfl, by omega, by omega, rfl⟩
      case measure => simp [intOf]
    · simp only [clAcc]
      go_wp2_with fail
      refine (shiftUp16 v.z _ (by omega) (by omega)).mono ?_
      rintro e w' ⟨rfl, rfl⟩
      go_wp2_with fail
      go_round
      case rel => exact ⟨3, rfl, by omega, by omega, rfl⟩
      case measure => simp [intOf]
    · simp only [clAcc]
      go_wp2_with fail
      go_ret
      exact ⟨rfl, by go_grown⟩
def ClInv (w : World) (v : V3) (t i : Value) (wr : World) : Prop := ∃ k : Int, i = .int .i64 k ∧ 0 ≤ k ∧ k ≤ 3 ∧ t = .int .i64 (clAcc v k) ∧ wr.heap[w.heap.size]? = some (.cells (vcs v) 47 (0, 0)) ∧ Below w.heap.size w wr ∧ w.heap.size < wr.heap.size
theorem ceil16_max (z : Int) (w : World) (h1 : -35184372088832 ≤ z) (h2 : z ≤ 35184372088832) :
    Calls Try.prog 54 #[.int .i64 (max z (-z)), .int .i64 65536] w fun e w' => e = .returned (.int .i64 (up16 z)) ∧ w = w' := ceil_any _ 65536 w ⟨by omega, by omega⟩ (by omega)
/-- armplanref14.near -/
theorem near14_any (v : V3) (rho : Int) (w : World) (hv : WB v) (h0 : 0 ≤ rho) (h1 : rho ≤ 2097152) :
    Calls Try.prog 158 #[.agg #[.int .i64 v.x, .int .i64 v.y, .int .i64 v.z], .int .i64 rho] w fun e w' => e = .returned (.bool (closeF v rho)) ∧ Below w.heap.size w w' := by
  obtain ⟨⟨x1, x2⟩, ⟨y1, y2⟩, z1, z2⟩ := hv
  obtain ⟨p1, p2⟩ := up16_bd x1 x2
  obtain ⟨p3, p4⟩ := up16_bd y1 y2
  obtain ⟨p5, p6⟩ := up16_bd z1 z2
  have m1 := mul_bd (up16 v.x) (up16 v.x) 536870912 536870912 p1 p2 (by omega) p2
  have m2 := mul_bd (up16 v.y) (up16 v.y) 536870912 536870912 p3 p4 (by omega) p4
  have m3 := mul_bd (up16 v.z) (up16 v.z) 536870912 536870912 p5 p6 (by omega) p6
  have s1 := sq_nn (up16 v.x); have s2 := sq_nn (up16 v.y); have s3 := sq_nn (up16 v.z)
  have m4 := mul_bd rho rho 2097152 2097152 h0 h1 (by omega) h1
  go_enter Try.func158, Try.ntmps158
  go_wp2_with fail
  go_loopw [5, 6] (fun t i wr => ClInv w v t i wr) (fun _ i _ => 3 - (intOf i).toNat)
  case atStart => exact ⟨0, rfl, by omega, by omega, rfl, heap_alloc_new w _, by go_grown, by simp⟩
  case round =>
    obtain ⟨k, rfl, hk0, hk3, rfl, jN, jB, jz⟩ := hrel
    have JN := hide jN; have JB := hide jB
    have hc := blk_cell jN; simp only [vcs] at hc
    clear jN jB
    obtain rfl | rfl | rfl | rfl : k = 0 ∨ k = 1 ∨ k = 2 ∨ k = 3 := by omega
    · simp only [clAcc]
      have q1 := IntWalk.i64_in (-v.x) (by omega)
      go_wp2_with fail
      go_quiet ((go_at_call 54; exact quiet_same (ceil16_max v.x _ (by omega) (by omega))))
      clear q1
      go_wp2_with fail
      go_roundw
      case rel => exact ⟨1, rfl, by omega, by omega, rfl, JN.out, below_drewN JB.out _, jz⟩
      case measure => simp [intOf]
    · simp only [clAcc]
      have q1 := IntWalk.i64_in (-v.y) (by omega)
      go_wp2_with fail
      go_quiet ((go_at_call 54; exact quiet_same (ceil16_max v.y _ (by omega) (by omega))))
      clear q1
      go_wp2_with fail
      go_roundw
      case rel => exact ⟨2, rfl, by omega, by omega, rfl, JN.out, below_drewN JB.out _, jz⟩
      case measure => simp [intOf]
    · simp only [clAcc]
      have q1 := IntWalk.i64_in (-v.z) (by omega)
      go_wp2_with fail
      go_quiet ((go_at_call 54; exact quiet_same (ceil16_max v.z _ (by omega) (by omega))))
      clear q1
      go_wp2_with fail
      go_roundw
      case rel => exact ⟨3, rfl, by omega, by omega, rfl, JN.out, below_drewN JB.out _, jz⟩
      case measure => simp [intOf]
    · simp only [clAcc]
      go_wp2_with fail
      go_ret
      exact ⟨rfl, JB.out⟩
end Go.Proofs.Ytionbckpgfaneaa
/- The laws of the search in plain numbers. -/
namespace Go.Proofs.Ytionbckpgfaneaa
open Go.RowKit
def ptV (v : V3) : IV := ⟨⟨v.x, v.x⟩, ⟨v.y, v.y⟩, ⟨v.z, v.z⟩⟩
theorem vok_of {v : V3} (h : vok v = true) : (-268435456 ≤ v.x ∧ v.x ≤ 268435456) ∧ (-268435456 ≤ v.y ∧ v.y ≤ 268435456) ∧ (-268435456 ≤ v.z ∧ v.z ≤ 268435456) := of_decide_eq_true h
theorem clamp_in {a : Int} (h1 : -268435456 ≤ a) (h2 : a ≤ 268435456) : clampF a = a := by unfold clampF; omega
theorem pt_eq {v : V3} (h : vok v = true) : ptI v = ptV v := by
  obtain ⟨⟨a, b⟩, ⟨c, d⟩, e, f⟩ := vok_of h
  unfold ptI ptV
  rw [clamp_in a b, clamp_in c d, clamp_in e f]
theorem few_pts {l : List V3} (h : fewB l = true) : l.map ptI = l.map ptV := List.map_congr_left fun v hv => by
  obtain ⟨j, hj, rfl⟩ := List.getElem_of_mem hv
  exact pt_eq ((few_of h).2.2 j hj)
theorem few_placed {l : List V3} (h : fewB l = true) : placedB (l.map ptV) = true := by
  obtain ⟨h1, h8, h⟩ := few_of h
  refine (placed_yes _ (by simpa using h1) (by simpa using h8) fun j hj => ?_).symm
  rw [List.getElem_map]
  have := vok_of (h j (by simpa using hj))
  refine ok_yes _ ?_ ?_ ?_ <;> simp only [ptV] <;> omega
theorem comb_pts (l : List V3) (ws : List Int) : comb (l.map ptV) ws = ptV (sumV l ws) := by
  simp [comb, sumV, ptV, Function.comp_def]
theorem mem_le_sum (l : List Int) (h : ∀ x ∈ l, 0 ≤ x) : ∀ x ∈ l, x ≤ l.sum := by
  induction l with
  | nil => simp
  | cons y l ih =>
    intro x hx
    have h1 := h y (by simp)
    have h2 := sum_nonneg l fun x hx => h x (by simp [hx])
    rw [List.sum_cons]
    rcases List.mem_cons.1 hx with rfl | hx
    · omega
    · have := ih (fun x hx => h x (by simp [hx])) x hx
      omega
theorem WI.bd {L : List Int} {n : Nat} (h : WI L n) : ∀ x ∈ L, 0 ≤ x ∧ x ≤ 65536 := fun x hx => by
  have := mem_le_sum L h.2.1 x hx
  have := h.2.2
  have := h.2.1 x hx
  omega
theorem WI.wOk {L : List Int} {n : Nat} (h : WI L n) : wOk L = true := wOk_yes L fun j hj => h.bd _ (by simp)
theorem WI.combOk {L : List Int} {l : List V3} (h : WI L l.length) (hl : fewB l = true) : combOk (l.map ptV) L = true :=
  combOk_yes (few_placed hl) (by rw [List.length_map]; exact h.1) h.wOk (by have := h.2.2; omega)
theorem far1_pt (a b : Int) : far1 ⟨a, a⟩ ⟨b, b⟩ 65536 = up16 (a - b) := by
  unfold far1 absmax up16
  congr 1
  simp only
  omega
theorem close_of {w : V3} {rho : Int} (h0 : 0 ≤ rho) (h : closeF w rho = true) : (up16 w.x ≤ rho ∧ up16 w.y ≤ rho ∧ up16 w.z ≤ rho) ∧ up16 w.x * up16 w.x + up16 w.y * up16 w.y + up16 w.z * up16 w.z ≤ rho * rho := by
  have h := of_decide_eq_true h
  have s1 := sq_nn (up16 w.x); have s2 := sq_nn (up16 w.y); have s3 := sq_nn (up16 w.z)
  exact ⟨⟨le_of_sq h0 (by omega), le_of_sq h0 (by omega), le_of_sq h0 (by omega)⟩, h⟩
/-- a close search: the weights prove an overlap -/
theorem decides_close {a b : List V3} {L R : List Int} {rho : Int} (ha : fewB a = true) (hb : fewB b = true) (hL : WI L a.length) (hR : WI R b.length) (h0 : 0 ≤ rho) (h1 : rho ≤ 2097152)
    (h : closeF (subV (sumV a L) (sumV b R)) rho = true) : ovl L R (a.map ptI) (b.map ptI) (rho / 2) (rho - rho / 2) = true := by
  obtain ⟨⟨c1, c2, c3⟩, c4⟩ := close_of h0 h
  rw [few_pts ha, few_pts hb, ovl_made (hL.combOk ha) (hR.combOk hb) (hL.2.2.trans hR.2.2.symm) (by omega) (by omega), comb_pts, comb_pts, hL.2.2]
  refine decide_eq_true (exc_of ?_ ?_ ?_ ?_) <;> simp only [ptV, far1_pt] <;> simp only [subV] at c1 c2 c3 c4
  · omega
  · omega
  · omega
  · rw [show rho / 2 + (rho - rho / 2) = rho by omega]; exact c4
theorem dlo_pt (n v : V3) : dlo n (ptV v) = dotV n v := by simp [dlo, ptV, dotV]
theorem dhi_pt (n v : V3) : dhi n (ptV v) = dotV n v := by simp [dhi, ptV, dotV]
theorem getD_pt (l : List V3) (i : Nat) : (l.map ptV).getD i zeroIV = ptV (l.getD i zeroV) := by
  rcases Nat.lt_or_ge i l.length with h | h
  · simp [List.getD, List.getElem?_eq_getElem h]
  · simp [List.getD, List.getElem?_eq_none h]; rfl
theorem vlo_pt (n : V3) (l : List V3) : vlo n (l.map ptV) = dgo n l := by
  funext i
  rw [vlo, getD_pt, dlo_pt, dgo]
theorem vhi_pt (n : V3) (l : List V3) : vhi n (l.map ptV) = dgo n l := by
  funext i
  rw [vhi, getD_pt, dhi_pt, dgo]
theorem leastV_pt (n : V3) (l : List V3) : leastV n (l.map ptV) = dgo n l (exLo n l) := by
  unfold leastV leastI exLo
  rw [vlo_pt, List.length_map]
theorem greatV_pt (n : V3) (l : List V3) : greatV n (l.map ptV) = dgo n l (exHi n l) := by
  unfold greatV greatI exHi
  rw [vhi_pt, List.length_map]
theorem sumV_bd {l : List V3} {L : List Int} (hl : fewB l = true) (h : WI L l.length) : (-17592186044416 ≤ (sumV l L).x ∧ (sumV l L).x ≤ 17592186044416) ∧ (-17592186044416 ≤ (sumV l L).y ∧ (sumV l L).y ≤ 17592186044416) ∧ (-17592186044416 ≤ (sumV l L).z ∧ (sumV l L).z ≤ 17592186044416) := by
  obtain ⟨_, _, hv⟩ := few_of hl
  have e (f : V3 → Int) (hf : ∀ v, vok v = true → -268435456 ≤ f v ∧ f v ≤ 268435456) : -17592186044416 ≤ dotL L (l.map f) ∧ dotL L (l.map f) ≤ 17592186044416 := by
    have k : ∀ x ∈ l.map f, -268435456 ≤ x ∧ x ≤ 268435456 := fun x hx => by
      obtain ⟨v, hv', rfl⟩ := List.mem_map.1 hx
      obtain ⟨j, hj, rfl⟩ := List.getElem_of_mem hv'
      exact hf _ (hv j hj)
    have a := dotL_ge L (l.map f) (-268435456) (by rw [List.length_map]; exact h.1) h.2.1 fun x hx => (k x hx).1
    have b := dotL_le L (l.map f) 268435456 (by rw [List.length_map]; exact h.1) h.2.1 fun x hx => (k x hx).2
    rw [h.2.2] at a b
    omega
  exact ⟨e _ fun v hv => (vok_of hv).1, e _ fun v hv => (vok_of hv).2.1, e _ fun v hv => (vok_of hv).2.2⟩
theorem wOf_bd {a b : List V3} {steps : Nat} {s : Nst} (ha : fewB a = true) (hb : fewB b = true) (h : NI a b steps s) : WB (wOf a b s) := by
  have h1 := sumV_bd ha h.1
  have h2 := sumV_bd hb h.2.1
  unfold WB wOf subV
  simp only
  omega
theorem tdiv16 {z : Int} (h1 : -35184372088832 ≤ z) (h2 : z ≤ 35184372088832) : -536870912 ≤ z.tdiv 65536 ∧ z.tdiv 65536 ≤ 536870912 := by
  rcases Int.le_total 0 z with h | h
  · rw [Int.tdiv_eq_ediv_of_nonneg h]; omega
  · have e : z.tdiv 65536 = -((-z).tdiv 65536) := by rw [Int.neg_tdiv, Int.neg_neg]
    rw [e, Int.tdiv_eq_ediv_of_nonneg (by omega)]; omega
def XB (v : V3) : Prop := (-536870912 ≤ v.x ∧ v.x ≤ 536870912) ∧ (-536870912 ≤ v.y ∧ v.y ≤ 536870912) ∧ (-536870912 ≤ v.z ∧ v.z ≤ 536870912)
theorem xOf_bd {a b : List V3} {s : Nst} (h : WB (wOf a b s)) : XB (xOf a b s) :=
  ⟨tdiv16 h.1.1 h.1.2, tdiv16 h.2.1.1 h.2.1.2, tdiv16 h.2.2.1 h.2.2.2⟩
theorem XB.ok64 {v : V3} (h : XB v) : v.ok64 := by
  unfold XB at h
  unfold V3.ok64 I64
  omega
/-- an apart search: its normal separates -/
theorem decides_apart {a b : List V3} {rho : Int} {steps : Nat} (ha : fewB a = true) (hb : fewB b = true) (h : (searchN a b rho steps).1 = 1) :
    usable (searchN a b rho steps).2.N = true ∧ normF (searchN a b rho steps).2.N * rho < leastV (searchN a b rho steps).2.N (a.map ptI) - greatV (searchN a b rho steps).2.N (b.map ptI) := by
  have la := (few_of ha).1
  have lb := (few_of hb).1
  obtain ⟨s, hz, hs, hA, e⟩ := (search_decides (rho := rho) (steps := steps) la lb).1 h
  rw [e, few_pts ha, few_pts hb, leastV_pt, greatV_pt]
  exact ⟨normalF_usable (xOf_bd (wOf_bd ha hb hs)).ok64 hz, of_decide_eq_true hA⟩
theorem up16_mul (z : Int) : up16 (65536 * z) = max z (-z) := by
  unfold up16 ceilF
  omega
theorem sumV_one (p : V3) : sumV [p] (oneAt 1 0 65536) = ⟨65536 * p.x, 65536 * p.y, 65536 * p.z⟩ := by
  have e : oneAt 1 0 65536 = [65536] := rfl
  rw [e]
  simp [sumV, dotL]
/-- two single points -/
theorem search_points (p q : V3) {rho : Int} (steps : Nat) (_h0 : 0 ≤ rho) :
    (searchN [p] [q] rho steps).2.k = 0 ∧ ((searchN [p] [q] rho steps).1 = 2 ↔ lenSq (subV p q) ≤ rho * rho) := by
  have ew : wOf [p] [q] (startN [p] [q]) = ⟨65536 * (p.x - q.x), 65536 * (p.y - q.y), 65536 * (p.z - q.z)⟩ := by
    unfold wOf startN
    simp only [List.length_singleton]
    rw [sumV_one, sumV_one]
    unfold subV
    apply V3.ext_ <;> simp only <;> omega
  have ex : xOf [p] [q] (startN [p] [q]) = subV p q := by
    unfold xOf
    rw [ew]
    unfold divV subV
    apply V3.ext_ <;> simp only <;> exact Int.mul_tdiv_cancel_left _ (by decide)
  have ec : closeF (wOf [p] [q] (startN [p] [q])) rho = decide (lenSq (subV p q) ≤ rho * rho) := by
    rw [ew]
    unfold closeF lenSq subV
    simp only [up16_mul, abs_sq]
  have i0 : ∀ n, exLo n [p] = 0 := fun _ => rfl
  have i1 : ∀ n, exHi n [q] = 0 := fun _ => rfl
  have et : tOf [p] [q] (startN [p] [q]) = 0 := by
    unfold tOf
    rw [i0, i1, ex]
    have : dotV (subV p q) (subV (subV p q) (subV ([p].getD 0 zeroV) ([q].getD 0 zeroV))) = 0 := by
      simp [dotV, subV]
    unfold partF
    rw [if_pos (by rw [this]; exact Int.le_refl _)]
  unfold searchN
  rcases run_cases [p] [q] rho steps (startN [p] [q]) with c | ⟨c, d⟩ | ⟨c, d, e⟩ | ⟨c, d, e, g⟩ | ⟨c, d, e, g, i⟩
  · rw [runN_close c]
    rw [ec] at c
    exact ⟨rfl, fun _ => of_decide_eq_true c, fun _ => rfl⟩
  all_goals
    have cc := c
    rw [ec] at cc
    have cc := of_decide_eq_false cc
  · rw [runN_zero c d]
    exact ⟨rfl, fun h => by simp at h, fun h => absurd h cc⟩
  · rw [runN_apart c d e]
    exact ⟨rfl, fun h => by simp at h, fun h => absurd h cc⟩
  · rw [runN_stop c d e g]
    exact ⟨rfl, fun h => by simp at h, fun h => absurd h cc⟩
  · exact absurd et i
def Sm (v : V3) : Prop := (-400000 ≤ v.x ∧ v.x ≤ 400000) ∧ (-400000 ≤ v.y ∧ v.y ≤ 400000) ∧ (-400000 ≤ v.z ∧ v.z ≤ 400000)
/-- one to five points of small size -/
def Sml (l : List V3) : Prop := 1 ≤ l.length ∧ l.length ≤ 5 ∧ ∀ v ∈ l, Sm v
theorem few_all {l : List V3} (h1 : 1 ≤ l.length) (h8 : l.length ≤ 8) (h : ∀ v ∈ l, vok v = true) : fewB l = true := (few_yes l h1 h8 fun j hj => h _ (by simp)).symm
theorem Sm.vok {v : V3} (h : Sm v) : vok v = true := (nearB_yes (by unfold Sm at h; omega)).symm
theorem Sml.few {l : List V3} (h : Sml l) : fewB l = true := few_all h.1 (by have := h.2.1; omega) fun v hv => (h.2.2 v hv).vok
theorem sml_corner {width : Int} {pts : List IV} (h1 : 1 ≤ pts.length) (h5 : pts.length ≤ 5) (ok : ∀ p ∈ pts, IVOk width p) : Sml (pts.map cornerV) := by
  refine ⟨by simpa using h1, by simpa using h5, fun v hv => ?_⟩
  obtain ⟨p, hp, rfl⟩ := List.mem_map.1 hv
  obtain ⟨a, b, c⟩ := ok p hp
  unfold PtOk at a b c
  unfold Sm cornerV
  simp only
  omega
theorem Sml.moved {l : List V3} (h : Sml l) {t : V3} (ht : (-4194304 ≤ t.x ∧ t.x ≤ 4194304) ∧ (-4194304 ≤ t.y ∧ t.y ≤ 4194304) ∧ (-4194304 ≤ t.z ∧ t.z ≤ 4194304)) : fewB (l.map (addV · t)) = true := by
  refine few_all (by simpa using h.1) (by have := h.2.1; simp; omega) fun v hv => ?_
  obtain ⟨p, hp, rfl⟩ := List.mem_map.1 hv
  have := h.2.2 p hp
  unfold Sm at this
  refine (nearB_yes ?_).symm
  unfold addV
  simp only
  omega
end Go.Proofs.Ytionbckpgfaneaa
/- Rows of weights in memory, and the weights that gather. -/
namespace Go.Proofs.Ytionbckpgfaneaa
open Go.RowKit
def iArr (L : List Int) : Array Value := (L.map (Value.int .i64)).toArray
theorem iArr_get {L : List Int} {i : Nat} (h : i < L.length) : (iArr L)[i]? = some (.int .i64 L[i]) := by simp [iArr, h]
theorem iArr_set (L : List Int) (i : Nat) (x : Int) : (iArr L).setIfInBounds i (.int .i64 x) = iArr (L.set i x) := by simp [iArr, List.map_set]
theorem iArr_size (L : List Int) : (iArr L).size = L.length := by simp [iArr]
theorem slN_of {w : World} {g : Nat} {L : List Int} {t : TypeId} (h : w.heap[g]? = some (.cells (iArr L) t (0, 0))) : SlN w (some ⟨g, 0, none⟩) L := fun _ => by
  refine ⟨g, 0, rfl, ?_, fun j u hu => ?_⟩
  · obtain ⟨h, _⟩ := Array.getElem?_eq_some_iff.mp h
    exact h
  · rw [Nat.zero_add, blk_cell h]
    simpa [iArr] using hu
theorem iCell {w : World} {g : Nat} {L : List Int} {t : TypeId} (h : w.heap[g]? = some (.cells (iArr L) t (0, 0))) {i : Nat} (hi : i < L.length) : w.cell? ⟨g, i, none⟩ = some (.int .i64 L[i]) := by rw [blk_cell h, iArr_get hi]
theorem iSet {w : World} {g : Nat} {L : List Int} {t : TypeId} (h : w.heap[g]? = some (.cells (iArr L) t (0, 0))) (i : Nat) (x : Int) : (w.setCell ⟨g, i, none⟩ (.int .i64 x)).heap[g]? = some (.cells (iArr (L.set i x)) t (0, 0)) := by
  rw [← iArr_set]; exact blk_set h i _
/-- the weights after k rounds of gather -/
def gk (L : List Int) (t : Int) (k : Nat) : List Int := keptL (L.take k) t ++ L.drop k
theorem gk_len (L : List Int) (t : Int) (k : Nat) : (gk L t k).length = L.length := by simp [gk, keptL]; omega
theorem gk_zero (L : List Int) (t : Int) : gk L t 0 = L := by simp [gk, keptL]
theorem gk_all (L : List Int) (t : Int) : gk L t L.length = keptL L t := by simp [gk]
theorem kept_take (L : List Int) (t : Int) (k : Nat) : (keptL (L.take k) t).length = min k L.length := by simp [keptL]
theorem gk_get (L : List Int) (t : Int) (k : Nat) (h : k < L.length) : (gk L t k)[k]'(by rw [gk_len]; exact h) = L[k] := by
  unfold gk
  rw [List.getElem_append_right (by rw [kept_take]; omega)]
  simp [keptL, Nat.min_eq_left (Nat.le_of_lt h)]
theorem gk_set (L : List Int) (t : Int) (k : Nat) (h : k < L.length) : (gk L t k).set k (L[k] - L[k] * t / 256) = gk L t (k + 1) := by
  have e : L.drop k = L[k] :: L.drop (k + 1) := by rw [List.drop_eq_getElem_cons h]
  unfold gk
  rw [e, List.set_append_right _ _ (by rw [kept_take]; omega), kept_take, Nat.min_eq_left (Nat.le_of_lt h), Nat.sub_self, List.set_cons_zero]
  rw [List.take_succ_eq_append_getElem h]
  simp only [keptL, List.map_append, List.map_cons, List.map_nil, List.append_assoc, List.singleton_append]
theorem lost_succ (L : List Int) (t : Int) (k : Nat) (h : k < L.length) : lostL (L.take (k + 1)) t = lostL (L.take k) t + L[k] * t / 256 := by
  unfold lostL
  rw [List.take_succ_eq_append_getElem h]
  simp only [List.map_append, List.sum_append, List.map_cons, List.map_nil, List.sum_cons, List.sum_nil, Int.add_zero]
theorem lost_bd {L : List Int} {t : Int} (t0 : 0 ≤ t) (t1 : t ≤ 256) (h : ∀ x ∈ L, 0 ≤ x) : 0 ≤ lostL L t ∧ lostL L t ≤ L.sum := by
  unfold lostL
  induction L with
  | nil => simp
  | cons x L ih =>
    have a := part_bd (h x (by simp)) t0 t1
    have b := ih fun y hy => h y (by simp [hy])
    simp only [List.map_cons, List.sum_cons]
    omega
theorem take_sum_le {L : List Int} (h : ∀ x ∈ L, 0 ≤ x) (k : Nat) : (L.take k).sum ≤ L.sum := by
  have e : L.sum = (L.take k).sum + (L.drop k).sum := by rw [← List.sum_append, List.take_append_drop]
  have := sum_nonneg (L.drop k) fun x hx => h x (List.mem_of_mem_drop hx)
  omega
theorem lost_take {L : List Int} {t : Int} (t0 : 0 ≤ t) (t1 : t ≤ 256) (h : ∀ x ∈ L, 0 ≤ x) (k : Nat) : 0 ≤ lostL (L.take k) t ∧ lostL (L.take k) t ≤ L.sum := by
  have := lost_bd t0 t1 (L := L.take k) fun x hx => h x (List.mem_of_mem_take hx)
  have := take_sum_le h k
  omega
theorem kept_get (L : List Int) (t : Int) (i : Nat) (h : i < L.length) : (keptL L t)[i]'(by rw [kept_len]; exact h) = L[i] - L[i] * t / 256 := by simp [keptL]
theorem moved_eq (L : List Int) (t : Int) (i : Nat) (h : i < L.length) : (keptL L t).set i ((keptL L t)[i]'(by rw [kept_len]; exact h) + lostL L t) = movedL L t i := by
  unfold movedL
  congr 1
  simp [List.getD, h, kept_len]
theorem made_iArr (n : Nat) : madeCells #[.int .i64 0] (n * 1) = iArr (List.replicate n 0) := by
  apply Array.ext'
  rw [Nat.mul_one, toList_madeCells_one]
  simp [iArr]
/-- make([]int64, n) -/
theorem make22 (n : Nat) (h : n ≤ 1000) (w : World) : (Instr.makeSlice 22 (.int .i64 n) (.int .i64 n)).run Try.prog w = .ok (.slice (some ⟨w.heap.size, 0, none⟩) n n) (w.alloc (.cells (iArr (List.replicate n 0)) 2)) := by
  obtain ⟨i0, hi0, hz0, hz1, hz2⟩ := info_parts info2
  have e := run_make (P := Try.prog) w 22 2 i0 _ Try.underlying22 hi0 hz0 .i64 .i64 n n (by omega) (by omega) (by rw [hz2]; omega) (by omega)
  rw [e, hz1]
  simp only [Int.toNat_natCast]
  rw [show (Value.int .i64 0).cells = #[.int .i64 0] from rfl, made_iArr]
end Go.Proofs.Ytionbckpgfaneaa
/- Walks, part r: the references' Sum. -/
namespace Go.Proofs.Ytionbckpgfaneaa
open Go.RowKit
set_option maxHeartbeats 1000000
set_option maxRecDepth 100000
def v3c (v : V3) : Array Value := #[.int .i64 v.x, .int .i64 v.y, .int .i64 v.z]
def mixV (m : Int) (v u : V3) : V3 := ⟨if 0 < m then u.x else v.x, if 1 < m then u.y else v.y, if 2 < m then u.z else v.z⟩
theorem dotL_snocG {α : Type} (ws : List Int) (l : List α) (f : α → Int) (k : Nat) (h1 : k < ws.length) (h2 : k < l.length) :
    dotL (ws.take (k + 1)) ((l.take (k + 1)).map f) = dotL (ws.take k) ((l.take k).map f) + ws[k] * f l[k] := by
  unfold dotL
  rw [List.take_succ_eq_append_getElem h1, List.take_succ_eq_append_getElem h2, List.map_append, List.zipWith_append (by simp; omega), List.sum_append]
  simp
theorem dotL_bdG {α : Type} (ws : List Int) (l : List α) (f : α → Int) (k : Nat) (h1 : k ≤ ws.length) (h2 : k ≤ l.length) (hw : ∀ x ∈ ws, 0 ≤ x ∧ x ≤ 65536) (hf : ∀ p ∈ l, -536870912 ≤ f p ∧ f p ≤ 536870912) :
    -(k * 35184372088832) ≤ dotL (ws.take k) ((l.take k).map f) ∧ dotL (ws.take k) ((l.take k).map f) ≤ k * 35184372088832 := by
  induction k with
  | zero => simp [dotL]
  | succ k ih =>
    have := ih (by omega) (by omega)
    rw [dotL_snocG ws l f k (by omega) (by omega)]
    have w1 := hw (ws[k]'(by omega)) (by simp)
    have f1 := hf (l[k]'(by omega)) (by simp)
    have := mul_bd (ws[k]'(by omega)) (f (l[k]'(by omega))) 65536 536870912 w1.1 w1.2 f1.1 f1.2
    omega
theorem sumV_snoc (ws : List Int) (l : List V3) (k : Nat) (h1 : k < ws.length) (h2 : k < l.length) : sumV (l.take (k + 1)) (ws.take (k + 1)) =
    ⟨(sumV (l.take k) (ws.take k)).x + ws[k] * l[k].x, (sumV (l.take k) (ws.take k)).y + ws[k] * l[k].y, (sumV (l.take k) (ws.take k)).z + ws[k] * l[k].z⟩ := by
  unfold sumV
  rw [dotL_snocG ws l _ k h1 h2, dotL_snocG ws l _ k h1 h2, dotL_snocG ws l _ k h1 h2]
/-- coordinates of moderate size -/
def Mod (v : V3) : Prop := (-536870912 ≤ v.x ∧ v.x ≤ 536870912) ∧ (-536870912 ≤ v.y ∧ v.y ≤ 536870912) ∧ (-536870912 ≤ v.z ∧ v.z ≤ 536870912)
def SInv (w : World) (N S : Nat) (l : List V3) (ws : List Int) (i : Value) (wr : World) : Prop :=
  ∃ k : Nat, k ≤ l.length ∧ i = .int .i64 k ∧ wr.heap[S]? = some (.cells (v3c (sumV (l.take k) (ws.take k))) 47 (0, 0)) ∧ wr.heap[N]? = some (.cells (v3c ⟨0, 0, 0⟩) 47 (0, 0)) ∧ Below N w wr ∧ S < wr.heap.size
def SIn (w : World) (N S : Nat) (v u : V3) (i : Value) (ww : World) : Prop :=
  ∃ m : Int, i = .int .i64 m ∧ 0 ≤ m ∧ m ≤ 3 ∧ ww.heap[S]? = some (.cells (v3c (mixV m v u)) 47 (0, 0)) ∧ ww.heap[N]? = some (.cells (v3c ⟨0, 0, 0⟩) 47 (0, 0)) ∧ Below N w ww ∧ S < ww.heap.size
theorem SIn.next {w wr wf : World} {N S : Nat} {v u : V3} {m : Int} (hNS : N < S) (hS : wr.heap[S]? = some (.cells (v3c (mixV m v u)) 47 (0, 0))) (hN : wr.heap[N]? = some (.cells (v3c ⟨0, 0, 0⟩) 47 (0, 0))) (hb : Below N w wr) (hz : S < wr.heap.size)
    (i : Nat) (a : Value) (hm0 : 0 ≤ m + 1) (hm3 : m + 1 ≤ 3) (he : (v3c (mixV m v u)).setIfInBounds i a = v3c (mixV (m + 1) v u)) (hf : Like wf (wr.setCell ⟨S, i, none⟩ a)) :
    SIn w N S v u (.int .i64 (m + 1)) wf := by
  refine ⟨m + 1, rfl, hm0, hm3, ?_, ?_, hf.below (hb.setCell (by simp; omega) a), ?_⟩
  · rw [hf.1, ← he]
    exact blk_set hS i a
  · rw [hf.1, Below.heap_setCell _ _ _ _ (by simp; omega)]
    exact hN
  · rw [hf.1]; simpa [World.setCell] using hz
/-- armplanref14.Sum -/
theorem sum_ref (A B : Option Addr) (l : List V3) (ws : List Int) (c d : Nat) (w : World) (hs : SlV w A l) (ht : SlN w B ws) (hm : l.length ≤ 1000) (hl : ws.length = l.length) (hw : ∀ x ∈ ws, 0 ≤ x ∧ x ≤ 65536) (hv : ∀ p ∈ l, Mod p) :
    Calls Try.prog 51 #[.slice A l.length c, .slice B ws.length d] w fun e w' => e = .returned (sumV l ws).v ∧ Below w.heap.size w w' := by
  have HS := hide hs; have HT := hide ht; have HL := hide hl; have HW := hide hw; have HM := hide hv; clear hs ht hl hw hv
  go_enter Try.func51, Try.ntmps51
  go_wp2_with fail
  go_loopw [6] (fun i wr => SInv w w.heap.size (w.heap.size + 1) l ws i wr) (fun i _ => l.length - (intOf i).toNat)
  case atStart =>
    exact ⟨0, by omega, rfl, new_at _ _ (by simp), (Below.heap_alloc _ _ _ (by simp)).trans (heap_alloc_new w _), by go_grown, by simp⟩
  case round =>
    obtain ⟨wo, rfl⟩ : ∃ wo : World, wo = wr := ⟨_, rfl⟩
    obtain ⟨k, hk, rfl, hS, hN, hb, hz⟩ := hrel
    have HBo := hide hb; have HSo := hide hS; have HNo := hide hN; have hzo := hb.size
    clear hb hS hN
    by_cases hlt : k < l.length
    · have hltw : k < ws.length := by have := HL.out; omega
      have hltw' : (k : Int) < (ws.length : Int) := by omega
      have hk0 : (0 : Int) ≤ (k : Int) := Int.natCast_nonneg _
      have hk1 : (k : Int) < (l.length : Int) := by omega
      obtain ⟨b1, o1, rfl, hb1⟩ := HS.out.addr (by omega)
      obtain ⟨b2, o2, rfl, hb2⟩ := HT.out.addr (by omega)
      obtain ⟨hw1, hw2⟩ := HW.out ws[k] (by simp)
      obtain ⟨⟨v1, v2⟩, ⟨v3, v4⟩, v5, v6⟩ := HM.out l[k] (by simp)
      obtain ⟨q1, q2⟩ := dotL_bdG ws l (·.x) k (by omega) hk HW.out (fun p hp => (HM.out p hp).1)
      obtain ⟨q3, q4⟩ := dotL_bdG ws l (·.y) k (by omega) hk HW.out (fun p hp => (HM.out p hp).2.1)
      obtain ⟨q5, q6⟩ := dotL_bdG ws l (·.z) k (by omega) hk HW.out (fun p hp => (HM.out p hp).2.2)
      obtain ⟨m1, m2⟩ := mul_bd ws[k] l[k].x 65536 536870912 hw1 hw2 v1 v2
      obtain ⟨m3, m4⟩ := mul_bd ws[k] l[k].y 65536 536870912 hw1 hw2 v3 v4
      obtain ⟨m5, m6⟩ := mul_bd ws[k] l[k].z 65536 536870912 hw1 hw2 v5 v6
      have CS := hide (sumV_snoc ws l k hltw hlt)
      obtain ⟨v, hv⟩ : ∃ v, v = sumV (l.take k) (ws.take k) := ⟨_, rfl⟩
      have e1 : dotL (ws.take k) ((l.take k).map (·.x)) = v.x := by rw [hv]; rfl
      have e2 : dotL (ws.take k) ((l.take k).map (·.y)) = v.y := by rw [hv]; rfl
      have e3 : dotL (ws.take k) ((l.take k).map (·.z)) = v.z := by rw [hv]; rfl
      rw [e1] at q1 q2
      rw [e2] at q3 q4
      rw [e3] at q5 q6
      have HV := hide hv; clear hv e1 e2 e3
      obtain ⟨u, hu⟩ : ∃ u : V3, u = ⟨v.x + ws[k] * l[k].x, v.y + ws[k] * l[k].y, v.z + ws[k] * l[k].z⟩ := ⟨_, rfl⟩
      have HU := hide hu; clear hu
      have hSv : wo.heap[w.heap.size + 1]? = some (.cells (v3c (mixV 0 v u)) 47 (0, 0)) := by rw [HV.out]; exact HSo.out
      have HSv := hide hSv; clear hSv
      go_wp2_with fail
      go_loopw [7] (fun i ww => SIn w w.heap.size (w.heap.size + 1) v u i ww) (fun i _ => 3 - (intOf i).toNat)
      case atStart => exact ⟨0, rfl, by omega, by omega, HSv.out, HNo.out, HBo.out, hz⟩
      case round =>
        obtain ⟨m, rfl, hm0, hm3, iS, iN, iB, iz⟩ := hrel
        obtain ⟨h0, h1, h2⟩ := (HS.out.below iB).at_ hlt
        have hw := (HT.out.below iB).at_ hltw
        have IS := hide iS; have IN := hide iN; have IB := hide iB
        have hcS := blk_cell iS
        have hfS := blk_frozen iS
        clear iS iN iB
        obtain rfl | rfl | rfl | rfl : m = 0 ∨ m = 1 ∨ m = 2 ∨ m = 3 := by omega
        · simp [v3c, mixV] at hcS
          go_wp2_with fail
          go_region
          go_wp2_with fail
          go_roundw
          case rel => exact SIn.next (Nat.lt_succ_self _) IS.out IN.out IB.out iz 0 _ (by omega) (by omega) (by rw [HU.out]; rfl) ⟨rfl, rfl, rfl, rfl⟩
          case measure => simp [intOf]
        · simp [v3c, mixV] at hcS
          go_wp2_with fail
          go_region
          go_wp2_with fail
          go_roundw
          case rel => exact SIn.next (Nat.lt_succ_self _) IS.out IN.out IB.out iz 1 _ (by omega) (by omega) (by rw [HU.out]; rfl) ⟨rfl, rfl, rfl, rfl⟩
          case measure => simp [intOf]
        · simp [v3c, mixV] at hcS
          go_wp2_with fail
          go_region
          go_wp2_with fail
          go_roundw
          case rel => exact SIn.next (Nat.lt_succ_self _) IS.out IN.out IB.out iz 2 _ (by omega) (by omega) (by rw [HU.out]; rfl) ⟨rfl, rfl, rfl, rfl⟩
          case measure => simp [intOf]
        · have e : mixV 3 v u = u := rfl
          rw [e] at IS
          clear hcS hfS e
          go_wp2_with fail
          go_roundw
          case rel => exact ⟨k + 1, by omega, by simp, by rw [CS.out, ← HV.out, ← HU.out]; exact IS.out, IN.out, IB.out, iz⟩
          case measure => simp [intOf] <;> omega
    · obtain rfl : k = l.length := by omega
      have eT : ws.take l.length = ws := List.take_of_length_le (by have := HL.out; omega)
      have eL : l.take l.length = l := List.take_of_length_le (by omega)
      rw [eT, eL] at HSo
      clear eT eL
      have hcS := blk_cell HSo.out
      have hcN := blk_cell HNo.out
      have hfN := blk_frozen HNo.out
      simp only [v3c] at hcS hcN
      go_wp2_with fail
      refine bodyPost_ret (v := (sumV l ws).v) (by simp [results, Try.results51, go_sem, hcN, V3.v]) rfl ⟨rfl, ?_⟩
      exact ((HBo.out.setCell (Nat.le_refl _) _).setCell (Nat.le_refl _) _).setCell (Nat.le_refl _) _
end Go.Proofs.Ytionbckpgfaneaa
/- Walks of the search, part c: newList, sum, gather. -/
namespace Go.Proofs.Ytionbckpgfaneaa
open Go.RowKit
set_option maxHeartbeats 1000000
set_option maxRecDepth 100000
attribute [local go_sem] index47_0 index47_1 index47_2
def NewListPost (A : Option Addr) (l : List V3) (c : Nat) (w : World) (e : Ending) (w' : World) : Prop :=
  e = .returned (.agg #[.slice A l.length c, .slice (some ⟨w.heap.size + 1, 0, none⟩) l.length l.length]) ∧ w'.heap[w.heap.size + 1]? = some (.cells (iArr (oneAt l.length 0 65536)) 2 (0, 0)) ∧ w.heap.size + 1 < w'.heap.size ∧ Below w.heap.size w w'
/-- nearest.newList -/
theorem newList_any (A : Option Addr) (l : List V3) (c : Nat) (w : World) (h1 : 1 ≤ l.length) (h8 : l.length ≤ 8) :
    Calls Try.prog 128 #[.slice A l.length c] w (NewListPost A l c w) := by
  have hmk := make22 l.length (by omega)
  have hr : (iArr (List.replicate l.length 0))[0]? = some (.int .i64 0) := by rw [iArr_get (by simp; omega)]; simp
  have hsz : 0 < (iArr (List.replicate l.length 0)).size := by rw [iArr_size]; simp; omega
  go_enter Try.func128, Try.ntmps128
  go_wp2_with fail
  refine bodyPost_ret (v := .agg #[.slice A l.length c, .slice (some ⟨w.heap.size + 1, 0, none⟩) l.length l.length]) (by simp [results, Try.results128, go_sem]) rfl ⟨rfl, ?_, by simp, by go_grown⟩
  rw [show oneAt l.length 0 65536 = (List.replicate l.length 0).set 0 65536 from rfl, ← iArr_set]
  exact new_at _ _ (by simp)
def C2 (A B : Option Addr) (n c d : Nat) : Array Value := #[.slice A n c, .slice B n d]
def S3Inv (w : World) (N : Nat) (A B : Option Addr) (c d : Nat) (l : List V3) (ws : List Int) (i : Value) (wr : World) : Prop :=
  ∃ k : Nat, k ≤ l.length ∧ i = .int .i64 k ∧ wr.heap[N + 1 + 1]? = some (.cells (v3c (sumV (l.take k) (ws.take k))) 47 (0, 0)) ∧ wr.heap[N + 1]? = some (.cells (v3c ⟨0, 0, 0⟩) 47 (0, 0)) ∧ wr.heap[N]? = some (.cells (C2 A B l.length c d) 145 (0, 0)) ∧ Below N w wr ∧ N + 1 + 1 < wr.heap.size
def S3In (w : World) (N : Nat) (A B : Option Addr) (n c d : Nat) (v u : V3) (i : Value) (ww : World) : Prop :=
  ∃ m : Int, i = .int .i64 m ∧ 0 ≤ m ∧ m ≤ 3 ∧ ww.heap[N + 1 + 1]? = some (.cells (v3c (mixV m v u)) 47 (0, 0)) ∧ ww.heap[N + 1]? = some (.cells (v3c ⟨0, 0, 0⟩) 47 (0, 0)) ∧ ww.heap[N]? = some (.cells (C2 A B n c d) 145 (0, 0)) ∧ Below N w ww ∧ N + 1 + 1 < ww.heap.size
theorem S3In.next {w wr wf : World} {N : Nat} {A B : Option Addr} {n c d : Nat} {v u : V3} {m : Int} (hS : wr.heap[N + 1 + 1]? = some (.cells (v3c (mixV m v u)) 47 (0, 0))) (hN : wr.heap[N + 1]? = some (.cells (v3c ⟨0, 0, 0⟩) 47 (0, 0))) (hP : wr.heap[N]? = some (.cells (C2 A B n c d) 145 (0, 0))) (hb : Below N w wr) (hz : N + 1 + 1 < wr.heap.size)
    (i : Nat) (a : Value) (hm0 : 0 ≤ m + 1) (hm3 : m + 1 ≤ 3) (he : (v3c (mixV m v u)).setIfInBounds i a = v3c (mixV (m + 1) v u)) (hf : Like wf (wr.setCell ⟨N + 1 + 1, i, none⟩ a)) :
    S3In w N A B n c d v u (.int .i64 (m + 1)) wf := by
  refine ⟨m + 1, rfl, hm0, hm3, ?_, ?_, ?_, hf.below (hb.setCell (by simp; omega) a), ?_⟩
  · rw [hf.1, ← he]
    exact blk_set hS i a
  · rw [hf.1, Below.heap_setCell _ _ _ _ (by simp)]
    exact hN
  · rw [hf.1, Below.heap_setCell _ _ _ _ (by simp; omega)]
    exact hP
  · rw [hf.1]; simpa [World.setCell] using hz
/-- nearest.list.sum -/
theorem sumN_any (A B : Option Addr) (l : List V3) (ws : List Int) (c d : Nat) (w : World) (hs : SlV w A l) (ht : SlN w B ws) (hm : l.length ≤ 1000) (hl : ws.length = l.length) (hw : ∀ x ∈ ws, 0 ≤ x ∧ x ≤ 65536) (hv : ∀ p ∈ l, Mod p) :
    Calls Try.prog 163 #[.agg #[.slice A l.length c, .slice B l.length d]] w fun e w' => e = .returned (.agg #[.int .i64 (sumV l ws).x, .int .i64 (sumV l ws).y, .int .i64 (sumV l ws).z]) ∧ Below w.heap.size w w' := by
  have HS := hide hs; have HT := hide ht; have HL := hide hl; have HW := hide hw; have HM := hide hv; clear hs ht hl hw hv
  go_enter Try.func163, Try.ntmps163
  go_wp2_with fail
  go_loopw [11] (fun i wr => S3Inv w w.heap.size A B c d l ws i wr) (fun i _ => l.length - (intOf i).toNat)
  case atStart =>
    exact ⟨0, by omega, rfl, new_at _ _ (by simp), (Below.heap_alloc _ _ _ (by simp)).trans (new_at _ _ (by simp)), (Below.heap_alloc _ _ _ (by simp <;> omega)).trans ((Below.heap_alloc _ _ _ (by simp)).trans (heap_alloc_new w _)), by go_grown, by simp⟩
  case round =>
    obtain ⟨wo, rfl⟩ : ∃ wo : World, wo = wr := ⟨_, rfl⟩
    obtain ⟨k, hk, rfl, hS, hN, hP, hb, hz⟩ := hrel
    have HBo := hide hb; have HSo := hide hS; have HNo := hide hN; have HPo := hide hP; have hzo := hb.size
    clear hb hS hN hP
    by_cases hlt : k < l.length
    · have hltw : k < ws.length := by have := HL.out; omega
      have hk0 : (0 : Int) ≤ (k : Int) := Int.natCast_nonneg _
      have hk1 : (k : Int) < (l.length : Int) := by omega
      obtain ⟨b1, o1, rfl, hb1⟩ := HS.out.addr (by omega)
      obtain ⟨b2, o2, rfl, hb2⟩ := HT.out.addr (by omega)
      obtain ⟨hw1, hw2⟩ := HW.out ws[k] (by simp)
      obtain ⟨⟨v1, v2⟩, ⟨v3, v4⟩, v5, v6⟩ := HM.out l[k] (by simp)
      obtain ⟨q1, q2⟩ := dotL_bdG ws l (·.x) k (by omega) hk HW.out (fun p hp => (HM.out p hp).1)
      obtain ⟨q3, q4⟩ := dotL_bdG ws l (·.y) k (by omega) hk HW.out (fun p hp => (HM.out p hp).2.1)
      obtain ⟨q5, q6⟩ := dotL_bdG ws l (·.z) k (by omega) hk HW.out (fun p hp => (HM.out p hp).2.2)
      obtain ⟨m1, m2⟩ := mul_bd ws[k] l[k].x 65536 536870912 hw1 hw2 v1 v2
      obtain ⟨m3, m4⟩ := mul_bd ws[k] l[k].y 65536 536870912 hw1 hw2 v3 v4
      obtain ⟨m5, m6⟩ := mul_bd ws[k] l[k].z 65536 536870912 hw1 hw2 v5 v6
      have CS := hide (sumV_snoc ws l k hltw hlt)
      obtain ⟨v, hv⟩ : ∃ v, v = sumV (l.take k) (ws.take k) := ⟨_, rfl⟩
      have e1 : dotL (ws.take k) ((l.take k).map (·.x)) = v.x := by rw [hv]; rfl
      have e2 : dotL (ws.take k) ((l.take k).map (·.y)) = v.y := by rw [hv]; rfl
      have e3 : dotL (ws.take k) ((l.take k).map (·.z)) = v.z := by rw [hv]; rfl
      rw [e1] at q1 q2
      rw [e2] at q3 q4
      rw [e3] at q5 q6
      have HV := hide hv; clear hv e1 e2 e3
      obtain ⟨u, hu⟩ : ∃ u : V3, u = ⟨v.x + ws[k] * l[k].x, v.y + ws[k] * l[k].y, v.z + ws[k] * l[k].z⟩ := ⟨_, rfl⟩
      have HU := hide hu; clear hu
      have HSv := hide (show wo.heap[w.heap.size + 1 + 1]? = some (.cells (v3c (mixV 0 v u)) 47 (0, 0)) by rw [HV.out]; exact HSo.out)
      obtain ⟨h0, h1, h2⟩ := (HS.out.below HBo.out).at_ hlt
      go_wp2_with fail
      go_loopw [17] (fun i ww => S3In w w.heap.size (some ⟨b1, o1, none⟩) (some ⟨b2, o2, none⟩) l.length c d v u i ww) (fun i _ => 3 - (intOf i).toNat)
      case atStart => exact ⟨0, rfl, by omega, by omega, (Below.heap_alloc _ _ _ hz).trans HSv.out, (Below.heap_alloc _ _ _ (by omega)).trans HNo.out, (Below.heap_alloc _ _ _ (by omega)).trans HPo.out, HBo.out.alloc (by omega) _, by simp; omega⟩
      case round =>
        clear h0 h1 h2
        obtain ⟨m, rfl, hm0, hm3, iS, iN, iP, iB, iz⟩ := hrel
        have hw := (HT.out.below iB).at_ hltw
        have IS := hide iS; have IN := hide iN; have IB := hide iB; have IP := hide iP
        have hcS := blk_cell iS
        have hfS := blk_frozen iS
        have hcP := blk_cell iP; simp only [C2] at hcP
        have iz0 : w.heap.size < wr.heap.size := by omega
        clear iS iN iB iP
        obtain rfl | rfl | rfl | rfl : m = 0 ∨ m = 1 ∨ m = 2 ∨ m = 3 := by omega
        · simp [v3c, mixV] at hcS
          go_wp2_with fail
          go_region
          go_wp2_with fail
          go_roundw
          case rel => exact S3In.next IS.out IN.out IP.out IB.out iz 0 _ (by omega) (by omega) (by rw [HU.out]; rfl) ⟨rfl, rfl, rfl, rfl⟩
          case measure => simp [intOf]
        · simp [v3c, mixV] at hcS
          go_wp2_with fail
          go_region
          go_wp2_with fail
          go_roundw
          case rel => exact S3In.next IS.out IN.out IP.out IB.out iz 1 _ (by omega) (by omega) (by rw [HU.out]; rfl) ⟨rfl, rfl, rfl, rfl⟩
          case measure => simp [intOf]
        · simp [v3c, mixV] at hcS
          go_wp2_with fail
          go_region
          go_wp2_with fail
          go_roundw
          case rel => exact S3In.next IS.out IN.out IP.out IB.out iz 2 _ (by omega) (by omega) (by rw [HU.out]; rfl) ⟨rfl, rfl, rfl, rfl⟩
          case measure => simp [intOf]
        · have e : mixV 3 v u = u := rfl
          rw [e] at IS
          clear hcS hfS e hcP
          go_wp2_with fail
          go_roundw
          case rel => exact ⟨k + 1, by omega, by simp, by rw [CS.out, ← HV.out, ← HU.out]; exact IS.out, IN.out, IP.out, IB.out, iz⟩
          case measure => simp [intOf] <;> omega
    · obtain rfl : k = l.length := by omega
      have eT : ws.take l.length = ws := List.take_of_length_le (by have := HL.out; omega)
      have eL : l.take l.length = l := List.take_of_length_le (by omega)
      rw [eT, eL] at HSo
      clear eT eL
      have hcS := blk_cell HSo.out
      have hcN := blk_cell HNo.out
      have hfN := blk_frozen HNo.out
      have hz1 : w.heap.size + 1 < wo.heap.size := by omega
      simp only [v3c] at hcS hcN
      go_wp2_with fail
      refine bodyPost_ret (v := .agg #[.int .i64 (sumV l ws).x, .int .i64 (sumV l ws).y, .int .i64 (sumV l ws).z]) (by simp [results, Try.results163, go_sem, hcN]) rfl ⟨rfl, ?_⟩
      exact ((HBo.out.setCell (by simp) _).setCell (by simp) _).setCell (by simp) _
def GInv (w : World) (A : Option Addr) (g n c d : Nat) (L : List Int) (t : Int) (u i : Value) (wr : World) : Prop :=
  ∃ k : Nat, k ≤ n ∧ i = .int .i64 k ∧ u = .int .i64 (lostL (L.take k) t) ∧ wr.heap[g]? = some (.cells (iArr (gk L t k)) 2 (0, 0)) ∧ wr.heap[w.heap.size]? = some (.cells (C2 A (some ⟨g, 0, none⟩) n c d) 145 (0, 0)) ∧ w.grownBy wr (some g) ∧ w.heap.size < wr.heap.size
theorem tdiv256 {x : Int} (h : 0 ≤ x) : x.tdiv 256 = x / 256 := Int.tdiv_eq_ediv_of_nonneg h
/-- nearest.list.gather -/
theorem gather_any (A : Option Addr) (g n c d : Nat) (L : List Int) (i : Nat) (t : Int) (w : World) (hg : w.heap[g]? = some (.cells (iArr L) 2 (0, 0))) (hL : WI L n) (hn : n ≤ 8) (hi : i < n) (t0 : 0 ≤ t) (t1 : t ≤ 256) :
    Calls Try.prog 168 #[.agg #[.slice A n c, .slice (some ⟨g, 0, none⟩) n d], .int .i64 i, .int .i64 t] w
      fun e w' => e = .returned (.tuple #[]) ∧ w'.heap[g]? = some (.cells (iArr (movedL L t i)) 2 (0, 0)) ∧ w.grownBy w' (some g) := by
  have hlt : g < w.heap.size := by
    obtain ⟨h, _⟩ := Array.getElem?_eq_some_iff.mp hg
    exact h
  obtain ⟨hl, hnn, hsum⟩ := hL
  have HG := hide hg; have HNN := hide hnn; have HSUM := hide hsum; have HL := hide hl; clear hg hnn hsum hl
  go_enter Try.func168, Try.ntmps168
  go_wp2_with fail
  go_loopw [6, 13] (fun u i wr => GInv w A g n c d L t u i wr) (fun _ i _ => n - (intOf i).toNat)
  case atStart =>
    exact ⟨0, by omega, rfl, by simp [lostL], (Below.heap_alloc _ _ _ hlt).trans (by rw [gk_zero]; exact HG.out), heap_alloc_new w _, ⟨rfl, rfl, rfl, by simp, fun k hk _ => Below.heap_alloc _ _ _ hk⟩, by simp⟩
  case round =>
    obtain ⟨k, hk, rfl, rfl, hK, hP, hgr, hz⟩ := hrel
    have hzo := hgr.size
    have hltr : g < wr.heap.size := by omega
    have HK := hide hK; have HP := hide hP; have HGR := hide hgr
    have hcP := blk_cell hP; simp only [C2] at hcP
    obtain ⟨s1, s2⟩ := lost_take t0 t1 HNN.out k
    rw [HSUM.out] at s2
    by_cases hlt2 : k < n
    · have hkL : k < L.length := by have := HL.out; omega
      have hk0 : (0 : Int) ≤ (k : Int) := Int.natCast_nonneg _
      have hk1 : (k : Int) < (n : Int) := by omega
      have hx0 := HNN.out L[k] (by simp)
      have hx1 := mem_le_sum L HNN.out L[k] (by simp)
      rw [HSUM.out] at hx1
      obtain ⟨m1, m2⟩ := mul_bd L[k] t 65536 256 hx0 hx1 (by omega) t1
      have m0 := Int.mul_nonneg hx0 t0
      obtain ⟨p1, p2⟩ := part_bd hx0 t0 t1
      have ET := hide (tdiv256 m0)
      rw [← ET.out] at p1 p2
      have hcK : wr.cell? ⟨g, k, none⟩ = some (.int .i64 L[k]) := by rw [iCell hK (by rw [gk_len]; exact hkL), gk_get L t k hkL]
      have hfK := blk_frozen hK
      clear hK hP hgr
      go_wp2_with fail
      go_roundw
      case rel =>
        refine ⟨k + 1, by omega, by simp, ?_, ?_, ?_, ?_, ?_⟩
        · rw [lost_succ L t k hkL, ← ET.out]
        · rw [← gk_set L t k hkL, ← ET.out]
          exact iSet HK.out k _
        · rw [Below.heap_setCell _ _ _ _ (by simp; omega)]; exact HP.out
        · exact HGR.out.trans (grown_set _ _ _ _)
        · simpa [World.setCell] using hz
      case measure => simp [intOf] <;> omega
    · obtain rfl : k = n := by omega
      have hiL : i < L.length := by have := HL.out; omega
      have eT : L.take k = L := List.take_of_length_le (by have := HL.out; omega)
      have eG : gk L t k = keptL L t := by rw [← HL.out]; exact gk_all L t
      rw [eT] at s1 s2
      have hi0 : (0 : Int) ≤ (i : Int) := Int.natCast_nonneg _
      have hi1 : (i : Int) < (k : Int) := by omega
      have hx0 := HNN.out L[i] (by simp)
      have hx1 := mem_le_sum L HNN.out L[i] (by simp)
      rw [HSUM.out] at hx1
      obtain ⟨p1, p2⟩ := part_bd hx0 t0 t1
      have eK := kept_get L t i hiL
      obtain ⟨y, hy⟩ : ∃ y, y = (keptL L t)[i]'(by rw [kept_len]; exact hiL) := ⟨_, rfl⟩
      rw [← hy] at eK
      have y0 : 0 ≤ y := by omega
      have y1 : y ≤ 65536 := by omega
      have HY := hide (show (keptL L t).set i (y + lostL L t) = movedL L t i by rw [hy]; exact moved_eq L t i hiL)
      rw [eG] at hK HK
      have hcK : wr.cell? ⟨g, i, none⟩ = some (.int .i64 y) := by rw [iCell hK (by rw [kept_len]; exact hiL), hy]
      have hfK := blk_frozen hK
      rw [eT]
      clear hK hP hgr eT eG eK hy p1 p2
      go_wp2_with fail
      refine bodyPost_end (v := .tuple #[]) (results_none Try.results168 _ _ _) rfl ?_
      refine ⟨rfl, ?_, HGR.out.trans (grown_set _ _ _ _)⟩
      rw [← HY.out]
      exact iSet HK.out i _
end Go.Proofs.Ytionbckpgfaneaa
/- Walks of the search, part d: least, greatest, part. -/
namespace Go.Proofs.Ytionbckpgfaneaa
open Go.RowKit
set_option maxHeartbeats 1000000
set_option maxRecDepth 100000
attribute [local go_sem] index47_0 index47_1 index47_2
theorem amin_to {f : Nat → Int} {k : Nat} (h : f k < f (amin f k)) : amin f (k + 1) = k := by
  rcases Nat.eq_zero_or_pos k with h0 | h0
  · subst h0; exact absurd h (by simp [amin])
  · rw [amin_succ f k h0, if_pos h]
theorem amin_on {f : Nat → Int} {k : Nat} (h : ¬ f k < f (amin f k)) : amin f (k + 1) = amin f k := by
  rcases Nat.eq_zero_or_pos k with h0 | h0
  · subst h0; rfl
  · rw [amin_succ f k h0, if_neg h]
theorem dgo_at (n : V3) (l : List V3) (k : Nat) (h : k < l.length) : dgo n l k = dotV n l[k] := by simp [dgo, List.getD, List.getElem?_eq_getElem h]
theorem keepf {w w' : World} {N b : Nat} {f : Nat → Option Value} (h : Below N w w') (hz : b < N) (k : ∀ i, w.cell? ⟨b, i, none⟩ = f i) : ∀ i, w'.cell? ⟨b, i, none⟩ = f i := fun i => (h.cell (p := ⟨b, i, none⟩) hz).trans (k i)
def PB (n v : V3) : Prop := (-4398046511104 ≤ n.x * v.x ∧ n.x * v.x ≤ 4398046511104) ∧ (-4398046511104 ≤ n.y * v.y ∧ n.y * v.y ≤ 4398046511104) ∧ (-4398046511104 ≤ n.z * v.z ∧ n.z * v.z ≤ 4398046511104)
theorem PB_of {n v : V3} (hn : inR n = true) (hv : vok v = true) : PB n v := by
  obtain ⟨⟨a, b⟩, ⟨c, d⟩, e, f⟩ := inR_of hn
  obtain ⟨⟨a', b'⟩, ⟨c', d'⟩, e', f'⟩ := vok_of hv
  exact ⟨mul_bd2 _ _ 16384 268435456 a b a' b', mul_bd2 _ _ 16384 268435456 c d c' d', mul_bd2 _ _ 16384 268435456 e f e' f'⟩
theorem PB.dot {n v : V3} (h : PB n v) : -13194139533312 ≤ dotV n v ∧ dotV n v ≤ 13194139533312 := by
  unfold PB at h
  unfold dotV
  omega
def LInv (w : World) (N T : Nat) (A B : Option Addr) (n : V3) (c d : Nat) (l : List V3) (f : Nat → Int) (t u i : Value) (wr : World) : Prop :=
  ∃ k : Nat, k ≤ l.length ∧ i = .int .i64 k ∧ t = .int .i64 (dgo n l (amin f k)) ∧ u = .int .i64 (amin f k : Nat) ∧ wr.heap[N]? = some (.cells (C2 A B l.length c d) T (0, 0)) ∧ wr.heap[N + 1]? = some (.cells (vcs n) 47 (0, 0)) ∧ Below N w wr ∧ N + 1 < wr.heap.size
/-- nearest.least -/
theorem leastN_any (n : V3) (A B : Option Addr) (l : List V3) (c d : Nat) (w : World) (hs : SlV w A l) (hn : inR n = true) (h1 : 1 ≤ l.length) (h8 : l.length ≤ 8) (hv : ∀ j (hj : j < l.length), vok l[j] = true) :
    Calls Try.prog 165 #[.agg #[.slice A l.length c, .slice B l.length d], .agg #[.int .i64 n.x, .int .i64 n.y, .int .i64 n.z]] w
      fun e w' => e = .returned (.tuple #[.int .i64 (dgo n l (exLo n l)), .int .i64 (exLo n l : Nat)]) ∧ Below w.heap.size w w' := by
  have HS := hide hs; have HP := hide (fun j (hj : j < l.length) => PB_of hn (hv j hj)); clear hs hn hv
  have l0 : 0 < l.length := by omega
  obtain ⟨b, off, rfl, hbb⟩ := HS.out.addr l0
  obtain ⟨f, hf⟩ : ∃ f : Nat → Int, f = dgo n l := ⟨_, rfl⟩
  have HE := hide (show exLo n l = amin f l.length by rw [hf]; rfl)
  have HF := hide (show ∀ i, f i = dgo n l i by intro i; rw [hf])
  clear hf
  go_enter Try.func165, Try.ntmps165
  go_wp2_with fail
  obtain ⟨w1, hw1⟩ : ∃ W, W = (w.alloc (.cells #[.slice (some ⟨b, off, none⟩) l.length c, .slice B l.length d] 148)).alloc (.cells #[.int .i64 n.x, .int .i64 n.y, .int .i64 n.z] 47) := ⟨_, rfl⟩
  rw [← hw1]
  have jP := hide (show w1.heap[w.heap.size]? = some (.cells (C2 (some ⟨b, off, none⟩) B l.length c d) 148 (0, 0)) by rw [hw1]; exact (Below.heap_alloc _ _ _ (by simp)).trans (heap_alloc_new w _))
  have jN := hide (show w1.heap[w.heap.size + 1]? = some (.cells (vcs n) 47 (0, 0)) by rw [hw1]; exact new_at _ _ (by simp))
  have jz : w.heap.size + 1 < w1.heap.size := by rw [hw1]; simp
  have jB := hide (show Below w.heap.size w w1 by rw [hw1]; go_grown)
  clear hw1
  have jz0 : w.heap.size < w1.heap.size := by omega
  have hbr : b < w1.heap.size := by omega
  have kP := blk_cell jP.out; simp only [C2] at kP
  have kN := blk_cell jN.out; simp only [vcs] at kN
  obtain ⟨h0, h1', h2⟩ := (HS.out.below jB.out).at_ l0
  simp only [Nat.zero_mul, Nat.add_zero] at h0 h1' h2
  obtain ⟨pb1, pb2, pb3⟩ := HP.out 0 l0
  go_region_held3 (fun w' => (∀ i, w'.cell? ⟨w.heap.size, i, none⟩ = #[.slice (some ⟨b, off, none⟩) l.length c, .slice B l.length d][i]?) ∧ (∀ i, w'.cell? ⟨w.heap.size + 1, i, none⟩ = #[.int .i64 n.x, .int .i64 n.y, .int .i64 n.z][i]?) ∧ w'.cell? ⟨b, off, none⟩ = some (.int .i64 l[0].x) ∧ w'.cell? ⟨b, off + 1, none⟩ = some (.int .i64 l[0].y) ∧ w'.cell? ⟨b, off + 2, none⟩ = some (.int .i64 l[0].z))
    (first | exact ⟨kP, kN, h0, h1', h2⟩ | go_keep)
    (first | (go_at_call 177; (with_reducible refine (dotn177 n l[0] 4398046511104 _ (by omega) pb1 pb2 pb3).mono ?_); rintro e w5 ⟨rfl, b5⟩; have kP := keepf b5 jz0 kP; have kN := keepf b5 jz kN; have h0 := (b5.cell (p := ⟨b, off, none⟩) hbr).trans h0; have h1' := (b5.cell (p := ⟨b, off + 1, none⟩) hbr).trans h1'; have h2 := (b5.cell (p := ⟨b, off + 2, none⟩) hbr).trans h2))
  have LP := hide ((b5.block _ jz0).trans jP.out)
  have LN := hide ((b5.block _ jz).trans jN.out)
  have LB := hide (jB.out.drew.trans (b5.mono (Nat.le_of_lt jz0)))
  have lz : w.heap.size + 1 < w5.heap.size := Nat.lt_of_lt_of_le jz b5.size
  have lz0 : w.heap.size < w5.heap.size := by omega
  clear b5 kP kN h0 h1' h2 jP jN jB jz jz0 pb1 pb2 pb3 hbr
  have kP := blk_cell LP.out; simp only [C2] at kP
  go_wp2_with fail
  go_loopw [6, 7, 22] (fun t u i wr => LInv w w.heap.size 148 (some ⟨b, off, none⟩) B n c d l f t u i wr) (fun _ _ i _ => l.length - (intOf i).toNat)
  case atStart => exact ⟨0, by omega, rfl, by rw [show amin f 0 = 0 from rfl, dgo_at n l 0 l0], rfl, LP.out, LN.out, LB.out, lz⟩
  case round =>
    clear LP LN LB lz lz0 kP
    clear kP kN h0 h1' h2
    obtain ⟨k, hk, rfl, rfl, rfl, jP, jN, jB, jz⟩ := hrel
    have JP := hide jP; have JN := hide jN; have JB := hide jB
    have jz0 : w.heap.size < wr.heap.size := by omega
    have kN := blk_cell jN; simp only [vcs] at kN
    clear jP jN jB
    obtain ⟨Y, hY⟩ : ∃ Y, Y = dgo n l (amin f k) := ⟨_, rfl⟩
    obtain ⟨j, hj⟩ : ∃ j, j = amin f k := ⟨_, rfl⟩
    rw [← hY, ← hj]
    have HY := hide hY; have HJ := hide hj; clear hY hj
    by_cases hkl : k < l.length
    · obtain ⟨h0, h1', h2⟩ := (HS.out.below JB.out).at_ hkl
      obtain ⟨pb1, pb2, pb3⟩ := HP.out k hkl
      have hi1 : (0 : Int) ≤ (k : Int) := Int.natCast_nonneg _
      have hi2 : (k : Int) < (l.length : Int) := by omega
      have hbr : b < wr.heap.size := by omega
      go_wp2_with fail
      refine (dotn177 n l[k] 4398046511104 _ (by omega) pb1 pb2 pb3).mono ?_
      rintro e w6 ⟨rfl, b6⟩
      obtain ⟨X, hX⟩ : ∃ X, X = dotV n l[k] := ⟨_, rfl⟩
      rw [← hX]
      have HX := hide (show dgo n l k = X by rw [dgo_at n l k hkl, hX])
      have b7 : Below wr.heap.size wr w6 := ((Below.refl _ _).alloc (Nat.le_refl _) _).trans (b6.mono (by simp))
      have KP := hide ((b7.block _ jz0).trans JP.out)
      have KN := hide ((b7.block _ jz).trans JN.out)
      have KB := hide (JB.out.trans (b7.mono (Nat.le_of_lt jz0)))
      have kz : w.heap.size + 1 < w6.heap.size := Nat.lt_of_lt_of_le jz b7.size
      clear b6 b7 hX kN h0 h1' h2 JP JN JB pb1 pb2 pb3
      by_cases hc : X < Y
      · have HA := hide (amin_to (f := f) (k := k) (by rw [HF.out, HF.out, ← HJ.out, HX.out]; have := HY.out; rw [← HJ.out] at this; omega))
        go_wp2_with fail
        go_roundw
        case rel => exact ⟨k + 1, by omega, by simp, by rw [HA.out, HX.out], by rw [HA.out], KP.out, KN.out, KB.out, kz⟩
        case measure => simp [intOf] <;> omega
      · have HA := hide (amin_on (f := f) (k := k) (by rw [HF.out, HF.out, ← HJ.out, HX.out]; have := HY.out; rw [← HJ.out] at this; omega))
        go_wp2_with fail
        go_roundw
        case rel => exact ⟨k + 1, by omega, by simp, by rw [HA.out, ← HY.out], by rw [HA.out, ← HJ.out], KP.out, KN.out, KB.out, kz⟩
        case measure => simp [intOf] <;> omega
    · obtain rfl : k = l.length := by omega
      clear kN
      go_wp2_with fail
      go_ret2
      exact ⟨by rw [HE.out, ← HJ.out, HY.out, ← HJ.out]; rfl, JB.out⟩
/-- nearest.greatest -/
theorem greatestN_any (n : V3) (A B : Option Addr) (l : List V3) (c d : Nat) (w : World) (hs : SlV w A l) (hn : inR n = true) (h1 : 1 ≤ l.length) (h8 : l.length ≤ 8) (hv : ∀ j (hj : j < l.length), vok l[j] = true) :
    Calls Try.prog 166 #[.agg #[.slice A l.length c, .slice B l.length d], .agg #[.int .i64 n.x, .int .i64 n.y, .int .i64 n.z]] w
      fun e w' => e = .returned (.tuple #[.int .i64 (dgo n l (exHi n l)), .int .i64 (exHi n l : Nat)]) ∧ Below w.heap.size w w' := by
  have HS := hide hs; have HP := hide (fun j (hj : j < l.length) => PB_of hn (hv j hj)); clear hs hn hv
  have l0 : 0 < l.length := by omega
  obtain ⟨b, off, rfl, hbb⟩ := HS.out.addr l0
  obtain ⟨f, hf⟩ : ∃ f : Nat → Int, f = fun i => -dgo n l i := ⟨_, rfl⟩
  have HE := hide (show exHi n l = amin f l.length by rw [hf]; rfl)
  have HF := hide (show ∀ i, f i = -dgo n l i by intro i; rw [hf])
  clear hf
  go_enter Try.func166, Try.ntmps166
  go_wp2_with fail
  obtain ⟨w1, hw1⟩ : ∃ W, W = (w.alloc (.cells #[.slice (some ⟨b, off, none⟩) l.length c, .slice B l.length d] 149)).alloc (.cells #[.int .i64 n.x, .int .i64 n.y, .int .i64 n.z] 47) := ⟨_, rfl⟩
  rw [← hw1]
  have jP := hide (show w1.heap[w.heap.size]? = some (.cells (C2 (some ⟨b, off, none⟩) B l.length c d) 149 (0, 0)) by rw [hw1]; exact (Below.heap_alloc _ _ _ (by simp)).trans (heap_alloc_new w _))
  have jN := hide (show w1.heap[w.heap.size + 1]? = some (.cells (vcs n) 47 (0, 0)) by rw [hw1]; exact new_at _ _ (by simp))
  have jz : w.heap.size + 1 < w1.heap.size := by rw [hw1]; simp
  have jB := hide (show Below w.heap.size w w1 by rw [hw1]; go_grown)
  clear hw1
  have jz0 : w.heap.size < w1.heap.size := by omega
  have hbr : b < w1.heap.size := by omega
  have kP := blk_cell jP.out; simp only [C2] at kP
  have kN := blk_cell jN.out; simp only [vcs] at kN
  obtain ⟨h0, h1', h2⟩ := (HS.out.below jB.out).at_ l0
  simp only [Nat.zero_mul, Nat.add_zero] at h0 h1' h2
  obtain ⟨pb1, pb2, pb3⟩ := HP.out 0 l0
  go_region_held3 (fun w' => (∀ i, w'.cell? ⟨w.heap.size, i, none⟩ = #[.slice (some ⟨b, off, none⟩) l.length c, .slice B l.length d][i]?) ∧ (∀ i, w'.cell? ⟨w.heap.size + 1, i, none⟩ = #[.int .i64 n.x, .int .i64 n.y, .int .i64 n.z][i]?) ∧ w'.cell? ⟨b, off, none⟩ = some (.int .i64 l[0].x) ∧ w'.cell? ⟨b, off + 1, none⟩ = some (.int .i64 l[0].y) ∧ w'.cell? ⟨b, off + 2, none⟩ = some (.int .i64 l[0].z))
    (first | exact ⟨kP, kN, h0, h1', h2⟩ | go_keep)
    (first | (go_at_call 177; (with_reducible refine (dotn177 n l[0] 4398046511104 _ (by omega) pb1 pb2 pb3).mono ?_); rintro e w5 ⟨rfl, b5⟩; have kP := keepf b5 jz0 kP; have kN := keepf b5 jz kN; have h0 := (b5.cell (p := ⟨b, off, none⟩) hbr).trans h0; have h1' := (b5.cell (p := ⟨b, off + 1, none⟩) hbr).trans h1'; have h2 := (b5.cell (p := ⟨b, off + 2, none⟩) hbr).trans h2))
  have LP := hide ((b5.block _ jz0).trans jP.out)
  have LN := hide ((b5.block _ jz).trans jN.out)
  have LB := hide (jB.out.drew.trans (b5.mono (Nat.le_of_lt jz0)))
  have lz : w.heap.size + 1 < w5.heap.size := Nat.lt_of_lt_of_le jz b5.size
  have lz0 : w.heap.size < w5.heap.size := by omega
  clear b5 kP kN h0 h1' h2 jP jN jB jz jz0 pb1 pb2 pb3 hbr
  have kP := blk_cell LP.out; simp only [C2] at kP
  go_wp2_with fail
  go_loopw [6, 7, 22] (fun t u i wr => LInv w w.heap.size 149 (some ⟨b, off, none⟩) B n c d l f t u i wr) (fun _ _ i _ => l.length - (intOf i).toNat)
  case atStart => exact ⟨0, by omega, rfl, by rw [show amin f 0 = 0 from rfl, dgo_at n l 0 l0], rfl, LP.out, LN.out, LB.out, lz⟩
  case round =>
    clear LP LN LB lz lz0 kP
    clear kP kN h0 h1' h2
    obtain ⟨k, hk, rfl, rfl, rfl, jP, jN, jB, jz⟩ := hrel
    have JP := hide jP; have JN := hide jN; have JB := hide jB
    have jz0 : w.heap.size < wr.heap.size := by omega
    have kN := blk_cell jN; simp only [vcs] at kN
    clear jP jN jB
    obtain ⟨Y, hY⟩ : ∃ Y, Y = dgo n l (amin f k) := ⟨_, rfl⟩
    obtain ⟨j, hj⟩ : ∃ j, j = amin f k := ⟨_, rfl⟩
    rw [← hY, ← hj]
    have HY := hide hY; have HJ := hide hj; clear hY hj
    by_cases hkl : k < l.length
    · obtain ⟨h0, h1', h2⟩ := (HS.out.below JB.out).at_ hkl
      obtain ⟨pb1, pb2, pb3⟩ := HP.out k hkl
      have hi1 : (0 : Int) ≤ (k : Int) := Int.natCast_nonneg _
      have hi2 : (k : Int) < (l.length : Int) := by omega
      have hbr : b < wr.heap.size := by omega
      go_wp2_with fail
      refine (dotn177 n l[k] 4398046511104 _ (by omega) pb1 pb2 pb3).mono ?_
      rintro e w6 ⟨rfl, b6⟩
      obtain ⟨X, hX⟩ : ∃ X, X = dotV n l[k] := ⟨_, rfl⟩
      rw [← hX]
      have HX := hide (show dgo n l k = X by rw [dgo_at n l k hkl, hX])
      have b7 : Below wr.heap.size wr w6 := ((Below.refl _ _).alloc (Nat.le_refl _) _).trans (b6.mono (by simp))
      have KP := hide ((b7.block _ jz0).trans JP.out)
      have KN := hide ((b7.block _ jz).trans JN.out)
      have KB := hide (JB.out.trans (b7.mono (Nat.le_of_lt jz0)))
      have kz : w.heap.size + 1 < w6.heap.size := Nat.lt_of_lt_of_le jz b7.size
      clear b6 b7 hX kN h0 h1' h2 JP JN JB pb1 pb2 pb3
      by_cases hc : X > Y
      · have HA := hide (amin_to (f := f) (k := k) (by rw [HF.out, HF.out, ← HJ.out, HX.out]; have := HY.out; rw [← HJ.out] at this; omega))
        go_wp2_with fail
        go_roundw
        case rel => exact ⟨k + 1, by omega, by simp, by rw [HA.out, HX.out], by rw [HA.out], KP.out, KN.out, KB.out, kz⟩
        case measure => simp [intOf] <;> omega
      · have HA := hide (amin_on (f := f) (k := k) (by rw [HF.out, HF.out, ← HJ.out, HX.out]; have := HY.out; rw [← HJ.out] at this; omega))
        go_wp2_with fail
        go_roundw
        case rel => exact ⟨k + 1, by omega, by simp, by rw [HA.out, ← HY.out], by rw [HA.out, ← HJ.out], KP.out, KN.out, KB.out, kz⟩
        case measure => simp [intOf] <;> omega
    · obtain rfl : k = l.length := by omega
      clear kN
      go_wp2_with fail
      go_ret2
      exact ⟨by rw [HE.out, ← HJ.out, HY.out, ← HJ.out]; rfl, JB.out⟩
/-- nearest.part -/
theorem part_any (x s : V3) (w : World) (hx : XB x) (hs : XB s) :
    Calls Try.prog 167 #[.agg #[.int .i64 x.x, .int .i64 x.y, .int .i64 x.z], .agg #[.int .i64 s.x, .int .i64 s.y, .int .i64 s.z]] w fun e w' => e = .returned (.int .i64 (partF x s)) ∧ Below w.heap.size w w' := by
  obtain ⟨E, hE⟩ : ∃ E, E = subV x s := ⟨_, rfl⟩
  have e1 : x.x - s.x = E.x := by rw [hE]; rfl
  have e2 : x.y - s.y = E.y := by rw [hE]; rfl
  have e3 : x.z - s.z = E.z := by rw [hE]; rfl
  unfold XB at hx hs
  have xe1 : -576460752303423488 ≤ x.x * E.x ∧ x.x * E.x ≤ 576460752303423488 := mul_bd2 x.x E.x 536870912 1073741824 (by omega) (by omega) (by omega) (by omega)
  have xe2 : -576460752303423488 ≤ x.y * E.y ∧ x.y * E.y ≤ 576460752303423488 := mul_bd2 x.y E.y 536870912 1073741824 (by omega) (by omega) (by omega) (by omega)
  have xe3 : -576460752303423488 ≤ x.z * E.z ∧ x.z * E.z ≤ 576460752303423488 := mul_bd2 x.z E.z 536870912 1073741824 (by omega) (by omega) (by omega) (by omega)
  have ee1 : -1152921504606846976 ≤ E.x * E.x ∧ E.x * E.x ≤ 1152921504606846976 := mul_bd2 E.x E.x 1073741824 1073741824 (by omega) (by omega) (by omega) (by omega)
  have ee2 : -1152921504606846976 ≤ E.y * E.y ∧ E.y * E.y ≤ 1152921504606846976 := mul_bd2 E.y E.y 1073741824 1073741824 (by omega) (by omega) (by omega) (by omega)
  have ee3 : -1152921504606846976 ≤ E.z * E.z ∧ E.z * E.z ≤ 1152921504606846976 := mul_bd2 E.z E.z 1073741824 1073741824 (by omega) (by omega) (by omega) (by omega)
  have s1 := sq_nn E.x; have s2 := sq_nn E.y; have s3 := sq_nn E.z
  have HE1 := hide e1; have HE2 := hide e2; have HE3 := hide e3; have HE := hide hE
  go_enter Try.func167, Try.ntmps167
  go_wp2_with fail
  refine (minus162 x s _ (by omega) (by omega) (by omega)).mono ?_
  rintro e w1 ⟨rfl, hb1⟩
  rw [HE1.out, HE2.out, HE3.out]
  have jX := hide (show w1.heap[w.heap.size]? = some (.cells (vcs x) 47 (0, 0)) from (hb1.block _ (by simp; omega)).trans ((Below.heap_alloc _ _ _ (by simp)).trans (heap_alloc_new w _)))
  have jz : w.heap.size < w1.heap.size := by have := hb1.size; simp at this; omega
  have jB := hide (show Below w.heap.size w w1 from (show Below w.heap.size w _ by go_grown).trans (hb1.mono (by simp; omega)))
  clear hb1 e1 e2 e3 hE hx hs
  go_wp2_with fail
  obtain ⟨w2, hw2⟩ : ∃ W, W = w1.alloc (.cells #[.int .i64 E.x, .int .i64 E.y, .int .i64 E.z] 47) := ⟨_, rfl⟩
  rw [← hw2]
  have lX := hide (show w2.heap[w.heap.size]? = some (.cells (vcs x) 47 (0, 0)) by rw [hw2]; exact (Below.heap_alloc _ _ _ jz).trans jX.out)
  have lE := hide (show w2.heap[w1.heap.size]? = some (.cells (vcs E) 47 (0, 0)) by rw [hw2]; exact heap_alloc_new w1 _)
  have lz : w1.heap.size < w2.heap.size := by rw [hw2]; simp
  have lz0 : w.heap.size < w2.heap.size := by omega
  have lB := hide (show Below w.heap.size w w2 by rw [hw2]; exact jB.out.alloc (by omega) _)
  clear hw2 jX jB
  have kX := blk_cell lX.out; simp only [vcs] at kX
  have kE := blk_cell lE.out; simp only [vcs] at kE
  have kX0 := kX; have kE0 := kE
  have gg : Below w2.heap.size w2 w2.drew := (Below.refl _ _).drew
  go_region_held3 (fun w' => (∀ i, w'.cell? ⟨w.heap.size, i, none⟩ = #[.int .i64 x.x, .int .i64 x.y, .int .i64 x.z][i]?) ∧ (∀ i, w'.cell? ⟨w1.heap.size, i, none⟩ = #[.int .i64 E.x, .int .i64 E.y, .int .i64 E.z][i]?))
    (first | exact ⟨kX, kE⟩ | go_keep)
    (first | (go_at_call 177; (with_reducible refine (dotn177 x E 576460752303423488 _ (by omega) xe1 xe2 xe3).mono ?_); rintro e w5 ⟨rfl, b5⟩; have gg := gg.trans (b5.mono gg.size); have kX := keepf gg lz0 kX0; have kE := keepf gg lz kE0) | (go_at_call 177; (with_reducible refine (dotn177 E E 1152921504606846976 _ (by omega) ee1 ee2 ee3).mono ?_); rintro e w5 ⟨rfl, b5⟩; have gg := gg.trans (b5.mono gg.size); have kX := keepf gg lz0 kX0; have kE := keepf gg lz kE0))
  have lB5 := hide (lB.out.trans (gg.mono (Nat.le_of_lt lz0)))
  clear gg kX kE kX0 kE0 b5
  have eu : -1729382256910270464 ≤ dotV x E ∧ dotV x E ≤ 1729382256910270464 := by unfold dotV; omega
  have ev : 0 ≤ dotV E E ∧ dotV E E ≤ 3458764513820540928 := by unfold dotV; omega
  clear xe1 xe2 xe3 ee1 ee2 ee3 s1 s2 s3
  have HP := hide (show partF x s = if dotV x E ≤ 0 then 0 else min 256 (dotV x E / max 1 (dotV E E / 256)) by rw [HE.out]; rfl)
  generalize hU : dotV x E = U
  generalize hV : dotV E E = V
  rw [hU, hV] at HP
  rw [hU] at eu
  rw [hV] at ev
  clear hU hV
  obtain ⟨u1, u2⟩ := eu
  obtain ⟨v1, v2⟩ := ev
  by_cases hc : U ≤ 0
  · go_wp2_with fail
    go_ret
    exact ⟨by rw [HP.out, if_pos hc]; rfl, lB5.out⟩
  · have e1 : V.tdiv 256 = V / 256 := tdiv256 v1
    obtain ⟨D, hD⟩ : ∃ D, D = max 1 (V / 256) := ⟨_, rfl⟩
    have d1 : 1 ≤ D := by omega
    have d2 : D ≠ 0 := by omega
    have e2 : U.tdiv D = U / D := Int.tdiv_eq_ediv_of_nonneg (by omega)
    have q1 : 0 ≤ U / D := Int.ediv_nonneg (by omega) (by omega)
    have q2 : U / D ≤ U := Int.ediv_le_self _ (by omega)
    have t1 : 0 ≤ V / 256 := by omega
    have t2 : V / 256 ≤ V := by omega
    have HD := hide hD
    have e3 : max 1 (V / 256) = D := hD.symm
    clear hD
    go_wp2_with fail

    go_ret
    exact ⟨by rw [HP.out, if_neg (by omega), ← HD.out]; rfl, lB5.out⟩
end Go.Proofs.Ytionbckpgfaneaa
/- The candidate normals in plain numbers, and their laws. -/
namespace Go.Proofs.Ytionbckpgfaneaa
open Go.RowKit
def midI (a : Iv) : Int := (a.lo + a.hi) / 2
def ctrV (p : IV) : V3 := ⟨midI p.x, midI p.y, midI p.z⟩
def ctrs (l : List IV) : List V3 := l.map ctrV
def sum3 (l : List V3) : V3 := ⟨(l.map (·.x)).sum, (l.map (·.y)).sum, (l.map (·.z)).sum⟩
def meanD (a b : List IV) : V3 := ⟨(sum3 (ctrs a)).x * b.length - (sum3 (ctrs b)).x * a.length, (sum3 (ctrs a)).y * b.length - (sum3 (ctrs b)).y * a.length, (sum3 (ctrs a)).z * b.length - (sum3 (ctrs b)).z * a.length⟩
def axesL : List V3 := [⟨1, 0, 0⟩, ⟨-1, 0, 0⟩, ⟨0, 1, 0⟩, ⟨0, -1, 0⟩, ⟨0, 0, 1⟩, ⟨0, 0, -1⟩]
def candOk (a : List IV) (ra : Int) (b : List IV) (rb : Int) : Bool := placedB a && placedB b && radOk ra && radOk rb
def meanL (a b : List IV) : List V3 := if isZ (meanD a b) then [] else [normalF (meanD a b)]
noncomputable def searchL (a : List IV) (ra : Int) (b : List IV) (rb : Int) : List V3 := if usable (searchN (ctrs a) (ctrs b) (ra + rb) 64).2.N then [(searchN (ctrs a) (ctrs b) (ra + rb) 64).2.N] else []
/-- the candidates -/
noncomputable def cands (a : List IV) (ra : Int) (b : List IV) (rb : Int) (h : List V3) : List V3 := if candOk a ra b rb then h.filter usable ++ (meanL a b ++ (axesL ++ searchL a ra b rb)) else []
noncomputable def findN (a : List IV) (ra : Int) (b : List IV) (rb : Int) (h : List V3) : Option V3 := (cands a ra b rb h).find? fun n => sepB n a ra b rb
theorem sep_usable {n : V3} {a b : List IV} {ra rb : Int} (h : sepB n a ra b rb = true) : usable n = true ∧ candOk a ra b rb = true := by
  unfold sepB margOk at h
  unfold candOk
  simp only [Bool.and_eq_true] at h ⊢
  exact ⟨h.1.1.1.1.1, ⟨⟨h.1.1.1.1.2, h.1.1.1.2⟩, h.1.1.2⟩, h.1.2⟩
theorem find_sound {a b : List IV} {ra rb : Int} {h : List V3} {n : V3} (e : findN a ra b rb h = some n) : sepB n a ra b rb = true := by simpa using List.find?_some e
theorem find_none {a b : List IV} {ra rb : Int} {h : List V3} (e : findN a ra b rb h = none) : ∀ n ∈ cands a ra b rb h, sepB n a ra b rb = false := by
  intro n hn
  have := List.find?_eq_none.1 e n hn
  simpa using this
theorem sep_zero (a b : List IV) (ra rb : Int) : sepB zeroV a ra b rb = false := by
  cases h : sepB zeroV a ra b rb
  · rfl
  · have := (sep_usable h).1
    exact absurd this (by decide)
theorem find_filter {p q : V3 → Bool} (hpq : ∀ x, q x = true → p x = true) (l : List V3) : (l.filter p).find? q = l.find? q := by
  induction l with
  | nil => rfl
  | cons x l ih =>
    cases hp : p x
    · rw [List.filter_cons_of_neg (by simp [hp]), ih, List.find?_cons_of_neg]
      intro hq
      rw [hpq x hq] at hp
      cases hp
    · rw [List.filter_cons_of_pos hp]
      cases hq : q x
      · rw [List.find?_cons_of_neg (by simp [hq]), List.find?_cons_of_neg (by simp [hq]), ih]
      · rw [List.find?_cons_of_pos hq, List.find?_cons_of_pos hq]
/-- a hint that separates is found -/
theorem find_hint {a b : List IV} {ra rb : Int} {h r : List V3} {n : V3} (e : h.find? (fun n => sepB n a ra b rb) = some n) : findN a ra b rb (h ++ r) = some n := by
  have hs : sepB n a ra b rb = true := by simpa using List.find?_some e
  unfold findN cands
  rw [if_pos (sep_usable hs).2, List.filter_append, List.append_assoc, List.find?_append, find_filter (fun x hx => (sep_usable hx).1), e]
  rfl
theorem find_some_of {a b : List IV} {ra rb : Int} {h : List V3} {n : V3} (hn : n ∈ cands a ra b rb h) (hs : sepB n a ra b rb = true) : (findN a ra b rb h).isSome = true := by
  unfold findN
  rw [List.find?_isSome]
  exact ⟨n, hn, hs⟩
/-- a normal that is found separates chosen points, and is found for them -/
theorem find_parts {a b c d : List IV} {ra rb : Int} {n : V3} (hs : sepB n a ra b rb = true) (hc : ChosenOf c a) (hd : ChosenOf d b) : sepB n c ra d rb = true ∧ findN c ra d rb [n] = some n := by
  have hk : margOk n a ra b rb = true := by
    unfold sepB at hs
    simp only [Bool.and_eq_true] at hs
    exact hs.1
  obtain ⟨h1, h2, h3, h4, h5⟩ := margOk_of hk
  have hk2 : margOk n c ra d rb = true := margOk_yes h1 (hc.placed h2) (hd.placed h3) h4 h5
  have hm := marg_chosen n ra rb hc hd (by have := (placed_of h2).1; omega) (by have := (placed_of h3).1; omega)
  rw [sepB_yes hk] at hs
  have hs := of_decide_eq_true hs
  have s2 : sepB n c ra d rb = true := by rw [sepB_yes hk2]; exact decide_eq_true (by omega)
  refine ⟨s2, ?_⟩
  have := find_hint (r := []) (h := [n]) (a := c) (b := d) (ra := ra) (rb := rb) (n := n) (by simp [s2])
  simpa using this
theorem mid_pt (v : Int) : midI ⟨v, v⟩ = v := by unfold midI; simp only; omega
theorem ctr_pt (v : V3) : ctrV (ptV v) = v := by
  unfold ctrV ptV
  simp only [mid_pt]
theorem meanD_pt (x y : V3) : meanD [ptV x] [ptV y] = subV x y := by
  unfold meanD ctrs sum3 subV
  simp [ctr_pt]
theorem leastV_one (n x : V3) : leastV n [ptV x] = dotV n x := by
  have := leastV_pt n [x]
  simpa [dgo, exLo, amin] using this
theorem greatV_one (n x : V3) : greatV n [ptV x] = dotV n x := by
  have := greatV_pt n [x]
  simpa [dgo, exHi, amin] using this
theorem dot_sub (x y : V3) : dotV (subV x y) x - dotV (subV x y) y = lenSq (subV x y) := by
  unfold dotV lenSq subV
  simp only
  grind
/-- two points, radii 0 -/
theorem find_points {x y : V3} (hx : Within x 8192) (hy : Within y 8192) : (x ≠ y → (findN [ptI x] 0 [ptI y] 0 []).isSome = true) ∧ (x = y → ∀ n, sepB n [ptI x] 0 [ptI y] 0 = false) := by
  have vx : vok x = true := (nearB_yes (by unfold Within at hx; omega)).symm
  have vy : vok y = true := (nearB_yes (by unfold Within at hy; omega)).symm
  rw [pt_eq vx, pt_eq vy]
  have px : placedB [ptV x] = true := few_placed (l := [x]) (few_all (by simp) (by simp) (by intro v hv; simp at hv; subst hv; exact vx))
  have py : placedB [ptV y] = true := few_placed (l := [y]) (few_all (by simp) (by simp) (by intro v hv; simp at hv; subst hv; exact vy))
  constructor
  · intro hne
    have hz : isZ (subV x y) = false := by
      cases h : isZ (subV x y)
      · rfl
      · have h := isZ_of h
        simp only [subV] at h
        exact absurd (V3.ext_ (by omega) (by omega) (by omega)) hne
    have hin : inR (subV x y) = true := inR_within (by unfold Within at *; unfold subV; simp only; omega)
    have hu : usable (subV x y) = true := by simp [usable, hin, hz]
    have hk : margOk (subV x y) [ptV x] 0 [ptV y] 0 = true := margOk_yes hu px py (by omega) (by omega)
    refine find_some_of (n := subV x y) ?_ ?_
    · unfold cands
      rw [if_pos (by simp [candOk, px, py, radOk])]
      have : subV x y ∈ meanL [ptV x] [ptV y] := by
        unfold meanL
        rw [meanD_pt, hz, normalF_in hin]
        simp
      simp [this]
    · rw [sepB_yes hk]
      refine decide_eq_true ?_
      unfold margX
      rw [leastV_one, greatV_one]
      have := lenSq_pos hz
      have e := dot_sub x y
      simp only [Int.add_zero, Int.mul_zero]
      omega
  · intro e n
    subst e
    cases h : sepB n [ptV x] 0 [ptV x] 0
    · rfl
    · have hk : margOk n [ptV x] 0 [ptV x] 0 = true := by
        unfold sepB at h
        simp only [Bool.and_eq_true] at h
        exact h.1
      rw [sepB_yes hk] at h
      have h := of_decide_eq_true h
      have := marg_never n (a := [ptV x]) (b := [ptV x]) (ra := 0) (rb := 0) (by omega) (by omega) (k := 0) (j := 0) (by simp) (by simp) rfl
      omega
end Go.Proofs.Ytionbckpgfaneaa
/- Axes that separate, in plain numbers. -/
namespace Go.Proofs.Ytionbckpgfaneaa
open Go.RowKit
theorem norm_axis {n : V3} (hn : n ∈ axesL) : normF n = 1 ∧ usable n = true := by
  have e : ∀ n : V3, usable n = true → lenSq n = 1 → normF n = 1 := fun n hu hl => by
    unfold normF
    rw [if_pos hu, hl]
    exact rootUp_eq ⟨by decide, by decide, fun _ => by decide⟩
  simp [axesL] at hn
  rcases hn with rfl | rfl | rfl | rfl | rfl | rfl <;> exact ⟨e _ (by decide) (by decide), by decide⟩
/-- an axis separates -/
theorem sep_axis {n : V3} {a b : List IV} {ra rb : Int} (hn : n ∈ axesL) (ha : placedB a = true) (hb : placedB b = true) (hr : 0 ≤ ra ∧ ra ≤ 1048576) (hq : 0 ≤ rb ∧ rb ≤ 1048576)
    (h : ∀ p ∈ a, ∀ q ∈ b, dhi n q + (ra + rb) < dlo n p) : sepB n a ra b rb = true := by
  obtain ⟨h1, h2⟩ := norm_axis hn
  have la := (placed_of ha).1
  have lb := (placed_of hb).1
  have hk : margOk n a ra b rb = true := margOk_yes h2 ha hb hr hq
  rw [sepB_yes hk]
  refine decide_eq_true ?_
  unfold margX
  rw [h1, Int.one_mul, leastV_at n (show 0 < a.length by omega), greatV_at n (show 0 < b.length by omega)]
  have := h _ (List.getElem_mem (leastI_lt n (show 0 < a.length by omega))) _ (List.getElem_mem (greatI_lt n (show 0 < b.length by omega)))
  omega
theorem find_axis {n : V3} {a b : List IV} {ra rb : Int} {hs : List V3} (hn : n ∈ axesL) (ha : placedB a = true) (hb : placedB b = true) (hr : 0 ≤ ra ∧ ra ≤ 1048576) (hq : 0 ≤ rb ∧ rb ≤ 1048576)
    (h : ∀ p ∈ a, ∀ q ∈ b, dhi n q + (ra + rb) < dlo n p) : (findN a ra b rb hs).isSome = true := by
  refine find_some_of (n := n) ?_ (sep_axis hn ha hb hr hq h)
  unfold cands
  rw [if_pos (by simp [candOk, ha, hb, radOk_of hr, radOk_of hq])]
  simp [hn]
end Go.Proofs.Ytionbckpgfaneaa
