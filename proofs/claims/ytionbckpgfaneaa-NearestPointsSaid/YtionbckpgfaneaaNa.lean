/- Walks of the search, part a: differences, products, usable lists. -/
import Derived.Test.YtionbckpgfaneaaPg
import Derived.Test.YtionbckpgfaneaaWw
namespace Go.Proofs.Ytionbckpgfaneaa
open Go.RowKit
set_option maxHeartbeats 1000000
set_option maxRecDepth 100000
attribute [local go_sem] index47_0 index47_1 index47_2
theorem minus157 (a b : V3) (w : World) (h1 : -9223372036854775808 ≤ a.x - b.x ∧ a.x - b.x ≤ 9223372036854775807) (h2 : -9223372036854775808 ≤ a.y - b.y ∧ a.y - b.y ≤ 9223372036854775807) (h3 : -9223372036854775808 ≤ a.z - b.z ∧ a.z - b.z ≤ 9223372036854775807) :
    Calls Try.prog 157 #[.agg #[.int .i64 a.x, .int .i64 a.y, .int .i64 a.z], .agg #[.int .i64 b.x, .int .i64 b.y, .int .i64 b.z]] w fun e w' => e = .returned (.agg #[.int .i64 (a.x - b.x), .int .i64 (a.y - b.y), .int .i64 (a.z - b.z)]) ∧ Below w.heap.size w w' := by
  obtain ⟨p1, p2⟩ := h1; obtain ⟨p3, p4⟩ := h2; obtain ⟨p5, p6⟩ := h3
  go_enter Try.func157, Try.ntmps157
  go_wp2_with fail
  refine bodyPost_ret (v := .agg #[.int .i64 (a.x - b.x), .int .i64 (a.y - b.y), .int .i64 (a.z - b.z)]) (by simp [results, Try.results157, go_sem]) rfl ⟨rfl, ?_⟩
  go_grown
theorem minus162 (a b : V3) (w : World) (h1 : -9223372036854775808 ≤ a.x - b.x ∧ a.x - b.x ≤ 9223372036854775807) (h2 : -9223372036854775808 ≤ a.y - b.y ∧ a.y - b.y ≤ 9223372036854775807) (h3 : -9223372036854775808 ≤ a.z - b.z ∧ a.z - b.z ≤ 9223372036854775807) :
    Calls Try.prog 162 #[.agg #[.int .i64 a.x, .int .i64 a.y, .int .i64 a.z], .agg #[.int .i64 b.x, .int .i64 b.y, .int .i64 b.z]] w fun e w' => e = .returned (.agg #[.int .i64 (a.x - b.x), .int .i64 (a.y - b.y), .int .i64 (a.z - b.z)]) ∧ Below w.heap.size w w' := by
  obtain ⟨p1, p2⟩ := h1; obtain ⟨p3, p4⟩ := h2; obtain ⟨p5, p6⟩ := h3
  go_enter Try.func162, Try.ntmps162
  go_wp2_with fail
  refine bodyPost_ret (v := .agg #[.int .i64 (a.x - b.x), .int .i64 (a.y - b.y), .int .i64 (a.z - b.z)]) (by simp [results, Try.results162, go_sem]) rfl ⟨rfl, ?_⟩
  go_grown
theorem dotn177 (a b : V3) (M : Int) (w : World) (hM : M ≤ 3000000000000000000) (h1 : -M ≤ a.x * b.x ∧ a.x * b.x ≤ M) (h2 : -M ≤ a.y * b.y ∧ a.y * b.y ≤ M) (h3 : -M ≤ a.z * b.z ∧ a.z * b.z ≤ M) :
    Calls Try.prog 177 #[.agg #[.int .i64 a.x, .int .i64 a.y, .int .i64 a.z], .agg #[.int .i64 b.x, .int .i64 b.y, .int .i64 b.z]] w fun e w' => e = .returned (.int .i64 (dotV a b)) ∧ Below w.heap.size w w' := by
  obtain ⟨p1, p2⟩ := h1; obtain ⟨p3, p4⟩ := h2; obtain ⟨p5, p6⟩ := h3
  go_enter Try.func177, Try.ntmps177
  go_wp2_with fail
  go_ret
  exact ⟨rfl, by go_grown⟩
theorem dotn160 (a b : V3) (M : Int) (w : World) (hM : M ≤ 3000000000000000000) (h1 : -M ≤ a.x * b.x ∧ a.x * b.x ≤ M) (h2 : -M ≤ a.y * b.y ∧ a.y * b.y ≤ M) (h3 : -M ≤ a.z * b.z ∧ a.z * b.z ≤ M) :
    Calls Try.prog 160 #[.agg #[.int .i64 a.x, .int .i64 a.y, .int .i64 a.z], .agg #[.int .i64 b.x, .int .i64 b.y, .int .i64 b.z]] w fun e w' => e = .returned (.int .i64 (dotV a b)) ∧ Below w.heap.size w w' := by
  obtain ⟨p1, p2⟩ := h1; obtain ⟨p3, p4⟩ := h2; obtain ⟨p5, p6⟩ := h3
  go_enter Try.func160, Try.ntmps160
  go_wp2_with fail
  go_ret
  exact ⟨rfl, by go_grown⟩
/-- one to eight points within the reach -/
def vok (v : V3) : Bool := nearB 268435456 v
def fewB (l : List V3) : Bool := decide (1 ≤ l.length) && decide (l.length ≤ 8) && l.all vok
theorem few_bad (l : List V3) (h : l.length < 1 ∨ 8 < l.length) : false = fewB l := by
  unfold fewB
  rcases h with h | h
  · simp [show ¬ 1 ≤ l.length by omega]
  · simp [show ¬ l.length ≤ 8 by omega]
theorem few_not (l : List V3) (k : Nat) (hk : k < l.length) (h : vok l[k] = false) : false = fewB l := by
  unfold fewB
  have : l.all vok = false := by
    rw [List.all_eq_false]
    exact ⟨l[k], by simp, by simp [h]⟩
  simp [this]
theorem few_yes (l : List V3) (h1 : 1 ≤ l.length) (h8 : l.length ≤ 8) (h : ∀ j (hj : j < l.length), vok l[j] = true) : true = fewB l := by
  unfold fewB
  have : l.all vok = true := by
    rw [List.all_eq_true]
    intro x hx
    obtain ⟨j, hj, rfl⟩ := List.getElem_of_mem hx
    exact h j hj
  simp [this, h1, h8]
theorem few_of {l : List V3} (h : fewB l = true) : 1 ≤ l.length ∧ l.length ≤ 8 ∧ ∀ j (hj : j < l.length), vok l[j] = true := by
  simp [fewB] at h
  exact ⟨h.1.1, h.1.2, fun j hj => h.2 _ (by simp)⟩
/-- nearest.usable -/
theorem usableN_any (A : Option Addr) (l : List V3) (c : Nat) (w : World) (hs : SlV w A l) (hm : l.length ≤ 9223372036854775807) :
    Calls Try.prog 127 #[.slice A l.length c] w fun e w' => e = .returned (.bool (fewB l)) ∧ Below w.heap.size w w' := by
  have HS := hide hs
  clear hs
  by_cases hbad : l.length < 1 ∨ 8 < l.length
  · have H := hide (few_bad l hbad)
    rcases hbad with h | h
    · go_enter Try.func127, Try.ntmps127
      go_wp2
      go_ret
      exact ⟨ret_bool H.out, Below.refl _ _⟩
    · have h1 : ¬ l.length < 1 := by omega
      go_enter Try.func127, Try.ntmps127
      go_wp2
      go_ret
      exact ⟨ret_bool H.out, Below.refl _ _⟩
  · have hn1 : 1 ≤ l.length := by omega
    have hn8 : l.length ≤ 8 := by omega
    clear hbad
    obtain ⟨b, off, rfl, hbb⟩ := HS.out.addr (by omega)
    go_enter Try.func127, Try.ntmps127
    go_wp2
    go_loopw [17] (fun i wr => ∃ k : Nat, k ≤ l.length ∧ i = .int .i64 k ∧ (∀ j (_ : j < k) (h' : j < l.length), vok l[j] = true) ∧ Below w.heap.size w wr) (fun i _ => l.length - (intOf i).toNat)
    case atStart => exact ⟨0, Nat.zero_le _, rfl, fun j h => absurd h (by omega), Below.refl _ _⟩
    case round =>
      obtain ⟨k, hk, rfl, hok, hb⟩ := hrel
      have HO := hide hok; have HB := hide hb
      clear hok hb
      by_cases hlt : k < l.length
      · obtain ⟨h0, h1, h2⟩ := (HS.out.below HB.out).at_ hlt
        go_wp2
        go_rounds 4
        all_goals first
          | (go_ret; refine ⟨ret_bool (few_not l k hlt (nearB_no (by omega)).symm), ?_⟩; refine HB.out.trans ?_; have := HB.out.size; go_grown)
          | (go_roundw
             case rel => exact ⟨k + 1, by omega, by simp, fun j hj hj' => by
               rcases Nat.lt_or_ge j k with h | h
               · exact HO.out j h hj'
               · obtain rfl : j = k := by omega
                 exact (nearB_yes (by omega)).symm, by refine HB.out.trans ?_; have := HB.out.size; go_grown⟩
             case measure => simp [intOf] <;> omega)
      · go_wp2
        go_ret
        exact ⟨ret_bool (few_yes l hn1 hn8 (fun j hj => HO.out j (by omega) hj)), HB.out⟩
/-- armplanref14.few -/
theorem few_ref (A : Option Addr) (l : List V3) (c : Nat) (w : World) (hs : SlV w A l) (hm : l.length ≤ 9223372036854775807) :
    Calls Try.prog 156 #[.slice A l.length c] w fun e w' => e = .returned (.bool (fewB l)) ∧ Below w.heap.size w w' := by
  have HS := hide hs
  clear hs
  go_enter Try.func156, Try.ntmps156
  go_wp2_with fail
  go_loopw [3] (fun i wr => ∃ k : Nat, k ≤ l.length ∧ k ≤ 9 ∧ i = .int .i64 k ∧ (∀ j (_ : j < k) (h' : j < l.length), vok l[j] = true) ∧ Below w.heap.size w wr) (fun i _ => l.length - (intOf i).toNat)
  case atStart => exact ⟨0, Nat.zero_le _, Nat.zero_le _, rfl, fun j h => absurd h (by omega), Below.refl _ _⟩
  case round =>
    obtain ⟨k, hk, hk9, rfl, hok, hb⟩ := hrel
    have HO := hide hok; have HB := hide hb; have hz := hb.size
    clear hok hb
    by_cases hlt : k < l.length
    · by_cases h8 : k ≤ 8
      · obtain ⟨b, off, rfl, hbb⟩ := HS.out.addr (by omega)
        obtain ⟨h0, h1, h2⟩ := (HS.out.below HB.out).at_ hlt
        go_wp2_with fail
        refine (near_any l[k] 268435456 _ (by omega) (by omega)).mono ?_
        rintro e w1 ⟨rfl, hb1⟩
        have HB1 := hide hb1
        clear hb1
        cases hv : nearB 268435456 l[k]
        · go_wp2
          go_ret
          exact ⟨ret_bool (few_not l k hlt hv), HB.out.trans (HB1.out.mono hz)⟩
        · have HV := hide hv
          go_wp2
          go_roundw
          case rel => exact ⟨k + 1, by omega, by omega, by simp, fun j hj hj' => by
               rcases Nat.lt_or_ge j k with h | h
               · exact HO.out j h hj'
               · obtain rfl : j = k := by omega
                 exact HV.out, HB.out.trans (HB1.out.mono hz)⟩
          case measure => simp [intOf] <;> omega
      · have hge : 8 < l.length := by omega
        have H := hide (few_bad l (Or.inr hge))
        go_wp2
        all_goals
          go_ret
          exact ⟨ret_bool ((by simp; omega : decide ((l.length : Int) ≤ 8) = false).trans H.out), HB.out⟩
    · have hkl : k = l.length := by omega
      by_cases h1 : 1 ≤ l.length
      · by_cases h8 : l.length ≤ 8
        · have H := hide (few_yes l h1 h8 (fun j hj => HO.out j (by omega) hj))
          clear hkl
          go_wp2
          all_goals
            go_ret
            exact ⟨ret_bool ((by simp; omega : decide ((l.length : Int) ≤ 8) = true).trans H.out), HB.out⟩
        · have H := hide (few_bad l (Or.inr (by omega)))
          clear hkl
          go_wp2
          all_goals
            go_ret
            exact ⟨ret_bool ((by simp; omega : decide ((l.length : Int) ≤ 8) = false).trans H.out), HB.out⟩
      · have H := hide (few_bad l (Or.inl (by omega)))
        clear hkl
        go_wp2
        all_goals
          go_ret
          exact ⟨ret_bool H.out, HB.out⟩
end Go.Proofs.Ytionbckpgfaneaa
