/- Walks, part f: Placed. -/
import Derived.Test.YtionbckpgfaneaaWa
namespace Go.Proofs.Ytionbckpgfaneaa
open Go.RowKit
set_option maxHeartbeats 1000000
set_option maxRecDepth 100000
theorem index44_0 (x0 x1 x2 x3 x4 x5 : Value) (w : World) : (Instr.index 44 (.agg #[x0, x1, x2, x3, x4, x5]) (.int .i64 0)).run Try.prog w = .ok (.agg #[x0, x1]) w := by kernel_rfl
theorem index44_1 (x0 x1 x2 x3 x4 x5 : Value) (w : World) : (Instr.index 44 (.agg #[x0, x1, x2, x3, x4, x5]) (.int .i64 1)).run Try.prog w = .ok (.agg #[x2, x3]) w := by kernel_rfl
theorem index44_2 (x0 x1 x2 x3 x4 x5 : Value) (w : World) : (Instr.index 44 (.agg #[x0, x1, x2, x3, x4, x5]) (.int .i64 2)).run Try.prog w = .ok (.agg #[x4, x5]) w := by kernel_rfl
theorem index47_0 (x0 x1 x2 : Value) (w : World) : (Instr.index 47 (.agg #[x0, x1, x2]) (.int .i64 0)).run Try.prog w = .ok x0 w := by kernel_rfl
theorem index47_1 (x0 x1 x2 : Value) (w : World) : (Instr.index 47 (.agg #[x0, x1, x2]) (.int .i64 1)).run Try.prog w = .ok x1 w := by kernel_rfl
theorem index47_2 (x0 x1 x2 : Value) (w : World) : (Instr.index 47 (.agg #[x0, x1, x2]) (.int .i64 2)).run Try.prog w = .ok x2 w := by kernel_rfl
attribute [local go_sem] index44_0 index44_1 index44_2
/-- a placed interval -/
def Iv.ok (x : Iv) : Bool := decide (-268435456 ≤ x.lo ∧ x.lo ≤ x.hi ∧ x.hi ≤ 268435456)
def IV.ok (v : IV) : Bool := v.x.ok && v.y.ok && v.z.ok
def placedB (l : List IV) : Bool := decide (1 ≤ l.length) && decide (l.length ≤ 8) && l.all IV.ok
theorem placed_bad (l : List IV) (h : l.length < 1 ∨ 8 < l.length) : false = placedB l := by
  unfold placedB
  rcases h with h | h
  · simp [show ¬ 1 ≤ l.length by omega]
  · simp [show ¬ l.length ≤ 8 by omega]
theorem placed_not (l : List IV) (k : Nat) (hk : k < l.length) (h : l[k].ok = false) : false = placedB l := by
  unfold placedB
  have : l.all IV.ok = false := by
    rw [List.all_eq_false]
    exact ⟨l[k], by simp, by simp [h]⟩
  simp [this]
theorem placed_yes (l : List IV) (h1 : 1 ≤ l.length) (h8 : l.length ≤ 8) (h : ∀ j (hj : j < l.length), l[j].ok = true) : true = placedB l := by
  unfold placedB
  have : l.all IV.ok = true := by
    rw [List.all_eq_true]
    intro x hx
    obtain ⟨j, hj, rfl⟩ := List.getElem_of_mem hx
    exact h j hj
  simp [this, h1, h8]
theorem ok_not (v : IV) (h : ¬ (-268435456 ≤ v.x.lo ∧ v.x.lo ≤ v.x.hi ∧ v.x.hi ≤ 268435456) ∨ ¬ (-268435456 ≤ v.y.lo ∧ v.y.lo ≤ v.y.hi ∧ v.y.hi ≤ 268435456) ∨ ¬ (-268435456 ≤ v.z.lo ∧ v.z.lo ≤ v.z.hi ∧ v.z.hi ≤ 268435456)) : v.ok = false := by
  unfold IV.ok Iv.ok
  rcases h with h | h | h <;> simp [h]
theorem ok_yes (v : IV) (h1 : -268435456 ≤ v.x.lo ∧ v.x.lo ≤ v.x.hi ∧ v.x.hi ≤ 268435456) (h2 : -268435456 ≤ v.y.lo ∧ v.y.lo ≤ v.y.hi ∧ v.y.hi ≤ 268435456) (h3 : -268435456 ≤ v.z.lo ∧ v.z.lo ≤ v.z.hi ∧ v.z.hi ≤ 268435456) : v.ok = true := by
  unfold IV.ok Iv.ok
  simp [h1, h2, h3]
/-- shape.Placed -/
theorem placed_any (A : Option Addr) (l : List IV) (c : Nat) (w : World) (hs : SlI w A l) (hm : l.length ≤ 9223372036854775807) :
    Calls Try.prog 114 #[.slice A l.length c] w fun e w' => e = .returned (.bool (placedB l)) ∧ Below w.heap.size w w' := by
  have HS := hide hs
  clear hs
  by_cases hbad : l.length < 1 ∨ 8 < l.length
  · have H := hide (placed_bad l hbad)
    rcases hbad with h | h
    · go_enter Try.func114, Try.ntmps114
      go_wp2
      go_ret
      exact ⟨ret_bool H.out, Below.refl _ _⟩
    · have h1 : ¬ l.length < 1 := by omega
      go_enter Try.func114, Try.ntmps114
      go_wp2
      go_ret
      exact ⟨ret_bool H.out, Below.refl _ _⟩
  · have hn1 : 1 ≤ l.length := by omega
    have hn8 : l.length ≤ 8 := by omega
    clear hbad
    obtain ⟨b, off, rfl, hbb⟩ := HS.out.addr (by omega)
    go_enter Try.func114, Try.ntmps114
    go_wp2
    go_loopw [17] (fun i wr => ∃ k : Nat, k ≤ l.length ∧ i = .int .i64 k ∧ (∀ j (_ : j < k) (h' : j < l.length), l[j].ok = true) ∧ Below w.heap.size w wr) (fun i _ => l.length - (intOf i).toNat)
    case atStart => exact ⟨0, Nat.zero_le _, rfl, fun j h => absurd h (by omega), Below.refl _ _⟩
    case round =>
      obtain ⟨k, hk, rfl, hok, hb⟩ := hrel
      have HO := hide hok; have HB := hide hb
      clear hok hb
      by_cases hlt : k < l.length
      · obtain ⟨h0, h1, h2, h3, h4, h5⟩ := (HS.out.below HB.out).at_ hlt
        go_wp2
        go_rounds 4
        all_goals first
          | (go_ret; refine ⟨ret_bool (placed_not l k hlt (ok_not _ (by omega))), ?_⟩; refine HB.out.trans ?_; have := HB.out.size; go_grown)
          | (go_roundw
             case rel => exact ⟨k + 1, by omega, by simp, fun j hj hj' => by
               rcases Nat.lt_or_ge j k with h | h
               · exact HO.out j h hj'
               · obtain rfl : j = k := by omega
                 exact ok_yes _ (by omega) (by omega) (by omega), by refine HB.out.trans ?_; have := HB.out.size; go_grown⟩
             case measure => simp [intOf] <;> omega)
      · go_wp2
        go_ret
        exact ⟨ret_bool (placed_yes l hn1 hn8 (fun j hj => HO.out j (by omega) hj)), HB.out⟩
end Go.Proofs.Ytionbckpgfaneaa
