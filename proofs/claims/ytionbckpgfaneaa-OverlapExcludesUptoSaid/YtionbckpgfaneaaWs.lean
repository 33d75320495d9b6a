/- Walks, part s: Near, Usable, inRange. -/
import Derived.Test.YtionbckpgfaneaaWt
import Derived.Test.YtionbckpgfaneaaWj
namespace Go.Proofs.Ytionbckpgfaneaa
open Go.RowKit
set_option maxHeartbeats 1000000
set_option maxRecDepth 100000
attribute [local go_sem] index47_0 index47_1 index47_2 eq47
def nearB (m : Int) (v : V3) : Bool := decide ((-m ≤ v.x ∧ v.x ≤ m) ∧ (-m ≤ v.y ∧ v.y ≤ m) ∧ (-m ≤ v.z ∧ v.z ≤ m))
theorem nearB_no {m : Int} {v : V3} (h : ¬ ((-m ≤ v.x ∧ v.x ≤ m) ∧ (-m ≤ v.y ∧ v.y ≤ m) ∧ (-m ≤ v.z ∧ v.z ≤ m))) : false = nearB m v := (decide_eq_false h).symm
theorem nearB_yes {m : Int} {v : V3} (h : (-m ≤ v.x ∧ v.x ≤ m) ∧ (-m ≤ v.y ∧ v.y ≤ m) ∧ (-m ≤ v.z ∧ v.z ≤ m)) : true = nearB m v := (decide_eq_true h).symm
/-- armplanref6.Near -/
theorem near_any (v : V3) (m : Int) (w : World) (h0 : 0 ≤ m) (h1 : m ≤ 1000000000000) :
    Calls Try.prog 143 #[.agg #[.int .i64 v.x, .int .i64 v.y, .int .i64 v.z], .int .i64 m] w fun e w' => e = .returned (.bool (nearB m v)) ∧ Below w.heap.size w w' := by
  go_enter Try.func143, Try.ntmps143
  go_wp2
  go_rounds 4
  all_goals first
    | (go_ret; refine ⟨ret_bool (nearB_no (by omega)), ?_⟩; go_grown; done)
    | (go_ret; refine ⟨ret_bool (nearB_yes (by omega)), ?_⟩; go_grown; done)
/-- support.inRange -/
theorem inRange_any (v : V3) (w : World) :
    Calls Try.prog 112 #[.agg #[.int .i64 v.x, .int .i64 v.y, .int .i64 v.z]] w fun e w' => e = .returned (.bool (inR v)) ∧ Below w.heap.size w w' := by
  go_enter Try.func112, Try.ntmps112
  go_wp2
  go_rounds 4
  all_goals first
    | (go_ret; refine ⟨ret_bool (nearB_no (m := 16384) (by omega)), ?_⟩; go_grown; done)
    | (go_ret; refine ⟨ret_bool (nearB_yes (m := 16384) (by omega)), ?_⟩; go_grown; done)
theorem isZ_eq (v : V3) : eqV ⟨v.x, v.y, v.z⟩ ⟨0, 0, 0⟩ = isZ v := rfl
/-- support.Usable -/
theorem usable_any (v : V3) (w : World) :
    Calls Try.prog 59 #[.agg #[.int .i64 v.x, .int .i64 v.y, .int .i64 v.z]] w fun e w' => e = .returned (.bool (usable v)) ∧ Below w.heap.size w w' := by
  go_enter Try.func59, Try.ntmps59
  go_wp2_with fail
  refine (inRange_any v _).mono ?_
  rintro e w1 ⟨rfl, hb1⟩
  have hN : w1.heap[w.heap.size]? = some (.cells #[.int .i64 v.x, .int .i64 v.y, .int .i64 v.z] 47 (0, 0)) := (hb1.block _ (by simp)).trans (heap_alloc_new w _)
  have hc := blk_cell hN
  have hz : w.heap.size < w1.heap.size := by have := hb1.size; simp at this; omega
  have HB := hide (show Below w.heap.size w w1 from ((Below.refl _ _).alloc (Nat.le_refl _) _).trans (hb1.mono (by simp)))
  clear hN hb1
  cases hr : inR v
  · go_wp2_with fail
    go_ret
    exact ⟨ret_bool (by simp [usable, hr]), HB.out⟩
  · go_wp2_with fail
    go_ret
    exact ⟨ret_bool (by rw [isZ_eq]; simp [usable, hr]), HB.out⟩
/-- armplanref10.Usable -/
theorem usable_ref (v : V3) (w : World) :
    Calls Try.prog 108 #[.agg #[.int .i64 v.x, .int .i64 v.y, .int .i64 v.z]] w fun e w' => e = .returned (.bool (usable v)) ∧ Below w.heap.size w w' := by
  cases hr : isZ v
  · have hr' : eqV ⟨v.x, v.y, v.z⟩ ⟨0, 0, 0⟩ = false := hr
    have HR := hide hr; clear hr
    go_enter Try.func108, Try.ntmps108
    go_wp2_with fail
    refine (near_any v 16384 _ (by omega) (by omega)).mono ?_
    rintro e w1 ⟨rfl, hb1⟩
    have HB := hide (show Below w.heap.size w w1 from ((Below.refl _ _).alloc (Nat.le_refl _) _).trans (hb1.mono (by simp)))
    clear hb1
    go_wp2_with fail
    go_ret
    exact ⟨ret_bool (by simp only [usable, HR.out, Bool.not_false, Bool.and_true]; rfl), HB.out⟩
  · have hr' : eqV ⟨v.x, v.y, v.z⟩ ⟨0, 0, 0⟩ = true := hr
    have HR := hide hr; clear hr
    go_enter Try.func108, Try.ntmps108
    go_wp2_with fail
    go_ret
    exact ⟨ret_bool (by simp [usable, HR.out]), by go_grown⟩
end Go.Proofs.Ytionbckpgfaneaa
