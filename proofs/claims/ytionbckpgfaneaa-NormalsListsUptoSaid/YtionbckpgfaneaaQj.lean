/- Walks of the normals, part j: the law's awake. -/
import Derived.Test.YtionbckpgfaneaaQi
import Derived.Test.YtionbckpgfaneaaXc
import Derived.Test.YtionbckpgfaneaaXb
namespace Go.Proofs.Ytionbckpgfaneaa
open Go.RowKit
set_option maxHeartbeats 4000000
set_option maxRecDepth 100000
attribute [local go_sem] eq47
theorem norm600 : normF ⟨6, 0, 0⟩ = 6 := by
  have h : usable ⟨6, 0, 0⟩ = true := rfl
  unfold normF
  rw [if_pos h]
  exact rootUp_eq ⟨by omega, by decide, fun _ => by decide⟩
def aw10 : List IV := [⟨10, 0, 0⟩].map ptI
def aw4 : List IV := [⟨4, 0, 0⟩].map ptI
theorem aw17p : aw10 = [ptV ⟨10, 0, 0⟩] ∧ aw4 = [ptV ⟨4, 0, 0⟩] := by
  unfold aw10 aw4
  constructor
  · rw [List.map_cons, List.map_nil, pt_eq (by kernel_rfl)]
  · rw [List.map_cons, List.map_nil, pt_eq (by kernel_rfl)]
theorem aw17m : meanD aw10 aw4 = ⟨6, 0, 0⟩ := by
  rw [aw17p.1, aw17p.2, meanD_pt]
  rfl
theorem aw17n : normalF ⟨6, 0, 0⟩ = ⟨6, 0, 0⟩ := normalF_in (by kernel_rfl)
theorem aw17k : placedB aw10 = true ∧ placedB aw4 = true := ⟨by kernel_rfl, by kernel_rfl⟩
theorem aw17r : meanR aw10 aw4 = .tuple #[.agg #[.int .i64 6, .int .i64 0, .int .i64 0], .bool true] := by
  unfold meanR
  rw [aw17k.1, aw17k.2, aw17m, aw17n]
  rfl
theorem aw17s : sepB ⟨6, 0, 0⟩ aw10 1 aw4 1 = true := by
  rw [sepB_yes (by kernel_rfl)]
  have e : margX ⟨6, 0, 0⟩ aw10 1 aw4 1 = 24 := by
    unfold margX
    rw [norm600, aw17p.1, aw17p.2, leastV_one, greatV_one]
    decide
  rw [e]; rfl
theorem aw17f : findN aw10 1 aw4 1 [] = some ⟨6, 0, 0⟩ := by
  unfold findN cands
  rw [if_pos (by simp [candOk, aw17k.1, aw17k.2, radOk])]
  have : meanL aw10 aw4 = [⟨6, 0, 0⟩] := by
    unfold meanL
    rw [aw17m, aw17n]
    rfl
  rw [this]
  simp [aw17s]
theorem boxed_sl (A : Option Addr) (l : List V3) (c : Nat) (w : World) (hs : SlV w A l) (hm : l.length ≤ 1000000) :
    Calls Try.prog 84 #[.slice A l.length c] w fun e w' => ∃ (B : Option Addr) (d : Nat), e = .returned (.slice B l.length d) ∧ SlI w' B (l.map ptI) ∧ Below w.heap.size w w' := by
  refine (boxed_any A l c w hs hm).mono ?_
  rintro e w' ⟨v, rfl, hown, hb⟩
  obtain ⟨A9, c9, rfl, _, _, _⟩ := own_val hown
  exact ⟨A9, c9, rfl, own_sl hown, hb⟩
theorem nilV (w : World) : SlV w none [] := fun h => absurd rfl h
/-- armplanlaw17.awake -/
theorem awake17 (w : World) : Calls Try.prog 89 #[] w fun e w' => e = .returned (.bool true) ∧ Below w.heap.size w w' := by
  go_enter Try.func89, Try.ntmps89
  go_wp2_with fail
  refine (boxed_sl (some ⟨w.heap.size, 0, none⟩) [⟨10, 0, 0⟩] 1 _ (by exact Sl.newW w _ 47) (by decide)).mono ?_
  rintro e w1 ⟨A1, c1, rfl, s1, hb1⟩
  have S1 := hide s1
  have B1 := hide (show Below w.heap.size w w1 from ((Below.refl _ _).alloc (Nat.le_refl _) _).trans (hb1.mono (by simp)))
  clear s1 hb1
  go_wp2_with fail
  refine (boxed_sl (some ⟨w1.heap.size, 0, none⟩) [⟨4, 0, 0⟩] 1 _ (by exact Sl.newW w1 _ 47) (by decide)).mono ?_
  rintro e w2 ⟨A2, c2, rfl, s2, hb2⟩
  have hb2' : Below w1.heap.size w1 w2 := ((Below.refl _ _).alloc (Nat.le_refl _) _).trans (hb2.mono (by simp))
  have S2 := hide (show SlI w2 A2 aw4 from s2)
  have S1 := hide (show SlI w2 A1 aw10 from SlI.below S1.out hb2')
  have B2 := hide (stepB hb2' B1.out)
  clear s2 hb2 hb2' B1
  go_wp2_with fail
  refine (mean_any A1 A2 aw10 aw4 c1 c2 _ S1.out S2.out (by decide) (by decide)).mono ?_
  rintro e w3 ⟨rfl, hb3⟩
  rw [aw17r]
  have S1 := hide (SlI.below S1.out hb3); have S2 := hide (SlI.below S2.out hb3)
  have B3 := hide (stepB hb3 B2.out)
  clear hb3 B2
  go_wp2_with fail
  refine (find_any A1 A2 none c1 c2 0 aw10 aw4 [] 1 1 _ (Sl.alloc S1.out _) (Sl.alloc S2.out _) (nilV _) (by decide) (by decide) (by decide)).mono ?_
  rintro e w4 ⟨rfl, hb4⟩
  rw [aw17f]
  unfold findR
  have B4 := hide (show Below w.heap.size w w4 from (B3.out.alloc B3.out.size _).trans (hb4.mono (by have := B3.out.size; simp; omega)))
  have K3 := hide (newB hb4)
  clear hb4 B3
  have c3 := blk_cell K3.out; have y3 := blt K3.out
  have e1 : eqV ⟨6, 0, 0⟩ ⟨6, 0, 0⟩ = true := rfl
  go_wp2_with fail
  refine (axes_any _).mono ?_
  rintro e w5 ⟨A5, c5, rfl, s5, hb5⟩
  go_wp2_with fail
  go_ret
  exact ⟨rfl, (B4.out.alloc B4.out.size _).trans (hb5.mono (by have := B4.out.size; simp; omega))⟩
end Go.Proofs.Ytionbckpgfaneaa
