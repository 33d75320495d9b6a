/- Walks of the search, part t: arguments that are not usable. -/
import Derived.Test.YtionbckpgfaneaaNf
import Derived.Test.YtionbckpgfaneaaNh
namespace Go.Proofs.Ytionbckpgfaneaa
open Go.RowKit
set_option maxHeartbeats 4000000
set_option maxRecDepth 100000
def okArgs (a b : List V3) (rho st : Int) : Prop := fewB a = true ∧ fewB b = true ∧ (0 ≤ rho ∧ rho ≤ 2097152) ∧ 0 ≤ st ∧ st ≤ 64
theorem below7 {B N : Nat} {w0 w : World} (h : Below B w0 w) (hN : B ≤ N) (v0 v1 v2 v3 v4 v5 v6 : Value) : Below B w0 (((((((w.setCell ⟨N, 0, none⟩ v0).setCell ⟨N, 1, none⟩ v1).setCell ⟨N, 2, none⟩ v2).setCell ⟨N, 3, none⟩ v3).setCell ⟨N, 4, none⟩ v4).setCell ⟨N, 5, none⟩ v5).setCell ⟨N, 6, none⟩ v6) :=
  ((((((h.setCell hN _).setCell hN _).setCell hN _).setCell hN _).setCell hN _).setCell hN _).setCell hN _
theorem search_zero (A B : Option Addr) (a b : List V3) (ca cb : Nat) (rho st : Int) (w : World) (hs : SlV w A a) (ht : SlV w B b) (ma : a.length ≤ 9223372036854775807) (mb : b.length ≤ 9223372036854775807) (hbad : ¬ okArgs a b rho st) :
    Calls Try.prog 81 #[.slice A a.length ca, .slice B b.length cb, .int .i64 rho, .int .i64 st] w fun e w' => e = .returned (.agg zero7) ∧ Below w.heap.size w w' := by
  have HS := hide hs; have HT := hide ht; have BAD := hide hbad
  clear hs ht hbad
  go_enter Try.func81, Try.ntmps81
  go_wp2_with fail
  refine (usableN_any A a ca _ (by exact Sl.alloc HS.out _) ma).mono ?_
  rintro e w1 ⟨rfl, hb1⟩
  have K1 := hide (show w1.heap[w.heap.size]? = some (.cells zero7 93 (0, 0)) from newB hb1)
  have B1 := hide (show Below w.heap.size w w1 from ((Below.refl _ _).alloc (Nat.le_refl _) _).trans (hb1.mono (by simp)))
  clear hb1
  have y1 := blt K1.out
  have c1 := blk_cell K1.out; simp only [zero7] at c1
  have f1 := blk_frozen K1.out
  cases ha : fewB a
  · go_wp2_with fail
    refine bodyPost_ret (v := .agg zero7) (by simp [results, Try.results81, go_sem, c1, zero7]) rfl ⟨rfl, below7 B1.out (Nat.le_refl _) _ _ _ _ _ _ _⟩
  · go_wp2_with fail
    refine (usableN_any B b cb _ (HT.out.below B1.out) mb).mono ?_
    rintro e w2 ⟨rfl, hb2⟩
    have K2 := hide ((hb2.block _ y1).trans K1.out)
    have B2 := hide (stepB hb2 B1.out)
    clear hb2 y1 c1 f1
    have y1 := blt K2.out
    have c1 := blk_cell K2.out; simp only [zero7] at c1
    have f1 := blk_frozen K2.out
    cases hb : fewB b
    · go_wp2_with fail
      refine bodyPost_ret (v := .agg zero7) (by simp [results, Try.results81, go_sem, c1, zero7]) rfl ⟨rfl, below7 B2.out (Nat.le_refl _) _ _ _ _ _ _ _⟩
    · have HA := hide ha; have HB := hide hb
      clear ha hb
      by_cases h1 : rho < 0
      · go_wp2_with fail
        refine bodyPost_ret (v := .agg zero7) (by simp [results, Try.results81, go_sem, c1, zero7]) rfl ⟨rfl, below7 B2.out (Nat.le_refl _) _ _ _ _ _ _ _⟩
      · by_cases h2 : 2097152 < rho
        · go_wp2_with fail
          refine bodyPost_ret (v := .agg zero7) (by simp [results, Try.results81, go_sem, c1, zero7]) rfl ⟨rfl, below7 B2.out (Nat.le_refl _) _ _ _ _ _ _ _⟩
        · by_cases h3 : st < 0
          · go_wp2_with fail
            refine bodyPost_ret (v := .agg zero7) (by simp [results, Try.results81, go_sem, c1, zero7]) rfl ⟨rfl, below7 B2.out (Nat.le_refl _) _ _ _ _ _ _ _⟩
          · have h4 : 64 < st := by
              rcases Int.lt_or_le 64 st with h | h
              · exact h
              · exact absurd ⟨HA.out, HB.out, ⟨by omega, by omega⟩, by omega, h⟩ BAD.out
            go_wp2_with fail
            refine bodyPost_ret (v := .agg zero7) (by simp [results, Try.results81, go_sem, c1, zero7]) rfl ⟨rfl, below7 B2.out (Nat.le_refl _) _ _ _ _ _ _ _⟩
theorem searchRef_zero (A B : Option Addr) (a b : List V3) (ca cb : Nat) (rho st : Int) (w : World) (hs : SlV w A a) (ht : SlV w B b) (ma : a.length ≤ 9223372036854775807) (mb : b.length ≤ 9223372036854775807) (hbad : ¬ okArgs a b rho st) :
    Calls Try.prog 126 #[.slice A a.length ca, .slice B b.length cb, .int .i64 rho, .int .i64 st] w fun e w' => e = .returned (.agg zero7) ∧ Below w.heap.size w w' := by
  have HS := hide hs; have HT := hide ht; have BAD := hide hbad
  clear hs ht hbad
  go_enter Try.func126, Try.ntmps126
  go_wp2_with fail
  refine (few_ref A a ca _ (by exact Sl.alloc HS.out _) ma).mono ?_
  rintro e w1 ⟨rfl, hb1⟩
  have K1 := hide (show w1.heap[w.heap.size]? = some (.cells zero7 93 (0, 0)) from newB hb1)
  have B1 := hide (show Below w.heap.size w w1 from ((Below.refl _ _).alloc (Nat.le_refl _) _).trans (hb1.mono (by simp)))
  clear hb1
  have y1 := blt K1.out
  have c1 := blk_cell K1.out; simp only [zero7] at c1
  have f1 := blk_frozen K1.out
  cases ha : fewB a
  · go_wp2_with fail
    refine bodyPost_ret (v := .agg zero7) (by simp [results, Try.results126, go_sem, c1, zero7]) rfl ⟨rfl, below7 B1.out (Nat.le_refl _) _ _ _ _ _ _ _⟩
  · go_wp2_with fail
    refine (few_ref B b cb _ (HT.out.below B1.out) mb).mono ?_
    rintro e w2 ⟨rfl, hb2⟩
    have K2 := hide ((hb2.block _ y1).trans K1.out)
    have B2 := hide (stepB hb2 B1.out)
    clear hb2 y1 c1 f1
    have y1 := blt K2.out
    have c1 := blk_cell K2.out; simp only [zero7] at c1
    have f1 := blk_frozen K2.out
    cases hb : fewB b
    · go_wp2_with fail
      refine bodyPost_ret (v := .agg zero7) (by simp [results, Try.results126, go_sem, c1, zero7]) rfl ⟨rfl, below7 B2.out (Nat.le_refl _) _ _ _ _ _ _ _⟩
    · have HA := hide ha; have HB := hide hb
      clear ha hb
      by_cases h1 : rho < 0
      · go_wp2_with fail
        refine bodyPost_ret (v := .agg zero7) (by simp [results, Try.results126, go_sem, c1, zero7]) rfl ⟨rfl, below7 B2.out (Nat.le_refl _) _ _ _ _ _ _ _⟩
      · by_cases h2 : 2097152 < rho
        · go_wp2_with fail
          refine bodyPost_ret (v := .agg zero7) (by simp [results, Try.results126, go_sem, c1, zero7]) rfl ⟨rfl, below7 B2.out (Nat.le_refl _) _ _ _ _ _ _ _⟩
        · by_cases h3 : st < 0
          · go_wp2_with fail
            refine bodyPost_ret (v := .agg zero7) (by simp [results, Try.results126, go_sem, c1, zero7]) rfl ⟨rfl, below7 B2.out (Nat.le_refl _) _ _ _ _ _ _ _⟩
          · have h4 : 64 < st := by
              rcases Int.lt_or_le 64 st with h | h
              · exact h
              · exact absurd ⟨HA.out, HB.out, ⟨by omega, by omega⟩, by omega, h⟩ BAD.out
            go_wp2_with fail
            refine bodyPost_ret (v := .agg zero7) (by simp [results, Try.results126, go_sem, c1, zero7]) rfl ⟨rfl, below7 B2.out (Nat.le_refl _) _ _ _ _ _ _ _⟩
end Go.Proofs.Ytionbckpgfaneaa
