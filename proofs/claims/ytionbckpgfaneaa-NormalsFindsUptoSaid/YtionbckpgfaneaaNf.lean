/- Walks of the search, part f: Search. -/
import Derived.Test.YtionbckpgfaneaaNe
namespace Go.Proofs.Ytionbckpgfaneaa
open Go.RowKit
set_option maxHeartbeats 4000000
set_option maxRecDepth 100000
def nearV (r : Int × Nst) (gL gR na nb : Nat) : Value := .agg #[.int .i64 r.1, .int .i64 r.2.N.x, .int .i64 r.2.N.y, .int .i64 r.2.N.z, .slice (some ⟨gL, 0, none⟩) na na, .slice (some ⟨gR, 0, none⟩) nb nb, .int .i64 r.2.k]
def SearchPost (r : Int × Nst) (na nb : Nat) (w : World) (e : Ending) (w' : World) : Prop :=
  ∃ gL gR : Nat, e = .returned (nearV r gL gR na nb) ∧ SlN w' (some ⟨gL, 0, none⟩) r.2.L ∧ SlN w' (some ⟨gR, 0, none⟩) r.2.R ∧ Below w.heap.size w w'
def zero7 : Array Value := #[.int .i64 0, .int .i64 0, .int .i64 0, .int .i64 0, .slice none 0 0, .slice none 0 0, .int .i64 0]
/-- nearest.Search, of usable arguments -/
theorem search_any (A B : Option Addr) (a b : List V3) (ca cb : Nat) (rho : Int) (m : Nat) (w : World) (hs : SlV w A a) (ht : SlV w B b) (fa : fewB a = true) (fb : fewB b = true) (r0 : 0 ≤ rho) (r1 : rho ≤ 2097152) (hm : m ≤ 64) :
    Calls Try.prog 81 #[.slice A a.length ca, .slice B b.length cb, .int .i64 rho, .int .i64 m] w (SearchPost (searchN a b rho m) a.length b.length w) := by
  have HS := hide hs; have HT := hide ht; have FA := hide fa; have FB := hide fb
  obtain ⟨la1, la8, _⟩ := few_of fa
  obtain ⟨lb1, lb8, _⟩ := few_of fb
  clear hs ht fa fb
  go_enter Try.func81, Try.ntmps81
  go_wp2_with fail
  refine (usableN_any A a ca _ (by exact Sl.alloc HS.out _) (by omega)).mono ?_
  rintro e w1 ⟨rfl, hb1⟩
  rw [FA.out]
  have K1 := hide (show w1.heap[w.heap.size]? = some (.cells zero7 93 (0, 0)) from newB hb1)
  have B1 := hide (show Below w.heap.size w w1 from ((Below.refl _ _).alloc (Nat.le_refl _) _).trans (hb1.mono (by simp)))
  clear hb1
  go_wp2_with fail
  refine (usableN_any B b cb _ (HT.out.below B1.out) (by omega)).mono ?_
  rintro e w2 ⟨rfl, hb2⟩
  rw [FB.out]
  have K2 := hide ((hb2.block _ (blt K1.out)).trans K1.out)
  have B2 := hide (stepB hb2 B1.out)
  have y2 := blt K2.out
  clear hb2 K1 B1
  go_wp2_with fail
  refine (newList_any A a ca _ la1 la8).mono ?_
  rintro e w3 ⟨rfl, kL, yL, hb3⟩
  have KL := hide kL; have B3 := hide hb3
  clear kL hb3
  go_wp2_with fail
  refine (newList_any B b cb _ lb1 lb8).mono ?_
  rintro e w4 ⟨rfl, kR, yR, hb4⟩
  have KL4 := hide ((hb4.block _ yL).trans KL.out)
  have KR := hide kR; have B4 := hide (stepB hb4 B3.out)
  have zB4 := hb4.size
  have zB3 := B3.out.size
  clear kR hb4 KL B3
  go_wp2_with fail
  refine (run_any A B a b ca cb (w2.heap.size + 1) (w3.heap.size + 1) w4.heap.size rho m w2 _ (HS.out.below B2.out) (HT.out.below B2.out) FA.out FB.out r0 r1 hm (B4.out.alloc (by omega) _) (by omega) (by omega) (by omega) (by omega) (by omega) (by omega) ⟨new_at _ _ rfl, (Below.heap_alloc _ _ _ (by omega)).trans KL4.out, (Below.heap_alloc _ _ _ yR).trans KR.out⟩).mono ?_
  rintro e w5 ⟨rfl, ⟨kS, kL, kR⟩, hb5⟩
  obtain ⟨r, hr⟩ : ∃ r, searchN a b rho m = r := ⟨_, rfl⟩
  rw [hr] at kS kL kR ⊢
  have KL5 := hide kL; have KR5 := hide kR; have HRR := hide hr
  have K5 := hide ((hb5.block _ y2).trans K2.out)
  have B5 := hide (B2.out.trans (hb5.mono B2.out.size))
  have cS := blk_cell kS; simp only [stC] at cS
  have yS := blt kS
  have y5 := blt K5.out
  have cN := blk_cell K5.out; simp only [zero7] at cN
  have fN := blk_frozen K5.out
  have yL5 := blt kL; have yR5 := blt kR
  have zL : w.heap.size < w2.heap.size + 1 := by omega
  clear kS kL kR hb5 K2 B2 hr
  go_wp2_with fail
  refine bodyPost_ret (v := nearV r (w2.heap.size + 1) (w3.heap.size + 1) a.length b.length) (by simp [results, Try.results81, go_sem, cN, nearV]) rfl ?_
  have nL : w2.heap.size + 1 ≠ w.heap.size := by omega
  have nR : w3.heap.size + 1 ≠ w.heap.size := by omega
  rw [HRR.out]
  refine ⟨_, _, rfl, slN_of (t := 2) ?_, slN_of (t := 2) ?_, ?_⟩
  · exact ((((((((Below.heap_setCell _ _ _ _ nL).trans (Below.heap_setCell _ _ _ _ nL)).trans (Below.heap_setCell _ _ _ _ nL)).trans (Below.heap_setCell _ _ _ _ nL)).trans (Below.heap_setCell _ _ _ _ nL)).trans (Below.heap_setCell _ _ _ _ nL)).trans (Below.heap_setCell _ _ _ _ nL)).trans KL5.out)
  · exact ((((((((Below.heap_setCell _ _ _ _ nR).trans (Below.heap_setCell _ _ _ _ nR)).trans (Below.heap_setCell _ _ _ _ nR)).trans (Below.heap_setCell _ _ _ _ nR)).trans (Below.heap_setCell _ _ _ _ nR)).trans (Below.heap_setCell _ _ _ _ nR)).trans (Below.heap_setCell _ _ _ _ nR)).trans KR5.out)
  · exact ((((((B5.out.setCell (Nat.le_refl _) _).setCell (Nat.le_refl _) _).setCell (Nat.le_refl _) _).setCell (Nat.le_refl _) _).setCell (Nat.le_refl _) _).setCell (Nat.le_refl _) _).setCell (Nat.le_refl _) _
end Go.Proofs.Ytionbckpgfaneaa
