/- Walks of the search, part h: awake, SameNearest. -/
import Derived.Test.YtionbckpgfaneaaNf
import Derived.Test.YtionbckpgfaneaaNg
import Derived.Test.YtionbckpgfaneaaXc
namespace Go.Proofs.Ytionbckpgfaneaa
open Go.RowKit
set_option maxHeartbeats 4000000
set_option maxRecDepth 100000
attribute [local go_sem] eq47
def nv (r : Int × Nst) (gL gR na nb : Nat) : Array Value := #[.int .i64 r.1, .int .i64 r.2.N.x, .int .i64 r.2.N.y, .int .i64 r.2.N.z, .slice (some ⟨gL, 0, none⟩) na na, .slice (some ⟨gR, 0, none⟩) nb nb, .int .i64 r.2.k]
theorem few_one {v : V3} (h : Sm v) : fewB [v] = true := few_all (by simp) (by simp) (by intro x hx; simp at hx; subst hx; exact h.vok)
theorem norm10 : normF ⟨-10, 0, 0⟩ = 10 := by
  have e : normF ⟨-10, 0, 0⟩ = rootUp 100 := rfl
  rw [e]
  exact rootUp_eq ⟨by decide, by decide, fun _ => by decide⟩
theorem aw14a : (searchN [zeroV] [⟨10, 0, 0⟩] 3 5).1 = 1 ∧ (searchN [zeroV] [⟨10, 0, 0⟩] 3 5).2.N = ⟨-10, 0, 0⟩ := by
  have n0 : nOf [zeroV] [⟨10, 0, 0⟩] (startN [zeroV] [⟨10, 0, 0⟩]) = ⟨-10, 0, 0⟩ := by kernel_rfl
  have e : searchN [zeroV] [⟨10, 0, 0⟩] 3 5 = (1, atN [zeroV] [⟨10, 0, 0⟩] (startN [zeroV] [⟨10, 0, 0⟩])) := by
    unfold searchN
    refine runN_apart (by kernel_rfl) (by kernel_rfl) ?_
    unfold apartB
    rw [n0, norm10]
    kernel_rfl
  rw [e]
  exact ⟨rfl, n0⟩
theorem aw14b : (searchN [zeroV] [⟨10, 0, 0⟩] 10 5).1 = 2 := (search_points zeroV ⟨10, 0, 0⟩ 5 (by decide)).2.2 (by decide)
theorem newV {w : World} {g : Nat} (v : V3) (h : g = w.heap.size) : SlV (w.alloc (.cells #[.int .i64 v.x, .int .i64 v.y, .int .i64 v.z] 47)) (some ⟨g, 0, none⟩) [v] := by
  subst h
  exact Sl.newW w #[.int .i64 v.x, .int .i64 v.y, .int .i64 v.z] 47
/-- armplanlaw14.awake -/
theorem awake14 (w : World) : Calls Try.prog 79 #[] w fun e w' => e = .returned (.bool true) ∧ Below w.heap.size w w' := by
  have f0 := few_one (v := zeroV) (by unfold Sm zeroV; simp only; omega)
  have f1 := few_one (v := ⟨10, 0, 0⟩) (by unfold Sm; simp only; omega)
  have F0 := hide f0; have F1 := hide f1; clear f0 f1
  go_enter Try.func79, Try.ntmps79
  go_wp2_with fail
  have a1 : Below w.heap.size w ((w.alloc (.cells #[.int .i64 0, .int .i64 0, .int .i64 0] 47)).alloc (.cells #[.int .i64 10, .int .i64 0, .int .i64 0] 47)) := by go_grown
  refine (search_any (some ⟨w.heap.size, 0, none⟩) (some ⟨w.heap.size + 1, 0, none⟩) [zeroV] [⟨10, 0, 0⟩] 1 1 3 5 _ (Sl.alloc (newV zeroV rfl) _) (newV ⟨10, 0, 0⟩ (by simp)) F0.out F1.out (by decide) (by decide) (by decide)).mono ?_
  rintro e w1 ⟨gL, gR, rfl, _, _, hb1⟩
  unfold nearV
  rw [aw14a.1, aw14a.2]
  generalize (searchN [zeroV] [⟨10, 0, 0⟩] 3 5).2.k = k1
  have B1 := hide (stepB hb1 a1)
  clear hb1 a1
  go_wp2_with fail
  have a2 : Below w1.heap.size w1 (((w1.alloc (.cells #[.int .i64 1, .int .i64 (-10), .int .i64 0, .int .i64 0, .slice (some ⟨gL, 0, none⟩) 1 1, .slice (some ⟨gR, 0, none⟩) 1 1, .int .i64 k1] 93)).alloc (.cells #[.int .i64 0, .int .i64 0, .int .i64 0] 47)).alloc (.cells #[.int .i64 10, .int .i64 0, .int .i64 0] 47)) := by go_grown
  refine (search_any (some ⟨w1.heap.size + 1, 0, none⟩) (some ⟨w1.heap.size + 1 + 1, 0, none⟩) [zeroV] [⟨10, 0, 0⟩] 1 1 10 5 _ (Sl.alloc (newV zeroV (by simp)) _) (newV ⟨10, 0, 0⟩ (by simp)) F0.out F1.out (by decide) (by decide) (by decide)).mono ?_
  rintro e w2 ⟨hL, hR, rfl, _, _, hb2⟩
  unfold nearV
  rw [aw14b]
  generalize (searchN [zeroV] [⟨10, 0, 0⟩] 10 5).2.k = k2
  generalize (searchN [zeroV] [⟨10, 0, 0⟩] 10 5).2.N = n2
  have K1 := hide (show w2.heap[w1.heap.size]? = some (.cells #[.int .i64 1, .int .i64 (-10), .int .i64 0, .int .i64 0, .slice (some ⟨gL, 0, none⟩) 1 1, .slice (some ⟨gR, 0, none⟩) 1 1, .int .i64 k1] 93 (0, 0)) from (hb2.block _ (by simp; omega)).trans ((Below.heap_alloc _ _ _ (by simp; omega)).trans ((Below.heap_alloc _ _ _ (by simp)).trans (heap_alloc_new w1 _))))
  have B2 := hide (stepB (stepB hb2 a2) B1.out)
  clear hb2 a2
  have c1 := blk_cell K1.out
  have y1 := blt K1.out
  have q1 : eqV ⟨-10, 0, 0⟩ ⟨-10, 0, 0⟩ = true := by decide
  go_wp2_with fail
  go_ret
  exact ⟨rfl, by have := B2.out; exact this.alloc this.size _⟩
def SameArgs (k x y z s : Int) (A B A' B' : Option Addr) (na nb c d c' d' : Nat) : Array Value := #[.agg #[.int .i64 k, .int .i64 x, .int .i64 y, .int .i64 z, .slice A na c, .slice B nb d, .int .i64 s], .agg #[.int .i64 k, .int .i64 x, .int .i64 y, .int .i64 z, .slice A' na c', .slice B' nb d', .int .i64 s]]
/-- armplanmake.SameNearest, of equal results -/
theorem sameN_any (k x y z s : Int) (L R : List Int) (A B A' B' : Option Addr) (c d c' d' : Nat) (w : World) (h1 : SlN w A L) (h2 : SlN w B R) (h3 : SlN w A' L) (h4 : SlN w B' R) (lL : L.length ≤ 8) (lR : R.length ≤ 8) :
    Calls Try.prog 87 (SameArgs k x y z s A B A' B' L.length R.length c d c' d') w fun e w' => e = .returned (.bool true) ∧ Below w.heap.size w w' := by
  have H1 := hide h1; have H2 := hide h2; have H3 := hide h3; have H4 := hide h4
  clear h1 h2 h3 h4
  unfold SameArgs
  have e1 : (k == k) = true := by simp
  have e2 : eqV ⟨x, y, z⟩ ⟨x, y, z⟩ = true := by simp [eqV]
  have e3 : (s == s) = true := by simp
  go_enter Try.func87, Try.ntmps87
  go_wp2_with fail
  obtain ⟨w1, hw1⟩ : ∃ W, W = (w.alloc (.cells #[.int .i64 k, .int .i64 x, .int .i64 y, .int .i64 z, .slice A L.length c, .slice B R.length d, .int .i64 s] 93)).alloc (.cells #[.int .i64 k, .int .i64 x, .int .i64 y, .int .i64 z, .slice A' L.length c', .slice B' R.length d', .int .i64 s] 93) := ⟨_, rfl⟩
  rw [← hw1]
  have K1 := hide (show w1.heap[w.heap.size]? = some (.cells #[.int .i64 k, .int .i64 x, .int .i64 y, .int .i64 z, .slice A L.length c, .slice B R.length d, .int .i64 s] 93 (0, 0)) by rw [hw1]; exact (Below.heap_alloc _ _ _ (by simp)).trans (heap_alloc_new w _))
  have K2 := hide (show w1.heap[w.heap.size + 1]? = some (.cells #[.int .i64 k, .int .i64 x, .int .i64 y, .int .i64 z, .slice A' L.length c', .slice B' R.length d', .int .i64 s] 93 (0, 0)) by rw [hw1]; exact new_at _ _ (by simp))
  have B1 := hide (show Below w.heap.size w w1 by rw [hw1]; go_grown)
  clear hw1
  refine (same131 A A' L c c' _ (H1.out.below B1.out) (H3.out.below B1.out) lL).mono ?_
  rintro e w2 ⟨rfl, hb2⟩
  have K1' := hide ((hb2.block _ (blt K1.out)).trans K1.out); have K2' := hide ((hb2.block _ (blt K2.out)).trans K2.out)
  have B2 := hide (stepB hb2 B1.out)
  clear hb2 K1 K2 B1
  have c1 := blk_cell K1'.out; have c2 := blk_cell K2'.out
  have y1 := blt K1'.out; have y2 := blt K2'.out
  go_wp2_with fail
  refine (same131 B B' R d d' _ (H2.out.below B2.out) (H4.out.below B2.out) lR).mono ?_
  rintro e w3 ⟨rfl, hb3⟩
  have B3 := hide (stepB hb3 B2.out)
  clear hb3 c1 c2 y1 y2
  go_wp2_with fail
  go_ret
  exact ⟨rfl, B3.out⟩
/-- the same, the lengths named -/
theorem sameN2 (k x y z s : Int) (L R : List Int) (A B A' B' : Option Addr) (na nb c d c' d' : Nat) (w : World) (h1 : SlN w A L) (h2 : SlN w B R) (h3 : SlN w A' L) (h4 : SlN w B' R) (eL : L.length = na) (eR : R.length = nb) (lL : na ≤ 8) (lR : nb ≤ 8) :
    Calls Try.prog 87 #[.agg #[.int .i64 k, .int .i64 x, .int .i64 y, .int .i64 z, .slice A na c, .slice B nb d, .int .i64 s], .agg #[.int .i64 k, .int .i64 x, .int .i64 y, .int .i64 z, .slice A' na c', .slice B' nb d', .int .i64 s]] w fun e w' => e = .returned (.bool true) ∧ Below w.heap.size w w' := by
  subst eL; subst eR
  exact sameN_any k x y z s L R A B A' B' c d c' d' w h1 h2 h3 h4 lL lR
end Go.Proofs.Ytionbckpgfaneaa
