/- Walks of the normals, part p: the reference's FindNormal, the law's finds and lists. -/
import Derived.Test.YtionbckpgfaneaaQo
import Derived.Test.YtionbckpgfaneaaQe
import Derived.Test.YtionbckpgfaneaaQj
namespace Go.Proofs.Ytionbckpgfaneaa
open Go.RowKit
set_option maxHeartbeats 4000000
set_option maxRecDepth 100000
attribute [local go_sem] eq47
theorem findR_form (o : Option V3) : ∃ (n : V3) (t : Bool), findR o = .tuple #[.agg #[.int .i64 n.x, .int .i64 n.y, .int .i64 n.z], .bool t] := by
  cases o with
  | none => exact ⟨zeroV, false, rfl⟩
  | some n => exact ⟨n, true, rfl⟩
theorem meanR_form (a b : List IV) : ∃ (n : V3) (t : Bool), meanR a b = .tuple #[.agg #[.int .i64 n.x, .int .i64 n.y, .int .i64 n.z], .bool t] := by
  unfold meanR
  split
  · exact ⟨_, _, rfl⟩
  · exact ⟨zeroV, false, rfl⟩
/-- armplanref14.FindNormal -/
theorem findNormal_ref (A B H : Option Addr) (ca cb ch : Nat) (a b : List IV) (h : List V3) (ra rb : Int) (w : World) (sa : SlI w A a) (sb : SlI w B b) (sh : SlV w H h) (m1 : a.length ≤ 9223372036854775807) (m2 : b.length ≤ 9223372036854775807) (m3 : h.length ≤ 4000000) :
    Calls Try.prog 133 #[.slice A a.length ca, .int .i64 ra, .slice B b.length cb, .int .i64 rb, .slice H h.length ch] w fun e w' => e = .returned (findR (findN a ra b rb h)) ∧ Below w.heap.size w w' := by
  have HA := hide sa; have HB := hide sb; have HH := hide sh
  have CL := cands_len a b ra rb h
  clear sa sb sh
  go_enter Try.func133, Try.ntmps133
  go_wp2_with fail
  refine (candidates_ref A B H ca cb ch a b h ra rb _ (by exact Sl.alloc HA.out _) (by exact Sl.alloc HB.out _) (by exact Sl.alloc HH.out _) m1 m2 m3).mono ?_
  rintro e w1 ⟨Ac, cc, rfl, sc, hb1⟩
  have K1 := hide (show w1.heap[w.heap.size]? = some (.cells (vcs zeroV) 47 (0, 0)) from newB hb1)
  have B1 := hide (show Below w.heap.size w w1 from ((Below.refl _ _).alloc (Nat.le_refl _) _).trans (hb1.mono (by simp)))
  have FE := hide (show findN a ra b rb h = (cands a ra b rb h).find? (fun n => sepB n a ra b rb) from rfl)
  obtain ⟨L, hL⟩ : ∃ L, cands a ra b rb h = L := ⟨_, rfl⟩
  rw [hL] at sc CL FE ⊢
  have SC := hide sc
  clear hb1 sc hL
  go_wp2_with fail
  refine (first_ref Ac A B L a b ra rb cc ca cb _ SC.out (HA.out.below B1.out) (HB.out.below B1.out) (by omega) m1 m2).mono ?_
  rintro e w2 ⟨rfl, hb2⟩
  replace K1 := hide ((hb2.block _ (blt K1.out)).trans K1.out)
  have B2 := hide (stepB hb2 B1.out)
  replace SC := hide (SC.out.below hb2)
  clear hb2 B1
  have c1 := blk_cell K1.out; have f1 := blk_frozen K1.out; have y1 := blt K1.out
  simp only [vcs, zeroV] at c1
  rcases firstR_cases L a ra b rb with ⟨h1, h2⟩ | ⟨i, hi, h1, h2⟩
  · rw [h1]
    have HF := hide (FE.out.trans h2)
    clear h1 h2
    go_wp2_with fail
    refine bodyPost_ret (v := .tuple #[.agg #[.int .i64 0, .int .i64 0, .int .i64 0], .bool false]) (by simp [results, Try.results133, go_sem, c1]) rfl ⟨by rw [HF.out]; rfl, ?_⟩
    exact below3 B2.out (Nat.le_refl _) _ _ _
  · rw [h1]
    have HF := hide (FE.out.trans h2)
    clear h1 h2
    obtain ⟨bh, oh, rfl, ybh⟩ := SC.out.addr (by omega)
    obtain ⟨d0, d1, d2⟩ := SC.out.at_ hi
    have i0' : (0 : Int) ≤ (i : Int) := Int.natCast_nonneg _
    have i1 : (i : Int) < (L.length : Int) := by omega
    go_wp2_with fail
    refine bodyPost_ret (v := .tuple #[.agg #[.int .i64 L[i].x, .int .i64 L[i].y, .int .i64 L[i].z], .bool true]) (by simp [results, Try.results133, go_sem, c1]) rfl ⟨by rw [HF.out]; rfl, ?_⟩
    exact below3 B2.out (Nat.le_refl _) _ _ _
/-- armplanlaw17.finds -/
theorem finds_any (A B H : Option Addr) (ca cb ch : Nat) (a b : List IV) (h : List V3) (ra rb : Int) (w : World) (sa : SlI w A a) (sb : SlI w B b) (sh : SlV w H h) (m1 : a.length ≤ 9223372036854775807) (m2 : b.length ≤ 9223372036854775807) (m3 : h.length ≤ 4000000) :
    Calls Try.prog 90 #[.slice A a.length ca, .int .i64 ra, .slice B b.length cb, .int .i64 rb, .slice H h.length ch] w fun e w' => e = .returned (.bool true) ∧ Below w.heap.size w w' := by
  have HA := hide sa; have HB := hide sb; have HH := hide sh
  clear sa sb sh
  obtain ⟨n, t, hn⟩ := findR_form (findN a ra b rb h)
  have HN := hide hn
  clear hn
  go_enter Try.func90, Try.ntmps90
  go_wp2_with fail
  refine (find_any A B H ca cb ch a b h ra rb _ HA.out HB.out HH.out m1 m2 (by omega)).mono ?_
  rintro e w1 ⟨rfl, hb1⟩
  rw [HN.out]
  have B1 := hide hb1
  clear hb1
  go_wp2_with fail
  refine (findNormal_ref A B H ca cb ch a b h ra rb _ (Sl.alloc (HA.out.below B1.out) _) (Sl.alloc (HB.out.below B1.out) _) (Sl.alloc (HH.out.below B1.out) _) m1 m2 m3).mono ?_
  rintro e w2 ⟨rfl, hb2⟩
  rw [HN.out]
  have K2 := hide (show w2.heap[w1.heap.size]? = some (.cells (vcs n) 47 (0, 0)) from newB hb2)
  have B2 := hide (show Below w.heap.size w w2 from (B1.out.alloc B1.out.size _).trans (hb2.mono (by have := B1.out.size; simp; omega)))
  clear hb2 B1
  have c2 := blk_cell K2.out; have y2 := blt K2.out
  simp only [vcs] at c2
  have e1 : eqV ⟨n.x, n.y, n.z⟩ ⟨n.x, n.y, n.z⟩ = true := by simp [eqV]
  go_wp2_with fail
  go_ret
  exact ⟨by simp, B2.out.alloc B2.out.size _⟩
/-- armplanlaw17.lists -/
theorem lists_any (A B H : Option Addr) (ca cb ch : Nat) (a b : List IV) (h : List V3) (ra rb : Int) (w : World) (sa : SlI w A a) (sb : SlI w B b) (sh : SlV w H h) (m1 : a.length ≤ 9223372036854775807) (m2 : b.length ≤ 9223372036854775807) (m3 : h.length ≤ 4000000) :
    Calls Try.prog 98 #[.slice A a.length ca, .int .i64 ra, .slice B b.length cb, .int .i64 rb, .slice H h.length ch] w fun e w' => e = .returned (.bool true) ∧ Below w.heap.size w w' := by
  have HA := hide sa; have HB := hide sb; have HH := hide sh
  have CL := cands_len a b ra rb h
  clear sa sb sh
  obtain ⟨n, t, hn⟩ := meanR_form a b
  have HN := hide hn
  clear hn
  go_enter Try.func98, Try.ntmps98
  go_wp2_with fail
  refine (mean_any A B a b ca cb _ HA.out HB.out m1 m2).mono ?_
  rintro e w1 ⟨rfl, hb1⟩
  rw [HN.out]
  have B1 := hide hb1
  clear hb1
  go_wp2_with fail
  refine (mean_ref A B a b ca cb _ (Sl.alloc (HA.out.below B1.out) _) (Sl.alloc (HB.out.below B1.out) _) m1 m2).mono ?_
  rintro e w2 ⟨rfl, hb2⟩
  rw [HN.out]
  have K2 := hide (show w2.heap[w1.heap.size]? = some (.cells (vcs n) 47 (0, 0)) from newB hb2)
  have B2 := hide (show Below w.heap.size w w2 from (B1.out.alloc B1.out.size _).trans (hb2.mono (by have := B1.out.size; simp; omega)))
  have z2 := B2.out.size
  clear hb2 B1
  have c2 := blk_cell K2.out; have y2 := blt K2.out
  simp only [vcs] at c2
  have e1 : eqV ⟨n.x, n.y, n.z⟩ ⟨n.x, n.y, n.z⟩ = true := by simp [eqV]
  have e2 : (t == t) = true := by simp
  obtain ⟨w3, hw3⟩ : ∃ W, W = w2.alloc (.cells #[.int .i64 n.x, .int .i64 n.y, .int .i64 n.z] 47) := ⟨_, rfl⟩
  have B3 := hide (show Below w.heap.size w w3 by rw [hw3]; exact B2.out.alloc z2 _)
  have z3 := B3.out.size
  go_wp2_with fail
  rw [← hw3]
  clear hw3 c2 y2
  refine (candidates_any A B H ca cb ch a b h ra rb _ (HA.out.below B3.out) (HB.out.below B3.out) (HH.out.below B3.out) m1 m2 m3).mono ?_
  rintro e w4 ⟨Ac, cc, rfl, sc, hb4⟩
  have SC := hide sc
  have B4 := hide (stepB hb4 B3.out)
  clear sc hb4
  go_wp2_with fail
  refine (candidates_ref A B H ca cb ch a b h ra rb _ (HA.out.below B4.out) (HB.out.below B4.out) (HH.out.below B4.out) m1 m2 m3).mono ?_
  rintro e w5 ⟨Ad, cd, rfl, sd, hb5⟩
  replace SC := hide (SC.out.below hb5)
  have SD := hide sd
  have B5 := hide (stepB hb5 B4.out)
  clear sd hb5
  go_wp2_with fail
  refine (same95 Ac Ad (cands a ra b rb h) cc cd _ SC.out SD.out (by omega)).mono ?_
  rintro e w6 ⟨rfl, hb6⟩
  have B6 := hide (stepB hb6 B5.out)
  clear hb6
  go_wp2_with fail
  go_ret
  exact ⟨by simp, B6.out⟩
end Go.Proofs.Ytionbckpgfaneaa
