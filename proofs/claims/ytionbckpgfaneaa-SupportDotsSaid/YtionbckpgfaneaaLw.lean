/- SupportDots, walked. -/
import Derived.Test.YtionbckpgfaneaaWx
import Derived.Test.YtionbckpgfaneaaWy
import Derived.Deep.DeepCutAuto
namespace Go.Proofs.Ytionbckpgfaneaa
open Go.RowKit
set_option maxHeartbeats 16000000
set_option maxRecDepth 100000
theorem below_step {w X w2 : World} (h : Below X.heap.size X w2) (h0 : Below w.heap.size w X) : Below w.heap.size w w2 := h0.trans (h.mono h0.size)
theorem below_cells {X w2 : World} (h : Below X.heap.size X w2) : ∀ (g : Nat) (i : Nat), g < X.heap.size → w2.cell? ⟨g, i, none⟩ = X.cell? ⟨g, i, none⟩ := by
  intro g i hg
  have := h.block g hg
  simp [World.cell?, this]
theorem below_frozen {X w2 : World} (h : Below X.heap.size X w2) : ∀ (g : Nat) (i : Nat), g < X.heap.size → w2.frozen? ⟨g, i, none⟩ = X.frozen? ⟨g, i, none⟩ := by
  intro g i hg
  have := h.block g hg
  simp [World.frozen?, this]
theorem kn1 {w w' : World} {o : Obj} (hb : Below (w.alloc o).heap.size (w.alloc o) w') : w'.heap[w.heap.size]? = some o := (hb.block _ (by simp)).trans (new_at _ _ rfl)
theorem kn2a {w w' : World} {o o' : Obj} (hb : Below ((w.alloc o).alloc o').heap.size ((w.alloc o).alloc o') w') : w'.heap[w.heap.size]? = some o := (hb.block _ (by simp; omega)).trans ((Below.heap_alloc _ _ _ (by simp)).trans (new_at _ _ rfl))
theorem kn2b {w w' : World} {o o' : Obj} (hb : Below ((w.alloc o).alloc o').heap.size ((w.alloc o).alloc o') w') : w'.heap[w.heap.size + 1]? = some o' := (hb.block _ (by simp)).trans (new_at _ _ (by simp))
theorem kn1d {w w' : World} {o : Obj} (hb : Below (w.alloc o).drew.heap.size (w.alloc o).drew w') : w'.heap[w.heap.size]? = some o := (hb.block _ (by simp)).trans (new_at _ _ rfl)
theorem kn2ad {w w' : World} {o o' : Obj} (hb : Below ((w.alloc o).alloc o').drew.heap.size ((w.alloc o).alloc o').drew w') : w'.heap[w.heap.size]? = some o := (hb.block _ (by simp; omega)).trans (show ((w.alloc o).alloc o').heap[w.heap.size]? = some o from (Below.heap_alloc _ _ _ (by simp)).trans (new_at _ _ rfl))
theorem kn2bd {w w' : World} {o o' : Obj} (hb : Below ((w.alloc o).alloc o').drew.heap.size ((w.alloc o).alloc o').drew w') : w'.heap[w.heap.size + 1]? = some o' := (hb.block _ (by simp)).trans (show ((w.alloc o).alloc o').heap[w.heap.size + 1]? = some o' from new_at _ _ (by simp))
theorem lt_of_some {w : World} {g : Nat} {o : Obj} (h : w.heap[g]? = some o) : g < w.heap.size := by
  obtain ⟨h, _⟩ := Array.getElem?_eq_some_iff.mp h
  exact h
abbrev DRel (w1 : World) (s13 s14 : Value) (wx : World) : Prop := ∃ (g h : Nat) (n : V3) (p : IV), s13 = .pointer (some ⟨g, 0, none⟩) ∧ s14 = .pointer (some ⟨h, 0, none⟩) ∧ Below w1.heap.size w1 wx ∧ wx.heap[g]? = some (.cells #[.int .i64 n.x, .int .i64 n.y, .int .i64 n.z] 47 (0, 0)) ∧ wx.heap[h]? = some (.cells #[.int .i64 p.x.lo, .int .i64 p.x.hi, .int .i64 p.y.lo, .int .i64 p.y.hi, .int .i64 p.z.lo, .int .i64 p.z.hi] 44 (0, 0))
theorem fA {w1 w3 : World} (G : Below w1.heap.size w1 w3) (n : V3) (p : IV) : DRel w1 (.pointer (some ⟨w3.heap.size, 0, none⟩)) (.pointer (some ⟨w3.heap.size + 1, 0, none⟩)) ((w3.alloc (.cells #[.int .i64 n.x, .int .i64 n.y, .int .i64 n.z] 47)).alloc (.cells #[.int .i64 p.x.lo, .int .i64 p.x.hi, .int .i64 p.y.lo, .int .i64 p.y.hi, .int .i64 p.z.lo, .int .i64 p.z.hi] 44)) :=
  ⟨_, _, n, p, rfl, rfl, (G.alloc G.size _).alloc (Nat.le_trans G.size (by simp)) _, (Below.heap_alloc _ _ _ (by simp)).trans (new_at _ _ rfl), new_at _ _ (by simp)⟩
theorem fB {w1 w3 : World} (G : Below w1.heap.size w1 w3) (n : V3) (p : IV) : DRel w1 (.pointer (some ⟨w3.heap.size + 1, 0, none⟩)) (.pointer (some ⟨w3.heap.size, 0, none⟩)) ((w3.alloc (.cells #[.int .i64 p.x.lo, .int .i64 p.x.hi, .int .i64 p.y.lo, .int .i64 p.y.hi, .int .i64 p.z.lo, .int .i64 p.z.hi] 44)).alloc (.cells #[.int .i64 n.x, .int .i64 n.y, .int .i64 n.z] 47)) :=
  ⟨_, _, n, p, rfl, rfl, (G.alloc G.size _).alloc (Nat.le_trans G.size (by simp)) _, new_at _ _ (by simp), (Below.heap_alloc _ _ _ (by simp)).trans (new_at _ _ rfl)⟩
theorem fC {w1 w3 : World} (G : Below w1.heap.size w1 w3) (n : V3) (p : IV) {b : Nat} (K : w3.heap[b]? = some (.cells #[.int .i64 0, .int .i64 0, .int .i64 0] 47 (0, 0))) (o : w1.heap.size ≤ b) : DRel w1 (.pointer (some ⟨b, 0, none⟩)) (.pointer (some ⟨w3.heap.size, 0, none⟩)) ((((w3.setCell ⟨b, 0, none⟩ (.int .i64 n.x)).setCell ⟨b, 1, none⟩ (.int .i64 n.y)).setCell ⟨b, 2, none⟩ (.int .i64 n.z)).alloc (.cells #[.int .i64 p.x.lo, .int .i64 p.x.hi, .int .i64 p.y.lo, .int .i64 p.y.hi, .int .i64 p.z.lo, .int .i64 p.z.hi] 44)) :=
  ⟨_, _, n, p, rfl, rfl, ((((G).setCell o _).setCell o _).setCell o _).alloc (by simpa [World.setCell] using G.size) _, (Below.heap_alloc _ _ _ (by simpa [World.setCell] using lt_of_some K)).trans (blk_set (blk_set (blk_set (K) 0 _) 1 _) 2 _), new_at _ _ (by simp [World.setCell])⟩
theorem fE {w1 w3 : World} (G : Below w1.heap.size w1 w3) (n : V3) (p : IV) {b : Nat} (K : w3.heap[b]? = some (.cells #[.int .i64 0, .int .i64 0, .int .i64 0, .int .i64 0, .int .i64 0, .int .i64 0] 44 (0, 0))) (o : w1.heap.size ≤ b) : DRel w1 (.pointer (some ⟨w3.heap.size, 0, none⟩)) (.pointer (some ⟨b, 0, none⟩)) (((((((w3.setCell ⟨b, 0, none⟩ (.int .i64 p.x.lo)).setCell ⟨b, 1, none⟩ (.int .i64 p.x.hi)).setCell ⟨b, 2, none⟩ (.int .i64 p.y.lo)).setCell ⟨b, 3, none⟩ (.int .i64 p.y.hi)).setCell ⟨b, 4, none⟩ (.int .i64 p.z.lo)).setCell ⟨b, 5, none⟩ (.int .i64 p.z.hi)).alloc (.cells #[.int .i64 n.x, .int .i64 n.y, .int .i64 n.z] 47)) :=
  ⟨_, _, n, p, rfl, rfl, (((((((G).setCell o _).setCell o _).setCell o _).setCell o _).setCell o _).setCell o _).alloc (by simpa [World.setCell] using G.size) _, new_at _ _ (by simp [World.setCell]), (Below.heap_alloc _ _ _ (by simpa [World.setCell] using lt_of_some K)).trans (blk_set (blk_set (blk_set (blk_set (blk_set (blk_set (K) 0 _) 1 _) 2 _) 3 _) 4 _) 5 _)⟩
theorem fD {w1 w3 : World} (G : Below w1.heap.size w1 w3) (n : V3) (p : IV) {b c : Nat} (K : w3.heap[b]? = some (.cells #[.int .i64 0, .int .i64 0, .int .i64 0] 47 (0, 0))) (L : w3.heap[c]? = some (.cells #[.int .i64 0, .int .i64 0, .int .i64 0, .int .i64 0, .int .i64 0, .int .i64 0] 44 (0, 0))) (o : w1.heap.size ≤ b) (o' : w1.heap.size ≤ c) : DRel w1 (.pointer (some ⟨b, 0, none⟩)) (.pointer (some ⟨c, 0, none⟩)) ((((((((((w3.setCell ⟨b, 0, none⟩ (.int .i64 n.x)).setCell ⟨b, 1, none⟩ (.int .i64 n.y)).setCell ⟨b, 2, none⟩ (.int .i64 n.z)).setCell ⟨c, 0, none⟩ (.int .i64 p.x.lo)).setCell ⟨c, 1, none⟩ (.int .i64 p.x.hi)).setCell ⟨c, 2, none⟩ (.int .i64 p.y.lo)).setCell ⟨c, 3, none⟩ (.int .i64 p.y.hi)).setCell ⟨c, 4, none⟩ (.int .i64 p.z.lo)).setCell ⟨c, 5, none⟩ (.int .i64 p.z.hi))) := by
  have d : b ≠ c := fun e => by rw [e, L] at K; simp at K
  exact ⟨_, _, n, p, rfl, rfl, (((((((((G).setCell o _).setCell o _).setCell o _).setCell o' _).setCell o' _).setCell o' _).setCell o' _).setCell o' _).setCell o' _, (Below.heap_setCell _ _ _ _ d).trans ((Below.heap_setCell _ _ _ _ d).trans ((Below.heap_setCell _ _ _ _ d).trans ((Below.heap_setCell _ _ _ _ d).trans ((Below.heap_setCell _ _ _ _ d).trans ((Below.heap_setCell _ _ _ _ d).trans (blk_set (blk_set (blk_set (K) 0 _) 1 _) 2 _)))))), blk_set (blk_set (blk_set (blk_set (blk_set (blk_set ((Below.heap_setCell _ _ _ _ (Ne.symm d)).trans ((Below.heap_setCell _ _ _ _ (Ne.symm d)).trans ((Below.heap_setCell _ _ _ _ (Ne.symm d)).trans (L)))) 0 _) 1 _) 2 _) 3 _) 4 _) 5 _⟩
theorem supportDots_walk (v : V3) (u : IV) (x y z : Int) (l : List Int) (A5 : Option Addr) (c5 : Nat) (w : World) (hs5 : SlN w A5 l) (m5 : l.length ≤ 9223372036854775807) :
    Calls Try.prog 10 #[.agg #[.int .i64 v.x, .int .i64 v.y, .int .i64 v.z], .agg #[.int .i64 u.x.lo, .int .i64 u.x.hi, .int .i64 u.y.lo, .int .i64 u.y.hi, .int .i64 u.z.lo, .int .i64 u.z.hi], .int .i64 x, .int .i64 y, .int .i64 z, .slice A5 l.length c5] w fun e w' => e = .returned (.bool true) ∧ Below w.heap.size w w' := by
  have S5 := hide hs5; clear hs5
  obtain ⟨i0, hi0, hz0, hz1, hz2⟩ := info_parts info44
  go_enter Try.func10, Try.ntmps10
  go_upto_region 1 with fail
  obtain ⟨w1, hw1⟩ : ∃ W, W = ((w.alloc (.cells #[.int .i64 v.x, .int .i64 v.y, .int .i64 v.z] 47)).alloc (.cells #[.int .i64 u.x.lo, .int .i64 u.x.hi, .int .i64 u.y.lo, .int .i64 u.y.hi, .int .i64 u.z.lo, .int .i64 u.z.hi] 44)) := ⟨_, rfl⟩
  rw [← hw1]
  have hb1 : Below w.heap.size w w1 := by rw [hw1]; go_grown
  have KV := hide (show w1.heap[w.heap.size]? = some (.cells #[.int .i64 v.x, .int .i64 v.y, .int .i64 v.z] 47 (0, 0)) by rw [hw1]; exact (Below.heap_alloc _ _ _ (by simp)).trans (new_at _ _ (by simp)))
  have KU := hide (show w1.heap[w.heap.size + 1]? = some (.cells #[.int .i64 u.x.lo, .int .i64 u.x.hi, .int .i64 u.y.lo, .int .i64 u.y.hi, .int .i64 u.z.lo, .int .i64 u.z.hi] 44 (0, 0)) by rw [hw1]; exact new_at _ _ (by simp))
  have yV : w.heap.size < w1.heap.size := by rw [hw1]; simp; omega
  have yU : w.heap.size + 1 < w1.heap.size := by rw [hw1]; simp
  replace S5 := hide (S5.out.below hb1)
  have B1 := hide hb1
  clear hw1 hb1
  go_cut [13, 14] (fun s13 s14 wx => DRel w1 s13 s14 wx)
  case first =>
    go_region_with (first | (go_at_call 55; refine (mkNormal_any x y z _).mono ?_; rintro e w2 ⟨n, hu, rfl, hb2⟩; unfold V3.v; have G2 := hide (below_step (w := w1) hb2 (by go_grown)); (first | (have K13 : w2.heap[w1.heap.size]? = some (.cells #[.int .i64 0, .int .i64 0, .int .i64 0] 47 (0, 0)) := kn1 hb2) | (have K13 : w2.heap[w1.heap.size]? = some (.cells #[.int .i64 0, .int .i64 0, .int .i64 0] 47 (0, 0)) := kn1d hb2) | (have K13 : w2.heap[w1.heap.size]? = some (.cells #[.int .i64 0, .int .i64 0, .int .i64 0] 47 (0, 0)) := kn2a hb2) | (have K13 : w2.heap[w1.heap.size]? = some (.cells #[.int .i64 0, .int .i64 0, .int .i64 0] 47 (0, 0)) := kn2ad hb2) | skip); (first | (have K13 : w2.heap[w1.heap.size + 1]? = some (.cells #[.int .i64 0, .int .i64 0, .int .i64 0] 47 (0, 0)) := kn2b hb2) | (have K13 : w2.heap[w1.heap.size + 1]? = some (.cells #[.int .i64 0, .int .i64 0, .int .i64 0] 47 (0, 0)) := kn2bd hb2) | skip); (first | (have K14 : w2.heap[w1.heap.size]? = some (.cells #[.int .i64 0, .int .i64 0, .int .i64 0, .int .i64 0, .int .i64 0, .int .i64 0] 44 (0, 0)) := kn1 hb2) | (have K14 : w2.heap[w1.heap.size]? = some (.cells #[.int .i64 0, .int .i64 0, .int .i64 0, .int .i64 0, .int .i64 0, .int .i64 0] 44 (0, 0)) := kn1d hb2) | (have K14 : w2.heap[w1.heap.size]? = some (.cells #[.int .i64 0, .int .i64 0, .int .i64 0, .int .i64 0, .int .i64 0, .int .i64 0] 44 (0, 0)) := kn2a hb2) | (have K14 : w2.heap[w1.heap.size]? = some (.cells #[.int .i64 0, .int .i64 0, .int .i64 0, .int .i64 0, .int .i64 0, .int .i64 0] 44 (0, 0)) := kn2ad hb2) | skip); (first | (have K14 : w2.heap[w1.heap.size + 1]? = some (.cells #[.int .i64 0, .int .i64 0, .int .i64 0, .int .i64 0, .int .i64 0, .int .i64 0] 44 (0, 0)) := kn2b hb2) | (have K14 : w2.heap[w1.heap.size + 1]? = some (.cells #[.int .i64 0, .int .i64 0, .int .i64 0, .int .i64 0, .int .i64 0, .int .i64 0] 44 (0, 0)) := kn2bd hb2) | skip); (try (have y13 := lt_of_some K13; have q13 := blk_cell K13; have r13 := blk_frozen K13)); (try (have y14 := lt_of_some K14; have q14 := blk_cell K14; have r14 := blk_frozen K14)); have z2 := hb2.size; clear hb2 hu) | (go_at_call 41; go_loud (refine (points_any A5 l c5 3000 _ (S5.out.below (below_step (by go_grown) G2.out)) m5 (by omega) (by omega)).mono ?_; rintro e w3 ⟨v3, pts, rfl, l1, l5, ok, ho, hb3⟩; obtain ⟨A6, c6, rfl, _, _, hbase⟩ := own_val ho; have S6 := own_sl ho; obtain ⟨b6, o6, rfl, y6⟩ := SlI.addr S6 (by omega); have l3 := (hbase b6 o6 rfl).1; obtain ⟨d0, d1, d2, d3, d4, d5⟩ := SlI.at_ (k := 0) S6 (by omega); obtain ⟨p, hp⟩ : ∃ p, p = pts[0]'(by omega) := ⟨_, rfl⟩; rw [← hp] at d0 d1 d2 d3 d4 d5; simp only [Nat.zero_mul, Nat.add_zero] at d0 d1 d2 d3 d4 d5; have G3 := hide (below_step (below_step (w := w2) hb3 (by go_grown)) G2.out); have b23 := below_step (w := w2) hb3 (by go_grown); (try (replace K13 := (b23.block _ y13).trans K13; replace y13 := Nat.lt_of_lt_of_le y13 b23.size)); (try (replace K14 := (b23.block _ y14).trans K14; replace y14 := Nat.lt_of_lt_of_le y14 b23.size)); (first | (have K13 : w3.heap[w2.heap.size]? = some (.cells #[.int .i64 0, .int .i64 0, .int .i64 0] 47 (0, 0)) := kn1 hb3) | (have K13 : w3.heap[w2.heap.size]? = some (.cells #[.int .i64 0, .int .i64 0, .int .i64 0] 47 (0, 0)) := kn2a hb3) | skip); (first | (have K13 : w3.heap[w2.heap.size + 1]? = some (.cells #[.int .i64 0, .int .i64 0, .int .i64 0] 47 (0, 0)) := kn2b hb3) | skip); (first | (have K14 : w3.heap[w2.heap.size]? = some (.cells #[.int .i64 0, .int .i64 0, .int .i64 0, .int .i64 0, .int .i64 0, .int .i64 0] 44 (0, 0)) := kn1 hb3) | (have K14 : w3.heap[w2.heap.size]? = some (.cells #[.int .i64 0, .int .i64 0, .int .i64 0, .int .i64 0, .int .i64 0, .int .i64 0] 44 (0, 0)) := kn2a hb3) | skip); (first | (have K14 : w3.heap[w2.heap.size + 1]? = some (.cells #[.int .i64 0, .int .i64 0, .int .i64 0, .int .i64 0, .int .i64 0, .int .i64 0] 44 (0, 0)) := kn2b hb3) | skip); (try (have y13 := lt_of_some K13; have q13 := blk_cell K13; have r13 := blk_frozen K13)); (try (have y14 := lt_of_some K14; have q14 := blk_cell K14; have r14 := blk_frozen K14)); have z3 := hb3.size; have ll3 := l3; (try (simp at ll3)); have zz2 := z2; (try (simp at zz2)); (try (have n1 : b6 ≠ w2.heap.size := by omega)); (try (have n2 : b6 ≠ w2.heap.size + 1 := by omega)); (try (have n3 : b6 ≠ w1.heap.size := by omega)); (try (have n4 : b6 ≠ w1.heap.size + 1 := by omega)); (try (have n5 : w2.heap.size ≠ w1.heap.size := by omega)); (try (have n6 : w1.heap.size ≠ w2.heap.size := by omega)); (try (have n7 : w2.heap.size + 1 ≠ w1.heap.size := by omega)); clear ll3 zz2; clear hb3 b23 ok ho S6 hbase hp)))
    all_goals
      go_wp2_with fail
      go_meet
      case rel =>
        first
          | with_reducible exact fA G3.out n p
          | with_reducible exact fB G3.out n p
          | with_reducible exact fC G3.out n p K13 (by first | omega | (have q := z2; simp at q; omega))
          | with_reducible exact fE G3.out n p K14 (by first | omega | (have q := z2; simp at q; omega))
          | with_reducible exact fD G3.out n p K13 K14 (by first | omega | (have q := z2; simp at q; omega)) (by first | omega | (have q := z2; simp at q; omega))
  case rest =>
    obtain ⟨g, h, n, p, rfl, rfl, hB, kG, kH⟩ := hcut
    have KG := hide kG; have KH := hide kH
    have KV2 := hide ((hB.block _ yV).trans KV.out); have KU2 := hide ((hB.block _ yU).trans KU.out)
    have B2 := hide (B1.out.trans (hB.mono B1.out.size))
    clear kG kH hB
    go_wp2_with fail
    refine (awake13 _).mono ?_
    rintro e v1 ⟨rfl, hb⟩
    have KG3 := hide ((hb.block _ (lt_of_some KG.out)).trans KG.out); have yKG3 := lt_of_some KG3.out; have cKG3 := blk_cell KG3.out
    have KH3 := hide ((hb.block _ (lt_of_some KH.out)).trans KH.out); have yKH3 := lt_of_some KH3.out; have cKH3 := blk_cell KH3.out
    have KV23 := hide ((hb.block _ (lt_of_some KV2.out)).trans KV2.out); have yKV23 := lt_of_some KV23.out; have cKV23 := blk_cell KV23.out
    have KU23 := hide ((hb.block _ (lt_of_some KU2.out)).trans KU2.out); have yKU23 := lt_of_some KU23.out; have cKU23 := blk_cell KU23.out
    have B3 := hide (B2.out.trans (hb.mono B2.out.size)); clear hb
    go_wp2_with fail
    clear cKG3 yKG3 cKH3 yKH3 cKV23 yKV23 cKU23 yKU23
    refine (dots_any v u _).mono ?_
    rintro e v2 ⟨rfl, hb⟩
    have KG4 := hide ((hb.block _ (lt_of_some KG3.out)).trans KG3.out); have yKG4 := lt_of_some KG4.out; have cKG4 := blk_cell KG4.out
    have KH4 := hide ((hb.block _ (lt_of_some KH3.out)).trans KH3.out); have yKH4 := lt_of_some KH4.out; have cKH4 := blk_cell KH4.out
    have KV24 := hide ((hb.block _ (lt_of_some KV23.out)).trans KV23.out); have yKV24 := lt_of_some KV24.out; have cKV24 := blk_cell KV24.out
    have KU24 := hide ((hb.block _ (lt_of_some KU23.out)).trans KU23.out); have yKU24 := lt_of_some KU24.out; have cKU24 := blk_cell KU24.out
    have B4 := hide (B3.out.trans (hb.mono B3.out.size)); clear hb
    go_wp2_with fail
    clear cKG4 yKG4 cKH4 yKH4 cKV24 yKV24 cKU24 yKU24
    refine (dots_any n p _).mono ?_
    rintro e v3 ⟨rfl, hb⟩
    have KG5 := hide ((hb.block _ (lt_of_some KG4.out)).trans KG4.out); have yKG5 := lt_of_some KG5.out; have cKG5 := blk_cell KG5.out
    have KH5 := hide ((hb.block _ (lt_of_some KH4.out)).trans KH4.out); have yKH5 := lt_of_some KH5.out; have cKH5 := blk_cell KH5.out
    have KV25 := hide ((hb.block _ (lt_of_some KV24.out)).trans KV24.out); have yKV25 := lt_of_some KV25.out; have cKV25 := blk_cell KV25.out
    have KU25 := hide ((hb.block _ (lt_of_some KU24.out)).trans KU24.out); have yKU25 := lt_of_some KU25.out; have cKU25 := blk_cell KU25.out
    have B5 := hide (B4.out.trans (hb.mono B4.out.size)); clear hb
    go_wp2_with fail
    clear cKG5 yKG5 cKH5 yKH5 cKV25 yKV25 cKU25 yKU25
    refine (dots_any n u _).mono ?_
    rintro e v4 ⟨rfl, hb⟩
    have KG6 := hide ((hb.block _ (lt_of_some KG5.out)).trans KG5.out); have yKG6 := lt_of_some KG6.out; have cKG6 := blk_cell KG6.out
    have KH6 := hide ((hb.block _ (lt_of_some KH5.out)).trans KH5.out); have yKH6 := lt_of_some KH6.out; have cKH6 := blk_cell KH6.out
    have KV26 := hide ((hb.block _ (lt_of_some KV25.out)).trans KV25.out); have yKV26 := lt_of_some KV26.out; have cKV26 := blk_cell KV26.out
    have KU26 := hide ((hb.block _ (lt_of_some KU25.out)).trans KU25.out); have yKU26 := lt_of_some KU26.out; have cKU26 := blk_cell KU26.out
    have B6 := hide (B5.out.trans (hb.mono B5.out.size)); clear hb
    go_wp2_with fail
    clear cKG6 yKG6 cKH6 yKH6 cKV26 yKV26 cKU26 yKU26
    refine (dots_any v p _).mono ?_
    rintro e v5 ⟨rfl, hb⟩
    have KG7 := hide ((hb.block _ (lt_of_some KG6.out)).trans KG6.out); have yKG7 := lt_of_some KG7.out; have cKG7 := blk_cell KG7.out
    have KH7 := hide ((hb.block _ (lt_of_some KH6.out)).trans KH6.out); have yKH7 := lt_of_some KH7.out; have cKH7 := blk_cell KH7.out
    have KV27 := hide ((hb.block _ (lt_of_some KV26.out)).trans KV26.out); have yKV27 := lt_of_some KV27.out; have cKV27 := blk_cell KV27.out
    have KU27 := hide ((hb.block _ (lt_of_some KU26.out)).trans KU26.out); have yKU27 := lt_of_some KU27.out; have cKU27 := blk_cell KU27.out
    have B7 := hide (B6.out.trans (hb.mono B6.out.size)); clear hb
    go_wp2_with fail
    go_ret
    exact ⟨rfl, B7.out⟩
end Go.Proofs.Ytionbckpgfaneaa
