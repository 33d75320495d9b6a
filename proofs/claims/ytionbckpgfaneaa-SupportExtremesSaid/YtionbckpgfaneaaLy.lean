/- SupportExtremes, walked. -/
import Derived.Test.YtionbckpgfaneaaVf
import Derived.Test.YtionbckpgfaneaaWx
import Derived.Test.YtionbckpgfaneaaWy
import Derived.ArgAppend
import Derived.Laws.OwnMore
import Derived.Deep.RegionHeld3
import Derived.Deep.AppendLies
import Derived.Deep.DrawnRows
namespace Go.Proofs.Ytionbckpgfaneaa
open Go.RowKit
set_option maxHeartbeats 8000000
set_option maxRecDepth 100000
/-- append onto an owned slice: the old slice reads as before -/
theorem run_append_old {P : Program} (w : World) (base : Nat) (t ty e : TypeId) (i : TypeInfo) (z : Value) (size bytes : Nat) (ht : P.underlying t = some (.slice e)) (hi : P.info? e = some i) (hz : i.zero = some z)
    (hsize : i.size = size) (hby : i.bytes = bytes) (hzs : z.cells.size = size) (hsz : 0 < size) (g n cap : Nat) (xs : List Value) (hown : w.ownsRow base e size (.slice (some ⟨g, 0, none⟩) n cap) n xs)
    (a : Addr) (m c : Nat) (news : List Value) (hl : news.length = m * size) (hnews : ∀ j u, news[j]? = some u → w.cell? (a.add j) = some u) (h1 : ∀ u ∈ news, u.oneCell' = true)
    (h63 : n + m ≤ maxLen) (hbytes : (n + m) * bytes ≤ 140737488355328) (hn : 0 < n) :
    ∃ (A' : Option Addr) (c' : Nat) (w' : World), (Builtin.append_ #[t, t] ty #[.slice (some ⟨g, 0, none⟩) n cap, .slice (some a) m c]).run P w = .ok (.slice A' (n + m) c') w' ∧ Sl w' A' (xs ++ news) ∧ Sl w' (some ⟨g, 0, none⟩) xs ∧ w.grownBy w' (some g) := by
  have hxl : xs.length = n * size := hown.1
  by_cases hroom : n + m ≤ cap
  · obtain ⟨w', hr, ho, hg⟩ := run_append_fits (P := P) w base t ty e i size ht hi hsize g n cap xs hown a m c news hl hnews h1 hroom
    have hS := own_sl ho
    refine ⟨_, _, w', hr, hS, fun hx => ?_, hg⟩
    obtain ⟨b, off, e1, hb, hc⟩ := hS (by simp [hx])
    injection e1 with e1
    injection e1 with e2 e3 _
    subst e2; subst e3
    refine ⟨_, _, rfl, hb, fun j u hu => hc j u ?_⟩
    rw [List.getElem?_append_left ((List.getElem?_eq_some_iff.1 hu).1)]
    exact hu
  · have hS := own_sl hown
    have hne : xs ≠ [] := by
      intro h
      rw [h] at hxl
      have := Nat.mul_pos hn hsz
      simp at hxl
      omega
    obtain ⟨b, off, e1, hb, hc⟩ := hS hne
    injection e1 with e1
    injection e1 with e2 e3 _
    subst e2; subst e3
    obtain ⟨v', w', hr, ho, hg⟩ := run_append_arg_grows (P := P) w t ty e i z size bytes ht hi hz hsize hby hzs hsz ⟨g, 0, none⟩ n cap xs hxl (fun j u hu => by
      have e : ((⟨g, 0, none⟩ : Addr).add j) = ⟨g, 0 + j, none⟩ := by unfold Addr.add; split <;> simp_all
      rw [e]; exact hc j u hu) a m c news hl hnews (by omega) h63 hbytes
    obtain ⟨A', c', rfl, _, _, _⟩ := own_val ho
    refine ⟨A', c', w', hr, own_sl ho, fun _ => ⟨g, 0, rfl, Nat.lt_of_lt_of_le hb hg.size, fun j u hu => ?_⟩, ⟨hg.os, hg.tape, hg.output, hg.size, fun k hk _ => hg.block k hk (by simp)⟩⟩
    rw [World.cell?_of_block (hg.block g hb (by simp))]
    exact hc j u hu
theorem step_append_old {P : Program} (w : World) {ops : Array Oper} {o : Oper} {a : Act} {K : Act → World → Prop} {Q : Exit → Act → World → Prop} {E : Prop} (hw : Region.wanted o (yielded ops a.tmps) = true) (s x : Operand) (t : TypeId)
    (hop : o.op = .call { callee := .builtin .append, args := #[s, x], argTypes := #[t, t] }) (base : Nat) (e : TypeId) (i : TypeInfo) (z : Value) (size bytes : Nat) (ht : P.underlying t = some (.slice e)) (hi : P.info? e = some i) (hz : i.zero = some z)
    (hsize : i.size = size) (hby : i.bytes = bytes) (hzs : z.cells.size = size) (hsz : 0 < size) (g n cap : Nat) (xs : List Value) (hs : a.eval s = .slice (some ⟨g, 0, none⟩) n cap) (hown : w.ownsRow base e size (.slice (some ⟨g, 0, none⟩) n cap) n xs)
    (ad : Addr) (m c : Nat) (news : List Value) (hx : a.eval x = .slice (some ad) m c) (hl : news.length = m * size) (hnews : ∀ j u, news[j]? = some u → w.cell? (ad.add j) = some u) (h1 : ∀ u ∈ news, u.oneCell' = true)
    (h63 : n + m ≤ maxLen) (hbytes : (n + m) * bytes ≤ 140737488355328) (hn : 0 < n)
    (h : ∀ (A' : Option Addr) (c' : Nat) (w' : World), Sl w' A' (xs ++ news) → Sl w' (some ⟨g, 0, none⟩) xs → w.grownBy w' (some g) → K (a.put o.dst (.slice A' (n + m) c')) w') :
    if Region.wanted o (yielded ops a.tmps) = true then Oper.wp P o a w K Q else E := by
  rw [if_pos hw]
  obtain ⟨A', c', w', hr, h2, h3, h4⟩ := run_append_old (P := P) w base t o.type e i z size bytes ht hi hz hsize hby hzs hsz g n cap xs hown ad m c news hl hnews h1 h63 hbytes hn
  unfold Oper.wp execOp
  simp only [hop, resolve, invoke, builtin, Sem.run_bind, Sem.run_pure, Result.andThen_ok, List.map_toArray, List.map_cons, List.map_nil, hs, hx, hr]
  exact h A' c' w' h2 h3 h4
theorem SlI.lt {w : World} {b off : Nat} {l : List IV} (h : SlI w (some ⟨b, off, none⟩) l) (hl : 0 < l.length) : b < w.heap.size := by
  obtain ⟨b', off', e, hb⟩ := h.addr hl
  cases e
  exact hb
theorem iv_snoc13 (l : List IV) (p : IV) : (l ++ [p]).flatMap IV.cells = l.flatMap IV.cells ++ [.int .i64 p.x.lo, .int .i64 p.x.hi, .int .i64 p.y.lo, .int .i64 p.y.hi, .int .i64 p.z.lo, .int .i64 p.z.hi] := by simp [IV.cells]
theorem extremes_len (n : V3) (A : Option Addr) (l : List IV) (c k : Nat) (w : World) (hs : SlI w A l) (hm : l.length ≤ 9223372036854775807) (hk : l.length = k) :
    Calls Try.prog 62 #[.agg #[.int .i64 n.x, .int .i64 n.y, .int .i64 n.z], .slice A k c] w fun e w' => e = .returned (.bool true) ∧ Below w.heap.size w w' := by
  subst hk
  exact extremes_any n A l c w hs hm
theorem supportExtremes_walk (n : V3) (raw : List IV) (x y z : Int) (l : List Int) (A1 A5 : Option Addr) (c1 c5 : Nat) (w : World) (hs1 : SlI w A1 raw) (hs5 : SlN w A5 l) (m1 : raw.length ≤ 9223372036854775807) (m5 : l.length ≤ 9223372036854775807) :
    Calls Try.prog 13 #[.agg #[.int .i64 n.x, .int .i64 n.y, .int .i64 n.z], .slice A1 raw.length c1, .int .i64 x, .int .i64 y, .int .i64 z, .slice A5 l.length c5] w fun e w' => e = .returned (.bool true) ∧ Below w.heap.size w w' := by
  obtain ⟨i0, hi0, hz0, hz1, hz2⟩ := info_parts info44
  have S1 := hide hs1; have S5 := hide hs5; clear hs1 hs5
  go_enter Try.func13, Try.ntmps13
  go_wp2_with fail
  refine (mkNormal_any x y z _).mono ?_
  rintro e w1 ⟨u, hu, rfl, hb1⟩
  unfold V3.v
  have K1 := hide (show w1.heap[w.heap.size]? = some (.cells #[.int .i64 n.x, .int .i64 n.y, .int .i64 n.z] 47 (0, 0)) from (hb1.block _ (by simp)).trans (new_at _ _ rfl))
  have B1 := hide (show Below w.heap.size w w1 from ((Below.refl _ _).alloc (Nat.le_refl _) _).trans (hb1.mono (by simp)))
  clear hb1 hu
  go_wp2_with fail
  refine (points_any A5 l c5 3000 _ (S5.out.below B1.out) m5 (by omega) (by omega)).mono ?_
  rintro e w2 ⟨v2, pts, rfl, lp1, lp5, okp, hop, hb2⟩
  obtain ⟨g, cap, hv, hbg, hgl, hnc, hcm⟩ := own_form hop (by omega)
  subst hv
  have OWN := hide hop
  have K2 := hide ((hb2.block _ (by obtain ⟨h, _⟩ := Array.getElem?_eq_some_iff.mp K1.out; exact h)).trans K1.out)
  have y1 : w.heap.size < w1.heap.size := by obtain ⟨h, _⟩ := Array.getElem?_eq_some_iff.mp K1.out; exact h
  have B2 := hide (B1.out.trans (hb2.mono (Nat.le_of_lt y1)))
  have z2 := hb2.size
  clear hb2 hop okp K1 B1
  go_wp2_with fail
  obtain ⟨M, hM⟩ : ∃ M, M = w2.heap.size := ⟨_, rfl⟩
  obtain ⟨w3, hw3⟩ : ∃ W, W = w2.alloc (.cells #[.int .i64 u.x, .int .i64 u.y, .int .i64 u.z] 47) := ⟨_, rfl⟩
  rw [← hw3, ← hM]
  have b3 : Below w2.heap.size w2 w3 := by rw [hw3]; go_grown
  have kM : w3.heap[M]? = some (.cells #[.int .i64 u.x, .int .i64 u.y, .int .i64 u.z] 47 (0, 0)) := by rw [hw3, hM]; exact heap_alloc_new w2 _
  have yM : M < w3.heap.size := by rw [hw3, hM]; simp
  have OWN3 := hide (show w3.ownsRow w1.heap.size 44 6 (.slice (some ⟨g, 0, none⟩) pts.length cap) pts.length (pts.flatMap IV.cells) by rw [hw3]; exact OWN.out.alloc _)
  have dMg : M ≠ g := by omega
  have dgM : g ≠ M := by omega
  have dNg : w.heap.size ≠ g := by omega
  have dgN : g ≠ w.heap.size := by omega
  obtain ⟨N0, hN0⟩ : ∃ N0, N0 = w.heap.size + 1 := ⟨_, rfl⟩
  have zz : w.heap.size < N0 := by omega
  have zg : N0 ≤ g := by omega
  have zN : N0 ≤ w3.heap.size := by have := b3.size; omega
  have K3 := hide ((b3.block _ (by omega)).trans K2.out)
  have g0 : Below N0 w3 w3.drew := (Below.refl _ _).drew
  have B3 := hide (B2.out.trans (b3.mono (by omega)))
  have R3 := hide (S1.out.below B3.out)
  have R3' := hide (show ∀ w', Below N0 w3 w' → SlI w' A1 raw from fun w' hw' => S1.out.below (B3.out.trans (hw'.mono (by omega))))
  have l0 : 0 < pts.length := by omega
  have sX : SlI w3.drew (some ⟨g, 0, none⟩) pts := own_sl OWN3.out
  obtain ⟨t, ht⟩ : ∃ t, pts[0] = t := ⟨_, rfl⟩
  have TT := hide ht
  have cN0 := blk_cell K3.out
  clear ht hM hw3 b3 OWN B2 K2
  have hp9 : pts.length ≤ 9223372036854775807 := by omega
  have EK := hide (show (pts ++ [t]).length = pts.length + 1 by simp)
  have hp8 : (pts ++ [t]).length ≤ 9223372036854775807 := by simp; omega
  have cN := keepd g0 zz cN0; have n0 := cN 0; have n1 := cN 1; have n2 := cN 2; have cM := blk_cell kM; have u0 := cM 0; have u1 := cM 1; have u2 := cM 2; obtain ⟨x0, x1, x2, x3, x4, x5⟩ := SlI.at_ (k := 0) sX l0; rw [TT.out] at x0 x1 x2 x3 x4 x5; simp only [Nat.zero_mul, Nat.add_zero, Nat.zero_add] at x0 x1 x2 x3 x4 x5; have yg := SlI.lt sX l0; clear cN cM
  go_region_held3 (fun w' => w'.cell? ⟨w.heap.size, 0, none⟩ = some (.int .i64 n.x) ∧ w'.cell? ⟨w.heap.size, 1, none⟩ = some (.int .i64 n.y) ∧ w'.cell? ⟨w.heap.size, 2, none⟩ = some (.int .i64 n.z) ∧ w'.cell? ⟨M, 0, none⟩ = some (.int .i64 u.x) ∧ w'.cell? ⟨M, 1, none⟩ = some (.int .i64 u.y) ∧ w'.cell? ⟨M, 2, none⟩ = some (.int .i64 u.z) ∧ w'.cell? ⟨g, 0, none⟩ = some (.int .i64 t.x.lo) ∧ w'.cell? ⟨g, 1, none⟩ = some (.int .i64 t.x.hi) ∧ w'.cell? ⟨g, 2, none⟩ = some (.int .i64 t.y.lo) ∧ w'.cell? ⟨g, 3, none⟩ = some (.int .i64 t.y.hi) ∧ w'.cell? ⟨g, 4, none⟩ = some (.int .i64 t.z.lo) ∧ w'.cell? ⟨g, 5, none⟩ = some (.int .i64 t.z.hi))
    (first | exact ⟨n0, n1, n2, u0, u1, u2, x0, x1, x2, x3, x4, x5⟩ | go_keep)
    (first | (go_at_call 56; (with_reducible refine (awake13 _).mono ?_); rintro e w4 ⟨rfl, bb⟩; have g0 := g0.trans (bb.mono zN); have zN := Nat.le_trans zN bb.size; have kM := (bb.block _ yM).trans kM; have yM := Nat.lt_of_lt_of_le yM bb.size; have sX := sX.below bb; have cN := keepd g0 zz cN0; have n0 := cN 0; have n1 := cN 1; have n2 := cN 2; have cM := blk_cell kM; have u0 := cM 0; have u1 := cM 1; have u2 := cM 2; obtain ⟨x0, x1, x2, x3, x4, x5⟩ := SlI.at_ (k := 0) sX l0; rw [TT.out] at x0 x1 x2 x3 x4 x5; simp only [Nat.zero_mul, Nat.add_zero, Nat.zero_add] at x0 x1 x2 x3 x4 x5; have yg := SlI.lt sX l0; clear cN cM; have OWN4 := own_below OWN3.out.drew bb) | (go_at_call 62; (with_reducible refine (extremes_any n A1 raw c1 _ (R3'.out _ g0) m1).mono ?_); rintro e w5 ⟨rfl, bb⟩; have g0 := g0.trans (bb.mono zN); have zN := Nat.le_trans zN bb.size; have kM := (bb.block _ yM).trans kM; have yM := Nat.lt_of_lt_of_le yM bb.size; have sX := sX.below bb; have cN := keepd g0 zz cN0; have n0 := cN 0; have n1 := cN 1; have n2 := cN 2; have cM := blk_cell kM; have u0 := cM 0; have u1 := cM 1; have u2 := cM 2; obtain ⟨x0, x1, x2, x3, x4, x5⟩ := SlI.at_ (k := 0) sX l0; rw [TT.out] at x0 x1 x2 x3 x4 x5; simp only [Nat.zero_mul, Nat.add_zero, Nat.zero_add] at x0 x1 x2 x3 x4 x5; have yg := SlI.lt sX l0; clear cN cM; (try (have OWN4 := own_below OWN4 bb))) | (go_at_call 62; (with_reducible refine (extremes_any u (some ⟨g, 0, none⟩) pts cap _ sX hp9).mono ?_); rintro e w6 ⟨rfl, bb⟩; have g0 := g0.trans (bb.mono zN); have zN := Nat.le_trans zN bb.size; have kM := (bb.block _ yM).trans kM; have yM := Nat.lt_of_lt_of_le yM bb.size; have sX := sX.below bb; have cN := keepd g0 zz cN0; have n0 := cN 0; have n1 := cN 1; have n2 := cN 2; have cM := blk_cell kM; have u0 := cM 0; have u1 := cM 1; have u2 := cM 2; obtain ⟨x0, x1, x2, x3, x4, x5⟩ := SlI.at_ (k := 0) sX l0; rw [TT.out] at x0 x1 x2 x3 x4 x5; simp only [Nat.zero_mul, Nat.add_zero, Nat.zero_add] at x0 x1 x2 x3 x4 x5; have yg := SlI.lt sX l0; clear cN cM; (try (have OWN4 := own_below OWN4 bb))) | (go_at_call 62; (with_reducible refine (extremes_len u A9 (pts ++ [t]) c9 (pts.length + 1) _ sY hp8 EK.out).mono ?_); rintro e w7 ⟨rfl, bb⟩; have g0 := g0.trans (bb.mono zN); have zN := Nat.le_trans zN bb.size; have kM := (bb.block _ yM).trans kM; have yM := Nat.lt_of_lt_of_le yM bb.size; have sX := sX.below bb; have cN := keepd g0 zz cN0; have n0 := cN 0; have n1 := cN 1; have n2 := cN 2; have cM := blk_cell kM; have u0 := cM 0; have u1 := cM 1; have u2 := cM 2; obtain ⟨x0, x1, x2, x3, x4, x5⟩ := SlI.at_ (k := 0) sX l0; rw [TT.out] at x0 x1 x2 x3 x4 x5; simp only [Nat.zero_mul, Nat.add_zero, Nat.zero_add] at x0 x1 x2 x3 x4 x5; have yg := SlI.lt sX l0; clear cN cM) | (go_at_call 62; (with_reducible refine (extremes_any n (some ⟨g, 0, none⟩) pts cap _ sX hp9).mono ?_); rintro e w8 ⟨rfl, bb⟩; have g0 := g0.trans (bb.mono zN); have zN := Nat.le_trans zN bb.size; have kM := (bb.block _ yM).trans kM; have yM := Nat.lt_of_lt_of_le yM bb.size; have sX := sX.below bb; have cN := keepd g0 zz cN0; have n0 := cN 0; have n1 := cN 1; have n2 := cN 2; have cM := blk_cell kM; have u0 := cM 0; have u1 := cM 1; have u2 := cM 2; obtain ⟨x0, x1, x2, x3, x4, x5⟩ := SlI.at_ (k := 0) sX l0; rw [TT.out] at x0 x1 x2 x3 x4 x5; simp only [Nat.zero_mul, Nat.add_zero, Nat.zero_add] at x0 x1 x2 x3 x4 x5; have yg := SlI.lt sX l0; clear cN cM) | (go_at_call 62; (with_reducible refine (extremes_any u A1 raw c1 _ (R3'.out _ g0) m1).mono ?_); rintro e w9 ⟨rfl, bb⟩; have g0 := g0.trans (bb.mono zN); have zN := Nat.le_trans zN bb.size; have kM := (bb.block _ yM).trans kM; have yM := Nat.lt_of_lt_of_le yM bb.size; have sX := sX.below bb; have cN := keepd g0 zz cN0; have n0 := cN 0; have n1 := cN 1; have n2 := cN 2; have cM := blk_cell kM; have u0 := cM 0; have u1 := cM 1; have u2 := cM 2; obtain ⟨x0, x1, x2, x3, x4, x5⟩ := SlI.at_ (k := 0) sX l0; rw [TT.out] at x0 x1 x2 x3 x4 x5; simp only [Nat.zero_mul, Nat.add_zero, Nat.zero_add] at x0 x1 x2 x3 x4 x5; have yg := SlI.lt sX l0; clear cN cM) | (have _t := OWN4; refine step_append_old _ (by rfl) _ _ _ (by rfl) _ 44 i0 _ 6 48 Try.underlying23 hi0 hz0 hz1 hz2 rfl (by omega) g pts.length cap _ (by rfl) (OWN4.alloc _) ⟨w6.heap.size, 0, none⟩ 1 1 [.int .i64 t.x.lo, .int .i64 t.x.hi, .int .i64 t.y.lo, .int .i64 t.y.hi, .int .i64 t.z.lo, .int .i64 t.z.hi] (by rfl) (by rfl) (World.news_of_block (cs := #[.int .i64 t.x.lo, .int .i64 t.x.hi, .int .i64 t.y.lo, .int .i64 t.y.hi, .int .i64 t.z.lo, .int .i64 t.z.hi]) (t := 44) (fr := (0, 0)) (heap_alloc_new w6 _)) (by simp [Value.oneCell']) (by unfold maxLen; omega) (by omega) l0 ?_; intro A9 c9 wA hY hX hgr; have sX : SlI wA (some ⟨g, 0, none⟩) pts := hX; (have sY : SlI wA A9 (pts ++ [t]) := (by unfold SlI; rw [iv_snoc13]; exact hY)); have g0 := (g0.alloc zN _).grown hgr (Nat.le_trans zN (by simp)) (fun k hk => by injection hk with hk; omega); have zN := Nat.le_trans zN (Nat.le_trans (by simp) hgr.size); have kM := (hgr.block _ (by simp; omega) (by simpa using dMg)).trans ((Below.heap_alloc _ _ _ yM).trans kM); have yM : M < wA.heap.size := Nat.lt_of_lt_of_le yM (Nat.le_trans (by simp) hgr.size); have cN := keepd g0 zz cN0; have n0 := cN 0; have n1 := cN 1; have n2 := cN 2; have cM := blk_cell kM; have u0 := cM 0; have u1 := cM 1; have u2 := cM 2; obtain ⟨x0, x1, x2, x3, x4, x5⟩ := SlI.at_ (k := 0) sX l0; rw [TT.out] at x0 x1 x2 x3 x4 x5; simp only [Nat.zero_mul, Nat.add_zero, Nat.zero_add] at x0 x1 x2 x3 x4 x5; have yg := SlI.lt sX l0; clear cN cM; clear _t))
  have BF := hide (B3.out.trans (g0.mono (by omega)))
  clear g0 bb n0 n1 n2 u0 u1 u2 x0 x1 x2 x3 x4 x5 sX cN0
  go_wp2_with fail
  go_ret
  exact ⟨rfl, BF.out⟩
end Go.Proofs.Ytionbckpgfaneaa
