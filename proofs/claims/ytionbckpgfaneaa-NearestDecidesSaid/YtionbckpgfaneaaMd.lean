/- NearestMoves, walked. -/
import Derived.Test.YtionbckpgfaneaaNh
namespace Go.Proofs.Ytionbckpgfaneaa
open Go.RowKit
set_option maxHeartbeats 4000000
set_option maxRecDepth 100000
def HullsPost2 (rho : Int) (w : World) (e : Ending) (w' : World) : Prop :=
  ∃ (x y : List V3) (A B : Option Addr) (c d : Nat), e = .returned (.tuple #[.slice A x.length c, .slice B y.length d, .int .i64 (rad14 rho)]) ∧ Sml x ∧ Sml y ∧ x.length ≤ c ∧ y.length ≤ d ∧ SlV w' A x ∧ SlV w' B y ∧ (∀ b off, A = some ⟨b, off, none⟩ → w.heap.size ≤ b) ∧ (∀ b off, B = some ⟨b, off, none⟩ → w.heap.size ≤ b) ∧ Below w.heap.size w w'
/-- armplanlaw14.hulls, whose lists lie in new memory -/
theorem hulls_far (A B : Option Addr) (l m : List Int) (c d : Nat) (rho : Int) (w : World) (hs : SlN w A l) (ht : SlN w B m) (hl : l.length ≤ 9223372036854775807) (hm : m.length ≤ 9223372036854775807) (hr : I64 rho) :
    Calls Try.prog 78 #[.slice A l.length c, .slice B m.length d, .int .i64 rho] w (HullsPost2 rho w) := by
  have HS := hide hs; have HT := hide ht
  clear hs ht
  obtain ⟨h1, h2⟩ := hr
  have hi := index114 1 30000 100000 2097153 rho
  have hp : 0 < sel4 1 30000 100000 2097153 (bits .and .i64 rho 3) ∧ sel4 1 30000 100000 2097153 (bits .and .i64 rho 3) ≤ 9223372036854775807 := by
    unfold sel4; split
    · omega
    · split
      · omega
      · split <;> omega
  obtain ⟨p1, p2⟩ := hp
  go_enter Try.func78, Try.ntmps78
  go_wp2_with fail
  have gg : Below w.heap.size w w.drew := (Below.refl _ _).drew
  go_region_held3 (fun _ => True) (trivial)
    (first | (go_at_call 50; (with_reducible refine (round_any _ _ _ p1 p2).mono ?_); rintro e w' ⟨rfl, rfl⟩) | (go_at_call 41; (with_reducible refine (points_any A l c 0 _ (HS.out.below gg) hl (by omega) (by omega)).mono ?_); rintro e w2 ⟨vx, px, rfl, lx1, lx5, okx, hox, b2⟩; have gg := gg.trans (b2.mono gg.size); obtain ⟨Ax, cx, rfl, _, _, _⟩ := own_val hox; have SX : SlI w2 Ax px := own_sl hox) | (go_at_call 52; (with_reducible refine (corners_any Ax px cx _ SX (by omega)).mono ?_); rintro e w3 ⟨vu, rfl, hou, b3⟩; have zU := gg.size; have gg := gg.trans (b3.mono gg.size); obtain ⟨Au, cu, rfl, lcu, _, oU⟩ := own_val hou; have SU : SlV w3 Au (px.map cornerV) := own_sl hou) | (go_at_call 41; (with_reducible refine (points_any B m d 0 _ (HT.out.below gg) hm (by omega) (by omega)).mono ?_); rintro e w4 ⟨vy, py, rfl, ly1, ly5, oky, hoy, b4⟩; have gg := gg.trans (b4.mono gg.size); obtain ⟨Ay, cy, rfl, _, _, _⟩ := own_val hoy; have SY : SlI w4 Ay py := own_sl hoy) | (go_at_call 52; (with_reducible refine (corners_any Ay py cy _ SY (by omega)).mono ?_); rintro e w5 ⟨vv, rfl, hov, b5⟩; have zV := gg.size; have gg := gg.trans (b5.mono gg.size); obtain ⟨Av, cv, rfl, lcv, _, oV⟩ := own_val hov; have SV : SlV w5 Av (py.map cornerV) := own_sl hov))
  all_goals
    have SUU := hide (SU.below (b4.trans (b5.mono b4.size))); have SVV := hide SV; have GG := hide gg; have OKX := hide okx; have OKY := hide oky
    have OU := hide (fun b off h => Nat.le_trans zU (oU b off h).1); have OV := hide (fun b off h => Nat.le_trans zV (oV b off h).1)
    clear oU oV SU SV SX SY gg okx oky hox hoy hou hov
    go_wp2_with fail
    go_ret3
    exact ⟨px.map cornerV, py.map cornerV, Au, Av, cu, cv, by rw [List.length_map, List.length_map]; rfl, sml_corner lx1 lx5 OKX.out, sml_corner ly1 ly5 OKY.out, by simpa using lcu, by simpa using lcv, SUU.out, SVV.out, OU.out, OV.out, GG.out⟩
theorem slv_set {w : World} {A : Option Addr} {l : List V3} (h : SlV w A l) (g i : Nat) (u : Value) (hne : ∀ b off, A = some ⟨b, off, none⟩ → b ≠ g) : SlV (w.setCell ⟨g, i, none⟩ u) A l := fun hx => by
  obtain ⟨b, off, e, hb, hc⟩ := h hx
  refine ⟨b, off, e, by simpa [World.setCell] using hb, fun j v hv => ?_⟩
  rw [World.cell?_of_block (Below.heap_setCell _ _ _ _ (hne b off e))]
  exact hc j v hv
theorem shr42 {x : Int} (h : I64 x) : -4194304 ≤ x / 4398046511104 ∧ x / 4398046511104 ≤ 4194304 := by
  obtain ⟨a, b⟩ := h
  omega
/-- Search with all steps -/
theorem search64 (A B : Option Addr) (a b : List V3) (ca cb : Nat) (rho : Int) (w : World) (r : Int × Nst) (hr : searchN a b rho 64 = r) (hs : SlV w A a) (ht : SlV w B b) (fa : fewB a = true) (fb : fewB b = true) (r0 : 0 ≤ rho) (r1 : rho ≤ 2097152) :
    Calls Try.prog 81 #[.slice A a.length ca, .slice B b.length cb, .int .i64 rho, .int .i64 64] w fun e w' => ∃ gL gR : Nat, e = .returned (.agg #[.int .i64 r.1, .int .i64 r.2.N.x, .int .i64 r.2.N.y, .int .i64 r.2.N.z, .slice (some ⟨gL, 0, none⟩) a.length a.length, .slice (some ⟨gR, 0, none⟩) b.length b.length, .int .i64 r.2.k]) ∧ SlN w' (some ⟨gL, 0, none⟩) r.2.L ∧ SlN w' (some ⟨gR, 0, none⟩) r.2.R ∧ Below w.heap.size w w' := by
  subst hr
  exact search_any A B a b ca cb rho 64 w hs ht fa fb r0 r1 (Nat.le_refl _)
theorem nearestMoves_walk (l m : List Int) (rho : Int) (t : V3) (A0 A1 : Option Addr) (c0 c1 : Nat) (w : World) (hs0 : SlN w A0 l) (hs1 : SlN w A1 m) (m0 : l.length ≤ 9223372036854775807) (m1 : m.length ≤ 9223372036854775807) (hr : I64 rho) (ht : t.ok64) :
    Calls Try.prog 31 #[.slice A0 l.length c0, .slice A1 m.length c1, .int .i64 rho, .agg #[.int .i64 t.x, .int .i64 t.y, .int .i64 t.z]] w fun e w' => e = .returned (.bool true) ∧ Below w.heap.size w w' := by
  have TX := shr42 ht.1; have TY := shr42 ht.2.1; have TZ := shr42 ht.2.2
  have S0 := hide hs0; have S1 := hide hs1; clear hs0 hs1
  go_enter Try.func31, Try.ntmps31
  go_wp2_with fail
  refine (hulls_far A0 A1 l m c0 c1 rho _ (by exact Sl.alloc S0.out _) (by exact Sl.alloc S1.out _) m0 m1 hr).mono ?_
  rintro e w1 ⟨x, y, A, B, c, d, rfl, sx, sy, lc, ld, SX0, SY0, ox, oy, hb1⟩
  obtain ⟨q0, q1⟩ := rad14_bd rho
  obtain ⟨q, hq⟩ : ∃ q, rad14 rho = q := ⟨_, rfl⟩
  rw [hq] at q0 q1 ⊢
  clear hq
  have FX := hide sx.few; have FY := hide sy.few
  obtain ⟨lx1, lx5, _⟩ := sx
  obtain ⟨ly1, ly5, _⟩ := sy
  have SX := hide SX0; have SY := hide SY0
  rename_i sx' sy'
  have SMX := hide sx'; have SMY := hide sy'
  have K1 := hide (newB hb1)
  have B1 := hide (stepB hb1 ((Below.refl w.heap.size w).alloc (Nat.le_refl _) _))
  have nx : ∀ b off, A = some ⟨b, off, none⟩ → b ≠ w.heap.size := fun b off h => by have := ox b off h; simp at this; omega
  have ny : ∀ b off, B = some ⟨b, off, none⟩ → b ≠ w.heap.size := fun b off h => by have := oy b off h; simp at this; omega
  have NX := hide nx; have NY := hide ny
  clear hb1 SX0 SY0 sx' sy' ox oy nx ny
  have yT1 := blt K1.out
  have cT := blk_cell K1.out; have fT := blk_frozen K1.out
  go_wp2_with fail
  obtain ⟨u, hu⟩ : ∃ u : V3, u = ⟨t.x / 4398046511104, t.y / 4398046511104, t.z / 4398046511104⟩ := ⟨_, rfl⟩
  have e1 : t.x / 4398046511104 = u.x := by rw [hu]
  have e2 : t.y / 4398046511104 = u.y := by rw [hu]
  have e3 : t.z / 4398046511104 = u.z := by rw [hu]
  rw [e1] at TX ⊢
  rw [e2] at TY ⊢
  rw [e3] at TZ ⊢
  have TB := hide (And.intro TX (And.intro TY TZ))
  clear hu e1 e2 e3 TX TY TZ
  obtain ⟨w2, hw2⟩ : ∃ W, W = ((w1.setCell ⟨w.heap.size, 0, none⟩ (.int .i64 u.x)).setCell ⟨w.heap.size, 1, none⟩ (.int .i64 u.y)).setCell ⟨w.heap.size, 2, none⟩ (.int .i64 u.z) := ⟨_, rfl⟩
  rw [← hw2]
  have K2 := hide (show w2.heap[w.heap.size]? = some (.cells (vcs u) 47 (0, 0)) by rw [hw2]; exact blk_set (blk_set (blk_set K1.out 0 _) 1 _) 2 _)
  replace SX := hide (show SlV w2 A x by rw [hw2]; exact slv_set (slv_set (slv_set SX.out _ _ _ NX.out) _ _ _ NX.out) _ _ _ NX.out)
  replace SY := hide (show SlV w2 B y by rw [hw2]; exact slv_set (slv_set (slv_set SY.out _ _ _ NY.out) _ _ _ NY.out) _ _ _ NY.out)
  have B2 := hide (show Below w.heap.size w w2 by rw [hw2]; exact ((B1.out.setCell (Nat.le_refl _) _).setCell (Nat.le_refl _) _).setCell (Nat.le_refl _) _)
  clear hw2 K1 B1 cT fT yT1
  have yT := blt K2.out
  have d0 := blk_cell K2.out; simp only [vcs] at d0
  have cT := d0
  have SMu := hide (Sml.moved ⟨lx1, lx5, SMX.out⟩ TB.out); have SMv := hide (Sml.moved ⟨ly1, ly5, SMY.out⟩ TB.out)
  have SE := hide (search_add (a := x) (b := y) (rho := q) (steps := 64) u lx1 ly1)
  have NK := hide (search_keeps (a := x) (b := y) (rho := q) (steps := 64) lx1 ly1).2
  obtain ⟨x', hx'⟩ : ∃ x', x' = x.map (addV · u) := ⟨_, rfl⟩
  obtain ⟨y', hy'⟩ : ∃ y', y' = y.map (addV · u) := ⟨_, rfl⟩
  have lx' : x.length = x'.length := by rw [hx', List.length_map]
  have ly' : y.length = y'.length := by rw [hy', List.length_map]
  have LX' := hide lx'; have LY' := hide ly'
  have HX' := hide hx'; have HY' := hide hy'
  rw [← hx', ← hy'] at SE
  rw [← hx'] at SMu
  rw [← hy'] at SMv
  clear hx' hy' lx' ly'
  have lx8 : x.length ≤ 8 := by omega
  have ly8 : y.length ≤ 8 := by omega
  have e64 : (64 : Nat) ≤ 64 := Nat.le_refl _
  obtain ⟨r, hr'⟩ : ∃ r, searchN x y q 64 = r := ⟨_, rfl⟩
  rw [hr'] at SE NK
  have HR := hide hr'; clear hr'
  have eL := hide (NK.out.1.1.trans LX'.out); have eR := hide (NK.out.2.1.1.trans LY'.out)
  have lx8' : x'.length ≤ 8 := by have := LX'.out; omega
  have ly8' : y'.length ≤ 8 := by have := LY'.out; omega
  have gg : Below w2.heap.size w2 w2.drew := (Below.refl _ _).drew
  go_region_held3 (fun w' => (∀ i, w'.cell? ⟨w.heap.size, i, none⟩ = #[.int .i64 u.x, .int .i64 u.y, .int .i64 u.z][i]?))
    (first | exact cT | go_keep)
    (first | (go_at_call 79; (with_reducible refine (awake14 _).mono ?_); rintro e w3 ⟨rfl, bb⟩; have gg := gg.trans (bb.mono gg.size); have cT := keepf gg yT d0) | (go_at_call 88; (with_reducible refine (moved_any A x c u _ (SX.out.below gg) lx8 SMX.out TB.out).mono ?_); rintro e w5 ⟨A', c', rfl, sx2, bb⟩; have gg := gg.trans (bb.mono gg.size); have cT := keepf gg yT d0; have sL := sL.below bb; have sR := sR.below bb; rw [LX'.out]; (have SX2 : SlV w5 A' x' := (by rw [HX'.out]; exact sx2)); clear sx2) | (go_at_call 88; (with_reducible refine (moved_any B y d u _ (SY.out.below gg) ly8 SMY.out TB.out).mono ?_); rintro e w6 ⟨B', d', rfl, sy2, bb⟩; have gg := gg.trans (bb.mono gg.size); have cT := keepf gg yT d0; rw [LY'.out]; (have SY2 : SlV w6 B' y' := (by rw [HY'.out]; exact sy2)); have SX2 := SX2.below bb; have sL := sL.below bb; have sR := sR.below bb; clear sy2) | (go_at_call 81; (with_reducible refine (search64 A B x y c d q _ r HR.out (SX.out.below gg) (SY.out.below gg) FX.out FY.out q0 q1).mono ?_); rintro e w4 ⟨gL, gR, rfl, sL, sR, bb⟩; have gg := gg.trans (bb.mono gg.size); have cT := keepf gg yT d0) | (go_at_call 81; (with_reducible refine (search64 A' B' x' y' c' d' q _ r SE.out SX2 SY2 SMu.out SMv.out q0 q1).mono ?_); rintro e w7 ⟨hL, hR, rfl, tL, tR, bb⟩; have gg := gg.trans (bb.mono gg.size); have cT := keepf gg yT d0; have sL := sL.below bb; have sR := sR.below bb) | (go_at_call 87; (with_reducible refine (sameN2 r.1 r.2.N.x r.2.N.y r.2.N.z r.2.k r.2.L r.2.R (some ⟨gL, 0, none⟩) (some ⟨gR, 0, none⟩) (some ⟨hL, 0, none⟩) (some ⟨hR, 0, none⟩) x'.length y'.length _ _ _ _ _ sL sR tL tR eL.out eR.out lx8' ly8').mono ?_); rintro e w8 ⟨rfl, bb⟩; have gg := gg.trans (bb.mono gg.size); have cT := keepf gg yT d0))
  have BF := hide (stepB gg B2.out)
  clear gg bb cT d0
  go_wp2_with fail
  go_ret
  exact ⟨rfl, BF.out⟩
end Go.Proofs.Ytionbckpgfaneaa
