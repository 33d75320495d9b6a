/- NearestDecides, walked. -/
import Derived.Test.YtionbckpgfaneaaNh
import Derived.Test.YtionbckpgfaneaaMd
import Derived.Test.YtionbckpgfaneaaVa
import Derived.Test.YtionbckpgfaneaaWm
namespace Go.Proofs.Ytionbckpgfaneaa
open Go.RowKit
set_option maxHeartbeats 4000000
set_option maxRecDepth 100000
theorem box_any (A : Option Addr) (l : List V3) (c : Nat) (w : World) (p : List IV) (hp : p = l.map ptI) (hs : SlV w A l) (hm : l.length ≤ 1000000) :
    Calls Try.prog 84 #[.slice A l.length c] w fun e w' => ∃ (A' : Option Addr) (c' : Nat), e = .returned (.slice A' p.length c') ∧ SlI w' A' p ∧ Below w.heap.size w w' := by
  subst hp
  refine (boxed_any A l c w hs hm).mono ?_
  rintro e w' ⟨v, rfl, ho, hb⟩
  obtain ⟨A', c', rfl, _, _, _⟩ := own_val ho
  exact ⟨A', c', by rw [List.length_map], own_sl ho, hb⟩
theorem least_yes (n : V3) (A : Option Addr) (l : List IV) (c : Nat) (w : World) (hs : SlI w A l) (hm : l.length ≤ 9223372036854775807) (hu : usable n = true) (hp : placedB l = true) :
    Calls Try.prog 83 #[.agg #[.int .i64 n.x, .int .i64 n.y, .int .i64 n.z], .slice A l.length c] w fun e w' => e = .returned (.tuple #[.int .i64 (leastV n l), .int .i64 (leastI n l), .bool true]) ∧ Below w.heap.size w w' := by
  rw [← leastR_yes hu hp]; exact least_ref n A l c w hs hm
theorem greatest_yes (n : V3) (A : Option Addr) (l : List IV) (c : Nat) (w : World) (hs : SlI w A l) (hm : l.length ≤ 9223372036854775807) (hu : usable n = true) (hp : placedB l = true) :
    Calls Try.prog 85 #[.agg #[.int .i64 n.x, .int .i64 n.y, .int .i64 n.z], .slice A l.length c] w fun e w' => e = .returned (.tuple #[.int .i64 (greatV n l), .int .i64 (greatI n l), .bool true]) ∧ Below w.heap.size w w' := by
  rw [← greatR_yes hu hp]; exact greatest_ref n A l c w hs hm
theorem ovl_yes (left right : List Int) (na nb : Nat) (a b : List IV) (ra rb : Int) (A B C D : Option Addr) (c1 c2 c3 c4 : Nat) (w : World) (hl : SlN w A left) (hr : SlN w B right) (ha : SlI w C a) (hb : SlI w D b) (eL : left.length = na) (eR : right.length = nb)
   (m1 : na ≤ 9223372036854775807) (m2 : nb ≤ 9223372036854775807) (m3 : a.length ≤ 9223372036854775807) (m4 : b.length ≤ 9223372036854775807) (ho : ovl left right a b ra rb = true) :
    Calls Try.prog 86 #[.slice A na c1, .slice B nb c2, .slice C a.length c3, .int .i64 ra, .slice D b.length c4, .int .i64 rb] w fun e w' => e = .returned (.bool true) ∧ Below w.heap.size w w' := by
  subst eL; subst eR
  rw [← ho]
  exact overlaps_ref left right a b ra rb A B C D c1 c2 c3 c4 w hl hr ha hb m1 m2 m3 m4
theorem nearestDecides_walk (l m : List Int) (rho : Int) (A0 A1 : Option Addr) (c0 c1 : Nat) (w : World) (hs0 : SlN w A0 l) (hs1 : SlN w A1 m) (m0 : l.length ≤ 9223372036854775807) (m1 : m.length ≤ 9223372036854775807) (hr : I64 rho) :
    Calls Try.prog 28 #[.slice A0 l.length c0, .slice A1 m.length c1, .int .i64 rho] w fun e w' => e = .returned (.bool true) ∧ Below w.heap.size w w' := by
  have S0 := hide hs0; have S1 := hide hs1; clear hs0 hs1
  go_enter Try.func28, Try.ntmps28
  go_wp2_with fail
  refine (hulls_any A0 A1 l m c0 c1 rho _ S0.out S1.out m0 m1 hr).mono ?_
  rintro e w1 ⟨x, y, A, B, c, d, rfl, sx, sy, lc, ld, SX0, SY0, hb1⟩
  obtain ⟨q0, q1⟩ := rad14_bd rho
  obtain ⟨q, hq⟩ : ∃ q, rad14 rho = q := ⟨_, rfl⟩
  rw [hq] at q0 q1 ⊢
  clear hq
  have FX := hide sx.few; have FY := hide sy.few
  obtain ⟨lx1, lx5, _⟩ := sx
  obtain ⟨ly1, ly5, _⟩ := sy
  have SX := hide SX0; have SY := hide SY0
  have B1 := hide hb1
  clear hb1 SX0 SY0
  have AP := hide (decides_apart (rho := q) (steps := 64) FX.out FY.out)
  have CL := hide ((search_decides (a := x) (b := y) (rho := q) (steps := 64) lx1 ly1).2)
  obtain ⟨⟨r0, r1⟩, nL, nR, nk⟩ := search_keeps (a := x) (b := y) (rho := q) (steps := 64) lx1 ly1
  obtain ⟨r, hr'⟩ : ∃ r, searchN x y q 64 = r := ⟨_, rfl⟩
  rw [hr'] at r0 r1 nL nR AP CL
  have HR := hide hr'; have NL := hide nL; have NR := hide nR
  clear hr' nk nL nR
  go_wp2_with fail
  refine (search64 A B x y c d q _ r HR.out SX.out SY.out FX.out FY.out q0 q1).mono ?_
  rintro e w2 ⟨gL, gR, rfl, sL, sR, hb2⟩
  have SL := hide sL; have SR := hide sR
  replace SX := hide (SX.out.below hb2); replace SY := hide (SY.out.below hb2)
  have B2 := hide (stepB hb2 B1.out)
  clear sL sR hb2 B1
  obtain ⟨px, hpx⟩ : ∃ p, p = x.map ptI := ⟨_, rfl⟩
  obtain ⟨py, hpy⟩ : ∃ p, p = y.map ptI := ⟨_, rfl⟩
  have PX := hide (show placedB px = true by rw [hpx, few_pts FX.out]; exact few_placed FX.out)
  have PY := hide (show placedB py = true by rw [hpy, few_pts FY.out]; exact few_placed FY.out)
  have lpx : px.length ≤ 8 := by rw [hpx, List.length_map]; omega
  have lpy : py.length ≤ 8 := by rw [hpy, List.length_map]; omega
  rw [← hpx, ← hpy] at AP
  have HPX := hide hpx; have HPY := hide hpy
  clear hpx hpy
  by_cases h1 : r.1 = 1
  · obtain ⟨us, hap⟩ := AP.out h1
    have US := hide us
    have h1' : (r.1 == 1) = true := by simp [h1]
    clear us h1 AP CL
    go_wp2_with fail
    obtain ⟨w3, hw3⟩ : ∃ W, W = w2.alloc (.cells #[.int .i64 r.1, .int .i64 r.2.N.x, .int .i64 r.2.N.y, .int .i64 r.2.N.z, .slice (some ⟨gL, 0, none⟩) x.length x.length, .slice (some ⟨gR, 0, none⟩) y.length y.length, .int .i64 r.2.k] 93) := ⟨_, rfl⟩
    rw [← hw3]
    have KX := hide (show w3.heap[w2.heap.size]? = some (.cells #[.int .i64 r.1, .int .i64 r.2.N.x, .int .i64 r.2.N.y, .int .i64 r.2.N.z, .slice (some ⟨gL, 0, none⟩) x.length x.length, .slice (some ⟨gR, 0, none⟩) y.length y.length, .int .i64 r.2.k] 93 (0, 0)) by rw [hw3]; exact heap_alloc_new w2 _)
    have b3 : Below w2.heap.size w2 w3 := by rw [hw3]; go_grown
    replace SX := hide (SX.out.below b3); replace SY := hide (SY.out.below b3)
    have B3 := hide (stepB b3 B2.out)
    clear hw3 b3 B2
    have yX := blt KX.out
    have d0 := blk_cell KX.out
    have cX := d0
    have gg : Below w3.heap.size w3 w3.drew := (Below.refl _ _).drew
    have lx9 : x.length ≤ 1000000 := by omega
    have ly9 : y.length ≤ 1000000 := by omega
    have lp1 : px.length ≤ 9223372036854775807 := by omega
    have lp2 : py.length ≤ 9223372036854775807 := by omega
    go_region_held3 (fun w' => (∀ i, w'.cell? ⟨w2.heap.size, i, none⟩ = #[.int .i64 r.1, .int .i64 r.2.N.x, .int .i64 r.2.N.y, .int .i64 r.2.N.z, .slice (some ⟨gL, 0, none⟩) x.length x.length, .slice (some ⟨gR, 0, none⟩) y.length y.length, .int .i64 r.2.k][i]?))
      (first | exact cX | go_keep)
      (first | (go_at_call 84; (with_reducible refine (box_any A x c _ px HPX.out (SX.out.below gg) lx9).mono ?_); rintro e w4 ⟨A', c', rfl, sx2, bb⟩; have gg := gg.trans (bb.mono gg.size); have cX := keepf gg yX d0) | (go_at_call 83; (with_reducible refine (least_yes r.2.N A' px c' _ sx2 lp1 US.out PX.out).mono ?_); rintro e w5 ⟨rfl, bb⟩; have gg := gg.trans (bb.mono gg.size); have cX := keepf gg yX d0))
    have KX5 := hide ((gg.block _ yX).trans KX.out)
    replace SY := hide (SY.out.below gg)
    have B5 := hide (stepB gg B3.out)
    clear gg bb cX d0 sx2 KX B3 yX SX
    go_wp2_with fail
    have yX := blt KX5.out
    have d0 := blk_cell KX5.out
    have cX := d0
    have gg : Below w5.heap.size w5 w5.drew := (Below.refl _ _).drew
    go_region_held3 (fun w' => (∀ i, w'.cell? ⟨w2.heap.size, i, none⟩ = #[.int .i64 r.1, .int .i64 r.2.N.x, .int .i64 r.2.N.y, .int .i64 r.2.N.z, .slice (some ⟨gL, 0, none⟩) x.length x.length, .slice (some ⟨gR, 0, none⟩) y.length y.length, .int .i64 r.2.k][i]?))
      (first | exact cX | go_keep)
      (first | (go_at_call 84; (with_reducible refine (box_any B y d _ py HPY.out (SY.out.below gg) ly9).mono ?_); rintro e w6 ⟨B', d', rfl, sy2, bb⟩; have gg := gg.trans (bb.mono gg.size); have cX := keepf gg yX d0) | (go_at_call 85; (with_reducible refine (greatest_yes r.2.N B' py d' _ sy2 lp2 US.out PY.out).mono ?_); rintro e w7 ⟨rfl, bb⟩; have gg := gg.trans (bb.mono gg.size); have cX := keepf gg yX d0))
    have KX7 := hide ((gg.block _ yX).trans KX5.out)
    have B7 := hide (stepB gg B5.out)
    clear gg bb cX d0 sy2 KX5 B5 yX SY
    have lb := leastV_bd US.out PX.out; have gb := greatV_bd US.out PY.out
    generalize leastV r.2.N px = P at hap lb ⊢
    generalize greatV r.2.N py = Q at hap gb ⊢
    have nb := normF_bd r.2.N
    go_wp2_with fail
    refine (awake14 _).mono ?_
    rintro e w8 ⟨rfl, hb8⟩
    have KX8 := hide ((hb8.block _ (blt KX7.out)).trans KX7.out)
    have B8 := hide (stepB hb8 B7.out)
    have yX := blt KX8.out
    have cX := blk_cell KX8.out
    clear hb8 KX7 B7
    go_wp2_with fail
    refine (norm_ref r.2.N _).mono ?_
    rintro e w9 ⟨rfl, hb9⟩
    have B9 := hide (stepB hb9 B8.out)
    clear hb9 cX yX
    obtain ⟨F, hF⟩ : ∃ F, normF r.2.N = F := ⟨_, rfl⟩
    rw [hF] at nb hap ⊢
    clear hF
    obtain ⟨f1, f2⟩ := nb
    obtain ⟨p1, p2⟩ := mul_bd F q 32768 2097152 f1 f2 (by omega) q1
    go_wp2_with fail
    go_ret
    exact ⟨rfl, B9.out⟩
  · have h1' : (r.1 == 1) = false := by simp [h1]
    clear AP
    by_cases h2 : r.1 = 2
    · have OV := hide (show ovl r.2.L r.2.R px py (q / 2) (q - q / 2) = true by rw [HPX.out, HPY.out]; exact decides_close FX.out FY.out NL.out NR.out q0 q1 (CL.out h2))
      have h2' : (r.1 == 2) = true := by simp [h2]
      clear h1 h2 CL
      go_wp2_with fail
      obtain ⟨w3, hw3⟩ : ∃ W, W = w2.alloc (.cells #[.int .i64 r.1, .int .i64 r.2.N.x, .int .i64 r.2.N.y, .int .i64 r.2.N.z, .slice (some ⟨gL, 0, none⟩) x.length x.length, .slice (some ⟨gR, 0, none⟩) y.length y.length, .int .i64 r.2.k] 93) := ⟨_, rfl⟩
      rw [← hw3]
      have KX := hide (show w3.heap[w2.heap.size]? = some (.cells #[.int .i64 r.1, .int .i64 r.2.N.x, .int .i64 r.2.N.y, .int .i64 r.2.N.z, .slice (some ⟨gL, 0, none⟩) x.length x.length, .slice (some ⟨gR, 0, none⟩) y.length y.length, .int .i64 r.2.k] 93 (0, 0)) by rw [hw3]; exact heap_alloc_new w2 _)
      have b3 : Below w2.heap.size w2 w3 := by rw [hw3]; go_grown
      replace SX := hide (SX.out.below b3); replace SY := hide (SY.out.below b3)
      replace SL := hide (SL.out.below b3); replace SR := hide (SR.out.below b3)
      have B3 := hide (stepB b3 B2.out)
      clear hw3 b3 B2
      have yX := blt KX.out
      have d0 := blk_cell KX.out
      have cX := d0
      have gg : Below w3.heap.size w3 w3.drew := (Below.refl _ _).drew
      have lx9 : x.length ≤ 1000000 := by omega
      have ly9 : y.length ≤ 1000000 := by omega
      have lp1 : px.length ≤ 9223372036854775807 := by omega
      have lp2 : py.length ≤ 9223372036854775807 := by omega
      have lx0 : x.length ≤ 9223372036854775807 := by omega
      have ly0 : y.length ≤ 9223372036854775807 := by omega
      have lx8 : x.length ≤ 8 := by omega
      have ly8 : y.length ≤ 8 := by omega
      have eL := hide NL.out.1; have eR := hide NR.out.1
      have hq2 : q.tdiv 2 = q / 2 := Int.tdiv_eq_ediv_of_nonneg q0
      have hq3 := IntWalk.i64_in (q / 2) (by omega)
      have hq4 := IntWalk.i64_in (q - q / 2) (by omega)
      go_region_held3 (fun w' => (∀ i, w'.cell? ⟨w2.heap.size, i, none⟩ = #[.int .i64 r.1, .int .i64 r.2.N.x, .int .i64 r.2.N.y, .int .i64 r.2.N.z, .slice (some ⟨gL, 0, none⟩) x.length x.length, .slice (some ⟨gR, 0, none⟩) y.length y.length, .int .i64 r.2.k][i]?))
        (first | exact cX | go_keep)
        (first | (go_at_call 79; (with_reducible refine (awake14 _).mono ?_); rintro e w4 ⟨rfl, bb⟩; have gg := gg.trans (bb.mono gg.size); have cX := keepf gg yX d0) | (go_at_call 82; (with_reducible refine (weights14_any (some ⟨gL, 0, none⟩) r.2.L _ x.length _ (SL.out.below gg) NL.out lx8).mono ?_); rintro e w' ⟨rfl, rfl⟩) | (go_at_call 82; (with_reducible refine (weights14_any (some ⟨gR, 0, none⟩) r.2.R _ y.length _ (SR.out.below gg) NR.out ly8).mono ?_); rintro e w' ⟨rfl, rfl⟩) | (go_at_call 84; (with_reducible refine (box_any A x c _ px HPX.out (SX.out.below gg) lx9).mono ?_); rintro e w5 ⟨A', c', rfl, sx2, bb⟩; have gg := gg.trans (bb.mono gg.size); have cX := keepf gg yX d0) | (go_at_call 84; (with_reducible refine (box_any B y d _ py HPY.out (SY.out.below gg) ly9).mono ?_); rintro e w6 ⟨B', d', rfl, sy2, bb⟩; have sx2 := sx2.below bb; have gg := gg.trans (bb.mono gg.size); have cX := keepf gg yX d0) | (go_at_call 86; (with_reducible refine (ovl_yes r.2.L r.2.R x.length y.length px py (q / 2) (q - q / 2) (some ⟨gL, 0, none⟩) (some ⟨gR, 0, none⟩) A' B' _ _ c' d' _ (SL.out.below gg) (SR.out.below gg) sx2 sy2 eL.out eR.out lx0 ly0 lp1 lp2 OV.out).mono ?_); rintro e w7 ⟨rfl, bb⟩; have gg := gg.trans (bb.mono gg.size); have cX := keepf gg yX d0))
      have BF := hide (stepB gg B3.out)
      clear gg bb cX d0
      go_wp2_with fail
      go_ret
      exact ⟨rfl, BF.out⟩
    · have h2' : (r.1 == 2) = false := by simp [h2]
      clear h1 h2 CL
      go_wp2_with fail
      refine (awake14 _).mono ?_
      rintro e w3 ⟨rfl, hb3⟩
      have B3 := hide (stepB (stepB hb3 ((Below.refl w2.heap.size w2).alloc (Nat.le_refl _) _)) B2.out)
      clear hb3
      go_wp2_with fail
      go_ret
      exact ⟨rfl, B3.out⟩
end Go.Proofs.Ytionbckpgfaneaa
