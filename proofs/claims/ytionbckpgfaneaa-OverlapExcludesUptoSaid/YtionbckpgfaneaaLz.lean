/- OverlapExcludes, walked. -/
import Derived.Test.YtionbckpgfaneaaVd
import Derived.Test.YtionbckpgfaneaaWx
import Derived.Test.YtionbckpgfaneaaLe
import Derived.Test.YtionbckpgfaneaaWn
namespace Go.Proofs.Ytionbckpgfaneaa
open Go.RowKit
set_option maxHeartbeats 4000000
set_option maxRecDepth 100000
theorem overlapExcludes_walk (l m ws : List Int) (x y z p q : Int) (A4 A5 A6 : Option Addr) (c4 c5 c6 : Nat) (w : World)
    (hs4 : SlN w A4 l) (hs5 : SlN w A5 m) (m4 : l.length ≤ 9223372036854775807) (m5 : m.length ≤ 9223372036854775807) (hs6 : SlN w A6 ws) (m6 : ws.length ≤ 1048576) (hp : I64 p) (hq : I64 q) :
    Calls Try.prog 33 #[.slice A4 l.length c4, .slice A5 m.length c5, .slice A6 ws.length c6, .int .i64 x, .int .i64 y, .int .i64 z, .int .i64 p, .int .i64 q] w fun e w' => e = .returned (.bool true) ∧ Below w.heap.size w w' := by
  have S4 := hide hs4; clear hs4
  have S5 := hide hs5; clear hs5
  have S6 := hide hs6; clear hs6
  have HP := hide hp; clear hp
  have HQ := hide hq; clear hq
  have B0 := hide (Below.refl w.heap.size w)
  have z0 : w.heap.size ≤ w.heap.size := Nat.le_refl _
  go_enter Try.func33, Try.ntmps33
  go_wp2_with fail
  refine (points_any A4 l c4 3000 _ S4.out m4 (by omega) (by omega)).mono ?_
  rintro e w1 ⟨va, as_, rfl, la1, la5, oka, hoa, hb1⟩
  have z1 : w.heap.size ≤ w1.heap.size := Nat.le_trans z0 hb1.size
  have B1 := hide (B0.out.trans (hb1.mono z0)); clear B0
  replace S4 := hide (S4.out.below hb1)
  replace S5 := hide (S5.out.below hb1)
  replace S6 := hide (S6.out.below hb1)
  obtain ⟨Aa, ca, rfl, _, _, _⟩ := own_val hoa
  have SA := hide (show SlI w1 Aa as_ from own_sl hoa)
  have OKA := hide oka
  clear hoa oka
  clear hb1
  go_wp2_with fail
  refine (points_any A5 m c5 3000 _ S5.out m5 (by omega) (by omega)).mono ?_
  rintro e w2 ⟨vb, bs, rfl, lb1, lb5, okb, hob, hb2⟩
  have z2 : w.heap.size ≤ w2.heap.size := Nat.le_trans z1 hb2.size
  have B2 := hide (B1.out.trans (hb2.mono z1)); clear B1
  replace S4 := hide (S4.out.below hb2)
  replace S5 := hide (S5.out.below hb2)
  replace S6 := hide (S6.out.below hb2)
  replace SA := hide (SA.out.below hb2)
  obtain ⟨Ab, cb, rfl, _, _, _⟩ := own_val hob
  have SB := hide (show SlI w2 Ab bs from own_sl hob)
  have OKB := hide okb
  clear hob okb
  clear hb2
  go_wp2_with fail
  refine (equal_any as_.length bs.length A6 ws c6 _ S6.out m6 (by omega) (by omega) (by omega) (by omega)).mono ?_
  rintro e w3 ⟨vs, vt, s, t, rfl, ls, lt, s9, t9, hst, s1, s2, hos, hot, hb3⟩
  have z3 : w.heap.size ≤ w3.heap.size := Nat.le_trans z2 hb3.size
  have B3 := hide (B2.out.trans (hb3.mono z2)); clear B2
  replace S4 := hide (S4.out.below hb3)
  replace S5 := hide (S5.out.below hb3)
  replace S6 := hide (S6.out.below hb3)
  replace SA := hide (SA.out.below hb3)
  replace SB := hide (SB.out.below hb3)
  have CA := hide (comb_made (by omega) la1 (by omega) OKA.out ls s9 s1 s2)
  have CB := hide (comb_made (by omega) lb1 (by omega) OKB.out lt t9 (by omega) (by omega))
  have HST := hide hst
  rw [← ls] at hos
  rw [← lt] at hot
  obtain ⟨As, cs, rfl, _, _, _⟩ := own_val hos
  obtain ⟨At, ct, rfl, _, _, _⟩ := own_val hot
  have SS := hide (show SlN w3 As s from own_sl hos)
  have ST := hide (show SlN w3 At t from own_sl hot)
  have hls : s.length ≤ 5 := by omega
  have hlt : t.length ≤ 5 := by omega
  clear hos hot hst ls lt s9 t9
  clear hb3
  go_wp2_with fail
  refine (mkNormal_any x y z _).mono ?_
  rintro e w4 ⟨n, hun, rfl, hb4⟩
  have z4 : w.heap.size ≤ w4.heap.size := Nat.le_trans z3 hb4.size
  have B4 := hide (B3.out.trans (hb4.mono z3)); clear B3
  replace S4 := hide (S4.out.below hb4)
  replace S5 := hide (S5.out.below hb4)
  replace S6 := hide (S6.out.below hb4)
  replace SA := hide (SA.out.below hb4)
  replace SB := hide (SB.out.below hb4)
  replace SS := hide (SS.out.below hb4)
  replace ST := hide (ST.out.below hb4)
  have HUn := hide hun; clear hun
  unfold V3.v
  clear hb4
  go_wp2_with fail
  obtain ⟨w5, hw5⟩ : ∃ W, W = (w4.alloc (.cells #[.int .i64 n.x, .int .i64 n.y, .int .i64 n.z] 47)) := ⟨_, rfl⟩
  rw [← hw5]
  have hb5 : Below w4.heap.size w4 w5 := by rw [hw5]; go_grown
  have z5 : w.heap.size ≤ w5.heap.size := Nat.le_trans z4 hb5.size
  have B5 := hide (B4.out.trans (hb5.mono z4)); clear B4
  replace S4 := hide (S4.out.below hb5)
  replace S5 := hide (S5.out.below hb5)
  replace S6 := hide (S6.out.below hb5)
  replace SA := hide (SA.out.below hb5)
  replace SB := hide (SB.out.below hb5)
  replace SS := hide (SS.out.below hb5)
  replace ST := hide (ST.out.below hb5)
  have KN := hide (show w5.heap[w4.heap.size]? = some (.cells (vcs n) 47 (0, 0)) by rw [hw5]; exact new_at _ _ (by simp))
  have yN : w4.heap.size < w5.heap.size := by rw [hw5]; simp <;> omega
  clear hw5 hb5
  have hov : ∀ o, ovl s t as_ bs (rad16 p) (rad16 q) = o → Hid (ovl s t as_ bs (rad16 p) (rad16 q) = o) := fun _ h => h
  cases ho : ovl s t as_ bs (rad16 p) (rad16 q)
  · have HO := hov _ ho; clear hov ho
    have kN0 := blk_cell KN.out; simp only [vcs] at kN0
    have kN := kN0
    have g0 : Below w5.heap.size w5 w5.drew := (Below.refl _ _).drew
    refine wp_region_any (by kernel_rfl) ?_
    try (change wpAny _ _ _ _ _ _ _ (World.drew _))
    refine wpAny_ready (rs := [0]) (by kernel_rfl) (by simp) ?_
    refine AllReady.cons rfl (fun K hK => ?_) AllReady.nil
    go_simp
    go_wp2_with (go_at_call 43; (with_reducible refine (awake16 _).mono ?_); rintro e v1 ⟨rfl, b1⟩; have g1 := g0.trans (b1.mono g0.size))
    try (refine hK _ _ ?_; clear hK K)
    refine wpAny_take (i := 1) (v := ?_) rfl (by kernel_rfl) (by kernel_rfl) (by kernel_rfl) (fun _ _ _ h => h) (Or.inl ⟨by rfl, ?_⟩) ?_
    rotate_left
    (intro w; go_simp; try (with_reducible rfl))
    refine wpAny_take (i := 2) (v := ?_) rfl (by kernel_rfl) (by kernel_rfl) (by kernel_rfl) (fun _ _ _ h => h) (Or.inl ⟨by rfl, ?_⟩) ?_
    rotate_left
    (intro w; go_simp; try (with_reducible rfl))
    refine wpAny_take (i := 3) (v := ?_) rfl (by kernel_rfl) (by kernel_rfl) (by kernel_rfl) (fun _ _ _ h => h) (Or.inl ⟨by rfl, ?_⟩) ?_
    rotate_left
    (intro w; go_simp; try (with_reducible rfl))
    refine wpAny_take (i := 4) (v := ?_) rfl (by kernel_rfl) (by kernel_rfl) (by kernel_rfl) (fun _ _ _ h => h) (Or.inl ⟨by rfl, ?_⟩) ?_
    rotate_left
    (intro w; go_simp; try (with_reducible rfl))
    refine wpAny_take (i := 5) (v := ?_) rfl (by kernel_rfl) (by kernel_rfl) (by kernel_rfl) (fun _ _ _ h => h) (Or.inl ⟨by rfl, ?_⟩) ?_
    rotate_left
    (intro w; go_simp; try (with_reducible rfl))
    refine wpAny_take (i := 7) (v := ?_) rfl (by kernel_rfl) (by kernel_rfl) (by kernel_rfl) (fun _ _ _ h => h) (Or.inl ⟨by rfl, ?_⟩) ?_
    rotate_left
    (intro w; go_simp; try (with_reducible rfl))
    refine wpAny_take (i := 8) (v := ?_) rfl (by kernel_rfl) (by kernel_rfl) (by kernel_rfl) (fun _ _ _ h => h) (Or.inl ⟨by rfl, ?_⟩) ?_
    rotate_left
    (intro w; go_simp; try (with_reducible rfl))
    refine wpAny_ready (rs := [6]) (by kernel_rfl) (by simp) ?_
    refine AllReady.cons rfl (fun K hK => ?_) AllReady.nil
    go_simp
    go_wp2_with (go_at_call 45; (with_reducible refine (radius16_any p _ HP.out).mono ?_); rintro e w' ⟨rfl, rfl⟩)
    try (refine hK _ _ ?_; clear hK K)
    refine wpAny_ready (rs := [9]) (by kernel_rfl) (by simp) ?_
    refine AllReady.cons rfl (fun K hK => ?_) AllReady.nil
    go_simp
    go_wp2_with (go_at_call 45; (with_reducible refine (radius16_any q _ HQ.out).mono ?_); rintro e w' ⟨rfl, rfl⟩)
    try (refine hK _ _ ?_; clear hK K)
    refine wpAny_ready (rs := [10]) (by kernel_rfl) (by simp) ?_
    refine AllReady.cons rfl (fun K hK => ?_) AllReady.nil
    go_simp
    go_wp2_with (go_at_call 48; (with_reducible refine (overlaps_any s t as_ bs (rad16 p) (rad16 q) As At Aa Ab cs ct ca cb _ (SS.out.below g1) (ST.out.below g1) (SA.out.below g1) (SB.out.below g1) (by omega) (by omega) (by omega) (by omega)).mono ?_); rintro e w6 ⟨rfl, b2⟩; have g2 := g1.trans (b2.mono g1.size); rw [HO.out])
    try (refine hK _ _ ?_; clear hK K)
    refine wpAny_take (i := 11) (v := ?_) rfl (by kernel_rfl) (by kernel_rfl) (by kernel_rfl) (fun _ _ _ h => h) (Or.inl ⟨by rfl, ?_⟩) ?_
    rotate_left
    (intro w; go_simp; try (with_reducible rfl))
    refine wpAny_take (i := 12) (v := undef) rfl (by kernel_rfl) (by kernel_rfl) (by kernel_rfl) (fun _ _ _ h => h) (Or.inr ⟨by kernel_rfl, rfl⟩) ?_
    refine wpAny_take (i := 13) (v := undef) rfl (by kernel_rfl) (by kernel_rfl) (by kernel_rfl) (fun _ _ _ h => h) (Or.inr ⟨by kernel_rfl, rfl⟩) ?_
    refine wpAny_take (i := 14) (v := undef) rfl (by kernel_rfl) (by kernel_rfl) (by kernel_rfl) (fun _ _ _ h => h) (Or.inr ⟨by kernel_rfl, rfl⟩) ?_
    refine wpAny_take (i := 15) (v := undef) rfl (by kernel_rfl) (by kernel_rfl) (by kernel_rfl) (fun _ _ _ h => h) (Or.inr ⟨by kernel_rfl, rfl⟩) ?_
    refine wpAny_take (i := 16) (v := undef) rfl (by kernel_rfl) (by kernel_rfl) (by kernel_rfl) (fun _ _ _ h => h) (Or.inr ⟨by kernel_rfl, rfl⟩) ?_
    refine wpAny_take (i := 17) (v := undef) rfl (by kernel_rfl) (by kernel_rfl) (by kernel_rfl) (fun _ _ _ h => h) (Or.inr ⟨by kernel_rfl, rfl⟩) ?_
    refine wpAny_take (i := 18) (v := undef) rfl (by kernel_rfl) (by kernel_rfl) (by kernel_rfl) (fun _ _ _ h => h) (Or.inr ⟨by kernel_rfl, rfl⟩) ?_
    refine wpAny_take (i := 19) (v := undef) rfl (by kernel_rfl) (by kernel_rfl) (by kernel_rfl) (fun _ _ _ h => h) (Or.inr ⟨by kernel_rfl, rfl⟩) ?_
    refine wpAny_take (i := 20) (v := .bool false) rfl (by kernel_rfl) (by kernel_rfl) (by kernel_rfl) (fun _ _ _ h => h) (Or.inl ⟨by kernel_rfl, fun w => by kernel_rfl⟩) ?_
    refine wpAny_take (i := 21) (v := .bool true) rfl (by kernel_rfl) (by kernel_rfl) (by kernel_rfl) (fun _ _ _ h => h) (Or.inl ⟨by kernel_rfl, fun w => by kernel_rfl⟩) ?_
    refine wpAny_take (i := 22) (v := .bool true) rfl (by kernel_rfl) (by kernel_rfl) (by kernel_rfl) (fun _ _ _ h => h) (Or.inl ⟨by kernel_rfl, fun w => by kernel_rfl⟩) ?_
    refine wpAny_take (i := 23) (v := .bool true) rfl (by kernel_rfl) (by kernel_rfl) (by kernel_rfl) (fun _ _ _ h => h) (Or.inl ⟨by kernel_rfl, fun w => by kernel_rfl⟩) ?_
    refine wpAny_done (by kernel_rfl) ?_ _
    have z6 : w.heap.size ≤ w6.heap.size := Nat.le_trans z5 g2.size
    have B6 := hide (B5.out.trans (g2.mono z5)); clear B5 kN0 kN b1 b2 g0 g1 g2
    go_wp2_with fail
    refine bodyPost_ret (v := .bool true) (by kernel_rfl) (by kernel_rfl) ⟨rfl, B6.out⟩
  · have HO := hov _ ho; clear hov ho
    have HE := hide (excludes_plain CA.out CB.out HST.out HUn.out (rad16_bd p) (rad16_bd q) HO.out)
    have kN0 := blk_cell KN.out; simp only [vcs] at kN0
    have kN := kN0
    have g0 : Below w5.heap.size w5 w5.drew := (Below.refl _ _).drew
    go_region_held3 (fun w' => (∀ i, w'.cell? ⟨w4.heap.size, i, none⟩ = #[.int .i64 n.x, .int .i64 n.y, .int .i64 n.z][i]?))
      (first | with_reducible exact kN | go_keep)
      (first | (go_at_call 43; (with_reducible refine (awake16 _).mono ?_); rintro e v1 ⟨rfl, b1⟩; have g1 := g0.trans (b1.mono g0.size); have kN := keepe g1 yN kN0) | (go_at_call 45; (with_reducible refine (radius16_any p _ HP.out).mono ?_); rintro e w' ⟨rfl, rfl⟩) | (go_at_call 45; (with_reducible refine (radius16_any q _ HQ.out).mono ?_); rintro e w' ⟨rfl, rfl⟩) | (go_at_call 48; (with_reducible refine (overlaps_any s t as_ bs (rad16 p) (rad16 q) As At Aa Ab cs ct ca cb _ (SS.out.below g1) (ST.out.below g1) (SA.out.below g1) (SB.out.below g1) (by omega) (by omega) (by omega) (by omega)).mono ?_); rintro e v2 ⟨rfl, b2⟩; have g2 := g1.trans (b2.mono g1.size); have kN := keepe g2 yN kN0; rw [HO.out]) | (go_at_call 73; (with_reducible refine (separates_any n Aa as_ ca (rad16 p) Ab bs cb (rad16 q) _ (SA.out.below g2) (SB.out.below g2) (by omega) (by omega)).mono ?_); rintro e w6 ⟨rfl, b3⟩; have g3 := g2.trans (b3.mono g2.size); have kN := keepe g3 yN kN0; rw [HE.out]))
    clear kN0 kN b1 b2 b3
    have z6 : w.heap.size ≤ w6.heap.size := Nat.le_trans z5 g3.size
    have B6 := hide (B5.out.trans (g3.mono z5)); clear B5
    replace S4 := hide (S4.out.below g3)
    replace S5 := hide (S5.out.below g3)
    replace S6 := hide (S6.out.below g3)
    replace SA := hide (SA.out.below g3)
    replace SB := hide (SB.out.below g3)
    replace SS := hide (SS.out.below g3)
    replace ST := hide (ST.out.below g3)
    replace KN := hide ((g3.block _ yN).trans KN.out)
    replace yN := Nat.lt_of_lt_of_le yN g3.size
    clear g0 g1 g2 g3
    go_wp2_with fail
    go_ret
    exact ⟨rfl, B6.out⟩
end Go.Proofs.Ytionbckpgfaneaa
