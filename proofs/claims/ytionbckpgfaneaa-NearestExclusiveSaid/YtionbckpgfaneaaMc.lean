/- NearestExclusive, walked. -/
import Derived.Test.YtionbckpgfaneaaNh
import Derived.Laws.OwnMore
namespace Go.Proofs.Ytionbckpgfaneaa
open Go.RowKit
set_option maxHeartbeats 4000000
set_option maxRecDepth 100000
theorem flat_len3 (l : List V3) : (l.flatMap V3.cells).length = l.length * 3 := by
  induction l with
  | nil => rfl
  | cons v l ih => rw [List.flatMap_cons, List.length_append, ih, List.length_cons]; simp [V3.cells]; omega
theorem flat_one3 (l : List V3) : ∀ u ∈ l.flatMap V3.cells, u.oneCell' = true := by
  intro u hu
  obtain ⟨v, _, hv⟩ := List.mem_flatMap.1 hu
  simp [V3.cells] at hv
  rcases hv with rfl | rfl | rfl <;> rfl
theorem nearestExclusive_walk (l m : List Int) (at_ rho steps : Int) (A0 A1 : Option Addr) (c0 c1 : Nat) (w : World) (hs0 : SlN w A0 l) (hs1 : SlN w A1 m) (m0 : l.length ≤ 9223372036854775807) (m1 : m.length ≤ 9223372036854775807) (hr : I64 rho) :
    Calls Try.prog 29 #[.slice A0 l.length c0, .slice A1 m.length c1, .int .i64 at_, .int .i64 rho, .int .i64 steps] w fun e w' => e = .returned (.bool true) ∧ Below w.heap.size w w' := by
  obtain ⟨i0, hi0, hz0, hz1, hz2⟩ := info_parts info47
  have S0 := hide hs0; have S1 := hide hs1; clear hs0 hs1
  go_enter Try.func29, Try.ntmps29
  go_wp2_with fail
  refine (hulls_any A0 A1 l m c0 c1 rho _ S0.out S1.out m0 m1 hr).mono ?_
  rintro e w1 ⟨x, y, A, B, c, d, rfl, sx, sy, lc, ld, SX0, SY0, hb1⟩
  obtain ⟨q0, q1⟩ := rad14_bd rho
  obtain ⟨q, hq⟩ : ∃ q, rad14 rho = q := ⟨_, rfl⟩
  rw [hq] at q0 q1 ⊢
  clear hq
  have FX := hide sx.few; have FY := hide sy.few
  obtain ⟨lx1, lx5, _⟩ := sx
  obtain ⟨ly1, ly5, _⟩ := sy
  have SX := hide SX0; have SY := hide SY0
  rename_i sx' sy'
  have B1 := hide hb1
  have SMX := hide sx'; have SMY := hide sy'
  clear hb1 SX0 SY0 sx' sy'
  go_wp2_with fail
  refine (round_any at_ (x.length : Int) _ (by omega) (by omega)).mono ?_
  rintro e w' ⟨rfl, rfl⟩
  obtain ⟨j, hj⟩ : ∃ j : Nat, at_ % (x.length : Int) = (j : Int) := ⟨(at_ % (x.length : Int)).toNat, by have := Int.emod_nonneg at_ (show (x.length : Int) ≠ 0 by omega); omega⟩
  have jlt : j < x.length := by have := Int.emod_lt_of_pos at_ (show 0 < (x.length : Int) by omega); omega
  rw [hj]
  clear hj
  obtain ⟨bX, oX, rfl, hbX⟩ := SX.out.addr (by omega)
  obtain ⟨p0, p1, p2⟩ := SX.out.at_ jlt
  have j0 : (0 : Int) ≤ (j : Int) := Int.natCast_nonneg _
  have j1 : (j : Int) < (x.length : Int) := by omega
  have HOWN := hide (World.ownsRow_lit (base := w1.heap.size) (e := 47) (size := 3) w1 #[.int .i64 x[j].x, .int .i64 x[j].y, .int .i64 x[j].z] 1 (Nat.le_refl _) (by unfold maxLen; omega) rfl)
  go_wp2_with (at_builtin; refine wpList_append_sl _ rfl _ _ 49 rfl w1.heap.size 47 i0 _ 3 24 Try.underlying49 hi0 hz0 hz1 hz2 rfl (by decide) (.slice (some ⟨w1.heap.size, 0, none⟩) 1 1) 1 _ rfl HOWN.out B y.length d (y.flatMap V3.cells) rfl (by rw [flat_len3]) (by exact Sl.alloc SY.out _) (flat_one3 y) (by unfold maxLen; omega) (by omega) (by simp) ?_; intro v2 w2 hown2 hg2)
  obtain ⟨A2, c2, rfl, _, _, _⟩ := own_val hown2
  have el : 1 + y.length = (x[j] :: y).length := by simp; omega
  rw [el]
  have SZ := hide (show SlV w2 A2 (x[j] :: y) from own_sl hown2)
  have b2 : Below w1.heap.size w1 w2 := ((Below.refl w1.heap.size w1).alloc (Nat.le_refl _) _).grown hg2 (by simp) (fun k hk => by simp [Value.ownBlock] at hk; omega)
  replace SX := hide (SX.out.below b2)
  have B2 := hide (stepB b2 B1.out)
  have FZ := hide (show fewB (x[j] :: y) = true from few_all (by simp) (by simp; omega) (fun v hv => by
    rcases List.mem_cons.1 hv with rfl | hv
    · exact (SMX.out _ (by simp)).vok
    · exact (SMY.out v hv).vok))
  clear hown2 hg2 b2 B1 HOWN p0 p1 p2 SY el
  refine (round_any steps 65 _ (by decide) (by decide)).mono ?_
  rintro e w' ⟨rfl, rfl⟩
  obtain ⟨k, hk⟩ : ∃ k : Nat, steps % 65 = (k : Int) := ⟨(steps % 65).toNat, by omega⟩
  rw [hk]
  have kb : k ≤ 64 := by omega
  clear hk
  obtain ⟨z, hz⟩ : ∃ z, z = x[j] :: y := ⟨_, rfl⟩
  have NC := search_common (a := x) (b := z) (rho := q) (steps := k) q0 jlt (show 0 < z.length by rw [hz]; simp) (by simp [hz])
  have lz1 : 1 ≤ z.length := by rw [hz]; simp
  rw [← hz] at SZ FZ ⊢
  clear hz
  go_wp2_with fail
  refine (search_any (some ⟨bX, oX, none⟩) A2 x z c c2 q k _ SX.out SZ.out FX.out FZ.out q0 q1 kb).mono ?_
  rintro e w3 ⟨gL, gR, rfl, sL, sR, hb3⟩
  obtain ⟨r, hr'⟩ : ∃ r, searchN x z q k = r := ⟨_, rfl⟩
  rw [hr'] at NC ⊢
  clear hr' sL sR
  unfold nearV
  have B3 := hide (stepB hb3 B2.out)
  clear hb3 B2
  go_wp2_with fail
  refine (awake14 _).mono ?_
  rintro e w4 ⟨rfl, hb4⟩
  have K4 := hide (newB hb4)
  have b4 := stepB hb4 ((Below.refl w3.heap.size w3).alloc (Nat.le_refl _) _)
  have B4 := hide (stepB b4 B3.out)
  have y4 := blt K4.out; have c4 := blk_cell K4.out
  have n1 : (r.1 != 1) = true := by simp [NC]
  have n2 : ((x.length : Int) == (x.length : Int)) = true := by simp
  clear hb4 b4 B3 NC
  go_wp2_with fail
  go_ret
  exact ⟨rfl, B4.out⟩
end Go.Proofs.Ytionbckpgfaneaa
