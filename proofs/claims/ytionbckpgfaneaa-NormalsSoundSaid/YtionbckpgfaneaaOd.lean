/- NormalsSound, walked. -/
import Derived.Test.YtionbckpgfaneaaLp
import Derived.Test.YtionbckpgfaneaaQd
import Derived.Test.YtionbckpgfaneaaQk
import Derived.Test.YtionbckpgfaneaaPm
import Derived.Deep.RegionHeld3
namespace Go.Proofs.Ytionbckpgfaneaa
open Go.RowKit
set_option maxHeartbeats 1000000
set_option maxRecDepth 100000
attribute [local go_sem] eq47
theorem findR_both (o : Option V3) : ∃ (n : V3) (t : Bool), findR o = .tuple #[.agg #[.int .i64 n.x, .int .i64 n.y, .int .i64 n.z], .bool t] ∧ ((t = true ∧ o = some n) ∨ (t = false ∧ n = zeroV ∧ o = none)) := by
  cases o with
  | none => exact ⟨zeroV, false, rfl, .inr ⟨rfl, rfl, rfl⟩⟩
  | some n => exact ⟨n, true, rfl, .inl ⟨rfl, rfl⟩⟩
theorem firstR_like (l : List V3) (a : List IV) (ra : Int) (b : List IV) (rb : Int) (t : Bool) (h : (l.find? fun n => sepB n a ra b rb).isSome = t) : ∃ F : Int, firstR l a ra b rb = .tuple #[.int .i64 F, .bool t] := by
  rcases firstR_cases l a ra b rb with ⟨h1, h2⟩ | ⟨i, hi, h1, h2⟩
  · rw [h2] at h
    exact ⟨0, by rw [h1, ← h]; rfl⟩
  · rw [h2] at h
    exact ⟨i, by rw [h1, ← h]; rfl⟩
theorem normalsSound_walk (l m o : List Int) (p q : Int) (A4 A5 A6 : Option Addr) (c4 c5 c6 : Nat) (w : World)
    (hs4 : SlN w A4 l) (hs5 : SlN w A5 m) (hs6 : SlN w A6 o) (m4 : l.length ≤ 9223372036854775807) (m5 : m.length ≤ 9223372036854775807) (m6 : o.length ≤ 9223372036854775807) (hp : I64 p) (hq : I64 q) :
    Calls Try.prog 40 #[.slice A4 l.length c4, .slice A5 m.length c5, .slice A6 o.length c6, .int .i64 p, .int .i64 q] w fun e w' => e = .returned (.bool true) ∧ Below w.heap.size w w' := by
  have S4 := hide hs4; clear hs4
  have S5 := hide hs5; clear hs5
  have S6 := hide hs6; clear hs6
  have HP := hide hp; clear hp
  have HQ := hide hq; clear hq
  have B0 := hide (Below.refl w.heap.size w)
  have z0 : w.heap.size ≤ w.heap.size := Nat.le_refl _
  go_enter Try.func40, Try.ntmps40
  go_wp2_with fail
  refine (points_any A4 l c4 3000 _ S4.out m4 (by omega) (by omega)).mono ?_
  rintro e w1 ⟨va, as_, rfl, la1, la5, oka, hoa, hb1⟩
  have z1 : w.heap.size ≤ w1.heap.size := Nat.le_trans z0 hb1.size
  have B1 := hide (B0.out.trans (hb1.mono z0)); clear B0
  replace S4 := hide (S4.out.below hb1)
  replace S5 := hide (S5.out.below hb1)
  replace S6 := hide (S6.out.below hb1)
  obtain ⟨Aa, ca, rfl, _, _, _⟩ := own_val hoa
  have SA := hide (show SlI w1 Aa as_ from own_sl hoa)
  have OKA := hide oka
  clear hoa oka
  clear hb1
  go_wp2_with fail
  have PA := hide (placed_made (by omega) la1 (by omega) OKA.out)
  refine (points_any A5 m c5 3000 _ S5.out m5 (by omega) (by omega)).mono ?_
  rintro e w2 ⟨vb, bs, rfl, lb1, lb5, okb, hob, hb2⟩
  have z2 : w.heap.size ≤ w2.heap.size := Nat.le_trans z1 hb2.size
  have B2 := hide (B1.out.trans (hb2.mono z1)); clear B1
  replace S4 := hide (S4.out.below hb2)
  replace S5 := hide (S5.out.below hb2)
  replace S6 := hide (S6.out.below hb2)
  replace SA := hide (SA.out.below hb2)
  obtain ⟨Ab, cb, rfl, _, _, _⟩ := own_val hob
  have SB := hide (show SlI w2 Ab bs from own_sl hob)
  have OKB := hide okb
  clear hob okb
  clear hb2
  go_wp2_with fail
  have PB := hide (placed_made (by omega) lb1 (by omega) OKB.out)
  refine (hints_any A6 o c6 _ S6.out m6).mono ?_
  rintro e w3 ⟨Ah, ch, hs, rfl, lh3, sh, hb3⟩
  have z3 : w.heap.size ≤ w3.heap.size := Nat.le_trans z2 hb3.size
  have B3 := hide (B2.out.trans (hb3.mono z2)); clear B2
  replace S4 := hide (S4.out.below hb3)
  replace S5 := hide (S5.out.below hb3)
  replace S6 := hide (S6.out.below hb3)
  replace SA := hide (SA.out.below hb3)
  replace SB := hide (SB.out.below hb3)
  have SH := hide sh; clear sh
  clear hb3
  go_wp2_with fail
  refine (radius17_any p _ HP.out).mono ?_
  rintro e w' ⟨rfl, rfl⟩
  go_wp2_with fail
  refine (radius17_any q _ HQ.out).mono ?_
  rintro e w' ⟨rfl, rfl⟩
  go_wp2_with fail
  refine (find_any Aa Ab Ah ca cb ch as_ bs hs (rad15 p) (rad15 q) _ SA.out SB.out SH.out (by omega) (by omega) (by omega)).mono ?_
  rintro e w4 ⟨rfl, hb4⟩
  have z4 : w.heap.size ≤ w4.heap.size := Nat.le_trans z3 hb4.size
  have B4 := hide (B3.out.trans (hb4.mono z3)); clear B3
  replace S4 := hide (S4.out.below hb4)
  replace S5 := hide (S5.out.below hb4)
  replace S6 := hide (S6.out.below hb4)
  replace SA := hide (SA.out.below hb4)
  replace SB := hide (SB.out.below hb4)
  replace SH := hide (SH.out.below hb4)
  obtain ⟨n, t, hn, hc⟩ := findR_both (findN as_ (rad15 p) bs (rad15 q) hs)
  rw [hn]
  have HC := hide hc
  have HS := hide (show (findN as_ (rad15 p) bs (rad15 q) hs).isSome = t by rcases hc with ⟨rfl, h⟩ | ⟨rfl, _, h⟩ <;> rw [h] <;> rfl)
  clear hn hc
  clear hb4
  go_upto_region 4 with fail
  obtain ⟨w5, hw5⟩ : ∃ W, W = (w4.alloc (.cells #[.int .i64 n.x, .int .i64 n.y, .int .i64 n.z] 47)) := ⟨_, rfl⟩
  rw [← hw5]
  have hb5 : Below w4.heap.size w4 w5 := by rw [hw5]; go_grown
  have z5 : w.heap.size ≤ w5.heap.size := Nat.le_trans z4 hb5.size
  have B5 := hide (B4.out.trans (hb5.mono z4)); clear B4
  replace S4 := hide (S4.out.below hb5)
  replace S5 := hide (S5.out.below hb5)
  replace S6 := hide (S6.out.below hb5)
  replace SA := hide (SA.out.below hb5)
  replace SB := hide (SB.out.below hb5)
  replace SH := hide (SH.out.below hb5)
  have KN := hide (show w5.heap[w4.heap.size]? = some (.cells (vcs n) 47 (0, 0)) by rw [hw5]; exact new_at _ _ (by simp))
  have yN : w4.heap.size < w5.heap.size := by rw [hw5]; simp <;> omega
  clear hw5 hb5
  go_wp2_with fail
  refine (radius17_any p _ HP.out).mono ?_
  rintro e w' ⟨rfl, rfl⟩
  go_wp2_with fail
  refine (radius17_any q _ HQ.out).mono ?_
  rintro e w' ⟨rfl, rfl⟩
  go_wp2_with fail
  refine (candidates_any Aa Ab Ah ca cb ch as_ bs hs (rad15 p) (rad15 q) _ SA.out SB.out SH.out (by omega) (by omega) (by omega)).mono ?_
  rintro e w6 ⟨Ac, cc, rfl, sc, hb6⟩
  have z6 : w.heap.size ≤ w6.heap.size := Nat.le_trans z5 hb6.size
  have B6 := hide (B5.out.trans (hb6.mono z5)); clear B5
  replace S4 := hide (S4.out.below hb6)
  replace S5 := hide (S5.out.below hb6)
  replace S6 := hide (S6.out.below hb6)
  replace SA := hide (SA.out.below hb6)
  replace SB := hide (SB.out.below hb6)
  replace SH := hide (SH.out.below hb6)
  replace KN := hide ((hb6.block _ yN).trans KN.out)
  replace yN := Nat.lt_of_lt_of_le yN hb6.size
  have CL := cands_len as_ bs (rad15 p) (rad15 q) hs
  obtain ⟨cs, hcs⟩ : ∃ cs, cands as_ (rad15 p) bs (rad15 q) hs = cs := ⟨_, rfl⟩
  rw [hcs] at sc CL ⊢
  have FB := hide (show (cs.find? fun n => sepB n as_ (rad15 p) bs (rad15 q)).isSome = t by rw [← hcs]; exact HS.out)
  have SC := hide sc
  clear sc hcs HS
  clear hb6
  go_wp2_with fail
  refine (radius17_any p _ HP.out).mono ?_
  rintro e w' ⟨rfl, rfl⟩
  go_wp2_with fail
  refine (radius17_any q _ HQ.out).mono ?_
  rintro e w' ⟨rfl, rfl⟩
  go_wp2_with fail
  refine (first_any Ac Aa Ab cs as_ bs (rad15 p) (rad15 q) cc ca cb _ SC.out SA.out SB.out (by omega) (by omega) (by omega)).mono ?_
  rintro e w7 ⟨rfl, hb7⟩
  have z7 : w.heap.size ≤ w7.heap.size := Nat.le_trans z6 hb7.size
  have B7 := hide (B6.out.trans (hb7.mono z6)); clear B6
  replace S4 := hide (S4.out.below hb7)
  replace S5 := hide (S5.out.below hb7)
  replace S6 := hide (S6.out.below hb7)
  replace SA := hide (SA.out.below hb7)
  replace SB := hide (SB.out.below hb7)
  replace SH := hide (SH.out.below hb7)
  replace SC := hide (SC.out.below hb7)
  replace KN := hide ((hb7.block _ yN).trans KN.out)
  replace yN := Nat.lt_of_lt_of_le yN hb7.size
  obtain ⟨F, hF⟩ := firstR_like cs as_ (rad15 p) bs (rad15 q) t FB.out
  rw [hF]
  clear hF FB
  clear hb7
  rcases HC.out with ⟨rfl, hf⟩ | ⟨rfl, rfl, hf⟩
  · have SEP := hide (find_sound hf)
    clear hf HC
    have kN0 := blk_cell KN.out; simp only [vcs] at kN0
    have kN := kN0
    have g0 : Below w7.heap.size w7 w7.drew := (Below.refl _ _).drew
    go_wp2_with fail
    refine wp_region_held_drew (S := fun w' => ∀ i, w'.cell? ⟨w4.heap.size, i, none⟩ = #[.int .i64 n.x, .int .i64 n.y, .int .i64 n.z][i]?) (by kernel_rfl) kN (fun hS => ?_)
    refine wpAnyH_ready (rs := [0]) (by kernel_rfl) (by simp) ?_
    refine AllReadyH.cons rfl (fun K hK => ?_) AllReadyH.nil
    go_simp
    go_wp2_with (go_at_call 89; (with_reducible refine (awake17 _).mono ?_); rintro e u1 ⟨rfl, b1⟩; have g1 := g0.trans (b1.mono g0.size); have kN := keepe g1 yN kN0)
    refine hK.out _ _ kN (fun hS => ?_)
    clear hK K
    refine wpAnyH_take (i := 1) (v := .bool true) rfl (by kernel_rfl) (by kernel_rfl) (by kernel_rfl) (fun _ _ _ h => h) (Or.inl ⟨by kernel_rfl, fun w hw => by kernel_rfl⟩) hS ?_
    refine wpAnyH_take (i := 2) (v := .bool true) rfl (by kernel_rfl) (by kernel_rfl) (by kernel_rfl) (fun _ _ _ h => h) (Or.inl ⟨by kernel_rfl, fun w hw => by kernel_rfl⟩) hS ?_
    refine wpAnyH_take (i := 3) (v := .bool true) rfl (by kernel_rfl) (by kernel_rfl) (by kernel_rfl) (fun _ _ _ h => h) (Or.inl ⟨by kernel_rfl, fun w hw => by kernel_rfl⟩) hS ?_
    refine wpAnyH_take (i := 4) (v := .bool true) rfl (by kernel_rfl) (by kernel_rfl) (by kernel_rfl) (fun _ _ _ h => h) (Or.inl ⟨by kernel_rfl, fun w hw => by kernel_rfl⟩) hS ?_
    refine wpAnyH_take (i := 5) (v := .bool true) rfl (by kernel_rfl) (by kernel_rfl) (by kernel_rfl) (fun _ _ _ h => h) (Or.inl ⟨by kernel_rfl, fun w hw => by kernel_rfl⟩) hS ?_
    refine wpAnyH_take (i := 6) (v := .bool true) rfl (by kernel_rfl) (by kernel_rfl) (by kernel_rfl) (fun _ _ _ h => h) (Or.inl ⟨by kernel_rfl, fun w hw => by kernel_rfl⟩) hS ?_
    refine wpAnyH_take (i := 7) (v := .bool true) rfl (by kernel_rfl) (by kernel_rfl) (by kernel_rfl) (fun _ _ _ h => h) (Or.inl ⟨by kernel_rfl, fun w hw => by kernel_rfl⟩) hS ?_
    refine wpAnyH_take (i := 8) (v := .agg #[.int .i64 n.x, .int .i64 n.y, .int .i64 n.z]) rfl (by kernel_rfl) (by kernel_rfl) (by kernel_rfl) (fun _ _ _ h => h) (Or.inl ⟨by kernel_rfl, fun w hw => by go_simp⟩) hS ?_
    refine wpAnyH_take (i := 9) (v := .slice Aa as_.length ca) rfl (by kernel_rfl) (by kernel_rfl) (by kernel_rfl) (fun _ _ _ h => h) (Or.inl ⟨by kernel_rfl, fun w hw => by kernel_rfl⟩) hS ?_
    refine wpAnyH_take (i := 10) (v := .int .i64 p) rfl (by kernel_rfl) (by kernel_rfl) (by kernel_rfl) (fun _ _ _ h => h) (Or.inl ⟨by kernel_rfl, fun w hw => by kernel_rfl⟩) hS ?_
    refine wpAnyH_take (i := 12) (v := .slice Ab bs.length cb) rfl (by kernel_rfl) (by kernel_rfl) (by kernel_rfl) (fun _ _ _ h => h) (Or.inl ⟨by kernel_rfl, fun w hw => by kernel_rfl⟩) hS ?_
    refine wpAnyH_take (i := 13) (v := .int .i64 q) rfl (by kernel_rfl) (by kernel_rfl) (by kernel_rfl) (fun _ _ _ h => h) (Or.inl ⟨by kernel_rfl, fun w hw => by kernel_rfl⟩) hS ?_
    refine wpAnyH_ready (rs := [11]) (by kernel_rfl) (by simp) ?_
    refine AllReadyH.cons rfl (fun K hK => ?_) AllReadyH.nil
    go_simp
    go_wp2_with (go_at_call 91; (with_reducible refine (radius17_any p _ HP.out).mono ?_); rintro e w' ⟨rfl, rfl⟩)
    refine hK.out _ _ kN (fun hS => ?_)
    clear hK K
    refine wpAnyH_ready (rs := [14]) (by kernel_rfl) (by simp) ?_
    refine AllReadyH.cons rfl (fun K hK => ?_) AllReadyH.nil
    go_simp
    go_wp2_with (go_at_call 91; (with_reducible refine (radius17_any q _ HQ.out).mono ?_); rintro e w' ⟨rfl, rfl⟩)
    refine hK.out _ _ kN (fun hS => ?_)
    clear hK K
    refine wpAnyH_ready (rs := [15]) (by kernel_rfl) (by simp) ?_
    refine AllReadyH.cons rfl (fun K hK => ?_) AllReadyH.nil
    go_simp
    go_wp2_with (go_at_call 73; (with_reducible refine (separates_any n Aa as_ ca (rad15 p) Ab bs cb (rad15 q) _ (SA.out.below g1) (SB.out.below g1) (by omega) (by omega)).mono ?_); rintro e u2 ⟨rfl, b2⟩; rw [SEP.out]; have g2 := g1.trans (b2.mono g1.size); have kN := keepe g2 yN kN0)
    refine hK.out _ _ kN (fun hS => ?_)
    clear hK K
    refine wpAnyH_take (i := 16) (v := .bool true) rfl (by kernel_rfl) (by kernel_rfl) (by kernel_rfl) (fun _ _ _ h => h) (Or.inl ⟨by kernel_rfl, fun w hw => by kernel_rfl⟩) hS ?_
    refine wpAnyH_take (i := 17) (v := .bool true) rfl (by kernel_rfl) (by kernel_rfl) (by kernel_rfl) (fun _ _ _ h => h) (Or.inl ⟨by kernel_rfl, fun w hw => by kernel_rfl⟩) hS ?_
    refine wpAnyH_take (i := 18) (v := .bool true) rfl (by kernel_rfl) (by kernel_rfl) (by kernel_rfl) (fun _ _ _ h => h) (Or.inl ⟨by kernel_rfl, fun w hw => by kernel_rfl⟩) hS ?_
    refine wpAnyH_take (i := 19) (v := .bool true) rfl (by kernel_rfl) (by kernel_rfl) (by kernel_rfl) (fun _ _ _ h => h) (Or.inl ⟨by kernel_rfl, fun w hw => by kernel_rfl⟩) hS ?_
    refine wpAnyH_take (i := 20) (v := .bool true) rfl (by kernel_rfl) (by kernel_rfl) (by kernel_rfl) (fun _ _ _ h => h) (Or.inl ⟨by kernel_rfl, fun w hw => by kernel_rfl⟩) hS ?_
    refine wpAnyH_take (i := 21) (v := undef) rfl (by kernel_rfl) (by kernel_rfl) (by kernel_rfl) (fun _ _ _ h => h) (Or.inr ⟨by kernel_rfl, rfl⟩) hS ?_
    refine wpAnyH_take (i := 22) (v := undef) rfl (by kernel_rfl) (by kernel_rfl) (by kernel_rfl) (fun _ _ _ h => h) (Or.inr ⟨by kernel_rfl, rfl⟩) hS ?_
    refine wpAnyH_take (i := 23) (v := undef) rfl (by kernel_rfl) (by kernel_rfl) (by kernel_rfl) (fun _ _ _ h => h) (Or.inr ⟨by kernel_rfl, rfl⟩) hS ?_
    refine wpAnyH_take (i := 24) (v := .bool true) rfl (by kernel_rfl) (by kernel_rfl) (by kernel_rfl) (fun _ _ _ h => h) (Or.inl ⟨by kernel_rfl, fun w hw => by kernel_rfl⟩) hS ?_
    refine wpAnyH_take (i := 25) (v := .bool true) rfl (by kernel_rfl) (by kernel_rfl) (by kernel_rfl) (fun _ _ _ h => h) (Or.inl ⟨by kernel_rfl, fun w hw => by kernel_rfl⟩) hS ?_
    refine wpAnyH_take (i := 26) (v := .bool true) rfl (by kernel_rfl) (by kernel_rfl) (by kernel_rfl) (fun _ _ _ h => h) (Or.inl ⟨by kernel_rfl, fun w hw => by kernel_rfl⟩) hS ?_
    refine wpAnyH_done (by kernel_rfl) ?_ _
    go_wp2_with fail
    go_ret
    exact ⟨by kernel_rfl, B7.out.trans (g2.mono z7)⟩
  · have SEP := hide (show sepB ⟨0, 0, 0⟩ as_ (rad15 p) bs (rad15 q) = false from sep_zero as_ bs (rad15 p) (rad15 q))
    clear hf HC
    have kN0 := blk_cell KN.out; simp only [vcs, zeroV] at kN0
    have kN := kN0
    have e0 : eqV ⟨0, 0, 0⟩ ⟨0, 0, 0⟩ = true := rfl
    have g0 : Below w7.heap.size w7 w7.drew := (Below.refl _ _).drew
    go_wp2_with fail
    go_region_held3 (fun w' => ∀ i, w'.cell? ⟨w4.heap.size, i, none⟩ = #[.int .i64 0, .int .i64 0, .int .i64 0][i]?) (first | with_reducible exact kN | go_keep) (first | (go_at_call 89; (with_reducible refine (awake17 _).mono ?_); rintro e u1 ⟨rfl, b1⟩; have g1 := g0.trans (b1.mono g0.size); have kN := keepe g1 yN kN0) | (go_at_call 91; (with_reducible refine (radius17_any p _ HP.out).mono ?_); rintro e w' ⟨rfl, rfl⟩) | (go_at_call 91; (with_reducible refine (radius17_any q _ HQ.out).mono ?_); rintro e w' ⟨rfl, rfl⟩) | (go_at_call 73; (with_reducible refine (separates_any ⟨0, 0, 0⟩ Aa as_ ca (rad15 p) Ab bs cb (rad15 q) _ (SA.out.below g1) (SB.out.below g1) (by omega) (by omega)).mono ?_); rintro e u2 ⟨rfl, b2⟩; rw [SEP.out]; have g2 := g1.trans (b2.mono g1.size); have kN := keepe g2 yN kN0))
    go_wp2_with fail
    go_ret
    exact ⟨by simp, B7.out.trans (g2.mono z7)⟩
end Go.Proofs.Ytionbckpgfaneaa
