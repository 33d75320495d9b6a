/- NormalsHints, walked. -/
import Derived.Test.YtionbckpgfaneaaLp
import Derived.Test.YtionbckpgfaneaaQd
import Derived.Test.YtionbckpgfaneaaPm
import Derived.Deep.RegionHeld3
namespace Go.Proofs.Ytionbckpgfaneaa
open Go.RowKit
set_option maxHeartbeats 1000000
set_option maxRecDepth 100000
theorem findR_some (o : Option V3) : ∃ (n : V3) (t : Bool), findR o = .tuple #[.agg #[.int .i64 n.x, .int .i64 n.y, .int .i64 n.z], .bool t] := by
  cases o with
  | none => exact ⟨zeroV, false, rfl⟩
  | some n => exact ⟨n, true, rfl⟩
attribute [local go_sem] eq47
theorem flat_len17 (l : List V3) : (l.flatMap V3.cells).length = l.length * 3 := by
  induction l with
  | nil => rfl
  | cons a l ih => simp [V3.cells, ih]; omega
theorem flat_one17 {l : List V3} : ∀ u ∈ l.flatMap V3.cells, u.oneCell' = true := fun u hu => by
  obtain ⟨p, _, hp⟩ := List.mem_flatMap.1 hu
  simp [V3.cells] at hp
  rcases hp with rfl | rfl | rfl <;> rfl
theorem find_k (A B H : Option Addr) (ca cb ch k : Nat) (a b : List IV) (h : List V3) (ra rb : Int) (w : World) (hk : h.length = k) (sa : SlI w A a) (sb : SlI w B b) (sh : SlV w H h) (m1 : a.length ≤ 9223372036854775807) (m2 : b.length ≤ 9223372036854775807) (m3 : h.length ≤ 9223372036854775807) :
    Calls Try.prog 93 #[.slice A a.length ca, .int .i64 ra, .slice B b.length cb, .int .i64 rb, .slice H k ch] w fun e w' => e = .returned (findR (findN a ra b rb h)) ∧ Below w.heap.size w w' := by
  subst hk
  exact find_any A B H ca cb ch a b h ra rb w sa sb sh m1 m2 m3
theorem firstR_two (l : List V3) (a : List IV) (ra : Int) (b : List IV) (rb : Int) : ∃ (F : Int) (G : Bool), firstR l a ra b rb = .tuple #[.int .i64 F, .bool G] ∧ ((G = false ∧ F = 0) ∨ (G = true ∧ ∃ i, ∃ h : i < l.length, F = (i : Int) ∧ l.find? (fun n => sepB n a ra b rb) = some l[i])) := by
  rcases firstR_cases l a ra b rb with ⟨h1, _⟩ | ⟨i, hi, h1, h2⟩
  · exact ⟨0, false, h1, .inl ⟨rfl, rfl⟩⟩
  · exact ⟨i, true, h1, .inr ⟨rfl, i, hi, rfl, h2⟩⟩
theorem normalsHints_walk (l m o r : List Int) (p q : Int) (A4 A5 A6 A7 : Option Addr) (c4 c5 c6 c7 : Nat) (w : World)
    (hs4 : SlN w A4 l) (hs5 : SlN w A5 m) (hs6 : SlN w A6 o) (hs7 : SlN w A7 r) (m4 : l.length ≤ 9223372036854775807) (m5 : m.length ≤ 9223372036854775807) (m6 : o.length ≤ 9223372036854775807) (m7 : r.length ≤ 9223372036854775807) (hp : I64 p) (hq : I64 q) :
    Calls Try.prog 38 #[.slice A4 l.length c4, .slice A5 m.length c5, .slice A6 o.length c6, .slice A7 r.length c7, .int .i64 p, .int .i64 q] w fun e w' => e = .returned (.bool true) ∧ Below w.heap.size w w' := by
  obtain ⟨i0, hi0, hz0, hz1, hz2⟩ := info_parts info47
  have S4 := hide hs4; clear hs4
  have S5 := hide hs5; clear hs5
  have S6 := hide hs6; clear hs6
  have S7 := hide hs7; clear hs7
  have HP := hide hp; clear hp
  have HQ := hide hq; clear hq
  have B0 := hide (Below.refl w.heap.size w)
  have z0 : w.heap.size ≤ w.heap.size := Nat.le_refl _
  go_enter Try.func38, Try.ntmps38
  go_wp2_with fail
  refine (points_any A4 l c4 3000 _ S4.out m4 (by omega) (by omega)).mono ?_
  rintro e w1 ⟨va, as_, rfl, la1, la5, oka, hoa, hb1⟩
  have z1 : w.heap.size ≤ w1.heap.size := Nat.le_trans z0 hb1.size
  have B1 := hide (B0.out.trans (hb1.mono z0)); clear B0
  replace S4 := hide (S4.out.below hb1)
  replace S5 := hide (S5.out.below hb1)
  replace S6 := hide (S6.out.below hb1)
  replace S7 := hide (S7.out.below hb1)
  obtain ⟨Aa, ca, rfl, _, _, _⟩ := own_val hoa
  have SA := hide (show SlI w1 Aa as_ from own_sl hoa)
  have OKA := hide oka
  clear hoa oka
  clear hb1
  go_wp2_with fail
  have PA := hide (placed_made (by omega) la1 (by omega) OKA.out)
  refine (points_any A5 m c5 3000 _ S5.out m5 (by omega) (by omega)).mono ?_
  rintro e w2 ⟨vb, bs, rfl, lb1, lb5, okb, hob, hb2⟩
  have z2 : w.heap.size ≤ w2.heap.size := Nat.le_trans z1 hb2.size
  have B2 := hide (B1.out.trans (hb2.mono z1)); clear B1
  replace S4 := hide (S4.out.below hb2)
  replace S5 := hide (S5.out.below hb2)
  replace S6 := hide (S6.out.below hb2)
  replace S7 := hide (S7.out.below hb2)
  replace SA := hide (SA.out.below hb2)
  obtain ⟨Ab, cb, rfl, _, _, _⟩ := own_val hob
  have SB := hide (show SlI w2 Ab bs from own_sl hob)
  have OKB := hide okb
  clear hob okb
  clear hb2
  go_wp2_with fail
  have PB := hide (placed_made (by omega) lb1 (by omega) OKB.out)
  refine (hints_any A6 o c6 _ S6.out m6).mono ?_
  rintro e w3 ⟨Ah, ch, hs, rfl, lh3, sh, hb3⟩
  have z3 : w.heap.size ≤ w3.heap.size := Nat.le_trans z2 hb3.size
  have B3 := hide (B2.out.trans (hb3.mono z2)); clear B2
  replace S4 := hide (S4.out.below hb3)
  replace S5 := hide (S5.out.below hb3)
  replace S6 := hide (S6.out.below hb3)
  replace S7 := hide (S7.out.below hb3)
  replace SA := hide (SA.out.below hb3)
  replace SB := hide (SB.out.below hb3)
  have SH := hide sh; clear sh
  clear hb3
  go_wp2_with fail
  refine (radius17_any p _ HP.out).mono ?_
  rintro e w' ⟨rfl, rfl⟩
  go_wp2_with fail
  refine (radius17_any q _ HQ.out).mono ?_
  rintro e w' ⟨rfl, rfl⟩
  go_wp2_with fail
  refine (first_any Ah Aa Ab hs as_ bs (rad15 p) (rad15 q) ch ca cb _ SH.out SA.out SB.out (by omega) (by omega) (by omega)).mono ?_
  rintro e w4 ⟨rfl, hb4⟩
  have z4 : w.heap.size ≤ w4.heap.size := Nat.le_trans z3 hb4.size
  have B4 := hide (B3.out.trans (hb4.mono z3)); clear B3
  replace S4 := hide (S4.out.below hb4)
  replace S5 := hide (S5.out.below hb4)
  replace S6 := hide (S6.out.below hb4)
  replace S7 := hide (S7.out.below hb4)
  replace SA := hide (SA.out.below hb4)
  replace SB := hide (SB.out.below hb4)
  replace SH := hide (SH.out.below hb4)
  obtain ⟨F, G, hFG, hcase⟩ := firstR_two hs as_ (rad15 p) bs (rad15 q)
  rw [hFG]
  have HC := hide hcase
  clear hFG hcase
  clear hb4
  go_wp2_with fail
  refine (radius17_any p _ HP.out).mono ?_
  rintro e w' ⟨rfl, rfl⟩
  go_wp2_with fail
  refine (radius17_any q _ HQ.out).mono ?_
  rintro e w' ⟨rfl, rfl⟩
  have SA4 := SA; have SB4 := SB; have SH4 := SH; have BW := B4
  go_wp2_with (at_builtin; refine wpList_append_sl _ rfl _ _ 49 rfl w4.heap.size 47 i0 _ 3 24 Try.underlying49 hi0 hz0 hz1 hz2 rfl (by decide) (.slice none 0 0) 0 [] rfl (World.ownsRow_nil _ _ _ _) Ah hs.length ch (hs.flatMap V3.cells) rfl (by rw [flat_len17]) SH.out flat_one17 (by unfold maxLen; omega) (by omega) (by simp) ?_; intro v2 w5 hown2 hg2)
  have hb5 : Below w4.heap.size w4 w5 := (Below.refl _ _).grown hg2 (by simp) (fun g hg => by simp [Value.ownBlock] at hg)
  have z5 : w.heap.size ≤ w5.heap.size := Nat.le_trans z4 hb5.size
  have B5 := hide (B4.out.trans (hb5.mono z4)); clear B4
  replace S4 := hide (S4.out.below hb5)
  replace S5 := hide (S5.out.below hb5)
  replace S6 := hide (S6.out.below hb5)
  replace S7 := hide (S7.out.below hb5)
  replace SA := hide (SA.out.below hb5)
  replace SB := hide (SB.out.below hb5)
  replace SH := hide (SH.out.below hb5)
  rw [Nat.zero_add, List.nil_append] at hown2
  have OW2 := hide hown2; have D5 := hide hb5; clear hown2 hg2 hb5
  go_wp2_with fail
  refine (hints_any A7 r c7 _ S7.out m7).mono ?_
  rintro e w6 ⟨Ar, cr, rs, rfl, lr3, sr, hb6⟩
  have z6 : w.heap.size ≤ w6.heap.size := Nat.le_trans z5 hb6.size
  have B6 := hide (B5.out.trans (hb6.mono z5)); clear B5
  replace S4 := hide (S4.out.below hb6)
  replace S5 := hide (S5.out.below hb6)
  replace S6 := hide (S6.out.below hb6)
  replace S7 := hide (S7.out.below hb6)
  replace SA := hide (SA.out.below hb6)
  replace SB := hide (SB.out.below hb6)
  replace SH := hide (SH.out.below hb6)
  have SR := hide sr; clear sr
  replace OW2 := hide (own_below OW2.out hb6)
  have D6 := hide (D5.out.trans (hb6.mono D5.out.size))
  clear hb6
  have z46 := D6.out.size
  go_wp2_with (at_builtin; refine wpList_append_sl _ rfl _ _ 49 rfl w4.heap.size 47 i0 _ 3 24 Try.underlying49 hi0 hz0 hz1 hz2 rfl (by decide) v2 hs.length (hs.flatMap V3.cells) rfl OW2.out Ar rs.length cr (rs.flatMap V3.cells) rfl (by rw [flat_len17]) SR.out flat_one17 (by unfold maxLen; omega) (by omega) (by omega) ?_; intro v3 w7 hown3 hg3)
  have d7 : Below w4.heap.size w6 w7 := (Below.refl _ _).grown hg3 z46 (fun g hg => (OW2.out.lt g hg).1)
  have D7 := hide (D6.out.trans d7)
  obtain ⟨A3, c3, rfl, _, _, _⟩ := own_val hown3
  have SQ := hide (show SlV w7 A3 (hs ++ rs) by unfold SlV; rw [List.flatMap_append]; exact own_sl hown3)
  have SA7 := hide (SA4.out.below D7.out); have SB7 := hide (SB4.out.below D7.out); have SH7 := hide (SH4.out.below D7.out)
  have B7 := hide (BW.out.trans (D7.out.mono BW.out.size))
  clear hown3 hg3 d7 D6 D7 SA4 SB4 SH4 BW OW2 SR SA SB SH S4 S5 S6 S7 B6
  go_wp2_with fail
  refine (find_k Aa Ab A3 ca cb c3 (hs.length + rs.length) as_ bs (hs ++ rs) (rad15 p) (rad15 q) _ (by simp) SA7.out SB7.out SQ.out (by omega) (by omega) (by simp; omega)).mono ?_
  rintro e w8 ⟨rfl, hb8⟩
  have SH8 := hide (SH7.out.below hb8)
  have B8 := hide (stepB hb8 B7.out)
  have z8 := B8.out.size
  clear hb8 B7 SA7 SB7 SH7 SQ
  rcases HC.out with ⟨rfl, rfl⟩ | ⟨rfl, i, hi, rfl, hfd⟩
  · obtain ⟨n, t, hn⟩ := findR_some (findN as_ (rad15 p) bs (rad15 q) (hs ++ rs))
    rw [hn]
    clear hn HC
    go_wp2_with fail
    refine (awake17 _).mono ?_
    rintro e w' ⟨rfl, hb⟩
    go_wp2_with fail
    go_ret
    exact ⟨rfl, (B8.out.alloc z8 _).trans (hb.mono (by simp; omega))⟩
  · rw [find_hint hfd]
    unfold findR
    clear hfd HC
    go_upto_region 7 with fail
    obtain ⟨w9, hw9⟩ : ∃ W, W = w8.alloc (.cells #[.int .i64 hs[i].x, .int .i64 hs[i].y, .int .i64 hs[i].z] 47) := ⟨_, rfl⟩
    rw [← hw9]
    have b9 : Below w8.heap.size w8 w9 := by rw [hw9]; go_grown
    have KN := hide (show w9.heap[w8.heap.size]? = some (.cells (vcs hs[i]) 47 (0, 0)) by rw [hw9]; exact new_at _ _ (by simp))
    have SH9 := hide (SH8.out.below b9)
    have B9 := hide (stepB b9 B8.out)
    have z9 := B9.out.size
    clear hw9 b9 SH8 B8
    obtain ⟨bh, oh, rfl, ybh⟩ := SH9.out.addr (by omega)
    obtain ⟨a00, a01, a02⟩ := SH9.out.at_ hi
    have kN0 := blk_cell KN.out; simp only [vcs] at kN0
    have yN := blt KN.out
    have kN := kN0; have a0 := a00; have a1 := a01; have a2 := a02
    have i0' : (0 : Int) ≤ (i : Int) := Int.natCast_nonneg _
    have i1 : (i : Int) < (hs.length : Int) := by omega
    have eqn : eqV ⟨hs[i].x, hs[i].y, hs[i].z⟩ ⟨hs[i].x, hs[i].y, hs[i].z⟩ = true := by simp [eqV]
    have g0 : Below w9.heap.size w9 w9.drew := (Below.refl _ _).drew
    go_region_held3 (fun w' => (∀ i_1, w'.cell? ⟨w8.heap.size, i_1, none⟩ = #[.int .i64 hs[i].x, .int .i64 hs[i].y, .int .i64 hs[i].z][i_1]?) ∧ w'.cell? ⟨bh, oh + i * 3, none⟩ = some (.int .i64 hs[i].x) ∧ w'.cell? ⟨bh, oh + i * 3 + 1, none⟩ = some (.int .i64 hs[i].y) ∧ w'.cell? ⟨bh, oh + i * 3 + 2, none⟩ = some (.int .i64 hs[i].z)) (first | with_reducible exact ⟨kN, a0, a1, a2⟩ | go_keep) (first | (go_at_call 89; (with_reducible refine (awake17 _).mono ?_); rintro e u1 ⟨rfl, b1⟩; have g1 := g0.trans (b1.mono g0.size); have kN := keepe g1 yN kN0; have a0 := (g1.cell (p := ⟨bh, oh + i * 3, none⟩) ybh).trans a00; have a1 := (g1.cell (p := ⟨bh, oh + i * 3 + 1, none⟩) ybh).trans a01; have a2 := (g1.cell (p := ⟨bh, oh + i * 3 + 2, none⟩) ybh).trans a02))
    go_wp2_with fail
    go_ret
    exact ⟨by simp, B9.out.trans (g1.mono z9)⟩
end Go.Proofs.Ytionbckpgfaneaa
