/- PlaneNever, walked. -/
import Derived.Test.YtionbckpgfaneaaLm
namespace Go.Proofs.Ytionbckpgfaneaa
open Go.RowKit
set_option maxHeartbeats 1000000
set_option maxRecDepth 100000
theorem planeNever_walk (l m : List Int) (at_ x y z p q : Int) (A4 A5 : Option Addr) (c4 c5 : Nat) (w : World)
    (hs4 : SlN w A4 l) (hs5 : SlN w A5 m) (m4 : l.length ≤ 9223372036854775807) (m5 : m.length ≤ 9223372036854775807) (hp : I64 p) (hq : I64 q) :
    Calls Try.prog 24 #[.slice A4 l.length c4, .slice A5 m.length c5, .int .i64 at_, .int .i64 x, .int .i64 y, .int .i64 z, .int .i64 p, .int .i64 q] w fun e w' => e = .returned (.bool true) ∧ Below w.heap.size w w' := by
  obtain ⟨i0, hi0, hz0, hz1, hz2⟩ := info_parts info44
  have S4 := hide hs4; clear hs4
  have S5 := hide hs5; clear hs5
  have HP := hide hp; clear hp
  have HQ := hide hq; clear hq
  have B0 := hide (Below.refl w.heap.size w)
  have z0 : w.heap.size ≤ w.heap.size := Nat.le_refl _
  go_enter Try.func24, Try.ntmps24
  go_wp2_with fail
  refine (points_any A4 l c4 0 _ S4.out m4 (by omega) (by omega)).mono ?_
  rintro e w1 ⟨va, as_, rfl, la1, la5, oka, hoa, hb1⟩
  have z1 : w.heap.size ≤ w1.heap.size := Nat.le_trans z0 hb1.size
  have B1 := hide (B0.out.trans (hb1.mono z0)); clear B0
  replace S4 := hide (S4.out.below hb1)
  replace S5 := hide (S5.out.below hb1)
  obtain ⟨Aa, ca, rfl, _, _, _⟩ := own_val hoa
  have SA := hide (show SlI w1 Aa as_ from own_sl hoa)
  have OKA := hide oka
  clear hoa oka
  clear hb1
  go_wp2_with fail
  have PA := hide (placed_made (by omega) la1 (by omega) OKA.out)
  refine (mkNormal_any x y z _).mono ?_
  rintro e w2 ⟨n, hun, rfl, hb2⟩
  have z2 : w.heap.size ≤ w2.heap.size := Nat.le_trans z1 hb2.size
  have B2 := hide (B1.out.trans (hb2.mono z1)); clear B1
  replace S4 := hide (S4.out.below hb2)
  replace S5 := hide (S5.out.below hb2)
  replace SA := hide (SA.out.below hb2)
  have HUn := hide hun; clear hun
  unfold V3.v
  clear hb2
  go_wp2_with fail
  obtain ⟨w3, hw3⟩ : ∃ W, W = (w2.alloc (.cells #[.int .i64 n.x, .int .i64 n.y, .int .i64 n.z] 47)) := ⟨_, rfl⟩
  rw [← hw3]
  have hb3 : Below w2.heap.size w2 w3 := by rw [hw3]; go_grown
  have z3 : w.heap.size ≤ w3.heap.size := Nat.le_trans z2 hb3.size
  have B3 := hide (B2.out.trans (hb3.mono z2)); clear B2
  replace S4 := hide (S4.out.below hb3)
  replace S5 := hide (S5.out.below hb3)
  replace SA := hide (SA.out.below hb3)
  have KN := hide (show w3.heap[w2.heap.size]? = some (.cells (vcs n) 47 (0, 0)) by rw [hw3]; exact new_at _ _ (by simp))
  have yN : w2.heap.size < w3.heap.size := by rw [hw3]; simp <;> omega
  clear hw3 hb3
  have SA0 := SA
  have yN0 := yN
  refine (points_any A5 m c5 0 _ S5.out m5 (by omega) (by omega)).mono ?_
  rintro e w4 ⟨vb, bs, rfl, lb1, lb5, okb, hob, hb4⟩
  have z4 : w.heap.size ≤ w4.heap.size := Nat.le_trans z3 hb4.size
  have B4 := hide (B3.out.trans (hb4.mono z3)); clear B3
  replace S4 := hide (S4.out.below hb4)
  replace S5 := hide (S5.out.below hb4)
  replace SA := hide (SA.out.below hb4)
  replace KN := hide ((hb4.block _ yN).trans KN.out)
  replace yN := Nat.lt_of_lt_of_le yN hb4.size
  have OKB := hide okb; clear okb
  have hbab := hide hb4
  have hzab := hb4.size
  obtain ⟨Ab, cb, rfl, _, _, _⟩ := own_val hob
  clear hb4
  go_wp2_with fail
  obtain ⟨g, hg⟩ : ∃ g : Nat, at_ % (as_.length : Int) = g := ⟨(at_ % (as_.length : Int)).toNat, by have := Int.emod_nonneg at_ (b := (as_.length : Int)) (by omega); omega⟩
  have hgl : g < as_.length := by have := Int.emod_lt_of_pos at_ (b := (as_.length : Int)) (by omega); omega
  refine (round_any at_ as_.length _ (by omega) (by omega)).mono ?_
  rintro e w' ⟨rfl, rfl⟩
  rw [hg]
  clear hg
  obtain ⟨b, off, rfl, hbb⟩ := SlI.addr SA.out (by omega)
  obtain ⟨h0, h1, h2, h3, h4, h5⟩ := SlI.at_ SA.out hgl
  go_wp2_with (at_builtin; refine wpList_append_own _ rfl _ _ 23 rfl w3.heap.size 44 i0 _ 6 48 Try.underlying23 hi0 hz0 hz1 hz2 rfl (by decide) (.slice Ab bs.length cb) bs.length _ rfl (hob.alloc _) ⟨w4.heap.size, 0, none⟩ 1 1 as_[g].cells rfl rfl ?c1 ?c2 ?c3 ?c4 ?c5 ?_)
  case c1 => exact news_at (heap_alloc_new w4 _)
  case c2 => simp [Value.oneCell', IV.cells]
  case c3 => unfold maxLen; omega
  case c4 => omega
  case c5 => simp; omega
  intro v' w5 hown9 hg9 _
  clear h0 h1 h2 h3 h4 h5
  generalize (some (⟨b, off, none⟩ : Addr)) = Aa at SA SA0 ⊢
  have hg9z := hg9.size
  simp only [World.size_alloc] at hg9z
  have hbelow : Below w3.heap.size w4 w5 := ((Below.refl _ _).alloc hzab _).grown hg9 (by simp; omega) (fun g hg => (hob.lt g hg).1)
  have z5 : w.heap.size ≤ w5.heap.size := by omega
  have B5 := hide (B4.out.trans (hbelow.mono (by omega))); clear B4
  replace SA := hide (SA0.out.below (hbab.out.trans hbelow))
  replace KN := hide ((hbelow.block _ yN0).trans KN.out)
  replace yN : w2.heap.size < w5.heap.size := by omega
  obtain ⟨cs, hcs⟩ : ∃ cs, cs = bs ++ [as_[g]] := ⟨_, rfl⟩
  have hcl : cs.length = bs.length + 1 := by rw [hcs]; simp
  have hown : w5.ownsRow w3.heap.size 44 6 v' cs.length (cs.flatMap IV.cells) := by rw [hcl, hcs, List.flatMap_append]; simpa using hown9
  obtain ⟨Ac, cc, rfl, _, _, _⟩ := own_val hown
  have SC := hide (show SlI w5 Ac cs from own_sl hown)
  have hc6 : cs.length ≤ 6 := by omega
  have PC := hide (show placedB cs = true from placed_made (width := 0) (by omega) (by omega) (by omega) (fun p hp => by rw [hcs] at hp; rcases List.mem_append.1 hp with h | h; exact OKB.out p h; simp at h; rw [h]; exact OKA.out _ (by simp)))
  have hj : bs.length < cs.length := by omega
  have CE := hide (show cs[bs.length] = as_[g] by simp [hcs])
  clear hown hown9 hg9 hg9z hob hcs hcl hbelow S4 S5
  go_wp2_with fail
  have kN0 := blk_cell KN.out; simp only [vcs] at kN0
  have kN := kN0
  have g0 : Below w5.heap.size w5 w5.drew := (Below.refl _ _).drew
  go_region_held3 (fun w' => (∀ i, w'.cell? ⟨w2.heap.size, i, none⟩ = #[.int .i64 n.x, .int .i64 n.y, .int .i64 n.z][i]?))
    (first | with_reducible exact kN | go_keep)
    (first | (go_at_call 69; (with_reducible refine (radius15_any p _ HP.out).mono ?_); rintro e w' ⟨rfl, rfl⟩) | (go_at_call 69; (with_reducible refine (radius15_any q _ HQ.out).mono ?_); rintro e w' ⟨rfl, rfl⟩) | (go_at_call 70; (with_reducible refine (margin_any n Aa as_ ca (rad15 p) Ac cs cc (rad15 q) _ (SA.out.below g0) (SC.out.below g0) (by omega) (by omega)).mono ?_); rintro e w6 ⟨rfl, b1⟩; have g1 := g0.trans (b1.mono g0.size); have kN := keepe g1 yN kN0; rw [margR_made HUn.out PA.out PC.out (rad15_bd p) (rad15_bd q)]; generalize hU : margX n as_ (rad15 p) cs (rad15 q) = U; have HU := hide hU; clear hU))
  clear kN0 kN b1
  have z6 : w.heap.size ≤ w6.heap.size := Nat.le_trans z5 g1.size
  have B6 := hide (B5.out.trans (g1.mono z5)); clear B5
  replace SA := hide (SA.out.below g1)
  replace SC := hide (SC.out.below g1)
  replace KN := hide ((g1.block _ yN).trans KN.out)
  replace yN := Nat.lt_of_lt_of_le yN g1.size
  clear g0 g1
  have f1 : U ≤ 0 := by rw [← HU.out]; exact marg_never n (rad15_bd p).1 (rad15_bd q).1 hgl hj CE.out
  have f1' : decide (U ≤ 0) = true := decide_eq_true f1
  have F2 := hide (show sepB n as_ (rad15 p) cs (rad15 q) = false by rw [sepB_made HUn.out PA.out PC.out (rad15_bd p) (rad15_bd q), HU.out]; exact decide_eq_false (by omega))
  have F3 := hide (show sepB n cs (rad15 q) as_ (rad15 p) = false by rw [sepB_made HUn.out PC.out PA.out (rad15_bd q) (rad15_bd p)]; exact decide_eq_false (by have := marg_never n (rad15_bd q).1 (rad15_bd p).1 hj hgl CE.out.symm; omega))
  go_wp2_with fail
  have kN0 := blk_cell KN.out; simp only [vcs] at kN0
  have kN := kN0
  have g0 : Below w6.heap.size w6 w6.drew := (Below.refl _ _).drew
  go_region_held3 (fun w' => (∀ i, w'.cell? ⟨w2.heap.size, i, none⟩ = #[.int .i64 n.x, .int .i64 n.y, .int .i64 n.z][i]?))
    (first | with_reducible exact kN | go_keep)
    (first | (go_at_call 67; (with_reducible refine (awake15 _).mono ?_); rintro e v1 ⟨rfl, b1⟩; have g1 := g0.trans (b1.mono g0.size); have kN := keepe g1 yN kN0) | (go_at_call 69; (with_reducible refine (radius15_any p _ HP.out).mono ?_); rintro e w' ⟨rfl, rfl⟩) | (go_at_call 69; (with_reducible refine (radius15_any q _ HQ.out).mono ?_); rintro e w' ⟨rfl, rfl⟩) | (go_at_call 73; (with_reducible refine (separates_any n Aa as_ ca (rad15 p) Ac cs cc (rad15 q) _ (SA.out.below g1) (SC.out.below g1) (by omega) (by omega)).mono ?_); rintro e v2 ⟨rfl, b2⟩; have g2 := g1.trans (b2.mono g1.size); have kN := keepe g2 yN kN0; rw [F2.out]) | (go_at_call 73; (with_reducible refine (separates_any n Ac cs cc (rad15 q) Aa as_ ca (rad15 p) _ (SC.out.below g2) (SA.out.below g2) (by omega) (by omega)).mono ?_); rintro e w7 ⟨rfl, b3⟩; have g3 := g2.trans (b3.mono g2.size); have kN := keepe g3 yN kN0; rw [F3.out]))
  clear kN0 kN b1 b2 b3
  have z7 : w.heap.size ≤ w7.heap.size := Nat.le_trans z6 g3.size
  have B7 := hide (B6.out.trans (g3.mono z6)); clear B6
  replace SA := hide (SA.out.below g3)
  replace SC := hide (SC.out.below g3)
  replace KN := hide ((g3.block _ yN).trans KN.out)
  replace yN := Nat.lt_of_lt_of_le yN g3.size
  clear g0 g1 g2 g3
  go_wp2_with fail
  go_ret
  exact ⟨rfl, B7.out⟩
end Go.Proofs.Ytionbckpgfaneaa
