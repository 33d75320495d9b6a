/- PlaneMoves, walked. -/
import Derived.Test.YtionbckpgfaneaaLm
import Derived.Test.YtionbckpgfaneaaLl
namespace Go.Proofs.Ytionbckpgfaneaa
open Go.RowKit
set_option maxHeartbeats 1000000
set_option maxRecDepth 100000
theorem planeMoves_walk (l m : List Int) (v : V3) (x y z p q : Int) (A4 A5 : Option Addr) (c4 c5 : Nat) (w : World) (hv : v.ok64)
    (hs4 : SlN w A4 l) (hs5 : SlN w A5 m) (m4 : l.length ≤ 9223372036854775807) (m5 : m.length ≤ 9223372036854775807) (hp : I64 p) (hq : I64 q) :
    Calls Try.prog 21 #[.slice A4 l.length c4, .slice A5 m.length c5, v.v, .int .i64 x, .int .i64 y, .int .i64 z, .int .i64 p, .int .i64 q] w fun e w' => e = .returned (.bool true) ∧ Below w.heap.size w w' := by
  obtain ⟨i0, hi0, hz0, hz1, hz2⟩ := info_parts info44
  unfold V3.v
  have S4 := hide hs4; clear hs4
  have S5 := hide hs5; clear hs5
  have HV := hide hv; clear hv
  have HP := hide hp; clear hp
  have HQ := hide hq; clear hq
  have B0 := hide (Below.refl w.heap.size w)
  have z0 : w.heap.size ≤ w.heap.size := Nat.le_refl _
  go_enter Try.func21, Try.ntmps21
  go_wp2_with fail
  obtain ⟨w1, hw1⟩ : ∃ W, W = (w.alloc (.cells #[.int .i64 v.x, .int .i64 v.y, .int .i64 v.z] 47)) := ⟨_, rfl⟩
  rw [← hw1]
  have hb1 : Below w.heap.size w w1 := by rw [hw1]; go_grown
  have z1 : w.heap.size ≤ w1.heap.size := Nat.le_trans z0 hb1.size
  have B1 := hide (B0.out.trans (hb1.mono z0)); clear B0
  replace S4 := hide (S4.out.below hb1)
  replace S5 := hide (S5.out.below hb1)
  have KT := hide (show w1.heap[w.heap.size]? = some (.cells (vcs v) 47 (0, 0)) by rw [hw1]; exact new_at _ _ (by simp))
  have yT : w.heap.size < w1.heap.size := by rw [hw1]; simp <;> omega
  clear hw1 hb1
  refine (points_any A4 l c4 3000 _ S4.out m4 (by omega) (by omega)).mono ?_
  rintro e w2 ⟨va, as_, rfl, la1, la5, oka, hoa, hb2⟩
  have z2 : w.heap.size ≤ w2.heap.size := Nat.le_trans z1 hb2.size
  have B2 := hide (B1.out.trans (hb2.mono z1)); clear B1
  replace S4 := hide (S4.out.below hb2)
  replace S5 := hide (S5.out.below hb2)
  replace KT := hide ((hb2.block _ yT).trans KT.out)
  replace yT := Nat.lt_of_lt_of_le yT hb2.size
  obtain ⟨Aa, ca, rfl, _, _, _⟩ := own_val hoa
  have SA := hide (show SlI w2 Aa as_ from own_sl hoa)
  have OKA := hide oka
  clear hoa oka
  clear hb2
  go_wp2_with fail
  have PA := hide (placed_made (by omega) la1 (by omega) OKA.out)
  refine (points_any A5 m c5 3000 _ S5.out m5 (by omega) (by omega)).mono ?_
  rintro e w3 ⟨vb, bs, rfl, lb1, lb5, okb, hob, hb3⟩
  have z3 : w.heap.size ≤ w3.heap.size := Nat.le_trans z2 hb3.size
  have B3 := hide (B2.out.trans (hb3.mono z2)); clear B2
  replace S4 := hide (S4.out.below hb3)
  replace S5 := hide (S5.out.below hb3)
  replace SA := hide (SA.out.below hb3)
  replace KT := hide ((hb3.block _ yT).trans KT.out)
  replace yT := Nat.lt_of_lt_of_le yT hb3.size
  obtain ⟨Ab, cb, rfl, _, _, _⟩ := own_val hob
  have SB := hide (show SlI w3 Ab bs from own_sl hob)
  have OKB := hide okb
  clear hob okb
  clear hb3
  go_wp2_with fail
  have PB := hide (placed_made (by omega) lb1 (by omega) OKB.out)
  refine (mkNormal_any x y z _).mono ?_
  rintro e w4 ⟨n, hun, rfl, hb4⟩
  have z4 : w.heap.size ≤ w4.heap.size := Nat.le_trans z3 hb4.size
  have B4 := hide (B3.out.trans (hb4.mono z3)); clear B3
  replace S4 := hide (S4.out.below hb4)
  replace S5 := hide (S5.out.below hb4)
  replace SA := hide (SA.out.below hb4)
  replace SB := hide (SB.out.below hb4)
  replace KT := hide ((hb4.block _ yT).trans KT.out)
  replace yT := Nat.lt_of_lt_of_le yT hb4.size
  have HUn := hide hun; clear hun
  unfold V3.v
  clear hb4
  have cT := blk_cell KT.out; simp only [vcs] at cT
  go_wp2_with fail
  have hsx : ∀ x : Int, I64 x → -8388608 ≤ x / 4398046511104 ∧ x / 4398046511104 ≤ 8388608 := fun x h => by obtain ⟨h1, h2⟩ := h; omega
  obtain ⟨t, ht⟩ : ∃ t : V3, t = ⟨v.x / 4398046511104, v.y / 4398046511104, v.z / 4398046511104⟩ := ⟨_, rfl⟩
  have HT23 := hide (show Within t 8388608 by rw [ht]; exact ⟨hsx _ HV.out.1, hsx _ HV.out.2.1, hsx _ HV.out.2.2⟩)
  have HTW := hide (show Within t 536870912 by obtain ⟨⟨a1, a2⟩, ⟨a3, a4⟩, a5, a6⟩ := HT23.out; exact ⟨⟨by omega, by omega⟩, ⟨by omega, by omega⟩, by omega, by omega⟩)
  have e1 : v.x / 4398046511104 = t.x := by rw [ht]
  have e2 : v.y / 4398046511104 = t.y := by rw [ht]
  have e3 : v.z / 4398046511104 = t.z := by rw [ht]
  rw [e1, e2, e3]
  clear ht e1 e2 e3 hsx
  clear cT
  obtain ⟨w5, hw5⟩ : ∃ W, W = (w4.alloc (.cells #[.int .i64 n.x, .int .i64 n.y, .int .i64 n.z] 47)) := ⟨_, rfl⟩
  rw [← hw5]
  have hb5 : Below w4.heap.size w4 w5 := by rw [hw5]; go_grown
  have z5 : w.heap.size ≤ w5.heap.size := Nat.le_trans z4 hb5.size
  have B5 := hide (B4.out.trans (hb5.mono z4)); clear B4
  replace S4 := hide (S4.out.below hb5)
  replace S5 := hide (S5.out.below hb5)
  replace SA := hide (SA.out.below hb5)
  replace SB := hide (SB.out.below hb5)
  replace KT := hide ((hb5.block _ yT).trans KT.out)
  replace yT := Nat.lt_of_lt_of_le yT hb5.size
  have KN := hide (show w5.heap[w4.heap.size]? = some (.cells (vcs n) 47 (0, 0)) by rw [hw5]; exact new_at _ _ (by simp))
  have yN : w4.heap.size < w5.heap.size := by rw [hw5]; simp <;> omega
  clear hw5 hb5
  refine (point_lit t _).mono ?_
  rintro e w6 ⟨rfl, hb6⟩
  have z6 : w.heap.size ≤ w6.heap.size := Nat.le_trans z5 hb6.size
  have B6 := hide (B5.out.trans (hb6.mono z5)); clear B5
  replace S4 := hide (S4.out.below hb6)
  replace S5 := hide (S5.out.below hb6)
  replace SA := hide (SA.out.below hb6)
  replace SB := hide (SB.out.below hb6)
  replace KT := hide ((hb6.block _ yT).trans KT.out)
  replace yT := Nat.lt_of_lt_of_le yT hb6.size
  replace KN := hide ((hb6.block _ yN).trans KN.out)
  replace yN := Nat.lt_of_lt_of_le yN hb6.size
  clear hb6
  go_wp2_with fail
  obtain ⟨w7, hw7⟩ : ∃ W, W = (w6.alloc (.cells #[.int .i64 (ptI t).x.lo, .int .i64 (ptI t).x.hi, .int .i64 (ptI t).y.lo, .int .i64 (ptI t).y.hi, .int .i64 (ptI t).z.lo, .int .i64 (ptI t).z.hi] 44)) := ⟨_, rfl⟩
  rw [← hw7]
  have hb7 : Below w6.heap.size w6 w7 := by rw [hw7]; go_grown
  have z7 : w.heap.size ≤ w7.heap.size := Nat.le_trans z6 hb7.size
  have B7 := hide (B6.out.trans (hb7.mono z6)); clear B6
  replace S4 := hide (S4.out.below hb7)
  replace S5 := hide (S5.out.below hb7)
  replace SA := hide (SA.out.below hb7)
  replace SB := hide (SB.out.below hb7)
  replace KT := hide ((hb7.block _ yT).trans KT.out)
  replace yT := Nat.lt_of_lt_of_le yT hb7.size
  replace KN := hide ((hb7.block _ yN).trans KN.out)
  replace yN := Nat.lt_of_lt_of_le yN hb7.size
  have KD := hide (show w7.heap[w6.heap.size]? = some (.cells (ivs (ptI t)) 44 (0, 0)) by rw [hw7]; exact new_at _ _ (by simp))
  have yD : w6.heap.size < w7.heap.size := by rw [hw7]; simp <;> omega
  clear hw7 hb7
  go_loopw [21, 23] (fun v i wr => ∃ k : Nat, k ≤ as_.length ∧ i = .int .i64 k ∧ wr.ownsRow w7.heap.size 44 6 v k (((as_.take k).map (addIV · t)).flatMap IV.cells) ∧ Below w7.heap.size w7 wr) (fun _ i _ => as_.length - (intOf i).toNat)
  case atStart => exact ⟨0, by omega, rfl, World.ownsRow_nil _ _ _ _, Below.refl _ _⟩
  case round =>
    obtain ⟨k, hk, rfl, hown, hb⟩ := hrel
    have HBk := hide hb; have hz := hb.size
    by_cases hkl : k < as_.length
    · obtain ⟨b, off, rfl, hbb⟩ := SlI.addr SA.out (by omega)
      obtain ⟨h0, h1, h2, h3, h4, h5⟩ := SlI.at_ (Sl.below SA.out hb) hkl
      have OKK := hide (IVM_ok ((placed_of PA.out).2.2 k hkl))
      have hbr := Nat.lt_of_lt_of_le hbb hz
      have hno : u21.ownBlock ≠ some b := fun e => by have := (hown.lt b e).1; omega
      have hi1 : (0 : Int) ≤ (k : Int) := Int.natCast_nonneg _
      have hi2 : (k : Int) < (as_.length : Int) := by omega
      have kT := blk_cell ((hb.block _ yD).trans KD.out); simp only [ivs] at kT
      have jT := Nat.lt_of_lt_of_le yD hz
      have hnoT : u21.ownBlock ≠ some w6.heap.size := fun e => by have := (hown.lt _ e).1; omega
      clear hb
      go_wp2_with fail
      go_region_held3 (fun w' => (∀ i, w'.cell? ⟨w6.heap.size, i, none⟩ = #[.int .i64 (ptI t).x.lo, .int .i64 (ptI t).x.hi, .int .i64 (ptI t).y.lo, .int .i64 (ptI t).y.hi, .int .i64 (ptI t).z.lo, .int .i64 (ptI t).z.hi][i]?) ∧ w'.cell? ⟨b, off + k * 6, none⟩ = some (.int .i64 as_[k].x.lo) ∧ w'.cell? ⟨b, off + k * 6 + 1, none⟩ = some (.int .i64 as_[k].x.hi) ∧ w'.cell? ⟨b, off + k * 6 + 2, none⟩ = some (.int .i64 as_[k].y.lo) ∧ w'.cell? ⟨b, off + k * 6 + 3, none⟩ = some (.int .i64 as_[k].y.hi) ∧ w'.cell? ⟨b, off + k * 6 + 4, none⟩ = some (.int .i64 as_[k].z.lo) ∧ w'.cell? ⟨b, off + k * 6 + 5, none⟩ = some (.int .i64 as_[k].z.hi))
        (first | with_reducible exact ⟨kT, h0, h1, h2, h3, h4, h5⟩ | with_reducible exact ⟨alc' jT kT, alc hbr h0, alc hbr h1, alc hbr h2, alc hbr h3, alc hbr h4, alc hbr h5⟩ | with_reducible exact ⟨far_grown' hgrow hnoT jT kT, far_grown hgrow hno hbr h0, far_grown hgrow hno hbr h1, far_grown hgrow hno hbr h2, far_grown hgrow hno hbr h3, far_grown hgrow hno hbr h4, far_grown hgrow hno hbr h5⟩ | go_keep)
        (first | (go_at_call 65; (with_reducible refine (addVec_lit as_[k] (ptI t) _ OKK.out (IVM_pt HTW.out)).mono ?_); rintro e q8 ⟨rfl, b8⟩; rw [addII_pt HTW.out]; unfold IV.v; have kT := keepe b8 jT kT; have h0 := bcl b8 hbr h0; have h1 := bcl b8 hbr h1; have h2 := bcl b8 hbr h2; have h3 := bcl b8 hbr h3; have h4 := bcl b8 hbr h4; have h5 := bcl b8 hbr h5; have hbr := Nat.lt_of_lt_of_le hbr b8.size; have jT := Nat.lt_of_lt_of_le jT b8.size; have hz8 := Nat.le_trans hz b8.size; have own8 := own_below hown.drew b8; have HB8 := hide (HBk.out.drew.trans (b8.mono hz)); clear b8) | (have _t := own8; refine step_append_lies _ (by rfl) _ _ _ (by rfl) w7.heap.size 44 i0 _ 6 48 Try.underlying23 hi0 hz0 hz1 hz2 rfl (by omega) u21 k _ (by rfl) (own8.alloc _) ⟨q8.heap.size, 0, none⟩ 1 1 (addIV as_[k] t).cells (by rfl) (by rfl) (World.news_of_block (cs := (addIV as_[k] t).cells.toArray) (t := 44) (fr := (0, 0)) (heap_alloc_new q8 _)) (by simp [Value.oneCell', IV.cells]) (by omega) (by unfold maxLen; omega) (by omega) (by simp; omega) (q8.heap.size + 1) (by simp) ?_; intro gg cap q9 hown9 hgrow hat hlt1))
      have hb9 : Below w7.heap.size w7 q9 := (HB8.out.alloc hz8 _).grown hgrow (by simp; omega) (fun g hg => (own8.lt g hg).1)
      clear hgrow hat hlt1
      go_wp2_with fail
      go_roundw
      case rel => exact ⟨k + 1, by omega, by simp, by rw [List.take_succ_eq_append_getElem hkl, List.map_append, List.flatMap_append]; simpa only [List.map_cons, List.map_nil, List.flatMap_cons, List.flatMap_nil, List.append_nil, List.map_take] using hown9, hb9⟩
      case measure => simp [intOf] <;> omega
    · obtain rfl : k = as_.length := by omega
      rw [List.take_of_length_le (Nat.le_refl _)] at hown
      obtain ⟨w8, rfl⟩ : ∃ W : World, W = wr := ⟨_, rfl⟩
      clear HBk hz hkl hk
      have z8 : w.heap.size ≤ w8.heap.size := Nat.le_trans z7 hb.size
      have B8 := hide (B7.out.trans (hb.mono z7)); clear B7
      replace S4 := hide (S4.out.below hb)
      replace S5 := hide (S5.out.below hb)
      replace SA := hide (SA.out.below hb)
      replace SB := hide (SB.out.below hb)
      replace KT := hide ((hb.block _ yT).trans KT.out)
      replace yT := Nat.lt_of_lt_of_le yT hb.size
      replace KN := hide ((hb.block _ yN).trans KN.out)
      replace yN := Nat.lt_of_lt_of_le yN hb.size
      replace KD := hide ((hb.block _ yD).trans KD.out)
      replace yD := Nat.lt_of_lt_of_le yD hb.size
      obtain ⟨xs, hys⟩ : ∃ ys, ys = as_.map (addIV · t) := ⟨_, rfl⟩
      have hyl : as_.length = xs.length := by rw [hys]; simp
      rw [hyl, ← hys] at hown
      have hlc8 : xs.length ≤ 5 := by omega
      have hlc1 : 1 ≤ xs.length := by omega
      obtain ⟨Ac, cc, rfl, _, _, _⟩ := own_val hown
      have SC := hide (show SlI w8 Ac xs from own_sl hown)
      have HYSc := hide hys
      have PC := hide (show placedB xs = true by rw [hys]; exact placed_add la1 (by omega) OKA.out HT23.out)
      clear hown hb hyl hys
      go_wp2_with fail
      go_loopw [22, 24] (fun v i wr => ∃ k : Nat, k ≤ bs.length ∧ i = .int .i64 k ∧ wr.ownsRow w8.heap.size 44 6 v k (((bs.take k).map (addIV · t)).flatMap IV.cells) ∧ Below w8.heap.size w8 wr) (fun _ i _ => bs.length - (intOf i).toNat)
      case atStart => exact ⟨0, by omega, rfl, World.ownsRow_nil _ _ _ _, Below.refl _ _⟩
      case round =>
        obtain ⟨k, hk, rfl, hown, hb⟩ := hrel
        have HBk := hide hb; have hz := hb.size
        by_cases hkl : k < bs.length
        · obtain ⟨b, off, rfl, hbb⟩ := SlI.addr SB.out (by omega)
          obtain ⟨h0, h1, h2, h3, h4, h5⟩ := SlI.at_ (Sl.below SB.out hb) hkl
          have OKK := hide (IVM_ok ((placed_of PB.out).2.2 k hkl))
          have hbr := Nat.lt_of_lt_of_le hbb hz
          have hno : u22.ownBlock ≠ some b := fun e => by have := (hown.lt b e).1; omega
          have hi1 : (0 : Int) ≤ (k : Int) := Int.natCast_nonneg _
          have hi2 : (k : Int) < (bs.length : Int) := by omega
          have kT := blk_cell ((hb.block _ yD).trans KD.out); simp only [ivs] at kT
          have jT := Nat.lt_of_lt_of_le yD hz
          have hnoT : u22.ownBlock ≠ some w6.heap.size := fun e => by have := (hown.lt _ e).1; omega
          clear hb
          go_wp2_with fail
          go_region_held3 (fun w' => (∀ i, w'.cell? ⟨w6.heap.size, i, none⟩ = #[.int .i64 (ptI t).x.lo, .int .i64 (ptI t).x.hi, .int .i64 (ptI t).y.lo, .int .i64 (ptI t).y.hi, .int .i64 (ptI t).z.lo, .int .i64 (ptI t).z.hi][i]?) ∧ w'.cell? ⟨b, off + k * 6, none⟩ = some (.int .i64 bs[k].x.lo) ∧ w'.cell? ⟨b, off + k * 6 + 1, none⟩ = some (.int .i64 bs[k].x.hi) ∧ w'.cell? ⟨b, off + k * 6 + 2, none⟩ = some (.int .i64 bs[k].y.lo) ∧ w'.cell? ⟨b, off + k * 6 + 3, none⟩ = some (.int .i64 bs[k].y.hi) ∧ w'.cell? ⟨b, off + k * 6 + 4, none⟩ = some (.int .i64 bs[k].z.lo) ∧ w'.cell? ⟨b, off + k * 6 + 5, none⟩ = some (.int .i64 bs[k].z.hi))
            (first | with_reducible exact ⟨kT, h0, h1, h2, h3, h4, h5⟩ | with_reducible exact ⟨alc' jT kT, alc hbr h0, alc hbr h1, alc hbr h2, alc hbr h3, alc hbr h4, alc hbr h5⟩ | with_reducible exact ⟨far_grown' hgrow hnoT jT kT, far_grown hgrow hno hbr h0, far_grown hgrow hno hbr h1, far_grown hgrow hno hbr h2, far_grown hgrow hno hbr h3, far_grown hgrow hno hbr h4, far_grown hgrow hno hbr h5⟩ | go_keep)
            (first | (go_at_call 65; (with_reducible refine (addVec_lit bs[k] (ptI t) _ OKK.out (IVM_pt HTW.out)).mono ?_); rintro e q8 ⟨rfl, b8⟩; rw [addII_pt HTW.out]; unfold IV.v; have kT := keepe b8 jT kT; have h0 := bcl b8 hbr h0; have h1 := bcl b8 hbr h1; have h2 := bcl b8 hbr h2; have h3 := bcl b8 hbr h3; have h4 := bcl b8 hbr h4; have h5 := bcl b8 hbr h5; have hbr := Nat.lt_of_lt_of_le hbr b8.size; have jT := Nat.lt_of_lt_of_le jT b8.size; have hz8 := Nat.le_trans hz b8.size; have own8 := own_below hown.drew b8; have HB8 := hide (HBk.out.drew.trans (b8.mono hz)); clear b8) | (have _t := own8; refine step_append_lies _ (by rfl) _ _ _ (by rfl) w8.heap.size 44 i0 _ 6 48 Try.underlying23 hi0 hz0 hz1 hz2 rfl (by omega) u22 k _ (by rfl) (own8.alloc _) ⟨q8.heap.size, 0, none⟩ 1 1 (addIV bs[k] t).cells (by rfl) (by rfl) (World.news_of_block (cs := (addIV bs[k] t).cells.toArray) (t := 44) (fr := (0, 0)) (heap_alloc_new q8 _)) (by simp [Value.oneCell', IV.cells]) (by omega) (by unfold maxLen; omega) (by omega) (by simp; omega) (q8.heap.size + 1) (by simp) ?_; intro gg cap q9 hown9 hgrow hat hlt1))
          have hb9 : Below w8.heap.size w8 q9 := (HB8.out.alloc hz8 _).grown hgrow (by simp; omega) (fun g hg => (own8.lt g hg).1)
          clear hgrow hat hlt1
          go_wp2_with fail
          go_roundw
          case rel => exact ⟨k + 1, by omega, by simp, by rw [List.take_succ_eq_append_getElem hkl, List.map_append, List.flatMap_append]; simpa only [List.map_cons, List.map_nil, List.flatMap_cons, List.flatMap_nil, List.append_nil, List.map_take] using hown9, hb9⟩
          case measure => simp [intOf] <;> omega
        · obtain rfl : k = bs.length := by omega
          rw [List.take_of_length_le (Nat.le_refl _)] at hown
          obtain ⟨w9, rfl⟩ : ∃ W : World, W = wr := ⟨_, rfl⟩
          clear HBk hz hkl hk
          have z9 : w.heap.size ≤ w9.heap.size := Nat.le_trans z8 hb.size
          have B9 := hide (B8.out.trans (hb.mono z8)); clear B8
          replace S4 := hide (S4.out.below hb)
          replace S5 := hide (S5.out.below hb)
          replace SA := hide (SA.out.below hb)
          replace SB := hide (SB.out.below hb)
          replace SC := hide (SC.out.below hb)
          replace KT := hide ((hb.block _ yT).trans KT.out)
          replace yT := Nat.lt_of_lt_of_le yT hb.size
          replace KN := hide ((hb.block _ yN).trans KN.out)
          replace yN := Nat.lt_of_lt_of_le yN hb.size
          replace KD := hide ((hb.block _ yD).trans KD.out)
          replace yD := Nat.lt_of_lt_of_le yD hb.size
          obtain ⟨ys, hys⟩ : ∃ ys, ys = bs.map (addIV · t) := ⟨_, rfl⟩
          have hyl : bs.length = ys.length := by rw [hys]; simp
          rw [hyl, ← hys] at hown
          have hle8 : ys.length ≤ 5 := by omega
          have hle1 : 1 ≤ ys.length := by omega
          obtain ⟨Ae, ce, rfl, _, _, _⟩ := own_val hown
          have SE := hide (show SlI w9 Ae ys from own_sl hown)
          have HYSe := hide hys
          have PE := hide (show placedB ys = true by rw [hys]; exact placed_add lb1 (by omega) OKB.out HT23.out)
          clear hown hb hyl hys
          go_wp2_with fail
          have kN0 := blk_cell KN.out; simp only [vcs] at kN0
          have kN := kN0
          have g0 : Below w9.heap.size w9 w9.drew := (Below.refl _ _).drew
          go_region_held3 (fun w' => (∀ i, w'.cell? ⟨w4.heap.size, i, none⟩ = #[.int .i64 n.x, .int .i64 n.y, .int .i64 n.z][i]?))
            (first | with_reducible exact kN | go_keep)
            (first | (go_at_call 69; (with_reducible refine (radius15_any p _ HP.out).mono ?_); rintro e w' ⟨rfl, rfl⟩) | (go_at_call 69; (with_reducible refine (radius15_any q _ HQ.out).mono ?_); rintro e w' ⟨rfl, rfl⟩) | (go_at_call 70; (with_reducible refine (margin_any n Aa as_ ca (rad15 p) Ab bs cb (rad15 q) _ (SA.out.below g0) (SB.out.below g0) (by omega) (by omega)).mono ?_); rintro e w10 ⟨rfl, b1⟩; have g1 := g0.trans (b1.mono g0.size); have kN := keepe g1 yN kN0; rw [margR_made HUn.out PA.out PB.out (rad15_bd p) (rad15_bd q)]; generalize hU : margX n as_ (rad15 p) bs (rad15 q) = U; have HU := hide hU; clear hU))
          clear kN0 kN b1
          have z10 : w.heap.size ≤ w10.heap.size := Nat.le_trans z9 g1.size
          have B10 := hide (B9.out.trans (g1.mono z9)); clear B9
          replace S4 := hide (S4.out.below g1)
          replace S5 := hide (S5.out.below g1)
          replace SA := hide (SA.out.below g1)
          replace SB := hide (SB.out.below g1)
          replace SC := hide (SC.out.below g1)
          replace SE := hide (SE.out.below g1)
          replace KT := hide ((g1.block _ yT).trans KT.out)
          replace yT := Nat.lt_of_lt_of_le yT g1.size
          replace KN := hide ((g1.block _ yN).trans KN.out)
          replace yN := Nat.lt_of_lt_of_le yN g1.size
          replace KD := hide ((g1.block _ yD).trans KD.out)
          replace yD := Nat.lt_of_lt_of_le yD g1.size
          clear g0 g1
          go_wp2_with fail
          have kN0 := blk_cell KN.out; simp only [vcs] at kN0
          have kN := kN0
          have g0 : Below w10.heap.size w10 w10.drew := (Below.refl _ _).drew
          go_region_held3 (fun w' => (∀ i, w'.cell? ⟨w4.heap.size, i, none⟩ = #[.int .i64 n.x, .int .i64 n.y, .int .i64 n.z][i]?))
            (first | with_reducible exact kN | go_keep)
            (first | (go_at_call 69; (with_reducible refine (radius15_any p _ HP.out).mono ?_); rintro e w' ⟨rfl, rfl⟩) | (go_at_call 69; (with_reducible refine (radius15_any q _ HQ.out).mono ?_); rintro e w' ⟨rfl, rfl⟩) | (go_at_call 70; (with_reducible refine (margin_any n Ac xs cc (rad15 p) Ae ys ce (rad15 q) _ (SC.out.below g0) (SE.out.below g0) (by omega) (by omega)).mono ?_); rintro e w11 ⟨rfl, b1⟩; have g1 := g0.trans (b1.mono g0.size); have kN := keepe g1 yN kN0; rw [margR_made HUn.out PC.out PE.out (rad15_bd p) (rad15_bd q)]; generalize hV : margX n xs (rad15 p) ys (rad15 q) = V; have HV_ := hide hV; clear hV))
          clear kN0 kN b1
          have z11 : w.heap.size ≤ w11.heap.size := Nat.le_trans z10 g1.size
          have B11 := hide (B10.out.trans (g1.mono z10)); clear B10
          replace S4 := hide (S4.out.below g1)
          replace S5 := hide (S5.out.below g1)
          replace SA := hide (SA.out.below g1)
          replace SB := hide (SB.out.below g1)
          replace SC := hide (SC.out.below g1)
          replace SE := hide (SE.out.below g1)
          replace KT := hide ((g1.block _ yT).trans KT.out)
          replace yT := Nat.lt_of_lt_of_le yT g1.size
          replace KN := hide ((g1.block _ yN).trans KN.out)
          replace yN := Nat.lt_of_lt_of_le yN g1.size
          replace KD := hide ((g1.block _ yD).trans KD.out)
          replace yD := Nat.lt_of_lt_of_le yD g1.size
          clear g0 g1
          have f1 : V = U := by rw [← HV_.out, ← HU.out, HYSc.out, HYSe.out]; exact marg_add n _ _ t (by omega) (by omega)
          subst f1
          go_wp2_with fail
          refine (awake15 _).mono ?_
          rintro e w12 ⟨rfl, hb12⟩
          have z12 : w.heap.size ≤ w12.heap.size := Nat.le_trans z11 hb12.size
          have B12 := hide (B11.out.trans (hb12.mono z11)); clear B11
          replace S4 := hide (S4.out.below hb12)
          replace S5 := hide (S5.out.below hb12)
          replace SA := hide (SA.out.below hb12)
          replace SB := hide (SB.out.below hb12)
          replace SC := hide (SC.out.below hb12)
          replace SE := hide (SE.out.below hb12)
          replace KT := hide ((hb12.block _ yT).trans KT.out)
          replace yT := Nat.lt_of_lt_of_le yT hb12.size
          replace KN := hide ((hb12.block _ yN).trans KN.out)
          replace yN := Nat.lt_of_lt_of_le yN hb12.size
          replace KD := hide ((hb12.block _ yD).trans KD.out)
          replace yD := Nat.lt_of_lt_of_le yD hb12.size
          clear hb12
          go_wp2_with fail
          go_ret
          exact ⟨by simp, B12.out⟩
end Go.Proofs.Ytionbckpgfaneaa
