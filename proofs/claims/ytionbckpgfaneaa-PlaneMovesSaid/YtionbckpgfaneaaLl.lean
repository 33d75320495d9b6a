/- SupportShift, walked. -/
import Derived.Test.YtionbckpgfaneaaVa
import Derived.Test.YtionbckpgfaneaaVb
import Derived.Test.YtionbckpgfaneaaWy
import Derived.Test.YtionbckpgfaneaaWx
import Derived.Test.YtionbckpgfaneaaLe
import Derived.Deep.AppendLies
namespace Go.Proofs.Ytionbckpgfaneaa
open Go.RowKit
set_option maxHeartbeats 1000000
set_option maxRecDepth 100000
theorem placed_add {l : List IV} {t : V3} (h1 : 1 ≤ l.length) (h5 : l.length ≤ 8) (h : ∀ p ∈ l, IVOk 3000 p) (ht : Within t 8388608) : placedB (l.map (addIV · t)) = true := by
  unfold placedB
  simp only [Bool.and_eq_true, decide_eq_true_eq, List.all_eq_true, List.length_map]
  refine ⟨⟨h1, h5⟩, fun q hq => ?_⟩
  obtain ⟨p, hp, rfl⟩ := List.mem_map.1 hq
  obtain ⟨⟨a1, a2, a3, a4⟩, ⟨b1, b2, b3, b4⟩, c1, c2, c3, c4⟩ := h p hp
  obtain ⟨⟨t1, t2⟩, ⟨t3, t4⟩, t5, t6⟩ := ht
  exact ok_yes _ (by simp only [addIV]; omega) (by simp only [addIV]; omega) (by simp only [addIV]; omega)
theorem alc {w : World} {b o : Nat} {x : Obj} {a : Option Value} (hz : b < w.heap.size) (h : w.cell? ⟨b, o, none⟩ = a) : (w.alloc x).cell? ⟨b, o, none⟩ = a := (Below.cell (p := ⟨b, o, none⟩) ((Below.refl w.heap.size w).alloc (Nat.le_refl _) x) hz).trans h
theorem alc' {w : World} {b : Nat} {x : Obj} {f : Nat → Option Value} (hz : b < w.heap.size) (h : ∀ i, w.cell? ⟨b, i, none⟩ = f i) : ∀ i, (w.alloc x).cell? ⟨b, i, none⟩ = f i := fun i => alc hz (h i)
theorem far_grown {w w' : World} {r : Option Nat} {b o : Nat} {x : Obj} {a : Option Value} (hg : (w.alloc x).grownBy w' r) (hno : r ≠ some b) (hz : b < w.heap.size) (h : w.cell? ⟨b, o, none⟩ = a) : w'.cell? ⟨b, o, none⟩ = a := (hg.cell_far _ (by simp; omega) (Ne.symm hno)).trans (alc hz h)
theorem far_grown' {w w' : World} {r : Option Nat} {b : Nat} {x : Obj} {f : Nat → Option Value} (hg : (w.alloc x).grownBy w' r) (hno : r ≠ some b) (hz : b < w.heap.size) (h : ∀ i, w.cell? ⟨b, i, none⟩ = f i) : ∀ i, w'.cell? ⟨b, i, none⟩ = f i := fun i => far_grown hg hno hz (h i)
theorem bcl {w w' : World} {N b o : Nat} {a : Option Value} (h : Below N w w') (hz : b < N) (k : w.cell? ⟨b, o, none⟩ = a) : w'.cell? ⟨b, o, none⟩ = a := (h.cell (p := ⟨b, o, none⟩) hz).trans k
theorem supportShift_walk (a b c : Int) (l : List Int) (v : V3) (A4 : Option Addr) (c4 : Nat) (w : World) (hv : v.ok64)
    (hs4 : SlN w A4 l) (m4 : l.length ≤ 9223372036854775807) :
    Calls Try.prog 17 #[.int .i64 a, .int .i64 b, .int .i64 c, .slice A4 l.length c4, v.v] w fun e w' => e = .returned (.bool true) ∧ Below w.heap.size w w' := by
  obtain ⟨i0, hi0, hz0, hz1, hz2⟩ := info_parts info44
  unfold V3.v
  have S4 := hide hs4; clear hs4
  have HV := hide hv; clear hv
  have B0 := hide (Below.refl w.heap.size w)
  have z0 : w.heap.size ≤ w.heap.size := Nat.le_refl _
  go_enter Try.func17, Try.ntmps17
  go_wp2_with fail
  obtain ⟨w1, hw1⟩ : ∃ W, W = (w.alloc (.cells #[.int .i64 v.x, .int .i64 v.y, .int .i64 v.z] 47)) := ⟨_, rfl⟩
  rw [← hw1]
  have hb1 : Below w.heap.size w w1 := by rw [hw1]; go_grown
  have z1 : w.heap.size ≤ w1.heap.size := Nat.le_trans z0 hb1.size
  have B1 := hide (B0.out.trans (hb1.mono z0)); clear B0
  replace S4 := hide (S4.out.below hb1)
  have KT := hide (show w1.heap[w.heap.size]? = some (.cells (vcs v) 47 (0, 0)) by rw [hw1]; exact new_at _ _ (by simp))
  have yT : w.heap.size < w1.heap.size := by rw [hw1]; simp <;> omega
  clear hw1 hb1
  refine (mkNormal_any a b c _).mono ?_
  rintro e w2 ⟨n, hun, rfl, hb2⟩
  have z2 : w.heap.size ≤ w2.heap.size := Nat.le_trans z1 hb2.size
  have B2 := hide (B1.out.trans (hb2.mono z1)); clear B1
  replace S4 := hide (S4.out.below hb2)
  replace KT := hide ((hb2.block _ yT).trans KT.out)
  replace yT := Nat.lt_of_lt_of_le yT hb2.size
  have HUn := hide hun; clear hun
  unfold V3.v
  clear hb2
  go_wp2_with fail
  have yT2 := yT
  refine (points_any A4 l c4 3000 _ S4.out m4 (by omega) (by omega)).mono ?_
  rintro e w3 ⟨vx, xs, rfl, lx1, lx5, okx, hox, hb3⟩
  have z3 : w.heap.size ≤ w3.heap.size := Nat.le_trans z2 hb3.size
  have B3 := hide (B2.out.trans (hb3.mono z2)); clear B2
  replace S4 := hide (S4.out.below hb3)
  replace KT := hide ((hb3.block _ yT).trans KT.out)
  replace yT := Nat.lt_of_lt_of_le yT hb3.size
  obtain ⟨Ax, cx, rfl, _, _, adx⟩ := own_val hox
  have SX := hide (show SlI w3 Ax xs from own_sl hox)
  have OKX := hide okx
  clear hox okx
  clear hb3
  have ADX := hide (show ∀ b off, Ax = some ⟨b, off, none⟩ → b ≠ w.heap.size from fun b off e => by have := (adx b off e).1; omega)
  clear yT2
  clear adx
  have PX := hide (placed_made (by omega) lx1 (by omega) OKX.out)
  have cT := blk_cell KT.out; have fT := blk_frozen KT.out; simp only [vcs] at cT
  go_wp2_with fail
  have hsx : ∀ x : Int, I64 x → -8388608 ≤ x / 1099511627776 ∧ x / 1099511627776 ≤ 8388608 := fun x h => by obtain ⟨h1, h2⟩ := h; omega
  obtain ⟨t, ht⟩ : ∃ t : V3, t = ⟨v.x / 1099511627776, v.y / 1099511627776, v.z / 1099511627776⟩ := ⟨_, rfl⟩
  have HT23 := hide (show Within t 8388608 by rw [ht]; exact ⟨hsx _ HV.out.1, hsx _ HV.out.2.1, hsx _ HV.out.2.2⟩)
  have HTW := hide (show Within t 536870912 by obtain ⟨⟨a1, a2⟩, ⟨a3, a4⟩, a5, a6⟩ := HT23.out; exact ⟨⟨by omega, by omega⟩, ⟨by omega, by omega⟩, by omega, by omega⟩)
  have e1 : v.x / 1099511627776 = t.x := by rw [ht]
  have e2 : v.y / 1099511627776 = t.y := by rw [ht]
  have e3 : v.z / 1099511627776 = t.z := by rw [ht]
  rw [e1, e2, e3]
  clear ht e1 e2 e3 hsx cT fT
  obtain ⟨w4, hW⟩ : ∃ W, W = (((w3.setCell ⟨w.heap.size, 0, none⟩ (.int .i64 t.x)).setCell ⟨w.heap.size, 1, none⟩ (.int .i64 t.y)).setCell ⟨w.heap.size, 2, none⟩ (.int .i64 t.z)).alloc (.cells #[.int .i64 n.x, .int .i64 n.y, .int .i64 n.z] 47) := ⟨_, rfl⟩
  rw [← hW]
  have z4 : w.heap.size ≤ w4.heap.size := by rw [hW]; simp [World.setCell]; omega
  have B4 := hide (show Below w.heap.size w w4 by rw [hW]; exact (((B3.out.setCell (by simp) _).setCell (by simp) _).setCell (by simp) _).alloc (by simp [World.setCell]; omega) _)
  replace SX := hide (show SlI w4 Ax xs by rw [hW]; exact Sl.alloc (Sl.setc (Sl.setc (Sl.setc SX.out ADX.out) ADX.out) ADX.out) _)
  have KN := hide (show w4.heap[w3.heap.size]? = some (.cells (vcs n) 47 (0, 0)) by rw [hW]; exact new_at _ _ (by simp [World.setCell]))
  have yN : w3.heap.size < w4.heap.size := by rw [hW]; simp [World.setCell]
  replace KT := hide (show w4.heap[w.heap.size]? = some (.cells (vcs t) 47 (0, 0)) by rw [hW]; exact (Below.heap_alloc _ _ _ (by simp [World.setCell]; omega)).trans (blk_set (blk_set (blk_set KT.out 0 _) 1 _) 2 _))
  replace yT : w.heap.size < w4.heap.size := by omega
  clear hW B3 S4
  go_loopw [13, 14] (fun v i wr => ∃ k : Nat, k ≤ xs.length ∧ i = .int .i64 k ∧ wr.ownsRow w4.heap.size 44 6 v k (((xs.take k).map (addIV · t)).flatMap IV.cells) ∧ Below w4.heap.size w4 wr) (fun _ i _ => xs.length - (intOf i).toNat)
  case atStart => exact ⟨0, by omega, rfl, World.ownsRow_nil _ _ _ _, Below.refl _ _⟩
  case round =>
    obtain ⟨k, hk, rfl, hown, hb⟩ := hrel
    have HBk := hide hb; have hz := hb.size
    by_cases hkl : k < xs.length
    · obtain ⟨b, off, rfl, hbb⟩ := SlI.addr SX.out (by omega)
      obtain ⟨h0, h1, h2, h3, h4, h5⟩ := SlI.at_ (Sl.below SX.out hb) hkl
      have OKK := hide (IVM_ok ((placed_of PX.out).2.2 k hkl))
      have hbr := Nat.lt_of_lt_of_le hbb hz
      have hno : u13.ownBlock ≠ some b := fun e => by have := (hown.lt b e).1; omega
      have hi1 : (0 : Int) ≤ (k : Int) := Int.natCast_nonneg _
      have hi2 : (k : Int) < (xs.length : Int) := by omega
      have kT := blk_cell ((hb.block _ yT).trans KT.out); simp only [vcs] at kT
      have jT := Nat.lt_of_lt_of_le yT hz
      have hnoT : u13.ownBlock ≠ some w.heap.size := fun e => by have := (hown.lt _ e).1; omega
      clear hb
      go_wp2_with fail
      go_region_held3 (fun w' => (∀ i, w'.cell? ⟨w.heap.size, i, none⟩ = #[.int .i64 t.x, .int .i64 t.y, .int .i64 t.z][i]?) ∧ w'.cell? ⟨b, off + k * 6, none⟩ = some (.int .i64 xs[k].x.lo) ∧ w'.cell? ⟨b, off + k * 6 + 1, none⟩ = some (.int .i64 xs[k].x.hi) ∧ w'.cell? ⟨b, off + k * 6 + 2, none⟩ = some (.int .i64 xs[k].y.lo) ∧ w'.cell? ⟨b, off + k * 6 + 3, none⟩ = some (.int .i64 xs[k].y.hi) ∧ w'.cell? ⟨b, off + k * 6 + 4, none⟩ = some (.int .i64 xs[k].z.lo) ∧ w'.cell? ⟨b, off + k * 6 + 5, none⟩ = some (.int .i64 xs[k].z.hi))
        (first | with_reducible exact ⟨kT, h0, h1, h2, h3, h4, h5⟩ | with_reducible exact ⟨alc' jT kT, alc hbr h0, alc hbr h1, alc hbr h2, alc hbr h3, alc hbr h4, alc hbr h5⟩ | with_reducible exact ⟨far_grown' hgrow hnoT jT kT, far_grown hgrow hno hbr h0, far_grown hgrow hno hbr h1, far_grown hgrow hno hbr h2, far_grown hgrow hno hbr h3, far_grown hgrow hno hbr h4, far_grown hgrow hno hbr h5⟩ | go_keep)
        (first | (go_at_call 66; (with_reducible refine (point_lit t _).mono ?_); rintro e w7 ⟨rfl, b7⟩; have kT := keepe b7 jT kT; have h0 := bcl b7 hbr h0; have h1 := bcl b7 hbr h1; have h2 := bcl b7 hbr h2; have h3 := bcl b7 hbr h3; have h4 := bcl b7 hbr h4; have h5 := bcl b7 hbr h5; have hbr := Nat.lt_of_lt_of_le hbr b7.size; have jT := Nat.lt_of_lt_of_le jT b7.size; have hz7 := Nat.le_trans hz b7.size) | (go_at_call 65; (with_reducible refine (addVec_lit xs[k] (ptI t) _ OKK.out (IVM_pt HTW.out)).mono ?_); rintro e w8 ⟨rfl, b8⟩; rw [addII_pt HTW.out]; unfold IV.v; have kT := keepe b8 jT kT; have h0 := bcl b8 hbr h0; have h1 := bcl b8 hbr h1; have h2 := bcl b8 hbr h2; have h3 := bcl b8 hbr h3; have h4 := bcl b8 hbr h4; have h5 := bcl b8 hbr h5; have hbr := Nat.lt_of_lt_of_le hbr b8.size; have jT := Nat.lt_of_lt_of_le jT b8.size; have hz8 := Nat.le_trans hz7 b8.size; have own8 := own_below (own_below hown.drew b7) b8; have HB8 := hide ((HBk.out.drew.trans (b7.mono hz)).trans (b8.mono hz7)); clear b7 b8) | (have _t := own8; refine step_append_lies _ (by rfl) _ _ _ (by rfl) w4.heap.size 44 i0 _ 6 48 Try.underlying23 hi0 hz0 hz1 hz2 rfl (by omega) u13 k _ (by rfl) (own8.alloc _) ⟨w8.heap.size, 0, none⟩ 1 1 (addIV xs[k] t).cells (by rfl) (by rfl) (World.news_of_block (cs := (addIV xs[k] t).cells.toArray) (t := 44) (fr := (0, 0)) (heap_alloc_new w8 _)) (by simp [Value.oneCell', IV.cells]) (by omega) (by unfold maxLen; omega) (by omega) (by simp; omega) (w8.heap.size + 1) (by simp) ?_; intro gg cap w9 hown9 hgrow hat hlt1))
      have hb9 : Below w4.heap.size w4 w9 := (HB8.out.alloc hz8 _).grown hgrow (by simp; omega) (fun g hg => (own8.lt g hg).1)
      clear hgrow hat hlt1
      go_wp2_with fail
      go_roundw
      case rel => exact ⟨k + 1, by omega, by simp, by rw [List.take_succ_eq_append_getElem hkl, List.map_append, List.flatMap_append]; simpa only [List.map_cons, List.map_nil, List.flatMap_cons, List.flatMap_nil, List.append_nil, List.map_take] using hown9, hb9⟩
      case measure => simp [intOf] <;> omega
    · obtain rfl : k = xs.length := by omega
      rw [List.take_of_length_le (Nat.le_refl _)] at hown
      obtain ⟨w5, rfl⟩ : ∃ W : World, W = wr := ⟨_, rfl⟩
      clear HBk hz hkl hk
      have z5 : w.heap.size ≤ w5.heap.size := Nat.le_trans z4 hb.size
      have B5 := hide (B4.out.trans (hb.mono z4)); clear B4
      replace SX := hide (SX.out.below hb)
      replace KT := hide ((hb.block _ yT).trans KT.out)
      replace yT := Nat.lt_of_lt_of_le yT hb.size
      replace KN := hide ((hb.block _ yN).trans KN.out)
      replace yN := Nat.lt_of_lt_of_le yN hb.size
      obtain ⟨ys, hys⟩ : ∃ ys, ys = xs.map (addIV · t) := ⟨_, rfl⟩
      have hyl : xs.length = ys.length := by rw [hys]; simp
      rw [hyl, ← hys] at hown
      have hly8 : ys.length ≤ 5 := by omega
      have hly1 : 1 ≤ ys.length := by omega
      obtain ⟨Ay, cy, rfl, _, _, _⟩ := own_val hown
      have SY := hide (show SlI w5 Ay ys from own_sl hown)
      have HYSy := hide hys
      have PY := hide (show placedB ys = true by rw [hys]; exact placed_add lx1 (by omega) OKX.out HT23.out)
      clear hown hb hyl hys
      obtain ⟨⟨a1, a2⟩, ⟨b1, b2⟩, c1, c2⟩ := inR_of (usable_of HUn.out).1
      obtain ⟨⟨t1, t2⟩, ⟨t3, t4⟩, t5, t6⟩ := HT23.out
      have g1 := mul_bd2 n.x t.x 16384 8388608 a1 a2 t1 t2
      have g2 := mul_bd2 n.y t.y 16384 8388608 b1 b2 t3 t4
      have g3 := mul_bd2 n.z t.z 16384 8388608 c1 c2 t5 t6
      have cN := blk_cell KN.out; simp only [vcs] at cN
      have cT := blk_cell KT.out; simp only [vcs] at cT
      go_wp2_with fail
      obtain ⟨d, hd⟩ : ∃ d, d = n.x * t.x + n.y * t.y + n.z * t.z := ⟨_, rfl⟩
      have hdb : -1000000000000 ≤ d ∧ d ≤ 1000000000000 := by omega
      rw [← hd]
      have HD := hide (show d = dotV n t from hd)
      clear hd g1 g2 g3 t1 t2 t3 t4 t5 t6 a1 a2 b1 b2 c1 c2
      clear cN cT
      refine (least_any n Ax xs cx _ SX.out (by omega)).mono ?_
      rintro e w6 ⟨rfl, hb6⟩
      have z6 : w.heap.size ≤ w6.heap.size := Nat.le_trans z5 hb6.size
      have B6 := hide (B5.out.trans (hb6.mono z5)); clear B5
      replace SX := hide (SX.out.below hb6)
      replace SY := hide (SY.out.below hb6)
      replace KT := hide ((hb6.block _ yT).trans KT.out)
      replace yT := Nat.lt_of_lt_of_le yT hb6.size
      replace KN := hide ((hb6.block _ yN).trans KN.out)
      replace yN := Nat.lt_of_lt_of_le yN hb6.size
      rw [leastR_yes (HUn.out) PX.out]
      generalize hP1 : leastV n xs = P1
      generalize hI1 : leastI n xs = I1
      have HP1 := hide hP1; have HI1 := hide hI1; clear hP1 hI1
      clear hb6
      have bd1 := leastV_bd HUn.out PX.out; rw [HP1.out] at bd1
      have cN := blk_cell KN.out; simp only [vcs] at cN
      go_wp2_with fail
      clear cN
      refine (least_any n Ay ys cy _ SY.out (by omega)).mono ?_
      rintro e w7 ⟨rfl, hb7⟩
      have z7 : w.heap.size ≤ w7.heap.size := Nat.le_trans z6 hb7.size
      have B7 := hide (B6.out.trans (hb7.mono z6)); clear B6
      replace SX := hide (SX.out.below hb7)
      replace SY := hide (SY.out.below hb7)
      replace KT := hide ((hb7.block _ yT).trans KT.out)
      replace yT := Nat.lt_of_lt_of_le yT hb7.size
      replace KN := hide ((hb7.block _ yN).trans KN.out)
      replace yN := Nat.lt_of_lt_of_le yN hb7.size
      rw [leastR_yes (HUn.out) PY.out]
      generalize hP2 : leastV n ys = P2
      generalize hI2 : leastI n ys = I2
      have HP2 := hide hP2; have HI2 := hide hI2; clear hP2 hI2
      clear hb7
      have cN := blk_cell KN.out; simp only [vcs] at cN
      go_wp2_with fail
      clear cN
      refine (greatest_any n Ax xs cx _ SX.out (by omega)).mono ?_
      rintro e w8 ⟨rfl, hb8⟩
      have z8 : w.heap.size ≤ w8.heap.size := Nat.le_trans z7 hb8.size
      have B8 := hide (B7.out.trans (hb8.mono z7)); clear B7
      replace SX := hide (SX.out.below hb8)
      replace SY := hide (SY.out.below hb8)
      replace KT := hide ((hb8.block _ yT).trans KT.out)
      replace yT := Nat.lt_of_lt_of_le yT hb8.size
      replace KN := hide ((hb8.block _ yN).trans KN.out)
      replace yN := Nat.lt_of_lt_of_le yN hb8.size
      rw [greatR_yes (HUn.out) PX.out]
      generalize hP3 : greatV n xs = P3
      generalize hI3 : greatI n xs = I3
      have HP3 := hide hP3; have HI3 := hide hI3; clear hP3 hI3
      clear hb8
      have bd3 := greatV_bd HUn.out PX.out; rw [HP3.out] at bd3
      have cN := blk_cell KN.out; simp only [vcs] at cN
      go_wp2_with fail
      clear cN
      refine (greatest_any n Ay ys cy _ SY.out (by omega)).mono ?_
      rintro e w9 ⟨rfl, hb9⟩
      have z9 : w.heap.size ≤ w9.heap.size := Nat.le_trans z8 hb9.size
      have B9 := hide (B8.out.trans (hb9.mono z8)); clear B8
      replace SX := hide (SX.out.below hb9)
      replace SY := hide (SY.out.below hb9)
      replace KT := hide ((hb9.block _ yT).trans KT.out)
      replace yT := Nat.lt_of_lt_of_le yT hb9.size
      replace KN := hide ((hb9.block _ yN).trans KN.out)
      replace yN := Nat.lt_of_lt_of_le yN hb9.size
      rw [greatR_yes (HUn.out) PY.out]
      generalize hP4 : greatV n ys = P4
      generalize hI4 : greatI n ys = I4
      have HP4 := hide hP4; have HI4 := hide hI4; clear hP4 hI4
      clear hb9
      go_wp2_with fail
      have f1 : P2 = P1 + d := by rw [← HP1.out, ← HP2.out, HYSy.out, HD.out]; exact leastV_add n t (by omega)
      have f2 : P4 = P3 + d := by rw [← HP3.out, ← HP4.out, HYSy.out, HD.out]; exact greatV_add n t (by omega)
      have f3 : I2 = I1 := by rw [← HI1.out, ← HI2.out, HYSy.out]; exact leastI_add n xs t
      subst f1 f2 f3
      refine (awake13 _).mono ?_
      rintro e w10 ⟨rfl, hb10⟩
      have z10 : w.heap.size ≤ w10.heap.size := Nat.le_trans z9 hb10.size
      have B10 := hide (B9.out.trans (hb10.mono z9)); clear B9
      replace SX := hide (SX.out.below hb10)
      replace SY := hide (SY.out.below hb10)
      replace KT := hide ((hb10.block _ yT).trans KT.out)
      replace yT := Nat.lt_of_lt_of_le yT hb10.size
      replace KN := hide ((hb10.block _ yN).trans KN.out)
      replace yN := Nat.lt_of_lt_of_le yN hb10.size
      clear hb10
      go_wp2_with fail
      go_ret
      exact ⟨by simp, B10.out⟩
end Go.Proofs.Ytionbckpgfaneaa
