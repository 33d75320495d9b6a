/- Walks of the normals, part m: the references' Hull and Bound. -/
import Derived.Test.YtionbckpgfaneaaPl
import Derived.Test.YtionbckpgfaneaaQa
import Derived.Test.YtionbckpgfaneaaNe
import Derived.Deep.DeepCutAuto
import Derived.Deep.RegionHeld3
import Derived.Deep.RegionWith
namespace Go.Proofs.Ytionbckpgfaneaa
open Go.RowKit
set_option maxHeartbeats 4000000
set_option maxRecDepth 100000
/-- armplanref1.Hull -/
theorem hull_ref (a b : Iv) (w : World) (ha : a.valid = true) (hb : b.valid = true) : Calls Try.prog 136 #[.agg #[.int .i64 a.lo, .int .i64 a.hi], .agg #[.int .i64 b.lo, .int .i64 b.hi]] w fun e w' => e = .returned (.agg #[.int .i64 (hullI a b).lo, .int .i64 (hullI a b).hi]) ∧ Below w.heap.size w w' := by
  have VA := hide ha; have VB := hide hb
  clear ha hb
  go_enter Try.func136, Try.ntmps136
  go_wp2_with fail
  obtain ⟨w0, hw0⟩ : ∃ W, W = (((w.alloc (.cells #[.int .i64 a.lo, .int .i64 a.hi] 42)).alloc (.cells #[.int .i64 b.lo, .int .i64 b.hi] 42)).alloc (.cells #[.int .i64 0, .int .i64 0] 42)) := ⟨_, rfl⟩
  rw [← hw0]
  have b0 : Below w.heap.size w w0 := by rw [hw0]; go_grown
  have k0 : w0.heap[w.heap.size]? = some (.cells #[.int .i64 a.lo, .int .i64 a.hi] 42 (0, 0)) := by rw [hw0]; exact (Below.heap_alloc _ _ _ (by simp <;> omega)).trans ((Below.heap_alloc _ _ _ (by simp)).trans (new_at _ _ rfl))
  have k1 : w0.heap[w.heap.size + 1]? = some (.cells #[.int .i64 b.lo, .int .i64 b.hi] 42 (0, 0)) := by rw [hw0]; exact (Below.heap_alloc _ _ _ (by simp)).trans (new_at _ _ (by simp))
  have k2 : w0.heap[w.heap.size + 1 + 1]? = some (.cells #[.int .i64 0, .int .i64 0] 42 (0, 0)) := by rw [hw0]; exact new_at _ _ (by simp)
  have K0 := hide k0; have K1 := hide k1; have K2 := hide k2; have B0 := hide b0
  clear hw0 k0 k1 k2 b0
  refine (valid_any a _).mono ?_
  rintro e w1 ⟨rfl, hb1⟩
  rw [VA.out]
  replace K0 := hide ((hb1.block _ (blt K0.out)).trans K0.out)
  replace K1 := hide ((hb1.block _ (blt K1.out)).trans K1.out)
  replace K2 := hide ((hb1.block _ (blt K2.out)).trans K2.out)
  replace B0 := hide (stepB hb1 B0.out)
  clear hb1
  have c1 := blk_cell K1.out; have y1 := blt K1.out
  go_wp2_with fail
  refine (valid_any b _).mono ?_
  rintro e w2 ⟨rfl, hb2⟩
  rw [VB.out]
  replace K0 := hide ((hb2.block _ (blt K0.out)).trans K0.out)
  replace K1 := hide ((hb2.block _ (blt K1.out)).trans K1.out)
  replace K2 := hide ((hb2.block _ (blt K2.out)).trans K2.out)
  replace B0 := hide (stepB hb2 B0.out)
  clear hb2 c1 y1
  have c0 := blk_cell K0.out; have y0 := blt K0.out; have c1 := blk_cell K1.out; have y1 := blt K1.out; have c2 := blk_cell K2.out; have y2 := blt K2.out; have f2 := blk_frozen K2.out
  go_wp2_with fail
  refine bodyPost_ret (v := .agg #[.int .i64 (hullI a b).lo, .int .i64 (hullI a b).hi]) (by simp [results, Try.results136, go_sem, c2, hullI]) rfl ⟨rfl, ?_⟩
  exact (B0.out.setCell (by simp <;> omega) _).setCell (by simp <;> omega) _
def BoOut (w : World) (N S : Nat) (v : IV) (wr : World) : Prop := wr.heap[S]? = some (.cells (ivc v) 44 (0, 0)) ∧ wr.heap[N]? = some (.cells (ivc zeroIV) 44 (0, 0)) ∧ Below N w wr ∧ S < wr.heap.size
def BoInv (w : World) (N S : Nat) (l : List IV) (i : Value) (wr : World) : Prop :=
  ∃ k : Nat, 1 ≤ k ∧ k ≤ l.length ∧ i = .int .i64 k ∧ BoOut w N S (boxN l (k - 1)) wr
def BoIn (w : World) (N S : Nat) (v u : IV) (i : Value) (ww : World) : Prop :=
  ∃ m : Int, i = .int .i64 m ∧ 0 ≤ m ∧ m ≤ 3 ∧ BoOut w N S (mixI m v u) ww
theorem BoIn.next {w wr wf : World} {N S : Nat} {v u : IV} {m : Int} (hNS : N < S) (h : BoOut w N S (mixI m v u) wr)
    (i j : Nat) (a b : Value) (hm0 : 0 ≤ m + 1) (hm3 : m + 1 ≤ 3) (he : ((ivc (mixI m v u)).setIfInBounds i a).setIfInBounds j b = ivc (mixI (m + 1) v u)) (hw : Like wf ((wr.setCell ⟨S, i, none⟩ a).setCell ⟨S, j, none⟩ b)) :
    BoIn w N S v u (.int .i64 (m + 1)) wf := by
  obtain ⟨hS, hN, hb, hz⟩ := h
  refine ⟨m + 1, rfl, hm0, hm3, ?_, ?_, ?_, ?_⟩
  · rw [← he, hw.1]
    exact blk_set (blk_set hS i a) j b
  · rw [hw.1, Below.heap_setCell _ _ _ _ (by simp; omega), Below.heap_setCell _ _ _ _ (by simp; omega)]
    exact hN
  · exact hw.below ((hb.setCell (by simp; omega) a).setCell (by simp; omega) b)
  · rw [hw.1]; simp [World.setCell]; omega
theorem BoOut.below {w wr wf : World} {N S : Nat} {v : IV} (h : BoOut w N S v wr) (hNz : N < S) (hb : Below wr.heap.size wr wf) : BoOut w N S v wf :=
  ⟨(hb.block _ (blt h.1)).trans h.1, (hb.block _ (blt h.2.1)).trans h.2.1, h.2.2.1.trans (hb.mono (by have := h.2.2.2; omega)), Nat.lt_of_lt_of_le h.2.2.2 hb.size⟩
theorem box_ok {l : List IV} (h : placedB l = true) (k : Nat) (hk : k < l.length) : (boxN l k).ok = true := by
  induction k with
  | zero =>
    have := (placed_of h).2.2 0 hk
    simpa [boxN, List.getD, List.getElem?_eq_getElem hk] using this
  | succ k ih =>
    have a := ok_of (ih (by omega))
    have b := ok_of ((placed_of h).2.2 (k + 1) hk)
    simp only [boxN, List.getD, List.getElem?_eq_getElem hk, Option.getD_some, hullV, hullI, IV.ok, Iv.ok, Bool.and_eq_true, decide_eq_true_eq]
    omega
theorem comp_valid {v : IV} (h : v.ok = true) : v.x.valid = true ∧ v.y.valid = true ∧ v.z.valid = true := by
  have := ok_of h
  simp only [Iv.valid, decide_eq_true_eq]
  omega
/-- armplanref10.Bound -/
theorem bound_ref (A : Option Addr) (l : List IV) (c : Nat) (r : Int) (w : World) (hs : SlI w A l) (hp : placedB l = true) (hr : 0 ≤ r ∧ r ≤ 1048576) :
    Calls Try.prog 94 #[.slice A l.length c, .int .i64 r] w fun e w' => e = .returned (boundF l r).v ∧ Below w.heap.size w w' := by
  have HS := hide hs; have HP := hide hp
  obtain ⟨r0, r1⟩ := hr
  have HRR := hide (show boundF l r = growV (boxN l (l.length - 1)) r by unfold boundF; rw [if_pos (by simp [hp, radOk_of ⟨r0, r1⟩])])
  obtain ⟨l1, l8, _⟩ := placed_of hp
  clear hs hp
  go_enter Try.func94, Try.ntmps94
  go_wp2_with fail
  refine (placed_ref A l c _ (by exact Sl.alloc HS.out _) (by omega)).mono ?_
  rintro e w1 ⟨rfl, hb1⟩
  rw [HP.out]
  have hz1 : w.heap.size < w1.heap.size := by have := hb1.size; simp at this; omega
  have hn1 : w1.heap[w.heap.size]? = some (.cells (ivc zeroIV) 44 (0, 0)) := (hb1.block _ (by simp)).trans (heap_alloc_new w _)
  have hbw : Below w.heap.size w w1 := ((Below.refl _ _).alloc (Nat.le_refl _) _).trans (hb1.mono (by simp))
  clear hb1
  have HN := hide hn1; have HB := hide hbw; clear hn1 hbw
  obtain ⟨b1, o1, rfl, hb1⟩ := HS.out.addr (by omega)
  obtain ⟨h0, h1, h2, h3, h4, h5⟩ := (HS.out.below HB.out).at_ (show 0 < l.length by omega)
  have yb : b1 < w1.heap.size := Nat.lt_of_lt_of_le hb1 HB.out.size
  simp only [Nat.zero_mul, Nat.add_zero] at h0 h1 h2 h3 h4 h5
  go_wp2_with fail
  clear h0 h1 h2 h3 h4 h5 yb
  go_loopw [6] (fun i wr => BoInv w w.heap.size w1.heap.size l i wr) (fun i _ => l.length - (intOf i).toNat)
  case atStart =>
    refine ⟨1, by omega, by omega, rfl, ?_, (Below.heap_alloc w1 _ _ hz1).trans HN.out, HB.out.alloc (by omega) _, by simp⟩
    refine (heap_alloc_new w1 _).trans ?_
    simp [boxN, ivc, List.getD, List.getElem?_eq_getElem (show 0 < l.length by omega)]
  case round =>
    obtain ⟨wo, rfl⟩ : ∃ wo : World, wo = wr := ⟨_, rfl⟩
    obtain ⟨k, hk1, hk, rfl, ho⟩ := hrel
    have HO := hide ho; clear ho HN HB
    by_cases hlt : k < l.length
    · obtain ⟨v, hv⟩ : ∃ v, v = boxN l (k - 1) := ⟨_, rfl⟩
      have HV := hide hv
      have HNX := hide (show boxN l k = hullV v l[k] by rw [hv]; obtain ⟨j, rfl⟩ : ∃ j, k = j + 1 := ⟨k - 1, by omega⟩; simp [boxN, List.getD, List.getElem?_eq_getElem hlt])
      obtain ⟨vv1, vv2, vv3⟩ := comp_valid (show v.ok = true by rw [hv]; exact box_ok HP.out (k - 1) (by omega))
      obtain ⟨vl1, vl2, vl3⟩ := comp_valid ((placed_of HP.out).2.2 k hlt)
      have VV1 := hide vv1; have VV2 := hide vv2; have VV3 := hide vv3; have VL1 := hide vl1; have VL2 := hide vl2; have VL3 := hide vl3
      obtain ⟨u, hu⟩ : ∃ u : IV, u = hullV v l[k] := ⟨_, rfl⟩
      have HU := hide hu
      have HOv := hide (show BoOut w w.heap.size w1.heap.size (mixI 0 v u) wo by rw [hv]; exact HO.out)
      clear hv hu vv1 vv2 vv3 vl1 vl2 vl3 HO
      go_wp2_with fail
      go_loopw [7] (fun i ww => BoIn w w.heap.size w1.heap.size v u i ww) (fun i _ => 3 - (intOf i).toNat)
      case atStart => exact ⟨0, rfl, by omega, by omega, HOv.out⟩
      case round =>
        obtain ⟨wi, rfl⟩ : ∃ wi : World, wi = wr := ⟨_, rfl⟩
        obtain ⟨m, rfl, hm0, hm3, io⟩ := hrel
        obtain ⟨h0, h1, h2, h3, h4, h5⟩ := (HS.out.below io.2.2.1).at_ hlt
        have hcS := blk_cell io.1
        have hfS := blk_frozen io.1
        have yS := io.2.2.2
        have yb : b1 < wi.heap.size := Nat.lt_of_lt_of_le hb1 io.2.2.1.size
        have IO := hide io; clear io
        obtain rfl | rfl | rfl | rfl : m = 0 ∨ m = 1 ∨ m = 2 ∨ m = 3 := by omega
        · simp [ivc, mixI] at hcS
          go_wp2_with fail
          have gg : Below wi.heap.size wi wi.drew := (Below.refl _ _).drew
          go_region_with (first | (go_at_call 136; (with_reducible refine (hull_ref v.x l[k].x _ VV1.out VL1.out).mono ?_); rintro e wh ⟨rfl, hbh⟩; have IH := hide (IO.out.below hz1 (stepB hbh gg)); have hcS := blk_cell IH.out.1; simp [ivc, mixI] at hcS; have hfS := blk_frozen IH.out.1; have yS := IH.out.2.2.2; clear hbh))
          all_goals
            go_wp2_with fail
            go_roundw
            case rel => exact BoIn.next hz1 IH.out 0 1 _ _ (by omega) (by omega) (by rw [HU.out]; rfl) ⟨rfl, rfl, rfl, rfl⟩
            case measure => simp [intOf]
        · simp [ivc, mixI] at hcS
          go_wp2_with fail
          have gg : Below wi.heap.size wi wi.drew := (Below.refl _ _).drew
          go_region_with (first | (go_at_call 136; (with_reducible refine (hull_ref v.y l[k].y _ VV2.out VL2.out).mono ?_); rintro e wh ⟨rfl, hbh⟩; have IH := hide (IO.out.below hz1 (stepB hbh gg)); have hcS := blk_cell IH.out.1; simp [ivc, mixI] at hcS; have hfS := blk_frozen IH.out.1; have yS := IH.out.2.2.2; clear hbh))
          all_goals
            go_wp2_with fail
            go_roundw
            case rel => exact BoIn.next hz1 IH.out 2 3 _ _ (by omega) (by omega) (by rw [HU.out]; rfl) ⟨rfl, rfl, rfl, rfl⟩
            case measure => simp [intOf]
        · simp [ivc, mixI] at hcS
          go_wp2_with fail
          have gg : Below wi.heap.size wi wi.drew := (Below.refl _ _).drew
          go_region_with (first | (go_at_call 136; (with_reducible refine (hull_ref v.z l[k].z _ VV3.out VL3.out).mono ?_); rintro e wh ⟨rfl, hbh⟩; have IH := hide (IO.out.below hz1 (stepB hbh gg)); have hcS := blk_cell IH.out.1; simp [ivc, mixI] at hcS; have hfS := blk_frozen IH.out.1; have yS := IH.out.2.2.2; clear hbh))
          all_goals
            go_wp2_with fail
            go_roundw
            case rel => exact BoIn.next hz1 IH.out 4 5 _ _ (by omega) (by omega) (by rw [HU.out]; rfl) ⟨rfl, rfl, rfl, rfl⟩
            case measure => simp [intOf]
        · clear hcS hfS h0 h1 h2 h3 h4 h5 yS yb
          go_wp2_with fail
          go_roundw
          case rel => exact ⟨k + 1, by omega, by omega, by simp, by rw [Nat.add_sub_cancel, HNX.out, ← HU.out]; exact IO.out⟩
          case measure => simp [intOf] <;> omega
    · obtain rfl : k = l.length := by omega
      obtain ⟨v, hv⟩ : ∃ v, v = boxN l (l.length - 1) := ⟨_, rfl⟩
      have vb := ok_of (show v.ok = true by rw [hv]; exact box_ok HP.out (l.length - 1) (by omega))
      have HF := hide (show boundF l r = growV v r by rw [HRR.out, hv])
      have HOv := hide (show BoOut w w.heap.size w1.heap.size (mixI 0 v (growV v r)) wo by rw [hv]; exact HO.out)
      clear hv HO
      obtain ⟨⟨v1, v2, v3⟩, ⟨v4, v5, v6⟩, v7, v8, v9⟩ := vb
      go_wp2_with fail
      go_loopw [8] (fun i ww => BoIn w w.heap.size w1.heap.size v (growV v r) i ww) (fun i _ => 3 - (intOf i).toNat)
      case atStart => exact ⟨0, rfl, by omega, by omega, HOv.out⟩
      case round =>
        obtain ⟨wi, rfl⟩ : ∃ wi : World, wi = wr := ⟨_, rfl⟩
        obtain ⟨m, rfl, hm0, hm3, io⟩ := hrel
        have hcS := blk_cell io.1
        have hfS := blk_frozen io.1
        have yS := io.2.2.2
        have IO := hide io; clear io
        obtain rfl | rfl | rfl | rfl : m = 0 ∨ m = 1 ∨ m = 2 ∨ m = 3 := by omega
        · simp [ivc, mixI] at hcS
          go_wp2_with fail
          go_region
          go_wp2_with fail
          go_roundw
          case rel => exact BoIn.next hz1 IO.out 0 1 _ _ (by omega) (by omega) rfl ⟨rfl, rfl, rfl, rfl⟩
          case measure => simp [intOf]
        · simp [ivc, mixI, growV, growI] at hcS
          go_wp2_with fail
          go_region
          go_wp2_with fail
          go_roundw
          case rel => exact BoIn.next hz1 IO.out 2 3 _ _ (by omega) (by omega) rfl ⟨rfl, rfl, rfl, rfl⟩
          case measure => simp [intOf]
        · simp [ivc, mixI, growV, growI] at hcS
          go_wp2_with fail
          go_region
          go_wp2_with fail
          go_roundw
          case rel => exact BoIn.next hz1 IO.out 4 5 _ _ (by omega) (by omega) rfl ⟨rfl, rfl, rfl, rfl⟩
          case measure => simp [intOf]
        · have hN := blk_cell IO.out.2.1; have fN := blk_frozen IO.out.2.1; have yN := blt IO.out.2.1
          simp [ivc, mixI, growV, growI] at hcS
          simp only [ivc, zeroIV] at hN
          go_wp2_with fail
          refine bodyPost_ret (v := (growV v r).v) (by simp [results, Try.results94, go_sem, hN, IV.v, growV, growI]) rfl ⟨by rw [HF.out], ?_⟩
          exact (((((IO.out.2.2.1.setCell (Nat.le_refl _) _).setCell (Nat.le_refl _) _).setCell (Nat.le_refl _) _).setCell (Nat.le_refl _) _).setCell (Nat.le_refl _) _).setCell (Nat.le_refl _) _
end Go.Proofs.Ytionbckpgfaneaa
