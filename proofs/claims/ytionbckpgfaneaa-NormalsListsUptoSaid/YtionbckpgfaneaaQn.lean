/- Walks of the normals, part n: the reference's Mean. -/
import Derived.Test.YtionbckpgfaneaaQg
import Derived.Deep.RegionHeld3
import Derived.Deep.AppendLies
import Derived.Deep.DrawnRows
namespace Go.Proofs.Ytionbckpgfaneaa
open Go.RowKit
set_option maxHeartbeats 4000000
set_option maxRecDepth 100000
attribute [local go_sem] index47_0 index47_1 index47_2
def MrOut (w : World) (N D : Nat) (v : V3) (wr : World) : Prop := wr.heap[D]? = some (.cells (v3c v) 47 (0, 0)) ∧ wr.heap[N]? = some (.cells (v3c zeroV) 47 (0, 0)) ∧ Below N w wr
theorem MrOut.set {w wr wf : World} {N D : Nat} {v u : V3} (hND : N < D) (h : MrOut w N D v wr) (i : Nat) (a : Value) (he : (v3c v).setIfInBounds i a = v3c u) (hf : Like wf (wr.setCell ⟨D, i, none⟩ a)) : MrOut w N D u wf := by
  obtain ⟨h1, h2, h3⟩ := h
  refine ⟨?_, ?_, hf.below (h3.setCell (by simp; omega) a)⟩
  · rw [hf.1, ← he]
    exact blk_set h1 i a
  · rw [hf.1, Below.heap_setCell _ _ _ _ (by simp; omega)]
    exact h2
theorem sum3_zero (l : List V3) : sum3 (l.take 0) = zeroV := by simp [sum3, zeroV]
theorem meanR_no {a b : List IV} (h : placedB a = false ∨ placedB b = false) : meanR a b = .tuple #[.agg #[.int .i64 0, .int .i64 0, .int .i64 0], .bool false] := by
  unfold meanR
  rw [if_neg]
  rcases h with h | h <;> simp [h]
theorem below3 {B N : Nat} {w0 w : World} (h : Below B w0 w) (hN : B ≤ N) (v0 v1 v2 : Value) : Below B w0 (((w.setCell ⟨N, 0, none⟩ v0).setCell ⟨N, 1, none⟩ v1).setCell ⟨N, 2, none⟩ v2) := ((h.setCell hN _).setCell hN _).setCell hN _
def CentersPostO (l : List IV) (w : World) (e : Ending) (w' : World) : Prop := ∃ (A : Option Addr) (c : Nat), e = .returned (.slice A l.length c) ∧ SlV w' A (ctrs l) ∧ Below w.heap.size w w' ∧ ∀ b off, A = some ⟨b, off, none⟩ → w.heap.size ≤ b
/-- armplanref10.Centers, of placed points -/
theorem centers_refO (A : Option Addr) (l : List IV) (c : Nat) (w : World) (hs : SlI w A l) (hp : placedB l = true) :
    Calls Try.prog 174 #[.slice A l.length c] w (CentersPostO l w) := by
  have HS := hide hs; have HP := hide hp
  obtain ⟨l1, l8, ok⟩ := placed_of hp
  have OK := hide ok
  obtain ⟨i0, hi0, hz0, hz1, hz2⟩ := info_parts info47
  clear hs hp ok
  go_enter Try.func174, Try.ntmps174
  go_wp2_with fail
  refine (placed_ref A l c _ HS.out (by omega)).mono ?_
  rintro e w1 ⟨rfl, hb1⟩
  rw [HP.out]
  have B1 := hide hb1
  clear hb1
  go_wp2_with fail
  go_loopw [3, 4] (fun v i wr => ∃ k : Nat, k ≤ l.length ∧ i = .int .i64 k ∧ wr.ownsRow w.heap.size 47 3 v k (((l.take k).map ctrV).flatMap V3.cells) ∧ Below w.heap.size w wr) (fun _ i _ => l.length - (intOf i).toNat)
  case atStart => exact ⟨0, by omega, rfl, World.ownsRow_nil _ _ _ _, B1.out⟩
  case round =>
    obtain ⟨k, hk, rfl, hown, hb⟩ := hrel
    have HB := hide hb; have hz := hb.size
    clear hb B1
    by_cases hlt : k < l.length
    · obtain ⟨b, off, rfl, hbb⟩ := HS.out.addr (by omega)
      obtain ⟨d0, d1, d2, d3, d4, d5⟩ := (HS.out.below HB.out).at_ hlt
      have okk := OK.out k hlt
      have o3 : l[k].x.ok = true ∧ l[k].y.ok = true ∧ l[k].z.ok = true := by
        simp only [IV.ok, Bool.and_eq_true] at okk
        exact ⟨okk.1.1, okk.1.2, okk.2⟩
      have OX := hide o3.1; have OY := hide o3.2.1; have OZ := hide o3.2.2
      have hi1 : (0 : Int) ≤ (k : Int) := Int.natCast_nonneg _
      have hi2 : (k : Int) < (l.length : Int) := by omega
      have hbr : b < wr.heap.size := by omega
      have hno : u3.ownBlock ≠ some b := fun e => by have := (hown.lt b e).1; omega
      clear okk o3
      have h0 := d0; have h1 := d1; have h2 := d2; have h3 := d3; have h4 := d4; have h5 := d5
      have own1 := hown
      have gg : Below wr.heap.size wr wr.drew := (Below.refl _ _).drew
      go_wp2_with fail
      go_region_held3 (fun w' => w'.cell? ⟨b, off + k * 6, none⟩ = some (.int .i64 l[k].x.lo) ∧ w'.cell? ⟨b, off + k * 6 + 1, none⟩ = some (.int .i64 l[k].x.hi) ∧ w'.cell? ⟨b, off + k * 6 + 2, none⟩ = some (.int .i64 l[k].y.lo) ∧ w'.cell? ⟨b, off + k * 6 + 3, none⟩ = some (.int .i64 l[k].y.hi) ∧ w'.cell? ⟨b, off + k * 6 + 4, none⟩ = some (.int .i64 l[k].z.lo) ∧ w'.cell? ⟨b, off + k * 6 + 5, none⟩ = some (.int .i64 l[k].z.hi))
        (first | exact ⟨h0, h1, h2, h3, h4, h5⟩ | go_keep | (go_split_ands; refine ⟨?_, ?_, ?_, ?_, ?_, ?_⟩ <;> (rw [hgrow.cell_far _ (by simp; omega) (Ne.symm hno)]; assumption)))
        (first | (go_at_call 179; (with_reducible refine (mid_ref l[k].x _ OX.out).mono ?_); rintro e wx ⟨rfl, bb⟩; have gg := gg.trans (bb.mono gg.size); have hbz := Nat.lt_of_lt_of_le hbr gg.size; have own1 := own_below hown gg; have h0 := (gg.cell (p := ⟨b, off + k * 6, none⟩) hbr).trans d0; have h1 := (gg.cell (p := ⟨b, off + k * 6 + 1, none⟩) hbr).trans d1; have h2 := (gg.cell (p := ⟨b, off + k * 6 + 2, none⟩) hbr).trans d2; have h3 := (gg.cell (p := ⟨b, off + k * 6 + 3, none⟩) hbr).trans d3; have h4 := (gg.cell (p := ⟨b, off + k * 6 + 4, none⟩) hbr).trans d4; have h5 := (gg.cell (p := ⟨b, off + k * 6 + 5, none⟩) hbr).trans d5) | (go_at_call 179; (with_reducible refine (mid_ref l[k].y _ OY.out).mono ?_); rintro e wy ⟨rfl, bb⟩; have gg := gg.trans (bb.mono gg.size); have hbz := Nat.lt_of_lt_of_le hbr gg.size; have own1 := own_below hown gg; have h0 := (gg.cell (p := ⟨b, off + k * 6, none⟩) hbr).trans d0; have h1 := (gg.cell (p := ⟨b, off + k * 6 + 1, none⟩) hbr).trans d1; have h2 := (gg.cell (p := ⟨b, off + k * 6 + 2, none⟩) hbr).trans d2; have h3 := (gg.cell (p := ⟨b, off + k * 6 + 3, none⟩) hbr).trans d3; have h4 := (gg.cell (p := ⟨b, off + k * 6 + 4, none⟩) hbr).trans d4; have h5 := (gg.cell (p := ⟨b, off + k * 6 + 5, none⟩) hbr).trans d5) | (go_at_call 179; (with_reducible refine (mid_ref l[k].z _ OZ.out).mono ?_); rintro e wz ⟨rfl, bb⟩; have gg := gg.trans (bb.mono gg.size); have hbz := Nat.lt_of_lt_of_le hbr gg.size; have own1 := own_below hown gg; have h0 := (gg.cell (p := ⟨b, off + k * 6, none⟩) hbr).trans d0; have h1 := (gg.cell (p := ⟨b, off + k * 6 + 1, none⟩) hbr).trans d1; have h2 := (gg.cell (p := ⟨b, off + k * 6 + 2, none⟩) hbr).trans d2; have h3 := (gg.cell (p := ⟨b, off + k * 6 + 3, none⟩) hbr).trans d3; have h4 := (gg.cell (p := ⟨b, off + k * 6 + 4, none⟩) hbr).trans d4; have h5 := (gg.cell (p := ⟨b, off + k * 6 + 5, none⟩) hbr).trans d5) | (have _t := own1; refine step_append_lies _ (by rfl) _ _ _ (by rfl) w.heap.size 47 i0 _ 3 24 Try.underlying49 hi0 hz0 hz1 hz2 rfl (by omega) u3 k _ (by rfl) (own1.alloc _) ⟨wz.heap.size, 0, none⟩ 1 1 [.int .i64 (midI l[k].x), .int .i64 (midI l[k].y), .int .i64 (midI l[k].z)] (by rfl) (by rfl) (World.news_of_block (cs := #[.int .i64 (midI l[k].x), .int .i64 (midI l[k].y), .int .i64 (midI l[k].z)]) (t := 47) (fr := (0, 0)) (heap_alloc_new wz _)) (by simp [Value.oneCell']) (by omega) (by unfold maxLen; omega) (by omega) (by have := gg.size; simp; omega) (wz.heap.size + 1) (by simp) ?_; intro g9 cap w9 hown9 hgrow hat hlt9; have gx := (HB.out.trans ((gg.alloc gg.size _).mono hz)).grown hgrow (by have := gg.size; simp; omega) (fun g hg => (hown.lt g hg).1); clear _t))
      have hb9 : Below w.heap.size w w9 := gx
      have HO9 := hide hown9
      clear hgrow hown hat hlt9 own1 hown9
      go_wp2_with fail
      go_roundw
      case rel => exact ⟨k + 1, by omega, by simp, by rw [List.take_succ_eq_append_getElem hlt, List.map_append, List.flatMap_append]; simpa [ctrV, V3.cells] using HO9.out, hb9⟩
      case measure => simp [intOf] <;> omega
    · obtain rfl : k = l.length := by omega
      rw [List.take_of_length_le (Nat.le_refl _)] at hown
      obtain ⟨A9, c9, rfl, _, _, hfar⟩ := own_val hown
      have HF := hide hfar; clear hfar
      have HO := hide (show SlV wr A9 (ctrs l) from own_sl hown); clear hown
      go_wp2_with fail
      go_ret
      exact ⟨A9, c9, rfl, HO.out, HB.out, fun b off e => (HF.out b off e).1⟩
theorem slV_set {w : World} {g o : Nat} {l : List V3} (h : SlV w (some ⟨g, o, none⟩) l) {N : Nat} (hne : g ≠ N) (i : Nat) (u : Value) {wf : World} (hf : Like wf (w.setCell ⟨N, i, none⟩ u)) : SlV wf (some ⟨g, o, none⟩) l := fun hx => by
  obtain ⟨b, off, e, hb, hc⟩ := h hx
  injection e with e
  injection e with e1 e2 _
  subst e1; subst e2
  refine ⟨_, _, rfl, by rw [hf.1]; simpa [World.setCell] using hb, fun j v hv => ?_⟩
  rw [hf.cell, World.cell?_of_block (Below.heap_setCell _ _ _ _ hne)]
  exact hc j v hv
/-- armplanref14.Mean -/
theorem mean_ref (A B : Option Addr) (a b : List IV) (c d : Nat) (w : World) (ha : SlI w A a) (hb : SlI w B b) (m1 : a.length ≤ 9223372036854775807) (m2 : b.length ≤ 9223372036854775807) :
    Calls Try.prog 137 #[.slice A a.length c, .slice B b.length d] w fun e w' => e = .returned (meanR a b) ∧ Below w.heap.size w w' := by
  have HA := hide ha; have HB := hide hb; clear ha hb
  go_enter Try.func137, Try.ntmps137
  go_wp2_with fail
  refine (placed_ref A a c _ (by exact Sl.alloc HA.out _) m1).mono ?_
  rintro e w1 ⟨rfl, hb1⟩
  have K1 := hide (show w1.heap[w.heap.size]? = some (.cells (v3c zeroV) 47 (0, 0)) from newB hb1)
  have B1 := hide (show Below w.heap.size w w1 from ((Below.refl _ _).alloc (Nat.le_refl _) _).trans (hb1.mono (by simp)))
  clear hb1
  cases hpa : placedB a
  · have HR := hide (meanR_no (a := a) (b := b) (.inl hpa))
    have c1 := blk_cell K1.out; have f1 := blk_frozen K1.out; have y1 := blt K1.out
    simp only [v3c, zeroV] at c1
    clear hpa
    go_wp2_with fail
    refine bodyPost_ret (v := .tuple #[.agg #[.int .i64 0, .int .i64 0, .int .i64 0], .bool false]) (by simp [results, Try.results137, go_sem, c1]) rfl ⟨by rw [HR.out], ?_⟩
    exact below3 B1.out (Nat.le_refl _) _ _ _
  · have PA := hide hpa
    clear hpa
    go_wp2_with fail
    refine (placed_ref B b d _ (HB.out.below B1.out) m2).mono ?_
    rintro e w2 ⟨rfl, hb2⟩
    replace K1 := hide ((hb2.block _ (blt K1.out)).trans K1.out)
    have B2 := hide (stepB hb2 B1.out)
    clear hb2 B1
    cases hpb : placedB b
    · have HR := hide (meanR_no (a := a) (b := b) (.inr hpb))
      have c1 := blk_cell K1.out; have f1 := blk_frozen K1.out; have y1 := blt K1.out
      simp only [v3c, zeroV] at c1
      clear hpb
      go_wp2_with fail
      refine bodyPost_ret (v := .tuple #[.agg #[.int .i64 0, .int .i64 0, .int .i64 0], .bool false]) (by simp [results, Try.results137, go_sem, c1]) rfl ⟨by rw [HR.out], ?_⟩
      exact below3 B2.out (Nat.le_refl _) _ _ _
    · have PB := hide hpb
      clear hpb
      have HR := hide (show meanR a b = .tuple #[.agg #[.int .i64 (normalF (meanD a b)).x, .int .i64 (normalF (meanD a b)).y, .int .i64 (normalF (meanD a b)).z], .bool (!isZ (meanD a b))] by unfold meanR; rw [PA.out, PB.out]; rfl)
      have z2 := B2.out.size
      have hND : w.heap.size < w2.heap.size := blt K1.out
      go_wp2_with fail
      refine (centers_refO A a c _ (by exact Sl.alloc (HA.out.below B2.out) _) PA.out).mono ?_
      rintro e w3 ⟨AX, cX, rfl, sX, hb3, fX⟩
      have KD := hide (show w3.heap[w2.heap.size]? = some (.cells (v3c zeroV) 47 (0, 0)) from newB hb3)
      have b3 : Below w2.heap.size w2 w3 := ((Below.refl _ _).alloc (Nat.le_refl _) _).trans (hb3.mono (by simp))
      replace K1 := hide ((b3.block _ (blt K1.out)).trans K1.out)
      have B3 := hide (stepB b3 B2.out)
      have SX := hide sX; have FX := hide fX
      clear fX
      have KD3 := KD
      clear hb3 b3 B2 sX
      go_wp2_with fail
      refine (centers_refO B b d _ (HB.out.below B3.out) PB.out).mono ?_
      rintro e w4 ⟨AY, cY, rfl, sY, hb4, fY⟩
      replace KD := hide ((hb4.block _ (blt KD.out)).trans KD.out)
      replace K1 := hide ((hb4.block _ (blt K1.out)).trans K1.out)
      have B4 := hide (stepB hb4 B3.out)
      replace SX := hide (SX.out.below hb4)
      have SY := hide sY; have FY := hide fY; have z3 : w2.heap.size + 1 ≤ w3.heap.size := blt KD3.out
      clear fY
      clear hb4 B3 sY KD3
      obtain ⟨la1, la8, _⟩ := placed_of PA.out
      obtain ⟨lb1, lb8, _⟩ := placed_of PB.out
      have LX := ctrs_len a; have LY := ctrs_len b
      have MX := hide (ctrs_mod PA.out); have MY := hide (ctrs_mod PB.out)
      obtain ⟨X, hX⟩ : ∃ X, X = ctrs a := ⟨_, rfl⟩
      obtain ⟨Y, hY⟩ : ∃ Y, Y = ctrs b := ⟨_, rfl⟩
      rw [← hX] at LX SX MX
      rw [← hY] at LY SY MY
      have HM := hide (show meanD a b = ⟨(sum3 X).x * b.length - (sum3 Y).x * a.length, (sum3 X).y * b.length - (sum3 Y).y * a.length, (sum3 X).z * b.length - (sum3 Y).z * a.length⟩ by rw [hX, hY]; rfl)
      have OKM := hide (mean_bd PA.out PB.out)
      clear hX hY
      obtain ⟨M, hM⟩ : ∃ M, M = meanD a b := ⟨_, rfl⟩
      rw [← hM] at HM OKM HR
      clear hM
      have na8 : (a.length : Int) ≤ 8 := by omega
      have nb8 : (b.length : Int) ≤ 8 := by omega
      have na0 : (0 : Int) ≤ (a.length : Int) := by omega
      have nb0 : (0 : Int) ≤ (b.length : Int) := by omega
      have mul8 : ∀ x y : Int, -4294967296 ≤ x → x ≤ 4294967296 → 0 ≤ y → y ≤ 8 → -34359738368 ≤ x * y ∧ x * y ≤ 34359738368 := fun x y h1 h2 h3 h4 => mul_bd2 x y 4294967296 8 h1 h2 (by omega) h4
      have M8 := hide mul8
      clear mul8
      obtain ⟨bX, oX, rfl, hbX⟩ := SX.out.addr (by omega)
      obtain ⟨bY, oY, rfl, hbY⟩ := SY.out.addr (by omega)
      have nX : bX ≠ w2.heap.size := by have := FX.out _ _ rfl; simp at this; omega
      have nY : bY ≠ w2.heap.size := by have := FY.out _ _ rfl; omega
      clear FX FY
      go_wp2_with fail
      go_loopw [9] (fun i wr => ∃ m : Int, i = .int .i64 m ∧ 0 ≤ m ∧ m ≤ 3 ∧ MrOut w w.heap.size w2.heap.size (mixV m zeroV M) wr ∧ SlV wr (some ⟨bX, oX, none⟩) X ∧ SlV wr (some ⟨bY, oY, none⟩) Y) (fun i _ => 3 - (intOf i).toNat)
      case atStart => exact ⟨0, rfl, by omega, by omega, ⟨KD.out, K1.out, B4.out⟩, SX.out, SY.out⟩
      case round =>
        obtain ⟨wo, rfl⟩ : ∃ wo : World, wo = wr := ⟨_, rfl⟩
        obtain ⟨m, rfl, hm0, hm3, ho, hx, hy⟩ := hrel
        have HO := hide ho; have HX := hide hx; have HY := hide hy
        clear ho hx hy KD K1 B4 SX SY
        obtain rfl | rfl | rfl | rfl : m = 0 ∨ m = 1 ∨ m = 2 ∨ m = 3 := by omega
        · go_wp2_with fail
          go_loopw [10] (fun i ww => ∃ k : Nat, k ≤ a.length ∧ i = .int .i64 k ∧ MrOut w w.heap.size w2.heap.size ⟨((sum3 (X.take k)).x * (b.length : Int)), 0, 0⟩ ww ∧ SlV ww (some ⟨bX, oX, none⟩) X ∧ SlV ww (some ⟨bY, oY, none⟩) Y) (fun i _ => a.length - (intOf i).toNat)
          case atStart =>
            refine ⟨0, by omega, rfl, ?_, HX.out, HY.out⟩
            rw [sum3_zero, show (zeroV.x : Int) * (b.length : Int) = 0 from Int.zero_mul _]
            exact HO.out
          case round =>
            obtain ⟨wi, rfl⟩ : ∃ wi : World, wi = wr := ⟨_, rfl⟩
            obtain ⟨k, hk, rfl, io, ix, iy⟩ := hrel
            have IO := hide io; have IX := hide ix; have IY := hide iy
            clear io ix iy HO HX HY
            by_cases hlt : k < a.length
            · have hlt' : k < X.length := by omega
              obtain ⟨p0, p1, p2⟩ := IX.out.at_ hlt'
              have hcD := blk_cell IO.out.1; have fD := blk_frozen IO.out.1; have yD := blt IO.out.1
              simp only [v3c] at hcD
              obtain ⟨_, _, eX, yX⟩ := IX.out.addr (by omega)
              cases eX
              have q := sum3_bd X MX.out k (by omega)
              have md := MX.out X[k] (by simp)
              unfold Mod at md
              obtain ⟨s1, s2⟩ := M8.out (sum3 (X.take k)).x b.length (by omega) (by omega) nb0 nb8
              obtain ⟨t1, t2⟩ := M8.out X[k].x b.length (by omega) (by omega) nb0 nb8
              have SN := hide (show (sum3 (X.take (k + 1))).x * (b.length : Int) = (sum3 (X.take k)).x * (b.length : Int) + X[k].x * (b.length : Int) by rw [sum3_snoc X k hlt']; exact Int.add_mul _ _ _)
              obtain ⟨S, hS⟩ : ∃ S, (sum3 (X.take k)).x * (b.length : Int) = S := ⟨_, rfl⟩
              rw [hS] at s1 s2 hcD SN IO
              clear q md p1 p2 hS
              have hk1 : (k : Int) < (a.length : Int) := by omega
              have hk0 : (0 : Int) ≤ (k : Int) := Int.natCast_nonneg _
              go_wp2_with fail
              go_region
              go_wp2_with fail
              go_roundw
              case rel => exact ⟨k + 1, by omega, by simp, IO.out.set hND 0 _ (by rw [SN.out]; rfl) ⟨rfl, rfl, rfl, rfl⟩, slV_set IX.out nX 0 _ ⟨rfl, rfl, rfl, rfl⟩, slV_set IY.out nY 0 _ ⟨rfl, rfl, rfl, rfl⟩⟩
              case measure => simp [intOf] <;> omega
            · obtain rfl : k = a.length := by omega
              have e1 : X.take a.length = X := List.take_of_length_le (by omega)
              rw [e1] at IO
              clear e1
              have qA := sum3_bd X MX.out X.length (Nat.le_refl _)
              rw [List.take_length] at qA
              obtain ⟨s1, s2⟩ := M8.out (sum3 X).x b.length (by omega) (by omega) nb0 nb8
              obtain ⟨T, hT⟩ : ∃ T, (sum3 X).x * (b.length : Int) = T := ⟨_, rfl⟩
              rw [hT] at s1 s2 IO
              have HT := hide hT
              clear qA hT
              go_wp2_with fail
              go_loopw [11] (fun i ww => ∃ k : Nat, k ≤ b.length ∧ i = .int .i64 k ∧ MrOut w w.heap.size w2.heap.size ⟨(T - (sum3 (Y.take k)).x * (a.length : Int)), 0, 0⟩ ww ∧ SlV ww (some ⟨bX, oX, none⟩) X ∧ SlV ww (some ⟨bY, oY, none⟩) Y) (fun i _ => b.length - (intOf i).toNat)
              case atStart =>
                refine ⟨0, by omega, rfl, ?_, IX.out, IY.out⟩
                rw [sum3_zero, show (zeroV.x : Int) * (a.length : Int) = 0 from Int.zero_mul _, Int.sub_zero]
                exact IO.out
              case round =>
                obtain ⟨wj, rfl⟩ : ∃ wj : World, wj = wr := ⟨_, rfl⟩
                obtain ⟨k, hk, rfl, jo, jx, jy⟩ := hrel
                have JO := hide jo; have JX := hide jx; have JY := hide jy
                clear jo jx jy IO IX IY
                by_cases hlt : k < b.length
                · have hlt' : k < Y.length := by omega
                  obtain ⟨p0, p1, p2⟩ := JY.out.at_ hlt'
                  have hcD := blk_cell JO.out.1; have fD := blk_frozen JO.out.1; have yD := blt JO.out.1
                  simp only [v3c] at hcD
                  obtain ⟨_, _, eY, yY⟩ := JY.out.addr (by omega)
                  cases eY
                  have q := sum3_bd Y MY.out k (by omega)
                  have md := MY.out Y[k] (by simp)
                  unfold Mod at md
                  obtain ⟨s3, s4⟩ := M8.out (sum3 (Y.take k)).x a.length (by omega) (by omega) na0 na8
                  obtain ⟨t1, t2⟩ := M8.out Y[k].x a.length (by omega) (by omega) na0 na8
                  have SN := hide (show T - (sum3 (Y.take (k + 1))).x * (a.length : Int) = T - (sum3 (Y.take k)).x * (a.length : Int) - Y[k].x * (a.length : Int) by rw [sum3_snoc Y k hlt']; simp only; rw [Int.add_mul]; omega)
                  obtain ⟨S, hS⟩ : ∃ S, T - (sum3 (Y.take k)).x * (a.length : Int) = S := ⟨_, rfl⟩
                  have sb : -68719476736 ≤ S ∧ S ≤ 68719476736 := by omega
                  rw [hS] at hcD SN JO
                  clear q md p1 p2 hS s3 s4
                  have hk1 : (k : Int) < (b.length : Int) := by omega
                  have hk0 : (0 : Int) ≤ (k : Int) := Int.natCast_nonneg _
                  go_wp2_with fail
                  go_region
                  go_wp2_with fail
                  go_roundw
                  case rel => exact ⟨k + 1, by omega, by simp, JO.out.set hND 0 _ (by rw [SN.out]; rfl) ⟨rfl, rfl, rfl, rfl⟩, slV_set JX.out nX 0 _ ⟨rfl, rfl, rfl, rfl⟩, slV_set JY.out nY 0 _ ⟨rfl, rfl, rfl, rfl⟩⟩
                  case measure => simp [intOf] <;> omega
                · obtain rfl : k = b.length := by omega
                  have e1 : Y.take b.length = Y := List.take_of_length_le (by omega)
                  rw [e1, ← HT.out] at JO
                  clear e1
                  go_wp2_with fail
                  go_roundw
                  case rel => exact ⟨1, rfl, by omega, by omega, by first | (rw [HM.out]; exact JO.out) | (have := JO.out; rw [HM.out] at this ⊢; exact this), JX.out, JY.out⟩
                  case measure => simp [intOf]
        · go_wp2_with fail
          go_loopw [10] (fun i ww => ∃ k : Nat, k ≤ a.length ∧ i = .int .i64 k ∧ MrOut w w.heap.size w2.heap.size ⟨M.x, ((sum3 (X.take k)).y * (b.length : Int)), 0⟩ ww ∧ SlV ww (some ⟨bX, oX, none⟩) X ∧ SlV ww (some ⟨bY, oY, none⟩) Y) (fun i _ => a.length - (intOf i).toNat)
          case atStart =>
            refine ⟨0, by omega, rfl, ?_, HX.out, HY.out⟩
            rw [sum3_zero, show (zeroV.y : Int) * (b.length : Int) = 0 from Int.zero_mul _]
            exact HO.out
          case round =>
            obtain ⟨wi, rfl⟩ : ∃ wi : World, wi = wr := ⟨_, rfl⟩
            obtain ⟨k, hk, rfl, io, ix, iy⟩ := hrel
            have IO := hide io; have IX := hide ix; have IY := hide iy
            clear io ix iy HO HX HY
            by_cases hlt : k < a.length
            · have hlt' : k < X.length := by omega
              obtain ⟨p0, p1, p2⟩ := IX.out.at_ hlt'
              have hcD := blk_cell IO.out.1; have fD := blk_frozen IO.out.1; have yD := blt IO.out.1
              simp only [v3c] at hcD
              obtain ⟨_, _, eX, yX⟩ := IX.out.addr (by omega)
              cases eX
              have q := sum3_bd X MX.out k (by omega)
              have md := MX.out X[k] (by simp)
              unfold Mod at md
              obtain ⟨s1, s2⟩ := M8.out (sum3 (X.take k)).y b.length (by omega) (by omega) nb0 nb8
              obtain ⟨t1, t2⟩ := M8.out X[k].y b.length (by omega) (by omega) nb0 nb8
              have SN := hide (show (sum3 (X.take (k + 1))).y * (b.length : Int) = (sum3 (X.take k)).y * (b.length : Int) + X[k].y * (b.length : Int) by rw [sum3_snoc X k hlt']; exact Int.add_mul _ _ _)
              obtain ⟨S, hS⟩ : ∃ S, (sum3 (X.take k)).y * (b.length : Int) = S := ⟨_, rfl⟩
              rw [hS] at s1 s2 hcD SN IO
              clear q md p0 p2 hS
              have hk1 : (k : Int) < (a.length : Int) := by omega
              have hk0 : (0 : Int) ≤ (k : Int) := Int.natCast_nonneg _
              go_wp2_with fail
              go_region
              go_wp2_with fail
              go_roundw
              case rel => exact ⟨k + 1, by omega, by simp, IO.out.set hND 1 _ (by rw [SN.out]; rfl) ⟨rfl, rfl, rfl, rfl⟩, slV_set IX.out nX 1 _ ⟨rfl, rfl, rfl, rfl⟩, slV_set IY.out nY 1 _ ⟨rfl, rfl, rfl, rfl⟩⟩
              case measure => simp [intOf] <;> omega
            · obtain rfl : k = a.length := by omega
              have e1 : X.take a.length = X := List.take_of_length_le (by omega)
              rw [e1] at IO
              clear e1
              have qA := sum3_bd X MX.out X.length (Nat.le_refl _)
              rw [List.take_length] at qA
              obtain ⟨s1, s2⟩ := M8.out (sum3 X).y b.length (by omega) (by omega) nb0 nb8
              obtain ⟨T, hT⟩ : ∃ T, (sum3 X).y * (b.length : Int) = T := ⟨_, rfl⟩
              rw [hT] at s1 s2 IO
              have HT := hide hT
              clear qA hT
              go_wp2_with fail
              go_loopw [11] (fun i ww => ∃ k : Nat, k ≤ b.length ∧ i = .int .i64 k ∧ MrOut w w.heap.size w2.heap.size ⟨M.x, (T - (sum3 (Y.take k)).y * (a.length : Int)), 0⟩ ww ∧ SlV ww (some ⟨bX, oX, none⟩) X ∧ SlV ww (some ⟨bY, oY, none⟩) Y) (fun i _ => b.length - (intOf i).toNat)
              case atStart =>
                refine ⟨0, by omega, rfl, ?_, IX.out, IY.out⟩
                rw [sum3_zero, show (zeroV.y : Int) * (a.length : Int) = 0 from Int.zero_mul _, Int.sub_zero]
                exact IO.out
              case round =>
                obtain ⟨wj, rfl⟩ : ∃ wj : World, wj = wr := ⟨_, rfl⟩
                obtain ⟨k, hk, rfl, jo, jx, jy⟩ := hrel
                have JO := hide jo; have JX := hide jx; have JY := hide jy
                clear jo jx jy IO IX IY
                by_cases hlt : k < b.length
                · have hlt' : k < Y.length := by omega
                  obtain ⟨p0, p1, p2⟩ := JY.out.at_ hlt'
                  have hcD := blk_cell JO.out.1; have fD := blk_frozen JO.out.1; have yD := blt JO.out.1
                  simp only [v3c] at hcD
                  obtain ⟨_, _, eY, yY⟩ := JY.out.addr (by omega)
                  cases eY
                  have q := sum3_bd Y MY.out k (by omega)
                  have md := MY.out Y[k] (by simp)
                  unfold Mod at md
                  obtain ⟨s3, s4⟩ := M8.out (sum3 (Y.take k)).y a.length (by omega) (by omega) na0 na8
                  obtain ⟨t1, t2⟩ := M8.out Y[k].y a.length (by omega) (by omega) na0 na8
                  have SN := hide (show T - (sum3 (Y.take (k + 1))).y * (a.length : Int) = T - (sum3 (Y.take k)).y * (a.length : Int) - Y[k].y * (a.length : Int) by rw [sum3_snoc Y k hlt']; simp only; rw [Int.add_mul]; omega)
                  obtain ⟨S, hS⟩ : ∃ S, T - (sum3 (Y.take k)).y * (a.length : Int) = S := ⟨_, rfl⟩
                  have sb : -68719476736 ≤ S ∧ S ≤ 68719476736 := by omega
                  rw [hS] at hcD SN JO
                  clear q md p0 p2 hS s3 s4
                  have hk1 : (k : Int) < (b.length : Int) := by omega
                  have hk0 : (0 : Int) ≤ (k : Int) := Int.natCast_nonneg _
                  go_wp2_with fail
                  go_region
                  go_wp2_with fail
                  go_roundw
                  case rel => exact ⟨k + 1, by omega, by simp, JO.out.set hND 1 _ (by rw [SN.out]; rfl) ⟨rfl, rfl, rfl, rfl⟩, slV_set JX.out nX 1 _ ⟨rfl, rfl, rfl, rfl⟩, slV_set JY.out nY 1 _ ⟨rfl, rfl, rfl, rfl⟩⟩
                  case measure => simp [intOf] <;> omega
                · obtain rfl : k = b.length := by omega
                  have e1 : Y.take b.length = Y := List.take_of_length_le (by omega)
                  rw [e1, ← HT.out] at JO
                  clear e1
                  go_wp2_with fail
                  go_roundw
                  case rel => exact ⟨2, rfl, by omega, by omega, by first | (rw [HM.out]; exact JO.out) | (have := JO.out; rw [HM.out] at this ⊢; exact this), JX.out, JY.out⟩
                  case measure => simp [intOf]
        · go_wp2_with fail
          go_loopw [10] (fun i ww => ∃ k : Nat, k ≤ a.length ∧ i = .int .i64 k ∧ MrOut w w.heap.size w2.heap.size ⟨M.x, M.y, ((sum3 (X.take k)).z * (b.length : Int))⟩ ww ∧ SlV ww (some ⟨bX, oX, none⟩) X ∧ SlV ww (some ⟨bY, oY, none⟩) Y) (fun i _ => a.length - (intOf i).toNat)
          case atStart =>
            refine ⟨0, by omega, rfl, ?_, HX.out, HY.out⟩
            rw [sum3_zero, show (zeroV.z : Int) * (b.length : Int) = 0 from Int.zero_mul _]
            exact HO.out
          case round =>
            obtain ⟨wi, rfl⟩ : ∃ wi : World, wi = wr := ⟨_, rfl⟩
            obtain ⟨k, hk, rfl, io, ix, iy⟩ := hrel
            have IO := hide io; have IX := hide ix; have IY := hide iy
            clear io ix iy HO HX HY
            by_cases hlt : k < a.length
            · have hlt' : k < X.length := by omega
              obtain ⟨p0, p1, p2⟩ := IX.out.at_ hlt'
              have hcD := blk_cell IO.out.1; have fD := blk_frozen IO.out.1; have yD := blt IO.out.1
              simp only [v3c] at hcD
              obtain ⟨_, _, eX, yX⟩ := IX.out.addr (by omega)
              cases eX
              have q := sum3_bd X MX.out k (by omega)
              have md := MX.out X[k] (by simp)
              unfold Mod at md
              obtain ⟨s1, s2⟩ := M8.out (sum3 (X.take k)).z b.length (by omega) (by omega) nb0 nb8
              obtain ⟨t1, t2⟩ := M8.out X[k].z b.length (by omega) (by omega) nb0 nb8
              have SN := hide (show (sum3 (X.take (k + 1))).z * (b.length : Int) = (sum3 (X.take k)).z * (b.length : Int) + X[k].z * (b.length : Int) by rw [sum3_snoc X k hlt']; exact Int.add_mul _ _ _)
              obtain ⟨S, hS⟩ : ∃ S, (sum3 (X.take k)).z * (b.length : Int) = S := ⟨_, rfl⟩
              rw [hS] at s1 s2 hcD SN IO
              clear q md p0 p1 hS
              have hk1 : (k : Int) < (a.length : Int) := by omega
              have hk0 : (0 : Int) ≤ (k : Int) := Int.natCast_nonneg _
              go_wp2_with fail
              go_region
              go_wp2_with fail
              go_roundw
              case rel => exact ⟨k + 1, by omega, by simp, IO.out.set hND 2 _ (by rw [SN.out]; rfl) ⟨rfl, rfl, rfl, rfl⟩, slV_set IX.out nX 2 _ ⟨rfl, rfl, rfl, rfl⟩, slV_set IY.out nY 2 _ ⟨rfl, rfl, rfl, rfl⟩⟩
              case measure => simp [intOf] <;> omega
            · obtain rfl : k = a.length := by omega
              have e1 : X.take a.length = X := List.take_of_length_le (by omega)
              rw [e1] at IO
              clear e1
              have qA := sum3_bd X MX.out X.length (Nat.le_refl _)
              rw [List.take_length] at qA
              obtain ⟨s1, s2⟩ := M8.out (sum3 X).z b.length (by omega) (by omega) nb0 nb8
              obtain ⟨T, hT⟩ : ∃ T, (sum3 X).z * (b.length : Int) = T := ⟨_, rfl⟩
              rw [hT] at s1 s2 IO
              have HT := hide hT
              clear qA hT
              go_wp2_with fail
              go_loopw [11] (fun i ww => ∃ k : Nat, k ≤ b.length ∧ i = .int .i64 k ∧ MrOut w w.heap.size w2.heap.size ⟨M.x, M.y, (T - (sum3 (Y.take k)).z * (a.length : Int))⟩ ww ∧ SlV ww (some ⟨bX, oX, none⟩) X ∧ SlV ww (some ⟨bY, oY, none⟩) Y) (fun i _ => b.length - (intOf i).toNat)
              case atStart =>
                refine ⟨0, by omega, rfl, ?_, IX.out, IY.out⟩
                rw [sum3_zero, show (zeroV.z : Int) * (a.length : Int) = 0 from Int.zero_mul _, Int.sub_zero]
                exact IO.out
              case round =>
                obtain ⟨wj, rfl⟩ : ∃ wj : World, wj = wr := ⟨_, rfl⟩
                obtain ⟨k, hk, rfl, jo, jx, jy⟩ := hrel
                have JO := hide jo; have JX := hide jx; have JY := hide jy
                clear jo jx jy IO IX IY
                by_cases hlt : k < b.length
                · have hlt' : k < Y.length := by omega
                  obtain ⟨p0, p1, p2⟩ := JY.out.at_ hlt'
                  have hcD := blk_cell JO.out.1; have fD := blk_frozen JO.out.1; have yD := blt JO.out.1
                  simp only [v3c] at hcD
                  obtain ⟨_, _, eY, yY⟩ := JY.out.addr (by omega)
                  cases eY
                  have q := sum3_bd Y MY.out k (by omega)
                  have md := MY.out Y[k] (by simp)
                  unfold Mod at md
                  obtain ⟨s3, s4⟩ := M8.out (sum3 (Y.take k)).z a.length (by omega) (by omega) na0 na8
                  obtain ⟨t1, t2⟩ := M8.out Y[k].z a.length (by omega) (by omega) na0 na8
                  have SN := hide (show T - (sum3 (Y.take (k + 1))).z * (a.length : Int) = T - (sum3 (Y.take k)).z * (a.length : Int) - Y[k].z * (a.length : Int) by rw [sum3_snoc Y k hlt']; simp only; rw [Int.add_mul]; omega)
                  obtain ⟨S, hS⟩ : ∃ S, T - (sum3 (Y.take k)).z * (a.length : Int) = S := ⟨_, rfl⟩
                  have sb : -68719476736 ≤ S ∧ S ≤ 68719476736 := by omega
                  rw [hS] at hcD SN JO
                  clear q md p0 p1 hS s3 s4
                  have hk1 : (k : Int) < (b.length : Int) := by omega
                  have hk0 : (0 : Int) ≤ (k : Int) := Int.natCast_nonneg _
                  go_wp2_with fail
                  go_region
                  go_wp2_with fail
                  go_roundw
                  case rel => exact ⟨k + 1, by omega, by simp, JO.out.set hND 2 _ (by rw [SN.out]; rfl) ⟨rfl, rfl, rfl, rfl⟩, slV_set JX.out nX 2 _ ⟨rfl, rfl, rfl, rfl⟩, slV_set JY.out nY 2 _ ⟨rfl, rfl, rfl, rfl⟩⟩
                  case measure => simp [intOf] <;> omega
                · obtain rfl : k = b.length := by omega
                  have e1 : Y.take b.length = Y := List.take_of_length_le (by omega)
                  rw [e1, ← HT.out] at JO
                  clear e1
                  go_wp2_with fail
                  go_roundw
                  case rel => exact ⟨3, rfl, by omega, by omega, by first | (rw [HM.out]; exact JO.out) | (have := JO.out; rw [HM.out] at this ⊢; exact this), JX.out, JY.out⟩
                  case measure => simp [intOf]
        · have hcD := blk_cell HO.out.1; have yD := blt HO.out.1
          have hcN := blk_cell HO.out.2.1; have fN := blk_frozen HO.out.2.1; have yN := blt HO.out.2.1
          simp only [v3c, mixV, zeroV] at hcD hcN
          go_wp2_with fail
          refine (normal_ref M _ OKM.out).mono ?_
          rintro e w5 ⟨rfl, hb5⟩
          unfold normalR
          rw [isZ_normal]
          have K5 := hide ((hb5.block _ (blt HO.out.2.1)).trans HO.out.2.1)
          have B5 := hide (stepB hb5 HO.out.2.2)
          clear hcN fN yN hcD yD hb5
          have hcN := blk_cell K5.out; have fN := blk_frozen K5.out; have yN := blt K5.out
          simp only [v3c, zeroV] at hcN
          obtain ⟨n, hn⟩ : ∃ n, normalF M = n := ⟨_, rfl⟩
          rw [hn] at HR ⊢
          clear hn
          go_wp2_with fail
          refine bodyPost_ret (v := .tuple #[.agg #[.int .i64 n.x, .int .i64 n.y, .int .i64 n.z], .bool (!isZ M)]) (by simp [results, Try.results137, go_sem, hcN]) rfl ⟨by rw [HR.out], ?_⟩
          exact below3 B5.out (Nat.le_refl _) _ _ _
end Go.Proofs.Ytionbckpgfaneaa
