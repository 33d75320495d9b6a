/- Walks, part B: the sums of boxes. -/
import Derived.Test.YtionbckpgfaneaaWw
import Derived.Test.YtionbckpgfaneaaWl
import Derived.Test.YtionbckpgfaneaaPf
import Derived.Deep.RegionHeld3
import Derived.Deep.DrawnRows
namespace Go.Proofs.Ytionbckpgfaneaa
open Go.RowKit
set_option maxHeartbeats 1000000
set_option maxRecDepth 100000
theorem clampF_in {x : Int} (h1 : -2147483648 ≤ x) (h2 : x ≤ 2147483648) : clampF x = x := by unfold clampF; omega
/-- armplanref1.limited -/
theorem limited_any (a b : Int) (w : World) (h1 : -2147483648 ≤ a) (h2 : a ≤ 2147483648) (h3 : -2147483648 ≤ b) (h4 : b ≤ 2147483648) :
    Calls Try.prog 152 #[.int .i64 a, .int .i64 b] w fun e w' => e = .returned (.agg #[.int .i64 a, .int .i64 b]) ∧ Below w.heap.size w w' := by
  have e1 := hide (clampF_in h1 h2); have e2 := hide (clampF_in h3 h4)
  go_enter Try.func152, Try.ntmps152
  go_wp2_with fail
  refine (clamp_any _ _).mono ?_
  rintro e w' ⟨rfl, rfl⟩
  rw [e1.out]
  go_wp2_with fail
  refine (clamp_any _ _).mono ?_
  rintro e w' ⟨rfl, rfl⟩
  rw [e2.out]
  go_wp2_with fail
  refine bodyPost_ret (v := .agg #[.int .i64 a, .int .i64 b]) (by simp [results, Try.results152, go_sem]) rfl ⟨rfl, ?_⟩
  go_grown
def IvM (a : Iv) : Prop := -536870912 ≤ a.lo ∧ a.lo ≤ a.hi ∧ a.hi ≤ 536870912
theorem valid_M {a : Iv} (h : IvM a) : a.valid = true := by
  obtain ⟨h1, h2, h3⟩ := h
  exact decide_eq_true (by omega)
def addIv (a b : Iv) : Iv := ⟨a.lo + b.lo, a.hi + b.hi⟩
/-- armplanref1.Add -/
theorem add_any (a b : Iv) (w : World) (ha : IvM a) (hb : IvM b) :
    Calls Try.prog 118 #[.agg #[.int .i64 a.lo, .int .i64 a.hi], .agg #[.int .i64 b.lo, .int .i64 b.hi]] w fun e w' => e = .returned (.agg #[.int .i64 (a.lo + b.lo), .int .i64 (a.hi + b.hi)]) ∧ Below w.heap.size w w' := by
  have VA := hide (valid_M ha); have VB := hide (valid_M hb)
  obtain ⟨a1, a2, a3⟩ := ha
  obtain ⟨b1, b2, b3⟩ := hb
  go_enter Try.func118, Try.ntmps118
  go_wp2_with fail
  refine (valid_any a _).mono ?_
  rintro e w1 ⟨rfl, hb1⟩
  rw [VA.out]
  have hA : w1.heap[w.heap.size]? = some (.cells #[.int .i64 a.lo, .int .i64 a.hi] 42 (0, 0)) := (hb1.block _ (by simp; omega)).trans ((Below.heap_alloc _ _ _ (by simp; omega)).trans ((Below.heap_alloc _ _ _ (by simp)).trans (heap_alloc_new w _)))
  have hB : w1.heap[w.heap.size + 1]? = some (.cells #[.int .i64 b.lo, .int .i64 b.hi] 42 (0, 0)) := (hb1.block _ (by simp)).trans ((Below.heap_alloc _ _ _ (by simp)).trans (new_at _ _ (by simp)))
  have hR : w1.heap[w.heap.size + 1 + 1]? = some (.cells #[.int .i64 0, .int .i64 0] 42 (0, 0)) := (hb1.block _ (by simp)).trans (new_at _ _ (by simp))
  have hz : w.heap.size + 1 + 1 < w1.heap.size := by have := hb1.size; simp at this; omega
  have hz1 : w.heap.size + 1 < w1.heap.size := by omega
  have hz0 : w.heap.size < w1.heap.size := by omega
  have HB := hide (show Below w.heap.size w w1 from ((((Below.refl _ _).alloc (Nat.le_refl _) _).alloc (by simp) _).alloc (by simp; omega) _).trans (hb1.mono (by simp; omega)))
  have HA := hide hA; have HBb := hide hB; have HR := hide hR
  have cB := blk_cell hB
  clear hA hB hR hb1
  go_wp2_with fail
  refine (valid_any b _).mono ?_
  rintro e w2 ⟨rfl, hb2⟩
  rw [VB.out]
  have c1 := blk_cell ((hb2.block _ hz0).trans HA.out)
  have c2 := blk_cell ((hb2.block _ hz1).trans HBb.out)
  have HR2 := hide ((hb2.block _ hz).trans HR.out)
  have yz : w.heap.size + 1 + 1 < w2.heap.size := Nat.lt_of_lt_of_le hz hb2.size
  have yz1 : w.heap.size + 1 < w2.heap.size := by omega
  have yz0 : w.heap.size < w2.heap.size := by omega
  have HB2 := hide (HB.out.trans (hb2.mono (by omega)))
  clear hb2 HA HBb HR HB cB
  go_wp2_with fail
  refine (limited_any _ _ _ (by omega) (by omega) (by omega) (by omega)).mono ?_
  rintro e w3 ⟨rfl, hb3⟩
  have hR3 := (hb3.block _ yz).trans HR2.out
  have c3 := blk_cell hR3; have f3 := blk_frozen hR3
  have vz : w.heap.size + 1 + 1 < w3.heap.size := Nat.lt_of_lt_of_le yz hb3.size
  have HB3 := hide (HB2.out.trans (hb3.mono (by omega)))
  clear hb3 hR3 c1 c2 HR2
  go_wp2_with fail
  refine bodyPost_ret (v := .agg #[.int .i64 (a.lo + b.lo), .int .i64 (a.hi + b.hi)]) (by simp [results, Try.results118, go_sem, c3]) rfl ⟨rfl, ?_⟩
  exact (HB3.out.setCell (by simp; omega) _).setCell (by simp; omega) _
theorem keepe {w w' : World} {N b : Nat} {f : Nat → Option Value} (h : Below N w w') (hz : b < N) (k : ∀ i, w.cell? ⟨b, i, none⟩ = f i) : ∀ i, w'.cell? ⟨b, i, none⟩ = f i := fun i => (h.cell (p := ⟨b, i, none⟩) hz).trans (k i)
theorem far1c {w : World} {g V i : Nat} {x : Value} {f : Nat → Option Value} (h : g ≠ V) (k : ∀ i, w.cell? ⟨g, i, none⟩ = f i) : ∀ j, (w.setCell ⟨V, i, none⟩ x).cell? ⟨g, j, none⟩ = f j := fun j => by
  rw [World.cell?_setCell_other _ _ _ _ (fun hh => by injection hh with h1; exact h h1.symm)]
  exact k j
theorem far6c {w : World} {g V a b c d e o : Nat} {x0 x1 x2 x3 x4 x5 : Value} {f : Nat → Option Value} (h : g ≠ V) (k : ∀ i, w.cell? ⟨g, i, none⟩ = f i) : ∀ j, ((((((w.setCell ⟨V, a, none⟩ x0).setCell ⟨V, b, none⟩ x1).setCell ⟨V, c, none⟩ x2).setCell ⟨V, d, none⟩ x3).setCell ⟨V, e, none⟩ x4).setCell ⟨V, o, none⟩ x5).cell? ⟨g, j, none⟩ = f j :=
  far1c h (far1c h (far1c h (far1c h (far1c h (far1c h k)))))
def addII (v u : IV) : IV := ⟨addIv v.x u.x, addIv v.y u.y, addIv v.z u.z⟩
def IVM (v : IV) : Prop := IvM v.x ∧ IvM v.y ∧ IvM v.z
/-- armplanref1.AddVec -/
theorem addVec_any (v u : IV) (w : World) (hv : IVM v) (hu : IVM u) :
    Calls Try.prog 65 #[v.v, u.v] w fun e w' => e = .returned (addII v u).v ∧ Below w.heap.size w w' := by
  obtain ⟨vx, vy, vz⟩ := hv
  obtain ⟨ux, uy, uz⟩ := hu
  have VX := hide vx; have VY := hide vy; have VZ := hide vz; have UX := hide ux; have UY := hide uy; have UZ := hide uz
  clear vx vy vz ux uy uz
  unfold IV.v
  obtain ⟨W, hW⟩ : ∃ W, W = ((w.alloc (.cells #[.int .i64 v.x.lo, .int .i64 v.x.hi, .int .i64 v.y.lo, .int .i64 v.y.hi, .int .i64 v.z.lo, .int .i64 v.z.hi] 44)).alloc (.cells #[.int .i64 u.x.lo, .int .i64 u.x.hi, .int .i64 u.y.lo, .int .i64 u.y.hi, .int .i64 u.z.lo, .int .i64 u.z.hi] 44)).alloc (.cells #[.int .i64 0, .int .i64 0, .int .i64 0, .int .i64 0, .int .i64 0, .int .i64 0] 44) := ⟨_, rfl⟩
  have k0 := blk_cell (show W.heap[w.heap.size]? = some (.cells (ivs v) 44 (0, 0)) by rw [hW]; exact (Below.heap_alloc _ _ _ (by simp; omega)).trans ((Below.heap_alloc _ _ _ (by simp)).trans (heap_alloc_new w _)))
  have k1 := blk_cell (show W.heap[w.heap.size + 1]? = some (.cells (ivs u) 44 (0, 0)) by rw [hW]; exact (Below.heap_alloc _ _ _ (by simp)).trans (new_at _ _ (by simp)))
  have KR := hide (show W.heap[w.heap.size + 1 + 1]? = some (.cells #[.int .i64 0, .int .i64 0, .int .i64 0, .int .i64 0, .int .i64 0, .int .i64 0] 44 (0, 0)) by rw [hW]; exact new_at _ _ (by simp))
  have HB := hide (show Below w.heap.size w W by rw [hW]; go_grown)
  have z2 : w.heap.size + 1 + 1 < W.heap.size := by rw [hW]; simp
  have z1 : w.heap.size + 1 < W.heap.size := by omega
  have z0 : w.heap.size < W.heap.size := by omega
  have hn0 : w.heap.size ≠ w.heap.size + 1 + 1 := by omega
  have hn1 : w.heap.size + 1 ≠ w.heap.size + 1 + 1 := by omega
  simp only [ivs] at k0 k1
  go_enter Try.func65, Try.ntmps65
  go_wp2_with fail
  rw [← hW]
  clear hW
  go_region_held3 (fun w' => (∀ i, w'.cell? ⟨w.heap.size, i, none⟩ = #[.int .i64 v.x.lo, .int .i64 v.x.hi, .int .i64 v.y.lo, .int .i64 v.y.hi, .int .i64 v.z.lo, .int .i64 v.z.hi][i]?) ∧ (∀ i, w'.cell? ⟨w.heap.size + 1, i, none⟩ = #[.int .i64 u.x.lo, .int .i64 u.x.hi, .int .i64 u.y.lo, .int .i64 u.y.hi, .int .i64 u.z.lo, .int .i64 u.z.hi][i]?))
    (first | with_reducible exact ⟨k0, k1⟩ | with_reducible exact ⟨far6c hn0 k0, far6c hn1 k1⟩ | go_keep)
    (first | (go_at_call 118; (with_reducible refine (add_any v.x u.x _ VX.out UX.out).mono ?_); rintro e w5 ⟨rfl, b5⟩; have k0 := keepe b5 z0 k0; have k1 := keepe b5 z1 k1; have z05 := Nat.lt_of_lt_of_le z0 b5.size; have z15 := Nat.lt_of_lt_of_le z1 b5.size; have z25 := Nat.lt_of_lt_of_le z2 b5.size) | (go_at_call 118; (with_reducible refine (add_any v.y u.y _ VY.out UY.out).mono ?_); rintro e w6 ⟨rfl, b6⟩; have k0 := keepe b6 z05 k0; have k1 := keepe b6 z15 k1; have z06 := Nat.lt_of_lt_of_le z05 b6.size; have z16 := Nat.lt_of_lt_of_le z15 b6.size; have z26 := Nat.lt_of_lt_of_le z25 b6.size) | (go_at_call 118; (with_reducible refine (add_any v.z u.z _ VZ.out UZ.out).mono ?_); rintro e w7 ⟨rfl, b7⟩; have k0 := keepe b7 z06 k0; have k1 := keepe b7 z16 k1; have z27 := Nat.lt_of_lt_of_le z26 b7.size; have hR7 := (b7.block _ z26).trans ((b6.block _ z25).trans ((b5.block _ z2).trans KR.out)); have cR := blk_cell hR7; have fR := blk_frozen hR7; have HR7 := hide hR7; clear hR7))
  have HB7 := hide (((HB.out.drew.trans (b5.mono (Nat.le_of_lt z0))).trans (b6.mono (Nat.le_of_lt z05))).trans (b7.mono (Nat.le_of_lt z06)))
  clear k0 k1 b5 b6 b7
  go_wp2_with fail
  refine bodyPost_ret (v := (addII v u).v) (by simp [results, Try.results65, go_sem, cR, addII, addIv, IV.v]) rfl ⟨rfl, ?_⟩
  exact (((((HB7.out.setCell (by simp; omega) _).setCell (by simp; omega) _).setCell (by simp; omega) _).setCell (by simp; omega) _).setCell (by simp; omega) _).setCell (by simp; omega) _
theorem ptI_small {t : V3} (h : Within t 536870912) : ptI t = ⟨⟨t.x, t.x⟩, ⟨t.y, t.y⟩, ⟨t.z, t.z⟩⟩ := by
  obtain ⟨⟨a, b⟩, ⟨c, d⟩, e, f⟩ := h
  unfold ptI
  rw [clampF_in (by omega) (by omega), clampF_in (by omega) (by omega), clampF_in (by omega) (by omega)]
theorem addII_pt {t : V3} (h : Within t 536870912) (v : IV) : addII v (ptI t) = addIV v t := by rw [ptI_small h]; rfl
theorem IVM_pt {t : V3} (h : Within t 536870912) : IVM (ptI t) := by
  rw [ptI_small h]
  obtain ⟨⟨a, b⟩, ⟨c, d⟩, e, f⟩ := h
  refine ⟨⟨?_, ?_, ?_⟩, ⟨?_, ?_, ?_⟩, ?_, ?_, ?_⟩ <;> simp only <;> omega
theorem IVM_ok {v : IV} (h : v.ok = true) : IVM v := by
  obtain ⟨⟨d1, d2, d3⟩, ⟨e1, e2, e3⟩, f1, f2, f3⟩ := ok_of h
  refine ⟨⟨?_, ?_, ?_⟩, ⟨?_, ?_, ?_⟩, ?_, ?_, ?_⟩ <;> omega
/-- a slice in another block is as it was -/
theorem Sl.setc {w : World} {A : Option Addr} {xs : List Value} {V i : Nat} {u : Value} (h : Sl w A xs) (hne : ∀ b off, A = some ⟨b, off, none⟩ → b ≠ V) : Sl (w.setCell ⟨V, i, none⟩ u) A xs := fun hx => by
  obtain ⟨b, off, e, hb, hc⟩ := h hx
  refine ⟨b, off, e, by simpa [World.setCell] using hb, fun j v hv => ?_⟩
  rw [World.cell?_setCell_other _ _ _ _ (fun hh => by injection hh with h1; exact hne b off e h1.symm)]
  exact hc j v hv
theorem point_lit (t : V3) (w : World) : Calls Try.prog 66 #[.agg #[.int .i64 t.x, .int .i64 t.y, .int .i64 t.z]] w fun e w' => e = .returned (.agg #[.int .i64 (ptI t).x.lo, .int .i64 (ptI t).x.hi, .int .i64 (ptI t).y.lo, .int .i64 (ptI t).y.hi, .int .i64 (ptI t).z.lo, .int .i64 (ptI t).z.hi]) ∧ Below w.heap.size w w' := point_any t w
theorem addVec_lit (v u : IV) (w : World) (hv : IVM v) (hu : IVM u) : Calls Try.prog 65 #[.agg #[.int .i64 v.x.lo, .int .i64 v.x.hi, .int .i64 v.y.lo, .int .i64 v.y.hi, .int .i64 v.z.lo, .int .i64 v.z.hi], .agg #[.int .i64 u.x.lo, .int .i64 u.x.hi, .int .i64 u.y.lo, .int .i64 u.y.hi, .int .i64 u.z.lo, .int .i64 u.z.hi]] w fun e w' => e = .returned (addII v u).v ∧ Below w.heap.size w w' := addVec_any v u w hv hu
end Go.Proofs.Ytionbckpgfaneaa
