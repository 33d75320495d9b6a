/- Walks, part A: Least, Greatest and those of the references. -/
import Derived.Test.YtionbckpgfaneaaWz
import Derived.Deep.RegionHeld3
import Derived.Deep.DrawnRows
namespace Go.Proofs.Ytionbckpgfaneaa
open Go.RowKit
set_option maxHeartbeats 1000000
set_option maxRecDepth 100000
theorem keepd {w w' : World} {N b : Nat} {f : Nat → Option Value} (h : Below N w w') (hz : b < N) (k : ∀ i, w.cell? ⟨b, i, none⟩ = f i) : ∀ i, w'.cell? ⟨b, i, none⟩ = f i := fun i => (h.cell (p := ⟨b, i, none⟩) hz).trans (k i)
/-- support.Least -/
theorem least_any (n : V3) (A : Option Addr) (l : List IV) (c : Nat) (w : World) (hs : SlI w A l) (hm : l.length ≤ 9223372036854775807) :
    Calls Try.prog 63 #[.agg #[.int .i64 n.x, .int .i64 n.y, .int .i64 n.z], .slice A l.length c] w fun e w' => e = .returned (leastR n l) ∧ Below w.heap.size w w' := by
  have HS := hide hs; clear hs
  go_enter Try.func63, Try.ntmps63
  go_wp2_with fail
  refine (usable_any n _).mono ?_
  rintro e w1 ⟨rfl, hb1⟩
  have hN : w1.heap[w.heap.size]? = some (.cells (vcs n) 47 (0, 0)) := (hb1.block _ (by simp)).trans (heap_alloc_new w _)
  have hz : w.heap.size < w1.heap.size := by have := hb1.size; simp at this; omega
  have HB := hide (show Below w.heap.size w w1 from (((Below.refl _ _).alloc (Nat.le_refl _) _)).trans (hb1.mono (by simp)))
  have HN := hide hN
  clear hb1 hN
  cases hu : usable n
  · have H := hide (leastR_no (show supOk n l = false by simp [supOk, hu]))
    go_wp2_with fail
    go_ret3
    exact ⟨by rw [H.out]; rfl, HB.out⟩
  · go_wp2_with fail
    refine (placed_any A l c _ (HS.out.below HB.out) hm).mono ?_
    rintro e w2 ⟨rfl, hb2⟩
    have HN2 := hide ((hb2.block _ hz).trans HN.out)
    have hz2 : w.heap.size < w2.heap.size := by have := hb2.size; omega
    have HB2 := hide (show Below w.heap.size w w2 from HB.out.trans (hb2.mono (by omega)))
    clear hb2 HN HB
    cases hp : placedB l
    · have H := hide (leastR_no (show supOk n l = false by simp [supOk, hp]))
      go_wp2_with fail
      go_ret3
      exact ⟨by rw [H.out]; rfl, HB2.out⟩
    · have H := hide (leastR_yes hu hp)
      have HU := hide (usable_of hu).1; have HP := hide hp
      have hc := blk_cell HN2.out; simp only [vcs] at hc
      clear hu hp
      go_wp2_with fail
      refine (downward_any n _).mono ?_
      rintro e w3 ⟨rfl, hp3, hb3⟩
      have HP3 := hide hp3
      have HB3 := hide (show Below w.heap.size w w3 from HB2.out.trans (hb3.mono (by omega)))
      have hz3 := hb3.size
      clear hb3 hp3 hc
      go_wp2_with fail
      refine (best115 n A l c w2.heap.size _ (HS.out.below HB3.out) HP3.out HU.out HP.out).mono ?_
      rintro e w4 ⟨rfl, hb4⟩
      have HB4 := hide (show Below w.heap.size w w4 from HB3.out.trans (hb4.mono (by omega)))
      clear hb4
      go_wp2_with fail
      go_ret3
      exact ⟨by rw [H.out]; rfl, HB4.out⟩
def Ref83 (w : World) (n : V3) (l : List IV) (t u i : Value) (wr : World) : Prop :=
  ∃ k : Nat, k ≤ l.length ∧ i = .int .i64 k ∧ t = .int .i64 (bestV (vlo n l) k) ∧ u = .int .i64 (amin (vlo n l) k) ∧ wr.heap[w.heap.size]? = some (.cells (vcs n) 47 (0, 0)) ∧ Below w.heap.size w wr ∧ w.heap.size < wr.heap.size
/-- armplanref10.Least -/
theorem least_ref (n : V3) (A : Option Addr) (l : List IV) (c : Nat) (w : World) (hs : SlI w A l) (hm : l.length ≤ 9223372036854775807) :
    Calls Try.prog 83 #[.agg #[.int .i64 n.x, .int .i64 n.y, .int .i64 n.z], .slice A l.length c] w fun e w' => e = .returned (leastR n l) ∧ Below w.heap.size w w' := by
  have HS := hide hs; clear hs
  go_enter Try.func83, Try.ntmps83
  go_wp2_with fail
  refine (usable_ref n _).mono ?_
  rintro e w1 ⟨rfl, hb1⟩
  have hN : w1.heap[w.heap.size]? = some (.cells (vcs n) 47 (0, 0)) := (hb1.block _ (by simp)).trans (heap_alloc_new w _)
  have hz : w.heap.size < w1.heap.size := by have := hb1.size; simp at this; omega
  have HB := hide (show Below w.heap.size w w1 from (((Below.refl _ _).alloc (Nat.le_refl _) _)).trans (hb1.mono (by simp)))
  have HN := hide hN
  clear hb1 hN
  cases hu : usable n
  · have H := hide (leastR_no (show supOk n l = false by simp [supOk, hu]))
    go_wp2_with fail
    go_ret3
    exact ⟨by rw [H.out]; rfl, HB.out⟩
  · go_wp2_with fail
    refine (placed_ref A l c _ (HS.out.below HB.out) hm).mono ?_
    rintro e w2 ⟨rfl, hb2⟩
    have HN2 := hide ((hb2.block _ hz).trans HN.out)
    have hz2 : w.heap.size < w2.heap.size := by have := hb2.size; omega
    have HB2 := hide (show Below w.heap.size w w2 from HB.out.trans (hb2.mono (by omega)))
    clear hb2 HN HB
    cases hp : placedB l
    · have H := hide (leastR_no (show supOk n l = false by simp [supOk, hp]))
      go_wp2_with fail
      go_ret3
      exact ⟨by rw [H.out]; rfl, HB2.out⟩
    · have H := hide (leastR_yes hu hp)
      obtain ⟨l1, l8, lo⟩ := placed_of hp
      have HI := hide (usable_of hu).1; have LO := hide lo; have HU := hide hu
      have FB := hide (show ∀ i, i < l.length → -13194139533312 ≤ (vlo n l) i ∧ (vlo n l) i ≤ 13194139533312 from fun i hi => by
        have := dlo_bd HI.out (lo i hi)
        rw [vlo_at n l i hi]
        omega)
      clear hu hp lo
      go_wp2_with fail
      go_loopw [7, 8, 9] (fun t u i wr => Ref83 w n l t u i wr) (fun _ _ i _ => l.length - (intOf i).toNat)
      case atStart => exact ⟨0, by omega, rfl, rfl, rfl, HN2.out, HB2.out, hz2⟩
      case round =>
        clear HN2 HB2 hz2
        obtain ⟨k, hk, rfl, rfl, rfl, jN, jB, jz⟩ := hrel
        have JN := hide jN; have JB := hide jB
        have k0 := blk_cell jN; simp only [vcs] at k0
        clear jN jB
        by_cases hkl : k < l.length
        · obtain ⟨b, off, rfl, hbb⟩ := HS.out.addr (by omega)
          obtain ⟨h0, h1, h2, h3, h4, h5⟩ := (HS.out.below JB.out).at_ hkl
          have OKK := hide (LO.out k hkl)
          have DR := hide (dotR_yes (show dotOk n l[k] = true by simp [dotOk, HU.out, OKK.out]))
          obtain ⟨X, hX⟩ : ∃ X, X = dlo n l[k] := ⟨_, rfl⟩
          have HF := hide (show (vlo n l) k = X by rw [vlo_at n l k hkl, hX])
          have xb := dlo_bd HI.out OKK.out
          rw [← hX] at xb
          have HX := hide hX; clear hX
          have bb := bestV_bd (Nat.le_of_lt hkl) FB.out
          obtain ⟨Y, hY⟩ : ∃ Y, Y = bestV (vlo n l) k := ⟨_, rfl⟩
          have am := amin_le_self (vlo n l) k
          obtain ⟨j, hj⟩ : ∃ j, j = amin (vlo n l) k := ⟨_, rfl⟩
          rw [← hY, ← hj]
          rw [← hj] at am
          have yb : -13194139533312 ≤ Y ∧ Y ≤ 13194139533312 := by omega
          have HY := hide hY; have HJ := hide hj; clear hY hj bb
          have hi1 : (0 : Int) ≤ (k : Int) := Int.natCast_nonneg _
          have hi2 : (k : Int) < (l.length : Int) := by omega
          have hbr : b < wr.heap.size := by omega
          go_wp2_with fail
          go_region_held3 (fun w' => (∀ i, w'.cell? ⟨w.heap.size, i, none⟩ = #[.int .i64 n.x, .int .i64 n.y, .int .i64 n.z][i]?) ∧ w'.cell? ⟨b, off + k * 6, none⟩ = some (.int .i64 l[k].x.lo) ∧ w'.cell? ⟨b, off + k * 6 + 1, none⟩ = some (.int .i64 l[k].x.hi) ∧ w'.cell? ⟨b, off + k * 6 + 2, none⟩ = some (.int .i64 l[k].y.lo) ∧ w'.cell? ⟨b, off + k * 6 + 3, none⟩ = some (.int .i64 l[k].y.hi) ∧ w'.cell? ⟨b, off + k * 6 + 4, none⟩ = some (.int .i64 l[k].z.lo) ∧ w'.cell? ⟨b, off + k * 6 + 5, none⟩ = some (.int .i64 l[k].z.hi))
            (first | exact ⟨k0, h0, h1, h2, h3, h4, h5⟩ | go_keep)
            (first | (go_at_call 110; (with_reducible refine (dot_ref n l[k] _).mono ?_); rintro e w5 ⟨rfl, b5⟩; have k0 := keepd b5 jz k0; have h0 := (b5.cell (p := ⟨b, off + k * 6, none⟩) hbr).trans h0; have h1 := (b5.cell (p := ⟨b, off + k * 6 + 1, none⟩) hbr).trans h1; have h2 := (b5.cell (p := ⟨b, off + k * 6 + 2, none⟩) hbr).trans h2; have h3 := (b5.cell (p := ⟨b, off + k * 6 + 3, none⟩) hbr).trans h3; have h4 := (b5.cell (p := ⟨b, off + k * 6 + 4, none⟩) hbr).trans h4; have h5 := (b5.cell (p := ⟨b, off + k * 6 + 5, none⟩) hbr).trans h5; rw [DR.out]))
          rw [← HX.out]
          have KN := hide ((b5.block w.heap.size jz).trans JN.out)
          have KB := hide (JB.out.drew.trans (b5.mono (Nat.le_of_lt jz)))
          have kz : w.heap.size < w5.heap.size := Nat.lt_of_lt_of_le jz b5.size
          clear b5 k0 h0 h1 h2 h3 h4 h5
          by_cases hk0 : k = 0
          · subst hk0
            go_wp2_with fail
            go_roundw
            case rel => exact ⟨1, by omega, rfl, by rw [bestV_one, HF.out], rfl, KN.out, KB.out, kz⟩
            case measure => simp [intOf] <;> omega
          · have hk0' : ((k : Int) == 0) = false := by simp; omega
            have HK0 := hide (show 0 < k by omega); clear hk0
            by_cases hc : X < Y
            · obtain ⟨g1, g2⟩ := bestV_lt HK0.out (show (vlo n l) k < bestV (vlo n l) k by rw [HF.out]; have := HY.out; omega)
              have G1 := hide g1; have G2 := hide g2; clear g1 g2
              go_wp2_with fail
              go_roundw
              case rel => exact ⟨k + 1, by omega, by simp, by rw [G1.out, HF.out], by rw [G2.out], KN.out, KB.out, kz⟩
              case measure => simp [intOf] <;> omega
            · obtain ⟨g1, g2⟩ := bestV_ge HK0.out (show ¬ (vlo n l) k < bestV (vlo n l) k by rw [HF.out]; have := HY.out; omega)
              have G1 := hide g1; have G2 := hide g2; clear g1 g2
              go_wp2_with fail
              go_roundw
              case rel => exact ⟨k + 1, by omega, by simp, by rw [G1.out, ← HY.out], by rw [G2.out, ← HJ.out], KN.out, KB.out, kz⟩
              case measure => simp [intOf] <;> omega
        · obtain rfl : k = l.length := by omega
          have hne : l.length ≠ 0 := by omega
          clear k0
          go_wp2_with fail
          go_ret3
          exact ⟨by rw [H.out, bestV_fin hne]; rfl, JB.out⟩
/-- support.Greatest -/
theorem greatest_any (n : V3) (A : Option Addr) (l : List IV) (c : Nat) (w : World) (hs : SlI w A l) (hm : l.length ≤ 9223372036854775807) :
    Calls Try.prog 64 #[.agg #[.int .i64 n.x, .int .i64 n.y, .int .i64 n.z], .slice A l.length c] w fun e w' => e = .returned (greatR n l) ∧ Below w.heap.size w w' := by
  have HS := hide hs; clear hs
  go_enter Try.func64, Try.ntmps64
  go_wp2_with fail
  refine (usable_any n _).mono ?_
  rintro e w1 ⟨rfl, hb1⟩
  have hN : w1.heap[w.heap.size]? = some (.cells (vcs n) 47 (0, 0)) := (hb1.block _ (by simp)).trans (heap_alloc_new w _)
  have hz : w.heap.size < w1.heap.size := by have := hb1.size; simp at this; omega
  have HB := hide (show Below w.heap.size w w1 from (((Below.refl _ _).alloc (Nat.le_refl _) _)).trans (hb1.mono (by simp)))
  have HN := hide hN
  clear hb1 hN
  cases hu : usable n
  · have H := hide (greatR_no (show supOk n l = false by simp [supOk, hu]))
    go_wp2_with fail
    go_ret3
    exact ⟨by rw [H.out]; rfl, HB.out⟩
  · go_wp2_with fail
    refine (placed_any A l c _ (HS.out.below HB.out) hm).mono ?_
    rintro e w2 ⟨rfl, hb2⟩
    have HN2 := hide ((hb2.block _ hz).trans HN.out)
    have hz2 : w.heap.size < w2.heap.size := by have := hb2.size; omega
    have HB2 := hide (show Below w.heap.size w w2 from HB.out.trans (hb2.mono (by omega)))
    clear hb2 HN HB
    cases hp : placedB l
    · have H := hide (greatR_no (show supOk n l = false by simp [supOk, hp]))
      go_wp2_with fail
      go_ret3
      exact ⟨by rw [H.out]; rfl, HB2.out⟩
    · have H := hide (greatR_yes hu hp)
      have HU := hide (usable_of hu).1; have HP := hide hp
      have hc := blk_cell HN2.out; simp only [vcs] at hc
      clear hu hp
      go_wp2_with fail
      refine (upward_any n _).mono ?_
      rintro e w3 ⟨rfl, hp3, hb3⟩
      have HP3 := hide hp3
      have HB3 := hide (show Below w.heap.size w w3 from HB2.out.trans (hb3.mono (by omega)))
      have hz3 := hb3.size
      clear hb3 hp3 hc
      go_wp2_with fail
      refine (best117 n A l c w2.heap.size _ (HS.out.below HB3.out) HP3.out HU.out HP.out).mono ?_
      rintro e w4 ⟨rfl, hb4⟩
      have HB4 := hide (show Below w.heap.size w w4 from HB3.out.trans (hb4.mono (by omega)))
      clear hb4
      go_wp2_with fail
      go_ret3
      exact ⟨by rw [H.out]; rfl, HB4.out⟩
def Ref85 (w : World) (n : V3) (l : List IV) (t u i : Value) (wr : World) : Prop :=
  ∃ k : Nat, k ≤ l.length ∧ i = .int .i64 k ∧ t = .int .i64 (-bestV (nhi n l) k) ∧ u = .int .i64 (amin (nhi n l) k) ∧ wr.heap[w.heap.size]? = some (.cells (vcs n) 47 (0, 0)) ∧ Below w.heap.size w wr ∧ w.heap.size < wr.heap.size
/-- armplanref10.Greatest -/
theorem greatest_ref (n : V3) (A : Option Addr) (l : List IV) (c : Nat) (w : World) (hs : SlI w A l) (hm : l.length ≤ 9223372036854775807) :
    Calls Try.prog 85 #[.agg #[.int .i64 n.x, .int .i64 n.y, .int .i64 n.z], .slice A l.length c] w fun e w' => e = .returned (greatR n l) ∧ Below w.heap.size w w' := by
  have HS := hide hs; clear hs
  go_enter Try.func85, Try.ntmps85
  go_wp2_with fail
  refine (usable_ref n _).mono ?_
  rintro e w1 ⟨rfl, hb1⟩
  have hN : w1.heap[w.heap.size]? = some (.cells (vcs n) 47 (0, 0)) := (hb1.block _ (by simp)).trans (heap_alloc_new w _)
  have hz : w.heap.size < w1.heap.size := by have := hb1.size; simp at this; omega
  have HB := hide (show Below w.heap.size w w1 from (((Below.refl _ _).alloc (Nat.le_refl _) _)).trans (hb1.mono (by simp)))
  have HN := hide hN
  clear hb1 hN
  cases hu : usable n
  · have H := hide (greatR_no (show supOk n l = false by simp [supOk, hu]))
    go_wp2_with fail
    go_ret3
    exact ⟨by rw [H.out]; rfl, HB.out⟩
  · go_wp2_with fail
    refine (placed_ref A l c _ (HS.out.below HB.out) hm).mono ?_
    rintro e w2 ⟨rfl, hb2⟩
    have HN2 := hide ((hb2.block _ hz).trans HN.out)
    have hz2 : w.heap.size < w2.heap.size := by have := hb2.size; omega
    have HB2 := hide (show Below w.heap.size w w2 from HB.out.trans (hb2.mono (by omega)))
    clear hb2 HN HB
    cases hp : placedB l
    · have H := hide (greatR_no (show supOk n l = false by simp [supOk, hp]))
      go_wp2_with fail
      go_ret3
      exact ⟨by rw [H.out]; rfl, HB2.out⟩
    · have H := hide (greatR_yes hu hp)
      obtain ⟨l1, l8, lo⟩ := placed_of hp
      have HI := hide (usable_of hu).1; have LO := hide lo; have HU := hide hu
      have FB := hide (show ∀ i, i < l.length → -13194139533312 ≤ (nhi n l) i ∧ (nhi n l) i ≤ 13194139533312 from fun i hi => by
        have := dhi_bd HI.out (lo i hi)
        rw [nhi_at n l i hi]
        omega)
      clear hu hp lo
      go_wp2_with fail
      go_loopw [7, 8, 9] (fun t u i wr => Ref85 w n l t u i wr) (fun _ _ i _ => l.length - (intOf i).toNat)
      case atStart => exact ⟨0, by omega, rfl, rfl, rfl, HN2.out, HB2.out, hz2⟩
      case round =>
        clear HN2 HB2 hz2
        obtain ⟨k, hk, rfl, rfl, rfl, jN, jB, jz⟩ := hrel
        have JN := hide jN; have JB := hide jB
        have k0 := blk_cell jN; simp only [vcs] at k0
        clear jN jB
        by_cases hkl : k < l.length
        · obtain ⟨b, off, rfl, hbb⟩ := HS.out.addr (by omega)
          obtain ⟨h0, h1, h2, h3, h4, h5⟩ := (HS.out.below JB.out).at_ hkl
          have OKK := hide (LO.out k hkl)
          have DR := hide (dotR_yes (show dotOk n l[k] = true by simp [dotOk, HU.out, OKK.out]))
          obtain ⟨X, hX⟩ : ∃ X, X = dhi n l[k] := ⟨_, rfl⟩
          have HF := hide (show (nhi n l) k = -X by rw [nhi_at n l k hkl, hX])
          have xb := dhi_bd HI.out OKK.out
          rw [← hX] at xb
          have HX := hide hX; clear hX
          have bb := bestV_bd (Nat.le_of_lt hkl) FB.out
          obtain ⟨Y, hY⟩ : ∃ Y, Y = -bestV (nhi n l) k := ⟨_, rfl⟩
          have am := amin_le_self (nhi n l) k
          obtain ⟨j, hj⟩ : ∃ j, j = amin (nhi n l) k := ⟨_, rfl⟩
          rw [← hY, ← hj]
          rw [← hj] at am
          have yb : -13194139533312 ≤ Y ∧ Y ≤ 13194139533312 := by omega
          have HY := hide hY; have HJ := hide hj; clear hY hj bb
          have hi1 : (0 : Int) ≤ (k : Int) := Int.natCast_nonneg _
          have hi2 : (k : Int) < (l.length : Int) := by omega
          have hbr : b < wr.heap.size := by omega
          go_wp2_with fail
          go_region_held3 (fun w' => (∀ i, w'.cell? ⟨w.heap.size, i, none⟩ = #[.int .i64 n.x, .int .i64 n.y, .int .i64 n.z][i]?) ∧ w'.cell? ⟨b, off + k * 6, none⟩ = some (.int .i64 l[k].x.lo) ∧ w'.cell? ⟨b, off + k * 6 + 1, none⟩ = some (.int .i64 l[k].x.hi) ∧ w'.cell? ⟨b, off + k * 6 + 2, none⟩ = some (.int .i64 l[k].y.lo) ∧ w'.cell? ⟨b, off + k * 6 + 3, none⟩ = some (.int .i64 l[k].y.hi) ∧ w'.cell? ⟨b, off + k * 6 + 4, none⟩ = some (.int .i64 l[k].z.lo) ∧ w'.cell? ⟨b, off + k * 6 + 5, none⟩ = some (.int .i64 l[k].z.hi))
            (first | exact ⟨k0, h0, h1, h2, h3, h4, h5⟩ | go_keep)
            (first | (go_at_call 110; (with_reducible refine (dot_ref n l[k] _).mono ?_); rintro e w5 ⟨rfl, b5⟩; have k0 := keepd b5 jz k0; have h0 := (b5.cell (p := ⟨b, off + k * 6, none⟩) hbr).trans h0; have h1 := (b5.cell (p := ⟨b, off + k * 6 + 1, none⟩) hbr).trans h1; have h2 := (b5.cell (p := ⟨b, off + k * 6 + 2, none⟩) hbr).trans h2; have h3 := (b5.cell (p := ⟨b, off + k * 6 + 3, none⟩) hbr).trans h3; have h4 := (b5.cell (p := ⟨b, off + k * 6 + 4, none⟩) hbr).trans h4; have h5 := (b5.cell (p := ⟨b, off + k * 6 + 5, none⟩) hbr).trans h5; rw [DR.out]))
          rw [← HX.out]
          have KN := hide ((b5.block w.heap.size jz).trans JN.out)
          have KB := hide (JB.out.drew.trans (b5.mono (Nat.le_of_lt jz)))
          have kz : w.heap.size < w5.heap.size := Nat.lt_of_lt_of_le jz b5.size
          clear b5 k0 h0 h1 h2 h3 h4 h5
          by_cases hk0 : k = 0
          · subst hk0
            go_wp2_with fail
            go_roundw
            case rel => exact ⟨1, by omega, rfl, by rw [bestV_one, HF.out]; rw [Int.neg_neg], rfl, KN.out, KB.out, kz⟩
            case measure => simp [intOf] <;> omega
          · have hk0' : ((k : Int) == 0) = false := by simp; omega
            have HK0 := hide (show 0 < k by omega); clear hk0
            by_cases hc : Y < X
            · obtain ⟨g1, g2⟩ := bestV_lt HK0.out (show (nhi n l) k < bestV (nhi n l) k by rw [HF.out]; have := HY.out; omega)
              have G1 := hide g1; have G2 := hide g2; clear g1 g2
              go_wp2_with fail
              go_roundw
              case rel => exact ⟨k + 1, by omega, by simp, by rw [G1.out, HF.out]; rw [Int.neg_neg], by rw [G2.out], KN.out, KB.out, kz⟩
              case measure => simp [intOf] <;> omega
            · obtain ⟨g1, g2⟩ := bestV_ge HK0.out (show ¬ (nhi n l) k < bestV (nhi n l) k by rw [HF.out]; have := HY.out; omega)
              have G1 := hide g1; have G2 := hide g2; clear g1 g2
              go_wp2_with fail
              go_roundw
              case rel => exact ⟨k + 1, by omega, by simp, by rw [G1.out, ← HY.out], by rw [G2.out, ← HJ.out], KN.out, KB.out, kz⟩
              case measure => simp [intOf] <;> omega
        · obtain rfl : k = l.length := by omega
          have hne : l.length ≠ 0 := by omega
          clear k0
          go_wp2_with fail
          go_ret3
          exact ⟨by rw [H.out, bestV_fin hne, nhi_neg]; rfl, JB.out⟩
end Go.Proofs.Ytionbckpgfaneaa
