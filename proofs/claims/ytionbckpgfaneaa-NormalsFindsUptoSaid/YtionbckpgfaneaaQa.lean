/- Walks of the normals, part a: middles. -/
import Derived.Test.YtionbckpgfaneaaXe
import Derived.Test.YtionbckpgfaneaaXa
import Derived.Test.YtionbckpgfaneaaWq
import Derived.Deep.RegionHeld3
import Derived.Deep.AppendLies
import Derived.Deep.DrawnRows
namespace Go.Proofs.Ytionbckpgfaneaa
open Go.RowKit
set_option maxHeartbeats 4000000
set_option maxRecDepth 100000
/-- fixed.ShiftDown by 1 -/
theorem shiftDown_any (a : Int) (w : World) : Calls Try.prog 181 #[.int .i64 a, .int .i64 1] w fun e w' => e = .returned (.int .i64 (a / 2)) ∧ w = w' := by
  go_enter Try.func181, Try.ntmps181
  go_wp2
  go_ret
  exact ⟨rfl, rfl⟩
theorem ok_valid {a : Iv} (h : a.ok = true) : a.valid = true := by
  have h := of_decide_eq_true h
  exact decide_eq_true (by omega)
/-- interval.Mid -/
theorem mid_any (a : Iv) (w : World) (h : a.ok = true) : Calls Try.prog 178 #[.agg #[.int .i64 a.lo, .int .i64 a.hi]] w fun e w' => e = .returned (.int .i64 (midI a)) ∧ Below w.heap.size w w' := by
  have V := hide (ok_valid h)
  have hb := of_decide_eq_true h
  obtain ⟨h1, h2, h3⟩ := hb
  clear h
  go_enter Try.func178, Try.ntmps178
  go_wp2_with fail
  refine (valid2_any a _).mono ?_
  rintro e w1 ⟨rfl, hb1⟩
  rw [V.out]
  have K := hide (show w1.heap[w.heap.size]? = some (.cells #[.int .i64 a.lo, .int .i64 a.hi] 42 (0, 0)) from (hb1.block _ (by simp)).trans (new_at _ _ rfl))
  have B := hide (show Below w.heap.size w w1 from ((Below.refl _ _).alloc (Nat.le_refl _) _).trans (hb1.mono (by simp)))
  have c := blk_cell K.out
  have y : w.heap.size < w1.heap.size := by obtain ⟨h, _⟩ := Array.getElem?_eq_some_iff.mp K.out; exact h
  clear hb1
  go_wp2_with fail
  refine (shiftDown_any (a.lo + a.hi) _).mono ?_
  rintro e w' ⟨rfl, rfl⟩
  go_wp2_with fail
  go_ret
  exact ⟨rfl, B.out⟩
/-- armplanref1.Mid -/
theorem mid_ref (a : Iv) (w : World) (h : a.ok = true) : Calls Try.prog 179 #[.agg #[.int .i64 a.lo, .int .i64 a.hi]] w fun e w' => e = .returned (.int .i64 (midI a)) ∧ Below w.heap.size w w' := by
  have V := hide (ok_valid h)
  have hb := of_decide_eq_true h
  obtain ⟨h1, h2, h3⟩ := hb
  clear h
  go_enter Try.func179, Try.ntmps179
  go_wp2_with fail
  refine (valid_any a _).mono ?_
  rintro e w1 ⟨rfl, hb1⟩
  rw [V.out]
  have K := hide (show w1.heap[w.heap.size]? = some (.cells #[.int .i64 a.lo, .int .i64 a.hi] 42 (0, 0)) from (hb1.block _ (by simp)).trans (new_at _ _ rfl))
  have B := hide (show Below w.heap.size w w1 from ((Below.refl _ _).alloc (Nat.le_refl _) _).trans (hb1.mono (by simp)))
  have c := blk_cell K.out
  have y : w.heap.size < w1.heap.size := by obtain ⟨h, _⟩ := Array.getElem?_eq_some_iff.mp K.out; exact h
  clear hb1
  go_wp2_with fail
  refine (floor_any (a.lo + a.hi) 2 _ ⟨by omega, by omega⟩ (by decide)).mono ?_
  rintro e w' ⟨rfl, rfl⟩
  go_wp2_with fail
  go_ret
  exact ⟨rfl, B.out⟩
def CentersPost (l : List IV) (w : World) (e : Ending) (w' : World) : Prop := ∃ (A : Option Addr) (c : Nat), e = .returned (.slice A l.length c) ∧ SlV w' A (ctrs l) ∧ Below w.heap.size w w'
/-- armplanref10.Centers, of placed points -/
theorem centers_ref (A : Option Addr) (l : List IV) (c : Nat) (w : World) (hs : SlI w A l) (hp : placedB l = true) :
    Calls Try.prog 174 #[.slice A l.length c] w (CentersPost l w) := by
  have HS := hide hs; have HP := hide hp
  obtain ⟨l1, l8, ok⟩ := placed_of hp
  have OK := hide ok
  obtain ⟨i0, hi0, hz0, hz1, hz2⟩ := info_parts info47
  clear hs hp ok
  go_enter Try.func174, Try.ntmps174
  go_wp2_with fail
  refine (placed_ref A l c _ HS.out (by omega)).mono ?_
  rintro e w1 ⟨rfl, hb1⟩
  rw [HP.out]
  have B1 := hide hb1
  clear hb1
  go_wp2_with fail
  go_loopw [3, 4] (fun v i wr => ∃ k : Nat, k ≤ l.length ∧ i = .int .i64 k ∧ wr.ownsRow w.heap.size 47 3 v k (((l.take k).map ctrV).flatMap V3.cells) ∧ Below w.heap.size w wr) (fun _ i _ => l.length - (intOf i).toNat)
  case atStart => exact ⟨0, by omega, rfl, World.ownsRow_nil _ _ _ _, B1.out⟩
  case round =>
    obtain ⟨k, hk, rfl, hown, hb⟩ := hrel
    have HB := hide hb; have hz := hb.size
    clear hb B1
    by_cases hlt : k < l.length
    · obtain ⟨b, off, rfl, hbb⟩ := HS.out.addr (by omega)
      obtain ⟨d0, d1, d2, d3, d4, d5⟩ := (HS.out.below HB.out).at_ hlt
      have okk := OK.out k hlt
      have o3 : l[k].x.ok = true ∧ l[k].y.ok = true ∧ l[k].z.ok = true := by
        simp only [IV.ok, Bool.and_eq_true] at okk
        exact ⟨okk.1.1, okk.1.2, okk.2⟩
      have OX := hide o3.1; have OY := hide o3.2.1; have OZ := hide o3.2.2
      have hi1 : (0 : Int) ≤ (k : Int) := Int.natCast_nonneg _
      have hi2 : (k : Int) < (l.length : Int) := by omega
      have hbr : b < wr.heap.size := by omega
      have hno : u3.ownBlock ≠ some b := fun e => by have := (hown.lt b e).1; omega
      clear okk o3
      have h0 := d0; have h1 := d1; have h2 := d2; have h3 := d3; have h4 := d4; have h5 := d5
      have own1 := hown
      have gg : Below wr.heap.size wr wr.drew := (Below.refl _ _).drew
      go_wp2_with fail
      go_region_held3 (fun w' => w'.cell? ⟨b, off + k * 6, none⟩ = some (.int .i64 l[k].x.lo) ∧ w'.cell? ⟨b, off + k * 6 + 1, none⟩ = some (.int .i64 l[k].x.hi) ∧ w'.cell? ⟨b, off + k * 6 + 2, none⟩ = some (.int .i64 l[k].y.lo) ∧ w'.cell? ⟨b, off + k * 6 + 3, none⟩ = some (.int .i64 l[k].y.hi) ∧ w'.cell? ⟨b, off + k * 6 + 4, none⟩ = some (.int .i64 l[k].z.lo) ∧ w'.cell? ⟨b, off + k * 6 + 5, none⟩ = some (.int .i64 l[k].z.hi))
        (first | exact ⟨h0, h1, h2, h3, h4, h5⟩ | go_keep | (go_split_ands; refine ⟨?_, ?_, ?_, ?_, ?_, ?_⟩ <;> (rw [hgrow.cell_far _ (by simp; omega) (Ne.symm hno)]; assumption)))
        (first | (go_at_call 179; (with_reducible refine (mid_ref l[k].x _ OX.out).mono ?_); rintro e wx ⟨rfl, bb⟩; have gg := gg.trans (bb.mono gg.size); have hbz := Nat.lt_of_lt_of_le hbr gg.size; have own1 := own_below hown gg; have h0 := (gg.cell (p := ⟨b, off + k * 6, none⟩) hbr).trans d0; have h1 := (gg.cell (p := ⟨b, off + k * 6 + 1, none⟩) hbr).trans d1; have h2 := (gg.cell (p := ⟨b, off + k * 6 + 2, none⟩) hbr).trans d2; have h3 := (gg.cell (p := ⟨b, off + k * 6 + 3, none⟩) hbr).trans d3; have h4 := (gg.cell (p := ⟨b, off + k * 6 + 4, none⟩) hbr).trans d4; have h5 := (gg.cell (p := ⟨b, off + k * 6 + 5, none⟩) hbr).trans d5) | (go_at_call 179; (with_reducible refine (mid_ref l[k].y _ OY.out).mono ?_); rintro e wy ⟨rfl, bb⟩; have gg := gg.trans (bb.mono gg.size); have hbz := Nat.lt_of_lt_of_le hbr gg.size; have own1 := own_below hown gg; have h0 := (gg.cell (p := ⟨b, off + k * 6, none⟩) hbr).trans d0; have h1 := (gg.cell (p := ⟨b, off + k * 6 + 1, none⟩) hbr).trans d1; have h2 := (gg.cell (p := ⟨b, off + k * 6 + 2, none⟩) hbr).trans d2; have h3 := (gg.cell (p := ⟨b, off + k * 6 + 3, none⟩) hbr).trans d3; have h4 := (gg.cell (p := ⟨b, off + k * 6 + 4, none⟩) hbr).trans d4; have h5 := (gg.cell (p := ⟨b, off + k * 6 + 5, none⟩) hbr).trans d5) | (go_at_call 179; (with_reducible refine (mid_ref l[k].z _ OZ.out).mono ?_); rintro e wz ⟨rfl, bb⟩; have gg := gg.trans (bb.mono gg.size); have hbz := Nat.lt_of_lt_of_le hbr gg.size; have own1 := own_below hown gg; have h0 := (gg.cell (p := ⟨b, off + k * 6, none⟩) hbr).trans d0; have h1 := (gg.cell (p := ⟨b, off + k * 6 + 1, none⟩) hbr).trans d1; have h2 := (gg.cell (p := ⟨b, off + k * 6 + 2, none⟩) hbr).trans d2; have h3 := (gg.cell (p := ⟨b, off + k * 6 + 3, none⟩) hbr).trans d3; have h4 := (gg.cell (p := ⟨b, off + k * 6 + 4, none⟩) hbr).trans d4; have h5 := (gg.cell (p := ⟨b, off + k * 6 + 5, none⟩) hbr).trans d5) | (have _t := own1; refine step_append_lies _ (by rfl) _ _ _ (by rfl) w.heap.size 47 i0 _ 3 24 Try.underlying49 hi0 hz0 hz1 hz2 rfl (by omega) u3 k _ (by rfl) (own1.alloc _) ⟨wz.heap.size, 0, none⟩ 1 1 [.int .i64 (midI l[k].x), .int .i64 (midI l[k].y), .int .i64 (midI l[k].z)] (by rfl) (by rfl) (World.news_of_block (cs := #[.int .i64 (midI l[k].x), .int .i64 (midI l[k].y), .int .i64 (midI l[k].z)]) (t := 47) (fr := (0, 0)) (heap_alloc_new wz _)) (by simp [Value.oneCell']) (by omega) (by unfold maxLen; omega) (by omega) (by have := gg.size; simp; omega) (wz.heap.size + 1) (by simp) ?_; intro g9 cap w9 hown9 hgrow hat hlt9; have gx := (HB.out.trans ((gg.alloc gg.size _).mono hz)).grown hgrow (by have := gg.size; simp; omega) (fun g hg => (hown.lt g hg).1); clear _t))
      have hb9 : Below w.heap.size w w9 := gx
      have HO9 := hide hown9
      clear hgrow hown hat hlt9 own1 hown9
      go_wp2_with fail
      go_roundw
      case rel => exact ⟨k + 1, by omega, by simp, by rw [List.take_succ_eq_append_getElem hlt, List.map_append, List.flatMap_append]; simpa [ctrV, V3.cells] using HO9.out, hb9⟩
      case measure => simp [intOf] <;> omega
    · obtain rfl : k = l.length := by omega
      rw [List.take_of_length_le (Nat.le_refl _)] at hown
      obtain ⟨A9, c9, rfl, _, _, _⟩ := own_val hown
      have HO := hide (show SlV wr A9 (ctrs l) from own_sl hown); clear hown
      go_wp2_with fail
      go_ret
      exact ⟨A9, c9, rfl, HO.out, HB.out⟩
end Go.Proofs.Ytionbckpgfaneaa
