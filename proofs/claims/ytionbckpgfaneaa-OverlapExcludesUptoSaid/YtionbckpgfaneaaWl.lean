/- Walks, part l: points as boxes. -/
import Derived.Test.YtionbckpgfaneaaWe
import Derived.Test.YtionbckpgfaneaaWj
import Derived.Deep.RegionHeld3
namespace Go.Proofs.Ytionbckpgfaneaa
open Go.RowKit
set_option maxHeartbeats 1000000
set_option maxRecDepth 100000
/-- armplanref1.Of -/
theorem of_any (x : Int) (w : World) :
    Calls Try.prog 119 #[.int .i64 x] w fun e w' => e = .returned (.agg #[.int .i64 (clampF x), .int .i64 (clampF x)]) ∧ Below w.heap.size w w' := by
  go_enter Try.func119, Try.ntmps119
  go_wp2_with (go_at_call 153; refine (clamp_any _ _).mono ?_; rintro e w' ⟨rfl, rfl⟩)
  go_returns
  exact ⟨rfl, by go_grown⟩
def ptI (v : V3) : IV := ⟨⟨clampF v.x, clampF v.x⟩, ⟨clampF v.y, clampF v.y⟩, ⟨clampF v.z, clampF v.z⟩⟩
/-- armplanref1.Point -/
theorem point_any (v : V3) (w : World) :
    Calls Try.prog 66 #[v.v] w fun e w' => e = .returned (ptI v).v ∧ Below w.heap.size w w' := by
  unfold V3.v
  obtain ⟨W, hW⟩ : ∃ W, W = (w.alloc (.cells #[.int .i64 v.x, .int .i64 v.y, .int .i64 v.z] 47)).alloc (.cells #[.int .i64 0, .int .i64 0, .int .i64 0, .int .i64 0, .int .i64 0, .int .i64 0] 44) := ⟨_, rfl⟩
  have hz : W.heap.size = w.heap.size + 2 := by rw [hW]; simp
  have hN : W.heap[w.heap.size]? = some (.cells #[.int .i64 v.x, .int .i64 v.y, .int .i64 v.z] 47 (0, 0)) := by rw [hW]; exact (Below.heap_alloc _ _ _ (by simp)).trans (heap_alloc_new w _)
  have hM : W.heap[w.heap.size + 1]? = some (.cells #[.int .i64 0, .int .i64 0, .int .i64 0, .int .i64 0, .int .i64 0, .int .i64 0] 44 (0, 0)) := by rw [hW]; exact new_at _ _ (by simp)
  have hB : Below w.heap.size w W := by rw [hW]; go_grown
  go_enter Try.func66, Try.ntmps66
  go_wp2_with fail
  rw [← hW]
  have c0 : W.cell? ⟨w.heap.size, 0, none⟩ = some (.int .i64 v.x) := (blk_cell hN 0).trans rfl
  have c1 : W.cell? ⟨w.heap.size, 1, none⟩ = some (.int .i64 v.y) := (blk_cell hN 1).trans rfl
  have c2 : W.cell? ⟨w.heap.size, 2, none⟩ = some (.int .i64 v.z) := (blk_cell hN 2).trans rfl
  have HN := hide hN; have HM := hide hM; have HB := hide hB; have HZ := hide hz
  have hz0 : w.heap.size < W.heap.size := by omega
  have hz1 : w.heap.size + 1 < W.heap.size := by omega
  clear hW hN hM hB hz
  go_region_held3 (fun w' => w'.cell? ⟨w.heap.size, 0, none⟩ = some (.int .i64 v.x) ∧ w'.cell? ⟨w.heap.size, 1, none⟩ = some (.int .i64 v.y) ∧ w'.cell? ⟨w.heap.size, 2, none⟩ = some (.int .i64 v.z))
    (first | go_keep | exact ⟨d0, d1, d2⟩)
    (first | (go_at_call 119; have _t := b6; (with_reducible refine (of_any _ _).mono ?_); rintro e w7 ⟨rfl, b7⟩; have d0 := (b7.cell (p := ⟨w.heap.size, 0, none⟩) y6).trans d0; have d1 := (b7.cell (p := ⟨w.heap.size, 1, none⟩) y6).trans d1; have d2 := (b7.cell (p := ⟨w.heap.size, 2, none⟩) y6).trans d2; have hm7 := (b7.block _ x6).trans ((b6.block _ x5).trans ((b5.block _ hz1).trans HM.out)); have m0 := blk_cell hm7; have m1 := blk_frozen hm7; clear hm7) | (go_at_call 119; have _t := b5; (with_reducible refine (of_any _ _).mono ?_); rintro e w6 ⟨rfl, b6⟩; have y6 : w.heap.size < w6.heap.size := Nat.lt_of_lt_of_le y5 b6.size; have x6 : w.heap.size + 1 < w6.heap.size := Nat.lt_of_lt_of_le x5 b6.size; have d0 := (b6.cell (p := ⟨w.heap.size, 0, none⟩) y5).trans d0; have d1 := (b6.cell (p := ⟨w.heap.size, 1, none⟩) y5).trans d1; have d2 := (b6.cell (p := ⟨w.heap.size, 2, none⟩) y5).trans d2) | (go_at_call 119; (with_reducible refine (of_any _ _).mono ?_); rintro e w5 ⟨rfl, b5⟩; have z5 : W.heap.size ≤ w5.heap.size := b5.size; have y5 : w.heap.size < w5.heap.size := Nat.lt_of_lt_of_le hz0 z5; have x5 : w.heap.size + 1 < w5.heap.size := Nat.lt_of_lt_of_le hz1 z5; have d0 := (b5.cell (p := ⟨w.heap.size, 0, none⟩) hz0).trans c0; have d1 := (b5.cell (p := ⟨w.heap.size, 1, none⟩) hz0).trans c1; have d2 := (b5.cell (p := ⟨w.heap.size, 2, none⟩) hz0).trans c2))
  have hb7 : Below w.heap.size w w7 := ((HB.out.drew.trans (b5.mono (Nat.le_of_lt hz0))).trans (b6.mono (Nat.le_of_lt y5))).trans (b7.mono (Nat.le_of_lt y6))
  have H7 := hide hb7
  clear hb7 b5 b6 b7
  go_wp2_with fail
  refine bodyPost_ret (v := (ptI v).v) (by simp [results, Try.results66, go_sem, m0, ptI, IV.v]) rfl ⟨rfl, ?_⟩
  exact (((((H7.out.setCell (by simp) _).setCell (by simp) _).setCell (by simp) _).setCell (by simp) _).setCell (by simp) _).setCell (by simp) _

/-- armplanmake.Boxed -/
def BoxedPost (l : List V3) (w : World) (e : Ending) (w' : World) : Prop := ∃ v, e = .returned v ∧ w'.ownsRow w.heap.size 44 6 v l.length ((l.map ptI).flatMap IV.cells) ∧ Below w.heap.size w w'
theorem boxed_any (A : Option Addr) (l : List V3) (c : Nat) (w : World) (hs : SlV w A l) (hm : l.length ≤ 1000000) :
    Calls Try.prog 84 #[.slice A l.length c] w (BoxedPost l w) := by
  have HS := hide hs
  obtain ⟨i0, hi0, hz0, hz1, hz2⟩ := info_parts info44
  clear hs
  go_enter Try.func84, Try.ntmps84
  go_wp2_with fail
  go_loopw [3, 4] (fun v i wr => ∃ k : Nat, k ≤ l.length ∧ i = .int .i64 k ∧ wr.ownsRow w.heap.size 44 6 v k (((l.take k).map ptI).flatMap IV.cells) ∧ Below w.heap.size w wr) (fun _ i _ => l.length - (intOf i).toNat)
  case atStart => exact ⟨0, by omega, rfl, World.ownsRow_nil _ _ _ _, Below.refl _ _⟩
  case round =>
    obtain ⟨k, hk, rfl, hown, hb⟩ := hrel
    have HO := hide hown; have HB := hide hb; have hz := hb.size
    clear hown hb
    by_cases hlt : k < l.length
    · obtain ⟨b, off, rfl, hbb⟩ := HS.out.addr (by omega)
      obtain ⟨h0, h1, h2⟩ := (HS.out.below HB.out).at_ hlt
      go_wp2_with fail
      refine (point_any l[k] _).mono ?_
      rintro e w1 ⟨rfl, hb1⟩
      unfold IV.v ptI
      have own1 := own_below HO.out hb1
      have B1 := hide (HB.out.trans (hb1.mono hz))
      have hz1w := hb1.size
      clear hb1
      go_wp2_with (at_builtin; refine wpList_append_own _ rfl _ _ 23 rfl w.heap.size 44 i0 _ 6 48 Try.underlying23 hi0 hz0 hz1 hz2 rfl (by decide) u3 k _ rfl (own1.alloc _) ⟨w1.heap.size, 0, none⟩ 1 1 (ptI l[k]).cells rfl rfl ?c1 ?c2 ?c3 ?c4 ?c5 ?_)
      case c1 => exact news_at (heap_alloc_new w1 _)
      case c2 => simp [Value.oneCell', IV.cells]
      case c3 => unfold maxLen; omega
      case c4 => omega
      case c5 => simp; omega
      intro v' w9 hown9 hg9 _
      have hb9 : Below w.heap.size w w9 := (B1.out.alloc (by omega) _).grown hg9 (by simp; omega) (fun g hg => (own1.lt g hg).1)
      clear hg9 own1
      go_wp2_with fail
      go_roundw
      case rel => exact ⟨k + 1, by omega, by simp, by rw [List.take_succ_eq_append_getElem hlt, List.map_append, List.flatMap_append]; simpa only [List.map_cons, List.map_nil, List.flatMap_cons, List.flatMap_nil, List.append_nil, List.map_take] using hown9, hb9⟩
      case measure => simp [intOf] <;> omega
    · obtain rfl : k = l.length := by omega
      have hO := HO.out
      rw [List.take_of_length_le (Nat.le_refl _)] at hO
      clear HO
      go_wp2_with fail
      go_ret
      exact ⟨_, rfl, hO, HB.out⟩
end Go.Proofs.Ytionbckpgfaneaa
