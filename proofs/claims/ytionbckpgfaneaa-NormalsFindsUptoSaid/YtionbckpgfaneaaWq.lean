/- Walks, part q: Corners and the references' Sum. -/
import Derived.Test.YtionbckpgfaneaaXb
import Derived.Test.YtionbckpgfaneaaXa
import Derived.Deep.RegionHeld3
import Derived.Deep.AppendLies
import Derived.Deep.DrawnRows
namespace Go.Proofs.Ytionbckpgfaneaa
open Go.RowKit
set_option maxHeartbeats 1000000
set_option maxRecDepth 100000
attribute [local go_sem ↓] Go.wp_at_zero Go.wp_at_succ
theorem info47 : (Try.prog.info? 47).map (fun i => (i.zero, i.size, i.bytes)) = some (some (.agg #[.int .i64 0, .int .i64 0, .int .i64 0]), 3, 24) := by kernel_rfl
def CornersPost (l : List IV) (w : World) (e : Ending) (w' : World) : Prop := ∃ v, e = .returned v ∧ w'.ownsRow w.heap.size 47 3 v l.length ((l.map cornerV).flatMap V3.cells) ∧ Below w.heap.size w w'
theorem corners_any (A : Option Addr) (l : List IV) (c : Nat) (w : World) (hs : SlI w A l) (hm : l.length ≤ 1000000) :
    Calls Try.prog 52 #[.slice A l.length c] w (CornersPost l w) := by
  have HS := hide hs
  obtain ⟨i0, hi0, hz0, hz1, hz2⟩ := info_parts info47
  clear hs
  go_enter Try.func52, Try.ntmps52
  go_wp2_with fail
  go_loopw [3, 4] (fun v i wr => ∃ k : Nat, k ≤ l.length ∧ i = .int .i64 k ∧ wr.ownsRow w.heap.size 47 3 v k (((l.take k).map cornerV).flatMap V3.cells) ∧ Below w.heap.size w wr) (fun _ i _ => l.length - (intOf i).toNat)
  case atStart => exact ⟨0, by omega, rfl, World.ownsRow_nil _ _ _ _, Below.refl _ _⟩
  case round =>
    obtain ⟨k, hk, rfl, hown, hb⟩ := hrel
    have HB := hide hb; have hz := hb.size
    clear hb
    by_cases hlt : k < l.length
    · obtain ⟨b, off, rfl, hbb⟩ := HS.out.addr (by omega)
      obtain ⟨h0, h1, h2, h3, h4, h5⟩ := (HS.out.below HB.out).at_ hlt
      have hi1 : (0 : Int) ≤ (k : Int) := Int.natCast_nonneg _
      have hi2 : (k : Int) < (l.length : Int) := by omega
      have hbr : b < wr.heap.size := by omega
      have hno : u3.ownBlock ≠ some b := fun e => by have := (hown.lt b e).1; omega
      clear h1 h3 h5
      go_wp2_with fail
      go_region_held3 (fun w' => w'.cell? ⟨b, off + k * 6, none⟩ = some (.int .i64 l[k].x.lo) ∧ w'.cell? ⟨b, off + k * 6 + 2, none⟩ = some (.int .i64 l[k].y.lo) ∧ w'.cell? ⟨b, off + k * 6 + 4, none⟩ = some (.int .i64 l[k].z.lo))
        (first | go_keep | (go_split_ands; refine ⟨?_, ?_, ?_⟩ <;> (rw [hgrow.cell_far _ (by simp; omega) (Ne.symm hno)]; assumption)))
        ((refine step_append_lies _ (by rfl) _ _ _ (by rfl) w.heap.size 47 i0 _ 3 24 Try.underlying49 hi0 hz0 hz1 hz2 rfl (by omega) u3 k _ (by rfl) ((hown.alloc _).drew) ⟨wr.heap.size, 0, none⟩ 1 1 [.int .i64 l[k].x.lo, .int .i64 l[k].y.lo, .int .i64 l[k].z.lo] (by rfl) (by rfl) (World.news_of_block (cs := #[.int .i64 l[k].x.lo, .int .i64 l[k].y.lo, .int .i64 l[k].z.lo]) (t := 47) (fr := (0, 0)) (heap_alloc_new wr _)) (by simp [Value.oneCell']) (by omega) (by unfold maxLen; omega) (by omega) (by simp; omega) (wr.heap.size + 1) (by simp) ?_; intro gg cap w1 hown1 hgrow hat hlt1))
      have hb9 : Below w.heap.size w w1 := (HB.out.alloc (by omega) _).drew.grown hgrow (by simp; omega) (fun g hg => (hown.lt g hg).1)
      clear hgrow hown hat hlt1
      go_wp2_with fail
      go_roundw
      case rel => exact ⟨k + 1, by omega, by simp, by rw [List.take_succ_eq_append_getElem hlt, List.map_append, List.flatMap_append]; simpa [cornerV, V3.cells] using hown1, hb9⟩
      case measure => simp [intOf] <;> omega
    · obtain rfl : k = l.length := by omega
      rw [List.take_of_length_le (Nat.le_refl _)] at hown
      have HO := hide hown; clear hown
      go_wp2_with fail
      go_ret
      exact ⟨_, rfl, HO.out, HB.out⟩
end Go.Proofs.Ytionbckpgfaneaa
