/- Walks of the search, part g: what the laws of the search use. -/
import Derived.Test.YtionbckpgfaneaaXe
import Derived.Test.YtionbckpgfaneaaWq
import Derived.Test.YtionbckpgfaneaaXc
import Derived.Deep.RegionHeld3
import Derived.Deep.AppendLies
import Derived.Deep.DrawnRows
import Derived.Deep.QuietTactic
import Derived.BigQuiet
namespace Go.Proofs.Ytionbckpgfaneaa
open Go.RowKit
set_option maxHeartbeats 4000000
set_option maxRecDepth 100000
abbrev rad14 (r : Int) : Int := radOf 16 1 30000 100000 2097153 r
theorem rad14_bd (r : Int) : 0 ≤ rad14 r ∧ rad14 r ≤ 2097152 := by
  have := radOf_bd 16 1 30000 100000 2097153 r (by omega) (by omega) (by omega) (by omega) (by omega) (by omega) (by omega)
  unfold rad14
  omega
def HullsPost (rho : Int) (w : World) (e : Ending) (w' : World) : Prop :=
  ∃ (x y : List V3) (A B : Option Addr) (c d : Nat), e = .returned (.tuple #[.slice A x.length c, .slice B y.length d, .int .i64 (rad14 rho)]) ∧ Sml x ∧ Sml y ∧ x.length ≤ c ∧ y.length ≤ d ∧ SlV w' A x ∧ SlV w' B y ∧ Below w.heap.size w w'
/-- armplanlaw14.hulls -/
theorem hulls_any (A B : Option Addr) (l m : List Int) (c d : Nat) (rho : Int) (w : World) (hs : SlN w A l) (ht : SlN w B m) (hl : l.length ≤ 9223372036854775807) (hm : m.length ≤ 9223372036854775807) (hr : I64 rho) :
    Calls Try.prog 78 #[.slice A l.length c, .slice B m.length d, .int .i64 rho] w (HullsPost rho w) := by
  have HS := hide hs; have HT := hide ht
  clear hs ht
  obtain ⟨h1, h2⟩ := hr
  have hi := index114 1 30000 100000 2097153 rho
  have hp : 0 < sel4 1 30000 100000 2097153 (bits .and .i64 rho 3) ∧ sel4 1 30000 100000 2097153 (bits .and .i64 rho 3) ≤ 9223372036854775807 := by
    unfold sel4; split
    · omega
    · split
      · omega
      · split <;> omega
  obtain ⟨p1, p2⟩ := hp
  go_enter Try.func78, Try.ntmps78
  go_wp2_with fail
  have gg : Below w.heap.size w w.drew := (Below.refl _ _).drew
  go_region_held3 (fun _ => True) (trivial)
    (first | (go_at_call 50; (with_reducible refine (round_any _ _ _ p1 p2).mono ?_); rintro e w' ⟨rfl, rfl⟩) | (go_at_call 41; (with_reducible refine (points_any A l c 0 _ (HS.out.below gg) hl (by omega) (by omega)).mono ?_); rintro e w2 ⟨vx, px, rfl, lx1, lx5, okx, hox, b2⟩; have gg := gg.trans (b2.mono gg.size); obtain ⟨Ax, cx, rfl, _, _, _⟩ := own_val hox; have SX : SlI w2 Ax px := own_sl hox) | (go_at_call 52; (with_reducible refine (corners_any Ax px cx _ SX (by omega)).mono ?_); rintro e w3 ⟨vu, rfl, hou, b3⟩; have gg := gg.trans (b3.mono gg.size); obtain ⟨Au, cu, rfl, lcu, _, _⟩ := own_val hou; have SU : SlV w3 Au (px.map cornerV) := own_sl hou) | (go_at_call 41; (with_reducible refine (points_any B m d 0 _ (HT.out.below gg) hm (by omega) (by omega)).mono ?_); rintro e w4 ⟨vy, py, rfl, ly1, ly5, oky, hoy, b4⟩; have gg := gg.trans (b4.mono gg.size); obtain ⟨Ay, cy, rfl, _, _, _⟩ := own_val hoy; have SY : SlI w4 Ay py := own_sl hoy) | (go_at_call 52; (with_reducible refine (corners_any Ay py cy _ SY (by omega)).mono ?_); rintro e w5 ⟨vv, rfl, hov, b5⟩; have gg := gg.trans (b5.mono gg.size); obtain ⟨Av, cv, rfl, lcv, _, _⟩ := own_val hov; have SV : SlV w5 Av (py.map cornerV) := own_sl hov))
  all_goals
    have SUU := hide (SU.below (b4.trans (b5.mono b4.size))); have SVV := hide SV; have GG := hide gg; have OKX := hide okx; have OKY := hide oky
    clear SU SV SX SY gg okx oky hox hoy hou hov
    go_wp2_with fail
    go_ret3
    exact ⟨px.map cornerV, py.map cornerV, Au, Av, cu, cv, by rw [List.length_map, List.length_map]; rfl, sml_corner lx1 lx5 OKX.out, sml_corner ly1 ly5 OKY.out, by simpa using lcu, by simpa using lcv, SUU.out, SVV.out, GG.out⟩
/-- armplanlaw14.weights, of weights -/
theorem weights14_any (A : Option Addr) (l : List Int) (c n : Nat) (w : World) (hs : SlN w A l) (hW : WI l n) (hn : n ≤ 8) :
    Calls Try.prog 82 #[.slice A n c, .int .i64 n] w fun e w' => e = .returned (.bool true) ∧ w = w' := by
  have HS := hide hs; have HW := hide hW.bd
  obtain ⟨rfl, _, hsum⟩ := hW
  have HSUM := hide hsum
  clear hs hsum
  go_enter Try.func82, Try.ntmps82
  go_wp2_with fail
  go_loop [5] (fun i => ∃ k : Nat, k ≤ l.length ∧ i = .int .i64 k) (fun i => l.length - (intOf i).toNat)
  case atStart => exact ⟨0, by omega, rfl⟩
  case round =>
    obtain ⟨k, hk, rfl⟩ := hrel
    by_cases hlt : k < l.length
    · obtain ⟨b, off, rfl, hb0⟩ := HS.out.addr (by omega)
      have hc := HS.out.at_ hlt
      obtain ⟨hx0, hx1⟩ := HW.out l[k] (by simp)
      go_wp2_with fail
      go_round
      case rel => exact ⟨k + 1, by omega, by simp⟩
      case measure => simp [intOf] <;> omega
    · have he : ((l.length : Int) == (l.length : Int)) = true := by simp
      go_wp2_with fail
      refine (total_any A l c _ HS.out (fun x hx => by have := HW.out x hx; omega) (by omega)).mono ?_
      rintro e w' ⟨rfl, rfl⟩
      rw [HSUM.out]
      go_wp2_with fail
      go_ret
      exact ⟨rfl, rfl⟩
/-- armplanmake.Same of equal lists -/
theorem same131 (A B : Option Addr) (l : List Int) (c d : Nat) (w : World) (hs : SlN w A l) (ht : SlN w B l) (hn : l.length ≤ 8) :
    Calls Try.prog 131 #[.slice A l.length c, .slice B l.length d] w fun e w' => e = .returned (.bool true) ∧ Below w.heap.size w w' := by
  have HS := hide hs; have HT := hide ht
  clear hs ht
  have hne : ((l.length : Int) != (l.length : Int)) = false := by simp
  go_enter Try.func131, Try.ntmps131
  go_wp2_with fail
  go_loopw [5] (fun i wr => ∃ k : Nat, k ≤ l.length ∧ i = .int .i64 k ∧ Below w.heap.size w wr) (fun i _ => l.length - (intOf i).toNat)
  case atStart => exact ⟨0, by omega, rfl, Below.refl _ _⟩
  case round =>
    obtain ⟨k, hk, rfl, hB⟩ := hrel
    have HB := hide hB; clear hB
    by_cases hlt : k < l.length
    · obtain ⟨b, off, rfl, hb0⟩ := HS.out.addr (by omega)
      obtain ⟨b', off', rfl, hb0'⟩ := HT.out.addr (by omega)
      have hc := (HS.out.below HB.out).at_ hlt
      have hc' := (HT.out.below HB.out).at_ hlt
      have hxx : (l[k] != l[k]) = false := by simp
      go_wp2_with fail
      go_quiet (fail)
      go_wp2_with fail
      go_roundw
      case rel => exact ⟨k + 1, by omega, by simp, below_drewN HB.out _⟩
      case measure => simp [intOf] <;> omega
    · go_wp2_with fail
      go_ret
      exact ⟨rfl, HB.out⟩
def MovedPost (l : List V3) (t : V3) (w : World) (e : Ending) (w' : World) : Prop := ∃ (A : Option Addr) (c : Nat), e = .returned (.slice A l.length c) ∧ SlV w' A (l.map (addV · t)) ∧ Below w.heap.size w w'
/-- armplanlaw14.moved -/
theorem moved_any (A : Option Addr) (l : List V3) (c : Nat) (t : V3) (w : World) (hs : SlV w A l) (hm : l.length ≤ 8) (hl : ∀ v ∈ l, Sm v) (ht : (-4194304 ≤ t.x ∧ t.x ≤ 4194304) ∧ (-4194304 ≤ t.y ∧ t.y ≤ 4194304) ∧ (-4194304 ≤ t.z ∧ t.z ≤ 4194304)) :
    Calls Try.prog 88 #[.slice A l.length c, .agg #[.int .i64 t.x, .int .i64 t.y, .int .i64 t.z]] w (MovedPost l t w) := by
  have HS := hide hs; have HL := hide hl
  obtain ⟨i0, hi0, hz0, hz1, hz2⟩ := info_parts info47
  obtain ⟨⟨t1, t2⟩, ⟨t3, t4⟩, t5, t6⟩ := ht
  clear hs hl
  go_enter Try.func88, Try.ntmps88
  go_wp2_with fail
  go_loopw [5, 6] (fun v i wr => ∃ k : Nat, k ≤ l.length ∧ i = .int .i64 k ∧ wr.ownsRow (w.heap.size + 1) 47 3 v k (((l.take k).map (addV · t)).flatMap V3.cells) ∧ wr.heap[w.heap.size]? = some (.cells (vcs t) 47 (0, 0)) ∧ Below w.heap.size w wr) (fun _ i _ => l.length - (intOf i).toNat)
  case atStart => exact ⟨0, by omega, rfl, World.ownsRow_nil _ _ _ _, heap_alloc_new w _, by go_grown⟩
  case round =>
    obtain ⟨k, hk, rfl, hown, hT, hb⟩ := hrel
    have HB := hide hb; have hz := hb.size
    have yT : w.heap.size < wr.heap.size := by
      obtain ⟨h, _⟩ := Array.getElem?_eq_some_iff.mp hT
      exact h
    have HTT := hide hT
    have cT := blk_cell hT; simp only [vcs] at cT
    clear hb hT
    by_cases hlt : k < l.length
    · obtain ⟨b, off, rfl, hbb⟩ := HS.out.addr (by omega)
      obtain ⟨h0, h1, h2⟩ := (HS.out.below HB.out).at_ hlt
      obtain ⟨⟨v1, v2⟩, ⟨v3, v4⟩, v5, v6⟩ := HL.out l[k] (by simp)
      have hi1 : (0 : Int) ≤ (k : Int) := Int.natCast_nonneg _
      have hi2 : (k : Int) < (l.length : Int) := by omega
      have hbr : b < wr.heap.size := by omega
      have hno : u5.ownBlock ≠ some b := fun e => by have := (hown.lt b e).1; omega
      have hno2 : u5.ownBlock ≠ some w.heap.size := fun e => by have := (hown.lt _ e).1; omega
      have g0 : wr.cell? ⟨w.heap.size, 0, none⟩ = some (.int .i64 t.x) := by rw [cT]; rfl
      have g1 : wr.cell? ⟨w.heap.size, 1, none⟩ = some (.int .i64 t.y) := by rw [cT]; rfl
      have g2 : wr.cell? ⟨w.heap.size, 2, none⟩ = some (.int .i64 t.z) := by rw [cT]; rfl
      have q0 : IntKind.i64.wrap (l[k].x + t.x) = l[k].x + t.x := IntWalk.i64_in (l[k].x + t.x) (by omega)
      have q1 : IntKind.i64.wrap (l[k].y + t.y) = l[k].y + t.y := IntWalk.i64_in (l[k].y + t.y) (by omega)
      have q2 : IntKind.i64.wrap (l[k].z + t.z) = l[k].z + t.z := IntWalk.i64_in (l[k].z + t.z) (by omega)
      clear cT
      go_wp2_with fail
      go_region_held3 (fun w' => w'.cell? ⟨w.heap.size, 0, none⟩ = some (.int .i64 t.x) ∧ w'.cell? ⟨w.heap.size, 1, none⟩ = some (.int .i64 t.y) ∧ w'.cell? ⟨w.heap.size, 2, none⟩ = some (.int .i64 t.z) ∧ w'.cell? ⟨b, off + k * 3, none⟩ = some (.int .i64 l[k].x) ∧ w'.cell? ⟨b, off + k * 3 + 1, none⟩ = some (.int .i64 l[k].y) ∧ w'.cell? ⟨b, off + k * 3 + 2, none⟩ = some (.int .i64 l[k].z))
        (first | go_keep | (go_split_ands; refine ⟨?_, ?_, ?_, ?_, ?_, ?_⟩ <;> (first | (rw [hgrow.cell_far _ (by simp; omega) (Ne.symm hno2)]; assumption) | (rw [hgrow.cell_far _ (by simp; omega) (Ne.symm hno)]; assumption))))
        ((refine step_append_lies _ (by rfl) _ _ _ (by rfl) (w.heap.size + 1) 47 i0 _ 3 24 Try.underlying49 hi0 hz0 hz1 hz2 rfl (by omega) u5 k _ (by rfl) ((hown.alloc _).drew) ⟨wr.heap.size, 0, none⟩ 1 1 [.int .i64 (l[k].x + t.x), .int .i64 (l[k].y + t.y), .int .i64 (l[k].z + t.z)] (by rfl) (by rfl) (World.news_of_block (cs := #[.int .i64 (l[k].x + t.x), .int .i64 (l[k].y + t.y), .int .i64 (l[k].z + t.z)]) (t := 47) (fr := (0, 0)) (heap_alloc_new wr _)) (by simp [Value.oneCell']) (by omega) (by unfold maxLen; omega) (by omega) (by simp; omega) (wr.heap.size + 1) (by simp) ?_; intro gg cap w1 hown1 hgrow hat hlt1))
      have hb9 : Below w.heap.size w w1 := (HB.out.alloc (by omega) _).drew.grown hgrow (by simp; omega) (fun g hg => by have := (hown.lt g hg).1; omega)
      have hT9 : w1.heap[w.heap.size]? = some (.cells (vcs t) 47 (0, 0)) := (hgrow.block _ (by simp; omega) (Ne.symm hno2)).trans ((Below.heap_alloc _ _ _ yT).trans HTT.out)
      clear hgrow hown hat hlt1
      go_wp2_with fail
      go_roundw
      case rel => exact ⟨k + 1, by omega, by simp, by rw [List.take_succ_eq_append_getElem hlt, List.map_append, List.flatMap_append]; simpa [addV, V3.cells] using hown1, hT9, hb9⟩
      case measure => simp [intOf] <;> omega
    · obtain rfl : k = l.length := by omega
      rw [List.take_of_length_le (Nat.le_refl _)] at hown
      obtain ⟨A9, c9, rfl, _, _, _⟩ := own_val hown
      have HO := hide (show SlV wr A9 (l.map (addV · t)) from own_sl hown); clear hown
      go_wp2_with fail
      go_ret
      exact ⟨A9, c9, rfl, HO.out, HB.out⟩
end Go.Proofs.Ytionbckpgfaneaa
