/- Walks, part p: Part and Chosen. -/
import Derived.Test.YtionbckpgfaneaaXb
namespace Go.Proofs.Ytionbckpgfaneaa
open Go.RowKit
set_option maxHeartbeats 1000000
set_option maxRecDepth 100000
/-- armplanmake.Part, for a point -/
def PartPost (a : Iv) (w : World) (e : Ending) (w' : World) : Prop := ∃ x : Int, a.lo ≤ x ∧ x ≤ a.hi ∧ e = .returned (.agg #[.int .i64 x, .int .i64 x]) ∧ Below w.heap.size w w'
theorem part_point (a : Iv) (m : Int) (w : World) (h1 : -1000000000 ≤ a.lo) (h2 : a.lo ≤ a.hi) (h3 : a.hi ≤ 1000000000) :
    Calls Try.prog 107 #[.agg #[.int .i64 a.lo, .int .i64 a.hi], .int .i64 m, .int .i64 0] w (PartPost a w) := by
  have e0 : bits .and .i64 0 1 = 0 := by kernel_rfl
  have r0 := Int.emod_nonneg m (b := a.hi - a.lo + 1) (by omega)
  have r1 := Int.emod_lt_of_pos m (b := a.hi - a.lo + 1) (by omega)
  go_enter Try.func107, Try.ntmps107
  go_wp2_with fail
  go_quiet ((go_at_call 50; exact quiet_same (round_any _ _ _ (by omega) (by omega))))
  go_wp2_with fail
  refine bodyPost_ret (v := .agg #[.int .i64 (a.lo + m % (a.hi - a.lo + 1)), .int .i64 (a.lo + m % (a.hi - a.lo + 1))]) (by simp [results, Try.results107, go_sem]) rfl ⟨_, by omega, by omega, rfl, ?_⟩
  go_grown
  refine below_drewN ?_ _
  go_grown
/-- what the rounds of Chosen keep beside: the box that is filled -/
theorem SKeep.setV {w0 ww : World} {N n sz V : Nat} {E : TypeId} {v : Value} {xs : List Value} (h : SKeep w0 N E sz v n xs ww) (hNV : N < V) (hv : ∀ g, v.ownBlock = some g → g < V) (i : Nat) (u : Value) : SKeep w0 N E sz v n xs (ww.setCell ⟨V, i, none⟩ u) := by
  obtain ⟨h1, h2, h3⟩ := h
  refine ⟨h1.kept (grown_set ww V i u) ?_, h2.keep (by simp [World.setCell]) (fun k hk => Below.heap_setCell ww ⟨V, i, none⟩ u k (by simp; omega)), h3.setCell (by simp; omega) u⟩
  rcases hv' : v.ownBlock with _ | g
  · exact .inl rfl
  · right
    have := hv g hv'
    simp; omega
theorem keep2 {w : World} {g V o1 o2 i j : Nat} {x y : Value} {a b : Option Value} (h : g ≠ V) (d0 : w.cell? ⟨g, o1, none⟩ = a) (d1 : w.cell? ⟨g, o2, none⟩ = b) :
    ((w.setCell ⟨V, i, none⟩ x).setCell ⟨V, j, none⟩ y).cell? ⟨g, o1, none⟩ = a ∧ ((w.setCell ⟨V, i, none⟩ x).setCell ⟨V, j, none⟩ y).cell? ⟨g, o2, none⟩ = b := by
  have e : ∀ o k, (⟨V, k, none⟩ : Addr) ≠ ⟨g, o, none⟩ := fun o k hh => by injection hh with h1; exact h h1.symm
  rw [World.cell?_setCell_other _ _ _ _ (e _ _), World.cell?_setCell_other _ _ _ _ (e _ _), World.cell?_setCell_other _ _ _ _ (e _ _), World.cell?_setCell_other _ _ _ _ (e _ _)]
  exact ⟨d0, d1⟩
def ChosenPost (l : List IV) (w : World) (e : Ending) (w' : World) : Prop :=
  ∃ (v : Value) (pts : List IV), e = .returned v ∧ ChosenOf pts l ∧ w'.ownsRow w.heap.size 44 6 v pts.length (pts.flatMap IV.cells) ∧ Below w.heap.size w w'
def ChPre (pts l : List IV) : Prop := ∀ j (h : j < pts.length) (h' : j < l.length), ChIn pts[j] l[j]
theorem ChPre.snoc {pts l : List IV} {p : IV} (h : ChPre pts l) (hk : pts.length < l.length) (hp : ChIn p l[pts.length]) : ChPre (pts ++ [p]) l := fun j hj hj' => by
  rcases Nat.lt_or_ge j pts.length with h1 | h1
  · rw [List.getElem_append_left h1]; exact h j h1 hj'
  · obtain rfl : j = pts.length := by simp at hj; omega
    simpa using hp
def ChHead (w0 : World) (N : Nat) (l : List IV) (v i : Value) (wr : World) : Prop :=
  ∃ pts : List IV, i = .int .i64 pts.length ∧ pts.length ≤ l.length ∧ ChPre pts l ∧ SKeep w0 N 44 6 v pts.length (pts.flatMap IV.cells) wr
def ChRound (w0 : World) (N V : Nat) (b : IV) (v : Value) (n : Nat) (xs : List Value) (i : Value) (ww : World) : Prop :=
  ∃ (k : Int) (a0 b0 a1 b1 a2 b2 : Int), i = .int .i64 k ∧ (0 ≤ k ∧ k ≤ 3) ∧ (0 < k → PtIn ⟨a0, b0⟩ b.x) ∧ (1 < k → PtIn ⟨a1, b1⟩ b.y) ∧ (2 < k → PtIn ⟨a2, b2⟩ b.z) ∧
    ww.heap[V]? = some (.cells #[.int .i64 a0, .int .i64 b0, .int .i64 a1, .int .i64 b1, .int .i64 a2, .int .i64 b2] 44 (0, 0)) ∧ SKeep w0 N 44 6 v n xs ww ∧ V < ww.heap.size
theorem chosen_any (A B : Option Addr) (l : List IV) (m : List Int) (c d : Nat) (w : World) (hs : SlI w A l) (ht : SlN w B m) (hl : l.length ≤ 1000) (hm : m.length ≤ 9223372036854775807) (hok : ∀ p ∈ l, p.ok = true) :
    Calls Try.prog 49 #[.slice A l.length c, .slice B m.length d] w (ChosenPost l w) := by
  have H1 := Src.new d ht hm
  obtain ⟨i0, hi0, hz0, hz1, hz2⟩ := info_parts info44
  have HS := hide hs; have HOK := hide hok
  clear hs ht hok
  go_enter Try.func49, Try.ntmps49
  go_wp2_with fail
  refine (from_any _ _ _ _).mono ?_
  rintro e w1 ⟨rfl, rfl⟩
  have HK : SKeep w w.heap.size 44 6 (.slice none 0 0) 0 [] (w.alloc (.cells #[.slice B m.length d, .int .i64 0] 142)) := ⟨World.ownsRow_nil _ _ _ _, H1, (Below.refl _ _).alloc (Nat.le_refl _) _⟩
  clear H1
  go_wp2_with fail
  go_loopw [6, 7] (fun v i wr => ChHead w w.heap.size l v i wr) (fun _ i _ => l.length - (intOf i).toNat)
  case atStart => exact ⟨[], rfl, by simp, fun j h => by simp at h, HK⟩
  case round =>
    clear HK
    obtain ⟨wo, rfl⟩ : ∃ wo : World, wo = wr := ⟨_, rfl⟩
    obtain ⟨pts, rfl, hpl, hch, HK⟩ := hrel
    have HC := hide hch; clear hch
    have hzr := HK.src.lt
    by_cases hlt : pts.length < l.length
    · obtain ⟨g, off, rfl, hgl⟩ := HS.out.addr (by omega)
      have okk := ok_of (HOK.out l[pts.length] (by simp))
      go_wp2_with fail
      have HV := hide (fun g hg => (HK.own.lt g hg).2 : ∀ g, u6.ownBlock = some g → g < wo.heap.size)
      go_loopw [9] (fun i ww => ChRound w w.heap.size wo.heap.size l[pts.length] u6 pts.length (pts.flatMap IV.cells) i ww) (fun i _ => 3 - (intOf i).toNat)
      case atStart =>
        exact ⟨0, 0, 0, 0, 0, 0, 0, rfl, ⟨by omega, by omega⟩, by omega, by omega, by omega, heap_alloc_new wo _, HK.alloc _, by simp⟩
      case round =>
        clear HK
        obtain ⟨k, a0, b0, a1, b1, a2, b2, rfl, hk3, p0, p1, p2, hvb, HK, hzw⟩ := hrel
        have P0 := hide p0; have P1 := hide p1; have P2 := hide p2; have VB := hide hvb
        clear p0 p1 p2 hvb
        have SK := HK.src.drew
        have hgV : g ≠ wo.heap.size := by omega
        have hneV : some wo.heap.size ≠ some w.heap.size := by simp; omega
        obtain ⟨h0, h1, h2, h3, h4, h5⟩ := (HS.out.below HK.bel).at_ hlt
        obtain rfl | rfl | rfl | rfl : k = 0 ∨ k = 1 ∨ k = 2 ∨ k = 3 := by omega
        · go_wp2_with fail
          go_region_held3 (fun w' => w'.cell? ⟨g, off + pts.length * 6, none⟩ = some (.int .i64 l[pts.length].x.lo) ∧ w'.cell? ⟨g, off + pts.length * 6 + 1, none⟩ = some (.int .i64 l[pts.length].x.hi))
            (first | exact keep2 hgV d0 d1 | go_keep | exact ⟨d0, d1⟩)
            (first | (go_at_call 107; have _t := GX; (with_reducible refine (part_point l[pts.length].x _ _ (by omega) (by omega) (by omega)).mono ?_); rintro e w7 ⟨x2, hx1, hx2, rfl, GY⟩; have y7 : wo.heap.size < w7.heap.size := Nat.lt_of_lt_of_le y6 GY.size; have hv7 := (GY.block _ y6).trans hv6; have m0 := blk_cell hv7; have m1 := blk_frozen hv7; have d0 := (GY.cell (p := ⟨g, off + pts.length * 6, none⟩) (Nat.lt_of_lt_of_le hgl z6)).trans d0; have d1 := (GY.cell (p := ⟨g, off + pts.length * 6 + 1, none⟩) (Nat.lt_of_lt_of_le hgl z6)).trans d1) | (go_at_call 75; (with_reducible refine (next_any _ _ _ SK (by omega) (by omega)).mono ?_); rintro e w6 ⟨y1, hy3, hy4, rfl, SX, GX⟩; have z6 : w.heap.size ≤ w6.heap.size := Nat.le_of_lt SX.lt; have y6 : wo.heap.size < w6.heap.size := Nat.lt_of_lt_of_le hzw GX.size; have hv6 := (GX.block wo.heap.size hzw hneV).trans VB.out; have d0 := (far GX ⟨g, off + pts.length * 6, none⟩ (Nat.lt_trans hgl HK.src.lt) (by simp; omega)).trans h0; have d1 := (far GX ⟨g, off + pts.length * 6 + 1, none⟩ (Nat.lt_trans hgl HK.src.lt) (by simp; omega)).trans h1))
          have K7 : SKeep w w.heap.size 44 6 u6 pts.length (pts.flatMap IV.cells) w7 := (HK.drew.grown GX SX).below GY
          have HV7 := hide hv7
          clear hv7 hv6 GX GY SX HK SK m0 m1 d0 d1 h0 h1 h2 h3 h4 h5
          go_wp2_with fail
          go_roundw
          case rel => exact ⟨1, _, _, a1, b1, a2, b2, rfl, ⟨by omega, by omega⟩, fun _ => ⟨rfl, hx1, hx2⟩, fun h => absurd h (by omega), fun h => absurd h (by omega), blk_set (blk_set HV7.out 0 _) 1 _, (K7.setV hzr HV.out _ _).setV hzr HV.out _ _, by simpa [World.setCell] using y7⟩
          case measure => simp [intOf]
        · go_wp2_with fail
          go_region_held3 (fun w' => w'.cell? ⟨g, off + pts.length * 6 + 2, none⟩ = some (.int .i64 l[pts.length].y.lo) ∧ w'.cell? ⟨g, off + pts.length * 6 + 3, none⟩ = some (.int .i64 l[pts.length].y.hi))
            (first | exact keep2 hgV d0 d1 | go_keep | exact ⟨d0, d1⟩)
            (first | (go_at_call 107; have _t := GX; (with_reducible refine (part_point l[pts.length].y _ _ (by omega) (by omega) (by omega)).mono ?_); rintro e w7 ⟨x2, hx1, hx2, rfl, GY⟩; have y7 : wo.heap.size < w7.heap.size := Nat.lt_of_lt_of_le y6 GY.size; have hv7 := (GY.block _ y6).trans hv6; have m0 := blk_cell hv7; have m1 := blk_frozen hv7; have d0 := (GY.cell (p := ⟨g, off + pts.length * 6 + 2, none⟩) (Nat.lt_of_lt_of_le hgl z6)).trans d0; have d1 := (GY.cell (p := ⟨g, off + pts.length * 6 + 3, none⟩) (Nat.lt_of_lt_of_le hgl z6)).trans d1) | (go_at_call 75; (with_reducible refine (next_any _ _ _ SK (by omega) (by omega)).mono ?_); rintro e w6 ⟨y1, hy3, hy4, rfl, SX, GX⟩; have z6 : w.heap.size ≤ w6.heap.size := Nat.le_of_lt SX.lt; have y6 : wo.heap.size < w6.heap.size := Nat.lt_of_lt_of_le hzw GX.size; have hv6 := (GX.block wo.heap.size hzw hneV).trans VB.out; have d0 := (far GX ⟨g, off + pts.length * 6 + 2, none⟩ (Nat.lt_trans hgl HK.src.lt) (by simp; omega)).trans h2; have d1 := (far GX ⟨g, off + pts.length * 6 + 3, none⟩ (Nat.lt_trans hgl HK.src.lt) (by simp; omega)).trans h3))
          have K7 : SKeep w w.heap.size 44 6 u6 pts.length (pts.flatMap IV.cells) w7 := (HK.drew.grown GX SX).below GY
          have HV7 := hide hv7
          clear hv7 hv6 GX GY SX HK SK m0 m1 d0 d1 h0 h1 h2 h3 h4 h5
          go_wp2_with fail
          go_roundw
          case rel => exact ⟨2, a0, b0, _, _, a2, b2, rfl, ⟨by omega, by omega⟩, fun _ => P0.out (by omega), fun _ => ⟨rfl, hx1, hx2⟩, fun h => absurd h (by omega), blk_set (blk_set HV7.out 2 _) 3 _, (K7.setV hzr HV.out _ _).setV hzr HV.out _ _, by simpa [World.setCell] using y7⟩
          case measure => simp [intOf]
        · go_wp2_with fail
          go_region_held3 (fun w' => w'.cell? ⟨g, off + pts.length * 6 + 4, none⟩ = some (.int .i64 l[pts.length].z.lo) ∧ w'.cell? ⟨g, off + pts.length * 6 + 5, none⟩ = some (.int .i64 l[pts.length].z.hi))
            (first | exact keep2 hgV d0 d1 | go_keep | exact ⟨d0, d1⟩)
            (first | (go_at_call 107; have _t := GX; (with_reducible refine (part_point l[pts.length].z _ _ (by omega) (by omega) (by omega)).mono ?_); rintro e w7 ⟨x2, hx1, hx2, rfl, GY⟩; have y7 : wo.heap.size < w7.heap.size := Nat.lt_of_lt_of_le y6 GY.size; have hv7 := (GY.block _ y6).trans hv6; have m0 := blk_cell hv7; have m1 := blk_frozen hv7; have d0 := (GY.cell (p := ⟨g, off + pts.length * 6 + 4, none⟩) (Nat.lt_of_lt_of_le hgl z6)).trans d0; have d1 := (GY.cell (p := ⟨g, off + pts.length * 6 + 5, none⟩) (Nat.lt_of_lt_of_le hgl z6)).trans d1) | (go_at_call 75; (with_reducible refine (next_any _ _ _ SK (by omega) (by omega)).mono ?_); rintro e w6 ⟨y1, hy3, hy4, rfl, SX, GX⟩; have z6 : w.heap.size ≤ w6.heap.size := Nat.le_of_lt SX.lt; have y6 : wo.heap.size < w6.heap.size := Nat.lt_of_lt_of_le hzw GX.size; have hv6 := (GX.block wo.heap.size hzw hneV).trans VB.out; have d0 := (far GX ⟨g, off + pts.length * 6 + 4, none⟩ (Nat.lt_trans hgl HK.src.lt) (by simp; omega)).trans h4; have d1 := (far GX ⟨g, off + pts.length * 6 + 5, none⟩ (Nat.lt_trans hgl HK.src.lt) (by simp; omega)).trans h5))
          have K7 : SKeep w w.heap.size 44 6 u6 pts.length (pts.flatMap IV.cells) w7 := (HK.drew.grown GX SX).below GY
          have HV7 := hide hv7
          clear hv7 hv6 GX GY SX HK SK m0 m1 d0 d1 h0 h1 h2 h3 h4 h5
          go_wp2_with fail
          go_roundw
          case rel => exact ⟨3, a0, b0, a1, b1, _, _, rfl, ⟨by omega, by omega⟩, fun _ => P0.out (by omega), fun _ => P1.out (by omega), fun _ => ⟨rfl, hx1, hx2⟩, blk_set (blk_set HV7.out 4 _) 5 _, (K7.setV hzr HV.out _ _).setV hzr HV.out _ _, by simpa [World.setCell] using y7⟩
          case measure => simp [intOf]
        · have hvc := blk_cell VB.out
          clear SK h0 h1 h2 h3 h4 h5
          go_wp2_with (at_builtin; refine wpList_append_own _ rfl _ _ 23 rfl (w.heap.size + 1) 44 i0 _ 6 48 Try.underlying23 hi0 hz0 hz1 hz2 rfl (by decide) u6 pts.length (pts.flatMap IV.cells) rfl (HK.own.alloc _) ⟨wr.heap.size, 0, none⟩ 1 1 [.int .i64 a0, .int .i64 b0, .int .i64 a1, .int .i64 b1, .int .i64 a2, .int .i64 b2] rfl rfl ?c1 ?c2 ?c3 ?c4 ?c5 ?_)
          case c1 => exact news_at (heap_alloc_new wr _)
          case c2 => simp [Value.oneCell']
          case c3 => unfold maxLen; omega
          case c4 => omega
          case c5 => simp; omega
          intro v' w9 hown9 hg9 _
          have K9 := HK.append hg9 hown9
          clear hg9 hown9 HK hvc
          go_wp2_with fail
          go_roundw
          case rel => exact ⟨pts ++ [⟨⟨a0, b0⟩, ⟨a1, b1⟩, ⟨a2, b2⟩⟩], by simp, by simp; omega, HC.out.snoc hlt ⟨P0.out (by omega), P1.out (by omega), P2.out (by omega)⟩, by simpa [IV.cells] using K9⟩
          case measure => simp [intOf]; omega
    · go_wp2_with fail
      go_ret
      exact ⟨_, pts, rfl, ⟨by omega, HC.out⟩, own_mono HK.own (by omega), HK.bel⟩
end Go.Proofs.Ytionbckpgfaneaa
