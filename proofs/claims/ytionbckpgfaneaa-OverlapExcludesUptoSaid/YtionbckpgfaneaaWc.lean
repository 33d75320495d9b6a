/- Walks, part c: Points. -/
import Derived.Test.YtionbckpgfaneaaWb
import Derived.Deep.RegionHeld3
namespace Go.Proofs.Ytionbckpgfaneaa
open Go.RowKit
set_option maxHeartbeats 400000
set_option maxRecDepth 100000
theorem blk_cell {w : World} {g : Nat} {cs : Array Value} {t : TypeId} (h : w.heap[g]? = some (.cells cs t (0, 0))) (i : Nat) : w.cell? ⟨g, i, none⟩ = cs[i]? := by simp [World.cell?, h]
theorem blk_frozen {w : World} {g : Nat} {cs : Array Value} {t : TypeId} (h : w.heap[g]? = some (.cells cs t (0, 0))) (i : Nat) : w.frozen? ⟨g, i, none⟩ = false := by simp [World.frozen?, h]
theorem blk_set {w : World} {g : Nat} {cs : Array Value} {t : TypeId} (h : w.heap[g]? = some (.cells cs t (0, 0))) (i : Nat) (u : Value) : (w.setCell ⟨g, i, none⟩ u).heap[g]? = some (.cells (cs.setIfInBounds i u) t (0, 0)) := by
  simp [World.setCell, Array.getElem?_modify, h]
theorem far {w w' : World} {r : Option Nat} (hg : w.grownBy w' r) (a : Addr) (h1 : a.block < w.heap.size) (h2 : some a.block ≠ r) : w'.cell? a = w.cell? a := World.cell?_of_block (hg.block _ h1 h2)
theorem Src.drew {w : World} {B : Nat} (h : Src w B) : Src w.drew B := h
theorem news_at {w : World} {B : Nat} {cs : Array Value} {t : TypeId} {fr : Nat × Nat} (hb : w.heap[B]? = some (.cells cs t fr)) : ∀ j u, cs.toList[j]? = some u → w.cell? ((⟨B, 0, none⟩ : Addr).add j) = some u := fun j u hu => by
  have e : ((⟨B, 0, none⟩ : Addr).add j) = ⟨B, j, none⟩ := by unfold Addr.add; split <;> simp_all
  rw [e]
  simpa [World.cell?, hb] using hu
theorem Src.new {w : World} {A : Option Addr} {l : List Int} (c : Nat) (hs : SlN w A l) (hm : l.length ≤ 9223372036854775807) : Src (w.alloc (.cells #[.slice A l.length c, .int .i64 0] 142)) w.heap.size :=
  ⟨A, l, c, 0, heap_alloc_new w _, Sl.alloc hs _, hm, fun h b off e => by obtain ⟨b', off', e', hb⟩ := SlN.addr hs h; rw [e] at e'; injection e' with e'; injection e' with e'; omega⟩
def PtOk (width : Int) (a : Iv) : Prop := -327689 ≤ a.lo ∧ a.lo ≤ 327689 ∧ a.lo ≤ a.hi ∧ a.hi ≤ a.lo + width
def IVOk (width : Int) (p : IV) : Prop := PtOk width p.x ∧ PtOk width p.y ∧ PtOk width p.z

/-- what the rounds of Points keep -/
structure PKeep (w0 : World) (N C V : Nat) (cs : Array Value) (v : Value) (n : Nat) (xs : List Value) (ww : World) : Prop where
  own : ww.ownsRow (C + 1) 44 6 v n xs
  src : Src ww N
  cb : ww.heap[C]? = some (.cells cs 47 (0, 0))
  bel : Below N w0 ww
  lt : V < ww.heap.size
section
variable {w0 ww w' : World} {N C V n : Nat} {cs : Array Value} {v : Value} {xs : List Value}
theorem own_mono {b b' : Nat} {e : TypeId} {sz : Nat} (h : ww.ownsRow b e sz v n xs) (hb : b' ≤ b) : ww.ownsRow b' e sz v n xs := ⟨h.1, h.2.imp id fun ⟨g, cap, cur, e1, e2, r⟩ => ⟨g, cap, cur, e1, Nat.le_trans hb e2, r⟩⟩
theorem PKeep.drew (h : PKeep w0 N C V cs v n xs ww) : PKeep w0 N C V cs v n xs ww.drew := ⟨h.own, h.src, h.cb, h.bel.drew, h.lt⟩
theorem PKeep.grown (h : PKeep w0 N C V cs v n xs ww) (hNC : N < C) (hCV : C ≤ V) (hg : ww.grownBy w' (some N)) (hs : Src w' N) (hb : Below N ww w') : PKeep w0 N C V cs v n xs w' := by
  obtain ⟨h1, h2, h3, h4, h5⟩ := h
  refine ⟨h1.kept hg ?_, hs, (hg.block C (by omega) (by simp; omega)).trans h3, h4.trans hb, by have := hg.size; omega⟩
  rcases hv : v.ownBlock with _ | g
  · exact .inl rfl
  · right
    have := (h1.lt g hv).1
    simp; omega
theorem PKeep.set (h : PKeep w0 N C V cs v n xs ww) (hNC : N < C) (hCV : C < V) (hv : ∀ g, v.ownBlock = some g → g < V) (i : Nat) (u : Value) : PKeep w0 N C V cs v n xs (ww.setCell ⟨V, i, none⟩ u) := by
  obtain ⟨h1, h2, h3, h4, h5⟩ := h
  refine ⟨h1.kept (grown_set ww V i u) ?_, h2.keep (by simp [World.setCell]) (fun k hk => Below.heap_setCell ww ⟨V, i, none⟩ u k (by simp; omega)), (Below.heap_setCell ww ⟨V, i, none⟩ u C (by simp; omega)).trans h3, h4.setCell (by simp; omega) u, by simpa [World.setCell] using h5⟩
  rcases hv' : v.ownBlock with _ | g
  · exact .inl rfl
  · right
    have := hv g hv'
    simp; omega
theorem PKeep.append {o : Obj} {v' : Value} {n' : Nat} {xs' : List Value} (h : PKeep w0 N C V cs v n xs ww) (hNC : N < C) (hCV : C ≤ V) (hg : (ww.alloc o).grownBy w' v.ownBlock) (ho : w'.ownsRow (C + 1) 44 6 v' n' xs') : PKeep w0 N C C cs v' n' xs' w' := by
  obtain ⟨h1, h2, h3, h4, h5⟩ := h
  have hz := hg.size
  simp only [World.size_alloc] at hz
  have hb : ∀ k, k ≤ C → w'.heap[k]? = ww.heap[k]? := fun k hk => (hg.block k (by simp; omega) (fun e => by have := (h1.lt k e.symm).1; omega)).trans (Below.heap_alloc ww o k (by omega))
  exact ⟨ho, h2.keep (by omega) (fun k hk => hb k (by omega)), (hb C (Nat.le_refl _)).trans h3, h4.trans ⟨hg.os, hg.tape, hg.output, by omega, fun k hk => hb k (by omega)⟩, by omega⟩
end
theorem below_grown {w w' : World} {N : Nat} (h : w.grownBy w' (some N)) (hN : N ≤ w.heap.size) : Below N w w' := (Below.refl N w).grown h hN (fun k e => by injection e with e; omega)

def VCells (a0 b0 a1 b1 a2 b2 : Int) : Array Value := #[.int .i64 a0, .int .i64 b0, .int .i64 a1, .int .i64 b1, .int .i64 a2, .int .i64 b2]
def PRound (width : Int) (w0 : World) (N C V : Nat) (cs : Array Value) (v : Value) (n : Nat) (xs : List Value) (i : Value) (ww : World) : Prop :=
  ∃ (k : Int) (a0 b0 a1 b1 a2 b2 : Int), i = .int .i64 k ∧ (0 ≤ k ∧ k ≤ 3) ∧ (0 < k → PtOk width ⟨a0, b0⟩) ∧ (1 < k → PtOk width ⟨a1, b1⟩) ∧ (2 < k → PtOk width ⟨a2, b2⟩) ∧
    ww.heap[V]? = some (.cells #[.int .i64 a0, .int .i64 b0, .int .i64 a1, .int .i64 b1, .int .i64 a2, .int .i64 b2] 44 (0, 0)) ∧ PKeep w0 N C V cs v n xs ww
def PHead (width : Int) (w0 : World) (N C : Nat) (cs : Array Value) (n : Int) (v i : Value) (wr : World) : Prop :=
  ∃ (m : Nat) (pts : List IV), i = .int .i64 m ∧ (m : Int) + pts.length = 1 + n ∧ (∀ p ∈ pts, IVOk width p) ∧ PKeep w0 N C C cs v pts.length (pts.flatMap IV.cells) wr
/-- what Points returns -/
def PointsPost (width : Int) (w : World) (e : Ending) (w' : World) : Prop :=
  ∃ (v : Value) (pts : List IV), e = .returned v ∧ 1 ≤ pts.length ∧ pts.length ≤ 5 ∧ (∀ p ∈ pts, IVOk width p) ∧ w'.ownsRow w.heap.size 44 6 v pts.length (pts.flatMap IV.cells) ∧ Below w.heap.size w w'
theorem info44 : (Try.prog.info? 44).map (fun i => (i.zero, i.size, i.bytes)) = some (some (.agg #[.int .i64 0, .int .i64 0, .int .i64 0, .int .i64 0, .int .i64 0, .int .i64 0]), 6, 48) := by kernel_rfl

theorem points_any (A : Option Addr) (l : List Int) (c : Nat) (width : Int) (w : World) (hs : SlN w A l) (hm : l.length ≤ 9223372036854775807) (hw0 : 0 ≤ width) (hw1 : width ≤ 3000) :
    Calls Try.prog 41 #[.slice A l.length c, .int .i64 width] w (PointsPost width w) := by
  have H1 := hide (Src.new c hs hm)
  obtain ⟨i0, hi0, hz0, hz1, hz2⟩ := info_parts info44
  clear hs
  go_enter Try.func41, Try.ntmps41
  go_wp2_with fail
  refine (from_any _ _ _ _).mono ?_
  rintro e w1 ⟨rfl, rfl⟩
  go_wp2_with fail
  refine (signed_any _ _ _ H1.out (by omega) (by omega)).mono ?_
  rintro e w2 ⟨x1, h11, h12, rfl, S2, G2⟩
  go_wp2_with fail
  refine (signed_any _ _ _ S2 (by omega) (by omega)).mono ?_
  rintro e w3 ⟨x2, h21, h22, rfl, S3, G3⟩
  go_wp2_with fail
  refine (signed_any _ _ _ S3 (by omega) (by omega)).mono ?_
  rintro e w4 ⟨x3, h31, h32, rfl, S4, G4⟩
  go_wp2_with fail
  refine (next_any _ _ _ (S4.below ((Below.refl _ _).alloc (Nat.le_refl _) _) S4.lt) (by omega) (by omega)).mono ?_
  rintro e w5 ⟨n, hn1, hn2, rfl, S5, G5⟩
  have hC : w.heap.size < w4.heap.size := S4.lt
  have hC5 : w4.heap.size < w5.heap.size := by have := G5.size; simp at this; omega
  have HK : PKeep w w.heap.size w4.heap.size w4.heap.size #[.int .i64 (x1 * 32768), .int .i64 (x2 * 32768), .int .i64 (x3 * 32768)] (.slice none 0 0) 0 [] w5 := by
    have l2 := S2.lt; have l3 := S3.lt
    refine ⟨World.ownsRow_nil _ _ _ _, S5, ?_, ?_, hC5⟩
    · rw [G5.block _ (by simp) (by simp; omega)]
      exact heap_alloc_new w4 _
    · exact (((((Below.refl _ w).alloc (Nat.le_refl _) _).trans (below_grown G2 (by simp))).trans (below_grown G3 (by omega))).trans (below_grown G4 (by omega))).trans (((Below.refl _ w4).alloc (by omega) _).trans (below_grown G5 (by simp; omega)))
  clear G2 G3 G4 G5 S2 S3 S4 S5 H1
  go_wp2_with fail
  go_loopw [7, 8] (fun v i wr => PHead width w w.heap.size w4.heap.size #[.int .i64 (x1 * 32768), .int .i64 (x2 * 32768), .int .i64 (x3 * 32768)] n v i wr) (fun _ i _ => (intOf i).toNat)
  case atStart => exact ⟨(1 + n).toNat, [], by simp; omega, by simp; omega, by simp, HK⟩
  case round =>
    clear HK
    obtain ⟨wo, rfl⟩ : ∃ wo : World, wo = wr := ⟨_, rfl⟩
    obtain ⟨m, pts, rfl, hmn, hok, HK⟩ := hrel
    have OK := hide hok; clear hok
    have hzr := HK.lt
    by_cases hm0 : 0 < m
    · go_wp2_with fail
      have HV := hide (fun g hg => (HK.own.lt g hg).2 : ∀ g, u7.ownBlock = some g → g < wo.heap.size)
      go_loopw [10] (fun i ww => PRound width w w.heap.size w4.heap.size wo.heap.size #[.int .i64 (x1 * 32768), .int .i64 (x2 * 32768), .int .i64 (x3 * 32768)] u7 pts.length (pts.flatMap IV.cells) i ww) (fun i _ => 3 - (intOf i).toNat)
      case atStart =>
        obtain ⟨k1, k2, k3, k4, k5⟩ := HK
        exact ⟨0, 0, 0, 0, 0, 0, 0, rfl, ⟨by omega, by omega⟩, by omega, by omega, by omega, heap_alloc_new wo _, k1.alloc _, k2.below ((Below.refl _ _).alloc (Nat.le_refl _) _) k2.lt, (Below.heap_alloc wo _ _ hzr).trans k3, k4.alloc (by omega) _, by simp⟩
      case round =>
        clear HK
        obtain ⟨k, a0, b0, a1, b1, a2, b2, rfl, hk3, p0, p1, p2, hvb, HK⟩ := hrel
        have P0 := hide p0; have P1 := hide p1; have P2 := hide p2; have VB := hide hvb
        clear p0 p1 p2 hvb
        have hzw := HK.lt
        have SK := HK.src.drew
        obtain rfl | rfl | rfl | rfl : k = 0 ∨ k = 1 ∨ k = 2 ∨ k = 3 := by omega
        · have hc0 : wr.cell? ⟨w4.heap.size, 0, none⟩ = some (.int .i64 (x1 * 32768)) := by simp [World.cell?, HK.cb]
          go_wp2_with fail
          go_region_held3 (fun w' => w'.cell? ⟨w4.heap.size, 0, none⟩ = some (.int .i64 (x1 * 32768)))
            (first | go_keep | exact (far GY _ (by have := GX.size; simp at this ⊢; omega) (by simp; omega)).trans ((far GX _ (by simp; omega) (by simp; omega)).trans hc0) | exact (far GX _ (by simp; omega) (by simp; omega)).trans hc0)
            (first | (go_at_call 100; have _t := GX; (with_reducible refine (signed_any _ _ _ SX (by omega) (by omega)).mono ?_); rintro e w7 ⟨y2, hy1, hy2, rfl, SY, GY⟩) | (go_at_call 100; (with_reducible refine (signed_any _ _ _ SK (by omega) (by omega)).mono ?_); rintro e w6 ⟨y1, hy3, hy4, rfl, SX, GX⟩))
          go_wp2_with fail
          refine (next_any _ _ _ SY (by omega) (by omega)).mono ?_
          rintro e w8 ⟨y3, hy5, hy6, rfl, S8, G8⟩
          have hw6 := GX.size
          have hw7 := GY.size
          have hw8 := G8.size
          simp only [World.size_drew] at hw6
          have hv8 : w8.heap[wo.heap.size]? = some (.cells #[.int .i64 a0, .int .i64 b0, .int .i64 a1, .int .i64 b1, .int .i64 a2, .int .i64 b2] 44 (0, 0)) :=
            (G8.block _ (by omega) (by simp; omega)).trans ((GY.block _ (by omega) (by simp; omega)).trans ((GX.block _ (by simp; omega) (by simp; omega)).trans VB.out))
          have lx := SX.lt; have ly := SY.lt; have lz := HK.src.lt
          have K8 : PKeep w w.heap.size w4.heap.size wo.heap.size #[.int .i64 (x1 * 32768), .int .i64 (x2 * 32768), .int .i64 (x3 * 32768)] u7 pts.length (pts.flatMap IV.cells) w8 :=
            ((HK.drew.grown hC (Nat.le_of_lt hzr) GX SX (below_grown GX (by simp; omega))).grown hC (Nat.le_of_lt hzr) GY SY (below_grown GY (by omega))).grown hC (Nat.le_of_lt hzr) G8 S8 (below_grown G8 (by omega))
          have hvc := blk_cell hv8
          have hvf := blk_frozen hv8
          have HV8 := hide hv8
          clear hv8 GX GY G8 SX SY S8 HK hc0 SK
          go_wp2_with fail
          go_roundw
          case rel => exact ⟨1, _, _, a1, b1, a2, b2, rfl, ⟨by omega, by omega⟩, fun _ => ⟨by dsimp only; omega, by dsimp only; omega, by dsimp only; omega, by dsimp only; omega⟩, fun h => absurd h (by omega), fun h => absurd h (by omega), blk_set (blk_set HV8.out 0 _) 1 _, (K8.set hC hzr HV.out _ _).set hC hzr HV.out _ _⟩
          case measure => simp [intOf]
        · have hc0 : wr.cell? ⟨w4.heap.size, 1, none⟩ = some (.int .i64 (x2 * 32768)) := by simp [World.cell?, HK.cb]
          go_wp2_with fail
          go_region_held3 (fun w' => w'.cell? ⟨w4.heap.size, 1, none⟩ = some (.int .i64 (x2 * 32768)))
            (first | go_keep | exact (far GY _ (by have := GX.size; simp at this ⊢; omega) (by simp; omega)).trans ((far GX _ (by simp; omega) (by simp; omega)).trans hc0) | exact (far GX _ (by simp; omega) (by simp; omega)).trans hc0)
            (first | (go_at_call 100; have _t := GX; (with_reducible refine (signed_any _ _ _ SX (by omega) (by omega)).mono ?_); rintro e w7 ⟨y2, hy1, hy2, rfl, SY, GY⟩) | (go_at_call 100; (with_reducible refine (signed_any _ _ _ SK (by omega) (by omega)).mono ?_); rintro e w6 ⟨y1, hy3, hy4, rfl, SX, GX⟩))
          go_wp2_with fail
          refine (next_any _ _ _ SY (by omega) (by omega)).mono ?_
          rintro e w8 ⟨y3, hy5, hy6, rfl, S8, G8⟩
          have hw6 := GX.size
          have hw7 := GY.size
          have hw8 := G8.size
          simp only [World.size_drew] at hw6
          have hv8 : w8.heap[wo.heap.size]? = some (.cells #[.int .i64 a0, .int .i64 b0, .int .i64 a1, .int .i64 b1, .int .i64 a2, .int .i64 b2] 44 (0, 0)) :=
            (G8.block _ (by omega) (by simp; omega)).trans ((GY.block _ (by omega) (by simp; omega)).trans ((GX.block _ (by simp; omega) (by simp; omega)).trans VB.out))
          have lx := SX.lt; have ly := SY.lt; have lz := HK.src.lt
          have K8 : PKeep w w.heap.size w4.heap.size wo.heap.size #[.int .i64 (x1 * 32768), .int .i64 (x2 * 32768), .int .i64 (x3 * 32768)] u7 pts.length (pts.flatMap IV.cells) w8 :=
            ((HK.drew.grown hC (Nat.le_of_lt hzr) GX SX (below_grown GX (by simp; omega))).grown hC (Nat.le_of_lt hzr) GY SY (below_grown GY (by omega))).grown hC (Nat.le_of_lt hzr) G8 S8 (below_grown G8 (by omega))
          have hvc := blk_cell hv8
          have hvf := blk_frozen hv8
          have HV8 := hide hv8
          clear hv8 GX GY G8 SX SY S8 HK hc0 SK
          go_wp2_with fail
          go_roundw
          case rel => exact ⟨2, a0, b0, _, _, a2, b2, rfl, ⟨by omega, by omega⟩, fun _ => P0.out (by omega), fun _ => ⟨by dsimp only; omega, by dsimp only; omega, by dsimp only; omega, by dsimp only; omega⟩, fun h => absurd h (by omega), blk_set (blk_set HV8.out 2 _) 3 _, (K8.set hC hzr HV.out _ _).set hC hzr HV.out _ _⟩
          case measure => simp [intOf]
        · have hc0 : wr.cell? ⟨w4.heap.size, 2, none⟩ = some (.int .i64 (x3 * 32768)) := by simp [World.cell?, HK.cb]
          go_wp2_with fail
          go_region_held3 (fun w' => w'.cell? ⟨w4.heap.size, 2, none⟩ = some (.int .i64 (x3 * 32768)))
            (first | go_keep | exact (far GY _ (by have := GX.size; simp at this ⊢; omega) (by simp; omega)).trans ((far GX _ (by simp; omega) (by simp; omega)).trans hc0) | exact (far GX _ (by simp; omega) (by simp; omega)).trans hc0)
            (first | (go_at_call 100; have _t := GX; (with_reducible refine (signed_any _ _ _ SX (by omega) (by omega)).mono ?_); rintro e w7 ⟨y2, hy1, hy2, rfl, SY, GY⟩) | (go_at_call 100; (with_reducible refine (signed_any _ _ _ SK (by omega) (by omega)).mono ?_); rintro e w6 ⟨y1, hy3, hy4, rfl, SX, GX⟩))
          go_wp2_with fail
          refine (next_any _ _ _ SY (by omega) (by omega)).mono ?_
          rintro e w8 ⟨y3, hy5, hy6, rfl, S8, G8⟩
          have hw6 := GX.size
          have hw7 := GY.size
          have hw8 := G8.size
          simp only [World.size_drew] at hw6
          have hv8 : w8.heap[wo.heap.size]? = some (.cells #[.int .i64 a0, .int .i64 b0, .int .i64 a1, .int .i64 b1, .int .i64 a2, .int .i64 b2] 44 (0, 0)) :=
            (G8.block _ (by omega) (by simp; omega)).trans ((GY.block _ (by omega) (by simp; omega)).trans ((GX.block _ (by simp; omega) (by simp; omega)).trans VB.out))
          have lx := SX.lt; have ly := SY.lt; have lz := HK.src.lt
          have K8 : PKeep w w.heap.size w4.heap.size wo.heap.size #[.int .i64 (x1 * 32768), .int .i64 (x2 * 32768), .int .i64 (x3 * 32768)] u7 pts.length (pts.flatMap IV.cells) w8 :=
            ((HK.drew.grown hC (Nat.le_of_lt hzr) GX SX (below_grown GX (by simp; omega))).grown hC (Nat.le_of_lt hzr) GY SY (below_grown GY (by omega))).grown hC (Nat.le_of_lt hzr) G8 S8 (below_grown G8 (by omega))
          have hvc := blk_cell hv8
          have hvf := blk_frozen hv8
          have HV8 := hide hv8
          clear hv8 GX GY G8 SX SY S8 HK hc0 SK
          go_wp2_with fail
          go_roundw
          case rel => exact ⟨3, a0, b0, a1, b1, _, _, rfl, ⟨by omega, by omega⟩, fun _ => P0.out (by omega), fun _ => P1.out (by omega), fun _ => ⟨by dsimp only; omega, by dsimp only; omega, by dsimp only; omega, by dsimp only; omega⟩, blk_set (blk_set HV8.out 4 _) 5 _, (K8.set hC hzr HV.out _ _).set hC hzr HV.out _ _⟩
          case measure => simp [intOf]
        · have hvc := blk_cell VB.out
          clear SK
          go_wp2_with (at_builtin; refine wpList_append_own _ rfl _ _ 23 rfl (w4.heap.size + 1) 44 i0 _ 6 48 Try.underlying23 hi0 hz0 hz1 hz2 rfl (by decide) u7 pts.length (pts.flatMap IV.cells) rfl (HK.own.alloc _) ⟨wr.heap.size, 0, none⟩ 1 1 [.int .i64 a0, .int .i64 b0, .int .i64 a1, .int .i64 b1, .int .i64 a2, .int .i64 b2] rfl rfl ?c1 ?c2 ?c3 ?c4 ?c5 ?_)
          case c1 => exact news_at (heap_alloc_new wr _)
          case c2 => simp [Value.oneCell']
          case c3 => unfold maxLen; omega
          case c4 => omega
          case c5 => simp; omega
          intro v' w9 hown9 hg9 _
          have K9 := HK.append hC (Nat.le_of_lt hzr) hg9 hown9
          clear hg9 hown9 HK hvc
          go_wp2_with fail
          go_roundw
          case rel => exact ⟨m - 1, pts ++ [⟨⟨a0, b0⟩, ⟨a1, b1⟩, ⟨a2, b2⟩⟩], by go_num, by simp; omega, fun p hp => by rcases List.mem_append.1 hp with h | h; exact OK.out p h; simp at h; subst h; exact ⟨P0.out (by omega), P1.out (by omega), P2.out (by omega)⟩, by simpa [IV.cells] using K9⟩
          case measure => simp [intOf]; omega
    · go_wp2_with fail
      go_ret
      have : m = 0 := by omega
      subst this
      refine ⟨_, pts, rfl, by omega, by omega, OK.out, ?_, ?_⟩
      · exact own_mono HK.own (by omega)
      · exact HK.bel
end Go.Proofs.Ytionbckpgfaneaa
