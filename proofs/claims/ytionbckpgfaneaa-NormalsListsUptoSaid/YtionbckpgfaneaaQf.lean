/- Walks of the normals, part f: shape.Centers. -/
import Derived.Test.YtionbckpgfaneaaQc
import Derived.Test.YtionbckpgfaneaaXa
import Derived.Test.YtionbckpgfaneaaXe
namespace Go.Proofs.Ytionbckpgfaneaa
open Go.RowKit
set_option maxHeartbeats 4000000
set_option maxRecDepth 100000
attribute [local go_sem] index44_0 index44_1 index44_2
def vArr (L : List V3) : Array Value := (L.flatMap V3.cells).toArray
theorem vArr_get {L : List V3} {k : Nat} (h : k < L.length) : (vArr L)[k * 3]? = some (.int .i64 L[k].x) ∧ (vArr L)[k * 3 + 1]? = some (.int .i64 L[k].y) ∧ (vArr L)[k * 3 + 2]? = some (.int .i64 L[k].z) := by
  have f := flat3 L k h
  have f0 := f 0 (by omega)
  simp only [Nat.add_zero] at f0
  refine ⟨?_, ?_, ?_⟩
  · simp only [vArr, List.getElem?_toArray]; rw [f0]; rfl
  · simp only [vArr, List.getElem?_toArray]; rw [f 1 (by omega)]; rfl
  · simp only [vArr, List.getElem?_toArray]; rw [f 2 (by omega)]; rfl
theorem flat_set (L : List V3) (k j : Nat) (hk : k < L.length) (u : Value) (v : V3) (hj : j < 3) (hv : v.cells = (L[k].cells).set j u) : (L.flatMap V3.cells).set (k * 3 + j) u = (L.set k v).flatMap V3.cells := by
  induction L generalizing k with
  | nil => simp at hk
  | cons a L ih =>
    cases k with
    | zero =>
      simp only [List.flatMap_cons, Nat.zero_mul, Nat.zero_add, List.set_cons_zero]
      simp only [List.getElem_cons_zero] at hv
      rw [List.set_append_left _ _ (by simpa [V3.cells] using hj), hv]
    | succ k =>
      simp only [List.flatMap_cons, List.set_cons_succ]
      simp only [List.getElem_cons_succ] at hv
      have hl : a.cells.length = 3 := rfl
      rw [List.set_append_right _ _ (by rw [hl]; omega), hl, show (k + 1) * 3 + j - 3 = k * 3 + j by omega, ih k (by simpa using hk) hv]
theorem vSet {w : World} {g : Nat} {L : List V3} {t : TypeId} (h : w.heap[g]? = some (.cells (vArr L) t (0, 0))) (k j : Nat) (hk : k < L.length) (u : Value) (v : V3) (hj : j < 3) (hv : v.cells = (L[k].cells).set j u) : (w.setCell ⟨g, k * 3 + j, none⟩ u).heap[g]? = some (.cells (vArr (L.set k v)) t (0, 0)) := by
  have := blk_set h (k * 3 + j) u
  rw [this]
  congr 2
  unfold vArr
  rw [List.setIfInBounds_toArray, flat_set L k j hk u v hj hv]
theorem slV_of {w : World} {g : Nat} {L : List V3} {t : TypeId} (h : w.heap[g]? = some (.cells (vArr L) t (0, 0))) : SlV w (some ⟨g, 0, none⟩) L := fun _ => by
  refine ⟨g, 0, rfl, ?_, fun j u hu => ?_⟩
  · obtain ⟨h, _⟩ := Array.getElem?_eq_some_iff.mp h
    exact h
  · rw [Nat.zero_add, blk_cell h]
    simpa [vArr] using hu
theorem made_vArr (n : Nat) : madeCells #[.int .i64 0, .int .i64 0, .int .i64 0] (n * 3) = vArr (List.replicate n zeroV) := by
  have h1 : ∀ n : Nat, (List.replicate n zeroV).flatMap V3.cells = List.replicate (n * 3) (Value.int .i64 0) := by
    intro n
    induction n with
    | zero => rfl
    | succ n ih =>
      rw [List.replicate_succ, List.flatMap_cons, ih, show (n + 1) * 3 = 3 + n * 3 by omega, ← List.replicate_append_replicate]
      rfl
  unfold vArr
  rw [h1]
  apply Array.ext
  · simp [size_madeCells]
  · intro i h2 h3
    have : i % 3 = 0 ∨ i % 3 = 1 ∨ i % 3 = 2 := by omega
    rcases this with h | h | h <;> simp [madeCells, h]
/-- make([]Vec, n) -/
theorem make49 (n : Nat) (h : n ≤ 1000) (w : World) : (Instr.makeSlice 49 (.int .i64 n) (.int .i64 n)).run Try.prog w = .ok (.slice (some ⟨w.heap.size, 0, none⟩) n n) (w.alloc (.cells (vArr (List.replicate n zeroV)) 47)) := by
  obtain ⟨i0, hi0, hz0, hz1, hz2⟩ := info_parts info47
  have e := run_make (P := Try.prog) w 49 47 i0 _ Try.underlying49 hi0 hz0 .i64 .i64 n n (by omega) (by omega) (by rw [hz2]; omega) (by omega)
  rw [e, hz1]
  simp only [Int.toNat_natCast]
  rw [← made_vArr]
  rfl
def cK (l : List IV) (k : Nat) : List V3 := (l.take k).map ctrV ++ List.replicate (l.length - k) zeroV
theorem cK_len (l : List IV) (k : Nat) (h : k ≤ l.length) : (cK l k).length = l.length := by simp [cK]; omega
theorem cK_get (l : List IV) (k : Nat) (h : k < l.length) : (cK l k)[k]'(by rw [cK_len l k (by omega)]; exact h) = zeroV := by
  unfold cK
  rw [List.getElem_append_right (by simp; omega)]
  simp
theorem cK_next (l : List IV) (k : Nat) (h : k < l.length) : (cK l k).set k (ctrV l[k]) = cK l (k + 1) := by
  unfold cK
  have e : l.length - k = (l.length - (k + 1)) + 1 := by omega
  rw [e, List.replicate_succ, List.set_append_right _ _ (by simp; omega)]
  simp only [List.length_map, List.length_take, Nat.min_eq_left (Nat.le_of_lt h), Nat.sub_self, List.set_cons_zero]
  rw [List.take_succ_eq_append_getElem h]
  simp only [List.map_append, List.map_cons, List.map_nil, List.append_assoc, List.singleton_append]
theorem cK_all (l : List IV) : cK l l.length = ctrs l := by simp [cK, ctrs]
theorem cK_self (l : List IV) (k : Nat) (h : k < l.length) : (cK l k).set k zeroV = cK l k := by
  have hl : k < (cK l k).length := by rw [cK_len l k (by omega)]; exact h
  apply List.ext_getElem (by simp)
  intro i h1 h2
  rw [List.getElem_set]
  split
  · rename_i e
    subst e
    exact (cK_get l k h).symm
  · rfl
def CeIn (w : World) (g : Nat) (l : List IV) (k : Nat) (c : V3) (i : Value) (ww : World) : Prop :=
  ∃ m : Int, i = .int .i64 m ∧ 0 ≤ m ∧ m ≤ 3 ∧ ww.heap[g]? = some (.cells (vArr ((cK l k).set k (mixV m zeroV c))) 47 (0, 0)) ∧ Below w.heap.size w ww
theorem CeIn.next {w wr wf : World} {g : Nat} {l : List IV} {k : Nat} {c : V3} {m : Int} (hk : k < l.length) (hg : w.heap.size ≤ g) (hS : wr.heap[g]? = some (.cells (vArr ((cK l k).set k (mixV m zeroV c))) 47 (0, 0))) (hb : Below w.heap.size w wr)
    (j : Nat) (u : Value) (hm0 : 0 ≤ m + 1) (hm3 : m + 1 ≤ 3) (hj : j < 3) (he : (mixV (m + 1) zeroV c).cells = (mixV m zeroV c).cells.set j u) (hf : Like wf (wr.setCell ⟨g, k * 3 + j, none⟩ u)) :
    CeIn w g l k c (.int .i64 (m + 1)) wf := by
  have hl : k < (cK l k).length := by rw [cK_len l k (by omega)]; exact hk
  refine ⟨m + 1, rfl, hm0, hm3, ?_, hf.below (hb.setCell (by simpa using hg) u)⟩
  rw [hf.1]
  have := vSet hS k j (by simpa using hl) u (mixV (m + 1) zeroV c) hj (by simpa using he)
  rw [this, List.set_set]
/-- shape.Centers, of placed points -/
theorem centers_any (A : Option Addr) (l : List IV) (c : Nat) (w : World) (hs : SlI w A l) (hp : placedB l = true) :
    Calls Try.prog 171 #[.slice A l.length c] w (CentersPost l w) := by
  have HS := hide hs; have HP := hide hp
  obtain ⟨l1, l8, ok⟩ := placed_of hp
  have OK := hide ok
  have hmk := make49 l.length (by omega)
  clear hs hp ok
  go_enter Try.func171, Try.ntmps171
  go_wp2_with fail
  refine (placed_any A l c _ HS.out (by omega)).mono ?_
  rintro e w1 ⟨rfl, hb1⟩
  rw [HP.out]
  have B1 := hide hb1
  have hz1 := hb1.size
  clear hb1
  go_wp2_with fail
  have INV := hide (show (w1.alloc (.cells (vArr (List.replicate l.length zeroV)) 47)).heap[w1.heap.size]? = some (.cells (vArr (cK l 0)) 47 (0, 0)) from new_at _ _ rfl)
  have BN := hide (show Below w.heap.size w (w1.alloc (.cells (vArr (List.replicate l.length zeroV)) 47)) from B1.out.alloc hz1 _)
  clear hmk B1
  go_loopw [16] (fun i wr => ∃ k : Nat, k ≤ l.length ∧ i = .int .i64 k ∧ wr.heap[w1.heap.size]? = some (.cells (vArr (cK l k)) 47 (0, 0)) ∧ Below w.heap.size w wr) (fun i _ => l.length - (intOf i).toNat)
  case atStart => exact ⟨0, by omega, rfl, INV.out, BN.out⟩
  case round =>
    clear INV BN
    obtain ⟨wo, rfl⟩ : ∃ wo : World, wo = wr := ⟨_, rfl⟩
    obtain ⟨k, hk, rfl, hS, hb⟩ := hrel
    have HB := hide hb; have KS := hide hS; have hz := hb.size
    have yS : w1.heap.size < wo.heap.size := by obtain ⟨h, _⟩ := Array.getElem?_eq_some_iff.mp hS; exact h
    clear hb hS
    by_cases hlt : k < l.length
    · obtain ⟨b, off, rfl, hbb⟩ := HS.out.addr (by omega)
      obtain ⟨d0, d1, d2, d3, d4, d5⟩ := (HS.out.below HB.out).at_ hlt
      have okk := OK.out k hlt
      have o3 : l[k].x.ok = true ∧ l[k].y.ok = true ∧ l[k].z.ok = true := by
        simp only [IV.ok, Bool.and_eq_true] at okk
        exact ⟨okk.1.1, okk.1.2, okk.2⟩
      have OX := hide o3.1; have OY := hide o3.2.1; have OZ := hide o3.2.2
      have hi1 : (0 : Int) ≤ (k : Int) := Int.natCast_nonneg _
      have hi2 : (k : Int) < (l.length : Int) := by omega
      clear okk o3
      go_wp2_with fail
      go_loopw [22] (fun i ww => CeIn w w1.heap.size l k (ctrV l[k]) i ww) (fun i _ => 3 - (intOf i).toNat)
      case atStart => exact ⟨0, rfl, by omega, by omega, by rw [show mixV 0 zeroV (ctrV l[k]) = zeroV from rfl, cK_self l k hlt]; exact (Below.heap_alloc _ _ _ yS).trans KS.out, HB.out.alloc hz _⟩
      case round =>
        clear d0 d1 d2 d3 d4 d5
        have hkl : k < (cK l k).length := by rw [cK_len l k (by omega)]; exact hlt
        obtain ⟨m, rfl, hm0, hm3, iS, iB⟩ := hrel
        have IS := hide iS; have IB := hide iB; have iz := iB.size
        have iy : w1.heap.size < wr.heap.size := by obtain ⟨h, _⟩ := Array.getElem?_eq_some_iff.mp iS; exact h
        have hf := blk_frozen iS
        clear iS iB
        obtain rfl | rfl | rfl | rfl : m = 0 ∨ m = 1 ∨ m = 2 ∨ m = 3 := by omega
        · go_wp2_with fail
          go_region_with (go_at_call 178; (with_reducible refine (mid_any l[k].x _ OX.out).mono ?_); rintro e wx ⟨rfl, bb⟩; have KG := (bb.block _ (by simp; omega)).trans ((Below.heap_alloc _ _ _ iy).trans IS.out); have yG : w1.heap.size < wx.heap.size := Nat.lt_of_lt_of_le (by simp; omega) bb.size; have fG := blk_frozen KG; have cG : wx.cell? ⟨w1.heap.size, k * 3, none⟩ = _ := (blk_cell KG _).trans (vArr_get (k := k) (by simpa using hkl)).1; have GG := hide KG; have BB := hide bb; clear KG bb)
          go_wp2_with fail
          go_roundw
          case rel => exact CeIn.next hlt hz1 GG.out (IB.out.trans (((Below.refl _ wr).alloc (Nat.le_refl _) _).drew.trans (BB.out.mono (by simp)) |>.mono iz)) 0 _ (by omega) (by omega) (by omega) rfl ⟨rfl, rfl, rfl, rfl⟩
          case measure => simp [intOf]
        · go_wp2_with fail
          go_region_with (go_at_call 178; (with_reducible refine (mid_any l[k].y _ OY.out).mono ?_); rintro e wx ⟨rfl, bb⟩; have KG := (bb.block _ (by simp; omega)).trans ((Below.heap_alloc _ _ _ iy).trans IS.out); have yG : w1.heap.size < wx.heap.size := Nat.lt_of_lt_of_le (by simp; omega) bb.size; have fG := blk_frozen KG; have cG : wx.cell? ⟨w1.heap.size, k * 3 + 1, none⟩ = _ := (blk_cell KG _).trans (vArr_get (k := k) (by simpa using hkl)).2.1; have GG := hide KG; have BB := hide bb; clear KG bb)
          go_wp2_with fail
          go_roundw
          case rel => exact CeIn.next hlt hz1 GG.out (IB.out.trans (((Below.refl _ wr).alloc (Nat.le_refl _) _).drew.trans (BB.out.mono (by simp)) |>.mono iz)) 1 _ (by omega) (by omega) (by omega) rfl ⟨rfl, rfl, rfl, rfl⟩
          case measure => simp [intOf]
        · go_wp2_with fail
          go_region_with (go_at_call 178; (with_reducible refine (mid_any l[k].z _ OZ.out).mono ?_); rintro e wx ⟨rfl, bb⟩; have KG := (bb.block _ (by simp; omega)).trans ((Below.heap_alloc _ _ _ iy).trans IS.out); have yG : w1.heap.size < wx.heap.size := Nat.lt_of_lt_of_le (by simp; omega) bb.size; have fG := blk_frozen KG; have cG : wx.cell? ⟨w1.heap.size, k * 3 + 2, none⟩ = _ := (blk_cell KG _).trans (vArr_get (k := k) (by simpa using hkl)).2.2; have GG := hide KG; have BB := hide bb; clear KG bb)
          go_wp2_with fail
          go_roundw
          case rel => exact CeIn.next hlt hz1 GG.out (IB.out.trans (((Below.refl _ wr).alloc (Nat.le_refl _) _).drew.trans (BB.out.mono (by simp)) |>.mono iz)) 2 _ (by omega) (by omega) (by omega) rfl ⟨rfl, rfl, rfl, rfl⟩
          case measure => simp [intOf]
        · have e : mixV 3 zeroV (ctrV l[k]) = ctrV l[k] := rfl
          rw [e, cK_next l k hlt] at IS
          clear hf e
          go_wp2_with fail
          go_roundw
          case rel => exact ⟨k + 1, by omega, by simp, IS.out, IB.out⟩
          case measure => simp [intOf] <;> omega
    · obtain rfl : k = l.length := by omega
      rw [cK_all] at KS
      go_wp2_with fail
      go_ret
      exact ⟨_, _, rfl, slV_of KS.out, HB.out⟩
end Go.Proofs.Ytionbckpgfaneaa
