/- Walks, part E: the weighted sum of values; the first normal. -/
import Derived.Test.YtionbckpgfaneaaVd
import Derived.Test.YtionbckpgfaneaaLk
namespace Go.Proofs.Ytionbckpgfaneaa
open Go.RowKit
set_option maxHeartbeats 1000000
set_option maxRecDepth 100000
/-- armplanlaw15.value -/
theorem value_any (n : V3) (A B : Option Addr) (ys : List IV) (ws : List Int) (c d : Nat) (w : World) (hs : SlI w A ys) (ht : SlN w B ws) (hl : ys.length ≤ 5) (hlw : ws.length = ys.length) (hn : inR n = true) (hy : ∀ p ∈ ys, p.ok = true) (hw : ∀ x ∈ ws, 0 ≤ x ∧ x ≤ 9) :
    Calls Try.prog 72 #[.agg #[.int .i64 n.x, .int .i64 n.y, .int .i64 n.z], .slice A ys.length c, .slice B ws.length d] w fun e w' => e = .returned (.int .i64 (valW n ws ys)) ∧ Below w.heap.size w w' := by
  have SY := hide hs; have SV := hide ht; have LW := hide hlw; have HN := hide hn; have HY := hide hy; have W9 := hide hw
  obtain ⟨⟨a1, a2⟩, ⟨b1, b2⟩, c1, c2⟩ := inR_of hn
  clear hs ht hlw hn hy hw
  go_enter Try.func72, Try.ntmps72
  go_wp2_with fail
  go_loopw [7, 8] (fun t i wr => ∃ k : Nat, k ≤ ys.length ∧ i = .int .i64 k ∧ t = .int .i64 (dotL (ws.take k) ((ys.take k).map fun p => dotV n (cornerV p))) ∧ wr.heap[w.heap.size]? = some (.cells (vcs n) 47 (0, 0)) ∧ Below w.heap.size w wr ∧ w.heap.size < wr.heap.size) (fun _ i _ => ys.length - (intOf i).toNat)
  case atStart => exact ⟨0, by omega, rfl, by simp [dotL], heap_alloc_new w _, by go_grown, by simp⟩
  case round =>
    obtain ⟨k, hk, rfl, rfl, jN, jB, jz⟩ := hrel
    have JN := hide jN; have JB := hide jB
    by_cases hkl : k < ys.length
    · have hkw : k < ws.length := by have := LW.out; omega
      obtain ⟨b, off, rfl, hbb⟩ := SlI.addr SY.out (by omega)
      obtain ⟨b', off', rfl, hbb'⟩ := SlN.addr SV.out (by omega)
      obtain ⟨h0, _, h2, _, h4, _⟩ := SlI.at_ (Sl.below SY.out jB) hkl
      have h6 := SlN.at_ (Sl.below SV.out jB) hkw
      have hN := blk_cell jN; simp only [vcs] at hN
      have hlt1 : b < wr.heap.size := by omega
      have hlt2 : b' < wr.heap.size := by omega
      obtain ⟨⟨d1, d2, d3⟩, ⟨e1, e2, e3⟩, f1, f2, f3⟩ := ok_of (HY.out ys[k] (by simp))
      obtain ⟨w91, w92⟩ := W9.out ws[k] (by simp)
      have g1 := mul_bd2 n.x ys[k].x.lo 16384 268435456 a1 a2 (by omega) (by omega)
      have g2 := mul_bd2 n.y ys[k].y.lo 16384 268435456 b1 b2 (by omega) (by omega)
      have g3 := mul_bd2 n.z ys[k].z.lo 16384 268435456 c1 c2 (by omega) (by omega)
      have g4 := mul_bd ws[k] (n.x * ys[k].x.lo + n.y * ys[k].y.lo + n.z * ys[k].z.lo) 9 20000000000000 w91 w92 (by omega) (by omega)
      have g5 := dotV_bd (n := n) (ws := ws) HN.out HY.out W9.out k (by omega) hk
      have SN := hide (dotL_snocG ws ys (fun p => dotV n (cornerV p)) k hkw hkl)
      generalize hT : dotL (ws.take k) ((ys.take k).map fun p => dotV n (cornerV p)) = T at *
      have hi1 : (0 : Int) ≤ (k : Int) := Int.natCast_nonneg _
      have hi2 : (k : Int) < (ys.length : Int) := by omega
      have hi3 : (k : Int) < (ws.length : Int) := by omega
      have q1 := IntWalk.i64_in (n.x * ys[k].x.lo + n.y * ys[k].y.lo) (by omega)
      have q2 := IntWalk.i64_in (n.x * ys[k].x.lo + n.y * ys[k].y.lo + n.z * ys[k].z.lo) (by omega)
      have q3 := IntWalk.i64_in (T + ws[k] * (n.x * ys[k].x.lo + n.y * ys[k].y.lo + n.z * ys[k].z.lo)) (by omega)
      have HT := hide hT
      clear hT jB jN
      go_wp2_with fail
      go_quiet (fail)
      clear q1 q2 q3
      go_wp2_with fail
      go_roundw
      case rel => exact ⟨k + 1, by omega, by simp, by rw [SN.out]; rfl, JN.out, below_drewN JB.out _, jz⟩
      case measure => simp [intOf] <;> omega
    · obtain rfl : k = ys.length := by omega
      have e1 : ys.take ys.length = ys := List.take_of_length_le (Nat.le_refl _)
      have e2 : ws.take ys.length = ws := List.take_of_length_le (by have := LW.out; omega)
      rw [e1, e2]
      clear e1 e2 jN jB
      go_wp2_with fail
      go_ret
      exact ⟨rfl, JB.out⟩
/-- the first normal that separates -/
noncomputable def firstI (l : List V3) (a : List IV) (ra : Int) (b : List IV) (rb : Int) : Nat → Option Nat
  | 0 => none
  | k + 1 => match firstI l a ra b rb k with
    | some i => some i
    | none => if sepB (l.getD k zeroV) a ra b rb then some k else none
noncomputable def firstR (l : List V3) (a : List IV) (ra : Int) (b : List IV) (rb : Int) : Value := match firstI l a ra b rb l.length with
  | some i => .tuple #[.int .i64 i, .bool true]
  | none => .tuple #[.int .i64 0, .bool false]
theorem firstI_hit {l : List V3} {a b : List IV} {ra rb : Int} {k : Nat} (hk : k < l.length) (h : firstI l a ra b rb k = none) (hs : sepB l[k] a ra b rb = true) : ∀ m, k < m → firstI l a ra b rb m = some k := by
  intro m hm
  obtain ⟨j, rfl⟩ : ∃ j, m = k + 1 + j := ⟨m - (k + 1), by omega⟩
  induction j with
  | zero => simp [firstI, h, List.getD, List.getElem?_eq_getElem hk, hs]
  | succ j ih =>
    have := ih (by omega)
    rw [show k + 1 + (j + 1) = k + 1 + j + 1 by omega]
    simp [firstI, this]
theorem firstI_miss {l : List V3} {a b : List IV} {ra rb : Int} {k : Nat} (hk : k < l.length) (h : firstI l a ra b rb k = none) (hs : sepB l[k] a ra b rb = false) : firstI l a ra b rb (k + 1) = none := by
  simp [firstI, h, List.getD, List.getElem?_eq_getElem hk, hs]
theorem firstR_hit {l : List V3} {a b : List IV} {ra rb : Int} {k : Nat} (hk : k < l.length) (h : firstI l a ra b rb k = none) (hs : sepB l[k] a ra b rb = true) : firstR l a ra b rb = .tuple #[.int .i64 k, .bool true] := by
  unfold firstR; rw [firstI_hit hk h hs _ hk]
theorem firstR_none {l : List V3} {a b : List IV} {ra rb : Int} (h : firstI l a ra b rb l.length = none) : firstR l a ra b rb = .tuple #[.int .i64 0, .bool false] := by
  unfold firstR; rw [h]
/-- armplanref14.First -/
theorem first_ref (C A B : Option Addr) (l : List V3) (a b : List IV) (ra rb : Int) (c1 c2 c3 : Nat) (w : World) (hl : SlV w C l) (ha : SlI w A a) (hb : SlI w B b) (ml : l.length ≤ 9223372036854775807) (ma : a.length ≤ 9223372036854775807) (mb : b.length ≤ 9223372036854775807) :
    Calls Try.prog 77 #[.slice C l.length c1, .slice A a.length c2, .int .i64 ra, .slice B b.length c3, .int .i64 rb] w fun e w' => e = .returned (firstR l a ra b rb) ∧ Below w.heap.size w w' := by
  have SL := hide hl; have SA := hide ha; have SB := hide hb; clear hl ha hb
  go_enter Try.func77, Try.ntmps77
  go_wp2_with fail
  go_loopw [12] (fun i wr => ∃ k : Nat, k ≤ l.length ∧ i = .int .i64 k ∧ firstI l a ra b rb k = none ∧ Below w.heap.size w wr) (fun i _ => l.length - (intOf i).toNat)
  case atStart => exact ⟨0, by omega, rfl, rfl, Below.refl _ _⟩
  case round =>
    obtain ⟨k, hk, rfl, hf, hb⟩ := hrel
    have HF := hide hf; have HB := hide hb; have hz := hb.size
    clear hf hb
    by_cases hkl : k < l.length
    · obtain ⟨g, off, rfl, hgg⟩ := SlV.addr SL.out (by omega)
      obtain ⟨h0, h1, h2⟩ := SlV.at_ (Sl.below SL.out HB.out) hkl
      go_wp2_with fail
      refine (separates_ref l[k] A a c2 ra B b c3 rb _ (SA.out.below HB.out) (SB.out.below HB.out) ma mb).mono ?_
      rintro e w1 ⟨rfl, hb1⟩
      have HB1 := hide (HB.out.trans (hb1.mono hz))
      clear hb1 h0 h1 h2
      cases hs : sepB l[k] a ra b rb
      · have HM := hide (firstI_miss hkl HF.out hs); clear hs
        go_wp2_with fail
        go_roundw
        case rel => exact ⟨k + 1, by omega, by simp, HM.out, HB1.out⟩
        case measure => simp [intOf] <;> omega
      · have HM := hide (firstR_hit hkl HF.out hs); clear hs
        go_wp2_with fail
        go_ret2
        exact ⟨by rw [HM.out]; rfl, HB1.out⟩
    · obtain rfl : k = l.length := by omega
      have HM := hide (firstR_none HF.out)
      go_wp2_with fail
      go_ret2
      exact ⟨by rw [HM.out]; rfl, HB.out⟩
/-- plane.First -/
theorem first_any (C A B : Option Addr) (l : List V3) (a b : List IV) (ra rb : Int) (c1 c2 c3 : Nat) (w : World) (hl : SlV w C l) (ha : SlI w A a) (hb : SlI w B b) (ml : l.length ≤ 9223372036854775807) (ma : a.length ≤ 9223372036854775807) (mb : b.length ≤ 9223372036854775807) :
    Calls Try.prog 76 #[.slice C l.length c1, .slice A a.length c2, .int .i64 ra, .slice B b.length c3, .int .i64 rb] w fun e w' => e = .returned (firstR l a ra b rb) ∧ Below w.heap.size w w' := by
  have SL := hide hl; have SA := hide ha; have SB := hide hb; clear hl ha hb
  go_enter Try.func76, Try.ntmps76
  go_wp2_with fail
  refine (both_any A a c2 ra B b c3 rb _).mono ?_
  rintro e w1 ⟨rfl, hb1⟩
  unfold sidesV
  have HB0 := hide hb1; have hz1 := hb1.size; clear hb1
  go_wp2_with fail
  go_loopw [23] (fun i wr => ∃ k : Nat, k ≤ l.length ∧ i = .int .i64 k ∧ firstI l a ra b rb k = none ∧ wr.heap[w1.heap.size]? = some (.cells (sidesV A a c2 ra B b c3 rb) 138 (0, 0)) ∧ Below w.heap.size w wr ∧ w1.heap.size < wr.heap.size) (fun i _ => l.length - (intOf i).toNat)
  case atStart => exact ⟨0, by omega, rfl, rfl, heap_alloc_new w1 _, HB0.out.alloc hz1 _, by simp⟩
  case round =>
    obtain ⟨k, hk, rfl, hf, jD, hb, jz⟩ := hrel
    have HF := hide hf; have HB := hide hb; have hz := hb.size; have JD := hide jD
    clear hf hb jD
    by_cases hkl : k < l.length
    · obtain ⟨g, off, rfl, hgg⟩ := SlV.addr SL.out (by omega)
      obtain ⟨h0, h1, h2⟩ := SlV.at_ (Sl.below SL.out HB.out) hkl
      have cD := blk_cell JD.out; simp only [sidesV] at cD
      go_wp2_with fail
      refine (sidesSep_any l[k] A a c2 ra B b c3 rb _ (by exact Sl.alloc (SA.out.below HB.out) _) (by exact Sl.alloc (SB.out.below HB.out) _) ma mb).mono ?_
      rintro e w2 ⟨rfl, hb2⟩
      have HD2 := hide ((hb2.block _ (by simp; omega)).trans ((Below.heap_alloc _ _ _ jz).trans JD.out))
      have HB2 := hide (show Below w.heap.size w w2 from (HB.out.alloc hz _).trans (hb2.mono (by simp; omega)))
      have jz2 : w1.heap.size < w2.heap.size := by have := hb2.size; simp at this; omega
      clear hb2 h0 h1 h2 cD
      cases hs : sepB l[k] a ra b rb
      · have HM := hide (firstI_miss hkl HF.out hs); clear hs
        go_wp2_with fail
        go_roundw
        case rel => exact ⟨k + 1, by omega, by simp, HM.out, HD2.out, HB2.out, jz2⟩
        case measure => simp [intOf] <;> omega
      · have HM := hide (firstR_hit hkl HF.out hs); clear hs
        go_wp2_with fail
        go_ret2
        exact ⟨by rw [HM.out]; rfl, HB2.out⟩
    · obtain rfl : k = l.length := by omega
      have HM := hide (firstR_none HF.out)
      go_wp2_with fail
      go_ret2
      exact ⟨by rw [HM.out]; rfl, HB.out⟩
end Go.Proofs.Ytionbckpgfaneaa
