/- Walks, part r: the references' Sum. -/
import Derived.Test.YtionbckpgfaneaaPd
import Derived.RegionTactic
namespace Go.Proofs.Ytionbckpgfaneaa
open Go.RowKit
set_option maxHeartbeats 1000000
set_option maxRecDepth 100000
def v3c (v : V3) : Array Value := #[.int .i64 v.x, .int .i64 v.y, .int .i64 v.z]
def mixV (m : Int) (v u : V3) : V3 := ⟨if 0 < m then u.x else v.x, if 1 < m then u.y else v.y, if 2 < m then u.z else v.z⟩
theorem dotL_snocG {α : Type} (ws : List Int) (l : List α) (f : α → Int) (k : Nat) (h1 : k < ws.length) (h2 : k < l.length) :
    dotL (ws.take (k + 1)) ((l.take (k + 1)).map f) = dotL (ws.take k) ((l.take k).map f) + ws[k] * f l[k] := by
  unfold dotL
  rw [List.take_succ_eq_append_getElem h1, List.take_succ_eq_append_getElem h2, List.map_append, List.zipWith_append (by simp; omega), List.sum_append]
  simp
theorem dotL_bdG {α : Type} (ws : List Int) (l : List α) (f : α → Int) (k : Nat) (h1 : k ≤ ws.length) (h2 : k ≤ l.length) (hw : ∀ x ∈ ws, 0 ≤ x ∧ x ≤ 65536) (hf : ∀ p ∈ l, -536870912 ≤ f p ∧ f p ≤ 536870912) :
    -(k * 35184372088832) ≤ dotL (ws.take k) ((l.take k).map f) ∧ dotL (ws.take k) ((l.take k).map f) ≤ k * 35184372088832 := by
  induction k with
  | zero => simp [dotL]
  | succ k ih =>
    have := ih (by omega) (by omega)
    rw [dotL_snocG ws l f k (by omega) (by omega)]
    have w1 := hw (ws[k]'(by omega)) (by simp)
    have f1 := hf (l[k]'(by omega)) (by simp)
    have := mul_bd (ws[k]'(by omega)) (f (l[k]'(by omega))) 65536 536870912 w1.1 w1.2 f1.1 f1.2
    omega
theorem sumV_snoc (ws : List Int) (l : List V3) (k : Nat) (h1 : k < ws.length) (h2 : k < l.length) : sumV (l.take (k + 1)) (ws.take (k + 1)) =
    ⟨(sumV (l.take k) (ws.take k)).x + ws[k] * l[k].x, (sumV (l.take k) (ws.take k)).y + ws[k] * l[k].y, (sumV (l.take k) (ws.take k)).z + ws[k] * l[k].z⟩ := by
  unfold sumV
  rw [dotL_snocG ws l _ k h1 h2, dotL_snocG ws l _ k h1 h2, dotL_snocG ws l _ k h1 h2]
/-- coordinates of moderate size -/
def Mod (v : V3) : Prop := (-536870912 ≤ v.x ∧ v.x ≤ 536870912) ∧ (-536870912 ≤ v.y ∧ v.y ≤ 536870912) ∧ (-536870912 ≤ v.z ∧ v.z ≤ 536870912)
def SInv (w : World) (N S : Nat) (l : List V3) (ws : List Int) (i : Value) (wr : World) : Prop :=
  ∃ k : Nat, k ≤ l.length ∧ i = .int .i64 k ∧ wr.heap[S]? = some (.cells (v3c (sumV (l.take k) (ws.take k))) 47 (0, 0)) ∧ wr.heap[N]? = some (.cells (v3c ⟨0, 0, 0⟩) 47 (0, 0)) ∧ Below N w wr ∧ S < wr.heap.size
def SIn (w : World) (N S : Nat) (v u : V3) (i : Value) (ww : World) : Prop :=
  ∃ m : Int, i = .int .i64 m ∧ 0 ≤ m ∧ m ≤ 3 ∧ ww.heap[S]? = some (.cells (v3c (mixV m v u)) 47 (0, 0)) ∧ ww.heap[N]? = some (.cells (v3c ⟨0, 0, 0⟩) 47 (0, 0)) ∧ Below N w ww ∧ S < ww.heap.size
theorem SIn.next {w wr wf : World} {N S : Nat} {v u : V3} {m : Int} (hNS : N < S) (hS : wr.heap[S]? = some (.cells (v3c (mixV m v u)) 47 (0, 0))) (hN : wr.heap[N]? = some (.cells (v3c ⟨0, 0, 0⟩) 47 (0, 0))) (hb : Below N w wr) (hz : S < wr.heap.size)
    (i : Nat) (a : Value) (hm0 : 0 ≤ m + 1) (hm3 : m + 1 ≤ 3) (he : (v3c (mixV m v u)).setIfInBounds i a = v3c (mixV (m + 1) v u)) (hf : Like wf (wr.setCell ⟨S, i, none⟩ a)) :
    SIn w N S v u (.int .i64 (m + 1)) wf := by
  refine ⟨m + 1, rfl, hm0, hm3, ?_, ?_, hf.below (hb.setCell (by simp; omega) a), ?_⟩
  · rw [hf.1, ← he]
    exact blk_set hS i a
  · rw [hf.1, Below.heap_setCell _ _ _ _ (by simp; omega)]
    exact hN
  · rw [hf.1]; simpa [World.setCell] using hz
/-- armplanref14.Sum -/
theorem sum_ref (A B : Option Addr) (l : List V3) (ws : List Int) (c d : Nat) (w : World) (hs : SlV w A l) (ht : SlN w B ws) (hm : l.length ≤ 1000) (hl : ws.length = l.length) (hw : ∀ x ∈ ws, 0 ≤ x ∧ x ≤ 65536) (hv : ∀ p ∈ l, Mod p) :
    Calls Try.prog 51 #[.slice A l.length c, .slice B ws.length d] w fun e w' => e = .returned (sumV l ws).v ∧ Below w.heap.size w w' := by
  have HS := hide hs; have HT := hide ht; have HL := hide hl; have HW := hide hw; have HM := hide hv; clear hs ht hl hw hv
  go_enter Try.func51, Try.ntmps51
  go_wp2_with fail
  go_loopw [6] (fun i wr => SInv w w.heap.size (w.heap.size + 1) l ws i wr) (fun i _ => l.length - (intOf i).toNat)
  case atStart =>
    exact ⟨0, by omega, rfl, new_at _ _ (by simp), (Below.heap_alloc _ _ _ (by simp)).trans (heap_alloc_new w _), by go_grown, by simp⟩
  case round =>
    obtain ⟨wo, rfl⟩ : ∃ wo : World, wo = wr := ⟨_, rfl⟩
    obtain ⟨k, hk, rfl, hS, hN, hb, hz⟩ := hrel
    have HBo := hide hb; have HSo := hide hS; have HNo := hide hN; have hzo := hb.size
    clear hb hS hN
    by_cases hlt : k < l.length
    · have hltw : k < ws.length := by have := HL.out; omega
      have hltw' : (k : Int) < (ws.length : Int) := by omega
      have hk0 : (0 : Int) ≤ (k : Int) := Int.natCast_nonneg _
      have hk1 : (k : Int) < (l.length : Int) := by omega
      obtain ⟨b1, o1, rfl, hb1⟩ := HS.out.addr (by omega)
      obtain ⟨b2, o2, rfl, hb2⟩ := HT.out.addr (by omega)
      obtain ⟨hw1, hw2⟩ := HW.out ws[k] (by simp)
      obtain ⟨⟨v1, v2⟩, ⟨v3, v4⟩, v5, v6⟩ := HM.out l[k] (by simp)
      obtain ⟨q1, q2⟩ := dotL_bdG ws l (·.x) k (by omega) hk HW.out (fun p hp => (HM.out p hp).1)
      obtain ⟨q3, q4⟩ := dotL_bdG ws l (·.y) k (by omega) hk HW.out (fun p hp => (HM.out p hp).2.1)
      obtain ⟨q5, q6⟩ := dotL_bdG ws l (·.z) k (by omega) hk HW.out (fun p hp => (HM.out p hp).2.2)
      obtain ⟨m1, m2⟩ := mul_bd ws[k] l[k].x 65536 536870912 hw1 hw2 v1 v2
      obtain ⟨m3, m4⟩ := mul_bd ws[k] l[k].y 65536 536870912 hw1 hw2 v3 v4
      obtain ⟨m5, m6⟩ := mul_bd ws[k] l[k].z 65536 536870912 hw1 hw2 v5 v6
      have CS := hide (sumV_snoc ws l k hltw hlt)
      obtain ⟨v, hv⟩ : ∃ v, v = sumV (l.take k) (ws.take k) := ⟨_, rfl⟩
      have e1 : dotL (ws.take k) ((l.take k).map (·.x)) = v.x := by rw [hv]; rfl
      have e2 : dotL (ws.take k) ((l.take k).map (·.y)) = v.y := by rw [hv]; rfl
      have e3 : dotL (ws.take k) ((l.take k).map (·.z)) = v.z := by rw [hv]; rfl
      rw [e1] at q1 q2
      rw [e2] at q3 q4
      rw [e3] at q5 q6
      have HV := hide hv; clear hv e1 e2 e3
      obtain ⟨u, hu⟩ : ∃ u : V3, u = ⟨v.x + ws[k] * l[k].x, v.y + ws[k] * l[k].y, v.z + ws[k] * l[k].z⟩ := ⟨_, rfl⟩
      have HU := hide hu; clear hu
      have hSv : wo.heap[w.heap.size + 1]? = some (.cells (v3c (mixV 0 v u)) 47 (0, 0)) := by rw [HV.out]; exact HSo.out
      have HSv := hide hSv; clear hSv
      go_wp2_with fail
      go_loopw [7] (fun i ww => SIn w w.heap.size (w.heap.size + 1) v u i ww) (fun i _ => 3 - (intOf i).toNat)
      case atStart => exact ⟨0, rfl, by omega, by omega, HSv.out, HNo.out, HBo.out, hz⟩
      case round =>
        obtain ⟨m, rfl, hm0, hm3, iS, iN, iB, iz⟩ := hrel
        obtain ⟨h0, h1, h2⟩ := (HS.out.below iB).at_ hlt
        have hw := (HT.out.below iB).at_ hltw
        have IS := hide iS; have IN := hide iN; have IB := hide iB
        have hcS := blk_cell iS
        have hfS := blk_frozen iS
        clear iS iN iB
        obtain rfl | rfl | rfl | rfl : m = 0 ∨ m = 1 ∨ m = 2 ∨ m = 3 := by omega
        · simp [v3c, mixV] at hcS
          go_wp2_with fail
          go_region
          go_wp2_with fail
          go_roundw
          case rel => exact SIn.next (Nat.lt_succ_self _) IS.out IN.out IB.out iz 0 _ (by omega) (by omega) (by rw [HU.out]; rfl) ⟨rfl, rfl, rfl, rfl⟩
          case measure => simp [intOf]
        · simp [v3c, mixV] at hcS
          go_wp2_with fail
          go_region
          go_wp2_with fail
          go_roundw
          case rel => exact SIn.next (Nat.lt_succ_self _) IS.out IN.out IB.out iz 1 _ (by omega) (by omega) (by rw [HU.out]; rfl) ⟨rfl, rfl, rfl, rfl⟩
          case measure => simp [intOf]
        · simp [v3c, mixV] at hcS
          go_wp2_with fail
          go_region
          go_wp2_with fail
          go_roundw
          case rel => exact SIn.next (Nat.lt_succ_self _) IS.out IN.out IB.out iz 2 _ (by omega) (by omega) (by rw [HU.out]; rfl) ⟨rfl, rfl, rfl, rfl⟩
          case measure => simp [intOf]
        · have e : mixV 3 v u = u := rfl
          rw [e] at IS
          clear hcS hfS e
          go_wp2_with fail
          go_roundw
          case rel => exact ⟨k + 1, by omega, by simp, by rw [CS.out, ← HV.out, ← HU.out]; exact IS.out, IN.out, IB.out, iz⟩
          case measure => simp [intOf] <;> omega
    · obtain rfl : k = l.length := by omega
      have eT : ws.take l.length = ws := List.take_of_length_le (by have := HL.out; omega)
      have eL : l.take l.length = l := List.take_of_length_le (by omega)
      rw [eT, eL] at HSo
      clear eT eL
      have hcS := blk_cell HSo.out
      have hcN := blk_cell HNo.out
      have hfN := blk_frozen HNo.out
      simp only [v3c] at hcS hcN
      go_wp2_with fail
      refine bodyPost_ret (v := (sumV l ws).v) (by simp [results, Try.results51, go_sem, hcN, V3.v]) rfl ⟨rfl, ?_⟩
      exact ((HBo.out.setCell (Nat.le_refl _) _).setCell (Nat.le_refl _) _).setCell (Nat.le_refl _) _
end Go.Proofs.Ytionbckpgfaneaa
