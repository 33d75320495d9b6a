/- Walks of the normals, part c: the sum of points. -/
import Derived.Test.YtionbckpgfaneaaQb
import Derived.Test.YtionbckpgfaneaaXe
import Derived.RegionTactic
namespace Go.Proofs.Ytionbckpgfaneaa
open Go.RowKit
set_option maxHeartbeats 4000000
set_option maxRecDepth 100000
theorem sum3_snoc (l : List V3) (k : Nat) (h : k < l.length) : sum3 (l.take (k + 1)) = ⟨(sum3 (l.take k)).x + l[k].x, (sum3 (l.take k)).y + l[k].y, (sum3 (l.take k)).z + l[k].z⟩ := by
  unfold sum3
  rw [List.take_succ_eq_append_getElem h]
  simp only [List.map_append, List.sum_append, List.map_cons, List.map_nil, List.sum_cons, List.sum_nil, Int.add_zero]
theorem sum3_bd (l : List V3) (h : ∀ p ∈ l, Mod p) (k : Nat) (hk : k ≤ l.length) : (-(k * 536870912) ≤ (sum3 (l.take k)).x ∧ (sum3 (l.take k)).x ≤ k * 536870912) ∧ (-(k * 536870912) ≤ (sum3 (l.take k)).y ∧ (sum3 (l.take k)).y ≤ k * 536870912) ∧ (-(k * 536870912) ≤ (sum3 (l.take k)).z ∧ (sum3 (l.take k)).z ≤ k * 536870912) := by
  induction k with
  | zero => simp [sum3]
  | succ k ih =>
    have := ih (by omega)
    have m := h (l[k]'(by omega)) (by simp)
    unfold Mod at m
    rw [sum3_snoc l k (by omega)]
    simp only
    omega
def T3Inv (w : World) (N : Nat) (l : List V3) (i : Value) (wr : World) : Prop :=
  ∃ k : Nat, k ≤ l.length ∧ i = .int .i64 k ∧ wr.heap[N + 1]? = some (.cells (v3c (sum3 (l.take k))) 47 (0, 0)) ∧ wr.heap[N]? = some (.cells (v3c ⟨0, 0, 0⟩) 47 (0, 0)) ∧ Below N w wr ∧ N + 1 < wr.heap.size
def T3In (w : World) (N Pb : Nat) (p v u : V3) (i : Value) (ww : World) : Prop :=
  ∃ m : Int, i = .int .i64 m ∧ 0 ≤ m ∧ m ≤ 3 ∧ ww.heap[N + 1]? = some (.cells (v3c (mixV m v u)) 47 (0, 0)) ∧ ww.heap[N]? = some (.cells (v3c ⟨0, 0, 0⟩) 47 (0, 0)) ∧ ww.heap[Pb]? = some (.cells (v3c p) 47 (0, 0)) ∧ Below N w ww ∧ N + 1 < ww.heap.size ∧ Pb < ww.heap.size
theorem T3In.next {w wr wf : World} {N Pb : Nat} {p v u : V3} {m : Int} (hP0 : N + 1 < Pb) (hS : wr.heap[N + 1]? = some (.cells (v3c (mixV m v u)) 47 (0, 0))) (hN : wr.heap[N]? = some (.cells (v3c ⟨0, 0, 0⟩) 47 (0, 0))) (hP : wr.heap[Pb]? = some (.cells (v3c p) 47 (0, 0))) (hb : Below N w wr) (hz : N + 1 < wr.heap.size) (hz2 : Pb < wr.heap.size)
    (i : Nat) (a : Value) (hm0 : 0 ≤ m + 1) (hm3 : m + 1 ≤ 3) (he : (v3c (mixV m v u)).setIfInBounds i a = v3c (mixV (m + 1) v u)) (hf : Like wf (wr.setCell ⟨N + 1, i, none⟩ a)) :
    T3In w N Pb p v u (.int .i64 (m + 1)) wf := by
  refine ⟨m + 1, rfl, hm0, hm3, ?_, ?_, ?_, hf.below (hb.setCell (by simp) a), ?_, ?_⟩
  · rw [hf.1, ← he]
    exact blk_set hS i a
  · rw [hf.1, Below.heap_setCell _ _ _ _ (by simp)]
    exact hN
  · rw [hf.1, Below.heap_setCell _ _ _ _ (by simp; omega)]
    exact hP
  · rw [hf.1]; simpa [World.setCell] using hz
  · rw [hf.1]; simpa [World.setCell] using hz2
/-- normals.sum -/
theorem sum170 (A : Option Addr) (l : List V3) (c : Nat) (w : World) (hs : SlV w A l) (hm : l.length ≤ 1000) (hv : ∀ p ∈ l, Mod p) :
    Calls Try.prog 170 #[.slice A l.length c] w fun e w' => e = .returned (.agg #[.int .i64 (sum3 l).x, .int .i64 (sum3 l).y, .int .i64 (sum3 l).z]) ∧ Below w.heap.size w w' := by
  have HS := hide hs; have HM := hide hv; clear hs hv
  go_enter Try.func170, Try.ntmps170
  go_wp2_with fail
  go_loopw [9] (fun i wr => T3Inv w w.heap.size l i wr) (fun i _ => l.length - (intOf i).toNat)
  case atStart =>
    exact ⟨0, by omega, rfl, new_at _ _ (by simp), (Below.heap_alloc _ _ _ (by simp)).trans (heap_alloc_new w _), by go_grown, by simp⟩
  case round =>
    obtain ⟨wo, rfl⟩ : ∃ wo : World, wo = wr := ⟨_, rfl⟩
    obtain ⟨k, hk, rfl, hS, hN, hb, hz⟩ := hrel
    have HBo := hide hb; have HSo := hide hS; have HNo := hide hN; have hzo := hb.size
    clear hb hS hN
    by_cases hlt : k < l.length
    · have hk0 : (0 : Int) ≤ (k : Int) := Int.natCast_nonneg _
      have hk1 : (k : Int) < (l.length : Int) := by omega
      obtain ⟨b1, o1, rfl, hb1⟩ := HS.out.addr (by omega)
      obtain ⟨⟨v1, v2⟩, ⟨v3, v4⟩, v5, v6⟩ := HM.out l[k] (by simp)
      have q := sum3_bd l HM.out k hk
      have CS := hide (sum3_snoc l k hlt)
      obtain ⟨v, hv⟩ : ∃ v, v = sum3 (l.take k) := ⟨_, rfl⟩
      rw [← hv] at q
      obtain ⟨⟨q1, q2⟩, ⟨q3, q4⟩, q5, q6⟩ := q
      have HV := hide hv; clear hv
      obtain ⟨p, hp⟩ : ∃ p, p = l[k] := ⟨_, rfl⟩
      rw [← hp] at v1 v2 v3 v4 v5 v6
      have HPP := hide hp
      obtain ⟨u, hu⟩ : ∃ u : V3, u = ⟨v.x + p.x, v.y + p.y, v.z + p.z⟩ := ⟨_, rfl⟩
      have HU := hide hu; clear hu
      have HSv := hide (show wo.heap[w.heap.size + 1]? = some (.cells (v3c (mixV 0 v u)) 47 (0, 0)) by rw [HV.out]; exact HSo.out)
      obtain ⟨h0, h1, h2⟩ := (HS.out.below HBo.out).at_ hlt
      rw [← hp] at h0 h1 h2
      clear hp
      go_wp2_with fail
      go_loopw [13] (fun i ww => T3In w w.heap.size wo.heap.size p v u i ww) (fun i _ => 3 - (intOf i).toNat)
      case atStart => exact ⟨0, rfl, by omega, by omega, (Below.heap_alloc _ _ _ hz).trans HSv.out, (Below.heap_alloc _ _ _ (by omega)).trans HNo.out, heap_alloc_new wo _, HBo.out.alloc (by omega) _, by simp; omega, by simp⟩
      case round =>
        clear h0 h1 h2
        obtain ⟨m, rfl, hm0, hm3, iS, iN, iP, iB, iz, iz2⟩ := hrel
        have IS := hide iS; have IN := hide iN; have IB := hide iB; have IP := hide iP
        have hcS := blk_cell iS
        have hfS := blk_frozen iS
        have hcP := blk_cell iP; simp only [v3c] at hcP
        have hne : wo.heap.size ≠ w.heap.size + 1 := by omega
        clear iS iN iB iP
        obtain rfl | rfl | rfl | rfl : m = 0 ∨ m = 1 ∨ m = 2 ∨ m = 3 := by omega
        · simp [v3c, mixV] at hcS
          go_wp2_with fail
          go_region
          go_wp2_with fail
          go_roundw
          case rel => exact T3In.next hz IS.out IN.out IP.out IB.out iz iz2 0 _ (by omega) (by omega) (by rw [HU.out]; rfl) ⟨rfl, rfl, rfl, rfl⟩
          case measure => simp [intOf]
        · simp [v3c, mixV] at hcS
          go_wp2_with fail
          go_region
          go_wp2_with fail
          go_roundw
          case rel => exact T3In.next hz IS.out IN.out IP.out IB.out iz iz2 1 _ (by omega) (by omega) (by rw [HU.out]; rfl) ⟨rfl, rfl, rfl, rfl⟩
          case measure => simp [intOf]
        · simp [v3c, mixV] at hcS
          go_wp2_with fail
          go_region
          go_wp2_with fail
          go_roundw
          case rel => exact T3In.next hz IS.out IN.out IP.out IB.out iz iz2 2 _ (by omega) (by omega) (by rw [HU.out]; rfl) ⟨rfl, rfl, rfl, rfl⟩
          case measure => simp [intOf]
        · have e : mixV 3 v u = u := rfl
          rw [e] at IS
          clear hcS hfS e hcP
          go_wp2_with fail
          go_roundw
          case rel => exact ⟨k + 1, by omega, by simp, by rw [CS.out, ← HV.out, ← HPP.out, ← HU.out]; exact IS.out, IN.out, IB.out, iz⟩
          case measure => simp [intOf] <;> omega
    · obtain rfl : k = l.length := by omega
      have eL : l.take l.length = l := List.take_of_length_le (by omega)
      rw [eL] at HSo
      clear eL
      have hcS := blk_cell HSo.out
      have hcN := blk_cell HNo.out
      have hfN := blk_frozen HNo.out
      have hz1 : w.heap.size < wo.heap.size := by omega
      simp only [v3c] at hcS hcN
      go_wp2_with fail
      refine bodyPost_ret (v := .agg #[.int .i64 (sum3 l).x, .int .i64 (sum3 l).y, .int .i64 (sum3 l).z]) (by simp [results, Try.results170, go_sem, hcN]) rfl ⟨rfl, ?_⟩
      exact ((HBo.out.setCell (by simp) _).setCell (by simp) _).setCell (by simp) _
end Go.Proofs.Ytionbckpgfaneaa
