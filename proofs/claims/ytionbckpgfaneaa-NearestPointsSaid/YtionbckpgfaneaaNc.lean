/- Walks of the search, part c: newList, sum, gather. -/
import Derived.Test.YtionbckpgfaneaaNb
import Derived.Test.YtionbckpgfaneaaPi
import Derived.Test.YtionbckpgfaneaaWr
import Derived.Test.YtionbckpgfaneaaPh
namespace Go.Proofs.Ytionbckpgfaneaa
open Go.RowKit
set_option maxHeartbeats 1000000
set_option maxRecDepth 100000
attribute [local go_sem] index47_0 index47_1 index47_2
def NewListPost (A : Option Addr) (l : List V3) (c : Nat) (w : World) (e : Ending) (w' : World) : Prop :=
  e = .returned (.agg #[.slice A l.length c, .slice (some ⟨w.heap.size + 1, 0, none⟩) l.length l.length]) ∧ w'.heap[w.heap.size + 1]? = some (.cells (iArr (oneAt l.length 0 65536)) 2 (0, 0)) ∧ w.heap.size + 1 < w'.heap.size ∧ Below w.heap.size w w'
/-- nearest.newList -/
theorem newList_any (A : Option Addr) (l : List V3) (c : Nat) (w : World) (h1 : 1 ≤ l.length) (h8 : l.length ≤ 8) :
    Calls Try.prog 128 #[.slice A l.length c] w (NewListPost A l c w) := by
  have hmk := make22 l.length (by omega)
  have hr : (iArr (List.replicate l.length 0))[0]? = some (.int .i64 0) := by rw [iArr_get (by simp; omega)]; simp
  have hsz : 0 < (iArr (List.replicate l.length 0)).size := by rw [iArr_size]; simp; omega
  go_enter Try.func128, Try.ntmps128
  go_wp2_with fail
  refine bodyPost_ret (v := .agg #[.slice A l.length c, .slice (some ⟨w.heap.size + 1, 0, none⟩) l.length l.length]) (by simp [results, Try.results128, go_sem]) rfl ⟨rfl, ?_, by simp, by go_grown⟩
  rw [show oneAt l.length 0 65536 = (List.replicate l.length 0).set 0 65536 from rfl, ← iArr_set]
  exact new_at _ _ (by simp)
def C2 (A B : Option Addr) (n c d : Nat) : Array Value := #[.slice A n c, .slice B n d]
def S3Inv (w : World) (N : Nat) (A B : Option Addr) (c d : Nat) (l : List V3) (ws : List Int) (i : Value) (wr : World) : Prop :=
  ∃ k : Nat, k ≤ l.length ∧ i = .int .i64 k ∧ wr.heap[N + 1 + 1]? = some (.cells (v3c (sumV (l.take k) (ws.take k))) 47 (0, 0)) ∧ wr.heap[N + 1]? = some (.cells (v3c ⟨0, 0, 0⟩) 47 (0, 0)) ∧ wr.heap[N]? = some (.cells (C2 A B l.length c d) 145 (0, 0)) ∧ Below N w wr ∧ N + 1 + 1 < wr.heap.size
def S3In (w : World) (N : Nat) (A B : Option Addr) (n c d : Nat) (v u : V3) (i : Value) (ww : World) : Prop :=
  ∃ m : Int, i = .int .i64 m ∧ 0 ≤ m ∧ m ≤ 3 ∧ ww.heap[N + 1 + 1]? = some (.cells (v3c (mixV m v u)) 47 (0, 0)) ∧ ww.heap[N + 1]? = some (.cells (v3c ⟨0, 0, 0⟩) 47 (0, 0)) ∧ ww.heap[N]? = some (.cells (C2 A B n c d) 145 (0, 0)) ∧ Below N w ww ∧ N + 1 + 1 < ww.heap.size
theorem S3In.next {w wr wf : World} {N : Nat} {A B : Option Addr} {n c d : Nat} {v u : V3} {m : Int} (hS : wr.heap[N + 1 + 1]? = some (.cells (v3c (mixV m v u)) 47 (0, 0))) (hN : wr.heap[N + 1]? = some (.cells (v3c ⟨0, 0, 0⟩) 47 (0, 0))) (hP : wr.heap[N]? = some (.cells (C2 A B n c d) 145 (0, 0))) (hb : Below N w wr) (hz : N + 1 + 1 < wr.heap.size)
    (i : Nat) (a : Value) (hm0 : 0 ≤ m + 1) (hm3 : m + 1 ≤ 3) (he : (v3c (mixV m v u)).setIfInBounds i a = v3c (mixV (m + 1) v u)) (hf : Like wf (wr.setCell ⟨N + 1 + 1, i, none⟩ a)) :
    S3In w N A B n c d v u (.int .i64 (m + 1)) wf := by
  refine ⟨m + 1, rfl, hm0, hm3, ?_, ?_, ?_, hf.below (hb.setCell (by simp; omega) a), ?_⟩
  · rw [hf.1, ← he]
    exact blk_set hS i a
  · rw [hf.1, Below.heap_setCell _ _ _ _ (by simp)]
    exact hN
  · rw [hf.1, Below.heap_setCell _ _ _ _ (by simp; omega)]
    exact hP
  · rw [hf.1]; simpa [World.setCell] using hz
/-- nearest.list.sum -/
theorem sumN_any (A B : Option Addr) (l : List V3) (ws : List Int) (c d : Nat) (w : World) (hs : SlV w A l) (ht : SlN w B ws) (hm : l.length ≤ 1000) (hl : ws.length = l.length) (hw : ∀ x ∈ ws, 0 ≤ x ∧ x ≤ 65536) (hv : ∀ p ∈ l, Mod p) :
    Calls Try.prog 163 #[.agg #[.slice A l.length c, .slice B l.length d]] w fun e w' => e = .returned (.agg #[.int .i64 (sumV l ws).x, .int .i64 (sumV l ws).y, .int .i64 (sumV l ws).z]) ∧ Below w.heap.size w w' := by
  have HS := hide hs; have HT := hide ht; have HL := hide hl; have HW := hide hw; have HM := hide hv; clear hs ht hl hw hv
  go_enter Try.func163, Try.ntmps163
  go_wp2_with fail
  go_loopw [11] (fun i wr => S3Inv w w.heap.size A B c d l ws i wr) (fun i _ => l.length - (intOf i).toNat)
  case atStart =>
    exact ⟨0, by omega, rfl, new_at _ _ (by simp), (Below.heap_alloc _ _ _ (by simp)).trans (new_at _ _ (by simp)), (Below.heap_alloc _ _ _ (by simp <;> omega)).trans ((Below.heap_alloc _ _ _ (by simp)).trans (heap_alloc_new w _)), by go_grown, by simp⟩
  case round =>
    obtain ⟨wo, rfl⟩ : ∃ wo : World, wo = wr := ⟨_, rfl⟩
    obtain ⟨k, hk, rfl, hS, hN, hP, hb, hz⟩ := hrel
    have HBo := hide hb; have HSo := hide hS; have HNo := hide hN; have HPo := hide hP; have hzo := hb.size
    clear hb hS hN hP
    by_cases hlt : k < l.length
    · have hltw : k < ws.length := by have := HL.out; omega
      have hk0 : (0 : Int) ≤ (k : Int) := Int.natCast_nonneg _
      have hk1 : (k : Int) < (l.length : Int) := by omega
      obtain ⟨b1, o1, rfl, hb1⟩ := HS.out.addr (by omega)
      obtain ⟨b2, o2, rfl, hb2⟩ := HT.out.addr (by omega)
      obtain ⟨hw1, hw2⟩ := HW.out ws[k] (by simp)
      obtain ⟨⟨v1, v2⟩, ⟨v3, v4⟩, v5, v6⟩ := HM.out l[k] (by simp)
      obtain ⟨q1, q2⟩ := dotL_bdG ws l (·.x) k (by omega) hk HW.out (fun p hp => (HM.out p hp).1)
      obtain ⟨q3, q4⟩ := dotL_bdG ws l (·.y) k (by omega) hk HW.out (fun p hp => (HM.out p hp).2.1)
      obtain ⟨q5, q6⟩ := dotL_bdG ws l (·.z) k (by omega) hk HW.out (fun p hp => (HM.out p hp).2.2)
      obtain ⟨m1, m2⟩ := mul_bd ws[k] l[k].x 65536 536870912 hw1 hw2 v1 v2
      obtain ⟨m3, m4⟩ := mul_bd ws[k] l[k].y 65536 536870912 hw1 hw2 v3 v4
      obtain ⟨m5, m6⟩ := mul_bd ws[k] l[k].z 65536 536870912 hw1 hw2 v5 v6
      have CS := hide (sumV_snoc ws l k hltw hlt)
      obtain ⟨v, hv⟩ : ∃ v, v = sumV (l.take k) (ws.take k) := ⟨_, rfl⟩
      have e1 : dotL (ws.take k) ((l.take k).map (·.x)) = v.x := by rw [hv]; rfl
      have e2 : dotL (ws.take k) ((l.take k).map (·.y)) = v.y := by rw [hv]; rfl
      have e3 : dotL (ws.take k) ((l.take k).map (·.z)) = v.z := by rw [hv]; rfl
      rw [e1] at q1 q2
      rw [e2] at q3 q4
      rw [e3] at q5 q6
      have HV := hide hv; clear hv e1 e2 e3
      obtain ⟨u, hu⟩ : ∃ u : V3, u = ⟨v.x + ws[k] * l[k].x, v.y + ws[k] * l[k].y, v.z + ws[k] * l[k].z⟩ := ⟨_, rfl⟩
      have HU := hide hu; clear hu
      have HSv := hide (show wo.heap[w.heap.size + 1 + 1]? = some (.cells (v3c (mixV 0 v u)) 47 (0, 0)) by rw [HV.out]; exact HSo.out)
      obtain ⟨h0, h1, h2⟩ := (HS.out.below HBo.out).at_ hlt
      go_wp2_with fail
      go_loopw [17] (fun i ww => S3In w w.heap.size (some ⟨b1, o1, none⟩) (some ⟨b2, o2, none⟩) l.length c d v u i ww) (fun i _ => 3 - (intOf i).toNat)
      case atStart => exact ⟨0, rfl, by omega, by omega, (Below.heap_alloc _ _ _ hz).trans HSv.out, (Below.heap_alloc _ _ _ (by omega)).trans HNo.out, (Below.heap_alloc _ _ _ (by omega)).trans HPo.out, HBo.out.alloc (by omega) _, by simp; omega⟩
      case round =>
        clear h0 h1 h2
        obtain ⟨m, rfl, hm0, hm3, iS, iN, iP, iB, iz⟩ := hrel
        have hw := (HT.out.below iB).at_ hltw
        have IS := hide iS; have IN := hide iN; have IB := hide iB; have IP := hide iP
        have hcS := blk_cell iS
        have hfS := blk_frozen iS
        have hcP := blk_cell iP; simp only [C2] at hcP
        have iz0 : w.heap.size < wr.heap.size := by omega
        clear iS iN iB iP
        obtain rfl | rfl | rfl | rfl : m = 0 ∨ m = 1 ∨ m = 2 ∨ m = 3 := by omega
        · simp [v3c, mixV] at hcS
          go_wp2_with fail
          go_region
          go_wp2_with fail
          go_roundw
          case rel => exact S3In.next IS.out IN.out IP.out IB.out iz 0 _ (by omega) (by omega) (by rw [HU.out]; rfl) ⟨rfl, rfl, rfl, rfl⟩
          case measure => simp [intOf]
        · simp [v3c, mixV] at hcS
          go_wp2_with fail
          go_region
          go_wp2_with fail
          go_roundw
          case rel => exact S3In.next IS.out IN.out IP.out IB.out iz 1 _ (by omega) (by omega) (by rw [HU.out]; rfl) ⟨rfl, rfl, rfl, rfl⟩
          case measure => simp [intOf]
        · simp [v3c, mixV] at hcS
          go_wp2_with fail
          go_region
          go_wp2_with fail
          go_roundw
          case rel => exact S3In.next IS.out IN.out IP.out IB.out iz 2 _ (by omega) (by omega) (by rw [HU.out]; rfl) ⟨rfl, rfl, rfl, rfl⟩
          case measure => simp [intOf]
        · have e : mixV 3 v u = u := rfl
          rw [e] at IS
          clear hcS hfS e hcP
          go_wp2_with fail
          go_roundw
          case rel => exact ⟨k + 1, by omega, by simp, by rw [CS.out, ← HV.out, ← HU.out]; exact IS.out, IN.out, IP.out, IB.out, iz⟩
          case measure => simp [intOf] <;> omega
    · obtain rfl : k = l.length := by omega
      have eT : ws.take l.length = ws := List.take_of_length_le (by have := HL.out; omega)
      have eL : l.take l.length = l := List.take_of_length_le (by omega)
      rw [eT, eL] at HSo
      clear eT eL
      have hcS := blk_cell HSo.out
      have hcN := blk_cell HNo.out
      have hfN := blk_frozen HNo.out
      have hz1 : w.heap.size + 1 < wo.heap.size := by omega
      simp only [v3c] at hcS hcN
      go_wp2_with fail
      refine bodyPost_ret (v := .agg #[.int .i64 (sumV l ws).x, .int .i64 (sumV l ws).y, .int .i64 (sumV l ws).z]) (by simp [results, Try.results163, go_sem, hcN]) rfl ⟨rfl, ?_⟩
      exact ((HBo.out.setCell (by simp) _).setCell (by simp) _).setCell (by simp) _
def GInv (w : World) (A : Option Addr) (g n c d : Nat) (L : List Int) (t : Int) (u i : Value) (wr : World) : Prop :=
  ∃ k : Nat, k ≤ n ∧ i = .int .i64 k ∧ u = .int .i64 (lostL (L.take k) t) ∧ wr.heap[g]? = some (.cells (iArr (gk L t k)) 2 (0, 0)) ∧ wr.heap[w.heap.size]? = some (.cells (C2 A (some ⟨g, 0, none⟩) n c d) 145 (0, 0)) ∧ w.grownBy wr (some g) ∧ w.heap.size < wr.heap.size
theorem tdiv256 {x : Int} (h : 0 ≤ x) : x.tdiv 256 = x / 256 := Int.tdiv_eq_ediv_of_nonneg h
/-- nearest.list.gather -/
theorem gather_any (A : Option Addr) (g n c d : Nat) (L : List Int) (i : Nat) (t : Int) (w : World) (hg : w.heap[g]? = some (.cells (iArr L) 2 (0, 0))) (hL : WI L n) (hn : n ≤ 8) (hi : i < n) (t0 : 0 ≤ t) (t1 : t ≤ 256) :
    Calls Try.prog 168 #[.agg #[.slice A n c, .slice (some ⟨g, 0, none⟩) n d], .int .i64 i, .int .i64 t] w
      fun e w' => e = .returned (.tuple #[]) ∧ w'.heap[g]? = some (.cells (iArr (movedL L t i)) 2 (0, 0)) ∧ w.grownBy w' (some g) := by
  have hlt : g < w.heap.size := by
    obtain ⟨h, _⟩ := Array.getElem?_eq_some_iff.mp hg
    exact h
  obtain ⟨hl, hnn, hsum⟩ := hL
  have HG := hide hg; have HNN := hide hnn; have HSUM := hide hsum; have HL := hide hl; clear hg hnn hsum hl
  go_enter Try.func168, Try.ntmps168
  go_wp2_with fail
  go_loopw [6, 13] (fun u i wr => GInv w A g n c d L t u i wr) (fun _ i _ => n - (intOf i).toNat)
  case atStart =>
    exact ⟨0, by omega, rfl, by simp [lostL], (Below.heap_alloc _ _ _ hlt).trans (by rw [gk_zero]; exact HG.out), heap_alloc_new w _, ⟨rfl, rfl, rfl, by simp, fun k hk _ => Below.heap_alloc _ _ _ hk⟩, by simp⟩
  case round =>
    obtain ⟨k, hk, rfl, rfl, hK, hP, hgr, hz⟩ := hrel
    have hzo := hgr.size
    have hltr : g < wr.heap.size := by omega
    have HK := hide hK; have HP := hide hP; have HGR := hide hgr
    have hcP := blk_cell hP; simp only [C2] at hcP
    obtain ⟨s1, s2⟩ := lost_take t0 t1 HNN.out k
    rw [HSUM.out] at s2
    by_cases hlt2 : k < n
    · have hkL : k < L.length := by have := HL.out; omega
      have hk0 : (0 : Int) ≤ (k : Int) := Int.natCast_nonneg _
      have hk1 : (k : Int) < (n : Int) := by omega
      have hx0 := HNN.out L[k] (by simp)
      have hx1 := mem_le_sum L HNN.out L[k] (by simp)
      rw [HSUM.out] at hx1
      obtain ⟨m1, m2⟩ := mul_bd L[k] t 65536 256 hx0 hx1 (by omega) t1
      have m0 := Int.mul_nonneg hx0 t0
      obtain ⟨p1, p2⟩ := part_bd hx0 t0 t1
      have ET := hide (tdiv256 m0)
      rw [← ET.out] at p1 p2
      have hcK : wr.cell? ⟨g, k, none⟩ = some (.int .i64 L[k]) := by rw [iCell hK (by rw [gk_len]; exact hkL), gk_get L t k hkL]
      have hfK := blk_frozen hK
      clear hK hP hgr
      go_wp2_with fail
      go_roundw
      case rel =>
        refine ⟨k + 1, by omega, by simp, ?_, ?_, ?_, ?_, ?_⟩
        · rw [lost_succ L t k hkL, ← ET.out]
        · rw [← gk_set L t k hkL, ← ET.out]
          exact iSet HK.out k _
        · rw [Below.heap_setCell _ _ _ _ (by simp; omega)]; exact HP.out
        · exact HGR.out.trans (grown_set _ _ _ _)
        · simpa [World.setCell] using hz
      case measure => simp [intOf] <;> omega
    · obtain rfl : k = n := by omega
      have hiL : i < L.length := by have := HL.out; omega
      have eT : L.take k = L := List.take_of_length_le (by have := HL.out; omega)
      have eG : gk L t k = keptL L t := by rw [← HL.out]; exact gk_all L t
      rw [eT] at s1 s2
      have hi0 : (0 : Int) ≤ (i : Int) := Int.natCast_nonneg _
      have hi1 : (i : Int) < (k : Int) := by omega
      have hx0 := HNN.out L[i] (by simp)
      have hx1 := mem_le_sum L HNN.out L[i] (by simp)
      rw [HSUM.out] at hx1
      obtain ⟨p1, p2⟩ := part_bd hx0 t0 t1
      have eK := kept_get L t i hiL
      obtain ⟨y, hy⟩ : ∃ y, y = (keptL L t)[i]'(by rw [kept_len]; exact hiL) := ⟨_, rfl⟩
      rw [← hy] at eK
      have y0 : 0 ≤ y := by omega
      have y1 : y ≤ 65536 := by omega
      have HY := hide (show (keptL L t).set i (y + lostL L t) = movedL L t i by rw [hy]; exact moved_eq L t i hiL)
      rw [eG] at hK HK
      have hcK : wr.cell? ⟨g, i, none⟩ = some (.int .i64 y) := by rw [iCell hK (by rw [kept_len]; exact hiL), hy]
      have hfK := blk_frozen hK
      rw [eT]
      clear hK hP hgr eT eG eK hy p1 p2
      go_wp2_with fail
      refine bodyPost_end (v := .tuple #[]) (results_none Try.results168 _ _ _) rfl ?_
      refine ⟨rfl, ?_, HGR.out.trans (grown_set _ _ _ _)⟩
      rw [← HY.out]
      exact iSet HK.out i _
end Go.Proofs.Ytionbckpgfaneaa
