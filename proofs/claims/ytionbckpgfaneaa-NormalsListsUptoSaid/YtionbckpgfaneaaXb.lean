/- Texts merged into one: Wh Wi Wj Wk Wm Wl Wn Pc Pd Pe Pf Pg. -/
import Derived.Test.YtionbckpgfaneaaXa
import Derived.Deep.QuietTactic
import Derived.BigQuiet
import Derived.Deep.RegionHeld3
/- Walks, part h: shape.Combine. -/
namespace Go.Proofs.Ytionbckpgfaneaa
open Go.RowKit
set_option maxHeartbeats 1000000
set_option maxRecDepth 100000
attribute [local go_sem] index44_0 index44_1 index44_2
def ivc (v : IV) : Array Value := #[.int .i64 v.x.lo, .int .i64 v.x.hi, .int .i64 v.y.lo, .int .i64 v.y.hi, .int .i64 v.z.lo, .int .i64 v.z.hi]
/-- what the rounds of Combine keep -/
def CInv (w : World) (N S : Nat) (l : List IV) (ws : List Int) (t i : Value) (wr : World) : Prop :=
  ∃ k : Nat, k ≤ l.length ∧ i = .int .i64 k ∧ t = .int .i64 (ws.take k).sum ∧ (∀ j (_ : j < k) (h : j < ws.length), 0 ≤ ws[j] ∧ ws[j] ≤ 65536) ∧
    wr.heap[S]? = some (.cells (ivc (comb (l.take k) (ws.take k))) 44 (0, 0)) ∧ wr.heap[N]? = some (.cells (ivc zeroIV) 44 (0, 0)) ∧ Below N w wr ∧ S < wr.heap.size
def mixI (m : Int) (v u : IV) : IV := ⟨if 0 < m then u.x else v.x, if 1 < m then u.y else v.y, if 2 < m then u.z else v.z⟩
def CIn (w : World) (N S : Nat) (v u : IV) (i : Value) (ww : World) : Prop :=
  ∃ m : Int, i = .int .i64 m ∧ 0 ≤ m ∧ m ≤ 3 ∧ ww.heap[S]? = some (.cells (ivc (mixI m v u)) 44 (0, 0)) ∧ ww.heap[N]? = some (.cells (ivc zeroIV) 44 (0, 0)) ∧ Below N w ww ∧ S < ww.heap.size
theorem CIn.next {w wr : World} {N S : Nat} {v u : IV} {m : Int} (hNS : N < S) (hS : wr.heap[S]? = some (.cells (ivc (mixI m v u)) 44 (0, 0))) (hN : wr.heap[N]? = some (.cells (ivc zeroIV) 44 (0, 0))) (hb : Below N w wr) (hz : S < wr.heap.size)
    (i j : Nat) (a b : Value) (o : Obj) (hm0 : 0 ≤ m + 1) (hm3 : m + 1 ≤ 3) (he : ((ivc (mixI m v u)).setIfInBounds i a).setIfInBounds j b = ivc (mixI (m + 1) v u)) :
    CIn w N S v u (.int .i64 (m + 1)) (((wr.setCell ⟨S, i, none⟩ a).setCell ⟨S, j, none⟩ b).alloc o).drew.drew := by
  refine ⟨m + 1, rfl, hm0, hm3, ?_, ?_, ?_, ?_⟩
  · rw [← he]
    exact (Below.heap_alloc _ o S (by simpa [World.setCell] using hz)).trans (blk_set (blk_set hS i a) j b)
  · refine (Below.heap_alloc _ o N (by simp [World.setCell]; omega)).trans ?_
    rw [Below.heap_setCell _ _ _ _ (by simp; omega), Below.heap_setCell _ _ _ _ (by simp; omega)]
    exact hN
  · exact (((hb.setCell (by simp; omega) a).setCell (by simp; omega) b).alloc (by simp [World.setCell]; omega) o).drew.drew
  · simp [World.setCell]; omega
theorem take_sum_bd2 (ws : List Int) (k : Nat) (h1 : k ≤ ws.length) (hw : ∀ j (_ : j < k) (h : j < ws.length), 0 ≤ ws[j] ∧ ws[j] ≤ 65536) : 0 ≤ (ws.take k).sum ∧ (ws.take k).sum ≤ k * 65536 := by
  induction k with
  | zero => simp
  | succ k ih =>
    have := ih (by omega) (fun j hj h => hw j (by omega) h)
    rw [take_sum ws k (by omega)]
    have := hw k (by omega) (by omega)
    omega
theorem combine_any (A B : Option Addr) (l : List IV) (ws : List Int) (c d : Nat) (w : World) (hs : SlI w A l) (ht : SlN w B ws) (hm : l.length ≤ 9223372036854775807) (hm2 : ws.length ≤ 9223372036854775807) :
    Calls Try.prog 103 #[.slice A l.length c, .slice B ws.length d] w fun e w' => e = .returned (combR l ws) ∧ Below w.heap.size w w' := by
  have HS := hide hs; have HT := hide ht; clear hs ht
  go_enter Try.func103, Try.ntmps103
  go_wp2_with fail
  refine (placed_any A l c _ (by exact Sl.alloc HS.out _) hm).mono ?_
  rintro e w1 ⟨rfl, hb1⟩
  have hz1 : w.heap.size < w1.heap.size := by have := hb1.size; simp at this; omega
  have hn1 : w1.heap[w.heap.size]? = some (.cells (ivc zeroIV) 44 (0, 0)) := (hb1.block _ (by simp)).trans (heap_alloc_new w _)
  have hbw : Below w.heap.size w w1 := ((Below.refl _ _).alloc (Nat.le_refl _) _).trans (hb1.mono (by simp))
  clear hb1
  have hc1 := blk_cell hn1
  have hf1 := blk_frozen hn1
  simp only [ivc, zeroIV] at hc1
  have HN := hide hn1; have HB := hide hbw; clear hn1 hbw
  cases hp : placedB l
  · have HR := hide (combR_no (combOk_p (ws := ws) hp))
    go_wp2_with fail
    refine bodyPost_ret (v := .tuple #[zeroIV.v, .int .i64 0, .bool false]) (by simp [results, Try.results103, go_sem, hc1, zeroIV, IV.v]) rfl ⟨by rw [HR.out], ?_⟩
    exact (((((HB.out.setCell (Nat.le_refl _) _).setCell (Nat.le_refl _) _).setCell (Nat.le_refl _) _).setCell (Nat.le_refl _) _).setCell (Nat.le_refl _) _).setCell (Nat.le_refl _) _
  · by_cases hlen : ws.length = l.length
    · have hlen' : ((ws.length : Int) != (l.length : Int)) = false := by simp [hlen]
      have HL := hide hlen; have HP := hide hp
      have hn8 : l.length ≤ 8 := (placed_of hp).2.1
      clear hlen hp
      go_wp2_with fail
      go_loopw [8, 26] (fun t i wr => CInv w w.heap.size w1.heap.size l ws t i wr) (fun _ i _ => l.length - (intOf i).toNat)
      case atStart =>
        exact ⟨0, by omega, rfl, by simp, fun j hj => absurd hj (by omega), heap_alloc_new w1 _, (Below.heap_alloc w1 _ _ hz1).trans HN.out, HB.out.alloc (by omega) _, by simp⟩
      case round =>
        clear hc1 hf1
        obtain ⟨wo, rfl⟩ : ∃ wo : World, wo = wr := ⟨_, rfl⟩
        obtain ⟨k, hk, rfl, rfl, hok, hS, hN, hb, hz⟩ := hrel
        have hll : ws.length = l.length := HL.out
        have hltw0 : k ≤ ws.length := by omega
        have ts := take_sum_bd2 ws k hltw0 hok
        have OK := hide hok; have HBo := hide hb; have HSo := hide hS; have HNo := hide hN
        clear hok hb hS hN HN HB
        have hNc := blk_cell HNo.out
        have hNf := blk_frozen HNo.out
        simp only [ivc, zeroIV] at hNc
        by_cases hlt : k < l.length
        · have hltw : k < ws.length := by omega
          have hltw' : (k : Int) < (ws.length : Int) := by omega
          clear hll
          obtain ⟨b1, o1, rfl, hb1⟩ := HS.out.addr (by omega)
          obtain ⟨b2, o2, rfl, hb2⟩ := HT.out.addr (by omega)
          obtain ⟨h0, h1, h2, h3, h4, h5⟩ := (HS.out.below HBo.out).at_ hlt
          have hw := (HT.out.below HBo.out).at_ hltw
          by_cases hwk : 0 ≤ ws[k] ∧ ws[k] ≤ 65536
          · obtain ⟨hw1, hw2⟩ := hwk
            have hcS := blk_cell HSo.out
            have hfS := blk_frozen HSo.out
            have okk := ok_of ((placed_of HP.out).2.2 k hlt)
            obtain ⟨⟨⟨q1, q2⟩, ⟨q3, q4⟩⟩, ⟨⟨q5, q6⟩, ⟨q7, q8⟩⟩, ⟨⟨q9, q10⟩, ⟨q11, q12⟩⟩⟩ := comb_bd ws l k (by omega) hk HP.out OK.out
            obtain ⟨m1, m2⟩ := mul_bd ws[k] l[k].x.lo 65536 268435456 hw1 hw2 (by omega) (by omega)
            obtain ⟨m3, m4⟩ := mul_bd ws[k] l[k].x.hi 65536 268435456 hw1 hw2 (by omega) (by omega)
            obtain ⟨m5, m6⟩ := mul_bd ws[k] l[k].y.lo 65536 268435456 hw1 hw2 (by omega) (by omega)
            obtain ⟨m7, m8⟩ := mul_bd ws[k] l[k].y.hi 65536 268435456 hw1 hw2 (by omega) (by omega)
            obtain ⟨m9, m10⟩ := mul_bd ws[k] l[k].z.lo 65536 268435456 hw1 hw2 (by omega) (by omega)
            obtain ⟨m11, m12⟩ := mul_bd ws[k] l[k].z.hi 65536 268435456 hw1 hw2 (by omega) (by omega)
            clear okk
            have CS := hide (comb_snoc ws l k hltw hlt)
            obtain ⟨v, hv⟩ : ∃ v, v = comb (l.take k) (ws.take k) := ⟨_, rfl⟩
            rw [← hv] at hcS q1 q2 q3 q4 q5 q6 q7 q8 q9 q10 q11 q12
            simp only [ivc] at hcS
            have HV := hide hv; clear hv
            have TS := hide (take_sum ws k hltw)
            obtain ⟨u, hu⟩ : ∃ u : IV, u = ⟨⟨v.x.lo + ws[k] * l[k].x.lo, v.x.hi + ws[k] * l[k].x.hi⟩, ⟨v.y.lo + ws[k] * l[k].y.lo, v.y.hi + ws[k] * l[k].y.hi⟩, ⟨v.z.lo + ws[k] * l[k].z.lo, v.z.hi + ws[k] * l[k].z.hi⟩⟩ := ⟨_, rfl⟩
            have HU := hide hu; clear hu
            have hSv : wo.heap[w1.heap.size]? = some (.cells (ivc (mixI 0 v u)) 44 (0, 0)) := by rw [HV.out]; exact HSo.out
            have HSv := hide hSv; clear hSv hcS hfS hNc hNf
            go_wp2_with fail
            go_loopw [45] (fun i ww => CIn w w.heap.size w1.heap.size v u i ww) (fun i _ => 3 - (intOf i).toNat)
            case atStart => exact ⟨0, rfl, by omega, by omega, HSv.out, HNo.out, HBo.out, hz⟩
            case round =>
              clear h0 h1 h2 h3 h4 h5 hw
              obtain ⟨m, rfl, hm0, hm3, iS, iN, iB, iz⟩ := hrel
              have IS := hide iS; have IN := hide iN; have IB := hide iB
              have hcS := blk_cell iS
              have hfS := blk_frozen iS
              clear iS iN iB
              obtain rfl | rfl | rfl | rfl : m = 0 ∨ m = 1 ∨ m = 2 ∨ m = 3 := by omega
              · simp [ivc, mixI] at hcS
                go_wp2_with fail
                go_region
                go_wp2_with fail
                go_region
                go_wp2_with fail
                go_roundw
                case rel => exact CIn.next hz1 IS.out IN.out IB.out iz 0 1 _ _ _ (by omega) (by omega) (by rw [HU.out]; rfl)
                case measure => simp [intOf]
              · simp [ivc, mixI] at hcS
                go_wp2_with fail
                go_region
                go_wp2_with fail
                go_region
                go_wp2_with fail
                go_roundw
                case rel => exact CIn.next hz1 IS.out IN.out IB.out iz 2 3 _ _ _ (by omega) (by omega) (by rw [HU.out]; rfl)
                case measure => simp [intOf]
              · simp [ivc, mixI] at hcS
                go_wp2_with fail
                go_region
                go_wp2_with fail
                go_region
                go_wp2_with fail
                go_roundw
                case rel => exact CIn.next hz1 IS.out IN.out IB.out iz 4 5 _ _ _ (by omega) (by omega) (by rw [HU.out]; rfl)
                case measure => simp [intOf]
              · clear hcS hfS
                go_wp2_with fail
                go_roundw
                case rel => exact ⟨k + 1, by omega, by simp, by rw [TS.out], fun j hj h => by
                    rcases Nat.lt_or_ge j k with h' | h'
                    · exact OK.out j h' h
                    · obtain rfl : j = k := by omega
                      exact ⟨hw1, hw2⟩, by rw [CS.out, ← HV.out, ← HU.out]; exact IS.out, IN.out, IB.out, iz⟩
                case measure => simp [intOf] <;> omega
          · have HR := hide (combR_no (combOk_w (l := l) (wOk_no ws k hltw hwk)))
            have hwk' : ws[k] < 0 ∨ 65536 < ws[k] := by omega
            clear hwk
            rcases hwk' with hneg | hbig
            · go_wp2_with fail
              refine bodyPost_ret (v := .tuple #[zeroIV.v, .int .i64 0, .bool false]) (by simp [results, Try.results103, go_sem, hNc, zeroIV, IV.v]) rfl ⟨by rw [HR.out], ?_⟩
              exact (((((HBo.out.setCell (Nat.le_refl _) _).setCell (Nat.le_refl _) _).setCell (Nat.le_refl _) _).setCell (Nat.le_refl _) _).setCell (Nat.le_refl _) _).setCell (Nat.le_refl _) _
            · have hpos : ¬ ws[k] < 0 := by omega
              go_wp2_with fail
              refine bodyPost_ret (v := .tuple #[zeroIV.v, .int .i64 0, .bool false]) (by simp [results, Try.results103, go_sem, hNc, zeroIV, IV.v]) rfl ⟨by rw [HR.out], ?_⟩
              exact (((((HBo.out.setCell (Nat.le_refl _) _).setCell (Nat.le_refl _) _).setCell (Nat.le_refl _) _).setCell (Nat.le_refl _) _).setCell (Nat.le_refl _) _).setCell (Nat.le_refl _) _
        · obtain rfl : k = l.length := by omega
          have hge : ¬ (l.length : Int) < (ws.length : Int) := by omega
          have eT : ws.take l.length = ws := List.take_of_length_le (by omega)
          have eL : l.take l.length = l := List.take_of_length_le (by omega)
          have hwok := wOk_yes ws (fun j h => OK.out j (by omega) h)
          rw [eT] at ts
          have HTs := hide eT
          have hS2 := HSo.out
          rw [eT, eL] at hS2
          have hcS := blk_cell hS2
          simp only [ivc] at hcS
          have H2 := hide hS2
          clear hS2 eL eT hll
          by_cases hsum : 1 ≤ ws.sum ∧ ws.sum ≤ 65536
          · have HR := hide (combR_yes (combOk_yes HP.out HL.out hwok hsum))
            obtain ⟨hs1, hs2⟩ := hsum
            rw [HTs.out]
            clear hwok
            generalize hcm : comb l ws = cm at hcS
            have HCM := hide hcm; clear hcm
            go_wp2_with fail
            refine bodyPost_ret (v := .tuple #[cm.v, .int .i64 ws.sum, .bool true]) (by simp [results, Try.results103, go_sem, hNc, IV.v]) rfl ⟨by rw [HR.out, HCM.out], ?_⟩
            exact (((((HBo.out.setCell (Nat.le_refl _) _).setCell (Nat.le_refl _) _).setCell (Nat.le_refl _) _).setCell (Nat.le_refl _) _).setCell (Nat.le_refl _) _).setCell (Nat.le_refl _) _
          · have HR := hide (combR_no (combOk_s (l := l) hsum))
            rw [HTs.out]
            clear hwok hcS
            have hsum' : ws.sum < 1 ∨ 65536 < ws.sum := by omega
            clear hsum
            rcases hsum' with hneg | hbig
            · go_wp2_with fail
              refine bodyPost_ret (v := .tuple #[zeroIV.v, .int .i64 0, .bool false]) (by simp [results, Try.results103, go_sem, hNc, zeroIV, IV.v]) rfl ⟨by rw [HR.out], ?_⟩
              exact (((((HBo.out.setCell (Nat.le_refl _) _).setCell (Nat.le_refl _) _).setCell (Nat.le_refl _) _).setCell (Nat.le_refl _) _).setCell (Nat.le_refl _) _).setCell (Nat.le_refl _) _
            · have hpos : ¬ ws.sum < 1 := by omega
              go_wp2_with fail
              refine bodyPost_ret (v := .tuple #[zeroIV.v, .int .i64 0, .bool false]) (by simp [results, Try.results103, go_sem, hNc, zeroIV, IV.v]) rfl ⟨by rw [HR.out], ?_⟩
              exact (((((HBo.out.setCell (Nat.le_refl _) _).setCell (Nat.le_refl _) _).setCell (Nat.le_refl _) _).setCell (Nat.le_refl _) _).setCell (Nat.le_refl _) _).setCell (Nat.le_refl _) _
    · have HR := hide (combR_no (combOk_l hlen))
      have hlen' : ((ws.length : Int) != (l.length : Int)) = true := by simp; omega
      have HP := hide hp
      clear hlen
      go_wp2_with fail
      refine bodyPost_ret (v := .tuple #[zeroIV.v, .int .i64 0, .bool false]) (by simp [results, Try.results103, go_sem, hc1, zeroIV, IV.v]) rfl ⟨by rw [HR.out], ?_⟩
      exact (((((HB.out.setCell (Nat.le_refl _) _).setCell (Nat.le_refl _) _).setCell (Nat.le_refl _) _).setCell (Nat.le_refl _) _).setCell (Nat.le_refl _) _).setCell (Nat.le_refl _) _
end Go.Proofs.Ytionbckpgfaneaa
/- Walks, part i: the references' Combine. -/
namespace Go.Proofs.Ytionbckpgfaneaa
open Go.RowKit
set_option maxHeartbeats 1000000
set_option maxRecDepth 100000
theorem sum_take_le (ws : List Int) (k : Nat) (h : ∀ x ∈ ws, 0 ≤ x) : (ws.take k).sum ≤ ws.sum := by
  have e : ws.sum = (ws.take k).sum + (ws.drop k).sum := by rw [← List.sum_append, List.take_append_drop]
  have := sum_nonneg (ws.drop k) (fun x hx => h x (List.mem_of_mem_drop hx))
  omega
theorem wOk_of {ws : List Int} (h : wOk ws = true) : ∀ x ∈ ws, 0 ≤ x ∧ x ≤ 65536 := by
  intro x hx
  unfold wOk at h
  rw [List.all_eq_true] at h
  simpa using h x hx
theorem combOk_big {l : List IV} {ws : List Int} (k : Nat) (hk : k < ws.length) (h : 65536 - (ws.take k).sum < ws[k]) : combOk l ws = false := by
  cases hw : wOk ws
  · exact combOk_w hw
  · have := sum_take_le ws (k + 1) (fun x hx => (wOk_of hw x hx).1)
    rw [take_sum ws k hk] at this
    exact combOk_s (by omega)
theorem le_sum (ws : List Int) (h : ∀ x ∈ ws, 0 ≤ x) : ∀ x ∈ ws, x ≤ ws.sum := by
  induction ws with
  | nil => simp
  | cons a ws ih =>
    intro x hx
    have h1 := sum_nonneg ws (fun y hy => h y (by simp [hy]))
    have h2 := h a (by simp)
    simp only [List.sum_cons]
    rcases List.mem_cons.1 hx with rfl | hx
    · omega
    · have := ih (fun y hy => h y (by simp [hy])) x hx
      omega
def C2Inv (w : World) (N S : Nat) (l : List IV) (ws : List Int) (i : Value) (wr : World) : Prop :=
  ∃ k : Nat, k ≤ l.length ∧ i = .int .i64 k ∧
    wr.heap[S]? = some (.cells (ivc (comb (l.take k) (ws.take k))) 44 (0, 0)) ∧ wr.heap[N]? = some (.cells (ivc zeroIV) 44 (0, 0)) ∧ Below N w wr ∧ S < wr.heap.size
theorem CIn.next2 {w wr wf : World} {N S : Nat} {v u : IV} {m : Int} (hNS : N < S) (hS : wr.heap[S]? = some (.cells (ivc (mixI m v u)) 44 (0, 0))) (hN : wr.heap[N]? = some (.cells (ivc zeroIV) 44 (0, 0))) (hb : Below N w wr) (hz : S < wr.heap.size)
    (i j : Nat) (a b : Value) (hm0 : 0 ≤ m + 1) (hm3 : m + 1 ≤ 3) (he : ((ivc (mixI m v u)).setIfInBounds i a).setIfInBounds j b = ivc (mixI (m + 1) v u)) (hw : Like wf ((wr.setCell ⟨S, i, none⟩ a).setCell ⟨S, j, none⟩ b)) :
    CIn w N S v u (.int .i64 (m + 1)) wf := by
  refine ⟨m + 1, rfl, hm0, hm3, ?_, ?_, ?_, ?_⟩
  · rw [← he, hw.1]
    exact blk_set (blk_set hS i a) j b
  · rw [hw.1, Below.heap_setCell _ _ _ _ (by simp; omega), Below.heap_setCell _ _ _ _ (by simp; omega)]
    exact hN
  · exact hw.below ((hb.setCell (by simp; omega) a).setCell (by simp; omega) b)
  · rw [hw.1]; simp [World.setCell]; omega
theorem combine_ref (A B : Option Addr) (l : List IV) (ws : List Int) (c d : Nat) (w : World) (hs : SlI w A l) (ht : SlN w B ws) (hm : l.length ≤ 9223372036854775807) (hm2 : ws.length ≤ 9223372036854775807) :
    Calls Try.prog 140 #[.slice A l.length c, .slice B ws.length d] w fun e w' => e = .returned (combR l ws) ∧ Below w.heap.size w w' := by
  have HS := hide hs; have HT := hide ht; clear hs ht
  go_enter Try.func140, Try.ntmps140
  go_wp2_with fail
  refine (placed_ref A l c _ (by exact Sl.alloc HS.out _) hm).mono ?_
  rintro e w1 ⟨rfl, hb1⟩
  have hz1 : w.heap.size < w1.heap.size := by have := hb1.size; simp at this; omega
  have hn1 : w1.heap[w.heap.size]? = some (.cells (ivc zeroIV) 44 (0, 0)) := (hb1.block _ (by simp)).trans (heap_alloc_new w _)
  have hbw : Below w.heap.size w w1 := ((Below.refl _ _).alloc (Nat.le_refl _) _).trans (hb1.mono (by simp))
  clear hb1
  have hc1 := blk_cell hn1
  have hf1 := blk_frozen hn1
  simp only [ivc, zeroIV] at hc1
  have HN := hide hn1; have HB := hide hbw; clear hn1 hbw
  cases hp : placedB l
  · have HR := hide (combR_no (combOk_p (ws := ws) hp))
    go_wp2_with fail
    refine bodyPost_ret (v := .tuple #[zeroIV.v, .int .i64 0, .bool false]) (by simp [results, Try.results140, go_sem, hc1, zeroIV, IV.v]) rfl ⟨by rw [HR.out], ?_⟩
    exact (((((HB.out.setCell (Nat.le_refl _) _).setCell (Nat.le_refl _) _).setCell (Nat.le_refl _) _).setCell (Nat.le_refl _) _).setCell (Nat.le_refl _) _).setCell (Nat.le_refl _) _
  · by_cases hlen : ws.length = l.length
    · have hlen' : ((ws.length : Int) != (l.length : Int)) = false := by simp [hlen]
      have HL := hide hlen; have HP := hide hp
      have hn8 : l.length ≤ 8 := (placed_of hp).2.1
      clear hlen hp
      go_wp2_with fail
      go_loop [7, 8] (fun t i => ∃ k : Nat, k ≤ ws.length ∧ i = .int .i64 k ∧ t = .int .i64 (ws.take k).sum ∧ (∀ j (_ : j < k) (h : j < ws.length), 0 ≤ ws[j]) ∧ 0 ≤ (ws.take k).sum ∧ (ws.take k).sum ≤ 65536) (fun _ i => ws.length - (intOf i).toNat)
      case atStart => exact ⟨0, by omega, rfl, by simp, fun j hj => absurd hj (by omega), by simp, by simp⟩
      case round =>
        obtain ⟨k, hk, rfl, rfl, hok, hs0, hs1⟩ := hrel
        have OK := hide hok; clear hok
        by_cases hlt : k < ws.length
        · obtain ⟨b2, o2, rfl, hb2⟩ := HT.out.addr (by omega)
          have hw := (HT.out.below HB.out).at_ hlt
          by_cases hneg : ws[k] < 0
          · have HR := hide (combR_no (combOk_w (l := l) (wOk_no ws k hlt (by omega))))
            go_wp2_with fail
            refine bodyPost_ret (v := .tuple #[zeroIV.v, .int .i64 0, .bool false]) (by simp [results, Try.results140, go_sem, hc1, zeroIV, IV.v]) rfl ⟨by rw [HR.out], ?_⟩
            exact (((((HB.out.setCell (Nat.le_refl _) _).setCell (Nat.le_refl _) _).setCell (Nat.le_refl _) _).setCell (Nat.le_refl _) _).setCell (Nat.le_refl _) _).setCell (Nat.le_refl _) _
          · by_cases hbig : 65536 - (ws.take k).sum < ws[k]
            · have HR := hide (combR_no (combOk_big (l := l) k hlt hbig))
              go_wp2_with fail
              refine bodyPost_ret (v := .tuple #[zeroIV.v, .int .i64 0, .bool false]) (by simp [results, Try.results140, go_sem, hc1, zeroIV, IV.v]) rfl ⟨by rw [HR.out], ?_⟩
              exact (((((HB.out.setCell (Nat.le_refl _) _).setCell (Nat.le_refl _) _).setCell (Nat.le_refl _) _).setCell (Nat.le_refl _) _).setCell (Nat.le_refl _) _).setCell (Nat.le_refl _) _
            · have TS := hide (take_sum ws k hlt)
              go_wp2_with fail
              go_round
              case rel => exact ⟨k + 1, by omega, by simp, by rw [TS.out], fun j hj h => by
                  rcases Nat.lt_or_ge j k with h' | h'
                  · exact OK.out j h' h
                  · obtain rfl : j = k := by omega
                    omega, by rw [TS.out]; omega, by rw [TS.out]; omega⟩
              case measure => simp [intOf] <;> omega
        · obtain rfl : k = ws.length := by omega
          have eT : ws.take ws.length = ws := List.take_of_length_le (Nat.le_refl _)
          rw [eT] at hs0 hs1 ⊢
          clear eT
          have hnn : ∀ x ∈ ws, 0 ≤ x := fun x hx => by
            obtain ⟨j, hj, rfl⟩ := List.getElem_of_mem hx
            exact OK.out j hj hj
          have hle := le_sum ws hnn
          have hw01 : ∀ j (h : j < ws.length), 0 ≤ ws[j] ∧ ws[j] ≤ 65536 := fun j h => ⟨OK.out j h h, by have := hle ws[j] (by simp); omega⟩
          have WO := hide (wOk_yes ws hw01); have W01 := hide hw01
          clear hnn hle hw01
          by_cases hsum : 1 ≤ ws.sum
          · have HR := hide (combR_yes (combOk_yes HP.out HL.out WO.out ⟨hsum, hs1⟩))
            go_wp2_with fail
            go_loopw [10] (fun i wr => C2Inv w w.heap.size w1.heap.size l ws i wr) (fun i _ => l.length - (intOf i).toNat)
            case atStart =>
              exact ⟨0, by omega, rfl, heap_alloc_new w1 _, (Below.heap_alloc w1 _ _ hz1).trans HN.out, HB.out.alloc (by omega) _, by simp⟩
            case round =>
              clear hc1 hf1
              obtain ⟨wo, rfl⟩ : ∃ wo : World, wo = wr := ⟨_, rfl⟩
              obtain ⟨k, hk, rfl, hS, hN, hb, hz⟩ := hrel
              have HBo := hide hb; have HSo := hide hS; have HNo := hide hN
              clear hb hS hN HN HB
              by_cases hlt : k < l.length
              · have hltw : k < ws.length := by have := HL.out; omega
                have hltw' : (k : Int) < (ws.length : Int) := by omega
                obtain ⟨b1, o1, rfl, hb1⟩ := HS.out.addr (by omega)
                obtain ⟨b2, o2, rfl, hb2⟩ := HT.out.addr (by omega)
                obtain ⟨hw1, hw2⟩ := W01.out k hltw
                have okk := ok_of ((placed_of HP.out).2.2 k hlt)
                obtain ⟨⟨⟨q1, q2⟩, ⟨q3, q4⟩⟩, ⟨⟨q5, q6⟩, ⟨q7, q8⟩⟩, ⟨⟨q9, q10⟩, ⟨q11, q12⟩⟩⟩ := comb_bd ws l k (by omega) hk HP.out (fun j _ h => W01.out j h)
                obtain ⟨m1, m2⟩ := mul_bd ws[k] l[k].x.lo 65536 268435456 hw1 hw2 (by omega) (by omega)
                obtain ⟨m3, m4⟩ := mul_bd ws[k] l[k].x.hi 65536 268435456 hw1 hw2 (by omega) (by omega)
                obtain ⟨m5, m6⟩ := mul_bd ws[k] l[k].y.lo 65536 268435456 hw1 hw2 (by omega) (by omega)
                obtain ⟨m7, m8⟩ := mul_bd ws[k] l[k].y.hi 65536 268435456 hw1 hw2 (by omega) (by omega)
                obtain ⟨m9, m10⟩ := mul_bd ws[k] l[k].z.lo 65536 268435456 hw1 hw2 (by omega) (by omega)
                obtain ⟨m11, m12⟩ := mul_bd ws[k] l[k].z.hi 65536 268435456 hw1 hw2 (by omega) (by omega)
                clear okk
                have CS := hide (comb_snoc ws l k hltw hlt)
                obtain ⟨v, hv⟩ : ∃ v, v = comb (l.take k) (ws.take k) := ⟨_, rfl⟩
                rw [← hv] at q1 q2 q3 q4 q5 q6 q7 q8 q9 q10 q11 q12
                have HV := hide hv; clear hv
                obtain ⟨u, hu⟩ : ∃ u : IV, u = ⟨⟨v.x.lo + ws[k] * l[k].x.lo, v.x.hi + ws[k] * l[k].x.hi⟩, ⟨v.y.lo + ws[k] * l[k].y.lo, v.y.hi + ws[k] * l[k].y.hi⟩, ⟨v.z.lo + ws[k] * l[k].z.lo, v.z.hi + ws[k] * l[k].z.hi⟩⟩ := ⟨_, rfl⟩
                have HU := hide hu; clear hu
                have hSv : wo.heap[w1.heap.size]? = some (.cells (ivc (mixI 0 v u)) 44 (0, 0)) := by rw [HV.out]; exact HSo.out
                have HSv := hide hSv; clear hSv
                go_wp2_with fail
                go_loopw [11] (fun i ww => CIn w w.heap.size w1.heap.size v u i ww) (fun i _ => 3 - (intOf i).toNat)
                case atStart => exact ⟨0, rfl, by omega, by omega, HSv.out, HNo.out, HBo.out, hz⟩
                case round =>
                  obtain ⟨m, rfl, hm0, hm3, iS, iN, iB, iz⟩ := hrel
                  obtain ⟨h0, h1, h2, h3, h4, h5⟩ := (HS.out.below iB).at_ hlt
                  have hw := (HT.out.below iB).at_ hltw
                  have IS := hide iS; have IN := hide iN; have IB := hide iB
                  have hcS := blk_cell iS
                  have hfS := blk_frozen iS
                  clear iS iN iB
                  obtain rfl | rfl | rfl | rfl : m = 0 ∨ m = 1 ∨ m = 2 ∨ m = 3 := by omega
                  · simp [ivc, mixI] at hcS
                    go_wp2_with fail
                    go_region
                    go_wp2_with fail
                    go_region
                    go_wp2_with fail
                    go_roundw
                    case rel => exact CIn.next2 hz1 IS.out IN.out IB.out iz 0 1 _ _ (by omega) (by omega) (by rw [HU.out]; rfl) ⟨rfl, rfl, rfl, rfl⟩
                    case measure => simp [intOf]
                  · simp [ivc, mixI] at hcS
                    go_wp2_with fail
                    go_region
                    go_wp2_with fail
                    go_region
                    go_wp2_with fail
                    go_roundw
                    case rel => exact CIn.next2 hz1 IS.out IN.out IB.out iz 2 3 _ _ (by omega) (by omega) (by rw [HU.out]; rfl) ⟨rfl, rfl, rfl, rfl⟩
                    case measure => simp [intOf]
                  · simp [ivc, mixI] at hcS
                    go_wp2_with fail
                    go_region
                    go_wp2_with fail
                    go_region
                    go_wp2_with fail
                    go_roundw
                    case rel => exact CIn.next2 hz1 IS.out IN.out IB.out iz 4 5 _ _ (by omega) (by omega) (by rw [HU.out]; rfl) ⟨rfl, rfl, rfl, rfl⟩
                    case measure => simp [intOf]
                  · clear hcS hfS h0 h1 h2 h3 h4 h5 hw
                    go_wp2_with fail
                    go_roundw
                    case rel => exact ⟨k + 1, by omega, by simp, by rw [CS.out, ← HV.out, ← HU.out]; exact IS.out, IN.out, IB.out, iz⟩
                    case measure => simp [intOf] <;> omega
              · obtain rfl : k = l.length := by omega
                have eT : ws.take l.length = ws := List.take_of_length_le (by have := HL.out; omega)
                have eL : l.take l.length = l := List.take_of_length_le (by omega)
                have hS2 := HSo.out
                rw [eT, eL] at hS2
                have hcS := blk_cell hS2
                have hNc := blk_cell HNo.out
                have hNf := blk_frozen HNo.out
                simp only [ivc, zeroIV] at hcS hNc
                clear hS2 eL eT
                generalize hcm : comb l ws = cm at hcS
                have HCM := hide hcm; clear hcm
                go_wp2_with fail
                refine bodyPost_ret (v := .tuple #[cm.v, .int .i64 ws.sum, .bool true]) (by simp [results, Try.results140, go_sem, hNc, IV.v]) rfl ⟨by rw [HR.out, HCM.out], ?_⟩
                exact (((((HBo.out.setCell (Nat.le_refl _) _).setCell (Nat.le_refl _) _).setCell (Nat.le_refl _) _).setCell (Nat.le_refl _) _).setCell (Nat.le_refl _) _).setCell (Nat.le_refl _) _
          · have HR := hide (combR_no (combOk_s (l := l) (by omega : ¬ (1 ≤ ws.sum ∧ ws.sum ≤ 65536))))
            go_wp2_with fail
            refine bodyPost_ret (v := .tuple #[zeroIV.v, .int .i64 0, .bool false]) (by simp [results, Try.results140, go_sem, hc1, zeroIV, IV.v]) rfl ⟨by rw [HR.out], ?_⟩
            exact (((((HB.out.setCell (Nat.le_refl _) _).setCell (Nat.le_refl _) _).setCell (Nat.le_refl _) _).setCell (Nat.le_refl _) _).setCell (Nat.le_refl _) _).setCell (Nat.le_refl _) _
    · have HR := hide (combR_no (combOk_l hlen))
      have hlen' : ((ws.length : Int) != (l.length : Int)) = true := by simp; omega
      have HP := hide hp
      clear hlen
      go_wp2_with fail
      refine bodyPost_ret (v := .tuple #[zeroIV.v, .int .i64 0, .bool false]) (by simp [results, Try.results140, go_sem, hc1, zeroIV, IV.v]) rfl ⟨by rw [HR.out], ?_⟩
      exact (((((HB.out.setCell (Nat.le_refl _) _).setCell (Nat.le_refl _) _).setCell (Nat.le_refl _) _).setCell (Nat.le_refl _) _).setCell (Nat.le_refl _) _).setCell (Nat.le_refl _) _
end Go.Proofs.Ytionbckpgfaneaa
/- Walks, part j: overlap.Excess. -/
namespace Go.Proofs.Ytionbckpgfaneaa
open Go.RowKit
set_option maxHeartbeats 1000000
set_option maxRecDepth 100000
def absmax (a b : Int) : Int := max (max a (-a)) (max b (-b))
theorem absmax_bd (a b m : Int) (ha : -m ≤ a ∧ a ≤ m) (hb : -m ≤ b ∧ b ≤ m) : 0 ≤ absmax a b ∧ absmax a b ≤ m := by unfold absmax; omega
theorem ceil_eq (h t : Int) (ht : 1 ≤ t) : (h + t - 1) / t = ceilF h t := by
  unfold ceilF
  have e := Int.mul_ediv_add_emod (-h) t
  have l0 := Int.emod_nonneg (-h) (b := t) (by omega)
  have l1 := Int.emod_lt_of_pos (-h) (b := t) (by omega)
  have := ((Int.ediv_emod_unique (a := h + t - 1) (b := t) (r := t - 1 - (-h) % t) (q := -((-h) / t)) (by omega)).2 ⟨by rw [Int.mul_neg]; omega, by omega, by omega⟩).1
  omega
theorem ceil_bd (h t : Int) (ht : 1 ≤ t) (h0 : 0 ≤ h) : 0 ≤ ceilF h t ∧ ceilF h t ≤ h := by
  rw [← ceil_eq h t ht]
  constructor
  · exact Int.ediv_nonneg (by omega) (by omega)
  · have h1 : h + t - 1 < (h + 1) * t := by
      rw [Int.add_mul]
      have : h * 1 ≤ h * t := Int.mul_le_mul_of_nonneg_left ht h0
      omega
    have := (Int.ediv_lt_iff_lt_mul (a := h + t - 1) (b := h + 1) (c := t) (by omega)).2 h1
    omega
/-- overlap.farthest, of two numbers in a row of memory -/
theorem farthest_any (g c : Nat) (a b : Int) (w : World) (h0 : w.cell? ⟨g, 0, none⟩ = some (.int .i64 a)) (h1 : w.cell? ⟨g, 1, none⟩ = some (.int .i64 b))
    (ha : -1000000000000000000 ≤ a) (ha2 : a ≤ 1000000000000000000) (hb : -1000000000000000000 ≤ b) (hb2 : b ≤ 1000000000000000000) :
    Calls Try.prog 105 #[.slice (some ⟨g, 0, none⟩) 2 c] w fun e w' => e = .returned (.int .i64 (absmax a b)) ∧ w = w' := by
  go_enter Try.func105, Try.ntmps105
  go_wp2
  go_rounds 3
  all_goals
    go_ret
    exact ⟨ret_int (by unfold absmax; omega), rfl⟩
/-- the deferred closure of overlap.Excess where nothing panicked -/
theorem idle102 (p q : Addr) (w : World) :
    CallsD Try.prog 102 #[.pointer (some p), .pointer (some q)] .returning w fun e u' w' => e = .returned (.tuple #[]) ∧ u' = .returning ∧ w' = w := by
  refine callsD_of_wpS Try.func102 rfl fun c₀ cs hu => ?_
  apply wpS_seq
  apply wpS_region
  simp [wpOpsS, go_sem, recoverD, hu, Try.ntmps102, Exit.thenS]
  refine wpS_cond (t := false) (by simp [Act.eval, Array.replicate]) ?_
  simp only [Bool.false_eq_true, if_false]
  refine wpS_of_wp (wp_skip ?_)
  cases c₀
  simp_all [bodyPostS, results, Try.results102]
theorem idle106 (p : Addr) (w : World) :
    CallsD Try.prog 106 #[.pointer (some p)] .returning w fun e u' w' => e = .returned (.tuple #[]) ∧ u' = .returning ∧ w' = w := by
  refine callsD_of_wpS Try.func106 rfl fun c₀ cs hu => ?_
  apply wpS_seq
  apply wpS_region
  simp [wpOpsS, go_sem, recoverD, hu, Try.ntmps106, Exit.thenS]
  refine wpS_cond (t := false) (by simp [Act.eval, Array.replicate]) ?_
  simp only [Bool.false_eq_true, if_false]
  refine wpS_of_wp (wp_skip ?_)
  cases c₀
  simp_all [bodyPostS, results, Try.results106]
theorem new_at (w : World) (o : Obj) {k : Nat} (h : k = w.heap.size) : (w.alloc o).heap[k]? = some o := by rw [h]; exact heap_alloc_new w o
theorem hmf : ∀ (fn : Fn) (first cap : Array Value) (w : World), (Instr.makeFunc fn first cap).run Try.prog w = .ok (.func fn first cap) w := fun _ _ _ _ => rfl
def combU (l : List IV) (ws : List Int) : IV := if combOk l ws then comb l ws else zeroIV
def combT (l : List IV) (ws : List Int) : Int := if combOk l ws then ws.sum else 0
theorem combR_form (l : List IV) (ws : List Int) : combR l ws = .tuple #[.agg #[.int .i64 (combU l ws).x.lo, .int .i64 (combU l ws).x.hi, .int .i64 (combU l ws).y.lo, .int .i64 (combU l ws).y.hi, .int .i64 (combU l ws).z.lo, .int .i64 (combU l ws).z.hi], .int .i64 (combT l ws), .bool (combOk l ws)] := by
  unfold combR combU combT
  cases h : combOk l ws <;> simp [IV.v]
theorem combOk_of {l : List IV} {ws : List Int} (h : combOk l ws = true) : placedB l = true ∧ ws.length = l.length ∧ wOk ws = true ∧ 1 ≤ ws.sum ∧ ws.sum ≤ 65536 := by
  simp [combOk] at h
  exact ⟨h.1.1.1, h.1.1.2, h.1.2, h.2.1, h.2.2⟩
theorem combU_bd (l : List IV) (ws : List Int) : IVIn (combU l ws) 140737488355328 := by
  unfold combU
  cases h : combOk l ws
  · simp [zeroIV, IVIn, IvIn]
  · obtain ⟨h1, h2, h3, _⟩ := combOk_of h
    have := comb_bd ws l l.length (by omega) (Nat.le_refl _) h1 (fun j hj hw => by
      unfold wOk at h3
      rw [List.all_eq_true] at h3
      simpa using h3 ws[j] (by simp))
    rw [List.take_of_length_le (Nat.le_refl _), List.take_of_length_le (by omega)] at this
    simpa using this
theorem combT_bd (l : List IV) (ws : List Int) : 0 ≤ combT l ws ∧ combT l ws ≤ 65536 := by
  unfold combT
  cases h : combOk l ws
  · simp
  · have := combOk_of h
    simp; omega
/-- the bound of the distance along an axis -/
def far1 (u v : Iv) (W : Int) : Int := ceilF (absmax (u.lo - v.hi) (u.hi - v.lo)) W
def exc (u v : IV) (W R : Int) : Int := if far1 u.x v.x W > R ∨ far1 u.y v.y W > R ∨ far1 u.z v.z W > R then -1 else R * R - far1 u.x v.x W * far1 u.x v.x W - far1 u.y v.y W * far1 u.y v.y W - far1 u.z v.z W * far1 u.z v.z W
def radOk (r : Int) : Bool := decide (0 ≤ r ∧ r ≤ 1048576)
def excOk (left right : List Int) (a b : List IV) (ra rb : Int) : Bool := combOk a left && combOk b right && decide (combT a left = combT b right) && radOk ra && radOk rb
def excR (left right : List Int) (a b : List IV) (ra rb : Int) : Value := if excOk left right a b ra rb then .tuple #[.int .i64 (exc (combU a left) (combU b right) (combT a left) (ra + rb)), .bool true] else .tuple #[.int .i64 0, .bool false]
theorem excR_no {left right : List Int} {a b : List IV} {ra rb : Int} (h : excOk left right a b ra rb = false) : excR left right a b ra rb = .tuple #[.int .i64 0, .bool false] := by simp [excR, h]
def accE (m0 m1 m2 R k : Int) : Int := if k ≤ 0 then R * R else if k ≤ 1 then R * R - m0 * m0 else if k ≤ 2 then R * R - m0 * m0 - m1 * m1 else R * R - m0 * m0 - m1 * m1 - m2 * m2
def EInv (w : World) (N U V : Nat) (u v : IV) (m0 m1 m2 R : Int) (i : Value) (wr : World) : Prop :=
  ∃ k : Int, i = .int .i64 k ∧ 0 ≤ k ∧ k ≤ 3 ∧ (0 < k → m0 ≤ R) ∧ (1 < k → m1 ≤ R) ∧ (2 < k → m2 ≤ R) ∧ wr.heap[N]? = some (.cells #[.int .i64 (accE m0 m1 m2 R k)] 2 (0, 0)) ∧ wr.heap[N + 1]? = some (.cells #[.bool false] 4 (0, 0)) ∧
    wr.heap[U]? = some (.cells (ivc u) 44 (0, 0)) ∧ wr.heap[V]? = some (.cells (ivc v) 44 (0, 0)) ∧ Below N w wr ∧ V < wr.heap.size
theorem far1_nn (u v : Iv) (t : Int) (ht : 1 ≤ t) : 0 ≤ far1 u v t := (ceil_bd _ t ht (by unfold absmax; omega)).1
theorem accE_bd (m0 m1 m2 R k : Int) (h0 : 0 ≤ m0) (h1 : 0 ≤ m1) (h2 : 0 ≤ m2) (hR : 0 ≤ R) (hR2 : R ≤ 2097152) (hk0 : 0 ≤ k) (hk : k ≤ 3) (p0 : 0 < k → m0 ≤ R) (p1 : 1 < k → m1 ≤ R) (p2 : 2 < k → m2 ≤ R) : -13194139533312 ≤ accE m0 m1 m2 R k ∧ accE m0 m1 m2 R k ≤ 4398046511104 := by
  have q := mul_bd R R 2097152 2097152 hR hR2 (by omega) hR2
  have qn : 0 ≤ R * R := Int.mul_nonneg hR hR
  have a0 : 0 < k → 0 ≤ m0 * m0 ∧ m0 * m0 ≤ 4398046511104 := fun h => ⟨Int.mul_nonneg h0 h0, (mul_bd m0 m0 2097152 2097152 h0 (by have := p0 h; omega) (by omega) (by have := p0 h; omega)).2⟩
  have a1 : 1 < k → 0 ≤ m1 * m1 ∧ m1 * m1 ≤ 4398046511104 := fun h => ⟨Int.mul_nonneg h1 h1, (mul_bd m1 m1 2097152 2097152 h1 (by have := p1 h; omega) (by omega) (by have := p1 h; omega)).2⟩
  have a2 : 2 < k → 0 ≤ m2 * m2 ∧ m2 * m2 ≤ 4398046511104 := fun h => ⟨Int.mul_nonneg h2 h2, (mul_bd m2 m2 2097152 2097152 h2 (by have := p2 h; omega) (by omega) (by have := p2 h; omega)).2⟩
  unfold accE
  split
  · omega
  · have := a0 (by omega)
    split
    · omega
    · have := a1 (by omega)
      split
      · omega
      · have := a2 (by omega)
        omega
theorem excR_neg {left right : List Int} {a b : List IV} {ra rb : Int} (h : excOk left right a b ra rb = true) (hf : far1 (combU a left).x (combU b right).x (combT a left) > ra + rb ∨ far1 (combU a left).y (combU b right).y (combT a left) > ra + rb ∨ far1 (combU a left).z (combU b right).z (combT a left) > ra + rb) : excR left right a b ra rb = .tuple #[.int .i64 (-1), .bool true] := by
  unfold excR exc
  rw [if_pos h, if_pos hf]
theorem excR_yes {left right : List Int} {a b : List IV} {ra rb : Int} (h : excOk left right a b ra rb = true) (hf : far1 (combU a left).x (combU b right).x (combT a left) ≤ ra + rb ∧ far1 (combU a left).y (combU b right).y (combT a left) ≤ ra + rb ∧ far1 (combU a left).z (combU b right).z (combT a left) ≤ ra + rb) :
    excR left right a b ra rb = .tuple #[.int .i64 (accE (far1 (combU a left).x (combU b right).x (combT a left)) (far1 (combU a left).y (combU b right).y (combT a left)) (far1 (combU a left).z (combU b right).z (combT a left)) (ra + rb) 3), .bool true] := by
  unfold excR exc
  rw [if_pos h, if_neg (by omega)]
  rfl
theorem excess_any (left right : List Int) (a b : List IV) (ra rb : Int) (A B C D : Option Addr) (c1 c2 c3 c4 : Nat) (w : World) (hl : SlN w A left) (hr : SlN w B right) (ha : SlI w C a) (hb : SlI w D b)
   (m1 : left.length ≤ 9223372036854775807) (m2 : right.length ≤ 9223372036854775807) (m3 : a.length ≤ 9223372036854775807) (m4 : b.length ≤ 9223372036854775807) :
    Calls Try.prog 47 #[.slice A left.length c1, .slice B right.length c2, .slice C a.length c3, .int .i64 ra, .slice D b.length c4, .int .i64 rb] w fun e w' => e = .returned (excR left right a b ra rb) ∧ Below w.heap.size w w' := by
  have hmf := hmf
  have HL := hide hl; have HR := hide hr; have HA := hide ha; have HB := hide hb
  clear hl hr ha hb
  go_enter_defers Try.func47, Try.ntmps47
  go_wp2_with fail
  refine (combine_any C A a left c3 c1 _ (by exact Sl.alloc (Sl.alloc HA.out _) _) (by exact Sl.alloc (Sl.alloc HL.out _) _) m3 m1).mono ?_
  rintro e w1 ⟨rfl, hb1⟩
  rw [combR_form]
  have hbw1 : Below w.heap.size w w1 := (((Below.refl _ _).alloc (Nat.le_refl _) _).alloc (by simp) _).trans (hb1.mono (by simp; omega))
  have hz1 : w.heap.size + 1 < w1.heap.size := by have := hb1.size; simp at this; omega
  have hN : w1.heap[w.heap.size]? = some (.cells #[.int .i64 0] 2 (0, 0)) := (hb1.block _ (by simp; omega)).trans ((Below.heap_alloc _ _ _ (by simp)).trans (heap_alloc_new w _))
  have hM : w1.heap[w.heap.size + 1]? = some (.cells #[.bool false] 4 (0, 0)) := (hb1.block _ (by simp)).trans (new_at _ _ (by simp))
  clear hb1
  have HN := hide hN; have HM := hide hM; have HW1 := hide hbw1; clear hN hM hbw1
  generalize hu : combU a left = u
  generalize ht : combT a left = t
  generalize hf : combOk a left = f
  have HU := hide hu; have HT := hide ht; have HF := hide hf; clear hu ht hf
  go_wp2_with fail
  refine (combine_any D B b right c4 c2 _ (by exact Sl.alloc (HB.out.below HW1.out) _) (by exact Sl.alloc (HR.out.below HW1.out) _) m4 m2).mono ?_
  rintro e w2 ⟨rfl, hb2⟩
  rw [combR_form]
  generalize hu' : combU b right = v
  generalize ht' : combT b right = t'
  generalize hf' : combOk b right = f'
  have HV := hide hu'; have HT' := hide ht'; have HF' := hide hf'; clear hu' ht' hf'
  have hz2 : w1.heap.size < w2.heap.size := by have := hb2.size; simp at this; omega
  have hN2 : w2.heap[w.heap.size]? = some (.cells #[.int .i64 0] 2 (0, 0)) := (hb2.block _ (by simp; omega)).trans ((Below.heap_alloc _ _ _ (by omega)).trans HN.out)
  have hM2 : w2.heap[w.heap.size + 1]? = some (.cells #[.bool false] 4 (0, 0)) := (hb2.block _ (by simp; omega)).trans ((Below.heap_alloc _ _ _ (by omega)).trans HM.out)
  have hU2 : w2.heap[w1.heap.size]? = some (.cells #[.int .i64 u.x.lo, .int .i64 u.x.hi, .int .i64 u.y.lo, .int .i64 u.y.hi, .int .i64 u.z.lo, .int .i64 u.z.hi] 44 (0, 0)) := (hb2.block _ (by simp)).trans (heap_alloc_new w1 _)
  have hbw2 : Below w.heap.size w w2 := (HW1.out.alloc (by omega) _).trans (hb2.mono (by simp; omega))
  clear HN HM HW1 hb2
  have n0 := blk_cell hN2; have n1 := blk_frozen hN2
  have k0 := blk_cell hM2; have k1 := blk_frozen hM2
  have u0 := blk_cell hU2
  have HN := hide hN2; have HM := hide hM2; have HU2 := hide hU2; have HW := hide hbw2; clear hN2 hM2 hU2 hbw2
  have l1 : w.heap.size < w2.heap.size := by omega
  have l2 : w.heap.size + 1 < w2.heap.size := by omega
  cases f
  · have HR := hide (excR_no (by simp [excOk, HF.out] : excOk left right a b ra rb = false))
    go_wp2_with fail
    refine leaves_cons (f := 102) (args := #[.pointer (some ⟨w.heap.size, 0, none⟩), .pointer (some ⟨w.heap.size + 1, 0, none⟩)]) (by simp) (by simp [go_sem]) ?_
    refine (idle102 _ _ _).mono ?_
    rintro e u' w'' ⟨rfl, rfl, rfl⟩
    refine ⟨.tuple #[.int .i64 0, .bool false], by simp [results, Try.results47, go_sem, n0, k0, l1, l2], by rw [HR.out], ?_⟩
    exact ((HW.out.setCell (Nat.le_refl _) _).setCell (by simp) _).alloc (by simp [World.setCell]; omega) _
  · cases f'
    · have HR := hide (excR_no (by simp [excOk, HF'.out] : excOk left right a b ra rb = false))
      go_wp2_with fail
      refine leaves_cons (f := 102) (args := #[.pointer (some ⟨w.heap.size, 0, none⟩), .pointer (some ⟨w.heap.size + 1, 0, none⟩)]) (by simp) (by simp [go_sem]) ?_
      refine (idle102 _ _ _).mono ?_
      rintro e u' w'' ⟨rfl, rfl, rfl⟩
      refine ⟨.tuple #[.int .i64 0, .bool false], by simp [results, Try.results47, go_sem, n0, k0, l1, l2], by rw [HR.out], ?_⟩
      exact ((HW.out.setCell (Nat.le_refl _) _).setCell (by simp) _).alloc (by simp [World.setCell]; omega) _
    · by_cases htt : t = t'
      · cases hra : radOk ra
        · have HR := hide (excR_no (by simp [excOk, hra] : excOk left right a b ra rb = false))
          have hne : (t != t') = false := by simp [htt]
          clear htt
          unfold radOk at hra
          go_wp2_with fail
          refine (isRadius_any ra _).mono ?_
          rintro e w3 ⟨rfl, rfl⟩
          rw [hra]
          go_wp2_with fail
          refine leaves_cons (f := 102) (args := #[.pointer (some ⟨w.heap.size, 0, none⟩), .pointer (some ⟨w.heap.size + 1, 0, none⟩)]) (by simp) (by simp [go_sem]) ?_
          refine (idle102 _ _ _).mono ?_
          rintro e u' w'' ⟨rfl, rfl, rfl⟩
          refine ⟨.tuple #[.int .i64 0, .bool false], by simp [results, Try.results47, go_sem, n0, k0, l1, l2], by rw [HR.out], ?_⟩
          exact ((HW.out.setCell (Nat.le_refl _) _).setCell (by simp) _).alloc (by simp [World.setCell]; omega) _
        · cases hrb : radOk rb
          · have HR := hide (excR_no (by simp [excOk, hrb] : excOk left right a b ra rb = false))
            have hne : (t != t') = false := by simp [htt]
            clear htt
            unfold radOk at hra hrb
            go_wp2_with fail
            refine (isRadius_any ra _).mono ?_
            rintro e w3 ⟨rfl, rfl⟩
            rw [hra]
            go_wp2_with fail
            refine (isRadius_any rb _).mono ?_
            rintro e w3 ⟨rfl, rfl⟩
            rw [hrb]
            go_wp2_with fail
            refine leaves_cons (f := 102) (args := #[.pointer (some ⟨w.heap.size, 0, none⟩), .pointer (some ⟨w.heap.size + 1, 0, none⟩)]) (by simp) (by simp [go_sem]) ?_
            refine (idle102 _ _ _).mono ?_
            rintro e u' w'' ⟨rfl, rfl, rfl⟩
            refine ⟨.tuple #[.int .i64 0, .bool false], by simp [results, Try.results47, go_sem, n0, k0, l1, l2], by rw [HR.out], ?_⟩
            exact ((HW.out.setCell (Nat.le_refl _) _).setCell (by simp) _).alloc (by simp [World.setCell]; omega) _
          · have hne : (t != t') = false := by simp [htt]
            have hok : excOk left right a b ra rb = true := by simp [excOk, HF.out, HF'.out, hra, hrb, HT.out, HT'.out, htt]
            subst htt
            have ra1 : 0 ≤ ra ∧ ra ≤ 1048576 := by simpa [radOk] using hra
            have rb1 : 0 ≤ rb ∧ rb ≤ 1048576 := by simpa [radOk] using hrb
            have ht1 : 1 ≤ t ∧ t ≤ 65536 := by
              have := combOk_of HF.out
              rw [← HT.out, combT, HF.out]
              simp; omega
            have hub := combU_bd a left
            have hvb := combU_bd b right
            rw [HU.out] at hub
            rw [HV.out] at hvb
            obtain ⟨⟨⟨q1, q2⟩, ⟨q3, q4⟩⟩, ⟨⟨q5, q6⟩, ⟨q7, q8⟩⟩, ⟨⟨q9, q10⟩, ⟨q11, q12⟩⟩⟩ := hub
            obtain ⟨⟨⟨r1, r2⟩, ⟨r3, r4⟩⟩, ⟨⟨r5, r6⟩, ⟨r7, r8⟩⟩, ⟨⟨r9, r10⟩, ⟨r11, r12⟩⟩⟩ := hvb
            obtain ⟨R, hR⟩ : ∃ R, R = ra + rb := ⟨_, rfl⟩
            have R0 : 0 ≤ ra + rb := by omega
            have R1 : ra + rb ≤ 2097152 := by omega
            have RR := mul_bd (ra + rb) (ra + rb) 2097152 2097152 R0 R1 (by omega) R1
            have OKX := hide hok; have HRR := hide hR
            clear hok hR
            unfold radOk at hra hrb
            have HRA := hide hra; have HRB := hide hrb
            go_wp2_with fail
            refine (isRadius_any ra _).mono ?_
            rintro e w3 ⟨rfl, rfl⟩
            rw [HRA.out]
            go_wp2_with fail
            refine (isRadius_any rb _).mono ?_
            rintro e w3 ⟨rfl, rfl⟩
            rw [HRB.out]
            clear hra hrb
            go_wp2_with fail
            go_loopw [66] (fun i wr => EInv w w.heap.size w1.heap.size w2.heap.size u v (far1 u.x v.x t) (far1 u.y v.y t) (far1 u.z v.z t) (ra + rb) i wr) (fun i _ => 3 - (intOf i).toNat)
            case atStart =>
              refine ⟨0, rfl, by omega, by omega, by omega, by omega, by omega, ?_, ?_, ?_, ?_, ?_, ?_⟩
              · exact (Below.heap_alloc _ _ _ (by simp [World.setCell]; omega)).trans (blk_set HN.out 0 _)
              · exact (Below.heap_alloc _ _ _ (by simp [World.setCell]; omega)).trans ((Below.heap_setCell _ _ _ _ (by simp)).trans HM.out)
              · exact (Below.heap_alloc _ _ _ (by simp [World.setCell]; omega)).trans ((Below.heap_setCell _ _ _ _ (by simp; omega)).trans HU2.out)
              · exact new_at _ _ (by simp [World.setCell])
              · exact (HW.out.setCell (Nat.le_refl _) _).alloc (by simp [World.setCell]; omega) _
              · simp [World.setCell]
            case round =>
              clear n0 n1 k0 k1 u0 HN HM HU2 HW
              obtain ⟨k, rfl, hk0, hk3, p0, p1, p2, jN, jM, jU, jV, jB, jz⟩ := hrel
              have P0 := hide p0; have P1 := hide p1; have P2 := hide p2; have JN := hide jN; have JM := hide jM; have JU := hide jU; have JV := hide jV; have JB := hide jB
              have n0 := blk_cell jN; have n1 := blk_frozen jN
              have k0 := blk_cell jM; have k1 := blk_frozen jM
              clear p0 p1 p2 jN jM jB
              have j1 : w.heap.size < wr.heap.size := by omega
              have j2 : w.heap.size + 1 < wr.heap.size := by omega
              have j3 : w1.heap.size < wr.heap.size := by omega
              obtain rfl | rfl | rfl | rfl : k = 0 ∨ k = 1 ∨ k = 2 ∨ k = 3 := by omega
              · have u0 : wr.cell? ⟨w1.heap.size, 0, none⟩ = some (.int .i64 u.x.lo) := (blk_cell jU 0).trans rfl
                have u1 : wr.cell? ⟨w1.heap.size, 1, none⟩ = some (.int .i64 u.x.hi) := (blk_cell jU 1).trans rfl
                have v0 : wr.cell? ⟨w2.heap.size, 0, none⟩ = some (.int .i64 v.x.lo) := (blk_cell jV 0).trans rfl
                have v1 : wr.cell? ⟨w2.heap.size, 1, none⟩ = some (.int .i64 v.x.hi) := (blk_cell jV 1).trans rfl
                clear jU jV
                have hH := absmax_bd (u.x.lo - v.x.hi) (u.x.hi - v.x.lo) 281474976710656 (by omega) (by omega)
                have hq := ceil_bd (absmax (u.x.lo - v.x.hi) (u.x.hi - v.x.lo)) t ht1.1 hH.1
                rw [← ceil_eq _ t ht1.1] at hq
                have HQ := hide (show (absmax (u.x.lo - v.x.hi) (u.x.hi - v.x.lo) + t - 1) / t = far1 u.x v.x t from ceil_eq _ t ht1.1)
                have hacc := accE_bd (far1 u.x v.x t) (far1 u.y v.y t) (far1 u.z v.z t) (ra + rb) 0 (far1_nn _ _ _ ht1.1) (far1_nn _ _ _ ht1.1) (far1_nn _ _ _ ht1.1) R0 R1 (by omega) (by omega) P0.out P1.out P2.out
                have hw1 := IntWalk.i64_in (u.x.lo - v.x.hi) (by omega)
                have hw2 := IntWalk.i64_in (u.x.hi - v.x.lo) (by omega)
                by_cases hbig : ra + rb < (absmax (u.x.lo - v.x.hi) (u.x.hi - v.x.lo) + t - 1) / t
                · have HR := hide (excR_neg OKX.out (by rw [HU.out, HV.out, HT.out]; have := HQ.out; omega))
                  go_wp2_with fail
                  go_region_held3 (fun w' => w'.cell? ⟨w1.heap.size, 0, none⟩ = some (.int .i64 u.x.lo) ∧ w'.cell? ⟨w1.heap.size, 1, none⟩ = some (.int .i64 u.x.hi) ∧ w'.cell? ⟨w2.heap.size, 0, none⟩ = some (.int .i64 v.x.lo) ∧ w'.cell? ⟨w2.heap.size, 1, none⟩ = some (.int .i64 v.x.hi))
                    (go_keep) ((go_at_call 105; (refine (farthest_any _ _ (u.x.lo - v.x.hi) (u.x.hi - v.x.lo) _ (by simp) (by simp) (by omega) (by omega) (by omega) (by omega)).mono ?_); rintro e w9 ⟨rfl, rfl⟩))
                  clear hw1 hw2
                  go_wp2_with fail
                  refine leaves_cons (f := 102) (args := #[.pointer (some ⟨w.heap.size, 0, none⟩), .pointer (some ⟨w.heap.size + 1, 0, none⟩)]) (by simp) (by simp [go_sem]) ?_
                  refine (idle102 _ _ _).mono ?_
                  rintro e u' w'' ⟨rfl, rfl, rfl⟩
                  refine ⟨.tuple #[.int .i64 (-1), .bool true], by simp [results, Try.results47, go_sem, n0, k0, j1, j2], by rw [HR.out], ?_⟩
                  exact (((JB.out.setCell (Nat.le_refl _) _).setCell (by simp) _).alloc (by simp [World.setCell]; omega) _).drew
                · have mq := mul_bd ((absmax (u.x.lo - v.x.hi) (u.x.hi - v.x.lo) + t - 1) / t) ((absmax (u.x.lo - v.x.hi) (u.x.hi - v.x.lo) + t - 1) / t) 2097152 2097152 (by omega) (by omega) (by omega) (by omega)
                  go_wp2_with fail
                  go_region_held3 (fun w' => w'.cell? ⟨w1.heap.size, 0, none⟩ = some (.int .i64 u.x.lo) ∧ w'.cell? ⟨w1.heap.size, 1, none⟩ = some (.int .i64 u.x.hi) ∧ w'.cell? ⟨w2.heap.size, 0, none⟩ = some (.int .i64 v.x.lo) ∧ w'.cell? ⟨w2.heap.size, 1, none⟩ = some (.int .i64 v.x.hi))
                    (go_keep) ((go_at_call 105; (refine (farthest_any _ _ (u.x.lo - v.x.hi) (u.x.hi - v.x.lo) _ (by simp) (by simp) (by omega) (by omega) (by omega) (by omega)).mono ?_); rintro e w9 ⟨rfl, rfl⟩))
                  clear hw1 hw2
                  go_wp2_with fail
                  go_roundw
                  case rel =>
                    refine ⟨1, rfl, by omega, by omega, fun _ => by rw [← HQ.out]; omega, fun h => absurd h (by omega), fun h => absurd h (by omega), ?_, ?_, ?_, ?_, ?_, ?_⟩
                    · exact (Below.heap_alloc _ _ _ (by simp [World.setCell]; omega)).trans ((blk_set JN.out 0 _).trans (by rw [HQ.out]; rfl))
                    · exact (Below.heap_alloc _ _ _ (by simp [World.setCell]; omega)).trans ((Below.heap_setCell _ _ _ _ (by simp)).trans JM.out)
                    · exact (Below.heap_alloc _ _ _ (by simp [World.setCell]; omega)).trans ((Below.heap_setCell _ _ _ _ (by simp; omega)).trans JU.out)
                    · exact (Below.heap_alloc _ _ _ (by simp [World.setCell]; omega)).trans ((Below.heap_setCell _ _ _ _ (by simp; omega)).trans JV.out)
                    · exact ((JB.out.setCell (Nat.le_refl _) _).alloc (by simp [World.setCell]; omega) _).drew
                    · simp [World.setCell]; omega
                  case measure => simp [intOf]
              · have u0 : wr.cell? ⟨w1.heap.size, 2, none⟩ = some (.int .i64 u.y.lo) := (blk_cell jU 2).trans rfl
                have u1 : wr.cell? ⟨w1.heap.size, 3, none⟩ = some (.int .i64 u.y.hi) := (blk_cell jU 3).trans rfl
                have v0 : wr.cell? ⟨w2.heap.size, 2, none⟩ = some (.int .i64 v.y.lo) := (blk_cell jV 2).trans rfl
                have v1 : wr.cell? ⟨w2.heap.size, 3, none⟩ = some (.int .i64 v.y.hi) := (blk_cell jV 3).trans rfl
                clear jU jV
                have hH := absmax_bd (u.y.lo - v.y.hi) (u.y.hi - v.y.lo) 281474976710656 (by omega) (by omega)
                have hq := ceil_bd (absmax (u.y.lo - v.y.hi) (u.y.hi - v.y.lo)) t ht1.1 hH.1
                rw [← ceil_eq _ t ht1.1] at hq
                have HQ := hide (show (absmax (u.y.lo - v.y.hi) (u.y.hi - v.y.lo) + t - 1) / t = far1 u.y v.y t from ceil_eq _ t ht1.1)
                have hacc := accE_bd (far1 u.x v.x t) (far1 u.y v.y t) (far1 u.z v.z t) (ra + rb) 1 (far1_nn _ _ _ ht1.1) (far1_nn _ _ _ ht1.1) (far1_nn _ _ _ ht1.1) R0 R1 (by omega) (by omega) P0.out P1.out P2.out
                have hw1 := IntWalk.i64_in (u.y.lo - v.y.hi) (by omega)
                have hw2 := IntWalk.i64_in (u.y.hi - v.y.lo) (by omega)
                by_cases hbig : ra + rb < (absmax (u.y.lo - v.y.hi) (u.y.hi - v.y.lo) + t - 1) / t
                · have HR := hide (excR_neg OKX.out (by rw [HU.out, HV.out, HT.out]; have := HQ.out; omega))
                  go_wp2_with fail
                  go_region_held3 (fun w' => w'.cell? ⟨w1.heap.size, 2, none⟩ = some (.int .i64 u.y.lo) ∧ w'.cell? ⟨w1.heap.size, 3, none⟩ = some (.int .i64 u.y.hi) ∧ w'.cell? ⟨w2.heap.size, 2, none⟩ = some (.int .i64 v.y.lo) ∧ w'.cell? ⟨w2.heap.size, 3, none⟩ = some (.int .i64 v.y.hi))
                    (go_keep) ((go_at_call 105; (refine (farthest_any _ _ (u.y.lo - v.y.hi) (u.y.hi - v.y.lo) _ (by simp) (by simp) (by omega) (by omega) (by omega) (by omega)).mono ?_); rintro e w9 ⟨rfl, rfl⟩))
                  clear hw1 hw2
                  go_wp2_with fail
                  refine leaves_cons (f := 102) (args := #[.pointer (some ⟨w.heap.size, 0, none⟩), .pointer (some ⟨w.heap.size + 1, 0, none⟩)]) (by simp) (by simp [go_sem]) ?_
                  refine (idle102 _ _ _).mono ?_
                  rintro e u' w'' ⟨rfl, rfl, rfl⟩
                  refine ⟨.tuple #[.int .i64 (-1), .bool true], by simp [results, Try.results47, go_sem, n0, k0, j1, j2], by rw [HR.out], ?_⟩
                  exact (((JB.out.setCell (Nat.le_refl _) _).setCell (by simp) _).alloc (by simp [World.setCell]; omega) _).drew
                · have mq := mul_bd ((absmax (u.y.lo - v.y.hi) (u.y.hi - v.y.lo) + t - 1) / t) ((absmax (u.y.lo - v.y.hi) (u.y.hi - v.y.lo) + t - 1) / t) 2097152 2097152 (by omega) (by omega) (by omega) (by omega)
                  go_wp2_with fail
                  go_region_held3 (fun w' => w'.cell? ⟨w1.heap.size, 2, none⟩ = some (.int .i64 u.y.lo) ∧ w'.cell? ⟨w1.heap.size, 3, none⟩ = some (.int .i64 u.y.hi) ∧ w'.cell? ⟨w2.heap.size, 2, none⟩ = some (.int .i64 v.y.lo) ∧ w'.cell? ⟨w2.heap.size, 3, none⟩ = some (.int .i64 v.y.hi))
                    (go_keep) ((go_at_call 105; (refine (farthest_any _ _ (u.y.lo - v.y.hi) (u.y.hi - v.y.lo) _ (by simp) (by simp) (by omega) (by omega) (by omega) (by omega)).mono ?_); rintro e w9 ⟨rfl, rfl⟩))
                  clear hw1 hw2
                  go_wp2_with fail
                  go_roundw
                  case rel =>
                    refine ⟨2, rfl, by omega, by omega, fun _ => P0.out (by omega), fun _ => by rw [← HQ.out]; omega, fun h => absurd h (by omega), ?_, ?_, ?_, ?_, ?_, ?_⟩
                    · exact (Below.heap_alloc _ _ _ (by simp [World.setCell]; omega)).trans ((blk_set JN.out 0 _).trans (by rw [HQ.out]; rfl))
                    · exact (Below.heap_alloc _ _ _ (by simp [World.setCell]; omega)).trans ((Below.heap_setCell _ _ _ _ (by simp)).trans JM.out)
                    · exact (Below.heap_alloc _ _ _ (by simp [World.setCell]; omega)).trans ((Below.heap_setCell _ _ _ _ (by simp; omega)).trans JU.out)
                    · exact (Below.heap_alloc _ _ _ (by simp [World.setCell]; omega)).trans ((Below.heap_setCell _ _ _ _ (by simp; omega)).trans JV.out)
                    · exact ((JB.out.setCell (Nat.le_refl _) _).alloc (by simp [World.setCell]; omega) _).drew
                    · simp [World.setCell]; omega
                  case measure => simp [intOf]
              · have u0 : wr.cell? ⟨w1.heap.size, 4, none⟩ = some (.int .i64 u.z.lo) := (blk_cell jU 4).trans rfl
                have u1 : wr.cell? ⟨w1.heap.size, 5, none⟩ = some (.int .i64 u.z.hi) := (blk_cell jU 5).trans rfl
                have v0 : wr.cell? ⟨w2.heap.size, 4, none⟩ = some (.int .i64 v.z.lo) := (blk_cell jV 4).trans rfl
                have v1 : wr.cell? ⟨w2.heap.size, 5, none⟩ = some (.int .i64 v.z.hi) := (blk_cell jV 5).trans rfl
                clear jU jV
                have hH := absmax_bd (u.z.lo - v.z.hi) (u.z.hi - v.z.lo) 281474976710656 (by omega) (by omega)
                have hq := ceil_bd (absmax (u.z.lo - v.z.hi) (u.z.hi - v.z.lo)) t ht1.1 hH.1
                rw [← ceil_eq _ t ht1.1] at hq
                have HQ := hide (show (absmax (u.z.lo - v.z.hi) (u.z.hi - v.z.lo) + t - 1) / t = far1 u.z v.z t from ceil_eq _ t ht1.1)
                have hacc := accE_bd (far1 u.x v.x t) (far1 u.y v.y t) (far1 u.z v.z t) (ra + rb) 2 (far1_nn _ _ _ ht1.1) (far1_nn _ _ _ ht1.1) (far1_nn _ _ _ ht1.1) R0 R1 (by omega) (by omega) P0.out P1.out P2.out
                have hw1 := IntWalk.i64_in (u.z.lo - v.z.hi) (by omega)
                have hw2 := IntWalk.i64_in (u.z.hi - v.z.lo) (by omega)
                by_cases hbig : ra + rb < (absmax (u.z.lo - v.z.hi) (u.z.hi - v.z.lo) + t - 1) / t
                · have HR := hide (excR_neg OKX.out (by rw [HU.out, HV.out, HT.out]; have := HQ.out; omega))
                  go_wp2_with fail
                  go_region_held3 (fun w' => w'.cell? ⟨w1.heap.size, 4, none⟩ = some (.int .i64 u.z.lo) ∧ w'.cell? ⟨w1.heap.size, 5, none⟩ = some (.int .i64 u.z.hi) ∧ w'.cell? ⟨w2.heap.size, 4, none⟩ = some (.int .i64 v.z.lo) ∧ w'.cell? ⟨w2.heap.size, 5, none⟩ = some (.int .i64 v.z.hi))
                    (go_keep) ((go_at_call 105; (refine (farthest_any _ _ (u.z.lo - v.z.hi) (u.z.hi - v.z.lo) _ (by simp) (by simp) (by omega) (by omega) (by omega) (by omega)).mono ?_); rintro e w9 ⟨rfl, rfl⟩))
                  clear hw1 hw2
                  go_wp2_with fail
                  refine leaves_cons (f := 102) (args := #[.pointer (some ⟨w.heap.size, 0, none⟩), .pointer (some ⟨w.heap.size + 1, 0, none⟩)]) (by simp) (by simp [go_sem]) ?_
                  refine (idle102 _ _ _).mono ?_
                  rintro e u' w'' ⟨rfl, rfl, rfl⟩
                  refine ⟨.tuple #[.int .i64 (-1), .bool true], by simp [results, Try.results47, go_sem, n0, k0, j1, j2], by rw [HR.out], ?_⟩
                  exact (((JB.out.setCell (Nat.le_refl _) _).setCell (by simp) _).alloc (by simp [World.setCell]; omega) _).drew
                · have mq := mul_bd ((absmax (u.z.lo - v.z.hi) (u.z.hi - v.z.lo) + t - 1) / t) ((absmax (u.z.lo - v.z.hi) (u.z.hi - v.z.lo) + t - 1) / t) 2097152 2097152 (by omega) (by omega) (by omega) (by omega)
                  go_wp2_with fail
                  go_region_held3 (fun w' => w'.cell? ⟨w1.heap.size, 4, none⟩ = some (.int .i64 u.z.lo) ∧ w'.cell? ⟨w1.heap.size, 5, none⟩ = some (.int .i64 u.z.hi) ∧ w'.cell? ⟨w2.heap.size, 4, none⟩ = some (.int .i64 v.z.lo) ∧ w'.cell? ⟨w2.heap.size, 5, none⟩ = some (.int .i64 v.z.hi))
                    (go_keep) ((go_at_call 105; (refine (farthest_any _ _ (u.z.lo - v.z.hi) (u.z.hi - v.z.lo) _ (by simp) (by simp) (by omega) (by omega) (by omega) (by omega)).mono ?_); rintro e w9 ⟨rfl, rfl⟩))
                  clear hw1 hw2
                  go_wp2_with fail
                  go_roundw
                  case rel =>
                    refine ⟨3, rfl, by omega, by omega, fun _ => P0.out (by omega), fun _ => P1.out (by omega), fun _ => by rw [← HQ.out]; omega, ?_, ?_, ?_, ?_, ?_, ?_⟩
                    · exact (Below.heap_alloc _ _ _ (by simp [World.setCell]; omega)).trans ((blk_set JN.out 0 _).trans (by rw [HQ.out]; rfl))
                    · exact (Below.heap_alloc _ _ _ (by simp [World.setCell]; omega)).trans ((Below.heap_setCell _ _ _ _ (by simp)).trans JM.out)
                    · exact (Below.heap_alloc _ _ _ (by simp [World.setCell]; omega)).trans ((Below.heap_setCell _ _ _ _ (by simp; omega)).trans JU.out)
                    · exact (Below.heap_alloc _ _ _ (by simp [World.setCell]; omega)).trans ((Below.heap_setCell _ _ _ _ (by simp; omega)).trans JV.out)
                    · exact ((JB.out.setCell (Nat.le_refl _) _).alloc (by simp [World.setCell]; omega) _).drew
                    · simp [World.setCell]; omega
                  case measure => simp [intOf]
              · have HR := hide (excR_yes OKX.out (by rw [HU.out, HV.out, HT.out]; exact ⟨P0.out (by omega), P1.out (by omega), P2.out (by omega)⟩))
                rw [HU.out, HV.out, HT.out] at HR
                go_wp2_with fail
                refine leaves_cons (f := 102) (args := #[.pointer (some ⟨w.heap.size, 0, none⟩), .pointer (some ⟨w.heap.size + 1, 0, none⟩)]) (by simp) (by simp [go_sem]) ?_
                refine (idle102 _ _ _).mono ?_
                rintro e u' w'' ⟨rfl, rfl, rfl⟩
                refine ⟨.tuple #[.int .i64 (accE (far1 u.x v.x t) (far1 u.y v.y t) (far1 u.z v.z t) (ra + rb) 3), .bool true], by simp [results, Try.results47, go_sem, n0, k0], by rw [HR.out], ?_⟩
                exact (JB.out.setCell (Nat.le_refl _) _).setCell (by simp) _
      · have HR := hide (excR_no (by simp [excOk, HT.out, HT'.out, htt] : excOk left right a b ra rb = false))
        have hne : (t != t') = true := by simp [htt]
        clear htt
        go_wp2_with fail
        refine leaves_cons (f := 102) (args := #[.pointer (some ⟨w.heap.size, 0, none⟩), .pointer (some ⟨w.heap.size + 1, 0, none⟩)]) (by simp) (by simp [go_sem]) ?_
        refine (idle102 _ _ _).mono ?_
        rintro e u' w'' ⟨rfl, rfl, rfl⟩
        refine ⟨.tuple #[.int .i64 0, .bool false], by simp [results, Try.results47, go_sem, n0, k0, l1, l2], by rw [HR.out], ?_⟩
        exact ((HW.out.setCell (Nat.le_refl _) _).setCell (by simp) _).alloc (by simp [World.setCell]; omega) _
end Go.Proofs.Ytionbckpgfaneaa
/- Walks, part k: Overlaps; the references' Excess. -/
namespace Go.Proofs.Ytionbckpgfaneaa
open Go.RowKit
set_option maxHeartbeats 1000000
set_option maxRecDepth 100000
def excX (left right : List Int) (a b : List IV) (ra rb : Int) : Int := if excOk left right a b ra rb then exc (combU a left) (combU b right) (combT a left) (ra + rb) else 0
theorem excR_form (left right : List Int) (a b : List IV) (ra rb : Int) : excR left right a b ra rb = .tuple #[.int .i64 (excX left right a b ra rb), .bool (excOk left right a b ra rb)] := by
  unfold excR excX
  cases h : excOk left right a b ra rb <;> simp
def ovl (left right : List Int) (a b : List IV) (ra rb : Int) : Bool := excOk left right a b ra rb && decide (0 ≤ excX left right a b ra rb)
/-- overlap.Overlaps -/
theorem overlaps_any (left right : List Int) (a b : List IV) (ra rb : Int) (A B C D : Option Addr) (c1 c2 c3 c4 : Nat) (w : World) (hl : SlN w A left) (hr : SlN w B right) (ha : SlI w C a) (hb : SlI w D b)
   (m1 : left.length ≤ 9223372036854775807) (m2 : right.length ≤ 9223372036854775807) (m3 : a.length ≤ 9223372036854775807) (m4 : b.length ≤ 9223372036854775807) :
    Calls Try.prog 48 #[.slice A left.length c1, .slice B right.length c2, .slice C a.length c3, .int .i64 ra, .slice D b.length c4, .int .i64 rb] w fun e w' => e = .returned (.bool (ovl left right a b ra rb)) ∧ Below w.heap.size w w' := by
  have hmf := hmf
  have HL := hide hl; have HR := hide hr; have HA := hide ha; have HB := hide hb
  clear hl hr ha hb
  go_enter_defers Try.func48, Try.ntmps48
  go_wp2_with fail
  refine (excess_any left right a b ra rb A B C D c1 c2 c3 c4 _ (by exact Sl.alloc HL.out _) (by exact Sl.alloc HR.out _) (by exact Sl.alloc HA.out _) (by exact Sl.alloc HB.out _) m1 m2 m3 m4).mono ?_
  rintro e w1 ⟨rfl, hb1⟩
  rw [excR_form]
  have hz1 : w.heap.size < w1.heap.size := by have := hb1.size; simp at this; omega
  have hN : w1.heap[w.heap.size]? = some (.cells #[.bool false] 4 (0, 0)) := (hb1.block _ (by simp)).trans (heap_alloc_new w _)
  have hbw : Below w.heap.size w w1 := ((Below.refl _ _).alloc (Nat.le_refl _) _).trans (hb1.mono (by simp))
  have n0 := blk_cell hN; have n1 := blk_frozen hN
  have HW := hide hbw
  clear hb1 hN hbw
  generalize hx : excX left right a b ra rb = x
  generalize hf : excOk left right a b ra rb = f
  have HX := hide hx; have HF := hide hf
  clear hx hf
  cases f
  · go_wp2_with fail
    refine leaves_cons (f := 106) (args := #[.pointer (some ⟨w.heap.size, 0, none⟩)]) (by simp) (by simp [go_sem]) ?_
    refine (idle106 _ _).mono ?_
    rintro e u' w'' ⟨rfl, rfl, rfl⟩
    refine ⟨.bool false, by simp [results, Try.results48, go_sem, n0], by rw [ovl, HF.out, HX.out]; rfl, ?_⟩
    exact HW.out.setCell (Nat.le_refl _) _
  · go_wp2_with fail
    refine leaves_cons (f := 106) (args := #[.pointer (some ⟨w.heap.size, 0, none⟩)]) (by simp) (by simp [go_sem]) ?_
    refine (idle106 _ _).mono ?_
    rintro e u' w'' ⟨rfl, rfl, rfl⟩
    refine ⟨.bool (decide (0 ≤ x)), by simp [results, Try.results48, go_sem, n0], by rw [ovl, HF.out, HX.out]; rfl, ?_⟩
    exact HW.out.setCell (Nat.le_refl _) _
def XInv (w : World) (U V : Nat) (u v : IV) (m0 m1 m2 R : Int) (x i : Value) (wr : World) : Prop :=
  ∃ k : Int, i = .int .i64 k ∧ x = .int .i64 (accE m0 m1 m2 R k) ∧ 0 ≤ k ∧ k ≤ 3 ∧ (0 < k → m0 ≤ R) ∧ (1 < k → m1 ≤ R) ∧ (2 < k → m2 ≤ R) ∧
    wr.heap[U]? = some (.cells (ivc u) 44 (0, 0)) ∧ wr.heap[V]? = some (.cells (ivc v) 44 (0, 0)) ∧ Below w.heap.size w wr ∧ V < wr.heap.size
theorem ceil_if (u v : Iv) (t : Int) (w : World) (h1 : -281474976710656 ≤ u.lo - v.hi ∧ u.lo - v.hi ≤ 281474976710656) (h2 : -281474976710656 ≤ u.hi - v.lo ∧ u.hi - v.lo ≤ 281474976710656) (ht : 1 ≤ t) :
    Calls Try.prog 54 #[.int .i64 (if max (u.lo - v.hi) (-(u.lo - v.hi)) < max (u.hi - v.lo) (-(u.hi - v.lo)) then max (u.hi - v.lo) (-(u.hi - v.lo)) else max (u.lo - v.hi) (-(u.lo - v.hi))), .int .i64 t] w
      fun e w' => e = .returned (.int .i64 (far1 u v t)) ∧ w = w' := by
  have e : (if max (u.lo - v.hi) (-(u.lo - v.hi)) < max (u.hi - v.lo) (-(u.hi - v.lo)) then max (u.hi - v.lo) (-(u.hi - v.lo)) else max (u.lo - v.hi) (-(u.lo - v.hi))) = absmax (u.lo - v.hi) (u.hi - v.lo) := by
    unfold absmax; split <;> omega
  rw [e]
  exact ceil_any _ t w (by have := absmax_bd _ _ _ h1 h2; constructor <;> omega) (by omega)
theorem far1_bd (u v : Iv) (t : Int) (h1 : -281474976710656 ≤ u.lo - v.hi ∧ u.lo - v.hi ≤ 281474976710656) (h2 : -281474976710656 ≤ u.hi - v.lo ∧ u.hi - v.lo ≤ 281474976710656) (ht : 1 ≤ t) : 0 ≤ far1 u v t ∧ far1 u v t ≤ 281474976710656 := by
  have hH := absmax_bd _ _ _ h1 h2
  have := ceil_bd _ t ht hH.1
  unfold far1; omega
/-- armplanref14.Excess -/
theorem excess_ref (left right : List Int) (a b : List IV) (ra rb : Int) (A B C D : Option Addr) (c1 c2 c3 c4 : Nat) (w : World) (hl : SlN w A left) (hr : SlN w B right) (ha : SlI w C a) (hb : SlI w D b)
   (m1 : left.length ≤ 9223372036854775807) (m2 : right.length ≤ 9223372036854775807) (m3 : a.length ≤ 9223372036854775807) (m4 : b.length ≤ 9223372036854775807) :
    Calls Try.prog 101 #[.slice A left.length c1, .slice B right.length c2, .slice C a.length c3, .int .i64 ra, .slice D b.length c4, .int .i64 rb] w fun e w' => e = .returned (excR left right a b ra rb) ∧ Below w.heap.size w w' := by
  have HL := hide hl; have HR := hide hr; have HA := hide ha; have HB := hide hb
  clear hl hr ha hb
  go_enter Try.func101, Try.ntmps101
  go_wp2_with fail
  refine (combine_ref C A a left c3 c1 _ HA.out HL.out m3 m1).mono ?_
  rintro e w1 ⟨rfl, hb1⟩
  rw [combR_form]
  have hz1 := hb1.size
  generalize hu : combU a left = u
  generalize ht : combT a left = t
  generalize hf : combOk a left = f
  have HU := hide hu; have HT := hide ht; have HF := hide hf; have HW1 := hide hb1; clear hu ht hf hb1
  go_wp2_with fail
  refine (combine_ref D B b right c4 c2 _ (by exact Sl.alloc (HB.out.below HW1.out) _) (by exact Sl.alloc (HR.out.below HW1.out) _) m4 m2).mono ?_
  rintro e w2 ⟨rfl, hb2⟩
  rw [combR_form]
  generalize hu' : combU b right = v
  generalize ht' : combT b right = t'
  generalize hf' : combOk b right = f'
  have HV := hide hu'; have HT' := hide ht'; have HF' := hide hf'; clear hu' ht' hf'
  have hz2 : w1.heap.size < w2.heap.size := by have := hb2.size; simp at this; omega
  have hU2 : w2.heap[w1.heap.size]? = some (.cells #[.int .i64 u.x.lo, .int .i64 u.x.hi, .int .i64 u.y.lo, .int .i64 u.y.hi, .int .i64 u.z.lo, .int .i64 u.z.hi] 44 (0, 0)) := (hb2.block _ (by simp)).trans (heap_alloc_new w1 _)
  have hbw2 : Below w.heap.size w w2 := (HW1.out.alloc (by omega) _).trans (hb2.mono (by simp; omega))
  have HU2 := hide hU2; have HW := hide hbw2; clear hU2 hbw2 hb2 HW1
  cases f
  · have HR := hide (excR_no (by simp [excOk, HF.out] : excOk left right a b ra rb = false))
    go_wp2_with fail
    go_ret2
    exact ⟨by rw [HR.out]; rfl, HW.out.alloc (by omega) _⟩
  · cases f'
    · have HR := hide (excR_no (by simp [excOk, HF'.out] : excOk left right a b ra rb = false))
      go_wp2_with fail
      go_ret2
      exact ⟨by rw [HR.out]; rfl, HW.out.alloc (by omega) _⟩
    · by_cases htt : t = t'
      · cases hra : radOk ra
        · have HR := hide (excR_no (by simp [excOk, hra] : excOk left right a b ra rb = false))
          have hne : (t != t') = false := by simp [htt]
          clear htt
          unfold radOk at hra
          go_wp2_with fail
          refine (radius_ref ra _).mono ?_
          rintro e w3 ⟨rfl, rfl⟩
          rw [hra]
          go_wp2_with fail
          go_ret2
          exact ⟨by rw [HR.out]; rfl, HW.out.alloc (by omega) _⟩
        · cases hrb : radOk rb
          · have HR := hide (excR_no (by simp [excOk, hrb] : excOk left right a b ra rb = false))
            have hne : (t != t') = false := by simp [htt]
            clear htt
            unfold radOk at hra hrb
            go_wp2_with fail
            refine (radius_ref ra _).mono ?_
            rintro e w3 ⟨rfl, rfl⟩
            rw [hra]
            go_wp2_with fail
            refine (radius_ref rb _).mono ?_
            rintro e w3 ⟨rfl, rfl⟩
            rw [hrb]
            go_wp2_with fail
            go_ret2
            exact ⟨by rw [HR.out]; rfl, HW.out.alloc (by omega) _⟩
          · have hne : (t != t') = false := by simp [htt]
            have hok : excOk left right a b ra rb = true := by simp [excOk, HF.out, HF'.out, hra, hrb, HT.out, HT'.out, htt]
            subst htt
            have ra1 : 0 ≤ ra ∧ ra ≤ 1048576 := by simpa [radOk] using hra
            have rb1 : 0 ≤ rb ∧ rb ≤ 1048576 := by simpa [radOk] using hrb
            have ht1 : 1 ≤ t ∧ t ≤ 65536 := by
              have := combOk_of HF.out
              rw [← HT.out, combT, HF.out]
              simp; omega
            have hub := combU_bd a left
            have hvb := combU_bd b right
            rw [HU.out] at hub
            rw [HV.out] at hvb
            obtain ⟨⟨⟨q1, q2⟩, ⟨q3, q4⟩⟩, ⟨⟨q5, q6⟩, ⟨q7, q8⟩⟩, ⟨⟨q9, q10⟩, ⟨q11, q12⟩⟩⟩ := hub
            obtain ⟨⟨⟨r1, r2⟩, ⟨r3, r4⟩⟩, ⟨⟨r5, r6⟩, ⟨r7, r8⟩⟩, ⟨⟨r9, r10⟩, ⟨r11, r12⟩⟩⟩ := hvb
            have R0 : 0 ≤ ra + rb := by omega
            have R1 : ra + rb ≤ 2097152 := by omega
            have RR := mul_bd (ra + rb) (ra + rb) 2097152 2097152 R0 R1 (by omega) R1
            have OKX := hide hok
            clear hok
            unfold radOk at hra hrb
            have HRA := hide hra; have HRB := hide hrb
            go_wp2_with fail
            refine (radius_ref ra _).mono ?_
            rintro e w3 ⟨rfl, rfl⟩
            rw [HRA.out]
            go_wp2_with fail
            refine (radius_ref rb _).mono ?_
            rintro e w3 ⟨rfl, rfl⟩
            rw [HRB.out]
            clear hra hrb
            go_wp2_with fail
            go_loopw [20, 21] (fun x i wr => XInv w w1.heap.size w2.heap.size u v (far1 u.x v.x t) (far1 u.y v.y t) (far1 u.z v.z t) (ra + rb) x i wr) (fun _ i _ => 3 - (intOf i).toNat)
            case atStart =>
              exact ⟨0, rfl, rfl, by omega, by omega, by omega, by omega, by omega, (Below.heap_alloc _ _ _ hz2).trans HU2.out, heap_alloc_new w2 _, HW.out.alloc (by omega) _, by simp⟩
            case round =>
              clear HU2 HW
              obtain ⟨k, rfl, rfl, hk0, hk3, p0, p1, p2, jU, jV, jB, jz⟩ := hrel
              have P0 := hide p0; have P1 := hide p1; have P2 := hide p2; have JU := hide jU; have JV := hide jV; have JB := hide jB
              clear p0 p1 p2 jB
              have j3 : w1.heap.size < wr.heap.size := by omega
              obtain rfl | rfl | rfl | rfl : k = 0 ∨ k = 1 ∨ k = 2 ∨ k = 3 := by omega
              · have u0 : wr.cell? ⟨w1.heap.size, 0, none⟩ = some (.int .i64 u.x.lo) := (blk_cell jU 0).trans rfl
                have u1 : wr.cell? ⟨w1.heap.size, 1, none⟩ = some (.int .i64 u.x.hi) := (blk_cell jU 1).trans rfl
                have v0 : wr.cell? ⟨w2.heap.size, 0, none⟩ = some (.int .i64 v.x.lo) := (blk_cell jV 0).trans rfl
                have v1 : wr.cell? ⟨w2.heap.size, 1, none⟩ = some (.int .i64 v.x.hi) := (blk_cell jV 1).trans rfl
                clear jU jV
                have hq := far1_bd u.x v.x t (by omega) (by omega) ht1.1
                have hacc := accE_bd (far1 u.x v.x t) (far1 u.y v.y t) (far1 u.z v.z t) (ra + rb) 0 (far1_nn _ _ _ ht1.1) (far1_nn _ _ _ ht1.1) (far1_nn _ _ _ ht1.1) R0 R1 (by omega) (by omega) P0.out P1.out P2.out
                have hw1 := IntWalk.i64_in (u.x.lo - v.x.hi) (by omega)
                have hw2 := IntWalk.i64_in (u.x.hi - v.x.lo) (by omega)
                go_wp2_with fail
                go_quiet ((first | (go_at_call 142; exact quiet_same (size_any _ _ (by omega) (by omega))) | (go_at_call 54; exact quiet_same (ceil_if u.x v.x t _ (by omega) (by omega) ht1.1))))
                clear hw1 hw2
                by_cases hbig : ra + rb < far1 u.x v.x t
                · have HR := hide (excR_neg OKX.out (by rw [HU.out, HV.out, HT.out]; omega))
                  go_wp2_with fail
                  all_goals
                    go_ret2
                    exact ⟨by rw [HR.out]; rfl, below_drewN JB.out _⟩
                · have mq := mul_bd (far1 u.x v.x t) (far1 u.x v.x t) 2097152 2097152 (by omega) (by omega) (by omega) (by omega)
                  go_wp2_with fail
                  all_goals
                    go_roundw
                    case rel => exact ⟨1, rfl, rfl, by omega, by omega, fun _ => by omega, fun h => absurd h (by omega), fun h => absurd h (by omega), JU.out, JV.out, below_drewN JB.out _, jz⟩
                    case measure => simp [intOf]
              · have u0 : wr.cell? ⟨w1.heap.size, 2, none⟩ = some (.int .i64 u.y.lo) := (blk_cell jU 2).trans rfl
                have u1 : wr.cell? ⟨w1.heap.size, 3, none⟩ = some (.int .i64 u.y.hi) := (blk_cell jU 3).trans rfl
                have v0 : wr.cell? ⟨w2.heap.size, 2, none⟩ = some (.int .i64 v.y.lo) := (blk_cell jV 2).trans rfl
                have v1 : wr.cell? ⟨w2.heap.size, 3, none⟩ = some (.int .i64 v.y.hi) := (blk_cell jV 3).trans rfl
                clear jU jV
                have hq := far1_bd u.y v.y t (by omega) (by omega) ht1.1
                have hacc := accE_bd (far1 u.x v.x t) (far1 u.y v.y t) (far1 u.z v.z t) (ra + rb) 1 (far1_nn _ _ _ ht1.1) (far1_nn _ _ _ ht1.1) (far1_nn _ _ _ ht1.1) R0 R1 (by omega) (by omega) P0.out P1.out P2.out
                have hw1 := IntWalk.i64_in (u.y.lo - v.y.hi) (by omega)
                have hw2 := IntWalk.i64_in (u.y.hi - v.y.lo) (by omega)
                go_wp2_with fail
                go_quiet ((first | (go_at_call 142; exact quiet_same (size_any _ _ (by omega) (by omega))) | (go_at_call 54; exact quiet_same (ceil_if u.y v.y t _ (by omega) (by omega) ht1.1))))
                clear hw1 hw2
                by_cases hbig : ra + rb < far1 u.y v.y t
                · have HR := hide (excR_neg OKX.out (by rw [HU.out, HV.out, HT.out]; omega))
                  go_wp2_with fail
                  all_goals
                    go_ret2
                    exact ⟨by rw [HR.out]; rfl, below_drewN JB.out _⟩
                · have mq := mul_bd (far1 u.y v.y t) (far1 u.y v.y t) 2097152 2097152 (by omega) (by omega) (by omega) (by omega)
                  go_wp2_with fail
                  all_goals
                    go_roundw
                    case rel => exact ⟨2, rfl, rfl, by omega, by omega, fun _ => P0.out (by omega), fun _ => by omega, fun h => absurd h (by omega), JU.out, JV.out, below_drewN JB.out _, jz⟩
                    case measure => simp [intOf]
              · have u0 : wr.cell? ⟨w1.heap.size, 4, none⟩ = some (.int .i64 u.z.lo) := (blk_cell jU 4).trans rfl
                have u1 : wr.cell? ⟨w1.heap.size, 5, none⟩ = some (.int .i64 u.z.hi) := (blk_cell jU 5).trans rfl
                have v0 : wr.cell? ⟨w2.heap.size, 4, none⟩ = some (.int .i64 v.z.lo) := (blk_cell jV 4).trans rfl
                have v1 : wr.cell? ⟨w2.heap.size, 5, none⟩ = some (.int .i64 v.z.hi) := (blk_cell jV 5).trans rfl
                clear jU jV
                have hq := far1_bd u.z v.z t (by omega) (by omega) ht1.1
                have hacc := accE_bd (far1 u.x v.x t) (far1 u.y v.y t) (far1 u.z v.z t) (ra + rb) 2 (far1_nn _ _ _ ht1.1) (far1_nn _ _ _ ht1.1) (far1_nn _ _ _ ht1.1) R0 R1 (by omega) (by omega) P0.out P1.out P2.out
                have hw1 := IntWalk.i64_in (u.z.lo - v.z.hi) (by omega)
                have hw2 := IntWalk.i64_in (u.z.hi - v.z.lo) (by omega)
                go_wp2_with fail
                go_quiet ((first | (go_at_call 142; exact quiet_same (size_any _ _ (by omega) (by omega))) | (go_at_call 54; exact quiet_same (ceil_if u.z v.z t _ (by omega) (by omega) ht1.1))))
                clear hw1 hw2
                by_cases hbig : ra + rb < far1 u.z v.z t
                · have HR := hide (excR_neg OKX.out (by rw [HU.out, HV.out, HT.out]; omega))
                  go_wp2_with fail
                  all_goals
                    go_ret2
                    exact ⟨by rw [HR.out]; rfl, below_drewN JB.out _⟩
                · have mq := mul_bd (far1 u.z v.z t) (far1 u.z v.z t) 2097152 2097152 (by omega) (by omega) (by omega) (by omega)
                  go_wp2_with fail
                  all_goals
                    go_roundw
                    case rel => exact ⟨3, rfl, rfl, by omega, by omega, fun _ => P0.out (by omega), fun _ => P1.out (by omega), fun _ => by omega, JU.out, JV.out, below_drewN JB.out _, jz⟩
                    case measure => simp [intOf]
              · have HR := hide (excR_yes OKX.out (by rw [HU.out, HV.out, HT.out]; exact ⟨P0.out (by omega), P1.out (by omega), P2.out (by omega)⟩))
                rw [HU.out, HV.out, HT.out] at HR
                clear jU jV
                go_wp2_with fail
                go_ret2
                exact ⟨by rw [HR.out]; rfl, JB.out⟩
      · have HR := hide (excR_no (by simp [excOk, HT.out, HT'.out, htt] : excOk left right a b ra rb = false))
        have hne : (t != t') = true := by simp [htt]
        clear htt
        go_wp2_with fail
        go_ret2
        exact ⟨by rw [HR.out]; rfl, HW.out.alloc (by omega) _⟩
end Go.Proofs.Ytionbckpgfaneaa
/- Walks, part m: the comparison of Excess and Overlaps. -/
namespace Go.Proofs.Ytionbckpgfaneaa
open Go.RowKit
set_option maxHeartbeats 1000000
set_option maxRecDepth 100000
theorem aw1 : excR [1] [1] [zeroIV] [⟨⟨3, 4⟩, ⟨0, 0⟩, ⟨0, 0⟩⟩] 3 1 = .tuple #[.int .i64 0, .bool true] := by kernel_rfl
theorem aw2 : excR [1] [1] [zeroIV] [⟨⟨3, 4⟩, ⟨0, 0⟩, ⟨0, 0⟩⟩] 3 0 = .tuple #[.int .i64 (-1), .bool true] := by kernel_rfl
theorem aw3 : ovl [1] [1] [zeroIV] [⟨⟨3, 4⟩, ⟨0, 0⟩, ⟨0, 0⟩⟩] 3 1 = true := by kernel_rfl
/-- armplanref14.Overlaps -/
theorem overlaps_ref (left right : List Int) (a b : List IV) (ra rb : Int) (A B C D : Option Addr) (c1 c2 c3 c4 : Nat) (w : World) (hl : SlN w A left) (hr : SlN w B right) (ha : SlI w C a) (hb : SlI w D b)
   (m1 : left.length ≤ 9223372036854775807) (m2 : right.length ≤ 9223372036854775807) (m3 : a.length ≤ 9223372036854775807) (m4 : b.length ≤ 9223372036854775807) :
    Calls Try.prog 86 #[.slice A left.length c1, .slice B right.length c2, .slice C a.length c3, .int .i64 ra, .slice D b.length c4, .int .i64 rb] w fun e w' => e = .returned (.bool (ovl left right a b ra rb)) ∧ Below w.heap.size w w' := by
  have HL := hide hl; have HR := hide hr; have HA := hide ha; have HB := hide hb
  clear hl hr ha hb
  go_enter Try.func86, Try.ntmps86
  go_wp2_with fail
  refine (excess_ref left right a b ra rb A B C D c1 c2 c3 c4 _ HL.out HR.out HA.out HB.out m1 m2 m3 m4).mono ?_
  rintro e w1 ⟨rfl, hb1⟩
  rw [excR_form]
  have HW := hide hb1
  clear hb1
  generalize hx : excX left right a b ra rb = x
  generalize hf : excOk left right a b ra rb = f
  have HX := hide hx; have HF := hide hf
  clear hx hf
  cases f
  · go_wp2_with fail
    go_ret
    exact ⟨by rw [ovl, HF.out, HX.out]; rfl, HW.out⟩
  · go_wp2_with fail
    go_ret
    exact ⟨by rw [ovl, HF.out, HX.out]; rfl, HW.out⟩
/-- armplanlaw16.excess: the program and the reference agree -/
theorem excess16 (left right : List Int) (a b : List IV) (ra rb : Int) (A B C D : Option Addr) (c1 c2 c3 c4 : Nat) (w : World) (hl : SlN w A left) (hr : SlN w B right) (ha : SlI w C a) (hb : SlI w D b)
   (m1 : left.length ≤ 9223372036854775807) (m2 : right.length ≤ 9223372036854775807) (m3 : a.length ≤ 9223372036854775807) (m4 : b.length ≤ 9223372036854775807) :
    Calls Try.prog 44 #[.slice A left.length c1, .slice B right.length c2, .slice C a.length c3, .int .i64 ra, .slice D b.length c4, .int .i64 rb] w fun e w' => e = .returned (.bool true) ∧ Below w.heap.size w w' := by
  have HL := hide hl; have HR := hide hr; have HA := hide ha; have HB := hide hb
  clear hl hr ha hb
  go_enter Try.func44, Try.ntmps44
  go_wp2_with fail
  refine (excess_any left right a b ra rb A B C D c1 c2 c3 c4 _ HL.out HR.out HA.out HB.out m1 m2 m3 m4).mono ?_
  rintro e w1 ⟨rfl, hb1⟩
  rw [excR_form]
  have z1 := hb1.size
  have W1 := hide hb1; clear hb1
  generalize hx : excX left right a b ra rb = x
  generalize hf : excOk left right a b ra rb = f
  have HX := hide hx; have HF := hide hf
  clear hx hf
  go_wp2_with fail
  refine (excess_ref left right a b ra rb A B C D c1 c2 c3 c4 _ (HL.out.below W1.out) (HR.out.below W1.out) (HA.out.below W1.out) (HB.out.below W1.out) m1 m2 m3 m4).mono ?_
  rintro e w2 ⟨rfl, hb2⟩
  rw [excR_form, HX.out, HF.out]
  have z2 := hb2.size
  have W2 := hide (W1.out.trans (hb2.mono z1)); clear hb2
  go_wp2_with fail
  refine (overlaps_any left right a b ra rb A B C D c1 c2 c3 c4 _ (HL.out.below W2.out) (HR.out.below W2.out) (HA.out.below W2.out) (HB.out.below W2.out) m1 m2 m3 m4).mono ?_
  rintro e w3 ⟨rfl, hb3⟩
  have z3 := hb3.size
  have W3 := hide (W2.out.trans (hb3.mono (by omega))); clear hb3
  go_wp2_with fail
  refine (overlaps_ref left right a b ra rb A B C D c1 c2 c3 c4 _ (HL.out.below W3.out) (HR.out.below W3.out) (HA.out.below W3.out) (HB.out.below W3.out) m1 m2 m3 m4).mono ?_
  rintro e w4 ⟨rfl, hb4⟩
  have W4 := hide (W3.out.trans (hb4.mono (by omega))); clear hb4
  go_wp2_with fail
  go_ret
  exact ⟨by simp, W4.out⟩
end Go.Proofs.Ytionbckpgfaneaa
/- Walks, part l: points as boxes. -/
namespace Go.Proofs.Ytionbckpgfaneaa
open Go.RowKit
set_option maxHeartbeats 1000000
set_option maxRecDepth 100000
/-- armplanref1.Of -/
theorem of_any (x : Int) (w : World) :
    Calls Try.prog 119 #[.int .i64 x] w fun e w' => e = .returned (.agg #[.int .i64 (clampF x), .int .i64 (clampF x)]) ∧ Below w.heap.size w w' := by
  go_enter Try.func119, Try.ntmps119
  go_wp2_with (go_at_call 153; refine (clamp_any _ _).mono ?_; rintro e w' ⟨rfl, rfl⟩)
  go_returns
  exact ⟨rfl, by go_grown⟩
def ptI (v : V3) : IV := ⟨⟨clampF v.x, clampF v.x⟩, ⟨clampF v.y, clampF v.y⟩, ⟨clampF v.z, clampF v.z⟩⟩
/-- armplanref1.Point -/
theorem point_any (v : V3) (w : World) :
    Calls Try.prog 66 #[v.v] w fun e w' => e = .returned (ptI v).v ∧ Below w.heap.size w w' := by
  unfold V3.v
  obtain ⟨W, hW⟩ : ∃ W, W = (w.alloc (.cells #[.int .i64 v.x, .int .i64 v.y, .int .i64 v.z] 47)).alloc (.cells #[.int .i64 0, .int .i64 0, .int .i64 0, .int .i64 0, .int .i64 0, .int .i64 0] 44) := ⟨_, rfl⟩
  have hz : W.heap.size = w.heap.size + 2 := by rw [hW]; simp
  have hN : W.heap[w.heap.size]? = some (.cells #[.int .i64 v.x, .int .i64 v.y, .int .i64 v.z] 47 (0, 0)) := by rw [hW]; exact (Below.heap_alloc _ _ _ (by simp)).trans (heap_alloc_new w _)
  have hM : W.heap[w.heap.size + 1]? = some (.cells #[.int .i64 0, .int .i64 0, .int .i64 0, .int .i64 0, .int .i64 0, .int .i64 0] 44 (0, 0)) := by rw [hW]; exact new_at _ _ (by simp)
  have hB : Below w.heap.size w W := by rw [hW]; go_grown
  go_enter Try.func66, Try.ntmps66
  go_wp2_with fail
  rw [← hW]
  have c0 : W.cell? ⟨w.heap.size, 0, none⟩ = some (.int .i64 v.x) := (blk_cell hN 0).trans rfl
  have c1 : W.cell? ⟨w.heap.size, 1, none⟩ = some (.int .i64 v.y) := (blk_cell hN 1).trans rfl
  have c2 : W.cell? ⟨w.heap.size, 2, none⟩ = some (.int .i64 v.z) := (blk_cell hN 2).trans rfl
  have HN := hide hN; have HM := hide hM; have HB := hide hB; have HZ := hide hz
  have hz0 : w.heap.size < W.heap.size := by omega
  have hz1 : w.heap.size + 1 < W.heap.size := by omega
  clear hW hN hM hB hz
  go_region_held3 (fun w' => w'.cell? ⟨w.heap.size, 0, none⟩ = some (.int .i64 v.x) ∧ w'.cell? ⟨w.heap.size, 1, none⟩ = some (.int .i64 v.y) ∧ w'.cell? ⟨w.heap.size, 2, none⟩ = some (.int .i64 v.z))
    (first | go_keep | exact ⟨d0, d1, d2⟩)
    (first | (go_at_call 119; have _t := b6; (with_reducible refine (of_any _ _).mono ?_); rintro e w7 ⟨rfl, b7⟩; have d0 := (b7.cell (p := ⟨w.heap.size, 0, none⟩) y6).trans d0; have d1 := (b7.cell (p := ⟨w.heap.size, 1, none⟩) y6).trans d1; have d2 := (b7.cell (p := ⟨w.heap.size, 2, none⟩) y6).trans d2; have hm7 := (b7.block _ x6).trans ((b6.block _ x5).trans ((b5.block _ hz1).trans HM.out)); have m0 := blk_cell hm7; have m1 := blk_frozen hm7; clear hm7) | (go_at_call 119; have _t := b5; (with_reducible refine (of_any _ _).mono ?_); rintro e w6 ⟨rfl, b6⟩; have y6 : w.heap.size < w6.heap.size := Nat.lt_of_lt_of_le y5 b6.size; have x6 : w.heap.size + 1 < w6.heap.size := Nat.lt_of_lt_of_le x5 b6.size; have d0 := (b6.cell (p := ⟨w.heap.size, 0, none⟩) y5).trans d0; have d1 := (b6.cell (p := ⟨w.heap.size, 1, none⟩) y5).trans d1; have d2 := (b6.cell (p := ⟨w.heap.size, 2, none⟩) y5).trans d2) | (go_at_call 119; (with_reducible refine (of_any _ _).mono ?_); rintro e w5 ⟨rfl, b5⟩; have z5 : W.heap.size ≤ w5.heap.size := b5.size; have y5 : w.heap.size < w5.heap.size := Nat.lt_of_lt_of_le hz0 z5; have x5 : w.heap.size + 1 < w5.heap.size := Nat.lt_of_lt_of_le hz1 z5; have d0 := (b5.cell (p := ⟨w.heap.size, 0, none⟩) hz0).trans c0; have d1 := (b5.cell (p := ⟨w.heap.size, 1, none⟩) hz0).trans c1; have d2 := (b5.cell (p := ⟨w.heap.size, 2, none⟩) hz0).trans c2))
  have hb7 : Below w.heap.size w w7 := ((HB.out.drew.trans (b5.mono (Nat.le_of_lt hz0))).trans (b6.mono (Nat.le_of_lt y5))).trans (b7.mono (Nat.le_of_lt y6))
  have H7 := hide hb7
  clear hb7 b5 b6 b7
  go_wp2_with fail
  refine bodyPost_ret (v := (ptI v).v) (by simp [results, Try.results66, go_sem, m0, ptI, IV.v]) rfl ⟨rfl, ?_⟩
  exact (((((H7.out.setCell (by simp) _).setCell (by simp) _).setCell (by simp) _).setCell (by simp) _).setCell (by simp) _).setCell (by simp) _

/-- armplanmake.Boxed -/
def BoxedPost (l : List V3) (w : World) (e : Ending) (w' : World) : Prop := ∃ v, e = .returned v ∧ w'.ownsRow w.heap.size 44 6 v l.length ((l.map ptI).flatMap IV.cells) ∧ Below w.heap.size w w'
theorem boxed_any (A : Option Addr) (l : List V3) (c : Nat) (w : World) (hs : SlV w A l) (hm : l.length ≤ 1000000) :
    Calls Try.prog 84 #[.slice A l.length c] w (BoxedPost l w) := by
  have HS := hide hs
  obtain ⟨i0, hi0, hz0, hz1, hz2⟩ := info_parts info44
  clear hs
  go_enter Try.func84, Try.ntmps84
  go_wp2_with fail
  go_loopw [3, 4] (fun v i wr => ∃ k : Nat, k ≤ l.length ∧ i = .int .i64 k ∧ wr.ownsRow w.heap.size 44 6 v k (((l.take k).map ptI).flatMap IV.cells) ∧ Below w.heap.size w wr) (fun _ i _ => l.length - (intOf i).toNat)
  case atStart => exact ⟨0, by omega, rfl, World.ownsRow_nil _ _ _ _, Below.refl _ _⟩
  case round =>
    obtain ⟨k, hk, rfl, hown, hb⟩ := hrel
    have HO := hide hown; have HB := hide hb; have hz := hb.size
    clear hown hb
    by_cases hlt : k < l.length
    · obtain ⟨b, off, rfl, hbb⟩ := HS.out.addr (by omega)
      obtain ⟨h0, h1, h2⟩ := (HS.out.below HB.out).at_ hlt
      go_wp2_with fail
      refine (point_any l[k] _).mono ?_
      rintro e w1 ⟨rfl, hb1⟩
      unfold IV.v ptI
      have own1 := own_below HO.out hb1
      have B1 := hide (HB.out.trans (hb1.mono hz))
      have hz1w := hb1.size
      clear hb1
      go_wp2_with (at_builtin; refine wpList_append_own _ rfl _ _ 23 rfl w.heap.size 44 i0 _ 6 48 Try.underlying23 hi0 hz0 hz1 hz2 rfl (by decide) u3 k _ rfl (own1.alloc _) ⟨w1.heap.size, 0, none⟩ 1 1 (ptI l[k]).cells rfl rfl ?c1 ?c2 ?c3 ?c4 ?c5 ?_)
      case c1 => exact news_at (heap_alloc_new w1 _)
      case c2 => simp [Value.oneCell', IV.cells]
      case c3 => unfold maxLen; omega
      case c4 => omega
      case c5 => simp; omega
      intro v' w9 hown9 hg9 _
      have hb9 : Below w.heap.size w w9 := (B1.out.alloc (by omega) _).grown hg9 (by simp; omega) (fun g hg => (own1.lt g hg).1)
      clear hg9 own1
      go_wp2_with fail
      go_roundw
      case rel => exact ⟨k + 1, by omega, by simp, by rw [List.take_succ_eq_append_getElem hlt, List.map_append, List.flatMap_append]; simpa only [List.map_cons, List.map_nil, List.flatMap_cons, List.flatMap_nil, List.append_nil, List.map_take] using hown9, hb9⟩
      case measure => simp [intOf] <;> omega
    · obtain rfl : k = l.length := by omega
      have hO := HO.out
      rw [List.take_of_length_le (Nat.le_refl _)] at hO
      clear HO
      go_wp2_with fail
      go_ret
      exact ⟨_, rfl, hO, HB.out⟩
end Go.Proofs.Ytionbckpgfaneaa
/- Walks, part n: awake of the overlap statements. -/
namespace Go.Proofs.Ytionbckpgfaneaa
open Go.RowKit
set_option maxHeartbeats 1000000
set_option maxRecDepth 100000
theorem Sl.new (w : World) (cs : Array Value) (t : TypeId) : Sl (w.alloc (.cells cs t)) (some ⟨w.heap.size, 0, none⟩) cs.toList := fun _ =>
  ⟨w.heap.size, 0, rfl, by simp, fun j u hu => by
    rw [Nat.zero_add, blk_cell (heap_alloc_new w _) j]
    simpa using hu⟩
theorem Sl.at_new (w : World) (cs : Array Value) (t : TypeId) {k : Nat} (h : k = w.heap.size) : Sl (w.alloc (.cells cs t)) (some ⟨k, 0, none⟩) cs.toList := by rw [h]; exact Sl.new w cs t
theorem pt0 : ptI ⟨0, 0, 0⟩ = zeroIV := by kernel_rfl
/-- armplanlaw16.awake -/
theorem awake16 (w : World) : Calls Try.prog 43 #[] w fun e w' => e = .returned (.bool true) ∧ Below w.heap.size w w' := by
  go_enter Try.func43, Try.ntmps43
  go_wp2_with fail
  refine (boxed_any (some ⟨w.heap.size, 0, none⟩) [⟨0, 0, 0⟩] 1 _ (Sl.new w _ _) (by simp)).mono ?_
  rintro e w1 ⟨v, rfl, hown, hb1⟩
  have hown1 : w1.ownsRow w.heap.size 44 6 v 1 (([zeroIV] : List IV).flatMap IV.cells) := by
    rw [List.map_cons, pt0] at hown
    exact own_mono hown (by simp)
  obtain ⟨g, c, rfl, hg1, hg2, _, _⟩ := own_form hown1 (by omega)
  have hz1 : w.heap.size < w1.heap.size := by omega
  have s1 : SlI w1 (some ⟨g, 0, none⟩) [zeroIV] := own_sl hown1
  have B1 := hide (show Below w.heap.size w w1 from ((Below.refl _ _).alloc (Nat.le_refl _) _).trans (hb1.mono (by simp)))
  have S1 := hide s1
  clear hown hown1 hb1 s1
  go_wp2_with fail
  refine (excess_any [1] [1] [zeroIV] [⟨⟨3, 4⟩, ⟨0, 0⟩, ⟨0, 0⟩⟩] 3 1 (some ⟨w1.heap.size + 1, 0, none⟩) (some ⟨w1.heap.size + 1 + 1, 0, none⟩) (some ⟨g, 0, none⟩) (some ⟨w1.heap.size, 0, none⟩) 1 1 c 1 _ (Sl.alloc (Sl.at_new _ #[.int .i64 1] 2 (by simp)) _) (Sl.at_new _ #[.int .i64 1] 2 (by simp)) (Sl.alloc (Sl.alloc (Sl.alloc S1.out _) _) _) (Sl.alloc (Sl.alloc (Sl.new w1 _ 44) _) _) (by simp) (by simp) (by simp) (by simp)).mono ?_
  rintro e w2 ⟨rfl, hb2⟩
  rw [aw1]
  have hz2 : w1.heap.size < w2.heap.size := by have := hb2.size; simp at this; omega
  have S2 := hide (show SlI w2 (some ⟨g, 0, none⟩) [zeroIV] from Sl.below (Sl.alloc (Sl.alloc (Sl.alloc S1.out _) _) _) hb2)
  have T2 := hide (show SlI w2 (some ⟨w1.heap.size, 0, none⟩) [⟨⟨3, 4⟩, ⟨0, 0⟩, ⟨0, 0⟩⟩] from Sl.below (Sl.alloc (Sl.alloc (Sl.new w1 _ 44) _) _) hb2)
  have B2 := hide (show Below w.heap.size w w2 from (((B1.out.alloc (by omega) _).alloc (by simp; omega) _).alloc (by simp; omega) _).trans (hb2.mono (by simp; omega)))
  clear hb2 S1 B1
  go_wp2_with fail
  refine (excess_any [1] [1] [zeroIV] [⟨⟨3, 4⟩, ⟨0, 0⟩, ⟨0, 0⟩⟩] 3 0 (some ⟨w2.heap.size, 0, none⟩) (some ⟨w2.heap.size + 1, 0, none⟩) (some ⟨g, 0, none⟩) (some ⟨w1.heap.size, 0, none⟩) 1 1 c 1 _ (Sl.alloc (Sl.new w2 #[.int .i64 1] 2) _) (Sl.at_new _ #[.int .i64 1] 2 (by simp)) (Sl.alloc (Sl.alloc S2.out _) _) (Sl.alloc (Sl.alloc T2.out _) _) (by simp) (by simp) (by simp) (by simp)).mono ?_
  rintro e w3 ⟨rfl, hb3⟩
  rw [aw2]
  have hz3 : w2.heap.size < w3.heap.size := by have := hb3.size; simp at this; omega
  have S3 := hide (show SlI w3 (some ⟨g, 0, none⟩) [zeroIV] from Sl.below (Sl.alloc (Sl.alloc S2.out _) _) hb3)
  have T3 := hide (show SlI w3 (some ⟨w1.heap.size, 0, none⟩) [⟨⟨3, 4⟩, ⟨0, 0⟩, ⟨0, 0⟩⟩] from Sl.below (Sl.alloc (Sl.alloc T2.out _) _) hb3)
  have B3 := hide (show Below w.heap.size w w3 from ((B2.out.alloc (by omega) _).alloc (by simp; omega) _).trans (hb3.mono (by simp; omega)))
  clear hb3 S2 B2 T2
  go_wp2_with fail
  refine (overlaps_any [1] [1] [zeroIV] [⟨⟨3, 4⟩, ⟨0, 0⟩, ⟨0, 0⟩⟩] 3 1 (some ⟨w3.heap.size, 0, none⟩) (some ⟨w3.heap.size + 1, 0, none⟩) (some ⟨g, 0, none⟩) (some ⟨w1.heap.size, 0, none⟩) 1 1 c 1 _ (Sl.alloc (Sl.new w3 #[.int .i64 1] 2) _) (Sl.at_new _ #[.int .i64 1] 2 (by simp)) (Sl.alloc (Sl.alloc S3.out _) _) (Sl.alloc (Sl.alloc T3.out _) _) (by simp) (by simp) (by simp) (by simp)).mono ?_
  rintro e w4 ⟨rfl, hb4⟩
  rw [aw3]
  have B4 := hide (show Below w.heap.size w w4 from ((B3.out.alloc (by omega) _).alloc (by simp; omega) _).trans (hb4.mono (by simp; omega)))
  clear hb4
  go_wp2_with fail
  go_ret
  exact ⟨rfl, B4.out⟩
end Go.Proofs.Ytionbckpgfaneaa
/- Plain laws of the excess: what is made is in form; swapping, scaling, greater radii. -/
namespace Go.Proofs.Ytionbckpgfaneaa
open Go.RowKit
/-- a list of made points is placed -/
theorem placed_made {width : Int} (hw : width ≤ 3000) {l : List IV} (h1 : 1 ≤ l.length) (h5 : l.length ≤ 8) (h : ∀ p ∈ l, IVOk width p) : placedB l = true := by
  unfold placedB
  simp only [Bool.and_eq_true, decide_eq_true_eq, List.all_eq_true]
  refine ⟨⟨h1, h5⟩, fun p hp => ?_⟩
  obtain ⟨⟨a1, a2, a3, a4⟩, ⟨b1, b2, b3, b4⟩, c1, c2, c3, c4⟩ := h p hp
  simp [IV.ok, Iv.ok]
  omega
theorem comb_made {width : Int} (hw : width ≤ 3000) {l : List IV} {s : List Int} (h1 : 1 ≤ l.length) (h5 : l.length ≤ 8) (h : ∀ p ∈ l, IVOk width p) (hl : s.length = l.length) (h9 : ∀ x ∈ s, 0 ≤ x ∧ x ≤ 9009) (s1 : 1 ≤ s.sum) (s2 : s.sum ≤ 9000) : combOk l s = true :=
  combOk_yes (placed_made hw h1 h5 h) hl (wOk_yes s fun j hj => by have := h9 s[j] (by simp); omega) ⟨s1, by omega⟩
abbrev rad16 (p : Int) : Int := radOf 4 1 30000 200000 1048577 p
theorem rad16_bd (p : Int) : 0 ≤ rad16 p ∧ rad16 p ≤ 1048576 := by
  have := radOf_bd 4 1 30000 200000 1048577 p (by omega) (by omega) (by omega) (by omega) (by omega) (by omega) (by omega)
  unfold rad16
  omega
theorem radOk_of {r : Int} (h : 0 ≤ r ∧ r ≤ 1048576) : radOk r = true := by simp [radOk, h]
theorem combT_yes {l : List IV} {s : List Int} (h : combOk l s = true) : combT l s = s.sum := by simp [combT, h]
theorem combU_yes {l : List IV} {s : List Int} (h : combOk l s = true) : combU l s = comb l s := by simp [combU, h]
theorem excOk_yes {s t : List Int} {a b : List IV} {ra rb : Int} (h1 : combOk a s = true) (h2 : combOk b t = true) (h : s.sum = t.sum) (hr : 0 ≤ ra ∧ ra ≤ 1048576) (hq : 0 ≤ rb ∧ rb ≤ 1048576) : excOk s t a b ra rb = true := by
  simp [excOk, h1, h2, combT_yes h1, combT_yes h2, h, radOk_of hr, radOk_of hq]
theorem excX_yes {s t : List Int} {a b : List IV} {ra rb : Int} (h1 : combOk a s = true) (h2 : combOk b t = true) (h : s.sum = t.sum) (hr : 0 ≤ ra ∧ ra ≤ 1048576) (hq : 0 ≤ rb ∧ rb ≤ 1048576) : excX s t a b ra rb = exc (comb a s) (comb b t) s.sum (ra + rb) := by
  simp [excX, excOk_yes h1 h2 h hr hq, combU_yes h1, combU_yes h2, combT_yes h1]
theorem excR_made {s t : List Int} {a b : List IV} {ra rb : Int} (h1 : combOk a s = true) (h2 : combOk b t = true) (h : s.sum = t.sum) (hr : 0 ≤ ra ∧ ra ≤ 1048576) (hq : 0 ≤ rb ∧ rb ≤ 1048576) : excR s t a b ra rb = .tuple #[.int .i64 (exc (comb a s) (comb b t) s.sum (ra + rb)), .bool true] := by
  rw [excR_form, excX_yes h1 h2 h hr hq, excOk_yes h1 h2 h hr hq]
theorem ovl_made {s t : List Int} {a b : List IV} {ra rb : Int} (h1 : combOk a s = true) (h2 : combOk b t = true) (h : s.sum = t.sum) (hr : 0 ≤ ra ∧ ra ≤ 1048576) (hq : 0 ≤ rb ∧ rb ≤ 1048576) : ovl s t a b ra rb = decide (0 ≤ exc (comb a s) (comb b t) s.sum (ra + rb)) := by
  rw [ovl, excX_yes h1 h2 h hr hq, excOk_yes h1 h2 h hr hq, Bool.true_and]
theorem far1_swap (u v : Iv) (W : Int) : far1 u v W = far1 v u W := by
  unfold far1
  congr 1
  unfold absmax
  omega
theorem exc_swap (u v : IV) (W R : Int) : exc u v W R = exc v u W R := by
  unfold exc
  rw [far1_swap u.x, far1_swap u.y, far1_swap u.z]
/-- an overlap: each component's bound and the sum of squares -/
theorem exc_nn {u v : IV} {W R : Int} (h : 0 ≤ exc u v W R) : far1 u.x v.x W ≤ R ∧ far1 u.y v.y W ≤ R ∧ far1 u.z v.z W ≤ R ∧
    far1 u.x v.x W * far1 u.x v.x W + far1 u.y v.y W * far1 u.y v.y W + far1 u.z v.z W * far1 u.z v.z W ≤ R * R := by
  unfold exc at h
  split at h
  · omega
  · omega
theorem exc_of {u v : IV} {W R : Int} (h0 : far1 u.x v.x W ≤ R) (h1 : far1 u.y v.y W ≤ R) (h2 : far1 u.z v.z W ≤ R)
    (h : far1 u.x v.x W * far1 u.x v.x W + far1 u.y v.y W * far1 u.y v.y W + far1 u.z v.z W * far1 u.z v.z W ≤ R * R) : 0 ≤ exc u v W R := by
  unfold exc
  rw [if_neg (by omega)]
  omega
theorem sq_mono {a b : Int} (h0 : 0 ≤ a) (h : a ≤ b) : a * a ≤ b * b := Int.mul_le_mul h h h0 (by omega)
theorem exc_radius {u v : IV} {W R d : Int} (h0 : 0 ≤ R) (hd : 0 ≤ d) (h : 0 ≤ exc u v W R) : 0 ≤ exc u v W (R + d) := by
  obtain ⟨a, b, c, e⟩ := exc_nn h
  have := sq_mono (a := R) (b := R + d) h0 (by omega)
  exact exc_of (by omega) (by omega) (by omega) (by omega)
/-- a list of parts of boxes -/
def Iv.sub (a b : Iv) : Prop := b.lo ≤ a.lo ∧ a.hi ≤ b.hi
def IV.sub (a b : IV) : Prop := a.x.sub b.x ∧ a.y.sub b.y ∧ a.z.sub b.z
theorem ceilF_mono {x y W : Int} (hW : 1 ≤ W) (h : x ≤ y) : ceilF x W ≤ ceilF y W := by
  rw [← ceil_eq x W hW, ← ceil_eq y W hW]
  exact Int.ediv_le_ediv (by omega) (by omega)
theorem far1_mono {u v u' v' : Iv} {W : Int} (hW : 1 ≤ W) (hu : u'.sub u) (hv : v'.sub v) (hu' : u'.lo ≤ u'.hi) (hv' : v'.lo ≤ v'.hi) : far1 u' v' W ≤ far1 u v W := by
  unfold far1
  apply ceilF_mono hW
  unfold absmax
  unfold Iv.sub at hu hv
  omega
theorem exc_mono {u v u' v' : IV} {W R : Int} (hW : 1 ≤ W) (hu : u'.sub u) (hv : v'.sub v) (ou : u'.x.lo ≤ u'.x.hi ∧ u'.y.lo ≤ u'.y.hi ∧ u'.z.lo ≤ u'.z.hi) (ov : v'.x.lo ≤ v'.x.hi ∧ v'.y.lo ≤ v'.y.hi ∧ v'.z.lo ≤ v'.z.hi)
    (h : 0 ≤ exc u v W R) : 0 ≤ exc u' v' W R := by
  obtain ⟨a, b, c, e⟩ := exc_nn h
  have f0 := far1_mono hW hu.1 hv.1 ou.1 ov.1
  have f1 := far1_mono hW hu.2.1 hv.2.1 ou.2.1 ov.2.1
  have f2 := far1_mono hW hu.2.2 hv.2.2 ou.2.2 ov.2.2
  have g0 := sq_mono (far1_nn u'.x v'.x W hW) f0
  have g1 := sq_mono (far1_nn u'.y v'.y W hW) f1
  have g2 := sq_mono (far1_nn u'.z v'.z W hW) f2
  exact exc_of (by omega) (by omega) (by omega) (by omega)
theorem dotL_cons (w x : Int) (ws xs : List Int) : dotL (w :: ws) (x :: xs) = w * x + dotL ws xs := by simp [dotL]
theorem dotL_nil (xs : List Int) : dotL [] xs = 0 := by simp [dotL]
theorem dotL_nil' (xs : List Int) : dotL xs [] = 0 := by simp [dotL]
theorem dotL_mono (ws : List Int) (l m : List IV) (f g : IV → Int) (hw : ∀ x ∈ ws, 0 ≤ x) (hl : l.length = m.length) (h : ∀ j (hj : j < l.length) (hm : j < m.length), f l[j] ≤ g m[j]) : dotL ws (l.map f) ≤ dotL ws (m.map g) := by
  induction ws generalizing l m with
  | nil => simp [dotL]
  | cons w ws ih =>
    cases l with
    | nil => cases m with
      | nil => simp [dotL]
      | cons b m => simp at hl
    | cons a l => cases m with
      | nil => simp at hl
      | cons b m =>
        simp only [List.map_cons, dotL_cons]
        have i := ih l m (fun x hx => hw x (by simp [hx])) (by simpa using hl) (fun j hj hm => by have := h (j + 1) (by simp; omega) (by simp; omega); simpa using this)
        have h0 := h 0 (by simp) (by simp)
        have := Int.mul_le_mul_of_nonneg_left (show f a ≤ g b by simpa using h0) (hw w (by simp))
        omega
theorem comb_mono {ws : List Int} {l m : List IV} (hw : ∀ x ∈ ws, 0 ≤ x) (hl : l.length = m.length) (h : ∀ j (hj : j < l.length) (hm : j < m.length), (l[j]).sub m[j]) : (comb l ws).sub (comb m ws) := by
  refine ⟨⟨?_, ?_⟩, ⟨?_, ?_⟩, ⟨?_, ?_⟩⟩
  · exact dotL_mono ws m l _ _ hw hl.symm fun j h1 h2 => (h j h2 h1).1.1
  · exact dotL_mono ws l m _ _ hw hl fun j h1 h2 => (h j h1 h2).1.2
  · exact dotL_mono ws m l _ _ hw hl.symm fun j h1 h2 => (h j h2 h1).2.1.1
  · exact dotL_mono ws l m _ _ hw hl fun j h1 h2 => (h j h1 h2).2.1.2
  · exact dotL_mono ws m l _ _ hw hl.symm fun j h1 h2 => (h j h2 h1).2.2.1
  · exact dotL_mono ws l m _ _ hw hl fun j h1 h2 => (h j h1 h2).2.2.2
theorem comb_le {ws : List Int} {l : List IV} (hw : ∀ x ∈ ws, 0 ≤ x) (h : ∀ p ∈ l, p.x.lo ≤ p.x.hi ∧ p.y.lo ≤ p.y.hi ∧ p.z.lo ≤ p.z.hi) : (comb l ws).x.lo ≤ (comb l ws).x.hi ∧ (comb l ws).y.lo ≤ (comb l ws).y.hi ∧ (comb l ws).z.lo ≤ (comb l ws).z.hi := by
  refine ⟨dotL_mono ws l l _ _ hw rfl fun j h1 _ => (h l[j] (by simp)).1, dotL_mono ws l l _ _ hw rfl fun j h1 _ => (h l[j] (by simp)).2.1, dotL_mono ws l l _ _ hw rfl fun j h1 _ => (h l[j] (by simp)).2.2⟩
/-- scaling -/
theorem dotL_scale (f : Int) (ws xs : List Int) : dotL (ws.map (· * f)) xs = f * dotL ws xs := by
  induction ws generalizing xs with
  | nil => simp [dotL]
  | cons w ws ih => cases xs with
    | nil => simp [dotL]
    | cons x xs => rw [List.map_cons, dotL_cons, dotL_cons, ih, Int.mul_add, ← Int.mul_assoc, Int.mul_comm f w]
theorem sum_scale (f : Int) (ws : List Int) : (ws.map (· * f)).sum = f * ws.sum := by
  induction ws with
  | nil => simp
  | cons w ws ih => rw [List.map_cons, List.sum_cons, List.sum_cons, ih, Int.mul_add, Int.mul_comm f w]
theorem ceilF_scale {f x W : Int} (hf : 1 ≤ f) : ceilF (f * x) (f * W) = ceilF x W := by
  unfold ceilF
  rw [show -(f * x) = f * (-x) by rw [Int.mul_neg], Int.mul_ediv_mul_of_pos _ _ (by omega)]
theorem max_scale {f : Int} (hf : 1 ≤ f) (x y : Int) : max (f * x) (f * y) = f * max x y := by
  rcases Int.le_total x y with h | h
  · rw [Int.max_eq_right h, Int.max_eq_right (Int.mul_le_mul_of_nonneg_left h (by omega))]
  · rw [Int.max_eq_left h, Int.max_eq_left (Int.mul_le_mul_of_nonneg_left h (by omega))]
theorem far1_scale {f W : Int} (hf : 1 ≤ f) (a b c d : Int) : far1 ⟨f * a, f * b⟩ ⟨f * c, f * d⟩ (f * W) = far1 ⟨a, b⟩ ⟨c, d⟩ W := by
  unfold far1
  simp only
  rw [← ceilF_scale (x := absmax (a - d) (b - c)) (W := W) hf]
  congr 1
  unfold absmax
  rw [← Int.mul_sub, ← Int.mul_sub, ← Int.mul_neg, ← Int.mul_neg, max_scale hf, max_scale hf, max_scale hf]
theorem exc_scale {f : Int} (hf : 1 ≤ f) (a b : List IV) (s t : List Int) (W R : Int) : exc (comb a (s.map (· * f))) (comb b (t.map (· * f))) (f * W) R = exc (comb a s) (comb b t) W R := by
  have e : ∀ a (s : List Int), comb a (s.map (· * f)) = ⟨⟨f * (comb a s).x.lo, f * (comb a s).x.hi⟩, ⟨f * (comb a s).y.lo, f * (comb a s).y.hi⟩, ⟨f * (comb a s).z.lo, f * (comb a s).z.hi⟩⟩ := fun a s => by
    unfold comb
    simp only [dotL_scale]
  rw [e, e]
  unfold exc
  simp only [far1_scale hf]
end Go.Proofs.Ytionbckpgfaneaa
/- Plain laws of the overlap over chosen points: parts of boxes, corners, sums, a common point. -/
namespace Go.Proofs.Ytionbckpgfaneaa
open Go.RowKit
/-- a point of an interval, as an interval without width -/
def PtIn (a b : Iv) : Prop := a.lo = a.hi ∧ b.lo ≤ a.lo ∧ a.hi ≤ b.hi
def ChIn (a b : IV) : Prop := PtIn a.x b.x ∧ PtIn a.y b.y ∧ PtIn a.z b.z
/-- points that are chosen out of boxes -/
def ChosenOf (l m : List IV) : Prop := l.length = m.length ∧ ∀ j (h : j < l.length) (h' : j < m.length), ChIn l[j] m[j]
theorem ChIn.sub {a b : IV} (h : ChIn a b) : a.sub b := by
  obtain ⟨⟨_, h1, h2⟩, ⟨_, h3, h4⟩, _, h5, h6⟩ := h
  exact ⟨⟨h1, h2⟩, ⟨h3, h4⟩, ⟨h5, h6⟩⟩
theorem ChosenOf.mem {l m : List IV} (h : ChosenOf l m) {p : IV} (hp : p ∈ l) : ∃ q ∈ m, ChIn p q := by
  obtain ⟨j, hj, rfl⟩ := List.getElem_of_mem hp
  have hm : j < m.length := by rw [← h.1]; exact hj
  exact ⟨m[j], by simp, h.2 j hj hm⟩
theorem ChosenOf.le {l m : List IV} (h : ChosenOf l m) : ∀ p ∈ l, p.x.lo ≤ p.x.hi ∧ p.y.lo ≤ p.y.hi ∧ p.z.lo ≤ p.z.hi := fun p hp => by
  obtain ⟨q, _, ⟨e1, _, _⟩, ⟨e2, _, _⟩, e3, _, _⟩ := h.mem hp
  omega
theorem ChosenOf.placed {l m : List IV} (h : ChosenOf l m) (hm : placedB m = true) : placedB l = true := by
  obtain ⟨m1, m8, mo⟩ := placed_of hm
  unfold placedB
  simp only [Bool.and_eq_true, decide_eq_true_eq, List.all_eq_true]
  have hl := h.1
  refine ⟨⟨by omega, by omega⟩, fun p hp => ?_⟩
  obtain ⟨q, hq, c⟩ := h.mem hp
  obtain ⟨j, hj, rfl⟩ := List.getElem_of_mem hq
  have o := ok_of (mo j hj)
  obtain ⟨⟨e1, a1, b1⟩, ⟨e2, a2, b2⟩, e3, a3, b3⟩ := c
  exact ok_yes p (by omega) (by omega) (by omega)
theorem ChosenOf.combOk {l m : List IV} {s : List Int} (h : ChosenOf l m) (hm : combOk m s = true) : combOk l s = true := by
  obtain ⟨h1, h2, h3, h4⟩ := combOk_of hm
  exact combOk_yes (h.placed h1) (by rw [h2, h.1]) h3 h4
theorem ovl_chosen {s t : List Int} {a b a' b' : List IV} {ra rb : Int} (h1 : combOk a s = true) (h2 : combOk b t = true) (h : s.sum = t.sum) (hr : 0 ≤ ra ∧ ra ≤ 1048576) (hq : 0 ≤ rb ∧ rb ≤ 1048576)
    (ha : ChosenOf a' a) (hb : ChosenOf b' b) (hs : ∀ x ∈ s, 0 ≤ x) (ht : ∀ x ∈ t, 0 ≤ x) (ho : ovl s t a b ra rb = true) : 0 ≤ exc (comb a' s) (comb b' t) s.sum (ra + rb) := by
  rw [ovl_made h1 h2 h hr hq] at ho
  have hW := (combOk_of h1).2.2.2.1
  exact exc_mono hW (comb_mono hs ha.1 fun j x y => (ha.2 j x y).sub) (comb_mono ht hb.1 fun j x y => (hb.2 j x y).sub) (comb_le hs ha.le) (comb_le ht hb.le) (of_decide_eq_true ho)
theorem ovl_chosen_yes {s t : List Int} {a b a' b' : List IV} {ra rb : Int} (h1 : combOk a s = true) (h2 : combOk b t = true) (h : s.sum = t.sum) (hr : 0 ≤ ra ∧ ra ≤ 1048576) (hq : 0 ≤ rb ∧ rb ≤ 1048576)
    (ha : ChosenOf a' a) (hb : ChosenOf b' b) (hs : ∀ x ∈ s, 0 ≤ x) (ht : ∀ x ∈ t, 0 ≤ x) (ho : ovl s t a b ra rb = true) : ovl s t a' b' ra rb = true := by
  rw [ovl_made (ha.combOk h1) (hb.combOk h2) h hr hq]
  exact decide_eq_true (ovl_chosen h1 h2 h hr hq ha hb hs ht ho)
/-- the corners of boxes and their weighted sum -/
def cornerV (v : IV) : V3 := ⟨v.x.lo, v.y.lo, v.z.lo⟩
def sumV (l : List V3) (ws : List Int) : V3 := ⟨dotL ws (l.map (·.x)), dotL ws (l.map (·.y)), dotL ws (l.map (·.z))⟩
theorem sumV_corner (l : List IV) (ws : List Int) : sumV (l.map cornerV) ws = ⟨(comb l ws).x.lo, (comb l ws).y.lo, (comb l ws).z.lo⟩ := by
  simp [sumV, comb, List.map_map, cornerV, Function.comp_def]
theorem dotL_congr (ws : List Int) (l : List IV) (f g : IV → Int) (h : ∀ p ∈ l, f p = g p) : dotL ws (l.map f) = dotL ws (l.map g) := by
  rw [List.map_congr_left h]
theorem comb_point {l m : List IV} (h : ChosenOf l m) (ws : List Int) : (comb l ws).x.hi = (comb l ws).x.lo ∧ (comb l ws).y.hi = (comb l ws).y.lo ∧ (comb l ws).z.hi = (comb l ws).z.lo := by
  have e : ∀ p ∈ l, p.x.hi = p.x.lo ∧ p.y.hi = p.y.lo ∧ p.z.hi = p.z.lo := fun p hp => by
    obtain ⟨q, _, ⟨e1, _, _⟩, ⟨e2, _, _⟩, e3, _, _⟩ := h.mem hp
    omega
  exact ⟨dotL_congr ws l _ _ fun p hp => (e p hp).1, dotL_congr ws l _ _ fun p hp => (e p hp).2.1, dotL_congr ws l _ _ fun p hp => (e p hp).2.2⟩
theorem far1_point {x y : Iv} {W : Int} (h1 : x.hi = x.lo) (h2 : y.hi = y.lo) : far1 x y W = ceilF (max (x.lo - y.lo) (y.lo - x.lo)) W := by
  unfold far1 absmax
  rw [h1, h2]
  congr 1
  omega
/-- the sum of squares of OverlapSound -/
def dist1 (x y n : Int) : Int := ceilF (max (x - y) (y - x)) n
theorem sound_plain {s t : List Int} {a b a' b' : List IV} {ra rb : Int} (h1 : combOk a s = true) (h2 : combOk b t = true) (h : s.sum = t.sum) (hr : 0 ≤ ra ∧ ra ≤ 1048576) (hq : 0 ≤ rb ∧ rb ≤ 1048576)
    (ha : ChosenOf a' a) (hb : ChosenOf b' b) (hs : ∀ x ∈ s, 0 ≤ x) (ht : ∀ x ∈ t, 0 ≤ x) (ho : ovl s t a b ra rb = true) :
    let x := sumV (a'.map cornerV) s; let y := sumV (b'.map cornerV) t
    dist1 x.x y.x s.sum * dist1 x.x y.x s.sum + dist1 x.y y.y s.sum * dist1 x.y y.y s.sum + dist1 x.z y.z s.sum * dist1 x.z y.z s.sum ≤ (ra + rb) * (ra + rb) ∧
    dist1 x.x y.x s.sum ≤ ra + rb ∧ dist1 x.y y.y s.sum ≤ ra + rb ∧ dist1 x.z y.z s.sum ≤ ra + rb := by
  obtain ⟨f1, f2, f3, f4⟩ := exc_nn (ovl_chosen h1 h2 h hr hq ha hb hs ht ho)
  obtain ⟨u1, u2, u3⟩ := comb_point ha s
  obtain ⟨v1, v2, v3⟩ := comb_point hb t
  rw [far1_point u1 v1, far1_point u2 v2, far1_point u3 v3] at f4
  rw [far1_point u1 v1] at f1
  rw [far1_point u2 v2] at f2
  rw [far1_point u3 v3] at f3
  intro x y
  have hx : x = ⟨(comb a' s).x.lo, (comb a' s).y.lo, (comb a' s).z.lo⟩ := sumV_corner a' s
  have hy : y = ⟨(comb b' t).x.lo, (comb b' t).y.lo, (comb b' t).z.lo⟩ := sumV_corner b' t
  rw [hx, hy]
  exact ⟨f4, f1, f2, f3⟩
/-- one weight alone -/
def oneAt (n k : Nat) (c : Int) : List Int := (List.replicate n 0).set k c
theorem oneAt_len (n k : Nat) (c : Int) : (oneAt n k c).length = n := by simp [oneAt]
theorem oneAt_mem {n k : Nat} {c x : Int} (h : x ∈ oneAt n k c) : x = 0 ∨ x = c := by
  rcases List.mem_or_eq_of_mem_set h with h | h
  · left; exact (List.mem_replicate.1 h).2
  · right; exact h
theorem oneAt_sum {n k : Nat} {c : Int} (h : k < n) : (oneAt n k c).sum = c := by
  have e := sum_set (List.replicate n (0 : Int)) k (by simpa using h) c
  simp only [List.getElem_replicate, Int.zero_add] at e
  unfold oneAt
  rw [e]
  have : ∀ m : Nat, (List.replicate m (0 : Int)).sum = 0 := fun m => by
    induction m with
    | zero => rfl
    | succ m ih => simp [List.replicate_succ, ih]
  rw [this]; omega
theorem dotL_zero (n : Nat) (xs : List Int) : dotL (List.replicate n 0) xs = 0 := by
  induction n generalizing xs with
  | zero => simp [dotL]
  | succ n ih => cases xs with
    | nil => simp [dotL]
    | cons x xs => rw [List.replicate_succ, dotL_cons, ih]; simp
theorem dotL_one (n k : Nat) (c : Int) (xs : List Int) (h : k < n) (hx : k < xs.length) : dotL (oneAt n k c) xs = c * xs[k] := by
  unfold oneAt
  induction n generalizing k xs with
  | zero => omega
  | succ n ih => cases xs with
    | nil => simp at hx
    | cons x xs => cases k with
      | zero => rw [List.replicate_succ, List.set_cons_zero, dotL_cons, dotL_zero]; simp
      | succ k =>
        rw [List.replicate_succ, List.set_cons_succ, dotL_cons, ih k xs (by omega) (by simpa using hx)]
        simp
theorem comb_one (l : List IV) (n k : Nat) (c : Int) (h : k < n) (hl : k < l.length) : comb l (oneAt n k c) = ⟨⟨c * l[k].x.lo, c * l[k].x.hi⟩, ⟨c * l[k].y.lo, c * l[k].y.hi⟩, ⟨c * l[k].z.lo, c * l[k].z.hi⟩⟩ := by
  unfold comb
  rw [dotL_one n k c _ h (by simpa using hl), dotL_one n k c _ h (by simpa using hl), dotL_one n k c _ h (by simpa using hl), dotL_one n k c _ h (by simpa using hl), dotL_one n k c _ h (by simpa using hl), dotL_one n k c _ h (by simpa using hl)]
  simp
theorem far1_zero {x : Iv} {W : Int} (h : x.hi = x.lo) : far1 x x W = 0 := by
  rw [far1_point h h]
  unfold ceilF
  simp
theorem common_plain {a b : List IV} {k j : Nat} {c ra rb : Int} (ha : placedB a = true) (hb : placedB b = true) (hk : k < a.length) (hj : j < b.length) (e : b[j] = a[k]) (hp : a[k].x.hi = a[k].x.lo ∧ a[k].y.hi = a[k].y.lo ∧ a[k].z.hi = a[k].z.lo)
    (c1 : 1 ≤ c) (c2 : c ≤ 65536) (hr : 0 ≤ ra ∧ ra ≤ 1048576) (hq : 0 ≤ rb ∧ rb ≤ 1048576) : ovl (oneAt a.length k c) (oneAt b.length j c) a b ra rb = true := by
  have w : ∀ n k, wOk (oneAt n k c) = true := fun n k => wOk_yes _ fun i hi => by
    rcases oneAt_mem (List.getElem_mem hi) with h | h <;> omega
  have h1 : combOk a (oneAt a.length k c) = true := combOk_yes ha (oneAt_len _ _ _) (w _ _) (by rw [oneAt_sum hk]; omega)
  have h2 : combOk b (oneAt b.length j c) = true := combOk_yes hb (oneAt_len _ _ _) (w _ _) (by rw [oneAt_sum hj]; omega)
  rw [ovl_made h1 h2 (by rw [oneAt_sum hk, oneAt_sum hj]) hr hq, comb_one a _ k c hk hk, comb_one b _ j c hj hj, e]
  obtain ⟨e1, e2, e3⟩ := hp
  have f := Int.mul_nonneg (show 0 ≤ ra + rb by omega) (show 0 ≤ ra + rb by omega)
  refine decide_eq_true (exc_of ?_ ?_ ?_ ?_)
  · rw [far1_zero (by rw [e1])]; omega
  · rw [far1_zero (by rw [e2])]; omega
  · rw [far1_zero (by rw [e3])]; omega
  · rw [far1_zero (by rw [e1]), far1_zero (by rw [e2]), far1_zero (by rw [e3])]; omega
end Go.Proofs.Ytionbckpgfaneaa
/- Plain facts on normals, scalar products, roots, least and greatest values. -/
namespace Go.Proofs.Ytionbckpgfaneaa
open Go.RowKit
def zeroV : V3 := ⟨0, 0, 0⟩
def inR (v : V3) : Bool := decide ((-16384 ≤ v.x ∧ v.x ≤ 16384) ∧ (-16384 ≤ v.y ∧ v.y ≤ 16384) ∧ (-16384 ≤ v.z ∧ v.z ≤ 16384))
def isZ (v : V3) : Bool := decide (v.x = 0 ∧ v.y = 0 ∧ v.z = 0)
def usable (v : V3) : Bool := inR v && !isZ v
theorem inR_of {v : V3} (h : inR v = true) : (-16384 ≤ v.x ∧ v.x ≤ 16384) ∧ (-16384 ≤ v.y ∧ v.y ≤ 16384) ∧ (-16384 ≤ v.z ∧ v.z ≤ 16384) := of_decide_eq_true h
theorem isZ_of {v : V3} (h : isZ v = true) : v.x = 0 ∧ v.y = 0 ∧ v.z = 0 := of_decide_eq_true h
theorem isZ_not {v : V3} (h : isZ v = false) : ¬ (v.x = 0 ∧ v.y = 0 ∧ v.z = 0) := of_decide_eq_false h
theorem usable_of {v : V3} (h : usable v = true) : inR v = true ∧ isZ v = false := by simpa [usable] using h
/-- the scalar product of a normal with a box: least and greatest -/
def dlo (n : V3) (v : IV) : Int := min (n.x * v.x.lo) (n.x * v.x.hi) + min (n.y * v.y.lo) (n.y * v.y.hi) + min (n.z * v.z.lo) (n.z * v.z.hi)
def dhi (n : V3) (v : IV) : Int := max (n.x * v.x.lo) (n.x * v.x.hi) + max (n.y * v.y.lo) (n.y * v.y.hi) + max (n.z * v.z.lo) (n.z * v.z.hi)
def dotV (a b : V3) : Int := a.x * b.x + a.y * b.y + a.z * b.z
theorem mul_bd2 (a x A X : Int) (h0 : -A ≤ a) (h1 : a ≤ A) (h2 : -X ≤ x) (h3 : x ≤ X) : -(A * X) ≤ a * x ∧ a * x ≤ A * X := by
  rcases Int.le_total 0 a with h | h
  · exact mul_bd a x A X h h1 h2 h3
  · have := mul_bd (-a) x A X (by omega) (by omega) h2 h3
    rw [Int.neg_mul] at this
    omega
theorem dlo_bd {n : V3} {v : IV} (hn : inR n = true) (hv : v.ok = true) : -13194139533312 ≤ dlo n v ∧ dlo n v ≤ 13194139533312 := by
  obtain ⟨⟨a1, a2⟩, ⟨b1, b2⟩, c1, c2⟩ := inR_of hn
  obtain ⟨⟨d1, d2, d3⟩, ⟨e1, e2, e3⟩, f1, f2, f3⟩ := ok_of hv
  have g1 := mul_bd2 n.x v.x.lo 16384 268435456 a1 a2 (by omega) (by omega)
  have g2 := mul_bd2 n.x v.x.hi 16384 268435456 a1 a2 (by omega) (by omega)
  have g3 := mul_bd2 n.y v.y.lo 16384 268435456 b1 b2 (by omega) (by omega)
  have g4 := mul_bd2 n.y v.y.hi 16384 268435456 b1 b2 (by omega) (by omega)
  have g5 := mul_bd2 n.z v.z.lo 16384 268435456 c1 c2 (by omega) (by omega)
  have g6 := mul_bd2 n.z v.z.hi 16384 268435456 c1 c2 (by omega) (by omega)
  unfold dlo
  omega
theorem dhi_bd {n : V3} {v : IV} (hn : inR n = true) (hv : v.ok = true) : -13194139533312 ≤ dhi n v ∧ dhi n v ≤ 13194139533312 := by
  obtain ⟨⟨a1, a2⟩, ⟨b1, b2⟩, c1, c2⟩ := inR_of hn
  obtain ⟨⟨d1, d2, d3⟩, ⟨e1, e2, e3⟩, f1, f2, f3⟩ := ok_of hv
  have g1 := mul_bd2 n.x v.x.lo 16384 268435456 a1 a2 (by omega) (by omega)
  have g2 := mul_bd2 n.x v.x.hi 16384 268435456 a1 a2 (by omega) (by omega)
  have g3 := mul_bd2 n.y v.y.lo 16384 268435456 b1 b2 (by omega) (by omega)
  have g4 := mul_bd2 n.y v.y.hi 16384 268435456 b1 b2 (by omega) (by omega)
  have g5 := mul_bd2 n.z v.z.lo 16384 268435456 c1 c2 (by omega) (by omega)
  have g6 := mul_bd2 n.z v.z.hi 16384 268435456 c1 c2 (by omega) (by omega)
  unfold dhi
  omega
def negV (n : V3) : V3 := ⟨-n.x, -n.y, -n.z⟩
theorem dlo_neg (n : V3) (v : IV) : dlo (negV n) v = -dhi n v := by
  simp only [dlo, dhi, negV, Int.neg_mul]
  omega
theorem dhi_neg (n : V3) (v : IV) : dhi (negV n) v = -dlo n v := by
  simp only [dlo, dhi, negV, Int.neg_mul]
  omega
theorem usable_neg {n : V3} (h : usable n = true) : usable (negV n) = true := by
  obtain ⟨h1, h2⟩ := usable_of h
  have a := inR_of h1
  have b := isZ_not h2
  have c : inR (negV n) = true := decide_eq_true (by simp only [negV]; omega)
  have d : isZ (negV n) = false := decide_eq_false (by simp only [negV]; omega)
  simp [usable, c, d]
/-- between the ends of an interval a product lies between the products of the ends -/
theorem mul_between (n lo hi x : Int) (h1 : lo ≤ x) (h2 : x ≤ hi) : min (n * lo) (n * hi) ≤ n * x ∧ n * x ≤ max (n * lo) (n * hi) := by
  rcases Int.le_total 0 n with h | h
  · have a := Int.mul_le_mul_of_nonneg_left h1 h
    have b := Int.mul_le_mul_of_nonneg_left h2 h
    omega
  · have a := Int.mul_le_mul_of_nonneg_left h1 (show 0 ≤ -n by omega)
    have b := Int.mul_le_mul_of_nonneg_left h2 (show 0 ≤ -n by omega)
    rw [Int.neg_mul, Int.neg_mul] at a b
    omega
theorem dlo_le_dhi (n : V3) (v : IV) : dlo n v ≤ dhi n v := by
  unfold dlo dhi
  omega
theorem dot_between {n : V3} {v : IV} {x : V3} (h1 : v.x.lo ≤ x.x ∧ x.x ≤ v.x.hi) (h2 : v.y.lo ≤ x.y ∧ x.y ≤ v.y.hi) (h3 : v.z.lo ≤ x.z ∧ x.z ≤ v.z.hi) : dlo n v ≤ dotV n x ∧ dotV n x ≤ dhi n v := by
  have a := mul_between n.x _ _ _ h1.1 h1.2
  have b := mul_between n.y _ _ _ h2.1 h2.2
  have c := mul_between n.z _ _ _ h3.1 h3.2
  unfold dlo dhi dotV
  omega
/-- the first index with the least value -/
def amin (f : Nat → Int) : Nat → Nat
  | 0 => 0
  | k + 1 => if k = 0 then 0 else if f k < f (amin f k) then k else amin f k
theorem amin_one (f : Nat → Int) : amin f 1 = 0 := rfl
theorem amin_succ (f : Nat → Int) (k : Nat) (hk : 0 < k) : amin f (k + 1) = if f k < f (amin f k) then k else amin f k := by
  simp [amin, show k ≠ 0 by omega]
theorem amin_lt (f : Nat → Int) (k : Nat) (hk : 0 < k) : amin f k < k := by
  induction k with
  | zero => omega
  | succ k ih =>
    rcases Nat.eq_zero_or_pos k with h | h
    · subst h; simp [amin]
    · rw [amin_succ f k h]
      have := ih h
      split <;> omega
theorem amin_le (f : Nat → Int) (k : Nat) : ∀ i, i < k → f (amin f k) ≤ f i := by
  induction k with
  | zero => intro i hi; omega
  | succ k ih =>
    intro i hi
    rcases Nat.eq_zero_or_pos k with h | h
    · subst h
      obtain rfl : i = 0 := by omega
      simp [amin]
    · rw [amin_succ f k h]
      rcases Nat.lt_or_ge i k with hlt | hge
      · have := ih i hlt
        split <;> omega
      · obtain rfl : i = k := by omega
        split <;> omega
theorem amin_congr {f g : Nat → Int} (k : Nat) (h : ∀ i j, i < k → j < k → (f i < f j ↔ g i < g j)) : amin f k = amin g k := by
  induction k with
  | zero => rfl
  | succ k ih =>
    rcases Nat.eq_zero_or_pos k with h0 | h0
    · subst h0; rfl
    · rw [amin_succ f k h0, amin_succ g k h0, ih fun i j hi hj => h i j (by omega) (by omega)]
      have := amin_lt g k h0
      have e := h k (amin g k) (by omega) (by omega)
      by_cases hc : f k < f (amin g k)
      · rw [if_pos hc, if_pos (e.1 hc)]
      · rw [if_neg hc, if_neg (fun x => hc (e.2 x))]
def vlo (n : V3) (l : List IV) (i : Nat) : Int := dlo n (l.getD i zeroIV)
def vhi (n : V3) (l : List IV) (i : Nat) : Int := dhi n (l.getD i zeroIV)
def leastI (n : V3) (l : List IV) : Nat := amin (vlo n l) l.length
def leastV (n : V3) (l : List IV) : Int := vlo n l (leastI n l)
def greatI (n : V3) (l : List IV) : Nat := amin (fun i => -vhi n l i) l.length
def greatV (n : V3) (l : List IV) : Int := vhi n l (greatI n l)
def supOk (n : V3) (l : List IV) : Bool := usable n && placedB l
def supR (b : Bool) (v : Int) (i : Nat) : Value := if b then .tuple #[.int .i64 v, .int .i64 i, .bool true] else .tuple #[.int .i64 0, .int .i64 0, .bool false]
def leastR (n : V3) (l : List IV) : Value := supR (supOk n l) (leastV n l) (leastI n l)
def greatR (n : V3) (l : List IV) : Value := supR (supOk n l) (greatV n l) (greatI n l)
theorem vlo_at (n : V3) (l : List IV) (k : Nat) (h : k < l.length) : vlo n l k = dlo n l[k] := by simp [vlo, List.getD, List.getElem?_eq_getElem h]
theorem vhi_at (n : V3) (l : List IV) (k : Nat) (h : k < l.length) : vhi n l k = dhi n l[k] := by simp [vhi, List.getD, List.getElem?_eq_getElem h]
theorem leastI_lt (n : V3) {l : List IV} (h : 0 < l.length) : leastI n l < l.length := amin_lt _ _ h
theorem greatI_lt (n : V3) {l : List IV} (h : 0 < l.length) : greatI n l < l.length := amin_lt _ _ h
theorem leastV_le (n : V3) (l : List IV) (i : Nat) (h : i < l.length) : leastV n l ≤ dlo n l[i] := by
  have := amin_le (vlo n l) l.length i h
  rw [vlo_at n l i h] at this
  exact this
theorem greatV_ge (n : V3) (l : List IV) (i : Nat) (h : i < l.length) : dhi n l[i] ≤ greatV n l := by
  have := amin_le (fun i => -vhi n l i) l.length i h
  simp only [vhi_at n l i h] at this
  have e : greatV n l = vhi n l (amin (fun i => -vhi n l i) l.length) := rfl
  omega
theorem leastV_at (n : V3) {l : List IV} (h : 0 < l.length) : leastV n l = dlo n (l[leastI n l]'(leastI_lt n h)) := vlo_at n l _ _
theorem greatV_at (n : V3) {l : List IV} (h : 0 < l.length) : greatV n l = dhi n (l[greatI n l]'(greatI_lt n h)) := vhi_at n l _ _
theorem leastV_bd {n : V3} {l : List IV} (hn : usable n = true) (hl : placedB l = true) : -13194139533312 ≤ leastV n l ∧ leastV n l ≤ 13194139533312 := by
  obtain ⟨l1, _, lo⟩ := placed_of hl
  rw [leastV_at n (by omega)]
  exact dlo_bd (usable_of hn).1 (lo _ _)
theorem greatV_bd {n : V3} {l : List IV} (hn : usable n = true) (hl : placedB l = true) : -13194139533312 ≤ greatV n l ∧ greatV n l ≤ 13194139533312 := by
  obtain ⟨l1, _, lo⟩ := placed_of hl
  rw [greatV_at n (by omega)]
  exact dhi_bd (usable_of hn).1 (lo _ _)
/-- the root rounded up -/
def IsRootUp (n r : Int) : Prop := 0 ≤ r ∧ n ≤ r * r ∧ (0 < r → (r - 1) * (r - 1) < n)
theorem sq_le {a b : Int} (h0 : 0 ≤ a) (h : a ≤ b) : a * a ≤ b * b := Int.mul_le_mul h h h0 (by omega)
theorem IsRootUp.uniq {n r s : Int} (h : IsRootUp n r) (k : IsRootUp n s) : r = s := by
  obtain ⟨h1, h2, h3⟩ := h
  obtain ⟨k1, k2, k3⟩ := k
  rcases Int.lt_trichotomy r s with hlt | heq | hgt
  · have a := k3 (by omega)
    have b := sq_le h1 (show r ≤ s - 1 by omega)
    omega
  · exact heq
  · have a := h3 (by omega)
    have b := sq_le k1 (show s ≤ r - 1 by omega)
    omega
open Classical in
noncomputable def rootUp (n : Int) : Int := if h : ∃ r, IsRootUp n r then Classical.choose h else 0
theorem rootUp_eq {n r : Int} (h : IsRootUp n r) : rootUp n = r := by
  have hx : ∃ r, IsRootUp n r := ⟨r, h⟩
  unfold rootUp
  rw [dif_pos hx]
  exact (Classical.choose_spec hx).uniq h
theorem rootUp_ex (n : Int) : ∃ r, IsRootUp n r := by
  rcases Int.le_total n 0 with h | h
  · exact ⟨0, by omega, by omega, by omega⟩
  · obtain ⟨m, rfl⟩ : ∃ m : Nat, n = (m : Int) := ⟨n.toNat, by omega⟩
    induction m with
    | zero => exact ⟨0, by omega, by omega, by omega⟩
    | succ m ih =>
      obtain ⟨r, h1, h2, h3⟩ := ih (by omega)
      by_cases hc : ((m + 1 : Nat) : Int) ≤ r * r
      · exact ⟨r, h1, hc, fun h => by have := h3 h; omega⟩
      · refine ⟨r + 1, by omega, ?_, fun _ => ?_⟩
        · have : (r + 1) * (r + 1) = r * r + 2 * r + 1 := by rw [Int.add_mul, Int.mul_add]; omega
          omega
        · rw [show r + 1 - 1 = r by omega]; omega
theorem rootUp_spec (n : Int) : IsRootUp n (rootUp n) := by
  obtain ⟨r, h⟩ := rootUp_ex n
  rw [rootUp_eq h]
  exact h
def lenSq (n : V3) : Int := n.x * n.x + n.y * n.y + n.z * n.z
theorem sq_nn (a : Int) : 0 ≤ a * a := by
  rcases Int.le_total 0 a with h | h
  · exact Int.mul_nonneg h h
  · have := Int.mul_nonneg (show 0 ≤ -a by omega) (show 0 ≤ -a by omega)
    rw [Int.neg_mul, Int.mul_neg, Int.neg_neg] at this
    exact this
theorem sq_bd {a M : Int} (h1 : -M ≤ a) (h2 : a ≤ M) : a * a ≤ M * M := by
  rcases Int.le_total 0 a with h | h
  · exact sq_le h h2
  · have := sq_le (show 0 ≤ -a by omega) (show -a ≤ M by omega)
    rw [Int.neg_mul, Int.mul_neg, Int.neg_neg] at this
    exact this
theorem lenSq_bd {n : V3} (h : inR n = true) : 0 ≤ lenSq n ∧ lenSq n ≤ 805306368 := by
  obtain ⟨a, b, c⟩ := inR_of h
  have := sq_nn n.x; have := sq_nn n.y; have := sq_nn n.z
  have := sq_bd a.1 a.2; have := sq_bd b.1 b.2; have := sq_bd c.1 c.2
  unfold lenSq
  omega
theorem sq_pos {a : Int} (h : a ≠ 0) : 1 ≤ a * a := by
  rcases Int.lt_or_gt_of_ne h with h | h
  · have := sq_le (a := 1) (b := -a) (by omega) (by omega)
    rw [Int.neg_mul, Int.mul_neg, Int.neg_neg] at this
    omega
  · have := sq_le (a := 1) (b := a) (by omega) (by omega)
    omega
theorem lenSq_pos {n : V3} (h : isZ n = false) : 1 ≤ lenSq n := by
  have := sq_nn n.x; have := sq_nn n.y; have := sq_nn n.z
  have hz := isZ_not h
  unfold lenSq
  by_cases h1 : n.x = 0
  · by_cases h2 : n.y = 0
    · have := sq_pos (a := n.z) (fun h3 => hz ⟨h1, h2, h3⟩)
      omega
    · have := sq_pos h2
      omega
  · have := sq_pos h1
    omega
noncomputable def normF (n : V3) : Int := if usable n then rootUp (lenSq n) else 0
theorem rootUp_nn (n : Int) : 0 ≤ rootUp n := (rootUp_spec n).1
theorem rootUp_le {n M : Int} (hM : 0 ≤ M) (h : n ≤ M * M) : rootUp n ≤ M := by
  obtain ⟨h1, h2, h3⟩ := rootUp_spec n
  rcases Int.le_total (rootUp n) M with hle | hge
  · exact hle
  · rcases Int.lt_or_eq_of_le hge with hlt | heq
    · have a := h3 (by omega)
      have b := sq_le hM (show M ≤ rootUp n - 1 by omega)
      omega
    · omega
theorem normF_bd (n : V3) : 0 ≤ normF n ∧ normF n ≤ 32768 := by
  unfold normF
  split
  · rename_i h
    have := lenSq_bd (usable_of h).1
    exact ⟨rootUp_nn _, rootUp_le (by omega) (by omega)⟩
  · omega
theorem normF_spec {n : V3} (h : usable n = true) : IsRootUp (lenSq n) (normF n) := by
  unfold normF
  rw [if_pos h]
  exact rootUp_spec _
theorem normF_pos {n : V3} (h : usable n = true) : 1 ≤ normF n := by
  obtain ⟨h1, h2, h3⟩ := normF_spec h
  have := lenSq_pos (usable_of h).2
  rcases Int.lt_or_eq_of_le h1 with h | h
  · omega
  · rw [← h] at h2; omega
theorem lenSq_neg (n : V3) : lenSq (negV n) = lenSq n := by simp only [lenSq, negV, Int.neg_mul_neg]
theorem negV_negV (n : V3) : negV (negV n) = n := by simp [negV]
theorem usable_neg_iff (n : V3) : usable (negV n) = usable n := by
  cases h : usable n
  · cases h' : usable (negV n)
    · rfl
    · have := usable_neg h'
      rw [negV_negV, h] at this
      cases this
  · exact usable_neg h
theorem normF_neg (n : V3) : normF (negV n) = normF n := by
  unfold normF
  rw [usable_neg_iff, lenSq_neg]
/-- halving towards zero until the vector is in range -/
def halve (v : V3) : V3 := ⟨v.x.tdiv 2, v.y.tdiv 2, v.z.tdiv 2⟩
def nrm : Nat → V3 → V3
  | 0, v => v
  | k + 1, v => if inR v then v else nrm k (halve v)
def normalF (v : V3) : V3 := nrm 50 v
def Within (v : V3) (m : Int) : Prop := (-m ≤ v.x ∧ v.x ≤ m) ∧ (-m ≤ v.y ∧ v.y ≤ m) ∧ (-m ≤ v.z ∧ v.z ≤ m)
theorem tdiv2 (a : Int) : (0 ≤ a → a.tdiv 2 = a / 2) ∧ (a ≤ 0 → a.tdiv 2 = -((-a) / 2)) := by
  constructor
  · intro h; exact Int.tdiv_eq_ediv_of_nonneg h
  · intro h
    have : a.tdiv 2 = -((-a).tdiv 2) := by rw [Int.neg_tdiv, Int.neg_neg]
    rw [this, Int.tdiv_eq_ediv_of_nonneg (by omega)]
theorem tdiv2_bd {a m : Int} (h1 : -(2 * m) ≤ a) (h2 : a ≤ 2 * m) : -m ≤ a.tdiv 2 ∧ a.tdiv 2 ≤ m := by
  obtain ⟨p, q⟩ := tdiv2 a
  rcases Int.le_total 0 a with h | h
  · have := p h; omega
  · have := q h; omega
theorem halve_within {v : V3} {m : Int} (h : Within v (2 * m)) : Within (halve v) m := by
  obtain ⟨⟨a, b⟩, ⟨c, d⟩, e, f⟩ := h
  exact ⟨tdiv2_bd a b, tdiv2_bd c d, tdiv2_bd e f⟩
theorem nrm_in {v : V3} (h : inR v = true) (k : Nat) : nrm k v = v := by
  cases k with
  | zero => rfl
  | succ k => simp [nrm, h]
theorem nrm_not {v : V3} (h : inR v = false) (k : Nat) : nrm (k + 1) v = nrm k (halve v) := by simp [nrm, h]
theorem inR_within {v : V3} (h : Within v 16384) : inR v = true := decide_eq_true h
theorem nrm_inR (k : Nat) : ∀ v : V3, Within v (16384 * 2 ^ k) → inR (nrm k v) = true := by
  induction k with
  | zero => intro v h; exact inR_within (by simpa [nrm] using h)
  | succ k ih =>
    intro v h
    cases hv : inR v
    · rw [nrm_not hv]
      apply ih
      apply halve_within
      have : (2 : Int) * (16384 * 2 ^ k) = 16384 * 2 ^ (k + 1) := by rw [Int.pow_succ]; omega
      rw [this]
      exact h
    · rw [nrm_in hv]
      exact hv
theorem isZ_halve {v : V3} (h : inR v = false) : isZ (halve v) = false := by
  have hn := of_decide_eq_false h
  refine decide_eq_false fun hz => hn ?_
  obtain ⟨h1, h2, h3⟩ := hz
  simp only [halve] at h1 h2 h3
  have a := tdiv2 v.x; have b := tdiv2 v.y; have c := tdiv2 v.z
  have key : ∀ x : Int, x.tdiv 2 = 0 → (0 ≤ x → x.tdiv 2 = x / 2) ∧ (x ≤ 0 → x.tdiv 2 = -((-x) / 2)) → -16384 ≤ x ∧ x ≤ 16384 := fun x hx h => by
    rcases Int.le_total 0 x with h0 | h0
    · have := h.1 h0; omega
    · have := h.2 h0; omega
  exact ⟨key _ h1 a, key _ h2 b, key _ h3 c⟩
theorem nrm_isZ (k : Nat) : ∀ v : V3, isZ v = false → isZ (nrm k v) = false := by
  induction k with
  | zero => intro v h; exact h
  | succ k ih =>
    intro v h
    cases hv : inR v
    · rw [nrm_not hv]
      exact ih _ (isZ_halve hv)
    · rw [nrm_in hv]
      exact h
/-- the signs are kept -/
def SgnOk (n v : Int) : Prop := (0 < n → 0 < v) ∧ (n < 0 → v < 0)
theorem sgn_tdiv (a : Int) : SgnOk (a.tdiv 2) a := by
  obtain ⟨p, q⟩ := tdiv2 a
  constructor
  · intro h
    rcases Int.le_total 0 a with h0 | h0
    · have := p h0; omega
    · have := q h0; omega
  · intro h
    rcases Int.le_total 0 a with h0 | h0
    · have := p h0; omega
    · have := q h0; omega
theorem SgnOk.trans {a b c : Int} (h : SgnOk a b) (k : SgnOk b c) : SgnOk a c := ⟨fun x => k.1 (h.1 x), fun x => k.2 (h.2 x)⟩
theorem nrm_sgn (k : Nat) : ∀ v : V3, SgnOk (nrm k v).x v.x ∧ SgnOk (nrm k v).y v.y ∧ SgnOk (nrm k v).z v.z := by
  induction k with
  | zero => intro v; exact ⟨⟨id, id⟩, ⟨id, id⟩, ⟨id, id⟩⟩
  | succ k ih =>
    intro v
    cases hv : inR v
    · rw [nrm_not hv]
      obtain ⟨a, b, c⟩ := ih (halve v)
      exact ⟨a.trans (sgn_tdiv _), b.trans (sgn_tdiv _), c.trans (sgn_tdiv _)⟩
    · rw [nrm_in hv]
      exact ⟨⟨id, id⟩, ⟨id, id⟩, ⟨id, id⟩⟩
theorem within64 {v : V3} (h : v.ok64) : Within v (16384 * 2 ^ 50) := by
  obtain ⟨⟨a, b⟩, ⟨c, d⟩, e, f⟩ := h
  unfold Within
  omega
theorem normalF_inR {v : V3} (h : v.ok64) : inR (normalF v) = true := nrm_inR 50 v (within64 h)
theorem normalF_usable {v : V3} (h : v.ok64) (hz : isZ v = false) : usable (normalF v) = true := by
  have h1 := normalF_inR h
  have h2 := nrm_isZ 50 v hz
  rw [show nrm 50 v = normalF v from rfl] at h2
  simp [usable, h1, h2]
theorem normalF_in {v : V3} (h : inR v = true) : normalF v = v := nrm_in h 50
/-- one division by a power of two is a halving repeated -/
theorem tdiv_nn (a s : Int) (h : 0 ≤ a) (hs : 0 < s) : a.tdiv (s * 2) = (a.tdiv s).tdiv 2 := by
  rw [Int.tdiv_eq_ediv_of_nonneg h, Int.tdiv_eq_ediv_of_nonneg h, Int.tdiv_eq_ediv_of_nonneg (Int.ediv_nonneg h (by omega)), Int.ediv_ediv, if_neg (by omega), Int.sub_zero]
theorem tdiv_pow (a : Int) (j : Nat) : a.tdiv (2 ^ (j + 1)) = (a.tdiv (2 ^ j)).tdiv 2 := by
  rw [Int.pow_succ]
  have p : (0:Int) < 2 ^ j := Int.pow_pos (by omega)
  rcases Int.le_total 0 a with h | h
  · exact tdiv_nn a _ h p
  · have := tdiv_nn (-a) _ (by omega) p
    rw [Int.neg_tdiv, Int.neg_tdiv, Int.neg_tdiv] at this
    omega
def divV (v : V3) (s : Int) : V3 := ⟨v.x.tdiv s, v.y.tdiv s, v.z.tdiv s⟩
theorem divV_succ (v : V3) (j : Nat) : divV v (2 ^ (j + 1)) = halve (divV v (2 ^ j)) := by
  simp only [divV, halve, tdiv_pow]
theorem divV_zero (v : V3) : divV v (2 ^ 0) = v := by simp [divV]
/-- the search for the first power of two that suffices ends with the repeated halving -/
theorem divV_found (v : V3) (j : Nat) (hj : j ≤ 50) (hno : ∀ i, i < j → inR (divV v (2 ^ i)) = false) : nrm (50 - j) (divV v (2 ^ j)) = normalF v := by
  induction j with
  | zero => rw [divV_zero]; rfl
  | succ j ih =>
    rw [← ih (by omega) (fun i hi => hno i (by omega)), divV_succ]
    have := hno j (by omega)
    rw [show 50 - j = (50 - (j + 1)) + 1 by omega, nrm_not this]
theorem divV_in (v : V3) (h : v.ok64) (j : Nat) (hj : 50 ≤ j) : inR (divV v (2 ^ j)) = true := by
  have key : ∀ (j : Nat) (m : Int), Within v (m * 2 ^ j) → Within (divV v (2 ^ j)) m := by
    intro j
    induction j with
    | zero => intro m hm; rw [divV_zero]; simpa using hm
    | succ j ih =>
      intro m hm
      rw [divV_succ]
      apply halve_within
      apply ih
      have e : (2 : Int) * m * 2 ^ j = m * 2 ^ (j + 1) := by rw [Int.pow_succ, Int.mul_comm 2 m, Int.mul_assoc, Int.mul_comm 2]
      rw [e]
      exact hm
  obtain ⟨i, rfl⟩ : ∃ i, j = 50 + i := ⟨j - 50, by omega⟩
  induction i with
  | zero => exact inR_within (key 50 _ (within64 h))
  | succ i ih =>
    have := ih (by omega)
    rw [show 50 + (i + 1) = 50 + i + 1 by omega, divV_succ]
    obtain ⟨⟨a, b⟩, ⟨c, d⟩, e, f⟩ := inR_of this
    exact inR_within (halve_within ⟨⟨by omega, by omega⟩, ⟨by omega, by omega⟩, by omega, by omega⟩)
end Go.Proofs.Ytionbckpgfaneaa
/- Plain laws of least and greatest values, margins and separation. -/
namespace Go.Proofs.Ytionbckpgfaneaa
open Go.RowKit
theorem supOk_of {n : V3} {l : List IV} (h : supOk n l = true) : usable n = true ∧ placedB l = true := by simpa [supOk] using h
theorem supOk_yes {n : V3} {l : List IV} (h : usable n = true) (k : placedB l = true) : supOk n l = true := by simp [supOk, h, k]
theorem leastR_yes {n : V3} {l : List IV} (h : usable n = true) (k : placedB l = true) : leastR n l = .tuple #[.int .i64 (leastV n l), .int .i64 (leastI n l), .bool true] := by simp [leastR, supR, supOk, h, k]
theorem greatR_yes {n : V3} {l : List IV} (h : usable n = true) (k : placedB l = true) : greatR n l = .tuple #[.int .i64 (greatV n l), .int .i64 (greatI n l), .bool true] := by simp [greatR, supR, supOk, h, k]
theorem vlo_neg (n : V3) (l : List IV) : vlo (negV n) l = fun i => -vhi n l i := by funext i; exact dlo_neg n _
theorem vhi_neg (n : V3) (l : List IV) : vhi (negV n) l = fun i => -vlo n l i := by funext i; exact dhi_neg n _
theorem leastI_neg (n : V3) (l : List IV) : leastI (negV n) l = greatI n l := by unfold leastI greatI; rw [vlo_neg]
theorem leastV_neg (n : V3) (l : List IV) : leastV (negV n) l = -greatV n l := by unfold leastV greatV; rw [leastI_neg, vlo_neg]
theorem greatI_neg (n : V3) (l : List IV) : greatI (negV n) l = leastI n l := by
  have := leastI_neg (negV n) l
  rw [negV_negV] at this
  exact this.symm
theorem greatV_neg (n : V3) (l : List IV) : greatV (negV n) l = -leastV n l := by
  have := leastV_neg (negV n) l
  rw [negV_negV] at this
  omega
theorem chosen_dot {n : V3} {a b : IV} (h : ChIn a b) : dlo n b ≤ dlo n a ∧ dhi n a ≤ dhi n b ∧ dlo n a = dotV n (cornerV a) ∧ dhi n a = dotV n (cornerV a) := by
  obtain ⟨⟨e1, a1, b1⟩, ⟨e2, a2, b2⟩, e3, a3, b3⟩ := h
  have d := dot_between (n := n) (v := b) (x := cornerV a) (by simp only [cornerV]; omega) (by simp only [cornerV]; omega) (by simp only [cornerV]; omega)
  have l : dlo n a = dotV n (cornerV a) := by simp only [dlo, dotV, cornerV, ← e1, ← e2, ← e3]; omega
  have g : dhi n a = dotV n (cornerV a) := by simp only [dhi, dotV, cornerV, ← e1, ← e2, ← e3]; omega
  omega
theorem leastV_chosen (n : V3) {a b : List IV} (h : ChosenOf a b) (hb : 0 < b.length) : leastV n b ≤ leastV n a := by
  have ha : 0 < a.length := by rw [h.1]; exact hb
  have hi := leastI_lt n ha
  have hi' : leastI n a < b.length := by rw [← h.1]; exact hi
  rw [leastV_at n ha]
  have := leastV_le n b _ hi'
  have := (chosen_dot (n := n) (h.2 _ hi hi')).1
  omega
theorem greatV_chosen (n : V3) {a b : List IV} (h : ChosenOf a b) (hb : 0 < b.length) : greatV n a ≤ greatV n b := by
  have ha : 0 < a.length := by rw [h.1]; exact hb
  have hi := greatI_lt n ha
  have hi' : greatI n a < b.length := by rw [← h.1]; exact hi
  rw [greatV_at n ha]
  have := greatV_ge n b _ hi'
  have := (chosen_dot (n := n) (h.2 _ hi hi')).2.1
  omega
theorem leastV_le_greatV (n : V3) {l : List IV} (h : 0 < l.length) : leastV n l ≤ greatV n l := by
  have a := leastV_le n l 0 h
  have b := greatV_ge n l 0 h
  have := dlo_le_dhi n l[0]
  omega
/-- the weighted sum of the values of points -/
def valW (n : V3) (ws : List Int) (l : List IV) : Int := dotL ws (l.map fun p => dotV n (cornerV p))
theorem dotL_ge (ws : List Int) (xs : List Int) (m : Int) (hl : ws.length = xs.length) (hw : ∀ x ∈ ws, 0 ≤ x) (h : ∀ x ∈ xs, m ≤ x) : m * ws.sum ≤ dotL ws xs := by
  induction ws generalizing xs with
  | nil => simp [dotL]
  | cons w ws ih => cases xs with
    | nil => simp at hl
    | cons x xs =>
      have i := ih xs (by simpa using hl) (fun y hy => hw y (by simp [hy])) (fun y hy => h y (by simp [hy]))
      rw [dotL_cons, List.sum_cons, Int.mul_add]
      have := Int.mul_le_mul_of_nonneg_left (h x (by simp)) (hw w (by simp))
      rw [Int.mul_comm w m] at this
      omega
theorem dotL_le (ws : List Int) (xs : List Int) (m : Int) (hl : ws.length = xs.length) (hw : ∀ x ∈ ws, 0 ≤ x) (h : ∀ x ∈ xs, x ≤ m) : dotL ws xs ≤ m * ws.sum := by
  induction ws generalizing xs with
  | nil => simp [dotL]
  | cons w ws ih => cases xs with
    | nil => simp at hl
    | cons x xs =>
      have i := ih xs (by simpa using hl) (fun y hy => hw y (by simp [hy])) (fun y hy => h y (by simp [hy]))
      rw [dotL_cons, List.sum_cons, Int.mul_add]
      have := Int.mul_le_mul_of_nonneg_left (h x (by simp)) (hw w (by simp))
      rw [Int.mul_comm w m] at this
      omega
theorem valW_between (n : V3) {a b : List IV} {ws : List Int} (h : ChosenOf a b) (hl : ws.length = b.length) (hw : ∀ x ∈ ws, 0 ≤ x) : leastV n b * ws.sum ≤ valW n ws a ∧ valW n ws a ≤ greatV n b * ws.sum := by
  have hal := h.1
  have key : ∀ p ∈ a, leastV n b ≤ dotV n (cornerV p) ∧ dotV n (cornerV p) ≤ greatV n b := fun p hp => by
    obtain ⟨j, hj, rfl⟩ := List.getElem_of_mem hp
    have hj' : j < b.length := by omega
    obtain ⟨c1, c2, c3, c4⟩ := chosen_dot (n := n) (h.2 j hj hj')
    have := leastV_le n b j hj'
    have := greatV_ge n b j hj'
    omega
  constructor
  · apply dotL_ge ws _ _ (by simp; omega) hw
    intro x hx
    obtain ⟨p, hp, rfl⟩ := List.mem_map.1 hx
    exact (key p hp).1
  · apply dotL_le ws _ _ (by simp; omega) hw
    intro x hx
    obtain ⟨p, hp, rfl⟩ := List.mem_map.1 hx
    exact (key p hp).2
/-- moved boxes -/
def addIV (v : IV) (t : V3) : IV := ⟨⟨v.x.lo + t.x, v.x.hi + t.x⟩, ⟨v.y.lo + t.y, v.y.hi + t.y⟩, ⟨v.z.lo + t.z, v.z.hi + t.z⟩⟩
theorem dlo_add (n : V3) (v : IV) (t : V3) : dlo n (addIV v t) = dlo n v + dotV n t := by
  simp only [dlo, addIV, dotV, Int.mul_add]
  omega
theorem dhi_add (n : V3) (v : IV) (t : V3) : dhi n (addIV v t) = dhi n v + dotV n t := by
  simp only [dhi, addIV, dotV, Int.mul_add]
  omega
theorem vlo_add (n : V3) (l : List IV) (t : V3) (i : Nat) (h : i < l.length) : vlo n (l.map (addIV · t)) i = vlo n l i + dotV n t := by
  rw [vlo_at n l i h, vlo_at n _ i (by simpa using h), List.getElem_map, dlo_add]
theorem vhi_add (n : V3) (l : List IV) (t : V3) (i : Nat) (h : i < l.length) : vhi n (l.map (addIV · t)) i = vhi n l i + dotV n t := by
  rw [vhi_at n l i h, vhi_at n _ i (by simpa using h), List.getElem_map, dhi_add]
theorem leastI_add (n : V3) (l : List IV) (t : V3) : leastI n (l.map (addIV · t)) = leastI n l := by
  unfold leastI
  rw [List.length_map]
  refine amin_congr _ fun i j hi hj => ?_
  rw [vlo_add n l t i hi, vlo_add n l t j hj]
  omega
theorem greatI_add (n : V3) (l : List IV) (t : V3) : greatI n (l.map (addIV · t)) = greatI n l := by
  unfold greatI
  rw [List.length_map]
  refine amin_congr _ fun i j hi hj => ?_
  rw [vhi_add n l t i hi, vhi_add n l t j hj]
  omega
theorem leastV_add (n : V3) {l : List IV} (t : V3) (h : 0 < l.length) : leastV n (l.map (addIV · t)) = leastV n l + dotV n t := by
  unfold leastV
  rw [leastI_add, vlo_add n l t _ (leastI_lt n h)]
theorem greatV_add (n : V3) {l : List IV} (t : V3) (h : 0 < l.length) : greatV n (l.map (addIV · t)) = greatV n l + dotV n t := by
  unfold greatV
  rw [greatI_add, vhi_add n l t _ (greatI_lt n h)]
/-- the margin -/
def margOk (n : V3) (a : List IV) (ra : Int) (b : List IV) (rb : Int) : Bool := usable n && placedB a && placedB b && radOk ra && radOk rb
noncomputable def margX (n : V3) (a : List IV) (ra : Int) (b : List IV) (rb : Int) : Int := leastV n a - greatV n b - normF n * (ra + rb)
noncomputable def margV (n : V3) (a : List IV) (ra : Int) (b : List IV) (rb : Int) : Int := if margOk n a ra b rb then margX n a ra b rb else 0
noncomputable def sepB (n : V3) (a : List IV) (ra : Int) (b : List IV) (rb : Int) : Bool := margOk n a ra b rb && decide (0 < margV n a ra b rb)
theorem margOk_of {n : V3} {a b : List IV} {ra rb : Int} (h : margOk n a ra b rb = true) : usable n = true ∧ placedB a = true ∧ placedB b = true ∧ (0 ≤ ra ∧ ra ≤ 1048576) ∧ (0 ≤ rb ∧ rb ≤ 1048576) := by
  simp [margOk, radOk] at h
  exact ⟨h.1.1.1.1, h.1.1.1.2, h.1.1.2, h.1.2, h.2⟩
theorem margOk_yes {n : V3} {a b : List IV} {ra rb : Int} (h1 : usable n = true) (h2 : placedB a = true) (h3 : placedB b = true) (h4 : 0 ≤ ra ∧ ra ≤ 1048576) (h5 : 0 ≤ rb ∧ rb ≤ 1048576) : margOk n a ra b rb = true := by
  simp [margOk, radOk, h1, h2, h3, h4, h5]
theorem margV_yes {n : V3} {a b : List IV} {ra rb : Int} (h : margOk n a ra b rb = true) : margV n a ra b rb = margX n a ra b rb := by simp [margV, h]
theorem sepB_yes {n : V3} {a b : List IV} {ra rb : Int} (h : margOk n a ra b rb = true) : sepB n a ra b rb = decide (0 < margX n a ra b rb) := by simp [sepB, h, margV]
theorem marg_flip (n : V3) (a : List IV) (ra : Int) (b : List IV) (rb : Int) : margX (negV n) b rb a ra = margX n a ra b rb := by
  unfold margX
  rw [leastV_neg, greatV_neg, normF_neg, Int.add_comm rb ra]
  omega
theorem marg_chosen (n : V3) {a b a' b' : List IV} (ra rb : Int) (ha : ChosenOf a' a) (hb : ChosenOf b' b) (la : 0 < a.length) (lb : 0 < b.length) : margX n a ra b rb ≤ margX n a' ra b' rb := by
  have := leastV_chosen n ha la
  have := greatV_chosen n hb lb
  unfold margX
  omega
theorem marg_add (n : V3) {a b : List IV} (ra rb : Int) (t : V3) (la : 0 < a.length) (lb : 0 < b.length) : margX n (a.map (addIV · t)) ra (b.map (addIV · t)) rb = margX n a ra b rb := by
  unfold margX
  rw [leastV_add n t la, greatV_add n t lb]
  omega
theorem marg_radius (n : V3) (a b : List IV) (ra rb d : Int) : margX n a ra b rb - margX n a (ra + d) b rb = normF n * d := by
  unfold margX
  have e : normF n * (ra + d + rb) = normF n * (ra + rb) + normF n * d := by rw [← Int.mul_add]; congr 1; omega
  rw [e]
  omega
theorem marg_bd {n : V3} {a b : List IV} {ra rb : Int} (h : margOk n a ra b rb = true) : -100000000000000 ≤ margX n a ra b rb ∧ margX n a ra b rb ≤ 100000000000000 := by
  obtain ⟨h1, h2, h3, h4, h5⟩ := margOk_of h
  have := leastV_bd h1 h2
  have := greatV_bd h1 h3
  have k := normF_bd n
  have := mul_bd (normF n) (ra + rb) 32768 2097152 k.1 k.2 (by omega) (by omega)
  unfold margX
  omega
theorem marg_never (n : V3) {a b : List IV} {ra rb : Int} (hr : 0 ≤ ra) (hq : 0 ≤ rb) {k j : Nat} (hk : k < a.length) (hj : j < b.length) (e : b[j] = a[k]) : margX n a ra b rb ≤ 0 := by
  have h1 := leastV_le n a k hk
  have h2 := greatV_ge n b j hj
  rw [e] at h2
  have h3 := dlo_le_dhi n a[k]
  have := Int.mul_nonneg (normF_bd n).1 (show 0 ≤ ra + rb by omega)
  unfold margX
  omega
theorem marg_sound (n : V3) {a b c d : List IV} {s t : List Int} (ra rb : Int) (hc : ChosenOf c a) (hd : ChosenOf d b) (ls : s.length = a.length) (lt : t.length = b.length) (hs : ∀ x ∈ s, 0 ≤ x) (ht : ∀ x ∈ t, 0 ≤ x) :
    (margX n a ra b rb + normF n * (ra + rb)) * s.sum * t.sum ≤ valW n s c * t.sum - valW n t d * s.sum := by
  have e : margX n a ra b rb + normF n * (ra + rb) = leastV n a - greatV n b := by unfold margX; omega
  rw [e]
  have h1 := (valW_between n hc ls hs).1
  have h2 := (valW_between n hd lt ht).2
  have s0 := sum_nonneg s hs
  have t0 := sum_nonneg t ht
  have g1 := Int.mul_le_mul_of_nonneg_right h1 t0
  have g2 := Int.mul_le_mul_of_nonneg_right h2 s0
  rw [Int.sub_mul, Int.sub_mul]
  rw [Int.mul_assoc (greatV n b), Int.mul_comm t.sum] at g2
  rw [Int.mul_assoc (greatV n b)]
  omega
/-- Cauchy and Schwarz -/
theorem cauchy (a b c x y z : Int) : (a * x + b * y + c * z) * (a * x + b * y + c * z) ≤ (a * a + b * b + c * c) * (x * x + y * y + z * z) := by
  have e : (a * x + b * y + c * z) * (a * x + b * y + c * z) + ((a * y - b * x) * (a * y - b * x) + (a * z - c * x) * (a * z - c * x) + (b * z - c * y) * (b * z - c * y)) = (a * a + b * b + c * c) * (x * x + y * y + z * z) := by grind
  have := sq_nn (a * y - b * x)
  have := sq_nn (a * z - c * x)
  have := sq_nn (b * z - c * y)
  omega
theorem le_of_sq {a b : Int} (hb : 0 ≤ b) (h : a * a ≤ b * b) : a ≤ b := by
  rcases Int.le_total a b with h1 | h1
  · exact h1
  · rcases Int.lt_or_eq_of_le h1 with h2 | h2
    · have := sq_le (show 0 ≤ b + 1 by omega) (show b + 1 ≤ a by omega)
      have e : (b + 1) * (b + 1) = b * b + 2 * b + 1 := by grind
      omega
    · omega
/-- the product with a difference is bounded by the absolute values -/
theorem mul_abs (n d m W : Int) (h1 : -(m * W) ≤ d) (h2 : d ≤ m * W) : n * d ≤ max n (-n) * m * W := by
  rcases Int.le_total 0 n with h | h
  · rw [Int.max_eq_left (by omega), Int.mul_assoc]
    exact Int.mul_le_mul_of_nonneg_left h2 h
  · rw [Int.max_eq_right (by omega), Int.mul_assoc]
    have := Int.mul_le_mul_of_nonneg_left (show -d ≤ m * W by omega) (show 0 ≤ -n by omega)
    rw [Int.neg_mul_neg] at this
    exact this
theorem ceilF_ge (x W : Int) (hW : 1 ≤ W) : x ≤ ceilF x W * W := by
  unfold ceilF
  have := Int.ediv_mul_le (-x) (b := W) (by omega)
  rw [Int.neg_mul]
  omega
theorem far1_ge {u v : Iv} {W : Int} (hW : 1 ≤ W) {x y : Int} (hx : u.lo ≤ x ∧ x ≤ u.hi) (hy : v.lo ≤ y ∧ y ≤ v.hi) : -(far1 u v W * W) ≤ x - y ∧ x - y ≤ far1 u v W * W := by
  have := ceilF_ge (absmax (u.lo - v.hi) (u.hi - v.lo)) W hW
  unfold far1
  unfold absmax at *
  omega
theorem abs_sq (n : Int) : max n (-n) * max n (-n) = n * n := by
  rcases Int.le_total 0 n with h | h
  · rw [Int.max_eq_left (by omega)]
  · rw [Int.max_eq_right (by omega), Int.neg_mul_neg]
theorem dotL_lin (ws : List Int) (l : List IV) (a b c : Int) (f g h : IV → Int) : dotL ws (l.map fun p => a * f p + b * g p + c * h p) = a * dotL ws (l.map f) + b * dotL ws (l.map g) + c * dotL ws (l.map h) := by
  induction ws generalizing l with
  | nil => simp [dotL]
  | cons w ws ih => cases l with
    | nil => simp [dotL]
    | cons p l =>
      simp only [List.map_cons, dotL_cons, ih]
      grind
theorem valW_dot (n : V3) (ws : List Int) (l : List IV) : valW n ws l = dotV n (sumV (l.map cornerV) ws) := by
  unfold valW
  rw [sumV_corner]
  simp only [dotV, cornerV, comb]
  exact dotL_lin ws l _ _ _ _ _ _
theorem valW_boxes (n : V3) {l : List IV} {ws : List Int} (hp : placedB l = true) (hl : ws.length = l.length) (hw : ∀ x ∈ ws, 0 ≤ x) : leastV n l * ws.sum ≤ valW n ws l ∧ valW n ws l ≤ greatV n l * ws.sum := by
  obtain ⟨l1, _, lo⟩ := placed_of hp
  have key : ∀ p ∈ l, leastV n l ≤ dotV n (cornerV p) ∧ dotV n (cornerV p) ≤ greatV n l := fun p hp => by
    obtain ⟨j, hj, rfl⟩ := List.getElem_of_mem hp
    have o := ok_of (lo j hj)
    have d := dot_between (n := n) (v := l[j]) (x := cornerV l[j]) (by simp only [cornerV]; omega) (by simp only [cornerV]; omega) (by simp only [cornerV]; omega)
    have := leastV_le n l j hj
    have := greatV_ge n l j hj
    omega
  constructor
  · apply dotL_ge ws _ _ (by simp; omega) hw
    intro x hx
    obtain ⟨p, hp, rfl⟩ := List.mem_map.1 hx
    exact (key p hp).1
  · apply dotL_le ws _ _ (by simp; omega) hw
    intro x hx
    obtain ⟨p, hp, rfl⟩ := List.mem_map.1 hx
    exact (key p hp).2
theorem comb_corner_in {l : List IV} {ws : List Int} (hp : placedB l = true) (hw : ∀ x ∈ ws, 0 ≤ x) : (comb l ws).x.lo ≤ (comb l ws).x.hi ∧ (comb l ws).y.lo ≤ (comb l ws).y.hi ∧ (comb l ws).z.lo ≤ (comb l ws).z.hi := by
  obtain ⟨_, _, lo⟩ := placed_of hp
  refine comb_le hw fun p hp => ?_
  obtain ⟨j, hj, rfl⟩ := List.getElem_of_mem hp
  have := ok_of (lo j hj)
  omega
/-- an overlap excludes a separating normal -/
theorem excludes_plain {n : V3} {s t : List Int} {a b : List IV} {ra rb : Int} (h1 : combOk a s = true) (h2 : combOk b t = true) (h : s.sum = t.sum) (hn : usable n = true) (hr : 0 ≤ ra ∧ ra ≤ 1048576) (hq : 0 ≤ rb ∧ rb ≤ 1048576)
    (ho : ovl s t a b ra rb = true) : sepB n a ra b rb = false := by
  obtain ⟨pa, la, wa, sa, _⟩ := combOk_of h1
  obtain ⟨pb, lb, wb, _, _⟩ := combOk_of h2
  have hs : ∀ x ∈ s, 0 ≤ x := fun x hx => (wOk_of wa x hx).1
  have ht : ∀ x ∈ t, 0 ≤ x := fun x hx => (wOk_of wb x hx).1
  rw [sepB_yes (margOk_yes hn pa pb hr hq)]
  rw [ovl_made h1 h2 h hr hq] at ho
  obtain ⟨f1, f2, f3, f4⟩ := exc_nn (of_decide_eq_true ho)
  have va := (valW_boxes n pa la hs).1
  have vb := (valW_boxes n pb lb ht).2
  rw [← h] at vb
  rw [valW_dot, sumV_corner] at va vb
  have ca := comb_corner_in pa hs
  have cb := comb_corner_in pb ht
  obtain ⟨W, hW⟩ : ∃ W, W = s.sum := ⟨_, rfl⟩
  rw [← hW] at va vb f1 f2 f3 f4 sa
  obtain ⟨u, hu⟩ : ∃ u, u = comb a s := ⟨_, rfl⟩
  obtain ⟨v, hv⟩ : ∃ v, v = comb b t := ⟨_, rfl⟩
  rw [← hu] at va f1 f2 f3 f4 ca
  rw [← hv] at vb f1 f2 f3 f4 cb
  have g1 := far1_ge (u := u.x) (v := v.x) (W := W) sa (x := u.x.lo) (y := v.x.lo) (by omega) (by omega)
  have g2 := far1_ge (u := u.y) (v := v.y) (W := W) sa (x := u.y.lo) (y := v.y.lo) (by omega) (by omega)
  have g3 := far1_ge (u := u.z) (v := v.z) (W := W) sa (x := u.z.lo) (y := v.z.lo) (by omega) (by omega)
  have m1 := mul_abs n.x (u.x.lo - v.x.lo) _ W g1.1 g1.2
  have m2 := mul_abs n.y (u.y.lo - v.y.lo) _ W g2.1 g2.2
  have m3 := mul_abs n.z (u.z.lo - v.z.lo) _ W g3.1 g3.2
  obtain ⟨D, hD⟩ : ∃ D, D = max n.x (-n.x) * far1 u.x v.x W + max n.y (-n.y) * far1 u.y v.y W + max n.z (-n.z) * far1 u.z v.z W := ⟨_, rfl⟩
  have hle : (leastV n a - greatV n b) * W ≤ D * W := by
    simp only [dotV] at va vb
    rw [hD, Int.sub_mul, Int.add_mul, Int.add_mul]
    rw [Int.mul_sub] at m1 m2 m3
    omega
  have hle2 : leastV n a - greatV n b ≤ D := Int.le_of_mul_le_mul_right hle (by omega)
  have c := cauchy (max n.x (-n.x)) (max n.y (-n.y)) (max n.z (-n.z)) (far1 u.x v.x W) (far1 u.y v.y W) (far1 u.z v.z W)
  rw [← hD, abs_sq, abs_sq, abs_sq] at c
  have sp := normF_spec hn
  have nb := normF_bd n
  have l0 := lenSq_bd (usable_of hn).1
  have q1 : lenSq n * (far1 u.x v.x W * far1 u.x v.x W + far1 u.y v.y W * far1 u.y v.y W + far1 u.z v.z W * far1 u.z v.z W) ≤ lenSq n * ((ra + rb) * (ra + rb)) := Int.mul_le_mul_of_nonneg_left f4 l0.1
  have q2 : lenSq n * ((ra + rb) * (ra + rb)) ≤ (normF n * normF n) * ((ra + rb) * (ra + rb)) := Int.mul_le_mul_of_nonneg_right sp.2.1 (sq_nn _)
  have q3 : (normF n * normF n) * ((ra + rb) * (ra + rb)) = (normF n * (ra + rb)) * (normF n * (ra + rb)) := by grind
  have c' : D * D ≤ lenSq n * (far1 u.x v.x W * far1 u.x v.x W + far1 u.y v.y W * far1 u.y v.y W + far1 u.z v.z W * far1 u.z v.z W) := c
  have hD2 : D ≤ normF n * (ra + rb) := le_of_sq (Int.mul_nonneg nb.1 (by omega)) (by omega)
  refine decide_eq_false ?_
  unfold margX
  omega
end Go.Proofs.Ytionbckpgfaneaa
/- The search for nearest points as a plain machine, and its laws. -/
namespace Go.Proofs.Ytionbckpgfaneaa
open Go.RowKit
def subV (a b : V3) : V3 := ⟨a.x - b.x, a.y - b.y, a.z - b.z⟩
def dgo (n : V3) (l : List V3) (i : Nat) : Int := dotV n (l.getD i zeroV)
def exLo (n : V3) (l : List V3) : Nat := amin (dgo n l) l.length
def exHi (n : V3) (l : List V3) : Nat := amin (fun i => -dgo n l i) l.length
def partF (x s : V3) : Int := if dotV x (subV x s) ≤ 0 then 0 else min 256 (dotV x (subV x s) / max 1 (dotV (subV x s) (subV x s) / 256))
def up16 (z : Int) : Int := ceilF (max z (-z)) 65536
def closeF (w : V3) (rho : Int) : Bool := decide (up16 w.x * up16 w.x + up16 w.y * up16 w.y + up16 w.z * up16 w.z ≤ rho * rho)
def lostL (L : List Int) (t : Int) : Int := (L.map fun x => x * t / 256).sum
def keptL (L : List Int) (t : Int) : List Int := L.map fun x => x - x * t / 256
def movedL (L : List Int) (t : Int) (i : Nat) : List Int := (keptL L t).set i ((keptL L t).getD i 0 + lostL L t)
structure Nst where
  N : V3
  L : List Int
  R : List Int
  k : Nat
/-- the difference of the weighted sums -/
def wOf (a b : List V3) (s : Nst) : V3 := subV (sumV a s.L) (sumV b s.R)
def xOf (a b : List V3) (s : Nst) : V3 := divV (wOf a b s) 65536
def nOf (a b : List V3) (s : Nst) : V3 := normalF (xOf a b s)
def tOf (a b : List V3) (s : Nst) : Int := partF (xOf a b s) (subV (a.getD (exLo (nOf a b s) a) zeroV) (b.getD (exHi (nOf a b s) b) zeroV))
noncomputable def apartB (a b : List V3) (rho : Int) (s : Nst) : Bool := decide (normF (nOf a b s) * rho < dgo (nOf a b s) a (exLo (nOf a b s) a) - dgo (nOf a b s) b (exHi (nOf a b s) b))
def atN (a b : List V3) (s : Nst) : Nst := ⟨nOf a b s, s.L, s.R, s.k⟩
def nextN (a b : List V3) (s : Nst) : Nst := ⟨nOf a b s, movedL s.L (tOf a b s) (exLo (nOf a b s) a), movedL s.R (tOf a b s) (exHi (nOf a b s) b), s.k + 1⟩
/-- the rounds -/
noncomputable def runN (a b : List V3) (rho : Int) (steps : Nat) : Nat → Nst → Int × Nst
  | 0, s => (0, s)
  | f + 1, s =>
    if closeF (wOf a b s) rho then (2, s)
    else if isZ (xOf a b s) then (0, atN a b s)
    else if apartB a b rho s then (1, atN a b s)
    else if s.k = steps then (0, atN a b s)
    else if tOf a b s = 0 then (0, atN a b s)
    else runN a b rho steps f (nextN a b s)
section
variable {a b : List V3} {rho : Int} {steps f : Nat} {s : Nst}
theorem runN_close (h : closeF (wOf a b s) rho = true) : runN a b rho steps (f + 1) s = (2, s) := by simp [runN, h]
theorem runN_zero (h : closeF (wOf a b s) rho = false) (h1 : isZ (xOf a b s) = true) : runN a b rho steps (f + 1) s = (0, atN a b s) := by simp [runN, h, h1]
theorem runN_apart (h : closeF (wOf a b s) rho = false) (h1 : isZ (xOf a b s) = false) (h2 : apartB a b rho s = true) : runN a b rho steps (f + 1) s = (1, atN a b s) := by simp [runN, h, h1, h2]
theorem runN_stop (h : closeF (wOf a b s) rho = false) (h1 : isZ (xOf a b s) = false) (h2 : apartB a b rho s = false) (h3 : s.k = steps ∨ tOf a b s = 0) : runN a b rho steps (f + 1) s = (0, atN a b s) := by
  rcases h3 with h3 | h3 <;> simp [runN, h, h1, h2, h3]
theorem runN_next (h : closeF (wOf a b s) rho = false) (h1 : isZ (xOf a b s) = false) (h2 : apartB a b rho s = false) (h3 : s.k ≠ steps) (h4 : tOf a b s ≠ 0) : runN a b rho steps (f + 1) s = runN a b rho steps f (nextN a b s) := by simp [runN, h, h1, h2, h3, h4]
/-- the ways of a round -/
theorem run_cases (a b : List V3) (rho : Int) (steps : Nat) (s : Nst) : (closeF (wOf a b s) rho = true) ∨ (closeF (wOf a b s) rho = false ∧ isZ (xOf a b s) = true) ∨ (closeF (wOf a b s) rho = false ∧ isZ (xOf a b s) = false ∧ apartB a b rho s = true) ∨
    (closeF (wOf a b s) rho = false ∧ isZ (xOf a b s) = false ∧ apartB a b rho s = false ∧ (s.k = steps ∨ tOf a b s = 0)) ∨ (closeF (wOf a b s) rho = false ∧ isZ (xOf a b s) = false ∧ apartB a b rho s = false ∧ s.k ≠ steps ∧ tOf a b s ≠ 0) := by
  cases closeF (wOf a b s) rho
  · cases isZ (xOf a b s)
    · cases apartB a b rho s
      · by_cases h3 : s.k = steps
        · exact .inr (.inr (.inr (.inl ⟨rfl, rfl, rfl, .inl h3⟩)))
        · by_cases h4 : tOf a b s = 0
          · exact .inr (.inr (.inr (.inl ⟨rfl, rfl, rfl, .inr h4⟩)))
          · exact .inr (.inr (.inr (.inr ⟨rfl, rfl, rfl, h3, h4⟩)))
      · exact .inr (.inr (.inl ⟨rfl, rfl, rfl⟩))
    · exact .inr (.inl ⟨rfl, rfl⟩)
  · exact .inl rfl
end
/-- weights: not negative, with the sum 65536 -/
def WI (L : List Int) (n : Nat) : Prop := L.length = n ∧ (∀ x ∈ L, 0 ≤ x) ∧ L.sum = 65536
theorem WI.one {n : Nat} (h : 0 < n) : WI (oneAt n 0 65536) n := ⟨oneAt_len _ _ _, fun x hx => by rcases oneAt_mem hx with h | h <;> omega, oneAt_sum h⟩
theorem part_bd {x t : Int} (h0 : 0 ≤ x) (t0 : 0 ≤ t) (t1 : t ≤ 256) : 0 ≤ x * t / 256 ∧ x * t / 256 ≤ x := by
  have a := Int.mul_nonneg h0 t0
  have b := Int.mul_le_mul_of_nonneg_left t1 h0
  omega
theorem kept_lost (L : List Int) (t : Int) : (keptL L t).sum + lostL L t = L.sum := by
  unfold keptL lostL
  induction L with
  | nil => simp
  | cons x L ih => simp only [List.map_cons, List.sum_cons]; omega
theorem moved_len (L : List Int) (t : Int) (i : Nat) : (movedL L t i).length = L.length := by simp [movedL, keptL]
theorem kept_len (L : List Int) (t : Int) : (keptL L t).length = L.length := by simp [keptL]
theorem WI.moved {L : List Int} {n : Nat} (h : WI L n) {t : Int} (t0 : 0 ≤ t) (t1 : t ≤ 256) {i : Nat} (hi : i < n) : WI (movedL L t i) n := by
  obtain ⟨h1, h2, h3⟩ := h
  have lost0 : 0 ≤ lostL L t := sum_nonneg _ fun y hy => by
    obtain ⟨x, hx, rfl⟩ := List.mem_map.1 hy
    exact (part_bd (h2 x hx) t0 t1).1
  have kept0 : ∀ y ∈ keptL L t, 0 ≤ y := fun y hy => by
    obtain ⟨x, hx, rfl⟩ := List.mem_map.1 hy
    have := part_bd (h2 x hx) t0 t1
    omega
  have hk : i < (keptL L t).length := by rw [kept_len]; omega
  have e : (keptL L t).getD i 0 = (keptL L t)[i] := by simp [List.getD, List.getElem?_eq_getElem hk]
  refine ⟨by rw [moved_len, h1], fun y hy => ?_, ?_⟩
  · unfold movedL at hy
    rcases List.mem_or_eq_of_mem_set hy with h | h
    · exact kept0 y h
    · rw [h, e]
      have := kept0 (keptL L t)[i] (by simp)
      omega
  · unfold movedL
    rw [e, sum_set _ i hk, kept_lost, h3]
theorem partF_bd (x s : V3) : 0 ≤ partF x s ∧ partF x s ≤ 256 := by
  unfold partF
  split
  · omega
  · rename_i h
    have : 0 ≤ dotV x (subV x s) / max 1 (dotV (subV x s) (subV x s) / 256) := Int.ediv_nonneg (by omega) (by omega)
    omega
theorem exLo_lt (n : V3) {l : List V3} (h : 0 < l.length) : exLo n l < l.length := amin_lt _ _ h
theorem exHi_lt (n : V3) {l : List V3} (h : 0 < l.length) : exHi n l < l.length := amin_lt _ _ h
/-- what the rounds keep -/
def NI (a b : List V3) (steps : Nat) (s : Nst) : Prop := WI s.L a.length ∧ WI s.R b.length ∧ s.k ≤ steps
theorem NI.atN {a b : List V3} {steps : Nat} {s : Nst} (h : NI a b steps s) : NI a b steps (atN a b s) := h
theorem NI.next {a b : List V3} {steps : Nat} {s : Nst} (h : NI a b steps s) (ha : 0 < a.length) (hb : 0 < b.length) (hk : s.k ≠ steps) : NI a b steps (nextN a b s) := by
  obtain ⟨h1, h2, h3⟩ := h
  have t := partF_bd (xOf a b s) (subV (a.getD (exLo (nOf a b s) a) zeroV) (b.getD (exHi (nOf a b s) b) zeroV))
  exact ⟨h1.moved t.1 t.2 (exLo_lt _ ha), h2.moved t.1 t.2 (exHi_lt _ hb), by simp only [nextN]; omega⟩
def startN (a b : List V3) : Nst := ⟨zeroV, oneAt a.length 0 65536, oneAt b.length 0 65536, 0⟩
theorem NI.start {a b : List V3} (steps : Nat) (ha : 0 < a.length) (hb : 0 < b.length) : NI a b steps (startN a b) := ⟨WI.one ha, WI.one hb, Nat.zero_le _⟩
noncomputable def searchN (a b : List V3) (rho : Int) (steps : Nat) : Int × Nst := runN a b rho steps 65 (startN a b)
theorem run_keeps {a b : List V3} {rho : Int} {steps : Nat} (ha : 0 < a.length) (hb : 0 < b.length) (P : Int × Nst → Prop)
    (h0 : ∀ s, NI a b steps s → P (0, s)) (h1 : ∀ s, NI a b steps s → isZ (xOf a b s) = false → apartB a b rho s = true → P (1, atN a b s)) (h2 : ∀ s, NI a b steps s → closeF (wOf a b s) rho = true → P (2, s)) :
    ∀ f s, NI a b steps s → P (runN a b rho steps f s) := by
  intro f
  induction f with
  | zero => intro s hs; exact h0 s hs
  | succ f ih =>
    intro s hs
    rcases run_cases a b rho steps s with c | ⟨c, d⟩ | ⟨c, d, e⟩ | ⟨c, d, e, g⟩ | ⟨c, d, e, g, i⟩
    · rw [runN_close c]; exact h2 s hs c
    · rw [runN_zero c d]; exact h0 _ hs.atN
    · rw [runN_apart c d e]; exact h1 s hs d e
    · rw [runN_stop c d e g]; exact h0 _ hs.atN
    · rw [runN_next c d e g i]; exact ih _ (hs.next ha hb g)
theorem search_keeps {a b : List V3} {rho : Int} {steps : Nat} (ha : 0 < a.length) (hb : 0 < b.length) :
    (0 ≤ (searchN a b rho steps).1 ∧ (searchN a b rho steps).1 ≤ 2) ∧ NI a b steps (searchN a b rho steps).2 :=
  run_keeps ha hb (fun r => (0 ≤ r.1 ∧ r.1 ≤ 2) ∧ NI a b steps r.2) (fun _ h => ⟨⟨by omega, by omega⟩, h⟩) (fun _ h _ _ => ⟨⟨by simp only; omega, by simp only; omega⟩, h.atN⟩) (fun _ h _ => ⟨⟨by simp only; omega, by simp only; omega⟩, h⟩) 65 _ (NI.start steps ha hb)
/-- a decided search: what it shows -/
theorem search_decides {a b : List V3} {rho : Int} {steps : Nat} (ha : 0 < a.length) (hb : 0 < b.length) :
    ((searchN a b rho steps).1 = 1 → ∃ s, isZ (xOf a b s) = false ∧ NI a b steps s ∧ apartB a b rho s = true ∧ (searchN a b rho steps).2.N = nOf a b s) ∧
    ((searchN a b rho steps).1 = 2 → closeF (wOf a b (searchN a b rho steps).2) rho = true) :=
  run_keeps ha hb (fun r => (r.1 = 1 → ∃ s, isZ (xOf a b s) = false ∧ NI a b steps s ∧ apartB a b rho s = true ∧ r.2.N = nOf a b s) ∧ (r.1 = 2 → closeF (wOf a b r.2) rho = true))
    (fun _ _ => ⟨fun h => by simp at h, fun h => by simp at h⟩) (fun s h d e => ⟨fun _ => ⟨s, d, h, e, rfl⟩, fun h => by simp at h⟩) (fun _ _ c => ⟨fun h => by simp at h, fun _ => c⟩) 65 _ (NI.start steps ha hb)
/-- more steps -/
theorem run_k {a b : List V3} {rho : Int} {steps : Nat} : ∀ f s, s.k ≤ (runN a b rho steps f s).2.k := by
  intro f
  induction f with
  | zero => intro s; exact Nat.le_refl _
  | succ f ih =>
    intro s
    rcases run_cases a b rho steps s with c | ⟨c, d⟩ | ⟨c, d, e⟩ | ⟨c, d, e, g⟩ | ⟨c, d, e, g, i⟩
    · rw [runN_close c]; exact Nat.le_refl _
    · rw [runN_zero c d]; exact Nat.le_refl _
    · rw [runN_apart c d e]; exact Nat.le_refl _
    · rw [runN_stop c d e g]; exact Nat.le_refl _
    · rw [runN_next c d e g i]
      have := ih (nextN a b s)
      simp only [nextN] at this ⊢
      omega
theorem run_more {a b : List V3} {rho : Int} {m1 m2 : Nat} (h : m1 ≤ m2) : ∀ f s, s.k ≤ m1 → ((runN a b rho m1 f s).1 ≠ 0 → runN a b rho m1 f s = runN a b rho m2 f s) ∧ (runN a b rho m1 f s).2.k ≤ (runN a b rho m2 f s).2.k := by
  intro f
  induction f with
  | zero => intro s _; exact ⟨fun _ => rfl, Nat.le_refl _⟩
  | succ f ih =>
    intro s hs
    rcases run_cases a b rho m1 s with c | ⟨c, d⟩ | ⟨c, d, e⟩ | ⟨c, d, e, g⟩ | ⟨c, d, e, g, i⟩
    · rw [runN_close c, runN_close c]; exact ⟨fun _ => rfl, Nat.le_refl _⟩
    · rw [runN_zero c d, runN_zero c d]; exact ⟨fun _ => rfl, Nat.le_refl _⟩
    · rw [runN_apart c d e, runN_apart c d e]; exact ⟨fun _ => rfl, Nat.le_refl _⟩
    · rw [runN_stop c d e g]
      exact ⟨fun h => absurd rfl h, run_k (rho := rho) (steps := m2) (f + 1) s⟩
    · rw [runN_next c d e g i, runN_next c d e (by omega) i]
      exact ih _ (by simp only [nextN]; omega)
theorem search_more {a b : List V3} {rho : Int} {m1 m2 : Nat} (h : m1 ≤ m2) : ((searchN a b rho m1).1 ≠ 0 → searchN a b rho m1 = searchN a b rho m2) ∧ (searchN a b rho m1).2.k ≤ (searchN a b rho m2).2.k :=
  run_more h 65 _ (Nat.zero_le _)
/-- a common point excludes Apart -/
theorem dgo_lo (n : V3) (l : List V3) (i : Nat) (h : i < l.length) : dgo n l (exLo n l) ≤ dgo n l i := amin_le _ _ i h
theorem dgo_hi (n : V3) (l : List V3) (i : Nat) (h : i < l.length) : dgo n l i ≤ dgo n l (exHi n l) := by
  have := amin_le (fun i => -dgo n l i) l.length i h
  have e : exHi n l = amin (fun i => -dgo n l i) l.length := rfl
  rw [e]
  omega
theorem apart_common {a b : List V3} {rho : Int} (hr : 0 ≤ rho) {i j : Nat} (hi : i < a.length) (hj : j < b.length) (e : a[i] = b[j]) (s : Nst) : apartB a b rho s = false := by
  refine decide_eq_false ?_
  have h1 := dgo_lo (nOf a b s) a i hi
  have h2 := dgo_hi (nOf a b s) b j hj
  have e1 : dgo (nOf a b s) a i = dgo (nOf a b s) b j := by
    unfold dgo
    simp [List.getD, List.getElem?_eq_getElem hi, List.getElem?_eq_getElem hj, e]
  have := Int.mul_nonneg (normF_bd (nOf a b s)).1 hr
  omega
theorem search_common {a b : List V3} {rho : Int} {steps : Nat} (hr : 0 ≤ rho) {i j : Nat} (hi : i < a.length) (hj : j < b.length) (e : a[i] = b[j]) : (searchN a b rho steps).1 ≠ 1 := by
  intro h
  obtain ⟨s, _, _, h2, _⟩ := (search_decides (rho := rho) (steps := steps) (show 0 < a.length by omega) (show 0 < b.length by omega)).1 h
  rw [apart_common hr hi hj e s] at h2
  cases h2
/-- moving -/
def addV (v t : V3) : V3 := ⟨v.x + t.x, v.y + t.y, v.z + t.z⟩
theorem dotL_addc (ws : List Int) (l : List V3) (f : V3 → Int) (c : Int) (h : ws.length = l.length) : dotL ws (l.map fun p => f p + c) = dotL ws (l.map f) + c * ws.sum := by
  induction ws generalizing l with
  | nil => simp [dotL]
  | cons w ws ih => cases l with
    | nil => simp at h
    | cons p l =>
      simp only [List.map_cons, dotL_cons, List.sum_cons, ih l (by simpa using h)]
      grind
theorem sumV_add (l : List V3) (ws : List Int) (t : V3) (h : ws.length = l.length) : sumV (l.map (addV · t)) ws = ⟨(sumV l ws).x + t.x * ws.sum, (sumV l ws).y + t.y * ws.sum, (sumV l ws).z + t.z * ws.sum⟩ := by
  simp only [sumV, List.map_map, Function.comp_def, addV]
  rw [dotL_addc ws l _ _ h, dotL_addc ws l _ _ h, dotL_addc ws l _ _ h]
theorem wOf_add {a b : List V3} {steps : Nat} {s : Nst} (t : V3) (h : NI a b steps s) : wOf (a.map (addV · t)) (b.map (addV · t)) s = wOf a b s := by
  obtain ⟨⟨h1, _, h2⟩, ⟨h3, _, h4⟩, _⟩ := h
  unfold wOf
  rw [sumV_add a s.L t h1, sumV_add b s.R t h3, h2, h4]
  simp only [subV]
  apply V3.ext_ <;> simp only <;> omega
theorem dgo_add (n : V3) (l : List V3) (t : V3) (i : Nat) (h : i < l.length) : dgo n (l.map (addV · t)) i = dgo n l i + dotV n t := by
  unfold dgo
  simp only [List.getD, List.getElem?_map, List.getElem?_eq_getElem h, Option.map_some, Option.getD_some, dotV, addV]
  grind
theorem exLo_add (n : V3) (l : List V3) (t : V3) : exLo n (l.map (addV · t)) = exLo n l := by
  unfold exLo
  rw [List.length_map]
  refine amin_congr _ fun i j hi hj => ?_
  rw [dgo_add n l t i hi, dgo_add n l t j hj]
  omega
theorem exHi_add (n : V3) (l : List V3) (t : V3) : exHi n (l.map (addV · t)) = exHi n l := by
  unfold exHi
  rw [List.length_map]
  refine amin_congr _ fun i j hi hj => ?_
  rw [dgo_add n l t i hi, dgo_add n l t j hj]
  omega
theorem getD_add (l : List V3) (t : V3) (i : Nat) (h : i < l.length) : (l.map (addV · t)).getD i zeroV = addV (l.getD i zeroV) t := by
  simp [List.getD, List.getElem?_eq_getElem h]
theorem run_add {a b : List V3} {rho : Int} {steps : Nat} (t : V3) (ha : 0 < a.length) (hb : 0 < b.length) : ∀ f s, NI a b steps s → runN (a.map (addV · t)) (b.map (addV · t)) rho steps f s = runN a b rho steps f s := by
  intro f
  induction f with
  | zero => intro s _; rfl
  | succ f ih =>
    intro s hs
    have e1 := wOf_add t hs
    have e2 : xOf (a.map (addV · t)) (b.map (addV · t)) s = xOf a b s := by unfold xOf; rw [e1]
    have e3 : nOf (a.map (addV · t)) (b.map (addV · t)) s = nOf a b s := by unfold nOf; rw [e2]
    have e4 : atN (a.map (addV · t)) (b.map (addV · t)) s = atN a b s := by unfold atN; rw [e3]
    have la := exLo_lt (nOf a b s) ha
    have lb := exHi_lt (nOf a b s) hb
    have e5 : apartB (a.map (addV · t)) (b.map (addV · t)) rho s = apartB a b rho s := by
      unfold apartB
      rw [e3, exLo_add, exHi_add, dgo_add _ _ _ _ la, dgo_add _ _ _ _ lb, show ∀ x y z : Int, x + z - (y + z) = x - y from fun x y z => by omega]
    have e6 : tOf (a.map (addV · t)) (b.map (addV · t)) s = tOf a b s := by
      unfold tOf
      rw [e2, e3, exLo_add, exHi_add, getD_add _ _ _ la, getD_add _ _ _ lb]
      congr 1
      simp only [subV, addV]
      apply V3.ext_ <;> simp only <;> omega
    have e7 : nextN (a.map (addV · t)) (b.map (addV · t)) s = nextN a b s := by unfold nextN; rw [e3, e6, exLo_add, exHi_add]
    rcases run_cases a b rho steps s with c | ⟨c, d⟩ | ⟨c, d, e⟩ | ⟨c, d, e, g⟩ | ⟨c, d, e, g, i⟩
    · rw [runN_close c, runN_close (by rw [e1]; exact c)]
    · rw [runN_zero c d, runN_zero (by rw [e1]; exact c) (by rw [e2]; exact d), e4]
    · rw [runN_apart c d e, runN_apart (by rw [e1]; exact c) (by rw [e2]; exact d) (by rw [e5]; exact e), e4]
    · rw [runN_stop c d e g, runN_stop (by rw [e1]; exact c) (by rw [e2]; exact d) (by rw [e5]; exact e) (by rw [e6]; exact g), e4]
    · rw [runN_next c d e g i, runN_next (by rw [e1]; exact c) (by rw [e2]; exact d) (by rw [e5]; exact e) g (by rw [e6]; exact i), e7]
      exact ih _ (hs.next ha hb g)
theorem search_add {a b : List V3} {rho : Int} {steps : Nat} (t : V3) (ha : 0 < a.length) (hb : 0 < b.length) : searchN (a.map (addV · t)) (b.map (addV · t)) rho steps = searchN a b rho steps := by
  unfold searchN
  have e : startN (a.map (addV · t)) (b.map (addV · t)) = startN a b := by unfold startN; simp
  rw [e]
  exact run_add t ha hb 65 _ (NI.start steps ha hb)
end Go.Proofs.Ytionbckpgfaneaa
