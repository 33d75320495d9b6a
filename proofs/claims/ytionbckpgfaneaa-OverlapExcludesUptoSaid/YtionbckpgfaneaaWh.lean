/- Walks, part h: shape.Combine. -/
import Derived.Test.YtionbckpgfaneaaPb
namespace Go.Proofs.Ytionbckpgfaneaa
open Go.RowKit
set_option maxHeartbeats 1000000
set_option maxRecDepth 100000
attribute [local go_sem] index44_0 index44_1 index44_2
def ivc (v : IV) : Array Value := #[.int .i64 v.x.lo, .int .i64 v.x.hi, .int .i64 v.y.lo, .int .i64 v.y.hi, .int .i64 v.z.lo, .int .i64 v.z.hi]
/-- what the rounds of Combine keep -/
def CInv (w : World) (N S : Nat) (l : List IV) (ws : List Int) (t i : Value) (wr : World) : Prop :=
  ∃ k : Nat, k ≤ l.length ∧ i = .int .i64 k ∧ t = .int .i64 (ws.take k).sum ∧ (∀ j (_ : j < k) (h : j < ws.length), 0 ≤ ws[j] ∧ ws[j] ≤ 65536) ∧
    wr.heap[S]? = some (.cells (ivc (comb (l.take k) (ws.take k))) 44 (0, 0)) ∧ wr.heap[N]? = some (.cells (ivc zeroIV) 44 (0, 0)) ∧ Below N w wr ∧ S < wr.heap.size
def mixI (m : Int) (v u : IV) : IV := ⟨if 0 < m then u.x else v.x, if 1 < m then u.y else v.y, if 2 < m then u.z else v.z⟩
def CIn (w : World) (N S : Nat) (v u : IV) (i : Value) (ww : World) : Prop :=
  ∃ m : Int, i = .int .i64 m ∧ 0 ≤ m ∧ m ≤ 3 ∧ ww.heap[S]? = some (.cells (ivc (mixI m v u)) 44 (0, 0)) ∧ ww.heap[N]? = some (.cells (ivc zeroIV) 44 (0, 0)) ∧ Below N w ww ∧ S < ww.heap.size
theorem CIn.next {w wr : World} {N S : Nat} {v u : IV} {m : Int} (hNS : N < S) (hS : wr.heap[S]? = some (.cells (ivc (mixI m v u)) 44 (0, 0))) (hN : wr.heap[N]? = some (.cells (ivc zeroIV) 44 (0, 0))) (hb : Below N w wr) (hz : S < wr.heap.size)
    (i j : Nat) (a b : Value) (o : Obj) (hm0 : 0 ≤ m + 1) (hm3 : m + 1 ≤ 3) (he : ((ivc (mixI m v u)).setIfInBounds i a).setIfInBounds j b = ivc (mixI (m + 1) v u)) :
    CIn w N S v u (.int .i64 (m + 1)) (((wr.setCell ⟨S, i, none⟩ a).setCell ⟨S, j, none⟩ b).alloc o).drew.drew := by
  refine ⟨m + 1, rfl, hm0, hm3, ?_, ?_, ?_, ?_⟩
  · rw [← he]
    exact (Below.heap_alloc _ o S (by simpa [World.setCell] using hz)).trans (blk_set (blk_set hS i a) j b)
  · refine (Below.heap_alloc _ o N (by simp [World.setCell]; omega)).trans ?_
    rw [Below.heap_setCell _ _ _ _ (by simp; omega), Below.heap_setCell _ _ _ _ (by simp; omega)]
    exact hN
  · exact (((hb.setCell (by simp; omega) a).setCell (by simp; omega) b).alloc (by simp [World.setCell]; omega) o).drew.drew
  · simp [World.setCell]; omega
theorem take_sum_bd2 (ws : List Int) (k : Nat) (h1 : k ≤ ws.length) (hw : ∀ j (_ : j < k) (h : j < ws.length), 0 ≤ ws[j] ∧ ws[j] ≤ 65536) : 0 ≤ (ws.take k).sum ∧ (ws.take k).sum ≤ k * 65536 := by
  induction k with
  | zero => simp
  | succ k ih =>
    have := ih (by omega) (fun j hj h => hw j (by omega) h)
    rw [take_sum ws k (by omega)]
    have := hw k (by omega) (by omega)
    omega
theorem combine_any (A B : Option Addr) (l : List IV) (ws : List Int) (c d : Nat) (w : World) (hs : SlI w A l) (ht : SlN w B ws) (hm : l.length ≤ 9223372036854775807) (hm2 : ws.length ≤ 9223372036854775807) :
    Calls Try.prog 103 #[.slice A l.length c, .slice B ws.length d] w fun e w' => e = .returned (combR l ws) ∧ Below w.heap.size w w' := by
  have HS := hide hs; have HT := hide ht; clear hs ht
  go_enter Try.func103, Try.ntmps103
  go_wp2_with fail
  refine (placed_any A l c _ (by exact Sl.alloc HS.out _) hm).mono ?_
  rintro e w1 ⟨rfl, hb1⟩
  have hz1 : w.heap.size < w1.heap.size := by have := hb1.size; simp at this; omega
  have hn1 : w1.heap[w.heap.size]? = some (.cells (ivc zeroIV) 44 (0, 0)) := (hb1.block _ (by simp)).trans (heap_alloc_new w _)
  have hbw : Below w.heap.size w w1 := ((Below.refl _ _).alloc (Nat.le_refl _) _).trans (hb1.mono (by simp))
  clear hb1
  have hc1 := blk_cell hn1
  have hf1 := blk_frozen hn1
  simp only [ivc, zeroIV] at hc1
  have HN := hide hn1; have HB := hide hbw; clear hn1 hbw
  cases hp : placedB l
  · have HR := hide (combR_no (combOk_p (ws := ws) hp))
    go_wp2_with fail
    refine bodyPost_ret (v := .tuple #[zeroIV.v, .int .i64 0, .bool false]) (by simp [results, Try.results103, go_sem, hc1, zeroIV, IV.v]) rfl ⟨by rw [HR.out], ?_⟩
    exact (((((HB.out.setCell (Nat.le_refl _) _).setCell (Nat.le_refl _) _).setCell (Nat.le_refl _) _).setCell (Nat.le_refl _) _).setCell (Nat.le_refl _) _).setCell (Nat.le_refl _) _
  · by_cases hlen : ws.length = l.length
    · have hlen' : ((ws.length : Int) != (l.length : Int)) = false := by simp [hlen]
      have HL := hide hlen; have HP := hide hp
      have hn8 : l.length ≤ 8 := (placed_of hp).2.1
      clear hlen hp
      go_wp2_with fail
      go_loopw [8, 26] (fun t i wr => CInv w w.heap.size w1.heap.size l ws t i wr) (fun _ i _ => l.length - (intOf i).toNat)
      case atStart =>
        exact ⟨0, by omega, rfl, by simp, fun j hj => absurd hj (by omega), heap_alloc_new w1 _, (Below.heap_alloc w1 _ _ hz1).trans HN.out, HB.out.alloc (by omega) _, by simp⟩
      case round =>
        clear hc1 hf1
        obtain ⟨wo, rfl⟩ : ∃ wo : World, wo = wr := ⟨_, rfl⟩
        obtain ⟨k, hk, rfl, rfl, hok, hS, hN, hb, hz⟩ := hrel
        have hll : ws.length = l.length := HL.out
        have hltw0 : k ≤ ws.length := by omega
        have ts := take_sum_bd2 ws k hltw0 hok
        have OK := hide hok; have HBo := hide hb; have HSo := hide hS; have HNo := hide hN
        clear hok hb hS hN HN HB
        have hNc := blk_cell HNo.out
        have hNf := blk_frozen HNo.out
        simp only [ivc, zeroIV] at hNc
        by_cases hlt : k < l.length
        · have hltw : k < ws.length := by omega
          have hltw' : (k : Int) < (ws.length : Int) := by omega
          clear hll
          obtain ⟨b1, o1, rfl, hb1⟩ := HS.out.addr (by omega)
          obtain ⟨b2, o2, rfl, hb2⟩ := HT.out.addr (by omega)
          obtain ⟨h0, h1, h2, h3, h4, h5⟩ := (HS.out.below HBo.out).at_ hlt
          have hw := (HT.out.below HBo.out).at_ hltw
          by_cases hwk : 0 ≤ ws[k] ∧ ws[k] ≤ 65536
          · obtain ⟨hw1, hw2⟩ := hwk
            have hcS := blk_cell HSo.out
            have hfS := blk_frozen HSo.out
            have okk := ok_of ((placed_of HP.out).2.2 k hlt)
            obtain ⟨⟨⟨q1, q2⟩, ⟨q3, q4⟩⟩, ⟨⟨q5, q6⟩, ⟨q7, q8⟩⟩, ⟨⟨q9, q10⟩, ⟨q11, q12⟩⟩⟩ := comb_bd ws l k (by omega) hk HP.out OK.out
            obtain ⟨m1, m2⟩ := mul_bd ws[k] l[k].x.lo 65536 268435456 hw1 hw2 (by omega) (by omega)
            obtain ⟨m3, m4⟩ := mul_bd ws[k] l[k].x.hi 65536 268435456 hw1 hw2 (by omega) (by omega)
            obtain ⟨m5, m6⟩ := mul_bd ws[k] l[k].y.lo 65536 268435456 hw1 hw2 (by omega) (by omega)
            obtain ⟨m7, m8⟩ := mul_bd ws[k] l[k].y.hi 65536 268435456 hw1 hw2 (by omega) (by omega)
            obtain ⟨m9, m10⟩ := mul_bd ws[k] l[k].z.lo 65536 268435456 hw1 hw2 (by omega) (by omega)
            obtain ⟨m11, m12⟩ := mul_bd ws[k] l[k].z.hi 65536 268435456 hw1 hw2 (by omega) (by omega)
            clear okk
            have CS := hide (comb_snoc ws l k hltw hlt)
            obtain ⟨v, hv⟩ : ∃ v, v = comb (l.take k) (ws.take k) := ⟨_, rfl⟩
            rw [← hv] at hcS q1 q2 q3 q4 q5 q6 q7 q8 q9 q10 q11 q12
            simp only [ivc] at hcS
            have HV := hide hv; clear hv
            have TS := hide (take_sum ws k hltw)
            obtain ⟨u, hu⟩ : ∃ u : IV, u = ⟨⟨v.x.lo + ws[k] * l[k].x.lo, v.x.hi + ws[k] * l[k].x.hi⟩, ⟨v.y.lo + ws[k] * l[k].y.lo, v.y.hi + ws[k] * l[k].y.hi⟩, ⟨v.z.lo + ws[k] * l[k].z.lo, v.z.hi + ws[k] * l[k].z.hi⟩⟩ := ⟨_, rfl⟩
            have HU := hide hu; clear hu
            have hSv : wo.heap[w1.heap.size]? = some (.cells (ivc (mixI 0 v u)) 44 (0, 0)) := by rw [HV.out]; exact HSo.out
            have HSv := hide hSv; clear hSv hcS hfS hNc hNf
            go_wp2_with fail
            go_loopw [45] (fun i ww => CIn w w.heap.size w1.heap.size v u i ww) (fun i _ => 3 - (intOf i).toNat)
            case atStart => exact ⟨0, rfl, by omega, by omega, HSv.out, HNo.out, HBo.out, hz⟩
            case round =>
              clear h0 h1 h2 h3 h4 h5 hw
              obtain ⟨m, rfl, hm0, hm3, iS, iN, iB, iz⟩ := hrel
              have IS := hide iS; have IN := hide iN; have IB := hide iB
              have hcS := blk_cell iS
              have hfS := blk_frozen iS
              clear iS iN iB
              obtain rfl | rfl | rfl | rfl : m = 0 ∨ m = 1 ∨ m = 2 ∨ m = 3 := by omega
              · simp [ivc, mixI] at hcS
                go_wp2_with fail
                go_region
                go_wp2_with fail
                go_region
                go_wp2_with fail
                go_roundw
                case rel => exact CIn.next hz1 IS.out IN.out IB.out iz 0 1 _ _ _ (by omega) (by omega) (by rw [HU.out]; rfl)
                case measure => simp [intOf]
              · simp [ivc, mixI] at hcS
                go_wp2_with fail
                go_region
                go_wp2_with fail
                go_region
                go_wp2_with fail
                go_roundw
                case rel => exact CIn.next hz1 IS.out IN.out IB.out iz 2 3 _ _ _ (by omega) (by omega) (by rw [HU.out]; rfl)
                case measure => simp [intOf]
              · simp [ivc, mixI] at hcS
                go_wp2_with fail
                go_region
                go_wp2_with fail
                go_region
                go_wp2_with fail
                go_roundw
                case rel => exact CIn.next hz1 IS.out IN.out IB.out iz 4 5 _ _ _ (by omega) (by omega) (by rw [HU.out]; rfl)
                case measure => simp [intOf]
              · clear hcS hfS
                go_wp2_with fail
                go_roundw
                case rel => exact ⟨k + 1, by omega, by simp, by rw [TS.out], fun j hj h => by
                    rcases Nat.lt_or_ge j k with h' | h'
                    · exact OK.out j h' h
                    · obtain rfl : j = k := by omega
                      exact ⟨hw1, hw2⟩, by rw [CS.out, ← HV.out, ← HU.out]; exact IS.out, IN.out, IB.out, iz⟩
                case measure => simp [intOf] <;> omega
          · have HR := hide (combR_no (combOk_w (l := l) (wOk_no ws k hltw hwk)))
            have hwk' : ws[k] < 0 ∨ 65536 < ws[k] := by omega
            clear hwk
            rcases hwk' with hneg | hbig
            · go_wp2_with fail
              refine bodyPost_ret (v := .tuple #[zeroIV.v, .int .i64 0, .bool false]) (by simp [results, Try.results103, go_sem, hNc, zeroIV, IV.v]) rfl ⟨by rw [HR.out], ?_⟩
              exact (((((HBo.out.setCell (Nat.le_refl _) _).setCell (Nat.le_refl _) _).setCell (Nat.le_refl _) _).setCell (Nat.le_refl _) _).setCell (Nat.le_refl _) _).setCell (Nat.le_refl _) _
            · have hpos : ¬ ws[k] < 0 := by omega
              go_wp2_with fail
              refine bodyPost_ret (v := .tuple #[zeroIV.v, .int .i64 0, .bool false]) (by simp [results, Try.results103, go_sem, hNc, zeroIV, IV.v]) rfl ⟨by rw [HR.out], ?_⟩
              exact (((((HBo.out.setCell (Nat.le_refl _) _).setCell (Nat.le_refl _) _).setCell (Nat.le_refl _) _).setCell (Nat.le_refl _) _).setCell (Nat.le_refl _) _).setCell (Nat.le_refl _) _
        · obtain rfl : k = l.length := by omega
          have hge : ¬ (l.length : Int) < (ws.length : Int) := by omega
          have eT : ws.take l.length = ws := List.take_of_length_le (by omega)
          have eL : l.take l.length = l := List.take_of_length_le (by omega)
          have hwok := wOk_yes ws (fun j h => OK.out j (by omega) h)
          rw [eT] at ts
          have HTs := hide eT
          have hS2 := HSo.out
          rw [eT, eL] at hS2
          have hcS := blk_cell hS2
          simp only [ivc] at hcS
          have H2 := hide hS2
          clear hS2 eL eT hll
          by_cases hsum : 1 ≤ ws.sum ∧ ws.sum ≤ 65536
          · have HR := hide (combR_yes (combOk_yes HP.out HL.out hwok hsum))
            obtain ⟨hs1, hs2⟩ := hsum
            rw [HTs.out]
            clear hwok
            generalize hcm : comb l ws = cm at hcS
            have HCM := hide hcm; clear hcm
            go_wp2_with fail
            refine bodyPost_ret (v := .tuple #[cm.v, .int .i64 ws.sum, .bool true]) (by simp [results, Try.results103, go_sem, hNc, IV.v]) rfl ⟨by rw [HR.out, HCM.out], ?_⟩
            exact (((((HBo.out.setCell (Nat.le_refl _) _).setCell (Nat.le_refl _) _).setCell (Nat.le_refl _) _).setCell (Nat.le_refl _) _).setCell (Nat.le_refl _) _).setCell (Nat.le_refl _) _
          · have HR := hide (combR_no (combOk_s (l := l) hsum))
            rw [HTs.out]
            clear hwok hcS
            have hsum' : ws.sum < 1 ∨ 65536 < ws.sum := by omega
            clear hsum
            rcases hsum' with hneg | hbig
            · go_wp2_with fail
              refine bodyPost_ret (v := .tuple #[zeroIV.v, .int .i64 0, .bool false]) (by simp [results, Try.results103, go_sem, hNc, zeroIV, IV.v]) rfl ⟨by rw [HR.out], ?_⟩
              exact (((((HBo.out.setCell (Nat.le_refl _) _).setCell (Nat.le_refl _) _).setCell (Nat.le_refl _) _).setCell (Nat.le_refl _) _).setCell (Nat.le_refl _) _).setCell (Nat.le_refl _) _
            · have hpos : ¬ ws.sum < 1 := by omega
              go_wp2_with fail
              refine bodyPost_ret (v := .tuple #[zeroIV.v, .int .i64 0, .bool false]) (by simp [results, Try.results103, go_sem, hNc, zeroIV, IV.v]) rfl ⟨by rw [HR.out], ?_⟩
              exact (((((HBo.out.setCell (Nat.le_refl _) _).setCell (Nat.le_refl _) _).setCell (Nat.le_refl _) _).setCell (Nat.le_refl _) _).setCell (Nat.le_refl _) _).setCell (Nat.le_refl _) _
    · have HR := hide (combR_no (combOk_l hlen))
      have hlen' : ((ws.length : Int) != (l.length : Int)) = true := by simp; omega
      have HP := hide hp
      clear hlen
      go_wp2_with fail
      refine bodyPost_ret (v := .tuple #[zeroIV.v, .int .i64 0, .bool false]) (by simp [results, Try.results103, go_sem, hc1, zeroIV, IV.v]) rfl ⟨by rw [HR.out], ?_⟩
      exact (((((HB.out.setCell (Nat.le_refl _) _).setCell (Nat.le_refl _) _).setCell (Nat.le_refl _) _).setCell (Nat.le_refl _) _).setCell (Nat.le_refl _) _).setCell (Nat.le_refl _) _
end Go.Proofs.Ytionbckpgfaneaa
