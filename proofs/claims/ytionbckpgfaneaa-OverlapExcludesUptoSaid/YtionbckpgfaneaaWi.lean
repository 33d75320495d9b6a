/- Walks, part i: the references' Combine. -/
import Derived.Test.YtionbckpgfaneaaWh
import Derived.Deep.QuietTactic
import Derived.BigQuiet
namespace Go.Proofs.Ytionbckpgfaneaa
open Go.RowKit
set_option maxHeartbeats 1000000
set_option maxRecDepth 100000
theorem sum_take_le (ws : List Int) (k : Nat) (h : ∀ x ∈ ws, 0 ≤ x) : (ws.take k).sum ≤ ws.sum := by
  have e : ws.sum = (ws.take k).sum + (ws.drop k).sum := by rw [← List.sum_append, List.take_append_drop]
  have := sum_nonneg (ws.drop k) (fun x hx => h x (List.mem_of_mem_drop hx))
  omega
theorem wOk_of {ws : List Int} (h : wOk ws = true) : ∀ x ∈ ws, 0 ≤ x ∧ x ≤ 65536 := by
  intro x hx
  unfold wOk at h
  rw [List.all_eq_true] at h
  simpa using h x hx
theorem combOk_big {l : List IV} {ws : List Int} (k : Nat) (hk : k < ws.length) (h : 65536 - (ws.take k).sum < ws[k]) : combOk l ws = false := by
  cases hw : wOk ws
  · exact combOk_w hw
  · have := sum_take_le ws (k + 1) (fun x hx => (wOk_of hw x hx).1)
    rw [take_sum ws k hk] at this
    exact combOk_s (by omega)
theorem le_sum (ws : List Int) (h : ∀ x ∈ ws, 0 ≤ x) : ∀ x ∈ ws, x ≤ ws.sum := by
  induction ws with
  | nil => simp
  | cons a ws ih =>
    intro x hx
    have h1 := sum_nonneg ws (fun y hy => h y (by simp [hy]))
    have h2 := h a (by simp)
    simp only [List.sum_cons]
    rcases List.mem_cons.1 hx with rfl | hx
    · omega
    · have := ih (fun y hy => h y (by simp [hy])) x hx
      omega
def C2Inv (w : World) (N S : Nat) (l : List IV) (ws : List Int) (i : Value) (wr : World) : Prop :=
  ∃ k : Nat, k ≤ l.length ∧ i = .int .i64 k ∧
    wr.heap[S]? = some (.cells (ivc (comb (l.take k) (ws.take k))) 44 (0, 0)) ∧ wr.heap[N]? = some (.cells (ivc zeroIV) 44 (0, 0)) ∧ Below N w wr ∧ S < wr.heap.size
theorem CIn.next2 {w wr wf : World} {N S : Nat} {v u : IV} {m : Int} (hNS : N < S) (hS : wr.heap[S]? = some (.cells (ivc (mixI m v u)) 44 (0, 0))) (hN : wr.heap[N]? = some (.cells (ivc zeroIV) 44 (0, 0))) (hb : Below N w wr) (hz : S < wr.heap.size)
    (i j : Nat) (a b : Value) (hm0 : 0 ≤ m + 1) (hm3 : m + 1 ≤ 3) (he : ((ivc (mixI m v u)).setIfInBounds i a).setIfInBounds j b = ivc (mixI (m + 1) v u)) (hw : Like wf ((wr.setCell ⟨S, i, none⟩ a).setCell ⟨S, j, none⟩ b)) :
    CIn w N S v u (.int .i64 (m + 1)) wf := by
  refine ⟨m + 1, rfl, hm0, hm3, ?_, ?_, ?_, ?_⟩
  · rw [← he, hw.1]
    exact blk_set (blk_set hS i a) j b
  · rw [hw.1, Below.heap_setCell _ _ _ _ (by simp; omega), Below.heap_setCell _ _ _ _ (by simp; omega)]
    exact hN
  · exact hw.below ((hb.setCell (by simp; omega) a).setCell (by simp; omega) b)
  · rw [hw.1]; simp [World.setCell]; omega
theorem combine_ref (A B : Option Addr) (l : List IV) (ws : List Int) (c d : Nat) (w : World) (hs : SlI w A l) (ht : SlN w B ws) (hm : l.length ≤ 9223372036854775807) (hm2 : ws.length ≤ 9223372036854775807) :
    Calls Try.prog 140 #[.slice A l.length c, .slice B ws.length d] w fun e w' => e = .returned (combR l ws) ∧ Below w.heap.size w w' := by
  have HS := hide hs; have HT := hide ht; clear hs ht
  go_enter Try.func140, Try.ntmps140
  go_wp2_with fail
  refine (placed_ref A l c _ (by exact Sl.alloc HS.out _) hm).mono ?_
  rintro e w1 ⟨rfl, hb1⟩
  have hz1 : w.heap.size < w1.heap.size := by have := hb1.size; simp at this; omega
  have hn1 : w1.heap[w.heap.size]? = some (.cells (ivc zeroIV) 44 (0, 0)) := (hb1.block _ (by simp)).trans (heap_alloc_new w _)
  have hbw : Below w.heap.size w w1 := ((Below.refl _ _).alloc (Nat.le_refl _) _).trans (hb1.mono (by simp))
  clear hb1
  have hc1 := blk_cell hn1
  have hf1 := blk_frozen hn1
  simp only [ivc, zeroIV] at hc1
  have HN := hide hn1; have HB := hide hbw; clear hn1 hbw
  cases hp : placedB l
  · have HR := hide (combR_no (combOk_p (ws := ws) hp))
    go_wp2_with fail
    refine bodyPost_ret (v := .tuple #[zeroIV.v, .int .i64 0, .bool false]) (by simp [results, Try.results140, go_sem, hc1, zeroIV, IV.v]) rfl ⟨by rw [HR.out], ?_⟩
    exact (((((HB.out.setCell (Nat.le_refl _) _).setCell (Nat.le_refl _) _).setCell (Nat.le_refl _) _).setCell (Nat.le_refl _) _).setCell (Nat.le_refl _) _).setCell (Nat.le_refl _) _
  · by_cases hlen : ws.length = l.length
    · have hlen' : ((ws.length : Int) != (l.length : Int)) = false := by simp [hlen]
      have HL := hide hlen; have HP := hide hp
      have hn8 : l.length ≤ 8 := (placed_of hp).2.1
      clear hlen hp
      go_wp2_with fail
      go_loop [7, 8] (fun t i => ∃ k : Nat, k ≤ ws.length ∧ i = .int .i64 k ∧ t = .int .i64 (ws.take k).sum ∧ (∀ j (_ : j < k) (h : j < ws.length), 0 ≤ ws[j]) ∧ 0 ≤ (ws.take k).sum ∧ (ws.take k).sum ≤ 65536) (fun _ i => ws.length - (intOf i).toNat)
      case atStart => exact ⟨0, by omega, rfl, by simp, fun j hj => absurd hj (by omega), by simp, by simp⟩
      case round =>
        obtain ⟨k, hk, rfl, rfl, hok, hs0, hs1⟩ := hrel
        have OK := hide hok; clear hok
        by_cases hlt : k < ws.length
        · obtain ⟨b2, o2, rfl, hb2⟩ := HT.out.addr (by omega)
          have hw := (HT.out.below HB.out).at_ hlt
          by_cases hneg : ws[k] < 0
          · have HR := hide (combR_no (combOk_w (l := l) (wOk_no ws k hlt (by omega))))
            go_wp2_with fail
            refine bodyPost_ret (v := .tuple #[zeroIV.v, .int .i64 0, .bool false]) (by simp [results, Try.results140, go_sem, hc1, zeroIV, IV.v]) rfl ⟨by rw [HR.out], ?_⟩
            exact (((((HB.out.setCell (Nat.le_refl _) _).setCell (Nat.le_refl _) _).setCell (Nat.le_refl _) _).setCell (Nat.le_refl _) _).setCell (Nat.le_refl _) _).setCell (Nat.le_refl _) _
          · by_cases hbig : 65536 - (ws.take k).sum < ws[k]
            · have HR := hide (combR_no (combOk_big (l := l) k hlt hbig))
              go_wp2_with fail
              refine bodyPost_ret (v := .tuple #[zeroIV.v, .int .i64 0, .bool false]) (by simp [results, Try.results140, go_sem, hc1, zeroIV, IV.v]) rfl ⟨by rw [HR.out], ?_⟩
              exact (((((HB.out.setCell (Nat.le_refl _) _).setCell (Nat.le_refl _) _).setCell (Nat.le_refl _) _).setCell (Nat.le_refl _) _).setCell (Nat.le_refl _) _).setCell (Nat.le_refl _) _
            · have TS := hide (take_sum ws k hlt)
              go_wp2_with fail
              go_round
              case rel => exact ⟨k + 1, by omega, by simp, by rw [TS.out], fun j hj h => by
                  rcases Nat.lt_or_ge j k with h' | h'
                  · exact OK.out j h' h
                  · obtain rfl : j = k := by omega
                    omega, by rw [TS.out]; omega, by rw [TS.out]; omega⟩
              case measure => simp [intOf] <;> omega
        · obtain rfl : k = ws.length := by omega
          have eT : ws.take ws.length = ws := List.take_of_length_le (Nat.le_refl _)
          rw [eT] at hs0 hs1 ⊢
          clear eT
          have hnn : ∀ x ∈ ws, 0 ≤ x := fun x hx => by
            obtain ⟨j, hj, rfl⟩ := List.getElem_of_mem hx
            exact OK.out j hj hj
          have hle := le_sum ws hnn
          have hw01 : ∀ j (h : j < ws.length), 0 ≤ ws[j] ∧ ws[j] ≤ 65536 := fun j h => ⟨OK.out j h h, by have := hle ws[j] (by simp); omega⟩
          have WO := hide (wOk_yes ws hw01); have W01 := hide hw01
          clear hnn hle hw01
          by_cases hsum : 1 ≤ ws.sum
          · have HR := hide (combR_yes (combOk_yes HP.out HL.out WO.out ⟨hsum, hs1⟩))
            go_wp2_with fail
            go_loopw [10] (fun i wr => C2Inv w w.heap.size w1.heap.size l ws i wr) (fun i _ => l.length - (intOf i).toNat)
            case atStart =>
              exact ⟨0, by omega, rfl, heap_alloc_new w1 _, (Below.heap_alloc w1 _ _ hz1).trans HN.out, HB.out.alloc (by omega) _, by simp⟩
            case round =>
              clear hc1 hf1
              obtain ⟨wo, rfl⟩ : ∃ wo : World, wo = wr := ⟨_, rfl⟩
              obtain ⟨k, hk, rfl, hS, hN, hb, hz⟩ := hrel
              have HBo := hide hb; have HSo := hide hS; have HNo := hide hN
              clear hb hS hN HN HB
              by_cases hlt : k < l.length
              · have hltw : k < ws.length := by have := HL.out; omega
                have hltw' : (k : Int) < (ws.length : Int) := by omega
                obtain ⟨b1, o1, rfl, hb1⟩ := HS.out.addr (by omega)
                obtain ⟨b2, o2, rfl, hb2⟩ := HT.out.addr (by omega)
                obtain ⟨hw1, hw2⟩ := W01.out k hltw
                have okk := ok_of ((placed_of HP.out).2.2 k hlt)
                obtain ⟨⟨⟨q1, q2⟩, ⟨q3, q4⟩⟩, ⟨⟨q5, q6⟩, ⟨q7, q8⟩⟩, ⟨⟨q9, q10⟩, ⟨q11, q12⟩⟩⟩ := comb_bd ws l k (by omega) hk HP.out (fun j _ h => W01.out j h)
                obtain ⟨m1, m2⟩ := mul_bd ws[k] l[k].x.lo 65536 268435456 hw1 hw2 (by omega) (by omega)
                obtain ⟨m3, m4⟩ := mul_bd ws[k] l[k].x.hi 65536 268435456 hw1 hw2 (by omega) (by omega)
                obtain ⟨m5, m6⟩ := mul_bd ws[k] l[k].y.lo 65536 268435456 hw1 hw2 (by omega) (by omega)
                obtain ⟨m7, m8⟩ := mul_bd ws[k] l[k].y.hi 65536 268435456 hw1 hw2 (by omega) (by omega)
                obtain ⟨m9, m10⟩ := mul_bd ws[k] l[k].z.lo 65536 268435456 hw1 hw2 (by omega) (by omega)
                obtain ⟨m11, m12⟩ := mul_bd ws[k] l[k].z.hi 65536 268435456 hw1 hw2 (by omega) (by omega)
                clear okk
                have CS := hide (comb_snoc ws l k hltw hlt)
                obtain ⟨v, hv⟩ : ∃ v, v = comb (l.take k) (ws.take k) := ⟨_, rfl⟩
                rw [← hv] at q1 q2 q3 q4 q5 q6 q7 q8 q9 q10 q11 q12
                have HV := hide hv; clear hv
                obtain ⟨u, hu⟩ : ∃ u : IV, u = ⟨⟨v.x.lo + ws[k] * l[k].x.lo, v.x.hi + ws[k] * l[k].x.hi⟩, ⟨v.y.lo + ws[k] * l[k].y.lo, v.y.hi + ws[k] * l[k].y.hi⟩, ⟨v.z.lo + ws[k] * l[k].z.lo, v.z.hi + ws[k] * l[k].z.hi⟩⟩ := ⟨_, rfl⟩
                have HU := hide hu; clear hu
                have hSv : wo.heap[w1.heap.size]? = some (.cells (ivc (mixI 0 v u)) 44 (0, 0)) := by rw [HV.out]; exact HSo.out
                have HSv := hide hSv; clear hSv
                go_wp2_with fail
                go_loopw [11] (fun i ww => CIn w w.heap.size w1.heap.size v u i ww) (fun i _ => 3 - (intOf i).toNat)
                case atStart => exact ⟨0, rfl, by omega, by omega, HSv.out, HNo.out, HBo.out, hz⟩
                case round =>
                  obtain ⟨m, rfl, hm0, hm3, iS, iN, iB, iz⟩ := hrel
                  obtain ⟨h0, h1, h2, h3, h4, h5⟩ := (HS.out.below iB).at_ hlt
                  have hw := (HT.out.below iB).at_ hltw
                  have IS := hide iS; have IN := hide iN; have IB := hide iB
                  have hcS := blk_cell iS
                  have hfS := blk_frozen iS
                  clear iS iN iB
                  obtain rfl | rfl | rfl | rfl : m = 0 ∨ m = 1 ∨ m = 2 ∨ m = 3 := by omega
                  · simp [ivc, mixI] at hcS
                    go_wp2_with fail
                    go_region
                    go_wp2_with fail
                    go_region
                    go_wp2_with fail
                    go_roundw
                    case rel => exact CIn.next2 hz1 IS.out IN.out IB.out iz 0 1 _ _ (by omega) (by omega) (by rw [HU.out]; rfl) ⟨rfl, rfl, rfl, rfl⟩
                    case measure => simp [intOf]
                  · simp [ivc, mixI] at hcS
                    go_wp2_with fail
                    go_region
                    go_wp2_with fail
                    go_region
                    go_wp2_with fail
                    go_roundw
                    case rel => exact CIn.next2 hz1 IS.out IN.out IB.out iz 2 3 _ _ (by omega) (by omega) (by rw [HU.out]; rfl) ⟨rfl, rfl, rfl, rfl⟩
                    case measure => simp [intOf]
                  · simp [ivc, mixI] at hcS
                    go_wp2_with fail
                    go_region
                    go_wp2_with fail
                    go_region
                    go_wp2_with fail
                    go_roundw
                    case rel => exact CIn.next2 hz1 IS.out IN.out IB.out iz 4 5 _ _ (by omega) (by omega) (by rw [HU.out]; rfl) ⟨rfl, rfl, rfl, rfl⟩
                    case measure => simp [intOf]
                  · clear hcS hfS h0 h1 h2 h3 h4 h5 hw
                    go_wp2_with fail
                    go_roundw
                    case rel => exact ⟨k + 1, by omega, by simp, by rw [CS.out, ← HV.out, ← HU.out]; exact IS.out, IN.out, IB.out, iz⟩
                    case measure => simp [intOf] <;> omega
              · obtain rfl : k = l.length := by omega
                have eT : ws.take l.length = ws := List.take_of_length_le (by have := HL.out; omega)
                have eL : l.take l.length = l := List.take_of_length_le (by omega)
                have hS2 := HSo.out
                rw [eT, eL] at hS2
                have hcS := blk_cell hS2
                have hNc := blk_cell HNo.out
                have hNf := blk_frozen HNo.out
                simp only [ivc, zeroIV] at hcS hNc
                clear hS2 eL eT
                generalize hcm : comb l ws = cm at hcS
                have HCM := hide hcm; clear hcm
                go_wp2_with fail
                refine bodyPost_ret (v := .tuple #[cm.v, .int .i64 ws.sum, .bool true]) (by simp [results, Try.results140, go_sem, hNc, IV.v]) rfl ⟨by rw [HR.out, HCM.out], ?_⟩
                exact (((((HBo.out.setCell (Nat.le_refl _) _).setCell (Nat.le_refl _) _).setCell (Nat.le_refl _) _).setCell (Nat.le_refl _) _).setCell (Nat.le_refl _) _).setCell (Nat.le_refl _) _
          · have HR := hide (combR_no (combOk_s (l := l) (by omega : ¬ (1 ≤ ws.sum ∧ ws.sum ≤ 65536))))
            go_wp2_with fail
            refine bodyPost_ret (v := .tuple #[zeroIV.v, .int .i64 0, .bool false]) (by simp [results, Try.results140, go_sem, hc1, zeroIV, IV.v]) rfl ⟨by rw [HR.out], ?_⟩
            exact (((((HB.out.setCell (Nat.le_refl _) _).setCell (Nat.le_refl _) _).setCell (Nat.le_refl _) _).setCell (Nat.le_refl _) _).setCell (Nat.le_refl _) _).setCell (Nat.le_refl _) _
    · have HR := hide (combR_no (combOk_l hlen))
      have hlen' : ((ws.length : Int) != (l.length : Int)) = true := by simp; omega
      have HP := hide hp
      clear hlen
      go_wp2_with fail
      refine bodyPost_ret (v := .tuple #[zeroIV.v, .int .i64 0, .bool false]) (by simp [results, Try.results140, go_sem, hc1, zeroIV, IV.v]) rfl ⟨by rw [HR.out], ?_⟩
      exact (((((HB.out.setCell (Nat.le_refl _) _).setCell (Nat.le_refl _) _).setCell (Nat.le_refl _) _).setCell (Nat.le_refl _) _).setCell (Nat.le_refl _) _).setCell (Nat.le_refl _) _
end Go.Proofs.Ytionbckpgfaneaa
