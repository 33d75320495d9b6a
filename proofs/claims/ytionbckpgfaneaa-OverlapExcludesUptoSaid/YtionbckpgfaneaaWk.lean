/- Walks, part k: Overlaps; the references' Excess. -/
import Derived.Test.YtionbckpgfaneaaWj
import Derived.Test.YtionbckpgfaneaaWi
namespace Go.Proofs.Ytionbckpgfaneaa
open Go.RowKit
set_option maxHeartbeats 1000000
set_option maxRecDepth 100000
def excX (left right : List Int) (a b : List IV) (ra rb : Int) : Int := if excOk left right a b ra rb then exc (combU a left) (combU b right) (combT a left) (ra + rb) else 0
theorem excR_form (left right : List Int) (a b : List IV) (ra rb : Int) : excR left right a b ra rb = .tuple #[.int .i64 (excX left right a b ra rb), .bool (excOk left right a b ra rb)] := by
  unfold excR excX
  cases h : excOk left right a b ra rb <;> simp
def ovl (left right : List Int) (a b : List IV) (ra rb : Int) : Bool := excOk left right a b ra rb && decide (0 ≤ excX left right a b ra rb)
/-- overlap.Overlaps -/
theorem overlaps_any (left right : List Int) (a b : List IV) (ra rb : Int) (A B C D : Option Addr) (c1 c2 c3 c4 : Nat) (w : World) (hl : SlN w A left) (hr : SlN w B right) (ha : SlI w C a) (hb : SlI w D b)
   (m1 : left.length ≤ 9223372036854775807) (m2 : right.length ≤ 9223372036854775807) (m3 : a.length ≤ 9223372036854775807) (m4 : b.length ≤ 9223372036854775807) :
    Calls Try.prog 48 #[.slice A left.length c1, .slice B right.length c2, .slice C a.length c3, .int .i64 ra, .slice D b.length c4, .int .i64 rb] w fun e w' => e = .returned (.bool (ovl left right a b ra rb)) ∧ Below w.heap.size w w' := by
  have hmf := hmf
  have HL := hide hl; have HR := hide hr; have HA := hide ha; have HB := hide hb
  clear hl hr ha hb
  go_enter_defers Try.func48, Try.ntmps48
  go_wp2_with fail
  refine (excess_any left right a b ra rb A B C D c1 c2 c3 c4 _ (by exact Sl.alloc HL.out _) (by exact Sl.alloc HR.out _) (by exact Sl.alloc HA.out _) (by exact Sl.alloc HB.out _) m1 m2 m3 m4).mono ?_
  rintro e w1 ⟨rfl, hb1⟩
  rw [excR_form]
  have hz1 : w.heap.size < w1.heap.size := by have := hb1.size; simp at this; omega
  have hN : w1.heap[w.heap.size]? = some (.cells #[.bool false] 4 (0, 0)) := (hb1.block _ (by simp)).trans (heap_alloc_new w _)
  have hbw : Below w.heap.size w w1 := ((Below.refl _ _).alloc (Nat.le_refl _) _).trans (hb1.mono (by simp))
  have n0 := blk_cell hN; have n1 := blk_frozen hN
  have HW := hide hbw
  clear hb1 hN hbw
  generalize hx : excX left right a b ra rb = x
  generalize hf : excOk left right a b ra rb = f
  have HX := hide hx; have HF := hide hf
  clear hx hf
  cases f
  · go_wp2_with fail
    refine leaves_cons (f := 106) (args := #[.pointer (some ⟨w.heap.size, 0, none⟩)]) (by simp) (by simp [go_sem]) ?_
    refine (idle106 _ _).mono ?_
    rintro e u' w'' ⟨rfl, rfl, rfl⟩
    refine ⟨.bool false, by simp [results, Try.results48, go_sem, n0], by rw [ovl, HF.out, HX.out]; rfl, ?_⟩
    exact HW.out.setCell (Nat.le_refl _) _
  · go_wp2_with fail
    refine leaves_cons (f := 106) (args := #[.pointer (some ⟨w.heap.size, 0, none⟩)]) (by simp) (by simp [go_sem]) ?_
    refine (idle106 _ _).mono ?_
    rintro e u' w'' ⟨rfl, rfl, rfl⟩
    refine ⟨.bool (decide (0 ≤ x)), by simp [results, Try.results48, go_sem, n0], by rw [ovl, HF.out, HX.out]; rfl, ?_⟩
    exact HW.out.setCell (Nat.le_refl _) _
def XInv (w : World) (U V : Nat) (u v : IV) (m0 m1 m2 R : Int) (x i : Value) (wr : World) : Prop :=
  ∃ k : Int, i = .int .i64 k ∧ x = .int .i64 (accE m0 m1 m2 R k) ∧ 0 ≤ k ∧ k ≤ 3 ∧ (0 < k → m0 ≤ R) ∧ (1 < k → m1 ≤ R) ∧ (2 < k → m2 ≤ R) ∧
    wr.heap[U]? = some (.cells (ivc u) 44 (0, 0)) ∧ wr.heap[V]? = some (.cells (ivc v) 44 (0, 0)) ∧ Below w.heap.size w wr ∧ V < wr.heap.size
theorem ceil_if (u v : Iv) (t : Int) (w : World) (h1 : -281474976710656 ≤ u.lo - v.hi ∧ u.lo - v.hi ≤ 281474976710656) (h2 : -281474976710656 ≤ u.hi - v.lo ∧ u.hi - v.lo ≤ 281474976710656) (ht : 1 ≤ t) :
    Calls Try.prog 54 #[.int .i64 (if max (u.lo - v.hi) (-(u.lo - v.hi)) < max (u.hi - v.lo) (-(u.hi - v.lo)) then max (u.hi - v.lo) (-(u.hi - v.lo)) else max (u.lo - v.hi) (-(u.lo - v.hi))), .int .i64 t] w
      fun e w' => e = .returned (.int .i64 (far1 u v t)) ∧ w = w' := by
  have e : (if max (u.lo - v.hi) (-(u.lo - v.hi)) < max (u.hi - v.lo) (-(u.hi - v.lo)) then max (u.hi - v.lo) (-(u.hi - v.lo)) else max (u.lo - v.hi) (-(u.lo - v.hi))) = absmax (u.lo - v.hi) (u.hi - v.lo) := by
    unfold absmax; split <;> omega
  rw [e]
  exact ceil_any _ t w (by have := absmax_bd _ _ _ h1 h2; constructor <;> omega) (by omega)
theorem far1_bd (u v : Iv) (t : Int) (h1 : -281474976710656 ≤ u.lo - v.hi ∧ u.lo - v.hi ≤ 281474976710656) (h2 : -281474976710656 ≤ u.hi - v.lo ∧ u.hi - v.lo ≤ 281474976710656) (ht : 1 ≤ t) : 0 ≤ far1 u v t ∧ far1 u v t ≤ 281474976710656 := by
  have hH := absmax_bd _ _ _ h1 h2
  have := ceil_bd _ t ht hH.1
  unfold far1; omega
/-- armplanref14.Excess -/
theorem excess_ref (left right : List Int) (a b : List IV) (ra rb : Int) (A B C D : Option Addr) (c1 c2 c3 c4 : Nat) (w : World) (hl : SlN w A left) (hr : SlN w B right) (ha : SlI w C a) (hb : SlI w D b)
   (m1 : left.length ≤ 9223372036854775807) (m2 : right.length ≤ 9223372036854775807) (m3 : a.length ≤ 9223372036854775807) (m4 : b.length ≤ 9223372036854775807) :
    Calls Try.prog 101 #[.slice A left.length c1, .slice B right.length c2, .slice C a.length c3, .int .i64 ra, .slice D b.length c4, .int .i64 rb] w fun e w' => e = .returned (excR left right a b ra rb) ∧ Below w.heap.size w w' := by
  have HL := hide hl; have HR := hide hr; have HA := hide ha; have HB := hide hb
  clear hl hr ha hb
  go_enter Try.func101, Try.ntmps101
  go_wp2_with fail
  refine (combine_ref C A a left c3 c1 _ HA.out HL.out m3 m1).mono ?_
  rintro e w1 ⟨rfl, hb1⟩
  rw [combR_form]
  have hz1 := hb1.size
  generalize hu : combU a left = u
  generalize ht : combT a left = t
  generalize hf : combOk a left = f
  have HU := hide hu; have HT := hide ht; have HF := hide hf; have HW1 := hide hb1; clear hu ht hf hb1
  go_wp2_with fail
  refine (combine_ref D B b right c4 c2 _ (by exact Sl.alloc (HB.out.below HW1.out) _) (by exact Sl.alloc (HR.out.below HW1.out) _) m4 m2).mono ?_
  rintro e w2 ⟨rfl, hb2⟩
  rw [combR_form]
  generalize hu' : combU b right = v
  generalize ht' : combT b right = t'
  generalize hf' : combOk b right = f'
  have HV := hide hu'; have HT' := hide ht'; have HF' := hide hf'; clear hu' ht' hf'
  have hz2 : w1.heap.size < w2.heap.size := by have := hb2.size; simp at this; omega
  have hU2 : w2.heap[w1.heap.size]? = some (.cells #[.int .i64 u.x.lo, .int .i64 u.x.hi, .int .i64 u.y.lo, .int .i64 u.y.hi, .int .i64 u.z.lo, .int .i64 u.z.hi] 44 (0, 0)) := (hb2.block _ (by simp)).trans (heap_alloc_new w1 _)
  have hbw2 : Below w.heap.size w w2 := (HW1.out.alloc (by omega) _).trans (hb2.mono (by simp; omega))
  have HU2 := hide hU2; have HW := hide hbw2; clear hU2 hbw2 hb2 HW1
  cases f
  · have HR := hide (excR_no (by simp [excOk, HF.out] : excOk left right a b ra rb = false))
    go_wp2_with fail
    go_ret2
    exact ⟨by rw [HR.out]; rfl, HW.out.alloc (by omega) _⟩
  · cases f'
    · have HR := hide (excR_no (by simp [excOk, HF'.out] : excOk left right a b ra rb = false))
      go_wp2_with fail
      go_ret2
      exact ⟨by rw [HR.out]; rfl, HW.out.alloc (by omega) _⟩
    · by_cases htt : t = t'
      · cases hra : radOk ra
        · have HR := hide (excR_no (by simp [excOk, hra] : excOk left right a b ra rb = false))
          have hne : (t != t') = false := by simp [htt]
          clear htt
          unfold radOk at hra
          go_wp2_with fail
          refine (radius_ref ra _).mono ?_
          rintro e w3 ⟨rfl, rfl⟩
          rw [hra]
          go_wp2_with fail
          go_ret2
          exact ⟨by rw [HR.out]; rfl, HW.out.alloc (by omega) _⟩
        · cases hrb : radOk rb
          · have HR := hide (excR_no (by simp [excOk, hrb] : excOk left right a b ra rb = false))
            have hne : (t != t') = false := by simp [htt]
            clear htt
            unfold radOk at hra hrb
            go_wp2_with fail
            refine (radius_ref ra _).mono ?_
            rintro e w3 ⟨rfl, rfl⟩
            rw [hra]
            go_wp2_with fail
            refine (radius_ref rb _).mono ?_
            rintro e w3 ⟨rfl, rfl⟩
            rw [hrb]
            go_wp2_with fail
            go_ret2
            exact ⟨by rw [HR.out]; rfl, HW.out.alloc (by omega) _⟩
          · have hne : (t != t') = false := by simp [htt]
            have hok : excOk left right a b ra rb = true := by simp [excOk, HF.out, HF'.out, hra, hrb, HT.out, HT'.out, htt]
            subst htt
            have ra1 : 0 ≤ ra ∧ ra ≤ 1048576 := by simpa [radOk] using hra
            have rb1 : 0 ≤ rb ∧ rb ≤ 1048576 := by simpa [radOk] using hrb
            have ht1 : 1 ≤ t ∧ t ≤ 65536 := by
              have := combOk_of HF.out
              rw [← HT.out, combT, HF.out]
              simp; omega
            have hub := combU_bd a left
            have hvb := combU_bd b right
            rw [HU.out] at hub
            rw [HV.out] at hvb
            obtain ⟨⟨⟨q1, q2⟩, ⟨q3, q4⟩⟩, ⟨⟨q5, q6⟩, ⟨q7, q8⟩⟩, ⟨⟨q9, q10⟩, ⟨q11, q12⟩⟩⟩ := hub
            obtain ⟨⟨⟨r1, r2⟩, ⟨r3, r4⟩⟩, ⟨⟨r5, r6⟩, ⟨r7, r8⟩⟩, ⟨⟨r9, r10⟩, ⟨r11, r12⟩⟩⟩ := hvb
            have R0 : 0 ≤ ra + rb := by omega
            have R1 : ra + rb ≤ 2097152 := by omega
            have RR := mul_bd (ra + rb) (ra + rb) 2097152 2097152 R0 R1 (by omega) R1
            have OKX := hide hok
            clear hok
            unfold radOk at hra hrb
            have HRA := hide hra; have HRB := hide hrb
            go_wp2_with fail
            refine (radius_ref ra _).mono ?_
            rintro e w3 ⟨rfl, rfl⟩
            rw [HRA.out]
            go_wp2_with fail
            refine (radius_ref rb _).mono ?_
            rintro e w3 ⟨rfl, rfl⟩
            rw [HRB.out]
            clear hra hrb
            go_wp2_with fail
            go_loopw [20, 21] (fun x i wr => XInv w w1.heap.size w2.heap.size u v (far1 u.x v.x t) (far1 u.y v.y t) (far1 u.z v.z t) (ra + rb) x i wr) (fun _ i _ => 3 - (intOf i).toNat)
            case atStart =>
              exact ⟨0, rfl, rfl, by omega, by omega, by omega, by omega, by omega, (Below.heap_alloc _ _ _ hz2).trans HU2.out, heap_alloc_new w2 _, HW.out.alloc (by omega) _, by simp⟩
            case round =>
              clear HU2 HW
              obtain ⟨k, rfl, rfl, hk0, hk3, p0, p1, p2, jU, jV, jB, jz⟩ := hrel
              have P0 := hide p0; have P1 := hide p1; have P2 := hide p2; have JU := hide jU; have JV := hide jV; have JB := hide jB
              clear p0 p1 p2 jB
              have j3 : w1.heap.size < wr.heap.size := by omega
              obtain rfl | rfl | rfl | rfl : k = 0 ∨ k = 1 ∨ k = 2 ∨ k = 3 := by omega
              · have u0 : wr.cell? ⟨w1.heap.size, 0, none⟩ = some (.int .i64 u.x.lo) := (blk_cell jU 0).trans rfl
                have u1 : wr.cell? ⟨w1.heap.size, 1, none⟩ = some (.int .i64 u.x.hi) := (blk_cell jU 1).trans rfl
                have v0 : wr.cell? ⟨w2.heap.size, 0, none⟩ = some (.int .i64 v.x.lo) := (blk_cell jV 0).trans rfl
                have v1 : wr.cell? ⟨w2.heap.size, 1, none⟩ = some (.int .i64 v.x.hi) := (blk_cell jV 1).trans rfl
                clear jU jV
                have hq := far1_bd u.x v.x t (by omega) (by omega) ht1.1
                have hacc := accE_bd (far1 u.x v.x t) (far1 u.y v.y t) (far1 u.z v.z t) (ra + rb) 0 (far1_nn _ _ _ ht1.1) (far1_nn _ _ _ ht1.1) (far1_nn _ _ _ ht1.1) R0 R1 (by omega) (by omega) P0.out P1.out P2.out
                have hw1 := IntWalk.i64_in (u.x.lo - v.x.hi) (by omega)
                have hw2 := IntWalk.i64_in (u.x.hi - v.x.lo) (by omega)
                go_wp2_with fail
                go_quiet ((first | (go_at_call 142; exact quiet_same (size_any _ _ (by omega) (by omega))) | (go_at_call 54; exact quiet_same (ceil_if u.x v.x t _ (by omega) (by omega) ht1.1))))
                clear hw1 hw2
                by_cases hbig : ra + rb < far1 u.x v.x t
                · have HR := hide (excR_neg OKX.out (by rw [HU.out, HV.out, HT.out]; omega))
                  go_wp2_with fail
                  all_goals
                    go_ret2
                    exact ⟨by rw [HR.out]; rfl, below_drewN JB.out _⟩
                · have mq := mul_bd (far1 u.x v.x t) (far1 u.x v.x t) 2097152 2097152 (by omega) (by omega) (by omega) (by omega)
                  go_wp2_with fail
                  all_goals
                    go_roundw
                    case rel => exact ⟨1, rfl, rfl, by omega, by omega, fun _ => by omega, fun h => absurd h (by omega), fun h => absurd h (by omega), JU.out, JV.out, below_drewN JB.out _, jz⟩
                    case measure => simp [intOf]
              · have u0 : wr.cell? ⟨w1.heap.size, 2, none⟩ = some (.int .i64 u.y.lo) := (blk_cell jU 2).trans rfl
                have u1 : wr.cell? ⟨w1.heap.size, 3, none⟩ = some (.int .i64 u.y.hi) := (blk_cell jU 3).trans rfl
                have v0 : wr.cell? ⟨w2.heap.size, 2, none⟩ = some (.int .i64 v.y.lo) := (blk_cell jV 2).trans rfl
                have v1 : wr.cell? ⟨w2.heap.size, 3, none⟩ = some (.int .i64 v.y.hi) := (blk_cell jV 3).trans rfl
                clear jU jV
                have hq := far1_bd u.y v.y t (by omega) (by omega) ht1.1
                have hacc := accE_bd (far1 u.x v.x t) (far1 u.y v.y t) (far1 u.z v.z t) (ra + rb) 1 (far1_nn _ _ _ ht1.1) (far1_nn _ _ _ ht1.1) (far1_nn _ _ _ ht1.1) R0 R1 (by omega) (by omega) P0.out P1.out P2.out
                have hw1 := IntWalk.i64_in (u.y.lo - v.y.hi) (by omega)
                have hw2 := IntWalk.i64_in (u.y.hi - v.y.lo) (by omega)
                go_wp2_with fail
                go_quiet ((first | (go_at_call 142; exact quiet_same (size_any _ _ (by omega) (by omega))) | (go_at_call 54; exact quiet_same (ceil_if u.y v.y t _ (by omega) (by omega) ht1.1))))
                clear hw1 hw2
                by_cases hbig : ra + rb < far1 u.y v.y t
                · have HR := hide (excR_neg OKX.out (by rw [HU.out, HV.out, HT.out]; omega))
                  go_wp2_with fail
                  all_goals
                    go_ret2
                    exact ⟨by rw [HR.out]; rfl, below_drewN JB.out _⟩
                · have mq := mul_bd (far1 u.y v.y t) (far1 u.y v.y t) 2097152 2097152 (by omega) (by omega) (by omega) (by omega)
                  go_wp2_with fail
                  all_goals
                    go_roundw
                    case rel => exact ⟨2, rfl, rfl, by omega, by omega, fun _ => P0.out (by omega), fun _ => by omega, fun h => absurd h (by omega), JU.out, JV.out, below_drewN JB.out _, jz⟩
                    case measure => simp [intOf]
              · have u0 : wr.cell? ⟨w1.heap.size, 4, none⟩ = some (.int .i64 u.z.lo) := (blk_cell jU 4).trans rfl
                have u1 : wr.cell? ⟨w1.heap.size, 5, none⟩ = some (.int .i64 u.z.hi) := (blk_cell jU 5).trans rfl
                have v0 : wr.cell? ⟨w2.heap.size, 4, none⟩ = some (.int .i64 v.z.lo) := (blk_cell jV 4).trans rfl
                have v1 : wr.cell? ⟨w2.heap.size, 5, none⟩ = some (.int .i64 v.z.hi) := (blk_cell jV 5).trans rfl
                clear jU jV
                have hq := far1_bd u.z v.z t (by omega) (by omega) ht1.1
                have hacc := accE_bd (far1 u.x v.x t) (far1 u.y v.y t) (far1 u.z v.z t) (ra + rb) 2 (far1_nn _ _ _ ht1.1) (far1_nn _ _ _ ht1.1) (far1_nn _ _ _ ht1.1) R0 R1 (by omega) (by omega) P0.out P1.out P2.out
                have hw1 := IntWalk.i64_in (u.z.lo - v.z.hi) (by omega)
                have hw2 := IntWalk.i64_in (u.z.hi - v.z.lo) (by omega)
                go_wp2_with fail
                go_quiet ((first | (go_at_call 142; exact quiet_same (size_any _ _ (by omega) (by omega))) | (go_at_call 54; exact quiet_same (ceil_if u.z v.z t _ (by omega) (by omega) ht1.1))))
                clear hw1 hw2
                by_cases hbig : ra + rb < far1 u.z v.z t
                · have HR := hide (excR_neg OKX.out (by rw [HU.out, HV.out, HT.out]; omega))
                  go_wp2_with fail
                  all_goals
                    go_ret2
                    exact ⟨by rw [HR.out]; rfl, below_drewN JB.out _⟩
                · have mq := mul_bd (far1 u.z v.z t) (far1 u.z v.z t) 2097152 2097152 (by omega) (by omega) (by omega) (by omega)
                  go_wp2_with fail
                  all_goals
                    go_roundw
                    case rel => exact ⟨3, rfl, rfl, by omega, by omega, fun _ => P0.out (by omega), fun _ => P1.out (by omega), fun _ => by omega, JU.out, JV.out, below_drewN JB.out _, jz⟩
                    case measure => simp [intOf]
              · have HR := hide (excR_yes OKX.out (by rw [HU.out, HV.out, HT.out]; exact ⟨P0.out (by omega), P1.out (by omega), P2.out (by omega)⟩))
                rw [HU.out, HV.out, HT.out] at HR
                clear jU jV
                go_wp2_with fail
                go_ret2
                exact ⟨by rw [HR.out]; rfl, JB.out⟩
      · have HR := hide (excR_no (by simp [excOk, HT.out, HT'.out, htt] : excOk left right a b ra rb = false))
        have hne : (t != t') = true := by simp [htt]
        clear htt
        go_wp2_with fail
        go_ret2
        exact ⟨by rw [HR.out]; rfl, HW.out.alloc (by omega) _⟩
end Go.Proofs.Ytionbckpgfaneaa
