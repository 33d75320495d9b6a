/- Walks, part j: overlap.Excess. -/
import Derived.Test.YtionbckpgfaneaaWh
import Derived.Deep.QuietTactic
import Derived.BigQuiet
import Derived.Deep.RegionHeld3
namespace Go.Proofs.Ytionbckpgfaneaa
open Go.RowKit
set_option maxHeartbeats 1000000
set_option maxRecDepth 100000
def absmax (a b : Int) : Int := max (max a (-a)) (max b (-b))
theorem absmax_bd (a b m : Int) (ha : -m ≤ a ∧ a ≤ m) (hb : -m ≤ b ∧ b ≤ m) : 0 ≤ absmax a b ∧ absmax a b ≤ m := by unfold absmax; omega
theorem ceil_eq (h t : Int) (ht : 1 ≤ t) : (h + t - 1) / t = ceilF h t := by
  unfold ceilF
  have e := Int.mul_ediv_add_emod (-h) t
  have l0 := Int.emod_nonneg (-h) (b := t) (by omega)
  have l1 := Int.emod_lt_of_pos (-h) (b := t) (by omega)
  have := ((Int.ediv_emod_unique (a := h + t - 1) (b := t) (r := t - 1 - (-h) % t) (q := -((-h) / t)) (by omega)).2 ⟨by rw [Int.mul_neg]; omega, by omega, by omega⟩).1
  omega
theorem ceil_bd (h t : Int) (ht : 1 ≤ t) (h0 : 0 ≤ h) : 0 ≤ ceilF h t ∧ ceilF h t ≤ h := by
  rw [← ceil_eq h t ht]
  constructor
  · exact Int.ediv_nonneg (by omega) (by omega)
  · have h1 : h + t - 1 < (h + 1) * t := by
      rw [Int.add_mul]
      have : h * 1 ≤ h * t := Int.mul_le_mul_of_nonneg_left ht h0
      omega
    have := (Int.ediv_lt_iff_lt_mul (a := h + t - 1) (b := h + 1) (c := t) (by omega)).2 h1
    omega
/-- overlap.farthest, of two numbers in a row of memory -/
theorem farthest_any (g c : Nat) (a b : Int) (w : World) (h0 : w.cell? ⟨g, 0, none⟩ = some (.int .i64 a)) (h1 : w.cell? ⟨g, 1, none⟩ = some (.int .i64 b))
    (ha : -1000000000000000000 ≤ a) (ha2 : a ≤ 1000000000000000000) (hb : -1000000000000000000 ≤ b) (hb2 : b ≤ 1000000000000000000) :
    Calls Try.prog 105 #[.slice (some ⟨g, 0, none⟩) 2 c] w fun e w' => e = .returned (.int .i64 (absmax a b)) ∧ w = w' := by
  go_enter Try.func105, Try.ntmps105
  go_wp2
  go_rounds 3
  all_goals
    go_ret
    exact ⟨ret_int (by unfold absmax; omega), rfl⟩
/-- the deferred closure of overlap.Excess where nothing panicked -/
theorem idle102 (p q : Addr) (w : World) :
    CallsD Try.prog 102 #[.pointer (some p), .pointer (some q)] .returning w fun e u' w' => e = .returned (.tuple #[]) ∧ u' = .returning ∧ w' = w := by
  refine callsD_of_wpS Try.func102 rfl fun c₀ cs hu => ?_
  apply wpS_seq
  apply wpS_region
  simp [wpOpsS, go_sem, recoverD, hu, Try.ntmps102, Exit.thenS]
  refine wpS_cond (t := false) (by simp [Act.eval, Array.replicate]) ?_
  simp only [Bool.false_eq_true, if_false]
  refine wpS_of_wp (wp_skip ?_)
  cases c₀
  simp_all [bodyPostS, results, Try.results102]
theorem idle106 (p : Addr) (w : World) :
    CallsD Try.prog 106 #[.pointer (some p)] .returning w fun e u' w' => e = .returned (.tuple #[]) ∧ u' = .returning ∧ w' = w := by
  refine callsD_of_wpS Try.func106 rfl fun c₀ cs hu => ?_
  apply wpS_seq
  apply wpS_region
  simp [wpOpsS, go_sem, recoverD, hu, Try.ntmps106, Exit.thenS]
  refine wpS_cond (t := false) (by simp [Act.eval, Array.replicate]) ?_
  simp only [Bool.false_eq_true, if_false]
  refine wpS_of_wp (wp_skip ?_)
  cases c₀
  simp_all [bodyPostS, results, Try.results106]
theorem new_at (w : World) (o : Obj) {k : Nat} (h : k = w.heap.size) : (w.alloc o).heap[k]? = some o := by rw [h]; exact heap_alloc_new w o
theorem hmf : ∀ (fn : Fn) (first cap : Array Value) (w : World), (Instr.makeFunc fn first cap).run Try.prog w = .ok (.func fn first cap) w := fun _ _ _ _ => rfl
def combU (l : List IV) (ws : List Int) : IV := if combOk l ws then comb l ws else zeroIV
def combT (l : List IV) (ws : List Int) : Int := if combOk l ws then ws.sum else 0
theorem combR_form (l : List IV) (ws : List Int) : combR l ws = .tuple #[.agg #[.int .i64 (combU l ws).x.lo, .int .i64 (combU l ws).x.hi, .int .i64 (combU l ws).y.lo, .int .i64 (combU l ws).y.hi, .int .i64 (combU l ws).z.lo, .int .i64 (combU l ws).z.hi], .int .i64 (combT l ws), .bool (combOk l ws)] := by
  unfold combR combU combT
  cases h : combOk l ws <;> simp [IV.v]
theorem combOk_of {l : List IV} {ws : List Int} (h : combOk l ws = true) : placedB l = true ∧ ws.length = l.length ∧ wOk ws = true ∧ 1 ≤ ws.sum ∧ ws.sum ≤ 65536 := by
  simp [combOk] at h
  exact ⟨h.1.1.1, h.1.1.2, h.1.2, h.2.1, h.2.2⟩
theorem combU_bd (l : List IV) (ws : List Int) : IVIn (combU l ws) 140737488355328 := by
  unfold combU
  cases h : combOk l ws
  · simp [zeroIV, IVIn, IvIn]
  · obtain ⟨h1, h2, h3, _⟩ := combOk_of h
    have := comb_bd ws l l.length (by omega) (Nat.le_refl _) h1 (fun j hj hw => by
      unfold wOk at h3
      rw [List.all_eq_true] at h3
      simpa using h3 ws[j] (by simp))
    rw [List.take_of_length_le (Nat.le_refl _), List.take_of_length_le (by omega)] at this
    simpa using this
theorem combT_bd (l : List IV) (ws : List Int) : 0 ≤ combT l ws ∧ combT l ws ≤ 65536 := by
  unfold combT
  cases h : combOk l ws
  · simp
  · have := combOk_of h
    simp; omega
/-- the bound of the distance along an axis -/
def far1 (u v : Iv) (W : Int) : Int := ceilF (absmax (u.lo - v.hi) (u.hi - v.lo)) W
def exc (u v : IV) (W R : Int) : Int := if far1 u.x v.x W > R ∨ far1 u.y v.y W > R ∨ far1 u.z v.z W > R then -1 else R * R - far1 u.x v.x W * far1 u.x v.x W - far1 u.y v.y W * far1 u.y v.y W - far1 u.z v.z W * far1 u.z v.z W
def radOk (r : Int) : Bool := decide (0 ≤ r ∧ r ≤ 1048576)
def excOk (left right : List Int) (a b : List IV) (ra rb : Int) : Bool := combOk a left && combOk b right && decide (combT a left = combT b right) && radOk ra && radOk rb
def excR (left right : List Int) (a b : List IV) (ra rb : Int) : Value := if excOk left right a b ra rb then .tuple #[.int .i64 (exc (combU a left) (combU b right) (combT a left) (ra + rb)), .bool true] else .tuple #[.int .i64 0, .bool false]
theorem excR_no {left right : List Int} {a b : List IV} {ra rb : Int} (h : excOk left right a b ra rb = false) : excR left right a b ra rb = .tuple #[.int .i64 0, .bool false] := by simp [excR, h]
def accE (m0 m1 m2 R k : Int) : Int := if k ≤ 0 then R * R else if k ≤ 1 then R * R - m0 * m0 else if k ≤ 2 then R * R - m0 * m0 - m1 * m1 else R * R - m0 * m0 - m1 * m1 - m2 * m2
def EInv (w : World) (N U V : Nat) (u v : IV) (m0 m1 m2 R : Int) (i : Value) (wr : World) : Prop :=
  ∃ k : Int, i = .int .i64 k ∧ 0 ≤ k ∧ k ≤ 3 ∧ (0 < k → m0 ≤ R) ∧ (1 < k → m1 ≤ R) ∧ (2 < k → m2 ≤ R) ∧ wr.heap[N]? = some (.cells #[.int .i64 (accE m0 m1 m2 R k)] 2 (0, 0)) ∧ wr.heap[N + 1]? = some (.cells #[.bool false] 4 (0, 0)) ∧
    wr.heap[U]? = some (.cells (ivc u) 44 (0, 0)) ∧ wr.heap[V]? = some (.cells (ivc v) 44 (0, 0)) ∧ Below N w wr ∧ V < wr.heap.size
theorem far1_nn (u v : Iv) (t : Int) (ht : 1 ≤ t) : 0 ≤ far1 u v t := (ceil_bd _ t ht (by unfold absmax; omega)).1
theorem accE_bd (m0 m1 m2 R k : Int) (h0 : 0 ≤ m0) (h1 : 0 ≤ m1) (h2 : 0 ≤ m2) (hR : 0 ≤ R) (hR2 : R ≤ 2097152) (hk0 : 0 ≤ k) (hk : k ≤ 3) (p0 : 0 < k → m0 ≤ R) (p1 : 1 < k → m1 ≤ R) (p2 : 2 < k → m2 ≤ R) : -13194139533312 ≤ accE m0 m1 m2 R k ∧ accE m0 m1 m2 R k ≤ 4398046511104 := by
  have q := mul_bd R R 2097152 2097152 hR hR2 (by omega) hR2
  have qn : 0 ≤ R * R := Int.mul_nonneg hR hR
  have a0 : 0 < k → 0 ≤ m0 * m0 ∧ m0 * m0 ≤ 4398046511104 := fun h => ⟨Int.mul_nonneg h0 h0, (mul_bd m0 m0 2097152 2097152 h0 (by have := p0 h; omega) (by omega) (by have := p0 h; omega)).2⟩
  have a1 : 1 < k → 0 ≤ m1 * m1 ∧ m1 * m1 ≤ 4398046511104 := fun h => ⟨Int.mul_nonneg h1 h1, (mul_bd m1 m1 2097152 2097152 h1 (by have := p1 h; omega) (by omega) (by have := p1 h; omega)).2⟩
  have a2 : 2 < k → 0 ≤ m2 * m2 ∧ m2 * m2 ≤ 4398046511104 := fun h => ⟨Int.mul_nonneg h2 h2, (mul_bd m2 m2 2097152 2097152 h2 (by have := p2 h; omega) (by omega) (by have := p2 h; omega)).2⟩
  unfold accE
  split
  · omega
  · have := a0 (by omega)
    split
    · omega
    · have := a1 (by omega)
      split
      · omega
      · have := a2 (by omega)
        omega
theorem excR_neg {left right : List Int} {a b : List IV} {ra rb : Int} (h : excOk left right a b ra rb = true) (hf : far1 (combU a left).x (combU b right).x (combT a left) > ra + rb ∨ far1 (combU a left).y (combU b right).y (combT a left) > ra + rb ∨ far1 (combU a left).z (combU b right).z (combT a left) > ra + rb) : excR left right a b ra rb = .tuple #[.int .i64 (-1), .bool true] := by
  unfold excR exc
  rw [if_pos h, if_pos hf]
theorem excR_yes {left right : List Int} {a b : List IV} {ra rb : Int} (h : excOk left right a b ra rb = true) (hf : far1 (combU a left).x (combU b right).x (combT a left) ≤ ra + rb ∧ far1 (combU a left).y (combU b right).y (combT a left) ≤ ra + rb ∧ far1 (combU a left).z (combU b right).z (combT a left) ≤ ra + rb) :
    excR left right a b ra rb = .tuple #[.int .i64 (accE (far1 (combU a left).x (combU b right).x (combT a left)) (far1 (combU a left).y (combU b right).y (combT a left)) (far1 (combU a left).z (combU b right).z (combT a left)) (ra + rb) 3), .bool true] := by
  unfold excR exc
  rw [if_pos h, if_neg (by omega)]
  rfl
theorem excess_any (left right : List Int) (a b : List IV) (ra rb : Int) (A B C D : Option Addr) (c1 c2 c3 c4 : Nat) (w : World) (hl : SlN w A left) (hr : SlN w B right) (ha : SlI w C a) (hb : SlI w D b)
   (m1 : left.length ≤ 9223372036854775807) (m2 : right.length ≤ 9223372036854775807) (m3 : a.length ≤ 9223372036854775807) (m4 : b.length ≤ 9223372036854775807) :
    Calls Try.prog 47 #[.slice A left.length c1, .slice B right.length c2, .slice C a.length c3, .int .i64 ra, .slice D b.length c4, .int .i64 rb] w fun e w' => e = .returned (excR left right a b ra rb) ∧ Below w.heap.size w w' := by
  have hmf := hmf
  have HL := hide hl; have HR := hide hr; have HA := hide ha; have HB := hide hb
  clear hl hr ha hb
  go_enter_defers Try.func47, Try.ntmps47
  go_wp2_with fail
  refine (combine_any C A a left c3 c1 _ (by exact Sl.alloc (Sl.alloc HA.out _) _) (by exact Sl.alloc (Sl.alloc HL.out _) _) m3 m1).mono ?_
  rintro e w1 ⟨rfl, hb1⟩
  rw [combR_form]
  have hbw1 : Below w.heap.size w w1 := (((Below.refl _ _).alloc (Nat.le_refl _) _).alloc (by simp) _).trans (hb1.mono (by simp; omega))
  have hz1 : w.heap.size + 1 < w1.heap.size := by have := hb1.size; simp at this; omega
  have hN : w1.heap[w.heap.size]? = some (.cells #[.int .i64 0] 2 (0, 0)) := (hb1.block _ (by simp; omega)).trans ((Below.heap_alloc _ _ _ (by simp)).trans (heap_alloc_new w _))
  have hM : w1.heap[w.heap.size + 1]? = some (.cells #[.bool false] 4 (0, 0)) := (hb1.block _ (by simp)).trans (new_at _ _ (by simp))
  clear hb1
  have HN := hide hN; have HM := hide hM; have HW1 := hide hbw1; clear hN hM hbw1
  generalize hu : combU a left = u
  generalize ht : combT a left = t
  generalize hf : combOk a left = f
  have HU := hide hu; have HT := hide ht; have HF := hide hf; clear hu ht hf
  go_wp2_with fail
  refine (combine_any D B b right c4 c2 _ (by exact Sl.alloc (HB.out.below HW1.out) _) (by exact Sl.alloc (HR.out.below HW1.out) _) m4 m2).mono ?_
  rintro e w2 ⟨rfl, hb2⟩
  rw [combR_form]
  generalize hu' : combU b right = v
  generalize ht' : combT b right = t'
  generalize hf' : combOk b right = f'
  have HV := hide hu'; have HT' := hide ht'; have HF' := hide hf'; clear hu' ht' hf'
  have hz2 : w1.heap.size < w2.heap.size := by have := hb2.size; simp at this; omega
  have hN2 : w2.heap[w.heap.size]? = some (.cells #[.int .i64 0] 2 (0, 0)) := (hb2.block _ (by simp; omega)).trans ((Below.heap_alloc _ _ _ (by omega)).trans HN.out)
  have hM2 : w2.heap[w.heap.size + 1]? = some (.cells #[.bool false] 4 (0, 0)) := (hb2.block _ (by simp; omega)).trans ((Below.heap_alloc _ _ _ (by omega)).trans HM.out)
  have hU2 : w2.heap[w1.heap.size]? = some (.cells #[.int .i64 u.x.lo, .int .i64 u.x.hi, .int .i64 u.y.lo, .int .i64 u.y.hi, .int .i64 u.z.lo, .int .i64 u.z.hi] 44 (0, 0)) := (hb2.block _ (by simp)).trans (heap_alloc_new w1 _)
  have hbw2 : Below w.heap.size w w2 := (HW1.out.alloc (by omega) _).trans (hb2.mono (by simp; omega))
  clear HN HM HW1 hb2
  have n0 := blk_cell hN2; have n1 := blk_frozen hN2
  have k0 := blk_cell hM2; have k1 := blk_frozen hM2
  have u0 := blk_cell hU2
  have HN := hide hN2; have HM := hide hM2; have HU2 := hide hU2; have HW := hide hbw2; clear hN2 hM2 hU2 hbw2
  have l1 : w.heap.size < w2.heap.size := by omega
  have l2 : w.heap.size + 1 < w2.heap.size := by omega
  cases f
  · have HR := hide (excR_no (by simp [excOk, HF.out] : excOk left right a b ra rb = false))
    go_wp2_with fail
    refine leaves_cons (f := 102) (args := #[.pointer (some ⟨w.heap.size, 0, none⟩), .pointer (some ⟨w.heap.size + 1, 0, none⟩)]) (by simp) (by simp [go_sem]) ?_
    refine (idle102 _ _ _).mono ?_
    rintro e u' w'' ⟨rfl, rfl, rfl⟩
    refine ⟨.tuple #[.int .i64 0, .bool false], by simp [results, Try.results47, go_sem, n0, k0, l1, l2], by rw [HR.out], ?_⟩
    exact ((HW.out.setCell (Nat.le_refl _) _).setCell (by simp) _).alloc (by simp [World.setCell]; omega) _
  · cases f'
    · have HR := hide (excR_no (by simp [excOk, HF'.out] : excOk left right a b ra rb = false))
      go_wp2_with fail
      refine leaves_cons (f := 102) (args := #[.pointer (some ⟨w.heap.size, 0, none⟩), .pointer (some ⟨w.heap.size + 1, 0, none⟩)]) (by simp) (by simp [go_sem]) ?_
      refine (idle102 _ _ _).mono ?_
      rintro e u' w'' ⟨rfl, rfl, rfl⟩
      refine ⟨.tuple #[.int .i64 0, .bool false], by simp [results, Try.results47, go_sem, n0, k0, l1, l2], by rw [HR.out], ?_⟩
      exact ((HW.out.setCell (Nat.le_refl _) _).setCell (by simp) _).alloc (by simp [World.setCell]; omega) _
    · by_cases htt : t = t'
      · cases hra : radOk ra
        · have HR := hide (excR_no (by simp [excOk, hra] : excOk left right a b ra rb = false))
          have hne : (t != t') = false := by simp [htt]
          clear htt
          unfold radOk at hra
          go_wp2_with fail
          refine (isRadius_any ra _).mono ?_
          rintro e w3 ⟨rfl, rfl⟩
          rw [hra]
          go_wp2_with fail
          refine leaves_cons (f := 102) (args := #[.pointer (some ⟨w.heap.size, 0, none⟩), .pointer (some ⟨w.heap.size + 1, 0, none⟩)]) (by simp) (by simp [go_sem]) ?_
          refine (idle102 _ _ _).mono ?_
          rintro e u' w'' ⟨rfl, rfl, rfl⟩
          refine ⟨.tuple #[.int .i64 0, .bool false], by simp [results, Try.results47, go_sem, n0, k0, l1, l2], by rw [HR.out], ?_⟩
          exact ((HW.out.setCell (Nat.le_refl _) _).setCell (by simp) _).alloc (by simp [World.setCell]; omega) _
        · cases hrb : radOk rb
          · have HR := hide (excR_no (by simp [excOk, hrb] : excOk left right a b ra rb = false))
            have hne : (t != t') = false := by simp [htt]
            clear htt
            unfold radOk at hra hrb
            go_wp2_with fail
            refine (isRadius_any ra _).mono ?_
            rintro e w3 ⟨rfl, rfl⟩
            rw [hra]
            go_wp2_with fail
            refine (isRadius_any rb _).mono ?_
            rintro e w3 ⟨rfl, rfl⟩
            rw [hrb]
            go_wp2_with fail
            refine leaves_cons (f := 102) (args := #[.pointer (some ⟨w.heap.size, 0, none⟩), .pointer (some ⟨w.heap.size + 1, 0, none⟩)]) (by simp) (by simp [go_sem]) ?_
            refine (idle102 _ _ _).mono ?_
            rintro e u' w'' ⟨rfl, rfl, rfl⟩
            refine ⟨.tuple #[.int .i64 0, .bool false], by simp [results, Try.results47, go_sem, n0, k0, l1, l2], by rw [HR.out], ?_⟩
            exact ((HW.out.setCell (Nat.le_refl _) _).setCell (by simp) _).alloc (by simp [World.setCell]; omega) _
          · have hne : (t != t') = false := by simp [htt]
            have hok : excOk left right a b ra rb = true := by simp [excOk, HF.out, HF'.out, hra, hrb, HT.out, HT'.out, htt]
            subst htt
            have ra1 : 0 ≤ ra ∧ ra ≤ 1048576 := by simpa [radOk] using hra
            have rb1 : 0 ≤ rb ∧ rb ≤ 1048576 := by simpa [radOk] using hrb
            have ht1 : 1 ≤ t ∧ t ≤ 65536 := by
              have := combOk_of HF.out
              rw [← HT.out, combT, HF.out]
              simp; omega
            have hub := combU_bd a left
            have hvb := combU_bd b right
            rw [HU.out] at hub
            rw [HV.out] at hvb
            obtain ⟨⟨⟨q1, q2⟩, ⟨q3, q4⟩⟩, ⟨⟨q5, q6⟩, ⟨q7, q8⟩⟩, ⟨⟨q9, q10⟩, ⟨q11, q12⟩⟩⟩ := hub
            obtain ⟨⟨⟨r1, r2⟩, ⟨r3, r4⟩⟩, ⟨⟨r5, r6⟩, ⟨r7, r8⟩⟩, ⟨⟨r9, r10⟩, ⟨r11, r12⟩⟩⟩ := hvb
            obtain ⟨R, hR⟩ : ∃ R, R = ra + rb := ⟨_, rfl⟩
            have R0 : 0 ≤ ra + rb := by omega
            have R1 : ra + rb ≤ 2097152 := by omega
            have RR := mul_bd (ra + rb) (ra + rb) 2097152 2097152 R0 R1 (by omega) R1
            have OKX := hide hok; have HRR := hide hR
            clear hok hR
            unfold radOk at hra hrb
            have HRA := hide hra; have HRB := hide hrb
            go_wp2_with fail
            refine (isRadius_any ra _).mono ?_
            rintro e w3 ⟨rfl, rfl⟩
            rw [HRA.out]
            go_wp2_with fail
            refine (isRadius_any rb _).mono ?_
            rintro e w3 ⟨rfl, rfl⟩
            rw [HRB.out]
            clear hra hrb
            go_wp2_with fail
            go_loopw [66] (fun i wr => EInv w w.heap.size w1.heap.size w2.heap.size u v (far1 u.x v.x t) (far1 u.y v.y t) (far1 u.z v.z t) (ra + rb) i wr) (fun i _ => 3 - (intOf i).toNat)
            case atStart =>
              refine ⟨0, rfl, by omega, by omega, by omega, by omega, by omega, ?_, ?_, ?_, ?_, ?_, ?_⟩
              · exact (Below.heap_alloc _ _ _ (by simp [World.setCell]; omega)).trans (blk_set HN.out 0 _)
              · exact (Below.heap_alloc _ _ _ (by simp [World.setCell]; omega)).trans ((Below.heap_setCell _ _ _ _ (by simp)).trans HM.out)
              · exact (Below.heap_alloc _ _ _ (by simp [World.setCell]; omega)).trans ((Below.heap_setCell _ _ _ _ (by simp; omega)).trans HU2.out)
              · exact new_at _ _ (by simp [World.setCell])
              · exact (HW.out.setCell (Nat.le_refl _) _).alloc (by simp [World.setCell]; omega) _
              · simp [World.setCell]
            case round =>
              clear n0 n1 k0 k1 u0 HN HM HU2 HW
              obtain ⟨k, rfl, hk0, hk3, p0, p1, p2, jN, jM, jU, jV, jB, jz⟩ := hrel
              have P0 := hide p0; have P1 := hide p1; have P2 := hide p2; have JN := hide jN; have JM := hide jM; have JU := hide jU; have JV := hide jV; have JB := hide jB
              have n0 := blk_cell jN; have n1 := blk_frozen jN
              have k0 := blk_cell jM; have k1 := blk_frozen jM
              clear p0 p1 p2 jN jM jB
              have j1 : w.heap.size < wr.heap.size := by omega
              have j2 : w.heap.size + 1 < wr.heap.size := by omega
              have j3 : w1.heap.size < wr.heap.size := by omega
              obtain rfl | rfl | rfl | rfl : k = 0 ∨ k = 1 ∨ k = 2 ∨ k = 3 := by omega
              · have u0 : wr.cell? ⟨w1.heap.size, 0, none⟩ = some (.int .i64 u.x.lo) := (blk_cell jU 0).trans rfl
                have u1 : wr.cell? ⟨w1.heap.size, 1, none⟩ = some (.int .i64 u.x.hi) := (blk_cell jU 1).trans rfl
                have v0 : wr.cell? ⟨w2.heap.size, 0, none⟩ = some (.int .i64 v.x.lo) := (blk_cell jV 0).trans rfl
                have v1 : wr.cell? ⟨w2.heap.size, 1, none⟩ = some (.int .i64 v.x.hi) := (blk_cell jV 1).trans rfl
                clear jU jV
                have hH := absmax_bd (u.x.lo - v.x.hi) (u.x.hi - v.x.lo) 281474976710656 (by omega) (by omega)
                have hq := ceil_bd (absmax (u.x.lo - v.x.hi) (u.x.hi - v.x.lo)) t ht1.1 hH.1
                rw [← ceil_eq _ t ht1.1] at hq
                have HQ := hide (show (absmax (u.x.lo - v.x.hi) (u.x.hi - v.x.lo) + t - 1) / t = far1 u.x v.x t from ceil_eq _ t ht1.1)
                have hacc := accE_bd (far1 u.x v.x t) (far1 u.y v.y t) (far1 u.z v.z t) (ra + rb) 0 (far1_nn _ _ _ ht1.1) (far1_nn _ _ _ ht1.1) (far1_nn _ _ _ ht1.1) R0 R1 (by omega) (by omega) P0.out P1.out P2.out
                have hw1 := IntWalk.i64_in (u.x.lo - v.x.hi) (by omega)
                have hw2 := IntWalk.i64_in (u.x.hi - v.x.lo) (by omega)
                by_cases hbig : ra + rb < (absmax (u.x.lo - v.x.hi) (u.x.hi - v.x.lo) + t - 1) / t
                · have HR := hide (excR_neg OKX.out (by rw [HU.out, HV.out, HT.out]; have := HQ.out; omega))
                  go_wp2_with fail
                  go_region_held3 (fun w' => w'.cell? ⟨w1.heap.size, 0, none⟩ = some (.int .i64 u.x.lo) ∧ w'.cell? ⟨w1.heap.size, 1, none⟩ = some (.int .i64 u.x.hi) ∧ w'.cell? ⟨w2.heap.size, 0, none⟩ = some (.int .i64 v.x.lo) ∧ w'.cell? ⟨w2.heap.size, 1, none⟩ = some (.int .i64 v.x.hi))
                    (go_keep) ((go_at_call 105; (refine (farthest_any _ _ (u.x.lo - v.x.hi) (u.x.hi - v.x.lo) _ (by simp) (by simp) (by omega) (by omega) (by omega) (by omega)).mono ?_); rintro e w9 ⟨rfl, rfl⟩))
                  clear hw1 hw2
                  go_wp2_with fail
                  refine leaves_cons (f := 102) (args := #[.pointer (some ⟨w.heap.size, 0, none⟩), .pointer (some ⟨w.heap.size + 1, 0, none⟩)]) (by simp) (by simp [go_sem]) ?_
                  refine (idle102 _ _ _).mono ?_
                  rintro e u' w'' ⟨rfl, rfl, rfl⟩
                  refine ⟨.tuple #[.int .i64 (-1), .bool true], by simp [results, Try.results47, go_sem, n0, k0, j1, j2], by rw [HR.out], ?_⟩
                  exact (((JB.out.setCell (Nat.le_refl _) _).setCell (by simp) _).alloc (by simp [World.setCell]; omega) _).drew
                · have mq := mul_bd ((absmax (u.x.lo - v.x.hi) (u.x.hi - v.x.lo) + t - 1) / t) ((absmax (u.x.lo - v.x.hi) (u.x.hi - v.x.lo) + t - 1) / t) 2097152 2097152 (by omega) (by omega) (by omega) (by omega)
                  go_wp2_with fail
                  go_region_held3 (fun w' => w'.cell? ⟨w1.heap.size, 0, none⟩ = some (.int .i64 u.x.lo) ∧ w'.cell? ⟨w1.heap.size, 1, none⟩ = some (.int .i64 u.x.hi) ∧ w'.cell? ⟨w2.heap.size, 0, none⟩ = some (.int .i64 v.x.lo) ∧ w'.cell? ⟨w2.heap.size, 1, none⟩ = some (.int .i64 v.x.hi))
                    (go_keep) ((go_at_call 105; (refine (farthest_any _ _ (u.x.lo - v.x.hi) (u.x.hi - v.x.lo) _ (by simp) (by simp) (by omega) (by omega) (by omega) (by omega)).mono ?_); rintro e w9 ⟨rfl, rfl⟩))
                  clear hw1 hw2
                  go_wp2_with fail
                  go_roundw
                  case rel =>
                    refine ⟨1, rfl, by omega, by omega, fun _ => by rw [← HQ.out]; omega, fun h => absurd h (by omega), fun h => absurd h (by omega), ?_, ?_, ?_, ?_, ?_, ?_⟩
                    · exact (Below.heap_alloc _ _ _ (by simp [World.setCell]; omega)).trans ((blk_set JN.out 0 _).trans (by rw [HQ.out]; rfl))
                    · exact (Below.heap_alloc _ _ _ (by simp [World.setCell]; omega)).trans ((Below.heap_setCell _ _ _ _ (by simp)).trans JM.out)
                    · exact (Below.heap_alloc _ _ _ (by simp [World.setCell]; omega)).trans ((Below.heap_setCell _ _ _ _ (by simp; omega)).trans JU.out)
                    · exact (Below.heap_alloc _ _ _ (by simp [World.setCell]; omega)).trans ((Below.heap_setCell _ _ _ _ (by simp; omega)).trans JV.out)
                    · exact ((JB.out.setCell (Nat.le_refl _) _).alloc (by simp [World.setCell]; omega) _).drew
                    · simp [World.setCell]; omega
                  case measure => simp [intOf]
              · have u0 : wr.cell? ⟨w1.heap.size, 2, none⟩ = some (.int .i64 u.y.lo) := (blk_cell jU 2).trans rfl
                have u1 : wr.cell? ⟨w1.heap.size, 3, none⟩ = some (.int .i64 u.y.hi) := (blk_cell jU 3).trans rfl
                have v0 : wr.cell? ⟨w2.heap.size, 2, none⟩ = some (.int .i64 v.y.lo) := (blk_cell jV 2).trans rfl
                have v1 : wr.cell? ⟨w2.heap.size, 3, none⟩ = some (.int .i64 v.y.hi) := (blk_cell jV 3).trans rfl
                clear jU jV
                have hH := absmax_bd (u.y.lo - v.y.hi) (u.y.hi - v.y.lo) 281474976710656 (by omega) (by omega)
                have hq := ceil_bd (absmax (u.y.lo - v.y.hi) (u.y.hi - v.y.lo)) t ht1.1 hH.1
                rw [← ceil_eq _ t ht1.1] at hq
                have HQ := hide (show (absmax (u.y.lo - v.y.hi) (u.y.hi - v.y.lo) + t - 1) / t = far1 u.y v.y t from ceil_eq _ t ht1.1)
                have hacc := accE_bd (far1 u.x v.x t) (far1 u.y v.y t) (far1 u.z v.z t) (ra + rb) 1 (far1_nn _ _ _ ht1.1) (far1_nn _ _ _ ht1.1) (far1_nn _ _ _ ht1.1) R0 R1 (by omega) (by omega) P0.out P1.out P2.out
                have hw1 := IntWalk.i64_in (u.y.lo - v.y.hi) (by omega)
                have hw2 := IntWalk.i64_in (u.y.hi - v.y.lo) (by omega)
                by_cases hbig : ra + rb < (absmax (u.y.lo - v.y.hi) (u.y.hi - v.y.lo) + t - 1) / t
                · have HR := hide (excR_neg OKX.out (by rw [HU.out, HV.out, HT.out]; have := HQ.out; omega))
                  go_wp2_with fail
                  go_region_held3 (fun w' => w'.cell? ⟨w1.heap.size, 2, none⟩ = some (.int .i64 u.y.lo) ∧ w'.cell? ⟨w1.heap.size, 3, none⟩ = some (.int .i64 u.y.hi) ∧ w'.cell? ⟨w2.heap.size, 2, none⟩ = some (.int .i64 v.y.lo) ∧ w'.cell? ⟨w2.heap.size, 3, none⟩ = some (.int .i64 v.y.hi))
                    (go_keep) ((go_at_call 105; (refine (farthest_any _ _ (u.y.lo - v.y.hi) (u.y.hi - v.y.lo) _ (by simp) (by simp) (by omega) (by omega) (by omega) (by omega)).mono ?_); rintro e w9 ⟨rfl, rfl⟩))
                  clear hw1 hw2
                  go_wp2_with fail
                  refine leaves_cons (f := 102) (args := #[.pointer (some ⟨w.heap.size, 0, none⟩), .pointer (some ⟨w.heap.size + 1, 0, none⟩)]) (by simp) (by simp [go_sem]) ?_
                  refine (idle102 _ _ _).mono ?_
                  rintro e u' w'' ⟨rfl, rfl, rfl⟩
                  refine ⟨.tuple #[.int .i64 (-1), .bool true], by simp [results, Try.results47, go_sem, n0, k0, j1, j2], by rw [HR.out], ?_⟩
                  exact (((JB.out.setCell (Nat.le_refl _) _).setCell (by simp) _).alloc (by simp [World.setCell]; omega) _).drew
                · have mq := mul_bd ((absmax (u.y.lo - v.y.hi) (u.y.hi - v.y.lo) + t - 1) / t) ((absmax (u.y.lo - v.y.hi) (u.y.hi - v.y.lo) + t - 1) / t) 2097152 2097152 (by omega) (by omega) (by omega) (by omega)
                  go_wp2_with fail
                  go_region_held3 (fun w' => w'.cell? ⟨w1.heap.size, 2, none⟩ = some (.int .i64 u.y.lo) ∧ w'.cell? ⟨w1.heap.size, 3, none⟩ = some (.int .i64 u.y.hi) ∧ w'.cell? ⟨w2.heap.size, 2, none⟩ = some (.int .i64 v.y.lo) ∧ w'.cell? ⟨w2.heap.size, 3, none⟩ = some (.int .i64 v.y.hi))
                    (go_keep) ((go_at_call 105; (refine (farthest_any _ _ (u.y.lo - v.y.hi) (u.y.hi - v.y.lo) _ (by simp) (by simp) (by omega) (by omega) (by omega) (by omega)).mono ?_); rintro e w9 ⟨rfl, rfl⟩))
                  clear hw1 hw2
                  go_wp2_with fail
                  go_roundw
                  case rel =>
                    refine ⟨2, rfl, by omega, by omega, fun _ => P0.out (by omega), fun _ => by rw [← HQ.out]; omega, fun h => absurd h (by omega), ?_, ?_, ?_, ?_, ?_, ?_⟩
                    · exact (Below.heap_alloc _ _ _ (by simp [World.setCell]; omega)).trans ((blk_set JN.out 0 _).trans (by rw [HQ.out]; rfl))
                    · exact (Below.heap_alloc _ _ _ (by simp [World.setCell]; omega)).trans ((Below.heap_setCell _ _ _ _ (by simp)).trans JM.out)
                    · exact (Below.heap_alloc _ _ _ (by simp [World.setCell]; omega)).trans ((Below.heap_setCell _ _ _ _ (by simp; omega)).trans JU.out)
                    · exact (Below.heap_alloc _ _ _ (by simp [World.setCell]; omega)).trans ((Below.heap_setCell _ _ _ _ (by simp; omega)).trans JV.out)
                    · exact ((JB.out.setCell (Nat.le_refl _) _).alloc (by simp [World.setCell]; omega) _).drew
                    · simp [World.setCell]; omega
                  case measure => simp [intOf]
              · have u0 : wr.cell? ⟨w1.heap.size, 4, none⟩ = some (.int .i64 u.z.lo) := (blk_cell jU 4).trans rfl
                have u1 : wr.cell? ⟨w1.heap.size, 5, none⟩ = some (.int .i64 u.z.hi) := (blk_cell jU 5).trans rfl
                have v0 : wr.cell? ⟨w2.heap.size, 4, none⟩ = some (.int .i64 v.z.lo) := (blk_cell jV 4).trans rfl
                have v1 : wr.cell? ⟨w2.heap.size, 5, none⟩ = some (.int .i64 v.z.hi) := (blk_cell jV 5).trans rfl
                clear jU jV
                have hH := absmax_bd (u.z.lo - v.z.hi) (u.z.hi - v.z.lo) 281474976710656 (by omega) (by omega)
                have hq := ceil_bd (absmax (u.z.lo - v.z.hi) (u.z.hi - v.z.lo)) t ht1.1 hH.1
                rw [← ceil_eq _ t ht1.1] at hq
                have HQ := hide (show (absmax (u.z.lo - v.z.hi) (u.z.hi - v.z.lo) + t - 1) / t = far1 u.z v.z t from ceil_eq _ t ht1.1)
                have hacc := accE_bd (far1 u.x v.x t) (far1 u.y v.y t) (far1 u.z v.z t) (ra + rb) 2 (far1_nn _ _ _ ht1.1) (far1_nn _ _ _ ht1.1) (far1_nn _ _ _ ht1.1) R0 R1 (by omega) (by omega) P0.out P1.out P2.out
                have hw1 := IntWalk.i64_in (u.z.lo - v.z.hi) (by omega)
                have hw2 := IntWalk.i64_in (u.z.hi - v.z.lo) (by omega)
                by_cases hbig : ra + rb < (absmax (u.z.lo - v.z.hi) (u.z.hi - v.z.lo) + t - 1) / t
                · have HR := hide (excR_neg OKX.out (by rw [HU.out, HV.out, HT.out]; have := HQ.out; omega))
                  go_wp2_with fail
                  go_region_held3 (fun w' => w'.cell? ⟨w1.heap.size, 4, none⟩ = some (.int .i64 u.z.lo) ∧ w'.cell? ⟨w1.heap.size, 5, none⟩ = some (.int .i64 u.z.hi) ∧ w'.cell? ⟨w2.heap.size, 4, none⟩ = some (.int .i64 v.z.lo) ∧ w'.cell? ⟨w2.heap.size, 5, none⟩ = some (.int .i64 v.z.hi))
                    (go_keep) ((go_at_call 105; (refine (farthest_any _ _ (u.z.lo - v.z.hi) (u.z.hi - v.z.lo) _ (by simp) (by simp) (by omega) (by omega) (by omega) (by omega)).mono ?_); rintro e w9 ⟨rfl, rfl⟩))
                  clear hw1 hw2
                  go_wp2_with fail
                  refine leaves_cons (f := 102) (args := #[.pointer (some ⟨w.heap.size, 0, none⟩), .pointer (some ⟨w.heap.size + 1, 0, none⟩)]) (by simp) (by simp [go_sem]) ?_
                  refine (idle102 _ _ _).mono ?_
                  rintro e u' w'' ⟨rfl, rfl, rfl⟩
                  refine ⟨.tuple #[.int .i64 (-1), .bool true], by simp [results, Try.results47, go_sem, n0, k0, j1, j2], by rw [HR.out], ?_⟩
                  exact (((JB.out.setCell (Nat.le_refl _) _).setCell (by simp) _).alloc (by simp [World.setCell]; omega) _).drew
                · have mq := mul_bd ((absmax (u.z.lo - v.z.hi) (u.z.hi - v.z.lo) + t - 1) / t) ((absmax (u.z.lo - v.z.hi) (u.z.hi - v.z.lo) + t - 1) / t) 2097152 2097152 (by omega) (by omega) (by omega) (by omega)
                  go_wp2_with fail
                  go_region_held3 (fun w' => w'.cell? ⟨w1.heap.size, 4, none⟩ = some (.int .i64 u.z.lo) ∧ w'.cell? ⟨w1.heap.size, 5, none⟩ = some (.int .i64 u.z.hi) ∧ w'.cell? ⟨w2.heap.size, 4, none⟩ = some (.int .i64 v.z.lo) ∧ w'.cell? ⟨w2.heap.size, 5, none⟩ = some (.int .i64 v.z.hi))
                    (go_keep) ((go_at_call 105; (refine (farthest_any _ _ (u.z.lo - v.z.hi) (u.z.hi - v.z.lo) _ (by simp) (by simp) (by omega) (by omega) (by omega) (by omega)).mono ?_); rintro e w9 ⟨rfl, rfl⟩))
                  clear hw1 hw2
                  go_wp2_with fail
                  go_roundw
                  case rel =>
                    refine ⟨3, rfl, by omega, by omega, fun _ => P0.out (by omega), fun _ => P1.out (by omega), fun _ => by rw [← HQ.out]; omega, ?_, ?_, ?_, ?_, ?_, ?_⟩
                    · exact (Below.heap_alloc _ _ _ (by simp [World.setCell]; omega)).trans ((blk_set JN.out 0 _).trans (by rw [HQ.out]; rfl))
                    · exact (Below.heap_alloc _ _ _ (by simp [World.setCell]; omega)).trans ((Below.heap_setCell _ _ _ _ (by simp)).trans JM.out)
                    · exact (Below.heap_alloc _ _ _ (by simp [World.setCell]; omega)).trans ((Below.heap_setCell _ _ _ _ (by simp; omega)).trans JU.out)
                    · exact (Below.heap_alloc _ _ _ (by simp [World.setCell]; omega)).trans ((Below.heap_setCell _ _ _ _ (by simp; omega)).trans JV.out)
                    · exact ((JB.out.setCell (Nat.le_refl _) _).alloc (by simp [World.setCell]; omega) _).drew
                    · simp [World.setCell]; omega
                  case measure => simp [intOf]
              · have HR := hide (excR_yes OKX.out (by rw [HU.out, HV.out, HT.out]; exact ⟨P0.out (by omega), P1.out (by omega), P2.out (by omega)⟩))
                rw [HU.out, HV.out, HT.out] at HR
                go_wp2_with fail
                refine leaves_cons (f := 102) (args := #[.pointer (some ⟨w.heap.size, 0, none⟩), .pointer (some ⟨w.heap.size + 1, 0, none⟩)]) (by simp) (by simp [go_sem]) ?_
                refine (idle102 _ _ _).mono ?_
                rintro e u' w'' ⟨rfl, rfl, rfl⟩
                refine ⟨.tuple #[.int .i64 (accE (far1 u.x v.x t) (far1 u.y v.y t) (far1 u.z v.z t) (ra + rb) 3), .bool true], by simp [results, Try.results47, go_sem, n0, k0], by rw [HR.out], ?_⟩
                exact (JB.out.setCell (Nat.le_refl _) _).setCell (by simp) _
      · have HR := hide (excR_no (by simp [excOk, HT.out, HT'.out, htt] : excOk left right a b ra rb = false))
        have hne : (t != t') = true := by simp [htt]
        clear htt
        go_wp2_with fail
        refine leaves_cons (f := 102) (args := #[.pointer (some ⟨w.heap.size, 0, none⟩), .pointer (some ⟨w.heap.size + 1, 0, none⟩)]) (by simp) (by simp [go_sem]) ?_
        refine (idle102 _ _ _).mono ?_
        rintro e u' w'' ⟨rfl, rfl, rfl⟩
        refine ⟨.tuple #[.int .i64 0, .bool false], by simp [results, Try.results47, go_sem, n0, k0, l1, l2], by rw [HR.out], ?_⟩
        exact ((HW.out.setCell (Nat.le_refl _) _).setCell (by simp) _).alloc (by simp [World.setCell]; omega) _
end Go.Proofs.Ytionbckpgfaneaa
