/- Walks of the normals, part g: normals.Mean. -/
import Derived.Test.YtionbckpgfaneaaQf
import Derived.Test.YtionbckpgfaneaaNe
namespace Go.Proofs.Ytionbckpgfaneaa
open Go.RowKit
set_option maxHeartbeats 4000000
set_option maxRecDepth 100000
theorem ctr_mod {p : IV} (h : p.ok = true) : Mod (ctrV p) := by
  simp only [IV.ok, Bool.and_eq_true] at h
  obtain ⟨⟨h1, h2⟩, h3⟩ := h
  have h1 := of_decide_eq_true h1
  have h2 := of_decide_eq_true h2
  have h3 := of_decide_eq_true h3
  unfold Mod ctrV midI
  simp only
  omega
theorem ctrs_len (l : List IV) : (ctrs l).length = l.length := by simp [ctrs]
theorem ctrs_mod {l : List IV} (h : placedB l = true) : ∀ p ∈ ctrs l, Mod p := by
  intro p hp
  obtain ⟨_, _, ok⟩ := placed_of h
  obtain ⟨q, hq, rfl⟩ := List.mem_map.1 hp
  obtain ⟨j, hj, rfl⟩ := List.getElem_of_mem hq
  exact ctr_mod (ok j hj)
theorem sum_ctrs_bd {l : List IV} (h : placedB l = true) : (-4294967296 ≤ (sum3 (ctrs l)).x ∧ (sum3 (ctrs l)).x ≤ 4294967296) ∧ (-4294967296 ≤ (sum3 (ctrs l)).y ∧ (sum3 (ctrs l)).y ≤ 4294967296) ∧ (-4294967296 ≤ (sum3 (ctrs l)).z ∧ (sum3 (ctrs l)).z ≤ 4294967296) := by
  have := sum3_bd (ctrs l) (ctrs_mod h) (ctrs l).length (Nat.le_refl _)
  rw [List.take_of_length_le (Nat.le_refl _), ctrs_len] at this
  have := (placed_of h).2.1
  omega
theorem mean_bd {a b : List IV} (ha : placedB a = true) (hb : placedB b = true) : (meanD a b).ok64 := by
  have h1 := sum_ctrs_bd ha
  have h2 := sum_ctrs_bd hb
  have l1 := (placed_of ha).2.1
  have l2 := (placed_of hb).2.1
  have m := fun x y : Int => fun (h : -4294967296 ≤ x ∧ x ≤ 4294967296) (g : 0 ≤ y ∧ y ≤ 8) => mul_bd2 x y 4294967296 8 h.1 h.2 (by omega) g.2
  have q1 := m _ b.length h1.1 (by omega)
  have q2 := m _ b.length h1.2.1 (by omega)
  have q3 := m _ b.length h1.2.2 (by omega)
  have q4 := m _ a.length h2.1 (by omega)
  have q5 := m _ a.length h2.2.1 (by omega)
  have q6 := m _ a.length h2.2.2 (by omega)
  unfold meanD V3.ok64 I64
  simp only
  omega
def meanR (a b : List IV) : Value := if placedB a && placedB b then .tuple #[.agg #[.int .i64 (normalF (meanD a b)).x, .int .i64 (normalF (meanD a b)).y, .int .i64 (normalF (meanD a b)).z], .bool (!isZ (meanD a b))] else .tuple #[.agg #[.int .i64 0, .int .i64 0, .int .i64 0], .bool false]
theorem idle169 (p q : Addr) (w : World) :
    CallsD Try.prog 169 #[.pointer (some p), .pointer (some q)] .returning w fun e u' w' => e = .returned (.tuple #[]) ∧ u' = .returning ∧ w' = w := by
  refine callsD_of_wpS Try.func169 rfl fun c₀ cs hu => ?_
  apply wpS_seq
  apply wpS_region
  simp [wpOpsS, go_sem, recoverD, hu, Try.ntmps169, Exit.thenS]
  refine wpS_cond (t := false) (by simp [Act.eval, Array.replicate]) ?_
  simp only [Bool.false_eq_true, if_false]
  refine wpS_of_wp (wp_skip ?_)
  cases c₀
  simp_all [bodyPostS, results, Try.results169]
theorem keepSt {w : World} {b V j : Nat} {u : Value} {f : Nat → Option Value} (k : ∀ i, w.cell? ⟨b, i, none⟩ = f i) (hne : b ≠ V) : ∀ i, (w.setCell ⟨V, j, none⟩ u).drew.cell? ⟨b, i, none⟩ = f i := fun i =>
  (World.cell?_of_block (Below.heap_setCell _ _ _ _ hne)).trans (k i)
def MeIn (w : World) (N S T V : Nat) (s t u : V3) (i : Value) (ww : World) : Prop :=
  ∃ m : Int, i = .int .i64 m ∧ 0 ≤ m ∧ m ≤ 3 ∧ ww.heap[V]? = some (.cells (v3c (mixV m zeroV u)) 47 (0, 0)) ∧ ww.heap[S]? = some (.cells (v3c s) 47 (0, 0)) ∧ ww.heap[T]? = some (.cells (v3c t) 47 (0, 0)) ∧ ww.heap[N]? = some (.cells (v3c zeroV) 47 (0, 0)) ∧ ww.heap[N + 1]? = some (.cells #[.bool false] 4 (0, 0)) ∧ Below N w ww
theorem MeIn.next {w wr wf : World} {N S T V : Nat} {s t u : V3} {m : Int} (h1 : N + 1 < S) (h2 : S < T) (h3 : T < V) (hV : wr.heap[V]? = some (.cells (v3c (mixV m zeroV u)) 47 (0, 0))) (hS : wr.heap[S]? = some (.cells (v3c s) 47 (0, 0))) (hT : wr.heap[T]? = some (.cells (v3c t) 47 (0, 0))) (hN : wr.heap[N]? = some (.cells (v3c zeroV) 47 (0, 0))) (hM : wr.heap[N + 1]? = some (.cells #[.bool false] 4 (0, 0))) (hb : Below N w wr)
    (i : Nat) (a : Value) (hm0 : 0 ≤ m + 1) (hm3 : m + 1 ≤ 3) (he : (v3c (mixV m zeroV u)).setIfInBounds i a = v3c (mixV (m + 1) zeroV u)) (hf : Like wf (wr.setCell ⟨V, i, none⟩ a)) :
    MeIn w N S T V s t u (.int .i64 (m + 1)) wf := by
  refine ⟨m + 1, rfl, hm0, hm3, ?_, ?_, ?_, ?_, ?_, hf.below (hb.setCell (by simp; omega) a)⟩
  · rw [hf.1, ← he]
    exact blk_set hV i a
  · rw [hf.1, Below.heap_setCell _ _ _ _ (by simp; omega)]; exact hS
  · rw [hf.1, Below.heap_setCell _ _ _ _ (by simp; omega)]; exact hT
  · rw [hf.1, Below.heap_setCell _ _ _ _ (by simp; omega)]; exact hN
  · rw [hf.1, Below.heap_setCell _ _ _ _ (by simp; omega)]; exact hM
theorem sum170c (A : Option Addr) (l : List IV) (c : Nat) (w : World) (hs : SlV w A (ctrs l)) (hp : placedB l = true) :
    Calls Try.prog 170 #[.slice A l.length c] w fun e w' => e = .returned (.agg #[.int .i64 (sum3 (ctrs l)).x, .int .i64 (sum3 (ctrs l)).y, .int .i64 (sum3 (ctrs l)).z]) ∧ Below w.heap.size w w' := by
  have := sum170 A (ctrs l) c w hs (by rw [ctrs_len]; have := (placed_of hp).2.1; omega) (ctrs_mod hp)
  rw [ctrs_len] at this
  exact this
/-- normals.Mean -/
theorem mean_any (A B : Option Addr) (a b : List IV) (c d : Nat) (w : World) (ha : SlI w A a) (hb : SlI w B b) (m1 : a.length ≤ 9223372036854775807) (m2 : b.length ≤ 9223372036854775807) :
    Calls Try.prog 132 #[.slice A a.length c, .slice B b.length d] w fun e w' => e = .returned (meanR a b) ∧ Below w.heap.size w w' := by
  have hmf := hmf
  have HA := hide ha; have HB := hide hb
  clear ha hb
  go_enter_defers Try.func132, Try.ntmps132
  go_wp2_with fail
  refine (placed_any A a c _ (by exact Sl.alloc (Sl.alloc HA.out _) _) m1).mono ?_
  rintro e w1 ⟨rfl, hb1⟩
  have B1 := hide (show Below w.heap.size w w1 from (((Below.refl _ _).alloc (Nat.le_refl _) _).alloc (by simp) _).trans (hb1.mono (by simp; omega)))
  have N1 := hide (show w1.heap[w.heap.size]? = some (.cells (v3c zeroV) 47 (0, 0)) from (hb1.block _ (by simp; omega)).trans ((Below.heap_alloc _ _ _ (by simp)).trans (heap_alloc_new w _)))
  have M1 := hide (show w1.heap[w.heap.size + 1]? = some (.cells #[.bool false] 4 (0, 0)) from (hb1.block _ (by simp)).trans (new_at _ _ (by simp)))
  clear hb1
  cases hpa : placedB a
  · have HR := hide (show meanR a b = .tuple #[.agg #[.int .i64 0, .int .i64 0, .int .i64 0], .bool false] by simp [meanR, hpa])
    have y1 := blt N1.out; have y2 := blt M1.out
    have n0 := blk_cell N1.out; have n1 := blk_frozen N1.out; have k0 := blk_cell M1.out; have k1 := blk_frozen M1.out
    simp only [v3c] at n0
    clear hpa
    go_wp2_with fail
    refine leaves_cons (f := 169) (args := #[.pointer (some ⟨w.heap.size, 0, none⟩), .pointer (some ⟨w.heap.size + 1, 0, none⟩)]) (by simp) (by simp [go_sem]) ?_
    refine (idle169 _ _ _).mono ?_
    rintro e u' w'' ⟨rfl, rfl, rfl⟩
    refine ⟨.tuple #[.agg #[.int .i64 0, .int .i64 0, .int .i64 0], .bool false], by simp [results, Try.results132, go_sem, n0, k0], by rw [HR.out], ?_⟩
    exact (((B1.out.setCell (Nat.le_refl _) _).setCell (Nat.le_refl _) _).setCell (Nat.le_refl _) _).setCell (by simp) _
  · have HPA := hide hpa
    clear hpa
    go_wp2_with fail
    refine (placed_any B b d _ (HB.out.below B1.out) m2).mono ?_
    rintro e w2 ⟨rfl, hb2⟩
    have B2 := hide (stepB hb2 B1.out)
    have N2 := hide ((hb2.block _ (blt N1.out)).trans N1.out)
    have M2 := hide ((hb2.block _ (blt M1.out)).trans M1.out)
    clear hb2 B1 N1 M1
    cases hpb : placedB b
    · have HR := hide (show meanR a b = .tuple #[.agg #[.int .i64 0, .int .i64 0, .int .i64 0], .bool false] by simp [meanR, hpb])
      have y1 := blt N2.out; have y2 := blt M2.out
      have n0 := blk_cell N2.out; have n1 := blk_frozen N2.out; have k0 := blk_cell M2.out; have k1 := blk_frozen M2.out
      simp only [v3c] at n0
      clear hpb
      go_wp2_with fail
      refine leaves_cons (f := 169) (args := #[.pointer (some ⟨w.heap.size, 0, none⟩), .pointer (some ⟨w.heap.size + 1, 0, none⟩)]) (by simp) (by simp [go_sem]) ?_
      refine (idle169 _ _ _).mono ?_
      rintro e u' w'' ⟨rfl, rfl, rfl⟩
      refine ⟨.tuple #[.agg #[.int .i64 0, .int .i64 0, .int .i64 0], .bool false], by simp [results, Try.results132, go_sem, n0, k0], by rw [HR.out], ?_⟩
      exact (((B2.out.setCell (Nat.le_refl _) _).setCell (Nat.le_refl _) _).setCell (Nat.le_refl _) _).setCell (by simp) _
    · have HPB := hide hpb
      have HR := hide (show meanR a b = .tuple #[.agg #[.int .i64 (normalF (meanD a b)).x, .int .i64 (normalF (meanD a b)).y, .int .i64 (normalF (meanD a b)).z], .bool (!isZ (meanD a b))] by simp [meanR, hpb, HPA.out])
      clear hpb
      go_wp2_with fail
      refine (centers_any A a c _ (HA.out.below B2.out) HPA.out).mono ?_
      rintro e w3 ⟨A3, c3, rfl, s3, hb3⟩
      have S3 := hide s3
      have B3 := hide (stepB hb3 B2.out)
      have N3 := hide ((hb3.block _ (blt N2.out)).trans N2.out)
      have M3 := hide ((hb3.block _ (blt M2.out)).trans M2.out)
      clear hb3 s3 B2 N2 M2
      go_wp2_with fail
      refine (sum170c A3 a c3 _ S3.out HPA.out).mono ?_
      rintro e w4 ⟨rfl, hb4⟩
      have B4 := hide (stepB hb4 B3.out)
      have N4 := hide ((hb4.block _ (blt N3.out)).trans N3.out)
      have M4 := hide ((hb4.block _ (blt M3.out)).trans M3.out)
      clear hb4 S3 B3 N3 M3
      go_wp2_with fail
      refine (centers_any B b d _ (HB.out.below B4.out) HPB.out).mono ?_
      rintro e w5 ⟨A5, c5, rfl, s5, hb5⟩
      have S5 := hide s5
      have B5 := hide (stepB hb5 B4.out)
      have N5 := hide ((hb5.block _ (blt N4.out)).trans N4.out)
      have M5 := hide ((hb5.block _ (blt M4.out)).trans M4.out)
      clear hb5 s5 B4 N4 M4
      go_wp2_with fail
      refine (sum170c A5 b c5 _ S5.out HPB.out).mono ?_
      rintro e w6 ⟨rfl, hb6⟩
      have B6 := hide (stepB hb6 B5.out)
      have N6 := hide ((hb6.block _ (blt N5.out)).trans N5.out)
      have M6 := hide ((hb6.block _ (blt M5.out)).trans M5.out)
      clear hb6 S5 B5 N5 M5
      have sba := sum_ctrs_bd HPA.out
      have sbb := sum_ctrs_bd HPB.out
      obtain ⟨D, hD⟩ : ∃ D, meanD a b = D := ⟨_, rfl⟩
      have OKD := hide (show D.ok64 by rw [← hD]; exact mean_bd HPA.out HPB.out)
      rw [hD] at HR
      have la := (placed_of HPA.out).2.1
      have lb := (placed_of HPB.out).2.1
      obtain ⟨s, hs⟩ : ∃ s, sum3 (ctrs a) = s := ⟨_, rfl⟩
      obtain ⟨t, ht⟩ : ∃ t, sum3 (ctrs b) = t := ⟨_, rfl⟩
      rw [hs] at sba ⊢
      rw [ht] at sbb ⊢
      have HD := hide (show D = ⟨s.x * b.length - t.x * a.length, s.y * b.length - t.y * a.length, s.z * b.length - t.z * a.length⟩ by rw [← hD, ← hs, ← ht]; rfl)
      clear hs ht hD
      have z6 := B6.out.size
      have q1 := blt M6.out
      go_wp2_with fail
      go_loopw [26] (fun i ww => MeIn w w.heap.size w6.heap.size (w6.heap.size + 1) (w6.heap.size + 1 + 1) s t D i ww) (fun i _ => 3 - (intOf i).toNat)
      case atStart =>
        refine ⟨0, rfl, by omega, by omega, ?_, ?_, ?_, ?_, ?_, ?_⟩
        · exact new_at _ _ (by simp)
        · exact (Below.heap_alloc _ _ _ (by simp; omega)).trans ((Below.heap_alloc _ _ _ (by simp)).trans (new_at _ _ rfl))
        · exact (Below.heap_alloc _ _ _ (by simp)).trans (new_at _ _ (by simp))
        · exact (Below.heap_alloc _ _ _ (by simp; omega)).trans ((Below.heap_alloc _ _ _ (by simp; omega)).trans ((Below.heap_alloc _ _ _ (by omega)).trans N6.out))
        · exact (Below.heap_alloc _ _ _ (by simp; omega)).trans ((Below.heap_alloc _ _ _ (by simp; omega)).trans ((Below.heap_alloc _ _ _ (by omega)).trans M6.out))
        · exact ((B6.out.alloc (by omega) _).alloc (by simp; omega) _).alloc (by simp; omega) _
      case round =>
        clear N6 M6 B6 hmf
        obtain ⟨m, rfl, hm0, hm3, iV, iS, iT, iN, iM, iB⟩ := hrel
        have IV_ := hide iV; have IS := hide iS; have IT := hide iT; have IN := hide iN; have IM := hide iM; have IB := hide iB
        have cV := blk_cell iV; have fV := blk_frozen iV
        have cS := blk_cell iS; have cT := blk_cell iT; have cN := blk_cell iN; have cM := blk_cell iM
        have fN := blk_frozen iN; have fM := blk_frozen iM
        have yV := blt iV; have yS := blt iS; have yT := blt iT; have yN := blt iN; have yM := blt iM
        simp only [v3c] at cS cT cN
        clear iV iS iT iN iM iB
        obtain rfl | rfl | rfl | rfl : m = 0 ∨ m = 1 ∨ m = 2 ∨ m = 3 := by omega
        · obtain ⟨⟨g1, g2⟩, ⟨g3, g4⟩, g5, g6⟩ := sba
          obtain ⟨⟨h1, h2⟩, ⟨h3, h4⟩, h5, h6⟩ := sbb
          have p1 := mul_bd2 s.x b.length 4294967296 8 (by omega) (by omega) (by omega) (by omega)
          have p2 := mul_bd2 t.x a.length 4294967296 8 (by omega) (by omega) (by omega) (by omega)
          have r1 := IntWalk.i64_in (s.x * b.length) (by omega); have r2 := IntWalk.i64_in (t.x * a.length) (by omega)
          have r3 := IntWalk.i64_in (s.x * b.length - t.x * a.length) (by omega)
          simp [v3c, mixV] at cV
          have nS1 : w6.heap.size ≠ w6.heap.size + 1 + 1 := by omega
          have nT1 : w6.heap.size + 1 ≠ w6.heap.size + 1 + 1 := by omega
          obtain ⟨p3, p4⟩ := p1
          obtain ⟨p5, p6⟩ := p2
          clear g1 g2 g3 g4 g5 g6 h1 h2 h3 h4 h5 h6 cN cM fN fM yN yM
          go_wp2_with fail
          go_region_held3 (fun w' => (∀ i, w'.cell? ⟨w6.heap.size, i, none⟩ = #[.int .i64 s.x, .int .i64 s.y, .int .i64 s.z][i]?) ∧ (∀ i, w'.cell? ⟨w6.heap.size + 1, i, none⟩ = #[.int .i64 t.x, .int .i64 t.y, .int .i64 t.z][i]?)) (first | exact ⟨cS, cT⟩ | exact ⟨keepSt cS nS1, keepSt cT nT1⟩ | go_keep) (fail)
          go_wp2_with fail
          go_roundw
          case rel => exact MeIn.next q1 (by omega) (by omega) IV_.out IS.out IT.out IN.out IM.out IB.out 0 _ (by omega) (by omega) (by rw [HD.out]; rfl) ⟨rfl, rfl, rfl, rfl⟩
          case measure => simp [intOf]
        · obtain ⟨⟨g1, g2⟩, ⟨g3, g4⟩, g5, g6⟩ := sba
          obtain ⟨⟨h1, h2⟩, ⟨h3, h4⟩, h5, h6⟩ := sbb
          have p1 := mul_bd2 s.y b.length 4294967296 8 (by omega) (by omega) (by omega) (by omega)
          have p2 := mul_bd2 t.y a.length 4294967296 8 (by omega) (by omega) (by omega) (by omega)
          have r1 := IntWalk.i64_in (s.y * b.length) (by omega); have r2 := IntWalk.i64_in (t.y * a.length) (by omega)
          have r3 := IntWalk.i64_in (s.y * b.length - t.y * a.length) (by omega)
          simp [v3c, mixV] at cV
          have nS1 : w6.heap.size ≠ w6.heap.size + 1 + 1 := by omega
          have nT1 : w6.heap.size + 1 ≠ w6.heap.size + 1 + 1 := by omega
          obtain ⟨p3, p4⟩ := p1
          obtain ⟨p5, p6⟩ := p2
          clear g1 g2 g3 g4 g5 g6 h1 h2 h3 h4 h5 h6 cN cM fN fM yN yM
          go_wp2_with fail
          go_region_held3 (fun w' => (∀ i, w'.cell? ⟨w6.heap.size, i, none⟩ = #[.int .i64 s.x, .int .i64 s.y, .int .i64 s.z][i]?) ∧ (∀ i, w'.cell? ⟨w6.heap.size + 1, i, none⟩ = #[.int .i64 t.x, .int .i64 t.y, .int .i64 t.z][i]?)) (first | exact ⟨cS, cT⟩ | exact ⟨keepSt cS nS1, keepSt cT nT1⟩ | go_keep) (fail)
          go_wp2_with fail
          go_roundw
          case rel => exact MeIn.next q1 (by omega) (by omega) IV_.out IS.out IT.out IN.out IM.out IB.out 1 _ (by omega) (by omega) (by rw [HD.out]; rfl) ⟨rfl, rfl, rfl, rfl⟩
          case measure => simp [intOf]
        · obtain ⟨⟨g1, g2⟩, ⟨g3, g4⟩, g5, g6⟩ := sba
          obtain ⟨⟨h1, h2⟩, ⟨h3, h4⟩, h5, h6⟩ := sbb
          have p1 := mul_bd2 s.z b.length 4294967296 8 (by omega) (by omega) (by omega) (by omega)
          have p2 := mul_bd2 t.z a.length 4294967296 8 (by omega) (by omega) (by omega) (by omega)
          have r1 := IntWalk.i64_in (s.z * b.length) (by omega); have r2 := IntWalk.i64_in (t.z * a.length) (by omega)
          have r3 := IntWalk.i64_in (s.z * b.length - t.z * a.length) (by omega)
          simp [v3c, mixV] at cV
          have nS1 : w6.heap.size ≠ w6.heap.size + 1 + 1 := by omega
          have nT1 : w6.heap.size + 1 ≠ w6.heap.size + 1 + 1 := by omega
          obtain ⟨p3, p4⟩ := p1
          obtain ⟨p5, p6⟩ := p2
          clear g1 g2 g3 g4 g5 g6 h1 h2 h3 h4 h5 h6 cN cM fN fM yN yM
          go_wp2_with fail
          go_region_held3 (fun w' => (∀ i, w'.cell? ⟨w6.heap.size, i, none⟩ = #[.int .i64 s.x, .int .i64 s.y, .int .i64 s.z][i]?) ∧ (∀ i, w'.cell? ⟨w6.heap.size + 1, i, none⟩ = #[.int .i64 t.x, .int .i64 t.y, .int .i64 t.z][i]?)) (first | exact ⟨cS, cT⟩ | exact ⟨keepSt cS nS1, keepSt cT nT1⟩ | go_keep) (fail)
          go_wp2_with fail
          go_roundw
          case rel => exact MeIn.next q1 (by omega) (by omega) IV_.out IS.out IT.out IN.out IM.out IB.out 2 _ (by omega) (by omega) (by rw [HD.out]; rfl) ⟨rfl, rfl, rfl, rfl⟩
          case measure => simp [intOf]
        · have e : mixV 3 zeroV D = D := rfl
          rw [e] at cV
          simp only [v3c] at cV
          clear e cS cT fV yS yT
          go_wp2_with fail
          refine (normal_any D _ OKD.out).mono ?_
          rintro e w7 ⟨rfl, hb7⟩
          unfold normalR
          rw [isZ_normal]
          have BE := hide (IB.out.trans (hb7.mono (by omega)))
          have EN := hide ((hb7.block _ yN).trans IN.out)
          have EM := hide ((hb7.block _ yM).trans IM.out)
          clear hb7 cN cM fN fM yN yM cV yV
          have y1 := blt EN.out; have y2 := blt EM.out
          have n0 := blk_cell EN.out; have n1 := blk_frozen EN.out; have k0 := blk_cell EM.out; have k1 := blk_frozen EM.out
          simp only [v3c] at n0
          go_wp2_with fail
          refine leaves_cons (f := 169) (args := #[.pointer (some ⟨w.heap.size, 0, none⟩), .pointer (some ⟨w.heap.size + 1, 0, none⟩)]) (by simp) (by simp [go_sem]) ?_
          refine (idle169 _ _ _).mono ?_
          rintro e u' w'' ⟨rfl, rfl, rfl⟩
          refine ⟨.tuple #[.agg #[.int .i64 (normalF D).x, .int .i64 (normalF D).y, .int .i64 (normalF D).z], .bool (!isZ D)], by simp [results, Try.results132, go_sem, n0, k0], by rw [HR.out], ?_⟩
          exact (((BE.out.setCell (Nat.le_refl _) _).setCell (Nat.le_refl _) _).setCell (Nat.le_refl _) _).setCell (by simp) _
end Go.Proofs.Ytionbckpgfaneaa
