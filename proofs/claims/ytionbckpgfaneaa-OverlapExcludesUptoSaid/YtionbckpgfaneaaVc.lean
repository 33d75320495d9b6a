/- Walks, part C: margins. -/
import Derived.Test.YtionbckpgfaneaaVa
import Derived.Test.YtionbckpgfaneaaVb
namespace Go.Proofs.Ytionbckpgfaneaa
open Go.RowKit
set_option maxHeartbeats 1000000
set_option maxRecDepth 100000
def sidesV (A : Option Addr) (a : List IV) (c : Nat) (ra : Int) (B : Option Addr) (b : List IV) (d : Nat) (rb : Int) : Array Value := #[.slice A a.length c, .int .i64 ra, .slice B b.length d, .int .i64 rb]
/-- plane.both -/
theorem both_any (A : Option Addr) (a : List IV) (c : Nat) (ra : Int) (B : Option Addr) (b : List IV) (d : Nat) (rb : Int) (w : World) :
    Calls Try.prog 123 #[.slice A a.length c, .int .i64 ra, .slice B b.length d, .int .i64 rb] w fun e w' => e = .returned (.agg (sidesV A a c ra B b d rb)) ∧ Below w.heap.size w w' := by
  go_enter Try.func123, Try.ntmps123
  go_wp2_with fail
  refine bodyPost_ret (v := .agg (sidesV A a c ra B b d rb)) (by simp [results, Try.results123, go_sem, sidesV]) rfl ⟨rfl, ?_⟩
  go_grown
/-- (side).valid -/
theorem sideValid_any (A : Option Addr) (a : List IV) (c : Nat) (ra : Int) (w : World) (hs : SlI w A a) (hm : a.length ≤ 9223372036854775807) :
    Calls Try.prog 154 #[.agg #[.slice A a.length c, .int .i64 ra]] w fun e w' => e = .returned (.bool (placedB a && radOk ra)) ∧ Below w.heap.size w w' := by
  have HS := hide hs; clear hs
  go_enter Try.func154, Try.ntmps154
  go_wp2_with fail
  refine (placed_any A a c _ (by exact Sl.alloc HS.out _) hm).mono ?_
  rintro e w1 ⟨rfl, hb1⟩
  have hN : w1.heap[w.heap.size]? = some (.cells #[.slice A a.length c, .int .i64 ra] 136 (0, 0)) := (hb1.block _ (by simp)).trans (heap_alloc_new w _)
  have hc := blk_cell hN
  have hz : w.heap.size < w1.heap.size := by have := hb1.size; simp at this; omega
  have HB := hide (show Below w.heap.size w w1 from ((Below.refl _ _).alloc (Nat.le_refl _) _).trans (hb1.mono (by simp)))
  clear hN hb1
  cases hp : placedB a
  · go_wp2_with fail
    go_ret
    exact ⟨by simp [hp], HB.out⟩
  · by_cases h1 : 0 ≤ ra
    · by_cases h2 : ra ≤ 1048576
      · have H := hide (show radOk ra = true from decide_eq_true ⟨h1, h2⟩)
        go_wp2_with fail
        go_ret
        exact ⟨by simp [H.out, hp], HB.out⟩
      · have H := hide (show radOk ra = false from decide_eq_false (by omega))
        go_wp2_with fail
        go_ret
        exact ⟨by simp [H.out]; omega, HB.out⟩
    · have H := hide (show radOk ra = false from decide_eq_false (by omega))
      go_wp2_with fail
      go_ret
      exact ⟨by simp [H.out], HB.out⟩
noncomputable def margR (n : V3) (a : List IV) (ra : Int) (b : List IV) (rb : Int) : Value := .tuple #[.int .i64 (margV n a ra b rb), .bool (margOk n a ra b rb)]
theorem margR_no {n : V3} {a b : List IV} {ra rb : Int} (h : margOk n a ra b rb = false) : margR n a ra b rb = .tuple #[.int .i64 0, .bool false] := by simp [margR, margV, h]
theorem margR_yes {n : V3} {a b : List IV} {ra rb : Int} (h : margOk n a ra b rb = true) : margR n a ra b rb = .tuple #[.int .i64 (margX n a ra b rb), .bool true] := by simp [margR, margV, h]
/-- (sides).margin -/
theorem sidesMargin_any (n : V3) (A : Option Addr) (a : List IV) (c : Nat) (ra : Int) (B : Option Addr) (b : List IV) (d : Nat) (rb : Int) (w : World) (ha : SlI w A a) (hb : SlI w B b) (ma : a.length ≤ 9223372036854775807) (mb : b.length ≤ 9223372036854775807) :
    Calls Try.prog 122 #[.agg (sidesV A a c ra B b d rb), .agg #[.int .i64 n.x, .int .i64 n.y, .int .i64 n.z]] w fun e w' => e = .returned (margR n a ra b rb) ∧ Below w.heap.size w w' := by
  have SA := hide ha; have SB := hide hb; clear ha hb
  unfold sidesV
  go_enter Try.func122, Try.ntmps122
  go_wp2_with fail
  refine (sideValid_any A a c ra _ (by exact Sl.alloc (Sl.alloc SA.out _) _) ma).mono ?_
  rintro e w1 ⟨rfl, hb1⟩
  have hD : w1.heap[w.heap.size]? = some (.cells (sidesV A a c ra B b d rb) 138 (0, 0)) := (hb1.block _ (by simp; omega)).trans ((Below.heap_alloc _ _ _ (by simp)).trans (heap_alloc_new w _))
  have hN : w1.heap[w.heap.size + 1]? = some (.cells (vcs n) 47 (0, 0)) := (hb1.block _ (by simp)).trans (new_at _ _ (by simp))
  have hz1 : w.heap.size + 1 < w1.heap.size := by have := hb1.size; simp at this; omega
  have hz0 : w.heap.size < w1.heap.size := by omega
  have HB := hide (show Below w.heap.size w w1 from (((Below.refl _ _).alloc (Nat.le_refl _) _).alloc (by simp) _).trans (hb1.mono (by simp; omega)))
  have HD := hide hD; have HN := hide hN
  clear hD hN hb1
  cases hva : placedB a && radOk ra
  · have H := hide (margR_no (show margOk n a ra b rb = false by unfold margOk; cases h1 : placedB a <;> cases h2 : radOk ra <;> simp_all))
    go_wp2_with fail
    go_ret2
    exact ⟨by rw [H.out]; rfl, HB.out⟩
  · have cD := blk_cell HD.out; simp only [sidesV] at cD
    go_wp2_with fail
    refine (sideValid_any B b d rb _ (SB.out.below HB.out) mb).mono ?_
    rintro e w2 ⟨rfl, hb2⟩
    have HD2 := hide ((hb2.block _ hz0).trans HD.out); have HN2 := hide ((hb2.block _ hz1).trans HN.out)
    have yz1 : w.heap.size + 1 < w2.heap.size := Nat.lt_of_lt_of_le hz1 hb2.size
    have yz0 : w.heap.size < w2.heap.size := by omega
    have HB2 := hide (HB.out.trans (hb2.mono (by omega)))
    clear hb2 cD HD HN HB
    cases hvb : placedB b && radOk rb
    · have H := hide (margR_no (show margOk n a ra b rb = false by unfold margOk; cases h1 : placedB b <;> cases h2 : radOk rb <;> simp_all))
      go_wp2_with fail
      go_ret2
      exact ⟨by rw [H.out]; rfl, HB2.out⟩
    · have VA := hide hva; have VB := hide hvb
      clear hva hvb
      have cD := blk_cell HD2.out; simp only [sidesV] at cD
      have cN := blk_cell HN2.out; simp only [vcs] at cN
      go_wp2_with fail
      refine (least_any n A a c _ (SA.out.below HB2.out) ma).mono ?_
      rintro e w3 ⟨rfl, hb3⟩
      have HD3 := hide ((hb3.block _ yz0).trans HD2.out); have HN3 := hide ((hb3.block _ yz1).trans HN2.out)
      have xz1 : w.heap.size + 1 < w3.heap.size := Nat.lt_of_lt_of_le yz1 hb3.size
      have xz0 : w.heap.size < w3.heap.size := by omega
      have HB3 := hide (HB2.out.trans (hb3.mono (by omega)))
      clear hb3 cD cN HD2 HN2 HB2
      obtain ⟨pa, ra1⟩ : placedB a = true ∧ radOk ra = true := by simpa using VA.out
      obtain ⟨pb, rb1⟩ : placedB b = true ∧ radOk rb = true := by simpa using VB.out
      cases hu : usable n
      · have H := hide (margR_no (show margOk n a ra b rb = false by simp [margOk, hu]))
        rw [leastR_no (by simp [supOk, hu])]
        clear ra1 rb1 pa pb
        go_wp2_with fail
        go_ret2
        exact ⟨by rw [H.out]; rfl, HB3.out⟩
      · have H := hide (margR_yes (show margOk n a ra b rb = true by simp [margOk, hu, pa, pb, ra1, rb1]))
        have raB : 0 ≤ ra ∧ ra ≤ 1048576 := of_decide_eq_true ra1
        have rbB : 0 ≤ rb ∧ rb ≤ 1048576 := of_decide_eq_true rb1
        have PA := hide pa; have PB := hide pb; have HU := hide hu
        clear pa pb ra1 rb1 hu
        rw [leastR_yes HU.out PA.out]
        have cD := blk_cell HD3.out; simp only [sidesV] at cD
        have cN := blk_cell HN3.out; simp only [vcs] at cN
        have bd1 := leastV_bd HU.out PA.out
        generalize hX : leastV n a = X at bd1
        generalize leastI n a = i1
        have HX := hide hX; clear hX
        go_wp2_with fail
        refine (greatest_any n B b d _ (SB.out.below HB3.out) mb).mono ?_
        rintro e w4 ⟨rfl, hb4⟩
        have HD4 := hide ((hb4.block _ xz0).trans HD3.out); have HN4 := hide ((hb4.block _ xz1).trans HN3.out)
        have vz1 : w.heap.size + 1 < w4.heap.size := Nat.lt_of_lt_of_le xz1 hb4.size
        have vz0 : w.heap.size < w4.heap.size := by omega
        have HB4 := hide (HB3.out.trans (hb4.mono (by omega)))
        clear hb4 cD cN HD3 HN3 HB3
        rw [greatR_yes HU.out PB.out]
        have bd2 := greatV_bd HU.out PB.out
        generalize hY : greatV n b = Y at bd2
        generalize greatI n b = i2
        have HY := hide hY; clear hY
        have kD := blk_cell HD4.out; simp only [sidesV] at kD
        have kN := blk_cell HN4.out; simp only [vcs] at kN
        have nb := normF_bd n
        have mb1 := mul_bd (normF n) (ra + rb) 32768 2097152 nb.1 nb.2 (by omega) (by omega)
        have q1 := IntWalk.i64_in (X - Y) (by omega)
        have q2 := IntWalk.i64_in (ra + rb) (by omega)
        have q3 := IntWalk.i64_in (X - Y - normF n * (ra + rb)) (by omega)
        have q4 := IntWalk.i64_in (normF n * (ra + rb)) (by omega)
        go_wp2_with fail
        go_region_held3 (fun w' => (∀ i, w'.cell? ⟨w.heap.size, i, none⟩ = #[.slice A a.length c, .int .i64 ra, .slice B b.length d, .int .i64 rb][i]?) ∧ (∀ i, w'.cell? ⟨w.heap.size + 1, i, none⟩ = #[.int .i64 n.x, .int .i64 n.y, .int .i64 n.z][i]?))
          (first | with_reducible exact ⟨kD, kN⟩ | go_keep)
          (first | (go_at_call 61; (with_reducible refine (norm_any n _).mono ?_); rintro e w5 ⟨rfl, b5⟩; have kD := keepe b5 vz0 kD; have kN := keepe b5 vz1 kN))
        have HB5 := hide (HB4.out.drew.trans (b5.mono (Nat.le_of_lt vz0)))
        clear b5 kD kN q1 q2 q3 q4
        go_wp2_with fail
        go_ret2
        exact ⟨by rw [H.out, margX, HX.out, HY.out]; rfl, HB5.out⟩
/-- (sides).separates -/
theorem sidesSep_any (n : V3) (A : Option Addr) (a : List IV) (c : Nat) (ra : Int) (B : Option Addr) (b : List IV) (d : Nat) (rb : Int) (w : World) (ha : SlI w A a) (hb : SlI w B b) (ma : a.length ≤ 9223372036854775807) (mb : b.length ≤ 9223372036854775807) :
    Calls Try.prog 125 #[.agg (sidesV A a c ra B b d rb), .agg #[.int .i64 n.x, .int .i64 n.y, .int .i64 n.z]] w fun e w' => e = .returned (.bool (sepB n a ra b rb)) ∧ Below w.heap.size w w' := by
  have SA := hide ha; have SB := hide hb; clear ha hb
  unfold sidesV
  go_enter Try.func125, Try.ntmps125
  go_wp2_with fail
  refine (sidesMargin_any n A a c ra B b d rb _ (by exact Sl.alloc (Sl.alloc SA.out _) _) (by exact Sl.alloc (Sl.alloc SB.out _) _) ma mb).mono ?_
  rintro e w1 ⟨rfl, hb1⟩
  have HB := hide (show Below w.heap.size w w1 from (((Below.refl _ _).alloc (Nat.le_refl _) _).alloc (by simp) _).trans (hb1.mono (by simp; omega)))
  clear hb1
  unfold margR
  generalize hX : margV n a ra b rb = X
  generalize hF : margOk n a ra b rb = F
  have H := hide (show sepB n a ra b rb = (F && decide (0 < X)) by rw [sepB, hX, hF])
  clear hX hF
  cases F
  · go_wp2_with fail
    go_ret
    exact ⟨by rw [H.out]; rfl, HB.out⟩
  · go_wp2_with fail
    go_ret
    exact ⟨by rw [H.out]; rfl, HB.out⟩
/-- plane.Margin -/
theorem margin_any (n : V3) (A : Option Addr) (a : List IV) (c : Nat) (ra : Int) (B : Option Addr) (b : List IV) (d : Nat) (rb : Int) (w : World) (ha : SlI w A a) (hb : SlI w B b) (ma : a.length ≤ 9223372036854775807) (mb : b.length ≤ 9223372036854775807) :
    Calls Try.prog 70 #[.agg #[.int .i64 n.x, .int .i64 n.y, .int .i64 n.z], .slice A a.length c, .int .i64 ra, .slice B b.length d, .int .i64 rb] w fun e w' => e = .returned (margR n a ra b rb) ∧ Below w.heap.size w w' := by
  have SA := hide ha; have SB := hide hb; clear ha hb
  obtain ⟨W, hW⟩ : ∃ W, W = w.alloc (.cells #[.int .i64 n.x, .int .i64 n.y, .int .i64 n.z] 47) := ⟨_, rfl⟩
  have k0 := blk_cell (show W.heap[w.heap.size]? = some (.cells (vcs n) 47 (0, 0)) by rw [hW]; exact heap_alloc_new w _)
  have HB := hide (show Below w.heap.size w W by rw [hW]; go_grown)
  have z0 : w.heap.size < W.heap.size := by rw [hW]; simp
  simp only [vcs] at k0
  go_enter Try.func70, Try.ntmps70
  go_wp2_with fail
  rw [← hW]
  clear hW
  go_region_held3 (fun w' => (∀ i, w'.cell? ⟨w.heap.size, i, none⟩ = #[.int .i64 n.x, .int .i64 n.y, .int .i64 n.z][i]?))
    (first | with_reducible exact k0 | go_keep)
    (first | (go_at_call 123; (with_reducible refine (both_any A a c ra B b d rb _).mono ?_); rintro e w5 ⟨rfl, b5⟩; have k0 := keepe b5 z0 k0; have z5 := Nat.lt_of_lt_of_le z0 b5.size; have B5 := hide (HB.out.drew.trans (b5.mono (Nat.le_of_lt z0)))) | (go_at_call 122; (with_reducible refine (sidesMargin_any n A a c ra B b d rb _ (SA.out.below B5.out) (SB.out.below B5.out) ma mb).mono ?_); rintro e w6 ⟨rfl, b6⟩; have k0 := keepe b6 z5 k0; have B6 := hide (B5.out.trans (b6.mono (Nat.le_of_lt z5))); unfold margR))
  clear b5 b6 k0
  go_wp2_with fail
  go_ret2
  exact ⟨rfl, B6.out⟩
/-- plane.Separates -/
theorem separates_any (n : V3) (A : Option Addr) (a : List IV) (c : Nat) (ra : Int) (B : Option Addr) (b : List IV) (d : Nat) (rb : Int) (w : World) (ha : SlI w A a) (hb : SlI w B b) (ma : a.length ≤ 9223372036854775807) (mb : b.length ≤ 9223372036854775807) :
    Calls Try.prog 73 #[.agg #[.int .i64 n.x, .int .i64 n.y, .int .i64 n.z], .slice A a.length c, .int .i64 ra, .slice B b.length d, .int .i64 rb] w fun e w' => e = .returned (.bool (sepB n a ra b rb)) ∧ Below w.heap.size w w' := by
  have SA := hide ha; have SB := hide hb; clear ha hb
  obtain ⟨W, hW⟩ : ∃ W, W = w.alloc (.cells #[.int .i64 n.x, .int .i64 n.y, .int .i64 n.z] 47) := ⟨_, rfl⟩
  have k0 := blk_cell (show W.heap[w.heap.size]? = some (.cells (vcs n) 47 (0, 0)) by rw [hW]; exact heap_alloc_new w _)
  have HB := hide (show Below w.heap.size w W by rw [hW]; go_grown)
  have z0 : w.heap.size < W.heap.size := by rw [hW]; simp
  simp only [vcs] at k0
  go_enter Try.func73, Try.ntmps73
  go_wp2_with fail
  rw [← hW]
  clear hW
  go_region_held3 (fun w' => (∀ i, w'.cell? ⟨w.heap.size, i, none⟩ = #[.int .i64 n.x, .int .i64 n.y, .int .i64 n.z][i]?))
    (first | with_reducible exact k0 | go_keep)
    (first | (go_at_call 123; (with_reducible refine (both_any A a c ra B b d rb _).mono ?_); rintro e w5 ⟨rfl, b5⟩; have k0 := keepe b5 z0 k0; have z5 := Nat.lt_of_lt_of_le z0 b5.size; have B5 := hide (HB.out.drew.trans (b5.mono (Nat.le_of_lt z0)))) | (go_at_call 125; (with_reducible refine (sidesSep_any n A a c ra B b d rb _ (SA.out.below B5.out) (SB.out.below B5.out) ma mb).mono ?_); rintro e w6 ⟨rfl, b6⟩; have k0 := keepe b6 z5 k0; have B6 := hide (B5.out.trans (b6.mono (Nat.le_of_lt z5)))))
  clear b5 b6 k0
  go_wp2_with fail
  go_ret
  exact ⟨rfl, B6.out⟩
end Go.Proofs.Ytionbckpgfaneaa
