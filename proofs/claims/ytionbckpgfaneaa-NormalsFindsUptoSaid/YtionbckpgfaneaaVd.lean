/- Walks, part D: the references' margins, the comparison. -/
import Derived.Test.YtionbckpgfaneaaXd
namespace Go.Proofs.Ytionbckpgfaneaa
open Go.RowKit
set_option maxHeartbeats 1000000
set_option maxRecDepth 100000
theorem leastR_form (n : V3) (l : List IV) : leastR n l = .tuple #[.int .i64 (if supOk n l then leastV n l else 0), .int .i64 (if supOk n l then leastI n l else 0 : Nat), .bool (supOk n l)] := by
  unfold leastR supR; cases supOk n l <;> simp
theorem greatR_form (n : V3) (l : List IV) : greatR n l = .tuple #[.int .i64 (if supOk n l then greatV n l else 0), .int .i64 (if supOk n l then greatI n l else 0 : Nat), .bool (supOk n l)] := by
  unfold greatR supR; cases supOk n l <;> simp
/-- armplanref14.Margin -/
theorem margin_ref (n : V3) (A : Option Addr) (a : List IV) (c : Nat) (ra : Int) (B : Option Addr) (b : List IV) (d : Nat) (rb : Int) (w : World) (ha : SlI w A a) (hb : SlI w B b) (ma : a.length ≤ 9223372036854775807) (mb : b.length ≤ 9223372036854775807) :
    Calls Try.prog 120 #[.agg #[.int .i64 n.x, .int .i64 n.y, .int .i64 n.z], .slice A a.length c, .int .i64 ra, .slice B b.length d, .int .i64 rb] w fun e w' => e = .returned (margR n a ra b rb) ∧ Below w.heap.size w w' := by
  have SA := hide ha; have SB := hide hb; clear ha hb
  go_enter Try.func120, Try.ntmps120
  go_wp2_with fail
  refine (least_ref n A a c _ (by exact Sl.alloc SA.out _) ma).mono ?_
  rintro e w1 ⟨rfl, hb1⟩
  rw [leastR_form]
  generalize hX : (if supOk n a then leastV n a else 0) = X
  generalize (if supOk n a then leastI n a else 0 : Nat) = i1
  generalize hF : supOk n a = F
  have HX := hide hX; have HF := hide hF; clear hX hF
  have hN : w1.heap[w.heap.size]? = some (.cells (vcs n) 47 (0, 0)) := (hb1.block _ (by simp)).trans (heap_alloc_new w _)
  have hz0 : w.heap.size < w1.heap.size := by have := hb1.size; simp at this; omega
  have HB := hide (show Below w.heap.size w w1 from (((Below.refl _ _).alloc (Nat.le_refl _) _)).trans (hb1.mono (by simp)))
  have HN := hide hN; have cN := blk_cell hN; simp only [vcs] at cN
  clear hN hb1
  go_wp2_with fail
  refine (greatest_ref n B b d _ (SB.out.below HB.out) mb).mono ?_
  rintro e w2 ⟨rfl, hb2⟩
  rw [greatR_form]
  generalize hY : (if supOk n b then greatV n b else 0) = Y
  generalize (if supOk n b then greatI n b else 0 : Nat) = i2
  generalize hG : supOk n b = G
  have HY := hide hY; have HG := hide hG; clear hY hG
  have HN2 := hide ((hb2.block _ hz0).trans HN.out)
  have yz0 : w.heap.size < w2.heap.size := Nat.lt_of_lt_of_le hz0 hb2.size
  have HB2 := hide (HB.out.trans (hb2.mono (by omega)))
  clear hb2 cN HN HB
  cases F
  · have H := hide (margR_no (show margOk n a ra b rb = false by have := HF.out; unfold margOk; unfold supOk at this; cases h1 : usable n <;> cases h2 : placedB a <;> simp_all))
    go_wp2_with fail
    go_ret2
    exact ⟨by rw [H.out]; rfl, HB2.out⟩
  · cases G
    · have H := hide (margR_no (show margOk n a ra b rb = false by have := HG.out; unfold margOk; unfold supOk at this; cases h1 : usable n <;> cases h2 : placedB b <;> simp_all))
      go_wp2_with fail
      go_ret2
      exact ⟨by rw [H.out]; rfl, HB2.out⟩
    · obtain ⟨hu, pa⟩ := supOk_of HF.out
      obtain ⟨_, pb⟩ := supOk_of HG.out
      cases hra : radOk ra
      · have H := hide (margR_no (show margOk n a ra b rb = false by simp [margOk, hra]))
        have hra' : decide (0 ≤ ra ∧ ra ≤ 1048576) = false := hra
        clear hra hu pa pb
        go_wp2_with fail
        refine (radius_ref ra _).mono ?_
        rintro e w3 ⟨rfl, rfl⟩
        rw [hra']
        clear hra'
        go_wp2_with fail
        go_ret2
        exact ⟨by rw [H.out]; rfl, HB2.out⟩
      · cases hrb : radOk rb
        · have H := hide (margR_no (show margOk n a ra b rb = false by simp [margOk, hrb]))
          have HRA := hide (show decide (0 ≤ ra ∧ ra ≤ 1048576) = true from hra)
          have HRB := hide (show decide (0 ≤ rb ∧ rb ≤ 1048576) = false from hrb)
          clear hra hrb hu pa pb
          go_wp2_with fail
          refine (radius_ref ra _).mono ?_
          rintro e w3 ⟨rfl, rfl⟩
          rw [HRA.out]
          go_wp2_with fail
          refine (radius_ref rb _).mono ?_
          rintro e w3 ⟨rfl, rfl⟩
          rw [HRB.out]
          go_wp2_with fail
          go_ret2
          exact ⟨by rw [H.out]; rfl, HB2.out⟩
        · have H := hide (margR_yes (show margOk n a ra b rb = true by simp [margOk, hu, pa, pb, hra, hrb]))
          have HRA := hide (show decide (0 ≤ ra ∧ ra ≤ 1048576) = true from hra)
          have HRB := hide (show decide (0 ≤ rb ∧ rb ≤ 1048576) = true from hrb)
          have raB : 0 ≤ ra ∧ ra ≤ 1048576 := of_decide_eq_true hra
          have rbB : 0 ≤ rb ∧ rb ≤ 1048576 := of_decide_eq_true hrb
          have bd1 := leastV_bd hu pa
          have bd2 := greatV_bd hu pb
          have eX : X = leastV n a := by rw [← HX.out, HF.out, if_pos rfl]
          have eY : Y = greatV n b := by rw [← HY.out, HG.out, if_pos rfl]
          rw [← eX] at bd1
          rw [← eY] at bd2
          have EX := hide eX; have EY := hide eY
          have nb := normF_bd n
          have mb1 := mul_bd (normF n) (ra + rb) 32768 2097152 nb.1 nb.2 (by omega) (by omega)
          clear hra hrb hu pa pb eX eY
          go_wp2_with fail
          refine (radius_ref ra _).mono ?_
          rintro e w3 ⟨rfl, rfl⟩
          rw [HRA.out]
          go_wp2_with fail
          refine (radius_ref rb _).mono ?_
          rintro e w3 ⟨rfl, rfl⟩
          rw [HRB.out]
          have cN := blk_cell HN2.out; simp only [vcs] at cN
          go_wp2_with fail
          refine (norm_ref n _).mono ?_
          rintro e w4 ⟨rfl, hb4⟩
          have HB4 := hide (HB2.out.trans (hb4.mono (by omega)))
          clear hb4 cN
          go_wp2_with fail
          go_ret2
          exact ⟨by rw [H.out, margX, ← EX.out, ← EY.out]; rfl, HB4.out⟩
/-- armplanref14.Separates -/
theorem separates_ref (n : V3) (A : Option Addr) (a : List IV) (c : Nat) (ra : Int) (B : Option Addr) (b : List IV) (d : Nat) (rb : Int) (w : World) (ha : SlI w A a) (hb : SlI w B b) (ma : a.length ≤ 9223372036854775807) (mb : b.length ≤ 9223372036854775807) :
    Calls Try.prog 121 #[.agg #[.int .i64 n.x, .int .i64 n.y, .int .i64 n.z], .slice A a.length c, .int .i64 ra, .slice B b.length d, .int .i64 rb] w fun e w' => e = .returned (.bool (sepB n a ra b rb)) ∧ Below w.heap.size w w' := by
  have SA := hide ha; have SB := hide hb; clear ha hb
  go_enter Try.func121, Try.ntmps121
  go_wp2_with fail
  refine (margin_ref n A a c ra B b d rb _ (by exact Sl.alloc SA.out _) (by exact Sl.alloc SB.out _) ma mb).mono ?_
  rintro e w1 ⟨rfl, hb1⟩
  have HB := hide (show Below w.heap.size w w1 from ((Below.refl _ _).alloc (Nat.le_refl _) _).trans (hb1.mono (by simp)))
  clear hb1
  unfold margR
  generalize hX : margV n a ra b rb = X
  generalize hF : margOk n a ra b rb = F
  have H := hide (show sepB n a ra b rb = (F && decide (0 < X)) by rw [sepB, hX, hF])
  clear hX hF
  cases F
  · go_wp2_with fail
    go_ret
    exact ⟨by rw [H.out]; rfl, HB.out⟩
  · go_wp2_with fail
    go_ret
    exact ⟨by rw [H.out]; rfl, HB.out⟩
/-- armplanlaw15.margins -/
theorem margins_any (n : V3) (A : Option Addr) (a : List IV) (c : Nat) (ra : Int) (B : Option Addr) (b : List IV) (d : Nat) (rb : Int) (w : World) (ha : SlI w A a) (hb : SlI w B b) (ma : a.length ≤ 9223372036854775807) (mb : b.length ≤ 9223372036854775807) :
    Calls Try.prog 68 #[.agg #[.int .i64 n.x, .int .i64 n.y, .int .i64 n.z], .slice A a.length c, .int .i64 ra, .slice B b.length d, .int .i64 rb] w fun e w' => e = .returned (.bool true) ∧ Below w.heap.size w w' := by
  have SA := hide ha; have SB := hide hb; clear ha hb
  go_enter Try.func68, Try.ntmps68
  go_wp2_with fail
  refine (margin_any n A a c ra B b d rb _ (by exact Sl.alloc SA.out _) (by exact Sl.alloc SB.out _) ma mb).mono ?_
  rintro e w1 ⟨rfl, hb1⟩
  have hN : w1.heap[w.heap.size]? = some (.cells (vcs n) 47 (0, 0)) := (hb1.block _ (by simp)).trans (heap_alloc_new w _)
  have hz0 : w.heap.size < w1.heap.size := by have := hb1.size; simp at this; omega
  have HB := hide (show Below w.heap.size w w1 from (((Below.refl _ _).alloc (Nat.le_refl _) _)).trans (hb1.mono (by simp)))
  have HN := hide hN; have cN := blk_cell hN; simp only [vcs] at cN
  clear hN hb1
  unfold margR
  generalize hX : margV n a ra b rb = X
  generalize hF : margOk n a ra b rb = F
  have HX := hide hX; have HF := hide hF; clear hX hF
  go_wp2_with fail
  refine (margin_ref n A a c ra B b d rb _ (SA.out.below HB.out) (SB.out.below HB.out) ma mb).mono ?_
  rintro e w2 ⟨rfl, hb2⟩
  unfold margR
  rw [HX.out, HF.out]
  have HN2 := hide ((hb2.block _ hz0).trans HN.out)
  have yz0 : w.heap.size < w2.heap.size := Nat.lt_of_lt_of_le hz0 hb2.size
  have HB2 := hide (HB.out.trans (hb2.mono (by omega)))
  clear hb2 cN HN HB
  have k0 := blk_cell HN2.out; simp only [vcs] at k0
  have he1 : (X == X) = true := by simp
  have he2 : (F == F) = true := by simp
  go_wp2_with fail
  go_region_held3 (fun w' => (∀ i, w'.cell? ⟨w.heap.size, i, none⟩ = #[.int .i64 n.x, .int .i64 n.y, .int .i64 n.z][i]?))
    (first | with_reducible exact k0 | go_keep)
    (first | (go_at_call 73; (with_reducible refine (separates_any n A a c ra B b d rb _ (SA.out.below HB2.out.drew) (SB.out.below HB2.out.drew) ma mb).mono ?_); rintro e w5 ⟨rfl, b5⟩; have k0 := keepe b5 yz0 k0; have z5 := Nat.lt_of_lt_of_le yz0 b5.size; have B5 := hide (HB2.out.drew.trans (b5.mono (Nat.le_of_lt yz0)))) | (go_at_call 121; (with_reducible refine (separates_ref n A a c ra B b d rb _ (SA.out.below B5.out) (SB.out.below B5.out) ma mb).mono ?_); rintro e w6 ⟨rfl, b6⟩; have k0 := keepe b6 z5 k0; have B6 := hide (B5.out.trans (b6.mono (Nat.le_of_lt z5)))))
  clear b5 b6 k0
  go_wp2_with fail
  go_ret
  exact ⟨by simp, B6.out⟩
theorem norm100 : normF ⟨1, 0, 0⟩ = 1 := by
  have h : usable ⟨1, 0, 0⟩ = true := rfl
  unfold normF
  rw [if_pos h]
  exact rootUp_eq ⟨by omega, by decide, fun _ => by decide⟩
def awA : List IV := [⟨⟨10, 12⟩, ⟨0, 0⟩, ⟨0, 0⟩⟩]
def awB : List IV := [⟨⟨3, 5⟩, ⟨0, 0⟩, ⟨0, 0⟩⟩]
theorem aw15a : margR ⟨1, 0, 0⟩ awA 2 awB 2 = .tuple #[.int .i64 1, .bool true] := by
  rw [margR_yes (by kernel_rfl)]
  have e : margX ⟨1, 0, 0⟩ awA 2 awB 2 = 1 := by
    unfold margX
    rw [norm100]
    decide
  rw [e]
theorem aw15b : sepB ⟨1, 0, 0⟩ awA 2 awB 2 = true := by
  rw [sepB_yes (by kernel_rfl)]
  have e : margX ⟨1, 0, 0⟩ awA 2 awB 2 = 1 := by
    unfold margX
    rw [norm100]
    decide
  rw [e]; rfl
theorem aw15c : sepB ⟨1, 0, 0⟩ awA 3 awB 2 = false := by
  rw [sepB_yes (by kernel_rfl)]
  have e : margX ⟨1, 0, 0⟩ awA 3 awB 2 = 0 := by
    unfold margX
    rw [norm100]
    decide
  rw [e]; rfl
theorem SlI.newOne (w : World) (cs : Array Value) (t : TypeId) {k : Nat} (h : k = w.heap.size) : Sl (w.alloc (.cells cs t)) (some ⟨k, 0, none⟩) cs.toList := by rw [h]; exact Sl.newW w cs t
/-- armplanlaw15.awake -/
theorem awake15 (w : World) : Calls Try.prog 67 #[] w fun e w' => e = .returned (.bool true) ∧ Below w.heap.size w w' := by
  go_enter Try.func67, Try.ntmps67
  go_wp2_with fail
  refine (margin_any ⟨1, 0, 0⟩ (some ⟨w.heap.size, 0, none⟩) awA 1 2 (some ⟨w.heap.size + 1, 0, none⟩) awB 1 2 _ (by exact Sl.alloc (Sl.newW w _ 44) _) (by exact SlI.newOne _ _ 44 (by simp)) (by decide) (by decide)).mono ?_
  rintro e w1 ⟨rfl, hb1⟩
  rw [aw15a]
  have SA := hide (show SlI w1 (some ⟨w.heap.size, 0, none⟩) awA from Sl.below (Sl.alloc (Sl.newW w _ 44) _) hb1)
  have SB := hide (show SlI w1 (some ⟨w.heap.size + 1, 0, none⟩) awB from Sl.below (SlI.newOne _ _ 44 (by simp)) hb1)
  have HB := hide (show Below w.heap.size w w1 from (((Below.refl _ _).alloc (Nat.le_refl _) _).alloc (by simp) _).trans (hb1.mono (by simp; omega)))
  clear hb1
  go_wp2_with fail
  refine (separates_any ⟨1, 0, 0⟩ (some ⟨w.heap.size, 0, none⟩) awA 1 2 (some ⟨w.heap.size + 1, 0, none⟩) awB 1 2 _ SA.out SB.out (by decide) (by decide)).mono ?_
  rintro e w2 ⟨rfl, hb2⟩
  rw [aw15b]
  have hz := HB.out.size
  replace SA := hide (SA.out.below hb2); replace SB := hide (SB.out.below hb2)
  have HB2 := hide (HB.out.trans (hb2.mono hz))
  have hz2 := HB2.out.size
  clear hb2
  go_wp2_with fail
  refine (separates_any ⟨1, 0, 0⟩ (some ⟨w.heap.size, 0, none⟩) awA 1 3 (some ⟨w.heap.size + 1, 0, none⟩) awB 1 2 _ SA.out SB.out (by decide) (by decide)).mono ?_
  rintro e w3 ⟨rfl, hb3⟩
  rw [aw15c]
  have HB3 := hide (HB2.out.trans (hb3.mono hz2))
  clear hb3
  go_wp2_with fail
  go_ret
  exact ⟨rfl, HB3.out⟩
end Go.Proofs.Ytionbckpgfaneaa
