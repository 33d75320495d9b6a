/- Walks of the normals, part k: normals.Candidates. -/
import Derived.Test.YtionbckpgfaneaaQi
import Derived.RangeFuncBox
import Derived.Maps.OwnIn
namespace Go.Proofs.Ytionbckpgfaneaa
open Go.RowKit Go.Shelf
set_option maxHeartbeats 4000000
set_option maxRecDepth 100000
attribute [local go_sem] Oper.semAt_some
theorem cands_len (a b : List IV) (ra rb : Int) (h : List V3) : (cands a ra b rb h).length ≤ h.length + 8 := by
  unfold cands
  split
  · have h1 : (h.filter usable).length ≤ h.length := List.length_filter_le _ _
    have h2 : (meanL a b).length ≤ 1 := by unfold meanL; split <;> simp
    have h3 : (searchL a ra b rb).length ≤ 1 := by unfold searchL; split <;> simp
    simp only [List.length_append]
    have : axesL.length = 6 := rfl
    omega
  · simp
theorem idle139 (p : Addr) (w : World) (n : Nat) :
    CallsDIn Fence.wide n Try.prog 139 #[.pointer (some p)] .returning w fun e u' w' => e = .returned (.tuple #[]) ∧ u' = .returning ∧ w' = w := by
  refine callsDIn_of_wpSIn Try.func139 rfl trivial fun c₀ cs hu => ?_
  apply wpSIn_seq
  apply wpSIn_region
  simp [wpOpsSIn, go_sem, recoverD, hu, Try.ntmps139, Exit.thenS]
  refine wpSIn_cond (t := false) (by simp [Act.eval, Array.replicate]) ?_
  simp only [Bool.false_eq_true, if_false]
  refine wpSIn_of_wpIn rfl (wpIn_skip ?_)
  cases c₀
  simp_all [bodyPostS, results, Try.results139]
theorem leave99 (w : World) (tmps : Array Value) (X : World) (D : Nat) (v : Value) (R : Ending → World → Prop) (h10 : tmps[10]? = some (.pointer (some ⟨w.heap.size, 0, none⟩)))
    (k0 : X.heap[w.heap.size]? = some (.cells #[v] 49 (0, 0))) (hK : X.heap[D]? = some (.deferred (some []))) (hD : w.heap.size < D)
    (h : R (.returned v) (X.putObj D (.deferred none))) :
    LeavesInM Fence.wide 5 Try.prog Try.f99 tmps R [{ target := .collected D, args := #[] }, { target := .fn (.func 139) #[.pointer (some ⟨w.heap.size, 0, none⟩)], args := #[] }] .returning X := by
  refine ⟨by simp, .inl ⟨_, _, rfl, run_takeDeferred hK, ?_⟩⟩
  have q0 : (X.putObj D (.deferred none)).heap[w.heap.size]? = some (.cells #[v] 49 (0, 0)) := (World.putObj_heap_other (by omega)).trans k0
  obtain ⟨Y, hY⟩ : ∃ Y, X.putObj D (.deferred none) = Y := ⟨_, rfl⟩
  rw [hY] at q0 h ⊢
  clear hY
  have c0 := blk_cell q0
  refine ⟨by simp, .inr ⟨fun k => (by cases k), .func 139, _, 139, #[.pointer (some ⟨w.heap.size, 0, none⟩)], rfl, by simp [go_sem], fun _ _ => trivial, (idle139 _ _ _).mono ?_⟩⟩
  rintro e u' w'' ⟨rfl, rfl, rfl⟩
  refine ⟨v, ?_, h⟩
  simp [results, Try.results99, go_sem, h10, c0]
theorem kpc_app {w W w1 : World} {v v' : Value} {tmp : Obj} {k m : Nat} {xs ys : List Value} (hv : Boxed W w.heap.size 49 v) (hB : Below w.heap.size w W) (hrow : W.ownsRow w.heap.size 47 3 v k xs)
    (hown' : w1.ownsRow w.heap.size 47 3 v' m ys) (hgrow : (W.alloc tmp).grownBy w1 v.ownBlock) (hat : v'.ownBlock = v.ownBlock ∨ v'.ownBlock = some (W.alloc tmp).heap.size) :
    KpC w.heap.size w.heap.size W (w1.setCell ⟨w.heap.size, 0, none⟩ v') := by
  obtain ⟨hv1, hv2, hr2, hk2, hb2⟩ := hv.appended (by decide) hrow hB.size (Nat.le_refl _) hown' hgrow
  have e0 : rowX w.heap.size W = v.ownBlock := by unfold rowX; rw [hv.cell]; rfl
  have e1 : rowX w.heap.size (w1.setCell ⟨w.heap.size, 0, none⟩ v') = v'.ownBlock := by unfold rowX; rw [hv2.cell]; rfl
  refine ⟨hb2, fun j cs t f hj hne hr hc => ?_, ?_⟩
  · rw [Below.heap_setCell _ _ _ _ (by simpa using hne)]
    refine (hgrow.block j (by simp; omega) (by rw [e0] at hr; exact fun e => hr e.symm)).trans ?_
    exact (Below.heap_alloc _ _ _ hj).trans hc
  · rw [e0, e1]
    rcases hat with h | h
    · exact .inl h
    · refine .inr ⟨_, h, by simp, ?_⟩
      rcases hr2.2 with ⟨rfl, _⟩ | ⟨g, cap, cur, rfl, _, hgb, _⟩
      · simp [Value.ownBlock] at h
      · have : g = (W.alloc tmp).heap.size := by simpa [Value.ownBlock] using h
        subst this
        exact (Array.getElem?_eq_some_iff.1 hgb).1
def CandsPost (l : List V3) (w : World) (e : Ending) (w' : World) : Prop := ∃ (A : Option Addr) (c : Nat), e = .returned (.slice A l.length c) ∧ SlV w' A l ∧ Below w.heap.size w w'
theorem five_new (w : World) (A B H : Value) (ra rb : Int) : CE w w.heap.size (w.heap.size + 1) A B H ra rb (five (w.alloc (.cells #[.slice none 0 0] 49)) A B H ra rb) := by
  have z1 : (w.alloc (.cells #[.slice none 0 0] 49)).heap.size = w.heap.size + 1 := by simp
  have hb := below_five (w.alloc (.cells #[.slice none 0 0] 49)) A B H ra rb
  have kx : (five (w.alloc (.cells #[.slice none 0 0] 49)) A B H ra rb).heap[w.heap.size]? = some (.cells #[.slice none 0 0] 49 (0, 0)) := (hb.block _ (by simp)).trans (new_at _ _ rfl)
  refine ⟨((Below.refl _ _).alloc (Nat.le_refl _) _).trans (hb.mono (by simp)), ?_, ?_, ?_, ?_, ?_, by omega, ?_⟩
  · rw [← z1]; unfold five; exact (Below.heap_alloc _ _ _ (by simp <;> omega)).trans ((Below.heap_alloc _ _ _ (by simp <;> omega)).trans ((Below.heap_alloc _ _ _ (by simp <;> omega)).trans ((Below.heap_alloc _ _ _ (by simp)).trans (new_at _ _ rfl))))
  · rw [← z1]; unfold five; exact (Below.heap_alloc _ _ _ (by simp <;> omega)).trans ((Below.heap_alloc _ _ _ (by simp <;> omega)).trans ((Below.heap_alloc _ _ _ (by simp)).trans (new_at _ _ (by simp))))
  · rw [← z1]; unfold five; exact (Below.heap_alloc _ _ _ (by simp <;> omega)).trans ((Below.heap_alloc _ _ _ (by simp)).trans (new_at _ _ (by simp)))
  · rw [← z1]; unfold five; exact (Below.heap_alloc _ _ _ (by simp)).trans (new_at _ _ (by simp))
  · rw [← z1]; unfold five; exact new_at _ _ (by simp)
  · intro g hg
    unfold rowX at hg
    rw [blk_cell kx] at hg
    cases hg
/-- normals.Candidates -/
theorem candidates_any (A B H : Option Addr) (ca cb ch : Nat) (a b : List IV) (h : List V3) (ra rb : Int) (w : World) (sa : SlI w A a) (sb : SlI w B b) (sh : SlV w H h) (m1 : a.length ≤ 9223372036854775807) (m2 : b.length ≤ 9223372036854775807) (m3 : h.length ≤ 4000000) :
    Calls Try.prog 99 #[.slice A a.length ca, .int .i64 ra, .slice B b.length cb, .int .i64 rb, .slice H h.length ch] w (CandsPost (cands a ra b rb h) w) := by
  have hmf := hmf
  obtain ⟨i0, hi0, hz0, hz1, hz2⟩ := info_parts info47
  have HA := hide sa; have HB := hide sb; have HH := hide sh
  have CL := cands_len a b ra rb h
  clear sa sb sh
  refine (callsIn_wide (n := 5)).1 ?_
  refine callsIn_of_wp_marks Try.func99 rfl trivial ?_ rfl
  simp only [Try.ntmps99, List.size_toArray, List.length_cons, List.length_nil, Nat.reduceAdd, Nat.reduceSub, Array.replicate_succ, Array.replicate_zero, List.push_toArray, List.append_toArray, List.nil_append, List.cons_append]
  gi_wp2_with fail
  obtain ⟨W1, hW1⟩ : ∃ W1, w.alloc (.cells #[.slice none 0 0] 49) = W1 := ⟨_, rfl⟩
  have z1 : W1.heap.size = w.heap.size + 1 := by rw [← hW1]; simp
  have k1 : W1.heap[w.heap.size]? = some (.cells #[.slice none 0 0] 49 (0, 0)) := by rw [← hW1]; exact new_at _ _ rfl
  have CE1 := hide (show CE w w.heap.size (w.heap.size + 1) (.slice A a.length ca) (.slice B b.length cb) (.slice H h.length ch) ra rb (five W1 (.slice A a.length ca) (.slice B b.length cb) (.slice H h.length ch) ra rb) by rw [← hW1]; exact five_new w _ _ _ ra rb)
  have b1 : Below w.heap.size w W1 := by rw [← hW1]; exact (Below.refl _ _).alloc (Nat.le_refl _) _
  rw [hW1]
  clear hW1 hmf
  refine viaW2 (cand135 A B H a.length ca b.length cb h.length ch ra rb _) ?_
  rintro e w1 ⟨rfl, rfl⟩
  obtain ⟨W0, hW0⟩ : ∃ W0, five W1 (.slice A a.length ca) (.slice B b.length cb) (.slice H h.length ch) ra rb = W0 := ⟨_, rfl⟩
  have b10 : Below W1.heap.size W1 W0 := by rw [← hW0]; exact below_five _ _ _ _ _ _
  have z0 : W0.heap.size = W1.heap.size + 5 := by rw [← hW0]; simp [five]
  have K0 := hide (show Boxed W0 w.heap.size 49 (.slice none 0 0) from (b10.block _ (blt k1)).trans k1)
  have B0 := hide (show Below w.heap.size w W0 from b1.trans (b10.mono (by omega)))
  rw [hW0] at CE1 ⊢
  clear hW0 b10 b1 k1
  unfold ptrO
  rw [z1]
  gi_wp2_with fail
  refine wpIn_rangeFunc_ownH rfl (by omega) (gf := 172) (lb := #[ptrO (w.heap.size + 1), ptrO (w.heap.size + 1 + 2), ptrO (w.heap.size + 1 + 1), ptrO (w.heap.size + 1 + 3), ptrO (w.heap.size + 1 + 4)]) rfl trivial (enters_of Try.func172 (by kernel_rfl) rfl)
    (cand_stops 4 w w.heap.size (w.heap.size + 1) A B H ca cb ch a b h ra rb HA.out HB.out HH.out m1 m2 (by omega) W0 CE1.out) KpC.t (KpC.b (by omega) (by omega)) (Below.refl _ _) (fun _ => rfl)
    (fun (pre : List V3) W => (∃ v, Boxed W w.heap.size 49 v ∧ W.ownsRow w.heap.size 47 3 v pre.length (pre.flatMap V3.cells) ∧ True) ∧ Below w.heap.size w W)
    (fun _ _ _ => False)
    (OwnFrom.and (Own.from (holdsRow_own w.heap.size w.heap.size 49 47 3 (fun pre : List V3 => pre.length) (fun pre : List V3 => pre.flatMap V3.cells) (fun _ _ => True)) _) (ownFrom_below (Nat.le_refl _) (by omega)))
    (fun _ _ _ _ _ hs _ _ => hs)
    ⟨⟨_, K0.out, World.ownsRow_nil _ _ _ _, trivial⟩, B0.out⟩
    (fun x a' W => ∃ Bx, W.heap[Bx]? = some (Obj.cells #[.int .i64 x.x, .int .i64 x.y, .int .i64 x.z] 47 (0, 0)) ∧ w.heap.size < Bx ∧ a' = { tmps := #[.slice A a.length ca, .int .i64 ra, .slice B b.length cb, .int .i64 rb, .slice H h.length ch, undef, undef, undef, undef, undef, .pointer (some ⟨w.heap.size, 0, none⟩), .pointer (some ⟨Bx, 0, none⟩), .func (.func 139) #[] #[.pointer (some ⟨w.heap.size, 0, none⟩)], .slice A a.length ca, .int .i64 ra, .slice B b.length cb, .int .i64 rb, .slice H h.length ch, .func (.func 172) #[] #[.pointer (some ⟨w.heap.size + 1, 0, none⟩), .pointer (some ⟨w.heap.size + 1 + 1 + 1, 0, none⟩), .pointer (some ⟨w.heap.size + 1 + 1, 0, none⟩), .pointer (some ⟨w.heap.size + 1 + 1 + 1 + 1, 0, none⟩), .pointer (some ⟨w.heap.size + 1 + 1 + 1 + 1 + 1, 0, none⟩)], .agg #[.int .i64 x.x, .int .i64 x.y, .int .i64 x.z], undef, undef, undef, undef, undef], defers := [] })
    (fun x a' _ X Y row hs hg hr => by
      obtain ⟨Bx, h1, h2, h3⟩ := hs
      refine ⟨Bx, (hg.block Bx (blt h1) (fun e => ?_)).trans h1, h2, h3⟩
      obtain ⟨_, o, ho, hc⟩ := hr Bx e.symm
      rw [h1] at ho
      cases ho
      cases hc)
    ?assign ?body ?done ?stop
  case assign =>
    rintro l pre x W K ⟨⟨v, hv, hrow, _⟩, hB⟩ hK
    have HK := hide hK; have HV := hide hv; have HRW := hide hrow; have HBW := hide hB
    have yv := hv.lt
    clear hK hv hrow hB
    unfold encV
    gi_wp2_with fail
    have b7 : Below W.heap.size W (W.alloc (.cells #[.int .i64 x.x, .int .i64 x.y, .int .i64 x.z] 47)) := (Below.refl _ _).alloc (Nat.le_refl _) _
    exact HK.out _ _ ((KeepsOthers.alloc _ _).from _) (KpC.of_below HBW.out.size yv b7) ⟨⟨v, HV.out.alloc _, own_below HRW.out b7, trivial⟩, stepB b7 HBW.out⟩ ⟨W.heap.size, new_at _ _ rfl, yv, rfl⟩
  case body =>
    rintro l pre x a' W hl hr ⟨⟨v, hv, hrow, _⟩, hB⟩ ⟨Bx, kx, hBx, rfl⟩ hlt
    have HV := hide hv; have HRW := hide hrow; have HBW := hide hB
    have cx := blk_cell kx; have cv := hv.cell; have yx := blt kx; have yv := hv.lt
    have hz := hB.size
    clear hv hrow hB kx hr
    gi_wp2_with (gi_at_builtin; refine wpListIn_append_own_at _ rfl _ _ 49 rfl w.heap.size 47 i0 _ 3 24 Try.underlying49 hi0 hz0 hz1 hz2 rfl (by decide) _ _ _ rfl (HRW.out.alloc _) ⟨W.heap.size, 0, none⟩ 1 1 x.cells rfl rfl ?c1 ?c2 ?c3 ?c4 ?c5 ?_)
    case c1 => exact news_at (heap_alloc_new W _)
    case c2 => simp [Value.oneCell', V3.cells]
    case c3 => unfold maxLen; omega
    case c4 => omega
    case c5 => simp; omega
    intro v' w1 hown' hgrow _ hat
    obtain ⟨g', cap', rfl⟩ := ownsRow_succ hown'
    have KP := hide (kpc_app HV.out HBW.out HRW.out hown' hgrow (by simpa using hat))
    obtain ⟨hv1, hv2, hr2, hk2, hb2⟩ := HV.out.appended (by decide) HRW.out HBW.out.size (Nat.le_refl _) hown' hgrow
    have cb1 := hv1.cell; have fb1 := hv1.frozen; have yb1 := hv1.lt
    have V2 := hide hv2; have R2 := hide hr2; have K2 := hide hk2; have B2 := hide hb2
    clear hv1 hv2 hr2 hk2 hb2 hown' hgrow hat cv cx
    gi_wp2_with fail
    exact ⟨K2.out.from _, KP.out, ⟨_, V2.out, by simpa using R2.out, trivial⟩, HBW.out.trans B2.out⟩
  case done =>
    rintro D xs W hD rfl ⟨⟨v, hv, hrow, _⟩, hB⟩ hK
    obtain ⟨A9, c9, rfl, _, _, _⟩ := own_val hrow
    have HV := hide hv; have HRW := hide hrow; have HBW := hide hB; have HKD := hide hK
    have cv := hv.cell; have yv := hv.lt; have fv := hv.frozen
    clear hv hrow hB hK
    gi_wp2_with fail
    have kD := setNot (N := w.heap.size) (i := 0) (u := .slice A9 (cands a ra b rb h).length c9) HKD.out (by omega)
    have ow := HRW.out.kept (grownBy_setCell' W w.heap.size (.slice A9 (cands a ra b rb h).length c9)) (.inr (HV.out.not_row (by decide) HRW.out).symm)
    refine leave99 w _ _ D (.slice A9 (cands a ra b rb h).length c9) _ rfl (HV.out.set _) kD (by omega) ⟨A9, c9, rfl, own_sl (ownsRow_putObj ow _ kD rfl), ?_⟩
    exact (HBW.out.setCell (by simp) _).trans (belowK_b (w := w) (Nat.le_refl _) _ D _ _ (by omega) kD rfl rfl)
  case stop =>
    rintro D c pre W _ _ h _
    exact h.elim
end Go.Proofs.Ytionbckpgfaneaa
