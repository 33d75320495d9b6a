/- NormalsSound returns true for every input, and its arguments read afterwards as before. -/
import Derived.Test.YtionbckpgfaneaaOd
import Derived.Test.YtionbckpgfaneaaHead
import Derived.Test.YtionbckpgfaneaaOpen
import Derived.ChangeOld
namespace Go.Proofs.Ytionbckpgfaneaa
open Go.ChangeShapes Go.WideShapes Go.ChangeAt Go.RowKit
set_option linter.unusedVariables false
set_option maxRecDepth 100000
theorem normalsSound_contract (H : Type) (enc : TypeId × Value → H) (W : World) (base : Nat) (args : Array Value) (ds gs : List (DataW H)) (before : List MemPlace)
    (hval : ∀ (j : Nat) t v, Try.f40.params[j]? = some t → args[j]? = some v → Value.okWide Try.prog W .any base t v)
    (hW : DataW.Whole enc Try.prog Try.f40.params.toList Rows.normalsSoundSpec.vars false W args.toList ds gs before) :
    Calls Try.prog 40 args W fun e W' => ∃ v, e = .returned v ∧ Rows.normalsSoundSpec.post enc Try.prog Try.f40 false true false false W args v W' := by
  have hW' := hW
  obtain ⟨p, q, hA0, hV, rfl, hfz, hnd⟩ := hW
  have hA : DataW.TrodAll enc Try.prog W 0 (fun _ => true) true Try.f40.params.toList args.toList ds p := hA0
  rw [Try.params40] at hA hval
  obtain ⟨v0, vs0, d0, ds0, p0, q0, hargs, rfl, rfl, h0, r0⟩ := trodAll_cons hA
  obtain ⟨v1, vs1, d1, ds1, p1, q1, rfl, rfl, rfl, h1, r1⟩ := trodAll_cons r0
  obtain ⟨v2, vs2, d2, ds2, p2, q2, rfl, rfl, rfl, h2, r2⟩ := trodAll_cons r1
  obtain ⟨v3, vs3, d3, ds3, p3, q3, rfl, rfl, rfl, h3, r3⟩ := trodAll_cons r2
  obtain ⟨v4, vs4, d4, ds4, p4, q4, rfl, rfl, rfl, h4, r4⟩ := trodAll_cons r3
  obtain ⟨rfl, rfl, rfl⟩ := trodAll_nil r4
  obtain rfl : args = #[v0, v1, v2, v3, v4] := by cases args; simp_all
  obtain ⟨rfl, rfl⟩ := trodVars_none hV
  have k0 := h0
  have lt0 : ∀ x ∈ p0, x.block < W.heap.size := by obtain ⟨m, hm⟩ := k0; exact DataW.trod_lt m _ _ _ hm
  have k1 := h1
  have lt1 : ∀ x ∈ p1, x.block < W.heap.size := by obtain ⟨m, hm⟩ := k1; exact DataW.trod_lt m _ _ _ hm
  have k2 := h2
  have lt2 : ∀ x ∈ p2, x.block < W.heap.size := by obtain ⟨m, hm⟩ := k2; exact DataW.trod_lt m _ _ _ hm
  have k3 := h3
  have lt3 : ∀ x ∈ p3, x.block < W.heap.size := by obtain ⟨m, hm⟩ := k3; exact DataW.trod_lt m _ _ _ hm
  have k4 := h4
  have lt4 : ∀ x ∈ p4, x.block < W.heap.size := by obtain ⟨m, hm⟩ := k4; exact DataW.trod_lt m _ _ _ hm
  obtain ⟨A0, l0, c0, hv0, s0, m0, b0, g0⟩ := openN (t := 24) (e := 3) Try.underlying24 Try.underlying3 (by kernel_rfl) h0 (hval 0 24 v0 rfl rfl)
  subst hv0
  obtain ⟨A1, l1, c1, hv1, s1, m1, b1, g1⟩ := openN (t := 24) (e := 3) Try.underlying24 Try.underlying3 (by kernel_rfl) h1 (hval 1 24 v1 rfl rfl)
  subst hv1
  obtain ⟨A2, l2, c2, hv2, s2, m2, b2, g2⟩ := openN (t := 24) (e := 3) Try.underlying24 Try.underlying3 (by kernel_rfl) h2 (hval 2 24 v2 rfl rfl)
  subst hv2
  obtain ⟨x3, hv3, hd3, hp3, w3⟩ := open_int Try.underlying3 (hval 3 3 v3 rfl rfl) h3
  have i3 := I64_of_wf w3
  subst hv3
  obtain ⟨x4, hv4, hd4, hp4, w4⟩ := open_int Try.underlying3 (hval 4 3 v4 rfl rfl) h4
  have i4 := I64_of_wf w4
  subst hv4
  clear hA0
  refine (normalsSound_walk l0 l1 l2 x3 x4 A0 A1 A2 c0 c1 c2 W s0 s1 s2 m0 m1 m2 i3 i4).mono fun e W' ⟨he, bel⟩ => ?_
  subst he
  exact ⟨_, rfl, _, _, _, [], _, [], hW', trodAll_mk1 (shut_bool Try.underlying4 _), (trodAll_cons_mk (Below.trod laid_out (by kernel_rfl) (of_decide_eq_true (by kernel_rfl)) k0 bel lt0) (trodAll_cons_mk (Below.trod laid_out (by kernel_rfl) (of_decide_eq_true (by kernel_rfl)) k1 bel lt1) (trodAll_cons_mk (Below.trod laid_out (by kernel_rfl) (of_decide_eq_true (by kernel_rfl)) k2 bel lt2) (trodAll_cons_mk (Below.trod laid_out (by kernel_rfl) (of_decide_eq_true (by kernel_rfl)) k3 bel lt3) (trodAll_cons_mk (Below.trod laid_out (by kernel_rfl) (of_decide_eq_true (by kernel_rfl)) k4 bel lt4) trodAll_mk0))))), rfl, bel.frame _, fun h => by cases h⟩
theorem normalsSound_lifted (os : Os) (started : os.Started) (H : Type) (enc : TypeId × Value → H) :
    ReturnsInHanded {} Try.checked os 40 .any (Rows.normalsSoundSpec.pre6 enc Try.prog Try.f40 Rows.normalsSoundRow.domain false) (Rows.normalsSoundSpec.post enc Try.prog Try.f40 false true false false) := by
  refine returnsInHanded_of_change (C := Try.checked) own_knob started (by kernel_rfl) Try.func40
    (ChangeSpec.witness6 (enc := enc) (C := Try.checked) false ⟨#[], #[.slice none 0 0, .slice none 0 0, .slice none 0 0, .int .i64 0, .int .i64 0], []⟩ 8 (by kernel_rfl) (by kernel_rfl) (by kernel_rfl) (by kernel_rfl)) ?_
  intro W base args ds gs before hval hW _ _
  exact normalsSound_contract H enc W base args ds gs before hval hW
theorem normalsSound_closed : joinedFacts Try.prog 40 Try.f40 Rows.normalsSoundSpec Rows.normalsSoundRow = true := joined_of (by kernel_rfl) (by kernel_rfl) (by kernel_rfl) (by kernel_rfl) (by kernel_rfl) (by kernel_rfl) (by kernel_rfl) (by kernel_rfl) (by kernel_rfl) (by kernel_rfl) (by kernel_rfl) (by kernel_rfl) (by kernel_rfl) (by kernel_rfl) (by kernel_rfl) (by kernel_rfl) (by kernel_rfl) (by kernel_rfl) rfl rfl rfl rfl rfl rfl (by kernel_rfl) (by kernel_rfl) (by kernel_rfl)
/-- the statement -/
theorem normalsSound_holds : Rows.NormalsSoundSaid :=
  OpenClaim.holds_of_wide 40 Try.f40 rfl rfl rfl rfl rfl rfl rfl ⟨rfl, rfl, rfl, rfl, rfl⟩ rfl rfl rfl rfl rfl (by kernel_rfl) Try.func40 normalsSound_closed
    (of_decide_eq_true (by kernel_rfl)) (by unfold Func.isWrapper; first | (rw [if_pos (by decide +kernel)]; kernel_rfl) | (rw [if_neg (by decide +kernel)]; exact ⟨rfl, rfl⟩))
    (fun os started H enc _ => normalsSound_lifted os started H enc)
#print axioms normalsSound_holds
end Go.Proofs.Ytionbckpgfaneaa
