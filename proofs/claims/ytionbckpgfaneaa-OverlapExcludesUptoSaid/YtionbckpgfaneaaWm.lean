/- Walks, part m: the comparison of Excess and Overlaps. -/
import Derived.Test.YtionbckpgfaneaaWk
namespace Go.Proofs.Ytionbckpgfaneaa
open Go.RowKit
set_option maxHeartbeats 1000000
set_option maxRecDepth 100000
theorem aw1 : excR [1] [1] [zeroIV] [⟨⟨3, 4⟩, ⟨0, 0⟩, ⟨0, 0⟩⟩] 3 1 = .tuple #[.int .i64 0, .bool true] := by kernel_rfl
theorem aw2 : excR [1] [1] [zeroIV] [⟨⟨3, 4⟩, ⟨0, 0⟩, ⟨0, 0⟩⟩] 3 0 = .tuple #[.int .i64 (-1), .bool true] := by kernel_rfl
theorem aw3 : ovl [1] [1] [zeroIV] [⟨⟨3, 4⟩, ⟨0, 0⟩, ⟨0, 0⟩⟩] 3 1 = true := by kernel_rfl
/-- armplanref14.Overlaps -/
theorem overlaps_ref (left right : List Int) (a b : List IV) (ra rb : Int) (A B C D : Option Addr) (c1 c2 c3 c4 : Nat) (w : World) (hl : SlN w A left) (hr : SlN w B right) (ha : SlI w C a) (hb : SlI w D b)
   (m1 : left.length ≤ 9223372036854775807) (m2 : right.length ≤ 9223372036854775807) (m3 : a.length ≤ 9223372036854775807) (m4 : b.length ≤ 9223372036854775807) :
    Calls Try.prog 86 #[.slice A left.length c1, .slice B right.length c2, .slice C a.length c3, .int .i64 ra, .slice D b.length c4, .int .i64 rb] w fun e w' => e = .returned (.bool (ovl left right a b ra rb)) ∧ Below w.heap.size w w' := by
  have HL := hide hl; have HR := hide hr; have HA := hide ha; have HB := hide hb
  clear hl hr ha hb
  go_enter Try.func86, Try.ntmps86
  go_wp2_with fail
  refine (excess_ref left right a b ra rb A B C D c1 c2 c3 c4 _ HL.out HR.out HA.out HB.out m1 m2 m3 m4).mono ?_
  rintro e w1 ⟨rfl, hb1⟩
  rw [excR_form]
  have HW := hide hb1
  clear hb1
  generalize hx : excX left right a b ra rb = x
  generalize hf : excOk left right a b ra rb = f
  have HX := hide hx; have HF := hide hf
  clear hx hf
  cases f
  · go_wp2_with fail
    go_ret
    exact ⟨by rw [ovl, HF.out, HX.out]; rfl, HW.out⟩
  · go_wp2_with fail
    go_ret
    exact ⟨by rw [ovl, HF.out, HX.out]; rfl, HW.out⟩
/-- armplanlaw16.excess: the program and the reference agree -/
theorem excess16 (left right : List Int) (a b : List IV) (ra rb : Int) (A B C D : Option Addr) (c1 c2 c3 c4 : Nat) (w : World) (hl : SlN w A left) (hr : SlN w B right) (ha : SlI w C a) (hb : SlI w D b)
   (m1 : left.length ≤ 9223372036854775807) (m2 : right.length ≤ 9223372036854775807) (m3 : a.length ≤ 9223372036854775807) (m4 : b.length ≤ 9223372036854775807) :
    Calls Try.prog 44 #[.slice A left.length c1, .slice B right.length c2, .slice C a.length c3, .int .i64 ra, .slice D b.length c4, .int .i64 rb] w fun e w' => e = .returned (.bool true) ∧ Below w.heap.size w w' := by
  have HL := hide hl; have HR := hide hr; have HA := hide ha; have HB := hide hb
  clear hl hr ha hb
  go_enter Try.func44, Try.ntmps44
  go_wp2_with fail
  refine (excess_any left right a b ra rb A B C D c1 c2 c3 c4 _ HL.out HR.out HA.out HB.out m1 m2 m3 m4).mono ?_
  rintro e w1 ⟨rfl, hb1⟩
  rw [excR_form]
  have z1 := hb1.size
  have W1 := hide hb1; clear hb1
  generalize hx : excX left right a b ra rb = x
  generalize hf : excOk left right a b ra rb = f
  have HX := hide hx; have HF := hide hf
  clear hx hf
  go_wp2_with fail
  refine (excess_ref left right a b ra rb A B C D c1 c2 c3 c4 _ (HL.out.below W1.out) (HR.out.below W1.out) (HA.out.below W1.out) (HB.out.below W1.out) m1 m2 m3 m4).mono ?_
  rintro e w2 ⟨rfl, hb2⟩
  rw [excR_form, HX.out, HF.out]
  have z2 := hb2.size
  have W2 := hide (W1.out.trans (hb2.mono z1)); clear hb2
  go_wp2_with fail
  refine (overlaps_any left right a b ra rb A B C D c1 c2 c3 c4 _ (HL.out.below W2.out) (HR.out.below W2.out) (HA.out.below W2.out) (HB.out.below W2.out) m1 m2 m3 m4).mono ?_
  rintro e w3 ⟨rfl, hb3⟩
  have z3 := hb3.size
  have W3 := hide (W2.out.trans (hb3.mono (by omega))); clear hb3
  go_wp2_with fail
  refine (overlaps_ref left right a b ra rb A B C D c1 c2 c3 c4 _ (HL.out.below W3.out) (HR.out.below W3.out) (HA.out.below W3.out) (HB.out.below W3.out) m1 m2 m3 m4).mono ?_
  rintro e w4 ⟨rfl, hb4⟩
  have W4 := hide (W3.out.trans (hb4.mono (by omega))); clear hb4
  go_wp2_with fail
  go_ret
  exact ⟨by simp, W4.out⟩
end Go.Proofs.Ytionbckpgfaneaa
