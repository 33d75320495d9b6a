/- NormalsLists, walked. -/
import Derived.Test.YtionbckpgfaneaaLp
import Derived.Test.YtionbckpgfaneaaQd
import Derived.Test.YtionbckpgfaneaaQp
namespace Go.Proofs.Ytionbckpgfaneaa
open Go.RowKit
set_option maxHeartbeats 1000000
set_option maxRecDepth 100000
theorem normalsLists_walk (raw : List IV) (ra rb : Int) (list : List V3) (l m o : List Int) (p q : Int) (AR AI A4 A5 A6 : Option Addr) (cr ci c4 c5 c6 : Nat) (w : World) (hsr : SlI w AR raw) (hsl : SlV w AI list) (mr : raw.length ≤ 9223372036854775807) (mi : list.length ≤ 4000000)
    (hs4 : SlN w A4 l) (hs5 : SlN w A5 m) (hs6 : SlN w A6 o) (m4 : l.length ≤ 9223372036854775807) (m5 : m.length ≤ 9223372036854775807) (m6 : o.length ≤ 9223372036854775807) (hp : I64 p) (hq : I64 q) :
    Calls Try.prog 39 #[.slice AR raw.length cr, .int .i64 ra, .int .i64 rb, .slice AI list.length ci, .slice A4 l.length c4, .slice A5 m.length c5, .slice A6 o.length c6, .int .i64 p, .int .i64 q] w fun e w' => e = .returned (.bool true) ∧ Below w.heap.size w w' := by
  have SRW := hide hsr; have SLI := hide hsl
  clear hsr hsl
  have S4 := hide hs4; clear hs4
  have S5 := hide hs5; clear hs5
  have S6 := hide hs6; clear hs6
  have HP := hide hp; clear hp
  have HQ := hide hq; clear hq
  have B0 := hide (Below.refl w.heap.size w)
  have z0 : w.heap.size ≤ w.heap.size := Nat.le_refl _
  go_enter Try.func39, Try.ntmps39
  go_wp2_with fail
  refine (points_any A4 l c4 3000 _ S4.out m4 (by omega) (by omega)).mono ?_
  rintro e w1 ⟨va, as_, rfl, la1, la5, oka, hoa, hb1⟩
  have z1 : w.heap.size ≤ w1.heap.size := Nat.le_trans z0 hb1.size
  have B1 := hide (B0.out.trans (hb1.mono z0)); clear B0
  replace SRW := hide (SRW.out.below hb1)
  replace SLI := hide (SLI.out.below hb1)
  replace S4 := hide (S4.out.below hb1)
  replace S5 := hide (S5.out.below hb1)
  replace S6 := hide (S6.out.below hb1)
  obtain ⟨Aa, ca, rfl, _, _, _⟩ := own_val hoa
  have SA := hide (show SlI w1 Aa as_ from own_sl hoa)
  have OKA := hide oka
  clear hoa oka
  clear hb1
  go_wp2_with fail
  refine (points_any A5 m c5 3000 _ S5.out m5 (by omega) (by omega)).mono ?_
  rintro e w2 ⟨vb, bs, rfl, lb1, lb5, okb, hob, hb2⟩
  have z2 : w.heap.size ≤ w2.heap.size := Nat.le_trans z1 hb2.size
  have B2 := hide (B1.out.trans (hb2.mono z1)); clear B1
  replace SRW := hide (SRW.out.below hb2)
  replace SLI := hide (SLI.out.below hb2)
  replace S4 := hide (S4.out.below hb2)
  replace S5 := hide (S5.out.below hb2)
  replace S6 := hide (S6.out.below hb2)
  replace SA := hide (SA.out.below hb2)
  obtain ⟨Ab, cb, rfl, _, _, _⟩ := own_val hob
  have SB := hide (show SlI w2 Ab bs from own_sl hob)
  have OKB := hide okb
  clear hob okb
  clear hb2
  go_wp2_with fail
  refine (awake17 _).mono ?_
  rintro e w3 ⟨rfl, hb3⟩
  have z3 : w.heap.size ≤ w3.heap.size := Nat.le_trans z2 hb3.size
  have B3 := hide (B2.out.trans (hb3.mono z2)); clear B2
  replace SRW := hide (SRW.out.below hb3)
  replace SLI := hide (SLI.out.below hb3)
  replace S4 := hide (S4.out.below hb3)
  replace S5 := hide (S5.out.below hb3)
  replace S6 := hide (S6.out.below hb3)
  replace SA := hide (SA.out.below hb3)
  replace SB := hide (SB.out.below hb3)
  clear hb3
  go_wp2_with fail
  refine (axes_any _).mono ?_
  rintro e w4 ⟨Ae, ce, rfl, se, hb4⟩
  have z4 : w.heap.size ≤ w4.heap.size := Nat.le_trans z3 hb4.size
  have B4 := hide (B3.out.trans (hb4.mono z3)); clear B3
  replace SRW := hide (SRW.out.below hb4)
  replace SLI := hide (SLI.out.below hb4)
  replace S4 := hide (S4.out.below hb4)
  replace S5 := hide (S5.out.below hb4)
  replace S6 := hide (S6.out.below hb4)
  replace SA := hide (SA.out.below hb4)
  replace SB := hide (SB.out.below hb4)
  have SE := hide se; clear se
  clear hb4
  go_wp2_with fail
  refine (axes_ref _).mono ?_
  rintro e w5 ⟨Ag, cg, rfl, sg, hb5⟩
  have z5 : w.heap.size ≤ w5.heap.size := Nat.le_trans z4 hb5.size
  have B5 := hide (B4.out.trans (hb5.mono z4)); clear B4
  replace SRW := hide (SRW.out.below hb5)
  replace SLI := hide (SLI.out.below hb5)
  replace S4 := hide (S4.out.below hb5)
  replace S5 := hide (S5.out.below hb5)
  replace S6 := hide (S6.out.below hb5)
  replace SA := hide (SA.out.below hb5)
  replace SB := hide (SB.out.below hb5)
  replace SE := hide (SE.out.below hb5)
  have SG := hide sg; clear sg
  clear hb5
  go_wp2_with fail
  refine (same95 Ae Ag axesL ce cg _ SE.out SG.out (by decide)).mono ?_
  rintro e w6 ⟨rfl, hb6⟩
  have z6 : w.heap.size ≤ w6.heap.size := Nat.le_trans z5 hb6.size
  have B6 := hide (B5.out.trans (hb6.mono z5)); clear B5
  replace SRW := hide (SRW.out.below hb6)
  replace SLI := hide (SLI.out.below hb6)
  replace S4 := hide (S4.out.below hb6)
  replace S5 := hide (S5.out.below hb6)
  replace S6 := hide (S6.out.below hb6)
  replace SA := hide (SA.out.below hb6)
  replace SB := hide (SB.out.below hb6)
  replace SE := hide (SE.out.below hb6)
  replace SG := hide (SG.out.below hb6)
  clear hb6
  go_wp2_with fail
  refine (lists_any AR Ab AI cr cb ci raw bs list ra rb _ SRW.out SB.out SLI.out mr (by omega) mi).mono ?_
  rintro e w7 ⟨rfl, hb7⟩
  have z7 : w.heap.size ≤ w7.heap.size := Nat.le_trans z6 hb7.size
  have B7 := hide (B6.out.trans (hb7.mono z6)); clear B6
  replace SRW := hide (SRW.out.below hb7)
  replace SLI := hide (SLI.out.below hb7)
  replace S4 := hide (S4.out.below hb7)
  replace S5 := hide (S5.out.below hb7)
  replace S6 := hide (S6.out.below hb7)
  replace SA := hide (SA.out.below hb7)
  replace SB := hide (SB.out.below hb7)
  replace SE := hide (SE.out.below hb7)
  replace SG := hide (SG.out.below hb7)
  clear hb7
  go_wp2_with fail
  refine (radius17_any p _ HP.out).mono ?_
  rintro e w' ⟨rfl, rfl⟩
  go_wp2_with fail
  refine (radius17_any q _ HQ.out).mono ?_
  rintro e w' ⟨rfl, rfl⟩
  go_wp2_with fail
  refine (hints_any A6 o c6 _ S6.out m6).mono ?_
  rintro e w8 ⟨Ah, ch, hs, rfl, lh3, sh, hb8⟩
  have z8 : w.heap.size ≤ w8.heap.size := Nat.le_trans z7 hb8.size
  have B8 := hide (B7.out.trans (hb8.mono z7)); clear B7
  replace SRW := hide (SRW.out.below hb8)
  replace SLI := hide (SLI.out.below hb8)
  replace S4 := hide (S4.out.below hb8)
  replace S5 := hide (S5.out.below hb8)
  replace S6 := hide (S6.out.below hb8)
  replace SA := hide (SA.out.below hb8)
  replace SB := hide (SB.out.below hb8)
  replace SE := hide (SE.out.below hb8)
  replace SG := hide (SG.out.below hb8)
  have SH := hide sh; clear sh
  clear hb8
  go_wp2_with fail
  refine (lists_any Aa Ab Ah ca cb ch as_ bs hs (rad15 p) (rad15 q) _ SA.out SB.out SH.out (by omega) (by omega) (by omega)).mono ?_
  rintro e w9 ⟨rfl, hb9⟩
  have z9 : w.heap.size ≤ w9.heap.size := Nat.le_trans z8 hb9.size
  have B9 := hide (B8.out.trans (hb9.mono z8)); clear B8
  replace SRW := hide (SRW.out.below hb9)
  replace SLI := hide (SLI.out.below hb9)
  replace S4 := hide (S4.out.below hb9)
  replace S5 := hide (S5.out.below hb9)
  replace S6 := hide (S6.out.below hb9)
  replace SA := hide (SA.out.below hb9)
  replace SB := hide (SB.out.below hb9)
  replace SE := hide (SE.out.below hb9)
  replace SG := hide (SG.out.below hb9)
  replace SH := hide (SH.out.below hb9)
  clear hb9
  go_wp2_with fail
  refine (radius17_any p _ HP.out).mono ?_
  rintro e w' ⟨rfl, rfl⟩
  go_wp2_with fail
  refine (radius17_any q _ HQ.out).mono ?_
  rintro e w' ⟨rfl, rfl⟩
  go_wp2_with fail
  refine (lists_any Aa Ab AI ca cb ci as_ bs list (rad15 p) (rad15 q) _ SA.out SB.out SLI.out (by omega) (by omega) mi).mono ?_
  rintro e w10 ⟨rfl, hb10⟩
  have z10 : w.heap.size ≤ w10.heap.size := Nat.le_trans z9 hb10.size
  have B10 := hide (B9.out.trans (hb10.mono z9)); clear B9
  replace SRW := hide (SRW.out.below hb10)
  replace SLI := hide (SLI.out.below hb10)
  replace S4 := hide (S4.out.below hb10)
  replace S5 := hide (S5.out.below hb10)
  replace S6 := hide (S6.out.below hb10)
  replace SA := hide (SA.out.below hb10)
  replace SB := hide (SB.out.below hb10)
  replace SE := hide (SE.out.below hb10)
  replace SG := hide (SG.out.below hb10)
  replace SH := hide (SH.out.below hb10)
  clear hb10
  go_wp2_with fail
  refine (radius17_any p _ HP.out).mono ?_
  rintro e w' ⟨rfl, rfl⟩
  go_wp2_with fail
  refine (radius17_any q _ HQ.out).mono ?_
  rintro e w' ⟨rfl, rfl⟩
  go_wp2_with fail
  refine (lists_any Aa AR AI ca cr ci as_ raw list (rad15 p) (rad15 q) _ SA.out SRW.out SLI.out (by omega) mr mi).mono ?_
  rintro e w11 ⟨rfl, hb11⟩
  have z11 : w.heap.size ≤ w11.heap.size := Nat.le_trans z10 hb11.size
  have B11 := hide (B10.out.trans (hb11.mono z10)); clear B10
  replace SRW := hide (SRW.out.below hb11)
  replace SLI := hide (SLI.out.below hb11)
  replace S4 := hide (S4.out.below hb11)
  replace S5 := hide (S5.out.below hb11)
  replace S6 := hide (S6.out.below hb11)
  replace SA := hide (SA.out.below hb11)
  replace SB := hide (SB.out.below hb11)
  replace SE := hide (SE.out.below hb11)
  replace SG := hide (SG.out.below hb11)
  replace SH := hide (SH.out.below hb11)
  clear hb11
  go_wp2_with fail
  refine (lists_any Aa Ab AI ca cb ci as_ bs list ra rb _ SA.out SB.out SLI.out (by omega) (by omega) mi).mono ?_
  rintro e w12 ⟨rfl, hb12⟩
  have z12 : w.heap.size ≤ w12.heap.size := Nat.le_trans z11 hb12.size
  have B12 := hide (B11.out.trans (hb12.mono z11)); clear B11
  replace SRW := hide (SRW.out.below hb12)
  replace SLI := hide (SLI.out.below hb12)
  replace S4 := hide (S4.out.below hb12)
  replace S5 := hide (S5.out.below hb12)
  replace S6 := hide (S6.out.below hb12)
  replace SA := hide (SA.out.below hb12)
  replace SB := hide (SB.out.below hb12)
  replace SE := hide (SE.out.below hb12)
  replace SG := hide (SG.out.below hb12)
  replace SH := hide (SH.out.below hb12)
  clear hb12
  go_wp2_with fail
  go_ret
  exact ⟨rfl, B12.out⟩
end Go.Proofs.Ytionbckpgfaneaa
