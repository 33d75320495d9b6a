/- PlaneFirst, walked. -/
import Derived.Test.YtionbckpgfaneaaVe
import Derived.Test.YtionbckpgfaneaaLm
import Derived.Test.YtionbckpgfaneaaWq
namespace Go.Proofs.Ytionbckpgfaneaa
open Go.RowKit
set_option maxHeartbeats 1000000
set_option maxRecDepth 100000
theorem flat_len (l : List V3) : (l.flatMap V3.cells).length = l.length * 3 := by
  induction l with
  | nil => rfl
  | cons a l ih => simp [V3.cells, ih]; omega
theorem flat_one {l : List V3} : ∀ u ∈ l.flatMap V3.cells, u.oneCell' = true := fun u hu => by
  obtain ⟨p, _, hp⟩ := List.mem_flatMap.1 hu
  simp [V3.cells] at hp
  rcases hp with rfl | rfl | rfl <;> rfl
def FHead (w0 : World) (n : Nat) (v i : Value) (wr : World) : Prop :=
  ∃ (mm : Nat) (ls : List V3), i = .int .i64 mm ∧ mm ≤ 4 ∧ ls.length + mm ≤ n + 4 ∧ SKeep w0 w0.heap.size 47 3 v ls.length (ls.flatMap V3.cells) wr
noncomputable def firstF (l : List V3) (a : List IV) (ra : Int) (b : List IV) (rb : Int) : Int := match firstI l a ra b rb l.length with
  | some i => (i : Int)
  | none => 0
noncomputable def firstB (l : List V3) (a : List IV) (ra : Int) (b : List IV) (rb : Int) : Bool := (firstI l a ra b rb l.length).isSome
theorem firstR_form (l : List V3) (a : List IV) (ra : Int) (b : List IV) (rb : Int) : firstR l a ra b rb = .tuple #[.int .i64 (firstF l a ra b rb), .bool (firstB l a ra b rb)] := by
  unfold firstR firstF firstB
  cases firstI l a ra b rb l.length <;> simp
theorem planeFirst_walk (raw : List V3) (l m o : List Int) (p q : Int) (A7 A4 A5 A6 : Option Addr) (c7 c4 c5 c6 : Nat) (w : World) (hsv : SlV w A7 raw) (m7 : raw.length ≤ 1048576)
    (hs4 : SlN w A4 l) (hs5 : SlN w A5 m) (hs6 : SlN w A6 o) (m4 : l.length ≤ 9223372036854775807) (m5 : m.length ≤ 9223372036854775807) (m6 : o.length ≤ 9223372036854775807) (hp : I64 p) (hq : I64 q) :
    Calls Try.prog 25 #[.slice A7 raw.length c7, .slice A4 l.length c4, .slice A5 m.length c5, .slice A6 o.length c6, .int .i64 p, .int .i64 q] w fun e w' => e = .returned (.bool true) ∧ Below w.heap.size w w' := by
  obtain ⟨i0, hi0, hz0, hz1, hz2⟩ := info_parts info47
  have SV := hide hsv; clear hsv
  have S4 := hide hs4; clear hs4
  have S5 := hide hs5; clear hs5
  have S6 := hide hs6; clear hs6
  have HP := hide hp; clear hp
  have HQ := hide hq; clear hq
  have B0 := hide (Below.refl w.heap.size w)
  have z0 : w.heap.size ≤ w.heap.size := Nat.le_refl _
  go_enter Try.func25, Try.ntmps25
  go_wp2_with fail
  refine (points_any A4 l c4 3000 _ S4.out m4 (by omega) (by omega)).mono ?_
  rintro e w1 ⟨va, as_, rfl, la1, la5, oka, hoa, hb1⟩
  have z1 : w.heap.size ≤ w1.heap.size := Nat.le_trans z0 hb1.size
  have B1 := hide (B0.out.trans (hb1.mono z0)); clear B0
  replace SV := hide (SV.out.below hb1)
  replace S4 := hide (S4.out.below hb1)
  replace S5 := hide (S5.out.below hb1)
  replace S6 := hide (S6.out.below hb1)
  obtain ⟨Aa, ca, rfl, _, _, _⟩ := own_val hoa
  have SA := hide (show SlI w1 Aa as_ from own_sl hoa)
  have OKA := hide oka
  clear hoa oka
  clear hb1
  go_wp2_with fail
  refine (points_any A5 m c5 3000 _ S5.out m5 (by omega) (by omega)).mono ?_
  rintro e w2 ⟨vb, bs, rfl, lb1, lb5, okb, hob, hb2⟩
  have z2 : w.heap.size ≤ w2.heap.size := Nat.le_trans z1 hb2.size
  have B2 := hide (B1.out.trans (hb2.mono z1)); clear B1
  replace SV := hide (SV.out.below hb2)
  replace S4 := hide (S4.out.below hb2)
  replace S5 := hide (S5.out.below hb2)
  replace S6 := hide (S6.out.below hb2)
  replace SA := hide (SA.out.below hb2)
  obtain ⟨Ab, cb, rfl, _, _, _⟩ := own_val hob
  have SB := hide (show SlI w2 Ab bs from own_sl hob)
  have OKB := hide okb
  clear hob okb
  clear hb2
  go_wp2_with fail
  have hsrc := Src.new c6 S6.out m6
  refine (from_any _ _ _ _).mono ?_
  rintro e w' ⟨rfl, rfl⟩
  have sv1 : SlV (w2.alloc (.cells #[.slice A6 o.length c6, .int .i64 0] 142)) A7 raw := Sl.alloc SV.out _
  go_wp2_with (at_builtin; refine wpList_append_sl _ rfl _ _ 49 rfl (w2.heap.size + 1) 47 i0 _ 3 24 Try.underlying49 hi0 hz0 hz1 hz2 rfl (by decide) (.slice none 0 0) 0 [] rfl (World.ownsRow_nil _ _ _ _) A7 raw.length c7 (raw.flatMap V3.cells) rfl (by rw [flat_len]) sv1 flat_one (by unfold maxLen; omega) (by omega) (by simp) ?_; intro v2 w3 hown2 hg2)
  have hbN : Below (w2.heap.size + 1) (w2.alloc (.cells #[.slice A6 o.length c6, .int .i64 0] 142)) w3 := (Below.refl _ _).grown hg2 (by simp) (fun g hg => by simp [Value.ownBlock] at hg)
  have HK : SKeep w2 w2.heap.size 47 3 v2 raw.length (raw.flatMap V3.cells) w3 := ⟨by simpa using hown2, hsrc.below hbN (by omega), ((Below.refl _ _).alloc (Nat.le_refl _) _).trans (hbN.mono (by omega))⟩
  clear hown2 hg2 hbN sv1 hsrc
  go_wp2_with fail
  refine (next_any _ _ _ HK.src (by omega) (by omega)).mono ?_
  rintro e w4 ⟨cnt, hc1, hc2, rfl, S4', G4⟩
  have HK4 := HK.grown G4 S4'
  clear HK S4' G4
  go_wp2_with fail
  go_loopw [16, 17] (fun v i wr => FHead w2 raw.length v i wr) (fun _ i _ => (intOf i).toNat)
  case atStart => exact ⟨cnt.toNat, raw, by simp; omega, by omega, by omega, HK4⟩
  case round =>
    clear HK4
    obtain ⟨mm, ls, rfl, hm4, hll, HK⟩ := hrel
    by_cases hm0 : 0 < mm
    · go_wp2_with fail
      refine (next_any _ _ _ HK.src (by omega) (by omega)).mono ?_
      rintro e x1 ⟨n1, _, _, rfl, s1, g1⟩
      have HK1 := HK.grown g1 s1; clear HK s1 g1
      go_wp2_with fail
      refine (next_any _ _ _ HK1.src (by omega) (by omega)).mono ?_
      rintro e x2 ⟨n2, _, _, rfl, s2, g2⟩
      have HK2 := HK1.grown g2 s2; clear HK1 s2 g2
      go_wp2_with fail
      refine (next_any _ _ _ HK2.src (by omega) (by omega)).mono ?_
      rintro e x3 ⟨n3, _, _, rfl, s3, g3⟩
      have HK3 := HK2.grown g3 s3; clear HK2 s3 g3
      go_wp2_with fail
      refine (mkNormal_any n1 n2 n3 _).mono ?_
      rintro e x4 ⟨nn, _, rfl, hb4⟩
      have HK4 := HK3.below hb4; clear HK3 hb4
      unfold V3.v
      have hx4 := HK4.src.lt
      go_wp2_with (at_builtin; refine wpList_append_own _ rfl _ _ 49 rfl (w2.heap.size + 1) 47 i0 _ 3 24 Try.underlying49 hi0 hz0 hz1 hz2 rfl (by decide) u16 ls.length (ls.flatMap V3.cells) rfl (HK4.own.alloc _) ⟨x4.heap.size, 0, none⟩ 1 1 nn.cells rfl rfl ?c1 ?c2 ?c3 ?c4 ?c5 ?_)
      case c1 => exact news_at (heap_alloc_new x4 _)
      case c2 => simp [Value.oneCell', V3.cells]
      case c3 => unfold maxLen; omega
      case c4 => omega
      case c5 => simp; omega
      intro v' x9 hown9 hg9 _
      have K9 := HK4.append hg9 hown9
      clear hg9 hown9 HK4
      go_wp2_with fail
      go_roundw
      case rel => exact ⟨mm - 1, ls ++ [nn], by go_num, by omega, by simp; omega, by simpa using K9⟩
      case measure => simp [intOf]; omega
    · obtain rfl : mm = 0 := by omega
      obtain ⟨w3, rfl⟩ : ∃ W : World, W = wr := ⟨_, rfl⟩
      have hbk : Below w2.heap.size w2 w3 := HK.bel
      have hown := HK.own
      clear HK hm0
      have z3 : w.heap.size ≤ w3.heap.size := Nat.le_trans z2 hbk.size
      have B3 := hide (B2.out.trans (hbk.mono z2)); clear B2
      replace SA := hide (SA.out.below hbk)
      replace SB := hide (SB.out.below hbk)
      obtain ⟨Al, cl, rfl, _, _, _⟩ := own_val hown
      have SL := hide (show SlV w3 Al ls from own_sl hown)
      clear hown hbk
      go_wp2_with fail
      refine (radius15_any p _ HP.out).mono ?_
      rintro e w' ⟨rfl, rfl⟩
      go_wp2_with fail
      refine (radius15_any q _ HQ.out).mono ?_
      rintro e w' ⟨rfl, rfl⟩
      go_wp2_with fail
      refine (first_any Al Aa Ab ls as_ bs (rad15 p) (rad15 q) cl ca cb _ SL.out SA.out SB.out (by omega) (by omega) (by omega)).mono ?_
      rintro e w4 ⟨rfl, hb4⟩
      have z4 : w.heap.size ≤ w4.heap.size := Nat.le_trans z3 hb4.size
      have B4 := hide (B3.out.trans (hb4.mono z3)); clear B3
      replace SA := hide (SA.out.below hb4)
      replace SB := hide (SB.out.below hb4)
      replace SL := hide (SL.out.below hb4)
      rw [firstR_form]
      generalize hF : firstF ls as_ (rad15 p) bs (rad15 q) = F
      generalize hG : firstB ls as_ (rad15 p) bs (rad15 q) = G
      have HF := hide hF; have HG := hide hG; clear hF hG
      clear hb4
      go_wp2_with fail
      refine (radius15_any p _ HP.out).mono ?_
      rintro e w' ⟨rfl, rfl⟩
      go_wp2_with fail
      refine (radius15_any q _ HQ.out).mono ?_
      rintro e w' ⟨rfl, rfl⟩
      go_wp2_with fail
      refine (first_ref Al Aa Ab ls as_ bs (rad15 p) (rad15 q) cl ca cb _ SL.out SA.out SB.out (by omega) (by omega) (by omega)).mono ?_
      rintro e w5 ⟨rfl, hb5⟩
      have z5 : w.heap.size ≤ w5.heap.size := Nat.le_trans z4 hb5.size
      have B5 := hide (B4.out.trans (hb5.mono z4)); clear B4
      replace SA := hide (SA.out.below hb5)
      replace SB := hide (SB.out.below hb5)
      replace SL := hide (SL.out.below hb5)
      rw [firstR_form, HF.out, HG.out]
      clear hb5
      go_wp2_with fail
      refine (awake15 _).mono ?_
      rintro e w6 ⟨rfl, hb6⟩
      have z6 : w.heap.size ≤ w6.heap.size := Nat.le_trans z5 hb6.size
      have B6 := hide (B5.out.trans (hb6.mono z5)); clear B5
      replace SA := hide (SA.out.below hb6)
      replace SB := hide (SB.out.below hb6)
      replace SL := hide (SL.out.below hb6)
      clear hb6
      go_wp2_with fail
      go_ret
      exact ⟨by simp, B6.out⟩
end Go.Proofs.Ytionbckpgfaneaa
