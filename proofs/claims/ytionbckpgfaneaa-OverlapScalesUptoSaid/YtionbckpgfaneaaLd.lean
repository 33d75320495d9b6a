import Derived.Test.YtionbckpgfaneaaWn
import Derived.Test.YtionbckpgfaneaaWo
import Derived.Test.YtionbckpgfaneaaPc
namespace Go.Proofs.Ytionbckpgfaneaa
open Go.RowKit
set_option maxHeartbeats 1000000
set_option maxRecDepth 100000
theorem comb_scaled {f : Int} (hf0 : 0 ≤ f) (hf1 : f ≤ 255) {l : List IV} {s : List Int} (h1 : 1 ≤ l.length) (h5 : l.length ≤ 8) (h : ∀ p ∈ l, IVOk 3000 p) (hl : s.length = l.length) (h9 : ∀ x ∈ s, 0 ≤ x ∧ x ≤ 54) (s1 : 1 ≤ s.sum) (s2 : s.sum ≤ 45) : combOk l (s.map (· * (f + 1))) = true := by
  refine combOk_yes (placed_made (by omega) h1 h5 h) (by simpa using hl) (wOk_yes _ fun j hj => ?_) ?_
  · simp only [List.getElem_map, List.length_map] at hj ⊢
    have := h9 s[j] (by simp)
    have := mul_bd s[j] (f + 1) 54 256 this.1 this.2 (by omega) (by omega)
    have := Int.mul_nonneg (h9 s[j] (by simp)).1 (show 0 ≤ f + 1 by omega)
    omega
  · rw [sum_scale]
    have := mul_bd (f + 1) s.sum 256 45 (by omega) (by omega) (by omega) (by omega)
    have := Int.mul_le_mul (show 1 ≤ f + 1 by omega) s1 (by omega) (by omega)
    omega
theorem overlapScales_walk (l m ws : List Int) (p q f : Int) (A4 A5 A6 : Option Addr) (c4 c5 c6 : Nat) (w : World)
    (hs4 : SlN w A4 l) (hs5 : SlN w A5 m) (hs6 : SlN w A6 ws) (m4 : l.length ≤ 9223372036854775807) (m5 : m.length ≤ 9223372036854775807) (m6 : ws.length ≤ 1048576) (hp : I64 p) (hq : I64 q) (hf0 : 0 ≤ f) (hf1 : f ≤ 255) :
    Calls Try.prog 6 #[.slice A4 l.length c4, .slice A5 m.length c5, .slice A6 ws.length c6, .int .i64 p, .int .i64 q, .int .u8 f] w
      fun e w' => e = .returned (.bool true) ∧ Below w.heap.size w w' := by
  obtain ⟨i0, hi0, hz0, hz1, hz2⟩ := info_parts info2
  have S4 := hide hs4; clear hs4
  have S5 := hide hs5; clear hs5
  have S6 := hide hs6; clear hs6
  have HP := hide hp; clear hp
  have HQ := hide hq; clear hq
  have B0 := hide (Below.refl w.heap.size w)
  have z0 : w.heap.size ≤ w.heap.size := Nat.le_refl _
  go_enter Try.func6, Try.ntmps6
  go_wp2_with fail
  refine (points_any A4 l c4 3000 _ S4.out m4 (by omega) (by omega)).mono ?_
  rintro e w1 ⟨va, as_, rfl, la1, la5, oka, hoa, hb1⟩
  have z1 : w.heap.size ≤ w1.heap.size := Nat.le_trans z0 hb1.size
  have B1 := hide (B0.out.trans (hb1.mono z0)); clear B0
  replace S4 := hide (S4.out.below hb1)
  replace S5 := hide (S5.out.below hb1)
  replace S6 := hide (S6.out.below hb1)
  obtain ⟨Aa, ca, rfl, _, _, _⟩ := own_val hoa
  have SA := hide (show SlI w1 Aa as_ from own_sl hoa)
  have OKA := hide oka
  clear hoa oka
  clear hb1
  go_wp2_with fail
  refine (points_any A5 m c5 3000 _ S5.out m5 (by omega) (by omega)).mono ?_
  rintro e w2 ⟨vb, bs, rfl, lb1, lb5, okb, hob, hb2⟩
  have z2 : w.heap.size ≤ w2.heap.size := Nat.le_trans z1 hb2.size
  have B2 := hide (B1.out.trans (hb2.mono z1)); clear B1
  replace S4 := hide (S4.out.below hb2)
  replace S5 := hide (S5.out.below hb2)
  replace S6 := hide (S6.out.below hb2)
  replace SA := hide (SA.out.below hb2)
  obtain ⟨Ab, cb, rfl, _, _, _⟩ := own_val hob
  have SB := hide (show SlI w2 Ab bs from own_sl hob)
  have OKB := hide okb
  clear hob okb
  clear hb2
  go_wp2_with fail
  refine (equal5_any as_.length bs.length A6 ws c6 _ S6.out m6 (by omega) (by omega) (by omega) (by omega)).mono ?_
  rintro e w3 ⟨vs, vt, s, t, rfl, ls, lt, s9, t9, hst, s1, s2, hos, hot, hb3⟩
  have z3 : w.heap.size ≤ w3.heap.size := Nat.le_trans z2 hb3.size
  have B3 := hide (B2.out.trans (hb3.mono z2)); clear B2
  replace S4 := hide (S4.out.below hb3)
  replace S5 := hide (S5.out.below hb3)
  replace S6 := hide (S6.out.below hb3)
  replace SA := hide (SA.out.below hb3)
  replace SB := hide (SB.out.below hb3)
  have s9' : ∀ x ∈ s, 0 ≤ x ∧ x ≤ 9009 := fun x hx => by have := s9 x hx; omega
  have t9' : ∀ x ∈ t, 0 ≤ x ∧ x ≤ 9009 := fun x hx => by have := t9 x hx; omega
  have CA := hide (comb_made (by omega) la1 (by omega) OKA.out ls s9' s1 (by omega))
  have CB := hide (comb_made (by omega) lb1 (by omega) OKB.out lt t9' (by omega) (by omega))
  have DA := hide (comb_scaled hf0 hf1 la1 (by omega) OKA.out ls s9 s1 s2)
  have DB := hide (comb_scaled hf0 hf1 lb1 (by omega) OKB.out lt t9 (by omega) (by omega))
  have HST := hide hst
  rw [← ls] at hos
  rw [← lt] at hot
  obtain ⟨As, cs, rfl, _, _, _⟩ := own_val hos
  obtain ⟨At, ct, rfl, _, _, _⟩ := own_val hot
  have SS := hide (show SlN w3 As s from own_sl hos)
  have ST := hide (show SlN w3 At t from own_sl hot)
  have LS := hide ls; have LT := hide lt
  have S9 := hide s9; have T9 := hide t9
  have hls : s.length ≤ 5 := by omega
  have hlt : t.length ≤ 5 := by omega
  clear hos hot hst ls lt s9 t9 s9' t9'
  clear hb3
  go_wp2_with fail
  go_loopw [17, 19] (fun v i wr => ∃ k : Nat, k ≤ s.length ∧ i = .int .i64 k ∧ wr.ownsRow w3.heap.size 2 1 v k (((s.take k).map (· * (f + 1))).map (Value.int .i64)) ∧ Below w3.heap.size w3 wr) (fun _ i _ => s.length - (intOf i).toNat)
  case atStart => exact ⟨0, by omega, rfl, World.ownsRow_nil _ _ _ _, Below.refl _ _⟩
  case round =>
    obtain ⟨k, hk, rfl, hown, hb⟩ := hrel
    have HO := hide hown; have HB := hide hb; have hz := hb.size
    clear hown hb
    by_cases hlt : k < s.length
    · obtain ⟨b, off, rfl, hbb⟩ := SlN.addr SS.out (by omega)
      have h0 := SlN.at_ (Sl.below SS.out HB.out) hlt
      have h9 := S9.out s[k] (by simp)
      have hm := mul_bd s[k] (f + 1) 54 256 h9.1 h9.2 (by omega) (by omega)
      go_wp2_with (at_builtin; refine wpList_append_own _ rfl _ _ 22 rfl w3.heap.size 2 i0 _ 1 8 Try.underlying22 hi0 hz0 hz1 hz2 rfl (by decide) u17 k _ rfl (HO.out.alloc _) ⟨wr.heap.size, 0, none⟩ 1 1 [.int .i64 (s[k] * (f + 1))] rfl rfl ?c1 ?c2 ?c3 ?c4 ?c5 ?_)
      case c1 => exact news_at (heap_alloc_new wr _)
      case c2 => simp [Value.oneCell']
      case c3 => unfold maxLen; omega
      case c4 => omega
      case c5 => simp; omega
      intro v' w9 hown9 hg9 _
      have hb9 : Below w3.heap.size w3 w9 := (HB.out.alloc (by omega) _).grown hg9 (by simp; omega) (fun g hg => (HO.out.lt g hg).1)
      clear hg9
      go_wp2_with fail
      go_roundw
      case rel => exact ⟨k + 1, by omega, by simp, by rw [List.take_succ_eq_append_getElem hlt, List.map_append, List.map_append]; simpa using hown9, hb9⟩
      case measure => simp [intOf] <;> omega
    · obtain rfl : k = s.length := by omega
      have hO := HO.out; have hb := HB.out
      rw [List.take_of_length_le (Nat.le_refl _)] at hO
      obtain ⟨w4, rfl⟩ : ∃ W : World, W = wr := ⟨_, rfl⟩
      clear HO HB hlt hk
      have z4 : w.heap.size ≤ w4.heap.size := Nat.le_trans z3 hb.size
      have B4 := hide (B3.out.trans (hb.mono z3)); clear B3
      replace S4 := hide (S4.out.below hb)
      replace S5 := hide (S5.out.below hb)
      replace S6 := hide (S6.out.below hb)
      replace SA := hide (SA.out.below hb)
      replace SB := hide (SB.out.below hb)
      replace SS := hide (SS.out.below hb)
      replace ST := hide (ST.out.below hb)
      obtain ⟨uw4, hu⟩ : ∃ u, u = s.map (· * (f + 1)) := ⟨_, rfl⟩
      have hul : s.length = uw4.length := by rw [hu]; simp
      rw [hul, ← hu] at hO
      obtain ⟨Aw4, cw4, rfl, _, _, _⟩ := own_val hO
      have Fw4 := hide (show SlN w4 Aw4 uw4 from own_sl hO)
      have lenw4 : uw4.length ≤ 5 := by omega
      have HUw4 := hide hu
      clear hu hul
      clear hO hb hz
      go_wp2_with fail
      go_loopw [18, 20] (fun v i wr => ∃ k : Nat, k ≤ t.length ∧ i = .int .i64 k ∧ wr.ownsRow w4.heap.size 2 1 v k (((t.take k).map (· * (f + 1))).map (Value.int .i64)) ∧ Below w4.heap.size w4 wr) (fun _ i _ => t.length - (intOf i).toNat)
      case atStart => exact ⟨0, by omega, rfl, World.ownsRow_nil _ _ _ _, Below.refl _ _⟩
      case round =>
        obtain ⟨k, hk, rfl, hown, hb⟩ := hrel
        have HO := hide hown; have HB := hide hb; have hz := hb.size
        clear hown hb
        by_cases hlt : k < t.length
        · obtain ⟨b, off, rfl, hbb⟩ := SlN.addr ST.out (by omega)
          have h0 := SlN.at_ (Sl.below ST.out HB.out) hlt
          have h9 := T9.out t[k] (by simp)
          have hm := mul_bd t[k] (f + 1) 54 256 h9.1 h9.2 (by omega) (by omega)
          go_wp2_with (at_builtin; refine wpList_append_own _ rfl _ _ 22 rfl w4.heap.size 2 i0 _ 1 8 Try.underlying22 hi0 hz0 hz1 hz2 rfl (by decide) u18 k _ rfl (HO.out.alloc _) ⟨wr.heap.size, 0, none⟩ 1 1 [.int .i64 (t[k] * (f + 1))] rfl rfl ?c1 ?c2 ?c3 ?c4 ?c5 ?_)
          case c1 => exact news_at (heap_alloc_new wr _)
          case c2 => simp [Value.oneCell']
          case c3 => unfold maxLen; omega
          case c4 => omega
          case c5 => simp; omega
          intro v' w9 hown9 hg9 _
          have hb9 : Below w4.heap.size w4 w9 := (HB.out.alloc (by omega) _).grown hg9 (by simp; omega) (fun g hg => (HO.out.lt g hg).1)
          clear hg9
          go_wp2_with fail
          go_roundw
          case rel => exact ⟨k + 1, by omega, by simp, by rw [List.take_succ_eq_append_getElem hlt, List.map_append, List.map_append]; simpa using hown9, hb9⟩
          case measure => simp [intOf] <;> omega
        · obtain rfl : k = t.length := by omega
          have hO := HO.out; have hb := HB.out
          rw [List.take_of_length_le (Nat.le_refl _)] at hO
          obtain ⟨w5, rfl⟩ : ∃ W : World, W = wr := ⟨_, rfl⟩
          clear HO HB hlt hk
          have z5 : w.heap.size ≤ w5.heap.size := Nat.le_trans z4 hb.size
          have B5 := hide (B4.out.trans (hb.mono z4)); clear B4
          replace S4 := hide (S4.out.below hb)
          replace S5 := hide (S5.out.below hb)
          replace S6 := hide (S6.out.below hb)
          replace SA := hide (SA.out.below hb)
          replace SB := hide (SB.out.below hb)
          replace SS := hide (SS.out.below hb)
          replace ST := hide (ST.out.below hb)
          replace Fw4 := hide (Fw4.out.below hb)
          obtain ⟨uw5, hu⟩ : ∃ u, u = t.map (· * (f + 1)) := ⟨_, rfl⟩
          have hul : t.length = uw5.length := by rw [hu]; simp
          rw [hul, ← hu] at hO
          obtain ⟨Aw5, cw5, rfl, _, _, _⟩ := own_val hO
          have Fw5 := hide (show SlN w5 Aw5 uw5 from own_sl hO)
          have lenw5 : uw5.length ≤ 5 := by omega
          have HUw5 := hide hu
          clear hu hul
          clear hO hb hz
          go_wp2_with fail
          refine (radius16_any p _ HP.out).mono ?_
          rintro e w' ⟨rfl, rfl⟩
          go_wp2_with fail
          refine (radius16_any q _ HQ.out).mono ?_
          rintro e w' ⟨rfl, rfl⟩
          go_wp2_with fail
          refine (excess_any s t as_ bs (rad16 p) (rad16 q) As At Aa Ab cs ct ca cb _ SS.out ST.out SA.out SB.out (by omega) (by omega) (by omega) (by omega)).mono ?_
          rintro e w6 ⟨rfl, hb6⟩
          have z6 : w.heap.size ≤ w6.heap.size := Nat.le_trans z5 hb6.size
          have B6 := hide (B5.out.trans (hb6.mono z5)); clear B5
          replace S4 := hide (S4.out.below hb6)
          replace S5 := hide (S5.out.below hb6)
          replace S6 := hide (S6.out.below hb6)
          replace SA := hide (SA.out.below hb6)
          replace SB := hide (SB.out.below hb6)
          replace SS := hide (SS.out.below hb6)
          replace ST := hide (ST.out.below hb6)
          replace Fw4 := hide (Fw4.out.below hb6)
          replace Fw5 := hide (Fw5.out.below hb6)
          rw [excR_made CA.out CB.out HST.out (rad16_bd p) (rad16_bd q)]
          generalize hX : exc (comb as_ s) (comb bs t) s.sum (rad16 p + rad16 q) = X
          have HX := hide hX; clear hX
          clear hb6
          go_wp2_with fail
          refine (radius16_any p _ HP.out).mono ?_
          rintro e w' ⟨rfl, rfl⟩
          go_wp2_with fail
          refine (radius16_any q _ HQ.out).mono ?_
          rintro e w' ⟨rfl, rfl⟩
          go_wp2_with fail
          refine (excess_any uw4 uw5 as_ bs (rad16 p) (rad16 q) Aw4 Aw5 Aa Ab cw4 cw5 ca cb _ Fw4.out Fw5.out SA.out SB.out (by omega) (by omega) (by omega) (by omega)).mono ?_
          rintro e w7 ⟨rfl, hb7⟩
          have z7 : w.heap.size ≤ w7.heap.size := Nat.le_trans z6 hb7.size
          have B7 := hide (B6.out.trans (hb7.mono z6)); clear B6
          replace S4 := hide (S4.out.below hb7)
          replace S5 := hide (S5.out.below hb7)
          replace S6 := hide (S6.out.below hb7)
          replace SA := hide (SA.out.below hb7)
          replace SB := hide (SB.out.below hb7)
          replace SS := hide (SS.out.below hb7)
          replace ST := hide (ST.out.below hb7)
          replace Fw4 := hide (Fw4.out.below hb7)
          replace Fw5 := hide (Fw5.out.below hb7)
          rw [HUw4.out, HUw5.out, excR_made DA.out DB.out (by rw [sum_scale, sum_scale, HST.out]) (rad16_bd p) (rad16_bd q), sum_scale, exc_scale (by omega), HX.out]
          clear hb7
          go_wp2_with fail
          refine (awake16 _).mono ?_
          rintro e w8 ⟨rfl, hb8⟩
          have z8 : w.heap.size ≤ w8.heap.size := Nat.le_trans z7 hb8.size
          have B8 := hide (B7.out.trans (hb8.mono z7)); clear B7
          replace S4 := hide (S4.out.below hb8)
          replace S5 := hide (S5.out.below hb8)
          replace S6 := hide (S6.out.below hb8)
          replace SA := hide (SA.out.below hb8)
          replace SB := hide (SB.out.below hb8)
          replace SS := hide (SS.out.below hb8)
          replace ST := hide (ST.out.below hb8)
          replace Fw4 := hide (Fw4.out.below hb8)
          replace Fw5 := hide (Fw5.out.below hb8)
          clear hb8
          go_wp2_with fail
          go_ret
          exact ⟨by simp, B8.out⟩
end Go.Proofs.Ytionbckpgfaneaa
