/- OverlapCommon, walked. -/
import Derived.Test.YtionbckpgfaneaaWn
import Derived.Test.YtionbckpgfaneaaPc
import Derived.Test.YtionbckpgfaneaaPd
import Derived.Test.YtionbckpgfaneaaPi
import Derived.Deep.DeepCutAuto
import Derived.Deep.RegionHeld3
import Derived.Deep.AppendLies
import Derived.Deep.DrawnRows
namespace Go.Proofs.Ytionbckpgfaneaa
open Go.RowKit
set_option maxHeartbeats 4000000
set_option maxRecDepth 100000
theorem blt8 {w : World} {g : Nat} {o : Obj} (h : w.heap[g]? = some o) : g < w.heap.size := by
  obtain ⟨h, _⟩ := Array.getElem?_eq_some_iff.mp h
  exact h
theorem step8 {w X w2 : World} (h : Below X.heap.size X w2) (h0 : Below w.heap.size w X) : Below w.heap.size w w2 := h0.trans (h.mono h0.size)
theorem new8 {w w' : World} {o : Obj} (hb : Below (w.alloc o).heap.size (w.alloc o) w') : w'.heap[w.heap.size]? = some o := (hb.block _ (by simp)).trans (new_at _ _ rfl)
theorem new8d {w w' : World} {o : Obj} (hb : Below (w.alloc o).drew.heap.size (w.alloc o).drew w') : w'.heap[w.heap.size]? = some o := (hb.block _ (by simp)).trans (new_at _ _ rfl)
theorem ovl48 (left right : List Int) (na nb : Nat) (a b : List IV) (ra rb : Int) (A B C D : Option Addr) (c1 c2 c3 c4 : Nat) (w : World) (hl : SlN w A left) (hr : SlN w B right) (ha : SlI w C a) (hb : SlI w D b) (eL : left.length = na) (eR : right.length = nb)
   (m1 : na ≤ 9223372036854775807) (m2 : nb ≤ 9223372036854775807) (m3 : a.length ≤ 9223372036854775807) (m4 : b.length ≤ 9223372036854775807) (ho : ovl left right a b ra rb = true) :
    Calls Try.prog 48 #[.slice A na c1, .slice B nb c2, .slice C a.length c3, .int .i64 ra, .slice D b.length c4, .int .i64 rb] w fun e w' => e = .returned (.bool true) ∧ Below w.heap.size w w' := by
  subst eL; subst eR
  rw [← ho]
  exact overlaps_any left right a b ra rb A B C D c1 c2 c3 c4 w hl hr ha hb m1 m2 m3 m4
theorem iv_snoc (l : List IV) (p : IV) : (l ++ [p]).flatMap IV.cells = l.flatMap IV.cells ++ [.int .i64 p.x.lo, .int .i64 p.x.hi, .int .i64 p.y.lo, .int .i64 p.y.hi, .int .i64 p.z.lo, .int .i64 p.z.hi] := by simp [IV.cells]
theorem overlapCommon_walk (l m : List Int) (at_ weight p q : Int) (A0 A1 : Option Addr) (c0 c1 : Nat) (w : World) (hs0 : SlN w A0 l) (hs1 : SlN w A1 m) (m0 : l.length ≤ 9223372036854775807) (m1 : m.length ≤ 9223372036854775807) (hp : I64 p) (hq : I64 q) :
    Calls Try.prog 8 #[.slice A0 l.length c0, .slice A1 m.length c1, .int .i64 at_, .int .i64 weight, .int .i64 p, .int .i64 q] w fun e w' => e = .returned (.bool true) ∧ Below w.heap.size w w' := by
  obtain ⟨i0, hi0, hz0, hz1, hz2⟩ := info_parts info44
  have S0 := hide hs0; have S1 := hide hs1; have IP := hide hp; have IQ := hide hq; clear hs0 hs1 hp hq
  go_enter Try.func8, Try.ntmps8
  go_wp2_with fail
  refine (points_any A0 l c0 0 _ S0.out m0 (by omega) (by omega)).mono ?_
  rintro e w1 ⟨v1, a, rfl, la1, la5, oka, hoa, hb1⟩
  obtain ⟨A, ca, rfl, _, _, _⟩ := own_val hoa
  have SA := hide (show SlI w1 A a from own_sl hoa)
  have OKA := hide oka
  have B1 := hide hb1
  replace S1 := hide (S1.out.below hb1)
  clear hoa oka hb1 S0
  go_wp2_with fail
  refine (round_any at_ (a.length : Int) _ (by omega) (by omega)).mono ?_
  rintro e w' ⟨rfl, rfl⟩
  obtain ⟨k, hk⟩ : ∃ k : Nat, at_ % (a.length : Int) = (k : Int) := ⟨(at_ % (a.length : Int)).toNat, by have := Int.emod_nonneg at_ (show (a.length : Int) ≠ 0 by omega); omega⟩
  have klt : k < a.length := by have := Int.emod_lt_of_pos at_ (show 0 < (a.length : Int) by omega); omega
  rw [hk]
  clear hk
  have k0 : (0 : Int) ≤ (k : Int) := Int.natCast_nonneg _
  have k1 : (k : Int) < (a.length : Int) := by omega
  obtain ⟨bA, oA, rfl, hbA⟩ := SA.out.addr (by omega)
  obtain ⟨t, ht⟩ : ∃ t, t = a[k] := ⟨_, rfl⟩
  obtain ⟨d0, d1, d2, d3, d4, d5⟩ := SA.out.at_ klt
  rw [← ht] at d0 d1 d2 d3 d4 d5
  have HT := hide ht
  clear ht
  go_upto_region 3 with fail
  go_cut [15] (fun s15 wx => ∃ (pts : List IV) (A2 : Option Addr) (c2 : Nat), s15 = .slice A2 (pts ++ [t]).length c2 ∧ 1 ≤ pts.length ∧ pts.length ≤ 5 ∧ (∀ p ∈ pts, IVOk 0 p) ∧ SlI wx A2 (pts ++ [t]) ∧ Below w1.heap.size w1 wx)
  case first =>
    have e0 := d0; have e1 := d1; have e2 := d2; have e3 := d3; have e4 := d4; have e5 := d5
    have gg : Below w1.heap.size w1 w1.drew := (Below.refl _ _).drew
    have SLIT : True := trivial
    go_region_held3 (fun w' => w'.cell? ⟨bA, oA + k * 6, none⟩ = some (.int .i64 t.x.lo) ∧ w'.cell? ⟨bA, oA + k * 6 + 1, none⟩ = some (.int .i64 t.x.hi) ∧ w'.cell? ⟨bA, oA + k * 6 + 2, none⟩ = some (.int .i64 t.y.lo) ∧ w'.cell? ⟨bA, oA + k * 6 + 3, none⟩ = some (.int .i64 t.y.hi) ∧ w'.cell? ⟨bA, oA + k * 6 + 4, none⟩ = some (.int .i64 t.z.lo) ∧ w'.cell? ⟨bA, oA + k * 6 + 5, none⟩ = some (.int .i64 t.z.hi))
      (first | exact ⟨e0, e1, e2, e3, e4, e5⟩ | go_keep)
      (first | (go_at_call 41; (with_reducible refine (points_any A1 m c1 0 _ (S1.out.below (by first | exact gg | exact gg.alloc gg.size _ | exact ((Below.refl _ _).alloc (Nat.le_refl _) _).drew)) m1 (by omega) (by omega)).mono ?_); rintro e w2 ⟨v2, pts, rfl, lp1, lp5, okp, hop, hb⟩; (first | (have K7 := new8 hb; have o7 := gg.size) | (have K7 := new8d hb; have o7 := Nat.le_refl w1.heap.size) | skip); have gg := step8 hb (by first | exact gg | exact gg.alloc gg.size _ | exact ((Below.refl _ _).alloc (Nat.le_refl _) _).drew); have e0 := (gg.cell (p := ⟨bA, oA + k * 6, none⟩) hbA).trans d0; have e1 := (gg.cell (p := ⟨bA, oA + k * 6 + 1, none⟩) hbA).trans d1; have e2 := (gg.cell (p := ⟨bA, oA + k * 6 + 2, none⟩) hbA).trans d2; have e3 := (gg.cell (p := ⟨bA, oA + k * 6 + 3, none⟩) hbA).trans d3; have e4 := (gg.cell (p := ⟨bA, oA + k * 6 + 4, none⟩) hbA).trans d4; have e5 := (gg.cell (p := ⟨bA, oA + k * 6 + 5, none⟩) hbA).trans d5; obtain ⟨Ab, cb, rfl, _, _, ob⟩ := own_val hop; have OKP := hide okp; clear okp; have zb := hb.size) | (have _t := hop; refine step_append_lies _ (by rfl) _ _ _ (by rfl) _ 44 i0 _ 6 48 Try.underlying23 hi0 hz0 hz1 hz2 rfl (by omega) (.slice Ab pts.length cb) pts.length _ (by rfl) (hop.alloc _) ⟨w2.heap.size, 0, none⟩ 1 1 [.int .i64 t.x.lo, .int .i64 t.x.hi, .int .i64 t.y.lo, .int .i64 t.y.hi, .int .i64 t.z.lo, .int .i64 t.z.hi] (by rfl) (by rfl) (World.news_of_block (cs := #[.int .i64 t.x.lo, .int .i64 t.x.hi, .int .i64 t.y.lo, .int .i64 t.y.hi, .int .i64 t.z.lo, .int .i64 t.z.hi]) (t := 44) (fr := (0, 0)) (heap_alloc_new w2 _)) (by simp [Value.oneCell']) (by omega) (by unfold maxLen; omega) (by omega) (Nat.le_trans zb (by simp)) (w2.heap.size + 1) (by simp) ?_; intro g9 cap9 w9 hown9 hgrow hat hlt9; have gg := (gg.alloc gg.size _).grown hgrow (by have := gg.size; simp; omega) (fun g hg => by have := (hop.lt g hg).1; simp at this; omega); have e0 := (gg.cell (p := ⟨bA, oA + k * 6, none⟩) hbA).trans d0; have e1 := (gg.cell (p := ⟨bA, oA + k * 6 + 1, none⟩) hbA).trans d1; have e2 := (gg.cell (p := ⟨bA, oA + k * 6 + 2, none⟩) hbA).trans d2; have e3 := (gg.cell (p := ⟨bA, oA + k * 6 + 3, none⟩) hbA).trans d3; have e4 := (gg.cell (p := ⟨bA, oA + k * 6 + 4, none⟩) hbA).trans d4; have e5 := (gg.cell (p := ⟨bA, oA + k * 6 + 5, none⟩) hbA).trans d5; clear _t) | (have _t := hop; refine step_append_lies _ (by rfl) _ _ _ (by rfl) _ 44 i0 _ 6 48 Try.underlying23 hi0 hz0 hz1 hz2 rfl (by omega) (.slice Ab pts.length cb) pts.length _ (by rfl) hop ⟨w1.heap.size, 0, none⟩ 1 1 [.int .i64 t.x.lo, .int .i64 t.x.hi, .int .i64 t.y.lo, .int .i64 t.y.hi, .int .i64 t.z.lo, .int .i64 t.z.hi] (by rfl) (by rfl) (World.news_of_block (cs := #[.int .i64 t.x.lo, .int .i64 t.x.hi, .int .i64 t.y.lo, .int .i64 t.y.hi, .int .i64 t.z.lo, .int .i64 t.z.hi]) (t := 44) (fr := (0, 0)) K7) (by simp [Value.oneCell']) (by omega) (by unfold maxLen; omega) (by omega) zb w2.heap.size (by simp) ?_; intro g9 cap9 w9 hown9 hgrow hat hlt9; have gg := gg.grown hgrow (by have := gg.size; simp; omega) (fun g hg => by have := (hop.lt g hg).1; simp at this; omega); have e0 := (gg.cell (p := ⟨bA, oA + k * 6, none⟩) hbA).trans d0; have e1 := (gg.cell (p := ⟨bA, oA + k * 6 + 1, none⟩) hbA).trans d1; have e2 := (gg.cell (p := ⟨bA, oA + k * 6 + 2, none⟩) hbA).trans d2; have e3 := (gg.cell (p := ⟨bA, oA + k * 6 + 3, none⟩) hbA).trans d3; have e4 := (gg.cell (p := ⟨bA, oA + k * 6 + 4, none⟩) hbA).trans d4; have e5 := (gg.cell (p := ⟨bA, oA + k * 6 + 5, none⟩) hbA).trans d5; clear _t))
    all_goals
      have HO := hide (show SlI w9 (some ⟨g9, 0, none⟩) (pts ++ [t]) by unfold SlI; rw [iv_snoc]; exact own_sl hown9)
      have GG := hide gg
      clear hown9 hgrow gg e0 e1 e2 e3 e4 e5
      go_wp2_with fail
      go_meet
      case rel => exact ⟨pts, some ⟨g9, 0, none⟩, cap9, by simp, lp1, lp5, OKP.out, HO.out, GG.out⟩
  case rest =>
    obtain ⟨w2, rfl⟩ : ∃ w2 : World, w2 = wc := ⟨_, rfl⟩
    obtain ⟨pts, A2, c2, rfl, lp1, lp5, okp, s2, b2⟩ := hcut
    obtain ⟨b, hb⟩ : ∃ b, b = pts ++ [t] := ⟨_, rfl⟩
    have lb : b.length = pts.length + 1 := by rw [hb]; simp
    have lb1 : 1 ≤ b.length := by omega
    have lb6 : b.length ≤ 6 := by omega
    rw [← hb] at s2 ⊢
    have SB := hide s2; have HBE := hide hb; have OKP := hide okp
    replace SA := hide (SA.out.below b2)
    have B2 := hide (step8 b2 B1.out)
    have PA := hide (placed_made (width := 0) (by omega) la1 (by omega) OKA.out)
    have jlt : pts.length < b.length := by omega
    have jb := hide (show b[pts.length]'jlt = t by simp [hb])
    have PB := hide (show placedB b = true from placed_made (width := 0) (by omega) lb1 (by omega) (by
      intro x hx
      rw [hb] at hx
      rcases List.mem_append.1 hx with h | h
      · exact okp x h
      · simp at h
        subst h
        rw [HT.out]
        exact OKA.out _ (by simp)))
    have okt := OKA.out a[k] (by simp)
    have HPT := hide (show a[k].x.hi = a[k].x.lo ∧ a[k].y.hi = a[k].y.lo ∧ a[k].z.hi = a[k].z.lo by
      unfold IVOk PtOk at okt
      omega)
    clear s2 hb okp b2 okt d0 d1 d2 d3 d4 d5 B1 hbA
    have HLB := hide lb
    clear lb
    have hm1 := make22 a.length (by omega); have hm2 := make22 b.length (by omega)
    go_upto_region 4 with fail
    go_cut [16, 17] (fun s16 s17 wx => ∃ gS gT : Nat, s16 = .slice (some ⟨gS, 0, none⟩) a.length a.length ∧ s17 = .slice (some ⟨gT, 0, none⟩) b.length b.length ∧ gS ≠ gT ∧ w2.heap.size ≤ gS ∧ w2.heap.size ≤ gT ∧ wx.heap[gS]? = some (.cells (iArr (List.replicate a.length 0)) 2 (0, 0)) ∧ wx.heap[gT]? = some (.cells (iArr (List.replicate b.length 0)) 2 (0, 0)) ∧ Below w2.heap.size w2 wx)
    case first =>
      go_region
      all_goals
        go_wp2_with fail
        go_meet
        case rel =>
          first
            | exact ⟨w2.heap.size, w2.heap.size + 1, rfl, rfl, by omega, by omega, by omega, (Below.heap_alloc _ _ _ (by simp)).trans (new_at _ _ rfl), new_at _ _ (by simp), by go_grown⟩
            | exact ⟨w2.heap.size + 1, w2.heap.size, rfl, rfl, by omega, by omega, by omega, new_at _ _ (by simp), (Below.heap_alloc _ _ _ (by simp)).trans (new_at _ _ rfl), by go_grown⟩
    case rest =>
      obtain ⟨gS, gT, rfl, rfl, dST, oS, oT, kS, kT, b3⟩ := hcut
      have BB3 := hide b3
      have B3 := hide (step8 b3 B2.out)
      have yS := blt8 kS; have yT := blt8 kT
      have z2 := B2.out.size
      have BB2 := hide B2.out
      have oS' : w.heap.size ≤ gS := by omega
      have oT' : w.heap.size ≤ gT := by omega
      have hcS : wc.cell? ⟨gS, k, none⟩ = some (.int .i64 0) := by rw [iCell kS (by simpa using klt)]; simp
      have hcT : wc.cell? ⟨gT, pts.length, none⟩ = some (.int .i64 0) := by rw [iCell kT (by have := HLB.out; simp; omega)]; simp
      have hfS := blk_frozen kS; have hfT := blk_frozen kT
      have KS := hide kS; have KT := hide kT
      have ej : (b.length : Int) - 1 = (pts.length : Int) := by have := HLB.out; omega
      have j0 : (0 : Int) ≤ (pts.length : Int) := Int.natCast_nonneg _
      have j1 : (pts.length : Int) < (b.length : Int) := by have := HLB.out; omega
      have dTS : gT ≠ gS := Ne.symm dST
      clear kS kT b3 B2 hm1 hm2
      go_wp2_with fail
      refine (round_any weight 65536 _ (by decide) (by decide)).mono ?_
      rintro e w' ⟨rfl, rfl⟩
      obtain ⟨v, hv⟩ : ∃ v, weight % 65536 = v := ⟨_, rfl⟩
      have v0 : 0 ≤ v := by omega
      have v1 : v ≤ 65535 := by omega
      rw [hv]
      clear hv
      go_wp2_with fail
      refine (awake16 _).mono ?_
      rintro e w5 ⟨rfl, hb5⟩
      have KS5 := hide (show w5.heap[gS]? = some (.cells (iArr (oneAt a.length k (1 + v))) 2 (0, 0)) from (hb5.block _ (by simpa [World.setCell] using yS)).trans ((Below.heap_setCell _ _ _ _ (by simpa using dST)).trans (iSet KS.out k _)))
      have KT5 := hide (show w5.heap[gT]? = some (.cells (iArr (oneAt b.length pts.length (1 + v))) 2 (0, 0)) from (hb5.block _ (by simpa [World.setCell] using yT)).trans (iSet ((Below.heap_setCell _ _ _ _ (by simpa using dTS)).trans KT.out) pts.length _))
      have BW := step8 hb5 ((BB3.out.setCell (p := ⟨gS, k, none⟩) oS (.int .i64 (1 + v))).setCell (p := ⟨gT, pts.length, none⟩) oT (.int .i64 (1 + v)))
      have B5 := hide (step8 BW (show Below w.heap.size w w2 from BB2.out))
      have SA5 := hide (SA.out.below BW); have SB5 := hide (SB.out.below BW)
      clear hb5 BW hcS hcT hfS hfT
      go_wp2_with fail
      refine (radius16_any p _ IP.out).mono ?_
      rintro e w' ⟨rfl, rfl⟩
      go_wp2_with fail
      refine (radius16_any q _ IQ.out).mono ?_
      rintro e w' ⟨rfl, rfl⟩
      go_wp2_with fail
      refine (ovl48 (oneAt a.length k (1 + v)) (oneAt b.length pts.length (1 + v)) a.length b.length a b (rad16 p) (rad16 q) (some ⟨gS, 0, none⟩) (some ⟨gT, 0, none⟩) (some ⟨bA, oA, none⟩) A2 a.length b.length ca c2 _ (slN_of KS5.out) (slN_of KT5.out) SA5.out SB5.out (oneAt_len _ _ _) (oneAt_len _ _ _) (by omega) (by omega) (by omega) (by omega) (common_plain PA.out PB.out klt jlt (by rw [jb.out, HT.out]) HPT.out (by omega) (by omega) (rad16_bd p) (rad16_bd q))).mono ?_
      rintro e w6 ⟨rfl, hb6⟩
      have B6 := hide (step8 hb6 B5.out)
      clear hb6
      go_wp2_with fail
      go_ret
      exact ⟨rfl, B6.out⟩
end Go.Proofs.Ytionbckpgfaneaa
