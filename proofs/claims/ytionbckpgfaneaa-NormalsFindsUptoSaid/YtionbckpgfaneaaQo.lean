/- Walks of the normals, part o: the references' Candidates and FindNormal. -/
import Derived.Test.YtionbckpgfaneaaQk
import Derived.Test.YtionbckpgfaneaaQn
import Derived.Test.YtionbckpgfaneaaPm
import Derived.Test.YtionbckpgfaneaaNs
namespace Go.Proofs.Ytionbckpgfaneaa
open Go.RowKit
set_option maxHeartbeats 4000000
set_option maxRecDepth 100000
theorem cands_no {a b : List IV} {ra rb : Int} (h : List V3) (hk : candOk a ra b rb = false) : cands a ra b rb h = [] := by unfold cands; rw [hk]; rfl
theorem cands_yes {a b : List IV} {ra rb : Int} (h : List V3) (hk : candOk a ra b rb = true) : cands a ra b rb h = h.filter usable ++ (meanL a b ++ (axesL ++ searchL a ra b rb)) := by unfold cands; rw [hk]; rfl
theorem candOk_1 {a b : List IV} {ra rb : Int} (h : placedB a = false) : candOk a ra b rb = false := by simp [candOk, h]
theorem candOk_2 {a b : List IV} {ra rb : Int} (h : placedB b = false) : candOk a ra b rb = false := by simp [candOk, h]
theorem candOk_3 {a b : List IV} {ra rb : Int} (h : ¬ (0 ≤ ra ∧ ra ≤ 1048576)) : candOk a ra b rb = false := by simp only [candOk, radOk, decide_eq_false h]; simp
theorem candOk_4 {a b : List IV} {ra rb : Int} (h : ¬ (0 ≤ rb ∧ rb ≤ 1048576)) : candOk a ra b rb = false := by simp only [candOk, radOk, decide_eq_false h]; simp
theorem flat_lenO (l : List V3) : (l.flatMap V3.cells).length = l.length * 3 := by
  induction l with
  | nil => rfl
  | cons a l ih => simp [V3.cells, ih]; omega
theorem flat_oneO {l : List V3} : ∀ u ∈ l.flatMap V3.cells, u.oneCell' = true := fun u hu => by
  obtain ⟨p, _, hp⟩ := List.mem_flatMap.1 hu
  simp [V3.cells] at hp
  rcases hp with rfl | rfl | rfl <;> rfl
theorem app_below {w W w1 : World} {v : Value} {n : Nat} {xs : List Value} (hB : Below w.heap.size w W) (ow : W.ownsRow w.heap.size 47 3 v n xs) (hg : W.grownBy w1 v.ownBlock) : Below w.heap.size w w1 := hB.grown hg hB.size (fun g hg => (ow.lt g hg).1)
theorem rad_true {r : Int} (h : 0 ≤ r ∧ r ≤ 1048576) : decide (0 ≤ r ∧ r ≤ 1048576) = true := decide_eq_true h
theorem nil_post {w w' : World} {l : List V3} (hl : l = []) (hb : Below w.heap.size w w') : CandsPost l w (.returned (.slice none 0 0)) w' := by subst hl; exact ⟨none, 0, rfl, Sl.nil, hb⟩
theorem searchL_yes {a b : List IV} {ra rb : Int} {r : Int × Nst} (hr : searchN (ctrs a) (ctrs b) (ra + rb) 64 = r) (hu : usable r.2.N = true) : searchL a ra b rb = [r.2.N] := by unfold searchL; rw [hr, if_pos hu]
theorem searchL_no {a b : List IV} {ra rb : Int} {r : Int × Nst} (hr : searchN (ctrs a) (ctrs b) (ra + rb) 64 = r) (hu : usable r.2.N = false) : searchL a ra b rb = [] := by unfold searchL; rw [hr, if_neg (by rw [hu]; simp)]
theorem searchRefC (A B : Option Addr) (a b : List IV) (c d : Nat) (rho : Int) (r : Int × Nst) (hr : searchN (ctrs a) (ctrs b) rho 64 = r) (w : World) (hs : SlV w A (ctrs a)) (ht : SlV w B (ctrs b)) (pa : placedB a = true) (pb : placedB b = true) (r0 : 0 ≤ rho) (r1 : rho ≤ 2097152) :
    Calls Try.prog 126 #[.slice A a.length c, .slice B b.length d, .int .i64 rho, .int .i64 64] w (Search2Post r a.length b.length w) := by
  have := searchRef_any A B (ctrs a) (ctrs b) c d rho 64 w hs ht (few_ctrs pa) (few_ctrs pb) r0 r1 (by omega)
  rw [ctrs_len, ctrs_len, hr] at this
  exact this
/-- armplanref14.Candidates -/
theorem candidates_ref (A B H : Option Addr) (ca cb ch : Nat) (a b : List IV) (h : List V3) (ra rb : Int) (w : World) (sa : SlI w A a) (sb : SlI w B b) (sh : SlV w H h) (m1 : a.length ≤ 9223372036854775807) (m2 : b.length ≤ 9223372036854775807) (m3 : h.length ≤ 4000000) :
    Calls Try.prog 138 #[.slice A a.length ca, .int .i64 ra, .slice B b.length cb, .int .i64 rb, .slice H h.length ch] w (CandsPost (cands a ra b rb h) w) := by
  obtain ⟨i0, hi0, hz0, hz1, hz2⟩ := info_parts info47
  have HA := hide sa; have HB := hide sb; have HH := hide sh
  clear sa sb sh
  go_enter Try.func138, Try.ntmps138
  go_wp2_with fail
  refine (placed_ref A a ca _ HA.out m1).mono ?_
  rintro e w1 ⟨rfl, hb1⟩
  have B1 := hide hb1
  clear hb1
  cases hpa : placedB a
  · have HC := hide (cands_no h (candOk_1 (b := b) (ra := ra) (rb := rb) hpa))
    clear hpa
    go_wp2_with fail
    go_ret
    exact nil_post HC.out B1.out
  have PA := hide hpa
  clear hpa
  go_wp2_with fail
  refine (placed_ref B b cb _ (HB.out.below B1.out) m2).mono ?_
  rintro e w2 ⟨rfl, hb2⟩
  have B2 := hide (stepB hb2 B1.out)
  clear hb2 B1
  cases hpb : placedB b
  · have HC := hide (cands_no h (candOk_2 (a := a) (ra := ra) (rb := rb) hpb))
    clear hpb
    go_wp2_with fail
    go_ret
    exact nil_post HC.out B2.out
  have PB := hide hpb
  clear hpb
  go_wp2_with fail
  refine (radius_ref ra _).mono ?_
  rintro e w' ⟨rfl, rfl⟩
  by_cases hra : ¬ (0 ≤ ra ∧ ra ≤ 1048576)
  · rw [decide_eq_false hra]
    have HC := hide (cands_no h (candOk_3 (a := a) (b := b) (rb := rb) hra))
    clear hra
    go_wp2_with fail
    go_ret
    exact nil_post HC.out B2.out
  replace hra := Classical.not_not.1 hra
  rw [rad_true hra]
  go_wp2_with fail
  refine (radius_ref rb _).mono ?_
  rintro e w' ⟨rfl, rfl⟩
  by_cases hrb : ¬ (0 ≤ rb ∧ rb ≤ 1048576)
  · rw [decide_eq_false hrb]
    have HC := hide (cands_no h (candOk_4 (a := a) (b := b) (ra := ra) hrb))
    clear hrb
    go_wp2_with fail
    go_ret
    exact nil_post HC.out B2.out
  replace hrb := Classical.not_not.1 hrb
  rw [rad_true hrb]
  have HC := hide (cands_yes h (show candOk a ra b rb = true by simp [candOk, PA.out, PB.out, radOk_of hra, radOk_of hrb]))
  obtain ⟨ra0, ra1⟩ := hra
  obtain ⟨rb0, rb1⟩ := hrb
  have HM := hide (show meanR a b = .tuple #[.agg #[.int .i64 (normalF (meanD a b)).x, .int .i64 (normalF (meanD a b)).y, .int .i64 (normalF (meanD a b)).z], .bool (!isZ (meanD a b))] by unfold meanR; rw [PA.out, PB.out]; rfl)
  go_wp2_with fail
  go_loopw [11, 12] (fun v i wr => ∃ k : Nat, k ≤ h.length ∧ i = .int .i64 k ∧ wr.ownsRow w.heap.size 47 3 v ((h.take k).filter usable).length (((h.take k).filter usable).flatMap V3.cells) ∧ Below w.heap.size w wr) (fun _ i _ => h.length - (intOf i).toNat)
  case atStart => exact ⟨0, by omega, rfl, World.ownsRow_nil _ _ _ _, B2.out⟩
  case round =>
    obtain ⟨wo, rfl⟩ : ∃ wo : World, wo = wr := ⟨_, rfl⟩
    obtain ⟨k, hk, rfl, hown, hb⟩ := hrel
    have OW := hide hown; have BO := hide hb; have hz := hb.size
    clear hb hown B2
    by_cases hlt : k < h.length
    · obtain ⟨bh, oh, rfl, hbh⟩ := HH.out.addr (by omega)
      obtain ⟨d0, d1, d2⟩ := (HH.out.below BO.out).at_ hlt
      have hk0 : (0 : Int) ≤ (k : Int) := Int.natCast_nonneg _
      have hk1 : (k : Int) < (h.length : Int) := by omega
      have yh : bh < wo.heap.size := by omega
      have FL := List.length_filter_le usable (h.take k)
      rw [List.length_take] at FL
      go_wp2_with fail
      refine (usable_ref h[k] _).mono ?_
      rintro e w3 ⟨rfl, hb3⟩
      have FS := hide (filter_snoc usable h k hlt)
      have OW3 := hide (own_below OW.out hb3)
      have BO3 := hide (stepB hb3 BO.out)
      have hz3 := BO3.out.size
      have yh3 : bh < w3.heap.size := by omega
      clear hb3 OW BO d0 d1 d2 yh
      cases hu : usable h[k]
      · have FE := hide (show (h.take (k + 1)).filter usable = (h.take k).filter usable by rw [FS.out, hu]; rfl)
        clear hu FS
        go_wp2_with fail
        go_roundw
        case rel => exact ⟨k + 1, by omega, by simp, by rw [FE.out]; exact OW3.out, BO3.out⟩
        case measure => simp [intOf] <;> omega
      · have FE := hide (show (h.take (k + 1)).filter usable = (h.take k).filter usable ++ [h[k]] by rw [FS.out, hu]; rfl)
        obtain ⟨d0, d1, d2⟩ := (HH.out.below BO3.out).at_ hlt
        obtain ⟨L, hL⟩ : ∃ L, (h.take k).filter usable = L := ⟨_, rfl⟩
        rw [hL] at FE OW3 FL
        clear hu FS hL
        go_wp2_with (at_builtin; refine wpList_append_own _ rfl _ _ 49 rfl w.heap.size 47 i0 _ 3 24 Try.underlying49 hi0 hz0 hz1 hz2 rfl (by decide) u11 L.length (L.flatMap V3.cells) rfl (OW3.out.alloc _) ⟨w3.heap.size, 0, none⟩ 1 1 h[k].cells rfl rfl ?c1 ?c2 ?c3 ?c4 ?c5 ?_)
        case c1 => exact news_at (heap_alloc_new w3 _)
        case c2 => simp [Value.oneCell', V3.cells]
        case c3 => unfold maxLen; omega
        case c4 => omega
        case c5 => simp; omega
        intro v' w9 hown9 hg9 _
        have B9 := hide (app_below (BO3.out.alloc hz3 _) (OW3.out.alloc _) hg9)
        have OW9 := hide hown9
        clear hown9 hg9 d0 d1 d2
        go_wp2_with fail
        go_roundw
        case rel => exact ⟨k + 1, by omega, by simp, by rw [FE.out, List.flatMap_append, List.length_append]; simpa using OW9.out, B9.out⟩
        case measure => simp [intOf] <;> omega
    · obtain rfl : k = h.length := by omega
      rw [List.take_length] at OW
      have FL := List.length_filter_le usable h
      obtain ⟨L, hL⟩ : ∃ L, h.filter usable = L := ⟨_, rfl⟩
      rw [hL] at OW HC FL
      clear hL
      obtain ⟨AL, cL, rfl, _, _, _⟩ := own_val OW.out
      go_wp2_with fail
      refine (mean_ref A B a b ca cb _ (HA.out.below BO.out) (HB.out.below BO.out) m1 m2).mono ?_
      rintro e w3 ⟨rfl, hb3⟩
      rw [HM.out]
      have OW3 := hide (own_below OW.out hb3)
      have BO3 := hide (stepB hb3 BO.out)
      have hz3 := BO3.out.size
      clear hb3 OW BO HM
      obtain ⟨n, hn⟩ : ∃ n, normalF (meanD a b) = n := ⟨_, rfl⟩
      rw [hn]
      go_upto_region 10 with fail
      obtain ⟨w4, hw4⟩ : ∃ W, W = w3.alloc (.cells #[.int .i64 n.x, .int .i64 n.y, .int .i64 n.z] 47) := ⟨_, rfl⟩
      rw [← hw4]
      have b4 : Below w3.heap.size w3 w4 := by rw [hw4]; go_grown
      have KN := hide (show w4.heap[w3.heap.size]? = some (.cells (vcs n) 47 (0, 0)) by rw [hw4]; exact new_at _ _ (by simp))
      have OW4 := hide (own_below OW3.out b4)
      have BO4 := hide (stepB b4 BO3.out)
      have hz4 := BO4.out.size
      clear hw4 b4 OW3 BO3
      cases hz0' : isZ (meanD a b)
      · have HL := hide (show meanL a b = [n] by unfold meanL; rw [hz0', hn]; rfl)
        clear hz0' hn
        have cN := blk_cell KN.out; simp only [vcs] at cN
        have yN := blt KN.out
        go_wp2_with (at_builtin; refine wpList_append_own _ rfl _ _ 49 rfl w.heap.size 47 i0 _ 3 24 Try.underlying49 hi0 hz0 hz1 hz2 rfl (by decide) (.slice AL L.length cL) L.length (L.flatMap V3.cells) rfl (OW4.out.alloc _) ⟨w4.heap.size, 0, none⟩ 1 1 n.cells rfl rfl ?c1 ?c2 ?c3 ?c4 ?c5 ?_)
        case c1 => exact news_at (heap_alloc_new w4 _)
        case c2 => simp [Value.oneCell', V3.cells]
        case c3 => unfold maxLen; omega
        case c4 => omega
        case c5 => simp; omega
        intro v' w5 hown5 hg5 _
        have BO5 := hide (app_below (BO4.out.alloc hz4 _) (OW4.out.alloc _) hg5)
        have OW5 := hide (show w5.ownsRow w.heap.size 47 3 v' (L ++ [n]).length ((L ++ [n]).flatMap V3.cells) by rw [List.length_append, List.flatMap_append]; simpa using hown5)
        have HE := hide (show cands a ra b rb h = (L ++ [n]) ++ (axesL ++ searchL a ra b rb) by rw [HC.out, HL.out, List.append_assoc])
        have FM : (L ++ [n]).length ≤ h.length + 1 := by simp; omega
        clear hown5 hg5 cN yN KN OW4 BO4 HL HC FL
        obtain ⟨M, hM⟩ : ∃ M, L ++ [n] = M := ⟨_, rfl⟩
        rw [hM] at OW5 HE FM
        clear hM hz3 hz4
        go_wp2_with fail
        refine (axes_ref _).mono ?_
        rintro e w6 ⟨Ax, cx, rfl, sx, hb6⟩
        have OW6 := hide (own_below OW5.out hb6)
        have BO6 := hide (stepB hb6 BO5.out)
        have SX := hide sx
        have hz6 := BO6.out.size
        clear sx hb6 OW5 BO5
        go_wp2_with (at_builtin; refine wpList_append_sl _ rfl _ _ 49 rfl w.heap.size 47 i0 _ 3 24 Try.underlying49 hi0 hz0 hz1 hz2 rfl (by decide) v' M.length (M.flatMap V3.cells) rfl OW6.out Ax 6 cx (axesL.flatMap V3.cells) rfl rfl SX.out flat_oneO (by unfold maxLen; omega) (by omega) (by omega) ?_; intro v7 w7 hown7 hg7)
        have BO7 := hide (app_below BO6.out OW6.out hg7)
        have OW7 := hide (show w7.ownsRow w.heap.size 47 3 v7 (M ++ axesL).length ((M ++ axesL).flatMap V3.cells) by rw [List.length_append, List.flatMap_append]; exact hown7)
        have HE7 := hide (show cands a ra b rb h = (M ++ axesL) ++ searchL a ra b rb by rw [HE.out, List.append_assoc])
        have FM7 : (M ++ axesL).length ≤ h.length + 7 := by rw [List.length_append, show axesL.length = 6 from rfl]; omega
        clear hown7 hg7 OW6 BO6 HE SX FM
        obtain ⟨P, hP⟩ : ∃ P, M ++ axesL = P := ⟨_, rfl⟩
        rw [hP] at OW7 HE7 FM7
        clear hP hz6
        go_wp2_with fail
        refine (centers_ref A a ca _ (HA.out.below BO7.out) PA.out).mono ?_
        rintro e w8 ⟨AX, cX, rfl, sX, hb8⟩
        have OW8 := hide (own_below OW7.out hb8)
        have BO8 := hide (stepB hb8 BO7.out)
        have SX := hide sX
        clear sX hb8 OW7 BO7
        go_wp2_with fail
        refine (centers_ref B b cb _ (HB.out.below BO8.out) PB.out).mono ?_
        rintro e w9 ⟨AY, cY, rfl, sY, hb9⟩
        have OW9 := hide (own_below OW8.out hb9)
        have BO9 := hide (stepB hb9 BO8.out)
        replace SX := hide (SX.out.below hb9)
        have SY := hide sY
        clear sY hb9 OW8 BO8
        obtain ⟨r, hr⟩ : ∃ r, searchN (ctrs a) (ctrs b) (ra + rb) 64 = r := ⟨_, rfl⟩
        go_wp2_with fail
        refine (searchRefC AX AY a b cX cY (ra + rb) r hr _ SX.out SY.out PA.out PB.out (by omega) (by omega)).mono ?_
        rintro e w10 ⟨gL, gR, kL, kR, rfl, _, _, hb10⟩
        unfold rC
        have OW10 := hide (own_below OW9.out hb10)
        have BO10 := hide (stepB hb10 BO9.out)
        clear hb10 OW9 BO9 SX SY
        go_upto_region 14 with fail
        obtain ⟨w11, hw11⟩ : ∃ W, W = w10.alloc (.cells (rC r.1 r.2.N gL gR a.length b.length kL kR r.2.k) 93) := ⟨_, rfl⟩
        rw [show w10.alloc (.cells #[.int .i64 r.1, .int .i64 r.2.N.x, .int .i64 r.2.N.y, .int .i64 r.2.N.z, .slice (some ⟨gL, 0, none⟩) a.length kL, .slice (some ⟨gR, 0, none⟩) b.length kR, .int .i64 r.2.k] 93) = w11 from hw11.symm]
        have b11 : Below w10.heap.size w10 w11 := by rw [hw11]; go_grown
        have KR := hide (show w11.heap[w10.heap.size]? = some (.cells (rC r.1 r.2.N gL gR a.length b.length kL kR r.2.k) 93 (0, 0)) by rw [hw11]; exact new_at _ _ (by simp))
        have OW11 := hide (own_below OW10.out b11)
        have BO11 := hide (stepB b11 BO10.out)
        clear hw11 b11 OW10 BO10
        obtain ⟨N, hN⟩ : ∃ N, r.2.N = N := ⟨_, rfl⟩
        rw [hN] at KR
        have cR := blk_cell KR.out; simp only [rC] at cR
        have yR := blt KR.out
        obtain ⟨A7, c7, rfl, _, _, _⟩ := own_val OW11.out
        try rw [hN]
        go_wp2_with fail
        refine (usable_ref N _).mono ?_
        rintro e w12 ⟨rfl, hb12⟩
        have OW12 := hide (own_below OW11.out hb12)
        have BO12 := hide (stepB hb12 BO11.out)
        replace KR := hide ((hb12.block _ yR).trans KR.out)
        have hz12 := BO12.out.size
        clear hb12 OW11 BO11 cR yR
        cases hu : usable N
        · have HS := hide (show cands a ra b rb h = P by rw [HE7.out, searchL_no hr (by rw [hN]; exact hu), List.append_nil])
          clear hu hr hN
          go_wp2_with fail
          go_ret
          rw [HS.out]
          exact ⟨A7, c7, rfl, own_sl OW12.out, BO12.out⟩
        · have HS := hide (show cands a ra b rb h = P ++ [N] by rw [HE7.out, searchL_yes hr (by rw [hN]; exact hu), hN])
          have cR := blk_cell KR.out; simp only [rC] at cR
          have yR := blt KR.out
          clear hu hr hN
          go_wp2_with (at_builtin; refine wpList_append_own _ rfl _ _ 49 rfl w.heap.size 47 i0 _ 3 24 Try.underlying49 hi0 hz0 hz1 hz2 rfl (by decide) (.slice A7 P.length c7) P.length (P.flatMap V3.cells) rfl (OW12.out.alloc _) ⟨w12.heap.size, 0, none⟩ 1 1 N.cells rfl rfl ?c1 ?c2 ?c3 ?c4 ?c5 ?_)
          case c1 => exact news_at (heap_alloc_new w12 _)
          case c2 => simp [Value.oneCell', V3.cells]
          case c3 => unfold maxLen; omega
          case c4 => omega
          case c5 => simp; omega
          intro v' w13 hown13 hg13 _
          have BO13 := hide (app_below (BO12.out.alloc hz12 _) (OW12.out.alloc _) hg13)
          have OW13 := hide (show w13.ownsRow w.heap.size 47 3 v' (P ++ [N]).length ((P ++ [N]).flatMap V3.cells) by rw [List.length_append, List.flatMap_append]; simpa using hown13)
          clear hown13 hg13
          obtain ⟨A8, c8, rfl, _, _, _⟩ := own_val OW13.out
          go_wp2_with fail
          go_ret
          rw [HS.out]
          exact ⟨A8, c8, rfl, own_sl OW13.out, BO13.out⟩
      · have HL := hide (show meanL a b = [] by unfold meanL; rw [hz0']; rfl)
        clear hz0' hn
        have OW5 := OW4; have BO5 := BO4
        have HE := hide (show cands a ra b rb h = L ++ (axesL ++ searchL a ra b rb) by rw [HC.out, HL.out, List.nil_append])
        have FM : L.length ≤ h.length + 1 := by omega
        clear KN OW4 BO4 HL HC FL hz3 hz4
        go_wp2_with fail
        refine (axes_ref _).mono ?_
        rintro e w6 ⟨Ax, cx, rfl, sx, hb6⟩
        have OW6 := hide (own_below OW5.out hb6)
        have BO6 := hide (stepB hb6 BO5.out)
        have SX := hide sx
        have hz6 := BO6.out.size
        clear sx hb6 OW5 BO5
        go_wp2_with (at_builtin; refine wpList_append_sl _ rfl _ _ 49 rfl w.heap.size 47 i0 _ 3 24 Try.underlying49 hi0 hz0 hz1 hz2 rfl (by decide) (.slice AL L.length cL) L.length (L.flatMap V3.cells) rfl OW6.out Ax 6 cx (axesL.flatMap V3.cells) rfl rfl SX.out flat_oneO (by unfold maxLen; omega) (by omega) (by omega) ?_; intro v7 w7 hown7 hg7)
        have BO7 := hide (app_below BO6.out OW6.out hg7)
        have OW7 := hide (show w7.ownsRow w.heap.size 47 3 v7 (L ++ axesL).length ((L ++ axesL).flatMap V3.cells) by rw [List.length_append, List.flatMap_append]; exact hown7)
        have HE7 := hide (show cands a ra b rb h = (L ++ axesL) ++ searchL a ra b rb by rw [HE.out, List.append_assoc])
        have FM7 : (L ++ axesL).length ≤ h.length + 7 := by rw [List.length_append, show axesL.length = 6 from rfl]; omega
        clear hown7 hg7 OW6 BO6 HE SX FM
        obtain ⟨P, hP⟩ : ∃ P, L ++ axesL = P := ⟨_, rfl⟩
        rw [hP] at OW7 HE7 FM7
        clear hP hz6
        go_wp2_with fail
        refine (centers_ref A a ca _ (HA.out.below BO7.out) PA.out).mono ?_
        rintro e w8 ⟨AX, cX, rfl, sX, hb8⟩
        have OW8 := hide (own_below OW7.out hb8)
        have BO8 := hide (stepB hb8 BO7.out)
        have SX := hide sX
        clear sX hb8 OW7 BO7
        go_wp2_with fail
        refine (centers_ref B b cb _ (HB.out.below BO8.out) PB.out).mono ?_
        rintro e w9 ⟨AY, cY, rfl, sY, hb9⟩
        have OW9 := hide (own_below OW8.out hb9)
        have BO9 := hide (stepB hb9 BO8.out)
        replace SX := hide (SX.out.below hb9)
        have SY := hide sY
        clear sY hb9 OW8 BO8
        obtain ⟨r, hr⟩ : ∃ r, searchN (ctrs a) (ctrs b) (ra + rb) 64 = r := ⟨_, rfl⟩
        go_wp2_with fail
        refine (searchRefC AX AY a b cX cY (ra + rb) r hr _ SX.out SY.out PA.out PB.out (by omega) (by omega)).mono ?_
        rintro e w10 ⟨gL, gR, kL, kR, rfl, _, _, hb10⟩
        unfold rC
        have OW10 := hide (own_below OW9.out hb10)
        have BO10 := hide (stepB hb10 BO9.out)
        clear hb10 OW9 BO9 SX SY
        go_upto_region 14 with fail
        obtain ⟨w11, hw11⟩ : ∃ W, W = w10.alloc (.cells (rC r.1 r.2.N gL gR a.length b.length kL kR r.2.k) 93) := ⟨_, rfl⟩
        rw [show w10.alloc (.cells #[.int .i64 r.1, .int .i64 r.2.N.x, .int .i64 r.2.N.y, .int .i64 r.2.N.z, .slice (some ⟨gL, 0, none⟩) a.length kL, .slice (some ⟨gR, 0, none⟩) b.length kR, .int .i64 r.2.k] 93) = w11 from hw11.symm]
        have b11 : Below w10.heap.size w10 w11 := by rw [hw11]; go_grown
        have KR := hide (show w11.heap[w10.heap.size]? = some (.cells (rC r.1 r.2.N gL gR a.length b.length kL kR r.2.k) 93 (0, 0)) by rw [hw11]; exact new_at _ _ (by simp))
        have OW11 := hide (own_below OW10.out b11)
        have BO11 := hide (stepB b11 BO10.out)
        clear hw11 b11 OW10 BO10
        obtain ⟨N, hN⟩ : ∃ N, r.2.N = N := ⟨_, rfl⟩
        rw [hN] at KR
        have cR := blk_cell KR.out; simp only [rC] at cR
        have yR := blt KR.out
        obtain ⟨A7, c7, rfl, _, _, _⟩ := own_val OW11.out
        try rw [hN]
        go_wp2_with fail
        refine (usable_ref N _).mono ?_
        rintro e w12 ⟨rfl, hb12⟩
        have OW12 := hide (own_below OW11.out hb12)
        have BO12 := hide (stepB hb12 BO11.out)
        replace KR := hide ((hb12.block _ yR).trans KR.out)
        have hz12 := BO12.out.size
        clear hb12 OW11 BO11 cR yR
        cases hu : usable N
        · have HS := hide (show cands a ra b rb h = P by rw [HE7.out, searchL_no hr (by rw [hN]; exact hu), List.append_nil])
          clear hu hr hN
          go_wp2_with fail
          go_ret
          rw [HS.out]
          exact ⟨A7, c7, rfl, own_sl OW12.out, BO12.out⟩
        · have HS := hide (show cands a ra b rb h = P ++ [N] by rw [HE7.out, searchL_yes hr (by rw [hN]; exact hu), hN])
          have cR := blk_cell KR.out; simp only [rC] at cR
          have yR := blt KR.out
          clear hu hr hN
          go_wp2_with (at_builtin; refine wpList_append_own _ rfl _ _ 49 rfl w.heap.size 47 i0 _ 3 24 Try.underlying49 hi0 hz0 hz1 hz2 rfl (by decide) (.slice A7 P.length c7) P.length (P.flatMap V3.cells) rfl (OW12.out.alloc _) ⟨w12.heap.size, 0, none⟩ 1 1 N.cells rfl rfl ?c1 ?c2 ?c3 ?c4 ?c5 ?_)
          case c1 => exact news_at (heap_alloc_new w12 _)
          case c2 => simp [Value.oneCell', V3.cells]
          case c3 => unfold maxLen; omega
          case c4 => omega
          case c5 => simp; omega
          intro v' w13 hown13 hg13 _
          have BO13 := hide (app_below (BO12.out.alloc hz12 _) (OW12.out.alloc _) hg13)
          have OW13 := hide (show w13.ownsRow w.heap.size 47 3 v' (P ++ [N]).length ((P ++ [N]).flatMap V3.cells) by rw [List.length_append, List.flatMap_append]; simpa using hown13)
          clear hown13 hg13
          obtain ⟨A8, c8, rfl, _, _, _⟩ := own_val OW13.out
          go_wp2_with fail
          go_ret
          rw [HS.out]
          exact ⟨A8, c8, rfl, own_sl OW13.out, BO13.out⟩
end Go.Proofs.Ytionbckpgfaneaa
