/- NormalsPoints, walked. -/
import Derived.Test.YtionbckpgfaneaaLp
namespace Go.Proofs.Ytionbckpgfaneaa
open Go.RowKit
set_option maxHeartbeats 4000000
set_option maxRecDepth 100000
attribute [local go_sem] eq47 index47_0 index47_1 index47_2
def shV (x : V3) : V3 := ⟨x.x / 2251799813685248, x.y / 2251799813685248, x.z / 2251799813685248⟩
theorem shV_in {x : V3} (h : x.ok64) : Within (shV x) 8192 := by
  unfold V3.ok64 I64 at h
  unfold Within shV
  simp only
  omega
def PtRel (w : World) (x y : V3) (i : Value) (wr : World) : Prop :=
  ∃ m : Int, i = .int .i64 m ∧ 0 ≤ m ∧ m ≤ 3 ∧ wr.heap[w.heap.size]? = some (.cells (v3c (mixV m x (shV x))) 47 (0, 0)) ∧ wr.heap[w.heap.size + 1]? = some (.cells (v3c (mixV m y (shV y))) 47 (0, 0)) ∧ Below w.heap.size w wr
theorem PtRel.next {w wr wf : World} {x y : V3} {m : Int} (hx : wr.heap[w.heap.size]? = some (.cells (v3c (mixV m x (shV x))) 47 (0, 0))) (hy : wr.heap[w.heap.size + 1]? = some (.cells (v3c (mixV m y (shV y))) 47 (0, 0))) (hb : Below w.heap.size w wr)
    (i : Nat) (a b : Value) (hm0 : 0 ≤ m + 1) (hm3 : m + 1 ≤ 3) (ex : (v3c (mixV m x (shV x))).setIfInBounds i a = v3c (mixV (m + 1) x (shV x))) (ey : (v3c (mixV m y (shV y))).setIfInBounds i b = v3c (mixV (m + 1) y (shV y)))
    (hw : Like wf ((wr.setCell ⟨w.heap.size, i, none⟩ a).setCell ⟨w.heap.size + 1, i, none⟩ b) ∨ Like wf ((wr.setCell ⟨w.heap.size + 1, i, none⟩ b).setCell ⟨w.heap.size, i, none⟩ a)) : PtRel w x y (.int .i64 (m + 1)) wf := by
  rcases hw with hw | hw
  · refine ⟨m + 1, rfl, hm0, hm3, ?_, ?_, ?_⟩
    · rw [← ex, hw.1, Below.heap_setCell _ _ _ _ (by simp)]
      exact blk_set hx i a
    · rw [← ey, hw.1]
      exact blk_set ((Below.heap_setCell _ _ _ _ (by simp)).trans hy) i b
    · exact hw.below ((hb.setCell (by simp) a).setCell (by simp) b)
  · refine ⟨m + 1, rfl, hm0, hm3, ?_, ?_, ?_⟩
    · rw [← ex, hw.1]
      exact blk_set ((Below.heap_setCell _ _ _ _ (by simp)).trans hx) i a
    · rw [← ey, hw.1, Below.heap_setCell _ _ _ _ (by simp)]
      exact blk_set hy i b
    · exact hw.below ((hb.setCell (by simp) b).setCell (by simp) a)
theorem boxed1 (A : Option Addr) (x : V3) (c : Nat) (w : World) (hs : SlV w A [x]) :
    Calls Try.prog 84 #[.slice A 1 c] w fun e w' => ∃ (B : Option Addr) (d : Nat), e = .returned (.slice B 1 d) ∧ SlI w' B [ptI x] ∧ Below w.heap.size w w' :=
  boxed_sl A [x] c w hs (by simp)
theorem slv_blk {w : World} {k : Nat} {x : V3} (h : w.heap[k]? = some (.cells #[.int .i64 x.x, .int .i64 x.y, .int .i64 x.z] 47 (0, 0))) : SlV w (some ⟨k, 0, none⟩) [x] := fun _ =>
  ⟨k, 0, rfl, blt h, fun j u hu => by rw [blk_cell h]; simpa [V3.cells] using hu⟩
theorem normalsPoints_walk (x y : V3) (hx : x.ok64) (hy : y.ok64) (w : World) :
    Calls Try.prog 35 #[.agg #[.int .i64 x.x, .int .i64 x.y, .int .i64 x.z], .agg #[.int .i64 y.x, .int .i64 y.y, .int .i64 y.z]] w fun e w' => e = .returned (.bool true) ∧ Below w.heap.size w w' := by
  have FP := hide (find_points (shV_in hx) (shV_in hy))
  obtain ⟨⟨x1, x2⟩, ⟨x3, x4⟩, x5, x6⟩ := hx
  obtain ⟨⟨y1, y2⟩, ⟨y3, y4⟩, y5, y6⟩ := hy
  go_enter Try.func35, Try.ntmps35
  go_wp2_with fail
  go_loopw [5] (fun i wr => PtRel w x y i wr) (fun i _ => 3 - (intOf i).toNat)
  case atStart =>
    refine ⟨0, rfl, by omega, by omega, ?_, ?_, ?_⟩
    · exact (Below.heap_alloc _ _ _ (by simp)).trans (new_at _ _ rfl)
    · exact new_at _ _ (by simp)
    · exact below_two (Below.refl _ _) (Nat.le_refl _) _ _
  case round =>
    obtain ⟨wo, rfl⟩ : ∃ wo : World, wo = wr := ⟨_, rfl⟩
    obtain ⟨m, rfl, hm0, hm3, kx, ky, hb⟩ := hrel
    have KX := hide kx; have KY := hide ky; have HB := hide hb
    have cx := blk_cell kx; have cy := blk_cell ky; have fx := blk_frozen kx; have fy := blk_frozen ky; have yx := blt kx; have yy := blt ky
    clear kx ky hb
    obtain rfl | rfl | rfl | rfl : m = 0 ∨ m = 1 ∨ m = 2 ∨ m = 3 := by omega
    · simp [v3c, mixV] at cx cy
      go_wp2_with fail
      go_region
      all_goals
        go_wp2_with fail
        go_roundw
        case rel => exact PtRel.next KX.out KY.out HB.out 0 _ _ (by omega) (by omega) rfl rfl (by first | exact .inl ⟨rfl, rfl, rfl, rfl⟩ | exact .inr ⟨rfl, rfl, rfl, rfl⟩)
        case measure => simp [intOf]
    · simp [v3c, mixV] at cx cy
      go_wp2_with fail
      go_region
      all_goals
        go_wp2_with fail
        go_roundw
        case rel => exact PtRel.next KX.out KY.out HB.out 1 _ _ (by omega) (by omega) rfl rfl (by first | exact .inl ⟨rfl, rfl, rfl, rfl⟩ | exact .inr ⟨rfl, rfl, rfl, rfl⟩)
        case measure => simp [intOf]
    · simp [v3c, mixV] at cx cy
      go_wp2_with fail
      go_region
      all_goals
        go_wp2_with fail
        go_roundw
        case rel => exact PtRel.next KX.out KY.out HB.out 2 _ _ (by omega) (by omega) rfl rfl (by first | exact .inl ⟨rfl, rfl, rfl, rfl⟩ | exact .inr ⟨rfl, rfl, rfl, rfl⟩)
        case measure => simp [intOf]
    · obtain ⟨p, hp⟩ : ∃ p, shV x = p := ⟨_, rfl⟩
      obtain ⟨s, hs⟩ : ∃ s, shV y = s := ⟨_, rfl⟩
      have KP := hide (show wo.heap[w.heap.size]? = some (.cells (vcs p) 47 (0, 0)) by rw [← hp]; exact KX.out)
      have KS := hide (show wo.heap[w.heap.size + 1]? = some (.cells (vcs s) 47 (0, 0)) by rw [← hs]; exact KY.out)
      rw [hp, hs] at FP
      clear hp hs cx cy fx fy KX KY
      go_upto_region 5 with fail
      go_cut [6, 7] (fun s6 s7 wx => ∃ (A1 A2 : Option Addr) (d1 d2 : Nat), s6 = .slice A1 1 d1 ∧ s7 = .slice A2 1 d2 ∧ SlI wx A1 [ptI p] ∧ SlI wx A2 [ptI s] ∧ Below wo.heap.size wo wx)
      case first =>
        have dX0 := blk_cell KP.out; simp only [vcs] at dX0
        have dY0 := blk_cell KS.out; simp only [vcs] at dY0
        have dX := dX0; have dY := dY0
        have gg : Below wo.heap.size wo wo.drew := (Below.refl _ _).drew
        go_region_held3 (fun w' => (∀ i, w'.cell? ⟨w.heap.size, i, none⟩ = #[.int .i64 p.x, .int .i64 p.y, .int .i64 p.z][i]?) ∧ (∀ i, w'.cell? ⟨w.heap.size + 1, i, none⟩ = #[.int .i64 s.x, .int .i64 s.y, .int .i64 s.z][i]?)) (first | with_reducible exact ⟨dX, dY⟩ | with_reducible exact ⟨keepf (by first | with_reducible exact gg | with_reducible exact bd1 _ _ | with_reducible exact bd2 _ _ _ | with_reducible exact gg.alloc gg.size _ | with_reducible exact below_two gg gg.size _ _) yx dX0, keepf (by first | with_reducible exact gg | with_reducible exact bd1 _ _ | with_reducible exact bd2 _ _ _ | with_reducible exact gg.alloc gg.size _ | with_reducible exact below_two gg gg.size _ _) yy dY0⟩ | go_keep) (first | (go_at_call 84; (with_reducible refine (boxed1 _ p _ _ (by first | with_reducible exact hint1d _ p | with_reducible exact hint2d _ p _ | with_reducible exact hint3d _ p _ | with_reducible exact hint1 _ p | with_reducible exact hint2 _ p _ | with_reducible exact hint3 _ p _ | with_reducible exact slv_blk K7 | with_reducible exact slv_blk K8)).mono ?_); rintro e wz ⟨AX, dX, rfl, sX, hb⟩; (first | (have K7 := newB1 hb; have K8 := newB2 hb) | skip); (first | (have SY := SlI.below SY hb) | (have SY := SlI.below (Sl.alloc SY _) hb) | skip); have SX := sX; have gg : Below wo.heap.size wo wz := stepB hb (by first | with_reducible exact gg | with_reducible exact bd1 _ _ | with_reducible exact bd2 _ _ _ | with_reducible exact gg.alloc gg.size _ | with_reducible exact below_two gg gg.size _ _); have dX := keepf gg yx dX0; have dY := keepf gg yy dY0) | (go_at_call 84; (with_reducible refine (boxed1 _ s _ _ (by first | with_reducible exact hint1d _ s | with_reducible exact hint2d _ s _ | with_reducible exact hint3d _ s _ | with_reducible exact hint1 _ s | with_reducible exact hint2 _ s _ | with_reducible exact hint3 _ s _ | with_reducible exact slv_blk K7 | with_reducible exact slv_blk K8)).mono ?_); rintro e wz ⟨AY, dY, rfl, sY, hb⟩; (first | (have K7 := newB1 hb; have K8 := newB2 hb) | skip); (first | (have SX := SlI.below SX hb) | (have SX := SlI.below (Sl.alloc SX _) hb) | skip); have SY := sY; have gg : Below wo.heap.size wo wz := stepB hb (by first | with_reducible exact gg | with_reducible exact bd1 _ _ | with_reducible exact bd2 _ _ _ | with_reducible exact gg.alloc gg.size _ | with_reducible exact below_two gg gg.size _ _); have dX := keepf gg yx dX0; have dY := keepf gg yy dY0))
        all_goals
          go_wp2_with fail
          go_meet
          case rel =>
            exact ⟨_, _, _, _, rfl, rfl, SX, SY, gg⟩
      case rest =>
        obtain ⟨w1, rfl⟩ : ∃ w1 : World, w1 = wc := ⟨_, rfl⟩
        obtain ⟨A1, A2, d1, d2, rfl, rfl, s1, s2, b1⟩ := hcut
        have S1 := hide s1; have S2 := hide s2
        replace KP := hide ((b1.block _ (blt KP.out)).trans KP.out)
        replace KS := hide ((b1.block _ (blt KS.out)).trans KS.out)
        have B1 := hide (stepB b1 HB.out)
        clear s1 s2 b1 HB yx yy x1 x2 x3 x4 x5 x6 y1 y2 y3 y4 y5 y6 hm0 hm3
        go_wp2_with fail
        refine (find_any A1 A2 none d1 d2 0 [ptI p] [ptI s] [] 0 0 _ S1.out S2.out (nilV _) (by simp) (by simp) (by simp)).mono ?_
        rintro e w2 ⟨rfl, hb2⟩
        replace KP := hide ((hb2.block _ (blt KP.out)).trans KP.out)
        replace KS := hide ((hb2.block _ (blt KS.out)).trans KS.out)
        replace S1 := hide (S1.out.below hb2); replace S2 := hide (S2.out.below hb2)
        have B2 := hide (stepB hb2 B1.out)
        clear hb2 B1
        cases hf : findN [ptI p] 0 [ptI s] 0 []
        · have hps : p = s := Classical.byContradiction fun h => by
            have := FP.out.1 h
            rw [hf] at this
            cases this
          have SEP := hide (sep_zero [ptI p] [ptI s] 0 0)
          have eqn : eqV ⟨p.x, p.y, p.z⟩ ⟨s.x, s.y, s.z⟩ = true := by rw [hps]; simp [eqV]
          clear hf hps FP
          unfold findR
          go_upto_region 7 with fail
          obtain ⟨w3, hw3⟩ : ∃ W, W = w2.alloc (.cells #[.int .i64 0, .int .i64 0, .int .i64 0] 47) := ⟨_, rfl⟩
          rw [← hw3]
          have b3 : Below w2.heap.size w2 w3 := by rw [hw3]; go_grown
          have KN := hide (show w3.heap[w2.heap.size]? = some (.cells (vcs zeroV) 47 (0, 0)) by rw [hw3]; exact new_at _ _ (by simp))
          clear hw3
          go_wp2_with fail
          refine (awake17 _).mono ?_
          rintro e w4 ⟨rfl, hb4⟩
          have b4 : Below w2.heap.size w2 w4 := stepB hb4 b3
          replace KN := hide ((hb4.block _ (blt KN.out)).trans KN.out)
          replace KP := hide ((b4.block _ (blt KP.out)).trans KP.out)
          replace KS := hide ((b4.block _ (blt KS.out)).trans KS.out)
          replace S1 := hide (S1.out.below b4); replace S2 := hide (S2.out.below b4)
          replace B2 := hide (stepB b4 B2.out)
          clear hb4 b3 b4
          have cP := blk_cell KP.out; have cS := blk_cell KS.out; have cN := blk_cell KN.out; have yP := blt KP.out; have yS := blt KS.out; have yN := blt KN.out
          simp only [vcs, zeroV] at cP cS cN
          go_wp2_with fail
          refine (separates_any zeroV A1 [ptI p] d1 0 A2 [ptI s] d2 0 _ S1.out S2.out (by simp) (by simp)).mono ?_
          rintro e w5 ⟨rfl, hb5⟩
          rw [SEP.out]
          clear cP cS cN
          go_wp2_with fail
          go_ret
          exact ⟨rfl, stepB hb5 B2.out⟩
        · rename_i n
          have SEP := hide (find_sound hf)
          have hps : p ≠ s := fun h => by
            have := FP.out.2 h n
            rw [SEP.out] at this
            cases this
          have eqn : eqV ⟨p.x, p.y, p.z⟩ ⟨s.x, s.y, s.z⟩ = false := by
            cases he : eqV ⟨p.x, p.y, p.z⟩ ⟨s.x, s.y, s.z⟩
            · rfl
            · exact absurd (by simp [eqV] at he; exact V3.ext_ (by omega) (by omega) (by omega)) hps
          clear hf hps FP
          unfold findR
          go_upto_region 7 with fail
          obtain ⟨w3, hw3⟩ : ∃ W, W = w2.alloc (.cells #[.int .i64 n.x, .int .i64 n.y, .int .i64 n.z] 47) := ⟨_, rfl⟩
          rw [← hw3]
          have b3 : Below w2.heap.size w2 w3 := by rw [hw3]; go_grown
          have KN := hide (show w3.heap[w2.heap.size]? = some (.cells (vcs n) 47 (0, 0)) by rw [hw3]; exact new_at _ _ (by simp))
          clear hw3
          go_wp2_with fail
          refine (awake17 _).mono ?_
          rintro e w4 ⟨rfl, hb4⟩
          have b4 : Below w2.heap.size w2 w4 := stepB hb4 b3
          replace KN := hide ((hb4.block _ (blt KN.out)).trans KN.out)
          replace KP := hide ((b4.block _ (blt KP.out)).trans KP.out)
          replace KS := hide ((b4.block _ (blt KS.out)).trans KS.out)
          replace S1 := hide (S1.out.below b4); replace S2 := hide (S2.out.below b4)
          replace B2 := hide (stepB b4 B2.out)
          clear hb4 b3 b4
          have cP := blk_cell KP.out; have cS := blk_cell KS.out; have cN := blk_cell KN.out; have yP := blt KP.out; have yS := blt KS.out; have yN := blt KN.out
          simp only [vcs] at cP cS cN
          go_wp2_with fail
          refine (separates_any n A1 [ptI p] d1 0 A2 [ptI s] d2 0 _ S1.out S2.out (by simp) (by simp)).mono ?_
          rintro e w5 ⟨rfl, hb5⟩
          rw [SEP.out]
          clear cP cS cN
          go_wp2_with fail
          go_ret
          exact ⟨rfl, stepB hb5 B2.out⟩
end Go.Proofs.Ytionbckpgfaneaa
