/- Walks of the search, part s: the reference's Search. -/
import Derived.Test.YtionbckpgfaneaaNr
import Derived.Test.YtionbckpgfaneaaNu
import Derived.Deep.DeepCutAuto
import Derived.BigRegion
namespace Go.Proofs.Ytionbckpgfaneaa
open Go.RowKit
set_option maxHeartbeats 8000000
set_option maxRecDepth 100000
attribute [local go_sem] index47_0 index47_1 index47_2
theorem below_ch3 {B N : Nat} {w0 w : World} (h : Below B w0 w) (hN : B ≤ N) (v0 v1 v2 : Value) : Below B w0 (((w.setCell ⟨N, 0, none⟩ v0).setCell ⟨N, 1, none⟩ v1).setCell ⟨N, 2, none⟩ v2) := ((h.setCell hN _).setCell hN _).setCell hN _
def VRel (wq : World) (V : V3) (s : Value) (wx : World) : Prop := ∃ g : Nat, s = .pointer (some ⟨g, 0, none⟩) ∧ wq.heap.size ≤ g ∧ Below wq.heap.size wq wx ∧ wx.heap[g]? = some (.cells (vcs V) 47 (0, 0))
theorem vr1 {wq w : World} {V : V3} (gg : Below wq.heap.size wq w) : VRel wq V (.pointer (some ⟨w.heap.size, 0, none⟩)) (w.alloc (.cells #[.int .i64 V.x, .int .i64 V.y, .int .i64 V.z] 47)) := ⟨_, rfl, gg.size, gg.alloc gg.size _, new_at _ _ rfl⟩
theorem vr2 {wq w : World} {V : V3} {N : Nat} {z0 z1 z2 : Value} (gg : Below wq.heap.size wq w) (o7 : wq.heap.size ≤ N) (K7 : w.heap[N]? = some (.cells #[z0, z1, z2] 47 (0, 0))) : VRel wq V (.pointer (some ⟨N, 0, none⟩)) (((w.setCell ⟨N, 0, none⟩ (.int .i64 V.x)).setCell ⟨N, 1, none⟩ (.int .i64 V.y)).setCell ⟨N, 2, none⟩ (.int .i64 V.z)) :=
  ⟨_, rfl, o7, below_ch3 gg o7 _ _ _, blk_set (blk_set (blk_set K7 0 _) 1 _) 2 _⟩
def RfInv (w : World) (a b : List V3) (N S : Nat) (rho : Int) (m gk : Nat) (wr : World) : Prop :=
  ∃ (s : Nst) (gL gR cL cR : Nat), s.k + gk = 65 ∧ NI a b m s ∧ runN a b rho m gk s = searchN a b rho m ∧ wr.heap[S]? = some (.cells (rC 0 s.N gL gR a.length b.length cL cR s.k) 93 (0, 0)) ∧ SlN wr (some ⟨gL, 0, none⟩) s.L ∧ SlN wr (some ⟨gR, 0, none⟩) s.R ∧ gL ≠ S ∧ gR ≠ S ∧ gL ≠ N ∧ gR ≠ N ∧ gL < wr.heap.size ∧ gR < wr.heap.size ∧ wr.heap[N]? = some (.cells zero7 93 (0, 0)) ∧ Below w.heap.size w wr
def set3b (w : World) (S : Nat) (n : V3) : World := (((w.setCell ⟨S, 1, none⟩ (.int .i64 n.x)).setCell ⟨S, 2, none⟩ (.int .i64 n.y)).setCell ⟨S, 3, none⟩ (.int .i64 n.z)).alloc (.cells #[.int .i64 n.x, .int .i64 n.y, .int .i64 n.z] 47)
theorem set123 {w : World} {S : Nat} {cs : Array Value} {T : TypeId} (n : V3) (hS : w.heap[S]? = some (.cells cs T (0, 0))) :
    (set3b w S n).heap[S]? = some (.cells (((cs.setIfInBounds 1 (.int .i64 n.x)).setIfInBounds 2 (.int .i64 n.y)).setIfInBounds 3 (.int .i64 n.z)) T (0, 0)) ∧ (∀ k, k ≠ S → k < w.heap.size → (set3b w S n).heap[k]? = w.heap[k]?) ∧ (set3b w S n).heap[w.heap.size]? = some (.cells #[.int .i64 n.x, .int .i64 n.y, .int .i64 n.z] 47 (0, 0)) ∧ (∀ N w0, N ≤ S → N ≤ w.heap.size → Below N w0 w → Below N w0 (set3b w S n)) := by
  have hz : (((w.setCell ⟨S, 1, none⟩ (.int .i64 n.x)).setCell ⟨S, 2, none⟩ (.int .i64 n.y)).setCell ⟨S, 3, none⟩ (.int .i64 n.z)).heap.size = w.heap.size := by simp [World.setCell]
  have hlt : S < w.heap.size := blt hS
  refine ⟨?_, ?_, ?_, ?_⟩
  · exact (Below.heap_alloc _ _ _ (by rw [hz]; exact hlt)).trans (blk_set (blk_set (blk_set hS 1 _) 2 _) 3 _)
  · intro k hk hl
    refine (Below.heap_alloc _ _ _ (by rw [hz]; exact hl)).trans ?_
    rw [Below.heap_setCell _ _ _ _ (by simpa using hk), Below.heap_setCell _ _ _ _ (by simpa using hk), Below.heap_setCell _ _ _ _ (by simpa using hk)]
  · exact new_at _ _ hz.symm
  · intro N w0 h1 h2 hb
    exact (((hb.setCell (by simpa using h1) _).setCell (by simpa using h1) _).setCell (by simpa using h1) _).alloc (by rw [hz]; exact h2) _
theorem set123_sl {w : World} {S g : Nat} {L : List Int} (n : V3) (h : SlN w (some ⟨g, 0, none⟩) L) (hne : g ≠ S) : SlN (set3b w S n) (some ⟨g, 0, none⟩) L :=
  Sl.alloc (slN_set (slN_set (slN_set h hne _ _) hne _ _) hne _ _) _
theorem searchRef_any (A B : Option Addr) (a b : List V3) (ca cb : Nat) (rho : Int) (m : Nat) (w : World) (hs : SlV w A a) (ht : SlV w B b) (fa : fewB a = true) (fb : fewB b = true) (r0 : 0 ≤ rho) (r1 : rho ≤ 2097152) (hm : m ≤ 64) :
    Calls Try.prog 126 #[.slice A a.length ca, .slice B b.length cb, .int .i64 rho, .int .i64 m] w (Search2Post (searchN a b rho m) a.length b.length w) := by
  have HS := hide hs; have HT := hide ht; have FA := hide fa; have FB := hide fb
  obtain ⟨la1, la8, va⟩ := few_of fa
  obtain ⟨lb1, lb8, vb⟩ := few_of fb
  have VA := hide va; have VB := hide vb
  clear hs ht fa fb va vb
  have hm1 := make22 a.length (by omega); have hm2 := make22 b.length (by omega)
  have hra : (iArr (List.replicate a.length 0))[0]? = some (.int .i64 0) := by rw [iArr_get (by simp; omega)]; simp
  have hrb : (iArr (List.replicate b.length 0))[0]? = some (.int .i64 0) := by rw [iArr_get (by simp; omega)]; simp
  go_enter Try.func126, Try.ntmps126
  go_wp2_with fail
  refine (few_ref A a ca _ (by exact Sl.alloc HS.out _) (by omega)).mono ?_
  rintro e w1 ⟨rfl, hb1⟩
  rw [FA.out]
  have K1 := hide (show w1.heap[w.heap.size]? = some (.cells zero7 93 (0, 0)) from newB hb1)
  have B1 := hide (show Below w.heap.size w w1 from ((Below.refl _ _).alloc (Nat.le_refl _) _).trans (hb1.mono (by simp)))
  clear hb1
  go_wp2_with fail
  refine (few_ref B b cb _ (HT.out.below B1.out) (by omega)).mono ?_
  rintro e w2 ⟨rfl, hb2⟩
  rw [FB.out]
  have K2 := hide ((hb2.block _ (blt K1.out)).trans K1.out)
  have B2 := hide (stepB hb2 B1.out)
  have y2 := blt K2.out
  clear hb2 K1 B1
  go_upto_region 3 with fail
  go_cut [9] (fun s9 wx => ∃ gL gR S : Nat, s9 = .pointer (some ⟨S, 0, none⟩) ∧ w2.heap.size ≤ gL ∧ w2.heap.size ≤ gR ∧ w2.heap.size ≤ S ∧ gL ≠ gR ∧ gL ≠ S ∧ gR ≠ S ∧ wx.heap[S]? = some (.cells (rC 0 zeroV gL gR a.length b.length a.length b.length 0) 93 (0, 0)) ∧ wx.heap[gL]? = some (.cells (iArr (List.replicate a.length 0)) 2 (0, 0)) ∧ wx.heap[gR]? = some (.cells (iArr (List.replicate b.length 0)) 2 (0, 0)) ∧ Below w2.heap.size w2 wx)
  case first =>
    go_region
    all_goals
      go_wp2_with fail
      go_meet
      case rel =>
        first
          | exact ⟨w2.heap.size, w2.heap.size + 1, w2.heap.size + 1 + 1, rfl, by omega, by omega, by omega, by omega, by omega, by omega, (three w2 _ _ _).2.2, (three w2 _ _ _).1, (three w2 _ _ _).2.1, by go_grown⟩
          | exact ⟨w2.heap.size, w2.heap.size + 1 + 1, w2.heap.size + 1, rfl, by omega, by omega, by omega, by omega, by omega, by omega, (three w2 _ _ _).2.1, (three w2 _ _ _).1, (three w2 _ _ _).2.2, by go_grown⟩
          | exact ⟨w2.heap.size + 1, w2.heap.size + 1 + 1, w2.heap.size, rfl, by omega, by omega, by omega, by omega, by omega, by omega, (three w2 _ _ _).1, (three w2 _ _ _).2.1, (three w2 _ _ _).2.2, by go_grown⟩
          | exact ⟨w2.heap.size + 1, w2.heap.size, w2.heap.size + 1 + 1, rfl, by omega, by omega, by omega, by omega, by omega, by omega, (three w2 _ _ _).2.2, (three w2 _ _ _).2.1, (three w2 _ _ _).1, by go_grown⟩
          | exact ⟨w2.heap.size + 1 + 1, w2.heap.size, w2.heap.size + 1, rfl, by omega, by omega, by omega, by omega, by omega, by omega, (three w2 _ _ _).2.1, (three w2 _ _ _).2.2, (three w2 _ _ _).1, by go_grown⟩
          | exact ⟨w2.heap.size + 1 + 1, w2.heap.size + 1, w2.heap.size, rfl, by omega, by omega, by omega, by omega, by omega, by omega, (three w2 _ _ _).1, (three w2 _ _ _).2.2, (three w2 _ _ _).2.1, by go_grown⟩
  case rest =>
    obtain ⟨w3, rfl⟩ : ∃ w3 : World, w3 = wc := ⟨_, rfl⟩
    obtain ⟨gL0, gR0, S, rfl, oL, oR, oS, dLR, dLS, dRS, kS, kL, kR, b3⟩ := hcut
    have KS := hide kS; have KL := hide kL; have KR := hide kR
    have K3 := hide ((b3.block _ y2).trans K2.out)
    have B3 := hide (stepB b3 B2.out)
    have yS := blt kS; have yL := blt kL; have yR := blt kR
    have cS := blk_cell kS; simp only [rC, zeroV] at cS
    have cL : w3.cell? ⟨gL0, 0, none⟩ = some (.int .i64 0) := by rw [blk_cell kL, hra]
    have cR : w3.cell? ⟨gR0, 0, none⟩ = some (.int .i64 0) := by rw [blk_cell kR, hrb]
    have fL := blk_frozen kL; have fR := blk_frozen kR
    have dRL : gR0 ≠ gL0 := Ne.symm dLR
    have dSL : S ≠ gL0 := Ne.symm dLS
    have dSR : S ≠ gR0 := Ne.symm dRS
    have z2 := B2.out.size
    have nL : gL0 ≠ w.heap.size := by omega
    have nR : gR0 ≠ w.heap.size := by omega
    have nS : S ≠ w.heap.size := by omega
    have oS' : w.heap.size ≤ S := by omega
    have oL' : w.heap.size ≤ gL0 := by omega
    have oR' : w.heap.size ≤ gR0 := by omega
    have ea : oneAt a.length 0 65536 = (List.replicate a.length 0).set 0 65536 := rfl
    have eb : oneAt b.length 0 65536 = (List.replicate b.length 0).set 0 65536 := rfl
    have EA := hide ea; have EB := hide eb
    clear kS kL kR b3 K2 B2 hm1 hm2 ea eb
    go_upto_region 4 with fail
    go_cut [9] (fun s9 wx => s9 = .pointer (some ⟨S, 0, none⟩) ∧ wx.heap[S]? = some (.cells (rC 0 zeroV gL0 gR0 a.length b.length a.length b.length 0) 93 (0, 0)) ∧ wx.heap[gL0]? = some (.cells (iArr (oneAt a.length 0 65536)) 2 (0, 0)) ∧ wx.heap[gR0]? = some (.cells (iArr (oneAt b.length 0 65536)) 2 (0, 0)) ∧ wx.heap[w.heap.size]? = some (.cells zero7 93 (0, 0)) ∧ Below w.heap.size w wx)
    case first =>
      go_region
      all_goals
        go_wp2_with fail
        go_meet
        case rel =>
          first
            | exact ⟨rfl, (Below.heap_setCell _ _ _ _ dSR).trans ((Below.heap_setCell _ _ _ _ dSL).trans KS.out), (Below.heap_setCell _ _ _ _ dLR).trans (by rw [EA.out]; exact iSet KL.out 0 _), by rw [EB.out]; exact iSet ((Below.heap_setCell _ _ _ _ dRL).trans KR.out) 0 _, (Below.heap_setCell _ _ _ _ (Ne.symm nR)).trans ((Below.heap_setCell _ _ _ _ (Ne.symm nL)).trans K3.out), (B3.out.drew.setCell oL' _).setCell oR' _⟩
            | exact ⟨rfl, (Below.heap_setCell _ _ _ _ dSL).trans ((Below.heap_setCell _ _ _ _ dSR).trans KS.out), by rw [EA.out]; exact iSet ((Below.heap_setCell _ _ _ _ dLR).trans KL.out) 0 _, (Below.heap_setCell _ _ _ _ dRL).trans (by rw [EB.out]; exact iSet KR.out 0 _), (Below.heap_setCell _ _ _ _ (Ne.symm nL)).trans ((Below.heap_setCell _ _ _ _ (Ne.symm nR)).trans K3.out), (B3.out.drew.setCell oR' _).setCell oL' _⟩
    case rest =>
      obtain ⟨w4, rfl⟩ : ∃ w4 : World, w4 = wc := ⟨_, rfl⟩
      obtain ⟨rfl, kS, kL, kR, kN, hB⟩ := hcut
      have INV := hide (show RfInv w a b w.heap.size S rho m 65 w4 from ⟨startN a b, gL0, gR0, a.length, b.length, rfl, NI.start m la1 lb1, rfl, kS, slN_of kL, slN_of kR, dLS, dRS, nL, nR, blt kL, blt kR, kN, hB⟩)
      clear kS kL kR kN hB cS cL cR fL fR KS KL KR K3 B3 yS yL yR dRL dSL dSR dLR dLS dRS nL nR oL oR oL' oR' EA EB hra hrb
      go_wp2_with fail
      go_loopg [10] 65 (fun gk _ wr => RfInv w a b w.heap.size S rho m gk wr)
      case atStart => exact INV.out
      case round =>
        clear INV
        obtain ⟨s, gL, gR, cL, cR, hgk, hni, hrun, kS, sL, sR, dLS, dRS, nL, nR, yL, yR, kN, hB⟩ := hrel
        have NN := hide hni; have RUN := hide hrun
        have hk : s.k ≤ m := hni.2.2
        obtain ⟨f, rfl⟩ : ∃ f, gk = f + 1 := ⟨gk - 1, by omega⟩
        have yS := blt kS; have yN := blt kN
        have KS := hide kS; have KN := hide kN; have SL := hide sL; have SR := hide sR; have HB := hide hB
        have zz := hB.size
        clear hni hrun kS kN sL sR hB
        obtain ⟨W, hW⟩ : ∃ W, W = wOf a b s := ⟨_, rfl⟩
        have WBD := hide (show WB W by rw [hW]; exact wOf_bd FA.out FB.out NN.out)
        have HW := hide hW; clear hW
        have sba := sumV_bd FA.out NN.out.1; have sbb := sumV_bd FB.out NN.out.2.1
        go_upto_region 5 with fail
        go_cut [10] from 58 to 168 (fun s10 wx => VRel wr W s10 wx)
        case first =>
          have cS0 := blk_cell KS.out; simp only [rC] at cS0
          have cS := cS0
          have gg : Below wr.heap.size wr wr.drew := (Below.refl _ _).drew
          have la1000 : a.length ≤ 1000 := by omega
          have lb1000 : b.length ≤ 1000 := by omega
          have LL := hide NN.out.1.1; have LR := hide NN.out.2.1.1
          have WL := hide NN.out.1.bd; have WR := hide NN.out.2.1.bd; have MA := hide (few_mod FA.out); have MB := hide (few_mod FB.out)
          obtain ⟨P, hP⟩ : ∃ P, sumV a s.L = P := ⟨_, rfl⟩
          obtain ⟨Q, hQ⟩ : ∃ Q, sumV b s.R = Q := ⟨_, rfl⟩
          have HP := hide hP; have HQ := hide hQ
          rw [hP] at sba
          rw [hQ] at sbb
          have ex := hide (show P.x - Q.x = W.x by rw [HW.out, ← hP, ← hQ]; rfl)
          have ey := hide (show P.y - Q.y = W.y by rw [HW.out, ← hP, ← hQ]; rfl)
          have ez := hide (show P.z - Q.z = W.z by rw [HW.out, ← hP, ← hQ]; rfl)
          clear hP hQ
          have mx : -9223372036854775808 ≤ P.x - Q.x ∧ P.x - Q.x ≤ 9223372036854775807 := by omega
          have my : -9223372036854775808 ≤ P.y - Q.y ∧ P.y - Q.y ≤ 9223372036854775807 := by omega
          have mz : -9223372036854775808 ≤ P.z - Q.z ∧ P.z - Q.z ≤ 9223372036854775807 := by omega
          clear sba sbb
          go_region_held3 (fun w' => ∀ i, w'.cell? ⟨S, i, none⟩ = #[.int .i64 0, .int .i64 s.N.x, .int .i64 s.N.y, .int .i64 s.N.z, .slice (some ⟨gL, 0, none⟩) a.length cL, .slice (some ⟨gR, 0, none⟩) b.length cR, .int .i64 s.k][i]?) (first | with_reducible exact cS | with_reducible exact keepf (by first | with_reducible exact gg | with_reducible exact gg.alloc gg.size _ | with_reducible exact ((Below.refl _ _).alloc (Nat.le_refl _) _).drew | with_reducible exact below_ch3 gg o7 _ _ _) yS cS0 | go_keep) (first | (go_at_call 51; (with_reducible refine (sum_ref2 A (some ⟨gL, 0, none⟩) a s.L a.length ca cL _ (slv_up HS.out HB.out (by first | with_reducible exact gg | with_reducible exact gg.alloc gg.size _ | with_reducible exact ((Below.refl _ _).alloc (Nat.le_refl _) _).drew)) (SlN.below SL.out (by first | with_reducible exact gg | with_reducible exact gg.alloc gg.size _ | with_reducible exact ((Below.refl _ _).alloc (Nat.le_refl _) _).drew)) la1000 LL.out LL.out WL.out MA.out).mono ?_); rintro e w2 ⟨rfl, hb⟩; rw [HP.out]; (first | (have K7 := newB hb; have o7 := gg.size) | (have K7 := newBd hb; have o7 := Nat.le_refl wr.heap.size) | (have K7 := (hb.block _ y7).trans K7) | skip); have gg := stepB hb (by first | with_reducible exact gg | with_reducible exact gg.alloc gg.size _ | with_reducible exact ((Below.refl _ _).alloc (Nat.le_refl _) _).drew); (try (have y7 := blt K7)); (try (have q7 := blk_cell K7)); (try (have r7 := blk_frozen K7)); have cS := keepf gg yS cS0; have ySw2 : S < w2.heap.size := Nat.lt_of_lt_of_le yS gg.size) | (go_at_call 51; (with_reducible refine (sum_ref2 B (some ⟨gR, 0, none⟩) b s.R b.length cb cR _ (slv_up HT.out HB.out (by first | with_reducible exact gg | with_reducible exact gg.alloc gg.size _ | with_reducible exact ((Below.refl _ _).alloc (Nat.le_refl _) _).drew)) (SlN.below SR.out (by first | with_reducible exact gg | with_reducible exact gg.alloc gg.size _ | with_reducible exact ((Below.refl _ _).alloc (Nat.le_refl _) _).drew)) lb1000 LR.out LR.out WR.out MB.out).mono ?_); rintro e w3 ⟨rfl, hb⟩; rw [HQ.out]; (first | (have K7 := newB hb; have o7 := gg.size) | (have K7 := newBd hb; have o7 := Nat.le_refl wr.heap.size) | (have K7 := (hb.block _ y7).trans K7) | skip); have gg := stepB hb (by first | with_reducible exact gg | with_reducible exact gg.alloc gg.size _ | with_reducible exact ((Below.refl _ _).alloc (Nat.le_refl _) _).drew); (try (have y7 := blt K7)); (try (have q7 := blk_cell K7)); (try (have r7 := blk_frozen K7)); have cS := keepf gg yS cS0; have ySw3 : S < w3.heap.size := Nat.lt_of_lt_of_le yS gg.size) | (go_at_call 157; (with_reducible refine (minus157 P Q _ mx my mz).mono ?_); rintro e w4 ⟨rfl, hb⟩; rw [ex.out, ey.out, ez.out]; (first | (have K7 := newB hb; have o7 := gg.size) | (have K7 := newBd hb; have o7 := Nat.le_refl wr.heap.size) | (have K7 := (hb.block _ y7).trans K7) | skip); have gg := stepB hb (by first | with_reducible exact gg | with_reducible exact gg.alloc gg.size _ | with_reducible exact ((Below.refl _ _).alloc (Nat.le_refl _) _).drew); (try (have y7 := blt K7)); (try (have q7 := blk_cell K7)); (try (have r7 := blk_frozen K7)); have cS := keepf gg yS cS0; have ySw4 : S < w4.heap.size := Nat.lt_of_lt_of_le yS gg.size))
          all_goals
            go_wp2_with fail
            go_meet
            case rel =>
              first
                | with_reducible exact vr1 gg
                | with_reducible exact vr2 gg o7 K7
        case rest =>
          clear sba sbb
          obtain ⟨g, rfl, og, hgB, kW⟩ := hcut
          have KS1 := hide ((hgB.block _ (blt KS.out)).trans KS.out); have KN1 := hide ((hgB.block _ (blt KN.out)).trans KN.out); have SL1 := hide (SL.out.below hgB); have SR1 := hide (SR.out.below hgB); have HB1 := hide (HB.out.trans (hgB.mono HB.out.size))
          have KW := hide kW
          have yW := blt kW
          have cW := blk_cell kW; simp only [vcs] at cW
          have z1 := hgB.size
          clear kW hgB KS KN SL SR HB yS yN
          go_wp2_with fail
          refine (near14_any W rho _ WBD.out r0 r1).mono ?_
          rintro e w2 ⟨rfl, hb2⟩
          have KS2 := hide ((hb2.block _ (blt KS1.out)).trans KS1.out); have KN2 := hide ((hb2.block _ (blt KN1.out)).trans KN1.out); have SL2 := hide (SL1.out.below hb2); have SR2 := hide (SR1.out.below hb2); have HB2 := hide (HB1.out.trans (hb2.mono HB1.out.size))
          have KW2 := hide ((hb2.block _ yW).trans KW.out)
          have yW2 := blt KW2.out
          have yS2 := blt KS2.out; have yN2 := blt KN2.out
          have z2 := hb2.size
          clear hb2 cW KS1 KN1 SL1 SR1 HB1 KW yW
          have nNS : w.heap.size ≠ S := Ne.symm nS
          cases hcl : closeF W rho
          · have CL := hide (show closeF (wOf a b s) rho = false by rw [← HW.out]; exact hcl)
            clear hcl
            obtain ⟨X, hX⟩ : ∃ X, X = divV W 65536 := ⟨_, rfl⟩
            have HX := hide (show xOf a b s = X by rw [hX, HW.out]; rfl)
            have XBD := hide (show XB X by rw [← HX.out]; exact xOf_bd (by rw [← HW.out]; exact WBD.out))
            have tx : W.x.tdiv 65536 = X.x := by rw [hX]; rfl
            have ty : W.y.tdiv 65536 = X.y := by rw [hX]; rfl
            have tz : W.z.tdiv 65536 = X.z := by rw [hX]; rfl
            have cW := blk_cell KW2.out; simp only [vcs] at cW
            clear hX
            obtain ⟨⟨x1, x2⟩, ⟨x3, x4⟩, x5, x6⟩ := XBD.out
            go_wp2_with fail
            refine (normal_ref X _ XBD.out.ok64).mono ?_
            rintro e w3 ⟨rfl, hb3⟩
            unfold normalR
            rw [isZ_normal]
            obtain ⟨n, hn⟩ : ∃ n, normalF X = n := ⟨_, rfl⟩
            rw [hn]
            have HN := hide (show nOf a b s = n by unfold nOf; rw [HX.out, hn])
            have INR := hide (show inR n = true by rw [← hn]; exact normalF_inR XBD.out.ok64)
            have hb3' : Below w2.heap.size w2 w3 := ((Below.refl _ _).alloc (Nat.le_refl _) _).trans (hb3.mono (by simp))
            have KS3 := hide ((hb3'.block _ (blt KS2.out)).trans KS2.out); have KN3 := hide ((hb3'.block _ (blt KN2.out)).trans KN2.out); have SL3 := hide (SL2.out.below hb3'); have SR3 := hide (SR2.out.below hb3'); have HB3 := hide (HB2.out.trans (hb3'.mono HB2.out.size))
            have KX3 := hide (show w3.heap[w2.heap.size]? = some (.cells (vcs X) 47 (0, 0)) from newB hb3)
            have yX3 := blt KX3.out
            have yS3 := blt KS3.out; have yN3 := blt KN3.out
            have z3 := hb3'.size
            have gL3 : gL < w3.heap.size := by omega
            have gR3 : gR < w3.heap.size := by omega
            clear x1 x2 x3 x4 x5 x6 hb3 hb3' hn cW tx ty tz KS2 KN2 SL2 SR2 HB2 KW2
            have cS := blk_cell KS3.out; simp only [rC] at cS
            have fS := blk_frozen KS3.out
            obtain ⟨q1, q2, q3, q4⟩ := set123 n KS3.out
            have q5 := fun (L : List Int) (gg : Nat) (h : SlN w3 (some ⟨gg, 0, none⟩) L) (hne : gg ≠ S) => set123_sl n (S := S) h hne
            obtain ⟨w4, hw4⟩ : ∃ W4, W4 = set3b w3 S n := ⟨_, rfl⟩
            have e4 : (((w3.setCell ⟨S, 1, none⟩ (.int .i64 n.x)).setCell ⟨S, 2, none⟩ (.int .i64 n.y)).setCell ⟨S, 3, none⟩ (.int .i64 n.z)).alloc (.cells #[.int .i64 n.x, .int .i64 n.y, .int .i64 n.z] 47) = w4 := hw4.symm
            rw [← hw4] at q1 q2 q3 q4
            have KS4 := hide (show w4.heap[S]? = some (.cells (rC 0 n gL gR a.length b.length cL cR s.k) 93 (0, 0)) from q1)
            have KN4 := hide ((q2 _ nNS (blt KN3.out)).trans KN3.out)
            have KX4 := hide ((q2 _ (by omega) yX3).trans KX3.out)
            have Kn4 := hide (show w4.heap[w3.heap.size]? = some (.cells (vcs n) 47 (0, 0)) from q3)
            have HB4 := hide (q4 _ _ oS' HB3.out.size HB3.out)
            have SL4 := hide (show SlN w4 (some ⟨gL, 0, none⟩) s.L by rw [hw4]; exact q5 _ _ SL3.out dLS)
            have SR4 := hide (show SlN w4 (some ⟨gR, 0, none⟩) s.R by rw [hw4]; exact q5 _ _ SR3.out dRS)
            have z4 : w3.heap.size ≤ w4.heap.size := by rw [hw4]; simp [set3b, World.setCell]
            have HE4 := hide e4
            clear q1 q2 q3 q4 q5 e4 hw4
            cases hz : isZ X
            · have ZX := hide (show isZ (xOf a b s) = false by rw [HX.out]; exact hz)
              clear hz
              go_wp2_with fail
              rw [HE4.out]
              clear cS fS KS3 KN3 SL3 SR3 HB3 KX3 HE4 yS3 yN3 yX3
              have yn4 := blt Kn4.out
              have d0 := blk_cell Kn4.out; simp only [vcs] at d0
              have cn := d0
              have F1 := hide (show ∀ i, dgo n a i = 1 * dgo n a i from fun i => (Int.one_mul _).symm)
              have F2 := hide (show ∀ i, (fun i => -dgo n b i) i = -1 * dgo n b i from fun i => by simp)
              have gg : Below w4.heap.size w4 w4.drew := (Below.refl _ _).drew
              go_region_held3 (fun w' => (∀ i, w'.cell? ⟨w3.heap.size, i, none⟩ = #[.int .i64 n.x, .int .i64 n.y, .int .i64 n.z][i]?))
                (first | with_reducible exact cn | go_keep)
                (first | (go_at_call 159; (with_reducible refine (extreme_any n A a ca 1 (dgo n a) _ (slv_up HS.out HB4.out gg) INR.out la1 la8 VA.out (Or.inl rfl) F1.out).mono ?_); rintro e w5 ⟨rfl, bb⟩; have gg := gg.trans (bb.mono gg.size); have cn := keepf gg yn4 d0) | (go_at_call 159; (with_reducible refine (extreme_any n B b cb (-1) (fun i => -dgo n b i) _ (slv_up HT.out HB4.out gg) INR.out lb1 lb8 VB.out (Or.inr rfl) F2.out).mono ?_); rintro e w6 ⟨rfl, bb⟩; have gg := gg.trans (bb.mono gg.size); have cn := keepf gg yn4 d0))
              have gb := gg
              have z6 := gg.size
              have KS6 := hide ((gb.block _ (blt KS4.out)).trans KS4.out); have KN6 := hide ((gb.block _ (blt KN4.out)).trans KN4.out); have SL6 := hide (SL4.out.below gb); have SR6 := hide (SR4.out.below gb); have HB6 := hide (HB4.out.trans (gb.mono HB4.out.size)); have KX6 := hide ((gb.block _ (blt KX4.out)).trans KX4.out); have Kn6 := hide ((gb.block _ (blt Kn4.out)).trans Kn4.out)
              clear gg gb bb cn d0 KS4 KN4 SL4 SR4 HB4 KX4 Kn4 yn4 F1 F2
              obtain ⟨i, hi⟩ : ∃ i, exLo n a = i := ⟨_, rfl⟩
              have ilt : i < a.length := by rw [← hi]; exact exLo_lt n la1
              obtain ⟨j, hj⟩ : ∃ j, exHi n b = j := ⟨_, rfl⟩
              have jlt : j < b.length := by rw [← hj]; exact exHi_lt n lb1
              rw [show amin (dgo n a) a.length = i from hi, show amin (fun i => -dgo n b i) b.length = j from hj]
              have HI := hide hi; have HJ := hide hj
              clear hi hj
              obtain ⟨bA, oA, rfl, hbA⟩ := HS.out.addr la1
              obtain ⟨bB, oB, rfl, hbB⟩ := HT.out.addr lb1
              obtain ⟨pb1, pb2, pb3⟩ := PB_of INR.out (VA.out i ilt)
              obtain ⟨pc1, pc2, pc3⟩ := PB_of INR.out (VB.out j jlt)
              obtain ⟨lo, hlo⟩ : ∃ lo, dotV n a[i] = lo := ⟨_, rfl⟩
              obtain ⟨hi, hhi⟩ : ∃ hi, dotV n b[j] = hi := ⟨_, rfl⟩
              have lob := (PB_of INR.out (VA.out i ilt)).dot
              have hib := (PB_of INR.out (VB.out j jlt)).dot
              rw [hlo] at lob
              rw [hhi] at hib
              obtain ⟨F, hF⟩ : ∃ F, normF n = F := ⟨_, rfl⟩
              obtain ⟨f1, f2⟩ := normF_bd n
              rw [hF] at f1 f2
              obtain ⟨p1, p2⟩ := mul_bd F rho 32768 2097152 f1 f2 (by omega) r1
              have p0 := Int.mul_nonneg f1 r0
              have HA := hide (show apartB a b rho s = decide (F * rho < lo - hi) by unfold apartB; rw [HN.out, HI.out, HJ.out, dgo_at n a i ilt, dgo_at n b j jlt, hlo, hhi, hF])
              have HLO := hide hlo; have HHI := hide hhi; have HFN := hide hF
              clear hlo hhi hF
              obtain ⟨lo1, lo2⟩ := lob
              obtain ⟨hi1, hi2⟩ := hib
              have wq1 := IntWalk.i64_in (lo - hi) (by omega); have wq2 := IntWalk.i64_in (F * rho) (by omega)
              have i0 : (0 : Int) ≤ (i : Int) := Int.natCast_nonneg _
              have i1 : (i : Int) < (a.length : Int) := by omega
              have j0 : (0 : Int) ≤ (j : Int) := Int.natCast_nonneg _
              have j1 : (j : Int) < (b.length : Int) := by omega
              obtain ⟨a00, a01, a02⟩ := (HS.out.below HB6.out).at_ ilt
              obtain ⟨b00, b01, b02⟩ := (HT.out.below HB6.out).at_ jlt
              have yA : bA < w6.heap.size := Nat.lt_of_lt_of_le hbA HB6.out.size
              have yB : bB < w6.heap.size := Nat.lt_of_lt_of_le hbB HB6.out.size
              have yn := blt Kn6.out
              have d0 := blk_cell Kn6.out; simp only [vcs] at d0
              have cn := d0; have a0 := a00; have a1 := a01; have a2 := a02; have b0 := b00; have b1 := b01; have b2 := b02
              go_wp2_with fail
              have gg : Below w6.heap.size w6 w6.drew := (Below.refl _ _).drew
              go_region_held3 (fun w' => (∀ i, w'.cell? ⟨w3.heap.size, i, none⟩ = #[.int .i64 n.x, .int .i64 n.y, .int .i64 n.z][i]?) ∧ w'.cell? ⟨bA, oA + i * 3, none⟩ = some (.int .i64 a[i].x) ∧ w'.cell? ⟨bA, oA + i * 3 + 1, none⟩ = some (.int .i64 a[i].y) ∧ w'.cell? ⟨bA, oA + i * 3 + 2, none⟩ = some (.int .i64 a[i].z) ∧ w'.cell? ⟨bB, oB + j * 3, none⟩ = some (.int .i64 b[j].x) ∧ w'.cell? ⟨bB, oB + j * 3 + 1, none⟩ = some (.int .i64 b[j].y) ∧ w'.cell? ⟨bB, oB + j * 3 + 2, none⟩ = some (.int .i64 b[j].z))
                (first | with_reducible exact ⟨cn, a0, a1, a2, b0, b1, b2⟩ | go_keep)
                (first | (go_at_call 160; (with_reducible refine (dotn160 n a[i] 4398046511104 _ (by omega) pb1 pb2 pb3).mono ?_); rintro e w7 ⟨rfl, bb⟩; rw [HLO.out]; have gg := gg.trans (bb.mono gg.size); have cn := keepf gg yn d0; have a0 := (gg.cell (p := ⟨bA, oA + i * 3, none⟩) yA).trans a00; have a1 := (gg.cell (p := ⟨bA, oA + i * 3 + 1, none⟩) yA).trans a01; have a2 := (gg.cell (p := ⟨bA, oA + i * 3 + 2, none⟩) yA).trans a02; have b0 := (gg.cell (p := ⟨bB, oB + j * 3, none⟩) yB).trans b00; have b1 := (gg.cell (p := ⟨bB, oB + j * 3 + 1, none⟩) yB).trans b01; have b2 := (gg.cell (p := ⟨bB, oB + j * 3 + 2, none⟩) yB).trans b02) | (go_at_call 160; (with_reducible refine (dotn160 n b[j] 4398046511104 _ (by omega) pc1 pc2 pc3).mono ?_); rintro e w8 ⟨rfl, bb⟩; rw [HHI.out]; have gg := gg.trans (bb.mono gg.size); have cn := keepf gg yn d0; have a0 := (gg.cell (p := ⟨bA, oA + i * 3, none⟩) yA).trans a00; have a1 := (gg.cell (p := ⟨bA, oA + i * 3 + 1, none⟩) yA).trans a01; have a2 := (gg.cell (p := ⟨bA, oA + i * 3 + 2, none⟩) yA).trans a02; have b0 := (gg.cell (p := ⟨bB, oB + j * 3, none⟩) yB).trans b00; have b1 := (gg.cell (p := ⟨bB, oB + j * 3 + 1, none⟩) yB).trans b01; have b2 := (gg.cell (p := ⟨bB, oB + j * 3 + 2, none⟩) yB).trans b02) | (go_at_call 71; (with_reducible refine (norm_ref n _).mono ?_); rintro e w9 ⟨rfl, bb⟩; rw [HFN.out]; have gg := gg.trans (bb.mono gg.size); have cn := keepf gg yn d0; have a0 := (gg.cell (p := ⟨bA, oA + i * 3, none⟩) yA).trans a00; have a1 := (gg.cell (p := ⟨bA, oA + i * 3 + 1, none⟩) yA).trans a01; have a2 := (gg.cell (p := ⟨bA, oA + i * 3 + 2, none⟩) yA).trans a02; have b0 := (gg.cell (p := ⟨bB, oB + j * 3, none⟩) yB).trans b00; have b1 := (gg.cell (p := ⟨bB, oB + j * 3 + 1, none⟩) yB).trans b01; have b2 := (gg.cell (p := ⟨bB, oB + j * 3 + 2, none⟩) yB).trans b02))
              have gb := gg
              have z9 := gg.size
              have KS9 := hide ((gb.block _ (blt KS6.out)).trans KS6.out); have KN9 := hide ((gb.block _ (blt KN6.out)).trans KN6.out); have SL9 := hide (SL6.out.below gb); have SR9 := hide (SR6.out.below gb); have HB9 := hide (HB6.out.trans (gb.mono HB6.out.size)); have KX9 := hide ((gb.block _ (blt KX6.out)).trans KX6.out); have Kn9 := hide ((gb.block _ (blt Kn6.out)).trans Kn6.out)
              clear gg gb bb cn d0 a0 a1 a2 b0 b1 b2 a00 a01 a02 b00 b01 b02 KS6 KN6 SL6 SR6 HB6 KX6 Kn6 yn yA yB wq1 wq2 pb1 pb2 pb3 pc1 pc2 pc3
              by_cases hap : F * rho < lo - hi
              · have HR := hide (show searchN a b rho m = (1, atN a b s) by rw [← RUN.out]; exact runN_apart CL.out ZX.out (by rw [HA.out]; exact decide_eq_true hap))
                have ySr := blt KS9.out; have yNr := blt KN9.out
                have cS := blk_cell KS9.out; simp only [rC] at cS
                have fS := blk_frozen KS9.out
                have cN := blk_cell KN9.out; simp only [zero7] at cN
                have fN := blk_frozen KN9.out
                go_upto_region 17 with fail
                rename_i K0 hK0
                refine copyRet (K := K0) (R := Search2Post (searchN a b rho m) a.length b.length w) 17 117 "ref.go:94" _ _ S w.heap.size 1 n gL gR a.length b.length cL cR s.k hK0 ?hQ rfl rfl (by simp) (by decide) (blk_set KS9.out 0 _) ((Below.heap_setCell _ _ _ _ nNS).trans KN9.out) ?_
                case hQ =>
                  generalize bodyPost Try.prog Try.f126 (Search2Post (searchN a b rho m) a.length b.length w) = BB
                  exact fun _ _ h => h
                rw [HR.out]
                exact ⟨gL, gR, cL, cR, by rw [show (atN a b s).N = n from HN.out]; rfl, set7_slN (slN_set SL9.out dLS _ _) nL _ _ _ _ _ _ _, set7_slN (slN_set SR9.out dRS _ _) nR _ _ _ _ _ _ _, set7_below (HB9.out.setCell oS' _) (Nat.le_refl _) _ _ _ _ _ _ _⟩
              · have AP := hide (show apartB a b rho s = false by rw [HA.out]; exact decide_eq_false hap)
                obtain ⟨D, hD⟩ : ∃ D, D = subV a[i] b[j] := ⟨_, rfl⟩
                obtain ⟨E, hE⟩ : ∃ E, E = subV X D := ⟨_, rfl⟩
                have dx := hide (show a[i].x - b[j].x = D.x by rw [hD]; rfl)
                have dy := hide (show a[i].y - b[j].y = D.y by rw [hD]; rfl)
                have dz := hide (show a[i].z - b[j].z = D.z by rw [hD]; rfl)
                have ex0 : X.x - D.x = E.x := by rw [hE]; rfl
                have ey0 : X.y - D.y = E.y := by rw [hE]; rfl
                have ez0 : X.z - D.z = E.z := by rw [hE]; rfl
                have va := vok_of (VA.out i ilt); have vb := vok_of (VB.out j jlt)
                have mx : -9223372036854775808 ≤ a[i].x - b[j].x ∧ a[i].x - b[j].x ≤ 9223372036854775807 := by omega
                have my : -9223372036854775808 ≤ a[i].y - b[j].y ∧ a[i].y - b[j].y ≤ 9223372036854775807 := by omega
                have mz : -9223372036854775808 ≤ a[i].z - b[j].z ∧ a[i].z - b[j].z ≤ 9223372036854775807 := by omega
                have DB : XB D := by rw [hD]; unfold XB subV; simp only; omega
                have XX := XBD.out
                unfold XB at DB XX
                have nx : -9223372036854775808 ≤ X.x - D.x ∧ X.x - D.x ≤ 9223372036854775807 := by omega
                have ny : -9223372036854775808 ≤ X.y - D.y ∧ X.y - D.y ≤ 9223372036854775807 := by omega
                have nz : -9223372036854775808 ≤ X.z - D.z ∧ X.z - D.z ≤ 9223372036854775807 := by omega
                have xe1 : -576460752303423488 ≤ X.x * E.x ∧ X.x * E.x ≤ 576460752303423488 := mul_bd2 X.x E.x 536870912 1073741824 (by omega) (by omega) (by omega) (by omega)
                have xe2 : -576460752303423488 ≤ X.y * E.y ∧ X.y * E.y ≤ 576460752303423488 := mul_bd2 X.y E.y 536870912 1073741824 (by omega) (by omega) (by omega) (by omega)
                have xe3 : -576460752303423488 ≤ X.z * E.z ∧ X.z * E.z ≤ 576460752303423488 := mul_bd2 X.z E.z 536870912 1073741824 (by omega) (by omega) (by omega) (by omega)
                have ee1 : -1152921504606846976 ≤ E.x * E.x ∧ E.x * E.x ≤ 1152921504606846976 := mul_bd2 E.x E.x 1073741824 1073741824 (by omega) (by omega) (by omega) (by omega)
                have ee2 : -1152921504606846976 ≤ E.y * E.y ∧ E.y * E.y ≤ 1152921504606846976 := mul_bd2 E.y E.y 1073741824 1073741824 (by omega) (by omega) (by omega) (by omega)
                have ee3 : -1152921504606846976 ≤ E.z * E.z ∧ E.z * E.z ≤ 1152921504606846976 := mul_bd2 E.z E.z 1073741824 1073741824 (by omega) (by omega) (by omega) (by omega)
                have sq1 := sq_nn E.x; have sq2 := sq_nn E.y; have sq3 := sq_nn E.z
                have eu : -1729382256910270464 ≤ dotV X E ∧ dotV X E ≤ 1729382256910270464 := by unfold dotV; omega
                have ev : 0 ≤ dotV E E ∧ dotV E E ≤ 3458764513820540928 := by unfold dotV; omega
                have HTO := hide (show tOf a b s = partF X D by unfold tOf; rw [HX.out, HN.out, HI.out, HJ.out, hD]; simp [List.getD, List.getElem?_eq_getElem ilt, List.getElem?_eq_getElem jlt])
                have HPF := hide (show partF X D = if dotV X E ≤ 0 then 0 else min 256 (dotV X E / max 1 (dotV E E / 256)) by rw [hE]; rfl)
                have ex := hide ex0; have ey := hide ey0; have ez := hide ez0
                clear hD hE va vb DB XX ex0 ey0 ez0 sq1 sq2 sq3
                obtain ⟨U, hU⟩ : ∃ U, dotV X E = U := ⟨_, rfl⟩
                obtain ⟨V, hV⟩ : ∃ V, dotV E E = V := ⟨_, rfl⟩
                rw [hU, hV] at HPF
                rw [hU] at eu
                rw [hV] at ev
                have HU := hide hU; have HV := hide hV
                clear hU hV
                have yX9 := blt KX9.out; have yn9 := blt Kn9.out
                go_upto_region 18 with fail
                go_cut [16] from 58 to 168 (fun s16 wx => VRel w9 E s16 wx)
                case first =>
                  obtain ⟨a00, a01, a02⟩ := (HS.out.below HB9.out).at_ ilt
                  obtain ⟨b00, b01, b02⟩ := (HT.out.below HB9.out).at_ jlt
                  have yA : bA < w9.heap.size := Nat.lt_of_lt_of_le hbA HB9.out.size
                  have yB : bB < w9.heap.size := Nat.lt_of_lt_of_le hbB HB9.out.size
                  have yX := yX9
                  have d0 := blk_cell KX9.out; simp only [vcs] at d0
                  have cX := d0; have a0 := a00; have a1 := a01; have a2 := a02; have b0 := b00; have b1 := b01; have b2 := b02
                  have gg : Below w9.heap.size w9 w9.drew := (Below.refl _ _).drew
                  go_region_held3 (fun w' => (∀ i, w'.cell? ⟨w2.heap.size, i, none⟩ = #[.int .i64 X.x, .int .i64 X.y, .int .i64 X.z][i]?) ∧ w'.cell? ⟨bA, oA + i * 3, none⟩ = some (.int .i64 a[i].x) ∧ w'.cell? ⟨bA, oA + i * 3 + 1, none⟩ = some (.int .i64 a[i].y) ∧ w'.cell? ⟨bA, oA + i * 3 + 2, none⟩ = some (.int .i64 a[i].z) ∧ w'.cell? ⟨bB, oB + j * 3, none⟩ = some (.int .i64 b[j].x) ∧ w'.cell? ⟨bB, oB + j * 3 + 1, none⟩ = some (.int .i64 b[j].y) ∧ w'.cell? ⟨bB, oB + j * 3 + 2, none⟩ = some (.int .i64 b[j].z))
                    (first | with_reducible exact ⟨cX, a0, a1, a2, b0, b1, b2⟩ | with_reducible exact ⟨keepf (by first | with_reducible exact gg | with_reducible exact gg.alloc gg.size _ | with_reducible exact ((Below.refl _ _).alloc (Nat.le_refl _) _).drew | with_reducible exact below_ch3 gg o7 _ _ _) yX d0, (Below.cell (p := ⟨bA, oA + i * 3, none⟩) (by first | with_reducible exact gg | with_reducible exact gg.alloc gg.size _ | with_reducible exact ((Below.refl _ _).alloc (Nat.le_refl _) _).drew | with_reducible exact below_ch3 gg o7 _ _ _) yA).trans a00, (Below.cell (p := ⟨bA, oA + i * 3 + 1, none⟩) (by first | with_reducible exact gg | with_reducible exact gg.alloc gg.size _ | with_reducible exact ((Below.refl _ _).alloc (Nat.le_refl _) _).drew | with_reducible exact below_ch3 gg o7 _ _ _) yA).trans a01, (Below.cell (p := ⟨bA, oA + i * 3 + 2, none⟩) (by first | with_reducible exact gg | with_reducible exact gg.alloc gg.size _ | with_reducible exact ((Below.refl _ _).alloc (Nat.le_refl _) _).drew | with_reducible exact below_ch3 gg o7 _ _ _) yA).trans a02, (Below.cell (p := ⟨bB, oB + j * 3, none⟩) (by first | with_reducible exact gg | with_reducible exact gg.alloc gg.size _ | with_reducible exact ((Below.refl _ _).alloc (Nat.le_refl _) _).drew | with_reducible exact below_ch3 gg o7 _ _ _) yB).trans b00, (Below.cell (p := ⟨bB, oB + j * 3 + 1, none⟩) (by first | with_reducible exact gg | with_reducible exact gg.alloc gg.size _ | with_reducible exact ((Below.refl _ _).alloc (Nat.le_refl _) _).drew | with_reducible exact below_ch3 gg o7 _ _ _) yB).trans b01, (Below.cell (p := ⟨bB, oB + j * 3 + 2, none⟩) (by first | with_reducible exact gg | with_reducible exact gg.alloc gg.size _ | with_reducible exact ((Below.refl _ _).alloc (Nat.le_refl _) _).drew | with_reducible exact below_ch3 gg o7 _ _ _) yB).trans b02⟩ | go_keep)
                    (first | (go_at_call 157; (with_reducible refine (minus157 a[i] b[j] _ mx my mz).mono ?_); rintro e wa ⟨rfl, hb⟩; rw [dx.out, dy.out, dz.out]; (first | (have K7 := newB hb; have o7 := gg.size) | (have K7 := newBd hb; have o7 := Nat.le_refl w9.heap.size) | (have K7 := (hb.block _ y7).trans K7) | skip); have gg := stepB hb (by first | with_reducible exact gg | with_reducible exact gg.alloc gg.size _ | with_reducible exact ((Below.refl _ _).alloc (Nat.le_refl _) _).drew); (try (have y7 := blt K7)); (try (have q7 := blk_cell K7)); (try (have r7 := blk_frozen K7)); have cX := keepf gg yX d0; have a0 := (gg.cell (p := ⟨bA, oA + i * 3, none⟩) yA).trans a00; have a1 := (gg.cell (p := ⟨bA, oA + i * 3 + 1, none⟩) yA).trans a01; have a2 := (gg.cell (p := ⟨bA, oA + i * 3 + 2, none⟩) yA).trans a02; have b0 := (gg.cell (p := ⟨bB, oB + j * 3, none⟩) yB).trans b00; have b1 := (gg.cell (p := ⟨bB, oB + j * 3 + 1, none⟩) yB).trans b01; have b2 := (gg.cell (p := ⟨bB, oB + j * 3 + 2, none⟩) yB).trans b02) | (go_at_call 157; (with_reducible refine (minus157 X D _ nx ny nz).mono ?_); rintro e wb ⟨rfl, hb⟩; rw [ex.out, ey.out, ez.out]; (first | (have K7 := newB hb; have o7 := gg.size) | (have K7 := newBd hb; have o7 := Nat.le_refl w9.heap.size) | (have K7 := (hb.block _ y7).trans K7) | skip); have gg := stepB hb (by first | with_reducible exact gg | with_reducible exact gg.alloc gg.size _ | with_reducible exact ((Below.refl _ _).alloc (Nat.le_refl _) _).drew); (try (have y7 := blt K7)); (try (have q7 := blk_cell K7)); (try (have r7 := blk_frozen K7)); have cX := keepf gg yX d0; have a0 := (gg.cell (p := ⟨bA, oA + i * 3, none⟩) yA).trans a00; have a1 := (gg.cell (p := ⟨bA, oA + i * 3 + 1, none⟩) yA).trans a01; have a2 := (gg.cell (p := ⟨bA, oA + i * 3 + 2, none⟩) yA).trans a02; have b0 := (gg.cell (p := ⟨bB, oB + j * 3, none⟩) yB).trans b00; have b1 := (gg.cell (p := ⟨bB, oB + j * 3 + 1, none⟩) yB).trans b01; have b2 := (gg.cell (p := ⟨bB, oB + j * 3 + 2, none⟩) yB).trans b02))
                  all_goals
                    go_wp2_with fail
                    go_meet
                    case rel =>
                      first
                        | with_reducible exact vr1 gg
                        | with_reducible exact vr2 gg o7 K7
                case rest =>
                  obtain ⟨w10, rfl⟩ : ∃ w10 : World, w10 = wc := ⟨_, rfl⟩
                  obtain ⟨g', rfl, og', gb, kE⟩ := hcut
                  have KS10 := hide ((gb.block _ (blt KS9.out)).trans KS9.out); have KN10 := hide ((gb.block _ (blt KN9.out)).trans KN9.out); have SL10 := hide (SL9.out.below gb); have SR10 := hide (SR9.out.below gb); have HB10 := hide (HB9.out.trans (gb.mono HB9.out.size)); have KX10 := hide ((gb.block _ (blt KX9.out)).trans KX9.out); have Kn10 := hide ((gb.block _ (blt Kn9.out)).trans Kn9.out)
                  have KE := hide kE
                  have z10 := gb.size
                  clear gb kE KS9 KN9 SL9 SR9 HB9 KX9 Kn9 mx my mz nx ny nz dx dy dz ex ey ez yX9 yn9
                  have yX := blt KX10.out; have yE := blt KE.out
                  have d0 := blk_cell KX10.out; simp only [vcs] at d0
                  have e0 := blk_cell KE.out; simp only [vcs] at e0
                  have cX := d0; have cE := e0
                  go_wp2_with fail
                  have gg : Below w10.heap.size w10 w10.drew := (Below.refl _ _).drew
                  go_region_held3 (fun w' => (∀ i, w'.cell? ⟨w2.heap.size, i, none⟩ = #[.int .i64 X.x, .int .i64 X.y, .int .i64 X.z][i]?) ∧ (∀ i, w'.cell? ⟨g', i, none⟩ = #[.int .i64 E.x, .int .i64 E.y, .int .i64 E.z][i]?))
                    (first | with_reducible exact ⟨cX, cE⟩ | go_keep)
                    (first | (go_at_call 160; (with_reducible refine (dotn160 X E 576460752303423488 _ (by omega) xe1 xe2 xe3).mono ?_); rintro e w11 ⟨rfl, bb⟩; rw [HU.out]; have gg := gg.trans (bb.mono gg.size); have cX := keepf gg yX d0; have cE := keepf gg yE e0) | (go_at_call 160; (with_reducible refine (dotn160 E E 1152921504606846976 _ (by omega) ee1 ee2 ee3).mono ?_); rintro e w12 ⟨rfl, bb⟩; rw [HV.out]; have gg := gg.trans (bb.mono gg.size); have cX := keepf gg yX d0; have cE := keepf gg yE e0))
                  have gb := gg
                  have z12 := gg.size
                  have KS12 := hide ((gb.block _ (blt KS10.out)).trans KS10.out); have KN12 := hide ((gb.block _ (blt KN10.out)).trans KN10.out); have SL12 := hide (SL10.out.below gb); have SR12 := hide (SR10.out.below gb); have HB12 := hide (HB10.out.trans (gb.mono HB10.out.size)); have KX12 := hide ((gb.block _ (blt KX10.out)).trans KX10.out); have Kn12 := hide ((gb.block _ (blt Kn10.out)).trans Kn10.out)
                  clear gg gb bb cX cE d0 e0 KS10 KN10 SL10 SR10 HB10 KX10 Kn10 yX yE xe1 xe2 xe3 ee1 ee2 ee3 KE
                  obtain ⟨u1, u2⟩ := eu
                  obtain ⟨v1, v2⟩ := ev
                  have yS12 := blt KS12.out
                  by_cases hkm : s.k = m
                  · have hk2 : (m : Int) ≤ (s.k : Int) := by omega
                    have cS := blk_cell KS12.out; simp only [rC] at cS
                    go_upto_region 21 with fail
                    clear cS
                    have HR := hide (show searchN a b rho m = (0, atN a b s) by rw [← RUN.out]; exact runN_stop CL.out ZX.out AP.out (.inl hkm))
                    rename_i K0 hK0
                    refine copyRet (K := K0) (R := Search2Post (searchN a b rho m) a.length b.length w) 21 143 "ref.go:99" _ _ S w.heap.size 0 n gL gR a.length b.length cL cR s.k hK0 ?hQ rfl rfl (by simp) (by decide) KS12.out KN12.out ?_
                    case hQ =>
                      generalize bodyPost Try.prog Try.f126 (Search2Post (searchN a b rho m) a.length b.length w) = BB
                      exact fun _ _ h => h
                    rw [HR.out]
                    exact ⟨gL, gR, cL, cR, by rw [show (atN a b s).N = n from HN.out]; rfl, set7_slN SL12.out nL _ _ _ _ _ _ _, set7_slN SR12.out nR _ _ _ _ _ _ _, set7_below HB12.out (Nat.le_refl _) _ _ _ _ _ _ _⟩
                  · have hk2 : ¬ (m : Int) ≤ (s.k : Int) := by omega
                    have cS := blk_cell KS12.out; simp only [rC] at cS
                    by_cases hu : U ≤ 0
                    · go_upto_region 21 with fail
                      clear cS
                      have HR := hide (show searchN a b rho m = (0, atN a b s) by rw [← RUN.out]; exact runN_stop CL.out ZX.out AP.out (.inr (by rw [HTO.out, HPF.out, if_pos hu])))
                      rename_i K0 hK0
                      refine copyRet (K := K0) (R := Search2Post (searchN a b rho m) a.length b.length w) 21 143 "ref.go:99" _ _ S w.heap.size 0 n gL gR a.length b.length cL cR s.k hK0 ?hQ rfl rfl (by simp) (by decide) KS12.out KN12.out ?_
                      case hQ =>
                        generalize bodyPost Try.prog Try.f126 (Search2Post (searchN a b rho m) a.length b.length w) = BB
                        exact fun _ _ h => h
                      rw [HR.out]
                      exact ⟨gL, gR, cL, cR, by rw [show (atN a b s).N = n from HN.out]; rfl, set7_slN SL12.out nL _ _ _ _ _ _ _, set7_slN SR12.out nR _ _ _ _ _ _ _, set7_below HB12.out (Nat.le_refl _) _ _ _ _ _ _ _⟩
                    · have e1 : V.tdiv 256 = V / 256 := tdiv256 v1
                      obtain ⟨Dv, hDv⟩ : ∃ Dv, Dv = max 1 (V / 256) := ⟨_, rfl⟩
                      have d1 : 1 ≤ Dv := by omega
                      have d2 : Dv ≠ 0 := by omega
                      have e2 : U.tdiv Dv = U / Dv := Int.tdiv_eq_ediv_of_nonneg (by omega)
                      have q1 : 0 ≤ U / Dv := Int.ediv_nonneg (by omega) (by omega)
                      have q2 : U / Dv ≤ U := Int.ediv_le_self _ (by omega)
                      have v3 : 0 ≤ V / 256 := by omega
                      have v4 : V / 256 ≤ V := by omega
                      have e3 : max 1 (V / 256) = Dv := hDv.symm
                      obtain ⟨t, ht⟩ : ∃ t, min 256 (U / Dv) = t := ⟨_, rfl⟩
                      have t0 : 0 ≤ t := by omega
                      have t1 : t ≤ 256 := by omega
                      have HTT := hide (show tOf a b s = t by rw [HTO.out, HPF.out, if_neg hu, ← hDv, ht])
                      clear hDv
                      go_upto_region 23 with fail
                      try rw [ht]
                      clear ht e1 e2 e3 q1 q2 v3 v4 d1 d2 cS
                      by_cases htz : t = 0
                      · have htz' : (t == 0) = true := by simp [htz]
                        go_upto_region 24 with fail
                        have HR := hide (show searchN a b rho m = (0, atN a b s) by rw [← RUN.out]; exact runN_stop CL.out ZX.out AP.out (.inr (by rw [HTT.out]; exact htz)))
                        rename_i K0 hK0
                        refine copyRet (K := K0) (R := Search2Post (searchN a b rho m) a.length b.length w) 24 152 "ref.go:103" _ _ S w.heap.size 0 n gL gR a.length b.length cL cR s.k hK0 ?hQ rfl rfl (by simp) (by decide) KS12.out KN12.out ?_
                        case hQ =>
                          generalize bodyPost Try.prog Try.f126 (Search2Post (searchN a b rho m) a.length b.length w) = BB
                          exact fun _ _ h => h
                        rw [HR.out]
                        exact ⟨gL, gR, cL, cR, by rw [show (atN a b s).N = n from HN.out]; rfl, set7_slN SL12.out nL _ _ _ _ _ _ _, set7_slN SR12.out nR _ _ _ _ _ _ _, set7_below HB12.out (Nat.le_refl _) _ _ _ _ _ _ _⟩
                      · have htz' : (t == 0) = false := by simp [htz]
                        go_upto_region 25 with fail
                        have gg : Below w12.heap.size w12 w12.drew := (Below.refl _ _).drew
                        have c0 := blk_cell KS12.out; simp only [rC] at c0
                        have cS := c0
                        have WLL := hide NN.out.1; have WRR := hide NN.out.2.1
                        go_region_with (first | (go_at_call 161; (with_reducible refine (moved_ref (some ⟨gL, 0, none⟩) a.length cL s.L i t _ (SlN.below SL12.out gg) WLL.out la8 ilt t0 t1).mono ?_); rintro e wm ⟨h1, k1, rfl, oh1, sm1, hb⟩; have oh1 : w12.heap.size ≤ h1 := Nat.le_trans gg.size oh1; have gg := stepB hb gg; have cS := keepf gg yS12 c0; have KSm := (gg.block _ yS12).trans KS12.out; have ySm := blt KSm; have fSm := blk_frozen KSm) | (go_at_call 161; (with_reducible refine (moved_ref (some ⟨gR, 0, none⟩) b.length cR s.R j t _ (SlN.below SR12.out gg) WRR.out lb8 jlt t0 t1).mono ?_); rintro e wn ⟨h2, k2, rfl, oh2, sm2, hb⟩; have oh2 : w12.heap.size ≤ h2 := Nat.le_trans gg.size oh2; have gg := stepB hb gg; have sm1 := sm1.below hb; have cS := keepf gg yS12 c0; have KSm := (gg.block _ yS12).trans KS12.out; have ySm := blt KSm; have fSm := blk_frozen KSm))
                        all_goals
                          have KSM := hide KSm; have GG := hide gg; have SM1 := hide sm1; have SM2 := hide sm2
                          have x1 : h1 ≠ S := by omega
                          have x2 : h2 ≠ S := by omega
                          have x3 : h1 ≠ w.heap.size := by omega
                          have x4 : h2 ≠ w.heap.size := by omega
                          clear KSm gg sm1 sm2 c0
                          go_wp2_with fail
                          go_roundg f
                          case measure => omega
                          case rel =>
                            refine ⟨nextN a b s, h1, h2, k1, k2, by simp only [nextN]; omega, NN.out.next la1 lb1 hkm, ?_, ?_, ?_, ?_, x1, x2, x3, x4, ?_, ?_, ?_, ?_⟩
                            · rw [← RUN.out]
                              exact (runN_next CL.out ZX.out AP.out hkm (by rw [HTT.out]; exact htz)).symm
                            · rw [show (nextN a b s).N = n from HN.out]
                              exact blk_set (blk_set (blk_set KSM.out 4 _) 5 _) 6 _
                            · rw [show (nextN a b s).L = movedL s.L t i by simp only [nextN]; rw [HTT.out, HN.out, HI.out]]
                              exact slN_set (slN_set (slN_set SM1.out x1 _ _) x1 _ _) x1 _ _
                            · rw [show (nextN a b s).R = movedL s.R t j by simp only [nextN]; rw [HTT.out, HN.out, HJ.out]]
                              exact slN_set (slN_set (slN_set SM2.out x2 _ _) x2 _ _) x2 _ _
                            · obtain ⟨b', o', e', hb', _⟩ := (slN_set (slN_set (slN_set SM1.out x1 4 (.int .i64 0)) x1 5 (.int .i64 0)) x1 6 (.int .i64 0)) (by intro hx; have := congrArg List.length hx; simp [movedL, keptL] at this; have := NN.out.1.1; rw [‹s.L = []›] at this; simp at this; omega)
                              injection e' with e'
                              injection e' with e1' _ _
                              subst e1'
                              simpa [World.setCell] using hb'
                            · obtain ⟨b', o', e', hb', _⟩ := (slN_set (slN_set (slN_set SM2.out x2 4 (.int .i64 0)) x2 5 (.int .i64 0)) x2 6 (.int .i64 0)) (by intro hx; have := congrArg List.length hx; simp [movedL, keptL] at this; have := NN.out.2.1.1; rw [‹s.R = []›] at this; simp at this; omega)
                              injection e' with e'
                              injection e' with e1' _ _
                              subst e1'
                              simpa [World.setCell] using hb'
                            · rw [Below.heap_setCell _ _ _ _ nNS, Below.heap_setCell _ _ _ _ nNS, Below.heap_setCell _ _ _ _ nNS]
                              exact (GG.out.block _ (blt KN12.out)).trans KN12.out
                            · exact (((HB12.out.trans (GG.out.mono HB12.out.size)).setCell oS' _).setCell oS' _).setCell oS' _
            · have HR := hide (show searchN a b rho m = (0, atN a b s) by rw [← RUN.out]; exact runN_zero CL.out (by rw [HX.out]; exact hz))
              clear hz
              go_upto_region 13 with fail
              rw [HE4.out]
              clear cS fS KS3 KN3 SL3 SR3 HB3 KX3 HE4 yS3 yN3 yX3
              rename_i K0 hK0
              refine copyRet (K := K0) (R := Search2Post (searchN a b rho m) a.length b.length w) 13 91 "ref.go:89" _ _ S w.heap.size 0 n gL gR a.length b.length cL cR s.k hK0 ?hQ rfl rfl (by simp) (by decide) KS4.out KN4.out ?_
              case hQ =>
                generalize bodyPost Try.prog Try.f126 (Search2Post (searchN a b rho m) a.length b.length w) = BB
                exact fun _ _ h => h
              rw [HR.out]
              exact ⟨gL, gR, cL, cR, by rw [show (atN a b s).N = n from HN.out]; rfl, set7_slN SL4.out nL _ _ _ _ _ _ _, set7_slN SR4.out nR _ _ _ _ _ _ _, set7_below HB4.out (Nat.le_refl _) _ _ _ _ _ _ _⟩
          · have HR := hide (show searchN a b rho m = (2, s) by rw [← RUN.out]; exact runN_close (by rw [← HW.out]; exact hcl))
            have cS := blk_cell KS2.out; simp only [rC] at cS
            have fS := blk_frozen KS2.out
            have cN := blk_cell KN2.out; simp only [zero7] at cN
            have fN := blk_frozen KN2.out
            clear hcl
            go_upto_region 8 with fail
            rename_i K0 hK0
            refine copyRet (K := K0) (R := Search2Post (searchN a b rho m) a.length b.length w) 8 71 "ref.go:83" _ _ S w.heap.size 2 s.N gL gR a.length b.length cL cR s.k hK0 ?hQ rfl rfl (by simp) (by decide) (blk_set KS2.out 0 _) ((Below.heap_setCell _ _ _ _ nNS).trans KN2.out) ?_
            case hQ =>
              generalize bodyPost Try.prog Try.f126 (Search2Post (searchN a b rho m) a.length b.length w) = BB
              exact fun _ _ h => h
            rw [HR.out]
            exact ⟨gL, gR, cL, cR, rfl, set7_slN (slN_set SL2.out dLS _ _) nL _ _ _ _ _ _ _, set7_slN (slN_set SR2.out dRS _ _) nR _ _ _ _ _ _ _, set7_below (HB2.out.setCell oS' _) (Nat.le_refl _) _ _ _ _ _ _ _⟩
end Go.Proofs.Ytionbckpgfaneaa
