/- Walks of the search, part e: the rounds. -/
import Derived.Test.YtionbckpgfaneaaXe
import Derived.Deep.DeepCutAuto
namespace Go.Proofs.Ytionbckpgfaneaa
open Go.RowKit
set_option maxHeartbeats 4000000
set_option maxRecDepth 100000
attribute [local go_sem] index47_0 index47_1 index47_2
def stC (A B : Option Addr) (gL gR na nb ca cb : Nat) (n : V3) (k : Int) : Array Value := #[.slice A na ca, .slice (some ⟨gL, 0, none⟩) na na, .slice B nb cb, .slice (some ⟨gR, 0, none⟩) nb nb, .int .i64 n.x, .int .i64 n.y, .int .i64 n.z, .int .i64 k]
/-- the state of a search in memory -/
def StAt (A B : Option Addr) (gL gR S na nb ca cb : Nat) (s : Nst) (w : World) : Prop :=
  w.heap[S]? = some (.cells (stC A B gL gR na nb ca cb s.N s.k) 151 (0, 0)) ∧ w.heap[gL]? = some (.cells (iArr s.L) 2 (0, 0)) ∧ w.heap[gR]? = some (.cells (iArr s.R) 2 (0, 0))
def RInv (w0 : World) (A B : Option Addr) (a b : List V3) (gL gR S ca cb : Nat) (rho : Int) (m gk : Nat) (wr : World) : Prop :=
  ∃ s : Nst, s.k + gk = 65 ∧ NI a b m s ∧ runN a b rho m gk s = searchN a b rho m ∧ StAt A B gL gR S a.length b.length ca cb s wr ∧ Below w0.heap.size w0 wr
theorem slv_up {w0 wr X : World} {A : Option Addr} {a : List V3} (h : SlV w0 A a) (B0 : Below w0.heap.size w0 wr) (g : Below wr.heap.size wr X) : SlV X A a := h.below (B0.trans (g.mono B0.size))
theorem sln_up {wr X : World} {g : Nat} {L : List Int} {t : TypeId} (K : wr.heap[g]? = some (.cells (iArr L) t (0, 0))) (y : g < wr.heap.size) (h : Below wr.heap.size wr X) : SlN X (some ⟨g, 0, none⟩) L := slN_of ((h.block _ y).trans K)
theorem blt {w : World} {g : Nat} {o : Obj} (h : w.heap[g]? = some o) : g < w.heap.size := by
  obtain ⟨h, _⟩ := Array.getElem?_eq_some_iff.mp h
  exact h
theorem stepB {w X w2 : World} (h : Below X.heap.size X w2) (h0 : Below w.heap.size w X) : Below w.heap.size w w2 := h0.trans (h.mono h0.size)
theorem newB {w w' : World} {o : Obj} (hb : Below (w.alloc o).heap.size (w.alloc o) w') : w'.heap[w.heap.size]? = some o := (hb.block _ (by simp)).trans (new_at _ _ rfl)
theorem newBd {w w' : World} {o : Obj} (hb : Below (w.alloc o).drew.heap.size (w.alloc o).drew w') : w'.heap[w.heap.size]? = some o := (hb.block _ (by simp)).trans (new_at _ _ rfl)
theorem few_mod {l : List V3} (h : fewB l = true) : ∀ p ∈ l, Mod p := fun p hp => by
  obtain ⟨j, hj, rfl⟩ := List.getElem_of_mem hp
  have := vok_of ((few_of h).2.2 j hj)
  unfold Mod
  omega
theorem isZ_normal {v : V3} : isZ (normalF v) = isZ v := by
  cases h : isZ v
  · exact nrm_isZ 50 v h
  · have z := isZ_of h
    rw [normalF_in (inR_within (by unfold Within; omega)), h]
def set3 (w : World) (S : Nat) (n : V3) : World := (((w.setCell ⟨S, 4, none⟩ (.int .i64 n.x)).setCell ⟨S, 5, none⟩ (.int .i64 n.y)).setCell ⟨S, 6, none⟩ (.int .i64 n.z)).alloc (.cells #[.int .i64 n.x, .int .i64 n.y, .int .i64 n.z] 47)
theorem set3_facts {w : World} {S : Nat} {cs : Array Value} {T : TypeId} (n : V3) (hS : w.heap[S]? = some (.cells cs T (0, 0))) :
    (set3 w S n).heap[S]? = some (.cells (((cs.setIfInBounds 4 (.int .i64 n.x)).setIfInBounds 5 (.int .i64 n.y)).setIfInBounds 6 (.int .i64 n.z)) T (0, 0)) ∧ (∀ k, k ≠ S → k < w.heap.size → (set3 w S n).heap[k]? = w.heap[k]?) ∧ (set3 w S n).heap[w.heap.size]? = some (.cells #[.int .i64 n.x, .int .i64 n.y, .int .i64 n.z] 47 (0, 0)) ∧ (∀ N w0, N ≤ S → N ≤ w.heap.size → Below N w0 w → Below N w0 (set3 w S n)) := by
  have hz : (((w.setCell ⟨S, 4, none⟩ (.int .i64 n.x)).setCell ⟨S, 5, none⟩ (.int .i64 n.y)).setCell ⟨S, 6, none⟩ (.int .i64 n.z)).heap.size = w.heap.size := by simp [World.setCell]
  have hlt : S < w.heap.size := blt hS
  refine ⟨?_, ?_, ?_, ?_⟩
  · exact (Below.heap_alloc _ _ _ (by rw [hz]; exact hlt)).trans (blk_set (blk_set (blk_set hS 4 _) 5 _) 6 _)
  · intro k hk hl
    refine (Below.heap_alloc _ _ _ (by rw [hz]; exact hl)).trans ?_
    rw [Below.heap_setCell _ _ _ _ (by simpa using hk), Below.heap_setCell _ _ _ _ (by simpa using hk), Below.heap_setCell _ _ _ _ (by simpa using hk)]
  · exact new_at _ _ hz.symm
  · intro N w0 h1 h2 hb
    exact (((hb.setCell (by simpa using h1) _).setCell (by simpa using h1) _).setCell (by simpa using h1) _).alloc (by rw [hz]; exact h2) _
theorem run_any (A B : Option Addr) (a b : List V3) (ca cb gL gR S : Nat) (rho : Int) (m : Nat) (w0 w : World) (hs : SlV w0 A a) (ht : SlV w0 B b) (fa : fewB a = true) (fb : fewB b = true) (r0 : 0 ≤ rho) (r1 : rho ≤ 2097152) (hm : m ≤ 64)
    (B0 : Below w0.heap.size w0 w) (oL : w0.heap.size ≤ gL) (oR : w0.heap.size ≤ gR) (oS : w0.heap.size ≤ S) (dLR : gL ≠ gR) (dLS : gL ≠ S) (dRS : gR ≠ S) (st : StAt A B gL gR S a.length b.length ca cb (startN a b) w) :
    Calls Try.prog 129 #[.pointer (some ⟨S, 0, none⟩), .int .i64 rho, .int .i64 m] w
      fun e w' => e = .returned (.int .i64 (searchN a b rho m).1) ∧ StAt A B gL gR S a.length b.length ca cb (searchN a b rho m).2 w' ∧ Below w0.heap.size w0 w' := by
  have HS := hide hs; have HT := hide ht; have FA := hide fa; have FB := hide fb; have BB := hide B0; have ST := hide st
  obtain ⟨la1, la8, va⟩ := few_of fa
  obtain ⟨lb1, lb8, vb⟩ := few_of fb
  have VA := hide va; have VB := hide vb
  clear va vb
  clear hs ht fa fb B0 st
  go_enter Try.func129, Try.ntmps129
  go_wp2_with fail
  go_loopg [7] 65 (fun gk _ wr => RInv w0 A B a b gL gR S ca cb rho m gk wr)
  case atStart => exact ⟨startN a b, rfl, NI.start m la1 lb1, rfl, ST.out, BB.out⟩
  case round =>
    clear BB ST
    obtain ⟨s, hgk, hni, hrun, ⟨kS, kL, kR⟩, hB⟩ := hrel
    have NN := hide hni; have RUN := hide hrun
    have hk : s.k ≤ m := hni.2.2
    obtain ⟨f, rfl⟩ : ∃ f, gk = f + 1 := ⟨gk - 1, by omega⟩
    have yS := blt kS; have yL := blt kL; have yR := blt kR
    have KS := hide kS; have KL := hide kL; have KR := hide kR; have HB := hide hB
    have zz := hB.size
    clear hni hrun kS kL kR hB
    obtain ⟨W, hW⟩ : ∃ W, W = wOf a b s := ⟨_, rfl⟩
    have WBD := hide (show WB W by rw [hW]; exact wOf_bd FA.out FB.out NN.out)
    have HW := hide hW; clear hW
    have sba := sumV_bd FA.out NN.out.1; have sbb := sumV_bd FB.out NN.out.2.1
    go_upto_region 1 with fail
    go_cut [7] from 16 to 130 (fun s7 wx => ∃ g : Nat, s7 = .pointer (some ⟨g, 0, none⟩) ∧ wr.heap.size ≤ g ∧ Below wr.heap.size wr wx ∧ wx.heap[g]? = some (.cells (vcs W) 47 (0, 0)))
    case first =>
      have cS0 := blk_cell KS.out; simp only [stC] at cS0
      have cS := cS0
      have gg : Below wr.heap.size wr wr.drew := (Below.refl _ _).drew
      have la1000 : a.length ≤ 1000 := by omega
      have lb1000 : b.length ≤ 1000 := by omega
      have LL := hide NN.out.1.1; have LR := hide NN.out.2.1.1
      have WL := hide NN.out.1.bd; have WR := hide NN.out.2.1.bd; have MA := hide (few_mod FA.out); have MB := hide (few_mod FB.out)
      obtain ⟨P, hP⟩ : ∃ P, sumV a s.L = P := ⟨_, rfl⟩
      obtain ⟨Q, hQ⟩ : ∃ Q, sumV b s.R = Q := ⟨_, rfl⟩
      have HP := hide hP; have HQ := hide hQ
      rw [hP] at sba
      rw [hQ] at sbb
      have ex := hide (show P.x - Q.x = W.x by rw [HW.out, ← hP, ← hQ]; rfl)
      have ey := hide (show P.y - Q.y = W.y by rw [HW.out, ← hP, ← hQ]; rfl)
      have ez := hide (show P.z - Q.z = W.z by rw [HW.out, ← hP, ← hQ]; rfl)
      clear hP hQ
      have mx : -9223372036854775808 ≤ P.x - Q.x ∧ P.x - Q.x ≤ 9223372036854775807 := by omega
      have my : -9223372036854775808 ≤ P.y - Q.y ∧ P.y - Q.y ≤ 9223372036854775807 := by omega
      have mz : -9223372036854775808 ≤ P.z - Q.z ∧ P.z - Q.z ≤ 9223372036854775807 := by omega
      clear sba sbb
      go_region_with (first | (go_at_call 163; (with_reducible refine (sumN_any A (some ⟨gL, 0, none⟩) a s.L ca a.length _ (slv_up HS.out HB.out (by first | exact gg | exact gg.alloc gg.size _ | exact ((Below.refl _ _).alloc (Nat.le_refl _) _).drew)) (sln_up KL.out yL (by first | exact gg | exact gg.alloc gg.size _ | exact ((Below.refl _ _).alloc (Nat.le_refl _) _).drew)) la1000 LL.out WL.out MA.out).mono ?_); rintro e w2 ⟨rfl, hb⟩; rw [HP.out]; (first | (have K7 := newB hb; have o7 := gg.size) | (have K7 := newBd hb; have o7 := Nat.le_refl wr.heap.size) | (have K7 := (hb.block _ y7).trans K7) | skip); have gg := stepB hb (by first | exact gg | exact gg.alloc gg.size _ | exact ((Below.refl _ _).alloc (Nat.le_refl _) _).drew); (try (have y7 := blt K7)); (try (have q7 := blk_cell K7)); (try (have r7 := blk_frozen K7)); have cS := keepf gg yS cS0; have ySw2 : S < w2.heap.size := Nat.lt_of_lt_of_le yS gg.size) | (go_at_call 163; (with_reducible refine (sumN_any B (some ⟨gR, 0, none⟩) b s.R cb b.length _ (slv_up HT.out HB.out (by first | exact gg | exact gg.alloc gg.size _ | exact ((Below.refl _ _).alloc (Nat.le_refl _) _).drew)) (sln_up KR.out yR (by first | exact gg | exact gg.alloc gg.size _ | exact ((Below.refl _ _).alloc (Nat.le_refl _) _).drew)) lb1000 LR.out WR.out MB.out).mono ?_); rintro e w3 ⟨rfl, hb⟩; rw [HQ.out]; (first | (have K7 := newB hb; have o7 := gg.size) | (have K7 := newBd hb; have o7 := Nat.le_refl wr.heap.size) | (have K7 := (hb.block _ y7).trans K7) | skip); have gg := stepB hb (by first | exact gg | exact gg.alloc gg.size _ | exact ((Below.refl _ _).alloc (Nat.le_refl _) _).drew); (try (have y7 := blt K7)); (try (have q7 := blk_cell K7)); (try (have r7 := blk_frozen K7)); have cS := keepf gg yS cS0; have ySw3 : S < w3.heap.size := Nat.lt_of_lt_of_le yS gg.size) | (go_at_call 162; (with_reducible refine (minus162 P Q _ mx my mz).mono ?_); rintro e w4 ⟨rfl, hb⟩; rw [ex.out, ey.out, ez.out]; (first | (have K7 := newB hb; have o7 := gg.size) | (have K7 := newBd hb; have o7 := Nat.le_refl wr.heap.size) | (have K7 := (hb.block _ y7).trans K7) | skip); have gg := stepB hb (by first | exact gg | exact gg.alloc gg.size _ | exact ((Below.refl _ _).alloc (Nat.le_refl _) _).drew); (try (have y7 := blt K7)); (try (have q7 := blk_cell K7)); (try (have r7 := blk_frozen K7)); have cS := keepf gg yS cS0; have ySw4 : S < w4.heap.size := Nat.lt_of_lt_of_le yS gg.size))
      all_goals
        go_wp2_with fail
        go_meet
        case rel =>
          first
            | exact ⟨_, rfl, gg.size, gg.alloc gg.size _, new_at _ _ rfl⟩
            | exact ⟨_, rfl, o7, ((gg.setCell (by first | exact o7 | simp) _).setCell (by first | exact o7 | simp) _).setCell (by first | exact o7 | simp) _, blk_set (blk_set (blk_set K7 0 _) 1 _) 2 _⟩
    case rest =>
      clear sba sbb
      obtain ⟨g, rfl, og, hgB, kW⟩ := hcut
      have KS1 := hide ((hgB.block _ yS).trans KS.out); have KL1 := hide ((hgB.block _ yL).trans KL.out); have KR1 := hide ((hgB.block _ yR).trans KR.out)
      have HB1 := hide (HB.out.trans (hgB.mono zz))
      have KW := hide kW
      have yW := blt kW
      have yS1 : S < wc.heap.size := blt KS1.out
      have cW := blk_cell kW; simp only [vcs] at cW
      clear kW hgB KS KL KR HB yS yL yR
      go_wp2_with fail
      refine (isClose_any W rho _ WBD.out r0 r1).mono ?_
      rintro e w2 ⟨rfl, hb2⟩
      cases hcl : closeF W rho
      · have CL := hide (show closeF (wOf a b s) rho = false by rw [← HW.out]; exact hcl)
        have KS2 := hide ((hb2.block _ yS1).trans KS1.out); have KL2 := hide ((hb2.block _ (blt KL1.out)).trans KL1.out); have KR2 := hide ((hb2.block _ (blt KR1.out)).trans KR1.out); have KW2 := hide ((hb2.block _ yW).trans KW.out)
        have HB2 := hide (stepB hb2 HB1.out)
        have yS2 : S < w2.heap.size := blt KS2.out
        have yW2 : g < w2.heap.size := blt KW2.out
        have z2 := HB2.out.size
        clear hb2 hcl cW KS1 KL1 KR1 KW HB1 yS1 yW
        obtain ⟨X, hX⟩ : ∃ X, X = divV W 65536 := ⟨_, rfl⟩
        have HX := hide (show xOf a b s = X by rw [hX, HW.out]; rfl)
        have XBD := hide (show XB X by rw [← HX.out]; exact xOf_bd (by rw [← HW.out]; exact WBD.out))
        have tx : W.x.tdiv 65536 = X.x := by rw [hX]; rfl
        have ty : W.y.tdiv 65536 = X.y := by rw [hX]; rfl
        have tz : W.z.tdiv 65536 = X.z := by rw [hX]; rfl
        have cW := blk_cell KW2.out; simp only [vcs] at cW
        clear hX
        obtain ⟨⟨x1, x2⟩, ⟨x3, x4⟩, x5, x6⟩ := XBD.out
        go_wp2_with fail
        refine (normal_any X _ XBD.out.ok64).mono ?_
        rintro e w3 ⟨rfl, hb3⟩
        unfold normalR
        rw [isZ_normal]
        obtain ⟨n, hn⟩ : ∃ n, normalF X = n := ⟨_, rfl⟩
        rw [hn]
        have HN := hide (show nOf a b s = n by unfold nOf; rw [HX.out, hn])
        have INR := hide (show inR n = true by rw [← hn]; exact normalF_inR XBD.out.ok64)
        have hb3' : Below w2.heap.size w2 w3 := ((Below.refl _ _).alloc (Nat.le_refl _) _).trans (hb3.mono (by simp))
        have KS3 := hide ((hb3'.block _ yS2).trans KS2.out); have KL3 := hide ((hb3'.block _ (blt KL2.out)).trans KL2.out); have KR3 := hide ((hb3'.block _ (blt KR2.out)).trans KR2.out)
        have KX3 := hide (show w3.heap[w2.heap.size]? = some (.cells (vcs X) 47 (0, 0)) from newB hb3)
        have HB3 := hide (stepB hb3' HB2.out)
        have yS3 : S < w3.heap.size := blt KS3.out
        have yX3 : w2.heap.size < w3.heap.size := blt KX3.out
        clear x1 x2 x3 x4 x5 x6 hb3 hb3' hn cW tx ty tz KS2 KL2 KR2 KW2 HB2
        have cS := blk_cell KS3.out; simp only [stC] at cS
        have fS := blk_frozen KS3.out
        cases hz : isZ X
        · have ZX := hide (show isZ (xOf a b s) = false by rw [HX.out]; exact hz)
          clear hz
          go_wp2_with fail
          obtain ⟨w4, hw4⟩ : ∃ W4, W4 = set3 w3 S n := ⟨_, rfl⟩
          have e4 : (((w3.setCell ⟨S, 4, none⟩ (.int .i64 n.x)).setCell ⟨S, 5, none⟩ (.int .i64 n.y)).setCell ⟨S, 6, none⟩ (.int .i64 n.z)).alloc (.cells #[.int .i64 n.x, .int .i64 n.y, .int .i64 n.z] 47) = w4 := hw4.symm
          rw [e4]
          obtain ⟨q1, q2, q3, q4⟩ := set3_facts n KS3.out
          rw [← hw4] at q1 q2 q3 q4
          have KS4 := hide (show w4.heap[S]? = some (.cells (stC A B gL gR a.length b.length ca cb n s.k) 151 (0, 0)) from q1)
          have KL4 := hide ((q2 gL dLS (blt KL3.out)).trans KL3.out)
          have KR4 := hide ((q2 gR dRS (blt KR3.out)).trans KR3.out)
          have KX4 := hide ((q2 _ (by omega) yX3).trans KX3.out)
          have KN4 := hide (show w4.heap[w3.heap.size]? = some (.cells (vcs n) 47 (0, 0)) from q3)
          have HB4 := hide (q4 _ _ oS HB3.out.size HB3.out)
          clear q1 q2 q3 q4 e4
          clear hw4 KS3 KL3 KR3 KX3 HB3 cS fS yS3 yX3
          have yS4 := blt KS4.out; have yX4 := blt KX4.out; have yN4 := blt KN4.out
          have c0 := blk_cell KS4.out; simp only [stC] at c0
          have d0 := blk_cell KN4.out; simp only [vcs] at d0
          have cS := c0; have cN := d0
          have gg : Below w4.heap.size w4 w4.drew := (Below.refl _ _).drew
          go_region_held3 (fun w' => (∀ i, w'.cell? ⟨S, i, none⟩ = #[.slice A a.length ca, .slice (some ⟨gL, 0, none⟩) a.length a.length, .slice B b.length cb, .slice (some ⟨gR, 0, none⟩) b.length b.length, .int .i64 n.x, .int .i64 n.y, .int .i64 n.z, .int .i64 s.k][i]?) ∧ (∀ i, w'.cell? ⟨w3.heap.size, i, none⟩ = #[.int .i64 n.x, .int .i64 n.y, .int .i64 n.z][i]?))
            (first | exact ⟨cS, cN⟩ | go_keep)
            (first | (go_at_call 165; (with_reducible refine (leastN_any n A (some ⟨gL, 0, none⟩) a ca a.length _ (slv_up HS.out HB4.out gg) INR.out la1 la8 VA.out).mono ?_); rintro e w5 ⟨rfl, b5⟩; have gg := gg.trans (b5.mono gg.size); have cS := keepf gg yS4 c0; have cN := keepf gg yN4 d0))
          have gb5 := gg
          have KS5 := hide ((gb5.block _ yS4).trans KS4.out); have KL5 := hide ((gb5.block _ (blt KL4.out)).trans KL4.out); have KR5 := hide ((gb5.block _ (blt KR4.out)).trans KR4.out); have KX5 := hide ((gb5.block _ yX4).trans KX4.out); have KN5 := hide ((gb5.block _ yN4).trans KN4.out)
          have HB5 := hide (HB4.out.trans (gb5.mono HB4.out.size))
          clear gg gb5 b5 cS cN c0 d0 KS4 KL4 KR4 KX4 KN4 HB4 yS4 yX4 yN4
          obtain ⟨i, hi⟩ : ∃ i, exLo n a = i := ⟨_, rfl⟩
          have ilt : i < a.length := by rw [← hi]; exact exLo_lt n la1
          obtain ⟨lo, hlo⟩ : ∃ lo, dgo n a i = lo := ⟨_, rfl⟩
          have lob := (PB_of INR.out (VA.out i ilt)).dot
          rw [← dgo_at n a i ilt, hlo] at lob
          rw [hi, hlo]
          have HI := hide hi; have HLO := hide hlo
          clear hi hlo
          obtain ⟨lo1, lo2⟩ := lob
          go_wp2_with fail
          have yS5 := blt KS5.out; have yN5 := blt KN5.out; have yX5 := blt KX5.out
          have c0 := blk_cell KS5.out; simp only [stC] at c0
          have d0 := blk_cell KN5.out; simp only [vcs] at d0
          have cS := c0; have cN := d0
          have gg : Below w5.heap.size w5 w5.drew := (Below.refl _ _).drew
          go_region_held3 (fun w' => (∀ i, w'.cell? ⟨S, i, none⟩ = #[.slice A a.length ca, .slice (some ⟨gL, 0, none⟩) a.length a.length, .slice B b.length cb, .slice (some ⟨gR, 0, none⟩) b.length b.length, .int .i64 n.x, .int .i64 n.y, .int .i64 n.z, .int .i64 s.k][i]?) ∧ (∀ i, w'.cell? ⟨w3.heap.size, i, none⟩ = #[.int .i64 n.x, .int .i64 n.y, .int .i64 n.z][i]?))
            (first | exact ⟨cS, cN⟩ | go_keep)
            (first | (go_at_call 166; (with_reducible refine (greatestN_any n B (some ⟨gR, 0, none⟩) b cb b.length _ (slv_up HT.out HB5.out gg) INR.out lb1 lb8 VB.out).mono ?_); rintro e w6 ⟨rfl, b6⟩; have gg := gg.trans (b6.mono gg.size); have cS := keepf gg yS5 c0; have cN := keepf gg yN5 d0))
          have gb6 := gg
          have KS6 := hide ((gb6.block _ yS5).trans KS5.out); have KL6 := hide ((gb6.block _ (blt KL5.out)).trans KL5.out); have KR6 := hide ((gb6.block _ (blt KR5.out)).trans KR5.out); have KX6 := hide ((gb6.block _ yX5).trans KX5.out); have KN6 := hide ((gb6.block _ yN5).trans KN5.out)
          have HB6 := hide (HB5.out.trans (gb6.mono HB5.out.size))
          clear gg gb6 b6 cS cN c0 d0 KS5 KL5 KR5 KX5 KN5 HB5 yS5 yX5 yN5
          obtain ⟨j, hj⟩ : ∃ j, exHi n b = j := ⟨_, rfl⟩
          have jlt : j < b.length := by rw [← hj]; exact exHi_lt n lb1
          obtain ⟨hi, hhi⟩ : ∃ hi, dgo n b j = hi := ⟨_, rfl⟩
          have hib := (PB_of INR.out (VB.out j jlt)).dot
          rw [← dgo_at n b j jlt, hhi] at hib
          rw [hj, hhi]
          have HJ := hide hj; have HHI := hide hhi
          clear hj hhi
          obtain ⟨hi1, hi2⟩ := hib
          have yN6 := blt KN6.out
          have cN := blk_cell KN6.out; simp only [vcs] at cN
          go_wp2_with fail
          refine (norm_any n _).mono ?_
          rintro e w7 ⟨rfl, hb7⟩
          have KS7 := hide ((hb7.block _ (blt KS6.out)).trans KS6.out); have KL7 := hide ((hb7.block _ (blt KL6.out)).trans KL6.out); have KR7 := hide ((hb7.block _ (blt KR6.out)).trans KR6.out); have KX7 := hide ((hb7.block _ (blt KX6.out)).trans KX6.out)
          have HB7 := hide (HB6.out.trans (hb7.mono HB6.out.size))
          clear hb7 cN KS6 KL6 KR6 KX6 KN6 HB6 yN6
          obtain ⟨F, hF⟩ : ∃ F, normF n = F := ⟨_, rfl⟩
          obtain ⟨f1, f2⟩ := normF_bd n
          rw [hF] at f1 f2 ⊢
          obtain ⟨p1, p2⟩ := mul_bd F rho 32768 2097152 f1 f2 (by omega) r1
          have p0 := Int.mul_nonneg f1 r0
          have HA := hide (show apartB a b rho s = decide (F * rho < lo - hi) by unfold apartB; rw [HN.out, HI.out, HJ.out, HLO.out, HHI.out, hF])
          clear hF
          have yS7 := blt KS7.out
          have cS := blk_cell KS7.out; simp only [stC] at cS
          by_cases hap : F * rho < lo - hi
          · have HR := hide (show searchN a b rho m = (1, atN a b s) by rw [← RUN.out]; exact runN_apart CL.out ZX.out (by rw [HA.out]; exact decide_eq_true hap))
            go_wp2_with fail
            go_ret
            refine ⟨by rw [HR.out]; rfl, ?_, HB7.out⟩
            rw [HR.out]
            exact ⟨by rw [show (atN a b s).N = n from HN.out]; exact KS7.out, KL7.out, KR7.out⟩
          · have AP := hide (show apartB a b rho s = false by rw [HA.out]; exact decide_eq_false hap)
            by_cases hkm : s.k = m
            · have HR := hide (show searchN a b rho m = (0, atN a b s) by rw [← RUN.out]; exact runN_stop CL.out ZX.out AP.out (.inl hkm))
              have hkm' : ((s.k : Int) == (m : Int)) = true := by simp [hkm]
              clear hkm
              go_wp2_with fail
              go_ret
              refine ⟨by rw [HR.out]; rfl, ?_, HB7.out⟩
              rw [HR.out]
              exact ⟨by rw [show (atN a b s).N = n from HN.out]; exact KS7.out, KL7.out, KR7.out⟩
            · have hkm' : ((s.k : Int) == (m : Int)) = false := by simp; omega
              clear cS
              obtain ⟨bA, oA, rfl, hbA⟩ := HS.out.addr la1
              obtain ⟨bB, oB, rfl, hbB⟩ := HT.out.addr lb1
              have c0 := blk_cell KS7.out; simp only [stC] at c0
              have cS := c0
              go_wp2_with fail
              obtain ⟨a00, a01, a02⟩ := (HS.out.below HB7.out).at_ ilt
              obtain ⟨b00, b01, b02⟩ := (HT.out.below HB7.out).at_ jlt
              have yA : bA < w7.heap.size := Nat.lt_of_lt_of_le hbA HB7.out.size
              have yB : bB < w7.heap.size := Nat.lt_of_lt_of_le hbB HB7.out.size
              have yX7 := blt KX7.out
              have d0 := blk_cell KX7.out; simp only [vcs] at d0
              have cX := d0; have a0 := a00; have a1 := a01; have a2 := a02; have b0 := b00; have b1 := b01; have b2 := b02
              obtain ⟨D, hD⟩ : ∃ D, D = subV a[i] b[j] := ⟨_, rfl⟩
              have dx := hide (show a[i].x - b[j].x = D.x by rw [hD]; rfl)
              have dy := hide (show a[i].y - b[j].y = D.y by rw [hD]; rfl)
              have dz := hide (show a[i].z - b[j].z = D.z by rw [hD]; rfl)
              have va := vok_of (VA.out i ilt); have vb := vok_of (VB.out j jlt)
              have mx : -9223372036854775808 ≤ a[i].x - b[j].x ∧ a[i].x - b[j].x ≤ 9223372036854775807 := by omega
              have my : -9223372036854775808 ≤ a[i].y - b[j].y ∧ a[i].y - b[j].y ≤ 9223372036854775807 := by omega
              have mz : -9223372036854775808 ≤ a[i].z - b[j].z ∧ a[i].z - b[j].z ≤ 9223372036854775807 := by omega
              have DBD := hide (show XB D by rw [hD]; unfold XB subV; simp only; omega)
              have HT' := hide (show tOf a b s = partF X D by unfold tOf; rw [HX.out, HN.out, HI.out, HJ.out, hD]; simp [List.getD, List.getElem?_eq_getElem ilt, List.getElem?_eq_getElem jlt])
              clear hD va vb
              have i0 : (0 : Int) ≤ (i : Int) := Int.natCast_nonneg _
              have i1 : (i : Int) < (a.length : Int) := by omega
              have j0 : (0 : Int) ≤ (j : Int) := Int.natCast_nonneg _
              have j1 : (j : Int) < (b.length : Int) := by omega
              have gg : Below w7.heap.size w7 w7.drew := (Below.refl _ _).drew
              go_region_held3 (fun w' => (∀ i, w'.cell? ⟨S, i, none⟩ = #[.slice (some ⟨bA, oA, none⟩) a.length ca, .slice (some ⟨gL, 0, none⟩) a.length a.length, .slice (some ⟨bB, oB, none⟩) b.length cb, .slice (some ⟨gR, 0, none⟩) b.length b.length, .int .i64 n.x, .int .i64 n.y, .int .i64 n.z, .int .i64 s.k][i]?) ∧ (∀ i, w'.cell? ⟨w2.heap.size, i, none⟩ = #[.int .i64 X.x, .int .i64 X.y, .int .i64 X.z][i]?) ∧ w'.cell? ⟨bA, oA + i * 3, none⟩ = some (.int .i64 a[i].x) ∧ w'.cell? ⟨bA, oA + i * 3 + 1, none⟩ = some (.int .i64 a[i].y) ∧ w'.cell? ⟨bA, oA + i * 3 + 2, none⟩ = some (.int .i64 a[i].z) ∧ w'.cell? ⟨bB, oB + j * 3, none⟩ = some (.int .i64 b[j].x) ∧ w'.cell? ⟨bB, oB + j * 3 + 1, none⟩ = some (.int .i64 b[j].y) ∧ w'.cell? ⟨bB, oB + j * 3 + 2, none⟩ = some (.int .i64 b[j].z))
                (first | exact ⟨cS, cX, a0, a1, a2, b0, b1, b2⟩ | go_keep)
                (first | (go_at_call 162; (with_reducible refine (minus162 a[i] b[j] _ mx my mz).mono ?_); rintro e w8 ⟨rfl, bb⟩; rw [dx.out, dy.out, dz.out]; have gg := gg.trans (bb.mono gg.size); have cS := keepf gg yS7 c0; have cX := keepf gg yX7 d0; have a0 := (gg.cell (p := ⟨bA, oA + i * 3, none⟩) yA).trans a00; have a1 := (gg.cell (p := ⟨bA, oA + i * 3 + 1, none⟩) yA).trans a01; have a2 := (gg.cell (p := ⟨bA, oA + i * 3 + 2, none⟩) yA).trans a02; have b0 := (gg.cell (p := ⟨bB, oB + j * 3, none⟩) yB).trans b00; have b1 := (gg.cell (p := ⟨bB, oB + j * 3 + 1, none⟩) yB).trans b01; have b2 := (gg.cell (p := ⟨bB, oB + j * 3 + 2, none⟩) yB).trans b02) | (go_at_call 167; (with_reducible refine (part_any X D _ XBD.out DBD.out).mono ?_); rintro e w9 ⟨rfl, bb⟩; have gg := gg.trans (bb.mono gg.size); have cS := keepf gg yS7 c0; have cX := keepf gg yX7 d0; have a0 := (gg.cell (p := ⟨bA, oA + i * 3, none⟩) yA).trans a00; have a1 := (gg.cell (p := ⟨bA, oA + i * 3 + 1, none⟩) yA).trans a01; have a2 := (gg.cell (p := ⟨bA, oA + i * 3 + 2, none⟩) yA).trans a02; have b0 := (gg.cell (p := ⟨bB, oB + j * 3, none⟩) yB).trans b00; have b1 := (gg.cell (p := ⟨bB, oB + j * 3 + 1, none⟩) yB).trans b01; have b2 := (gg.cell (p := ⟨bB, oB + j * 3 + 2, none⟩) yB).trans b02))
              have gb9 := gg
              have KS9 := hide ((gb9.block _ yS7).trans KS7.out); have KL9 := hide ((gb9.block _ (blt KL7.out)).trans KL7.out); have KR9 := hide ((gb9.block _ (blt KR7.out)).trans KR7.out)
              have HB9 := hide (HB7.out.trans (gb9.mono HB7.out.size))
              clear gg gb9 bb cS cX a0 a1 a2 b0 b1 b2 c0 d0 a00 a01 a02 b00 b01 b02 KS7 KL7 KR7 KX7 HB7 yS7 yX7 mx my mz
              obtain ⟨t0, t1⟩ := partF_bd X D
              obtain ⟨t, ht⟩ : ∃ t, partF X D = t := ⟨_, rfl⟩
              rw [ht] at t0 t1 ⊢
              rw [ht] at HT'
              clear ht
              by_cases htz : t = 0
              · have HR := hide (show searchN a b rho m = (0, atN a b s) by rw [← RUN.out]; exact runN_stop CL.out ZX.out AP.out (.inr (by rw [HT'.out]; exact htz)))
                have htz' : (t == 0) = true := by simp [htz]
                clear htz
                go_wp2_with fail
                go_ret
                refine ⟨by rw [HR.out]; rfl, ?_, HB9.out⟩
                rw [HR.out]
                exact ⟨by rw [show (atN a b s).N = n from HN.out]; exact KS9.out, KL9.out, KR9.out⟩
              · have htz' : (t == 0) = false := by simp [htz]
                have yS9 := blt KS9.out
                have cS := blk_cell KS9.out; simp only [stC] at cS
                go_wp2_with fail
                refine (gather_any (some ⟨bA, oA, none⟩) gL a.length ca a.length s.L i t _ KL9.out NN.out.1 la8 ilt t0 t1).mono ?_
                rintro e w10 ⟨rfl, kL10, hg10⟩
                have KL10 := hide kL10
                have KS10 := hide ((hg10.block _ yS9 (by simp; omega)).trans KS9.out)
                have KR10 := hide ((hg10.block _ (blt KR9.out) (by simp; omega)).trans KR9.out)
                have HB10 := hide (HB9.out.grown hg10 HB9.out.size (fun k hk => by injection hk with hk; omega))
                clear hg10 kL10 cS yS9 KS9 KL9 KR9 HB9
                have yS10 := blt KS10.out
                have cS := blk_cell KS10.out; simp only [stC] at cS
                go_wp2_with fail
                refine (gather_any (some ⟨bB, oB, none⟩) gR b.length cb b.length s.R j t _ KR10.out NN.out.2.1 lb8 jlt t0 t1).mono ?_
                rintro e w11 ⟨rfl, kR11, hg11⟩
                have KR11 := hide kR11
                have KS11 := hide ((hg11.block _ yS10 (by simp; omega)).trans KS10.out)
                have KL11 := hide ((hg11.block _ (blt KL10.out) (by simp; omega)).trans KL10.out)
                have HB11 := hide (HB10.out.grown hg11 HB10.out.size (fun k hk => by injection hk with hk; omega))
                clear hg11 kR11 cS yS10 KS10 KL10 KR10 HB10
                have yS11 := blt KS11.out
                have cS := blk_cell KS11.out; simp only [stC] at cS
                have fS := blk_frozen KS11.out
                go_wp2_with fail
                go_roundg f
                case measure => omega
                case rel =>
                  refine ⟨nextN a b s, by simp only [nextN]; omega, NN.out.next la1 lb1 hkm, ?_, ⟨?_, ?_, ?_⟩, HB11.out.setCell (by simpa using oS) _⟩
                  · rw [← RUN.out]
                    exact (runN_next CL.out ZX.out AP.out hkm (by rw [HT'.out]; exact htz)).symm
                  · rw [show (nextN a b s).N = n from HN.out]
                    exact blk_set KS11.out 7 _
                  · rw [Below.heap_setCell _ _ _ _ (by simpa using dLS), show (nextN a b s).L = movedL s.L t i by simp only [nextN]; rw [HT'.out, HN.out, HI.out]]
                    exact KL11.out
                  · rw [Below.heap_setCell _ _ _ _ (by simpa using dRS), show (nextN a b s).R = movedL s.R t j by simp only [nextN]; rw [HT'.out, HN.out, HJ.out]]
                    exact KR11.out
        · have HR := hide (show searchN a b rho m = (0, atN a b s) by rw [← RUN.out]; exact runN_zero CL.out (by rw [HX.out]; exact hz))
          clear hz
          go_wp2_with fail
          go_ret
          obtain ⟨q1, q2, q3, q4⟩ := set3_facts n KS3.out
          refine ⟨by rw [HR.out]; rfl, ?_, q4 _ _ oS HB3.out.size HB3.out⟩
          rw [HR.out]
          refine ⟨?_, (q2 gL dLS (blt KL3.out)).trans KL3.out, (q2 gR dRS (blt KR3.out)).trans KR3.out⟩
          rw [show (atN a b s).N = n from HN.out]
          exact q1
      · have HR := hide (show searchN a b rho m = (2, s) by rw [← RUN.out]; exact runN_close (by rw [← HW.out]; exact hcl))
        have KS2 := hide ((hb2.block _ yS1).trans KS1.out); have KL2 := hide ((hb2.block _ (blt KL1.out)).trans KL1.out); have KR2 := hide ((hb2.block _ (blt KR1.out)).trans KR1.out)
        have HB2 := hide (stepB hb2 (show Below wc.heap.size wc wc from Below.refl _ _))
        have HB3 := hide (HB1.out.trans (HB2.out.mono HB1.out.size))
        clear hb2 hcl cW
        go_wp2_with fail
        go_ret
        exact ⟨by rw [HR.out]; rfl, by rw [HR.out]; exact ⟨KS2.out, KL2.out, KR2.out⟩, HB3.out⟩
end Go.Proofs.Ytionbckpgfaneaa
