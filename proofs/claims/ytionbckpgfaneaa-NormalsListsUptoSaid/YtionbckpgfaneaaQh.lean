/- Walks of the normals, part h: the candidates one after the other. -/
import Derived.Test.YtionbckpgfaneaaQg
import Derived.Test.YtionbckpgfaneaaNf
import Derived.Deep.DeepCutAuto
import Derived.BigRegion
import Derived.RangeFuncNested
import Derived.RangeFuncBound
import Derived.RangeFuncCalls
import Derived.RangeFuncLeaves
import Derived.Shelf.Abstract
import Derived.Shelf.RegionOpen
import Derived.WalkKit
import Derived.OwnWalkIn
import Derived.TacticsInMore
import Derived.LoopNIn
import Derived.LoopIn
namespace Go.Proofs.Ytionbckpgfaneaa
open Go.RowKit Go.Shelf
set_option maxHeartbeats 4000000
set_option maxRecDepth 100000
attribute [local go_sem] Oper.semAt_some
def ptrO (b : Nat) : Value := .pointer (some ⟨b, 0, none⟩)
def five (w : World) (A B H : Value) (ra rb : Int) : World := ((((w.alloc (.cells #[A] 23)).alloc (.cells #[.int .i64 ra] 2)).alloc (.cells #[B] 23)).alloc (.cells #[.int .i64 rb] 2)).alloc (.cells #[H] 49)
/-- normals.candidates -/
theorem cand135 (A B H : Option Addr) (la ca lb cb lh ch : Nat) (ra rb : Int) (w : World) :
    Calls Try.prog 135 #[.slice A la ca, .int .i64 ra, .slice B lb cb, .int .i64 rb, .slice H lh ch] w fun e w' => e = .returned (.func (.func 172) #[] #[ptrO w.heap.size, ptrO (w.heap.size + 1 + 1), ptrO (w.heap.size + 1), ptrO (w.heap.size + 1 + 1 + 1), ptrO (w.heap.size + 1 + 1 + 1 + 1)]) ∧ w' = five w (.slice A la ca) (.slice B lb cb) (.slice H lh ch) ra rb := by
  have hmf := hmf
  go_enter Try.func135, Try.ntmps135
  go_wp2_with fail
  go_ret
  exact ⟨rfl, rfl⟩
theorem axes_at (w : World) : Calls Try.prog 96 #[] w fun e w' => e = .returned (.slice (some ⟨w.heap.size, 0, none⟩) 6 6) ∧ w' = w.alloc (.cells (vArr axesL) 47) := by
  go_enter Try.func96, Try.ntmps96
  go_wp2_with fail
  go_ret
  exact ⟨rfl, rfl⟩
/-- the block of the slice that lies in the variable X -/
def rowX (X : Nat) (W : World) : Option Nat := (W.cell? ⟨X, 0, none⟩).bind Value.ownBlock
/-- what a round that goes on keeps -/
structure KpC (N X : Nat) (W W' : World) : Prop where
  bel : Below N W W'
  same : ∀ k cs t f, k < W.heap.size → k ≠ X → rowX X W ≠ some k → W.heap[k]? = some (.cells cs t f) → W'.heap[k]? = some (.cells cs t f)
  row : rowX X W' = rowX X W ∨ ∃ g, rowX X W' = some g ∧ W.heap.size ≤ g ∧ g < W'.heap.size
theorem KpC.t {N X : Nat} {A B C : World} (h : KpC N X A B) (k : KpC N X B C) : KpC N X A C := by
  refine ⟨h.bel.trans k.bel, fun i cs t f h1 h2 h3 h4 => k.same i cs t f (Nat.lt_of_lt_of_le h1 h.bel.size) h2 ?_ (h.same i cs t f h1 h2 h3 h4), ?_⟩
  · rcases h.row with e | ⟨g, e, g1, _⟩
    · rw [e]; exact h3
    · rw [e]; intro e'; cases e'; omega
  · rcases k.row with e | ⟨g, e, g1, g2⟩
    · rw [e]
      rcases h.row with e | ⟨g, e, g1, g2⟩
      · exact .inl e
      · exact .inr ⟨g, e, g1, Nat.lt_of_lt_of_le g2 k.bel.size⟩
    · exact .inr ⟨g, e, Nat.le_trans h.bel.size g1, g2⟩
theorem KpC.b {N X : Nat} {w : World} (h1 : N ≤ w.heap.size) (h2 : X < w.heap.size) (W : World) (l : Nat) (o o' : Obj) (hl : w.heap.size ≤ l) (h : W.heap[l]? = some o) (c1 : o.isCells = false) (c2 : o.isWalk = false) : KpC N X W (W.putObj l o') := by
  refine ⟨belowK_b h1 W l o o' hl h c1 c2, fun k cs t f _ _ _ hk => ?_, .inl ?_⟩
  · refine (World.putObj_heap_other ?_).trans hk
    intro e
    subst e
    rw [h] at hk
    cases hk
    cases c1
  · unfold rowX
    rw [World.cell?_of_block (w := W) (World.putObj_heap_other (by simp; omega))]
theorem rowX_below {X : Nat} {W W' : World} (hX : X < W.heap.size) (hb : Below W.heap.size W W') : rowX X W' = rowX X W := by
  unfold rowX
  rw [World.cell?_of_block (w := W) (hb.block _ hX)]
theorem KpC.of_below {N X : Nat} {W W' : World} (hN : N ≤ W.heap.size) (hX : X < W.heap.size) (hb : Below W.heap.size W W') : KpC N X W W' :=
  ⟨hb.mono hN, fun k _ _ _ hk _ _ h => (hb.block k hk).trans h, .inl (rowX_below hX hb)⟩
structure CE (w0 : World) (X L : Nat) (A B H : Value) (ra rb : Int) (W : World) : Prop where
  bel : Below w0.heap.size w0 W
  k0 : W.heap[L]? = some (.cells #[A] 23 (0, 0))
  k1 : W.heap[L + 1]? = some (.cells #[.int .i64 ra] 2 (0, 0))
  k2 : W.heap[L + 2]? = some (.cells #[B] 23 (0, 0))
  k3 : W.heap[L + 3]? = some (.cells #[.int .i64 rb] 2 (0, 0))
  k4 : W.heap[L + 4]? = some (.cells #[H] 49 (0, 0))
  hX : X < L
  row : ∀ g, rowX X W = some g → L + 5 ≤ g ∧ g < W.heap.size
theorem CE.below {w0 W W' : World} {X L : Nat} {A B H : Value} {ra rb : Int} (h : CE w0 X L A B H ra rb W) (hb : Below W.heap.size W W') : CE w0 X L A B H ra rb W' :=
  ⟨h.bel.trans (hb.mono h.bel.size), (hb.block _ (blt h.k0)).trans h.k0, (hb.block _ (blt h.k1)).trans h.k1, (hb.block _ (blt h.k2)).trans h.k2, (hb.block _ (blt h.k3)).trans h.k3, (hb.block _ (blt h.k4)).trans h.k4, h.hX, fun g hg => by
    rw [rowX_below (Nat.lt_trans h.hX (blt h.k0)) hb] at hg
    have := h.row g hg
    have := hb.size
    omega⟩
theorem CE.kp {w0 W W' : World} {X L : Nat} {A B H : Value} {ra rb : Int} (h : CE w0 X L A B H ra rb W) (hb : KpC w0.heap.size X W W') : CE w0 X L A B H ra rb W' := by
  have hX := h.hX
  have y4 := blt h.k4
  have ne : ∀ j, j < 5 → rowX X W ≠ some (L + j) := fun j hj e => by have := (h.row _ e).1; omega
  refine ⟨h.bel.trans hb.bel, hb.same _ _ _ _ (by omega) (by omega) (ne 0 (by omega)) h.k0, hb.same _ _ _ _ (by omega) (by omega) (ne 1 (by omega)) h.k1, hb.same _ _ _ _ (by omega) (by omega) (ne 2 (by omega)) h.k2, hb.same _ _ _ _ (by omega) (by omega) (ne 3 (by omega)) h.k3, hb.same _ _ _ _ (by omega) (by omega) (ne 4 (by omega)) h.k4, hX, fun g hg => ?_⟩
  rcases hb.row with e | ⟨g', e, g1, g2⟩
  · rw [e] at hg
    have := h.row g hg
    have := hb.bel.size
    omega
  · rw [e] at hg
    cases hg
    omega
theorem abid {J : List V3 → World → Prop} {B : Nat} (hJ : AbidesFrom B J) {s : List V3} {W W' : World} (h : J s W) (hb : Below W.heap.size W W') : J s W' :=
  hJ s W W' none h ⟨hb.os, hb.tape, hb.output, hb.size, fun k hk _ => hb.block k hk⟩ (fun _ e => by cases e)
theorem viaW {n f : Nat} {args : Array Value} {w : World} {R R' : Ending → World → Prop} (h : Calls Try.prog f args w R) (hm : ∀ e w', R e w' → R' e w') : Fence.wide.fn f ∧ (Fence.wide.depth.isSome = true → 1 ≤ n) ∧ CallsIn Fence.wide (n - 1) Try.prog f args w R' :=
  ⟨trivial, fun k => (by cases k), callsIn_wide.2 (Calls.mono h hm)⟩
def encV (v : V3) : Array Value := #[.agg #[.int .i64 v.x, .int .i64 v.y, .int .i64 v.z]]
def CandPost (c : List V3) (J Jx : List V3 → World → Prop) (e : Ending) (W' : World) : Prop := (∃ v, e = .returned v) ∧ ((∃ xs, xs = c ∧ J xs W') ∨ (∃ pre, pre <+: c ∧ Jx pre W'))
theorem filter_snoc (p : V3 → Bool) (h : List V3) (k : Nat) (hk : k < h.length) : (h.take (k + 1)).filter p = bif p h[k] then (h.take k).filter p ++ [h[k]] else (h.take k).filter p := by
  rw [List.take_succ_eq_append_getElem hk, List.filter_append]
  cases hp : p h[k] <;> simp [hp]
theorem filter_pre (p : V3 → Bool) (h : List V3) (k : Nat) : (h.take k).filter p <+: h.filter p := by
  conv => rhs; rw [← List.take_append_drop k h]
  rw [List.filter_append]
  exact List.prefix_append _ _
theorem filter_lt (p : V3 → Bool) (h : List V3) (k : Nat) (hk : k < h.length) : p h[k] = true → ((h.take k).filter p).length < (h.filter p).length := fun hp => by
  have h1 := (filter_pre p h (k + 1)).length_le
  rw [filter_snoc p h k hk, hp] at h1
  simp only [cond_true, List.length_append, List.length_cons, List.length_nil] at h1
  omega
def near7 (r : Int × Nst) (gL gR na nb : Nat) : Array Value := #[.int .i64 r.1, .int .i64 r.2.N.x, .int .i64 r.2.N.y, .int .i64 r.2.N.z, .slice (some ⟨gL, 0, none⟩) na na, .slice (some ⟨gR, 0, none⟩) nb nb, .int .i64 r.2.k]
theorem pre_axes (f m ax s : List V3) (k : Nat) : f ++ m ++ ax.take k <+: f ++ (m ++ (ax ++ s)) := by
  rw [← List.append_assoc]
  refine (List.prefix_append_right_inj (f ++ m)).2 ?_
  exact (List.take_prefix _ _).trans (List.prefix_append _ _)
theorem few_ctrs {l : List IV} (h : placedB l = true) : fewB (ctrs l) = true := by
  obtain ⟨l1, l8, ok⟩ := placed_of h
  refine few_all (by rw [ctrs_len]; exact l1) (by rw [ctrs_len]; exact l8) ?_
  intro p hp
  obtain ⟨q, hq, rfl⟩ := List.mem_map.1 hp
  obtain ⟨j, hj, rfl⟩ := List.getElem_of_mem hq
  have := ok j hj
  simp only [IV.ok, Bool.and_eq_true] at this
  obtain ⟨⟨h1, h2⟩, h3⟩ := this
  have h1 := of_decide_eq_true h1
  have h2 := of_decide_eq_true h2
  have h3 := of_decide_eq_true h3
  exact (nearB_yes (by unfold ctrV midI; simp only; omega)).symm
theorem below_ch7 {B N : Nat} {w0 w : World} (h : Below B w0 w) (hN : B ≤ N) (v0 v1 v2 v3 v4 v5 v6 : Value) : Below B w0 (((((((w.setCell ⟨N, 0, none⟩ v0).setCell ⟨N, 1, none⟩ v1).setCell ⟨N, 2, none⟩ v2).setCell ⟨N, 3, none⟩ v3).setCell ⟨N, 4, none⟩ v4).setCell ⟨N, 5, none⟩ v5).setCell ⟨N, 6, none⟩ v6) :=
  ((((((h.setCell hN _).setCell hN _).setCell hN _).setCell hN _).setCell hN _).setCell hN _).setCell hN _
def SRel (wq : World) (r : Int × Nst) (na nb : Nat) (s13 : Value) (wx : World) : Prop := ∃ g gL gR : Nat, s13 = .pointer (some ⟨g, 0, none⟩) ∧ wq.heap.size ≤ g ∧ Below wq.heap.size wq wx ∧ wx.heap[g]? = some (.cells (near7 r gL gR na nb) 93 (0, 0))
theorem sr1 {wq w : World} {r : Int × Nst} {gL gR na nb : Nat} (gg : Below wq.heap.size wq w) : SRel wq r na nb (.pointer (some ⟨w.heap.size, 0, none⟩)) (w.alloc (.cells #[.int .i64 r.1, .int .i64 r.2.N.x, .int .i64 r.2.N.y, .int .i64 r.2.N.z, .slice (some ⟨gL, 0, none⟩) na na, .slice (some ⟨gR, 0, none⟩) nb nb, .int .i64 r.2.k] 93)) :=
  ⟨_, gL, gR, rfl, gg.size, gg.alloc gg.size _, new_at _ _ rfl⟩
theorem sr2 {wq w : World} {r : Int × Nst} {N gL gR na nb : Nat} {z0 z1 z2 z3 z4 z5 z6 : Value} (gg : Below wq.heap.size wq w) (o7 : wq.heap.size ≤ N) (K7 : w.heap[N]? = some (.cells #[z0, z1, z2, z3, z4, z5, z6] 93 (0, 0))) : SRel wq r na nb (.pointer (some ⟨N, 0, none⟩)) (((((((w.setCell ⟨N, 0, none⟩ (.int .i64 r.1)).setCell ⟨N, 1, none⟩ (.int .i64 r.2.N.x)).setCell ⟨N, 2, none⟩ (.int .i64 r.2.N.y)).setCell ⟨N, 3, none⟩ (.int .i64 r.2.N.z)).setCell ⟨N, 4, none⟩ (.slice (some ⟨gL, 0, none⟩) na na)).setCell ⟨N, 5, none⟩ (.slice (some ⟨gR, 0, none⟩) nb nb)).setCell ⟨N, 6, none⟩ (.int .i64 r.2.k)) :=
  ⟨_, gL, gR, rfl, o7, below_ch7 gg o7 _ _ _ _ _ _ _, blk_set (blk_set (blk_set (blk_set (blk_set (blk_set (blk_set K7 0 _) 1 _) 2 _) 3 _) 4 _) 5 _) 6 _⟩
theorem slv_alloc {w : World} {A : Option Addr} {l : List V3} (h : SlV w A l) (o : Obj) : SlV (w.alloc o) A l := Sl.alloc h o
theorem searchC (A B : Option Addr) (a b : List IV) (c d : Nat) (rho : Int) (r : Int × Nst) (hr : searchN (ctrs a) (ctrs b) rho 64 = r) (w : World) (hs : SlV w A (ctrs a)) (ht : SlV w B (ctrs b)) (pa : placedB a = true) (pb : placedB b = true) (r0 : 0 ≤ rho) (r1 : rho ≤ 2097152) :
    Calls Try.prog 81 #[.slice A a.length c, .slice B b.length d, .int .i64 rho, .int .i64 64] w fun e w' => ∃ gL gR : Nat, e = .returned (.agg #[.int .i64 r.1, .int .i64 r.2.N.x, .int .i64 r.2.N.y, .int .i64 r.2.N.z, .slice (some ⟨gL, 0, none⟩) a.length a.length, .slice (some ⟨gR, 0, none⟩) b.length b.length, .int .i64 r.2.k]) ∧ Below w.heap.size w w' := by
  subst hr
  have := search_any A B (ctrs a) (ctrs b) c d rho 64 w hs ht (few_ctrs pa) (few_ctrs pb) r0 r1 (by omega)
  rw [ctrs_len, ctrs_len] at this
  refine this.mono ?_
  rintro e w' ⟨gL, gR, h1, _, _, h2⟩
  exact ⟨gL, gR, h1, h2⟩
/-- the iterator's body -/
theorem cand172 (n : Nat) (l : Nat) (w0 : World) (X L : Nat) (A B H : Option Addr) (ca cb ch : Nat) (a b : List IV) (h : List V3) (ra rb : Int) (sa : SlI w0 A a) (sb : SlI w0 B b) (sh : SlV w0 H h) (m1 : a.length ≤ 9223372036854775807) (m2 : b.length ≤ 9223372036854775807) (m3 : h.length ≤ 9223372036854775807)
    (J Jx : List V3 → World → Prop) (W : World) (hE : CE w0 X L (.slice A a.length ca) (.slice B b.length cb) (.slice H h.length ch) ra rb W) (hJ : AbidesFrom W.heap.size J) (hJx : AbidesFrom W.heap.size Jx)
    (hY : ∀ pre x W1, J pre W1 → pre.length < (cands a ra b rb h).length → YieldAt Fence.wide (n - 1) Try.prog l (encV x) W1 fun e W' =>
      (e = .returned (.bool true) ∧ J (pre ++ [x]) W' ∧ KpC w0.heap.size X W1 W') ∨ (e = .returned (.bool false) ∧ Jx (pre ++ [x]) W'))
    (h0 : J [] W) :
    CallsIn Fence.wide n Try.prog 172 (#[.func (.yield l) #[] #[]] ++ #[ptrO L, ptrO (L + 2), ptrO (L + 1), ptrO (L + 3), ptrO (L + 4)]) W (CandPost (cands a ra b rb h) J Jx) := by
  have HA := hide sa; have HB := hide sb; have HH := hide sh; have HE := hide hE; have HJ := hide hJ; have HJx := hide hJx; have HY := hide hY; have H0 := hide h0
  clear sa sb sh hE hJ hJx hY h0
  refine callsIn_of_wp Try.func172 rfl trivial ?_ rfl
  simp only [Try.ntmps172, ptrO, List.size_toArray, List.length_cons, List.length_nil, Nat.reduceAdd, Nat.reduceSub, Array.replicate_succ, Array.replicate_zero, List.push_toArray, List.append_toArray, List.nil_append, List.cons_append]
  have c0 := blk_cell HE.out.k0
  gi_wp2_with fail
  refine viaW (placed_any A a ca _ (HA.out.below HE.out.bel) m1) ?_
  rintro e w1 ⟨rfl, hb1⟩
  have E1 := hide (HE.out.below hb1)
  have J1 := hide (abid HJ.out H0.out hb1)
  clear hb1 HE H0 c0
  cases hpa : placedB a
  · have HC := hide (show cands a ra b rb h = [] by simp [cands, candOk, hpa])
    clear hpa
    gi_wp2_with (refine ⟨trivial, ?_⟩)
    refine bodyPost_ret (results_none rfl _ _ _) rfl ?_
    rw [HC.out]
    exact ⟨⟨_, rfl⟩, .inl ⟨[], rfl, J1.out⟩⟩
  · have HPA := hide hpa
    clear hpa
    have c2 := blk_cell E1.out.k2
    gi_wp2_with fail
    refine viaW (placed_any B b cb _ (HB.out.below E1.out.bel) m2) ?_
    rintro e w2 ⟨rfl, hb2⟩
    have E2 := hide (E1.out.below hb2)
    have J2 := hide (abid HJ.out J1.out hb2)
    clear hb2 E1 J1 c2
    cases hpb : placedB b
    · have HC := hide (show cands a ra b rb h = [] by simp [cands, candOk, hpb])
      clear hpb
      gi_wp2_with (refine ⟨trivial, ?_⟩)
      refine bodyPost_ret (results_none rfl _ _ _) rfl ?_
      rw [HC.out]
      exact ⟨⟨_, rfl⟩, .inl ⟨[], rfl, J2.out⟩⟩
    · have HPB := hide hpb
      clear hpb
      have c1 := blk_cell E2.out.k1
      have c3 := blk_cell E2.out.k3
      gi_wp2_with fail
      refine viaW (isRadius2_any ra _) ?_
      rintro e w3 ⟨rfl, rfl⟩
      by_cases hra : 0 ≤ ra ∧ ra ≤ 1048576
      · rw [decide_eq_true hra]
        have HRA := hide hra
        clear hra
        gi_wp2_with fail
        refine viaW (isRadius2_any rb _) ?_
        rintro e w3 ⟨rfl, rfl⟩
        by_cases hrb : 0 ≤ rb ∧ rb ≤ 1048576
        · rw [decide_eq_true hrb]
          have HRB := hide hrb
          have HC := hide (show cands a ra b rb h = h.filter usable ++ (meanL a b ++ (axesL ++ searchL a ra b rb)) by unfold cands; rw [if_pos (by simp [candOk, radOk, HPA.out, HPB.out, HRA.out, hrb])])
          clear hrb c1 c3
          have c4 := blk_cell E2.out.k4
          gi_wp2_with fail
          clear c4
          gi_loopw [34] (fun i wr => ∃ k : Nat, k ≤ h.length ∧ i = .int .i64 k ∧ J ((h.take k).filter usable) wr ∧ CE w0 X L (.slice A a.length ca) (.slice B b.length cb) (.slice H h.length ch) ra rb wr) (fun i _ => h.length - (intOf i).toNat)
          case atStart => exact ⟨0, Nat.zero_le _, rfl, J2.out, E2.out⟩
          case round =>
            clear E2 J2
            obtain ⟨k, hk, rfl, hJr, hEr⟩ := hrel
            have JR := hide hJr; have ER := hide hEr
            clear hJr hEr
            by_cases hlt : k < h.length
            · have FS := hide (filter_snoc usable h k hlt)
              have FL := hide (filter_lt usable h k hlt)
              obtain ⟨bH, oH, rfl, hbH⟩ := HH.out.addr (by omega)
              obtain ⟨d0, d1, d2⟩ := (HH.out.below ER.out.bel).at_ hlt
              obtain ⟨x, hx⟩ : ∃ x, h[k] = x := ⟨_, rfl⟩
              rw [hx] at d0 d1 d2 FS FL
              have hk0 : (0 : Int) ≤ (k : Int) := Int.natCast_nonneg _
              have hk1 : (k : Int) < (h.length : Int) := by omega
              have WK := hide (IntWalk.i64_in ((k : Int) + 1) (by omega))
              gi_wp2_with fail
              clear d0 d1 d2
              refine viaW (usable_any x _) ?_
              rintro e w4 ⟨rfl, hb4⟩
              have hb4' := hide (show Below wr.heap.size wr w4 from ((Below.refl _ _).alloc (Nat.le_refl _) _).trans (hb4.mono (by simp)))
              have KB := hide (newB hb4)
              clear hb4
              have E4 := hide (ER.out.below hb4'.out)
              have J4 := hide (abid HJ.out JR.out hb4'.out)
              clear ER JR hb4'
              cases hu : usable x
              · rw [hu] at FS
                have e1 : (h.take (k + 1)).filter usable = (h.take k).filter usable := FS.out
                rw [← e1] at J4
                clear e1 hu
                gi_wp2_with (refine ⟨fun _ h => (by cases h), ?_⟩)
                go_roundw
                case rel => exact ⟨k + 1, by omega, by simp [WK.out], J4.out, E4.out⟩
                case measure => simp [intOf, WK.out] <;> omega
              · rw [hu] at FS
                have e1 := hide (show (h.take (k + 1)).filter usable = (h.take k).filter usable ++ [x] from FS.out)
                have cB := blk_cell KB.out
                have yB := blt KB.out
                obtain ⟨fn, tmps, assign, body, hy, hR⟩ := HY.out _ x w4 J4.out (by have := FL.out hu; rw [HC.out]; simp only [List.length_append]; omega)
                unfold encV at hy
                clear hu
                gi_wp2_with fail
                refine ⟨fun k => (by cases k), hR.mono ?_⟩
                clear hR hy cB yB
                rintro e w5 (⟨rfl, hJ5, hk5⟩ | ⟨rfl, hJ5⟩)
                · rw [← e1.out] at hJ5
                  have J5 := hide hJ5; have E5 := hide (E4.out.kp hk5)
                  clear hJ5 hk5
                  gi_wp2_with fail
                  go_roundw
                  case rel => exact ⟨k + 1, by omega, by simp, J5.out, E5.out⟩
                  case measure => simp [intOf] <;> omega
                · rw [← e1.out] at hJ5
                  have J5 := hide hJ5
                  clear hJ5
                  gi_wp2_with fail
                  refine bodyPost_ret (results_none rfl _ _ _) rfl ?_
                  exact ⟨⟨_, rfl⟩, .inr ⟨_, by rw [HC.out]; exact (filter_pre usable h (k + 1)).trans (List.prefix_append _ _), J5.out⟩⟩
            · obtain rfl : k = h.length := by omega
              rw [List.take_of_length_le (Nat.le_refl _)] at JR
              have c0 := blk_cell ER.out.k0
              have c2 := blk_cell ER.out.k2
              gi_wp2_with fail
              refine viaW (mean_any A B a b ca cb _ (HA.out.below ER.out.bel) (HB.out.below ER.out.bel) m1 m2) ?_
              rintro e w6 ⟨rfl, hb6⟩
              have HM := hide (show meanR a b = .tuple #[.agg #[.int .i64 (normalF (meanD a b)).x, .int .i64 (normalF (meanD a b)).y, .int .i64 (normalF (meanD a b)).z], .bool (!isZ (meanD a b))] by unfold meanR; rw [HPA.out, HPB.out]; rfl)
              rw [HM.out]
              have E6 := hide (ER.out.below hb6)
              have J6 := hide (abid HJ.out JR.out hb6)
              clear hb6 ER JR HM c0 c2
              obtain ⟨x, hx⟩ : ∃ x, normalF (meanD a b) = x := ⟨_, rfl⟩
              rw [hx]
              have b7 : Below w6.heap.size w6 (w6.alloc (.cells #[.int .i64 x.x, .int .i64 x.y, .int .i64 x.z] 47)) := (Below.refl _ _).alloc (Nat.le_refl _) _
              have E7 := hide (E6.out.below b7)
              have J7 := hide (abid HJ.out J6.out b7)
              clear E6 J6 b7
              cases hz : isZ (meanD a b)
              · have ML := hide (show meanL a b = [x] by unfold meanL; rw [hz, ← hx]; rfl)
                obtain ⟨fn, tmps, assign, body, hy, hR⟩ := HY.out _ x _ J7.out (by rw [HC.out, ML.out]; simp only [List.length_append, List.length_cons]; omega)
                unfold encV at hy
                clear hz hx
                simp only [Bool.not_false]
                gi_wp2_with fail
                refine ⟨fun k => (by cases k), hR.mono ?_⟩
                clear hR hy
                rintro e w8 (⟨rfl, hJ8, hk8⟩ | ⟨rfl, hJ8⟩)
                · have J8 := hide (show J (h.filter usable ++ meanL a b) w8 by rw [ML.out]; exact hJ8)
                  have E8 := hide (E7.out.kp hk8)
                  clear hJ8 hk8 E7 J7
                  gi_wp2_with fail
                  refine viaW (axes_at _) ?_
                  rintro e w9 ⟨rfl, rfl⟩
                  have b9 : Below w8.heap.size w8 (w8.alloc (.cells (vArr axesL) 47)) := (Below.refl _ _).alloc (Nat.le_refl _) _
                  have E9 := hide (E8.out.below b9)
                  have J9 := hide (abid HJ.out J8.out b9)
                  have KA := hide (show (w8.alloc (.cells (vArr axesL) 47)).heap[w8.heap.size]? = some (.cells (vArr axesL) 47 (0, 0)) from new_at _ _ rfl)
                  have XG : X ≠ w8.heap.size := by have := E8.out.hX; have := blt E8.out.k0; omega
                  have RA := hide (show rowX X (w8.alloc (.cells (vArr axesL) 47)) ≠ some w8.heap.size by
                    rw [rowX_below (by have := E8.out.hX; have := blt E8.out.k0; omega) b9]
                    intro e
                    have := (E8.out.row _ e).2
                    omega)
                  clear b9 J8 E8
                  gi_wp2_with fail
                  gi_loopw [62] (fun i wr => ∃ k : Nat, k ≤ 6 ∧ i = .int .i64 k ∧ J (h.filter usable ++ meanL a b ++ axesL.take k) wr ∧ CE w0 X L (.slice A a.length ca) (.slice B b.length cb) (.slice H h.length ch) ra rb wr ∧ wr.heap[w8.heap.size]? = some (.cells (vArr axesL) 47 (0, 0)) ∧ rowX X wr ≠ some w8.heap.size) (fun i _ => 6 - (intOf i).toNat)
                  case atStart => exact ⟨0, by omega, rfl, by simpa using J9.out, E9.out, KA.out, RA.out⟩
                  case round =>
                    clear E9 J9 KA RA
                    obtain ⟨k, hk, rfl, hJr, hEr, hKr, hRr⟩ := hrel
                    obtain ⟨wq, rfl⟩ : ∃ wq : World, wq = wr := ⟨_, rfl⟩
                    have JR := hide hJr; have ER := hide hEr; have KR := hide hKr; have RR := hide hRr
                    clear hJr hEr hKr hRr
                    by_cases hlt : k < 6
                    · have hlA : k < axesL.length := hlt
                      obtain ⟨d0, d1, d2⟩ := vArr_get hlA
                      have TS := hide (List.take_succ_eq_append_getElem hlA)
                      obtain ⟨x, hx⟩ : ∃ x, axesL[k] = x := ⟨_, rfl⟩
                      rw [hx] at d0 d1 d2 TS
                      have e0 := (blk_cell KR.out _).trans d0
                      have e1 := (blk_cell KR.out _).trans d1
                      have e2 := (blk_cell KR.out _).trans d2
                      have yK := blt KR.out
                      have hk0 : (0 : Int) ≤ (k : Int) := Int.natCast_nonneg _
                      have hk1 : (k : Int) < 6 := by omega
                      have b9 : Below wq.heap.size wq (wq.alloc (.cells #[.int .i64 x.x, .int .i64 x.y, .int .i64 x.z] 47)) := (Below.refl _ _).alloc (Nat.le_refl _) _
                      have E9 := hide (ER.out.below b9)
                      have J9 := hide (abid HJ.out JR.out b9)
                      have K9 := hide ((b9.block _ yK).trans KR.out)
                      have R9 := hide (show rowX X (wq.alloc (.cells #[.int .i64 x.x, .int .i64 x.y, .int .i64 x.z] 47)) ≠ some w8.heap.size by
                        rw [rowX_below (by have := ER.out.hX; have := blt ER.out.k0; omega) b9]
                        exact RR.out)
                      obtain ⟨fn, tmps, assign, body, hy, hR⟩ := HY.out _ x _ J9.out (by rw [HC.out]; simp only [List.length_append, List.length_take]; have : axesL.length = 6 := rfl; omega)
                      unfold encV at hy
                      clear d0 d1 d2 hx b9 ER JR KR RR
                      gi_wp2_with fail
                      refine ⟨fun k => (by cases k), hR.mono ?_⟩
                      clear hR hy e0 e1 e2
                      rintro e wy (⟨rfl, hJ8, hk8⟩ | ⟨rfl, hJ8⟩)
                      · have J8 := hide (show J (h.filter usable ++ meanL a b ++ axesL.take (k + 1)) wy by rw [TS.out, ← List.append_assoc]; exact hJ8)
                        have E8 := hide (E9.out.kp hk8)
                        have K8 := hide (hk8.same _ _ _ _ (blt K9.out) (Ne.symm XG) R9.out K9.out)
                        have R8 := hide (show rowX X wy ≠ some w8.heap.size by
                          rcases hk8.row with e | ⟨g, e, g1, _⟩
                          · rw [e]; exact R9.out
                          · rw [e]; intro e'; cases e'; have := blt K9.out; omega)
                        clear hJ8 hk8 E9 J9 K9 R9
                        gi_wp2_with fail
                        go_roundw
                        case rel => exact ⟨k + 1, by omega, by simp, J8.out, E8.out, K8.out, R8.out⟩
                        case measure => simp [intOf] <;> omega
                      · have J8 := hide (show Jx (h.filter usable ++ meanL a b ++ axesL.take (k + 1)) wy by rw [TS.out, ← List.append_assoc]; exact hJ8)
                        clear hJ8
                        gi_wp2_with fail
                        refine bodyPost_ret (results_none rfl _ _ _) rfl ?_
                        exact ⟨⟨_, rfl⟩, .inr ⟨_, by rw [HC.out]; exact pre_axes _ _ _ _ _, J8.out⟩⟩
                    · obtain rfl : k = 6 := by omega
                      have JQ := hide (show J (h.filter usable ++ meanL a b ++ axesL) wq from JR.out)
                      clear JR KR RR
                      have HBQ := hide ER.out.bel
                      have R0 : 0 ≤ ra + rb := by have := HRA.out; have := HRB.out; omega
                      have R1 : ra + rb ≤ 2097152 := by have := HRA.out; have := HRB.out; omega
                      have wrp := IntWalk.i64_in (ra + rb) (by omega)
                      obtain ⟨r, hr⟩ : ∃ r, searchN (ctrs a) (ctrs b) (ra + rb) 64 = r := ⟨_, rfl⟩
                      have HSN := hide hr
                      gi_wp2_with fail
                      refine wpIn_wide.2 ?_
                      go_cut [13] (fun s13 wx => SRel wq r a.length b.length s13 wx)
                      case first =>
                        have d0 := blk_cell ER.out.k0 0; have d1 := blk_cell ER.out.k1 0; have d2 := blk_cell ER.out.k2 0; have d3 := blk_cell ER.out.k3 0
                        simp at d0 d1 d2 d3
                        have y0 := blt ER.out.k0; have y1 := blt ER.out.k1; have y2 := blt ER.out.k2; have y3 := blt ER.out.k3
                        have e0 := d0; have e1 := d1; have e2 := d2; have e3 := d3
                        have gg : Below wq.heap.size wq wq.drew := (Below.refl _ _).drew
                        go_region_held3 (fun w' => w'.cell? ⟨L, 0, none⟩ = some (.slice A a.length ca) ∧ w'.cell? ⟨L + 1, 0, none⟩ = some (.int .i64 ra) ∧ w'.cell? ⟨L + 2, 0, none⟩ = some (.slice B b.length cb) ∧ w'.cell? ⟨L + 3, 0, none⟩ = some (.int .i64 rb))
                          (first | with_reducible exact ⟨e0, e1, e2, e3⟩ | with_reducible exact ⟨(Below.cell (p := ⟨L, 0, none⟩) (by first | with_reducible exact gg | with_reducible exact gg.alloc gg.size _ | with_reducible exact ((Below.refl _ _).alloc (Nat.le_refl _) _).drew | with_reducible exact below_ch7 gg o7 _ _ _ _ _ _ _) y0).trans d0, (Below.cell (p := ⟨L + 1, 0, none⟩) (by first | with_reducible exact gg | with_reducible exact gg.alloc gg.size _ | with_reducible exact ((Below.refl _ _).alloc (Nat.le_refl _) _).drew | with_reducible exact below_ch7 gg o7 _ _ _ _ _ _ _) y1).trans d1, (Below.cell (p := ⟨L + 2, 0, none⟩) (by first | with_reducible exact gg | with_reducible exact gg.alloc gg.size _ | with_reducible exact ((Below.refl _ _).alloc (Nat.le_refl _) _).drew | with_reducible exact below_ch7 gg o7 _ _ _ _ _ _ _) y2).trans d2, (Below.cell (p := ⟨L + 3, 0, none⟩) (by first | with_reducible exact gg | with_reducible exact gg.alloc gg.size _ | with_reducible exact ((Below.refl _ _).alloc (Nat.le_refl _) _).drew | with_reducible exact below_ch7 gg o7 _ _ _ _ _ _ _) y3).trans d3⟩ | go_keep)
                          (first | (go_at_call 171; (with_reducible refine (centers_any A a ca _ (HA.out.below (HBQ.out.trans (Below.mono (by first | with_reducible exact gg | with_reducible exact gg.alloc gg.size _ | with_reducible exact ((Below.refl _ _).alloc (Nat.le_refl _) _).drew) HBQ.out.size))) HPA.out).mono ?_); rintro e wa ⟨A3, c3, rfl, s3, hb⟩; (first | (have s5 := SlV.below s5 hb) | (have s5 := SlV.below (slv_alloc s5 _) hb) | skip); (first | (have K7 := newB hb; have o7 := gg.size) | (have K7 := newBd hb; have o7 := Nat.le_refl wq.heap.size) | (have K7 := (hb.block _ y7).trans K7) | skip); have gg := stepB hb (by first | with_reducible exact gg | with_reducible exact gg.alloc gg.size _ | with_reducible exact ((Below.refl _ _).alloc (Nat.le_refl _) _).drew); (try (have y7 := blt K7)); (try (have q7 := blk_cell K7)); (try (have r7 := blk_frozen K7)); have e0 := (gg.cell (p := ⟨L, 0, none⟩) y0).trans d0; have e1 := (gg.cell (p := ⟨L + 1, 0, none⟩) y1).trans d1; have e2 := (gg.cell (p := ⟨L + 2, 0, none⟩) y2).trans d2; have e3 := (gg.cell (p := ⟨L + 3, 0, none⟩) y3).trans d3) | (go_at_call 171; (with_reducible refine (centers_any B b cb _ (HB.out.below (HBQ.out.trans (Below.mono (by first | with_reducible exact gg | with_reducible exact gg.alloc gg.size _ | with_reducible exact ((Below.refl _ _).alloc (Nat.le_refl _) _).drew) HBQ.out.size))) HPB.out).mono ?_); rintro e wb ⟨A5, c5, rfl, s5, hb⟩; (first | (have s3 := SlV.below s3 hb) | (have s3 := SlV.below (slv_alloc s3 _) hb) | skip); (first | (have K7 := newB hb; have o7 := gg.size) | (have K7 := newBd hb; have o7 := Nat.le_refl wq.heap.size) | (have K7 := (hb.block _ y7).trans K7) | skip); have gg := stepB hb (by first | with_reducible exact gg | with_reducible exact gg.alloc gg.size _ | with_reducible exact ((Below.refl _ _).alloc (Nat.le_refl _) _).drew); (try (have y7 := blt K7)); (try (have q7 := blk_cell K7)); (try (have r7 := blk_frozen K7)); have e0 := (gg.cell (p := ⟨L, 0, none⟩) y0).trans d0; have e1 := (gg.cell (p := ⟨L + 1, 0, none⟩) y1).trans d1; have e2 := (gg.cell (p := ⟨L + 2, 0, none⟩) y2).trans d2; have e3 := (gg.cell (p := ⟨L + 3, 0, none⟩) y3).trans d3) | (go_at_call 81; (with_reducible refine (searchC A3 A5 a b c3 c5 (ra + rb) r HSN.out _ (by first | exact s3 | exact slv_alloc s3 _) (by first | exact s5 | exact slv_alloc s5 _) HPA.out HPB.out R0 R1).mono ?_); rintro e wz ⟨gL, gR, rfl, hb⟩; (first | (have K7 := newB hb; have o7 := gg.size) | (have K7 := newBd hb; have o7 := Nat.le_refl wq.heap.size) | (have K7 := (hb.block _ y7).trans K7) | skip); have gg := stepB hb (by first | with_reducible exact gg | with_reducible exact gg.alloc gg.size _ | with_reducible exact ((Below.refl _ _).alloc (Nat.le_refl _) _).drew); (try (have y7 := blt K7)); (try (have q7 := blk_cell K7)); (try (have r7 := blk_frozen K7)); have e0 := (gg.cell (p := ⟨L, 0, none⟩) y0).trans d0; have e1 := (gg.cell (p := ⟨L + 1, 0, none⟩) y1).trans d1; have e2 := (gg.cell (p := ⟨L + 2, 0, none⟩) y2).trans d2; have e3 := (gg.cell (p := ⟨L + 3, 0, none⟩) y3).trans d3))
                        all_goals
                          go_wp2_with fail
                          go_meet
                          case rel =>
                            first
                              | with_reducible exact sr1 gg
                              | with_reducible exact sr2 gg o7 K7
                      case rest =>
                        obtain ⟨g, gL, gR, rfl, og, bg, kg⟩ := hcut
                        have EC := hide (ER.out.below bg)
                        have JC := hide (abid HJ.out JQ.out bg)
                        have KG := hide kg
                        clear bg kg ER JQ wrp hr
                        have cg := blk_cell KG.out; simp only [near7] at cg
                        have yg := blt KG.out
                        gi_wp2_with fail
                        clear cg
                        refine viaW (usable_any r.2.N _) ?_
                        rintro e we ⟨rfl, hbe⟩
                        have KGe := hide ((hbe.block _ yg).trans KG.out)
                        have JE := hide (abid HJ.out JC.out hbe)
                        clear hbe KG JC EC yg
                        cases hu : usable r.2.N
                        · have SL := hide (show searchL a ra b rb = [] by unfold searchL; rw [HSN.out, hu]; rfl)
                          clear hu
                          gi_wp2_with (refine ⟨fun _ h => (by cases h), ?_⟩)
                          refine bodyPost_ret (results_none rfl _ _ _) rfl ?_
                          exact ⟨⟨_, rfl⟩, .inl ⟨_, rfl, by rw [HC.out, SL.out, List.append_nil, ← List.append_assoc]; exact JE.out⟩⟩
                        · have SL := hide (show searchL a ra b rb = [r.2.N] by unfold searchL; rw [HSN.out, hu]; rfl)
                          have cg := blk_cell KGe.out; simp only [near7] at cg
                          have yg := blt KGe.out
                          obtain ⟨fn, tmps, assign, body, hy, hR⟩ := HY.out _ r.2.N _ JE.out (by rw [HC.out, SL.out]; simp only [List.length_append, List.length_cons, List.length_nil]; omega)
                          unfold encV at hy
                          clear hu
                          gi_wp2_with fail
                          refine ⟨fun k => (by cases k), hR.mono ?_⟩
                          clear hR hy cg yg
                          have EQ := hide (show cands a ra b rb h = h.filter usable ++ meanL a b ++ axesL ++ [r.2.N] by rw [HC.out, SL.out]; simp only [List.append_assoc])
                          rintro e wy (⟨rfl, hJ8, hk8⟩ | ⟨rfl, hJ8⟩)
                          · have J8 := hide hJ8
                            clear hJ8 hk8
                            gi_wp2_with fail
                            refine bodyPost_ret (results_none rfl _ _ _) rfl ?_
                            exact ⟨⟨_, rfl⟩, .inl ⟨_, rfl, by rw [EQ.out]; exact J8.out⟩⟩
                          · have J8 := hide hJ8
                            clear hJ8
                            gi_wp2_with fail
                            refine bodyPost_ret (results_none rfl _ _ _) rfl ?_
                            exact ⟨⟨_, rfl⟩, .inr ⟨_, by rw [EQ.out]; exact List.prefix_refl _, J8.out⟩⟩
                · have J8 := hide hJ8
                  clear hJ8
                  gi_wp2_with fail
                  refine bodyPost_ret (results_none rfl _ _ _) rfl ?_
                  exact ⟨⟨_, rfl⟩, .inr ⟨_, by rw [HC.out, ML.out, ← List.append_assoc]; exact List.prefix_append _ _, J8.out⟩⟩
              · have ML := hide (show meanL a b = [] by unfold meanL; rw [hz]; rfl)
                clear hz hx
                have J8 := hide (show J (h.filter usable ++ meanL a b) (w6.alloc (.cells #[.int .i64 x.x, .int .i64 x.y, .int .i64 x.z] 47)) by rw [ML.out, List.append_nil]; exact J7.out)
                obtain ⟨w8, hw8⟩ : ∃ w8, (w6.alloc (.cells #[.int .i64 x.x, .int .i64 x.y, .int .i64 x.z] 47)) = w8 := ⟨_, rfl⟩
                rw [hw8] at E7 J8
                have E8 := E7
                clear E7 J7
                simp only [Bool.not_true]
                gi_wp2_with fail
                refine ⟨fun _ h => (by cases h), ?_⟩
                clear hw8
                gi_wp2_with fail
                refine viaW (axes_at _) ?_
                rintro e w9 ⟨rfl, rfl⟩
                have b9 : Below w8.heap.size w8 (w8.alloc (.cells (vArr axesL) 47)) := (Below.refl _ _).alloc (Nat.le_refl _) _
                have E9 := hide (E8.out.below b9)
                have J9 := hide (abid HJ.out J8.out b9)
                have KA := hide (show (w8.alloc (.cells (vArr axesL) 47)).heap[w8.heap.size]? = some (.cells (vArr axesL) 47 (0, 0)) from new_at _ _ rfl)
                have XG : X ≠ w8.heap.size := by have := E8.out.hX; have := blt E8.out.k0; omega
                have RA := hide (show rowX X (w8.alloc (.cells (vArr axesL) 47)) ≠ some w8.heap.size by
                  rw [rowX_below (by have := E8.out.hX; have := blt E8.out.k0; omega) b9]
                  intro e
                  have := (E8.out.row _ e).2
                  omega)
                clear b9 J8 E8
                gi_wp2_with fail
                gi_loopw [62] (fun i wr => ∃ k : Nat, k ≤ 6 ∧ i = .int .i64 k ∧ J (h.filter usable ++ meanL a b ++ axesL.take k) wr ∧ CE w0 X L (.slice A a.length ca) (.slice B b.length cb) (.slice H h.length ch) ra rb wr ∧ wr.heap[w8.heap.size]? = some (.cells (vArr axesL) 47 (0, 0)) ∧ rowX X wr ≠ some w8.heap.size) (fun i _ => 6 - (intOf i).toNat)
                case atStart => exact ⟨0, by omega, rfl, by simpa using J9.out, E9.out, KA.out, RA.out⟩
                case round =>
                  clear E9 J9 KA RA
                  obtain ⟨k, hk, rfl, hJr, hEr, hKr, hRr⟩ := hrel
                  obtain ⟨wq, rfl⟩ : ∃ wq : World, wq = wr := ⟨_, rfl⟩
                  have JR := hide hJr; have ER := hide hEr; have KR := hide hKr; have RR := hide hRr
                  clear hJr hEr hKr hRr
                  by_cases hlt : k < 6
                  · have hlA : k < axesL.length := hlt
                    obtain ⟨d0, d1, d2⟩ := vArr_get hlA
                    have TS := hide (List.take_succ_eq_append_getElem hlA)
                    obtain ⟨x, hx⟩ : ∃ x, axesL[k] = x := ⟨_, rfl⟩
                    rw [hx] at d0 d1 d2 TS
                    have e0 := (blk_cell KR.out _).trans d0
                    have e1 := (blk_cell KR.out _).trans d1
                    have e2 := (blk_cell KR.out _).trans d2
                    have yK := blt KR.out
                    have hk0 : (0 : Int) ≤ (k : Int) := Int.natCast_nonneg _
                    have hk1 : (k : Int) < 6 := by omega
                    have b9 : Below wq.heap.size wq (wq.alloc (.cells #[.int .i64 x.x, .int .i64 x.y, .int .i64 x.z] 47)) := (Below.refl _ _).alloc (Nat.le_refl _) _
                    have E9 := hide (ER.out.below b9)
                    have J9 := hide (abid HJ.out JR.out b9)
                    have K9 := hide ((b9.block _ yK).trans KR.out)
                    have R9 := hide (show rowX X (wq.alloc (.cells #[.int .i64 x.x, .int .i64 x.y, .int .i64 x.z] 47)) ≠ some w8.heap.size by
                      rw [rowX_below (by have := ER.out.hX; have := blt ER.out.k0; omega) b9]
                      exact RR.out)
                    obtain ⟨fn, tmps, assign, body, hy, hR⟩ := HY.out _ x _ J9.out (by rw [HC.out]; simp only [List.length_append, List.length_take]; have : axesL.length = 6 := rfl; omega)
                    unfold encV at hy
                    clear d0 d1 d2 hx b9 ER JR KR RR
                    gi_wp2_with fail
                    refine ⟨fun k => (by cases k), hR.mono ?_⟩
                    clear hR hy e0 e1 e2
                    rintro e wy (⟨rfl, hJ8, hk8⟩ | ⟨rfl, hJ8⟩)
                    · have J8 := hide (show J (h.filter usable ++ meanL a b ++ axesL.take (k + 1)) wy by rw [TS.out, ← List.append_assoc]; exact hJ8)
                      have E8 := hide (E9.out.kp hk8)
                      have K8 := hide (hk8.same _ _ _ _ (blt K9.out) (Ne.symm XG) R9.out K9.out)
                      have R8 := hide (show rowX X wy ≠ some w8.heap.size by
                        rcases hk8.row with e | ⟨g, e, g1, _⟩
                        · rw [e]; exact R9.out
                        · rw [e]; intro e'; cases e'; have := blt K9.out; omega)
                      clear hJ8 hk8 E9 J9 K9 R9
                      gi_wp2_with fail
                      go_roundw
                      case rel => exact ⟨k + 1, by omega, by simp, J8.out, E8.out, K8.out, R8.out⟩
                      case measure => simp [intOf] <;> omega
                    · have J8 := hide (show Jx (h.filter usable ++ meanL a b ++ axesL.take (k + 1)) wy by rw [TS.out, ← List.append_assoc]; exact hJ8)
                      clear hJ8
                      gi_wp2_with fail
                      refine bodyPost_ret (results_none rfl _ _ _) rfl ?_
                      exact ⟨⟨_, rfl⟩, .inr ⟨_, by rw [HC.out]; exact pre_axes _ _ _ _ _, J8.out⟩⟩
                  · obtain rfl : k = 6 := by omega
                    have JQ := hide (show J (h.filter usable ++ meanL a b ++ axesL) wq from JR.out)
                    clear JR KR RR
                    have HBQ := hide ER.out.bel
                    have R0 : 0 ≤ ra + rb := by have := HRA.out; have := HRB.out; omega
                    have R1 : ra + rb ≤ 2097152 := by have := HRA.out; have := HRB.out; omega
                    have wrp := IntWalk.i64_in (ra + rb) (by omega)
                    obtain ⟨r, hr⟩ : ∃ r, searchN (ctrs a) (ctrs b) (ra + rb) 64 = r := ⟨_, rfl⟩
                    have HSN := hide hr
                    gi_wp2_with fail
                    refine wpIn_wide.2 ?_
                    go_cut [13] (fun s13 wx => SRel wq r a.length b.length s13 wx)
                    case first =>
                      have d0 := blk_cell ER.out.k0 0; have d1 := blk_cell ER.out.k1 0; have d2 := blk_cell ER.out.k2 0; have d3 := blk_cell ER.out.k3 0
                      simp at d0 d1 d2 d3
                      have y0 := blt ER.out.k0; have y1 := blt ER.out.k1; have y2 := blt ER.out.k2; have y3 := blt ER.out.k3
                      have e0 := d0; have e1 := d1; have e2 := d2; have e3 := d3
                      have gg : Below wq.heap.size wq wq.drew := (Below.refl _ _).drew
                      go_region_held3 (fun w' => w'.cell? ⟨L, 0, none⟩ = some (.slice A a.length ca) ∧ w'.cell? ⟨L + 1, 0, none⟩ = some (.int .i64 ra) ∧ w'.cell? ⟨L + 2, 0, none⟩ = some (.slice B b.length cb) ∧ w'.cell? ⟨L + 3, 0, none⟩ = some (.int .i64 rb))
                        (first | with_reducible exact ⟨e0, e1, e2, e3⟩ | with_reducible exact ⟨(Below.cell (p := ⟨L, 0, none⟩) (by first | with_reducible exact gg | with_reducible exact gg.alloc gg.size _ | with_reducible exact ((Below.refl _ _).alloc (Nat.le_refl _) _).drew | with_reducible exact below_ch7 gg o7 _ _ _ _ _ _ _) y0).trans d0, (Below.cell (p := ⟨L + 1, 0, none⟩) (by first | with_reducible exact gg | with_reducible exact gg.alloc gg.size _ | with_reducible exact ((Below.refl _ _).alloc (Nat.le_refl _) _).drew | with_reducible exact below_ch7 gg o7 _ _ _ _ _ _ _) y1).trans d1, (Below.cell (p := ⟨L + 2, 0, none⟩) (by first | with_reducible exact gg | with_reducible exact gg.alloc gg.size _ | with_reducible exact ((Below.refl _ _).alloc (Nat.le_refl _) _).drew | with_reducible exact below_ch7 gg o7 _ _ _ _ _ _ _) y2).trans d2, (Below.cell (p := ⟨L + 3, 0, none⟩) (by first | with_reducible exact gg | with_reducible exact gg.alloc gg.size _ | with_reducible exact ((Below.refl _ _).alloc (Nat.le_refl _) _).drew | with_reducible exact below_ch7 gg o7 _ _ _ _ _ _ _) y3).trans d3⟩ | go_keep)
                        (first | (go_at_call 171; (with_reducible refine (centers_any A a ca _ (HA.out.below (HBQ.out.trans (Below.mono (by first | with_reducible exact gg | with_reducible exact gg.alloc gg.size _ | with_reducible exact ((Below.refl _ _).alloc (Nat.le_refl _) _).drew) HBQ.out.size))) HPA.out).mono ?_); rintro e wa ⟨A3, c3, rfl, s3, hb⟩; (first | (have s5 := SlV.below s5 hb) | (have s5 := SlV.below (slv_alloc s5 _) hb) | skip); (first | (have K7 := newB hb; have o7 := gg.size) | (have K7 := newBd hb; have o7 := Nat.le_refl wq.heap.size) | (have K7 := (hb.block _ y7).trans K7) | skip); have gg := stepB hb (by first | with_reducible exact gg | with_reducible exact gg.alloc gg.size _ | with_reducible exact ((Below.refl _ _).alloc (Nat.le_refl _) _).drew); (try (have y7 := blt K7)); (try (have q7 := blk_cell K7)); (try (have r7 := blk_frozen K7)); have e0 := (gg.cell (p := ⟨L, 0, none⟩) y0).trans d0; have e1 := (gg.cell (p := ⟨L + 1, 0, none⟩) y1).trans d1; have e2 := (gg.cell (p := ⟨L + 2, 0, none⟩) y2).trans d2; have e3 := (gg.cell (p := ⟨L + 3, 0, none⟩) y3).trans d3) | (go_at_call 171; (with_reducible refine (centers_any B b cb _ (HB.out.below (HBQ.out.trans (Below.mono (by first | with_reducible exact gg | with_reducible exact gg.alloc gg.size _ | with_reducible exact ((Below.refl _ _).alloc (Nat.le_refl _) _).drew) HBQ.out.size))) HPB.out).mono ?_); rintro e wb ⟨A5, c5, rfl, s5, hb⟩; (first | (have s3 := SlV.below s3 hb) | (have s3 := SlV.below (slv_alloc s3 _) hb) | skip); (first | (have K7 := newB hb; have o7 := gg.size) | (have K7 := newBd hb; have o7 := Nat.le_refl wq.heap.size) | (have K7 := (hb.block _ y7).trans K7) | skip); have gg := stepB hb (by first | with_reducible exact gg | with_reducible exact gg.alloc gg.size _ | with_reducible exact ((Below.refl _ _).alloc (Nat.le_refl _) _).drew); (try (have y7 := blt K7)); (try (have q7 := blk_cell K7)); (try (have r7 := blk_frozen K7)); have e0 := (gg.cell (p := ⟨L, 0, none⟩) y0).trans d0; have e1 := (gg.cell (p := ⟨L + 1, 0, none⟩) y1).trans d1; have e2 := (gg.cell (p := ⟨L + 2, 0, none⟩) y2).trans d2; have e3 := (gg.cell (p := ⟨L + 3, 0, none⟩) y3).trans d3) | (go_at_call 81; (with_reducible refine (searchC A3 A5 a b c3 c5 (ra + rb) r HSN.out _ (by first | exact s3 | exact slv_alloc s3 _) (by first | exact s5 | exact slv_alloc s5 _) HPA.out HPB.out R0 R1).mono ?_); rintro e wz ⟨gL, gR, rfl, hb⟩; (first | (have K7 := newB hb; have o7 := gg.size) | (have K7 := newBd hb; have o7 := Nat.le_refl wq.heap.size) | (have K7 := (hb.block _ y7).trans K7) | skip); have gg := stepB hb (by first | with_reducible exact gg | with_reducible exact gg.alloc gg.size _ | with_reducible exact ((Below.refl _ _).alloc (Nat.le_refl _) _).drew); (try (have y7 := blt K7)); (try (have q7 := blk_cell K7)); (try (have r7 := blk_frozen K7)); have e0 := (gg.cell (p := ⟨L, 0, none⟩) y0).trans d0; have e1 := (gg.cell (p := ⟨L + 1, 0, none⟩) y1).trans d1; have e2 := (gg.cell (p := ⟨L + 2, 0, none⟩) y2).trans d2; have e3 := (gg.cell (p := ⟨L + 3, 0, none⟩) y3).trans d3))
                      all_goals
                        go_wp2_with fail
                        go_meet
                        case rel =>
                          first
                            | with_reducible exact sr1 gg
                            | with_reducible exact sr2 gg o7 K7
                    case rest =>
                      obtain ⟨g, gL, gR, rfl, og, bg, kg⟩ := hcut
                      have EC := hide (ER.out.below bg)
                      have JC := hide (abid HJ.out JQ.out bg)
                      have KG := hide kg
                      clear bg kg ER JQ wrp hr
                      have cg := blk_cell KG.out; simp only [near7] at cg
                      have yg := blt KG.out
                      gi_wp2_with fail
                      clear cg
                      refine viaW (usable_any r.2.N _) ?_
                      rintro e we ⟨rfl, hbe⟩
                      have KGe := hide ((hbe.block _ yg).trans KG.out)
                      have JE := hide (abid HJ.out JC.out hbe)
                      clear hbe KG JC EC yg
                      cases hu : usable r.2.N
                      · have SL := hide (show searchL a ra b rb = [] by unfold searchL; rw [HSN.out, hu]; rfl)
                        clear hu
                        gi_wp2_with (refine ⟨fun _ h => (by cases h), ?_⟩)
                        refine bodyPost_ret (results_none rfl _ _ _) rfl ?_
                        exact ⟨⟨_, rfl⟩, .inl ⟨_, rfl, by rw [HC.out, SL.out, List.append_nil, ← List.append_assoc]; exact JE.out⟩⟩
                      · have SL := hide (show searchL a ra b rb = [r.2.N] by unfold searchL; rw [HSN.out, hu]; rfl)
                        have cg := blk_cell KGe.out; simp only [near7] at cg
                        have yg := blt KGe.out
                        obtain ⟨fn, tmps, assign, body, hy, hR⟩ := HY.out _ r.2.N _ JE.out (by rw [HC.out, SL.out]; simp only [List.length_append, List.length_cons, List.length_nil]; omega)
                        unfold encV at hy
                        clear hu
                        gi_wp2_with fail
                        refine ⟨fun k => (by cases k), hR.mono ?_⟩
                        clear hR hy cg yg
                        have EQ := hide (show cands a ra b rb h = h.filter usable ++ meanL a b ++ axesL ++ [r.2.N] by rw [HC.out, SL.out]; simp only [List.append_assoc])
                        rintro e wy (⟨rfl, hJ8, hk8⟩ | ⟨rfl, hJ8⟩)
                        · have J8 := hide hJ8
                          clear hJ8 hk8
                          gi_wp2_with fail
                          refine bodyPost_ret (results_none rfl _ _ _) rfl ?_
                          exact ⟨⟨_, rfl⟩, .inl ⟨_, rfl, by rw [EQ.out]; exact J8.out⟩⟩
                        · have J8 := hide hJ8
                          clear hJ8
                          gi_wp2_with fail
                          refine bodyPost_ret (results_none rfl _ _ _) rfl ?_
                          exact ⟨⟨_, rfl⟩, .inr ⟨_, by rw [EQ.out]; exact List.prefix_refl _, J8.out⟩⟩
        · rw [decide_eq_false hrb]
          have HC := hide (show cands a ra b rb h = [] by simp [cands, candOk, radOk, hrb])
          clear hrb
          gi_wp2_with (refine ⟨trivial, ?_⟩)
          refine bodyPost_ret (results_none rfl _ _ _) rfl ?_
          rw [HC.out]
          exact ⟨⟨_, rfl⟩, .inl ⟨[], rfl, J2.out⟩⟩
      · rw [decide_eq_false hra]
        have HC := hide (show cands a ra b rb h = [] by simp [cands, candOk, radOk, hra])
        clear hra
        gi_wp2_with (refine ⟨trivial, ?_⟩)
        refine bodyPost_ret (results_none rfl _ _ _) rfl ?_
        rw [HC.out]
        exact ⟨⟨_, rfl⟩, .inl ⟨[], rfl, J2.out⟩⟩
end Go.Proofs.Ytionbckpgfaneaa
