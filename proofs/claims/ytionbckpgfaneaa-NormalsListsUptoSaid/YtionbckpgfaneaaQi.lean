/- Walks of the normals, part i: normals.Find. -/
import Derived.Test.YtionbckpgfaneaaQh
import Derived.Test.YtionbckpgfaneaaXd
import Derived.RecoverIn
namespace Go.Proofs.Ytionbckpgfaneaa
open Go.RowKit Go.Shelf
set_option maxHeartbeats 4000000
set_option maxRecDepth 100000
attribute [local go_sem] Oper.semAt_some
theorem cand_stops (n : Nat) (w0 : World) (X L : Nat) (A B H : Option Addr) (ca cb ch : Nat) (a b : List IV) (h : List V3) (ra rb : Int) (sa : SlI w0 A a) (sb : SlI w0 B b) (sh : SlV w0 H h) (m1 : a.length ≤ 9223372036854775807) (m2 : b.length ≤ 9223372036854775807) (m3 : h.length ≤ 9223372036854775807) (w : World) (hE : CE w0 X L (.slice A a.length ca) (.slice B b.length cb) (.slice H h.length ch) ra rb w) :
    SeqStopsK Fence.wide n Try.prog 172 #[ptrO L, ptrO (L + 2), ptrO (L + 1), ptrO (L + 3), ptrO (L + 4)] encV (KpC w0.heap.size X) (fun ys => ys = cands a ra b rb h) (fun pre => pre <+: cands a ra b rb h) (cands a ra b rb h).length w := fun l J Jx W hW hJ hJx hY h0 =>
  cand172 n l w0 X L A B H ca cb ch a b h ra rb sa sb sh m1 m2 m3 J Jx W (hE.below hW) hJ hJx hY h0
theorem idle134 (p q : Addr) (w : World) (n : Nat) :
    CallsDIn Fence.wide n Try.prog 134 #[.pointer (some p), .pointer (some q)] .returning w fun e u' w' => e = .returned (.tuple #[]) ∧ u' = .returning ∧ w' = w := by
  refine callsDIn_of_wpSIn Try.func134 rfl trivial fun c₀ cs hu => ?_
  apply wpSIn_seq
  apply wpSIn_region
  simp [wpOpsSIn, go_sem, recoverD, hu, Try.ntmps134, Exit.thenS]
  refine wpSIn_cond (t := false) (by simp [Act.eval, Array.replicate]) ?_
  simp only [Bool.false_eq_true, if_false]
  refine wpSIn_of_wpIn rfl (wpIn_skip ?_)
  cases c₀
  simp_all [bodyPostS, results, Try.results134]
noncomputable def findR (o : Option V3) : Value := match o with | some n => .tuple #[.agg #[.int .i64 n.x, .int .i64 n.y, .int .i64 n.z], .bool true] | none => .tuple #[.agg #[.int .i64 0, .int .i64 0, .int .i64 0], .bool false]
/-- what Find's own variables hold -/
structure FIv (w W6 : World) (A B : Value) (ra rb : Int) (W : World) : Prop where
  bel : Below w.heap.size w W
  k0 : W.heap[w.heap.size]? = some (.cells #[A] 23 (0, 0))
  k1 : W.heap[w.heap.size + 1]? = some (.cells #[.int .i64 ra] 2 (0, 0))
  k2 : W.heap[w.heap.size + 1 + 1]? = some (.cells #[B] 23 (0, 0))
  k3 : W.heap[w.heap.size + 1 + 1 + 1]? = some (.cells #[.int .i64 rb] 2 (0, 0))
  k4 : W.heap[w.heap.size + 1 + 1 + 1 + 1]? = some (.cells #[.int .i64 0, .int .i64 0, .int .i64 0] 47 (0, 0))
  k5 : W.heap[w.heap.size + 1 + 1 + 1 + 1 + 1]? = some (.cells #[.bool false] 4 (0, 0))
theorem FIv.below {w W6 W W' : World} {A B : Value} {ra rb : Int} (h : FIv w W6 A B ra rb W) (hb : Below W.heap.size W W') : FIv w W6 A B ra rb W' :=
  ⟨h.bel.trans (hb.mono h.bel.size), (hb.block _ (blt h.k0)).trans h.k0, (hb.block _ (blt h.k1)).trans h.k1, (hb.block _ (blt h.k2)).trans h.k2, (hb.block _ (blt h.k3)).trans h.k3, (hb.block _ (blt h.k4)).trans h.k4, (hb.block _ (blt h.k5)).trans h.k5⟩
theorem FIv.own {β : Type} {w W6 : World} {A B : Value} {ra rb : Int} {N : Nat} (hN : w.heap.size ≤ N) : OwnFrom N (fun (_ : β) W => FIv w W6 A B ra rb W) := fun s X Y row hs hg hr => by
  have hs : FIv w W6 A B ra rb X := hs
  have ne : ∀ k cs t, X.heap[k]? = some (Obj.cells cs t (0, 0)) → Y.heap[k]? = some (Obj.cells cs t (0, 0)) := fun k cs t hk => by
    refine (hg.block k (blt hk) (fun e => ?_)).trans hk
    obtain ⟨_, o, ho, hc⟩ := hr k e.symm
    rw [hk] at ho
    cases ho
    cases hc
  exact ⟨hs.bel.grown hg hs.bel.size (fun k e => Nat.le_trans hN (hr k e).1), ne _ _ _ hs.k0, ne _ _ _ hs.k1, ne _ _ _ hs.k2, ne _ _ _ hs.k3, ne _ _ _ hs.k4, ne _ _ _ hs.k5⟩
/-- .. where a normal has been found -/
structure FIx (w : World) (x : V3) (W : World) : Prop where
  bel : Below w.heap.size w W
  k4 : W.heap[w.heap.size + 1 + 1 + 1 + 1]? = some (.cells #[.int .i64 x.x, .int .i64 x.y, .int .i64 x.z] 47 (0, 0))
  k5 : W.heap[w.heap.size + 1 + 1 + 1 + 1 + 1]? = some (.cells #[.bool true] 4 (0, 0))
theorem FIx.own {β : Type} {w : World} {x : V3} {N : Nat} (hN : w.heap.size ≤ N) : OwnFrom N (fun (_ : β) W => FIx w x W) := fun s X Y row hs hg hr => by
  have hs : FIx w x X := hs
  have ne : ∀ k cs t, X.heap[k]? = some (Obj.cells cs t (0, 0)) → Y.heap[k]? = some (Obj.cells cs t (0, 0)) := fun k cs t hk => by
    refine (hg.block k (blt hk) (fun e => ?_)).trans hk
    obtain ⟨_, o, ho, hc⟩ := hr k e.symm
    rw [hk] at ho
    cases ho
    cases hc
  exact ⟨hs.bel.grown hg hs.bel.size (fun k e => Nat.le_trans hN (hr k e).1), ne _ _ _ hs.k4, ne _ _ _ hs.k5⟩
theorem fiv_new (w : World) (A B : Value) (ra rb : Int) : FIv w ((((((w.alloc (.cells #[A] 23)).alloc (.cells #[.int .i64 ra] 2)).alloc (.cells #[B] 23)).alloc (.cells #[.int .i64 rb] 2)).alloc (.cells #[.int .i64 0, .int .i64 0, .int .i64 0] 47)).alloc (.cells #[.bool false] 4)) A B ra rb ((((((w.alloc (.cells #[A] 23)).alloc (.cells #[.int .i64 ra] 2)).alloc (.cells #[B] 23)).alloc (.cells #[.int .i64 rb] 2)).alloc (.cells #[.int .i64 0, .int .i64 0, .int .i64 0] 47)).alloc (.cells #[.bool false] 4)) := by
  refine ⟨?_, ?_, ?_, ?_, ?_, ?_, ?_⟩
  · exact ((((((Below.refl _ _).alloc (Nat.le_refl _) _).alloc (by simp) _).alloc (by simp <;> omega) _).alloc (by simp <;> omega) _).alloc (by simp <;> omega) _).alloc (by simp <;> omega) _
  · exact (Below.heap_alloc _ _ _ (by simp <;> omega)).trans ((Below.heap_alloc _ _ _ (by simp <;> omega)).trans ((Below.heap_alloc _ _ _ (by simp <;> omega)).trans ((Below.heap_alloc _ _ _ (by simp <;> omega)).trans ((Below.heap_alloc _ _ _ (by simp)).trans (new_at _ _ rfl)))))
  · exact (Below.heap_alloc _ _ _ (by simp <;> omega)).trans ((Below.heap_alloc _ _ _ (by simp <;> omega)).trans ((Below.heap_alloc _ _ _ (by simp <;> omega)).trans ((Below.heap_alloc _ _ _ (by simp)).trans (new_at _ _ (by simp)))))
  · exact (Below.heap_alloc _ _ _ (by simp <;> omega)).trans ((Below.heap_alloc _ _ _ (by simp <;> omega)).trans ((Below.heap_alloc _ _ _ (by simp)).trans (new_at _ _ (by simp))))
  · exact (Below.heap_alloc _ _ _ (by simp <;> omega)).trans ((Below.heap_alloc _ _ _ (by simp)).trans (new_at _ _ (by simp)))
  · exact (Below.heap_alloc _ _ _ (by simp)).trans (new_at _ _ (by simp))
  · exact new_at _ _ (by simp)
theorem below_five (W : World) (A B H : Value) (ra rb : Int) : Below W.heap.size W (five W A B H ra rb) := by
  unfold five
  exact (((((Below.refl _ _).alloc (Nat.le_refl _) _).alloc (by simp) _).alloc (by simp <;> omega) _).alloc (by simp <;> omega) _).alloc (by simp <;> omega) _
theorem ce_five {w W6 : World} {A B H : Value} {ra rb : Int} (h : FIv w W6 A B ra rb W6) (hz : W6.heap.size = w.heap.size + 6) : CE w (w.heap.size + 5) W6.heap.size A B H ra rb (five W6 A B H ra rb) := by
  have hb := below_five W6 A B H ra rb
  refine ⟨h.bel.trans (hb.mono h.bel.size), ?_, ?_, ?_, ?_, ?_, by omega, ?_⟩
  · unfold five; exact (Below.heap_alloc _ _ _ (by simp <;> omega)).trans ((Below.heap_alloc _ _ _ (by simp <;> omega)).trans ((Below.heap_alloc _ _ _ (by simp <;> omega)).trans ((Below.heap_alloc _ _ _ (by simp)).trans (new_at _ _ rfl))))
  · unfold five; exact (Below.heap_alloc _ _ _ (by simp <;> omega)).trans ((Below.heap_alloc _ _ _ (by simp <;> omega)).trans ((Below.heap_alloc _ _ _ (by simp)).trans (new_at _ _ (by simp))))
  · unfold five; exact (Below.heap_alloc _ _ _ (by simp <;> omega)).trans ((Below.heap_alloc _ _ _ (by simp)).trans (new_at _ _ (by simp)))
  · unfold five; exact (Below.heap_alloc _ _ _ (by simp)).trans (new_at _ _ (by simp))
  · unfold five; exact new_at _ _ (by simp)
  · intro g hg
    have k5 := (hb.block _ (blt h.k5)).trans h.k5
    unfold rowX at hg
    rw [show w.heap.size + 5 = w.heap.size + 1 + 1 + 1 + 1 + 1 from rfl, blk_cell k5] at hg
    cases hg
theorem viaW2 {n f : Nat} {args : Array Value} {w : World} {R R' : Ending → World → Prop} (h : Calls Try.prog f args w R) (hm : ∀ e w', R e w' → R' e w') : Fence.wide.fn f ∧ CallsIn Fence.wide n Try.prog f args w R' :=
  ⟨trivial, callsIn_wide.2 (Calls.mono h hm)⟩
theorem viaR {n f l : Nat} {args : Array Value} {w : World} {R R' : Ending → World → Prop} (h : Calls Try.prog f args w R) (hm : ∀ e w', R e w' → R' e w') : (Fence.wide.inRound l).fn f ∧ CallsIn (Fence.wide.inRound l) n Try.prog f args w R' :=
  ⟨trivial, CallsIn.inRound l (callsIn_wide.2 (Calls.mono h hm))⟩
theorem keepsFrom_below {W W' : World} (B : Nat) (hb : Below W.heap.size W W') : KeepsFrom B W W' := ⟨hb.size, fun k _ _ hk _ => (hb.block k (blt hk)).trans hk⟩
theorem leave93 (w : World) (tmps : Array Value) (X : World) (D : Nat) (x : V3) (t : Bool) (R : Ending → World → Prop) (h10 : tmps[10]? = some (.pointer (some ⟨w.heap.size + 1 + 1 + 1 + 1, 0, none⟩))) (h11 : tmps[11]? = some (.pointer (some ⟨w.heap.size + 1 + 1 + 1 + 1 + 1, 0, none⟩)))
    (k4 : X.heap[w.heap.size + 1 + 1 + 1 + 1]? = some (.cells #[.int .i64 x.x, .int .i64 x.y, .int .i64 x.z] 47 (0, 0))) (k5 : X.heap[w.heap.size + 1 + 1 + 1 + 1 + 1]? = some (.cells #[.bool t] 4 (0, 0))) (hK : X.heap[D]? = some (.deferred (some []))) (hD : w.heap.size + 5 < D)
    (h : R (.returned (.tuple #[.agg #[.int .i64 x.x, .int .i64 x.y, .int .i64 x.z], .bool t])) (X.putObj D (.deferred none))) :
    LeavesInM Fence.wide 5 Try.prog Try.f93 tmps R [{ target := .collected D, args := #[] }, { target := .fn (.func 134) #[.pointer (some ⟨w.heap.size + 1 + 1 + 1 + 1, 0, none⟩), .pointer (some ⟨w.heap.size + 1 + 1 + 1 + 1 + 1, 0, none⟩)], args := #[] }] .returning X := by
  refine ⟨by simp, .inl ⟨_, _, rfl, run_takeDeferred hK, ?_⟩⟩
  have q4 : (X.putObj D (.deferred none)).heap[w.heap.size + 1 + 1 + 1 + 1]? = some (.cells #[.int .i64 x.x, .int .i64 x.y, .int .i64 x.z] 47 (0, 0)) := (World.putObj_heap_other (by omega)).trans k4
  have q5 : (X.putObj D (.deferred none)).heap[w.heap.size + 1 + 1 + 1 + 1 + 1]? = some (.cells #[.bool t] 4 (0, 0)) := (World.putObj_heap_other (by omega)).trans k5
  obtain ⟨Y, hY⟩ : ∃ Y, X.putObj D (.deferred none) = Y := ⟨_, rfl⟩
  rw [hY] at q4 q5 h ⊢
  clear hY
  have c4 := blk_cell q4
  have c5 := blk_cell q5
  refine ⟨by simp, .inr ⟨fun k => (by cases k), .func 134, _, 134, #[.pointer (some ⟨w.heap.size + 1 + 1 + 1 + 1, 0, none⟩), .pointer (some ⟨w.heap.size + 1 + 1 + 1 + 1 + 1, 0, none⟩)], rfl, by simp [go_sem], fun _ _ => trivial, (idle134 _ _ _ _).mono ?_⟩⟩
  rintro e u' w'' ⟨rfl, rfl, rfl⟩
  refine ⟨.tuple #[.agg #[.int .i64 x.x, .int .i64 x.y, .int .i64 x.z], .bool t], ?_, h⟩
  simp [results, Try.results93, go_sem, h10, h11, c4, c5]
theorem setNot {W : World} {N k i : Nat} {u : Value} {o : Option Obj} (h : W.heap[k]? = o) (hne : k ≠ N) : (W.setCell ⟨N, i, none⟩ u).heap[k]? = o := (Below.heap_setCell _ _ _ _ hne).trans h
/-- normals.Find -/
theorem find_any (A B H : Option Addr) (ca cb ch : Nat) (a b : List IV) (h : List V3) (ra rb : Int) (w : World) (sa : SlI w A a) (sb : SlI w B b) (sh : SlV w H h) (m1 : a.length ≤ 9223372036854775807) (m2 : b.length ≤ 9223372036854775807) (m3 : h.length ≤ 9223372036854775807) :
    Calls Try.prog 93 #[.slice A a.length ca, .int .i64 ra, .slice B b.length cb, .int .i64 rb, .slice H h.length ch] w fun e w' => e = .returned (findR (findN a ra b rb h)) ∧ Below w.heap.size w w' := by
  have hmf := hmf
  have HA := hide sa; have HB := hide sb; have HH := hide sh
  clear sa sb sh
  refine (callsIn_wide (n := 5)).1 ?_
  refine callsIn_of_wp_marks Try.func93 rfl trivial ?_ rfl
  simp only [Try.ntmps93, List.size_toArray, List.length_cons, List.length_nil, Nat.reduceAdd, Nat.reduceSub, Array.replicate_succ, Array.replicate_zero, List.push_toArray, List.append_toArray, List.nil_append, List.cons_append]
  gi_wp2_with fail
  obtain ⟨W6, hW6⟩ : ∃ W6, ((((((w.alloc (.cells #[.slice A a.length ca] 23)).alloc (.cells #[.int .i64 ra] 2)).alloc (.cells #[.slice B b.length cb] 23)).alloc (.cells #[.int .i64 rb] 2)).alloc (.cells #[.int .i64 0, .int .i64 0, .int .i64 0] 47)).alloc (.cells #[.bool false] 4)) = W6 := ⟨_, rfl⟩
  have z6 : W6.heap.size = w.heap.size + 6 := by rw [← hW6]; simp
  have F6 := hide (show FIv w W6 (.slice A a.length ca) (.slice B b.length cb) ra rb W6 by rw [← hW6]; exact fiv_new w _ _ ra rb)
  rw [hW6]
  clear hW6 hmf
  refine viaW2 (cand135 A B H a.length ca b.length cb h.length ch ra rb _) ?_
  rintro e w1 ⟨rfl, rfl⟩
  obtain ⟨W0, hW0⟩ : ∃ W0, five W6 (.slice A a.length ca) (.slice B b.length cb) (.slice H h.length ch) ra rb = W0 := ⟨_, rfl⟩
  have CE0 := hide (show CE w (w.heap.size + 5) (w.heap.size + 6) (.slice A a.length ca) (.slice B b.length cb) (.slice H h.length ch) ra rb W0 by rw [← hW0, ← z6]; exact ce_five F6.out z6)
  have b60 : Below W6.heap.size W6 W0 := by rw [← hW0]; exact below_five _ _ _ _ _ _
  have z0 : W0.heap.size = W6.heap.size + 5 := by rw [← hW0]; simp [five]
  have F0 := hide (F6.out.below b60)
  rw [hW0]
  clear hW0 F6 b60
  unfold ptrO
  gi_wp2_with fail
  refine wpIn_rangeFunc_ownH rfl (by omega) (gf := 172) (lb := #[ptrO (w.heap.size + 6), ptrO (w.heap.size + 6 + 2), ptrO (w.heap.size + 6 + 1), ptrO (w.heap.size + 6 + 3), ptrO (w.heap.size + 6 + 4)]) rfl trivial (enters_of Try.func172 (by kernel_rfl) rfl)
    (cand_stops 4 w (w.heap.size + 5) (w.heap.size + 6) A B H ca cb ch a b h ra rb HA.out HB.out HH.out m1 m2 m3 W0 CE0.out) KpC.t (KpC.b (by omega) (by omega)) (Below.refl _ _) (fun _ => rfl)
    (fun pre W => (∀ x ∈ pre, sepB x a ra b rb = false) ∧ FIv w W6 (.slice A a.length ca) (.slice B b.length cb) ra rb W)
    (fun c pre W => c = .ret ∧ (∃ p x, pre = p ++ [x] ∧ (∀ y ∈ p, sepB y a ra b rb = false) ∧ sepB x a ra b rb = true ∧ FIx w x W))
    (OwnFrom.and (ownFrom_pure _ _) (FIv.own (by omega)))
    (fun c s X Y row hs hg hr => by
      obtain ⟨h1, p, x, h2, h3, h4, h5⟩ := hs
      exact ⟨h1, p, x, h2, h3, h4, FIx.own (β := Unit) (N := W0.heap.size) (by omega) () X Y row h5 hg hr⟩)
    ⟨fun _ h => by simp at h, F0.out⟩
    (fun x a' W => ∃ Bx, W.heap[Bx]? = some (Obj.cells #[.int .i64 x.x, .int .i64 x.y, .int .i64 x.z] 47 (0, 0)) ∧ w.heap.size + 5 < Bx ∧ a' = { tmps := #[.slice A a.length ca, .int .i64 ra, .slice B b.length cb, .int .i64 rb, .slice H h.length ch, .pointer (some ⟨w.heap.size, 0, none⟩), .pointer (some ⟨w.heap.size + 1, 0, none⟩), .pointer (some ⟨w.heap.size + 1 + 1, 0, none⟩), .pointer (some ⟨w.heap.size + 1 + 1 + 1, 0, none⟩), undef, .pointer (some ⟨w.heap.size + 1 + 1 + 1 + 1, 0, none⟩), .pointer (some ⟨w.heap.size + 1 + 1 + 1 + 1 + 1, 0, none⟩), .pointer (some ⟨Bx, 0, none⟩), .func (.func 134) #[] #[.pointer (some ⟨w.heap.size + 1 + 1 + 1 + 1, 0, none⟩), .pointer (some ⟨w.heap.size + 1 + 1 + 1 + 1 + 1, 0, none⟩)], .slice A a.length ca, .int .i64 ra, .slice B b.length cb, .int .i64 rb, .slice H h.length ch, .func (.func 172) #[] #[.pointer (some ⟨w.heap.size + 6, 0, none⟩), .pointer (some ⟨w.heap.size + 6 + 1 + 1, 0, none⟩), .pointer (some ⟨w.heap.size + 6 + 1, 0, none⟩), .pointer (some ⟨w.heap.size + 6 + 1 + 1 + 1, 0, none⟩), .pointer (some ⟨w.heap.size + 6 + 1 + 1 + 1 + 1, 0, none⟩)], .agg #[.int .i64 x.x, .int .i64 x.y, .int .i64 x.z], undef, undef, undef, undef, undef, undef, undef, undef], defers := [] })
    (fun x a' _ X Y row hs hg hr => by
      obtain ⟨Bx, h1, h2, h3⟩ := hs
      refine ⟨Bx, (hg.block Bx (blt h1) (fun e => ?_)).trans h1, h2, h3⟩
      obtain ⟨_, o, ho, hc⟩ := hr Bx e.symm
      rw [h1] at ho
      cases ho
      cases hc)
    ?assign ?body ?done ?stop
  case assign =>
    rintro l pre x W K ⟨hp, hF⟩ hK
    have HK := hide hK; have HF := hide hF; have HP := hide hp
    clear hK hF hp
    unfold encV
    gi_wp2_with fail
    have b7 : Below W.heap.size W (W.alloc (.cells #[.int .i64 x.x, .int .i64 x.y, .int .i64 x.z] 47)) := (Below.refl _ _).alloc (Nat.le_refl _) _
    have y5 := blt HF.out.k5
    exact HK.out _ _ ((KeepsOthers.alloc _ _).from _) (KpC.of_below HF.out.bel.size y5 b7) ⟨HP.out, HF.out.below b7⟩ ⟨W.heap.size, new_at _ _ rfl, y5, rfl⟩
  case body =>
    rintro l pre x a' W hl hr ⟨hp, hF⟩ ⟨Bx, kx, hBx, rfl⟩ hlt
    have HP := hide hp; have HF := hide hF; have KX := hide kx
    have cx := blk_cell kx; have c0 := blk_cell hF.k0; have c1 := blk_cell hF.k1; have c2 := blk_cell hF.k2; have c3 := blk_cell hF.k3
    clear hp hF kx hr hlt
    gi_wp2_with fail
    clear cx c0 c1 c2 c3
    refine viaR (separates_any x A a ca ra B b cb rb _ (HA.out.below HF.out.bel) (HB.out.below HF.out.bel) m1 m2) ?_
    rintro e W1 ⟨rfl, hb1⟩
    have F1 := hide (HF.out.below hb1); have KX1 := hide ((hb1.block _ (blt KX.out)).trans KX.out); have B1 := hide hb1
    clear hb1
    cases hs : sepB x a ra b rb
    · have P1 := hide (show ∀ y ∈ pre ++ [x], sepB y a ra b rb = false from fun y hy => by
        rcases List.mem_append.1 hy with h | h
        · exact HP.out y h
        · simp at h; subst h; exact hs)
      clear hs
      gi_wp2_with fail
      exact ⟨keepsFrom_below _ B1.out, KpC.of_below HF.out.bel.size (blt HF.out.k5) B1.out, P1.out, F1.out⟩
    · have HSX := hide hs
      have cx := blk_cell KX1.out
      have c4 := blk_cell F1.out.k4; have f4 := blk_frozen F1.out.k4; have c5 := blk_cell F1.out.k5; have f5 := blk_frozen F1.out.k5
      have y4 := blt F1.out.k4; have y5 := blt F1.out.k5; have yx := blt KX1.out
      clear hs
      gi_wp2_with fail
      refine ⟨(keepsFrom_below _ B1.out).trans ((((KeepsOthers.setCell _ _ _).trans (KeepsOthers.setCell _ _ _)).trans (KeepsOthers.setCell _ _ _)).trans (KeepsOthers.setCell _ _ _) |>.from _), rfl, pre, x, rfl, HP.out, HSX.out, ?_, ?_, ?_⟩
      · exact (((F1.out.bel.setCell (by simp <;> omega) _).setCell (by simp <;> omega) _).setCell (by simp <;> omega) _).setCell (by simp <;> omega) _
      · exact setNot (blk_set (blk_set (blk_set F1.out.k4 0 _) 1 _) 2 _) (by omega)
      · exact blk_set (setNot (setNot (setNot F1.out.k5 (by omega)) (by omega)) (by omega)) 0 _
  case done =>
    rintro D xs W hD rfl ⟨hp, hF⟩ hK
    have HR := hide (show findN a ra b rb h = none by unfold findN; rw [List.find?_eq_none]; intro x hx; rw [hp x hx]; simp)
    have HF := hide hF; have HKD := hide hK
    have c4 := blk_cell hF.k4; have f4 := blk_frozen hF.k4; have c5 := blk_cell hF.k5; have f5 := blk_frozen hF.k5
    have y4 := blt hF.k4; have y5 := blt hF.k5
    clear hp hF hK
    gi_wp2_with fail
    refine leave93 w _ _ D zeroV false _ rfl rfl ?_ ?_ ?_ (by omega) ⟨by rw [HR.out]; rfl, ?_⟩
    · exact setNot (blk_set (blk_set (blk_set HF.out.k4 0 _) 1 _) 2 _) (by omega)
    · exact blk_set (setNot (setNot (setNot HF.out.k5 (by omega)) (by omega)) (by omega)) 0 _
    · exact setNot (setNot (setNot (setNot HKD.out (by omega)) (by omega)) (by omega)) (by omega)
    · exact ((((HF.out.bel.setCell (by simp <;> omega) _).setCell (by simp <;> omega) _).setCell (by simp <;> omega) _).setCell (by simp <;> omega) _).trans (belowK_b (w := w) (Nat.le_refl _) _ D _ _ (by omega) (setNot (setNot (setNot (setNot HKD.out (by omega)) (by omega)) (by omega)) (by omega)) rfl rfl)
  case stop =>
    rintro D c pre W hD hpre ⟨rfl, p, x, rfl, hp, hx, hF⟩ hK
    have HR := hide (show findN a ra b rb h = some x by
      obtain ⟨t, ht⟩ := hpre
      unfold findN
      rw [← ht, List.append_assoc, List.find?_append, List.find?_eq_none.2 (by intro y hy; rw [hp y hy]; simp)]
      simp [hx])
    have HF := hide hF; have HKD := hide hK
    clear hp hF hK hpre hx
    gi_wp2_with fail
    refine leave93 w _ _ D x true _ rfl rfl HF.out.k4 HF.out.k5 HKD.out (by omega) ⟨by rw [HR.out]; rfl, ?_⟩
    exact HF.out.bel.trans (belowK_b (w := w) (Nat.le_refl _) _ D _ _ (by omega) HKD.out rfl rfl)
end Go.Proofs.Ytionbckpgfaneaa
