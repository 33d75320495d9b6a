/- Walks of the search, part s: the reference's Search. -/
import Derived.Test.YtionbckpgfaneaaNr
import Derived.Test.YtionbckpgfaneaaNf
import Derived.Deep.DeepCutAuto
import Derived.BigRegion
namespace Go.Proofs.Ytionbckpgfaneaa
open Go.RowKit
set_option maxHeartbeats 8000000
set_option maxRecDepth 100000
attribute [local go_sem] index47_0 index47_1 index47_2
def rC (kd : Int) (n : V3) (gL gR na nb cL cR : Nat) (k : Int) : Array Value := #[.int .i64 kd, .int .i64 n.x, .int .i64 n.y, .int .i64 n.z, .slice (some ⟨gL, 0, none⟩) na cL, .slice (some ⟨gR, 0, none⟩) nb cR, .int .i64 k]
def Search2Post (r : Int × Nst) (na nb : Nat) (w : World) (e : Ending) (w' : World) : Prop :=
  ∃ gL gR cL cR : Nat, e = .returned (.agg (rC r.1 r.2.N gL gR na nb cL cR r.2.k)) ∧ SlN w' (some ⟨gL, 0, none⟩) r.2.L ∧ SlN w' (some ⟨gR, 0, none⟩) r.2.R ∧ Below w.heap.size w w'
theorem slN_set {w : World} {g : Nat} {L : List Int} (h : SlN w (some ⟨g, 0, none⟩) L) {N : Nat} (hne : g ≠ N) (i : Nat) (u : Value) : SlN (w.setCell ⟨N, i, none⟩ u) (some ⟨g, 0, none⟩) L := fun hx => by
  obtain ⟨b, off, e, hb, hc⟩ := h hx
  injection e with e
  injection e with e1 e2 _
  subst e1; subst e2
  refine ⟨_, _, rfl, by simpa [World.setCell] using hb, fun j v hv => ?_⟩
  rw [World.cell?_of_block (Below.heap_setCell _ _ _ _ hne)]
  exact hc j v hv
def set7 (w : World) (N : Nat) (v0 v1 v2 v3 v4 v5 v6 : Value) : World := ((((((w.setCell ⟨N, 0, none⟩ v0).setCell ⟨N, 1, none⟩ v1).setCell ⟨N, 2, none⟩ v2).setCell ⟨N, 3, none⟩ v3).setCell ⟨N, 4, none⟩ v4).setCell ⟨N, 5, none⟩ v5).setCell ⟨N, 6, none⟩ v6
theorem set7_slN {w : World} {g : Nat} {L : List Int} (h : SlN w (some ⟨g, 0, none⟩) L) {N : Nat} (hne : g ≠ N) (v0 v1 v2 v3 v4 v5 v6 : Value) : SlN (set7 w N v0 v1 v2 v3 v4 v5 v6) (some ⟨g, 0, none⟩) L :=
  slN_set (slN_set (slN_set (slN_set (slN_set (slN_set (slN_set h hne _ _) hne _ _) hne _ _) hne _ _) hne _ _) hne _ _) hne _ _
theorem set7_below {B N : Nat} {w0 w : World} (h : Below B w0 w) (hN : B ≤ N) (v0 v1 v2 v3 v4 v5 v6 : Value) : Below B w0 (set7 w N v0 v1 v2 v3 v4 v5 v6) :=
  ((((((h.setCell hN _).setCell hN _).setCell hN _).setCell hN _).setCell hN _).setCell hN _).setCell hN _
theorem sum_ref2 (A B : Option Addr) (l : List V3) (ws : List Int) (n c d : Nat) (w : World) (hs : SlV w A l) (ht : SlN w B ws) (hm : l.length ≤ 1000) (hl : ws.length = l.length) (hn : ws.length = n) (hw : ∀ x ∈ ws, 0 ≤ x ∧ x ≤ 65536) (hv : ∀ p ∈ l, Mod p) :
    Calls Try.prog 51 #[.slice A l.length c, .slice B n d] w fun e w' => e = .returned (.agg #[.int .i64 (sumV l ws).x, .int .i64 (sumV l ws).y, .int .i64 (sumV l ws).z]) ∧ Below w.heap.size w w' := by
  subst hn
  exact sum_ref A B l ws c d w hs ht hm hl hw hv
theorem three (w : World) (a b c : Obj) : ((((w.alloc a).alloc b).alloc c).heap[w.heap.size]? = some a) ∧ ((((w.alloc a).alloc b).alloc c).heap[w.heap.size + 1]? = some b) ∧ ((((w.alloc a).alloc b).alloc c).heap[w.heap.size + 1 + 1]? = some c) :=
  ⟨(Below.heap_alloc _ _ _ (by simp; omega)).trans ((Below.heap_alloc _ _ _ (by simp)).trans (new_at _ _ rfl)), (Below.heap_alloc _ _ _ (by simp)).trans (new_at _ _ (by simp)), new_at _ _ (by simp)⟩
theorem copyOut (r K : Nat) (p : String) (Q : Exit → Act → World → Prop) (tmps : Array Value) (ds : List Deferred) (w : World) (S N : Nat) (kd : Int) (n : V3) (gL gR na nb cL cR : Nat) (k : Int)
    (h9 : tmps[9]? = some (.pointer (some ⟨S, 0, none⟩))) (h8 : tmps[8]? = some (.pointer (some ⟨N, 0, none⟩))) (hK : K < tmps.size) (hK8 : K ≠ 8) (kS : w.heap[S]? = some (.cells (rC kd n gL gR na nb cL cR k) 93 (0, 0))) (kN : w.heap[N]? = some (.cells zero7 93 (0, 0)))
    (h : Q .normal { tmps := tmps.setIfInBounds K (.agg (rC kd n gL gR na nb cL cR k)), defers := ds } (set7 w N (.int .i64 kd) (.int .i64 n.x) (.int .i64 n.y) (.int .i64 n.z) (.slice (some ⟨gL, 0, none⟩) na cL) (.slice (some ⟨gR, 0, none⟩) nb cR) (.int .i64 k))) :
    (Code.region r #[{ dst := some K, op := Op.load 93 (Operand.tmp 9), type := 93, pos := p, after := #[], guard := none },
      { dst := none, op := Op.store 93 (Operand.tmp 8) (Operand.tmp K), type := 0, pos := p, after := #[{ on := 0, ground := Ground.data }, { on := 0, ground := Ground.phase }], guard := none }] false).wp Try.prog Q { tmps := tmps, defers := ds } w := by
  have yS := blt kS; have yN := blt kN
  have cS := blk_cell kS; have cN := blk_cell kN; have fN := blk_frozen kN
  simp only [rC] at cS
  simp only [zero7] at cN
  have h8' : ∀ v, (tmps.setIfInBounds K v)[8]? = some (.pointer (some ⟨N, 0, none⟩)) := fun v => by rw [Array.getElem?_setIfInBounds_ne hK8]; exact h8
  clear kS kN
  apply wp_region
  simp [wpOps, go_sem, h9, cS]
  refine .inl (.inl ?_)
  simp [go_sem, h8', hK, cN, fN]
  exact h
theorem results126 (tmps : Array Value) (w : World) (N : Nat) (kd : Int) (n : V3) (gL gR na nb cL cR : Nat) (k : Int) (h8 : tmps[8]? = some (.pointer (some ⟨N, 0, none⟩))) (kN : w.heap[N]? = some (.cells zero7 93 (0, 0))) :
    (results Try.f126 tmps).run Try.prog (set7 w N (.int .i64 kd) (.int .i64 n.x) (.int .i64 n.y) (.int .i64 n.z) (.slice (some ⟨gL, 0, none⟩) na cL) (.slice (some ⟨gR, 0, none⟩) nb cR) (.int .i64 k)) = .ok (.agg (rC kd n gL gR na nb cL cR k)) (set7 w N (.int .i64 kd) (.int .i64 n.x) (.int .i64 n.y) (.int .i64 n.z) (.slice (some ⟨gL, 0, none⟩) na cL) (.slice (some ⟨gR, 0, none⟩) nb cR) (.int .i64 k)) := by
  have cN := blk_cell kN
  simp only [zero7] at cN
  unfold set7
  simp [results, Try.results126, go_sem, h8, cN, rC]
theorem copyRet {K : Act → World → Prop} {Q Q1 : Exit → Act → World → Prop} {R : Ending → World → Prop} (r C : Nat) (p : String) (tmps : Array Value) (w : World) (S N : Nat) (kd : Int) (n : V3) (gL gR na nb cL cR : Nat) (k : Int)
    (hK : ∀ a w, Code.ret.wp Try.prog Q a w → K a w) (hQ : ∀ a w, bodyPost Try.prog Try.f126 R .ret a w → Q .ret a w)
    (h9 : tmps[9]? = some (.pointer (some ⟨S, 0, none⟩))) (h8 : tmps[8]? = some (.pointer (some ⟨N, 0, none⟩))) (hC : C < tmps.size) (hC8 : C ≠ 8) (kS : w.heap[S]? = some (.cells (rC kd n gL gR na nb cL cR k) 93 (0, 0))) (kN : w.heap[N]? = some (.cells zero7 93 (0, 0)))
    (h : R (.returned (.agg (rC kd n gL gR na nb cL cR k))) (set7 w N (.int .i64 kd) (.int .i64 n.x) (.int .i64 n.y) (.int .i64 n.z) (.slice (some ⟨gL, 0, none⟩) na cL) (.slice (some ⟨gR, 0, none⟩) nb cR) (.int .i64 k))) :
    (Code.region r #[{ dst := some C, op := Op.load 93 (Operand.tmp 9), type := 93, pos := p, after := #[], guard := none },
      { dst := none, op := Op.store 93 (Operand.tmp 8) (Operand.tmp C), type := 0, pos := p, after := #[{ on := 0, ground := Ground.data }, { on := 0, ground := Ground.phase }], guard := none }] false).wp Try.prog (Exit.then K Q1) { tmps := tmps, defers := [] } w :=
  copyOut r C p _ tmps [] w S N kd n gL gR na nb cL cR k h9 h8 hC hC8 kS kN (hK _ _ (wp_ret (hQ _ _ (bodyPost_ret (v := .agg (rC kd n gL gR na nb cL cR k)) (results126 _ w N kd n gL gR na nb cL cR k (by rw [Array.getElem?_setIfInBounds_ne hC8]; exact h8) kN) rfl h))))
end Go.Proofs.Ytionbckpgfaneaa
