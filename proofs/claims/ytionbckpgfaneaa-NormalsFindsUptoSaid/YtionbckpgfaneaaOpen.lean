/- The arguments of the statements, opened to cells. -/
import Derived.Test.YtionbckpgfaneaaRows
import Derived.Test.YtionbckpgfaneaaPlain
import Derived.ProofKit
import Derived.OpenShut
import Derived.Deep.Slices
import Derived.JoinedCond
namespace Go.Proofs.Ytionbckpgfaneaa
open Go.ChangeShapes Go.WideShapes Go.ChangeAt Go.RowKit Go.Deep
set_option maxRecDepth 100000
theorem I64_of_wf {n : Int} (h : (Lit.int .i64 n).wf = true) : I64 n := by
  simpa [Lit.wf, IntKind.min, IntKind.max, IntKind.signed, IntKind.bits, I64] using h
theorem bulk_len {H : Type} (l : List (DataW H)) : l.length ≤ Rows.uptoBulkAll l := by
  induction l with
  | nil => simp
  | cons x r ih =>
    have h1 : 1 ≤ Rows.uptoBulk x := by
      cases x with
      | lit l => cases l <;> simp [Rows.uptoBulk]
      | _ => simp [Rows.uptoBulk]
    simp only [Rows.uptoBulkAll, List.length_cons]
    omega
section
variable {H : Type} {enc : TypeId × Value → H} {W : World} {base : Nat} {v : Value} {d : DataW H} {p : List MemPlace} {t e : TypeId}
theorem spot_none {w : World} {a : Addr} {u : Value} (h : w.cell? a = some u) : a.spot = none := by
  obtain ⟨b, o, s⟩ := a
  cases s with
  | none => rfl
  | some s => 
    simp only [World.cell?] at h
    split at h <;> simp at h
theorem addr_add0 (b o j : Nat) : (⟨b, o, none⟩ : Addr).add j = ⟨b, o + j, none⟩ := by unfold Addr.add; split <;> simp_all
theorem openN (ht : Try.prog.underlying t = some (.slice e)) (he : Try.prog.underlying e = some (.int .i64)) (hC : Try.prog.cellsOf e = 1) (h : DataW.Trod enc Try.prog W 0 (fun _ => true) true t v d p) (hv : Value.okWide Try.prog W .any base t v) :
    ∃ A l c, v = .slice A l.length c ∧ SlN W A l ∧ l.length ≤ 9223372036854775807 ∧ (∀ x ∈ l, I64 x) ∧ l.length ≤ Rows.uptoBulk d := by
  obtain ⟨a0, len, cap, rfl⟩ := okWide_slice ht hv
  have lt0 : ∀ x ∈ p, x.block < W.heap.size := by obtain ⟨m, hm⟩ := h; exact DataW.trod_lt m _ _ _ hm
  obtain ⟨fuel, hf⟩ := h
  rcases open_ints ht he hC hf with ⟨hcs, hx⟩ | ⟨x, l, c, zs, hcs, _, hl, hm, hz, hx, hcell, hwz⟩
  · simp [Value.cells] at hcs
    obtain ⟨rfl, rfl, rfl⟩ := hcs
    exact ⟨none, [], 0, rfl, Sl.nil, by simp, by simp, by simp⟩
  · simp [Value.cells] at hcs
    obtain ⟨rfl, rfl, rfl⟩ := hcs
    simp only [if_true] at hz
    have hlen : (zs.take len).length = len := by simp; omega
    simp only [Prod.mk.injEq] at hx
    refine ⟨some x, zs.take len, cap, by rw [hlen], fun hne => ?_, ?_, fun n hn => I64_of_wf (hwz n (List.mem_of_mem_take hn)), ?_⟩
    · have hpos : 0 < len := by
        rcases Nat.eq_zero_or_pos len with h0 | h0
        · subst h0; simp at hne
        · exact h0
      have hc0 := hcell 0 (by omega)
      have hs : x.spot = none := by simpa [Addr.add] using spot_none hc0
      obtain ⟨b, o, s⟩ := x
      subst hs
      refine ⟨b, o, rfl, World.block_lt_of_cell? W _ hc0, fun j u hu => ?_⟩
      rw [List.getElem?_map, List.getElem?_take] at hu
      split at hu
      · rename_i hj
        have := hcell j (by omega)
        rw [addr_add0] at this
        rw [this]
        have hjz : j < zs.length := by omega
        simp [List.getElem?_eq_getElem hjz] at hu
        simp [List.getD, List.getElem?_eq_getElem hjz, hu]
      · simp at hu
    · unfold maxLen at hm; omega
    · rw [hx.1, hlen]
      have h1 := bulk_len (lits (H := H) .i64 (zs.take len))
      have h2 : (lits (H := H) .i64 (zs.take len)).length = len := by simp [lits]; omega
      simp only [Rows.uptoBulk]
      omega
/-- six cells that read as a vector of intervals -/
theorem readIV {fuel b0 : Nat} {sp : Nat → Bool} {hd : Bool} {cs : List Value} {x : DataW H × List MemPlace} (h : DataW.trod enc Try.prog W b0 sp hd fuel 44 cs = some x) : ∃ u : IV, cs = u.cells ∧ u.ok64 := by
  obtain ⟨xs, m, _, hx, hl, hxl, hi⟩ := DataW.trod_array Try.underlying44 h
  have c44 : Try.prog.cellsOf 44 = 6 := by kernel_rfl
  have c42 : Try.prog.cellsOf 42 = 2 := by kernel_rfl
  have c2 : Try.prog.cellsOf 2 = 1 := by kernel_rfl
  rw [c44] at hl
  obtain ⟨x0, x1, x2, x3, x4, x5, rfl⟩ : ∃ a b c d e f, cs = [a, b, c, d, e, f] := by
    match cs, hl with
    | [a, b, c, d, e, f], _ => exact ⟨a, b, c, d, e, f, rfl⟩
  have one : ∀ (k : Nat) (y0 y1 : Value) (z : DataW H × List MemPlace), DataW.trod enc Try.prog W b0 sp hd m 42 [y0, y1] = some z → ∃ n0 n1, y0 = .int .i64 n0 ∧ y1 = .int .i64 n1 ∧ I64 n0 ∧ I64 n1 := by
    intro k y0 y1 z hz
    obtain ⟨ys, n, _, _, _, hyl, hf⟩ := DataW.trod_struct Try.underlying42 hz
    have f0 := hf 0 _ rfl
    have f1 := hf 1 _ rfl
    have l2 : ys.length = 2 := hyl
    rw [List.getElem?_eq_getElem (by omega)] at f0 f1
    obtain ⟨n0, e0, _, w0⟩ := DataW.trod_int Try.underlying2 f0
    obtain ⟨n1, e1, _, w1⟩ := DataW.trod_int Try.underlying2 f1
    simp [c2] at e0 e1
    exact ⟨n0, n1, e0, e1, I64_of_wf w0, I64_of_wf w1⟩
  have g0 := hi 0 (by omega)
  have g1 := hi 1 (by omega)
  have g2 := hi 2 (by omega)
  rw [List.getElem?_eq_getElem (by omega)] at g0 g1 g2
  simp [c42] at g0 g1 g2
  obtain ⟨a0, a1, rfl, rfl, i0, i1⟩ := one 0 _ _ _ g0
  obtain ⟨b0', b1, rfl, rfl, j0, j1⟩ := one 1 _ _ _ g1
  obtain ⟨d0, d1, rfl, rfl, k0, k1⟩ := one 2 _ _ _ g2
  exact ⟨⟨⟨a0, a1⟩, ⟨b0', b1⟩, ⟨d0, d1⟩⟩, rfl, ⟨i0, i1⟩, ⟨j0, j1⟩, ⟨k0, k1⟩⟩
/-- three cells that read as a vector -/
theorem readV {fuel b0 : Nat} {sp : Nat → Bool} {hd : Bool} {cs : List Value} {x : DataW H × List MemPlace} (h : DataW.trod enc Try.prog W b0 sp hd fuel 47 cs = some x) : ∃ u : V3, cs = u.cells ∧ u.ok64 := by
  obtain ⟨xs, m, _, hx, hl, hxl, hi⟩ := DataW.trod_array Try.underlying47 h
  have c47 : Try.prog.cellsOf 47 = 3 := by kernel_rfl
  have c2 : Try.prog.cellsOf 2 = 1 := by kernel_rfl
  rw [c47] at hl
  obtain ⟨x0, x1, x2, rfl⟩ : ∃ a b c, cs = [a, b, c] := by
    match cs, hl with
    | [a, b, c], _ => exact ⟨a, b, c, rfl⟩
  have g0 := hi 0 (by omega)
  have g1 := hi 1 (by omega)
  have g2 := hi 2 (by omega)
  rw [List.getElem?_eq_getElem (by omega)] at g0 g1 g2
  obtain ⟨n0, e0, _, w0⟩ := DataW.trod_int Try.underlying2 g0
  obtain ⟨n1, e1, _, w1⟩ := DataW.trod_int Try.underlying2 g1
  obtain ⟨n2, e2, _, w2⟩ := DataW.trod_int Try.underlying2 g2
  simp [c2] at e0 e1 e2
  subst e0 e1 e2
  exact ⟨⟨n0, n1, n2⟩, rfl, I64_of_wf w0, I64_of_wf w1, I64_of_wf w2⟩
theorem list_of {α : Type} (P : Nat → α → Prop) (n : Nat) (h : ∀ i, i < n → ∃ a, P i a) : ∃ l : List α, l.length = n ∧ ∀ i (hi : i < l.length), P i l[i] := by
  induction n with
  | zero => exact ⟨[], rfl, fun i hi => by simp at hi⟩
  | succ n ih =>
    obtain ⟨l, hl, hp⟩ := ih (fun i hi => h i (by omega))
    obtain ⟨a, ha⟩ := h n (by omega)
    refine ⟨l ++ [a], by simp [hl], fun i hi => ?_⟩
    rcases Nat.lt_or_ge i l.length with h' | h'
    · rw [List.getElem_append_left h']; exact hp i h'
    · have e : i = l.length := by simp at hi; omega
      subst e
      have e2 : (l ++ [a])[l.length]'hi = a := by simp
      rw [e2]
      exact hl ▸ ha
theorem flat_at {α : Type} (cells : α → List Value) (sz : Nat) (hsz : ∀ a, (cells a).length = sz) (l : List α) (j : Nat) (u : Value) (h : (l.flatMap cells)[j]? = some u) : ∃ (i : Nat) (hi : i < l.length) (r : Nat), r < sz ∧ j = i * sz + r ∧ (cells l[i])[r]? = some u := by
  induction l generalizing j with
  | nil => simp at h
  | cons a l ih =>
    rw [List.flatMap_cons] at h
    rcases Nat.lt_or_ge j sz with hj | hj
    · rw [List.getElem?_append_left (by rw [hsz]; exact hj)] at h
      exact ⟨0, by simp, j, hj, by simp, h⟩
    · rw [List.getElem?_append_right (by rw [hsz]; exact hj), hsz] at h
      obtain ⟨i, hi, r, hr, e, hu⟩ := ih _ h
      exact ⟨i + 1, by simpa using hi, r, hr, by rw [Nat.add_mul]; omega, by simpa using hu⟩
theorem openSl {α : Type} (cells : α → List Value) (sz : Nat) (hsz : ∀ a, (cells a).length = sz) (ok : α → Prop) (ht : Try.prog.underlying t = some (.slice e)) (hC : Try.prog.cellsOf e = sz)
    (read : ∀ (fuel b0 : Nat) (sp : Nat → Bool) (hd : Bool) (cs : List Value) (x : DataW H × List MemPlace), DataW.trod enc Try.prog W b0 sp hd fuel e cs = some x → ∃ a, cs = cells a ∧ ok a)
    (h : DataW.Trod enc Try.prog W 0 (fun _ => true) true t v d p) (hv : Value.okWide Try.prog W .any base t v) :
    ∃ (A : Option Addr) (l : List α) (c : Nat), v = .slice A l.length c ∧ Sl W A (l.flatMap cells) ∧ l.length ≤ 9223372036854775807 ∧ (∀ x ∈ l, ok x) ∧ l.length ≤ Rows.uptoBulk d := by
  obtain ⟨a0, len, cap, rfl⟩ := okWide_slice ht hv
  obtain ⟨fuel, hf⟩ := h
  rcases open_slice ht hf with ⟨hcs, hx⟩ | ⟨x, l, c, m, n, D, Pl, hcs, _, hl, hm, hmm, hx, hi⟩
  · simp [Value.cells] at hcs
    obtain ⟨rfl, rfl, rfl⟩ := hcs
    exact ⟨none, [], 0, rfl, Sl.nil, by simp, by simp, by simp⟩
  · simp [Value.cells] at hcs
    obtain ⟨rfl, rfl, rfl⟩ := hcs
    simp only [if_true] at hmm
    subst hmm
    simp only [Prod.mk.injEq] at hx
    obtain ⟨as_, has, hp⟩ := list_of (fun i a => W.cells? 0 (x.add (i * sz)) sz = some (cells a) ∧ ok a) len (fun i hi' => by
      obtain ⟨cs', h1, h2⟩ := hi i (by omega)
      obtain ⟨a, rfl, ha⟩ := read _ _ _ _ _ _ h2
      rw [hC] at h1
      exact ⟨a, h1, ha⟩)
    have hcell : ∀ i (h : i < as_.length) (r : Nat), r < sz → W.cell? ((x.add (i * sz)).add r) = (cells as_[i])[r]? := fun i h r hr => by
      obtain ⟨_, _, hat⟩ := World.cells?_some (hp i h).1
      exact hat r hr
    refine ⟨some x, as_, m, by rw [has], fun hne => ?_, ?_, fun a ha => ?_, ?_⟩
    · have hpos : 0 < as_.length := by
        rcases as_ with _ | ⟨a, r⟩
        · simp at hne
        · simp
      have hszp : 0 < sz := by
        rcases Nat.eq_zero_or_pos sz with h0 | h0
        · exfalso
          apply hne
          rw [List.flatMap_eq_nil_iff]
          intro a _
          exact List.eq_nil_of_length_eq_zero (by rw [hsz, h0])
        · exact h0
      have hc0 := hcell 0 hpos 0 hszp
      rw [List.getElem?_eq_getElem (by rw [hsz]; exact hszp)] at hc0
      have hs : x.spot = none := by simpa [Addr.add] using spot_none hc0
      obtain ⟨b, o, s⟩ := x
      subst hs
      refine ⟨b, o, rfl, by simpa [Addr.add] using World.block_lt_of_cell? W _ hc0, fun j u hu => ?_⟩
      obtain ⟨i, hi', r, hr, rfl, hu'⟩ := flat_at cells sz hsz as_ j u hu
      have := hcell i hi' r hr
      rw [addr_add0, addr_add0, hu'] at this
      rw [← this, Nat.add_assoc]
    · unfold maxLen at hm; omega
    · obtain ⟨i, hi', rfl⟩ := List.getElem_of_mem ha
      exact (hp i hi').2
    · rw [hx.1, has]
      have h1 := bulk_len ((List.range len).map D)
      simp only [Rows.uptoBulk]
      simp at h1
      omega
theorem openI (h : DataW.Trod enc Try.prog W 0 (fun _ => true) true 23 v d p) (hv : Value.okWide Try.prog W .any base 23 v) :
    ∃ (A : Option Addr) (l : List IV) (c : Nat), v = .slice A l.length c ∧ SlI W A l ∧ l.length ≤ 9223372036854775807 ∧ (∀ x ∈ l, x.ok64) ∧ l.length ≤ Rows.uptoBulk d :=
  openSl IV.cells 6 (fun _ => rfl) IV.ok64 Try.underlying23 (by kernel_rfl) (fun _ _ _ _ _ _ => readIV) h hv
theorem openVs (h : DataW.Trod enc Try.prog W 0 (fun _ => true) true 49 v d p) (hv : Value.okWide Try.prog W .any base 49 v) :
    ∃ (A : Option Addr) (l : List V3) (c : Nat), v = .slice A l.length c ∧ SlV W A l ∧ l.length ≤ 9223372036854775807 ∧ (∀ x ∈ l, x.ok64) ∧ l.length ≤ Rows.uptoBulk d :=
  openSl V3.cells 3 (fun _ => rfl) V3.ok64 Try.underlying49 (by kernel_rfl) (fun _ _ _ _ _ _ => readV) h hv
end
end Go.Proofs.Ytionbckpgfaneaa
