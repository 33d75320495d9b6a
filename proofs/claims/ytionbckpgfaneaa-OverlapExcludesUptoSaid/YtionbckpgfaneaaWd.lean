/- Walks, part d: Weights, Total and what is made of them. -/
import Derived.Test.YtionbckpgfaneaaWc
namespace Go.Proofs.Ytionbckpgfaneaa
open Go.RowKit
set_option maxHeartbeats 400000
set_option maxRecDepth 100000
/-- what a loop keeps that appends to a row of its own and uses a Source -/
structure SKeep (w0 : World) (N : Nat) (E : TypeId) (sz : Nat) (v : Value) (n : Nat) (xs : List Value) (ww : World) : Prop where
  own : ww.ownsRow (N + 1) E sz v n xs
  src : Src ww N
  bel : Below N w0 ww
section
variable {w0 ww w' : World} {N n sz : Nat} {E : TypeId} {v : Value} {xs : List Value}
theorem own_form {base : Nat} (h : ww.ownsRow base E sz v n xs) (hn : 0 < n) : ∃ g cap, v = .slice (some ⟨g, 0, none⟩) n cap ∧ base ≤ g ∧ g < ww.heap.size ∧ n ≤ cap ∧ cap ≤ maxLen := by
  rcases h.2 with ⟨_, h0⟩ | ⟨g, cap, cur, e1, e2, e3, e4, e5, _⟩
  · omega
  · refine ⟨g, cap, e1, e2, ?_, e4, e5⟩
    rcases Nat.lt_or_ge g ww.heap.size with hlt | hge
    · exact hlt
    · rw [Array.getElem?_eq_none hge] at e3; cases e3
theorem SKeep.drew (h : SKeep w0 N E sz v n xs ww) : SKeep w0 N E sz v n xs ww.drew := ⟨h.own, h.src, h.bel.drew⟩
theorem SKeep.alloc (h : SKeep w0 N E sz v n xs ww) (o : Obj) : SKeep w0 N E sz v n xs (ww.alloc o) := ⟨h.own.alloc o, h.src.below ((Below.refl _ _).alloc (Nat.le_refl _) o) h.src.lt, h.bel.alloc (Nat.le_of_lt h.src.lt) o⟩
theorem SKeep.below (h : SKeep w0 N E sz v n xs ww) (hb : Below ww.heap.size ww w') : SKeep w0 N E sz v n xs w' := ⟨h.own.kept ⟨hb.os, hb.tape, hb.output, hb.size, fun k hk _ => hb.block k hk⟩ (row := none) (by rcases v.ownBlock with _ | g <;> simp), h.src.below hb h.src.lt, h.bel.trans (hb.mono (Nat.le_of_lt h.src.lt))⟩
theorem SKeep.grown (h : SKeep w0 N E sz v n xs ww) (hg : ww.grownBy w' (some N)) (hs : Src w' N) : SKeep w0 N E sz v n xs w' := by
  obtain ⟨h1, h2, h3⟩ := h
  refine ⟨h1.kept hg ?_, hs, h3.trans (below_grown hg (Nat.le_of_lt h2.lt))⟩
  rcases hv : v.ownBlock with _ | g
  · exact .inl rfl
  · right
    have := (h1.lt g hv).1
    simp; omega
theorem SKeep.append {o : Obj} {v' : Value} {n' : Nat} {xs' : List Value} (h : SKeep w0 N E sz v n xs ww) (hg : (ww.alloc o).grownBy w' v.ownBlock) (ho : w'.ownsRow (N + 1) E sz v' n' xs') : SKeep w0 N E sz v' n' xs' w' := by
  obtain ⟨h1, h2, h3⟩ := h
  have hz := hg.size
  have hl := h2.lt
  simp only [World.size_alloc] at hz
  have hb : ∀ k, k ≤ N → w'.heap[k]? = ww.heap[k]? := fun k hk => (hg.block k (by simp; omega) (fun e => by have := (h1.lt k e.symm).1; omega)).trans (Below.heap_alloc ww o k (by omega))
  exact ⟨ho, h2.keep (by omega) hb, h3.trans ⟨hg.os, hg.tape, hg.output, by omega, fun k hk => hb k (by omega)⟩⟩
end
theorem sum_set (l : List Int) (j : Nat) (hj : j < l.length) (d : Int) : (l.set j (l[j] + d)).sum = l.sum + d := by
  induction l generalizing j with
  | nil => simp at hj
  | cons a l ih =>
    cases j with
    | zero => simp; omega
    | succ j =>
      have := ih j (by simpa using hj)
      simp only [List.set_cons_succ, List.sum_cons, List.getElem_cons_succ, this]
      omega
theorem sum_nonneg (l : List Int) (h : ∀ x ∈ l, 0 ≤ x) : 0 ≤ l.sum := by
  induction l with
  | nil => simp
  | cons a l ih =>
    have h1 := h a (by simp)
    have h2 := ih (fun x hx => h x (by simp [hx]))
    simp only [List.sum_cons]
    omega
theorem sum_le (l : List Int) (m : Int) (h : ∀ x ∈ l, x ≤ m) : l.sum ≤ l.length * m := by
  induction l with
  | nil => simp
  | cons a l ih =>
    have h1 := h a (by simp)
    have h2 := ih (fun x hx => h x (by simp [hx]))
    simp only [List.sum_cons, List.length_cons, Int.natCast_add, Int.add_mul]
    omega
/-- weights: not negative, small -/
def WOk (l : List Int) : Prop := ∀ x ∈ l, 0 ≤ x ∧ x ≤ 8
def WHead (w0 : World) (N : Nat) (v i : Value) (wr : World) : Prop := ∃ l : List Int, i = .int .i64 (l.length : Int) ∧ WOk l ∧ SKeep w0 N 2 1 v l.length (l.map (Value.int .i64)) wr
theorem info2 : (Try.prog.info? 2).map (fun i => (i.zero, i.size, i.bytes)) = some (some (.int .i64 0), 1, 8) := by kernel_rfl
/-- what Weights returns -/
def WeightsPost (n : Nat) (w : World) (e : Ending) (w' : World) : Prop :=
  ∃ (v : Value) (l : List Int), e = .returned v ∧ l.length = n ∧ (∀ x ∈ l, 0 ≤ x ∧ x ≤ 9) ∧ 1 ≤ l.sum ∧ w'.ownsRow w.heap.size 2 1 v l.length (l.map (Value.int .i64)) ∧ Below w.heap.size w w'

theorem weights_any (n : Nat) (A : Option Addr) (l : List Int) (c : Nat) (w : World) (hs : SlN w A l) (hm : l.length ≤ 9223372036854775807) (hn1 : 1 ≤ n) (hn8 : n ≤ 1000) :
    Calls Try.prog 46 #[.int .i64 n, .slice A l.length c] w (WeightsPost n w) := by
  have H1 := Src.new c hs hm
  obtain ⟨i0, hi0, hz0, hz1, hz2⟩ := info_parts info2
  clear hs
  go_enter Try.func46, Try.ntmps46
  go_wp2_with fail
  refine (from_any _ _ _ _).mono ?_
  rintro e w1 ⟨rfl, rfl⟩
  have HK : SKeep w w.heap.size 2 1 (.slice none 0 0) 0 [] (w.alloc (.cells #[.slice A l.length c, .int .i64 0] 142)) := ⟨World.ownsRow_nil _ _ _ _, H1, (Below.refl _ _).alloc (Nat.le_refl _) _⟩
  clear H1
  go_wp2_with fail
  go_loopw [6, 7] (fun v i wr => (∃ k : Int, i = .int .i64 k ∧ k ≤ n) ∧ WHead w w.heap.size v i wr) (fun _ i _ => n - (intOf i).toNat)
  case atStart => exact ⟨⟨0, rfl, by omega⟩, [], rfl, by simp [WOk], HK⟩
  case round =>
    clear HK
    obtain ⟨⟨k, rfl, hkn⟩, ws, hk, hok, HK⟩ := hrel
    injection hk with _ hk
    subst hk
    have OK := hide hok; clear hok
    by_cases hlt : ws.length < n
    · go_wp2_with fail
      refine (next_any _ _ _ HK.src (by omega) (by omega)).mono ?_
      rintro e w2 ⟨x, hx1, hx2, rfl, S2, G2⟩
      have K2 := HK.grown G2 S2
      clear HK S2 G2
      go_wp2_with (at_builtin; refine wpList_append_own _ rfl _ _ 22 rfl (w.heap.size + 1) 2 i0 _ 1 8 Try.underlying22 hi0 hz0 hz1 hz2 rfl (by decide) u6 ws.length (ws.map (Value.int .i64)) rfl (K2.own.alloc _) ⟨w2.heap.size, 0, none⟩ 1 1 [.int .i64 x] rfl rfl ?c1 ?c2 ?c3 ?c4 ?c5 ?_)
      case c1 => exact news_at (heap_alloc_new w2 _)
      case c2 => simp [Value.oneCell']
      case c3 => unfold maxLen; omega
      case c4 => omega
      case c5 => have := K2.src.lt; simp; omega
      intro v' w9 hown9 hg9 _
      have K9 := K2.append hg9 hown9
      clear hg9 hown9 K2
      go_wp2_with fail
      go_roundw
      case rel => exact ⟨⟨_, rfl, by omega⟩, ws ++ [x], by simp, fun y hy => by rcases List.mem_append.1 hy with h | h; exact OK.out y h; simp at h; subst h; exact ⟨hx1, by omega⟩, by simpa using K9⟩
      case measure => simp [intOf] <;> omega
    · have hlen : ws.length = n := by omega
      subst hlen
      obtain ⟨g, cap, hv, hbg, hgl, hnc, hcm⟩ := own_form HK.own (by omega)
      subst hv
      go_wp2_with fail
      refine (next_any _ _ _ HK.src (by omega) (by omega)).mono ?_
      rintro e w2 ⟨x, hx1, hx2, rfl, S2, G2⟩
      have K2 := HK.grown G2 S2
      clear HK S2 G2
      obtain ⟨j, rfl⟩ : ∃ j : Nat, x = (j : Int) := ⟨x.toNat, by omega⟩
      have hj : j < ws.length := by omega
      have hcell : w2.cell? ⟨g, j, none⟩ = some (.int .i64 ws[j]) := by rw [K2.own.cellAt j (by omega)]; simp [hj]
      have hfr := K2.own.frozenAt j
      have hw := OK.out ws[j] (by simp)
      go_wp2_with fail
      go_ret
      have hl : (ws.set j (ws[j] + 1)).length = ws.length := by simp
      refine ⟨_, ws.set j (ws[j] + 1), rfl, hl, ?_, ?_, ?_, ?_⟩
      · intro y hy
        rcases List.mem_or_eq_of_mem_set hy with h | h
        · have := OK.out y h; omega
        · omega
      · have := sum_nonneg ws (fun y hy => (OK.out y hy).1)
        rw [sum_set ws j hj]
        omega
      · rw [hl, List.map_set]
        exact own_mono (K2.own.stored j _).1 (by omega)
      · exact K2.bel.setCell (by simp; omega) _
theorem take_sum (l : List Int) (k : Nat) (h : k < l.length) : (l.take (k + 1)).sum = (l.take k).sum + l[k] := by
  rw [List.take_succ_eq_append_getElem h, List.sum_append]
  simp
theorem take_sum_bd (l : List Int) (m : Int) (hl : ∀ x ∈ l, -m ≤ x ∧ x ≤ m) (k : Nat) (h : k ≤ l.length) : -(k * m) ≤ (l.take k).sum ∧ (l.take k).sum ≤ k * m := by
  induction k with
  | zero => simp
  | succ k ih =>
    have := ih (by omega)
    have hx := hl l[k] (by simp)
    rw [take_sum l k (by omega)]
    simp only [Int.natCast_add, Int.add_mul]
    omega
/-- armplanmake.Total -/
theorem total_any (A : Option Addr) (l : List Int) (c : Nat) (w : World) (hs : SlN w A l) (hl : ∀ x ∈ l, -1099511627776 ≤ x ∧ x ≤ 1099511627776) (hn : l.length ≤ 1000) :
    Calls Try.prog 53 #[.slice A l.length c] w fun e w' => e = .returned (.int .i64 l.sum) ∧ w = w' := by
  have HS := hide hs; have HL := hide hl
  clear hs hl
  go_enter Try.func53, Try.ntmps53
  go_wp2_with fail
  go_loop [3, 4] (fun t i => ∃ k : Nat, k ≤ l.length ∧ i = .int .i64 k ∧ t = .int .i64 (l.take k).sum) (fun _ i => l.length - (intOf i).toNat)
  case atStart => exact ⟨0, by omega, rfl, by simp⟩
  case round =>
    obtain ⟨k, hk, rfl, rfl⟩ := hrel
    have hb := take_sum_bd l 1099511627776 HL.out k hk
    by_cases hlt : k < l.length
    · obtain ⟨b, off, rfl, hb0⟩ := HS.out.addr (by omega)
      have hc := HS.out.at_ hlt
      have hx := HL.out l[k] (by simp)
      have T := hide (take_sum l k hlt)
      go_wp2
      go_round
      case rel => exact ⟨k + 1, by omega, by simp, by rw [T.out]⟩
      case measure => simp [intOf] <;> omega
    · go_wp2
      go_ret
      exact ⟨ret_int (by rw [List.take_of_length_le (by omega)]), rfl⟩
/-- append onto a row of the call's own of a slice that reads as 'news', be it nil, empty or not -/
theorem run_append_sl {P : Program} (w : World) (base : Nat) (t ty e : TypeId) (i : TypeInfo) (z : Value) (size bytes : Nat) (ht : P.underlying t = some (.slice e)) (hi : P.info? e = some i) (hz : i.zero = some z)
    (hsize : i.size = size) (hby : i.bytes = bytes) (hzs : z.cells.size = size) (hsz : 0 < size) (v : Value) (n : Nat) (xs : List Value) (hown : w.ownsRow base e size v n xs)
    (A : Option Addr) (m c : Nat) (news : List Value) (hl : news.length = m * size) (hsl : Sl w A news) (h1 : ∀ u ∈ news, u.oneCell' = true)
    (h63 : n + m ≤ maxLen) (hbytes : (n + m) * bytes ≤ 140737488355328) (hbase : base ≤ w.heap.size) :
    ∃ v' w', (Builtin.append_ #[t, t] ty #[v, .slice A m c]).run P w = .ok v' w' ∧ w'.ownsRow base e size v' (n + m) (xs ++ news) ∧ w.grownBy w' v.ownBlock := by
  rcases A with _ | ad
  · have hn : news = [] := by
      rcases news with _ | ⟨u, r⟩
      · rfl
      · obtain ⟨b, off, h, _⟩ := hsl (by simp); cases h
    subst hn
    have hm : m = 0 := by
      rcases Nat.eq_zero_or_pos m with h | h
      · exact h
      · have := Nat.mul_pos h hsz; simp at hl; omega
    subst hm
    refine ⟨v, w, ?_, by simpa using hown, World.grownBy.refl w _⟩
    rcases hown.2 with ⟨rfl, rfl⟩ | ⟨g, cap, cur, rfl, _, _, hnc, _⟩
    · simp [Builtin.append_, run_underlying ht, sizeOf, typeInfo, hi, Builtin.lenOf, Builtin.firstCells]
    · simp [Builtin.append_, run_underlying ht, sizeOf, typeInfo, hi, Builtin.lenOf, Builtin.firstCells, hnc, storeCells]
  · obtain ⟨v', w', hr, h2, h3, _⟩ := run_append_own (P := P) w base t ty e i z size bytes ht hi hz hsize hby hzs hsz v n xs hown ad m c news hl (fun j u hu => by
      obtain ⟨b, off, h, _, hc⟩ := hsl (by rintro rfl; simp at hu)
      injection h with h
      subst h
      have e : ((⟨b, off, none⟩ : Addr).add j) = ⟨b, off + j, none⟩ := by unfold Addr.add; split <;> simp_all
      rw [e]
      exact hc j u hu) h1 h63 hbytes hbase
    exact ⟨v', w', hr, h2, h3⟩
theorem wpList_append_sl {P : Program} (w : World) {ops : Array Oper} {rest : List Oper} {o : Oper} {a : Act} {Q : Exit → Act → World → Prop} (hgd : o.guard = none) (s x : Operand) (t : TypeId)
    (ho : o.op = .call { callee := .builtin .append, args := #[s, x], argTypes := #[t, t] })
    (base : Nat) (e : TypeId) (i : TypeInfo) (z : Value) (size bytes : Nat) (ht : P.underlying t = some (.slice e)) (hi : P.info? e = some i) (hz : i.zero = some z)
    (hsize : i.size = size) (hby : i.bytes = bytes) (hzs : z.cells.size = size) (hsz : 0 < size) (v : Value) (n : Nat) (xs : List Value) (hs : a.eval s = v) (hown : w.ownsRow base e size v n xs)
    (A : Option Addr) (m c : Nat) (news : List Value) (hx : a.eval x = .slice A m c) (hl : news.length = m * size) (hsl : Sl w A news) (h1 : ∀ u ∈ news, u.oneCell' = true)
    (h63 : n + m ≤ maxLen) (hbytes : (n + m) * bytes ≤ 140737488355328) (hbase : base ≤ w.heap.size)
    (h : ∀ v' w', w'.ownsRow base e size v' (n + m) (xs ++ news) → w.grownBy w' v.ownBlock → wpList P ops Q rest (a.put o.dst v') w') : wpList P ops Q (o :: rest) a w := by
  obtain ⟨v', w', hr, h2, h3⟩ := run_append_sl (P := P) w base t o.type e i z size bytes ht hi hz hsize hby hzs hsz v n xs hown A m c news hl hsl h1 h63 hbytes hbase
  refine wpList_plain hgd fun K hK => ?_
  unfold Oper.wp execOp
  simp only [ho, resolve, invoke, builtin, Sem.run_bind, Sem.run_pure, Result.andThen_ok, List.map_toArray, List.map_cons, List.map_nil, hs, hx, hr]
  exact hK _ _ (h v' w' h2 h3)
theorem own_sl {w : World} {base : Nat} {e : TypeId} {sz n : Nat} {A : Option Addr} {c : Nat} {xs : List Value} (h : w.ownsRow base e sz (.slice A n c) n xs) : Sl w A xs := by
  intro hx
  rcases h.2 with ⟨h1, h0⟩ | ⟨g, cap, cur, e1, e2, e3, e4, e5, e6, e7⟩
  · have := h.1
    subst h0
    simp at this
    exact absurd this hx
  · injection e1 with e1 _
    subst e1
    have hg : g < w.heap.size := by
      rcases Nat.lt_or_ge g w.heap.size with hlt | hge
      · exact hlt
      · rw [Array.getElem?_eq_none hge] at e3; cases e3
    refine ⟨g, 0, rfl, hg, fun j u hu => ?_⟩
    have := h.cells (g := g) rfl j u hu
    have e : ((⟨g, 0, none⟩ : Addr).add j) = ⟨g, 0 + j, none⟩ := by unfold Addr.add; split <;> simp_all
    rw [e] at this
    exact this
/-- the value of a row that is owned -/
theorem own_val {w : World} {base : Nat} {e : TypeId} {sz n : Nat} {v : Value} {xs : List Value} (h : w.ownsRow base e sz v n xs) : ∃ A c, v = .slice A n c ∧ n ≤ c ∧ c ≤ maxLen ∧ (∀ b off, A = some ⟨b, off, none⟩ → base ≤ b ∧ b < w.heap.size) := by
  rcases h.2 with ⟨h1, h0⟩ | ⟨g, cap, cur, e1, e2, e3, e4, e5, e6, e7⟩
  · subst h0
    exact ⟨none, 0, h1, Nat.le_refl _, Nat.zero_le _, fun b off h => by cases h⟩
  · refine ⟨_, cap, e1, e4, e5, fun b off h => ?_⟩
    injection h with h
    injection h with h
    subst h
    refine ⟨e2, ?_⟩
    rcases Nat.lt_or_ge g w.heap.size with hlt | hge
    · exact hlt
    · rw [Array.getElem?_eq_none hge] at e3; cases e3
end Go.Proofs.Ytionbckpgfaneaa
