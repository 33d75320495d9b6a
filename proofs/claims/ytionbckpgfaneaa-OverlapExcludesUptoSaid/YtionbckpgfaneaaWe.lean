/- Walks, part e: equal. -/
import Derived.Test.YtionbckpgfaneaaWd
namespace Go.Proofs.Ytionbckpgfaneaa
open Go.RowKit
set_option maxHeartbeats 400000
set_option maxRecDepth 100000
theorem info3 : (Try.prog.info? 3).map (fun i => (i.zero, i.size, i.bytes)) = some (some (.int .i64 0), 1, 8) := by kernel_rfl
theorem own_below {w w' : World} {base : Nat} {e : TypeId} {sz n : Nat} {v : Value} {xs : List Value} (h : w.ownsRow base e sz v n xs) (hb : Below w.heap.size w w') : w'.ownsRow base e sz v n xs :=
  h.kept (row := none) ⟨hb.os, hb.tape, hb.output, hb.size, fun k hk _ => hb.block k hk⟩ (by rcases v.ownBlock with _ | g <;> simp)
/-- what equal returns: weights for both lists with the same sum -/
def EqualPost (n k : Nat) (w : World) (e : Ending) (w' : World) : Prop :=
  ∃ (v u : Value) (s t : List Int), e = .returned (.tuple #[v, u]) ∧ s.length = n ∧ t.length = k ∧ (∀ x ∈ s, 0 ≤ x ∧ x ≤ 9009) ∧ (∀ x ∈ t, 0 ≤ x ∧ x ≤ 9009) ∧ s.sum = t.sum ∧ 1 ≤ s.sum ∧ s.sum ≤ 9000 ∧
    w'.ownsRow w.heap.size 2 1 v n (s.map (Value.int .i64)) ∧ w'.ownsRow w.heap.size 2 1 u k (t.map (Value.int .i64)) ∧ Below w.heap.size w w'
theorem equal_any (n k : Nat) (A : Option Addr) (l : List Int) (c : Nat) (w : World) (hs : SlN w A l) (hm : l.length ≤ 1048576) (hn1 : 1 ≤ n) (hn8 : n ≤ 1000) (hk1 : 1 ≤ k) (hk8 : k ≤ 1000) :
    Calls Try.prog 42 #[.int .i64 n, .int .i64 k, .slice A l.length c] w (EqualPost n k w) := by
  obtain ⟨i0, hi0, hz0, hz1, hz2⟩ := info_parts info3
  go_enter Try.func42, Try.ntmps42
  go_wp2_with fail
  refine (weights_any n A l c _ hs (by omega) hn1 hn8).mono ?_
  rintro e w1 ⟨v, s, rfl, rfl, hs9, hsum, hown, hb1⟩
  have hs1 : SlN w1 A l := hs.below hb1
  have hz1w := hb1.size
  go_wp2_with (first
    | (at_builtin; have _t := hown2; refine wpList_append_sl _ rfl _ _ 24 rfl w1.heap.size 3 i0 _ 1 8 Try.underlying24 hi0 hz0 hz1 hz2 rfl (by decide) v2 (0 + l.length) ([] ++ l.map (Value.int .i64)) rfl hown2 A l.length c (l.map (Value.int .i64)) rfl (by simp) hs2 (by simp [Value.oneCell']) (by unfold maxLen; omega) (by omega) (by omega) ?_; intro v3 w3 hown3 hg3; clear _t)
    | (at_builtin; refine wpList_append_sl _ rfl _ _ 24 rfl w1.heap.size 3 i0 _ 1 8 Try.underlying24 hi0 hz0 hz1 hz2 rfl (by decide) (.slice none 0 0) 0 [] rfl (World.ownsRow_nil _ _ _ _) A l.length c (l.map (Value.int .i64)) rfl (by simp) hs1 (by simp [Value.oneCell']) (by unfold maxLen; omega) (by omega) (Nat.le_refl _) ?_; intro v2 w2 hown2 hg2; have hb2 : Below w1.heap.size w1 w2 := ⟨hg2.os, hg2.tape, hg2.output, hg2.size, fun k hk => hg2.block k hk (by simp [Value.ownBlock])⟩; have hs2 : SlN w2 A l := hs1.below hb2; have hz2w := hb2.size))
  have hb3 : Below w1.heap.size w1 w3 := hb2.grown hg3 hz2w (fun g hg => (hown2.lt g hg).1)
  have hz3w := hb3.size
  have hown3' : w3.ownsRow w1.heap.size 3 1 v3 (l ++ l).length ((l ++ l).map (Value.int .i64)) := by simpa using hown3
  obtain ⟨A3, c3, hv3, _, _, hA3⟩ := own_val hown3'
  rw [hv3] at hown3' ⊢
  have hs3 : SlN w3 A3 (l ++ l) := own_sl hown3'
  refine (weights_any k A3 (l ++ l) c3 _ hs3 (by simp; omega) hk1 hk8).mono ?_
  rintro e w4 ⟨u, t, rfl, rfl, ht9, htsum, hownu, hb4⟩
  have hown' : w3.ownsRow w.heap.size 2 1 v s.length (s.map (Value.int .i64)) := own_below hown hb3
  have hownv : w4.ownsRow w.heap.size 2 1 v s.length (s.map (Value.int .i64)) := own_below hown' hb4
  obtain ⟨g1, c1, rfl, hg1, hg1', _, _⟩ := own_form hown (by omega)
  obtain ⟨g2, c2, rfl, hg2a, hg2', _, _⟩ := own_form hownu (by omega)
  clear hs1 hs2 hs3 hown2 hown3 hown3' hg2 hg3 hs hA3 hv3 hown hown'
  have hz4w := hb4.size
  have hbw : Below w.heap.size w w4 := (hb1.trans (hb3.mono (by omega))).trans (hb4.mono (by omega))
  clear hb1 hb2 hb3 hb4
  go_wp2_with fail
  refine (total_any (some ⟨g1, 0, none⟩) s c1 _ (own_sl hownv) (fun x hx => by have := hs9 x hx; omega) (by omega)).mono ?_
  rintro e w5 ⟨rfl, rfl⟩
  go_wp2_with fail
  refine (total_any (some ⟨g2, 0, none⟩) t c2 _ (own_sl hownu) (fun x hx => by have := ht9 x hx; omega) (by omega)).mono ?_
  rintro e w6 ⟨rfl, rfl⟩
  have s1 := sum_le s 9 (fun x hx => (hs9 x hx).2)
  have t1 := sum_le t 9 (fun x hx => (ht9 x hx).2)
  have cs0 : w4.cell? ⟨g1, 0, none⟩ = some (.int .i64 (s[0]'(by omega))) := by rw [hownv.cellAt 0 (by omega)]; simp
  have ct0 : w4.cell? ⟨g2, 0, none⟩ = some (.int .i64 (t[0]'(by omega))) := by rw [hownu.cellAt 0 (by omega)]; simp
  have fs0 := hownv.frozenAt 0
  have ft0 := hownu.frozenAt 0
  have xs0 := hs9 (s[0]'(by omega)) (by simp)
  have xt0 := ht9 (t[0]'(by omega)) (by simp)
  have HV := hide hownv; have HU := hide hownu; have HB := hide hbw; have H9 := hide hs9; have T9 := hide ht9
  clear hownv hownu hbw hs9 ht9
  by_cases hd : s.sum - t.sum < 0
  · go_wp2_with fail
    go_ret2
    have e1 := sum_set s 0 (by omega) (-(s.sum - t.sum))
    rw [← Int.sub_eq_add_neg] at e1
    refine ⟨_, _, s.set 0 (s[0]'(by omega) - (s.sum - t.sum)), t, rfl, by simp, rfl, ?_, fun x hx => by have := T9.out x hx; omega, by omega, by omega, by omega, ?_, ?_, ?_⟩
    · intro y hy
      rcases List.mem_or_eq_of_mem_set hy with h | h
      · have := H9.out y h; omega
      · omega
    · rw [List.map_set]
      exact (HV.out.stored 0 _).1
    · exact own_mono (HU.out.kept (grown_set w4 g1 0 _) (by right; simp [Value.ownBlock]; omega)) (by omega)
    · exact HB.out.setCell (by simp; omega) _
  · go_wp2_with fail
    go_ret2
    have e1 := sum_set t 0 (by omega) (s.sum - t.sum)
    refine ⟨_, _, s, t.set 0 (t[0]'(by omega) + (s.sum - t.sum)), rfl, rfl, by simp, fun x hx => by have := H9.out x hx; omega, ?_, by omega, by omega, by omega, ?_, ?_, ?_⟩
    · intro y hy
      rcases List.mem_or_eq_of_mem_set hy with h | h
      · have := T9.out y h; omega
      · omega
    · exact HV.out.kept (grown_set w4 g2 0 _) (by right; simp [Value.ownBlock]; omega)
    · rw [List.map_set]
      exact own_mono (HU.out.stored 0 _).1 (by omega)
    · exact HB.out.setCell (by simp; omega) _
end Go.Proofs.Ytionbckpgfaneaa
