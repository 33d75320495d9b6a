/- Walks, part z: the least and the greatest value. -/
import Derived.Test.YtionbckpgfaneaaWw
import Derived.Test.YtionbckpgfaneaaPf
import Derived.Laws.EntriesVeiled
namespace Go.Proofs.Ytionbckpgfaneaa
open Go.RowKit
set_option maxHeartbeats 1000000
set_option maxRecDepth 100000
def bestV (f : Nat → Int) (k : Nat) : Int := if k = 0 then 0 else f (amin f k)
theorem bestV_one (f : Nat → Int) : bestV f 1 = f 0 := rfl
theorem bestV_lt {f : Nat → Int} {k : Nat} (hk : 0 < k) (h : f k < bestV f k) : bestV f (k + 1) = f k ∧ amin f (k + 1) = k := by
  have e : bestV f k = f (amin f k) := by simp [bestV, show k ≠ 0 by omega]
  rw [e] at h
  have a : amin f (k + 1) = k := by rw [amin_succ f k hk, if_pos h]
  exact ⟨by simp [bestV, a], a⟩
theorem bestV_ge {f : Nat → Int} {k : Nat} (hk : 0 < k) (h : ¬ f k < bestV f k) : bestV f (k + 1) = bestV f k ∧ amin f (k + 1) = amin f k := by
  have e : bestV f k = f (amin f k) := by simp [bestV, show k ≠ 0 by omega]
  rw [e] at h
  have a : amin f (k + 1) = amin f k := by rw [amin_succ f k hk, if_neg h]
  exact ⟨by rw [e]; simp [bestV, a], a⟩
theorem bestV_bd {f : Nat → Int} {k m : Nat} (hk : k ≤ m) (h : ∀ i, i < m → -13194139533312 ≤ f i ∧ f i ≤ 13194139533312) : -13194139533312 ≤ bestV f k ∧ bestV f k ≤ 13194139533312 := by
  unfold bestV
  split
  · omega
  · exact h _ (by have := amin_lt f k (by omega); omega)
theorem amin_le_self (f : Nat → Int) (k : Nat) : amin f k ≤ k := by
  rcases Nat.eq_zero_or_pos k with h | h
  · subst h; exact Nat.le_refl _
  · exact Nat.le_of_lt (amin_lt f k h)
theorem leastR_no {n : V3} {l : List IV} (h : supOk n l = false) : leastR n l = .tuple #[.int .i64 0, .int .i64 0, .bool false] := by simp [leastR, supR, h]
theorem greatR_no {n : V3} {l : List IV} (h : supOk n l = false) : greatR n l = .tuple #[.int .i64 0, .int .i64 0, .bool false] := by simp [greatR, supR, h]
theorem bestV_fin {f : Nat → Int} {k : Nat} (h : k ≠ 0) : bestV f k = f (amin f k) := by simp [bestV, h]
def nhi (n : V3) (l : List IV) (i : Nat) : Int := -vhi n l i
theorem nhi_at (n : V3) (l : List IV) (k : Nat) (h : k < l.length) : nhi n l k = -dhi n l[k] := by rw [nhi, vhi_at n l k h]
theorem nhi_neg (n : V3) (l : List IV) (k : Nat) : -nhi n l k = vhi n l k := by rw [nhi, Int.neg_neg]
def dirV (a b : Nat) (p : Nat) : Value := .agg #[.func (.func a) #[] #[.pointer (some ⟨p, 0, none⟩)], .func (.func b) #[] #[]]
/-- support.downward -/
theorem downward_any (n : V3) (w : World) : Calls Try.prog 115 #[.agg #[.int .i64 n.x, .int .i64 n.y, .int .i64 n.z]] w
    fun e w' => e = .returned (dirV 147 148 w.heap.size) ∧ w'.heap[w.heap.size]? = some (.cells (vcs n) 47 (0, 0)) ∧ Below w.heap.size w w' := by
  have hmf := hmf
  go_enter Try.func115, Try.ntmps115
  go_wp2_with fail
  refine bodyPost_ret (v := dirV 147 148 w.heap.size) (by simp [results, Try.results115, go_sem, dirV]) rfl ⟨rfl, ?_, ?_⟩
  · exact (Below.heap_alloc _ _ _ (by simp)).trans (heap_alloc_new w _)
  · go_grown
theorem val147 (n : V3) (v : IV) (p : Nat) (w : World) (hp : w.heap[p]? = some (.cells (vcs n) 47 (0, 0))) (hn : inR n = true) (hv : v.ok = true) :
    Calls Try.prog 147 #[.agg #[.int .i64 v.x.lo, .int .i64 v.x.hi, .int .i64 v.y.lo, .int .i64 v.y.hi, .int .i64 v.z.lo, .int .i64 v.z.hi], .pointer (some ⟨p, 0, none⟩)] w
      fun e w' => e = .returned (.int .i64 (dlo n v)) ∧ Below w.heap.size w w' := by
  have HN := hide hn; have HV := hide hv
  have hlt : p < w.heap.size := by
    rcases Nat.lt_or_ge p w.heap.size with h | h
    · exact h
    · rw [Array.getElem?_eq_none h] at hp; cases hp
  have hc := blk_cell hp; simp only [vcs] at hc
  clear hn hv hp
  go_enter Try.func147, Try.ntmps147
  go_wp2_with fail
  refine (dot_any n v _ HN.out HV.out).mono ?_
  rintro e w1 ⟨rfl, hb1⟩
  have HB := hide (show Below w.heap.size w w1 from ((Below.refl _ _).alloc (Nat.le_refl _) _).trans (hb1.mono (by simp)))
  clear hb1 hc
  go_wp2_with fail
  go_ret
  exact ⟨rfl, HB.out⟩
theorem cmp148 (x y : Int) (w : World) : Calls Try.prog 148 #[.int .i64 x, .int .i64 y] w fun e w' => e = .returned (.bool (decide (x < y))) ∧ w = w' := by
  go_enter Try.func148, Try.ntmps148
  go_wp2_with fail
  go_ret
  exact ⟨rfl, rfl⟩
def Best115 (w : World) (n : V3) (l : List IV) (p : Nat) (t u i : Value) (wr : World) : Prop :=
  ∃ k : Nat, k ≤ l.length ∧ i = .int .i64 k ∧ t = .int .i64 (bestV (vlo n l) k) ∧ u = .int .i64 (amin (vlo n l) k) ∧ wr.heap[p]? = some (.cells (vcs n) 47 (0, 0)) ∧
    wr.heap[w.heap.size]? = some (.cells #[.func (.func 147) #[] #[.pointer (some ⟨p, 0, none⟩)], .func (.func 148) #[] #[]] 128 (0, 0)) ∧ Below w.heap.size w wr ∧ w.heap.size < wr.heap.size
/-- (direction).best, downward -/
theorem best115 (n : V3) (A : Option Addr) (l : List IV) (c p : Nat) (w : World) (hs : SlI w A l) (hp : w.heap[p]? = some (.cells (vcs n) 47 (0, 0))) (hn : inR n = true) (hl : placedB l = true) :
    Calls Try.prog 116 #[dirV 147 148 p, .slice A l.length c] w fun e w' => e = .returned (.tuple #[.int .i64 (leastV n l), .int .i64 (leastI n l)]) ∧ Below w.heap.size w w' := by
  have hlt : p < w.heap.size := by
    rcases Nat.lt_or_ge p w.heap.size with h | h
    · exact h
    · rw [Array.getElem?_eq_none h] at hp; cases hp
  obtain ⟨l1, l8, lo⟩ := placed_of hl
  have HS := hide hs; have HP := hide hp; have HN := hide hn; have LO := hide lo
  have FB := hide (show ∀ i, i < l.length → -13194139533312 ≤ (vlo n l) i ∧ (vlo n l) i ≤ 13194139533312 from fun i hi => by
    have := dlo_bd hn (lo i hi)
    simp only [vlo_at n l i hi]
    omega)
  clear hs hp hn lo hl
  unfold dirV
  go_enter Try.func116, Try.ntmps116
  go_wp2_with fail
  go_loopw [6, 7, 13] (fun t u i wr => Best115 w n l p t u i wr) (fun _ _ i _ => l.length - (intOf i).toNat)
  case atStart => exact ⟨0, by omega, rfl, rfl, rfl, (Below.heap_alloc _ _ _ hlt).trans HP.out, heap_alloc_new w _, by go_grown, by simp⟩
  case round =>
    obtain ⟨k, hk, rfl, rfl, rfl, jP, jD, jB, jz⟩ := hrel
    have JP := hide jP; have JD := hide jD; have JB := hide jB
    have hcD := blk_cell jD
    have jp : p < wr.heap.size := by omega
    clear jP jD jB
    by_cases hkl : k < l.length
    · obtain ⟨b, off, rfl, hbb⟩ := HS.out.addr (by omega)
      obtain ⟨h0, h1, h2, h3, h4, h5⟩ := (HS.out.below JB.out).at_ hkl
      have OKK := hide (LO.out k hkl)
      obtain ⟨X, hX⟩ : ∃ X, X = dlo n l[k] := ⟨_, rfl⟩
      have HF := hide (show (vlo n l) k = X by simp only [vlo_at n l k hkl]; rw [hX])
      have xb := dlo_bd HN.out OKK.out
      rw [← hX] at xb
      have HX := hide hX; clear hX
      have bb := bestV_bd (Nat.le_of_lt hkl) FB.out
      obtain ⟨Y, hY⟩ : ∃ Y, Y = bestV (vlo n l) k := ⟨_, rfl⟩
      have am := amin_le_self (vlo n l) k
      obtain ⟨j, hj⟩ : ∃ j, j = amin (vlo n l) k := ⟨_, rfl⟩
      rw [← hY, ← hj]
      rw [← hj] at am
      have yb : -13194139533312 ≤ Y ∧ Y ≤ 13194139533312 := by omega
      have HY := hide hY; have HJ := hide hj; clear hY hj bb
      go_wp2_with fail
      refine (val147 n l[k] p _ ((Below.heap_alloc _ _ _ jp).trans JP.out) HN.out OKK.out).mono ?_
      rintro e w1 ⟨rfl, hb1⟩
      rw [← HX.out]
      have KP := hide ((hb1.block p (by simp; omega)).trans ((Below.heap_alloc _ _ _ jp).trans JP.out))
      have KD := hide ((hb1.block w.heap.size (by simp; omega)).trans ((Below.heap_alloc _ _ _ jz).trans JD.out))
      have KB := hide (show Below w.heap.size w w1 from (JB.out.alloc (by omega) _).trans (hb1.mono (by simp; omega)))
      have kz : w.heap.size < w1.heap.size := by have := hb1.size; simp at this; omega
      have hcE := blk_cell KD.out
      clear hb1 hcD h0 h1 h2 h3 h4 h5
      by_cases hk0 : k = 0
      · subst hk0
        go_wp2_with fail
        go_roundw
        case rel => exact ⟨1, by omega, rfl, by rw [bestV_one, HF.out], rfl, KP.out, KD.out, KB.out, kz⟩
        case measure => simp [intOf] <;> omega
      · have hk0' : ((k : Int) == 0) = false := by simp; omega
        have HK0 := hide (show 0 < k by omega); clear hk0
        go_wp2_with fail
        refine (cmp148 X Y _).mono ?_
        rintro e w2 ⟨rfl, rfl⟩
        by_cases hc : X < Y
        · have hc' : decide (X < Y) = true := decide_eq_true hc
          obtain ⟨g1, g2⟩ := bestV_lt HK0.out (show (vlo n l) k < bestV (vlo n l) k by rw [HF.out]; have := HY.out; omega)
          have G1 := hide g1; have G2 := hide g2; clear g1 g2 hc
          rw [hc']
          go_wp2_with fail
          go_roundw
          case rel => exact ⟨k + 1, by omega, by simp, by rw [G1.out, HF.out], by rw [G2.out], KP.out, KD.out, KB.out, kz⟩
          case measure => simp [intOf] <;> omega
        · have hc' : decide (X < Y) = false := decide_eq_false hc
          obtain ⟨g1, g2⟩ := bestV_ge HK0.out (show ¬ (vlo n l) k < bestV (vlo n l) k by rw [HF.out]; have := HY.out; omega)
          have G1 := hide g1; have G2 := hide g2; clear g1 g2 hc
          rw [hc']
          go_wp2_with fail
          go_roundw
          case rel => exact ⟨k + 1, by omega, by simp, by rw [G1.out, ← HY.out], by rw [G2.out, ← HJ.out], KP.out, KD.out, KB.out, kz⟩
          case measure => simp [intOf] <;> omega
    · obtain rfl : k = l.length := by omega
      have hne : l.length ≠ 0 := by omega
      go_wp2_with fail
      go_ret2
      exact ⟨by rw [bestV_fin hne]; rfl, JB.out⟩
/-- support.upward -/
theorem upward_any (n : V3) (w : World) : Calls Try.prog 117 #[.agg #[.int .i64 n.x, .int .i64 n.y, .int .i64 n.z]] w
    fun e w' => e = .returned (dirV 149 150 w.heap.size) ∧ w'.heap[w.heap.size]? = some (.cells (vcs n) 47 (0, 0)) ∧ Below w.heap.size w w' := by
  have hmf := hmf
  go_enter Try.func117, Try.ntmps117
  go_wp2_with fail
  refine bodyPost_ret (v := dirV 149 150 w.heap.size) (by simp [results, Try.results117, go_sem, dirV]) rfl ⟨rfl, ?_, ?_⟩
  · exact (Below.heap_alloc _ _ _ (by simp)).trans (heap_alloc_new w _)
  · go_grown
theorem val149 (n : V3) (v : IV) (p : Nat) (w : World) (hp : w.heap[p]? = some (.cells (vcs n) 47 (0, 0))) (hn : inR n = true) (hv : v.ok = true) :
    Calls Try.prog 149 #[.agg #[.int .i64 v.x.lo, .int .i64 v.x.hi, .int .i64 v.y.lo, .int .i64 v.y.hi, .int .i64 v.z.lo, .int .i64 v.z.hi], .pointer (some ⟨p, 0, none⟩)] w
      fun e w' => e = .returned (.int .i64 (dhi n v)) ∧ Below w.heap.size w w' := by
  have HN := hide hn; have HV := hide hv
  have hlt : p < w.heap.size := by
    rcases Nat.lt_or_ge p w.heap.size with h | h
    · exact h
    · rw [Array.getElem?_eq_none h] at hp; cases hp
  have hc := blk_cell hp; simp only [vcs] at hc
  clear hn hv hp
  go_enter Try.func149, Try.ntmps149
  go_wp2_with fail
  refine (dot_any n v _ HN.out HV.out).mono ?_
  rintro e w1 ⟨rfl, hb1⟩
  have HB := hide (show Below w.heap.size w w1 from ((Below.refl _ _).alloc (Nat.le_refl _) _).trans (hb1.mono (by simp)))
  clear hb1 hc
  go_wp2_with fail
  go_ret
  exact ⟨rfl, HB.out⟩
theorem cmp150 (x y : Int) (w : World) : Calls Try.prog 150 #[.int .i64 x, .int .i64 y] w fun e w' => e = .returned (.bool (decide (y < x))) ∧ w = w' := by
  go_enter Try.func150, Try.ntmps150
  go_wp2_with fail
  go_ret
  exact ⟨rfl, rfl⟩
def Best117 (w : World) (n : V3) (l : List IV) (p : Nat) (t u i : Value) (wr : World) : Prop :=
  ∃ k : Nat, k ≤ l.length ∧ i = .int .i64 k ∧ t = .int .i64 (-bestV (nhi n l) k) ∧ u = .int .i64 (amin (nhi n l) k) ∧ wr.heap[p]? = some (.cells (vcs n) 47 (0, 0)) ∧
    wr.heap[w.heap.size]? = some (.cells #[.func (.func 149) #[] #[.pointer (some ⟨p, 0, none⟩)], .func (.func 150) #[] #[]] 128 (0, 0)) ∧ Below w.heap.size w wr ∧ w.heap.size < wr.heap.size
/-- (direction).best, upward -/
theorem best117 (n : V3) (A : Option Addr) (l : List IV) (c p : Nat) (w : World) (hs : SlI w A l) (hp : w.heap[p]? = some (.cells (vcs n) 47 (0, 0))) (hn : inR n = true) (hl : placedB l = true) :
    Calls Try.prog 116 #[dirV 149 150 p, .slice A l.length c] w fun e w' => e = .returned (.tuple #[.int .i64 (greatV n l), .int .i64 (greatI n l)]) ∧ Below w.heap.size w w' := by
  have hlt : p < w.heap.size := by
    rcases Nat.lt_or_ge p w.heap.size with h | h
    · exact h
    · rw [Array.getElem?_eq_none h] at hp; cases hp
  obtain ⟨l1, l8, lo⟩ := placed_of hl
  have HS := hide hs; have HP := hide hp; have HN := hide hn; have LO := hide lo
  have FB := hide (show ∀ i, i < l.length → -13194139533312 ≤ (nhi n l) i ∧ (nhi n l) i ≤ 13194139533312 from fun i hi => by
    have := dhi_bd hn (lo i hi)
    simp only [nhi_at n l i hi]
    omega)
  clear hs hp hn lo hl
  unfold dirV
  go_enter Try.func116, Try.ntmps116
  go_wp2_with fail
  go_loopw [6, 7, 13] (fun t u i wr => Best117 w n l p t u i wr) (fun _ _ i _ => l.length - (intOf i).toNat)
  case atStart => exact ⟨0, by omega, rfl, rfl, rfl, (Below.heap_alloc _ _ _ hlt).trans HP.out, heap_alloc_new w _, by go_grown, by simp⟩
  case round =>
    obtain ⟨k, hk, rfl, rfl, rfl, jP, jD, jB, jz⟩ := hrel
    have JP := hide jP; have JD := hide jD; have JB := hide jB
    have hcD := blk_cell jD
    have jp : p < wr.heap.size := by omega
    clear jP jD jB
    by_cases hkl : k < l.length
    · obtain ⟨b, off, rfl, hbb⟩ := HS.out.addr (by omega)
      obtain ⟨h0, h1, h2, h3, h4, h5⟩ := (HS.out.below JB.out).at_ hkl
      have OKK := hide (LO.out k hkl)
      obtain ⟨X, hX⟩ : ∃ X, X = dhi n l[k] := ⟨_, rfl⟩
      have HF := hide (show (nhi n l) k = -X by simp only [nhi_at n l k hkl]; rw [hX])
      have xb := dhi_bd HN.out OKK.out
      rw [← hX] at xb
      have HX := hide hX; clear hX
      have bb := bestV_bd (Nat.le_of_lt hkl) FB.out
      obtain ⟨Y, hY⟩ : ∃ Y, Y = -bestV (nhi n l) k := ⟨_, rfl⟩
      have am := amin_le_self (nhi n l) k
      obtain ⟨j, hj⟩ : ∃ j, j = amin (nhi n l) k := ⟨_, rfl⟩
      rw [← hY, ← hj]
      rw [← hj] at am
      have yb : -13194139533312 ≤ Y ∧ Y ≤ 13194139533312 := by omega
      have HY := hide hY; have HJ := hide hj; clear hY hj bb
      go_wp2_with fail
      refine (val149 n l[k] p _ ((Below.heap_alloc _ _ _ jp).trans JP.out) HN.out OKK.out).mono ?_
      rintro e w1 ⟨rfl, hb1⟩
      rw [← HX.out]
      have KP := hide ((hb1.block p (by simp; omega)).trans ((Below.heap_alloc _ _ _ jp).trans JP.out))
      have KD := hide ((hb1.block w.heap.size (by simp; omega)).trans ((Below.heap_alloc _ _ _ jz).trans JD.out))
      have KB := hide (show Below w.heap.size w w1 from (JB.out.alloc (by omega) _).trans (hb1.mono (by simp; omega)))
      have kz : w.heap.size < w1.heap.size := by have := hb1.size; simp at this; omega
      have hcE := blk_cell KD.out
      clear hb1 hcD h0 h1 h2 h3 h4 h5
      by_cases hk0 : k = 0
      · subst hk0
        go_wp2_with fail
        go_roundw
        case rel => exact ⟨1, by omega, rfl, by rw [bestV_one, HF.out]; rw [Int.neg_neg], rfl, KP.out, KD.out, KB.out, kz⟩
        case measure => simp [intOf] <;> omega
      · have hk0' : ((k : Int) == 0) = false := by simp; omega
        have HK0 := hide (show 0 < k by omega); clear hk0
        go_wp2_with fail
        refine (cmp150 X Y _).mono ?_
        rintro e w2 ⟨rfl, rfl⟩
        by_cases hc : Y < X
        · have hc' : decide (Y < X) = true := decide_eq_true hc
          obtain ⟨g1, g2⟩ := bestV_lt HK0.out (show (nhi n l) k < bestV (nhi n l) k by rw [HF.out]; have := HY.out; omega)
          have G1 := hide g1; have G2 := hide g2; clear g1 g2 hc
          rw [hc']
          go_wp2_with fail
          go_roundw
          case rel => exact ⟨k + 1, by omega, by simp, by rw [G1.out, HF.out]; rw [Int.neg_neg], by rw [G2.out], KP.out, KD.out, KB.out, kz⟩
          case measure => simp [intOf] <;> omega
        · have hc' : decide (Y < X) = false := decide_eq_false hc
          obtain ⟨g1, g2⟩ := bestV_ge HK0.out (show ¬ (nhi n l) k < bestV (nhi n l) k by rw [HF.out]; have := HY.out; omega)
          have G1 := hide g1; have G2 := hide g2; clear g1 g2 hc
          rw [hc']
          go_wp2_with fail
          go_roundw
          case rel => exact ⟨k + 1, by omega, by simp, by rw [G1.out, ← HY.out], by rw [G2.out, ← HJ.out], KP.out, KD.out, KB.out, kz⟩
          case measure => simp [intOf] <;> omega
    · obtain rfl : k = l.length := by omega
      have hne : l.length ≠ 0 := by omega
      go_wp2_with fail
      go_ret2
      exact ⟨by rw [bestV_fin hne, nhi_neg]; rfl, JB.out⟩
end Go.Proofs.Ytionbckpgfaneaa
