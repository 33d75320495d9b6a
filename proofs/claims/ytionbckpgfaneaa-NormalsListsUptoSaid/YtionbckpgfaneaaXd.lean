/- Texts merged into one: Wz Va Vb Vc. -/
import Derived.Test.YtionbckpgfaneaaXc
import Derived.Test.YtionbckpgfaneaaXb
import Derived.Laws.EntriesVeiled
import Derived.Deep.RegionHeld3
import Derived.Deep.DrawnRows
/- Walks, part z: the least and the greatest value. -/
namespace Go.Proofs.Ytionbckpgfaneaa
open Go.RowKit
set_option maxHeartbeats 1000000
set_option maxRecDepth 100000
def bestV (f : Nat → Int) (k : Nat) : Int := if k = 0 then 0 else f (amin f k)
theorem bestV_one (f : Nat → Int) : bestV f 1 = f 0 := rfl
theorem bestV_lt {f : Nat → Int} {k : Nat} (hk : 0 < k) (h : f k < bestV f k) : bestV f (k + 1) = f k ∧ amin f (k + 1) = k := by
  have e : bestV f k = f (amin f k) := by simp [bestV, show k ≠ 0 by omega]
  rw [e] at h
  have a : amin f (k + 1) = k := by rw [amin_succ f k hk, if_pos h]
  exact ⟨by simp [bestV, a], a⟩
theorem bestV_ge {f : Nat → Int} {k : Nat} (hk : 0 < k) (h : ¬ f k < bestV f k) : bestV f (k + 1) = bestV f k ∧ amin f (k + 1) = amin f k := by
  have e : bestV f k = f (amin f k) := by simp [bestV, show k ≠ 0 by omega]
  rw [e] at h
  have a : amin f (k + 1) = amin f k := by rw [amin_succ f k hk, if_neg h]
  exact ⟨by rw [e]; simp [bestV, a], a⟩
theorem bestV_bd {f : Nat → Int} {k m : Nat} (hk : k ≤ m) (h : ∀ i, i < m → -13194139533312 ≤ f i ∧ f i ≤ 13194139533312) : -13194139533312 ≤ bestV f k ∧ bestV f k ≤ 13194139533312 := by
  unfold bestV
  split
  · omega
  · exact h _ (by have := amin_lt f k (by omega); omega)
theorem amin_le_self (f : Nat → Int) (k : Nat) : amin f k ≤ k := by
  rcases Nat.eq_zero_or_pos k with h | h
  · subst h; exact Nat.le_refl _
  · exact Nat.le_of_lt (amin_lt f k h)
theorem leastR_no {n : V3} {l : List IV} (h : supOk n l = false) : leastR n l = .tuple #[.int .i64 0, .int .i64 0, .bool false] := by simp [leastR, supR, h]
theorem greatR_no {n : V3} {l : List IV} (h : supOk n l = false) : greatR n l = .tuple #[.int .i64 0, .int .i64 0, .bool false] := by simp [greatR, supR, h]
theorem bestV_fin {f : Nat → Int} {k : Nat} (h : k ≠ 0) : bestV f k = f (amin f k) := by simp [bestV, h]
def nhi (n : V3) (l : List IV) (i : Nat) : Int := -vhi n l i
theorem nhi_at (n : V3) (l : List IV) (k : Nat) (h : k < l.length) : nhi n l k = -dhi n l[k] := by rw [nhi, vhi_at n l k h]
theorem nhi_neg (n : V3) (l : List IV) (k : Nat) : -nhi n l k = vhi n l k := by rw [nhi, Int.neg_neg]
def dirV (a b : Nat) (p : Nat) : Value := .agg #[.func (.func a) #[] #[.pointer (some ⟨p, 0, none⟩)], .func (.func b) #[] #[]]
/-- support.downward -/
theorem downward_any (n : V3) (w : World) : Calls Try.prog 115 #[.agg #[.int .i64 n.x, .int .i64 n.y, .int .i64 n.z]] w
    fun e w' => e = .returned (dirV 147 148 w.heap.size) ∧ w'.heap[w.heap.size]? = some (.cells (vcs n) 47 (0, 0)) ∧ Below w.heap.size w w' := by
  have hmf := hmf
  go_enter Try.func115, Try.ntmps115
  go_wp2_with fail
  refine bodyPost_ret (v := dirV 147 148 w.heap.size) (by simp [results, Try.results115, go_sem, dirV]) rfl ⟨rfl, ?_, ?_⟩
  · exact (Below.heap_alloc _ _ _ (by simp)).trans (heap_alloc_new w _)
  · go_grown
theorem val147 (n : V3) (v : IV) (p : Nat) (w : World) (hp : w.heap[p]? = some (.cells (vcs n) 47 (0, 0))) (hn : inR n = true) (hv : v.ok = true) :
    Calls Try.prog 147 #[.agg #[.int .i64 v.x.lo, .int .i64 v.x.hi, .int .i64 v.y.lo, .int .i64 v.y.hi, .int .i64 v.z.lo, .int .i64 v.z.hi], .pointer (some ⟨p, 0, none⟩)] w
      fun e w' => e = .returned (.int .i64 (dlo n v)) ∧ Below w.heap.size w w' := by
  have HN := hide hn; have HV := hide hv
  have hlt : p < w.heap.size := by
    rcases Nat.lt_or_ge p w.heap.size with h | h
    · exact h
    · rw [Array.getElem?_eq_none h] at hp; cases hp
  have hc := blk_cell hp; simp only [vcs] at hc
  clear hn hv hp
  go_enter Try.func147, Try.ntmps147
  go_wp2_with fail
  refine (dot_any n v _ HN.out HV.out).mono ?_
  rintro e w1 ⟨rfl, hb1⟩
  have HB := hide (show Below w.heap.size w w1 from ((Below.refl _ _).alloc (Nat.le_refl _) _).trans (hb1.mono (by simp)))
  clear hb1 hc
  go_wp2_with fail
  go_ret
  exact ⟨rfl, HB.out⟩
theorem cmp148 (x y : Int) (w : World) : Calls Try.prog 148 #[.int .i64 x, .int .i64 y] w fun e w' => e = .returned (.bool (decide (x < y))) ∧ w = w' := by
  go_enter Try.func148, Try.ntmps148
  go_wp2_with fail
  go_ret
  exact ⟨rfl, rfl⟩
def Best115 (w : World) (n : V3) (l : List IV) (p : Nat) (t u i : Value) (wr : World) : Prop :=
  ∃ k : Nat, k ≤ l.length ∧ i = .int .i64 k ∧ t = .int .i64 (bestV (vlo n l) k) ∧ u = .int .i64 (amin (vlo n l) k) ∧ wr.heap[p]? = some (.cells (vcs n) 47 (0, 0)) ∧
    wr.heap[w.heap.size]? = some (.cells #[.func (.func 147) #[] #[.pointer (some ⟨p, 0, none⟩)], .func (.func 148) #[] #[]] 128 (0, 0)) ∧ Below w.heap.size w wr ∧ w.heap.size < wr.heap.size
/-- (direction).best, downward -/
theorem best115 (n : V3) (A : Option Addr) (l : List IV) (c p : Nat) (w : World) (hs : SlI w A l) (hp : w.heap[p]? = some (.cells (vcs n) 47 (0, 0))) (hn : inR n = true) (hl : placedB l = true) :
    Calls Try.prog 116 #[dirV 147 148 p, .slice A l.length c] w fun e w' => e = .returned (.tuple #[.int .i64 (leastV n l), .int .i64 (leastI n l)]) ∧ Below w.heap.size w w' := by
  have hlt : p < w.heap.size := by
    rcases Nat.lt_or_ge p w.heap.size with h | h
    · exact h
    · rw [Array.getElem?_eq_none h] at hp; cases hp
  obtain ⟨l1, l8, lo⟩ := placed_of hl
  have HS := hide hs; have HP := hide hp; have HN := hide hn; have LO := hide lo
  have FB := hide (show ∀ i, i < l.length → -13194139533312 ≤ (vlo n l) i ∧ (vlo n l) i ≤ 13194139533312 from fun i hi => by
    have := dlo_bd hn (lo i hi)
    simp only [vlo_at n l i hi]
    omega)
  clear hs hp hn lo hl
  unfold dirV
  go_enter Try.func116, Try.ntmps116
  go_wp2_with fail
  go_loopw [6, 7, 13] (fun t u i wr => Best115 w n l p t u i wr) (fun _ _ i _ => l.length - (intOf i).toNat)
  case atStart => exact ⟨0, by omega, rfl, rfl, rfl, (Below.heap_alloc _ _ _ hlt).trans HP.out, heap_alloc_new w _, by go_grown, by simp⟩
  case round =>
    obtain ⟨k, hk, rfl, rfl, rfl, jP, jD, jB, jz⟩ := hrel
    have JP := hide jP; have JD := hide jD; have JB := hide jB
    have hcD := blk_cell jD
    have jp : p < wr.heap.size := by omega
    clear jP jD jB
    by_cases hkl : k < l.length
    · obtain ⟨b, off, rfl, hbb⟩ := HS.out.addr (by omega)
      obtain ⟨h0, h1, h2, h3, h4, h5⟩ := (HS.out.below JB.out).at_ hkl
      have OKK := hide (LO.out k hkl)
      obtain ⟨X, hX⟩ : ∃ X, X = dlo n l[k] := ⟨_, rfl⟩
      have HF := hide (show (vlo n l) k = X by simp only [vlo_at n l k hkl]; rw [hX])
      have xb := dlo_bd HN.out OKK.out
      rw [← hX] at xb
      have HX := hide hX; clear hX
      have bb := bestV_bd (Nat.le_of_lt hkl) FB.out
      obtain ⟨Y, hY⟩ : ∃ Y, Y = bestV (vlo n l) k := ⟨_, rfl⟩
      have am := amin_le_self (vlo n l) k
      obtain ⟨j, hj⟩ : ∃ j, j = amin (vlo n l) k := ⟨_, rfl⟩
      rw [← hY, ← hj]
      rw [← hj] at am
      have yb : -13194139533312 ≤ Y ∧ Y ≤ 13194139533312 := by omega
      have HY := hide hY; have HJ := hide hj; clear hY hj bb
      go_wp2_with fail
      refine (val147 n l[k] p _ ((Below.heap_alloc _ _ _ jp).trans JP.out) HN.out OKK.out).mono ?_
      rintro e w1 ⟨rfl, hb1⟩
      rw [← HX.out]
      have KP := hide ((hb1.block p (by simp; omega)).trans ((Below.heap_alloc _ _ _ jp).trans JP.out))
      have KD := hide ((hb1.block w.heap.size (by simp; omega)).trans ((Below.heap_alloc _ _ _ jz).trans JD.out))
      have KB := hide (show Below w.heap.size w w1 from (JB.out.alloc (by omega) _).trans (hb1.mono (by simp; omega)))
      have kz : w.heap.size < w1.heap.size := by have := hb1.size; simp at this; omega
      have hcE := blk_cell KD.out
      clear hb1 hcD h0 h1 h2 h3 h4 h5
      by_cases hk0 : k = 0
      · subst hk0
        go_wp2_with fail
        go_roundw
        case rel => exact ⟨1, by omega, rfl, by rw [bestV_one, HF.out], rfl, KP.out, KD.out, KB.out, kz⟩
        case measure => simp [intOf] <;> omega
      · have hk0' : ((k : Int) == 0) = false := by simp; omega
        have HK0 := hide (show 0 < k by omega); clear hk0
        go_wp2_with fail
        refine (cmp148 X Y _).mono ?_
        rintro e w2 ⟨rfl, rfl⟩
        by_cases hc : X < Y
        · have hc' : decide (X < Y) = true := decide_eq_true hc
          obtain ⟨g1, g2⟩ := bestV_lt HK0.out (show (vlo n l) k < bestV (vlo n l) k by rw [HF.out]; have := HY.out; omega)
          have G1 := hide g1; have G2 := hide g2; clear g1 g2 hc
          rw [hc']
          go_wp2_with fail
          go_roundw
          case rel => exact ⟨k + 1, by omega, by simp, by rw [G1.out, HF.out], by rw [G2.out], KP.out, KD.out, KB.out, kz⟩
          case measure => simp [intOf] <;> omega
        · have hc' : decide (X < Y) = false := decide_eq_false hc
          obtain ⟨g1, g2⟩ := bestV_ge HK0.out (show ¬ (vlo n l) k < bestV (vlo n l) k by rw [HF.out]; have := HY.out; omega)
          have G1 := hide g1; have G2 := hide g2; clear g1 g2 hc
          rw [hc']
          go_wp2_with fail
          go_roundw
          case rel => exact ⟨k + 1, by omega, by simp, by rw [G1.out, ← HY.out], by rw [G2.out, ← HJ.out], KP.out, KD.out, KB.out, kz⟩
          case measure => simp [intOf] <;> omega
    · obtain rfl : k = l.length := by omega
      have hne : l.length ≠ 0 := by omega
      go_wp2_with fail
      go_ret2
      exact ⟨by rw [bestV_fin hne]; rfl, JB.out⟩
/-- support.upward -/
theorem upward_any (n : V3) (w : World) : Calls Try.prog 117 #[.agg #[.int .i64 n.x, .int .i64 n.y, .int .i64 n.z]] w
    fun e w' => e = .returned (dirV 149 150 w.heap.size) ∧ w'.heap[w.heap.size]? = some (.cells (vcs n) 47 (0, 0)) ∧ Below w.heap.size w w' := by
  have hmf := hmf
  go_enter Try.func117, Try.ntmps117
  go_wp2_with fail
  refine bodyPost_ret (v := dirV 149 150 w.heap.size) (by simp [results, Try.results117, go_sem, dirV]) rfl ⟨rfl, ?_, ?_⟩
  · exact (Below.heap_alloc _ _ _ (by simp)).trans (heap_alloc_new w _)
  · go_grown
theorem val149 (n : V3) (v : IV) (p : Nat) (w : World) (hp : w.heap[p]? = some (.cells (vcs n) 47 (0, 0))) (hn : inR n = true) (hv : v.ok = true) :
    Calls Try.prog 149 #[.agg #[.int .i64 v.x.lo, .int .i64 v.x.hi, .int .i64 v.y.lo, .int .i64 v.y.hi, .int .i64 v.z.lo, .int .i64 v.z.hi], .pointer (some ⟨p, 0, none⟩)] w
      fun e w' => e = .returned (.int .i64 (dhi n v)) ∧ Below w.heap.size w w' := by
  have HN := hide hn; have HV := hide hv
  have hlt : p < w.heap.size := by
    rcases Nat.lt_or_ge p w.heap.size with h | h
    · exact h
    · rw [Array.getElem?_eq_none h] at hp; cases hp
  have hc := blk_cell hp; simp only [vcs] at hc
  clear hn hv hp
  go_enter Try.func149, Try.ntmps149
  go_wp2_with fail
  refine (dot_any n v _ HN.out HV.out).mono ?_
  rintro e w1 ⟨rfl, hb1⟩
  have HB := hide (show Below w.heap.size w w1 from ((Below.refl _ _).alloc (Nat.le_refl _) _).trans (hb1.mono (by simp)))
  clear hb1 hc
  go_wp2_with fail
  go_ret
  exact ⟨rfl, HB.out⟩
theorem cmp150 (x y : Int) (w : World) : Calls Try.prog 150 #[.int .i64 x, .int .i64 y] w fun e w' => e = .returned (.bool (decide (y < x))) ∧ w = w' := by
  go_enter Try.func150, Try.ntmps150
  go_wp2_with fail
  go_ret
  exact ⟨rfl, rfl⟩
def Best117 (w : World) (n : V3) (l : List IV) (p : Nat) (t u i : Value) (wr : World) : Prop :=
  ∃ k : Nat, k ≤ l.length ∧ i = .int .i64 k ∧ t = .int .i64 (-bestV (nhi n l) k) ∧ u = .int .i64 (amin (nhi n l) k) ∧ wr.heap[p]? = some (.cells (vcs n) 47 (0, 0)) ∧
    wr.heap[w.heap.size]? = some (.cells #[.func (.func 149) #[] #[.pointer (some ⟨p, 0, none⟩)], .func (.func 150) #[] #[]] 128 (0, 0)) ∧ Below w.heap.size w wr ∧ w.heap.size < wr.heap.size
/-- (direction).best, upward -/
theorem best117 (n : V3) (A : Option Addr) (l : List IV) (c p : Nat) (w : World) (hs : SlI w A l) (hp : w.heap[p]? = some (.cells (vcs n) 47 (0, 0))) (hn : inR n = true) (hl : placedB l = true) :
    Calls Try.prog 116 #[dirV 149 150 p, .slice A l.length c] w fun e w' => e = .returned (.tuple #[.int .i64 (greatV n l), .int .i64 (greatI n l)]) ∧ Below w.heap.size w w' := by
  have hlt : p < w.heap.size := by
    rcases Nat.lt_or_ge p w.heap.size with h | h
    · exact h
    · rw [Array.getElem?_eq_none h] at hp; cases hp
  obtain ⟨l1, l8, lo⟩ := placed_of hl
  have HS := hide hs; have HP := hide hp; have HN := hide hn; have LO := hide lo
  have FB := hide (show ∀ i, i < l.length → -13194139533312 ≤ (nhi n l) i ∧ (nhi n l) i ≤ 13194139533312 from fun i hi => by
    have := dhi_bd hn (lo i hi)
    simp only [nhi_at n l i hi]
    omega)
  clear hs hp hn lo hl
  unfold dirV
  go_enter Try.func116, Try.ntmps116
  go_wp2_with fail
  go_loopw [6, 7, 13] (fun t u i wr => Best117 w n l p t u i wr) (fun _ _ i _ => l.length - (intOf i).toNat)
  case atStart => exact ⟨0, by omega, rfl, rfl, rfl, (Below.heap_alloc _ _ _ hlt).trans HP.out, heap_alloc_new w _, by go_grown, by simp⟩
  case round =>
    obtain ⟨k, hk, rfl, rfl, rfl, jP, jD, jB, jz⟩ := hrel
    have JP := hide jP; have JD := hide jD; have JB := hide jB
    have hcD := blk_cell jD
    have jp : p < wr.heap.size := by omega
    clear jP jD jB
    by_cases hkl : k < l.length
    · obtain ⟨b, off, rfl, hbb⟩ := HS.out.addr (by omega)
      obtain ⟨h0, h1, h2, h3, h4, h5⟩ := (HS.out.below JB.out).at_ hkl
      have OKK := hide (LO.out k hkl)
      obtain ⟨X, hX⟩ : ∃ X, X = dhi n l[k] := ⟨_, rfl⟩
      have HF := hide (show (nhi n l) k = -X by simp only [nhi_at n l k hkl]; rw [hX])
      have xb := dhi_bd HN.out OKK.out
      rw [← hX] at xb
      have HX := hide hX; clear hX
      have bb := bestV_bd (Nat.le_of_lt hkl) FB.out
      obtain ⟨Y, hY⟩ : ∃ Y, Y = -bestV (nhi n l) k := ⟨_, rfl⟩
      have am := amin_le_self (nhi n l) k
      obtain ⟨j, hj⟩ : ∃ j, j = amin (nhi n l) k := ⟨_, rfl⟩
      rw [← hY, ← hj]
      rw [← hj] at am
      have yb : -13194139533312 ≤ Y ∧ Y ≤ 13194139533312 := by omega
      have HY := hide hY; have HJ := hide hj; clear hY hj bb
      go_wp2_with fail
      refine (val149 n l[k] p _ ((Below.heap_alloc _ _ _ jp).trans JP.out) HN.out OKK.out).mono ?_
      rintro e w1 ⟨rfl, hb1⟩
      rw [← HX.out]
      have KP := hide ((hb1.block p (by simp; omega)).trans ((Below.heap_alloc _ _ _ jp).trans JP.out))
      have KD := hide ((hb1.block w.heap.size (by simp; omega)).trans ((Below.heap_alloc _ _ _ jz).trans JD.out))
      have KB := hide (show Below w.heap.size w w1 from (JB.out.alloc (by omega) _).trans (hb1.mono (by simp; omega)))
      have kz : w.heap.size < w1.heap.size := by have := hb1.size; simp at this; omega
      have hcE := blk_cell KD.out
      clear hb1 hcD h0 h1 h2 h3 h4 h5
      by_cases hk0 : k = 0
      · subst hk0
        go_wp2_with fail
        go_roundw
        case rel => exact ⟨1, by omega, rfl, by rw [bestV_one, HF.out]; rw [Int.neg_neg], rfl, KP.out, KD.out, KB.out, kz⟩
        case measure => simp [intOf] <;> omega
      · have hk0' : ((k : Int) == 0) = false := by simp; omega
        have HK0 := hide (show 0 < k by omega); clear hk0
        go_wp2_with fail
        refine (cmp150 X Y _).mono ?_
        rintro e w2 ⟨rfl, rfl⟩
        by_cases hc : Y < X
        · have hc' : decide (Y < X) = true := decide_eq_true hc
          obtain ⟨g1, g2⟩ := bestV_lt HK0.out (show (nhi n l) k < bestV (nhi n l) k by rw [HF.out]; have := HY.out; omega)
          have G1 := hide g1; have G2 := hide g2; clear g1 g2 hc
          rw [hc']
          go_wp2_with fail
          go_roundw
          case rel => exact ⟨k + 1, by omega, by simp, by rw [G1.out, HF.out]; rw [Int.neg_neg], by rw [G2.out], KP.out, KD.out, KB.out, kz⟩
          case measure => simp [intOf] <;> omega
        · have hc' : decide (Y < X) = false := decide_eq_false hc
          obtain ⟨g1, g2⟩ := bestV_ge HK0.out (show ¬ (nhi n l) k < bestV (nhi n l) k by rw [HF.out]; have := HY.out; omega)
          have G1 := hide g1; have G2 := hide g2; clear g1 g2 hc
          rw [hc']
          go_wp2_with fail
          go_roundw
          case rel => exact ⟨k + 1, by omega, by simp, by rw [G1.out, ← HY.out], by rw [G2.out, ← HJ.out], KP.out, KD.out, KB.out, kz⟩
          case measure => simp [intOf] <;> omega
    · obtain rfl : k = l.length := by omega
      have hne : l.length ≠ 0 := by omega
      go_wp2_with fail
      go_ret2
      exact ⟨by rw [bestV_fin hne, nhi_neg]; rfl, JB.out⟩
end Go.Proofs.Ytionbckpgfaneaa
/- Walks, part A: Least, Greatest and those of the references. -/
namespace Go.Proofs.Ytionbckpgfaneaa
open Go.RowKit
set_option maxHeartbeats 1000000
set_option maxRecDepth 100000
theorem keepd {w w' : World} {N b : Nat} {f : Nat → Option Value} (h : Below N w w') (hz : b < N) (k : ∀ i, w.cell? ⟨b, i, none⟩ = f i) : ∀ i, w'.cell? ⟨b, i, none⟩ = f i := fun i => (h.cell (p := ⟨b, i, none⟩) hz).trans (k i)
/-- support.Least -/
theorem least_any (n : V3) (A : Option Addr) (l : List IV) (c : Nat) (w : World) (hs : SlI w A l) (hm : l.length ≤ 9223372036854775807) :
    Calls Try.prog 63 #[.agg #[.int .i64 n.x, .int .i64 n.y, .int .i64 n.z], .slice A l.length c] w fun e w' => e = .returned (leastR n l) ∧ Below w.heap.size w w' := by
  have HS := hide hs; clear hs
  go_enter Try.func63, Try.ntmps63
  go_wp2_with fail
  refine (usable_any n _).mono ?_
  rintro e w1 ⟨rfl, hb1⟩
  have hN : w1.heap[w.heap.size]? = some (.cells (vcs n) 47 (0, 0)) := (hb1.block _ (by simp)).trans (heap_alloc_new w _)
  have hz : w.heap.size < w1.heap.size := by have := hb1.size; simp at this; omega
  have HB := hide (show Below w.heap.size w w1 from (((Below.refl _ _).alloc (Nat.le_refl _) _)).trans (hb1.mono (by simp)))
  have HN := hide hN
  clear hb1 hN
  cases hu : usable n
  · have H := hide (leastR_no (show supOk n l = false by simp [supOk, hu]))
    go_wp2_with fail
    go_ret3
    exact ⟨by rw [H.out]; rfl, HB.out⟩
  · go_wp2_with fail
    refine (placed_any A l c _ (HS.out.below HB.out) hm).mono ?_
    rintro e w2 ⟨rfl, hb2⟩
    have HN2 := hide ((hb2.block _ hz).trans HN.out)
    have hz2 : w.heap.size < w2.heap.size := by have := hb2.size; omega
    have HB2 := hide (show Below w.heap.size w w2 from HB.out.trans (hb2.mono (by omega)))
    clear hb2 HN HB
    cases hp : placedB l
    · have H := hide (leastR_no (show supOk n l = false by simp [supOk, hp]))
      go_wp2_with fail
      go_ret3
      exact ⟨by rw [H.out]; rfl, HB2.out⟩
    · have H := hide (leastR_yes hu hp)
      have HU := hide (usable_of hu).1; have HP := hide hp
      have hc := blk_cell HN2.out; simp only [vcs] at hc
      clear hu hp
      go_wp2_with fail
      refine (downward_any n _).mono ?_
      rintro e w3 ⟨rfl, hp3, hb3⟩
      have HP3 := hide hp3
      have HB3 := hide (show Below w.heap.size w w3 from HB2.out.trans (hb3.mono (by omega)))
      have hz3 := hb3.size
      clear hb3 hp3 hc
      go_wp2_with fail
      refine (best115 n A l c w2.heap.size _ (HS.out.below HB3.out) HP3.out HU.out HP.out).mono ?_
      rintro e w4 ⟨rfl, hb4⟩
      have HB4 := hide (show Below w.heap.size w w4 from HB3.out.trans (hb4.mono (by omega)))
      clear hb4
      go_wp2_with fail
      go_ret3
      exact ⟨by rw [H.out]; rfl, HB4.out⟩
def Ref83 (w : World) (n : V3) (l : List IV) (t u i : Value) (wr : World) : Prop :=
  ∃ k : Nat, k ≤ l.length ∧ i = .int .i64 k ∧ t = .int .i64 (bestV (vlo n l) k) ∧ u = .int .i64 (amin (vlo n l) k) ∧ wr.heap[w.heap.size]? = some (.cells (vcs n) 47 (0, 0)) ∧ Below w.heap.size w wr ∧ w.heap.size < wr.heap.size
/-- armplanref10.Least -/
theorem least_ref (n : V3) (A : Option Addr) (l : List IV) (c : Nat) (w : World) (hs : SlI w A l) (hm : l.length ≤ 9223372036854775807) :
    Calls Try.prog 83 #[.agg #[.int .i64 n.x, .int .i64 n.y, .int .i64 n.z], .slice A l.length c] w fun e w' => e = .returned (leastR n l) ∧ Below w.heap.size w w' := by
  have HS := hide hs; clear hs
  go_enter Try.func83, Try.ntmps83
  go_wp2_with fail
  refine (usable_ref n _).mono ?_
  rintro e w1 ⟨rfl, hb1⟩
  have hN : w1.heap[w.heap.size]? = some (.cells (vcs n) 47 (0, 0)) := (hb1.block _ (by simp)).trans (heap_alloc_new w _)
  have hz : w.heap.size < w1.heap.size := by have := hb1.size; simp at this; omega
  have HB := hide (show Below w.heap.size w w1 from (((Below.refl _ _).alloc (Nat.le_refl _) _)).trans (hb1.mono (by simp)))
  have HN := hide hN
  clear hb1 hN
  cases hu : usable n
  · have H := hide (leastR_no (show supOk n l = false by simp [supOk, hu]))
    go_wp2_with fail
    go_ret3
    exact ⟨by rw [H.out]; rfl, HB.out⟩
  · go_wp2_with fail
    refine (placed_ref A l c _ (HS.out.below HB.out) hm).mono ?_
    rintro e w2 ⟨rfl, hb2⟩
    have HN2 := hide ((hb2.block _ hz).trans HN.out)
    have hz2 : w.heap.size < w2.heap.size := by have := hb2.size; omega
    have HB2 := hide (show Below w.heap.size w w2 from HB.out.trans (hb2.mono (by omega)))
    clear hb2 HN HB
    cases hp : placedB l
    · have H := hide (leastR_no (show supOk n l = false by simp [supOk, hp]))
      go_wp2_with fail
      go_ret3
      exact ⟨by rw [H.out]; rfl, HB2.out⟩
    · have H := hide (leastR_yes hu hp)
      obtain ⟨l1, l8, lo⟩ := placed_of hp
      have HI := hide (usable_of hu).1; have LO := hide lo; have HU := hide hu
      have FB := hide (show ∀ i, i < l.length → -13194139533312 ≤ (vlo n l) i ∧ (vlo n l) i ≤ 13194139533312 from fun i hi => by
        have := dlo_bd HI.out (lo i hi)
        rw [vlo_at n l i hi]
        omega)
      clear hu hp lo
      go_wp2_with fail
      go_loopw [7, 8, 9] (fun t u i wr => Ref83 w n l t u i wr) (fun _ _ i _ => l.length - (intOf i).toNat)
      case atStart => exact ⟨0, by omega, rfl, rfl, rfl, HN2.out, HB2.out, hz2⟩
      case round =>
        clear HN2 HB2 hz2
        obtain ⟨k, hk, rfl, rfl, rfl, jN, jB, jz⟩ := hrel
        have JN := hide jN; have JB := hide jB
        have k0 := blk_cell jN; simp only [vcs] at k0
        clear jN jB
        by_cases hkl : k < l.length
        · obtain ⟨b, off, rfl, hbb⟩ := HS.out.addr (by omega)
          obtain ⟨h0, h1, h2, h3, h4, h5⟩ := (HS.out.below JB.out).at_ hkl
          have OKK := hide (LO.out k hkl)
          have DR := hide (dotR_yes (show dotOk n l[k] = true by simp [dotOk, HU.out, OKK.out]))
          obtain ⟨X, hX⟩ : ∃ X, X = dlo n l[k] := ⟨_, rfl⟩
          have HF := hide (show (vlo n l) k = X by rw [vlo_at n l k hkl, hX])
          have xb := dlo_bd HI.out OKK.out
          rw [← hX] at xb
          have HX := hide hX; clear hX
          have bb := bestV_bd (Nat.le_of_lt hkl) FB.out
          obtain ⟨Y, hY⟩ : ∃ Y, Y = bestV (vlo n l) k := ⟨_, rfl⟩
          have am := amin_le_self (vlo n l) k
          obtain ⟨j, hj⟩ : ∃ j, j = amin (vlo n l) k := ⟨_, rfl⟩
          rw [← hY, ← hj]
          rw [← hj] at am
          have yb : -13194139533312 ≤ Y ∧ Y ≤ 13194139533312 := by omega
          have HY := hide hY; have HJ := hide hj; clear hY hj bb
          have hi1 : (0 : Int) ≤ (k : Int) := Int.natCast_nonneg _
          have hi2 : (k : Int) < (l.length : Int) := by omega
          have hbr : b < wr.heap.size := by omega
          go_wp2_with fail
          go_region_held3 (fun w' => (∀ i, w'.cell? ⟨w.heap.size, i, none⟩ = #[.int .i64 n.x, .int .i64 n.y, .int .i64 n.z][i]?) ∧ w'.cell? ⟨b, off + k * 6, none⟩ = some (.int .i64 l[k].x.lo) ∧ w'.cell? ⟨b, off + k * 6 + 1, none⟩ = some (.int .i64 l[k].x.hi) ∧ w'.cell? ⟨b, off + k * 6 + 2, none⟩ = some (.int .i64 l[k].y.lo) ∧ w'.cell? ⟨b, off + k * 6 + 3, none⟩ = some (.int .i64 l[k].y.hi) ∧ w'.cell? ⟨b, off + k * 6 + 4, none⟩ = some (.int .i64 l[k].z.lo) ∧ w'.cell? ⟨b, off + k * 6 + 5, none⟩ = some (.int .i64 l[k].z.hi))
            (first | exact ⟨k0, h0, h1, h2, h3, h4, h5⟩ | go_keep)
            (first | (go_at_call 110; (with_reducible refine (dot_ref n l[k] _).mono ?_); rintro e w5 ⟨rfl, b5⟩; have k0 := keepd b5 jz k0; have h0 := (b5.cell (p := ⟨b, off + k * 6, none⟩) hbr).trans h0; have h1 := (b5.cell (p := ⟨b, off + k * 6 + 1, none⟩) hbr).trans h1; have h2 := (b5.cell (p := ⟨b, off + k * 6 + 2, none⟩) hbr).trans h2; have h3 := (b5.cell (p := ⟨b, off + k * 6 + 3, none⟩) hbr).trans h3; have h4 := (b5.cell (p := ⟨b, off + k * 6 + 4, none⟩) hbr).trans h4; have h5 := (b5.cell (p := ⟨b, off + k * 6 + 5, none⟩) hbr).trans h5; rw [DR.out]))
          rw [← HX.out]
          have KN := hide ((b5.block w.heap.size jz).trans JN.out)
          have KB := hide (JB.out.drew.trans (b5.mono (Nat.le_of_lt jz)))
          have kz : w.heap.size < w5.heap.size := Nat.lt_of_lt_of_le jz b5.size
          clear b5 k0 h0 h1 h2 h3 h4 h5
          by_cases hk0 : k = 0
          · subst hk0
            go_wp2_with fail
            go_roundw
            case rel => exact ⟨1, by omega, rfl, by rw [bestV_one, HF.out], rfl, KN.out, KB.out, kz⟩
            case measure => simp [intOf] <;> omega
          · have hk0' : ((k : Int) == 0) = false := by simp; omega
            have HK0 := hide (show 0 < k by omega); clear hk0
            by_cases hc : X < Y
            · obtain ⟨g1, g2⟩ := bestV_lt HK0.out (show (vlo n l) k < bestV (vlo n l) k by rw [HF.out]; have := HY.out; omega)
              have G1 := hide g1; have G2 := hide g2; clear g1 g2
              go_wp2_with fail
              go_roundw
              case rel => exact ⟨k + 1, by omega, by simp, by rw [G1.out, HF.out], by rw [G2.out], KN.out, KB.out, kz⟩
              case measure => simp [intOf] <;> omega
            · obtain ⟨g1, g2⟩ := bestV_ge HK0.out (show ¬ (vlo n l) k < bestV (vlo n l) k by rw [HF.out]; have := HY.out; omega)
              have G1 := hide g1; have G2 := hide g2; clear g1 g2
              go_wp2_with fail
              go_roundw
              case rel => exact ⟨k + 1, by omega, by simp, by rw [G1.out, ← HY.out], by rw [G2.out, ← HJ.out], KN.out, KB.out, kz⟩
              case measure => simp [intOf] <;> omega
        · obtain rfl : k = l.length := by omega
          have hne : l.length ≠ 0 := by omega
          clear k0
          go_wp2_with fail
          go_ret3
          exact ⟨by rw [H.out, bestV_fin hne]; rfl, JB.out⟩
/-- support.Greatest -/
theorem greatest_any (n : V3) (A : Option Addr) (l : List IV) (c : Nat) (w : World) (hs : SlI w A l) (hm : l.length ≤ 9223372036854775807) :
    Calls Try.prog 64 #[.agg #[.int .i64 n.x, .int .i64 n.y, .int .i64 n.z], .slice A l.length c] w fun e w' => e = .returned (greatR n l) ∧ Below w.heap.size w w' := by
  have HS := hide hs; clear hs
  go_enter Try.func64, Try.ntmps64
  go_wp2_with fail
  refine (usable_any n _).mono ?_
  rintro e w1 ⟨rfl, hb1⟩
  have hN : w1.heap[w.heap.size]? = some (.cells (vcs n) 47 (0, 0)) := (hb1.block _ (by simp)).trans (heap_alloc_new w _)
  have hz : w.heap.size < w1.heap.size := by have := hb1.size; simp at this; omega
  have HB := hide (show Below w.heap.size w w1 from (((Below.refl _ _).alloc (Nat.le_refl _) _)).trans (hb1.mono (by simp)))
  have HN := hide hN
  clear hb1 hN
  cases hu : usable n
  · have H := hide (greatR_no (show supOk n l = false by simp [supOk, hu]))
    go_wp2_with fail
    go_ret3
    exact ⟨by rw [H.out]; rfl, HB.out⟩
  · go_wp2_with fail
    refine (placed_any A l c _ (HS.out.below HB.out) hm).mono ?_
    rintro e w2 ⟨rfl, hb2⟩
    have HN2 := hide ((hb2.block _ hz).trans HN.out)
    have hz2 : w.heap.size < w2.heap.size := by have := hb2.size; omega
    have HB2 := hide (show Below w.heap.size w w2 from HB.out.trans (hb2.mono (by omega)))
    clear hb2 HN HB
    cases hp : placedB l
    · have H := hide (greatR_no (show supOk n l = false by simp [supOk, hp]))
      go_wp2_with fail
      go_ret3
      exact ⟨by rw [H.out]; rfl, HB2.out⟩
    · have H := hide (greatR_yes hu hp)
      have HU := hide (usable_of hu).1; have HP := hide hp
      have hc := blk_cell HN2.out; simp only [vcs] at hc
      clear hu hp
      go_wp2_with fail
      refine (upward_any n _).mono ?_
      rintro e w3 ⟨rfl, hp3, hb3⟩
      have HP3 := hide hp3
      have HB3 := hide (show Below w.heap.size w w3 from HB2.out.trans (hb3.mono (by omega)))
      have hz3 := hb3.size
      clear hb3 hp3 hc
      go_wp2_with fail
      refine (best117 n A l c w2.heap.size _ (HS.out.below HB3.out) HP3.out HU.out HP.out).mono ?_
      rintro e w4 ⟨rfl, hb4⟩
      have HB4 := hide (show Below w.heap.size w w4 from HB3.out.trans (hb4.mono (by omega)))
      clear hb4
      go_wp2_with fail
      go_ret3
      exact ⟨by rw [H.out]; rfl, HB4.out⟩
def Ref85 (w : World) (n : V3) (l : List IV) (t u i : Value) (wr : World) : Prop :=
  ∃ k : Nat, k ≤ l.length ∧ i = .int .i64 k ∧ t = .int .i64 (-bestV (nhi n l) k) ∧ u = .int .i64 (amin (nhi n l) k) ∧ wr.heap[w.heap.size]? = some (.cells (vcs n) 47 (0, 0)) ∧ Below w.heap.size w wr ∧ w.heap.size < wr.heap.size
/-- armplanref10.Greatest -/
theorem greatest_ref (n : V3) (A : Option Addr) (l : List IV) (c : Nat) (w : World) (hs : SlI w A l) (hm : l.length ≤ 9223372036854775807) :
    Calls Try.prog 85 #[.agg #[.int .i64 n.x, .int .i64 n.y, .int .i64 n.z], .slice A l.length c] w fun e w' => e = .returned (greatR n l) ∧ Below w.heap.size w w' := by
  have HS := hide hs; clear hs
  go_enter Try.func85, Try.ntmps85
  go_wp2_with fail
  refine (usable_ref n _).mono ?_
  rintro e w1 ⟨rfl, hb1⟩
  have hN : w1.heap[w.heap.size]? = some (.cells (vcs n) 47 (0, 0)) := (hb1.block _ (by simp)).trans (heap_alloc_new w _)
  have hz : w.heap.size < w1.heap.size := by have := hb1.size; simp at this; omega
  have HB := hide (show Below w.heap.size w w1 from (((Below.refl _ _).alloc (Nat.le_refl _) _)).trans (hb1.mono (by simp)))
  have HN := hide hN
  clear hb1 hN
  cases hu : usable n
  · have H := hide (greatR_no (show supOk n l = false by simp [supOk, hu]))
    go_wp2_with fail
    go_ret3
    exact ⟨by rw [H.out]; rfl, HB.out⟩
  · go_wp2_with fail
    refine (placed_ref A l c _ (HS.out.below HB.out) hm).mono ?_
    rintro e w2 ⟨rfl, hb2⟩
    have HN2 := hide ((hb2.block _ hz).trans HN.out)
    have hz2 : w.heap.size < w2.heap.size := by have := hb2.size; omega
    have HB2 := hide (show Below w.heap.size w w2 from HB.out.trans (hb2.mono (by omega)))
    clear hb2 HN HB
    cases hp : placedB l
    · have H := hide (greatR_no (show supOk n l = false by simp [supOk, hp]))
      go_wp2_with fail
      go_ret3
      exact ⟨by rw [H.out]; rfl, HB2.out⟩
    · have H := hide (greatR_yes hu hp)
      obtain ⟨l1, l8, lo⟩ := placed_of hp
      have HI := hide (usable_of hu).1; have LO := hide lo; have HU := hide hu
      have FB := hide (show ∀ i, i < l.length → -13194139533312 ≤ (nhi n l) i ∧ (nhi n l) i ≤ 13194139533312 from fun i hi => by
        have := dhi_bd HI.out (lo i hi)
        rw [nhi_at n l i hi]
        omega)
      clear hu hp lo
      go_wp2_with fail
      go_loopw [7, 8, 9] (fun t u i wr => Ref85 w n l t u i wr) (fun _ _ i _ => l.length - (intOf i).toNat)
      case atStart => exact ⟨0, by omega, rfl, rfl, rfl, HN2.out, HB2.out, hz2⟩
      case round =>
        clear HN2 HB2 hz2
        obtain ⟨k, hk, rfl, rfl, rfl, jN, jB, jz⟩ := hrel
        have JN := hide jN; have JB := hide jB
        have k0 := blk_cell jN; simp only [vcs] at k0
        clear jN jB
        by_cases hkl : k < l.length
        · obtain ⟨b, off, rfl, hbb⟩ := HS.out.addr (by omega)
          obtain ⟨h0, h1, h2, h3, h4, h5⟩ := (HS.out.below JB.out).at_ hkl
          have OKK := hide (LO.out k hkl)
          have DR := hide (dotR_yes (show dotOk n l[k] = true by simp [dotOk, HU.out, OKK.out]))
          obtain ⟨X, hX⟩ : ∃ X, X = dhi n l[k] := ⟨_, rfl⟩
          have HF := hide (show (nhi n l) k = -X by rw [nhi_at n l k hkl, hX])
          have xb := dhi_bd HI.out OKK.out
          rw [← hX] at xb
          have HX := hide hX; clear hX
          have bb := bestV_bd (Nat.le_of_lt hkl) FB.out
          obtain ⟨Y, hY⟩ : ∃ Y, Y = -bestV (nhi n l) k := ⟨_, rfl⟩
          have am := amin_le_self (nhi n l) k
          obtain ⟨j, hj⟩ : ∃ j, j = amin (nhi n l) k := ⟨_, rfl⟩
          rw [← hY, ← hj]
          rw [← hj] at am
          have yb : -13194139533312 ≤ Y ∧ Y ≤ 13194139533312 := by omega
          have HY := hide hY; have HJ := hide hj; clear hY hj bb
          have hi1 : (0 : Int) ≤ (k : Int) := Int.natCast_nonneg _
          have hi2 : (k : Int) < (l.length : Int) := by omega
          have hbr : b < wr.heap.size := by omega
          go_wp2_with fail
          go_region_held3 (fun w' => (∀ i, w'.cell? ⟨w.heap.size, i, none⟩ = #[.int .i64 n.x, .int .i64 n.y, .int .i64 n.z][i]?) ∧ w'.cell? ⟨b, off + k * 6, none⟩ = some (.int .i64 l[k].x.lo) ∧ w'.cell? ⟨b, off + k * 6 + 1, none⟩ = some (.int .i64 l[k].x.hi) ∧ w'.cell? ⟨b, off + k * 6 + 2, none⟩ = some (.int .i64 l[k].y.lo) ∧ w'.cell? ⟨b, off + k * 6 + 3, none⟩ = some (.int .i64 l[k].y.hi) ∧ w'.cell? ⟨b, off + k * 6 + 4, none⟩ = some (.int .i64 l[k].z.lo) ∧ w'.cell? ⟨b, off + k * 6 + 5, none⟩ = some (.int .i64 l[k].z.hi))
            (first | exact ⟨k0, h0, h1, h2, h3, h4, h5⟩ | go_keep)
            (first | (go_at_call 110; (with_reducible refine (dot_ref n l[k] _).mono ?_); rintro e w5 ⟨rfl, b5⟩; have k0 := keepd b5 jz k0; have h0 := (b5.cell (p := ⟨b, off + k * 6, none⟩) hbr).trans h0; have h1 := (b5.cell (p := ⟨b, off + k * 6 + 1, none⟩) hbr).trans h1; have h2 := (b5.cell (p := ⟨b, off + k * 6 + 2, none⟩) hbr).trans h2; have h3 := (b5.cell (p := ⟨b, off + k * 6 + 3, none⟩) hbr).trans h3; have h4 := (b5.cell (p := ⟨b, off + k * 6 + 4, none⟩) hbr).trans h4; have h5 := (b5.cell (p := ⟨b, off + k * 6 + 5, none⟩) hbr).trans h5; rw [DR.out]))
          rw [← HX.out]
          have KN := hide ((b5.block w.heap.size jz).trans JN.out)
          have KB := hide (JB.out.drew.trans (b5.mono (Nat.le_of_lt jz)))
          have kz : w.heap.size < w5.heap.size := Nat.lt_of_lt_of_le jz b5.size
          clear b5 k0 h0 h1 h2 h3 h4 h5
          by_cases hk0 : k = 0
          · subst hk0
            go_wp2_with fail
            go_roundw
            case rel => exact ⟨1, by omega, rfl, by rw [bestV_one, HF.out]; rw [Int.neg_neg], rfl, KN.out, KB.out, kz⟩
            case measure => simp [intOf] <;> omega
          · have hk0' : ((k : Int) == 0) = false := by simp; omega
            have HK0 := hide (show 0 < k by omega); clear hk0
            by_cases hc : Y < X
            · obtain ⟨g1, g2⟩ := bestV_lt HK0.out (show (nhi n l) k < bestV (nhi n l) k by rw [HF.out]; have := HY.out; omega)
              have G1 := hide g1; have G2 := hide g2; clear g1 g2
              go_wp2_with fail
              go_roundw
              case rel => exact ⟨k + 1, by omega, by simp, by rw [G1.out, HF.out]; rw [Int.neg_neg], by rw [G2.out], KN.out, KB.out, kz⟩
              case measure => simp [intOf] <;> omega
            · obtain ⟨g1, g2⟩ := bestV_ge HK0.out (show ¬ (nhi n l) k < bestV (nhi n l) k by rw [HF.out]; have := HY.out; omega)
              have G1 := hide g1; have G2 := hide g2; clear g1 g2
              go_wp2_with fail
              go_roundw
              case rel => exact ⟨k + 1, by omega, by simp, by rw [G1.out, ← HY.out], by rw [G2.out, ← HJ.out], KN.out, KB.out, kz⟩
              case measure => simp [intOf] <;> omega
        · obtain rfl : k = l.length := by omega
          have hne : l.length ≠ 0 := by omega
          clear k0
          go_wp2_with fail
          go_ret3
          exact ⟨by rw [H.out, bestV_fin hne, nhi_neg]; rfl, JB.out⟩
end Go.Proofs.Ytionbckpgfaneaa
/- Walks, part B: the sums of boxes. -/
namespace Go.Proofs.Ytionbckpgfaneaa
open Go.RowKit
set_option maxHeartbeats 1000000
set_option maxRecDepth 100000
theorem clampF_in {x : Int} (h1 : -2147483648 ≤ x) (h2 : x ≤ 2147483648) : clampF x = x := by unfold clampF; omega
/-- armplanref1.limited -/
theorem limited_any (a b : Int) (w : World) (h1 : -2147483648 ≤ a) (h2 : a ≤ 2147483648) (h3 : -2147483648 ≤ b) (h4 : b ≤ 2147483648) :
    Calls Try.prog 152 #[.int .i64 a, .int .i64 b] w fun e w' => e = .returned (.agg #[.int .i64 a, .int .i64 b]) ∧ Below w.heap.size w w' := by
  have e1 := hide (clampF_in h1 h2); have e2 := hide (clampF_in h3 h4)
  go_enter Try.func152, Try.ntmps152
  go_wp2_with fail
  refine (clamp_any _ _).mono ?_
  rintro e w' ⟨rfl, rfl⟩
  rw [e1.out]
  go_wp2_with fail
  refine (clamp_any _ _).mono ?_
  rintro e w' ⟨rfl, rfl⟩
  rw [e2.out]
  go_wp2_with fail
  refine bodyPost_ret (v := .agg #[.int .i64 a, .int .i64 b]) (by simp [results, Try.results152, go_sem]) rfl ⟨rfl, ?_⟩
  go_grown
def IvM (a : Iv) : Prop := -536870912 ≤ a.lo ∧ a.lo ≤ a.hi ∧ a.hi ≤ 536870912
theorem valid_M {a : Iv} (h : IvM a) : a.valid = true := by
  obtain ⟨h1, h2, h3⟩ := h
  exact decide_eq_true (by omega)
def addIv (a b : Iv) : Iv := ⟨a.lo + b.lo, a.hi + b.hi⟩
/-- armplanref1.Add -/
theorem add_any (a b : Iv) (w : World) (ha : IvM a) (hb : IvM b) :
    Calls Try.prog 118 #[.agg #[.int .i64 a.lo, .int .i64 a.hi], .agg #[.int .i64 b.lo, .int .i64 b.hi]] w fun e w' => e = .returned (.agg #[.int .i64 (a.lo + b.lo), .int .i64 (a.hi + b.hi)]) ∧ Below w.heap.size w w' := by
  have VA := hide (valid_M ha); have VB := hide (valid_M hb)
  obtain ⟨a1, a2, a3⟩ := ha
  obtain ⟨b1, b2, b3⟩ := hb
  go_enter Try.func118, Try.ntmps118
  go_wp2_with fail
  refine (valid_any a _).mono ?_
  rintro e w1 ⟨rfl, hb1⟩
  rw [VA.out]
  have hA : w1.heap[w.heap.size]? = some (.cells #[.int .i64 a.lo, .int .i64 a.hi] 42 (0, 0)) := (hb1.block _ (by simp; omega)).trans ((Below.heap_alloc _ _ _ (by simp; omega)).trans ((Below.heap_alloc _ _ _ (by simp)).trans (heap_alloc_new w _)))
  have hB : w1.heap[w.heap.size + 1]? = some (.cells #[.int .i64 b.lo, .int .i64 b.hi] 42 (0, 0)) := (hb1.block _ (by simp)).trans ((Below.heap_alloc _ _ _ (by simp)).trans (new_at _ _ (by simp)))
  have hR : w1.heap[w.heap.size + 1 + 1]? = some (.cells #[.int .i64 0, .int .i64 0] 42 (0, 0)) := (hb1.block _ (by simp)).trans (new_at _ _ (by simp))
  have hz : w.heap.size + 1 + 1 < w1.heap.size := by have := hb1.size; simp at this; omega
  have hz1 : w.heap.size + 1 < w1.heap.size := by omega
  have hz0 : w.heap.size < w1.heap.size := by omega
  have HB := hide (show Below w.heap.size w w1 from ((((Below.refl _ _).alloc (Nat.le_refl _) _).alloc (by simp) _).alloc (by simp; omega) _).trans (hb1.mono (by simp; omega)))
  have HA := hide hA; have HBb := hide hB; have HR := hide hR
  have cB := blk_cell hB
  clear hA hB hR hb1
  go_wp2_with fail
  refine (valid_any b _).mono ?_
  rintro e w2 ⟨rfl, hb2⟩
  rw [VB.out]
  have c1 := blk_cell ((hb2.block _ hz0).trans HA.out)
  have c2 := blk_cell ((hb2.block _ hz1).trans HBb.out)
  have HR2 := hide ((hb2.block _ hz).trans HR.out)
  have yz : w.heap.size + 1 + 1 < w2.heap.size := Nat.lt_of_lt_of_le hz hb2.size
  have yz1 : w.heap.size + 1 < w2.heap.size := by omega
  have yz0 : w.heap.size < w2.heap.size := by omega
  have HB2 := hide (HB.out.trans (hb2.mono (by omega)))
  clear hb2 HA HBb HR HB cB
  go_wp2_with fail
  refine (limited_any _ _ _ (by omega) (by omega) (by omega) (by omega)).mono ?_
  rintro e w3 ⟨rfl, hb3⟩
  have hR3 := (hb3.block _ yz).trans HR2.out
  have c3 := blk_cell hR3; have f3 := blk_frozen hR3
  have vz : w.heap.size + 1 + 1 < w3.heap.size := Nat.lt_of_lt_of_le yz hb3.size
  have HB3 := hide (HB2.out.trans (hb3.mono (by omega)))
  clear hb3 hR3 c1 c2 HR2
  go_wp2_with fail
  refine bodyPost_ret (v := .agg #[.int .i64 (a.lo + b.lo), .int .i64 (a.hi + b.hi)]) (by simp [results, Try.results118, go_sem, c3]) rfl ⟨rfl, ?_⟩
  exact (HB3.out.setCell (by simp; omega) _).setCell (by simp; omega) _
theorem keepe {w w' : World} {N b : Nat} {f : Nat → Option Value} (h : Below N w w') (hz : b < N) (k : ∀ i, w.cell? ⟨b, i, none⟩ = f i) : ∀ i, w'.cell? ⟨b, i, none⟩ = f i := fun i => (h.cell (p := ⟨b, i, none⟩) hz).trans (k i)
theorem far1c {w : World} {g V i : Nat} {x : Value} {f : Nat → Option Value} (h : g ≠ V) (k : ∀ i, w.cell? ⟨g, i, none⟩ = f i) : ∀ j, (w.setCell ⟨V, i, none⟩ x).cell? ⟨g, j, none⟩ = f j := fun j => by
  rw [World.cell?_setCell_other _ _ _ _ (fun hh => by injection hh with h1; exact h h1.symm)]
  exact k j
theorem far6c {w : World} {g V a b c d e o : Nat} {x0 x1 x2 x3 x4 x5 : Value} {f : Nat → Option Value} (h : g ≠ V) (k : ∀ i, w.cell? ⟨g, i, none⟩ = f i) : ∀ j, ((((((w.setCell ⟨V, a, none⟩ x0).setCell ⟨V, b, none⟩ x1).setCell ⟨V, c, none⟩ x2).setCell ⟨V, d, none⟩ x3).setCell ⟨V, e, none⟩ x4).setCell ⟨V, o, none⟩ x5).cell? ⟨g, j, none⟩ = f j :=
  far1c h (far1c h (far1c h (far1c h (far1c h (far1c h k)))))
def addII (v u : IV) : IV := ⟨addIv v.x u.x, addIv v.y u.y, addIv v.z u.z⟩
def IVM (v : IV) : Prop := IvM v.x ∧ IvM v.y ∧ IvM v.z
/-- armplanref1.AddVec -/
theorem addVec_any (v u : IV) (w : World) (hv : IVM v) (hu : IVM u) :
    Calls Try.prog 65 #[v.v, u.v] w fun e w' => e = .returned (addII v u).v ∧ Below w.heap.size w w' := by
  obtain ⟨vx, vy, vz⟩ := hv
  obtain ⟨ux, uy, uz⟩ := hu
  have VX := hide vx; have VY := hide vy; have VZ := hide vz; have UX := hide ux; have UY := hide uy; have UZ := hide uz
  clear vx vy vz ux uy uz
  unfold IV.v
  obtain ⟨W, hW⟩ : ∃ W, W = ((w.alloc (.cells #[.int .i64 v.x.lo, .int .i64 v.x.hi, .int .i64 v.y.lo, .int .i64 v.y.hi, .int .i64 v.z.lo, .int .i64 v.z.hi] 44)).alloc (.cells #[.int .i64 u.x.lo, .int .i64 u.x.hi, .int .i64 u.y.lo, .int .i64 u.y.hi, .int .i64 u.z.lo, .int .i64 u.z.hi] 44)).alloc (.cells #[.int .i64 0, .int .i64 0, .int .i64 0, .int .i64 0, .int .i64 0, .int .i64 0] 44) := ⟨_, rfl⟩
  have k0 := blk_cell (show W.heap[w.heap.size]? = some (.cells (ivs v) 44 (0, 0)) by rw [hW]; exact (Below.heap_alloc _ _ _ (by simp; omega)).trans ((Below.heap_alloc _ _ _ (by simp)).trans (heap_alloc_new w _)))
  have k1 := blk_cell (show W.heap[w.heap.size + 1]? = some (.cells (ivs u) 44 (0, 0)) by rw [hW]; exact (Below.heap_alloc _ _ _ (by simp)).trans (new_at _ _ (by simp)))
  have KR := hide (show W.heap[w.heap.size + 1 + 1]? = some (.cells #[.int .i64 0, .int .i64 0, .int .i64 0, .int .i64 0, .int .i64 0, .int .i64 0] 44 (0, 0)) by rw [hW]; exact new_at _ _ (by simp))
  have HB := hide (show Below w.heap.size w W by rw [hW]; go_grown)
  have z2 : w.heap.size + 1 + 1 < W.heap.size := by rw [hW]; simp
  have z1 : w.heap.size + 1 < W.heap.size := by omega
  have z0 : w.heap.size < W.heap.size := by omega
  have hn0 : w.heap.size ≠ w.heap.size + 1 + 1 := by omega
  have hn1 : w.heap.size + 1 ≠ w.heap.size + 1 + 1 := by omega
  simp only [ivs] at k0 k1
  go_enter Try.func65, Try.ntmps65
  go_wp2_with fail
  rw [← hW]
  clear hW
  go_region_held3 (fun w' => (∀ i, w'.cell? ⟨w.heap.size, i, none⟩ = #[.int .i64 v.x.lo, .int .i64 v.x.hi, .int .i64 v.y.lo, .int .i64 v.y.hi, .int .i64 v.z.lo, .int .i64 v.z.hi][i]?) ∧ (∀ i, w'.cell? ⟨w.heap.size + 1, i, none⟩ = #[.int .i64 u.x.lo, .int .i64 u.x.hi, .int .i64 u.y.lo, .int .i64 u.y.hi, .int .i64 u.z.lo, .int .i64 u.z.hi][i]?))
    (first | with_reducible exact ⟨k0, k1⟩ | with_reducible exact ⟨far6c hn0 k0, far6c hn1 k1⟩ | go_keep)
    (first | (go_at_call 118; (with_reducible refine (add_any v.x u.x _ VX.out UX.out).mono ?_); rintro e w5 ⟨rfl, b5⟩; have k0 := keepe b5 z0 k0; have k1 := keepe b5 z1 k1; have z05 := Nat.lt_of_lt_of_le z0 b5.size; have z15 := Nat.lt_of_lt_of_le z1 b5.size; have z25 := Nat.lt_of_lt_of_le z2 b5.size) | (go_at_call 118; (with_reducible refine (add_any v.y u.y _ VY.out UY.out).mono ?_); rintro e w6 ⟨rfl, b6⟩; have k0 := keepe b6 z05 k0; have k1 := keepe b6 z15 k1; have z06 := Nat.lt_of_lt_of_le z05 b6.size; have z16 := Nat.lt_of_lt_of_le z15 b6.size; have z26 := Nat.lt_of_lt_of_le z25 b6.size) | (go_at_call 118; (with_reducible refine (add_any v.z u.z _ VZ.out UZ.out).mono ?_); rintro e w7 ⟨rfl, b7⟩; have k0 := keepe b7 z06 k0; have k1 := keepe b7 z16 k1; have z27 := Nat.lt_of_lt_of_le z26 b7.size; have hR7 := (b7.block _ z26).trans ((b6.block _ z25).trans ((b5.block _ z2).trans KR.out)); have cR := blk_cell hR7; have fR := blk_frozen hR7; have HR7 := hide hR7; clear hR7))
  have HB7 := hide (((HB.out.drew.trans (b5.mono (Nat.le_of_lt z0))).trans (b6.mono (Nat.le_of_lt z05))).trans (b7.mono (Nat.le_of_lt z06)))
  clear k0 k1 b5 b6 b7
  go_wp2_with fail
  refine bodyPost_ret (v := (addII v u).v) (by simp [results, Try.results65, go_sem, cR, addII, addIv, IV.v]) rfl ⟨rfl, ?_⟩
  exact (((((HB7.out.setCell (by simp; omega) _).setCell (by simp; omega) _).setCell (by simp; omega) _).setCell (by simp; omega) _).setCell (by simp; omega) _).setCell (by simp; omega) _
theorem ptI_small {t : V3} (h : Within t 536870912) : ptI t = ⟨⟨t.x, t.x⟩, ⟨t.y, t.y⟩, ⟨t.z, t.z⟩⟩ := by
  obtain ⟨⟨a, b⟩, ⟨c, d⟩, e, f⟩ := h
  unfold ptI
  rw [clampF_in (by omega) (by omega), clampF_in (by omega) (by omega), clampF_in (by omega) (by omega)]
theorem addII_pt {t : V3} (h : Within t 536870912) (v : IV) : addII v (ptI t) = addIV v t := by rw [ptI_small h]; rfl
theorem IVM_pt {t : V3} (h : Within t 536870912) : IVM (ptI t) := by
  rw [ptI_small h]
  obtain ⟨⟨a, b⟩, ⟨c, d⟩, e, f⟩ := h
  refine ⟨⟨?_, ?_, ?_⟩, ⟨?_, ?_, ?_⟩, ?_, ?_, ?_⟩ <;> simp only <;> omega
theorem IVM_ok {v : IV} (h : v.ok = true) : IVM v := by
  obtain ⟨⟨d1, d2, d3⟩, ⟨e1, e2, e3⟩, f1, f2, f3⟩ := ok_of h
  refine ⟨⟨?_, ?_, ?_⟩, ⟨?_, ?_, ?_⟩, ?_, ?_, ?_⟩ <;> omega
/-- a slice in another block is as it was -/
theorem Sl.setc {w : World} {A : Option Addr} {xs : List Value} {V i : Nat} {u : Value} (h : Sl w A xs) (hne : ∀ b off, A = some ⟨b, off, none⟩ → b ≠ V) : Sl (w.setCell ⟨V, i, none⟩ u) A xs := fun hx => by
  obtain ⟨b, off, e, hb, hc⟩ := h hx
  refine ⟨b, off, e, by simpa [World.setCell] using hb, fun j v hv => ?_⟩
  rw [World.cell?_setCell_other _ _ _ _ (fun hh => by injection hh with h1; exact hne b off e h1.symm)]
  exact hc j v hv
theorem point_lit (t : V3) (w : World) : Calls Try.prog 66 #[.agg #[.int .i64 t.x, .int .i64 t.y, .int .i64 t.z]] w fun e w' => e = .returned (.agg #[.int .i64 (ptI t).x.lo, .int .i64 (ptI t).x.hi, .int .i64 (ptI t).y.lo, .int .i64 (ptI t).y.hi, .int .i64 (ptI t).z.lo, .int .i64 (ptI t).z.hi]) ∧ Below w.heap.size w w' := point_any t w
theorem addVec_lit (v u : IV) (w : World) (hv : IVM v) (hu : IVM u) : Calls Try.prog 65 #[.agg #[.int .i64 v.x.lo, .int .i64 v.x.hi, .int .i64 v.y.lo, .int .i64 v.y.hi, .int .i64 v.z.lo, .int .i64 v.z.hi], .agg #[.int .i64 u.x.lo, .int .i64 u.x.hi, .int .i64 u.y.lo, .int .i64 u.y.hi, .int .i64 u.z.lo, .int .i64 u.z.hi]] w fun e w' => e = .returned (addII v u).v ∧ Below w.heap.size w w' := addVec_any v u w hv hu
end Go.Proofs.Ytionbckpgfaneaa
/- Walks, part C: margins. -/
namespace Go.Proofs.Ytionbckpgfaneaa
open Go.RowKit
set_option maxHeartbeats 1000000
set_option maxRecDepth 100000
def sidesV (A : Option Addr) (a : List IV) (c : Nat) (ra : Int) (B : Option Addr) (b : List IV) (d : Nat) (rb : Int) : Array Value := #[.slice A a.length c, .int .i64 ra, .slice B b.length d, .int .i64 rb]
/-- plane.both -/
theorem both_any (A : Option Addr) (a : List IV) (c : Nat) (ra : Int) (B : Option Addr) (b : List IV) (d : Nat) (rb : Int) (w : World) :
    Calls Try.prog 123 #[.slice A a.length c, .int .i64 ra, .slice B b.length d, .int .i64 rb] w fun e w' => e = .returned (.agg (sidesV A a c ra B b d rb)) ∧ Below w.heap.size w w' := by
  go_enter Try.func123, Try.ntmps123
  go_wp2_with fail
  refine bodyPost_ret (v := .agg (sidesV A a c ra B b d rb)) (by simp [results, Try.results123, go_sem, sidesV]) rfl ⟨rfl, ?_⟩
  go_grown
/-- (side).valid -/
theorem sideValid_any (A : Option Addr) (a : List IV) (c : Nat) (ra : Int) (w : World) (hs : SlI w A a) (hm : a.length ≤ 9223372036854775807) :
    Calls Try.prog 154 #[.agg #[.slice A a.length c, .int .i64 ra]] w fun e w' => e = .returned (.bool (placedB a && radOk ra)) ∧ Below w.heap.size w w' := by
  have HS := hide hs; clear hs
  go_enter Try.func154, Try.ntmps154
  go_wp2_with fail
  refine (placed_any A a c _ (by exact Sl.alloc HS.out _) hm).mono ?_
  rintro e w1 ⟨rfl, hb1⟩
  have hN : w1.heap[w.heap.size]? = some (.cells #[.slice A a.length c, .int .i64 ra] 136 (0, 0)) := (hb1.block _ (by simp)).trans (heap_alloc_new w _)
  have hc := blk_cell hN
  have hz : w.heap.size < w1.heap.size := by have := hb1.size; simp at this; omega
  have HB := hide (show Below w.heap.size w w1 from ((Below.refl _ _).alloc (Nat.le_refl _) _).trans (hb1.mono (by simp)))
  clear hN hb1
  cases hp : placedB a
  · go_wp2_with fail
    go_ret
    exact ⟨by simp [hp], HB.out⟩
  · by_cases h1 : 0 ≤ ra
    · by_cases h2 : ra ≤ 1048576
      · have H := hide (show radOk ra = true from decide_eq_true ⟨h1, h2⟩)
        go_wp2_with fail
        go_ret
        exact ⟨by simp [H.out, hp], HB.out⟩
      · have H := hide (show radOk ra = false from decide_eq_false (by omega))
        go_wp2_with fail
        go_ret
        exact ⟨by simp [H.out]; omega, HB.out⟩
    · have H := hide (show radOk ra = false from decide_eq_false (by omega))
      go_wp2_with fail
      go_ret
      exact ⟨by simp [H.out], HB.out⟩
noncomputable def margR (n : V3) (a : List IV) (ra : Int) (b : List IV) (rb : Int) : Value := .tuple #[.int .i64 (margV n a ra b rb), .bool (margOk n a ra b rb)]
theorem margR_no {n : V3} {a b : List IV} {ra rb : Int} (h : margOk n a ra b rb = false) : margR n a ra b rb = .tuple #[.int .i64 0, .bool false] := by simp [margR, margV, h]
theorem margR_yes {n : V3} {a b : List IV} {ra rb : Int} (h : margOk n a ra b rb = true) : margR n a ra b rb = .tuple #[.int .i64 (margX n a ra b rb), .bool true] := by simp [margR, margV, h]
/-- (sides).margin -/
theorem sidesMargin_any (n : V3) (A : Option Addr) (a : List IV) (c : Nat) (ra : Int) (B : Option Addr) (b : List IV) (d : Nat) (rb : Int) (w : World) (ha : SlI w A a) (hb : SlI w B b) (ma : a.length ≤ 9223372036854775807) (mb : b.length ≤ 9223372036854775807) :
    Calls Try.prog 122 #[.agg (sidesV A a c ra B b d rb), .agg #[.int .i64 n.x, .int .i64 n.y, .int .i64 n.z]] w fun e w' => e = .returned (margR n a ra b rb) ∧ Below w.heap.size w w' := by
  have SA := hide ha; have SB := hide hb; clear ha hb
  unfold sidesV
  go_enter Try.func122, Try.ntmps122
  go_wp2_with fail
  refine (sideValid_any A a c ra _ (by exact Sl.alloc (Sl.alloc SA.out _) _) ma).mono ?_
  rintro e w1 ⟨rfl, hb1⟩
  have hD : w1.heap[w.heap.size]? = some (.cells (sidesV A a c ra B b d rb) 138 (0, 0)) := (hb1.block _ (by simp; omega)).trans ((Below.heap_alloc _ _ _ (by simp)).trans (heap_alloc_new w _))
  have hN : w1.heap[w.heap.size + 1]? = some (.cells (vcs n) 47 (0, 0)) := (hb1.block _ (by simp)).trans (new_at _ _ (by simp))
  have hz1 : w.heap.size + 1 < w1.heap.size := by have := hb1.size; simp at this; omega
  have hz0 : w.heap.size < w1.heap.size := by omega
  have HB := hide (show Below w.heap.size w w1 from (((Below.refl _ _).alloc (Nat.le_refl _) _).alloc (by simp) _).trans (hb1.mono (by simp; omega)))
  have HD := hide hD; have HN := hide hN
  clear hD hN hb1
  cases hva : placedB a && radOk ra
  · have H := hide (margR_no (show margOk n a ra b rb = false by unfold margOk; cases h1 : placedB a <;> cases h2 : radOk ra <;> simp_all))
    go_wp2_with fail
    go_ret2
    exact ⟨by rw [H.out]; rfl, HB.out⟩
  · have cD := blk_cell HD.out; simp only [sidesV] at cD
    go_wp2_with fail
    refine (sideValid_any B b d rb _ (SB.out.below HB.out) mb).mono ?_
    rintro e w2 ⟨rfl, hb2⟩
    have HD2 := hide ((hb2.block _ hz0).trans HD.out); have HN2 := hide ((hb2.block _ hz1).trans HN.out)
    have yz1 : w.heap.size + 1 < w2.heap.size := Nat.lt_of_lt_of_le hz1 hb2.size
    have yz0 : w.heap.size < w2.heap.size := by omega
    have HB2 := hide (HB.out.trans (hb2.mono (by omega)))
    clear hb2 cD HD HN HB
    cases hvb : placedB b && radOk rb
    · have H := hide (margR_no (show margOk n a ra b rb = false by unfold margOk; cases h1 : placedB b <;> cases h2 : radOk rb <;> simp_all))
      go_wp2_with fail
      go_ret2
      exact ⟨by rw [H.out]; rfl, HB2.out⟩
    · have VA := hide hva; have VB := hide hvb
      clear hva hvb
      have cD := blk_cell HD2.out; simp only [sidesV] at cD
      have cN := blk_cell HN2.out; simp only [vcs] at cN
      go_wp2_with fail
      refine (least_any n A a c _ (SA.out.below HB2.out) ma).mono ?_
      rintro e w3 ⟨rfl, hb3⟩
      have HD3 := hide ((hb3.block _ yz0).trans HD2.out); have HN3 := hide ((hb3.block _ yz1).trans HN2.out)
      have xz1 : w.heap.size + 1 < w3.heap.size := Nat.lt_of_lt_of_le yz1 hb3.size
      have xz0 : w.heap.size < w3.heap.size := by omega
      have HB3 := hide (HB2.out.trans (hb3.mono (by omega)))
      clear hb3 cD cN HD2 HN2 HB2
      obtain ⟨pa, ra1⟩ : placedB a = true ∧ radOk ra = true := by simpa using VA.out
      obtain ⟨pb, rb1⟩ : placedB b = true ∧ radOk rb = true := by simpa using VB.out
      cases hu : usable n
      · have H := hide (margR_no (show margOk n a ra b rb = false by simp [margOk, hu]))
        rw [leastR_no (by simp [supOk, hu])]
        clear ra1 rb1 pa pb
        go_wp2_with fail
        go_ret2
        exact ⟨by rw [H.out]; rfl, HB3.out⟩
      · have H := hide (margR_yes (show margOk n a ra b rb = true by simp [margOk, hu, pa, pb, ra1, rb1]))
        have raB : 0 ≤ ra ∧ ra ≤ 1048576 := of_decide_eq_true ra1
        have rbB : 0 ≤ rb ∧ rb ≤ 1048576 := of_decide_eq_true rb1
        have PA := hide pa; have PB := hide pb; have HU := hide hu
        clear pa pb ra1 rb1 hu
        rw [leastR_yes HU.out PA.out]
        have cD := blk_cell HD3.out; simp only [sidesV] at cD
        have cN := blk_cell HN3.out; simp only [vcs] at cN
        have bd1 := leastV_bd HU.out PA.out
        generalize hX : leastV n a = X at bd1
        generalize leastI n a = i1
        have HX := hide hX; clear hX
        go_wp2_with fail
        refine (greatest_any n B b d _ (SB.out.below HB3.out) mb).mono ?_
        rintro e w4 ⟨rfl, hb4⟩
        have HD4 := hide ((hb4.block _ xz0).trans HD3.out); have HN4 := hide ((hb4.block _ xz1).trans HN3.out)
        have vz1 : w.heap.size + 1 < w4.heap.size := Nat.lt_of_lt_of_le xz1 hb4.size
        have vz0 : w.heap.size < w4.heap.size := by omega
        have HB4 := hide (HB3.out.trans (hb4.mono (by omega)))
        clear hb4 cD cN HD3 HN3 HB3
        rw [greatR_yes HU.out PB.out]
        have bd2 := greatV_bd HU.out PB.out
        generalize hY : greatV n b = Y at bd2
        generalize greatI n b = i2
        have HY := hide hY; clear hY
        have kD := blk_cell HD4.out; simp only [sidesV] at kD
        have kN := blk_cell HN4.out; simp only [vcs] at kN
        have nb := normF_bd n
        have mb1 := mul_bd (normF n) (ra + rb) 32768 2097152 nb.1 nb.2 (by omega) (by omega)
        have q1 := IntWalk.i64_in (X - Y) (by omega)
        have q2 := IntWalk.i64_in (ra + rb) (by omega)
        have q3 := IntWalk.i64_in (X - Y - normF n * (ra + rb)) (by omega)
        have q4 := IntWalk.i64_in (normF n * (ra + rb)) (by omega)
        go_wp2_with fail
        go_region_held3 (fun w' => (∀ i, w'.cell? ⟨w.heap.size, i, none⟩ = #[.slice A a.length c, .int .i64 ra, .slice B b.length d, .int .i64 rb][i]?) ∧ (∀ i, w'.cell? ⟨w.heap.size + 1, i, none⟩ = #[.int .i64 n.x, .int .i64 n.y, .int .i64 n.z][i]?))
          (first | with_reducible exact ⟨kD, kN⟩ | go_keep)
          (first | (go_at_call 61; (with_reducible refine (norm_any n _).mono ?_); rintro e w5 ⟨rfl, b5⟩; have kD := keepe b5 vz0 kD; have kN := keepe b5 vz1 kN))
        have HB5 := hide (HB4.out.drew.trans (b5.mono (Nat.le_of_lt vz0)))
        clear b5 kD kN q1 q2 q3 q4
        go_wp2_with fail
        go_ret2
        exact ⟨by rw [H.out, margX, HX.out, HY.out]; rfl, HB5.out⟩
/-- (sides).separates -/
theorem sidesSep_any (n : V3) (A : Option Addr) (a : List IV) (c : Nat) (ra : Int) (B : Option Addr) (b : List IV) (d : Nat) (rb : Int) (w : World) (ha : SlI w A a) (hb : SlI w B b) (ma : a.length ≤ 9223372036854775807) (mb : b.length ≤ 9223372036854775807) :
    Calls Try.prog 125 #[.agg (sidesV A a c ra B b d rb), .agg #[.int .i64 n.x, .int .i64 n.y, .int .i64 n.z]] w fun e w' => e = .returned (.bool (sepB n a ra b rb)) ∧ Below w.heap.size w w' := by
  have SA := hide ha; have SB := hide hb; clear ha hb
  unfold sidesV
  go_enter Try.func125, Try.ntmps125
  go_wp2_with fail
  refine (sidesMargin_any n A a c ra B b d rb _ (by exact Sl.alloc (Sl.alloc SA.out _) _) (by exact Sl.alloc (Sl.alloc SB.out _) _) ma mb).mono ?_
  rintro e w1 ⟨rfl, hb1⟩
  have HB := hide (show Below w.heap.size w w1 from (((Below.refl _ _).alloc (Nat.le_refl _) _).alloc (by simp) _).trans (hb1.mono (by simp; omega)))
  clear hb1
  unfold margR
  generalize hX : margV n a ra b rb = X
  generalize hF : margOk n a ra b rb = F
  have H := hide (show sepB n a ra b rb = (F && decide (0 < X)) by rw [sepB, hX, hF])
  clear hX hF
  cases F
  · go_wp2_with fail
    go_ret
    exact ⟨by rw [H.out]; rfl, HB.out⟩
  · go_wp2_with fail
    go_ret
    exact ⟨by rw [H.out]; rfl, HB.out⟩
/-- plane.Margin -/
theorem margin_any (n : V3) (A : Option Addr) (a : List IV) (c : Nat) (ra : Int) (B : Option Addr) (b : List IV) (d : Nat) (rb : Int) (w : World) (ha : SlI w A a) (hb : SlI w B b) (ma : a.length ≤ 9223372036854775807) (mb : b.length ≤ 9223372036854775807) :
    Calls Try.prog 70 #[.agg #[.int .i64 n.x, .int .i64 n.y, .int .i64 n.z], .slice A a.length c, .int .i64 ra, .slice B b.length d, .int .i64 rb] w fun e w' => e = .returned (margR n a ra b rb) ∧ Below w.heap.size w w' := by
  have SA := hide ha; have SB := hide hb; clear ha hb
  obtain ⟨W, hW⟩ : ∃ W, W = w.alloc (.cells #[.int .i64 n.x, .int .i64 n.y, .int .i64 n.z] 47) := ⟨_, rfl⟩
  have k0 := blk_cell (show W.heap[w.heap.size]? = some (.cells (vcs n) 47 (0, 0)) by rw [hW]; exact heap_alloc_new w _)
  have HB := hide (show Below w.heap.size w W by rw [hW]; go_grown)
  have z0 : w.heap.size < W.heap.size := by rw [hW]; simp
  simp only [vcs] at k0
  go_enter Try.func70, Try.ntmps70
  go_wp2_with fail
  rw [← hW]
  clear hW
  go_region_held3 (fun w' => (∀ i, w'.cell? ⟨w.heap.size, i, none⟩ = #[.int .i64 n.x, .int .i64 n.y, .int .i64 n.z][i]?))
    (first | with_reducible exact k0 | go_keep)
    (first | (go_at_call 123; (with_reducible refine (both_any A a c ra B b d rb _).mono ?_); rintro e w5 ⟨rfl, b5⟩; have k0 := keepe b5 z0 k0; have z5 := Nat.lt_of_lt_of_le z0 b5.size; have B5 := hide (HB.out.drew.trans (b5.mono (Nat.le_of_lt z0)))) | (go_at_call 122; (with_reducible refine (sidesMargin_any n A a c ra B b d rb _ (SA.out.below B5.out) (SB.out.below B5.out) ma mb).mono ?_); rintro e w6 ⟨rfl, b6⟩; have k0 := keepe b6 z5 k0; have B6 := hide (B5.out.trans (b6.mono (Nat.le_of_lt z5))); unfold margR))
  clear b5 b6 k0
  go_wp2_with fail
  go_ret2
  exact ⟨rfl, B6.out⟩
/-- plane.Separates -/
theorem separates_any (n : V3) (A : Option Addr) (a : List IV) (c : Nat) (ra : Int) (B : Option Addr) (b : List IV) (d : Nat) (rb : Int) (w : World) (ha : SlI w A a) (hb : SlI w B b) (ma : a.length ≤ 9223372036854775807) (mb : b.length ≤ 9223372036854775807) :
    Calls Try.prog 73 #[.agg #[.int .i64 n.x, .int .i64 n.y, .int .i64 n.z], .slice A a.length c, .int .i64 ra, .slice B b.length d, .int .i64 rb] w fun e w' => e = .returned (.bool (sepB n a ra b rb)) ∧ Below w.heap.size w w' := by
  have SA := hide ha; have SB := hide hb; clear ha hb
  obtain ⟨W, hW⟩ : ∃ W, W = w.alloc (.cells #[.int .i64 n.x, .int .i64 n.y, .int .i64 n.z] 47) := ⟨_, rfl⟩
  have k0 := blk_cell (show W.heap[w.heap.size]? = some (.cells (vcs n) 47 (0, 0)) by rw [hW]; exact heap_alloc_new w _)
  have HB := hide (show Below w.heap.size w W by rw [hW]; go_grown)
  have z0 : w.heap.size < W.heap.size := by rw [hW]; simp
  simp only [vcs] at k0
  go_enter Try.func73, Try.ntmps73
  go_wp2_with fail
  rw [← hW]
  clear hW
  go_region_held3 (fun w' => (∀ i, w'.cell? ⟨w.heap.size, i, none⟩ = #[.int .i64 n.x, .int .i64 n.y, .int .i64 n.z][i]?))
    (first | with_reducible exact k0 | go_keep)
    (first | (go_at_call 123; (with_reducible refine (both_any A a c ra B b d rb _).mono ?_); rintro e w5 ⟨rfl, b5⟩; have k0 := keepe b5 z0 k0; have z5 := Nat.lt_of_lt_of_le z0 b5.size; have B5 := hide (HB.out.drew.trans (b5.mono (Nat.le_of_lt z0)))) | (go_at_call 125; (with_reducible refine (sidesSep_any n A a c ra B b d rb _ (SA.out.below B5.out) (SB.out.below B5.out) ma mb).mono ?_); rintro e w6 ⟨rfl, b6⟩; have k0 := keepe b6 z5 k0; have B6 := hide (B5.out.trans (b6.mono (Nat.le_of_lt z5)))))
  clear b5 b6 k0
  go_wp2_with fail
  go_ret
  exact ⟨rfl, B6.out⟩
end Go.Proofs.Ytionbckpgfaneaa
