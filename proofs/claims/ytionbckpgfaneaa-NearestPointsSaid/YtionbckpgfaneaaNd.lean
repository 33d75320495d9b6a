/- Walks of the search, part d: least, greatest, part. -/
import Derived.Test.YtionbckpgfaneaaNc
import Derived.Deep.RegionHeld3
import Derived.Deep.RegionWith
namespace Go.Proofs.Ytionbckpgfaneaa
open Go.RowKit
set_option maxHeartbeats 1000000
set_option maxRecDepth 100000
attribute [local go_sem] index47_0 index47_1 index47_2
theorem amin_to {f : Nat → Int} {k : Nat} (h : f k < f (amin f k)) : amin f (k + 1) = k := by
  rcases Nat.eq_zero_or_pos k with h0 | h0
  · subst h0; exact absurd h (by simp [amin])
  · rw [amin_succ f k h0, if_pos h]
theorem amin_on {f : Nat → Int} {k : Nat} (h : ¬ f k < f (amin f k)) : amin f (k + 1) = amin f k := by
  rcases Nat.eq_zero_or_pos k with h0 | h0
  · subst h0; rfl
  · rw [amin_succ f k h0, if_neg h]
theorem dgo_at (n : V3) (l : List V3) (k : Nat) (h : k < l.length) : dgo n l k = dotV n l[k] := by simp [dgo, List.getD, List.getElem?_eq_getElem h]
theorem keepf {w w' : World} {N b : Nat} {f : Nat → Option Value} (h : Below N w w') (hz : b < N) (k : ∀ i, w.cell? ⟨b, i, none⟩ = f i) : ∀ i, w'.cell? ⟨b, i, none⟩ = f i := fun i => (h.cell (p := ⟨b, i, none⟩) hz).trans (k i)
def PB (n v : V3) : Prop := (-4398046511104 ≤ n.x * v.x ∧ n.x * v.x ≤ 4398046511104) ∧ (-4398046511104 ≤ n.y * v.y ∧ n.y * v.y ≤ 4398046511104) ∧ (-4398046511104 ≤ n.z * v.z ∧ n.z * v.z ≤ 4398046511104)
theorem PB_of {n v : V3} (hn : inR n = true) (hv : vok v = true) : PB n v := by
  obtain ⟨⟨a, b⟩, ⟨c, d⟩, e, f⟩ := inR_of hn
  obtain ⟨⟨a', b'⟩, ⟨c', d'⟩, e', f'⟩ := vok_of hv
  exact ⟨mul_bd2 _ _ 16384 268435456 a b a' b', mul_bd2 _ _ 16384 268435456 c d c' d', mul_bd2 _ _ 16384 268435456 e f e' f'⟩
theorem PB.dot {n v : V3} (h : PB n v) : -13194139533312 ≤ dotV n v ∧ dotV n v ≤ 13194139533312 := by
  unfold PB at h
  unfold dotV
  omega
def LInv (w : World) (N T : Nat) (A B : Option Addr) (n : V3) (c d : Nat) (l : List V3) (f : Nat → Int) (t u i : Value) (wr : World) : Prop :=
  ∃ k : Nat, k ≤ l.length ∧ i = .int .i64 k ∧ t = .int .i64 (dgo n l (amin f k)) ∧ u = .int .i64 (amin f k : Nat) ∧ wr.heap[N]? = some (.cells (C2 A B l.length c d) T (0, 0)) ∧ wr.heap[N + 1]? = some (.cells (vcs n) 47 (0, 0)) ∧ Below N w wr ∧ N + 1 < wr.heap.size
/-- nearest.least -/
theorem leastN_any (n : V3) (A B : Option Addr) (l : List V3) (c d : Nat) (w : World) (hs : SlV w A l) (hn : inR n = true) (h1 : 1 ≤ l.length) (h8 : l.length ≤ 8) (hv : ∀ j (hj : j < l.length), vok l[j] = true) :
    Calls Try.prog 165 #[.agg #[.slice A l.length c, .slice B l.length d], .agg #[.int .i64 n.x, .int .i64 n.y, .int .i64 n.z]] w
      fun e w' => e = .returned (.tuple #[.int .i64 (dgo n l (exLo n l)), .int .i64 (exLo n l : Nat)]) ∧ Below w.heap.size w w' := by
  have HS := hide hs; have HP := hide (fun j (hj : j < l.length) => PB_of hn (hv j hj)); clear hs hn hv
  have l0 : 0 < l.length := by omega
  obtain ⟨b, off, rfl, hbb⟩ := HS.out.addr l0
  obtain ⟨f, hf⟩ : ∃ f : Nat → Int, f = dgo n l := ⟨_, rfl⟩
  have HE := hide (show exLo n l = amin f l.length by rw [hf]; rfl)
  have HF := hide (show ∀ i, f i = dgo n l i by intro i; rw [hf])
  clear hf
  go_enter Try.func165, Try.ntmps165
  go_wp2_with fail
  obtain ⟨w1, hw1⟩ : ∃ W, W = (w.alloc (.cells #[.slice (some ⟨b, off, none⟩) l.length c, .slice B l.length d] 148)).alloc (.cells #[.int .i64 n.x, .int .i64 n.y, .int .i64 n.z] 47) := ⟨_, rfl⟩
  rw [← hw1]
  have jP := hide (show w1.heap[w.heap.size]? = some (.cells (C2 (some ⟨b, off, none⟩) B l.length c d) 148 (0, 0)) by rw [hw1]; exact (Below.heap_alloc _ _ _ (by simp)).trans (heap_alloc_new w _))
  have jN := hide (show w1.heap[w.heap.size + 1]? = some (.cells (vcs n) 47 (0, 0)) by rw [hw1]; exact new_at _ _ (by simp))
  have jz : w.heap.size + 1 < w1.heap.size := by rw [hw1]; simp
  have jB := hide (show Below w.heap.size w w1 by rw [hw1]; go_grown)
  clear hw1
  have jz0 : w.heap.size < w1.heap.size := by omega
  have hbr : b < w1.heap.size := by omega
  have kP := blk_cell jP.out; simp only [C2] at kP
  have kN := blk_cell jN.out; simp only [vcs] at kN
  obtain ⟨h0, h1', h2⟩ := (HS.out.below jB.out).at_ l0
  simp only [Nat.zero_mul, Nat.add_zero] at h0 h1' h2
  obtain ⟨pb1, pb2, pb3⟩ := HP.out 0 l0
  go_region_held3 (fun w' => (∀ i, w'.cell? ⟨w.heap.size, i, none⟩ = #[.slice (some ⟨b, off, none⟩) l.length c, .slice B l.length d][i]?) ∧ (∀ i, w'.cell? ⟨w.heap.size + 1, i, none⟩ = #[.int .i64 n.x, .int .i64 n.y, .int .i64 n.z][i]?) ∧ w'.cell? ⟨b, off, none⟩ = some (.int .i64 l[0].x) ∧ w'.cell? ⟨b, off + 1, none⟩ = some (.int .i64 l[0].y) ∧ w'.cell? ⟨b, off + 2, none⟩ = some (.int .i64 l[0].z))
    (first | exact ⟨kP, kN, h0, h1', h2⟩ | go_keep)
    (first | (go_at_call 177; (with_reducible refine (dotn177 n l[0] 4398046511104 _ (by omega) pb1 pb2 pb3).mono ?_); rintro e w5 ⟨rfl, b5⟩; have kP := keepf b5 jz0 kP; have kN := keepf b5 jz kN; have h0 := (b5.cell (p := ⟨b, off, none⟩) hbr).trans h0; have h1' := (b5.cell (p := ⟨b, off + 1, none⟩) hbr).trans h1'; have h2 := (b5.cell (p := ⟨b, off + 2, none⟩) hbr).trans h2))
  have LP := hide ((b5.block _ jz0).trans jP.out)
  have LN := hide ((b5.block _ jz).trans jN.out)
  have LB := hide (jB.out.drew.trans (b5.mono (Nat.le_of_lt jz0)))
  have lz : w.heap.size + 1 < w5.heap.size := Nat.lt_of_lt_of_le jz b5.size
  have lz0 : w.heap.size < w5.heap.size := by omega
  clear b5 kP kN h0 h1' h2 jP jN jB jz jz0 pb1 pb2 pb3 hbr
  have kP := blk_cell LP.out; simp only [C2] at kP
  go_wp2_with fail
  go_loopw [6, 7, 22] (fun t u i wr => LInv w w.heap.size 148 (some ⟨b, off, none⟩) B n c d l f t u i wr) (fun _ _ i _ => l.length - (intOf i).toNat)
  case atStart => exact ⟨0, by omega, rfl, by rw [show amin f 0 = 0 from rfl, dgo_at n l 0 l0], rfl, LP.out, LN.out, LB.out, lz⟩
  case round =>
    clear LP LN LB lz lz0 kP
    clear kP kN h0 h1' h2
    obtain ⟨k, hk, rfl, rfl, rfl, jP, jN, jB, jz⟩ := hrel
    have JP := hide jP; have JN := hide jN; have JB := hide jB
    have jz0 : w.heap.size < wr.heap.size := by omega
    have kN := blk_cell jN; simp only [vcs] at kN
    clear jP jN jB
    obtain ⟨Y, hY⟩ : ∃ Y, Y = dgo n l (amin f k) := ⟨_, rfl⟩
    obtain ⟨j, hj⟩ : ∃ j, j = amin f k := ⟨_, rfl⟩
    rw [← hY, ← hj]
    have HY := hide hY; have HJ := hide hj; clear hY hj
    by_cases hkl : k < l.length
    · obtain ⟨h0, h1', h2⟩ := (HS.out.below JB.out).at_ hkl
      obtain ⟨pb1, pb2, pb3⟩ := HP.out k hkl
      have hi1 : (0 : Int) ≤ (k : Int) := Int.natCast_nonneg _
      have hi2 : (k : Int) < (l.length : Int) := by omega
      have hbr : b < wr.heap.size := by omega
      go_wp2_with fail
      refine (dotn177 n l[k] 4398046511104 _ (by omega) pb1 pb2 pb3).mono ?_
      rintro e w6 ⟨rfl, b6⟩
      obtain ⟨X, hX⟩ : ∃ X, X = dotV n l[k] := ⟨_, rfl⟩
      rw [← hX]
      have HX := hide (show dgo n l k = X by rw [dgo_at n l k hkl, hX])
      have b7 : Below wr.heap.size wr w6 := ((Below.refl _ _).alloc (Nat.le_refl _) _).trans (b6.mono (by simp))
      have KP := hide ((b7.block _ jz0).trans JP.out)
      have KN := hide ((b7.block _ jz).trans JN.out)
      have KB := hide (JB.out.trans (b7.mono (Nat.le_of_lt jz0)))
      have kz : w.heap.size + 1 < w6.heap.size := Nat.lt_of_lt_of_le jz b7.size
      clear b6 b7 hX kN h0 h1' h2 JP JN JB pb1 pb2 pb3
      by_cases hc : X < Y
      · have HA := hide (amin_to (f := f) (k := k) (by rw [HF.out, HF.out, ← HJ.out, HX.out]; have := HY.out; rw [← HJ.out] at this; omega))
        go_wp2_with fail
        go_roundw
        case rel => exact ⟨k + 1, by omega, by simp, by rw [HA.out, HX.out], by rw [HA.out], KP.out, KN.out, KB.out, kz⟩
        case measure => simp [intOf] <;> omega
      · have HA := hide (amin_on (f := f) (k := k) (by rw [HF.out, HF.out, ← HJ.out, HX.out]; have := HY.out; rw [← HJ.out] at this; omega))
        go_wp2_with fail
        go_roundw
        case rel => exact ⟨k + 1, by omega, by simp, by rw [HA.out, ← HY.out], by rw [HA.out, ← HJ.out], KP.out, KN.out, KB.out, kz⟩
        case measure => simp [intOf] <;> omega
    · obtain rfl : k = l.length := by omega
      clear kN
      go_wp2_with fail
      go_ret2
      exact ⟨by rw [HE.out, ← HJ.out, HY.out, ← HJ.out]; rfl, JB.out⟩
/-- nearest.greatest -/
theorem greatestN_any (n : V3) (A B : Option Addr) (l : List V3) (c d : Nat) (w : World) (hs : SlV w A l) (hn : inR n = true) (h1 : 1 ≤ l.length) (h8 : l.length ≤ 8) (hv : ∀ j (hj : j < l.length), vok l[j] = true) :
    Calls Try.prog 166 #[.agg #[.slice A l.length c, .slice B l.length d], .agg #[.int .i64 n.x, .int .i64 n.y, .int .i64 n.z]] w
      fun e w' => e = .returned (.tuple #[.int .i64 (dgo n l (exHi n l)), .int .i64 (exHi n l : Nat)]) ∧ Below w.heap.size w w' := by
  have HS := hide hs; have HP := hide (fun j (hj : j < l.length) => PB_of hn (hv j hj)); clear hs hn hv
  have l0 : 0 < l.length := by omega
  obtain ⟨b, off, rfl, hbb⟩ := HS.out.addr l0
  obtain ⟨f, hf⟩ : ∃ f : Nat → Int, f = fun i => -dgo n l i := ⟨_, rfl⟩
  have HE := hide (show exHi n l = amin f l.length by rw [hf]; rfl)
  have HF := hide (show ∀ i, f i = -dgo n l i by intro i; rw [hf])
  clear hf
  go_enter Try.func166, Try.ntmps166
  go_wp2_with fail
  obtain ⟨w1, hw1⟩ : ∃ W, W = (w.alloc (.cells #[.slice (some ⟨b, off, none⟩) l.length c, .slice B l.length d] 149)).alloc (.cells #[.int .i64 n.x, .int .i64 n.y, .int .i64 n.z] 47) := ⟨_, rfl⟩
  rw [← hw1]
  have jP := hide (show w1.heap[w.heap.size]? = some (.cells (C2 (some ⟨b, off, none⟩) B l.length c d) 149 (0, 0)) by rw [hw1]; exact (Below.heap_alloc _ _ _ (by simp)).trans (heap_alloc_new w _))
  have jN := hide (show w1.heap[w.heap.size + 1]? = some (.cells (vcs n) 47 (0, 0)) by rw [hw1]; exact new_at _ _ (by simp))
  have jz : w.heap.size + 1 < w1.heap.size := by rw [hw1]; simp
  have jB := hide (show Below w.heap.size w w1 by rw [hw1]; go_grown)
  clear hw1
  have jz0 : w.heap.size < w1.heap.size := by omega
  have hbr : b < w1.heap.size := by omega
  have kP := blk_cell jP.out; simp only [C2] at kP
  have kN := blk_cell jN.out; simp only [vcs] at kN
  obtain ⟨h0, h1', h2⟩ := (HS.out.below jB.out).at_ l0
  simp only [Nat.zero_mul, Nat.add_zero] at h0 h1' h2
  obtain ⟨pb1, pb2, pb3⟩ := HP.out 0 l0
  go_region_held3 (fun w' => (∀ i, w'.cell? ⟨w.heap.size, i, none⟩ = #[.slice (some ⟨b, off, none⟩) l.length c, .slice B l.length d][i]?) ∧ (∀ i, w'.cell? ⟨w.heap.size + 1, i, none⟩ = #[.int .i64 n.x, .int .i64 n.y, .int .i64 n.z][i]?) ∧ w'.cell? ⟨b, off, none⟩ = some (.int .i64 l[0].x) ∧ w'.cell? ⟨b, off + 1, none⟩ = some (.int .i64 l[0].y) ∧ w'.cell? ⟨b, off + 2, none⟩ = some (.int .i64 l[0].z))
    (first | exact ⟨kP, kN, h0, h1', h2⟩ | go_keep)
    (first | (go_at_call 177; (with_reducible refine (dotn177 n l[0] 4398046511104 _ (by omega) pb1 pb2 pb3).mono ?_); rintro e w5 ⟨rfl, b5⟩; have kP := keepf b5 jz0 kP; have kN := keepf b5 jz kN; have h0 := (b5.cell (p := ⟨b, off, none⟩) hbr).trans h0; have h1' := (b5.cell (p := ⟨b, off + 1, none⟩) hbr).trans h1'; have h2 := (b5.cell (p := ⟨b, off + 2, none⟩) hbr).trans h2))
  have LP := hide ((b5.block _ jz0).trans jP.out)
  have LN := hide ((b5.block _ jz).trans jN.out)
  have LB := hide (jB.out.drew.trans (b5.mono (Nat.le_of_lt jz0)))
  have lz : w.heap.size + 1 < w5.heap.size := Nat.lt_of_lt_of_le jz b5.size
  have lz0 : w.heap.size < w5.heap.size := by omega
  clear b5 kP kN h0 h1' h2 jP jN jB jz jz0 pb1 pb2 pb3 hbr
  have kP := blk_cell LP.out; simp only [C2] at kP
  go_wp2_with fail
  go_loopw [6, 7, 22] (fun t u i wr => LInv w w.heap.size 149 (some ⟨b, off, none⟩) B n c d l f t u i wr) (fun _ _ i _ => l.length - (intOf i).toNat)
  case atStart => exact ⟨0, by omega, rfl, by rw [show amin f 0 = 0 from rfl, dgo_at n l 0 l0], rfl, LP.out, LN.out, LB.out, lz⟩
  case round =>
    clear LP LN LB lz lz0 kP
    clear kP kN h0 h1' h2
    obtain ⟨k, hk, rfl, rfl, rfl, jP, jN, jB, jz⟩ := hrel
    have JP := hide jP; have JN := hide jN; have JB := hide jB
    have jz0 : w.heap.size < wr.heap.size := by omega
    have kN := blk_cell jN; simp only [vcs] at kN
    clear jP jN jB
    obtain ⟨Y, hY⟩ : ∃ Y, Y = dgo n l (amin f k) := ⟨_, rfl⟩
    obtain ⟨j, hj⟩ : ∃ j, j = amin f k := ⟨_, rfl⟩
    rw [← hY, ← hj]
    have HY := hide hY; have HJ := hide hj; clear hY hj
    by_cases hkl : k < l.length
    · obtain ⟨h0, h1', h2⟩ := (HS.out.below JB.out).at_ hkl
      obtain ⟨pb1, pb2, pb3⟩ := HP.out k hkl
      have hi1 : (0 : Int) ≤ (k : Int) := Int.natCast_nonneg _
      have hi2 : (k : Int) < (l.length : Int) := by omega
      have hbr : b < wr.heap.size := by omega
      go_wp2_with fail
      refine (dotn177 n l[k] 4398046511104 _ (by omega) pb1 pb2 pb3).mono ?_
      rintro e w6 ⟨rfl, b6⟩
      obtain ⟨X, hX⟩ : ∃ X, X = dotV n l[k] := ⟨_, rfl⟩
      rw [← hX]
      have HX := hide (show dgo n l k = X by rw [dgo_at n l k hkl, hX])
      have b7 : Below wr.heap.size wr w6 := ((Below.refl _ _).alloc (Nat.le_refl _) _).trans (b6.mono (by simp))
      have KP := hide ((b7.block _ jz0).trans JP.out)
      have KN := hide ((b7.block _ jz).trans JN.out)
      have KB := hide (JB.out.trans (b7.mono (Nat.le_of_lt jz0)))
      have kz : w.heap.size + 1 < w6.heap.size := Nat.lt_of_lt_of_le jz b7.size
      clear b6 b7 hX kN h0 h1' h2 JP JN JB pb1 pb2 pb3
      by_cases hc : X > Y
      · have HA := hide (amin_to (f := f) (k := k) (by rw [HF.out, HF.out, ← HJ.out, HX.out]; have := HY.out; rw [← HJ.out] at this; omega))
        go_wp2_with fail
        go_roundw
        case rel => exact ⟨k + 1, by omega, by simp, by rw [HA.out, HX.out], by rw [HA.out], KP.out, KN.out, KB.out, kz⟩
        case measure => simp [intOf] <;> omega
      · have HA := hide (amin_on (f := f) (k := k) (by rw [HF.out, HF.out, ← HJ.out, HX.out]; have := HY.out; rw [← HJ.out] at this; omega))
        go_wp2_with fail
        go_roundw
        case rel => exact ⟨k + 1, by omega, by simp, by rw [HA.out, ← HY.out], by rw [HA.out, ← HJ.out], KP.out, KN.out, KB.out, kz⟩
        case measure => simp [intOf] <;> omega
    · obtain rfl : k = l.length := by omega
      clear kN
      go_wp2_with fail
      go_ret2
      exact ⟨by rw [HE.out, ← HJ.out, HY.out, ← HJ.out]; rfl, JB.out⟩
/-- nearest.part -/
theorem part_any (x s : V3) (w : World) (hx : XB x) (hs : XB s) :
    Calls Try.prog 167 #[.agg #[.int .i64 x.x, .int .i64 x.y, .int .i64 x.z], .agg #[.int .i64 s.x, .int .i64 s.y, .int .i64 s.z]] w fun e w' => e = .returned (.int .i64 (partF x s)) ∧ Below w.heap.size w w' := by
  obtain ⟨E, hE⟩ : ∃ E, E = subV x s := ⟨_, rfl⟩
  have e1 : x.x - s.x = E.x := by rw [hE]; rfl
  have e2 : x.y - s.y = E.y := by rw [hE]; rfl
  have e3 : x.z - s.z = E.z := by rw [hE]; rfl
  unfold XB at hx hs
  have xe1 : -576460752303423488 ≤ x.x * E.x ∧ x.x * E.x ≤ 576460752303423488 := mul_bd2 x.x E.x 536870912 1073741824 (by omega) (by omega) (by omega) (by omega)
  have xe2 : -576460752303423488 ≤ x.y * E.y ∧ x.y * E.y ≤ 576460752303423488 := mul_bd2 x.y E.y 536870912 1073741824 (by omega) (by omega) (by omega) (by omega)
  have xe3 : -576460752303423488 ≤ x.z * E.z ∧ x.z * E.z ≤ 576460752303423488 := mul_bd2 x.z E.z 536870912 1073741824 (by omega) (by omega) (by omega) (by omega)
  have ee1 : -1152921504606846976 ≤ E.x * E.x ∧ E.x * E.x ≤ 1152921504606846976 := mul_bd2 E.x E.x 1073741824 1073741824 (by omega) (by omega) (by omega) (by omega)
  have ee2 : -1152921504606846976 ≤ E.y * E.y ∧ E.y * E.y ≤ 1152921504606846976 := mul_bd2 E.y E.y 1073741824 1073741824 (by omega) (by omega) (by omega) (by omega)
  have ee3 : -1152921504606846976 ≤ E.z * E.z ∧ E.z * E.z ≤ 1152921504606846976 := mul_bd2 E.z E.z 1073741824 1073741824 (by omega) (by omega) (by omega) (by omega)
  have s1 := sq_nn E.x; have s2 := sq_nn E.y; have s3 := sq_nn E.z
  have HE1 := hide e1; have HE2 := hide e2; have HE3 := hide e3; have HE := hide hE
  go_enter Try.func167, Try.ntmps167
  go_wp2_with fail
  refine (minus162 x s _ (by omega) (by omega) (by omega)).mono ?_
  rintro e w1 ⟨rfl, hb1⟩
  rw [HE1.out, HE2.out, HE3.out]
  have jX := hide (show w1.heap[w.heap.size]? = some (.cells (vcs x) 47 (0, 0)) from (hb1.block _ (by simp; omega)).trans ((Below.heap_alloc _ _ _ (by simp)).trans (heap_alloc_new w _)))
  have jz : w.heap.size < w1.heap.size := by have := hb1.size; simp at this; omega
  have jB := hide (show Below w.heap.size w w1 from (show Below w.heap.size w _ by go_grown).trans (hb1.mono (by simp; omega)))
  clear hb1 e1 e2 e3 hE hx hs
  go_wp2_with fail
  obtain ⟨w2, hw2⟩ : ∃ W, W = w1.alloc (.cells #[.int .i64 E.x, .int .i64 E.y, .int .i64 E.z] 47) := ⟨_, rfl⟩
  rw [← hw2]
  have lX := hide (show w2.heap[w.heap.size]? = some (.cells (vcs x) 47 (0, 0)) by rw [hw2]; exact (Below.heap_alloc _ _ _ jz).trans jX.out)
  have lE := hide (show w2.heap[w1.heap.size]? = some (.cells (vcs E) 47 (0, 0)) by rw [hw2]; exact heap_alloc_new w1 _)
  have lz : w1.heap.size < w2.heap.size := by rw [hw2]; simp
  have lz0 : w.heap.size < w2.heap.size := by omega
  have lB := hide (show Below w.heap.size w w2 by rw [hw2]; exact jB.out.alloc (by omega) _)
  clear hw2 jX jB
  have kX := blk_cell lX.out; simp only [vcs] at kX
  have kE := blk_cell lE.out; simp only [vcs] at kE
  have kX0 := kX; have kE0 := kE
  have gg : Below w2.heap.size w2 w2.drew := (Below.refl _ _).drew
  go_region_held3 (fun w' => (∀ i, w'.cell? ⟨w.heap.size, i, none⟩ = #[.int .i64 x.x, .int .i64 x.y, .int .i64 x.z][i]?) ∧ (∀ i, w'.cell? ⟨w1.heap.size, i, none⟩ = #[.int .i64 E.x, .int .i64 E.y, .int .i64 E.z][i]?))
    (first | exact ⟨kX, kE⟩ | go_keep)
    (first | (go_at_call 177; (with_reducible refine (dotn177 x E 576460752303423488 _ (by omega) xe1 xe2 xe3).mono ?_); rintro e w5 ⟨rfl, b5⟩; have gg := gg.trans (b5.mono gg.size); have kX := keepf gg lz0 kX0; have kE := keepf gg lz kE0) | (go_at_call 177; (with_reducible refine (dotn177 E E 1152921504606846976 _ (by omega) ee1 ee2 ee3).mono ?_); rintro e w5 ⟨rfl, b5⟩; have gg := gg.trans (b5.mono gg.size); have kX := keepf gg lz0 kX0; have kE := keepf gg lz kE0))
  have lB5 := hide (lB.out.trans (gg.mono (Nat.le_of_lt lz0)))
  clear gg kX kE kX0 kE0 b5
  have eu : -1729382256910270464 ≤ dotV x E ∧ dotV x E ≤ 1729382256910270464 := by unfold dotV; omega
  have ev : 0 ≤ dotV E E ∧ dotV E E ≤ 3458764513820540928 := by unfold dotV; omega
  clear xe1 xe2 xe3 ee1 ee2 ee3 s1 s2 s3
  have HP := hide (show partF x s = if dotV x E ≤ 0 then 0 else min 256 (dotV x E / max 1 (dotV E E / 256)) by rw [HE.out]; rfl)
  generalize hU : dotV x E = U
  generalize hV : dotV E E = V
  rw [hU, hV] at HP
  rw [hU] at eu
  rw [hV] at ev
  clear hU hV
  obtain ⟨u1, u2⟩ := eu
  obtain ⟨v1, v2⟩ := ev
  by_cases hc : U ≤ 0
  · go_wp2_with fail
    go_ret
    exact ⟨by rw [HP.out, if_pos hc]; rfl, lB5.out⟩
  · have e1 : V.tdiv 256 = V / 256 := tdiv256 v1
    obtain ⟨D, hD⟩ : ∃ D, D = max 1 (V / 256) := ⟨_, rfl⟩
    have d1 : 1 ≤ D := by omega
    have d2 : D ≠ 0 := by omega
    have e2 : U.tdiv D = U / D := Int.tdiv_eq_ediv_of_nonneg (by omega)
    have q1 : 0 ≤ U / D := Int.ediv_nonneg (by omega) (by omega)
    have q2 : U / D ≤ U := Int.ediv_le_self _ (by omega)
    have t1 : 0 ≤ V / 256 := by omega
    have t2 : V / 256 ≤ V := by omega
    have HD := hide hD
    have e3 : max 1 (V / 256) = D := hD.symm
    clear hD
    go_wp2_with fail

    go_ret
    exact ⟨by rw [HP.out, if_neg (by omega), ← HD.out]; rfl, lB5.out⟩
end Go.Proofs.Ytionbckpgfaneaa
