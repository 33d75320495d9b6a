/- Texts merged into one: Wt Ws Wu Wv Ww. -/
import Derived.Test.YtionbckpgfaneaaXb
import Derived.ChangeKeysEq
import Derived.Laws.StructEq
import Derived.Lib.Strings
import Derived.Lib.Slices
import Derived.Lib.Small
import Derived.Lib.Walk
import Derived.Lib.BitFns
import Derived.Deep.QuietTactic
import Derived.BigQuiet
import Derived.RegionTactic
import Derived.Deep.LoopGhost
/- Equality of vectors, as the model has it. -/
namespace Go.Proofs.Ytionbckpgfaneaa
open Go.RowKit
set_option maxRecDepth 100000
def eqV (a b : V3) : Bool := decide (a.x = b.x ∧ a.y = b.y ∧ a.z = b.z)
theorem eq47 (a b c x y z : Int) (w : World) : Sem.run Try.prog (Op.equalIn 10000 47 (.agg #[.int .i64 a, .int .i64 b, .int .i64 c]) (.agg #[.int .i64 x, .int .i64 y, .int .i64 z])) w = .ok (eqV ⟨a, b, c⟩ ⟨x, y, z⟩) w := by
  obtain ⟨i, hi, _⟩ : ∃ i, Try.prog.info? 2 = some i ∧ i.size = 1 := by
    have h : (Try.prog.info? 2).map (fun i => i.size) = some 1 := by kernel_rfl
    cases hh : Try.prog.info? 2 with
    | none => rw [hh] at h; simp at h
    | some i => rw [hh] at h; exact ⟨i, rfl, by simpa using h⟩
  rw [run_equalIn_array w 9999 _ _ Try.underlying47 hi]
  have hc : Try.prog.cellsOf 2 = 1 := by kernel_rfl
  rw [hc]
  have p0 : ∀ (u0 u1 u2 : Value) (w : World), (part 2 #[u0, u1, u2] 0).run Try.prog w = .ok u0 w := fun _ _ _ _ => by kernel_rfl
  have p1 : ∀ (u0 u1 u2 : Value) (w : World), (part 2 #[u0, u1, u2] 1).run Try.prog w = .ok u1 w := fun _ _ _ _ => by kernel_rfl
  have p2 : ∀ (u0 u1 u2 : Value) (w : World), (part 2 #[u0, u1, u2] 2).run Try.prog w = .ok u2 w := fun _ _ _ _ => by kernel_rfl
  have q : ∀ (m n : Int) (w : World), (Op.equalIn 9999 2 (.int .i64 m) (.int .i64 n)).run Try.prog w = .ok (m == n) w := fun m n w => run_equalIn_int w 9998 2 .i64 .i64 m n Try.underlying2
  simp [Op.eqItems, List.range_succ, -Array.getElem?_eq_getElem]
  rw [p0, Result.andThen_ok, p0, Result.andThen_ok, q, Result.andThen_ok]
  unfold eqV
  by_cases h1 : a = x
  · subst h1
    simp only [BEq.rfl, Bool.true_eq_false, if_false]
    rw [p1, Result.andThen_ok, p1, Result.andThen_ok, q, Result.andThen_ok]
    by_cases h2 : b = y
    · subst h2
      simp only [BEq.rfl, Bool.true_eq_false, if_false]
      rw [p2, Result.andThen_ok, p2, Result.andThen_ok, q, Result.andThen_ok]
      by_cases h3 : c = z
      · subst h3; simp
      · simp [h3]
    · simp [h2]
  · simp [h1]
end Go.Proofs.Ytionbckpgfaneaa
/- Walks, part s: Near, Usable, inRange. -/
namespace Go.Proofs.Ytionbckpgfaneaa
open Go.RowKit
set_option maxHeartbeats 1000000
set_option maxRecDepth 100000
attribute [local go_sem] index47_0 index47_1 index47_2 eq47
def nearB (m : Int) (v : V3) : Bool := decide ((-m ≤ v.x ∧ v.x ≤ m) ∧ (-m ≤ v.y ∧ v.y ≤ m) ∧ (-m ≤ v.z ∧ v.z ≤ m))
theorem nearB_no {m : Int} {v : V3} (h : ¬ ((-m ≤ v.x ∧ v.x ≤ m) ∧ (-m ≤ v.y ∧ v.y ≤ m) ∧ (-m ≤ v.z ∧ v.z ≤ m))) : false = nearB m v := (decide_eq_false h).symm
theorem nearB_yes {m : Int} {v : V3} (h : (-m ≤ v.x ∧ v.x ≤ m) ∧ (-m ≤ v.y ∧ v.y ≤ m) ∧ (-m ≤ v.z ∧ v.z ≤ m)) : true = nearB m v := (decide_eq_true h).symm
/-- armplanref6.Near -/
theorem near_any (v : V3) (m : Int) (w : World) (h0 : 0 ≤ m) (h1 : m ≤ 1000000000000) :
    Calls Try.prog 143 #[.agg #[.int .i64 v.x, .int .i64 v.y, .int .i64 v.z], .int .i64 m] w fun e w' => e = .returned (.bool (nearB m v)) ∧ Below w.heap.size w w' := by
  go_enter Try.func143, Try.ntmps143
  go_wp2
  go_rounds 4
  all_goals first
    | (go_ret; refine ⟨ret_bool (nearB_no (by omega)), ?_⟩; go_grown; done)
    | (go_ret; refine ⟨ret_bool (nearB_yes (by omega)), ?_⟩; go_grown; done)
/-- support.inRange -/
theorem inRange_any (v : V3) (w : World) :
    Calls Try.prog 112 #[.agg #[.int .i64 v.x, .int .i64 v.y, .int .i64 v.z]] w fun e w' => e = .returned (.bool (inR v)) ∧ Below w.heap.size w w' := by
  go_enter Try.func112, Try.ntmps112
  go_wp2
  go_rounds 4
  all_goals first
    | (go_ret; refine ⟨ret_bool (nearB_no (m := 16384) (by omega)), ?_⟩; go_grown; done)
    | (go_ret; refine ⟨ret_bool (nearB_yes (m := 16384) (by omega)), ?_⟩; go_grown; done)
theorem isZ_eq (v : V3) : eqV ⟨v.x, v.y, v.z⟩ ⟨0, 0, 0⟩ = isZ v := rfl
/-- support.Usable -/
theorem usable_any (v : V3) (w : World) :
    Calls Try.prog 59 #[.agg #[.int .i64 v.x, .int .i64 v.y, .int .i64 v.z]] w fun e w' => e = .returned (.bool (usable v)) ∧ Below w.heap.size w w' := by
  go_enter Try.func59, Try.ntmps59
  go_wp2_with fail
  refine (inRange_any v _).mono ?_
  rintro e w1 ⟨rfl, hb1⟩
  have hN : w1.heap[w.heap.size]? = some (.cells #[.int .i64 v.x, .int .i64 v.y, .int .i64 v.z] 47 (0, 0)) := (hb1.block _ (by simp)).trans (heap_alloc_new w _)
  have hc := blk_cell hN
  have hz : w.heap.size < w1.heap.size := by have := hb1.size; simp at this; omega
  have HB := hide (show Below w.heap.size w w1 from ((Below.refl _ _).alloc (Nat.le_refl _) _).trans (hb1.mono (by simp)))
  clear hN hb1
  cases hr : inR v
  · go_wp2_with fail
    go_ret
    exact ⟨ret_bool (by simp [usable, hr]), HB.out⟩
  · go_wp2_with fail
    go_ret
    exact ⟨ret_bool (by rw [isZ_eq]; simp [usable, hr]), HB.out⟩
/-- armplanref10.Usable -/
theorem usable_ref (v : V3) (w : World) :
    Calls Try.prog 108 #[.agg #[.int .i64 v.x, .int .i64 v.y, .int .i64 v.z]] w fun e w' => e = .returned (.bool (usable v)) ∧ Below w.heap.size w w' := by
  cases hr : isZ v
  · have hr' : eqV ⟨v.x, v.y, v.z⟩ ⟨0, 0, 0⟩ = false := hr
    have HR := hide hr; clear hr
    go_enter Try.func108, Try.ntmps108
    go_wp2_with fail
    refine (near_any v 16384 _ (by omega) (by omega)).mono ?_
    rintro e w1 ⟨rfl, hb1⟩
    have HB := hide (show Below w.heap.size w w1 from ((Below.refl _ _).alloc (Nat.le_refl _) _).trans (hb1.mono (by simp)))
    clear hb1
    go_wp2_with fail
    go_ret
    exact ⟨ret_bool (by simp only [usable, HR.out, Bool.not_false, Bool.and_true]; rfl), HB.out⟩
  · have hr' : eqV ⟨v.x, v.y, v.z⟩ ⟨0, 0, 0⟩ = true := hr
    have HR := hide hr; clear hr
    go_enter Try.func108, Try.ntmps108
    go_wp2_with fail
    go_ret
    exact ⟨ret_bool (by simp [usable, HR.out]), by go_grown⟩
end Go.Proofs.Ytionbckpgfaneaa
/- Walks, part u: roots. -/
namespace Go.Proofs.Ytionbckpgfaneaa
open Go.RowKit
set_option maxRecDepth 100000
set_option maxHeartbeats 1000000
theorem bl_lt (f : Nat) : ∀ x, x < 2 ^ f → x < 2 ^ Lib.bitLenAux f x := by
  induction f with
  | zero => intro x h; simpa [Lib.bitLenAux] using h
  | succ f ih =>
    intro x h
    simp only [Lib.bitLenAux]
    split
    · rename_i h0; subst h0; simp
    · have := ih (x / 2) (by rw [Nat.pow_succ] at h; omega)
      rw [Nat.add_comm 1, Nat.pow_succ]
      omega
theorem bl_le (f : Nat) : ∀ x k, x < 2 ^ k → Lib.bitLenAux f x ≤ k := by
  induction f with
  | zero => intro x k _; simp [Lib.bitLenAux]
  | succ f ih =>
    intro x k h
    simp only [Lib.bitLenAux]
    split
    · omega
    · cases k with
      | zero => simp at h; omega
      | succ k =>
        have := ih (x / 2) k (by rw [Nat.pow_succ] at h; omega)
        omega
def LenPost (x : Int) (w : World) (e : Ending) (w' : World) : Prop := ∃ L : Nat, e = .returned (.int .i64 L) ∧ x < 2 ^ L ∧ L ≤ 30 ∧ w' = w
/-- bits.Len64, below 2^30 -/
theorem len64_any (x : Int) (w : World) (h0 : 0 ≤ x) (h1 : x ≤ 1000000000) :
    Calls Try.prog 175 #[.int .u64 x] w (LenPost x w) := by
  have key : Calls Try.prog 175 #[.int .u64 x] w fun e w' => e = .returned (.int .i64 (Lib.bitLen x.toNat)) ∧ w' = w := by
    by_cases c1 : 65536 ≤ x
    · by_cases c2 : 256 ≤ x / 65536
      · have a0 : 0 ≤ x / 65536 / 256 := by omega
        have a1 : x / 65536 / 256 ≤ 255 := by omega
        have e8 := Lib.len8_eq ⟨(x / 65536 / 256).toNat, by omega⟩
        have l8 := Lib.bitLen_le8 ⟨(x / 65536 / 256).toNat, by omega⟩
        simp only [Int.toNat_of_nonneg a0] at e8
        simp only at l8
        have b0 : 0 ≤ Lib.len8 (x / 65536 / 256) := by omega
        have b1 : Lib.len8 (x / 65536 / 256) ≤ 8 := by omega
        have E8 := hide e8; clear e8 l8
        have hru := Lib.run_index_len8tab (P := Try.prog) w 9 .u8 (x / 65536 / 256) Try.underlying9 a0 a1
        go_enter Try.func175, Try.ntmps175
        go_wp2
        go_ret
        refine ⟨ret_int ?_, rfl⟩
        rw [E8.out]
        have e : (x / 65536 / 256).toNat = x.toNat / 16777216 := by omega
        have s := Lib.bitLen_shift24 x.toNat (by omega) (by omega)
        rw [e]
        omega
      · have a0 : 0 ≤ x / 65536 := by omega
        have a1 : x / 65536 ≤ 255 := by omega
        have e8 := Lib.len8_eq ⟨(x / 65536).toNat, by omega⟩
        have l8 := Lib.bitLen_le8 ⟨(x / 65536).toNat, by omega⟩
        simp only [Int.toNat_of_nonneg a0] at e8
        simp only at l8
        have b0 : 0 ≤ Lib.len8 (x / 65536) := by omega
        have b1 : Lib.len8 (x / 65536) ≤ 8 := by omega
        have E8 := hide e8; clear e8 l8
        have hru := Lib.run_index_len8tab (P := Try.prog) w 9 .u8 (x / 65536) Try.underlying9 a0 a1
        go_enter Try.func175, Try.ntmps175
        go_wp2
        go_ret
        refine ⟨ret_int ?_, rfl⟩
        rw [E8.out]
        have e : (x / 65536).toNat = x.toNat / 65536 := by omega
        have s := Lib.bitLen_shift16 x.toNat (by omega) (by omega)
        rw [e]
        omega
    · by_cases c2 : 256 ≤ x
      · have a0 : 0 ≤ x / 256 := by omega
        have a1 : x / 256 ≤ 255 := by omega
        have e8 := Lib.len8_eq ⟨(x / 256).toNat, by omega⟩
        have l8 := Lib.bitLen_le8 ⟨(x / 256).toNat, by omega⟩
        simp only [Int.toNat_of_nonneg a0] at e8
        simp only at l8
        have b0 : 0 ≤ Lib.len8 (x / 256) := by omega
        have b1 : Lib.len8 (x / 256) ≤ 8 := by omega
        have E8 := hide e8; clear e8 l8
        have hru := Lib.run_index_len8tab (P := Try.prog) w 9 .u8 (x / 256) Try.underlying9 a0 a1
        go_enter Try.func175, Try.ntmps175
        go_wp2
        go_ret
        refine ⟨ret_int ?_, rfl⟩
        rw [E8.out]
        have e : (x / 256).toNat = x.toNat / 256 := by omega
        have s := Lib.bitLen_shift8 x.toNat (by omega) (by omega)
        rw [e]
        omega
      · have a0 : 0 ≤ x := by omega
        have a1 : x ≤ 255 := by omega
        have e8 := Lib.len8_eq ⟨(x).toNat, by omega⟩
        have l8 := Lib.bitLen_le8 ⟨(x).toNat, by omega⟩
        simp only [Int.toNat_of_nonneg a0] at e8
        simp only at l8
        have b0 : 0 ≤ Lib.len8 (x) := by omega
        have b1 : Lib.len8 (x) ≤ 8 := by omega
        have E8 := hide e8; clear e8 l8
        have hru := Lib.run_index_len8tab (P := Try.prog) w 9 .u8 (x) Try.underlying9 a0 a1
        go_enter Try.func175, Try.ntmps175
        go_wp2
        go_ret
        refine ⟨ret_int ?_, rfl⟩
        rw [E8.out]
  refine key.mono ?_
  rintro e w' ⟨rfl, rfl⟩
  have a := bl_lt 64 x.toNat (by omega)
  refine ⟨_, rfl, ?_, bl_le 64 x.toNat 30 (by omega), rfl⟩
  have : ((x.toNat : Nat) : Int) < ((2 ^ Lib.bitLen x.toNat : Nat) : Int) := by exact_mod_cast a
  rw [Int.natCast_pow] at this
  simpa [Int.toNat_of_nonneg h0] using this
/-- the root rounded down -/
def IsRoot (n r : Int) : Prop := 0 ≤ r ∧ r * r ≤ n ∧ n < (r + 1) * (r + 1)
def RootPost (n : Int) (w : World) (e : Ending) (w' : World) : Prop := ∃ r : Int, IsRoot n r ∧ e = .returned (.int .i64 r) ∧ ∃ m, w' = w.drewN m
theorem pow_sq (W : Nat) : (2 : Int) ^ W * 2 ^ W = 2 ^ (2 * W) := by rw [← Int.pow_add]; congr 1; omega
def RootInv (n : Int) (W : Nat) (t u i : Value) : Prop := ∃ (k : Nat) (r : Int), k ≤ W ∧ i = .int .i64 k ∧ t = .int .u64 r ∧ u = .int .u64 (2 ^ (W - k)) ∧ 0 ≤ r ∧ r * r ≤ n ∧ n < (r + 2 ^ (W - k)) * (r + 2 ^ (W - k))
theorem le_of_sq32 {r : Int} (h : r * r ≤ 1000000000) : r ≤ 32768 := by
  rcases Int.le_total r 32768 with h1 | h1
  · exact h1
  · have := sq_le (show (0 : Int) ≤ 32768 by omega) h1
    omega
theorem pow_half {W k : Nat} (h : k < W) (hW : W ≤ 15) : ∃ s : Int, 2 ^ (W - k) = 2 * s ∧ 1 ≤ s ∧ s ≤ 16384 := by
  refine ⟨2 ^ (W - k - 1), ?_, ?_, ?_⟩
  · rw [show W - k = W - k - 1 + 1 by omega, Int.pow_succ, Nat.add_sub_cancel]; omega
  · have : (0 : Int) < 2 ^ (W - k - 1) := Int.pow_pos (by omega)
    omega
  · have := Nat.pow_le_pow_right (n := 2) (by omega) (show W - k - 1 ≤ 14 by omega)
    have h : ((2 ^ (W - k - 1) : Nat) : Int) ≤ ((2 ^ 14 : Nat) : Int) := by exact_mod_cast this
    simpa [Int.natCast_pow] using h
theorem root_any (n : Int) (w : World) (h0 : 1 ≤ n) (h1 : n ≤ 1000000000) :
    Calls Try.prog 146 #[.int .i64 n] w (RootPost n w) := by
  go_enter Try.func146, Try.ntmps146
  go_wp2_with fail
  refine (len64_any n _ (by omega) h1).mono ?_
  rintro e w1 ⟨L, rfl, hL, hL30, rfl⟩
  have HL := hide hL; clear hL
  go_wp2_with fail
  obtain ⟨W, hW⟩ : ∃ W : Nat, ((L : Int) + 1) / 2 = W := ⟨(L + 1) / 2, by omega⟩
  rw [hW]
  have hW15 : W ≤ 15 := by omega
  have HW := hide hW; clear hW
  go_quiet (fail)
  go_wp2_with fail
  have hp : IntKind.u64.wrap (2 ^ W) = 2 ^ W := by
    have e : (2 : Int) ^ W ≤ 2 ^ 15 := by
      have := Nat.pow_le_pow_right (n := 2) (by omega) hW15
      have h : ((2 ^ W : Nat) : Int) ≤ ((2 ^ 15 : Nat) : Int) := by exact_mod_cast this
      simpa [Int.natCast_pow] using h
    have e0 : (0 : Int) < 2 ^ W := Int.pow_pos (by omega)
    rw [IntKind.wrap_u64]
    omega
  rw [hp]
  have hn4 : n < 2 ^ W * 2 ^ W := by
    rw [pow_sq]
    have : L ≤ 2 * W := by have := HW.out; omega
    have := Nat.pow_le_pow_right (n := 2) (by omega) this
    have h : ((2 ^ L : Nat) : Int) ≤ ((2 ^ (2 * W) : Nat) : Int) := by exact_mod_cast this
    rw [Int.natCast_pow, Int.natCast_pow] at h
    exact Int.lt_of_lt_of_le HL.out h
  have H4 := hide hn4; clear hn4 hp
  go_loop [4, 5, 17] (fun t u i => RootInv n W t u i) (fun _ _ i => W - (intOf i).toNat)
  case atStart => exact ⟨0, 0, by omega, rfl, rfl, by simp, by omega, by omega, by simpa using H4.out⟩
  case round =>
    obtain ⟨k, r, hk, rfl, rfl, rfl, hr0, hrn, hlt⟩ := hrel
    have hr1 : r ≤ 32768 := le_of_sq32 (by omega)
    by_cases hkW : k < W
    · obtain ⟨s, hs, hs0, hs1⟩ := pow_half hkW hW15
      rw [hs] at hlt ⊢
      have HS := hide hs
      have HLT := hide hlt
      have mb := mul_bd (r + s) (r + s) 65536 65536 (by omega) (by omega) (by omega) (by omega)
      have mp := sq_nn (r + s)
      have HK := hide (show s = 2 ^ (W - (k + 1)) by rw [show W - k = W - (k + 1) + 1 by omega, Int.pow_succ] at hs; omega)
      clear hs hlt
      have h2 : (2 * s) / 2 = s := by omega
      by_cases hc : (r + s) * (r + s) ≤ n
      · go_wp2
        go_round
        case rel => exact ⟨k + 1, r + s, by omega, by simp, rfl, by rw [← HK.out], by omega, hc, by rw [← HK.out]; have := HLT.out; rw [show r + s + s = r + 2 * s by omega]; exact this⟩
        case measure => simp [intOf] <;> omega
      · go_wp2
        go_round
        case rel => exact ⟨k + 1, r, by omega, by simp, rfl, by rw [← HK.out], by omega, hrn, by rw [← HK.out]; omega⟩
        case measure => simp [intOf] <;> omega
    · obtain rfl : k = W := by omega
      rw [Nat.sub_self, Int.pow_zero] at hlt ⊢
      have HLT := hide hlt; clear hlt
      go_wp2
      go_ret
      exact ⟨r, ⟨hr0, hrn, HLT.out⟩, rfl, _, rfl⟩
theorem rootUp_of {n r : Int} (h : IsRoot n r) : (r * r < n → IsRootUp n (r + 1)) ∧ (¬ r * r < n → IsRootUp n r) := by
  obtain ⟨h1, h2, h3⟩ := h
  constructor
  · intro h
    exact ⟨by omega, by omega, fun _ => by rw [show r + 1 - 1 = r by omega]; exact h⟩
  · intro h
    refine ⟨h1, by omega, fun hr => ?_⟩
    have e : (r - 1) * (r - 1) = r * r - 2 * r + 1 := by grind
    omega
/-- fixed.RootUp -/
theorem rootUp_any (n : Int) (w : World) (h0 : 1 ≤ n) (h1 : n ≤ 1000000000) :
    Calls Try.prog 113 #[.int .i64 n] w fun e w' => e = .returned (.int .i64 (rootUp n)) ∧ ∃ m, w' = w.drewN m := by
  go_enter Try.func113, Try.ntmps113
  go_wp2_with fail
  refine (root_any n _ h0 h1).mono ?_
  rintro e w1 ⟨r, hr, rfl, m, rfl⟩
  obtain ⟨u1, u2⟩ := rootUp_of hr
  obtain ⟨r0, r1, r2⟩ := hr
  have hr1 : r ≤ 32768 := le_of_sq32 (by omega)
  have mb := mul_bd r r 32768 32768 (by omega) (by omega) (by omega) (by omega)
  by_cases hc : r * r < n
  · have H := hide (rootUp_eq (u1 hc)); clear u1 u2 r2
    go_wp2
    go_ret
    exact ⟨ret_int H.out.symm, m, rfl⟩
  · have H := hide (rootUp_eq (u2 hc)); clear u1 u2 r2
    go_wp2
    go_ret
    exact ⟨ret_int H.out.symm, m, rfl⟩
def RootInv2 (n : Int) (t u : Value) : Prop := ∃ a b : Int, t = .int .i64 a ∧ u = .int .i64 b ∧ 1 ≤ a ∧ a < b ∧ b ≤ 4294967296 ∧ a * a ≤ n ∧ n < b * b
/-- armplanref1.Root -/
theorem root_ref (n : Int) (w : World) (h0 : 1 ≤ n) (h1 : n ≤ 1000000000) :
    Calls Try.prog 155 #[.int .i64 n] w fun e w' => ∃ r, IsRoot n r ∧ e = .returned (.int .i64 r) ∧ w = w' := by
  go_enter Try.func155, Try.ntmps155
  go_wp2_with fail
  go_loop [3, 4] (fun t u => RootInv2 n t u) (fun t u => (intOf u - intOf t).toNat)
  case atStart => exact ⟨1, 4294967296, rfl, rfl, by omega, by omega, by omega, by omega, by omega⟩
  case round =>
    obtain ⟨a, b, rfl, rfl, ha, hab, hb, hl, hr⟩ := hrel
    by_cases hd : 1 < b - a
    · obtain ⟨m, hm⟩ : ∃ m, m = a + (b - a) / 2 := ⟨_, rfl⟩
      have hm1 : 1 ≤ m := by omega
      have ham : a < m := by omega
      have hmb : m < b := by omega
      have hne : (m == 0) = false := by simp; omega
      have q0 : 0 ≤ n / m := Int.ediv_nonneg (by omega) (by omega)
      have q1 : n / m ≤ n := Int.ediv_le_self _ (by omega)
      have hiff := Int.le_ediv_iff_mul_le (a := m) (b := n) (c := m) (by omega)
      have HM := hide hm
      have hmm : a + (b - a) / 2 = m := hm.symm
      clear hm
      by_cases hc : m * m ≤ n
      · have hc' : m ≤ n / m := hiff.2 hc
        have HC := hide hc; have HR := hide hr; clear hc hr hl hiff
        go_wp2
        go_round
        case rel => exact ⟨m, b, rfl, rfl, by omega, by omega, by omega, HC.out, HR.out⟩
        case measure => simp [intOf]; omega
      · have hc' : ¬ m ≤ n / m := fun h => hc (hiff.1 h)
        have HC := hide (show n < m * m by omega); have HL := hide hl; clear hc hr hl hiff
        go_wp2
        go_round
        case rel => exact ⟨a, m, rfl, rfl, by omega, by omega, by omega, HL.out, HC.out⟩
        case measure => simp [intOf]; omega
    · have hba : b = a + 1 := by omega
      have HR := hide (show n < (a + 1) * (a + 1) by rw [← hba]; exact hr); have HL := hide hl
      clear hr hl hba
      go_wp2
      go_ret
      exact ⟨a, ⟨by omega, HL.out, HR.out⟩, rfl, rfl⟩
/-- armplanref1.RootUp -/
theorem rootUp_ref (n : Int) (w : World) (h0 : 1 ≤ n) (h1 : n ≤ 1000000000) :
    Calls Try.prog 124 #[.int .i64 n] w fun e w' => e = .returned (.int .i64 (rootUp n)) ∧ w = w' := by
  go_enter Try.func124, Try.ntmps124
  go_wp2_with fail
  refine (root_ref n _ h0 h1).mono ?_
  rintro e w1 ⟨r, hr, rfl, rfl⟩
  obtain ⟨u1, u2⟩ := rootUp_of hr
  obtain ⟨r0, r1, r2⟩ := hr
  have hr1 : r ≤ 32768 := le_of_sq32 (by omega)
  have mb := mul_bd r r 32768 32768 (by omega) (by omega) (by omega) (by omega)
  by_cases hc : r * r < n
  · have H := hide (rootUp_eq (u1 hc)); clear u1 u2 r2
    go_wp2
    go_ret
    exact ⟨ret_int H.out.symm, rfl⟩
  · have H := hide (rootUp_eq (u2 hc)); clear u1 u2 r2
    go_wp2
    go_ret
    exact ⟨ret_int H.out.symm, rfl⟩
end Go.Proofs.Ytionbckpgfaneaa
/- Walks, part v: Norm, Dot. -/
namespace Go.Proofs.Ytionbckpgfaneaa
open Go.RowKit
set_option maxHeartbeats 1000000
set_option maxRecDepth 100000
attribute [local go_sem] index44_0 index44_1 index44_2 index47_0 index47_1 index47_2 eq47
theorem sq_bd14 {v : V3} (h : inR v = true) : (0 ≤ v.x * v.x ∧ v.x * v.x ≤ 268435456) ∧ (0 ≤ v.y * v.y ∧ v.y * v.y ≤ 268435456) ∧ (0 ≤ v.z * v.z ∧ v.z * v.z ≤ 268435456) := by
  obtain ⟨a, b, c⟩ := inR_of h
  have := sq_nn v.x; have := sq_nn v.y; have := sq_nn v.z
  have := sq_bd a.1 a.2; have := sq_bd b.1 b.2; have := sq_bd c.1 c.2
  omega
/-- support.Norm -/
theorem norm_any (v : V3) (w : World) :
    Calls Try.prog 61 #[.agg #[.int .i64 v.x, .int .i64 v.y, .int .i64 v.z]] w fun e w' => e = .returned (.int .i64 (normF v)) ∧ Below w.heap.size w w' := by
  go_enter Try.func61, Try.ntmps61
  go_wp2_with fail
  refine (usable_any v _).mono ?_
  rintro e w1 ⟨rfl, hb1⟩
  have hN : w1.heap[w.heap.size]? = some (.cells #[.int .i64 v.x, .int .i64 v.y, .int .i64 v.z] 47 (0, 0)) := (hb1.block _ (by simp)).trans (heap_alloc_new w _)
  have hc := blk_cell hN
  have hz : w.heap.size < w1.heap.size := by have := hb1.size; simp at this; omega
  have HB := hide (show Below w.heap.size w w1 from ((Below.refl _ _).alloc (Nat.le_refl _) _).trans (hb1.mono (by simp)))
  clear hN hb1
  cases hu : usable v
  · have H := hide (show normF v = 0 by simp [normF, hu])
    go_wp2_with fail
    go_ret
    exact ⟨ret_int H.out.symm, HB.out⟩
  · have H := hide (show normF v = rootUp (lenSq v) by simp [normF, hu])
    obtain ⟨⟨s1, s2⟩, ⟨s3, s4⟩, s5, s6⟩ := sq_bd14 (usable_of hu).1
    have hl : 1 ≤ v.x * v.x + v.y * v.y + v.z * v.z := lenSq_pos (usable_of hu).2
    clear hu
    go_wp2_with fail
    refine (rootUp_any (v.x * v.x + v.y * v.y + v.z * v.z) _ hl (by omega)).mono ?_
    rintro e w2 ⟨rfl, m, rfl⟩
    go_wp2_with fail
    go_ret
    exact ⟨ret_int H.out.symm, below_drewN HB.out _⟩
/-- armplanref10.Norm -/
theorem norm_ref (v : V3) (w : World) :
    Calls Try.prog 71 #[.agg #[.int .i64 v.x, .int .i64 v.y, .int .i64 v.z]] w fun e w' => e = .returned (.int .i64 (normF v)) ∧ Below w.heap.size w w' := by
  go_enter Try.func71, Try.ntmps71
  go_wp2_with fail
  refine (usable_ref v _).mono ?_
  rintro e w1 ⟨rfl, hb1⟩
  have hN : w1.heap[w.heap.size]? = some (.cells #[.int .i64 v.x, .int .i64 v.y, .int .i64 v.z] 47 (0, 0)) := (hb1.block _ (by simp)).trans (heap_alloc_new w _)
  have hc := blk_cell hN
  have hz : w.heap.size < w1.heap.size := by have := hb1.size; simp at this; omega
  have HB := hide (show Below w.heap.size w w1 from ((Below.refl _ _).alloc (Nat.le_refl _) _).trans (hb1.mono (by simp)))
  clear hN hb1
  cases hu : usable v
  · have H := hide (show normF v = 0 by simp [normF, hu])
    go_wp2_with fail
    go_ret
    exact ⟨ret_int H.out.symm, HB.out⟩
  · have H := hide (show normF v = rootUp (lenSq v) by simp [normF, hu])
    obtain ⟨⟨s1, s2⟩, ⟨s3, s4⟩, s5, s6⟩ := sq_bd14 (usable_of hu).1
    have hl : 1 ≤ v.x * v.x + v.y * v.y + v.z * v.z := lenSq_pos (usable_of hu).2
    clear hu
    go_wp2_with fail
    refine (rootUp_ref (v.x * v.x + v.y * v.y + v.z * v.z) _ hl (by omega)).mono ?_
    rintro e w2 ⟨rfl, rfl⟩
    go_wp2_with fail
    go_ret
    exact ⟨ret_int H.out.symm, HB.out⟩
/-- partial sums of a scalar product -/
def acc3 (a b c k : Int) : Int := if k = 0 then 0 else if k = 1 then a else if k = 2 then a + b else a + b + c
def mn (n : Int) (a : Iv) : Int := min (n * a.lo) (n * a.hi)
def mx (n : Int) (a : Iv) : Int := max (n * a.lo) (n * a.hi)
def DInv (w : World) (n : V3) (v : IV) (t u i : Value) (wr : World) : Prop :=
  ∃ k : Int, i = .int .i64 k ∧ 0 ≤ k ∧ k ≤ 3 ∧ t = .int .i64 (acc3 (mn n.x v.x) (mn n.y v.y) (mn n.z v.z) k) ∧ u = .int .i64 (acc3 (mx n.x v.x) (mx n.y v.y) (mx n.z v.z) k) ∧
    wr.heap[w.heap.size]? = some (.cells #[.int .i64 n.x, .int .i64 n.y, .int .i64 n.z] 47 (0, 0)) ∧ Below w.heap.size w wr
theorem mn_bd (n : Int) (a : Iv) (h1 : -16384 ≤ n) (h2 : n ≤ 16384) (h3 : -268435456 ≤ a.lo) (h4 : a.lo ≤ a.hi) (h5 : a.hi ≤ 268435456) :
    (-4398046511104 ≤ n * a.lo ∧ n * a.lo ≤ 4398046511104) ∧ (-4398046511104 ≤ n * a.hi ∧ n * a.hi ≤ 4398046511104) := by
  have g1 := mul_bd2 n a.lo 16384 268435456 h1 h2 (by omega) (by omega)
  have g2 := mul_bd2 n a.hi 16384 268435456 h1 h2 (by omega) (by omega)
  omega
/-- support.dot -/
theorem dot_any (n : V3) (v : IV) (w : World) (hn : inR n = true) (hv : v.ok = true) :
    Calls Try.prog 144 #[.agg #[.int .i64 n.x, .int .i64 n.y, .int .i64 n.z], .agg #[.int .i64 v.x.lo, .int .i64 v.x.hi, .int .i64 v.y.lo, .int .i64 v.y.hi, .int .i64 v.z.lo, .int .i64 v.z.hi]] w
      fun e w' => e = .returned (.tuple #[.int .i64 (dlo n v), .int .i64 (dhi n v)]) ∧ Below w.heap.size w w' := by
  obtain ⟨⟨a1, a2⟩, ⟨b1, b2⟩, c1, c2⟩ := inR_of hn
  obtain ⟨⟨d1, d2, d3⟩, ⟨e1, e2, e3⟩, f1, f2, f3⟩ := ok_of hv
  clear hn hv
  obtain ⟨⟨x1, x2⟩, x3, x4⟩ := mn_bd n.x v.x a1 a2 d1 d2 d3
  obtain ⟨⟨y1, y2⟩, y3, y4⟩ := mn_bd n.y v.y b1 b2 e1 e2 e3
  obtain ⟨⟨z1, z2⟩, z3, z4⟩ := mn_bd n.z v.z c1 c2 f1 f2 f3
  have mx1 : -4398046511104 ≤ mn n.x v.x ∧ mn n.x v.x ≤ 4398046511104 := by unfold mn; omega
  have mx2 : -4398046511104 ≤ mn n.y v.y ∧ mn n.y v.y ≤ 4398046511104 := by unfold mn; omega
  have mx3 : -4398046511104 ≤ mx n.x v.x ∧ mx n.x v.x ≤ 4398046511104 := by unfold mx; omega
  have mx4 : -4398046511104 ≤ mx n.y v.y ∧ mx n.y v.y ≤ 4398046511104 := by unfold mx; omega
  go_enter Try.func144, Try.ntmps144
  go_wp2_with fail
  go_loopw [6, 7, 13] (fun t u i wr => DInv w n v t u i wr) (fun _ _ i _ => 3 - (intOf i).toNat)
  case atStart => exact ⟨0, rfl, by omega, by omega, rfl, rfl, (Below.heap_alloc _ _ _ (by simp)).trans (heap_alloc_new w _), by go_grown⟩
  case round =>
    obtain ⟨k, rfl, hk0, hk3, rfl, rfl, jN, jB⟩ := hrel
    have JN := hide jN; have JB := hide jB; have jz := jB.size
    have jlt : w.heap.size < wr.heap.size := by
      rcases Nat.lt_or_ge w.heap.size wr.heap.size with h | h
      · exact h
      · rw [Array.getElem?_eq_none h] at jN; cases jN
    have hc := blk_cell jN
    clear jN jB
    obtain rfl | rfl | rfl | rfl : k = 0 ∨ k = 1 ∨ k = 2 ∨ k = 3 := by omega
    · simp only [acc3]
      go_wp2_with fail
      go_quiet (fail)
      go_wp2_with fail
      go_roundw
      case rel => exact ⟨1, rfl, by omega, by omega, rfl, rfl, (Below.heap_alloc _ _ _ jlt).trans JN.out, below_drewN (JB.out.alloc jz _) _⟩
      case measure => simp [intOf]
    · simp only [acc3]
      go_wp2_with fail
      go_quiet (fail)
      go_wp2_with fail
      go_roundw
      case rel => exact ⟨2, rfl, by omega, by omega, rfl, rfl, (Below.heap_alloc _ _ _ jlt).trans JN.out, below_drewN (JB.out.alloc jz _) _⟩
      case measure => simp [intOf]
    · simp only [acc3]
      go_wp2_with fail
      go_quiet (fail)
      go_wp2_with fail
      go_roundw
      case rel => exact ⟨3, rfl, by omega, by omega, rfl, rfl, (Below.heap_alloc _ _ _ jlt).trans JN.out, below_drewN (JB.out.alloc jz _) _⟩
      case measure => simp [intOf]
    · simp only [acc3]
      go_wp2_with fail
      go_ret2
      exact ⟨rfl, JB.out⟩
def dotOk (n : V3) (v : IV) : Bool := usable n && v.ok
/-- what Dot returns -/
def dotR (n : V3) (v : IV) : Value := if dotOk n v then .tuple #[.int .i64 (dlo n v), .int .i64 (dhi n v)] else .tuple #[.int .i64 0, .int .i64 0]
theorem dotR_no {n : V3} {v : IV} (h : dotOk n v = false) : dotR n v = .tuple #[.int .i64 0, .int .i64 0] := by simp [dotR, h]
theorem dotR_yes {n : V3} {v : IV} (h : dotOk n v = true) : dotR n v = .tuple #[.int .i64 (dlo n v), .int .i64 (dhi n v)] := by simp [dotR, h]
theorem placedB_one (v : IV) : placedB [v] = v.ok := by simp [placedB]
theorem Sl.newW (w : World) (cs : Array Value) (t : TypeId) : Sl (w.alloc (.cells cs t)) (some ⟨w.heap.size, 0, none⟩) cs.toList := fun _ =>
  ⟨w.heap.size, 0, rfl, by simp, fun j u hu => by
    rw [Nat.zero_add, blk_cell (heap_alloc_new w _) j]
    simpa using hu⟩
/-- support.Dot -/
theorem Dot_any (n : V3) (v : IV) (w : World) :
    Calls Try.prog 109 #[.agg #[.int .i64 n.x, .int .i64 n.y, .int .i64 n.z], .agg #[.int .i64 v.x.lo, .int .i64 v.x.hi, .int .i64 v.y.lo, .int .i64 v.y.hi, .int .i64 v.z.lo, .int .i64 v.z.hi]] w
      fun e w' => e = .returned (dotR n v) ∧ Below w.heap.size w w' := by
  go_enter Try.func109, Try.ntmps109
  go_wp2_with fail
  refine (usable_any n _).mono ?_
  rintro e w1 ⟨rfl, hb1⟩
  have hN : w1.heap[w.heap.size]? = some (.cells #[.int .i64 n.x, .int .i64 n.y, .int .i64 n.z] 47 (0, 0)) := (hb1.block _ (by simp; omega)).trans ((Below.heap_alloc _ _ _ (by simp)).trans (heap_alloc_new w _))
  have hV : w1.heap[w.heap.size + 1]? = some (.cells #[.int .i64 v.x.lo, .int .i64 v.x.hi, .int .i64 v.y.lo, .int .i64 v.y.hi, .int .i64 v.z.lo, .int .i64 v.z.hi] 44 (0, 0)) := (hb1.block _ (by simp)).trans (new_at _ _ (by simp))
  have hz : w.heap.size + 1 < w1.heap.size := by have := hb1.size; simp at this; omega
  have hz0 : w.heap.size < w1.heap.size := by omega
  have HB := hide (show Below w.heap.size w w1 from (((Below.refl _ _).alloc (Nat.le_refl _) _).alloc (by simp) _).trans (hb1.mono (by simp; omega)))
  have HN := hide hN; have HV := hide hV
  clear hb1 hN hV
  cases hu : usable n
  · have H := hide (dotR_no (show dotOk n v = false by simp [dotOk, hu]))
    go_wp2_with fail
    go_ret2
    exact ⟨by rw [H.out]; rfl, HB.out⟩
  · have hc := blk_cell HV.out
    go_wp2_with fail
    refine (placed_any (some ⟨w1.heap.size, 0, none⟩) [v] 1 _ (Sl.newW w1 _ 44) (by simp)).mono ?_
    rintro e w2 ⟨rfl, hb2⟩
    rw [placedB_one]
    have hc2 := blk_cell ((hb2.block _ (by simp; omega)).trans ((Below.heap_alloc _ _ _ hz).trans HV.out))
    have hd2 := blk_cell ((hb2.block _ (by simp; omega)).trans ((Below.heap_alloc _ _ _ hz0).trans HN.out))
    have hz2 : w.heap.size + 1 < w2.heap.size := by have := hb2.size; simp at this; omega
    have hz3 : w.heap.size < w2.heap.size := by omega
    have HB2 := hide (show Below w.heap.size w w2 from (HB.out.alloc (by omega) _).trans (hb2.mono (by simp; omega)))
    clear hb2 hc
    cases ho : v.ok
    · have H := hide (dotR_no (show dotOk n v = false by simp [dotOk, ho]))
      go_wp2_with fail
      go_ret2
      exact ⟨by rw [H.out]; rfl, HB2.out⟩
    · have H := hide (dotR_yes (show dotOk n v = true by simp [dotOk, ho, hu]))
      have HU := hide (usable_of hu).1; have HO := hide ho
      clear hu ho
      go_wp2_with fail
      refine (dot_any n v _ HU.out HO.out).mono ?_
      rintro e w3 ⟨rfl, hb3⟩
      have HB3 := hide (show Below w.heap.size w w3 from HB2.out.trans (hb3.mono (by omega)))
      clear hb3 hc2 hd2
      go_wp2_with fail
      go_ret2
      exact ⟨by rw [H.out]; rfl, HB3.out⟩
end Go.Proofs.Ytionbckpgfaneaa
/- Walks, part w: the references' Dot; Normal. -/
namespace Go.Proofs.Ytionbckpgfaneaa
open Go.RowKit
set_option maxHeartbeats 1000000
set_option maxRecDepth 100000
attribute [local go_sem] index44_0 index44_1 index44_2 index47_0 index47_1 index47_2 eq47
def vcs (n : V3) : Array Value := #[.int .i64 n.x, .int .i64 n.y, .int .i64 n.z]
def ivs (v : IV) : Array Value := #[.int .i64 v.x.lo, .int .i64 v.x.hi, .int .i64 v.y.lo, .int .i64 v.y.hi, .int .i64 v.z.lo, .int .i64 v.z.hi]
def D2Inv (w : World) (n : V3) (v : IV) (t u i : Value) (wr : World) : Prop :=
  ∃ k : Int, i = .int .i64 k ∧ 0 ≤ k ∧ k ≤ 3 ∧ t = .int .i64 (acc3 (mn n.x v.x) (mn n.y v.y) (mn n.z v.z) k) ∧ u = .int .i64 (acc3 (mx n.x v.x) (mx n.y v.y) (mx n.z v.z) k) ∧
    wr.heap[w.heap.size]? = some (.cells (vcs n) 47 (0, 0)) ∧ wr.heap[w.heap.size + 1]? = some (.cells (ivs v) 44 (0, 0)) ∧ Below w.heap.size w wr ∧ w.heap.size + 1 < wr.heap.size
/-- armplanref10.Dot -/
theorem dot_ref (n : V3) (v : IV) (w : World) :
    Calls Try.prog 110 #[.agg #[.int .i64 n.x, .int .i64 n.y, .int .i64 n.z], .agg #[.int .i64 v.x.lo, .int .i64 v.x.hi, .int .i64 v.y.lo, .int .i64 v.y.hi, .int .i64 v.z.lo, .int .i64 v.z.hi]] w
      fun e w' => e = .returned (dotR n v) ∧ Below w.heap.size w w' := by
  go_enter Try.func110, Try.ntmps110
  go_wp2_with fail
  refine (usable_ref n _).mono ?_
  rintro e w1 ⟨rfl, hb1⟩
  have hN : w1.heap[w.heap.size]? = some (.cells (vcs n) 47 (0, 0)) := (hb1.block _ (by simp; omega)).trans ((Below.heap_alloc _ _ _ (by simp)).trans (heap_alloc_new w _))
  have hV : w1.heap[w.heap.size + 1]? = some (.cells (ivs v) 44 (0, 0)) := (hb1.block _ (by simp)).trans (new_at _ _ (by simp))
  have hz : w.heap.size + 1 < w1.heap.size := by have := hb1.size; simp at this; omega
  have hz0 : w.heap.size < w1.heap.size := by omega
  have HB := hide (show Below w.heap.size w w1 from (((Below.refl _ _).alloc (Nat.le_refl _) _).alloc (by simp) _).trans (hb1.mono (by simp; omega)))
  have HN := hide hN; have HV := hide hV
  clear hb1 hN hV
  cases hu : usable n
  · have H := hide (dotR_no (show dotOk n v = false by simp [dotOk, hu]))
    go_wp2_with fail
    go_ret2
    exact ⟨by rw [H.out]; rfl, HB.out⟩
  · have hc := blk_cell HV.out
    simp only [ivs] at hc
    go_wp2_with fail
    refine (reached_any v _).mono ?_
    rintro e w2 ⟨rfl, hb2⟩
    have HV2 := hide ((hb2.block _ (by omega)).trans HV.out)
    have HN2 := hide ((hb2.block _ (by omega)).trans HN.out)
    have hz2 : w.heap.size + 1 < w2.heap.size := by have := hb2.size; omega
    have HB2 := hide (show Below w.heap.size w w2 from HB.out.trans (hb2.mono (by omega)))
    clear hb2 hc HV HN HB
    cases ho : v.ok
    · have H := hide (dotR_no (show dotOk n v = false by simp [dotOk, ho]))
      go_wp2_with fail
      go_ret2
      exact ⟨by rw [H.out]; rfl, HB2.out⟩
    · have H := hide (dotR_yes (show dotOk n v = true by simp [dotOk, ho, hu]))
      obtain ⟨⟨a1, a2⟩, ⟨b1, b2⟩, c1, c2⟩ := inR_of (usable_of hu).1
      obtain ⟨⟨d1, d2, d3⟩, ⟨e1, e2, e3⟩, f1, f2, f3⟩ := ok_of ho
      clear hu ho
      obtain ⟨⟨x1, x2⟩, x3, x4⟩ := mn_bd n.x v.x a1 a2 d1 d2 d3
      obtain ⟨⟨y1, y2⟩, y3, y4⟩ := mn_bd n.y v.y b1 b2 e1 e2 e3
      obtain ⟨⟨z1, z2⟩, z3, z4⟩ := mn_bd n.z v.z c1 c2 f1 f2 f3
      have mx1 : -4398046511104 ≤ mn n.x v.x ∧ mn n.x v.x ≤ 4398046511104 := by unfold mn; omega
      have mx2 : -4398046511104 ≤ mn n.y v.y ∧ mn n.y v.y ≤ 4398046511104 := by unfold mn; omega
      have mx3 : -4398046511104 ≤ mx n.x v.x ∧ mx n.x v.x ≤ 4398046511104 := by unfold mx; omega
      have mx4 : -4398046511104 ≤ mx n.y v.y ∧ mx n.y v.y ≤ 4398046511104 := by unfold mx; omega
      go_wp2_with fail
      go_loopw [6, 7, 8] (fun t u i wr => D2Inv w n v t u i wr) (fun _ _ i _ => 3 - (intOf i).toNat)
      case atStart => exact ⟨0, rfl, by omega, by omega, rfl, rfl, HN2.out, HV2.out, HB2.out, hz2⟩
      case round =>
        clear HN2 HV2 HB2 hz2
        obtain ⟨k, rfl, hk0, hk3, rfl, rfl, jN, jV, jB, jz⟩ := hrel
        have JN := hide jN; have JV := hide jV; have JB := hide jB
        have jlt : w.heap.size < wr.heap.size := by omega
        have hc := blk_cell jN
        have hd := blk_cell jV
        simp only [vcs, ivs] at hc hd
        clear jN jB jV
        obtain rfl | rfl | rfl | rfl : k = 0 ∨ k = 1 ∨ k = 2 ∨ k = 3 := by omega
        · simp only [acc3]
          go_wp2_with fail
          go_quiet (fail)
          go_wp2_with fail
          go_roundw
          case rel => exact ⟨1, rfl, by omega, by omega, rfl, rfl, JN.out, JV.out, below_drewN JB.out _, jz⟩
          case measure => simp [intOf]
        · simp only [acc3]
          go_wp2_with fail
          go_quiet (fail)
          go_wp2_with fail
          go_roundw
          case rel => exact ⟨2, rfl, by omega, by omega, rfl, rfl, JN.out, JV.out, below_drewN JB.out _, jz⟩
          case measure => simp [intOf]
        · simp only [acc3]
          go_wp2_with fail
          go_quiet (fail)
          go_wp2_with fail
          go_roundw
          case rel => exact ⟨3, rfl, by omega, by omega, rfl, rfl, JN.out, JV.out, below_drewN JB.out _, jz⟩
          case measure => simp [intOf]
        · simp only [acc3]
          go_wp2_with fail
          go_ret2
          exact ⟨by rw [H.out]; rfl, JB.out⟩
/-- what Normal returns -/
def normalR (v : V3) : Value := .tuple #[.agg #[.int .i64 (normalF v).x, .int .i64 (normalF v).y, .int .i64 (normalF v).z], .bool (!isZ (normalF v))]
def NInv (w : World) (v : V3) (k : Nat) (wr : World) : Prop :=
  ∃ u : V3, k ≤ 50 ∧ u.ok64 ∧ Within u (16384 * 2 ^ k) ∧ nrm k u = normalF v ∧ wr.heap[w.heap.size]? = some (.cells (vcs u) 47 (0, 0)) ∧ wr.heap[w.heap.size + 1]? = some (.cells (vcs zeroV) 47 (0, 0)) ∧ Below w.heap.size w wr ∧ w.heap.size + 1 < wr.heap.size
theorem halve_ok {u : V3} (h : u.ok64) : (halve u).ok64 := by
  obtain ⟨⟨a, b⟩, ⟨c, d⟩, e, f⟩ := h
  obtain ⟨x1, x2⟩ := tdiv2_bd (a := u.x) (m := 4611686018427387904) (by omega) (by omega)
  obtain ⟨y1, y2⟩ := tdiv2_bd (a := u.y) (m := 4611686018427387904) (by omega) (by omega)
  obtain ⟨z1, z2⟩ := tdiv2_bd (a := u.z) (m := 4611686018427387904) (by omega) (by omega)
  unfold V3.ok64 I64 halve
  simp only
  omega
/-- support.Normal -/
theorem normal_any (v : V3) (w : World) (hv : v.ok64) :
    Calls Try.prog 60 #[.agg #[.int .i64 v.x, .int .i64 v.y, .int .i64 v.z]] w fun e w' => e = .returned (normalR v) ∧ Below w.heap.size w w' := by
  have HV := hide hv; clear hv
  go_enter Try.func60, Try.ntmps60
  go_wp2_with fail
  go_loopg [8] 50 (fun k _ wr => NInv w v k wr)
  case atStart => exact ⟨v, Nat.le_refl _, HV.out, within64 HV.out, rfl, (Below.heap_alloc _ _ _ (by simp)).trans (heap_alloc_new w _), new_at _ _ (by simp), by go_grown, by simp⟩
  case round =>
    obtain ⟨u, hk, hok, hwi, hnr, hN, hZ, hB, hz⟩ := hrel
    have OK := hide hok; have WI := hide hwi; have NR := hide hnr; have HN := hide hN; have HZ := hide hZ; have HB := hide hB
    have hz0 : w.heap.size < wr.heap.size := by omega
    have hc := blk_cell hN
    simp only [vcs] at hc
    clear hok hwi hnr hN hZ hB
    go_wp2_with fail
    refine (inRange_any u _).mono ?_
    rintro e w1 ⟨rfl, hb1⟩
    have hN1 := (hb1.block _ hz0).trans HN.out
    have hZ1 := (hb1.block _ hz).trans HZ.out
    have hzz : w.heap.size + 1 < w1.heap.size := by have := hb1.size; omega
    have hzz0 : w.heap.size < w1.heap.size := by omega
    have HB1 := hide (HB.out.trans (hb1.mono (by omega)))
    have hc1 := blk_cell hN1; have hf1 := blk_frozen hN1
    have hd1 := blk_cell hZ1; have hg1 := blk_frozen hZ1
    have HN1 := hide hN1; have HZ1 := hide hZ1
    simp only [vcs, zeroV] at hc1 hd1
    clear hb1 HN HZ HB hc hN1 hZ1
    cases hr : inR u
    · obtain ⟨k, rfl⟩ : ∃ k, gk = k + 1 := by
        rcases gk with _ | k
        · have := inR_within (by simpa using WI.out : Within u 16384)
          rw [this] at hr; cases hr
        · exact ⟨k, rfl⟩
      obtain ⟨⟨x1, x2⟩, ⟨y1, y2⟩, z1, z2⟩ := halve_ok OK.out
      simp only [halve] at x1 x2 y1 y2 z1 z2
      have HR := hide hr
      go_wp2_with fail
      go_rounds 4
      go_roundg k
      case measure => omega
      case rel =>
        refine ⟨halve u, by omega, halve_ok OK.out, halve_within ?_, ?_, ?_, ?_, ?_, ?_⟩
        · have := WI.out
          rw [show (2 : Int) * (16384 * 2 ^ k) = 16384 * 2 ^ (k + 1) by rw [Int.pow_succ]; omega]
          exact this
        · rw [← NR.out, nrm_not HR.out]
        · exact blk_set (blk_set (blk_set HN1.out 0 _) 1 _) 2 _
        · rw [Below.heap_setCell _ _ _ _ (by simp), Below.heap_setCell _ _ _ _ (by simp), Below.heap_setCell _ _ _ _ (by simp)]
          exact HZ1.out
        · exact ((HB1.out.setCell (by simp) _).setCell (by simp) _).setCell (by simp) _
        · simpa [World.setCell] using hzz
    · have HE := hide (show normalF v = u by rw [← NR.out, nrm_in hr]); clear hr
      go_wp2_with fail
      go_region
      go_wp2_with fail
      refine bodyPost_ret (v := normalR v) (by rw [normalR, HE.out]; simp [results, Try.results60, go_sem, hd1, isZ_eq]) rfl ⟨rfl, ?_⟩
      exact (((HB1.out.setCell (by simp) _).setCell (by simp) _).setCell (by simp) _).drew
def N2Inv (w : World) (v : V3) (t : Value) (wr : World) : Prop :=
  ∃ j : Nat, j ≤ 50 ∧ t = .int .i64 (2 ^ j) ∧ (∀ i, i < j → inR (divV v (2 ^ i)) = false) ∧ wr.heap[w.heap.size]? = some (.cells (vcs v) 47 (0, 0)) ∧ wr.heap[w.heap.size + 1]? = some (.cells (vcs zeroV) 47 (0, 0)) ∧ Below w.heap.size w wr ∧ w.heap.size + 1 < wr.heap.size
theorem pow_bd {j : Nat} (h : j ≤ 50) : (1 : Int) ≤ 2 ^ j ∧ (2 : Int) ^ j ≤ 1125899906842624 := by
  have a : (0 : Int) < 2 ^ j := Int.pow_pos (by omega)
  have := Nat.pow_le_pow_right (n := 2) (by omega) h
  have h : ((2 ^ j : Nat) : Int) ≤ ((2 ^ 50 : Nat) : Int) := by exact_mod_cast this
  rw [Int.natCast_pow, Int.natCast_pow] at h
  exact ⟨by omega, by simpa using h⟩
theorem divV_bd {v : V3} (h : v.ok64) {s : Int} (hs : 1 ≤ s) : (divV v s).ok64 := by
  have key : ∀ a : Int, I64 a → I64 (a.tdiv s) := fun a ha => by
    obtain ⟨h1, h2⟩ := ha
    rcases Int.le_total 0 a with h0 | h0
    · have := tdiv_bd a s (by omega) h0
      constructor <;> omega
    · have := tdiv_bd (-a) s (by omega) (by omega)
      rw [Int.neg_tdiv] at this
      constructor <;> omega
  exact ⟨key _ h.1, key _ h.2.1, key _ h.2.2⟩
/-- armplanref10.Normal -/
theorem normal_ref (v : V3) (w : World) (hv : v.ok64) :
    Calls Try.prog 111 #[.agg #[.int .i64 v.x, .int .i64 v.y, .int .i64 v.z]] w fun e w' => e = .returned (normalR v) ∧ Below w.heap.size w w' := by
  cases hz : isZ v
  · have hz' : eqV ⟨v.x, v.y, v.z⟩ ⟨0, 0, 0⟩ = false := hz
    have HZ := hide hz; have HV := hide hv
    clear hz hv
    go_enter Try.func111, Try.ntmps111
    go_wp2_with fail
    go_loopw [4] (fun t wr => N2Inv w v t wr) (fun t _ => (2251799813685248 - intOf t).toNat)
    case atStart => exact ⟨0, by omega, rfl, fun i h => absurd h (by omega), (Below.heap_alloc _ _ _ (by simp)).trans (heap_alloc_new w _), new_at _ _ (by simp), by go_grown, by simp⟩
    case round =>
      clear hz'
      obtain ⟨j, hj, rfl, hno, hN, hZ, hB, hz⟩ := hrel
      obtain ⟨s, hs⟩ : ∃ s : Int, s = 2 ^ j := ⟨_, rfl⟩
      have hsb := pow_bd hj
      rw [← hs] at hsb ⊢
      obtain ⟨s1, s2⟩ := hsb
      have hne : (s == 0) = false := by simp; omega
      have HS := hide hs; have NO := hide hno; have HN := hide hN; have HZr := hide hZ; have HB := hide hB
      have hz0 : w.heap.size < wr.heap.size := by omega
      have hc := blk_cell hN
      simp only [vcs] at hc
      obtain ⟨⟨x1, x2⟩, ⟨y1, y2⟩, z1, z2⟩ := divV_bd HV.out s1
      simp only [divV] at x1 x2 y1 y2 z1 z2
      clear hno hN hZ hB hs
      go_wp2_with fail
      go_region
      go_wp2_with fail
      refine (near_any (divV v s) 16384 _ (by omega) (by omega)).mono ?_
      rintro e w1 ⟨rfl, hb1⟩
      have hN1 := (hb1.block _ (by simp; omega)).trans ((Below.heap_alloc wr _ _ hz0).trans HN.out)
      have hZ1 := (hb1.block _ (by simp; omega)).trans ((Below.heap_alloc wr _ _ hz).trans HZr.out)
      have hX1 : w1.heap[wr.heap.size]? = some (.cells #[.int .i64 (v.x.tdiv s), .int .i64 (v.y.tdiv s), .int .i64 (v.z.tdiv s)] 47 (0, 0)) := (hb1.block _ (by simp)).trans (heap_alloc_new wr _)
      have hzz : w.heap.size + 1 < w1.heap.size := by have := hb1.size; simp at this; omega
      have hzx : wr.heap.size < w1.heap.size := by have := hb1.size; simp at this; omega
      have HB1 := hide (show Below w.heap.size w w1 from ((HB.out.alloc (by omega) _).drew).trans (hb1.mono (by simp; omega)))
      have hd1 := blk_cell hZ1; have hg1 := blk_frozen hZ1
      have hx1 := blk_cell hX1
      have HN1 := hide hN1; have HZ1 := hide hZ1
      simp only [vcs, zeroV] at hd1
      clear hb1 HN HZr HB hc hN1 hZ1 hX1
      cases hr : nearB 16384 (divV v s)
      · have hj50 : j < 50 := by
          rcases Nat.lt_or_ge j 50 with h | h
          · exact h
          · have := divV_in v HV.out j h
            rw [← HS.out] at this
            have e : nearB 16384 (divV v s) = inR (divV v s) := rfl
            rw [e, this] at hr
            cases hr
        have HR := hide hr; clear hr hd1 hg1 hx1
        go_wp2_with fail
        go_roundw
        case rel => exact ⟨j + 1, by omega, by rw [HS.out, Int.pow_succ], fun i hi => by
          rcases Nat.lt_or_ge i j with h | h
          · exact NO.out i h
          · obtain rfl : i = j := by omega
            rw [← HS.out]; exact HR.out, HN1.out, HZ1.out, HB1.out, hzz⟩
        case measure => simp [intOf]; omega
      · have e1 : normalF v = divV v s := by
          rw [← divV_found v j hj NO.out, ← HS.out]
          exact nrm_in hr _
        have e2 : isZ (divV v s) = false := by rw [← e1]; exact nrm_isZ 50 v HZ.out
        have HE := hide (show normalR v = .tuple #[.agg #[.int .i64 (v.x.tdiv s), .int .i64 (v.y.tdiv s), .int .i64 (v.z.tdiv s)], .bool true] by rw [normalR, e1, e2]; rfl)
        clear hr e1 e2
        go_wp2_with fail
        refine bodyPost_ret (v := normalR v) (by rw [HE.out]; simp [results, Try.results111, go_sem, hd1]) rfl ⟨rfl, ?_⟩
        exact ((HB1.out.setCell (by simp) _).setCell (by simp) _).setCell (by simp) _
  · have hz' : eqV ⟨v.x, v.y, v.z⟩ ⟨0, 0, 0⟩ = true := hz
    obtain ⟨e1, e2, e3⟩ := isZ_of hz
    obtain ⟨x, y, z⟩ := v
    simp only at e1 e2 e3
    subst e1 e2 e3
    clear hz hv
    go_enter Try.func111, Try.ntmps111
    go_wp2_with fail
    refine bodyPost_ret (v := normalR ⟨0, 0, 0⟩) (by simp [results, Try.results111, go_sem]; rfl) rfl ⟨rfl, ?_⟩
    go_grown
end Go.Proofs.Ytionbckpgfaneaa
