/- Walks, part u: roots. -/
import Derived.Test.YtionbckpgfaneaaWs
import Derived.Lib.Strings
import Derived.Lib.Slices
import Derived.Lib.Small
import Derived.Lib.Walk
import Derived.Lib.BitFns
namespace Go.Proofs.Ytionbckpgfaneaa
open Go.RowKit
set_option maxRecDepth 100000
set_option maxHeartbeats 1000000
theorem bl_lt (f : Nat) : ∀ x, x < 2 ^ f → x < 2 ^ Lib.bitLenAux f x := by
  induction f with
  | zero => intro x h; simpa [Lib.bitLenAux] using h
  | succ f ih =>
    intro x h
    simp only [Lib.bitLenAux]
    split
    · rename_i h0; subst h0; simp
    · have := ih (x / 2) (by rw [Nat.pow_succ] at h; omega)
      rw [Nat.add_comm 1, Nat.pow_succ]
      omega
theorem bl_le (f : Nat) : ∀ x k, x < 2 ^ k → Lib.bitLenAux f x ≤ k := by
  induction f with
  | zero => intro x k _; simp [Lib.bitLenAux]
  | succ f ih =>
    intro x k h
    simp only [Lib.bitLenAux]
    split
    · omega
    · cases k with
      | zero => simp at h; omega
      | succ k =>
        have := ih (x / 2) k (by rw [Nat.pow_succ] at h; omega)
        omega
def LenPost (x : Int) (w : World) (e : Ending) (w' : World) : Prop := ∃ L : Nat, e = .returned (.int .i64 L) ∧ x < 2 ^ L ∧ L ≤ 30 ∧ w' = w
/-- bits.Len64, below 2^30 -/
theorem len64_any (x : Int) (w : World) (h0 : 0 ≤ x) (h1 : x ≤ 1000000000) :
    Calls Try.prog 175 #[.int .u64 x] w (LenPost x w) := by
  have key : Calls Try.prog 175 #[.int .u64 x] w fun e w' => e = .returned (.int .i64 (Lib.bitLen x.toNat)) ∧ w' = w := by
    by_cases c1 : 65536 ≤ x
    · by_cases c2 : 256 ≤ x / 65536
      · have a0 : 0 ≤ x / 65536 / 256 := by omega
        have a1 : x / 65536 / 256 ≤ 255 := by omega
        have e8 := Lib.len8_eq ⟨(x / 65536 / 256).toNat, by omega⟩
        have l8 := Lib.bitLen_le8 ⟨(x / 65536 / 256).toNat, by omega⟩
        simp only [Int.toNat_of_nonneg a0] at e8
        simp only at l8
        have b0 : 0 ≤ Lib.len8 (x / 65536 / 256) := by omega
        have b1 : Lib.len8 (x / 65536 / 256) ≤ 8 := by omega
        have E8 := hide e8; clear e8 l8
        have hru := Lib.run_index_len8tab (P := Try.prog) w 9 .u8 (x / 65536 / 256) Try.underlying9 a0 a1
        go_enter Try.func175, Try.ntmps175
        go_wp2
        go_ret
        refine ⟨ret_int ?_, rfl⟩
        rw [E8.out]
        have e : (x / 65536 / 256).toNat = x.toNat / 16777216 := by omega
        have s := Lib.bitLen_shift24 x.toNat (by omega) (by omega)
        rw [e]
        omega
      · have a0 : 0 ≤ x / 65536 := by omega
        have a1 : x / 65536 ≤ 255 := by omega
        have e8 := Lib.len8_eq ⟨(x / 65536).toNat, by omega⟩
        have l8 := Lib.bitLen_le8 ⟨(x / 65536).toNat, by omega⟩
        simp only [Int.toNat_of_nonneg a0] at e8
        simp only at l8
        have b0 : 0 ≤ Lib.len8 (x / 65536) := by omega
        have b1 : Lib.len8 (x / 65536) ≤ 8 := by omega
        have E8 := hide e8; clear e8 l8
        have hru := Lib.run_index_len8tab (P := Try.prog) w 9 .u8 (x / 65536) Try.underlying9 a0 a1
        go_enter Try.func175, Try.ntmps175
        go_wp2
        go_ret
        refine ⟨ret_int ?_, rfl⟩
        rw [E8.out]
        have e : (x / 65536).toNat = x.toNat / 65536 := by omega
        have s := Lib.bitLen_shift16 x.toNat (by omega) (by omega)
        rw [e]
        omega
    · by_cases c2 : 256 ≤ x
      · have a0 : 0 ≤ x / 256 := by omega
        have a1 : x / 256 ≤ 255 := by omega
        have e8 := Lib.len8_eq ⟨(x / 256).toNat, by omega⟩
        have l8 := Lib.bitLen_le8 ⟨(x / 256).toNat, by omega⟩
        simp only [Int.toNat_of_nonneg a0] at e8
        simp only at l8
        have b0 : 0 ≤ Lib.len8 (x / 256) := by omega
        have b1 : Lib.len8 (x / 256) ≤ 8 := by omega
        have E8 := hide e8; clear e8 l8
        have hru := Lib.run_index_len8tab (P := Try.prog) w 9 .u8 (x / 256) Try.underlying9 a0 a1
        go_enter Try.func175, Try.ntmps175
        go_wp2
        go_ret
        refine ⟨ret_int ?_, rfl⟩
        rw [E8.out]
        have e : (x / 256).toNat = x.toNat / 256 := by omega
        have s := Lib.bitLen_shift8 x.toNat (by omega) (by omega)
        rw [e]
        omega
      · have a0 : 0 ≤ x := by omega
        have a1 : x ≤ 255 := by omega
        have e8 := Lib.len8_eq ⟨(x).toNat, by omega⟩
        have l8 := Lib.bitLen_le8 ⟨(x).toNat, by omega⟩
        simp only [Int.toNat_of_nonneg a0] at e8
        simp only at l8
        have b0 : 0 ≤ Lib.len8 (x) := by omega
        have b1 : Lib.len8 (x) ≤ 8 := by omega
        have E8 := hide e8; clear e8 l8
        have hru := Lib.run_index_len8tab (P := Try.prog) w 9 .u8 (x) Try.underlying9 a0 a1
        go_enter Try.func175, Try.ntmps175
        go_wp2
        go_ret
        refine ⟨ret_int ?_, rfl⟩
        rw [E8.out]
  refine key.mono ?_
  rintro e w' ⟨rfl, rfl⟩
  have a := bl_lt 64 x.toNat (by omega)
  refine ⟨_, rfl, ?_, bl_le 64 x.toNat 30 (by omega), rfl⟩
  have : ((x.toNat : Nat) : Int) < ((2 ^ Lib.bitLen x.toNat : Nat) : Int) := by exact_mod_cast a
  rw [Int.natCast_pow] at this
  simpa [Int.toNat_of_nonneg h0] using this
/-- the root rounded down -/
def IsRoot (n r : Int) : Prop := 0 ≤ r ∧ r * r ≤ n ∧ n < (r + 1) * (r + 1)
def RootPost (n : Int) (w : World) (e : Ending) (w' : World) : Prop := ∃ r : Int, IsRoot n r ∧ e = .returned (.int .i64 r) ∧ ∃ m, w' = w.drewN m
theorem pow_sq (W : Nat) : (2 : Int) ^ W * 2 ^ W = 2 ^ (2 * W) := by rw [← Int.pow_add]; congr 1; omega
def RootInv (n : Int) (W : Nat) (t u i : Value) : Prop := ∃ (k : Nat) (r : Int), k ≤ W ∧ i = .int .i64 k ∧ t = .int .u64 r ∧ u = .int .u64 (2 ^ (W - k)) ∧ 0 ≤ r ∧ r * r ≤ n ∧ n < (r + 2 ^ (W - k)) * (r + 2 ^ (W - k))
theorem le_of_sq32 {r : Int} (h : r * r ≤ 1000000000) : r ≤ 32768 := by
  rcases Int.le_total r 32768 with h1 | h1
  · exact h1
  · have := sq_le (show (0 : Int) ≤ 32768 by omega) h1
    omega
theorem pow_half {W k : Nat} (h : k < W) (hW : W ≤ 15) : ∃ s : Int, 2 ^ (W - k) = 2 * s ∧ 1 ≤ s ∧ s ≤ 16384 := by
  refine ⟨2 ^ (W - k - 1), ?_, ?_, ?_⟩
  · rw [show W - k = W - k - 1 + 1 by omega, Int.pow_succ, Nat.add_sub_cancel]; omega
  · have : (0 : Int) < 2 ^ (W - k - 1) := Int.pow_pos (by omega)
    omega
  · have := Nat.pow_le_pow_right (n := 2) (by omega) (show W - k - 1 ≤ 14 by omega)
    have h : ((2 ^ (W - k - 1) : Nat) : Int) ≤ ((2 ^ 14 : Nat) : Int) := by exact_mod_cast this
    simpa [Int.natCast_pow] using h
theorem root_any (n : Int) (w : World) (h0 : 1 ≤ n) (h1 : n ≤ 1000000000) :
    Calls Try.prog 146 #[.int .i64 n] w (RootPost n w) := by
  go_enter Try.func146, Try.ntmps146
  go_wp2_with fail
  refine (len64_any n _ (by omega) h1).mono ?_
  rintro e w1 ⟨L, rfl, hL, hL30, rfl⟩
  have HL := hide hL; clear hL
  go_wp2_with fail
  obtain ⟨W, hW⟩ : ∃ W : Nat, ((L : Int) + 1) / 2 = W := ⟨(L + 1) / 2, by omega⟩
  rw [hW]
  have hW15 : W ≤ 15 := by omega
  have HW := hide hW; clear hW
  go_quiet (fail)
  go_wp2_with fail
  have hp : IntKind.u64.wrap (2 ^ W) = 2 ^ W := by
    have e : (2 : Int) ^ W ≤ 2 ^ 15 := by
      have := Nat.pow_le_pow_right (n := 2) (by omega) hW15
      have h : ((2 ^ W : Nat) : Int) ≤ ((2 ^ 15 : Nat) : Int) := by exact_mod_cast this
      simpa [Int.natCast_pow] using h
    have e0 : (0 : Int) < 2 ^ W := Int.pow_pos (by omega)
    rw [IntKind.wrap_u64]
    omega
  rw [hp]
  have hn4 : n < 2 ^ W * 2 ^ W := by
    rw [pow_sq]
    have : L ≤ 2 * W := by have := HW.out; omega
    have := Nat.pow_le_pow_right (n := 2) (by omega) this
    have h : ((2 ^ L : Nat) : Int) ≤ ((2 ^ (2 * W) : Nat) : Int) := by exact_mod_cast this
    rw [Int.natCast_pow, Int.natCast_pow] at h
    exact Int.lt_of_lt_of_le HL.out h
  have H4 := hide hn4; clear hn4 hp
  go_loop [4, 5, 17] (fun t u i => RootInv n W t u i) (fun _ _ i => W - (intOf i).toNat)
  case atStart => exact ⟨0, 0, by omega, rfl, rfl, by simp, by omega, by omega, by simpa using H4.out⟩
  case round =>
    obtain ⟨k, r, hk, rfl, rfl, rfl, hr0, hrn, hlt⟩ := hrel
    have hr1 : r ≤ 32768 := le_of_sq32 (by omega)
    by_cases hkW : k < W
    · obtain ⟨s, hs, hs0, hs1⟩ := pow_half hkW hW15
      rw [hs] at hlt ⊢
      have HS := hide hs
      have HLT := hide hlt
      have mb := mul_bd (r + s) (r + s) 65536 65536 (by omega) (by omega) (by omega) (by omega)
      have mp := sq_nn (r + s)
      have HK := hide (show s = 2 ^ (W - (k + 1)) by rw [show W - k = W - (k + 1) + 1 by omega, Int.pow_succ] at hs; omega)
      clear hs hlt
      have h2 : (2 * s) / 2 = s := by omega
      by_cases hc : (r + s) * (r + s) ≤ n
      · go_wp2
        go_round
        case rel => exact ⟨k + 1, r + s, by omega, by simp, rfl, by rw [← HK.out], by omega, hc, by rw [← HK.out]; have := HLT.out; rw [show r + s + s = r + 2 * s by omega]; exact this⟩
        case measure => simp [intOf] <;> omega
      · go_wp2
        go_round
        case rel => exact ⟨k + 1, r, by omega, by simp, rfl, by rw [← HK.out], by omega, hrn, by rw [← HK.out]; omega⟩
        case measure => simp [intOf] <;> omega
    · obtain rfl : k = W := by omega
      rw [Nat.sub_self, Int.pow_zero] at hlt ⊢
      have HLT := hide hlt; clear hlt
      go_wp2
      go_ret
      exact ⟨r, ⟨hr0, hrn, HLT.out⟩, rfl, _, rfl⟩
theorem rootUp_of {n r : Int} (h : IsRoot n r) : (r * r < n → IsRootUp n (r + 1)) ∧ (¬ r * r < n → IsRootUp n r) := by
  obtain ⟨h1, h2, h3⟩ := h
  constructor
  · intro h
    exact ⟨by omega, by omega, fun _ => by rw [show r + 1 - 1 = r by omega]; exact h⟩
  · intro h
    refine ⟨h1, by omega, fun hr => ?_⟩
    have e : (r - 1) * (r - 1) = r * r - 2 * r + 1 := by grind
    omega
/-- fixed.RootUp -/
theorem rootUp_any (n : Int) (w : World) (h0 : 1 ≤ n) (h1 : n ≤ 1000000000) :
    Calls Try.prog 113 #[.int .i64 n] w fun e w' => e = .returned (.int .i64 (rootUp n)) ∧ ∃ m, w' = w.drewN m := by
  go_enter Try.func113, Try.ntmps113
  go_wp2_with fail
  refine (root_any n _ h0 h1).mono ?_
  rintro e w1 ⟨r, hr, rfl, m, rfl⟩
  obtain ⟨u1, u2⟩ := rootUp_of hr
  obtain ⟨r0, r1, r2⟩ := hr
  have hr1 : r ≤ 32768 := le_of_sq32 (by omega)
  have mb := mul_bd r r 32768 32768 (by omega) (by omega) (by omega) (by omega)
  by_cases hc : r * r < n
  · have H := hide (rootUp_eq (u1 hc)); clear u1 u2 r2
    go_wp2
    go_ret
    exact ⟨ret_int H.out.symm, m, rfl⟩
  · have H := hide (rootUp_eq (u2 hc)); clear u1 u2 r2
    go_wp2
    go_ret
    exact ⟨ret_int H.out.symm, m, rfl⟩
def RootInv2 (n : Int) (t u : Value) : Prop := ∃ a b : Int, t = .int .i64 a ∧ u = .int .i64 b ∧ 1 ≤ a ∧ a < b ∧ b ≤ 4294967296 ∧ a * a ≤ n ∧ n < b * b
/-- armplanref1.Root -/
theorem root_ref (n : Int) (w : World) (h0 : 1 ≤ n) (h1 : n ≤ 1000000000) :
    Calls Try.prog 155 #[.int .i64 n] w fun e w' => ∃ r, IsRoot n r ∧ e = .returned (.int .i64 r) ∧ w = w' := by
  go_enter Try.func155, Try.ntmps155
  go_wp2_with fail
  go_loop [3, 4] (fun t u => RootInv2 n t u) (fun t u => (intOf u - intOf t).toNat)
  case atStart => exact ⟨1, 4294967296, rfl, rfl, by omega, by omega, by omega, by omega, by omega⟩
  case round =>
    obtain ⟨a, b, rfl, rfl, ha, hab, hb, hl, hr⟩ := hrel
    by_cases hd : 1 < b - a
    · obtain ⟨m, hm⟩ : ∃ m, m = a + (b - a) / 2 := ⟨_, rfl⟩
      have hm1 : 1 ≤ m := by omega
      have ham : a < m := by omega
      have hmb : m < b := by omega
      have hne : (m == 0) = false := by simp; omega
      have q0 : 0 ≤ n / m := Int.ediv_nonneg (by omega) (by omega)
      have q1 : n / m ≤ n := Int.ediv_le_self _ (by omega)
      have hiff := Int.le_ediv_iff_mul_le (a := m) (b := n) (c := m) (by omega)
      have HM := hide hm
      have hmm : a + (b - a) / 2 = m := hm.symm
      clear hm
      by_cases hc : m * m ≤ n
      · have hc' : m ≤ n / m := hiff.2 hc
        have HC := hide hc; have HR := hide hr; clear hc hr hl hiff
        go_wp2
        go_round
        case rel => exact ⟨m, b, rfl, rfl, by omega, by omega, by omega, HC.out, HR.out⟩
        case measure => simp [intOf]; omega
      · have hc' : ¬ m ≤ n / m := fun h => hc (hiff.1 h)
        have HC := hide (show n < m * m by omega); have HL := hide hl; clear hc hr hl hiff
        go_wp2
        go_round
        case rel => exact ⟨a, m, rfl, rfl, by omega, by omega, by omega, HL.out, HC.out⟩
        case measure => simp [intOf]; omega
    · have hba : b = a + 1 := by omega
      have HR := hide (show n < (a + 1) * (a + 1) by rw [← hba]; exact hr); have HL := hide hl
      clear hr hl hba
      go_wp2
      go_ret
      exact ⟨a, ⟨by omega, HL.out, HR.out⟩, rfl, rfl⟩
/-- armplanref1.RootUp -/
theorem rootUp_ref (n : Int) (w : World) (h0 : 1 ≤ n) (h1 : n ≤ 1000000000) :
    Calls Try.prog 124 #[.int .i64 n] w fun e w' => e = .returned (.int .i64 (rootUp n)) ∧ w = w' := by
  go_enter Try.func124, Try.ntmps124
  go_wp2_with fail
  refine (root_ref n _ h0 h1).mono ?_
  rintro e w1 ⟨r, hr, rfl, rfl⟩
  obtain ⟨u1, u2⟩ := rootUp_of hr
  obtain ⟨r0, r1, r2⟩ := hr
  have hr1 : r ≤ 32768 := le_of_sq32 (by omega)
  have mb := mul_bd r r 32768 32768 (by omega) (by omega) (by omega) (by omega)
  by_cases hc : r * r < n
  · have H := hide (rootUp_eq (u1 hc)); clear u1 u2 r2
    go_wp2
    go_ret
    exact ⟨ret_int H.out.symm, rfl⟩
  · have H := hide (rootUp_eq (u2 hc)); clear u1 u2 r2
    go_wp2
    go_ret
    exact ⟨ret_int H.out.symm, rfl⟩
end Go.Proofs.Ytionbckpgfaneaa
