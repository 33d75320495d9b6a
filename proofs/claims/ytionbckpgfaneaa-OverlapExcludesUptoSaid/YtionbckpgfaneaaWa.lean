/- Walks, part a: numbers and intervals. Each theorem says what one function of the program or of the references returns, and that nothing old is written. -/
import Derived.Test.YtionbckpgfaneaaProg
import Derived.Test.YtionbckpgfaneaaPlain
import Derived.WalkSpells
import Derived.WalkLawsBesides
import Derived.Handy
namespace Go.Proofs.Ytionbckpgfaneaa
open Go.RowKit
set_option maxHeartbeats 400000
set_option maxRecDepth 100000

/-- armplanmake.Round -/
theorem round_any (n k : Int) (w : World) (hk : 0 < k) (hk2 : k ≤ 9223372036854775807) :
    Calls Try.prog 50 #[.int .i64 n, .int .i64 k] w fun e w' => e = .returned (.int .i64 (n % k)) ∧ w = w' := by
  have hne : (k == 0) = false := by simp; omega
  have h1 := Int.emod_nonneg n (b := k) (by omega)
  have h2 := Int.emod_lt_of_pos n hk
  rcases tmod_cases n k hk with ⟨h, H⟩ | ⟨h, H⟩
  · have hb : -9223372036854775808 ≤ n.tmod k := by omega
    go_enter Try.func50, Try.ntmps50
    go_wp2
    go_ret
    exact ⟨rfl, rfl⟩
  · go_enter Try.func50, Try.ntmps50
    go_wp2
    go_ret
    exact ⟨rfl, rfl⟩

def clampF (a : Int) : Int := max (-2147483648) (min a 2147483648)
/-- armplanref1.Clamp -/
theorem clamp_any (a : Int) (w : World) :
    Calls Try.prog 153 #[.int .i64 a] w fun e w' => e = .returned (.int .i64 (clampF a)) ∧ w = w' := by
  go_enter Try.func153, Try.ntmps153
  go_wp2
  all_goals
    go_ret
    exact ⟨ret_int (by unfold clampF; omega), rfl⟩

def Iv.valid (x : Iv) : Bool := decide (-2147483648 ≤ x.lo ∧ x.lo ≤ x.hi ∧ x.hi ≤ 2147483648)
/-- armplanref1.Valid -/
theorem valid_any (a : Iv) (w : World) :
    Calls Try.prog 151 #[.agg #[.int .i64 a.lo, .int .i64 a.hi]] w fun e w' => e = .returned (.bool a.valid) ∧ Below w.heap.size w w' := by
  go_enter Try.func151, Try.ntmps151
  go_wp2
  all_goals
    go_ret
    refine ⟨ret_bool (by rw [Bool.eq_iff_iff]; simp [Iv.valid]; omega), ?_⟩
    go_grown
/-- interval.Valid -/
theorem valid2_any (a : Iv) (w : World) :
    Calls Try.prog 180 #[.agg #[.int .i64 a.lo, .int .i64 a.hi]] w fun e w' => e = .returned (.bool a.valid) ∧ Below w.heap.size w w' := by
  go_enter Try.func180, Try.ntmps180
  go_wp2
  all_goals
    go_ret
    refine ⟨ret_bool (by rw [Bool.eq_iff_iff]; simp [Iv.valid]; omega), ?_⟩
    go_grown
/-- armplanref1.Floor -/
theorem floor_any (a b : Int) (w : World) (ha : I64 a) (hb : 0 < b) :
    Calls Try.prog 182 #[.int .i64 a, .int .i64 b] w fun e w' => e = .returned (.int .i64 (a / b)) ∧ w = w' := by
  obtain ⟨ha1, ha2⟩ := ha
  have hne : (b == 0) = false := by simp; omega
  by_cases h : a.tmod b < 0
  · have H := hide (floor_down a b hb h)
    obtain ⟨h3, h4⟩ := tdiv_down_bd a b hb h
    go_enter Try.func182, Try.ntmps182
    go_wp2
    go_ret
    exact ⟨ret_int H.out, rfl⟩
  · have H := hide (floor_on a b hb h)
    go_enter Try.func182, Try.ntmps182
    go_wp2
    go_ret
    exact ⟨ret_int H.out, rfl⟩
def ceilF (a b : Int) : Int := -((-a) / b)
/-- armplanref1.Ceil -/
theorem ceil_any (a b : Int) (w : World) (ha : I64 a) (hb : 0 < b) :
    Calls Try.prog 54 #[.int .i64 a, .int .i64 b] w fun e w' => e = .returned (.int .i64 (ceilF a b)) ∧ w = w' := by
  obtain ⟨ha1, ha2⟩ := ha
  have hne : (b == 0) = false := by simp; omega
  by_cases h : 0 < a.tmod b
  · have H := hide (ceil_up a b hb h)
    obtain ⟨h3, h4⟩ := tdiv_up_bd a b hb h
    have h5 : 0 < a % b := by rw [← Int.tmod_eq_emod_of_nonneg (by omega)]; exact h
    go_enter Try.func54, Try.ntmps54
    go_wp2
    go_ret
    exact ⟨ret_int H.out, rfl⟩
  · have H := hide (ceil_on a b hb h)
    go_enter Try.func54, Try.ntmps54
    go_wp2
    go_ret
    exact ⟨ret_int H.out, rfl⟩
/-- overlap.isRadius -/
theorem isRadius_any (r : Int) (w : World) :
    Calls Try.prog 104 #[.int .i64 r] w fun e w' => e = .returned (.bool (decide (0 ≤ r ∧ r ≤ 1048576))) ∧ w = w' := by
  go_enter Try.func104, Try.ntmps104
  go_wp2
  all_goals
    go_ret
    exact ⟨ret_bool (by rw [Bool.eq_iff_iff]; simp; omega), rfl⟩
/-- armplanref14.radius -/
theorem radius_ref (r : Int) (w : World) :
    Calls Try.prog 141 #[.int .i64 r] w fun e w' => e = .returned (.bool (decide (0 ≤ r ∧ r ≤ 1048576))) ∧ w = w' := by
  go_enter Try.func141, Try.ntmps141
  go_wp2
  all_goals
    go_ret
    exact ⟨ret_bool (by rw [Bool.eq_iff_iff]; simp; omega), rfl⟩
/-- normals.isRadius -/
theorem isRadius2_any (r : Int) (w : World) :
    Calls Try.prog 173 #[.int .i64 r] w fun e w' => e = .returned (.bool (decide (0 ≤ r ∧ r ≤ 1048576))) ∧ w = w' := by
  go_enter Try.func173, Try.ntmps173
  go_wp2
  all_goals
    go_ret
    exact ⟨ret_bool (by rw [Bool.eq_iff_iff]; simp; omega), rfl⟩
/-- armplanref14.size -/
theorem size_any (a : Int) (w : World) (h : -9223372036854775807 ≤ a) (h2 : a ≤ 9223372036854775807) :
    Calls Try.prog 142 #[.int .i64 a] w fun e w' => e = .returned (.int .i64 (max a (-a))) ∧ w = w' := by
  go_enter Try.func142, Try.ntmps142
  go_wp2
  all_goals
    go_ret
    exact ⟨ret_int (by omega), rfl⟩
theorem and3 (r : Int) : ∃ j : Nat, j < 4 ∧ bits .and .i64 r 3 = (j : Int) := by
  have h : (BitVec.ofInt 64 r &&& BitVec.ofInt 64 3).toNat < 4 := by
    rw [BitVec.toNat_and]
    have e : (BitVec.ofInt 64 3).toNat = 2 ^ 2 - 1 := by decide
    rw [e, Nat.and_two_pow_sub_one_eq_mod]
    omega
  refine ⟨_, h, ?_⟩
  show IntKind.i64.wrap ((BitVec.ofInt 64 r &&& BitVec.ofInt 64 3).toNat : Int) = _
  generalize (BitVec.ofInt 64 r &&& BitVec.ofInt 64 3).toNat = m at *
  rw [IntKind.wrap_i64]
  omega
def sel4 (a b c d : Int) (j : Int) : Int := if j = 0 then a else if j = 1 then b else if j = 2 then c else d
def radOf (s : Int) (a b c d : Int) (r : Int) : Int := (r / s) % sel4 a b c d (bits .and .i64 r 3)
theorem radOf_bd (s a b c d r : Int) (ha : 0 < a) (hb : 0 < b) (hc : 0 < c) (hd : 0 < d) (hab : a ≤ d) (hbb : b ≤ d) (hcb : c ≤ d) : 0 ≤ radOf s a b c d r ∧ radOf s a b c d r < d := by
  unfold radOf
  have hp : 0 < sel4 a b c d (bits .and .i64 r 3) ∧ sel4 a b c d (bits .and .i64 r 3) ≤ d := by
    unfold sel4; split
    · omega
    · split
      · omega
      · split <;> omega
  exact ⟨Int.emod_nonneg _ (by omega), Int.lt_of_lt_of_le (Int.emod_lt_of_pos _ hp.1) hp.2⟩
theorem index114 (a b c d : Int) (r : Int) (w : World) : (Instr.index 114 (.agg #[.int .i64 a, .int .i64 b, .int .i64 c, .int .i64 d]) (.int .i64 (bits .and .i64 r 3))).run Try.prog w = .ok (.int .i64 (sel4 a b c d (bits .and .i64 r 3))) w := by
  obtain ⟨j, hj, e⟩ := and3 r
  rw [e]
  have k0 : (Instr.index 114 (.agg #[.int .i64 a, .int .i64 b, .int .i64 c, .int .i64 d]) (.int .i64 0)).run Try.prog w = .ok (.int .i64 a) w := by kernel_rfl
  have k1 : (Instr.index 114 (.agg #[.int .i64 a, .int .i64 b, .int .i64 c, .int .i64 d]) (.int .i64 1)).run Try.prog w = .ok (.int .i64 b) w := by kernel_rfl
  have k2 : (Instr.index 114 (.agg #[.int .i64 a, .int .i64 b, .int .i64 c, .int .i64 d]) (.int .i64 2)).run Try.prog w = .ok (.int .i64 c) w := by kernel_rfl
  have k3 : (Instr.index 114 (.agg #[.int .i64 a, .int .i64 b, .int .i64 c, .int .i64 d]) (.int .i64 3)).run Try.prog w = .ok (.int .i64 d) w := by kernel_rfl
  obtain rfl | rfl | rfl | rfl : j = 0 ∨ j = 1 ∨ j = 2 ∨ j = 3 := by omega
  · exact k0
  · exact k1
  · exact k2
  · exact k3
/-- armplanlaw16.radius -/
theorem radius16_any (r : Int) (w : World) (h : I64 r) :
    Calls Try.prog 45 #[.int .i64 r] w fun e w' => e = .returned (.int .i64 (radOf 4 1 30000 200000 1048577 r)) ∧ w = w' := by
  obtain ⟨h1, h2⟩ := h
  have hi := index114 1 30000 200000 1048577 r
  have hp : 0 < sel4 1 30000 200000 1048577 (bits .and .i64 r 3) ∧ sel4 1 30000 200000 1048577 (bits .and .i64 r 3) ≤ 9223372036854775807 := by
    unfold sel4; split
    · omega
    · split
      · omega
      · split <;> omega
  obtain ⟨p1, p2⟩ := hp
  go_enter Try.func45, Try.ntmps45
  go_wp2_with (go_at_call 50; refine (round_any _ _ _ p1 p2).mono ?_; rintro e w' ⟨rfl, rfl⟩)
  go_ret
  exact ⟨rfl, rfl⟩
/-- armplanlaw15.radius -/
theorem radius15_any (r : Int) (w : World) (h : I64 r) :
    Calls Try.prog 69 #[.int .i64 r] w fun e w' => e = .returned (.int .i64 (radOf 4 1 9000 70000 1048577 r)) ∧ w = w' := by
  obtain ⟨h1, h2⟩ := h
  have hi := index114 1 9000 70000 1048577 r
  have hp : 0 < sel4 1 9000 70000 1048577 (bits .and .i64 r 3) ∧ sel4 1 9000 70000 1048577 (bits .and .i64 r 3) ≤ 9223372036854775807 := by
    unfold sel4; split
    · omega
    · split
      · omega
      · split <;> omega
  obtain ⟨p1, p2⟩ := hp
  go_enter Try.func69, Try.ntmps69
  go_wp2_with (go_at_call 50; refine (round_any _ _ _ p1 p2).mono ?_; rintro e w' ⟨rfl, rfl⟩)
  go_ret
  exact ⟨rfl, rfl⟩
/-- armplanlaw17.radius -/
theorem radius17_any (r : Int) (w : World) (h : I64 r) :
    Calls Try.prog 91 #[.int .i64 r] w fun e w' => e = .returned (.int .i64 (radOf 4 1 9000 70000 1048577 r)) ∧ w = w' := by
  obtain ⟨h1, h2⟩ := h
  have hi := index114 1 9000 70000 1048577 r
  have hp : 0 < sel4 1 9000 70000 1048577 (bits .and .i64 r 3) ∧ sel4 1 9000 70000 1048577 (bits .and .i64 r 3) ≤ 9223372036854775807 := by
    unfold sel4; split
    · omega
    · split
      · omega
      · split <;> omega
  obtain ⟨p1, p2⟩ := hp
  go_enter Try.func91, Try.ntmps91
  go_wp2_with (go_at_call 50; refine (round_any _ _ _ p1 p2).mono ?_; rintro e w' ⟨rfl, rfl⟩)
  go_ret
  exact ⟨rfl, rfl⟩
end Go.Proofs.Ytionbckpgfaneaa
