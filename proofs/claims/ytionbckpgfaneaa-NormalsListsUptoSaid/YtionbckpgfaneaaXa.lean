/- Texts merged into one: Wa Wb Wc Wd We Wf Wg Pb. -/
import Derived.Test.YtionbckpgfaneaaProg
import Derived.Test.YtionbckpgfaneaaPlain
import Derived.WalkSpells
import Derived.WalkLawsBesides
import Derived.Handy
import Derived.Deep.QuietTactic
import Derived.BigQuiet
import Derived.Deep.RegionHeld3
/- Walks, part a: numbers and intervals. Each theorem says what one function of the program or of the references returns, and that nothing old is written. -/
namespace Go.Proofs.Ytionbckpgfaneaa
open Go.RowKit
set_option maxHeartbeats 400000
set_option maxRecDepth 100000

/-- armplanmake.Round -/
theorem round_any (n k : Int) (w : World) (hk : 0 < k) (hk2 : k ≤ 9223372036854775807) :
    Calls Try.prog 50 #[.int .i64 n, .int .i64 k] w fun e w' => e = .returned (.int .i64 (n % k)) ∧ w = w' := by
  have hne : (k == 0) = false := by simp; omega
  have h1 := Int.emod_nonneg n (b := k) (by omega)
  have h2 := Int.emod_lt_of_pos n hk
  rcases tmod_cases n k hk with ⟨h, H⟩ | ⟨h, H⟩
  · have hb : -9223372036854775808 ≤ n.tmod k := by omega
    go_enter Try.func50, Try.ntmps50
    go_wp2
    go_ret
    exact ⟨rfl, rfl⟩
  · go_enter Try.func50, Try.ntmps50
    go_wp2
    go_ret
    exact ⟨rfl, rfl⟩

def clampF (a : Int) : Int := max (-2147483648) (min a 2147483648)
/-- armplanref1.Clamp -/
theorem clamp_any (a : Int) (w : World) :
    Calls Try.prog 153 #[.int .i64 a] w fun e w' => e = .returned (.int .i64 (clampF a)) ∧ w = w' := by
  go_enter Try.func153, Try.ntmps153
  go_wp2
  all_goals
    go_ret
    exact ⟨ret_int (by unfold clampF; omega), rfl⟩

def Iv.valid (x : Iv) : Bool := decide (-2147483648 ≤ x.lo ∧ x.lo ≤ x.hi ∧ x.hi ≤ 2147483648)
/-- armplanref1.Valid -/
theorem valid_any (a : Iv) (w : World) :
    Calls Try.prog 151 #[.agg #[.int .i64 a.lo, .int .i64 a.hi]] w fun e w' => e = .returned (.bool a.valid) ∧ Below w.heap.size w w' := by
  go_enter Try.func151, Try.ntmps151
  go_wp2
  all_goals
    go_ret
    refine ⟨ret_bool (by rw [Bool.eq_iff_iff]; simp [Iv.valid]; omega), ?_⟩
    go_grown
/-- interval.Valid -/
theorem valid2_any (a : Iv) (w : World) :
    Calls Try.prog 180 #[.agg #[.int .i64 a.lo, .int .i64 a.hi]] w fun e w' => e = .returned (.bool a.valid) ∧ Below w.heap.size w w' := by
  go_enter Try.func180, Try.ntmps180
  go_wp2
  all_goals
    go_ret
    refine ⟨ret_bool (by rw [Bool.eq_iff_iff]; simp [Iv.valid]; omega), ?_⟩
    go_grown
/-- armplanref1.Floor -/
theorem floor_any (a b : Int) (w : World) (ha : I64 a) (hb : 0 < b) :
    Calls Try.prog 182 #[.int .i64 a, .int .i64 b] w fun e w' => e = .returned (.int .i64 (a / b)) ∧ w = w' := by
  obtain ⟨ha1, ha2⟩ := ha
  have hne : (b == 0) = false := by simp; omega
  by_cases h : a.tmod b < 0
  · have H := hide (floor_down a b hb h)
    obtain ⟨h3, h4⟩ := tdiv_down_bd a b hb h
    go_enter Try.func182, Try.ntmps182
    go_wp2
    go_ret
    exact ⟨ret_int H.out, rfl⟩
  · have H := hide (floor_on a b hb h)
    go_enter Try.func182, Try.ntmps182
    go_wp2
    go_ret
    exact ⟨ret_int H.out, rfl⟩
def ceilF (a b : Int) : Int := -((-a) / b)
/-- armplanref1.Ceil -/
theorem ceil_any (a b : Int) (w : World) (ha : I64 a) (hb : 0 < b) :
    Calls Try.prog 54 #[.int .i64 a, .int .i64 b] w fun e w' => e = .returned (.int .i64 (ceilF a b)) ∧ w = w' := by
  obtain ⟨ha1, ha2⟩ := ha
  have hne : (b == 0) = false := by simp; omega
  by_cases h : 0 < a.tmod b
  · have H := hide (ceil_up a b hb h)
    obtain ⟨h3, h4⟩ := tdiv_up_bd a b hb h
    have h5 : 0 < a % b := by rw [← Int.tmod_eq_emod_of_nonneg (by omega)]; exact h
    go_enter Try.func54, Try.ntmps54
    go_wp2
    go_ret
    exact ⟨ret_int H.out, rfl⟩
  · have H := hide (ceil_on a b hb h)
    go_enter Try.func54, Try.ntmps54
    go_wp2
    go_ret
    exact ⟨ret_int H.out, rfl⟩
/-- overlap.isRadius -/
theorem isRadius_any (r : Int) (w : World) :
    Calls Try.prog 104 #[.int .i64 r] w fun e w' => e = .returned (.bool (decide (0 ≤ r ∧ r ≤ 1048576))) ∧ w = w' := by
  go_enter Try.func104, Try.ntmps104
  go_wp2
  all_goals
    go_ret
    exact ⟨ret_bool (by rw [Bool.eq_iff_iff]; simp; omega), rfl⟩
/-- armplanref14.radius -/
theorem radius_ref (r : Int) (w : World) :
    Calls Try.prog 141 #[.int .i64 r] w fun e w' => e = .returned (.bool (decide (0 ≤ r ∧ r ≤ 1048576))) ∧ w = w' := by
  go_enter Try.func141, Try.ntmps141
  go_wp2
  all_goals
    go_ret
    exact ⟨ret_bool (by rw [Bool.eq_iff_iff]; simp; omega), rfl⟩
/-- normals.isRadius -/
theorem isRadius2_any (r : Int) (w : World) :
    Calls Try.prog 173 #[.int .i64 r] w fun e w' => e = .returned (.bool (decide (0 ≤ r ∧ r ≤ 1048576))) ∧ w = w' := by
  go_enter Try.func173, Try.ntmps173
  go_wp2
  all_goals
    go_ret
    exact ⟨ret_bool (by rw [Bool.eq_iff_iff]; simp; omega), rfl⟩
/-- armplanref14.size -/
theorem size_any (a : Int) (w : World) (h : -9223372036854775807 ≤ a) (h2 : a ≤ 9223372036854775807) :
    Calls Try.prog 142 #[.int .i64 a] w fun e w' => e = .returned (.int .i64 (max a (-a))) ∧ w = w' := by
  go_enter Try.func142, Try.ntmps142
  go_wp2
  all_goals
    go_ret
    exact ⟨ret_int (by omega), rfl⟩
theorem and3 (r : Int) : ∃ j : Nat, j < 4 ∧ bits .and .i64 r 3 = (j : Int) := by
  have h : (BitVec.ofInt 64 r &&& BitVec.ofInt 64 3).toNat < 4 := by
    rw [BitVec.toNat_and]
    have e : (BitVec.ofInt 64 3).toNat = 2 ^ 2 - 1 := by decide
    rw [e, Nat.and_two_pow_sub_one_eq_mod]
    omega
  refine ⟨_, h, ?_⟩
  show IntKind.i64.wrap ((BitVec.ofInt 64 r &&& BitVec.ofInt 64 3).toNat : Int) = _
  generalize (BitVec.ofInt 64 r &&& BitVec.ofInt 64 3).toNat = m at *
  rw [IntKind.wrap_i64]
  omega
def sel4 (a b c d : Int) (j : Int) : Int := if j = 0 then a else if j = 1 then b else if j = 2 then c else d
def radOf (s : Int) (a b c d : Int) (r : Int) : Int := (r / s) % sel4 a b c d (bits .and .i64 r 3)
theorem radOf_bd (s a b c d r : Int) (ha : 0 < a) (hb : 0 < b) (hc : 0 < c) (hd : 0 < d) (hab : a ≤ d) (hbb : b ≤ d) (hcb : c ≤ d) : 0 ≤ radOf s a b c d r ∧ radOf s a b c d r < d := by
  unfold radOf
  have hp : 0 < sel4 a b c d (bits .and .i64 r 3) ∧ sel4 a b c d (bits .and .i64 r 3) ≤ d := by
    unfold sel4; split
    · omega
    · split
      · omega
      · split <;> omega
  exact ⟨Int.emod_nonneg _ (by omega), Int.lt_of_lt_of_le (Int.emod_lt_of_pos _ hp.1) hp.2⟩
theorem index114 (a b c d : Int) (r : Int) (w : World) : (Instr.index 114 (.agg #[.int .i64 a, .int .i64 b, .int .i64 c, .int .i64 d]) (.int .i64 (bits .and .i64 r 3))).run Try.prog w = .ok (.int .i64 (sel4 a b c d (bits .and .i64 r 3))) w := by
  obtain ⟨j, hj, e⟩ := and3 r
  rw [e]
  have k0 : (Instr.index 114 (.agg #[.int .i64 a, .int .i64 b, .int .i64 c, .int .i64 d]) (.int .i64 0)).run Try.prog w = .ok (.int .i64 a) w := by kernel_rfl
  have k1 : (Instr.index 114 (.agg #[.int .i64 a, .int .i64 b, .int .i64 c, .int .i64 d]) (.int .i64 1)).run Try.prog w = .ok (.int .i64 b) w := by kernel_rfl
  have k2 : (Instr.index 114 (.agg #[.int .i64 a, .int .i64 b, .int .i64 c, .int .i64 d]) (.int .i64 2)).run Try.prog w = .ok (.int .i64 c) w := by kernel_rfl
  have k3 : (Instr.index 114 (.agg #[.int .i64 a, .int .i64 b, .int .i64 c, .int .i64 d]) (.int .i64 3)).run Try.prog w = .ok (.int .i64 d) w := by kernel_rfl
  obtain rfl | rfl | rfl | rfl : j = 0 ∨ j = 1 ∨ j = 2 ∨ j = 3 := by omega
  · exact k0
  · exact k1
  · exact k2
  · exact k3
/-- armplanlaw16.radius -/
theorem radius16_any (r : Int) (w : World) (h : I64 r) :
    Calls Try.prog 45 #[.int .i64 r] w fun e w' => e = .returned (.int .i64 (radOf 4 1 30000 200000 1048577 r)) ∧ w = w' := by
  obtain ⟨h1, h2⟩ := h
  have hi := index114 1 30000 200000 1048577 r
  have hp : 0 < sel4 1 30000 200000 1048577 (bits .and .i64 r 3) ∧ sel4 1 30000 200000 1048577 (bits .and .i64 r 3) ≤ 9223372036854775807 := by
    unfold sel4; split
    · omega
    · split
      · omega
      · split <;> omega
  obtain ⟨p1, p2⟩ := hp
  go_enter Try.func45, Try.ntmps45
  go_wp2_with (go_at_call 50; refine (round_any _ _ _ p1 p2).mono ?_; rintro e w' ⟨rfl, rfl⟩)
  go_ret
  exact ⟨rfl, rfl⟩
/-- armplanlaw15.radius -/
theorem radius15_any (r : Int) (w : World) (h : I64 r) :
    Calls Try.prog 69 #[.int .i64 r] w fun e w' => e = .returned (.int .i64 (radOf 4 1 9000 70000 1048577 r)) ∧ w = w' := by
  obtain ⟨h1, h2⟩ := h
  have hi := index114 1 9000 70000 1048577 r
  have hp : 0 < sel4 1 9000 70000 1048577 (bits .and .i64 r 3) ∧ sel4 1 9000 70000 1048577 (bits .and .i64 r 3) ≤ 9223372036854775807 := by
    unfold sel4; split
    · omega
    · split
      · omega
      · split <;> omega
  obtain ⟨p1, p2⟩ := hp
  go_enter Try.func69, Try.ntmps69
  go_wp2_with (go_at_call 50; refine (round_any _ _ _ p1 p2).mono ?_; rintro e w' ⟨rfl, rfl⟩)
  go_ret
  exact ⟨rfl, rfl⟩
/-- armplanlaw17.radius -/
theorem radius17_any (r : Int) (w : World) (h : I64 r) :
    Calls Try.prog 91 #[.int .i64 r] w fun e w' => e = .returned (.int .i64 (radOf 4 1 9000 70000 1048577 r)) ∧ w = w' := by
  obtain ⟨h1, h2⟩ := h
  have hi := index114 1 9000 70000 1048577 r
  have hp : 0 < sel4 1 9000 70000 1048577 (bits .and .i64 r 3) ∧ sel4 1 9000 70000 1048577 (bits .and .i64 r 3) ≤ 9223372036854775807 := by
    unfold sel4; split
    · omega
    · split
      · omega
      · split <;> omega
  obtain ⟨p1, p2⟩ := hp
  go_enter Try.func91, Try.ntmps91
  go_wp2_with (go_at_call 50; refine (round_any _ _ _ p1 p2).mono ?_; rintro e w' ⟨rfl, rfl⟩)
  go_ret
  exact ⟨rfl, rfl⟩
end Go.Proofs.Ytionbckpgfaneaa
/- Walks, part b: the source of numbers, and what is made out of it. -/
namespace Go.Proofs.Ytionbckpgfaneaa
open Go.RowKit
set_option maxHeartbeats 400000
set_option maxRecDepth 100000
theorem quiet_same {P : Program} {f : FuncId} {args : Array Value} {w : World} {n : Nat} {v : Value}
    (h : Calls P f args (w.drewN n) fun e w' => e = .returned v ∧ w.drewN n = w') : Calls P f args (w.drewN n) fun e w'' => e = .returned v ∧ ∃ m, w'' = w.drewN m :=
  h.mono fun _ _ ⟨he, hm⟩ => ⟨he, n, hm.symm⟩
theorem quiet_add_same {P : Program} {f : FuncId} {args : Array Value} {w : World} {a n : Nat} {v : Value}
    (h : Calls P f args (w.drewN (a + n)) fun e w' => e = .returned v ∧ w.drewN (a + n) = w') :
    Calls P f args (w.drewN (a + n)) fun e w'' => e = .returned v ∧ ∃ m, w'' = w.drewN (a + m) :=
  h.mono fun _ _ ⟨he, hm⟩ => ⟨he, n, hm.symm⟩
/-- armplanmake.From -/
theorem from_any (A : Option Addr) (n c : Nat) (w : World) :
    Calls Try.prog 74 #[.slice A n c] w fun e w' => e = .returned (.pointer (some ⟨w.heap.size, 0, none⟩)) ∧ w' = w.alloc (.cells #[.slice A n c, .int .i64 0] 142) := by
  go_enter Try.func74, Try.ntmps74
  go_wp2
  go_ret
  exact ⟨rfl, rfl⟩
/-- (*Source).Next with numbers left -/
theorem next_some (B : Nat) (A : Option Addr) (l : List Int) (c nx : Nat) (k : Int) (w : World) (hk : 0 < k) (hk2 : k ≤ 9223372036854775807)
   (h0 : w.cell? ⟨B, 0, none⟩ = some (.slice A l.length c)) (h1 : w.cell? ⟨B, 1, none⟩ = some (.int .i64 nx)) (hf : w.frozen? ⟨B, 1, none⟩ = false) (hs : SlN w A l) (hm : l.length ≤ 9223372036854775807) (hlt : nx < l.length)
   (hne : ∀ b off, A = some ⟨b, off, none⟩ → b < B) :
    Calls Try.prog 75 #[.pointer (some ⟨B, 0, none⟩), .int .i64 k] w fun e w' => e = .returned (.int .i64 (l[nx] % k)) ∧ Like w' (w.setCell ⟨B, 1, none⟩ (.int .i64 (nx + 1 : Nat))) := by
  obtain ⟨b, off, rfl, hb⟩ := hs.addr (by omega)
  have hbB := hne b off rfl
  have hc := hs.at_ hlt
  clear hs hne
  have hlt' : (nx : Int) < (l.length : Int) := by omega
  go_enter Try.func75, Try.ntmps75
  go_wp2_with fail
  go_quiet (fail)
  go_wp2_with fail
  go_quiet ((go_at_call 50; exact quiet_same (round_any _ _ _ hk hk2)))
  go_wp2
  go_ret
  exact ⟨rfl, rfl, rfl, rfl, rfl⟩
theorem next_none (B : Nat) (A : Option Addr) (l : List Int) (c nx : Nat) (k : Int) (w : World)
   (h0 : w.cell? ⟨B, 0, none⟩ = some (.slice A l.length c)) (h1 : w.cell? ⟨B, 1, none⟩ = some (.int .i64 nx)) (hlt : l.length ≤ nx) :
    Calls Try.prog 75 #[.pointer (some ⟨B, 0, none⟩), .int .i64 k] w fun e w' => e = .returned (.int .i64 0) ∧ Like w' w := by
  have hlt' : (l.length : Int) ≤ (nx : Int) := by omega
  go_enter Try.func75, Try.ntmps75
  go_wp2_with fail
  go_quiet (fail)
  go_wp2_with fail
  go_ret
  exact ⟨rfl, rfl, rfl, rfl, rfl⟩
theorem pos_of {l : List Int} (h : l.map (Value.int .i64) ≠ []) : 0 < l.length := by
  rcases l with _ | ⟨a, l⟩
  · simp at h
  · simp
/-- a Source in block B: the list l, of which nx numbers have been used -/
def Src (w : World) (B : Nat) : Prop :=
  ∃ (A : Option Addr) (l : List Int) (c nx : Nat), w.heap[B]? = some (.cells #[.slice A l.length c, .int .i64 nx] 142 (0, 0)) ∧ SlN w A l ∧ l.length ≤ 9223372036854775807 ∧ (0 < l.length → ∀ b off, A = some ⟨b, off, none⟩ → b < B)
theorem Src.lt {w : World} {B : Nat} (h : Src w B) : B < w.heap.size := by
  obtain ⟨A, l, c, nx, h, _⟩ := h
  rcases Nat.lt_or_ge B w.heap.size with hlt | hge
  · exact hlt
  · rw [Array.getElem?_eq_none hge] at h; cases h
theorem Src.keep {w w' : World} {B : Nat} (h : Src w B) (hz : w.heap.size ≤ w'.heap.size) (hb : ∀ k, k ≤ B → w'.heap[k]? = w.heap[k]?) : Src w' B := by
  obtain ⟨A, l, c, nx, h0, hs, hm, hA⟩ := h
  refine ⟨A, l, c, nx, (hb B (Nat.le_refl _)).trans h0, fun hx => ?_, hm, hA⟩
  obtain ⟨b, off, e, hlt, hc⟩ := hs hx
  refine ⟨b, off, e, by omega, fun j u hu => ?_⟩
  rw [World.cell?_of_block (w := w) (hb b (Nat.le_of_lt (hA (pos_of hx) b off e)))]
  exact hc j u hu
theorem Src.below {w w' : World} {B N : Nat} (h : Src w B) (hb : Below N w w') (hN : B < N) : Src w' B := h.keep hb.size fun k hk => hb.block k (by omega)
/-- what Next and Signed leave: a Source still, and nothing else turned -/
def NextPost (w : World) (B : Nat) (lo hi : Int) (e : Ending) (w' : World) : Prop := ∃ v : Int, lo ≤ v ∧ v ≤ hi ∧ e = .returned (.int .i64 v) ∧ Src w' B ∧ w.grownBy w' (some B)
theorem next_any (B : Nat) (k : Int) (w : World) (h : Src w B) (hk : 0 < k) (hk2 : k ≤ 9223372036854775807) :
    Calls Try.prog 75 #[.pointer (some ⟨B, 0, none⟩), .int .i64 k] w (NextPost w B 0 (k - 1)) := by
  have hh := h
  obtain ⟨A, l, c, nx, h0, hs, hm, hA⟩ := h
  have c0 : w.cell? ⟨B, 0, none⟩ = some (.slice A l.length c) := by simp [World.cell?, h0]
  have c1 : w.cell? ⟨B, 1, none⟩ = some (.int .i64 nx) := by simp [World.cell?, h0]
  have f1 : w.frozen? ⟨B, 1, none⟩ = false := by simp [World.frozen?, h0]
  by_cases hlt : nx < l.length
  · refine (next_some B A l c nx k w hk hk2 c0 c1 f1 hs hm hlt (hA (by omega))).mono ?_
    rintro e w' ⟨rfl, hw⟩
    have h1 := Int.emod_nonneg (l[nx]) (b := k) (by omega)
    have h2 := Int.emod_lt_of_pos (l[nx]) hk
    have hB := hh.lt
    refine ⟨_, h1, by omega, rfl, ⟨A, l, c, nx + 1, ?_, fun hx => ?_, hm, hA⟩, hw.grown (grown_set w B 1 _)⟩
    · rw [hw.1]
      simp [World.setCell, Array.getElem?_modify, h0]
    · obtain ⟨b, off, e, hb, hc⟩ := hs hx
      have hbB := hA (pos_of hx) b off e
      refine ⟨b, off, e, by rw [hw.1]; simpa [World.setCell] using hb, fun j u hu => ?_⟩
      rw [hw.cell, World.cell?_setCell_other w _ _ _ (fun e => by injection e with e1 _; omega)]
      exact hc j u hu
  · refine (next_none B A l c nx k w c0 c1 (by omega)).mono ?_
    rintro e w' ⟨rfl, hw⟩
    refine ⟨0, by omega, by omega, rfl, hh.keep (by rw [hw.1]; exact Nat.le_refl _) (fun k _ => by rw [hw.1]), hw.grown (World.grownBy.refl w _)⟩
theorem signed_any (B : Nat) (k : Int) (w : World) (h : Src w B) (hk : 0 ≤ k) (hk2 : k ≤ 1000000000) :
    Calls Try.prog 100 #[.pointer (some ⟨B, 0, none⟩), .int .i64 k] w (NextPost w B (-k) k) := by
  have H := hide h
  clear h
  go_enter Try.func100, Try.ntmps100
  go_wp2_with fail
  refine (next_any B _ _ H.out (by omega) (by omega)).mono ?_
  rintro e w' ⟨v, h1, h2, rfl, hs, hg⟩
  have HS := hide hs
  have HG := hide hg
  clear hs hg
  go_wp2
  go_ret
  exact ⟨v - k, by omega, by omega, rfl, HS.out, HG.out⟩
end Go.Proofs.Ytionbckpgfaneaa
/- Walks, part c: Points. -/
namespace Go.Proofs.Ytionbckpgfaneaa
open Go.RowKit
set_option maxHeartbeats 400000
set_option maxRecDepth 100000
theorem blk_cell {w : World} {g : Nat} {cs : Array Value} {t : TypeId} (h : w.heap[g]? = some (.cells cs t (0, 0))) (i : Nat) : w.cell? ⟨g, i, none⟩ = cs[i]? := by simp [World.cell?, h]
theorem blk_frozen {w : World} {g : Nat} {cs : Array Value} {t : TypeId} (h : w.heap[g]? = some (.cells cs t (0, 0))) (i : Nat) : w.frozen? ⟨g, i, none⟩ = false := by simp [World.frozen?, h]
theorem blk_set {w : World} {g : Nat} {cs : Array Value} {t : TypeId} (h : w.heap[g]? = some (.cells cs t (0, 0))) (i : Nat) (u : Value) : (w.setCell ⟨g, i, none⟩ u).heap[g]? = some (.cells (cs.setIfInBounds i u) t (0, 0)) := by
  simp [World.setCell, Array.getElem?_modify, h]
theorem far {w w' : World} {r : Option Nat} (hg : w.grownBy w' r) (a : Addr) (h1 : a.block < w.heap.size) (h2 : some a.block ≠ r) : w'.cell? a = w.cell? a := World.cell?_of_block (hg.block _ h1 h2)
theorem Src.drew {w : World} {B : Nat} (h : Src w B) : Src w.drew B := h
theorem news_at {w : World} {B : Nat} {cs : Array Value} {t : TypeId} {fr : Nat × Nat} (hb : w.heap[B]? = some (.cells cs t fr)) : ∀ j u, cs.toList[j]? = some u → w.cell? ((⟨B, 0, none⟩ : Addr).add j) = some u := fun j u hu => by
  have e : ((⟨B, 0, none⟩ : Addr).add j) = ⟨B, j, none⟩ := by unfold Addr.add; split <;> simp_all
  rw [e]
  simpa [World.cell?, hb] using hu
theorem Src.new {w : World} {A : Option Addr} {l : List Int} (c : Nat) (hs : SlN w A l) (hm : l.length ≤ 9223372036854775807) : Src (w.alloc (.cells #[.slice A l.length c, .int .i64 0] 142)) w.heap.size :=
  ⟨A, l, c, 0, heap_alloc_new w _, Sl.alloc hs _, hm, fun h b off e => by obtain ⟨b', off', e', hb⟩ := SlN.addr hs h; rw [e] at e'; injection e' with e'; injection e' with e'; omega⟩
def PtOk (width : Int) (a : Iv) : Prop := -327689 ≤ a.lo ∧ a.lo ≤ 327689 ∧ a.lo ≤ a.hi ∧ a.hi ≤ a.lo + width
def IVOk (width : Int) (p : IV) : Prop := PtOk width p.x ∧ PtOk width p.y ∧ PtOk width p.z

/-- what the rounds of Points keep -/
structure PKeep (w0 : World) (N C V : Nat) (cs : Array Value) (v : Value) (n : Nat) (xs : List Value) (ww : World) : Prop where
  own : ww.ownsRow (C + 1) 44 6 v n xs
  src : Src ww N
  cb : ww.heap[C]? = some (.cells cs 47 (0, 0))
  bel : Below N w0 ww
  lt : V < ww.heap.size
section
variable {w0 ww w' : World} {N C V n : Nat} {cs : Array Value} {v : Value} {xs : List Value}
theorem own_mono {b b' : Nat} {e : TypeId} {sz : Nat} (h : ww.ownsRow b e sz v n xs) (hb : b' ≤ b) : ww.ownsRow b' e sz v n xs := ⟨h.1, h.2.imp id fun ⟨g, cap, cur, e1, e2, r⟩ => ⟨g, cap, cur, e1, Nat.le_trans hb e2, r⟩⟩
theorem PKeep.drew (h : PKeep w0 N C V cs v n xs ww) : PKeep w0 N C V cs v n xs ww.drew := ⟨h.own, h.src, h.cb, h.bel.drew, h.lt⟩
theorem PKeep.grown (h : PKeep w0 N C V cs v n xs ww) (hNC : N < C) (hCV : C ≤ V) (hg : ww.grownBy w' (some N)) (hs : Src w' N) (hb : Below N ww w') : PKeep w0 N C V cs v n xs w' := by
  obtain ⟨h1, h2, h3, h4, h5⟩ := h
  refine ⟨h1.kept hg ?_, hs, (hg.block C (by omega) (by simp; omega)).trans h3, h4.trans hb, by have := hg.size; omega⟩
  rcases hv : v.ownBlock with _ | g
  · exact .inl rfl
  · right
    have := (h1.lt g hv).1
    simp; omega
theorem PKeep.set (h : PKeep w0 N C V cs v n xs ww) (hNC : N < C) (hCV : C < V) (hv : ∀ g, v.ownBlock = some g → g < V) (i : Nat) (u : Value) : PKeep w0 N C V cs v n xs (ww.setCell ⟨V, i, none⟩ u) := by
  obtain ⟨h1, h2, h3, h4, h5⟩ := h
  refine ⟨h1.kept (grown_set ww V i u) ?_, h2.keep (by simp [World.setCell]) (fun k hk => Below.heap_setCell ww ⟨V, i, none⟩ u k (by simp; omega)), (Below.heap_setCell ww ⟨V, i, none⟩ u C (by simp; omega)).trans h3, h4.setCell (by simp; omega) u, by simpa [World.setCell] using h5⟩
  rcases hv' : v.ownBlock with _ | g
  · exact .inl rfl
  · right
    have := hv g hv'
    simp; omega
theorem PKeep.append {o : Obj} {v' : Value} {n' : Nat} {xs' : List Value} (h : PKeep w0 N C V cs v n xs ww) (hNC : N < C) (hCV : C ≤ V) (hg : (ww.alloc o).grownBy w' v.ownBlock) (ho : w'.ownsRow (C + 1) 44 6 v' n' xs') : PKeep w0 N C C cs v' n' xs' w' := by
  obtain ⟨h1, h2, h3, h4, h5⟩ := h
  have hz := hg.size
  simp only [World.size_alloc] at hz
  have hb : ∀ k, k ≤ C → w'.heap[k]? = ww.heap[k]? := fun k hk => (hg.block k (by simp; omega) (fun e => by have := (h1.lt k e.symm).1; omega)).trans (Below.heap_alloc ww o k (by omega))
  exact ⟨ho, h2.keep (by omega) (fun k hk => hb k (by omega)), (hb C (Nat.le_refl _)).trans h3, h4.trans ⟨hg.os, hg.tape, hg.output, by omega, fun k hk => hb k (by omega)⟩, by omega⟩
end
theorem below_grown {w w' : World} {N : Nat} (h : w.grownBy w' (some N)) (hN : N ≤ w.heap.size) : Below N w w' := (Below.refl N w).grown h hN (fun k e => by injection e with e; omega)

def VCells (a0 b0 a1 b1 a2 b2 : Int) : Array Value := #[.int .i64 a0, .int .i64 b0, .int .i64 a1, .int .i64 b1, .int .i64 a2, .int .i64 b2]
def PRound (width : Int) (w0 : World) (N C V : Nat) (cs : Array Value) (v : Value) (n : Nat) (xs : List Value) (i : Value) (ww : World) : Prop :=
  ∃ (k : Int) (a0 b0 a1 b1 a2 b2 : Int), i = .int .i64 k ∧ (0 ≤ k ∧ k ≤ 3) ∧ (0 < k → PtOk width ⟨a0, b0⟩) ∧ (1 < k → PtOk width ⟨a1, b1⟩) ∧ (2 < k → PtOk width ⟨a2, b2⟩) ∧
    ww.heap[V]? = some (.cells #[.int .i64 a0, .int .i64 b0, .int .i64 a1, .int .i64 b1, .int .i64 a2, .int .i64 b2] 44 (0, 0)) ∧ PKeep w0 N C V cs v n xs ww
def PHead (width : Int) (w0 : World) (N C : Nat) (cs : Array Value) (n : Int) (v i : Value) (wr : World) : Prop :=
  ∃ (m : Nat) (pts : List IV), i = .int .i64 m ∧ (m : Int) + pts.length = 1 + n ∧ (∀ p ∈ pts, IVOk width p) ∧ PKeep w0 N C C cs v pts.length (pts.flatMap IV.cells) wr
/-- what Points returns -/
def PointsPost (width : Int) (w : World) (e : Ending) (w' : World) : Prop :=
  ∃ (v : Value) (pts : List IV), e = .returned v ∧ 1 ≤ pts.length ∧ pts.length ≤ 5 ∧ (∀ p ∈ pts, IVOk width p) ∧ w'.ownsRow w.heap.size 44 6 v pts.length (pts.flatMap IV.cells) ∧ Below w.heap.size w w'
theorem info44 : (Try.prog.info? 44).map (fun i => (i.zero, i.size, i.bytes)) = some (some (.agg #[.int .i64 0, .int .i64 0, .int .i64 0, .int .i64 0, .int .i64 0, .int .i64 0]), 6, 48) := by kernel_rfl

theorem points_any (A : Option Addr) (l : List Int) (c : Nat) (width : Int) (w : World) (hs : SlN w A l) (hm : l.length ≤ 9223372036854775807) (hw0 : 0 ≤ width) (hw1 : width ≤ 3000) :
    Calls Try.prog 41 #[.slice A l.length c, .int .i64 width] w (PointsPost width w) := by
  have H1 := hide (Src.new c hs hm)
  obtain ⟨i0, hi0, hz0, hz1, hz2⟩ := info_parts info44
  clear hs
  go_enter Try.func41, Try.ntmps41
  go_wp2_with fail
  refine (from_any _ _ _ _).mono ?_
  rintro e w1 ⟨rfl, rfl⟩
  go_wp2_with fail
  refine (signed_any _ _ _ H1.out (by omega) (by omega)).mono ?_
  rintro e w2 ⟨x1, h11, h12, rfl, S2, G2⟩
  go_wp2_with fail
  refine (signed_any _ _ _ S2 (by omega) (by omega)).mono ?_
  rintro e w3 ⟨x2, h21, h22, rfl, S3, G3⟩
  go_wp2_with fail
  refine (signed_any _ _ _ S3 (by omega) (by omega)).mono ?_
  rintro e w4 ⟨x3, h31, h32, rfl, S4, G4⟩
  go_wp2_with fail
  refine (next_any _ _ _ (S4.below ((Below.refl _ _).alloc (Nat.le_refl _) _) S4.lt) (by omega) (by omega)).mono ?_
  rintro e w5 ⟨n, hn1, hn2, rfl, S5, G5⟩
  have hC : w.heap.size < w4.heap.size := S4.lt
  have hC5 : w4.heap.size < w5.heap.size := by have := G5.size; simp at this; omega
  have HK : PKeep w w.heap.size w4.heap.size w4.heap.size #[.int .i64 (x1 * 32768), .int .i64 (x2 * 32768), .int .i64 (x3 * 32768)] (.slice none 0 0) 0 [] w5 := by
    have l2 := S2.lt; have l3 := S3.lt
    refine ⟨World.ownsRow_nil _ _ _ _, S5, ?_, ?_, hC5⟩
    · rw [G5.block _ (by simp) (by simp; omega)]
      exact heap_alloc_new w4 _
    · exact (((((Below.refl _ w).alloc (Nat.le_refl _) _).trans (below_grown G2 (by simp))).trans (below_grown G3 (by omega))).trans (below_grown G4 (by omega))).trans (((Below.refl _ w4).alloc (by omega) _).trans (below_grown G5 (by simp; omega)))
  clear G2 G3 G4 G5 S2 S3 S4 S5 H1
  go_wp2_with fail
  go_loopw [7, 8] (fun v i wr => PHead width w w.heap.size w4.heap.size #[.int .i64 (x1 * 32768), .int .i64 (x2 * 32768), .int .i64 (x3 * 32768)] n v i wr) (fun _ i _ => (intOf i).toNat)
  case atStart => exact ⟨(1 + n).toNat, [], by simp; omega, by simp; omega, by simp, HK⟩
  case round =>
    clear HK
    obtain ⟨wo, rfl⟩ : ∃ wo : World, wo = wr := ⟨_, rfl⟩
    obtain ⟨m, pts, rfl, hmn, hok, HK⟩ := hrel
    have OK := hide hok; clear hok
    have hzr := HK.lt
    by_cases hm0 : 0 < m
    · go_wp2_with fail
      have HV := hide (fun g hg => (HK.own.lt g hg).2 : ∀ g, u7.ownBlock = some g → g < wo.heap.size)
      go_loopw [10] (fun i ww => PRound width w w.heap.size w4.heap.size wo.heap.size #[.int .i64 (x1 * 32768), .int .i64 (x2 * 32768), .int .i64 (x3 * 32768)] u7 pts.length (pts.flatMap IV.cells) i ww) (fun i _ => 3 - (intOf i).toNat)
      case atStart =>
        obtain ⟨k1, k2, k3, k4, k5⟩ := HK
        exact ⟨0, 0, 0, 0, 0, 0, 0, rfl, ⟨by omega, by omega⟩, by omega, by omega, by omega, heap_alloc_new wo _, k1.alloc _, k2.below ((Below.refl _ _).alloc (Nat.le_refl _) _) k2.lt, (Below.heap_alloc wo _ _ hzr).trans k3, k4.alloc (by omega) _, by simp⟩
      case round =>
        clear HK
        obtain ⟨k, a0, b0, a1, b1, a2, b2, rfl, hk3, p0, p1, p2, hvb, HK⟩ := hrel
        have P0 := hide p0; have P1 := hide p1; have P2 := hide p2; have VB := hide hvb
        clear p0 p1 p2 hvb
        have hzw := HK.lt
        have SK := HK.src.drew
        obtain rfl | rfl | rfl | rfl : k = 0 ∨ k = 1 ∨ k = 2 ∨ k = 3 := by omega
        · have hc0 : wr.cell? ⟨w4.heap.size, 0, none⟩ = some (.int .i64 (x1 * 32768)) := by simp [World.cell?, HK.cb]
          go_wp2_with fail
          go_region_held3 (fun w' => w'.cell? ⟨w4.heap.size, 0, none⟩ = some (.int .i64 (x1 * 32768)))
            (first | go_keep | exact (far GY _ (by have := GX.size; simp at this ⊢; omega) (by simp; omega)).trans ((far GX _ (by simp; omega) (by simp; omega)).trans hc0) | exact (far GX _ (by simp; omega) (by simp; omega)).trans hc0)
            (first | (go_at_call 100; have _t := GX; (with_reducible refine (signed_any _ _ _ SX (by omega) (by omega)).mono ?_); rintro e w7 ⟨y2, hy1, hy2, rfl, SY, GY⟩) | (go_at_call 100; (with_reducible refine (signed_any _ _ _ SK (by omega) (by omega)).mono ?_); rintro e w6 ⟨y1, hy3, hy4, rfl, SX, GX⟩))
          go_wp2_with fail
          refine (next_any _ _ _ SY (by omega) (by omega)).mono ?_
          rintro e w8 ⟨y3, hy5, hy6, rfl, S8, G8⟩
          have hw6 := GX.size
          have hw7 := GY.size
          have hw8 := G8.size
          simp only [World.size_drew] at hw6
          have hv8 : w8.heap[wo.heap.size]? = some (.cells #[.int .i64 a0, .int .i64 b0, .int .i64 a1, .int .i64 b1, .int .i64 a2, .int .i64 b2] 44 (0, 0)) :=
            (G8.block _ (by omega) (by simp; omega)).trans ((GY.block _ (by omega) (by simp; omega)).trans ((GX.block _ (by simp; omega) (by simp; omega)).trans VB.out))
          have lx := SX.lt; have ly := SY.lt; have lz := HK.src.lt
          have K8 : PKeep w w.heap.size w4.heap.size wo.heap.size #[.int .i64 (x1 * 32768), .int .i64 (x2 * 32768), .int .i64 (x3 * 32768)] u7 pts.length (pts.flatMap IV.cells) w8 :=
            ((HK.drew.grown hC (Nat.le_of_lt hzr) GX SX (below_grown GX (by simp; omega))).grown hC (Nat.le_of_lt hzr) GY SY (below_grown GY (by omega))).grown hC (Nat.le_of_lt hzr) G8 S8 (below_grown G8 (by omega))
          have hvc := blk_cell hv8
          have hvf := blk_frozen hv8
          have HV8 := hide hv8
          clear hv8 GX GY G8 SX SY S8 HK hc0 SK
          go_wp2_with fail
          go_roundw
          case rel => exact ⟨1, _, _, a1, b1, a2, b2, rfl, ⟨by omega, by omega⟩, fun _ => ⟨by dsimp only; omega, by dsimp only; omega, by dsimp only; omega, by dsimp only; omega⟩, fun h => absurd h (by omega), fun h => absurd h (by omega), blk_set (blk_set HV8.out 0 _) 1 _, (K8.set hC hzr HV.out _ _).set hC hzr HV.out _ _⟩
          case measure => simp [intOf]
        · have hc0 : wr.cell? ⟨w4.heap.size, 1, none⟩ = some (.int .i64 (x2 * 32768)) := by simp [World.cell?, HK.cb]
          go_wp2_with fail
          go_region_held3 (fun w' => w'.cell? ⟨w4.heap.size, 1, none⟩ = some (.int .i64 (x2 * 32768)))
            (first | go_keep | exact (far GY _ (by have := GX.size; simp at this ⊢; omega) (by simp; omega)).trans ((far GX _ (by simp; omega) (by simp; omega)).trans hc0) | exact (far GX _ (by simp; omega) (by simp; omega)).trans hc0)
            (first | (go_at_call 100; have _t := GX; (with_reducible refine (signed_any _ _ _ SX (by omega) (by omega)).mono ?_); rintro e w7 ⟨y2, hy1, hy2, rfl, SY, GY⟩) | (go_at_call 100; (with_reducible refine (signed_any _ _ _ SK (by omega) (by omega)).mono ?_); rintro e w6 ⟨y1, hy3, hy4, rfl, SX, GX⟩))
          go_wp2_with fail
          refine (next_any _ _ _ SY (by omega) (by omega)).mono ?_
          rintro e w8 ⟨y3, hy5, hy6, rfl, S8, G8⟩
          have hw6 := GX.size
          have hw7 := GY.size
          have hw8 := G8.size
          simp only [World.size_drew] at hw6
          have hv8 : w8.heap[wo.heap.size]? = some (.cells #[.int .i64 a0, .int .i64 b0, .int .i64 a1, .int .i64 b1, .int .i64 a2, .int .i64 b2] 44 (0, 0)) :=
            (G8.block _ (by omega) (by simp; omega)).trans ((GY.block _ (by omega) (by simp; omega)).trans ((GX.block _ (by simp; omega) (by simp; omega)).trans VB.out))
          have lx := SX.lt; have ly := SY.lt; have lz := HK.src.lt
          have K8 : PKeep w w.heap.size w4.heap.size wo.heap.size #[.int .i64 (x1 * 32768), .int .i64 (x2 * 32768), .int .i64 (x3 * 32768)] u7 pts.length (pts.flatMap IV.cells) w8 :=
            ((HK.drew.grown hC (Nat.le_of_lt hzr) GX SX (below_grown GX (by simp; omega))).grown hC (Nat.le_of_lt hzr) GY SY (below_grown GY (by omega))).grown hC (Nat.le_of_lt hzr) G8 S8 (below_grown G8 (by omega))
          have hvc := blk_cell hv8
          have hvf := blk_frozen hv8
          have HV8 := hide hv8
          clear hv8 GX GY G8 SX SY S8 HK hc0 SK
          go_wp2_with fail
          go_roundw
          case rel => exact ⟨2, a0, b0, _, _, a2, b2, rfl, ⟨by omega, by omega⟩, fun _ => P0.out (by omega), fun _ => ⟨by dsimp only; omega, by dsimp only; omega, by dsimp only; omega, by dsimp only; omega⟩, fun h => absurd h (by omega), blk_set (blk_set HV8.out 2 _) 3 _, (K8.set hC hzr HV.out _ _).set hC hzr HV.out _ _⟩
          case measure => simp [intOf]
        · have hc0 : wr.cell? ⟨w4.heap.size, 2, none⟩ = some (.int .i64 (x3 * 32768)) := by simp [World.cell?, HK.cb]
          go_wp2_with fail
          go_region_held3 (fun w' => w'.cell? ⟨w4.heap.size, 2, none⟩ = some (.int .i64 (x3 * 32768)))
            (first | go_keep | exact (far GY _ (by have := GX.size; simp at this ⊢; omega) (by simp; omega)).trans ((far GX _ (by simp; omega) (by simp; omega)).trans hc0) | exact (far GX _ (by simp; omega) (by simp; omega)).trans hc0)
            (first | (go_at_call 100; have _t := GX; (with_reducible refine (signed_any _ _ _ SX (by omega) (by omega)).mono ?_); rintro e w7 ⟨y2, hy1, hy2, rfl, SY, GY⟩) | (go_at_call 100; (with_reducible refine (signed_any _ _ _ SK (by omega) (by omega)).mono ?_); rintro e w6 ⟨y1, hy3, hy4, rfl, SX, GX⟩))
          go_wp2_with fail
          refine (next_any _ _ _ SY (by omega) (by omega)).mono ?_
          rintro e w8 ⟨y3, hy5, hy6, rfl, S8, G8⟩
          have hw6 := GX.size
          have hw7 := GY.size
          have hw8 := G8.size
          simp only [World.size_drew] at hw6
          have hv8 : w8.heap[wo.heap.size]? = some (.cells #[.int .i64 a0, .int .i64 b0, .int .i64 a1, .int .i64 b1, .int .i64 a2, .int .i64 b2] 44 (0, 0)) :=
            (G8.block _ (by omega) (by simp; omega)).trans ((GY.block _ (by omega) (by simp; omega)).trans ((GX.block _ (by simp; omega) (by simp; omega)).trans VB.out))
          have lx := SX.lt; have ly := SY.lt; have lz := HK.src.lt
          have K8 : PKeep w w.heap.size w4.heap.size wo.heap.size #[.int .i64 (x1 * 32768), .int .i64 (x2 * 32768), .int .i64 (x3 * 32768)] u7 pts.length (pts.flatMap IV.cells) w8 :=
            ((HK.drew.grown hC (Nat.le_of_lt hzr) GX SX (below_grown GX (by simp; omega))).grown hC (Nat.le_of_lt hzr) GY SY (below_grown GY (by omega))).grown hC (Nat.le_of_lt hzr) G8 S8 (below_grown G8 (by omega))
          have hvc := blk_cell hv8
          have hvf := blk_frozen hv8
          have HV8 := hide hv8
          clear hv8 GX GY G8 SX SY S8 HK hc0 SK
          go_wp2_with fail
          go_roundw
          case rel => exact ⟨3, a0, b0, a1, b1, _, _, rfl, ⟨by omega, by omega⟩, fun _ => P0.out (by omega), fun _ => P1.out (by omega), fun _ => ⟨by dsimp only; omega, by dsimp only; omega, by dsimp only; omega, by dsimp only; omega⟩, blk_set (blk_set HV8.out 4 _) 5 _, (K8.set hC hzr HV.out _ _).set hC hzr HV.out _ _⟩
          case measure => simp [intOf]
        · have hvc := blk_cell VB.out
          clear SK
          go_wp2_with (at_builtin; refine wpList_append_own _ rfl _ _ 23 rfl (w4.heap.size + 1) 44 i0 _ 6 48 Try.underlying23 hi0 hz0 hz1 hz2 rfl (by decide) u7 pts.length (pts.flatMap IV.cells) rfl (HK.own.alloc _) ⟨wr.heap.size, 0, none⟩ 1 1 [.int .i64 a0, .int .i64 b0, .int .i64 a1, .int .i64 b1, .int .i64 a2, .int .i64 b2] rfl rfl ?c1 ?c2 ?c3 ?c4 ?c5 ?_)
          case c1 => exact news_at (heap_alloc_new wr _)
          case c2 => simp [Value.oneCell']
          case c3 => unfold maxLen; omega
          case c4 => omega
          case c5 => simp; omega
          intro v' w9 hown9 hg9 _
          have K9 := HK.append hC (Nat.le_of_lt hzr) hg9 hown9
          clear hg9 hown9 HK hvc
          go_wp2_with fail
          go_roundw
          case rel => exact ⟨m - 1, pts ++ [⟨⟨a0, b0⟩, ⟨a1, b1⟩, ⟨a2, b2⟩⟩], by go_num, by simp; omega, fun p hp => by rcases List.mem_append.1 hp with h | h; exact OK.out p h; simp at h; subst h; exact ⟨P0.out (by omega), P1.out (by omega), P2.out (by omega)⟩, by simpa [IV.cells] using K9⟩
          case measure => simp [intOf]; omega
    · go_wp2_with fail
      go_ret
      have : m = 0 := by omega
      subst this
      refine ⟨_, pts, rfl, by omega, by omega, OK.out, ?_, ?_⟩
      · exact own_mono HK.own (by omega)
      · exact HK.bel
end Go.Proofs.Ytionbckpgfaneaa
/- Walks, part d: Weights, Total and what is made of them. -/
namespace Go.Proofs.Ytionbckpgfaneaa
open Go.RowKit
set_option maxHeartbeats 400000
set_option maxRecDepth 100000
/-- what a loop keeps that appends to a row of its own and uses a Source -/
structure SKeep (w0 : World) (N : Nat) (E : TypeId) (sz : Nat) (v : Value) (n : Nat) (xs : List Value) (ww : World) : Prop where
  own : ww.ownsRow (N + 1) E sz v n xs
  src : Src ww N
  bel : Below N w0 ww
section
variable {w0 ww w' : World} {N n sz : Nat} {E : TypeId} {v : Value} {xs : List Value}
theorem own_form {base : Nat} (h : ww.ownsRow base E sz v n xs) (hn : 0 < n) : ∃ g cap, v = .slice (some ⟨g, 0, none⟩) n cap ∧ base ≤ g ∧ g < ww.heap.size ∧ n ≤ cap ∧ cap ≤ maxLen := by
  rcases h.2 with ⟨_, h0⟩ | ⟨g, cap, cur, e1, e2, e3, e4, e5, _⟩
  · omega
  · refine ⟨g, cap, e1, e2, ?_, e4, e5⟩
    rcases Nat.lt_or_ge g ww.heap.size with hlt | hge
    · exact hlt
    · rw [Array.getElem?_eq_none hge] at e3; cases e3
theorem SKeep.drew (h : SKeep w0 N E sz v n xs ww) : SKeep w0 N E sz v n xs ww.drew := ⟨h.own, h.src, h.bel.drew⟩
theorem SKeep.alloc (h : SKeep w0 N E sz v n xs ww) (o : Obj) : SKeep w0 N E sz v n xs (ww.alloc o) := ⟨h.own.alloc o, h.src.below ((Below.refl _ _).alloc (Nat.le_refl _) o) h.src.lt, h.bel.alloc (Nat.le_of_lt h.src.lt) o⟩
theorem SKeep.below (h : SKeep w0 N E sz v n xs ww) (hb : Below ww.heap.size ww w') : SKeep w0 N E sz v n xs w' := ⟨h.own.kept ⟨hb.os, hb.tape, hb.output, hb.size, fun k hk _ => hb.block k hk⟩ (row := none) (by rcases v.ownBlock with _ | g <;> simp), h.src.below hb h.src.lt, h.bel.trans (hb.mono (Nat.le_of_lt h.src.lt))⟩
theorem SKeep.grown (h : SKeep w0 N E sz v n xs ww) (hg : ww.grownBy w' (some N)) (hs : Src w' N) : SKeep w0 N E sz v n xs w' := by
  obtain ⟨h1, h2, h3⟩ := h
  refine ⟨h1.kept hg ?_, hs, h3.trans (below_grown hg (Nat.le_of_lt h2.lt))⟩
  rcases hv : v.ownBlock with _ | g
  · exact .inl rfl
  · right
    have := (h1.lt g hv).1
    simp; omega
theorem SKeep.append {o : Obj} {v' : Value} {n' : Nat} {xs' : List Value} (h : SKeep w0 N E sz v n xs ww) (hg : (ww.alloc o).grownBy w' v.ownBlock) (ho : w'.ownsRow (N + 1) E sz v' n' xs') : SKeep w0 N E sz v' n' xs' w' := by
  obtain ⟨h1, h2, h3⟩ := h
  have hz := hg.size
  have hl := h2.lt
  simp only [World.size_alloc] at hz
  have hb : ∀ k, k ≤ N → w'.heap[k]? = ww.heap[k]? := fun k hk => (hg.block k (by simp; omega) (fun e => by have := (h1.lt k e.symm).1; omega)).trans (Below.heap_alloc ww o k (by omega))
  exact ⟨ho, h2.keep (by omega) hb, h3.trans ⟨hg.os, hg.tape, hg.output, by omega, fun k hk => hb k (by omega)⟩⟩
end
theorem sum_set (l : List Int) (j : Nat) (hj : j < l.length) (d : Int) : (l.set j (l[j] + d)).sum = l.sum + d := by
  induction l generalizing j with
  | nil => simp at hj
  | cons a l ih =>
    cases j with
    | zero => simp; omega
    | succ j =>
      have := ih j (by simpa using hj)
      simp only [List.set_cons_succ, List.sum_cons, List.getElem_cons_succ, this]
      omega
theorem sum_nonneg (l : List Int) (h : ∀ x ∈ l, 0 ≤ x) : 0 ≤ l.sum := by
  induction l with
  | nil => simp
  | cons a l ih =>
    have h1 := h a (by simp)
    have h2 := ih (fun x hx => h x (by simp [hx]))
    simp only [List.sum_cons]
    omega
theorem sum_le (l : List Int) (m : Int) (h : ∀ x ∈ l, x ≤ m) : l.sum ≤ l.length * m := by
  induction l with
  | nil => simp
  | cons a l ih =>
    have h1 := h a (by simp)
    have h2 := ih (fun x hx => h x (by simp [hx]))
    simp only [List.sum_cons, List.length_cons, Int.natCast_add, Int.add_mul]
    omega
/-- weights: not negative, small -/
def WOk (l : List Int) : Prop := ∀ x ∈ l, 0 ≤ x ∧ x ≤ 8
def WHead (w0 : World) (N : Nat) (v i : Value) (wr : World) : Prop := ∃ l : List Int, i = .int .i64 (l.length : Int) ∧ WOk l ∧ SKeep w0 N 2 1 v l.length (l.map (Value.int .i64)) wr
theorem info2 : (Try.prog.info? 2).map (fun i => (i.zero, i.size, i.bytes)) = some (some (.int .i64 0), 1, 8) := by kernel_rfl
/-- what Weights returns -/
def WeightsPost (n : Nat) (w : World) (e : Ending) (w' : World) : Prop :=
  ∃ (v : Value) (l : List Int), e = .returned v ∧ l.length = n ∧ (∀ x ∈ l, 0 ≤ x ∧ x ≤ 9) ∧ 1 ≤ l.sum ∧ w'.ownsRow w.heap.size 2 1 v l.length (l.map (Value.int .i64)) ∧ Below w.heap.size w w'

theorem weights_any (n : Nat) (A : Option Addr) (l : List Int) (c : Nat) (w : World) (hs : SlN w A l) (hm : l.length ≤ 9223372036854775807) (hn1 : 1 ≤ n) (hn8 : n ≤ 1000) :
    Calls Try.prog 46 #[.int .i64 n, .slice A l.length c] w (WeightsPost n w) := by
  have H1 := Src.new c hs hm
  obtain ⟨i0, hi0, hz0, hz1, hz2⟩ := info_parts info2
  clear hs
  go_enter Try.func46, Try.ntmps46
  go_wp2_with fail
  refine (from_any _ _ _ _).mono ?_
  rintro e w1 ⟨rfl, rfl⟩
  have HK : SKeep w w.heap.size 2 1 (.slice none 0 0) 0 [] (w.alloc (.cells #[.slice A l.length c, .int .i64 0] 142)) := ⟨World.ownsRow_nil _ _ _ _, H1, (Below.refl _ _).alloc (Nat.le_refl _) _⟩
  clear H1
  go_wp2_with fail
  go_loopw [6, 7] (fun v i wr => (∃ k : Int, i = .int .i64 k ∧ k ≤ n) ∧ WHead w w.heap.size v i wr) (fun _ i _ => n - (intOf i).toNat)
  case atStart => exact ⟨⟨0, rfl, by omega⟩, [], rfl, by simp [WOk], HK⟩
  case round =>
    clear HK
    obtain ⟨⟨k, rfl, hkn⟩, ws, hk, hok, HK⟩ := hrel
    injection hk with _ hk
    subst hk
    have OK := hide hok; clear hok
    by_cases hlt : ws.length < n
    · go_wp2_with fail
      refine (next_any _ _ _ HK.src (by omega) (by omega)).mono ?_
      rintro e w2 ⟨x, hx1, hx2, rfl, S2, G2⟩
      have K2 := HK.grown G2 S2
      clear HK S2 G2
      go_wp2_with (at_builtin; refine wpList_append_own _ rfl _ _ 22 rfl (w.heap.size + 1) 2 i0 _ 1 8 Try.underlying22 hi0 hz0 hz1 hz2 rfl (by decide) u6 ws.length (ws.map (Value.int .i64)) rfl (K2.own.alloc _) ⟨w2.heap.size, 0, none⟩ 1 1 [.int .i64 x] rfl rfl ?c1 ?c2 ?c3 ?c4 ?c5 ?_)
      case c1 => exact news_at (heap_alloc_new w2 _)
      case c2 => simp [Value.oneCell']
      case c3 => unfold maxLen; omega
      case c4 => omega
      case c5 => have := K2.src.lt; simp; omega
      intro v' w9 hown9 hg9 _
      have K9 := K2.append hg9 hown9
      clear hg9 hown9 K2
      go_wp2_with fail
      go_roundw
      case rel => exact ⟨⟨_, rfl, by omega⟩, ws ++ [x], by simp, fun y hy => by rcases List.mem_append.1 hy with h | h; exact OK.out y h; simp at h; subst h; exact ⟨hx1, by omega⟩, by simpa using K9⟩
      case measure => simp [intOf] <;> omega
    · have hlen : ws.length = n := by omega
      subst hlen
      obtain ⟨g, cap, hv, hbg, hgl, hnc, hcm⟩ := own_form HK.own (by omega)
      subst hv
      go_wp2_with fail
      refine (next_any _ _ _ HK.src (by omega) (by omega)).mono ?_
      rintro e w2 ⟨x, hx1, hx2, rfl, S2, G2⟩
      have K2 := HK.grown G2 S2
      clear HK S2 G2
      obtain ⟨j, rfl⟩ : ∃ j : Nat, x = (j : Int) := ⟨x.toNat, by omega⟩
      have hj : j < ws.length := by omega
      have hcell : w2.cell? ⟨g, j, none⟩ = some (.int .i64 ws[j]) := by rw [K2.own.cellAt j (by omega)]; simp [hj]
      have hfr := K2.own.frozenAt j
      have hw := OK.out ws[j] (by simp)
      go_wp2_with fail
      go_ret
      have hl : (ws.set j (ws[j] + 1)).length = ws.length := by simp
      refine ⟨_, ws.set j (ws[j] + 1), rfl, hl, ?_, ?_, ?_, ?_⟩
      · intro y hy
        rcases List.mem_or_eq_of_mem_set hy with h | h
        · have := OK.out y h; omega
        · omega
      · have := sum_nonneg ws (fun y hy => (OK.out y hy).1)
        rw [sum_set ws j hj]
        omega
      · rw [hl, List.map_set]
        exact own_mono (K2.own.stored j _).1 (by omega)
      · exact K2.bel.setCell (by simp; omega) _
theorem take_sum (l : List Int) (k : Nat) (h : k < l.length) : (l.take (k + 1)).sum = (l.take k).sum + l[k] := by
  rw [List.take_succ_eq_append_getElem h, List.sum_append]
  simp
theorem take_sum_bd (l : List Int) (m : Int) (hl : ∀ x ∈ l, -m ≤ x ∧ x ≤ m) (k : Nat) (h : k ≤ l.length) : -(k * m) ≤ (l.take k).sum ∧ (l.take k).sum ≤ k * m := by
  induction k with
  | zero => simp
  | succ k ih =>
    have := ih (by omega)
    have hx := hl l[k] (by simp)
    rw [take_sum l k (by omega)]
    simp only [Int.natCast_add, Int.add_mul]
    omega
/-- armplanmake.Total -/
theorem total_any (A : Option Addr) (l : List Int) (c : Nat) (w : World) (hs : SlN w A l) (hl : ∀ x ∈ l, -1099511627776 ≤ x ∧ x ≤ 1099511627776) (hn : l.length ≤ 1000) :
    Calls Try.prog 53 #[.slice A l.length c] w fun e w' => e = .returned (.int .i64 l.sum) ∧ w = w' := by
  have HS := hide hs; have HL := hide hl
  clear hs hl
  go_enter Try.func53, Try.ntmps53
  go_wp2_with fail
  go_loop [3, 4] (fun t i => ∃ k : Nat, k ≤ l.length ∧ i = .int .i64 k ∧ t = .int .i64 (l.take k).sum) (fun _ i => l.length - (intOf i).toNat)
  case atStart => exact ⟨0, by omega, rfl, by simp⟩
  case round =>
    obtain ⟨k, hk, rfl, rfl⟩ := hrel
    have hb := take_sum_bd l 1099511627776 HL.out k hk
    by_cases hlt : k < l.length
    · obtain ⟨b, off, rfl, hb0⟩ := HS.out.addr (by omega)
      have hc := HS.out.at_ hlt
      have hx := HL.out l[k] (by simp)
      have T := hide (take_sum l k hlt)
      go_wp2
      go_round
      case rel => exact ⟨k + 1, by omega, by simp, by rw [T.out]⟩
      case measure => simp [intOf] <;> omega
    · go_wp2
      go_ret
      exact ⟨ret_int (by rw [List.take_of_length_le (by omega)]), rfl⟩
/-- append onto a row of the call's own of a slice that reads as 'news', be it nil, empty or not -/
theorem run_append_sl {P : Program} (w : World) (base : Nat) (t ty e : TypeId) (i : TypeInfo) (z : Value) (size bytes : Nat) (ht : P.underlying t = some (.slice e)) (hi : P.info? e = some i) (hz : i.zero = some z)
    (hsize : i.size = size) (hby : i.bytes = bytes) (hzs : z.cells.size = size) (hsz : 0 < size) (v : Value) (n : Nat) (xs : List Value) (hown : w.ownsRow base e size v n xs)
    (A : Option Addr) (m c : Nat) (news : List Value) (hl : news.length = m * size) (hsl : Sl w A news) (h1 : ∀ u ∈ news, u.oneCell' = true)
    (h63 : n + m ≤ maxLen) (hbytes : (n + m) * bytes ≤ 140737488355328) (hbase : base ≤ w.heap.size) :
    ∃ v' w', (Builtin.append_ #[t, t] ty #[v, .slice A m c]).run P w = .ok v' w' ∧ w'.ownsRow base e size v' (n + m) (xs ++ news) ∧ w.grownBy w' v.ownBlock := by
  rcases A with _ | ad
  · have hn : news = [] := by
      rcases news with _ | ⟨u, r⟩
      · rfl
      · obtain ⟨b, off, h, _⟩ := hsl (by simp); cases h
    subst hn
    have hm : m = 0 := by
      rcases Nat.eq_zero_or_pos m with h | h
      · exact h
      · have := Nat.mul_pos h hsz; simp at hl; omega
    subst hm
    refine ⟨v, w, ?_, by simpa using hown, World.grownBy.refl w _⟩
    rcases hown.2 with ⟨rfl, rfl⟩ | ⟨g, cap, cur, rfl, _, _, hnc, _⟩
    · simp [Builtin.append_, run_underlying ht, sizeOf, typeInfo, hi, Builtin.lenOf, Builtin.firstCells]
    · simp [Builtin.append_, run_underlying ht, sizeOf, typeInfo, hi, Builtin.lenOf, Builtin.firstCells, hnc, storeCells]
  · obtain ⟨v', w', hr, h2, h3, _⟩ := run_append_own (P := P) w base t ty e i z size bytes ht hi hz hsize hby hzs hsz v n xs hown ad m c news hl (fun j u hu => by
      obtain ⟨b, off, h, _, hc⟩ := hsl (by rintro rfl; simp at hu)
      injection h with h
      subst h
      have e : ((⟨b, off, none⟩ : Addr).add j) = ⟨b, off + j, none⟩ := by unfold Addr.add; split <;> simp_all
      rw [e]
      exact hc j u hu) h1 h63 hbytes hbase
    exact ⟨v', w', hr, h2, h3⟩
theorem wpList_append_sl {P : Program} (w : World) {ops : Array Oper} {rest : List Oper} {o : Oper} {a : Act} {Q : Exit → Act → World → Prop} (hgd : o.guard = none) (s x : Operand) (t : TypeId)
    (ho : o.op = .call { callee := .builtin .append, args := #[s, x], argTypes := #[t, t] })
    (base : Nat) (e : TypeId) (i : TypeInfo) (z : Value) (size bytes : Nat) (ht : P.underlying t = some (.slice e)) (hi : P.info? e = some i) (hz : i.zero = some z)
    (hsize : i.size = size) (hby : i.bytes = bytes) (hzs : z.cells.size = size) (hsz : 0 < size) (v : Value) (n : Nat) (xs : List Value) (hs : a.eval s = v) (hown : w.ownsRow base e size v n xs)
    (A : Option Addr) (m c : Nat) (news : List Value) (hx : a.eval x = .slice A m c) (hl : news.length = m * size) (hsl : Sl w A news) (h1 : ∀ u ∈ news, u.oneCell' = true)
    (h63 : n + m ≤ maxLen) (hbytes : (n + m) * bytes ≤ 140737488355328) (hbase : base ≤ w.heap.size)
    (h : ∀ v' w', w'.ownsRow base e size v' (n + m) (xs ++ news) → w.grownBy w' v.ownBlock → wpList P ops Q rest (a.put o.dst v') w') : wpList P ops Q (o :: rest) a w := by
  obtain ⟨v', w', hr, h2, h3⟩ := run_append_sl (P := P) w base t o.type e i z size bytes ht hi hz hsize hby hzs hsz v n xs hown A m c news hl hsl h1 h63 hbytes hbase
  refine wpList_plain hgd fun K hK => ?_
  unfold Oper.wp execOp
  simp only [ho, resolve, invoke, builtin, Sem.run_bind, Sem.run_pure, Result.andThen_ok, List.map_toArray, List.map_cons, List.map_nil, hs, hx, hr]
  exact hK _ _ (h v' w' h2 h3)
theorem own_sl {w : World} {base : Nat} {e : TypeId} {sz n : Nat} {A : Option Addr} {c : Nat} {xs : List Value} (h : w.ownsRow base e sz (.slice A n c) n xs) : Sl w A xs := by
  intro hx
  rcases h.2 with ⟨h1, h0⟩ | ⟨g, cap, cur, e1, e2, e3, e4, e5, e6, e7⟩
  · have := h.1
    subst h0
    simp at this
    exact absurd this hx
  · injection e1 with e1 _
    subst e1
    have hg : g < w.heap.size := by
      rcases Nat.lt_or_ge g w.heap.size with hlt | hge
      · exact hlt
      · rw [Array.getElem?_eq_none hge] at e3; cases e3
    refine ⟨g, 0, rfl, hg, fun j u hu => ?_⟩
    have := h.cells (g := g) rfl j u hu
    have e : ((⟨g, 0, none⟩ : Addr).add j) = ⟨g, 0 + j, none⟩ := by unfold Addr.add; split <;> simp_all
    rw [e] at this
    exact this
/-- the value of a row that is owned -/
theorem own_val {w : World} {base : Nat} {e : TypeId} {sz n : Nat} {v : Value} {xs : List Value} (h : w.ownsRow base e sz v n xs) : ∃ A c, v = .slice A n c ∧ n ≤ c ∧ c ≤ maxLen ∧ (∀ b off, A = some ⟨b, off, none⟩ → base ≤ b ∧ b < w.heap.size) := by
  rcases h.2 with ⟨h1, h0⟩ | ⟨g, cap, cur, e1, e2, e3, e4, e5, e6, e7⟩
  · subst h0
    exact ⟨none, 0, h1, Nat.le_refl _, Nat.zero_le _, fun b off h => by cases h⟩
  · refine ⟨_, cap, e1, e4, e5, fun b off h => ?_⟩
    injection h with h
    injection h with h
    subst h
    refine ⟨e2, ?_⟩
    rcases Nat.lt_or_ge g w.heap.size with hlt | hge
    · exact hlt
    · rw [Array.getElem?_eq_none hge] at e3; cases e3
end Go.Proofs.Ytionbckpgfaneaa
/- Walks, part e: equal. -/
namespace Go.Proofs.Ytionbckpgfaneaa
open Go.RowKit
set_option maxHeartbeats 400000
set_option maxRecDepth 100000
theorem info3 : (Try.prog.info? 3).map (fun i => (i.zero, i.size, i.bytes)) = some (some (.int .i64 0), 1, 8) := by kernel_rfl
theorem own_below {w w' : World} {base : Nat} {e : TypeId} {sz n : Nat} {v : Value} {xs : List Value} (h : w.ownsRow base e sz v n xs) (hb : Below w.heap.size w w') : w'.ownsRow base e sz v n xs :=
  h.kept (row := none) ⟨hb.os, hb.tape, hb.output, hb.size, fun k hk _ => hb.block k hk⟩ (by rcases v.ownBlock with _ | g <;> simp)
/-- what equal returns: weights for both lists with the same sum -/
def EqualPost (n k : Nat) (w : World) (e : Ending) (w' : World) : Prop :=
  ∃ (v u : Value) (s t : List Int), e = .returned (.tuple #[v, u]) ∧ s.length = n ∧ t.length = k ∧ (∀ x ∈ s, 0 ≤ x ∧ x ≤ 9009) ∧ (∀ x ∈ t, 0 ≤ x ∧ x ≤ 9009) ∧ s.sum = t.sum ∧ 1 ≤ s.sum ∧ s.sum ≤ 9000 ∧
    w'.ownsRow w.heap.size 2 1 v n (s.map (Value.int .i64)) ∧ w'.ownsRow w.heap.size 2 1 u k (t.map (Value.int .i64)) ∧ Below w.heap.size w w'
theorem equal_any (n k : Nat) (A : Option Addr) (l : List Int) (c : Nat) (w : World) (hs : SlN w A l) (hm : l.length ≤ 1048576) (hn1 : 1 ≤ n) (hn8 : n ≤ 1000) (hk1 : 1 ≤ k) (hk8 : k ≤ 1000) :
    Calls Try.prog 42 #[.int .i64 n, .int .i64 k, .slice A l.length c] w (EqualPost n k w) := by
  obtain ⟨i0, hi0, hz0, hz1, hz2⟩ := info_parts info3
  go_enter Try.func42, Try.ntmps42
  go_wp2_with fail
  refine (weights_any n A l c _ hs (by omega) hn1 hn8).mono ?_
  rintro e w1 ⟨v, s, rfl, rfl, hs9, hsum, hown, hb1⟩
  have hs1 : SlN w1 A l := hs.below hb1
  have hz1w := hb1.size
  go_wp2_with (first
    | (at_builtin; have _t := hown2; refine wpList_append_sl _ rfl _ _ 24 rfl w1.heap.size 3 i0 _ 1 8 Try.underlying24 hi0 hz0 hz1 hz2 rfl (by decide) v2 (0 + l.length) ([] ++ l.map (Value.int .i64)) rfl hown2 A l.length c (l.map (Value.int .i64)) rfl (by simp) hs2 (by simp [Value.oneCell']) (by unfold maxLen; omega) (by omega) (by omega) ?_; intro v3 w3 hown3 hg3; clear _t)
    | (at_builtin; refine wpList_append_sl _ rfl _ _ 24 rfl w1.heap.size 3 i0 _ 1 8 Try.underlying24 hi0 hz0 hz1 hz2 rfl (by decide) (.slice none 0 0) 0 [] rfl (World.ownsRow_nil _ _ _ _) A l.length c (l.map (Value.int .i64)) rfl (by simp) hs1 (by simp [Value.oneCell']) (by unfold maxLen; omega) (by omega) (Nat.le_refl _) ?_; intro v2 w2 hown2 hg2; have hb2 : Below w1.heap.size w1 w2 := ⟨hg2.os, hg2.tape, hg2.output, hg2.size, fun k hk => hg2.block k hk (by simp [Value.ownBlock])⟩; have hs2 : SlN w2 A l := hs1.below hb2; have hz2w := hb2.size))
  have hb3 : Below w1.heap.size w1 w3 := hb2.grown hg3 hz2w (fun g hg => (hown2.lt g hg).1)
  have hz3w := hb3.size
  have hown3' : w3.ownsRow w1.heap.size 3 1 v3 (l ++ l).length ((l ++ l).map (Value.int .i64)) := by simpa using hown3
  obtain ⟨A3, c3, hv3, _, _, hA3⟩ := own_val hown3'
  rw [hv3] at hown3' ⊢
  have hs3 : SlN w3 A3 (l ++ l) := own_sl hown3'
  refine (weights_any k A3 (l ++ l) c3 _ hs3 (by simp; omega) hk1 hk8).mono ?_
  rintro e w4 ⟨u, t, rfl, rfl, ht9, htsum, hownu, hb4⟩
  have hown' : w3.ownsRow w.heap.size 2 1 v s.length (s.map (Value.int .i64)) := own_below hown hb3
  have hownv : w4.ownsRow w.heap.size 2 1 v s.length (s.map (Value.int .i64)) := own_below hown' hb4
  obtain ⟨g1, c1, rfl, hg1, hg1', _, _⟩ := own_form hown (by omega)
  obtain ⟨g2, c2, rfl, hg2a, hg2', _, _⟩ := own_form hownu (by omega)
  clear hs1 hs2 hs3 hown2 hown3 hown3' hg2 hg3 hs hA3 hv3 hown hown'
  have hz4w := hb4.size
  have hbw : Below w.heap.size w w4 := (hb1.trans (hb3.mono (by omega))).trans (hb4.mono (by omega))
  clear hb1 hb2 hb3 hb4
  go_wp2_with fail
  refine (total_any (some ⟨g1, 0, none⟩) s c1 _ (own_sl hownv) (fun x hx => by have := hs9 x hx; omega) (by omega)).mono ?_
  rintro e w5 ⟨rfl, rfl⟩
  go_wp2_with fail
  refine (total_any (some ⟨g2, 0, none⟩) t c2 _ (own_sl hownu) (fun x hx => by have := ht9 x hx; omega) (by omega)).mono ?_
  rintro e w6 ⟨rfl, rfl⟩
  have s1 := sum_le s 9 (fun x hx => (hs9 x hx).2)
  have t1 := sum_le t 9 (fun x hx => (ht9 x hx).2)
  have cs0 : w4.cell? ⟨g1, 0, none⟩ = some (.int .i64 (s[0]'(by omega))) := by rw [hownv.cellAt 0 (by omega)]; simp
  have ct0 : w4.cell? ⟨g2, 0, none⟩ = some (.int .i64 (t[0]'(by omega))) := by rw [hownu.cellAt 0 (by omega)]; simp
  have fs0 := hownv.frozenAt 0
  have ft0 := hownu.frozenAt 0
  have xs0 := hs9 (s[0]'(by omega)) (by simp)
  have xt0 := ht9 (t[0]'(by omega)) (by simp)
  have HV := hide hownv; have HU := hide hownu; have HB := hide hbw; have H9 := hide hs9; have T9 := hide ht9
  clear hownv hownu hbw hs9 ht9
  by_cases hd : s.sum - t.sum < 0
  · go_wp2_with fail
    go_ret2
    have e1 := sum_set s 0 (by omega) (-(s.sum - t.sum))
    rw [← Int.sub_eq_add_neg] at e1
    refine ⟨_, _, s.set 0 (s[0]'(by omega) - (s.sum - t.sum)), t, rfl, by simp, rfl, ?_, fun x hx => by have := T9.out x hx; omega, by omega, by omega, by omega, ?_, ?_, ?_⟩
    · intro y hy
      rcases List.mem_or_eq_of_mem_set hy with h | h
      · have := H9.out y h; omega
      · omega
    · rw [List.map_set]
      exact (HV.out.stored 0 _).1
    · exact own_mono (HU.out.kept (grown_set w4 g1 0 _) (by right; simp [Value.ownBlock]; omega)) (by omega)
    · exact HB.out.setCell (by simp; omega) _
  · go_wp2_with fail
    go_ret2
    have e1 := sum_set t 0 (by omega) (s.sum - t.sum)
    refine ⟨_, _, s, t.set 0 (t[0]'(by omega) + (s.sum - t.sum)), rfl, rfl, by simp, fun x hx => by have := H9.out x hx; omega, ?_, by omega, by omega, by omega, ?_, ?_, ?_⟩
    · intro y hy
      rcases List.mem_or_eq_of_mem_set hy with h | h
      · have := T9.out y h; omega
      · omega
    · exact HV.out.kept (grown_set w4 g2 0 _) (by right; simp [Value.ownBlock]; omega)
    · rw [List.map_set]
      exact own_mono (HU.out.stored 0 _).1 (by omega)
    · exact HB.out.setCell (by simp; omega) _
end Go.Proofs.Ytionbckpgfaneaa
/- Walks, part f: Placed. -/
namespace Go.Proofs.Ytionbckpgfaneaa
open Go.RowKit
set_option maxHeartbeats 1000000
set_option maxRecDepth 100000
theorem index44_0 (x0 x1 x2 x3 x4 x5 : Value) (w : World) : (Instr.index 44 (.agg #[x0, x1, x2, x3, x4, x5]) (.int .i64 0)).run Try.prog w = .ok (.agg #[x0, x1]) w := by kernel_rfl
theorem index44_1 (x0 x1 x2 x3 x4 x5 : Value) (w : World) : (Instr.index 44 (.agg #[x0, x1, x2, x3, x4, x5]) (.int .i64 1)).run Try.prog w = .ok (.agg #[x2, x3]) w := by kernel_rfl
theorem index44_2 (x0 x1 x2 x3 x4 x5 : Value) (w : World) : (Instr.index 44 (.agg #[x0, x1, x2, x3, x4, x5]) (.int .i64 2)).run Try.prog w = .ok (.agg #[x4, x5]) w := by kernel_rfl
theorem index47_0 (x0 x1 x2 : Value) (w : World) : (Instr.index 47 (.agg #[x0, x1, x2]) (.int .i64 0)).run Try.prog w = .ok x0 w := by kernel_rfl
theorem index47_1 (x0 x1 x2 : Value) (w : World) : (Instr.index 47 (.agg #[x0, x1, x2]) (.int .i64 1)).run Try.prog w = .ok x1 w := by kernel_rfl
theorem index47_2 (x0 x1 x2 : Value) (w : World) : (Instr.index 47 (.agg #[x0, x1, x2]) (.int .i64 2)).run Try.prog w = .ok x2 w := by kernel_rfl
attribute [local go_sem] index44_0 index44_1 index44_2
/-- a placed interval -/
def Iv.ok (x : Iv) : Bool := decide (-268435456 ≤ x.lo ∧ x.lo ≤ x.hi ∧ x.hi ≤ 268435456)
def IV.ok (v : IV) : Bool := v.x.ok && v.y.ok && v.z.ok
def placedB (l : List IV) : Bool := decide (1 ≤ l.length) && decide (l.length ≤ 8) && l.all IV.ok
theorem placed_bad (l : List IV) (h : l.length < 1 ∨ 8 < l.length) : false = placedB l := by
  unfold placedB
  rcases h with h | h
  · simp [show ¬ 1 ≤ l.length by omega]
  · simp [show ¬ l.length ≤ 8 by omega]
theorem placed_not (l : List IV) (k : Nat) (hk : k < l.length) (h : l[k].ok = false) : false = placedB l := by
  unfold placedB
  have : l.all IV.ok = false := by
    rw [List.all_eq_false]
    exact ⟨l[k], by simp, by simp [h]⟩
  simp [this]
theorem placed_yes (l : List IV) (h1 : 1 ≤ l.length) (h8 : l.length ≤ 8) (h : ∀ j (hj : j < l.length), l[j].ok = true) : true = placedB l := by
  unfold placedB
  have : l.all IV.ok = true := by
    rw [List.all_eq_true]
    intro x hx
    obtain ⟨j, hj, rfl⟩ := List.getElem_of_mem hx
    exact h j hj
  simp [this, h1, h8]
theorem ok_not (v : IV) (h : ¬ (-268435456 ≤ v.x.lo ∧ v.x.lo ≤ v.x.hi ∧ v.x.hi ≤ 268435456) ∨ ¬ (-268435456 ≤ v.y.lo ∧ v.y.lo ≤ v.y.hi ∧ v.y.hi ≤ 268435456) ∨ ¬ (-268435456 ≤ v.z.lo ∧ v.z.lo ≤ v.z.hi ∧ v.z.hi ≤ 268435456)) : v.ok = false := by
  unfold IV.ok Iv.ok
  rcases h with h | h | h <;> simp [h]
theorem ok_yes (v : IV) (h1 : -268435456 ≤ v.x.lo ∧ v.x.lo ≤ v.x.hi ∧ v.x.hi ≤ 268435456) (h2 : -268435456 ≤ v.y.lo ∧ v.y.lo ≤ v.y.hi ∧ v.y.hi ≤ 268435456) (h3 : -268435456 ≤ v.z.lo ∧ v.z.lo ≤ v.z.hi ∧ v.z.hi ≤ 268435456) : v.ok = true := by
  unfold IV.ok Iv.ok
  simp [h1, h2, h3]
/-- shape.Placed -/
theorem placed_any (A : Option Addr) (l : List IV) (c : Nat) (w : World) (hs : SlI w A l) (hm : l.length ≤ 9223372036854775807) :
    Calls Try.prog 114 #[.slice A l.length c] w fun e w' => e = .returned (.bool (placedB l)) ∧ Below w.heap.size w w' := by
  have HS := hide hs
  clear hs
  by_cases hbad : l.length < 1 ∨ 8 < l.length
  · have H := hide (placed_bad l hbad)
    rcases hbad with h | h
    · go_enter Try.func114, Try.ntmps114
      go_wp2
      go_ret
      exact ⟨ret_bool H.out, Below.refl _ _⟩
    · have h1 : ¬ l.length < 1 := by omega
      go_enter Try.func114, Try.ntmps114
      go_wp2
      go_ret
      exact ⟨ret_bool H.out, Below.refl _ _⟩
  · have hn1 : 1 ≤ l.length := by omega
    have hn8 : l.length ≤ 8 := by omega
    clear hbad
    obtain ⟨b, off, rfl, hbb⟩ := HS.out.addr (by omega)
    go_enter Try.func114, Try.ntmps114
    go_wp2
    go_loopw [17] (fun i wr => ∃ k : Nat, k ≤ l.length ∧ i = .int .i64 k ∧ (∀ j (_ : j < k) (h' : j < l.length), l[j].ok = true) ∧ Below w.heap.size w wr) (fun i _ => l.length - (intOf i).toNat)
    case atStart => exact ⟨0, Nat.zero_le _, rfl, fun j h => absurd h (by omega), Below.refl _ _⟩
    case round =>
      obtain ⟨k, hk, rfl, hok, hb⟩ := hrel
      have HO := hide hok; have HB := hide hb
      clear hok hb
      by_cases hlt : k < l.length
      · obtain ⟨h0, h1, h2, h3, h4, h5⟩ := (HS.out.below HB.out).at_ hlt
        go_wp2
        go_rounds 4
        all_goals first
          | (go_ret; refine ⟨ret_bool (placed_not l k hlt (ok_not _ (by omega))), ?_⟩; refine HB.out.trans ?_; have := HB.out.size; go_grown)
          | (go_roundw
             case rel => exact ⟨k + 1, by omega, by simp, fun j hj hj' => by
               rcases Nat.lt_or_ge j k with h | h
               · exact HO.out j h hj'
               · obtain rfl : j = k := by omega
                 exact ok_yes _ (by omega) (by omega) (by omega), by refine HB.out.trans ?_; have := HB.out.size; go_grown⟩
             case measure => simp [intOf] <;> omega)
      · go_wp2
        go_ret
        exact ⟨ret_bool (placed_yes l hn1 hn8 (fun j hj => HO.out j (by omega) hj)), HB.out⟩
end Go.Proofs.Ytionbckpgfaneaa
/- Walks, part g: reached, the references' Placed. -/
namespace Go.Proofs.Ytionbckpgfaneaa
open Go.RowKit
set_option maxHeartbeats 1000000
set_option maxRecDepth 100000
attribute [local go_sem] index44_0 index44_1 index44_2
theorem below_drewN {B : Nat} {a w : World} (h : Below B a w) (n : Nat) : Below B a (w.drewN n) := ⟨h.os, h.tape, h.output, h.size, h.block⟩
theorem cls (a : Iv) : (decide (a.lo < -268435456) = true) ∨ (decide (a.lo < -268435456) = false ∧ decide (a.hi < a.lo) = true) ∨ (decide (a.lo < -268435456) = false ∧ decide (a.hi < a.lo) = false ∧ decide (268435456 < a.hi) = true) ∨ (decide (a.lo < -268435456) = false ∧ decide (a.hi < a.lo) = false ∧ decide (268435456 < a.hi) = false) := by
  by_cases h1 : a.lo < -268435456
  · simp [h1]
  · by_cases h2 : a.hi < a.lo
    · simp [h1, h2]
    · by_cases h3 : 268435456 < a.hi
      · simp [h1, h2, h3]
      · simp [h1, h2, h3]
/-- armplanref10.reached -/
theorem reached_any (v : IV) (w : World) :
    Calls Try.prog 145 #[v.v] w fun e w' => e = .returned (.bool v.ok) ∧ Below w.heap.size w w' := by
  unfold IV.v
  go_enter Try.func145, Try.ntmps145
  go_wp2
  go_loopw [3] (fun i wr => ∃ k : Int, i = .int .i64 k ∧ 0 ≤ k ∧ k ≤ 3 ∧ (0 < k → v.x.ok = true) ∧ (1 < k → v.y.ok = true) ∧ (2 < k → v.z.ok = true) ∧ ∃ n, wr = (w.alloc (.cells #[.int .i64 v.x.lo, .int .i64 v.x.hi, .int .i64 v.y.lo, .int .i64 v.y.hi, .int .i64 v.z.lo, .int .i64 v.z.hi] 44)).drewN n) (fun i _ => 3 - (intOf i).toNat)
  case atStart => exact ⟨0, rfl, by omega, by omega, by omega, by omega, by omega, 0, rfl⟩
  case round =>
    obtain ⟨k, rfl, hk0, hk3, p0, p1, p2, n, rfl⟩ := hrel
    have P0 := hide p0; have P1 := hide p1; have P2 := hide p2
    clear p0 p1 p2
    obtain rfl | rfl | rfl | rfl : k = 0 ∨ k = 1 ∨ k = 2 ∨ k = 3 := by omega
    · rcases cls v.x with d1 | ⟨d1, d2⟩ | ⟨d1, d2, d3⟩ | ⟨d1, d2, d3⟩
      all_goals go_wp2
      all_goals go_quiet (fail)
      all_goals go_wp2
      all_goals first
        | (go_ret; refine ⟨ret_bool (ok_not v (by simp at d1; omega)).symm, ?_⟩; (refine below_drewN (below_drewN ?_ _) _; go_grown; done))
        | (go_ret; refine ⟨ret_bool (ok_not v (by simp at d1 d2; omega)).symm, ?_⟩; (refine below_drewN (below_drewN ?_ _) _; go_grown; done))
        | (go_ret; refine ⟨ret_bool (ok_not v (by simp at d1 d2 d3; omega)).symm, ?_⟩; (refine below_drewN (below_drewN ?_ _) _; go_grown; done))
        | (go_roundw
           case rel => exact ⟨1, rfl, by omega, by omega, fun _ => by simp at d1 d2 d3; simp [Iv.ok]; omega, fun h => absurd h (by omega), fun h => absurd h (by omega), _, rfl⟩
           case measure => simp [intOf])
    · rcases cls v.y with d1 | ⟨d1, d2⟩ | ⟨d1, d2, d3⟩ | ⟨d1, d2, d3⟩
      all_goals go_wp2
      all_goals go_quiet (fail)
      all_goals go_wp2
      all_goals first
        | (go_ret; refine ⟨ret_bool (ok_not v (by simp at d1; omega)).symm, ?_⟩; (refine below_drewN (below_drewN ?_ _) _; go_grown; done))
        | (go_ret; refine ⟨ret_bool (ok_not v (by simp at d1 d2; omega)).symm, ?_⟩; (refine below_drewN (below_drewN ?_ _) _; go_grown; done))
        | (go_ret; refine ⟨ret_bool (ok_not v (by simp at d1 d2 d3; omega)).symm, ?_⟩; (refine below_drewN (below_drewN ?_ _) _; go_grown; done))
        | (go_roundw
           case rel => exact ⟨2, rfl, by omega, by omega, fun _ => P0.out (by omega), fun _ => by simp at d1 d2 d3; simp [Iv.ok]; omega, fun h => absurd h (by omega), _, rfl⟩
           case measure => simp [intOf])
    · rcases cls v.z with d1 | ⟨d1, d2⟩ | ⟨d1, d2, d3⟩ | ⟨d1, d2, d3⟩
      all_goals go_wp2
      all_goals go_quiet (fail)
      all_goals go_wp2
      all_goals first
        | (go_ret; refine ⟨ret_bool (ok_not v (by simp at d1; omega)).symm, ?_⟩; (refine below_drewN (below_drewN ?_ _) _; go_grown; done))
        | (go_ret; refine ⟨ret_bool (ok_not v (by simp at d1 d2; omega)).symm, ?_⟩; (refine below_drewN (below_drewN ?_ _) _; go_grown; done))
        | (go_ret; refine ⟨ret_bool (ok_not v (by simp at d1 d2 d3; omega)).symm, ?_⟩; (refine below_drewN (below_drewN ?_ _) _; go_grown; done))
        | (go_roundw
           case rel => exact ⟨3, rfl, by omega, by omega, fun _ => P0.out (by omega), fun _ => P1.out (by omega), fun _ => by simp at d1 d2 d3; simp [Iv.ok]; omega, _, rfl⟩
           case measure => simp [intOf])
    · go_wp2
      go_ret
      refine ⟨ret_bool ?_, below_drewN (by go_grown) _⟩
      have h0 := P0.out (by omega); have h1 := P1.out (by omega); have h2 := P2.out (by omega)
      simp [IV.ok, h0, h1, h2]
/-- armplanref10.Placed -/
theorem placed_ref (A : Option Addr) (l : List IV) (c : Nat) (w : World) (hs : SlI w A l) (hm : l.length ≤ 9223372036854775807) :
    Calls Try.prog 130 #[.slice A l.length c] w fun e w' => e = .returned (.bool (placedB l)) ∧ Below w.heap.size w w' := by
  have HS := hide hs
  clear hs
  go_enter Try.func130, Try.ntmps130
  go_wp2_with fail
  go_loopw [3] (fun i wr => ∃ k : Nat, k ≤ l.length ∧ k ≤ 9 ∧ i = .int .i64 k ∧ (∀ j (_ : j < k) (h' : j < l.length), l[j].ok = true) ∧ Below w.heap.size w wr) (fun i _ => l.length - (intOf i).toNat)
  case atStart => exact ⟨0, Nat.zero_le _, Nat.zero_le _, rfl, fun j h => absurd h (by omega), Below.refl _ _⟩
  case round =>
    obtain ⟨k, hk, hk9, rfl, hok, hb⟩ := hrel
    have HO := hide hok; have HB := hide hb; have hz := hb.size
    clear hok hb
    by_cases hlt : k < l.length
    · by_cases h8 : k ≤ 8
      · obtain ⟨b, off, rfl, hbb⟩ := HS.out.addr (by omega)
        obtain ⟨h0, h1, h2, h3, h4, h5⟩ := (HS.out.below HB.out).at_ hlt
        go_wp2_with fail
        refine (reached_any l[k] _).mono ?_
        rintro e w1 ⟨rfl, hb1⟩
        have HB1 := hide hb1
        clear hb1
        cases hv : l[k].ok
        · go_wp2
          go_ret
          exact ⟨ret_bool (placed_not l k hlt hv), HB.out.trans (HB1.out.mono hz)⟩
        · have HV := hide hv
          go_wp2
          go_roundw
          case rel => exact ⟨k + 1, by omega, by omega, by simp, fun j hj hj' => by
               rcases Nat.lt_or_ge j k with h | h
               · exact HO.out j h hj'
               · obtain rfl : j = k := by omega
                 exact HV.out, HB.out.trans (HB1.out.mono hz)⟩
          case measure => simp [intOf] <;> omega
      · have hge : 8 < l.length := by omega
        have H := hide (placed_bad l (Or.inr hge))
        go_wp2
        all_goals
          go_ret
          exact ⟨ret_bool ((by simp; omega : decide ((l.length : Int) ≤ 8) = false).trans H.out), HB.out⟩
    · have hkl : k = l.length := by omega
      by_cases h1 : 1 ≤ l.length
      · by_cases h8 : l.length ≤ 8
        · have H := hide (placed_yes l h1 h8 (fun j hj => HO.out j (by omega) hj))
          clear hkl
          go_wp2
          all_goals
            go_ret
            exact ⟨ret_bool ((by simp; omega : decide ((l.length : Int) ≤ 8) = true).trans H.out), HB.out⟩
        · have H := hide (placed_bad l (Or.inr (by omega)))
          clear hkl
          go_wp2
          all_goals
            go_ret
            exact ⟨ret_bool ((by simp; omega : decide ((l.length : Int) ≤ 8) = false).trans H.out), HB.out⟩
      · have H := hide (placed_bad l (Or.inl (by omega)))
        clear hkl
        go_wp2
        all_goals
          go_ret
          exact ⟨ret_bool H.out, HB.out⟩
end Go.Proofs.Ytionbckpgfaneaa
/- Plain facts on weighted sums of boxes. -/
namespace Go.Proofs.Ytionbckpgfaneaa
open Go.RowKit
def dotL (ws xs : List Int) : Int := (List.zipWith (· * ·) ws xs).sum
/-- the weighted sum of boxes -/
def comb (l : List IV) (ws : List Int) : IV :=
  ⟨⟨dotL ws (l.map (·.x.lo)), dotL ws (l.map (·.x.hi))⟩, ⟨dotL ws (l.map (·.y.lo)), dotL ws (l.map (·.y.hi))⟩, ⟨dotL ws (l.map (·.z.lo)), dotL ws (l.map (·.z.hi))⟩⟩
def wOk (ws : List Int) : Bool := ws.all fun x => decide (0 ≤ x ∧ x ≤ 65536)
def combOk (l : List IV) (ws : List Int) : Bool := placedB l && decide (ws.length = l.length) && wOk ws && decide (1 ≤ ws.sum ∧ ws.sum ≤ 65536)
def zeroIV : IV := ⟨⟨0, 0⟩, ⟨0, 0⟩, ⟨0, 0⟩⟩
def combR (l : List IV) (ws : List Int) : Value := if combOk l ws then .tuple #[(comb l ws).v, .int .i64 ws.sum, .bool true] else .tuple #[zeroIV.v, .int .i64 0, .bool false]
theorem dotL_snoc (ws : List Int) (l : List IV) (f : IV → Int) (k : Nat) (h1 : k < ws.length) (h2 : k < l.length) :
    dotL (ws.take (k + 1)) ((l.take (k + 1)).map f) = dotL (ws.take k) ((l.take k).map f) + ws[k] * f l[k] := by
  unfold dotL
  rw [List.take_succ_eq_append_getElem h1, List.take_succ_eq_append_getElem h2, List.map_append, List.zipWith_append (by simp; omega), List.sum_append]
  simp
theorem mul_bd (a x A X : Int) (h0 : 0 ≤ a) (h1 : a ≤ A) (h2 : -X ≤ x) (h3 : x ≤ X) : -(A * X) ≤ a * x ∧ a * x ≤ A * X := by
  have hX : 0 ≤ X := by omega
  have e1 : a * x ≤ a * X := Int.mul_le_mul_of_nonneg_left h3 h0
  have e2 : a * X ≤ A * X := Int.mul_le_mul_of_nonneg_right h1 hX
  have e3 : a * (-X) ≤ a * x := Int.mul_le_mul_of_nonneg_left h2 h0
  rw [Int.mul_neg] at e3
  omega
theorem dotL_bd (ws : List Int) (l : List IV) (f : IV → Int) (k : Nat) (h1 : k ≤ ws.length) (h2 : k ≤ l.length) (hw : ∀ j (_ : j < k) (h : j < ws.length), 0 ≤ ws[j] ∧ ws[j] ≤ 65536) (hf : ∀ j (h : j < l.length), -268435456 ≤ f l[j] ∧ f l[j] ≤ 268435456) :
    -(k * 17592186044416) ≤ dotL (ws.take k) ((l.take k).map f) ∧ dotL (ws.take k) ((l.take k).map f) ≤ k * 17592186044416 := by
  induction k with
  | zero => simp [dotL]
  | succ k ih =>
    have := ih (by omega) (by omega) (fun j hj h => hw j (by omega) h)
    rw [dotL_snoc ws l f k (by omega) (by omega)]
    have w1 := hw k (by omega) (by omega)
    have f1 := hf k (by omega)
    have := mul_bd (ws[k]'(by omega)) (f (l[k]'(by omega))) 65536 268435456 w1.1 w1.2 f1.1 f1.2
    omega
def IvIn (a : Iv) (m : Int) : Prop := (-m ≤ a.lo ∧ a.lo ≤ m) ∧ (-m ≤ a.hi ∧ a.hi ≤ m)
def IVIn (v : IV) (m : Int) : Prop := IvIn v.x m ∧ IvIn v.y m ∧ IvIn v.z m
theorem ok_of {v : IV} (h : v.ok = true) : (-268435456 ≤ v.x.lo ∧ v.x.lo ≤ v.x.hi ∧ v.x.hi ≤ 268435456) ∧ (-268435456 ≤ v.y.lo ∧ v.y.lo ≤ v.y.hi ∧ v.y.hi ≤ 268435456) ∧ (-268435456 ≤ v.z.lo ∧ v.z.lo ≤ v.z.hi ∧ v.z.hi ≤ 268435456) := by
  simp [IV.ok, Iv.ok] at h
  omega
theorem placed_of {l : List IV} (h : placedB l = true) : 1 ≤ l.length ∧ l.length ≤ 8 ∧ ∀ j (hj : j < l.length), l[j].ok = true := by
  simp [placedB] at h
  exact ⟨h.1.1, h.1.2, fun j hj => h.2 _ (by simp)⟩
theorem comb_bd (ws : List Int) (l : List IV) (k : Nat) (h1 : k ≤ ws.length) (h2 : k ≤ l.length) (hp : placedB l = true) (hw : ∀ j (_ : j < k) (h : j < ws.length), 0 ≤ ws[j] ∧ ws[j] ≤ 65536) : IVIn (comb (l.take k) (ws.take k)) 140737488355328 := by
  obtain ⟨_, p8, p⟩ := placed_of hp
  have e (f : IV → Int) (hf : ∀ j (h : j < l.length), -268435456 ≤ f l[j] ∧ f l[j] ≤ 268435456) : -140737488355328 ≤ dotL (ws.take k) ((l.take k).map f) ∧ dotL (ws.take k) ((l.take k).map f) ≤ 140737488355328 := by
    have := dotL_bd ws l f k h1 h2 hw hf
    omega
  refine ⟨⟨e _ ?_, e _ ?_⟩, ⟨e _ ?_, e _ ?_⟩, ⟨e _ ?_, e _ ?_⟩⟩ <;> intro j hj <;> have := ok_of (p j hj) <;> omega
theorem comb_snoc (ws : List Int) (l : List IV) (k : Nat) (h1 : k < ws.length) (h2 : k < l.length) : comb (l.take (k + 1)) (ws.take (k + 1)) =
    ⟨⟨(comb (l.take k) (ws.take k)).x.lo + ws[k] * l[k].x.lo, (comb (l.take k) (ws.take k)).x.hi + ws[k] * l[k].x.hi⟩, ⟨(comb (l.take k) (ws.take k)).y.lo + ws[k] * l[k].y.lo, (comb (l.take k) (ws.take k)).y.hi + ws[k] * l[k].y.hi⟩, ⟨(comb (l.take k) (ws.take k)).z.lo + ws[k] * l[k].z.lo, (comb (l.take k) (ws.take k)).z.hi + ws[k] * l[k].z.hi⟩⟩ := by
  unfold comb
  rw [dotL_snoc ws l _ k h1 h2, dotL_snoc ws l _ k h1 h2, dotL_snoc ws l _ k h1 h2, dotL_snoc ws l _ k h1 h2, dotL_snoc ws l _ k h1 h2, dotL_snoc ws l _ k h1 h2]
theorem wOk_yes (ws : List Int) (h : ∀ j (h : j < ws.length), 0 ≤ ws[j] ∧ ws[j] ≤ 65536) : wOk ws = true := by
  unfold wOk
  rw [List.all_eq_true]
  intro x hx
  obtain ⟨j, hj, rfl⟩ := List.getElem_of_mem hx
  simpa using h j hj
theorem wOk_no (ws : List Int) (k : Nat) (hk : k < ws.length) (h : ¬ (0 ≤ ws[k] ∧ ws[k] ≤ 65536)) : wOk ws = false := by
  unfold wOk
  rw [List.all_eq_false]
  exact ⟨ws[k], by simp, by simpa using h⟩
theorem combR_no {l : List IV} {ws : List Int} (h : combOk l ws = false) : combR l ws = .tuple #[zeroIV.v, .int .i64 0, .bool false] := by simp [combR, h]
theorem combR_yes {l : List IV} {ws : List Int} (h : combOk l ws = true) : combR l ws = .tuple #[(comb l ws).v, .int .i64 ws.sum, .bool true] := by simp [combR, h]
theorem combOk_p {l : List IV} {ws : List Int} (h : placedB l = false) : combOk l ws = false := by simp [combOk, h]
theorem combOk_l {l : List IV} {ws : List Int} (h : ¬ ws.length = l.length) : combOk l ws = false := by simp [combOk, h]
theorem combOk_w {l : List IV} {ws : List Int} (h : wOk ws = false) : combOk l ws = false := by simp [combOk, h]
theorem combOk_s {l : List IV} {ws : List Int} (h : ¬ (1 ≤ ws.sum ∧ ws.sum ≤ 65536)) : combOk l ws = false := by simp [combOk, h]
theorem combOk_yes {l : List IV} {ws : List Int} (h1 : placedB l = true) (h2 : ws.length = l.length) (h3 : wOk ws = true) (h4 : 1 ≤ ws.sum ∧ ws.sum ≤ 65536) : combOk l ws = true := by simp [combOk, h1, h2, h3, h4]
end Go.Proofs.Ytionbckpgfaneaa
