/- Walks, part b: the source of numbers, and what is made out of it. -/
import Derived.Test.YtionbckpgfaneaaWa
import Derived.Deep.QuietTactic
import Derived.BigQuiet
namespace Go.Proofs.Ytionbckpgfaneaa
open Go.RowKit
set_option maxHeartbeats 400000
set_option maxRecDepth 100000
theorem quiet_same {P : Program} {f : FuncId} {args : Array Value} {w : World} {n : Nat} {v : Value}
    (h : Calls P f args (w.drewN n) fun e w' => e = .returned v ∧ w.drewN n = w') : Calls P f args (w.drewN n) fun e w'' => e = .returned v ∧ ∃ m, w'' = w.drewN m :=
  h.mono fun _ _ ⟨he, hm⟩ => ⟨he, n, hm.symm⟩
theorem quiet_add_same {P : Program} {f : FuncId} {args : Array Value} {w : World} {a n : Nat} {v : Value}
    (h : Calls P f args (w.drewN (a + n)) fun e w' => e = .returned v ∧ w.drewN (a + n) = w') :
    Calls P f args (w.drewN (a + n)) fun e w'' => e = .returned v ∧ ∃ m, w'' = w.drewN (a + m) :=
  h.mono fun _ _ ⟨he, hm⟩ => ⟨he, n, hm.symm⟩
/-- armplanmake.From -/
theorem from_any (A : Option Addr) (n c : Nat) (w : World) :
    Calls Try.prog 74 #[.slice A n c] w fun e w' => e = .returned (.pointer (some ⟨w.heap.size, 0, none⟩)) ∧ w' = w.alloc (.cells #[.slice A n c, .int .i64 0] 142) := by
  go_enter Try.func74, Try.ntmps74
  go_wp2
  go_ret
  exact ⟨rfl, rfl⟩
/-- (*Source).Next with numbers left -/
theorem next_some (B : Nat) (A : Option Addr) (l : List Int) (c nx : Nat) (k : Int) (w : World) (hk : 0 < k) (hk2 : k ≤ 9223372036854775807)
   (h0 : w.cell? ⟨B, 0, none⟩ = some (.slice A l.length c)) (h1 : w.cell? ⟨B, 1, none⟩ = some (.int .i64 nx)) (hf : w.frozen? ⟨B, 1, none⟩ = false) (hs : SlN w A l) (hm : l.length ≤ 9223372036854775807) (hlt : nx < l.length)
   (hne : ∀ b off, A = some ⟨b, off, none⟩ → b < B) :
    Calls Try.prog 75 #[.pointer (some ⟨B, 0, none⟩), .int .i64 k] w fun e w' => e = .returned (.int .i64 (l[nx] % k)) ∧ Like w' (w.setCell ⟨B, 1, none⟩ (.int .i64 (nx + 1 : Nat))) := by
  obtain ⟨b, off, rfl, hb⟩ := hs.addr (by omega)
  have hbB := hne b off rfl
  have hc := hs.at_ hlt
  clear hs hne
  have hlt' : (nx : Int) < (l.length : Int) := by omega
  go_enter Try.func75, Try.ntmps75
  go_wp2_with fail
  go_quiet (fail)
  go_wp2_with fail
  go_quiet ((go_at_call 50; exact quiet_same (round_any _ _ _ hk hk2)))
  go_wp2
  go_ret
  exact ⟨rfl, rfl, rfl, rfl, rfl⟩
theorem next_none (B : Nat) (A : Option Addr) (l : List Int) (c nx : Nat) (k : Int) (w : World)
   (h0 : w.cell? ⟨B, 0, none⟩ = some (.slice A l.length c)) (h1 : w.cell? ⟨B, 1, none⟩ = some (.int .i64 nx)) (hlt : l.length ≤ nx) :
    Calls Try.prog 75 #[.pointer (some ⟨B, 0, none⟩), .int .i64 k] w fun e w' => e = .returned (.int .i64 0) ∧ Like w' w := by
  have hlt' : (l.length : Int) ≤ (nx : Int) := by omega
  go_enter Try.func75, Try.ntmps75
  go_wp2_with fail
  go_quiet (fail)
  go_wp2_with fail
  go_ret
  exact ⟨rfl, rfl, rfl, rfl, rfl⟩
theorem pos_of {l : List Int} (h : l.map (Value.int .i64) ≠ []) : 0 < l.length := by
  rcases l with _ | ⟨a, l⟩
  · simp at h
  · simp
/-- a Source in block B: the list l, of which nx numbers have been used -/
def Src (w : World) (B : Nat) : Prop :=
  ∃ (A : Option Addr) (l : List Int) (c nx : Nat), w.heap[B]? = some (.cells #[.slice A l.length c, .int .i64 nx] 142 (0, 0)) ∧ SlN w A l ∧ l.length ≤ 9223372036854775807 ∧ (0 < l.length → ∀ b off, A = some ⟨b, off, none⟩ → b < B)
theorem Src.lt {w : World} {B : Nat} (h : Src w B) : B < w.heap.size := by
  obtain ⟨A, l, c, nx, h, _⟩ := h
  rcases Nat.lt_or_ge B w.heap.size with hlt | hge
  · exact hlt
  · rw [Array.getElem?_eq_none hge] at h; cases h
theorem Src.keep {w w' : World} {B : Nat} (h : Src w B) (hz : w.heap.size ≤ w'.heap.size) (hb : ∀ k, k ≤ B → w'.heap[k]? = w.heap[k]?) : Src w' B := by
  obtain ⟨A, l, c, nx, h0, hs, hm, hA⟩ := h
  refine ⟨A, l, c, nx, (hb B (Nat.le_refl _)).trans h0, fun hx => ?_, hm, hA⟩
  obtain ⟨b, off, e, hlt, hc⟩ := hs hx
  refine ⟨b, off, e, by omega, fun j u hu => ?_⟩
  rw [World.cell?_of_block (w := w) (hb b (Nat.le_of_lt (hA (pos_of hx) b off e)))]
  exact hc j u hu
theorem Src.below {w w' : World} {B N : Nat} (h : Src w B) (hb : Below N w w') (hN : B < N) : Src w' B := h.keep hb.size fun k hk => hb.block k (by omega)
/-- what Next and Signed leave: a Source still, and nothing else turned -/
def NextPost (w : World) (B : Nat) (lo hi : Int) (e : Ending) (w' : World) : Prop := ∃ v : Int, lo ≤ v ∧ v ≤ hi ∧ e = .returned (.int .i64 v) ∧ Src w' B ∧ w.grownBy w' (some B)
theorem next_any (B : Nat) (k : Int) (w : World) (h : Src w B) (hk : 0 < k) (hk2 : k ≤ 9223372036854775807) :
    Calls Try.prog 75 #[.pointer (some ⟨B, 0, none⟩), .int .i64 k] w (NextPost w B 0 (k - 1)) := by
  have hh := h
  obtain ⟨A, l, c, nx, h0, hs, hm, hA⟩ := h
  have c0 : w.cell? ⟨B, 0, none⟩ = some (.slice A l.length c) := by simp [World.cell?, h0]
  have c1 : w.cell? ⟨B, 1, none⟩ = some (.int .i64 nx) := by simp [World.cell?, h0]
  have f1 : w.frozen? ⟨B, 1, none⟩ = false := by simp [World.frozen?, h0]
  by_cases hlt : nx < l.length
  · refine (next_some B A l c nx k w hk hk2 c0 c1 f1 hs hm hlt (hA (by omega))).mono ?_
    rintro e w' ⟨rfl, hw⟩
    have h1 := Int.emod_nonneg (l[nx]) (b := k) (by omega)
    have h2 := Int.emod_lt_of_pos (l[nx]) hk
    have hB := hh.lt
    refine ⟨_, h1, by omega, rfl, ⟨A, l, c, nx + 1, ?_, fun hx => ?_, hm, hA⟩, hw.grown (grown_set w B 1 _)⟩
    · rw [hw.1]
      simp [World.setCell, Array.getElem?_modify, h0]
    · obtain ⟨b, off, e, hb, hc⟩ := hs hx
      have hbB := hA (pos_of hx) b off e
      refine ⟨b, off, e, by rw [hw.1]; simpa [World.setCell] using hb, fun j u hu => ?_⟩
      rw [hw.cell, World.cell?_setCell_other w _ _ _ (fun e => by injection e with e1 _; omega)]
      exact hc j u hu
  · refine (next_none B A l c nx k w c0 c1 (by omega)).mono ?_
    rintro e w' ⟨rfl, hw⟩
    refine ⟨0, by omega, by omega, rfl, hh.keep (by rw [hw.1]; exact Nat.le_refl _) (fun k _ => by rw [hw.1]), hw.grown (World.grownBy.refl w _)⟩
theorem signed_any (B : Nat) (k : Int) (w : World) (h : Src w B) (hk : 0 ≤ k) (hk2 : k ≤ 1000000000) :
    Calls Try.prog 100 #[.pointer (some ⟨B, 0, none⟩), .int .i64 k] w (NextPost w B (-k) k) := by
  have H := hide h
  clear h
  go_enter Try.func100, Try.ntmps100
  go_wp2_with fail
  refine (next_any B _ _ H.out (by omega) (by omega)).mono ?_
  rintro e w' ⟨v, h1, h2, rfl, hs, hg⟩
  have HS := hide hs
  have HG := hide hg
  clear hs hg
  go_wp2
  go_ret
  exact ⟨v - k, by omega, by omega, rfl, HS.out, HG.out⟩
end Go.Proofs.Ytionbckpgfaneaa
