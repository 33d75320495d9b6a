/- Rows of weights in memory, and the weights that gather. -/
import Derived.Test.YtionbckpgfaneaaPg
import Derived.Test.YtionbckpgfaneaaWd
import Derived.Laws.OwnMore
import Derived.Laws.MakeOwn
namespace Go.Proofs.Ytionbckpgfaneaa
open Go.RowKit
def iArr (L : List Int) : Array Value := (L.map (Value.int .i64)).toArray
theorem iArr_get {L : List Int} {i : Nat} (h : i < L.length) : (iArr L)[i]? = some (.int .i64 L[i]) := by simp [iArr, h]
theorem iArr_set (L : List Int) (i : Nat) (x : Int) : (iArr L).setIfInBounds i (.int .i64 x) = iArr (L.set i x) := by simp [iArr, List.map_set]
theorem iArr_size (L : List Int) : (iArr L).size = L.length := by simp [iArr]
theorem slN_of {w : World} {g : Nat} {L : List Int} {t : TypeId} (h : w.heap[g]? = some (.cells (iArr L) t (0, 0))) : SlN w (some ⟨g, 0, none⟩) L := fun _ => by
  refine ⟨g, 0, rfl, ?_, fun j u hu => ?_⟩
  · obtain ⟨h, _⟩ := Array.getElem?_eq_some_iff.mp h
    exact h
  · rw [Nat.zero_add, blk_cell h]
    simpa [iArr] using hu
theorem iCell {w : World} {g : Nat} {L : List Int} {t : TypeId} (h : w.heap[g]? = some (.cells (iArr L) t (0, 0))) {i : Nat} (hi : i < L.length) : w.cell? ⟨g, i, none⟩ = some (.int .i64 L[i]) := by rw [blk_cell h, iArr_get hi]
theorem iSet {w : World} {g : Nat} {L : List Int} {t : TypeId} (h : w.heap[g]? = some (.cells (iArr L) t (0, 0))) (i : Nat) (x : Int) : (w.setCell ⟨g, i, none⟩ (.int .i64 x)).heap[g]? = some (.cells (iArr (L.set i x)) t (0, 0)) := by
  rw [← iArr_set]; exact blk_set h i _
/-- the weights after k rounds of gather -/
def gk (L : List Int) (t : Int) (k : Nat) : List Int := keptL (L.take k) t ++ L.drop k
theorem gk_len (L : List Int) (t : Int) (k : Nat) : (gk L t k).length = L.length := by simp [gk, keptL]; omega
theorem gk_zero (L : List Int) (t : Int) : gk L t 0 = L := by simp [gk, keptL]
theorem gk_all (L : List Int) (t : Int) : gk L t L.length = keptL L t := by simp [gk]
theorem kept_take (L : List Int) (t : Int) (k : Nat) : (keptL (L.take k) t).length = min k L.length := by simp [keptL]
theorem gk_get (L : List Int) (t : Int) (k : Nat) (h : k < L.length) : (gk L t k)[k]'(by rw [gk_len]; exact h) = L[k] := by
  unfold gk
  rw [List.getElem_append_right (by rw [kept_take]; omega)]
  simp [keptL, Nat.min_eq_left (Nat.le_of_lt h)]
theorem gk_set (L : List Int) (t : Int) (k : Nat) (h : k < L.length) : (gk L t k).set k (L[k] - L[k] * t / 256) = gk L t (k + 1) := by
  have e : L.drop k = L[k] :: L.drop (k + 1) := by rw [List.drop_eq_getElem_cons h]
  unfold gk
  rw [e, List.set_append_right _ _ (by rw [kept_take]; omega), kept_take, Nat.min_eq_left (Nat.le_of_lt h), Nat.sub_self, List.set_cons_zero]
  rw [List.take_succ_eq_append_getElem h]
  simp only [keptL, List.map_append, List.map_cons, List.map_nil, List.append_assoc, List.singleton_append]
theorem lost_succ (L : List Int) (t : Int) (k : Nat) (h : k < L.length) : lostL (L.take (k + 1)) t = lostL (L.take k) t + L[k] * t / 256 := by
  unfold lostL
  rw [List.take_succ_eq_append_getElem h]
  simp only [List.map_append, List.sum_append, List.map_cons, List.map_nil, List.sum_cons, List.sum_nil, Int.add_zero]
theorem lost_bd {L : List Int} {t : Int} (t0 : 0 ≤ t) (t1 : t ≤ 256) (h : ∀ x ∈ L, 0 ≤ x) : 0 ≤ lostL L t ∧ lostL L t ≤ L.sum := by
  unfold lostL
  induction L with
  | nil => simp
  | cons x L ih =>
    have a := part_bd (h x (by simp)) t0 t1
    have b := ih fun y hy => h y (by simp [hy])
    simp only [List.map_cons, List.sum_cons]
    omega
theorem take_sum_le {L : List Int} (h : ∀ x ∈ L, 0 ≤ x) (k : Nat) : (L.take k).sum ≤ L.sum := by
  have e : L.sum = (L.take k).sum + (L.drop k).sum := by rw [← List.sum_append, List.take_append_drop]
  have := sum_nonneg (L.drop k) fun x hx => h x (List.mem_of_mem_drop hx)
  omega
theorem lost_take {L : List Int} {t : Int} (t0 : 0 ≤ t) (t1 : t ≤ 256) (h : ∀ x ∈ L, 0 ≤ x) (k : Nat) : 0 ≤ lostL (L.take k) t ∧ lostL (L.take k) t ≤ L.sum := by
  have := lost_bd t0 t1 (L := L.take k) fun x hx => h x (List.mem_of_mem_take hx)
  have := take_sum_le h k
  omega
theorem kept_get (L : List Int) (t : Int) (i : Nat) (h : i < L.length) : (keptL L t)[i]'(by rw [kept_len]; exact h) = L[i] - L[i] * t / 256 := by simp [keptL]
theorem moved_eq (L : List Int) (t : Int) (i : Nat) (h : i < L.length) : (keptL L t).set i ((keptL L t)[i]'(by rw [kept_len]; exact h) + lostL L t) = movedL L t i := by
  unfold movedL
  congr 1
  simp [List.getD, h, kept_len]
theorem made_iArr (n : Nat) : madeCells #[.int .i64 0] (n * 1) = iArr (List.replicate n 0) := by
  apply Array.ext'
  rw [Nat.mul_one, toList_madeCells_one]
  simp [iArr]
/-- make([]int64, n) -/
theorem make22 (n : Nat) (h : n ≤ 1000) (w : World) : (Instr.makeSlice 22 (.int .i64 n) (.int .i64 n)).run Try.prog w = .ok (.slice (some ⟨w.heap.size, 0, none⟩) n n) (w.alloc (.cells (iArr (List.replicate n 0)) 2)) := by
  obtain ⟨i0, hi0, hz0, hz1, hz2⟩ := info_parts info2
  have e := run_make (P := Try.prog) w 22 2 i0 _ Try.underlying22 hi0 hz0 .i64 .i64 n n (by omega) (by omega) (by rw [hz2]; omega) (by omega)
  rw [e, hz1]
  simp only [Int.toNat_natCast]
  rw [show (Value.int .i64 0).cells = #[.int .i64 0] from rfl, made_iArr]
end Go.Proofs.Ytionbckpgfaneaa
