/- Plain data and plain functions: intervals, vectors, lists of them; nothing of the program. -/
import Derived.WalkKit
namespace Go.Proofs.Ytionbckpgfaneaa
open Go.RowKit

structure Iv where
  lo : Int
  hi : Int
structure V3 where
  x : Int
  y : Int
  z : Int
structure IV where
  x : Iv
  y : Iv
  z : Iv

def Iv.v (a : Iv) : Value := .agg #[.int .i64 a.lo, .int .i64 a.hi]
def V3.v (a : V3) : Value := .agg #[.int .i64 a.x, .int .i64 a.y, .int .i64 a.z]
def IV.v (a : IV) : Value := .agg #[.int .i64 a.x.lo, .int .i64 a.x.hi, .int .i64 a.y.lo, .int .i64 a.y.hi, .int .i64 a.z.lo, .int .i64 a.z.hi]
def V3.cells (a : V3) : List Value := [.int .i64 a.x, .int .i64 a.y, .int .i64 a.z]
def IV.cells (a : IV) : List Value := [.int .i64 a.x.lo, .int .i64 a.x.hi, .int .i64 a.y.lo, .int .i64 a.y.hi, .int .i64 a.z.lo, .int .i64 a.z.hi]

theorem V3.ext_ {a b : V3} (h1 : a.x = b.x) (h2 : a.y = b.y) (h3 : a.z = b.z) : a = b := by cases a; cases b; simp_all
theorem Iv.ext_ {a b : Iv} (h1 : a.lo = b.lo) (h2 : a.hi = b.hi) : a = b := by cases a; cases b; simp_all
theorem IV.ext_ {a b : IV} (h1 : a.x = b.x) (h2 : a.y = b.y) (h3 : a.z = b.z) : a = b := by cases a; cases b; simp_all

/-- a word of 64 bits -/
def I64 (n : Int) : Prop := -9223372036854775808 ≤ n ∧ n ≤ 9223372036854775807
def V3.ok64 (a : V3) : Prop := I64 a.x ∧ I64 a.y ∧ I64 a.z
def IV.ok64 (a : IV) : Prop := (I64 a.x.lo ∧ I64 a.x.hi) ∧ (I64 a.y.lo ∧ I64 a.y.hi) ∧ (I64 a.z.lo ∧ I64 a.z.hi)

/-- a slice whose cells read as xs -/
def Sl (w : World) (A : Option Addr) (xs : List Value) : Prop :=
  xs ≠ [] → ∃ b off, A = some ⟨b, off, none⟩ ∧ b < w.heap.size ∧ ∀ j u, xs[j]? = some u → w.cell? ⟨b, off + j, none⟩ = some u
def SlN (w : World) (A : Option Addr) (l : List Int) : Prop := Sl w A (l.map (Value.int .i64))
def SlV (w : World) (A : Option Addr) (l : List V3) : Prop := Sl w A (l.flatMap V3.cells)
def SlI (w : World) (A : Option Addr) (l : List IV) : Prop := Sl w A (l.flatMap IV.cells)

section
variable {w w' : World} {A : Option Addr} {xs : List Value}
theorem Sl.keep (h : Sl w A xs) (hz : w.heap.size ≤ w'.heap.size) (hk : ∀ p : Addr, p.block < w.heap.size → w'.cell? p = w.cell? p) : Sl w' A xs := fun hx => by
  obtain ⟨b, off, e, hb, hc⟩ := h hx
  exact ⟨b, off, e, by omega, fun j u hu => (hk ⟨b, off + j, none⟩ hb).trans (hc j u hu)⟩
theorem Sl.below (h : Sl w A xs) (hb : Below w.heap.size w w') : Sl w' A xs := h.keep hb.size fun _ hp => hb.cell hp
theorem Sl.alloc (h : Sl w A xs) (o : Obj) : Sl (w.alloc o) A xs := h.below ((Below.refl _ _).alloc (Nat.le_refl _) o)
theorem Sl.nil : Sl w A [] := fun h => absurd rfl h
theorem SlN.below {l : List Int} (h : SlN w A l) (hb : Below w.heap.size w w') : SlN w' A l := Sl.below h hb
theorem SlV.below {l : List V3} (h : SlV w A l) (hb : Below w.heap.size w w') : SlV w' A l := Sl.below h hb
theorem SlI.below {l : List IV} (h : SlI w A l) (hb : Below w.heap.size w w') : SlI w' A l := Sl.below h hb

theorem flat3 (l : List V3) (k : Nat) (hk : k < l.length) (j : Nat) (hj : j < 3) : (l.flatMap V3.cells)[k * 3 + j]? = (l[k].cells)[j]? := by
  induction l generalizing k with
  | nil => simp at hk
  | cons a l ih =>
    cases k with
    | zero =>
      simp only [List.flatMap_cons, Nat.zero_mul, Nat.zero_add, List.getElem_cons_zero]
      rw [List.getElem?_append_left (by simpa [V3.cells] using hj)]
    | succ k =>
      simp only [List.flatMap_cons, List.getElem_cons_succ]
      rw [List.getElem?_append_right (by simp [V3.cells]; omega)]
      have := ih k (by simpa using hk)
      rw [← this]
      congr 1
      simp [V3.cells]
      omega
theorem flat6 (l : List IV) (k : Nat) (hk : k < l.length) (j : Nat) (hj : j < 6) : (l.flatMap IV.cells)[k * 6 + j]? = (l[k].cells)[j]? := by
  induction l generalizing k with
  | nil => simp at hk
  | cons a l ih =>
    cases k with
    | zero =>
      simp only [List.flatMap_cons, Nat.zero_mul, Nat.zero_add, List.getElem_cons_zero]
      rw [List.getElem?_append_left (by simpa [IV.cells] using hj)]
    | succ k =>
      simp only [List.flatMap_cons, List.getElem_cons_succ]
      rw [List.getElem?_append_right (by simp [IV.cells]; omega)]
      have := ih k (by simpa using hk)
      rw [← this]
      congr 1
      simp [IV.cells]
      omega

theorem SlN.addr {l : List Int} (h : SlN w A l) (hl : 0 < l.length) : ∃ b off, A = some ⟨b, off, none⟩ ∧ b < w.heap.size := by
  obtain ⟨b, off, e, hb, _⟩ := h (by intro hx; have := congrArg List.length hx; simp at this; simp [this] at hl)
  exact ⟨b, off, e, hb⟩
theorem SlV.addr {l : List V3} (h : SlV w A l) (hl : 0 < l.length) : ∃ b off, A = some ⟨b, off, none⟩ ∧ b < w.heap.size := by
  obtain ⟨b, off, e, hb, _⟩ := h (by cases l with | nil => simp at hl | cons a l => simp [V3.cells])
  exact ⟨b, off, e, hb⟩
theorem SlI.addr {l : List IV} (h : SlI w A l) (hl : 0 < l.length) : ∃ b off, A = some ⟨b, off, none⟩ ∧ b < w.heap.size := by
  obtain ⟨b, off, e, hb, _⟩ := h (by cases l with | nil => simp at hl | cons a l => simp [IV.cells])
  exact ⟨b, off, e, hb⟩
theorem SlN.at_ {l : List Int} {b off k : Nat} (h : SlN w (some ⟨b, off, none⟩) l) (hk : k < l.length) : w.cell? ⟨b, off + k, none⟩ = some (.int .i64 l[k]) := by
  obtain ⟨b', off', e, _, hc⟩ := h (by intro hx; have := congrArg List.length hx; simp at this; simp [this] at hk)
  cases e
  exact hc k _ (by simp [hk])
theorem SlV.at_ {l : List V3} {b off k : Nat} (h : SlV w (some ⟨b, off, none⟩) l) (hk : k < l.length) :
    w.cell? ⟨b, off + k * 3, none⟩ = some (.int .i64 l[k].x) ∧ w.cell? ⟨b, off + k * 3 + 1, none⟩ = some (.int .i64 l[k].y) ∧ w.cell? ⟨b, off + k * 3 + 2, none⟩ = some (.int .i64 l[k].z) := by
  obtain ⟨b', off', e, _, hc⟩ := h (by cases l with | nil => simp at hk | cons a l => simp [V3.cells])
  cases e
  have f := flat3 l k hk
  refine ⟨hc (k * 3 + 0) _ ?_, hc (k * 3 + 1) _ ?_, hc (k * 3 + 2) _ ?_⟩
  · rw [f 0 (by omega)]; rfl
  · rw [f 1 (by omega)]; rfl
  · rw [f 2 (by omega)]; rfl
theorem SlI.at_ {l : List IV} {b off k : Nat} (h : SlI w (some ⟨b, off, none⟩) l) (hk : k < l.length) :
    w.cell? ⟨b, off + k * 6, none⟩ = some (.int .i64 l[k].x.lo) ∧ w.cell? ⟨b, off + k * 6 + 1, none⟩ = some (.int .i64 l[k].x.hi) ∧ w.cell? ⟨b, off + k * 6 + 2, none⟩ = some (.int .i64 l[k].y.lo) ∧
    w.cell? ⟨b, off + k * 6 + 3, none⟩ = some (.int .i64 l[k].y.hi) ∧ w.cell? ⟨b, off + k * 6 + 4, none⟩ = some (.int .i64 l[k].z.lo) ∧ w.cell? ⟨b, off + k * 6 + 5, none⟩ = some (.int .i64 l[k].z.hi) := by
  obtain ⟨b', off', e, _, hc⟩ := h (by cases l with | nil => simp at hk | cons a l => simp [IV.cells])
  cases e
  have f := flat6 l k hk
  refine ⟨hc (k * 6 + 0) _ ?_, hc (k * 6 + 1) _ ?_, hc (k * 6 + 2) _ ?_, hc (k * 6 + 3) _ ?_, hc (k * 6 + 4) _ ?_, hc (k * 6 + 5) _ ?_⟩
  · rw [f 0 (by omega)]; rfl
  · rw [f 1 (by omega)]; rfl
  · rw [f 2 (by omega)]; rfl
  · rw [f 3 (by omega)]; rfl
  · rw [f 4 (by omega)]; rfl
  · rw [f 5 (by omega)]; rfl
end

theorem ret_int {k : IntKind} {a b : Int} (h : a = b) : Ending.returned (.int k a) = .returned (.int k b) := by rw [h]
theorem ret_bool {a b : Bool} (h : a = b) : Ending.returned (.bool a) = .returned (.bool b) := by rw [h]
theorem hide {p : Prop} (h : p) : Hid p := h

def Like (w' w : World) : Prop := w'.heap = w.heap ∧ w'.os = w.os ∧ w'.tape = w.tape ∧ w'.output = w.output
theorem Like.cell {w' w : World} (h : Like w' w) (p : Addr) : w'.cell? p = w.cell? p := by simp [World.cell?, h.1]
theorem Like.grown {w' w w0 : World} {r : Option Nat} (h : Like w' w) (g : w0.grownBy w r) : w0.grownBy w' r :=
  ⟨h.2.1.trans g.os, h.2.2.1.trans g.tape, h.2.2.2.trans g.output, by rw [h.1]; exact g.size, fun k hk hn => by rw [h.1]; exact g.block k hk hn⟩
theorem Like.below {w' w w0 : World} {B : Nat} (h : Like w' w) (g : Below B w0 w) : Below B w0 w' :=
  ⟨h.2.1.trans g.os, h.2.2.1.trans g.tape, h.2.2.2.trans g.output, by rw [h.1]; exact g.size, fun k hk => by rw [h.1]; exact g.block k hk⟩
theorem grown_set (w : World) (B off : Nat) (u : Value) : w.grownBy (w.setCell ⟨B, off, none⟩ u) (some B) :=
  ⟨rfl, rfl, rfl, by simp [World.setCell], fun k _ hn => Below.heap_setCell w ⟨B, off, none⟩ u k (fun e => hn (by rw [e]))⟩
theorem tmod_cases (n k : Int) (hk : 0 < k) : (n.tmod k < 0 ∧ n.tmod k + k = n % k) ∨ (0 ≤ n.tmod k ∧ n.tmod k = n % k) := by
  have h1 := Int.emod_nonneg n (b := k) (by omega)
  have h2 := Int.emod_lt_of_pos n hk
  rw [Int.tmod_eq_emod]
  split
  · right; omega
  · left; omega
theorem ceil_up (a b : Int) (hb : 0 < b) (h : 0 < a.tmod b) : a.tdiv b + 1 = -((-a) / b) := by
  have e := Int.mul_tdiv_add_tmod a b
  have l := Int.tmod_lt_of_pos a hb
  have := ((Int.ediv_emod_unique (a := -a) (b := b) (r := b - a.tmod b) (q := -(a.tdiv b + 1)) hb).2 ⟨by rw [Int.mul_neg, Int.mul_add]; omega, by omega, by omega⟩).1
  omega
theorem ceil_on (a b : Int) (hb : 0 < b) (h : ¬ 0 < a.tmod b) : a.tdiv b = -((-a) / b) := by
  have e := Int.mul_tdiv_add_tmod a b
  have l := Int.lt_tmod_of_pos a hb
  have := ((Int.ediv_emod_unique (a := -a) (b := b) (r := - a.tmod b) (q := -(a.tdiv b)) hb).2 ⟨by rw [Int.mul_neg]; omega, by omega, by omega⟩).1
  omega
theorem floor_down (a b : Int) (hb : 0 < b) (h : a.tmod b < 0) : a.tdiv b - 1 = a / b := by
  have e := Int.mul_tdiv_add_tmod a b
  have l := Int.lt_tmod_of_pos a hb
  exact ((Int.ediv_emod_unique (a := a) (b := b) (r := b + a.tmod b) (q := a.tdiv b - 1) hb).2 ⟨by rw [Int.mul_sub]; omega, by omega, by omega⟩).1.symm
theorem floor_on (a b : Int) (hb : 0 < b) (h : ¬ a.tmod b < 0) : a.tdiv b = a / b := by
  have e := Int.mul_tdiv_add_tmod a b
  have l := Int.tmod_lt_of_pos a hb
  exact ((Int.ediv_emod_unique (a := a) (b := b) (r := a.tmod b) (q := a.tdiv b) hb).2 ⟨by omega, by omega, by omega⟩).1.symm
theorem tdiv_bd (a b : Int) (hb : 0 < b) (ha : 0 ≤ a) : 0 ≤ a.tdiv b ∧ a.tdiv b ≤ a := by
  constructor
  · exact Int.tdiv_nonneg ha (by omega)
  · exact Int.tdiv_le_self _ ha
theorem tdiv_up_bd (a b : Int) (hb : 0 < b) (h : 0 < a.tmod b) : 1 ≤ a.tdiv b + 1 ∧ a.tdiv b + 1 ≤ a := by
  have e := Int.mul_tdiv_add_tmod a b
  have ha : 0 ≤ a := by
    rcases (by omega : a < 0 ∨ 0 ≤ a) with hn | hn
    · have : a.tmod b ≤ 0 := by
        rw [Int.tmod_eq_emod]
        have := Int.emod_lt_of_pos a hb
        split
        · rename_i hh
          rcases hh with hh | hh
          · omega
          · have := Int.emod_eq_zero_of_dvd hh; omega
        · omega
      omega
    · exact hn
  have h0 := Int.tdiv_nonneg (a := a) (b := b) ha (by omega)
  have h1 : a.tdiv b ≤ b * a.tdiv b := by
    have := Int.mul_le_mul_of_nonneg_right (a := 1) (b := b) (c := a.tdiv b) (by omega) h0
    omega
  omega
theorem tdiv_down_bd (a b : Int) (hb : 0 < b) (h : a.tmod b < 0) : a ≤ a.tdiv b - 1 ∧ a.tdiv b - 1 ≤ -1 := by
  have e := Int.mul_tdiv_add_tmod a b
  have ha : a < 0 := by
    rcases (by omega : a < 0 ∨ 0 ≤ a) with hn | hn
    · exact hn
    · have := Int.tmod_nonneg b hn; omega
  have h0 : a.tdiv b ≤ 0 := by
    have := Int.tdiv_nonneg (a := -a) (b := b) (by omega) (by omega)
    rw [Int.neg_tdiv] at this; omega
  have h1 : b * a.tdiv b ≤ a.tdiv b := by
    have := Int.mul_le_mul_of_nonneg_right (a := 1) (b := b) (c := -a.tdiv b) (by omega) (by omega)
    simp only [Int.mul_neg] at this; omega
  omega
end Go.Proofs.Ytionbckpgfaneaa
