/- Walks, part w: the references' Dot; Normal. -/
import Derived.Test.YtionbckpgfaneaaWv
import Derived.RegionTactic
import Derived.Deep.LoopGhost
namespace Go.Proofs.Ytionbckpgfaneaa
open Go.RowKit
set_option maxHeartbeats 1000000
set_option maxRecDepth 100000
attribute [local go_sem] index44_0 index44_1 index44_2 index47_0 index47_1 index47_2 eq47
def vcs (n : V3) : Array Value := #[.int .i64 n.x, .int .i64 n.y, .int .i64 n.z]
def ivs (v : IV) : Array Value := #[.int .i64 v.x.lo, .int .i64 v.x.hi, .int .i64 v.y.lo, .int .i64 v.y.hi, .int .i64 v.z.lo, .int .i64 v.z.hi]
def D2Inv (w : World) (n : V3) (v : IV) (t u i : Value) (wr : World) : Prop :=
  ∃ k : Int, i = .int .i64 k ∧ 0 ≤ k ∧ k ≤ 3 ∧ t = .int .i64 (acc3 (mn n.x v.x) (mn n.y v.y) (mn n.z v.z) k) ∧ u = .int .i64 (acc3 (mx n.x v.x) (mx n.y v.y) (mx n.z v.z) k) ∧
    wr.heap[w.heap.size]? = some (.cells (vcs n) 47 (0, 0)) ∧ wr.heap[w.heap.size + 1]? = some (.cells (ivs v) 44 (0, 0)) ∧ Below w.heap.size w wr ∧ w.heap.size + 1 < wr.heap.size
/-- armplanref10.Dot -/
theorem dot_ref (n : V3) (v : IV) (w : World) :
    Calls Try.prog 110 #[.agg #[.int .i64 n.x, .int .i64 n.y, .int .i64 n.z], .agg #[.int .i64 v.x.lo, .int .i64 v.x.hi, .int .i64 v.y.lo, .int .i64 v.y.hi, .int .i64 v.z.lo, .int .i64 v.z.hi]] w
      fun e w' => e = .returned (dotR n v) ∧ Below w.heap.size w w' := by
  go_enter Try.func110, Try.ntmps110
  go_wp2_with fail
  refine (usable_ref n _).mono ?_
  rintro e w1 ⟨rfl, hb1⟩
  have hN : w1.heap[w.heap.size]? = some (.cells (vcs n) 47 (0, 0)) := (hb1.block _ (by simp; omega)).trans ((Below.heap_alloc _ _ _ (by simp)).trans (heap_alloc_new w _))
  have hV : w1.heap[w.heap.size + 1]? = some (.cells (ivs v) 44 (0, 0)) := (hb1.block _ (by simp)).trans (new_at _ _ (by simp))
  have hz : w.heap.size + 1 < w1.heap.size := by have := hb1.size; simp at this; omega
  have hz0 : w.heap.size < w1.heap.size := by omega
  have HB := hide (show Below w.heap.size w w1 from (((Below.refl _ _).alloc (Nat.le_refl _) _).alloc (by simp) _).trans (hb1.mono (by simp; omega)))
  have HN := hide hN; have HV := hide hV
  clear hb1 hN hV
  cases hu : usable n
  · have H := hide (dotR_no (show dotOk n v = false by simp [dotOk, hu]))
    go_wp2_with fail
    go_ret2
    exact ⟨by rw [H.out]; rfl, HB.out⟩
  · have hc := blk_cell HV.out
    simp only [ivs] at hc
    go_wp2_with fail
    refine (reached_any v _).mono ?_
    rintro e w2 ⟨rfl, hb2⟩
    have HV2 := hide ((hb2.block _ (by omega)).trans HV.out)
    have HN2 := hide ((hb2.block _ (by omega)).trans HN.out)
    have hz2 : w.heap.size + 1 < w2.heap.size := by have := hb2.size; omega
    have HB2 := hide (show Below w.heap.size w w2 from HB.out.trans (hb2.mono (by omega)))
    clear hb2 hc HV HN HB
    cases ho : v.ok
    · have H := hide (dotR_no (show dotOk n v = false by simp [dotOk, ho]))
      go_wp2_with fail
      go_ret2
      exact ⟨by rw [H.out]; rfl, HB2.out⟩
    · have H := hide (dotR_yes (show dotOk n v = true by simp [dotOk, ho, hu]))
      obtain ⟨⟨a1, a2⟩, ⟨b1, b2⟩, c1, c2⟩ := inR_of (usable_of hu).1
      obtain ⟨⟨d1, d2, d3⟩, ⟨e1, e2, e3⟩, f1, f2, f3⟩ := ok_of ho
      clear hu ho
      obtain ⟨⟨x1, x2⟩, x3, x4⟩ := mn_bd n.x v.x a1 a2 d1 d2 d3
      obtain ⟨⟨y1, y2⟩, y3, y4⟩ := mn_bd n.y v.y b1 b2 e1 e2 e3
      obtain ⟨⟨z1, z2⟩, z3, z4⟩ := mn_bd n.z v.z c1 c2 f1 f2 f3
      have mx1 : -4398046511104 ≤ mn n.x v.x ∧ mn n.x v.x ≤ 4398046511104 := by unfold mn; omega
      have mx2 : -4398046511104 ≤ mn n.y v.y ∧ mn n.y v.y ≤ 4398046511104 := by unfold mn; omega
      have mx3 : -4398046511104 ≤ mx n.x v.x ∧ mx n.x v.x ≤ 4398046511104 := by unfold mx; omega
      have mx4 : -4398046511104 ≤ mx n.y v.y ∧ mx n.y v.y ≤ 4398046511104 := by unfold mx; omega
      go_wp2_with fail
      go_loopw [6, 7, 8] (fun t u i wr => D2Inv w n v t u i wr) (fun _ _ i _ => 3 - (intOf i).toNat)
      case atStart => exact ⟨0, rfl, by omega, by omega, rfl, rfl, HN2.out, HV2.out, HB2.out, hz2⟩
      case round =>
        clear HN2 HV2 HB2 hz2
        obtain ⟨k, rfl, hk0, hk3, rfl, rfl, jN, jV, jB, jz⟩ := hrel
        have JN := hide jN; have JV := hide jV; have JB := hide jB
        have jlt : w.heap.size < wr.heap.size := by omega
        have hc := blk_cell jN
        have hd := blk_cell jV
        simp only [vcs, ivs] at hc hd
        clear jN jB jV
        obtain rfl | rfl | rfl | rfl : k = 0 ∨ k = 1 ∨ k = 2 ∨ k = 3 := by omega
        · simp only [acc3]
          go_wp2_with fail
          go_quiet (fail)
          go_wp2_with fail
          go_roundw
          case rel => exact ⟨1, rfl, by omega, by omega, rfl, rfl, JN.out, JV.out, below_drewN JB.out _, jz⟩
          case measure => simp [intOf]
        · simp only [acc3]
          go_wp2_with fail
          go_quiet (fail)
          go_wp2_with fail
          go_roundw
          case rel => exact ⟨2, rfl, by omega, by omega, rfl, rfl, JN.out, JV.out, below_drewN JB.out _, jz⟩
          case measure => simp [intOf]
        · simp only [acc3]
          go_wp2_with fail
          go_quiet (fail)
          go_wp2_with fail
          go_roundw
          case rel => exact ⟨3, rfl, by omega, by omega, rfl, rfl, JN.out, JV.out, below_drewN JB.out _, jz⟩
          case measure => simp [intOf]
        · simp only [acc3]
          go_wp2_with fail
          go_ret2
          exact ⟨by rw [H.out]; rfl, JB.out⟩
/-- what Normal returns -/
def normalR (v : V3) : Value := .tuple #[.agg #[.int .i64 (normalF v).x, .int .i64 (normalF v).y, .int .i64 (normalF v).z], .bool (!isZ (normalF v))]
def NInv (w : World) (v : V3) (k : Nat) (wr : World) : Prop :=
  ∃ u : V3, k ≤ 50 ∧ u.ok64 ∧ Within u (16384 * 2 ^ k) ∧ nrm k u = normalF v ∧ wr.heap[w.heap.size]? = some (.cells (vcs u) 47 (0, 0)) ∧ wr.heap[w.heap.size + 1]? = some (.cells (vcs zeroV) 47 (0, 0)) ∧ Below w.heap.size w wr ∧ w.heap.size + 1 < wr.heap.size
theorem halve_ok {u : V3} (h : u.ok64) : (halve u).ok64 := by
  obtain ⟨⟨a, b⟩, ⟨c, d⟩, e, f⟩ := h
  obtain ⟨x1, x2⟩ := tdiv2_bd (a := u.x) (m := 4611686018427387904) (by omega) (by omega)
  obtain ⟨y1, y2⟩ := tdiv2_bd (a := u.y) (m := 4611686018427387904) (by omega) (by omega)
  obtain ⟨z1, z2⟩ := tdiv2_bd (a := u.z) (m := 4611686018427387904) (by omega) (by omega)
  unfold V3.ok64 I64 halve
  simp only
  omega
/-- support.Normal -/
theorem normal_any (v : V3) (w : World) (hv : v.ok64) :
    Calls Try.prog 60 #[.agg #[.int .i64 v.x, .int .i64 v.y, .int .i64 v.z]] w fun e w' => e = .returned (normalR v) ∧ Below w.heap.size w w' := by
  have HV := hide hv; clear hv
  go_enter Try.func60, Try.ntmps60
  go_wp2_with fail
  go_loopg [8] 50 (fun k _ wr => NInv w v k wr)
  case atStart => exact ⟨v, Nat.le_refl _, HV.out, within64 HV.out, rfl, (Below.heap_alloc _ _ _ (by simp)).trans (heap_alloc_new w _), new_at _ _ (by simp), by go_grown, by simp⟩
  case round =>
    obtain ⟨u, hk, hok, hwi, hnr, hN, hZ, hB, hz⟩ := hrel
    have OK := hide hok; have WI := hide hwi; have NR := hide hnr; have HN := hide hN; have HZ := hide hZ; have HB := hide hB
    have hz0 : w.heap.size < wr.heap.size := by omega
    have hc := blk_cell hN
    simp only [vcs] at hc
    clear hok hwi hnr hN hZ hB
    go_wp2_with fail
    refine (inRange_any u _).mono ?_
    rintro e w1 ⟨rfl, hb1⟩
    have hN1 := (hb1.block _ hz0).trans HN.out
    have hZ1 := (hb1.block _ hz).trans HZ.out
    have hzz : w.heap.size + 1 < w1.heap.size := by have := hb1.size; omega
    have hzz0 : w.heap.size < w1.heap.size := by omega
    have HB1 := hide (HB.out.trans (hb1.mono (by omega)))
    have hc1 := blk_cell hN1; have hf1 := blk_frozen hN1
    have hd1 := blk_cell hZ1; have hg1 := blk_frozen hZ1
    have HN1 := hide hN1; have HZ1 := hide hZ1
    simp only [vcs, zeroV] at hc1 hd1
    clear hb1 HN HZ HB hc hN1 hZ1
    cases hr : inR u
    · obtain ⟨k, rfl⟩ : ∃ k, gk = k + 1 := by
        rcases gk with _ | k
        · have := inR_within (by simpa using WI.out : Within u 16384)
          rw [this] at hr; cases hr
        · exact ⟨k, rfl⟩
      obtain ⟨⟨x1, x2⟩, ⟨y1, y2⟩, z1, z2⟩ := halve_ok OK.out
      simp only [halve] at x1 x2 y1 y2 z1 z2
      have HR := hide hr
      go_wp2_with fail
      go_rounds 4
      go_roundg k
      case measure => omega
      case rel =>
        refine ⟨halve u, by omega, halve_ok OK.out, halve_within ?_, ?_, ?_, ?_, ?_, ?_⟩
        · have := WI.out
          rw [show (2 : Int) * (16384 * 2 ^ k) = 16384 * 2 ^ (k + 1) by rw [Int.pow_succ]; omega]
          exact this
        · rw [← NR.out, nrm_not HR.out]
        · exact blk_set (blk_set (blk_set HN1.out 0 _) 1 _) 2 _
        · rw [Below.heap_setCell _ _ _ _ (by simp), Below.heap_setCell _ _ _ _ (by simp), Below.heap_setCell _ _ _ _ (by simp)]
          exact HZ1.out
        · exact ((HB1.out.setCell (by simp) _).setCell (by simp) _).setCell (by simp) _
        · simpa [World.setCell] using hzz
    · have HE := hide (show normalF v = u by rw [← NR.out, nrm_in hr]); clear hr
      go_wp2_with fail
      go_region
      go_wp2_with fail
      refine bodyPost_ret (v := normalR v) (by rw [normalR, HE.out]; simp [results, Try.results60, go_sem, hd1, isZ_eq]) rfl ⟨rfl, ?_⟩
      exact (((HB1.out.setCell (by simp) _).setCell (by simp) _).setCell (by simp) _).drew
def N2Inv (w : World) (v : V3) (t : Value) (wr : World) : Prop :=
  ∃ j : Nat, j ≤ 50 ∧ t = .int .i64 (2 ^ j) ∧ (∀ i, i < j → inR (divV v (2 ^ i)) = false) ∧ wr.heap[w.heap.size]? = some (.cells (vcs v) 47 (0, 0)) ∧ wr.heap[w.heap.size + 1]? = some (.cells (vcs zeroV) 47 (0, 0)) ∧ Below w.heap.size w wr ∧ w.heap.size + 1 < wr.heap.size
theorem pow_bd {j : Nat} (h : j ≤ 50) : (1 : Int) ≤ 2 ^ j ∧ (2 : Int) ^ j ≤ 1125899906842624 := by
  have a : (0 : Int) < 2 ^ j := Int.pow_pos (by omega)
  have := Nat.pow_le_pow_right (n := 2) (by omega) h
  have h : ((2 ^ j : Nat) : Int) ≤ ((2 ^ 50 : Nat) : Int) := by exact_mod_cast this
  rw [Int.natCast_pow, Int.natCast_pow] at h
  exact ⟨by omega, by simpa using h⟩
theorem divV_bd {v : V3} (h : v.ok64) {s : Int} (hs : 1 ≤ s) : (divV v s).ok64 := by
  have key : ∀ a : Int, I64 a → I64 (a.tdiv s) := fun a ha => by
    obtain ⟨h1, h2⟩ := ha
    rcases Int.le_total 0 a with h0 | h0
    · have := tdiv_bd a s (by omega) h0
      constructor <;> omega
    · have := tdiv_bd (-a) s (by omega) (by omega)
      rw [Int.neg_tdiv] at this
      constructor <;> omega
  exact ⟨key _ h.1, key _ h.2.1, key _ h.2.2⟩
/-- armplanref10.Normal -/
theorem normal_ref (v : V3) (w : World) (hv : v.ok64) :
    Calls Try.prog 111 #[.agg #[.int .i64 v.x, .int .i64 v.y, .int .i64 v.z]] w fun e w' => e = .returned (normalR v) ∧ Below w.heap.size w w' := by
  cases hz : isZ v
  · have hz' : eqV ⟨v.x, v.y, v.z⟩ ⟨0, 0, 0⟩ = false := hz
    have HZ := hide hz; have HV := hide hv
    clear hz hv
    go_enter Try.func111, Try.ntmps111
    go_wp2_with fail
    go_loopw [4] (fun t wr => N2Inv w v t wr) (fun t _ => (2251799813685248 - intOf t).toNat)
    case atStart => exact ⟨0, by omega, rfl, fun i h => absurd h (by omega), (Below.heap_alloc _ _ _ (by simp)).trans (heap_alloc_new w _), new_at _ _ (by simp), by go_grown, by simp⟩
    case round =>
      clear hz'
      obtain ⟨j, hj, rfl, hno, hN, hZ, hB, hz⟩ := hrel
      obtain ⟨s, hs⟩ : ∃ s : Int, s = 2 ^ j := ⟨_, rfl⟩
      have hsb := pow_bd hj
      rw [← hs] at hsb ⊢
      obtain ⟨s1, s2⟩ := hsb
      have hne : (s == 0) = false := by simp; omega
      have HS := hide hs; have NO := hide hno; have HN := hide hN; have HZr := hide hZ; have HB := hide hB
      have hz0 : w.heap.size < wr.heap.size := by omega
      have hc := blk_cell hN
      simp only [vcs] at hc
      obtain ⟨⟨x1, x2⟩, ⟨y1, y2⟩, z1, z2⟩ := divV_bd HV.out s1
      simp only [divV] at x1 x2 y1 y2 z1 z2
      clear hno hN hZ hB hs
      go_wp2_with fail
      go_region
      go_wp2_with fail
      refine (near_any (divV v s) 16384 _ (by omega) (by omega)).mono ?_
      rintro e w1 ⟨rfl, hb1⟩
      have hN1 := (hb1.block _ (by simp; omega)).trans ((Below.heap_alloc wr _ _ hz0).trans HN.out)
      have hZ1 := (hb1.block _ (by simp; omega)).trans ((Below.heap_alloc wr _ _ hz).trans HZr.out)
      have hX1 : w1.heap[wr.heap.size]? = some (.cells #[.int .i64 (v.x.tdiv s), .int .i64 (v.y.tdiv s), .int .i64 (v.z.tdiv s)] 47 (0, 0)) := (hb1.block _ (by simp)).trans (heap_alloc_new wr _)
      have hzz : w.heap.size + 1 < w1.heap.size := by have := hb1.size; simp at this; omega
      have hzx : wr.heap.size < w1.heap.size := by have := hb1.size; simp at this; omega
      have HB1 := hide (show Below w.heap.size w w1 from ((HB.out.alloc (by omega) _).drew).trans (hb1.mono (by simp; omega)))
      have hd1 := blk_cell hZ1; have hg1 := blk_frozen hZ1
      have hx1 := blk_cell hX1
      have HN1 := hide hN1; have HZ1 := hide hZ1
      simp only [vcs, zeroV] at hd1
      clear hb1 HN HZr HB hc hN1 hZ1 hX1
      cases hr : nearB 16384 (divV v s)
      · have hj50 : j < 50 := by
          rcases Nat.lt_or_ge j 50 with h | h
          · exact h
          · have := divV_in v HV.out j h
            rw [← HS.out] at this
            have e : nearB 16384 (divV v s) = inR (divV v s) := rfl
            rw [e, this] at hr
            cases hr
        have HR := hide hr; clear hr hd1 hg1 hx1
        go_wp2_with fail
        go_roundw
        case rel => exact ⟨j + 1, by omega, by rw [HS.out, Int.pow_succ], fun i hi => by
          rcases Nat.lt_or_ge i j with h | h
          · exact NO.out i h
          · obtain rfl : i = j := by omega
            rw [← HS.out]; exact HR.out, HN1.out, HZ1.out, HB1.out, hzz⟩
        case measure => simp [intOf]; omega
      · have e1 : normalF v = divV v s := by
          rw [← divV_found v j hj NO.out, ← HS.out]
          exact nrm_in hr _
        have e2 : isZ (divV v s) = false := by rw [← e1]; exact nrm_isZ 50 v HZ.out
        have HE := hide (show normalR v = .tuple #[.agg #[.int .i64 (v.x.tdiv s), .int .i64 (v.y.tdiv s), .int .i64 (v.z.tdiv s)], .bool true] by rw [normalR, e1, e2]; rfl)
        clear hr e1 e2
        go_wp2_with fail
        refine bodyPost_ret (v := normalR v) (by rw [HE.out]; simp [results, Try.results111, go_sem, hd1]) rfl ⟨rfl, ?_⟩
        exact ((HB1.out.setCell (by simp) _).setCell (by simp) _).setCell (by simp) _
  · have hz' : eqV ⟨v.x, v.y, v.z⟩ ⟨0, 0, 0⟩ = true := hz
    obtain ⟨e1, e2, e3⟩ := isZ_of hz
    obtain ⟨x, y, z⟩ := v
    simp only at e1 e2 e3
    subst e1 e2 e3
    clear hz hv
    go_enter Try.func111, Try.ntmps111
    go_wp2_with fail
    refine bodyPost_ret (v := normalR ⟨0, 0, 0⟩) (by simp [results, Try.results111, go_sem]; rfl) rfl ⟨rfl, ?_⟩
    go_grown
end Go.Proofs.Ytionbckpgfaneaa
