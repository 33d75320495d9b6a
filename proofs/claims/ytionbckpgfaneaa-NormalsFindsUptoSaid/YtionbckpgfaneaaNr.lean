/- Walks of the search, part r: the reference's Extreme and Moved. -/
import Derived.Test.YtionbckpgfaneaaXe
namespace Go.Proofs.Ytionbckpgfaneaa
open Go.RowKit
set_option maxHeartbeats 4000000
set_option maxRecDepth 100000
attribute [local go_sem] index47_0 index47_1 index47_2
theorem stepBr {N : Nat} {w X w2 : World} (h : Below X.heap.size X w2) (h0 : Below N w X) (hN : N ≤ X.heap.size := by omega) : Below N w w2 := h0.trans (h.mono hN)
def ExInv (w : World) (N : Nat) (n : V3) (l : List V3) (f : Nat → Int) (t i : Value) (wr : World) : Prop :=
  ∃ k : Nat, 1 ≤ k ∧ k ≤ l.length ∧ i = .int .i64 k ∧ t = .int .i64 (amin f k : Nat) ∧ wr.heap[N]? = some (.cells (vcs n) 47 (0, 0)) ∧ Below N w wr
/-- armplanref14.Extreme -/
theorem extreme_any (n : V3) (A : Option Addr) (l : List V3) (c : Nat) (sg : Int) (f : Nat → Int) (w : World) (hs : SlV w A l) (hn : inR n = true) (h1 : 1 ≤ l.length) (h8 : l.length ≤ 8) (hv : ∀ j (hj : j < l.length), vok l[j] = true) (hsg : sg = 1 ∨ sg = -1) (hf : ∀ i, f i = sg * dgo n l i) :
    Calls Try.prog 159 #[.agg #[.int .i64 n.x, .int .i64 n.y, .int .i64 n.z], .slice A l.length c, .int .i64 sg] w
      fun e w' => e = .returned (.int .i64 (amin f l.length : Nat)) ∧ Below w.heap.size w w' := by
  have HS := hide hs; have HP := hide (fun j (hj : j < l.length) => PB_of hn (hv j hj)); have HF := hide hf; clear hs hn hv hf
  have l0 : 0 < l.length := by omega
  obtain ⟨b, off, rfl, hbb⟩ := HS.out.addr l0
  go_enter Try.func159, Try.ntmps159
  go_wp2_with fail
  go_loopw [7, 8] (fun t i wr => ExInv w w.heap.size n l f t i wr) (fun _ i _ => l.length - (intOf i).toNat)
  case atStart => exact ⟨1, by omega, h1, rfl, rfl, heap_alloc_new w _, by go_grown⟩
  case round =>
    obtain ⟨k, k1, hk, rfl, rfl, hN, hB⟩ := hrel
    have KN := hide hN; have HB := hide hB
    have yN := hB.size
    have yN0 : w.heap.size < wr.heap.size := by
      obtain ⟨h, _⟩ := Array.getElem?_eq_some_iff.mp hN
      exact h
    have d0 := blk_cell hN; simp only [vcs] at d0
    clear hN hB
    have jlt : amin f k < k := amin_lt f k (by omega)
    obtain ⟨j, hj⟩ : ∃ j, j = amin f k := ⟨_, rfl⟩
    rw [← hj] at jlt ⊢
    have HJ := hide hj; clear hj
    by_cases hkl : k < l.length
    · have hjl : j < l.length := by omega
      obtain ⟨a00, a01, a02⟩ := (HS.out.below HB.out).at_ hkl
      obtain ⟨b00, b01, b02⟩ := (HS.out.below HB.out).at_ hjl
      obtain ⟨pb1, pb2, pb3⟩ := HP.out k hkl
      obtain ⟨pc1, pc2, pc3⟩ := HP.out j hjl
      have xb := (HP.out k hkl).dot; have yb := (HP.out j hjl).dot
      have HK := hide (dgo_at n l k hkl); have HJJ := hide (dgo_at n l j hjl)
      obtain ⟨X, hX⟩ : ∃ X, X = dotV n l[k] := ⟨_, rfl⟩
      obtain ⟨Y, hY⟩ : ∃ Y, Y = dotV n l[j] := ⟨_, rfl⟩
      rw [← hX] at xb HK
      rw [← hY] at yb HJJ
      have HX := hide hX; have HY := hide hY
      clear hX hY
      have i0 : (0 : Int) ≤ (k : Int) := Int.natCast_nonneg _
      have i1 : (k : Int) < (l.length : Int) := by omega
      have i2 : (0 : Int) ≤ (j : Int) := Int.natCast_nonneg _
      have i3 : (j : Int) < (l.length : Int) := by omega
      have sX : -13194139533312 ≤ sg * X ∧ sg * X ≤ 13194139533312 := by rcases hsg with rfl | rfl <;> omega
      have sY : -13194139533312 ≤ sg * Y ∧ sg * Y ≤ 13194139533312 := by rcases hsg with rfl | rfl <;> omega
      have w1 := IntWalk.i64_in (sg * X) (by omega); have w2 := IntWalk.i64_in (sg * Y) (by omega)
      have hbr : b < wr.heap.size := by omega
      have cN := d0; have a0 := a00; have a1 := a01; have a2 := a02; have b0 := b00; have b1 := b01; have b2 := b02
      have gg : Below wr.heap.size wr wr.drew := (Below.refl _ _).drew
      go_wp2_with fail
      go_region_held3 (fun w' => (∀ i, w'.cell? ⟨w.heap.size, i, none⟩ = #[.int .i64 n.x, .int .i64 n.y, .int .i64 n.z][i]?) ∧ w'.cell? ⟨b, off + k * 3, none⟩ = some (.int .i64 l[k].x) ∧ w'.cell? ⟨b, off + k * 3 + 1, none⟩ = some (.int .i64 l[k].y) ∧ w'.cell? ⟨b, off + k * 3 + 2, none⟩ = some (.int .i64 l[k].z) ∧ w'.cell? ⟨b, off + j * 3, none⟩ = some (.int .i64 l[j].x) ∧ w'.cell? ⟨b, off + j * 3 + 1, none⟩ = some (.int .i64 l[j].y) ∧ w'.cell? ⟨b, off + j * 3 + 2, none⟩ = some (.int .i64 l[j].z))
        (first | exact ⟨cN, a0, a1, a2, b0, b1, b2⟩ | go_keep)
        (first | (go_at_call 160; (with_reducible refine (dotn160 n l[k] 4398046511104 _ (by omega) pb1 pb2 pb3).mono ?_); rintro e w5 ⟨rfl, bb⟩; rw [← HX.out]; have gg := gg.trans (bb.mono gg.size); have cN := keepf gg yN0 d0; have a0 := (gg.cell (p := ⟨b, off + k * 3, none⟩) hbr).trans a00; have a1 := (gg.cell (p := ⟨b, off + k * 3 + 1, none⟩) hbr).trans a01; have a2 := (gg.cell (p := ⟨b, off + k * 3 + 2, none⟩) hbr).trans a02; have b0 := (gg.cell (p := ⟨b, off + j * 3, none⟩) hbr).trans b00; have b1 := (gg.cell (p := ⟨b, off + j * 3 + 1, none⟩) hbr).trans b01; have b2 := (gg.cell (p := ⟨b, off + j * 3 + 2, none⟩) hbr).trans b02) | (go_at_call 160; (with_reducible refine (dotn160 n l[j] 4398046511104 _ (by omega) pc1 pc2 pc3).mono ?_); rintro e w6 ⟨rfl, bb⟩; rw [← HY.out]; have gg := gg.trans (bb.mono gg.size); have cN := keepf gg yN0 d0; have a0 := (gg.cell (p := ⟨b, off + k * 3, none⟩) hbr).trans a00; have a1 := (gg.cell (p := ⟨b, off + k * 3 + 1, none⟩) hbr).trans a01; have a2 := (gg.cell (p := ⟨b, off + k * 3 + 2, none⟩) hbr).trans a02; have b0 := (gg.cell (p := ⟨b, off + j * 3, none⟩) hbr).trans b00; have b1 := (gg.cell (p := ⟨b, off + j * 3 + 1, none⟩) hbr).trans b01; have b2 := (gg.cell (p := ⟨b, off + j * 3 + 2, none⟩) hbr).trans b02))
      have KN6 := hide ((gg.block _ yN0).trans KN.out)
      have B6 := hide (stepBr gg HB.out)
      clear gg bb cN a0 a1 a2 b0 b1 b2 d0 a00 a01 a02 b00 b01 b02 pb1 pb2 pb3 pc1 pc2 pc3 w1 w2
      by_cases hc : sg * X < sg * Y
      · have HA := hide (amin_to (f := f) (k := k) (by rw [HF.out, HF.out, ← HJ.out, HK.out, HJJ.out]; exact hc))
        go_wp2_with fail
        go_roundw
        case rel => exact ⟨k + 1, by omega, by omega, by simp, by rw [HA.out], KN6.out, B6.out⟩
        case measure => simp [intOf] <;> omega
      · have HA := hide (amin_on (f := f) (k := k) (by rw [HF.out, HF.out, ← HJ.out, HK.out, HJJ.out]; exact hc))
        go_wp2_with fail
        go_roundw
        case rel => exact ⟨k + 1, by omega, by omega, by simp, by rw [HA.out, ← HJ.out], KN6.out, B6.out⟩
        case measure => simp [intOf] <;> omega
    · obtain rfl : k = l.length := by omega
      clear d0
      go_wp2_with fail
      go_ret
      exact ⟨by rw [← HJ.out]; rfl, HB.out⟩
def M2Inv (w : World) (g n cap : Nat) (L : List Int) (t : Int) (u i : Value) (wr : World) : Prop :=
  ∃ k : Nat, k ≤ n ∧ i = .int .i64 k ∧ u = .int .i64 (lostL (L.take k) t) ∧ wr.ownsRow w.heap.size 2 1 (.slice (some ⟨g, 0, none⟩) n cap) n ((gk L t k).map (Value.int .i64)) ∧ Below w.heap.size w wr
def Moved2Post (L : List Int) (t : Int) (i n : Nat) (w : World) (e : Ending) (w' : World) : Prop := ∃ (g cap : Nat), e = .returned (.slice (some ⟨g, 0, none⟩) n cap) ∧ w.heap.size ≤ g ∧ SlN w' (some ⟨g, 0, none⟩) (movedL L t i) ∧ Below w.heap.size w w'
theorem own_cells {w : World} {base g n cap : Nat} {L : List Int} (h : w.ownsRow base 2 1 (.slice (some ⟨g, 0, none⟩) n cap) n (L.map (Value.int .i64))) {k : Nat} (hk : k < n) (hL : k < L.length) : w.cell? ⟨g, k, none⟩ = some (.int .i64 L[k]) := by
  rw [h.cellAt k (by omega)]; simp [hL]
/-- armplanref14.Moved -/
theorem moved_ref (A : Option Addr) (n c : Nat) (L : List Int) (i : Nat) (t : Int) (w : World) (hs : SlN w A L) (hL : WI L n) (hn : n ≤ 8) (hi : i < n) (t0 : 0 ≤ t) (t1 : t ≤ 256) :
    Calls Try.prog 161 #[.slice A n c, .int .i64 t, .int .i64 i] w (Moved2Post L t i n w) := by
  obtain ⟨i0, hi0, hz0, hz1, hz2⟩ := info_parts info2
  obtain ⟨hl, hnn, hsum⟩ := hL
  have HS := hide hs; have HNN := hide hnn; have HSUM := hide hsum; have HL := hide hl; clear hs hnn hsum hl
  go_enter Try.func161, Try.ntmps161
  go_wp2_with (at_builtin; refine wpList_append_sl _ rfl _ _ 22 rfl w.heap.size 2 i0 _ 1 8 Try.underlying22 hi0 hz0 hz1 hz2 rfl (by decide) (.slice none 0 0) 0 [] rfl (World.ownsRow_nil _ _ _ _) A n c (L.map (Value.int .i64)) rfl (by simp [HL.out]) HS.out (by simp [Value.oneCell']) (by unfold maxLen; omega) (by omega) (Nat.le_refl _) ?_; intro v1 w1 hown hg)
  have hb1 : Below w.heap.size w w1 := ⟨hg.os, hg.tape, hg.output, hg.size, fun k hk => hg.block k hk (by simp [Value.ownBlock])⟩
  have B1 := hide hb1
  rw [Nat.zero_add, List.nil_append] at hown
  obtain ⟨g, cap, hv, hbg, hgl, hnc, hcm⟩ := own_form hown (by omega)
  subst hv
  have OW := hide hown
  clear hown hg hb1 hgl hnc hcm
  go_wp2_with fail
  go_loopw [8, 9] (fun u i wr => M2Inv w g n cap L t u i wr) (fun _ i _ => n - (intOf i).toNat)
  case atStart => exact ⟨0, by omega, rfl, by simp [lostL], by rw [gk_zero]; exact OW.out, B1.out⟩
  case round =>
    clear OW B1
    obtain ⟨k, hk, rfl, rfl, hO, hB⟩ := hrel
    have HO := hide hO; have HB := hide hB
    have hgw : g < wr.heap.size := (hO.lt g rfl).2
    obtain ⟨s1, s2⟩ := lost_take t0 t1 HNN.out k
    rw [HSUM.out] at s2
    by_cases hlt2 : k < n
    · have hkL : k < L.length := by have := HL.out; omega
      have hk0 : (0 : Int) ≤ (k : Int) := Int.natCast_nonneg _
      have hk1 : (k : Int) < (n : Int) := by omega
      have hx0 := HNN.out L[k] (by simp)
      have hx1 := mem_le_sum L HNN.out L[k] (by simp)
      rw [HSUM.out] at hx1
      obtain ⟨m1, m2⟩ := mul_bd L[k] t 65536 256 hx0 hx1 (by omega) t1
      have m0 := Int.mul_nonneg hx0 t0
      obtain ⟨p1, p2⟩ := part_bd hx0 t0 t1
      have ET := hide (tdiv256 m0)
      rw [← ET.out] at p1 p2
      have hcK : wr.cell? ⟨g, k, none⟩ = some (.int .i64 L[k]) := by rw [own_cells hO hlt2 (by rw [gk_len]; exact hkL), gk_get L t k hkL]
      have hfK := hO.frozenAt k
      clear hO hB
      go_wp2_with fail
      go_roundw
      case rel =>
        refine ⟨k + 1, by omega, by simp, ?_, ?_, ?_⟩
        · rw [lost_succ L t k hkL, ← ET.out]
        · rw [← gk_set L t k hkL, ← ET.out, List.map_set]
          exact (HO.out.stored k _).1
        · exact HB.out.setCell (by simpa using hbg) _
      case measure => simp [intOf] <;> omega
    · obtain rfl : k = n := by omega
      have hiL : i < L.length := by have := HL.out; omega
      have eT : L.take k = L := List.take_of_length_le (by have := HL.out; omega)
      have eG : gk L t k = keptL L t := by rw [← HL.out]; exact gk_all L t
      rw [eT] at s1 s2
      have hi0' : (0 : Int) ≤ (i : Int) := Int.natCast_nonneg _
      have hi1 : (i : Int) < (k : Int) := by omega
      have hx0 := HNN.out L[i] (by simp)
      have hx1 := mem_le_sum L HNN.out L[i] (by simp)
      rw [HSUM.out] at hx1
      obtain ⟨p1, p2⟩ := part_bd hx0 t0 t1
      have eK := kept_get L t i hiL
      obtain ⟨y, hy⟩ : ∃ y, y = (keptL L t)[i]'(by rw [kept_len]; exact hiL) := ⟨_, rfl⟩
      rw [← hy] at eK
      have y0 : 0 ≤ y := by omega
      have y1 : y ≤ 65536 := by omega
      have HY := hide (show (keptL L t).set i (y + lostL L t) = movedL L t i by rw [hy]; exact moved_eq L t i hiL)
      rw [eG] at hO HO
      have hcK : wr.cell? ⟨g, i, none⟩ = some (.int .i64 y) := by rw [own_cells hO hi (by rw [kept_len]; exact hiL), hy]
      have hfK := hO.frozenAt i
      rw [eT]
      clear hO hB eT eG eK hy p1 p2
      go_wp2_with fail
      go_ret
      refine ⟨g, cap, rfl, hbg, ?_, HB.out.setCell (by simpa using hbg) _⟩
      rw [← HY.out]
      have := (HO.out.stored i (.int .i64 (y + lostL L t))).1
      rw [← List.map_set] at this
      exact own_sl this
end Go.Proofs.Ytionbckpgfaneaa
