/- NormalsParts, walked. -/
import Derived.Test.YtionbckpgfaneaaLe
import Derived.Test.YtionbckpgfaneaaQj
import Derived.Test.YtionbckpgfaneaaWp
import Derived.Deep.DeepCutAuto
import Derived.BigRegion
namespace Go.Proofs.Ytionbckpgfaneaa
open Go.RowKit
set_option maxHeartbeats 1000000
set_option maxRecDepth 100000
attribute [local go_sem] eq47
abbrev rad15 (p : Int) : Int := radOf 4 1 9000 70000 1048577 p
theorem newOne_ (w : World) (cs : Array Value) (t : TypeId) {k : Nat} (h : k = w.heap.size) : Sl (w.alloc (.cells cs t)) (some ⟨k, 0, none⟩) cs.toList := by rw [h]; exact Sl.newW w cs t
theorem below_st3 {B N : Nat} {w0 w : World} (h : Below B w0 w) (hN : B ≤ N) (v0 v1 v2 : Value) : Below B w0 (((w.setCell ⟨N, 0, none⟩ v0).setCell ⟨N, 1, none⟩ v1).setCell ⟨N, 2, none⟩ v2) := ((h.setCell hN _).setCell hN _).setCell hN _
theorem below_two {B : Nat} {w0 w : World} (h : Below B w0 w) (hz : B ≤ w.heap.size) (o o' : Obj) : Below B w0 ((w.alloc o).alloc o') := (h.alloc hz _).alloc (by simp; omega) _
/-- a variable of three numbers, and a truth beside it -/
def PRel (wq : World) (V : V3) (s t : Value) (wx : World) : Prop := t = .bool true ∧ ∃ g : Nat, s = .pointer (some ⟨g, 0, none⟩) ∧ wq.heap.size ≤ g ∧ Below wq.heap.size wq wx ∧ wx.heap[g]? = some (.cells (vcs V) 47 (0, 0))
theorem pr1 {wq w : World} {V : V3} (gg : Below wq.heap.size wq w) : PRel wq V (.pointer (some ⟨w.heap.size, 0, none⟩)) (.bool true) (w.alloc (.cells #[.int .i64 V.x, .int .i64 V.y, .int .i64 V.z] 47)) := ⟨rfl, _, rfl, gg.size, gg.alloc gg.size _, new_at _ _ rfl⟩
theorem pr2 {wq w : World} {V : V3} {N : Nat} {z0 z1 z2 : Value} (gg : Below wq.heap.size wq w) (o7 : wq.heap.size ≤ N) (K7 : w.heap[N]? = some (.cells #[z0, z1, z2] 47 (0, 0))) : PRel wq V (.pointer (some ⟨N, 0, none⟩)) (.bool true) (((w.setCell ⟨N, 0, none⟩ (.int .i64 V.x)).setCell ⟨N, 1, none⟩ (.int .i64 V.y)).setCell ⟨N, 2, none⟩ (.int .i64 V.z)) :=
  ⟨rfl, _, rfl, o7, below_st3 gg o7 _ _ _, blk_set (blk_set (blk_set K7 0 _) 1 _) 2 _⟩
theorem find_yes (A B H : Option Addr) (ca cb ch k : Nat) (a b : List IV) (h : List V3) (ra rb : Int) (n : V3) (w : World) (hf : findN a ra b rb h = some n) (hk : h.length = k) (sa : SlI w A a) (sb : SlI w B b) (sh : SlV w H h) (m1 : a.length ≤ 9223372036854775807) (m2 : b.length ≤ 9223372036854775807) (m3 : h.length ≤ 9223372036854775807) :
    Calls Try.prog 93 #[.slice A a.length ca, .int .i64 ra, .slice B b.length cb, .int .i64 rb, .slice H k ch] w fun e w' => e = .returned (.tuple #[.agg #[.int .i64 n.x, .int .i64 n.y, .int .i64 n.z], .bool true]) ∧ Below w.heap.size w w' := by
  subst hk
  have := find_any A B H ca cb ch a b h ra rb w sa sb sh m1 m2 m3
  rw [hf] at this
  exact this
theorem hint1 (w : World) (n : V3) : SlV (w.alloc (.cells #[.int .i64 n.x, .int .i64 n.y, .int .i64 n.z] 47)) (some ⟨w.heap.size, 0, none⟩) [n] := Sl.newW w _ 47
theorem hint2 (w : World) (n : V3) (o : Obj) : SlV ((w.alloc (.cells #[.int .i64 n.x, .int .i64 n.y, .int .i64 n.z] 47)).alloc o) (some ⟨w.heap.size, 0, none⟩) [n] := Sl.alloc (hint1 w n) o
theorem hint3 (w : World) (n : V3) (o : Obj) : SlV ((w.alloc o).alloc (.cells #[.int .i64 n.x, .int .i64 n.y, .int .i64 n.z] 47)) (some ⟨w.heap.size + 1, 0, none⟩) [n] := newOne_ _ _ 47 (by simp)
theorem bd1 (w : World) (o : Obj) : Below w.heap.size w (w.alloc o).drew := ((Below.refl _ _).alloc (Nat.le_refl _) _).drew
theorem bd2 (w : World) (o o' : Obj) : Below w.heap.size w ((w.alloc o).alloc o').drew := (below_two (Below.refl _ _) (Nat.le_refl _) o o').drew
theorem hint1d (w : World) (n : V3) : SlV (w.alloc (.cells #[.int .i64 n.x, .int .i64 n.y, .int .i64 n.z] 47)).drew (some ⟨w.heap.size, 0, none⟩) [n] := hint1 w n
theorem hint2d (w : World) (n : V3) (o : Obj) : SlV ((w.alloc (.cells #[.int .i64 n.x, .int .i64 n.y, .int .i64 n.z] 47)).alloc o).drew (some ⟨w.heap.size, 0, none⟩) [n] := hint2 w n o
theorem hint3d (w : World) (n : V3) (o : Obj) : SlV ((w.alloc o).alloc (.cells #[.int .i64 n.x, .int .i64 n.y, .int .i64 n.z] 47)).drew (some ⟨w.heap.size + 1, 0, none⟩) [n] := hint3 w n o
theorem newB2 {w w' : World} {o o' : Obj} (hb : Below ((w.alloc o).alloc o').drew.heap.size ((w.alloc o).alloc o').drew w') : w'.heap[w.heap.size]? = some o := (hb.block _ (by simp; omega)).trans (show ((w.alloc o).alloc o').heap[w.heap.size]? = some o from (Below.heap_alloc _ _ _ (by simp)).trans (new_at _ _ rfl))
theorem newB1 {w w' : World} {o o' : Obj} (hb : Below ((w.alloc o).alloc o').drew.heap.size ((w.alloc o).alloc o').drew w') : w'.heap[w.heap.size + 1]? = some o' := (hb.block _ (by simp)).trans (show ((w.alloc o).alloc o').heap[w.heap.size + 1]? = some o' from new_at _ _ (by simp))
theorem normalsParts_walk (l m o r : List Int) (p q : Int) (A4 A5 A6 A7 : Option Addr) (c4 c5 c6 c7 : Nat) (w : World)
    (hs4 : SlN w A4 l) (hs5 : SlN w A5 m) (hs6 : SlN w A6 o) (hs7 : SlN w A7 r) (m4 : l.length ≤ 9223372036854775807) (m5 : m.length ≤ 9223372036854775807) (m6 : o.length ≤ 9223372036854775807) (m7 : r.length ≤ 9223372036854775807) (hp : I64 p) (hq : I64 q) :
    Calls Try.prog 37 #[.slice A4 l.length c4, .slice A5 m.length c5, .slice A6 o.length c6, .slice A7 r.length c7, .int .i64 p, .int .i64 q] w fun e w' => e = .returned (.bool true) ∧ Below w.heap.size w w' := by
  have S4 := hide hs4; clear hs4
  have S5 := hide hs5; clear hs5
  have S6 := hide hs6; clear hs6
  have S7 := hide hs7; clear hs7
  have HP := hide hp; clear hp
  have HQ := hide hq; clear hq
  have B0 := hide (Below.refl w.heap.size w)
  have z0 : w.heap.size ≤ w.heap.size := Nat.le_refl _
  go_enter Try.func37, Try.ntmps37
  go_wp2_with fail
  refine (points_any A4 l c4 3000 _ S4.out m4 (by omega) (by omega)).mono ?_
  rintro e w1 ⟨va, as_, rfl, la1, la5, oka, hoa, hb1⟩
  have z1 : w.heap.size ≤ w1.heap.size := Nat.le_trans z0 hb1.size
  have B1 := hide (B0.out.trans (hb1.mono z0)); clear B0
  replace S4 := hide (S4.out.below hb1)
  replace S5 := hide (S5.out.below hb1)
  replace S6 := hide (S6.out.below hb1)
  replace S7 := hide (S7.out.below hb1)
  obtain ⟨Aa, ca, rfl, _, _, _⟩ := own_val hoa
  have SA := hide (show SlI w1 Aa as_ from own_sl hoa)
  have OKA := hide oka
  clear hoa oka
  clear hb1
  go_wp2_with fail
  have PA := hide (placed_made (by omega) la1 (by omega) OKA.out)
  refine (points_any A5 m c5 3000 _ S5.out m5 (by omega) (by omega)).mono ?_
  rintro e w2 ⟨vb, bs, rfl, lb1, lb5, okb, hob, hb2⟩
  have z2 : w.heap.size ≤ w2.heap.size := Nat.le_trans z1 hb2.size
  have B2 := hide (B1.out.trans (hb2.mono z1)); clear B1
  replace S4 := hide (S4.out.below hb2)
  replace S5 := hide (S5.out.below hb2)
  replace S6 := hide (S6.out.below hb2)
  replace S7 := hide (S7.out.below hb2)
  replace SA := hide (SA.out.below hb2)
  obtain ⟨Ab, cb, rfl, _, _, _⟩ := own_val hob
  have SB := hide (show SlI w2 Ab bs from own_sl hob)
  have OKB := hide okb
  clear hob okb
  clear hb2
  go_wp2_with fail
  have PB := hide (placed_made (by omega) lb1 (by omega) OKB.out)
  refine (radius17_any p _ HP.out).mono ?_
  rintro e w' ⟨rfl, rfl⟩
  go_wp2_with fail
  refine (radius17_any q _ HQ.out).mono ?_
  rintro e w' ⟨rfl, rfl⟩
  go_wp2_with fail
  refine (find_any Aa Ab none ca cb 0 as_ bs [] (rad15 p) (rad15 q) _ SA.out SB.out (nilV _) (by omega) (by omega) (by simp)).mono ?_
  rintro e w3 ⟨rfl, hb3⟩
  have z3 : w.heap.size ≤ w3.heap.size := Nat.le_trans z2 hb3.size
  have B3 := hide (B2.out.trans (hb3.mono z2)); clear B2
  replace S4 := hide (S4.out.below hb3)
  replace S5 := hide (S5.out.below hb3)
  replace S6 := hide (S6.out.below hb3)
  replace S7 := hide (S7.out.below hb3)
  replace SA := hide (SA.out.below hb3)
  replace SB := hide (SB.out.below hb3)
  clear hb3
  cases hf : findN as_ (rad15 p) bs (rad15 q) []
  · unfold findR
    go_wp2_with fail
    refine (awake17 _).mono ?_
    rintro e w' ⟨rfl, hb⟩
    go_wp2_with fail
    go_ret
    exact ⟨rfl, (B3.out.alloc z3 _).trans (hb.mono (by simp; omega))⟩
  · rename_i n
    have SEP := hide (find_sound hf)
    clear hf
    unfold findR
    go_upto_region 3 with fail
    obtain ⟨w4, hw4⟩ : ∃ W, W = (w3.alloc (.cells #[.int .i64 n.x, .int .i64 n.y, .int .i64 n.z] 47)) := ⟨_, rfl⟩
    rw [← hw4]
    have hb4 : Below w3.heap.size w3 w4 := by rw [hw4]; go_grown
    have z4 : w.heap.size ≤ w4.heap.size := Nat.le_trans z3 hb4.size
    have B4 := hide (B3.out.trans (hb4.mono z3)); clear B3
    replace S4 := hide (S4.out.below hb4)
    replace S5 := hide (S5.out.below hb4)
    replace S6 := hide (S6.out.below hb4)
    replace S7 := hide (S7.out.below hb4)
    replace SA := hide (SA.out.below hb4)
    replace SB := hide (SB.out.below hb4)
    have KN := hide (show w4.heap[w3.heap.size]? = some (.cells (vcs n) 47 (0, 0)) by rw [hw4]; exact new_at _ _ (by simp))
    have yN : w3.heap.size < w4.heap.size := by rw [hw4]; simp <;> omega
    clear hw4 hb4
    go_wp2_with fail
    refine (chosen_any Aa A6 as_ o ca c6 _ SA.out S6.out (by omega) m6 (ok_made (by omega) OKA.out)).mono ?_
    rintro e w5 ⟨vx, xs, rfl, chx, hox, hb5⟩
    have z5 : w.heap.size ≤ w5.heap.size := Nat.le_trans z4 hb5.size
    have B5 := hide (B4.out.trans (hb5.mono z4)); clear B4
    replace S4 := hide (S4.out.below hb5)
    replace S5 := hide (S5.out.below hb5)
    replace S6 := hide (S6.out.below hb5)
    replace S7 := hide (S7.out.below hb5)
    replace SA := hide (SA.out.below hb5)
    replace SB := hide (SB.out.below hb5)
    replace KN := hide ((hb5.block _ yN).trans KN.out)
    replace yN := Nat.lt_of_lt_of_le yN hb5.size
    have hlx := chx.1
    have hlx8 : xs.length ≤ 5 := by omega
    have hlx1 : 1 ≤ xs.length := by omega
    obtain ⟨Ax, cx, rfl, _, _, _⟩ := own_val hox
    have SX := hide (show SlI w5 Ax xs from own_sl hox)
    have CHX := hide chx
    clear hox chx hlx
    clear hb5
    go_wp2_with fail
    refine (chosen_any Ab A7 bs r cb c7 _ SB.out S7.out (by omega) m7 (ok_made (by omega) OKB.out)).mono ?_
    rintro e w6 ⟨vy, ys, rfl, chy, hoy, hb6⟩
    have z6 : w.heap.size ≤ w6.heap.size := Nat.le_trans z5 hb6.size
    have B6 := hide (B5.out.trans (hb6.mono z5)); clear B5
    replace S4 := hide (S4.out.below hb6)
    replace S5 := hide (S5.out.below hb6)
    replace S6 := hide (S6.out.below hb6)
    replace S7 := hide (S7.out.below hb6)
    replace SA := hide (SA.out.below hb6)
    replace SB := hide (SB.out.below hb6)
    replace SX := hide (SX.out.below hb6)
    replace KN := hide ((hb6.block _ yN).trans KN.out)
    replace yN := Nat.lt_of_lt_of_le yN hb6.size
    have hly := chy.1
    have hly8 : ys.length ≤ 5 := by omega
    have hly1 : 1 ≤ ys.length := by omega
    obtain ⟨Ay, cy, rfl, _, _, _⟩ := own_val hoy
    have SY := hide (show SlI w6 Ay ys from own_sl hoy)
    have CHY := hide chy
    clear hoy chy hly
    clear hb6
    go_wp2_with fail
    obtain ⟨s2, f2⟩ := find_parts SEP.out CHX.out CHY.out
    have S2 := hide s2; have F2 := hide f2; clear s2 f2
    go_cut [19, 20] (fun s19 s20 wx => PRel w6 n s19 s20 wx)
    case first =>
      have d0 := blk_cell KN.out; simp only [vcs] at d0
      have dn := d0
      have gg : Below w6.heap.size w6 w6.drew := (Below.refl _ _).drew
      go_region_held3 (fun w' => ∀ i, w'.cell? ⟨w3.heap.size, i, none⟩ = #[.int .i64 n.x, .int .i64 n.y, .int .i64 n.z][i]?) (first | with_reducible exact dn | with_reducible exact keepf (by first | with_reducible exact gg | with_reducible exact bd1 _ _ | with_reducible exact bd2 _ _ _ | with_reducible exact gg.alloc gg.size _ | with_reducible exact below_two gg gg.size _ _ | with_reducible exact below_st3 gg o7 _ _ _ | with_reducible exact below_st3 gg o8 _ _ _) yN d0 | go_keep) (first | (go_at_call 91; (with_reducible refine (radius17_any p _ HP.out).mono ?_); rintro e w' ⟨rfl, rfl⟩) | (go_at_call 91; (with_reducible refine (radius17_any q _ HQ.out).mono ?_); rintro e w' ⟨rfl, rfl⟩) | (go_at_call 93; (with_reducible refine (find_yes Ax Ay _ cx cy _ 1 xs ys [n] (rad15 p) (rad15 q) n _ F2.out rfl (SX.out.below (by first | with_reducible exact gg | with_reducible exact bd1 _ _ | with_reducible exact bd2 _ _ _ | with_reducible exact gg.alloc gg.size _ | with_reducible exact below_two gg gg.size _ _)) (SY.out.below (by first | with_reducible exact gg | with_reducible exact bd1 _ _ | with_reducible exact bd2 _ _ _ | with_reducible exact gg.alloc gg.size _ | with_reducible exact below_two gg gg.size _ _)) (by first | with_reducible exact hint1d _ n | with_reducible exact hint2d _ n _ | with_reducible exact hint3d _ n _ | with_reducible exact hint1 _ n | with_reducible exact hint2 _ n _ | with_reducible exact hint3 _ n _) (by omega) (by omega) (by simp)).mono ?_); rintro e wz ⟨rfl, hb⟩; (first | (have K7 := newB1 hb; have K8 := newB2 hb; have o7 : w6.heap.size ≤ w6.heap.size + 1 := Nat.le_succ _; have o8 : w6.heap.size ≤ w6.heap.size := Nat.le_refl _; have y7 := blt K7; have y8 := blt K8; have q7 := blk_cell K7; have q8 := blk_cell K8; have r7 := blk_frozen K7; have r8 := blk_frozen K8) | skip); have gg : Below w6.heap.size w6 wz := stepB hb (by first | with_reducible exact gg | with_reducible exact bd1 _ _ | with_reducible exact bd2 _ _ _ | with_reducible exact gg.alloc gg.size _ | with_reducible exact below_two gg gg.size _ _); have dn := keepf gg yN d0))
      all_goals
        go_wp2_with fail
        go_meet
        case rel =>
          first
            | with_reducible exact pr1 gg
            | with_reducible exact pr2 gg o7 K7
            | with_reducible exact pr2 gg o8 K8
    case rest =>
      obtain ⟨w7, rfl⟩ : ∃ w7 : World, w7 = wc := ⟨_, rfl⟩
      obtain ⟨rfl, g, rfl, og, b7, k7⟩ := hcut
      have B7 := hide (B6.out.trans (b7.mono z6))
      have z7 := B7.out.size
      have K7 := hide k7
      have y7 := blt k7
      replace SX := hide (SX.out.below b7); replace SY := hide (SY.out.below b7)
      replace KN := hide ((b7.block _ yN).trans KN.out)
      have yN7 := Nat.lt_of_lt_of_le yN b7.size
      clear b7 k7 yN
      go_wp2_with fail
      have kN0 := blk_cell KN.out; simp only [vcs] at kN0
      have kG0 := blk_cell K7.out; simp only [vcs] at kG0
      have kN := kN0; have kG := kG0
      have g0 : Below w7.heap.size w7 w7.drew := (Below.refl _ _).drew
      have eqn : eqV ⟨n.x, n.y, n.z⟩ ⟨n.x, n.y, n.z⟩ = true := by simp [eqV]
      go_region_held3 (fun w' => (∀ i, w'.cell? ⟨w3.heap.size, i, none⟩ = #[.int .i64 n.x, .int .i64 n.y, .int .i64 n.z][i]?) ∧ (∀ i, w'.cell? ⟨g, i, none⟩ = #[.int .i64 n.x, .int .i64 n.y, .int .i64 n.z][i]?)) (first | with_reducible exact ⟨kN, kG⟩ | go_keep) (first | (go_at_call 89; (with_reducible refine (awake17 _).mono ?_); rintro e u1 ⟨rfl, b1⟩; have g1 := g0.trans (b1.mono g0.size); have kN := keepe g1 yN7 kN0; have kG := keepe g1 y7 kG0) | (go_at_call 91; (with_reducible refine (radius17_any p _ HP.out).mono ?_); rintro e w' ⟨rfl, rfl⟩) | (go_at_call 91; (with_reducible refine (radius17_any q _ HQ.out).mono ?_); rintro e w' ⟨rfl, rfl⟩) | (go_at_call 73; (with_reducible refine (separates_any n Ax xs cx (rad15 p) Ay ys cy (rad15 q) _ (SX.out.below g1) (SY.out.below g1) (by omega) (by omega)).mono ?_); rintro e u2 ⟨rfl, b2⟩; rw [S2.out]; have g2 := g1.trans (b2.mono g1.size); have kN := keepe g2 yN7 kN0; have kG := keepe g2 y7 kG0))
      go_wp2_with fail
      go_ret
      exact ⟨by simp, B7.out.trans (g2.mono z7)⟩
end Go.Proofs.Ytionbckpgfaneaa
