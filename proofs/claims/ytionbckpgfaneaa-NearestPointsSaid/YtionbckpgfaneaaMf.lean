/- NearestPoints, walked. -/
import Derived.Test.YtionbckpgfaneaaNh
import Derived.Deep.DeepCutAuto
namespace Go.Proofs.Ytionbckpgfaneaa
open Go.RowKit
set_option maxHeartbeats 4000000
set_option maxRecDepth 100000
theorem slv_head {w : World} {A : Option Addr} {x : List V3} (h : SlV w A x) (l1 : 0 < x.length) : SlV w A [x[0]] := fun _ => by
  obtain ⟨v, l, rfl⟩ : ∃ v l, x = v :: l := by cases x with | nil => simp at l1 | cons v l => exact ⟨v, l, rfl⟩
  obtain ⟨b, off, e, hb, hc⟩ := h (by simp [V3.cells])
  refine ⟨b, off, e, hb, fun j u hu => hc j u ?_⟩
  rw [List.flatMap_cons, List.getElem?_append_left]
  · simpa using hu
  · have := (List.getElem?_eq_some_iff.1 hu).1
    simpa using this
/-- Search of two points -/
theorem search1 (A B : Option Addr) (p s : V3) (ca cb : Nat) (rho : Int) (k : Nat) (w : World) (r : Int × Nst) (hr : searchN [p] [s] rho k = r) (hs : SlV w A [p]) (ht : SlV w B [s]) (fa : fewB [p] = true) (fb : fewB [s] = true) (r0 : 0 ≤ rho) (r1 : rho ≤ 2097152) (kb : k ≤ 64) :
    Calls Try.prog 81 #[.slice A 1 ca, .slice B 1 cb, .int .i64 rho, .int .i64 k] w fun e w' => ∃ gL gR : Nat, e = .returned (.agg #[.int .i64 r.1, .int .i64 r.2.N.x, .int .i64 r.2.N.y, .int .i64 r.2.N.z, .slice (some ⟨gL, 0, none⟩) 1 1, .slice (some ⟨gR, 0, none⟩) 1 1, .int .i64 r.2.k]) ∧ Below w.heap.size w w' := by
  subst hr
  refine (search_any A B [p] [s] ca cb rho k w hs ht fa fb r0 r1 kb).mono ?_
  rintro e w' ⟨gL, gR, rfl, _, _, hb⟩
  exact ⟨gL, gR, rfl, hb⟩
def acc9 (a b c k : Int) : Int := if k = 0 then 0 else if k = 1 then a * a else if k = 2 then a * a + b * b else a * a + b * b + c * c
theorem nearestPoints_walk (l m : List Int) (rho steps : Int) (A0 A1 : Option Addr) (c0 c1 : Nat) (w : World) (hs0 : SlN w A0 l) (hs1 : SlN w A1 m) (m0 : l.length ≤ 9223372036854775807) (m1 : m.length ≤ 9223372036854775807) (hr : I64 rho) :
    Calls Try.prog 30 #[.slice A0 l.length c0, .slice A1 m.length c1, .int .i64 rho, .int .i64 steps] w fun e w' => e = .returned (.bool true) ∧ Below w.heap.size w w' := by
  have S0 := hide hs0; have S1 := hide hs1; clear hs0 hs1
  go_enter Try.func30, Try.ntmps30
  go_wp2_with fail
  refine (hulls_any A0 A1 l m c0 c1 rho _ S0.out S1.out m0 m1 hr).mono ?_
  rintro e w1 ⟨x, y, A, B, c, d, rfl, sx, sy, lc, ld, SX0, SY0, hb1⟩
  obtain ⟨q0, q1⟩ := rad14_bd rho
  obtain ⟨q, hq⟩ : ∃ q, rad14 rho = q := ⟨_, rfl⟩
  rw [hq] at q0 q1 ⊢
  clear hq
  have FX := hide sx.few; have FY := hide sy.few
  obtain ⟨lx1, lx5, _⟩ := sx
  obtain ⟨ly1, ly5, _⟩ := sy
  have SX := hide SX0; have SY := hide SY0
  rename_i sx' sy'
  have l0x : 0 < x.length := by omega
  have l0y : 0 < y.length := by omega
  obtain ⟨p, hp⟩ : ∃ p, p = x[0] := ⟨_, rfl⟩
  obtain ⟨s, hs⟩ : ∃ s, s = y[0] := ⟨_, rfl⟩
  have smp := sx' x[0] (by simp); have sms := sy' y[0] (by simp)
  rw [← hp] at smp
  rw [← hs] at sms
  have SP := hide (show SlV w1 A [p] by rw [hp]; exact slv_head SX0 l0x); have SS := hide (show SlV w1 B [s] by rw [hs]; exact slv_head SY0 l0y)
  have FP := hide (few_one smp); have FS := hide (few_one sms)
  unfold Sm at smp sms
  have B1 := hide hb1
  have c1 : 1 ≤ c := by omega
  have d1 : 1 ≤ d := by omega
  have c2 : (1 : Int) ≤ (c : Int) := by omega
  have d2 : (1 : Int) ≤ (d : Int) := by omega
  clear hb1 SX0 SY0 sx' sy' hp hs SX SY FX FY
  obtain ⟨k, hk⟩ : ∃ k : Nat, steps % 65 = (k : Int) := ⟨(steps % 65).toNat, by omega⟩
  have kb : k ≤ 64 := by omega
  have HK := hide hk
  clear hk
  have PT := search_points p s (rho := q) k q0
  obtain ⟨r, hr'⟩ : ∃ r, searchN [p] [s] q k = r := ⟨_, rfl⟩
  rw [hr'] at PT
  have HR := hide hr'
  obtain ⟨pk, pc⟩ := PT
  have PK := hide pk; have PC := hide pc
  clear hr' pk pc
  have HRD := hide (fun w' => round_any steps 65 w' (by decide) (by decide))
  obtain ⟨bX, oX, rfl, hbX⟩ := SP.out.addr (by simp)
  obtain ⟨bY, oY, rfl, hbY⟩ := SS.out.addr (by simp)
  go_upto_region 2 with fail
  go_cut [12] (fun s12 wx => ∃ (g gL gR : Nat), s12 = .pointer (some ⟨g, 0, none⟩) ∧ w1.heap.size ≤ g ∧ Below w1.heap.size w1 wx ∧ wx.heap[g]? = some (.cells #[.int .i64 r.1, .int .i64 r.2.N.x, .int .i64 r.2.N.y, .int .i64 r.2.N.z, .slice (some ⟨gL, 0, none⟩) 1 1, .slice (some ⟨gR, 0, none⟩) 1 1, .int .i64 r.2.k] 93 (0, 0)))
  case first =>
    have gg : Below w1.heap.size w1 w1.drew := (Below.refl _ _).drew
    go_region_with (first | (go_at_call 50; (with_reducible refine (HRD.out _).mono ?_); rintro e w' ⟨rfl, rfl⟩; rw [HK.out]) | (go_at_call 81; (with_reducible refine (search1 (some ⟨bX, oX, none⟩) (some ⟨bY, oY, none⟩) p s c d q k _ r HR.out (SP.out.below (by first | exact gg | exact gg.alloc gg.size _ | exact ((Below.refl _ _).alloc (Nat.le_refl _) _).drew)) (SS.out.below (by first | exact gg | exact gg.alloc gg.size _ | exact ((Below.refl _ _).alloc (Nat.le_refl _) _).drew)) FP.out FS.out q0 q1 kb).mono ?_); rintro e w2 ⟨gL, gR, rfl, hb⟩; (first | (have K7 := newB hb; have o7 := gg.size) | (have K7 := newBd hb; have o7 := Nat.le_refl w1.heap.size) | skip); have gg := stepB hb (by first | exact gg | exact gg.alloc gg.size _ | exact ((Below.refl _ _).alloc (Nat.le_refl _) _).drew); (try (have y7 := blt K7)); (try (have q7 := blk_cell K7)); (try (have r7 := blk_frozen K7))))
    all_goals
      go_wp2_with fail
      go_meet
      case rel =>
        first
          | exact ⟨_, gL, gR, rfl, gg.size, gg.alloc gg.size _, new_at _ _ rfl⟩
          | exact ⟨_, gL, gR, rfl, o7, ((((((gg.setCell (by first | exact o7 | simp) _).setCell (by first | exact o7 | simp) _).setCell (by first | exact o7 | simp) _).setCell (by first | exact o7 | simp) _).setCell (by first | exact o7 | simp) _).setCell (by first | exact o7 | simp) _).setCell (by first | exact o7 | simp) _, blk_set (blk_set (blk_set (blk_set (blk_set (blk_set (blk_set K7 0 _) 1 _) 2 _) 3 _) 4 _) 5 _) 6 _⟩
  case rest =>
    obtain ⟨g, gL, gR, rfl, og, hgB, kX⟩ := hcut
    have KX := hide kX; have B2 := hide hgB
    replace SP := hide (SP.out.below hgB); replace SS := hide (SS.out.below hgB)
    replace B1 := hide (stepB hgB B1.out)
    have hbX2 : bX < wc.heap.size := Nat.lt_of_lt_of_le hbX hgB.size
    have hbY2 : bY < wc.heap.size := Nat.lt_of_lt_of_le hbY hgB.size
    have z2 := hgB.size
    clear kX hgB B2 hbX hbY
    obtain ⟨X, hX⟩ : ∃ X, X = p.x - s.x := ⟨_, rfl⟩
    obtain ⟨Y, hY⟩ : ∃ Y, Y = p.y - s.y := ⟨_, rfl⟩
    obtain ⟨Z, hZ⟩ : ∃ Z, Z = p.z - s.z := ⟨_, rfl⟩
    have xb : -800000 ≤ X ∧ X ≤ 800000 := by omega
    have yb : -800000 ≤ Y ∧ Y ≤ 800000 := by omega
    have zb : -800000 ≤ Z ∧ Z ≤ 800000 := by omega
    have xs : 0 ≤ X * X ∧ X * X ≤ 640000000000 := ⟨sq_nn X, (mul_bd2 X X 800000 800000 xb.1 xb.2 xb.1 xb.2).2⟩
    have ys : 0 ≤ Y * Y ∧ Y * Y ≤ 640000000000 := ⟨sq_nn Y, (mul_bd2 Y Y 800000 800000 yb.1 yb.2 yb.1 yb.2).2⟩
    have zs : 0 ≤ Z * Z ∧ Z * Z ≤ 640000000000 := ⟨sq_nn Z, (mul_bd2 Z Z 800000 800000 zb.1 zb.2 zb.1 zb.2).2⟩
    have HD := hide (show lenSq (subV p s) = X * X + Y * Y + Z * Z by rw [hX, hY, hZ]; rfl)
    have ex := hX.symm; have ey := hY.symm; have ez := hZ.symm
    have wx := IntWalk.i64_in X (by omega); have wy := IntWalk.i64_in Y (by omega); have wz := IntWalk.i64_in Z (by omega)
    have vx := IntWalk.i64_in (X * X) (by omega); have vy := IntWalk.i64_in (Y * Y) (by omega); have vz := IntWalk.i64_in (Z * Z) (by omega)
    have s1 := IntWalk.i64_in (X * X + Y * Y) (by omega); have s2 := IntWalk.i64_in (X * X + Y * Y + Z * Z) (by omega)
    clear hX hY hZ
    go_wp2_with fail
    go_loopw [13, 14] (fun t i wr => ∃ k : Int, i = .int .i64 k ∧ 0 ≤ k ∧ k ≤ 3 ∧ t = .int .i64 (acc9 X Y Z k) ∧ Below wc.heap.size wc wr) (fun _ i _ => 3 - (intOf i).toNat)
    case atStart => exact ⟨0, rfl, by omega, by omega, rfl, Below.refl _ _⟩
    case round =>
      obtain ⟨j, rfl, j0, j3, rfl, hB⟩ := hrel
      have HB := hide hB
      obtain ⟨a0, a1, a2⟩ := (SP.out.below hB).at_ (k := 0) (by simp)
      obtain ⟨b0, b1, b2⟩ := (SS.out.below hB).at_ (k := 0) (by simp)
      simp only [Nat.zero_mul, Nat.add_zero, List.getElem_cons_zero] at a0 a1 a2 b0 b1 b2
      clear hB
      obtain rfl | rfl | rfl | rfl : j = 0 ∨ j = 1 ∨ j = 2 ∨ j = 3 := by omega
      · have e0 : acc9 X Y Z 0 = 0 := rfl
        rw [e0]
        clear e0
        go_wp2_with fail
        go_quiet (fail)
        go_wp2_with fail
        go_roundw
        case rel => exact ⟨1, rfl, by omega, by omega, rfl, below_drewN HB.out _⟩
        case measure => simp [intOf]
      · have e0 : acc9 X Y Z 1 = X * X := rfl
        rw [e0]
        clear e0
        go_wp2_with fail
        go_quiet (fail)
        go_wp2_with fail
        go_roundw
        case rel => exact ⟨2, rfl, by omega, by omega, rfl, below_drewN HB.out _⟩
        case measure => simp [intOf]
      · have e0 : acc9 X Y Z 2 = X * X + Y * Y := rfl
        rw [e0]
        clear e0
        go_wp2_with fail
        go_quiet (fail)
        go_wp2_with fail
        go_roundw
        case rel => exact ⟨3, rfl, by omega, by omega, rfl, below_drewN HB.out _⟩
        case measure => simp [intOf]
      · have e3 : acc9 X Y Z 3 = X * X + Y * Y + Z * Z := rfl
        rw [e3]
        clear e3 a0 a1 a2 b0 b1 b2
        go_wp2_with fail
        refine (awake14 _).mono ?_
        rintro e w5 ⟨rfl, hb5⟩
        have b5 := stepB hb5 HB.out
        have KX5 := hide ((b5.block _ (blt KX.out)).trans KX.out)
        have B5 := hide (stepB b5 B1.out)
        clear hb5 b5
        have yX := blt KX5.out
        have cX := blk_cell KX5.out
        have e4 : ((r.2.k : Int) == 0) = true := by simp [PK.out]
        have qq := mul_bd q q 2097152 2097152 q0 q1 (by omega) q1
        by_cases hc : X * X + Y * Y + Z * Z ≤ q * q
        · have e5 : (r.1 == 2) = true := by simpa using PC.out.2 (by rw [HD.out]; exact hc)
          go_wp2_with fail
          go_ret
          exact ⟨rfl, B5.out⟩
        · have e5 : (r.1 == 2) = false := by simp; exact fun h => hc (by rw [← HD.out]; exact PC.out.1 h)
          have e6 : decide (X * X + Y * Y + Z * Z ≤ q * q) = false := decide_eq_false hc
          go_wp2_with fail
          go_ret
          exact ⟨rfl, B5.out⟩
end Go.Proofs.Ytionbckpgfaneaa
