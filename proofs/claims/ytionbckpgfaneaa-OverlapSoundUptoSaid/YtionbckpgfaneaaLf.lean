/- OverlapSound, walked. -/
import Derived.Test.YtionbckpgfaneaaLe
import Derived.Test.YtionbckpgfaneaaWq
import Derived.Test.YtionbckpgfaneaaWr
import Derived.Test.YtionbckpgfaneaaPe
import Derived.Deep.QuietTactic
import Derived.BigQuiet
namespace Go.Proofs.Ytionbckpgfaneaa
open Go.RowKit
set_option maxHeartbeats 1000000
set_option maxRecDepth 100000
theorem w9_ok {s : List Int} (h : ∀ x ∈ s, 0 ≤ x ∧ x ≤ 9009) : ∀ x ∈ s, 0 ≤ x ∧ x ≤ 65536 := fun x hx => by have := h x hx; omega
theorem mod_corner {l m : List IV} (h : ChosenOf l m) (hm : ∀ p ∈ m, p.ok = true) : ∀ v ∈ l.map cornerV, Mod v := fun v hv => by
  obtain ⟨p, hp, rfl⟩ := List.mem_map.1 hv
  obtain ⟨q, hq, ⟨e1, a1, b1⟩, ⟨e2, a2, b2⟩, e3, a3, b3⟩ := h.mem hp
  have := ok_of (hm q hq)
  unfold Mod cornerV
  simp only
  omega
theorem sumV_bd (l : List V3) (ws : List Int) (h : l.length ≤ 5) (hl : ws.length = l.length) (hw : ∀ x ∈ ws, 0 ≤ x ∧ x ≤ 65536) (hv : ∀ p ∈ l, Mod p) : Within (sumV l ws) 175921860444160 := by
  have e1 := dotL_bdG ws l (·.x) l.length (by omega) (Nat.le_refl _) hw (fun p hp => (hv p hp).1)
  have e2 := dotL_bdG ws l (·.y) l.length (by omega) (Nat.le_refl _) hw (fun p hp => (hv p hp).2.1)
  have e3 := dotL_bdG ws l (·.z) l.length (by omega) (Nat.le_refl _) hw (fun p hp => (hv p hp).2.2)
  rw [List.take_of_length_le (Nat.le_refl _), List.take_of_length_le (by omega)] at e1 e2 e3
  unfold Within sumV
  simp only
  omega
theorem dist1_nn (x y n : Int) (hn : 1 ≤ n) : 0 ≤ dist1 x y n := (ceil_bd _ n hn (by omega)).1
theorem ceil_if2 (x y n : Int) (w : World) (h1 : -1000000000000000 ≤ x - y) (h2 : x - y ≤ 1000000000000000) (hn : 1 ≤ n) :
    Calls Try.prog 54 #[.int .i64 (if x - y < y - x then y - x else x - y), .int .i64 n] w fun e w' => e = .returned (.int .i64 (dist1 x y n)) ∧ w = w' := by
  have e : (if x - y < y - x then y - x else x - y) = max (x - y) (y - x) := by split <;> omega
  rw [e]
  exact ceil_any _ n w ⟨by omega, by omega⟩ (by omega)
def sdAcc (d0 d1 d2 k : Int) : Int := if k = 0 then 0 else if k = 1 then d0 * d0 else if k = 2 then d0 * d0 + d1 * d1 else d0 * d0 + d1 * d1 + d2 * d2
def SdInv (w : World) (g : Nat) (X Y : V3) (d0 d1 d2 : Int) (t i : Value) (wr : World) : Prop := ∃ k : Int, i = .int .i64 k ∧ 0 ≤ k ∧ k ≤ 3 ∧ t = .int .i64 (sdAcc d0 d1 d2 k) ∧ wr.heap[g]? = some (.cells (v3c X) 47 (0, 0)) ∧ wr.heap[g + 1]? = some (.cells (v3c Y) 47 (0, 0)) ∧ Below w.heap.size w wr ∧ g + 1 < wr.heap.size
theorem overlapSound_walk (l m ws o r : List Int) (p q : Int) (A4 A5 A6 A7 A8 : Option Addr) (c4 c5 c6 c7 c8 : Nat) (w : World)
    (hs4 : SlN w A4 l) (hs5 : SlN w A5 m) (hs6 : SlN w A6 ws) (hs7 : SlN w A7 o) (hs8 : SlN w A8 r) (m4 : l.length ≤ 9223372036854775807) (m5 : m.length ≤ 9223372036854775807) (m6 : ws.length ≤ 1048576) (m7 : o.length ≤ 9223372036854775807) (m8 : r.length ≤ 9223372036854775807) (hp : I64 p) (hq : I64 q) :
    Calls Try.prog 9 #[.slice A4 l.length c4, .slice A5 m.length c5, .slice A6 ws.length c6, .slice A7 o.length c7, .slice A8 r.length c8, .int .i64 p, .int .i64 q] w
      fun e w' => e = .returned (.bool true) ∧ Below w.heap.size w w' := by
  have S4 := hide hs4; clear hs4
  have S5 := hide hs5; clear hs5
  have S6 := hide hs6; clear hs6
  have S7 := hide hs7; clear hs7
  have S8 := hide hs8; clear hs8
  have HP := hide hp; clear hp
  have HQ := hide hq; clear hq
  have B0 := hide (Below.refl w.heap.size w)
  have z0 : w.heap.size ≤ w.heap.size := Nat.le_refl _
  go_enter Try.func9, Try.ntmps9
  go_wp2_with fail
  refine (points_any A4 l c4 3000 _ S4.out m4 (by omega) (by omega)).mono ?_
  rintro e w1 ⟨va, as_, rfl, la1, la5, oka, hoa, hb1⟩
  have z1 : w.heap.size ≤ w1.heap.size := Nat.le_trans z0 hb1.size
  have B1 := hide (B0.out.trans (hb1.mono z0)); clear B0
  replace S4 := hide (S4.out.below hb1)
  replace S5 := hide (S5.out.below hb1)
  replace S6 := hide (S6.out.below hb1)
  replace S7 := hide (S7.out.below hb1)
  replace S8 := hide (S8.out.below hb1)
  obtain ⟨Aa, ca, rfl, _, _, _⟩ := own_val hoa
  have SA := hide (show SlI w1 Aa as_ from own_sl hoa)
  have OKA := hide oka
  clear hoa oka
  clear hb1
  go_wp2_with fail
  refine (points_any A5 m c5 3000 _ S5.out m5 (by omega) (by omega)).mono ?_
  rintro e w2 ⟨vb, bs, rfl, lb1, lb5, okb, hob, hb2⟩
  have z2 : w.heap.size ≤ w2.heap.size := Nat.le_trans z1 hb2.size
  have B2 := hide (B1.out.trans (hb2.mono z1)); clear B1
  replace S4 := hide (S4.out.below hb2)
  replace S5 := hide (S5.out.below hb2)
  replace S6 := hide (S6.out.below hb2)
  replace S7 := hide (S7.out.below hb2)
  replace S8 := hide (S8.out.below hb2)
  replace SA := hide (SA.out.below hb2)
  obtain ⟨Ab, cb, rfl, _, _, _⟩ := own_val hob
  have SB := hide (show SlI w2 Ab bs from own_sl hob)
  have OKB := hide okb
  clear hob okb
  clear hb2
  go_wp2_with fail
  refine (equal_any as_.length bs.length A6 ws c6 _ S6.out m6 (by omega) (by omega) (by omega) (by omega)).mono ?_
  rintro e w3 ⟨vs, vt, s, t, rfl, ls, lt, s9, t9, hst, s1, s2, hos, hot, hb3⟩
  have z3 : w.heap.size ≤ w3.heap.size := Nat.le_trans z2 hb3.size
  have B3 := hide (B2.out.trans (hb3.mono z2)); clear B2
  replace S4 := hide (S4.out.below hb3)
  replace S5 := hide (S5.out.below hb3)
  replace S6 := hide (S6.out.below hb3)
  replace S7 := hide (S7.out.below hb3)
  replace S8 := hide (S8.out.below hb3)
  replace SA := hide (SA.out.below hb3)
  replace SB := hide (SB.out.below hb3)
  have CA := hide (comb_made (by omega) la1 (by omega) OKA.out ls s9 s1 s2)
  have CB := hide (comb_made (by omega) lb1 (by omega) OKB.out lt t9 (by omega) (by omega))
  have HST := hide hst
  rw [← ls] at hos
  rw [← lt] at hot
  obtain ⟨As, cs, rfl, _, _, _⟩ := own_val hos
  obtain ⟨At, ct, rfl, _, _, _⟩ := own_val hot
  have SS := hide (show SlN w3 As s from own_sl hos)
  have ST := hide (show SlN w3 At t from own_sl hot)
  have LS := hide ls; have LT := hide lt
  have S9 := hide s9; have T9 := hide t9
  have hls : s.length ≤ 5 := by omega
  have hlt : t.length ≤ 5 := by omega
  clear hos hot hst ls lt s9 t9
  clear hb3
  go_wp2_with fail
  refine (radius16_any p _ HP.out).mono ?_
  rintro e w' ⟨rfl, rfl⟩
  go_wp2_with fail
  refine (radius16_any q _ HQ.out).mono ?_
  rintro e w' ⟨rfl, rfl⟩
  go_wp2_with fail
  refine (overlaps_any s t as_ bs (rad16 p) (rad16 q) As At Aa Ab cs ct ca cb _ SS.out ST.out SA.out SB.out (by omega) (by omega) (by omega) (by omega)).mono ?_
  rintro e w4 ⟨rfl, hb4⟩
  have z4 : w.heap.size ≤ w4.heap.size := Nat.le_trans z3 hb4.size
  have B4 := hide (B3.out.trans (hb4.mono z3)); clear B3
  replace S4 := hide (S4.out.below hb4)
  replace S5 := hide (S5.out.below hb4)
  replace S6 := hide (S6.out.below hb4)
  replace S7 := hide (S7.out.below hb4)
  replace S8 := hide (S8.out.below hb4)
  replace SA := hide (SA.out.below hb4)
  replace SB := hide (SB.out.below hb4)
  replace SS := hide (SS.out.below hb4)
  replace ST := hide (ST.out.below hb4)
  cases hX : ovl s t as_ bs (rad16 p) (rad16 q)
  clear hb4
  · clear hX
    go_wp2_with fail
    refine (awake16 _).mono ?_
    rintro e w5 ⟨rfl, hb5⟩
    have z5 : w.heap.size ≤ w5.heap.size := Nat.le_trans z4 hb5.size
    have B5 := hide (B4.out.trans (hb5.mono z4)); clear B4
    replace S4 := hide (S4.out.below hb5)
    replace S5 := hide (S5.out.below hb5)
    replace S6 := hide (S6.out.below hb5)
    replace S7 := hide (S7.out.below hb5)
    replace S8 := hide (S8.out.below hb5)
    replace SA := hide (SA.out.below hb5)
    replace SB := hide (SB.out.below hb5)
    replace SS := hide (SS.out.below hb5)
    replace ST := hide (ST.out.below hb5)
    clear hb5
    go_wp2_with fail
    go_ret
    exact ⟨rfl, B5.out⟩
  · have HX := hide hX; clear hX
    go_wp2_with fail
    refine (chosen_any Aa A7 as_ o ca c7 _ SA.out S7.out (by omega) m7 (ok_made (by omega) OKA.out)).mono ?_
    rintro e w5 ⟨vx, xs, rfl, chx, hox, hb5⟩
    have z5 : w.heap.size ≤ w5.heap.size := Nat.le_trans z4 hb5.size
    have B5 := hide (B4.out.trans (hb5.mono z4)); clear B4
    replace S4 := hide (S4.out.below hb5)
    replace S5 := hide (S5.out.below hb5)
    replace S6 := hide (S6.out.below hb5)
    replace S7 := hide (S7.out.below hb5)
    replace S8 := hide (S8.out.below hb5)
    replace SA := hide (SA.out.below hb5)
    replace SB := hide (SB.out.below hb5)
    replace SS := hide (SS.out.below hb5)
    replace ST := hide (ST.out.below hb5)
    have hlx := chx.1
    have hlx8 : xs.length ≤ 5 := by omega
    have hlx1 : 1 ≤ xs.length := by omega
    obtain ⟨Ax, cx, rfl, _, _, _⟩ := own_val hox
    have SX := hide (show SlI w5 Ax xs from own_sl hox)
    have CHX := hide chx
    clear hox chx hlx
    clear hb5
    go_wp2_with fail
    refine (corners_any Ax xs cx _ SX.out (by omega)).mono ?_
    rintro e w6 ⟨vz, rfl, hoz, hb6⟩
    have z6 : w.heap.size ≤ w6.heap.size := Nat.le_trans z5 hb6.size
    have B6 := hide (B5.out.trans (hb6.mono z5)); clear B5
    replace S4 := hide (S4.out.below hb6)
    replace S5 := hide (S5.out.below hb6)
    replace S6 := hide (S6.out.below hb6)
    replace S7 := hide (S7.out.below hb6)
    replace S8 := hide (S8.out.below hb6)
    replace SA := hide (SA.out.below hb6)
    replace SB := hide (SB.out.below hb6)
    replace SS := hide (SS.out.below hb6)
    replace ST := hide (ST.out.below hb6)
    replace SX := hide (SX.out.below hb6)
    obtain ⟨zs, hzs⟩ : ∃ zs, zs = xs.map cornerV := ⟨_, rfl⟩
    have hzl : xs.length = zs.length := by rw [hzs]; simp
    rw [hzl, ← hzs] at hoz
    have LNZ := hide hzl; have HZZ := hide hzs
    have hlz8 : zs.length ≤ 5 := by omega
    obtain ⟨Az, cz, rfl, _, _, _⟩ := own_val hoz
    have SZ := hide (show SlV w6 Az zs from own_sl hoz)
    clear hoz hzl hzs
    clear hb6
    go_wp2_with fail
    refine (sum_ref Az As zs s cz cs _ SZ.out SS.out (by omega) (by rw [LS.out, ← LNZ.out, CHX.out.1]) (w9_ok S9.out) (by rw [HZZ.out]; exact mod_corner CHX.out (ok_made (by omega) OKA.out))).mono ?_
    rintro e w7 ⟨rfl, hb7⟩
    have z7 : w.heap.size ≤ w7.heap.size := Nat.le_trans z6 hb7.size
    have B7 := hide (B6.out.trans (hb7.mono z6)); clear B6
    replace S4 := hide (S4.out.below hb7)
    replace S5 := hide (S5.out.below hb7)
    replace S6 := hide (S6.out.below hb7)
    replace S7 := hide (S7.out.below hb7)
    replace S8 := hide (S8.out.below hb7)
    replace SA := hide (SA.out.below hb7)
    replace SB := hide (SB.out.below hb7)
    replace SS := hide (SS.out.below hb7)
    replace ST := hide (ST.out.below hb7)
    replace SX := hide (SX.out.below hb7)
    replace SZ := hide (SZ.out.below hb7)
    obtain ⟨X, hX⟩ : ∃ X, X = sumV zs s := ⟨_, rfl⟩
    rw [← hX]
    unfold V3.v
    have HSX := hide hX; clear hX
    clear hb7
    go_wp2_with fail
    refine (chosen_any Ab A8 bs r cb c8 _ SB.out S8.out (by omega) m8 (ok_made (by omega) OKB.out)).mono ?_
    rintro e w8 ⟨vy, ys, rfl, chy, hoy, hb8⟩
    have z8 : w.heap.size ≤ w8.heap.size := Nat.le_trans z7 hb8.size
    have B8 := hide (B7.out.trans (hb8.mono z7)); clear B7
    replace S4 := hide (S4.out.below hb8)
    replace S5 := hide (S5.out.below hb8)
    replace S6 := hide (S6.out.below hb8)
    replace S7 := hide (S7.out.below hb8)
    replace S8 := hide (S8.out.below hb8)
    replace SA := hide (SA.out.below hb8)
    replace SB := hide (SB.out.below hb8)
    replace SS := hide (SS.out.below hb8)
    replace ST := hide (ST.out.below hb8)
    replace SX := hide (SX.out.below hb8)
    replace SZ := hide (SZ.out.below hb8)
    have hly := chy.1
    have hly8 : ys.length ≤ 5 := by omega
    have hly1 : 1 ≤ ys.length := by omega
    obtain ⟨Ay, cy, rfl, _, _, _⟩ := own_val hoy
    have SY := hide (show SlI w8 Ay ys from own_sl hoy)
    have CHY := hide chy
    clear hoy chy hly
    clear hb8
    go_wp2_with fail
    refine (corners_any Ay ys cy _ SY.out (by omega)).mono ?_
    rintro e w9 ⟨vu, rfl, hou, hb9⟩
    have z9 : w.heap.size ≤ w9.heap.size := Nat.le_trans z8 hb9.size
    have B9 := hide (B8.out.trans (hb9.mono z8)); clear B8
    replace S4 := hide (S4.out.below hb9)
    replace S5 := hide (S5.out.below hb9)
    replace S6 := hide (S6.out.below hb9)
    replace S7 := hide (S7.out.below hb9)
    replace S8 := hide (S8.out.below hb9)
    replace SA := hide (SA.out.below hb9)
    replace SB := hide (SB.out.below hb9)
    replace SS := hide (SS.out.below hb9)
    replace ST := hide (ST.out.below hb9)
    replace SX := hide (SX.out.below hb9)
    replace SZ := hide (SZ.out.below hb9)
    replace SY := hide (SY.out.below hb9)
    obtain ⟨us, hzs⟩ : ∃ zs, zs = ys.map cornerV := ⟨_, rfl⟩
    have hzl : ys.length = us.length := by rw [hzs]; simp
    rw [hzl, ← hzs] at hou
    have LNU := hide hzl; have HZU := hide hzs
    have hlu8 : us.length ≤ 5 := by omega
    obtain ⟨Au, cu, rfl, _, _, _⟩ := own_val hou
    have SU := hide (show SlV w9 Au us from own_sl hou)
    clear hou hzl hzs
    clear hb9
    go_wp2_with fail
    refine (sum_ref Au At us t cu ct _ SU.out ST.out (by omega) (by rw [LT.out, ← LNU.out, CHY.out.1]) (w9_ok T9.out) (by rw [HZU.out]; exact mod_corner CHY.out (ok_made (by omega) OKB.out))).mono ?_
    rintro e w10 ⟨rfl, hb10⟩
    have z10 : w.heap.size ≤ w10.heap.size := Nat.le_trans z9 hb10.size
    have B10 := hide (B9.out.trans (hb10.mono z9)); clear B9
    replace S4 := hide (S4.out.below hb10)
    replace S5 := hide (S5.out.below hb10)
    replace S6 := hide (S6.out.below hb10)
    replace S7 := hide (S7.out.below hb10)
    replace S8 := hide (S8.out.below hb10)
    replace SA := hide (SA.out.below hb10)
    replace SB := hide (SB.out.below hb10)
    replace SS := hide (SS.out.below hb10)
    replace ST := hide (ST.out.below hb10)
    replace SX := hide (SX.out.below hb10)
    replace SZ := hide (SZ.out.below hb10)
    replace SY := hide (SY.out.below hb10)
    replace SU := hide (SU.out.below hb10)
    obtain ⟨Y, hY⟩ : ∃ Y, Y = sumV us t := ⟨_, rfl⟩
    rw [← hY]
    unfold V3.v
    have HSY := hide hY; clear hY
    clear hb10
    go_wp2_with fail
    refine (total_any As s cs _ (by exact Sl.alloc (Sl.alloc SS.out _) _) (fun x hx => by have := S9.out x hx; omega) (by omega)).mono ?_
    rintro e w' ⟨rfl, rfl⟩
    have SP := sound_plain CA.out CB.out HST.out (rad16_bd p) (rad16_bd q) CHX.out CHY.out (fun x hx => (S9.out x hx).1) (fun x hx => (T9.out x hx).1) HX.out
    rw [← HZZ.out, ← HZU.out, ← HSX.out, ← HSY.out] at SP
    obtain ⟨sp0, sp1, sp2, sp3⟩ := SP
    have bx := sumV_bd zs s (by omega) (by rw [LS.out, ← LNZ.out, CHX.out.1]) (w9_ok S9.out) (by rw [HZZ.out]; exact mod_corner CHX.out (ok_made (by omega) OKA.out))
    have by_ := sumV_bd us t (by omega) (by rw [LT.out, ← LNU.out, CHY.out.1]) (w9_ok T9.out) (by rw [HZU.out]; exact mod_corner CHY.out (ok_made (by omega) OKB.out))
    rw [← HSX.out] at bx
    rw [← HSY.out] at by_
    obtain ⟨⟨x1, x2⟩, ⟨x3, x4⟩, x5, x6⟩ := bx
    obtain ⟨⟨y1, y2⟩, ⟨y3, y4⟩, y5, y6⟩ := by_
    have rp := rad16_bd p
    have rq := rad16_bd q
    have n0 := dist1_nn X.x Y.x s.sum s1
    have n1 := dist1_nn X.y Y.y s.sum s1
    have n2 := dist1_nn X.z Y.z s.sum s1
    have q0 := mul_bd (dist1 X.x Y.x s.sum) (dist1 X.x Y.x s.sum) 2097152 2097152 n0 (by omega) (by omega) (by omega)
    have q1 := mul_bd (dist1 X.y Y.y s.sum) (dist1 X.y Y.y s.sum) 2097152 2097152 n1 (by omega) (by omega) (by omega)
    have q2 := mul_bd (dist1 X.z Y.z s.sum) (dist1 X.z Y.z s.sum) 2097152 2097152 n2 (by omega) (by omega) (by omega)
    have rr := mul_bd (rad16 p + rad16 q) (rad16 p + rad16 q) 2097152 2097152 (by omega) (by omega) (by omega) (by omega)
    clear hlx8 hlx1 hly8 hly1
    unfold rad16 at rp rq rr
    go_wp2_with fail
    go_loopw [21, 23] (fun t i wr => SdInv w w10.heap.size X Y (dist1 X.x Y.x s.sum) (dist1 X.y Y.y s.sum) (dist1 X.z Y.z s.sum) t i wr) (fun _ i _ => 3 - (intOf i).toNat)
    case atStart => exact ⟨0, rfl, by omega, by omega, rfl, (Below.heap_alloc _ _ _ (by simp)).trans (heap_alloc_new w10 _), new_at _ _ (by simp), (B10.out.alloc z10 _).alloc (by simp; omega) _, by simp⟩
    case round =>
      obtain ⟨k, rfl, hk0, hk3, rfl, jX, jY, jB, jz⟩ := hrel
      have JX := hide jX; have JY := hide jY; have JB := hide jB
      have jz0 : w10.heap.size < wr.heap.size := by omega
      have jzw := jB.size
      clear jB
      obtain rfl | rfl | rfl | rfl : k = 0 ∨ k = 1 ∨ k = 2 ∨ k = 3 := by omega
      · have xc : wr.cell? ⟨w10.heap.size, 0, none⟩ = some (.int .i64 X.x) := (blk_cell jX 0).trans rfl; have yc : wr.cell? ⟨w10.heap.size + 1, 0, none⟩ = some (.int .i64 Y.x) := (blk_cell jY 0).trans rfl; clear jX jY
        have hw1 := IntWalk.i64_in (X.x - Y.x) (by omega)
        have hw2 := IntWalk.i64_in (Y.x - X.x) (by omega)
        simp only [sdAcc]
        go_wp2_with fail
        go_quiet ((go_at_call 54; exact quiet_same (ceil_if2 X.x Y.x s.sum _ (by omega) (by omega) s1)))
        clear hw1 hw2
        go_wp2_with fail
        go_roundw
        case rel => exact ⟨1, rfl, by omega, by omega, rfl, JX.out, JY.out, below_drewN JB.out _, jz⟩
        case measure => simp [intOf]
      · have xc : wr.cell? ⟨w10.heap.size, 1, none⟩ = some (.int .i64 X.y) := (blk_cell jX 1).trans rfl; have yc : wr.cell? ⟨w10.heap.size + 1, 1, none⟩ = some (.int .i64 Y.y) := (blk_cell jY 1).trans rfl; clear jX jY
        have hw1 := IntWalk.i64_in (X.y - Y.y) (by omega)
        have hw2 := IntWalk.i64_in (Y.y - X.y) (by omega)
        simp only [sdAcc]
        go_wp2_with fail
        go_quiet ((go_at_call 54; exact quiet_same (ceil_if2 X.y Y.y s.sum _ (by omega) (by omega) s1)))
        clear hw1 hw2
        go_wp2_with fail
        go_roundw
        case rel => exact ⟨2, rfl, by omega, by omega, rfl, JX.out, JY.out, below_drewN JB.out _, jz⟩
        case measure => simp [intOf]
      · have xc : wr.cell? ⟨w10.heap.size, 2, none⟩ = some (.int .i64 X.z) := (blk_cell jX 2).trans rfl; have yc : wr.cell? ⟨w10.heap.size + 1, 2, none⟩ = some (.int .i64 Y.z) := (blk_cell jY 2).trans rfl; clear jX jY
        have hw1 := IntWalk.i64_in (X.z - Y.z) (by omega)
        have hw2 := IntWalk.i64_in (Y.z - X.z) (by omega)
        simp only [sdAcc]
        go_wp2_with fail
        go_quiet ((go_at_call 54; exact quiet_same (ceil_if2 X.z Y.z s.sum _ (by omega) (by omega) s1)))
        clear hw1 hw2
        go_wp2_with fail
        go_roundw
        case rel => exact ⟨3, rfl, by omega, by omega, rfl, JX.out, JY.out, below_drewN JB.out _, jz⟩
        case measure => simp [intOf]
      · clear jX jY; simp only [sdAcc]
        go_wp2_with fail
        refine (awake16 _).mono ?_
        rintro e w11 ⟨rfl, hb11⟩
        have B11 := hide (show Below w.heap.size w w11 from JB.out.trans (hb11.mono jzw))
        clear hb11
        go_wp2_with fail
        refine (radius16_any p _ HP.out).mono ?_
        rintro e w' ⟨rfl, rfl⟩
        go_wp2_with fail
        refine (radius16_any q _ HQ.out).mono ?_
        rintro e w' ⟨rfl, rfl⟩
        go_wp2_with fail
        refine (radius16_any p _ HP.out).mono ?_
        rintro e w' ⟨rfl, rfl⟩
        go_wp2_with fail
        refine (radius16_any q _ HQ.out).mono ?_
        rintro e w' ⟨rfl, rfl⟩
        go_wp2_with fail
        all_goals
          go_ret
          exact ⟨ret_bool (by simp), B11.out⟩
end Go.Proofs.Ytionbckpgfaneaa
