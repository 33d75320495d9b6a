/- Walks of the normals, part d: the law's hints. -/
import Derived.Test.YtionbckpgfaneaaQc
import Derived.Test.YtionbckpgfaneaaWx
namespace Go.Proofs.Ytionbckpgfaneaa
open Go.RowKit
set_option maxHeartbeats 4000000
set_option maxRecDepth 100000
def HintsPost (w : World) (e : Ending) (w' : World) : Prop := ∃ (A : Option Addr) (c : Nat) (l : List V3), e = .returned (.slice A l.length c) ∧ l.length ≤ 3 ∧ SlV w' A l ∧ Below w.heap.size w w'
/-- armplanlaw17.hints -/
theorem hints_any (A : Option Addr) (l : List Int) (c : Nat) (w : World) (hs : SlN w A l) (hm : l.length ≤ 9223372036854775807) : Calls Try.prog 92 #[.slice A l.length c] w (HintsPost w) := by
  have H1 := Src.new c hs hm
  obtain ⟨i0, hi0, hz0, hz1, hz2⟩ := info_parts info47
  clear hs
  go_enter Try.func92, Try.ntmps92
  go_wp2_with fail
  refine (from_any _ _ _ _).mono ?_
  rintro e w1 ⟨rfl, rfl⟩
  have HK : SKeep w w.heap.size 47 3 (.slice none 0 0) 0 [] (w.alloc (.cells #[.slice A l.length c, .int .i64 0] 142)) := ⟨World.ownsRow_nil _ _ _ _, H1, (Below.refl _ _).alloc (Nat.le_refl _) _⟩
  clear H1
  go_wp2_with fail
  refine (next_any _ _ _ HK.src (by omega) (by omega)).mono ?_
  rintro e w2 ⟨x, hx1, hx2, rfl, S2, G2⟩
  have K2 := HK.grown G2 S2
  clear HK S2 G2
  go_wp2_with fail
  go_loopw [4, 5] (fun v i wr => ∃ (k : Nat) (h : List V3), i = .int .i64 k ∧ k + h.length ≤ 3 ∧ SKeep w w.heap.size 47 3 v h.length (h.flatMap V3.cells) wr) (fun _ i _ => (intOf i).toNat)
  case atStart => exact ⟨x.toNat, [], by congr; omega, by simp; omega, K2⟩
  case round =>
    clear K2
    obtain ⟨k, h, rfl, hkh, HK⟩ := hrel
    by_cases hlt : 0 < k
    · have hk0 : (0 : Int) < (k : Int) := by omega
      go_wp2_with fail
      refine (next_any _ _ _ HK.src (by omega) (by omega)).mono ?_
      rintro e w3 ⟨y, hy1, hy2, rfl, S3, G3⟩
      have K3 := HK.grown G3 S3
      clear HK S3 G3
      by_cases hy : y = 0
      · have hy' : (y == 0) = true := by simp [hy]
        go_wp2_with fail
        refine (next_any _ _ _ K3.src (by omega) (by omega)).mono ?_
        rintro e w4 ⟨z, gz1, gz2, rfl, S, G⟩
        have K4 := K3.grown G S
        clear K3 S G
        have z1 : 0 ≤ z * 16385 := by omega
        have z2 : z * 16385 ≤ 32770 := by omega
        go_wp2_with (at_builtin; refine wpList_append_own _ rfl _ _ 49 rfl (w.heap.size + 1) 47 i0 _ 3 24 Try.underlying49 hi0 hz0 hz1 hz2 rfl (by decide) u4 h.length (h.flatMap V3.cells) rfl (K4.own.alloc _) ⟨w4.heap.size, 0, none⟩ 1 1 [.int .i64 0, .int .i64 (z * 16385), .int .i64 0] rfl rfl ?c1 ?c2 ?c3 ?c4 ?c5 ?_)
        case c1 => exact news_at (heap_alloc_new w4 _)
        case c2 => simp [Value.oneCell']
        case c3 => unfold maxLen; omega
        case c4 => omega
        case c5 => have := K4.src.lt; simp; omega
        intro v' w9 hown9 hg9 _
        have K9 := K4.append hg9 hown9
        clear hg9 hown9 K4
        go_wp2_with fail
        go_roundw
        case rel => exact ⟨k - 1, h ++ [⟨0, z * 16385, 0⟩], by congr 1; omega, by simp; omega, by simpa [V3.cells] using K9⟩
        case measure => simp [intOf] <;> omega
      · have hy' : (y == 0) = false := by simp [hy]
        go_wp2_with fail
        refine (next_any _ _ _ K3.src (by omega) (by omega)).mono ?_
        rintro e w4 ⟨p, hp1, hp2, rfl, S, G⟩
        have K4 := K3.grown G S
        clear K3 S G
        go_wp2_with fail
        refine (next_any _ _ _ K4.src (by omega) (by omega)).mono ?_
        rintro e w5 ⟨q, hq1, hq2, rfl, S, G⟩
        have K5 := K4.grown G S
        clear K4 S G
        go_wp2_with fail
        refine (next_any _ _ _ K5.src (by omega) (by omega)).mono ?_
        rintro e w6 ⟨r, hr1, hr2, rfl, S, G⟩
        have K6 := K5.grown G S
        clear K5 S G
        go_wp2_with fail
        refine (mkNormal_any p q r _).mono ?_
        rintro e w7 ⟨n, hu, rfl, hb⟩
        unfold V3.v
        have K7 := K6.below hb
        clear K6 hb hu
        go_wp2_with (at_builtin; refine wpList_append_own _ rfl _ _ 49 rfl (w.heap.size + 1) 47 i0 _ 3 24 Try.underlying49 hi0 hz0 hz1 hz2 rfl (by decide) u4 h.length (h.flatMap V3.cells) rfl (K7.own.alloc _) ⟨w7.heap.size, 0, none⟩ 1 1 [.int .i64 n.x, .int .i64 n.y, .int .i64 n.z] rfl rfl ?c1 ?c2 ?c3 ?c4 ?c5 ?_)
        case c1 => exact news_at (heap_alloc_new w7 _)
        case c2 => simp [Value.oneCell']
        case c3 => unfold maxLen; omega
        case c4 => omega
        case c5 => have := K7.src.lt; simp; omega
        intro v' w9 hown9 hg9 _
        have K9 := K7.append hg9 hown9
        clear hg9 hown9 K7
        go_wp2_with fail
        go_roundw
        case rel => exact ⟨k - 1, h ++ [n], by congr 1; omega, by simp; omega, by simpa [V3.cells] using K9⟩
        case measure => simp [intOf] <;> omega
    · obtain rfl : k = 0 := by omega
      obtain ⟨A9, c9, rfl, _, _, _⟩ := own_val HK.own
      have HO := hide (show SlV wr A9 h from own_sl HK.own)
      have HB := hide HK.bel
      clear HK
      go_wp2_with fail
      go_ret
      exact ⟨A9, c9, h, rfl, by omega, HO.out, HB.out⟩
end Go.Proofs.Ytionbckpgfaneaa
