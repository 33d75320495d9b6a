/- Walks of the normals, part e: Same of equal lists of vectors. -/
import Derived.Test.YtionbckpgfaneaaNg
import Derived.Test.YtionbckpgfaneaaXc
namespace Go.Proofs.Ytionbckpgfaneaa
open Go.RowKit
set_option maxHeartbeats 4000000
set_option maxRecDepth 100000
attribute [local go_sem] eq47
/-- armplanmake.Same of equal lists of vectors -/
theorem same95 (A B : Option Addr) (l : List V3) (c d : Nat) (w : World) (hs : SlV w A l) (ht : SlV w B l) (hn : l.length ≤ 9223372036854775807) :
    Calls Try.prog 95 #[.slice A l.length c, .slice B l.length d] w fun e w' => e = .returned (.bool true) ∧ Below w.heap.size w w' := by
  have HS := hide hs; have HT := hide ht
  clear hs ht
  have hne : ((l.length : Int) != (l.length : Int)) = false := by simp
  go_enter Try.func95, Try.ntmps95
  go_wp2_with fail
  go_loopw [5] (fun i wr => ∃ k : Nat, k ≤ l.length ∧ i = .int .i64 k ∧ Below w.heap.size w wr) (fun i _ => l.length - (intOf i).toNat)
  case atStart => exact ⟨0, by omega, rfl, Below.refl _ _⟩
  case round =>
    obtain ⟨k, hk, rfl, hB⟩ := hrel
    have HB := hide hB; clear hB
    by_cases hlt : k < l.length
    · obtain ⟨b, off, rfl, hb0⟩ := HS.out.addr (by omega)
      obtain ⟨b', off', rfl, hb0'⟩ := HT.out.addr (by omega)
      obtain ⟨h0, h1, h2⟩ := (HS.out.below HB.out).at_ hlt
      obtain ⟨g0, g1, g2⟩ := (HT.out.below HB.out).at_ hlt
      have hxx : eqV ⟨l[k].x, l[k].y, l[k].z⟩ ⟨l[k].x, l[k].y, l[k].z⟩ = true := by simp [eqV]
      go_wp2_with fail
      go_quiet (fail)
      go_wp2_with fail
      go_roundw
      case rel => exact ⟨k + 1, by omega, by simp, below_drewN HB.out _⟩
      case measure => simp [intOf] <;> omega
    · go_wp2_with fail
      go_ret
      exact ⟨rfl, HB.out⟩
end Go.Proofs.Ytionbckpgfaneaa
