/-
  No cell of these rows narrows 'for every input' (looked for: loops, veiled, ifaces, maps, wideKeys, modest, calm, conditions, laid).
  DERIVED. THE GIVEN ROWS OF THIS SEAT. 38 by the template 'for every input the law returns true; each argument reads behind the call as it read before'; 0 by the template 'total and deterministic' (their statements: YtionbckpgfaneaaTotals.lean).
  GIVEN WITH THE SEED: the statements are not yours to turn. If you find one false, say at which input.
  Laid BY PROGRAM, IN A SANDBOX (cutbox-rows.mjs): the forced cells as the released guide's own fill.sh prints them over the translation fe2cbdd1f98dc155… (all of the seat's roots in one cut). By AI agents, Wed Nov 11 2026. No macro, syntax, notation, axiom, sorry.
-/
import Derived.Test.YtionbckpgfaneaaChecked
import GoSem.Claim
import GoSem.ClaimJoined
import GoSem.ClaimMapViews
import Derived.JoinedTies
import Derived.KernelRfl
namespace Go.Proofs.Ytionbckpgfaneaa
/- THE CELL 'sum', in the pinned program and in every row, IS THE sha256 OF THE DUMP (.gsa) THAT YtionbckpgfaneaaProg.lean LOADS. Nothing in Lean hashes anything: it is a label: what it is worth is what the hold of that sum in a sandbox is worth. -/
noncomputable def Try.pinned : Pinned := { name := "ytionbckpgfaneaa", sum := "fe2cbdd1f98dc1552f3480d39645aadec8dbb0ad11ba07fa2382c0f5567aed35", checked := Try.checked }
namespace Rows
def none {H : Type} : Left H := { results := [], args := [] }

/-- 'armplanlaw16.OverlapExcess': WHATEVER THE INPUT: true; the input reads as it did. -/
def overlapExcessSpec : ChangeSpec := { name := "overlapExcess", fn := fun _ => fun
  | [d1, d2, d3, d4, d5, d6, d7, d8, d9, d10] => { results := [.lit (.bool true)], args := [d1, d2, d3, d4, d5, d6, d7, d8, d9, d10] }
  | _ => none }
def overlapExcessRow : OpenClaim := { program := "ytionbckpgfaneaa", sum := "fe2cbdd1f98dc1552f3480d39645aadec8dbb0ad11ba07fa2382c0f5567aed35", func := "armplan/armplanlaw16.OverlapExcess", spec := "overlapExcess", unfollowed := true, recurses := true, apart := false }
def OverlapExcessSaid : Prop := overlapExcessRow.holds Try.pinned (OpenSpec.ofChange overlapExcessSpec)

/-- ITS FALSE NEIGHBOUR: 'it returns false'. Refute it at one input. -/
def overlapExcessWrong : ChangeSpec := { name := "overlapExcess", fn := fun _ => fun
  | [d1, d2, d3, d4, d5, d6, d7, d8, d9, d10] => { results := [.lit (.bool false)], args := [d1, d2, d3, d4, d5, d6, d7, d8, d9, d10] }
  | _ => none }
def OverlapExcessWrongFalsely : Prop := overlapExcessRow.holds Try.pinned (OpenSpec.ofChange overlapExcessWrong)

/-- 'armplanlaw16.OverlapSwaps': WHATEVER THE INPUT: true; the input reads as it did. -/
def overlapSwapsSpec : ChangeSpec := { name := "overlapSwaps", fn := fun _ => fun
  | [d1, d2, d3, d4, d5] => { results := [.lit (.bool true)], args := [d1, d2, d3, d4, d5] }
  | _ => none }
def overlapSwapsRow : OpenClaim := { program := "ytionbckpgfaneaa", sum := "fe2cbdd1f98dc1552f3480d39645aadec8dbb0ad11ba07fa2382c0f5567aed35", func := "armplan/armplanlaw16.OverlapSwaps", spec := "overlapSwaps", unfollowed := true, recurses := true, apart := false }
def OverlapSwapsSaid : Prop := overlapSwapsRow.holds Try.pinned (OpenSpec.ofChange overlapSwapsSpec)

/-- ITS FALSE NEIGHBOUR: 'it returns false'. Refute it at one input. -/
def overlapSwapsWrong : ChangeSpec := { name := "overlapSwaps", fn := fun _ => fun
  | [d1, d2, d3, d4, d5] => { results := [.lit (.bool false)], args := [d1, d2, d3, d4, d5] }
  | _ => none }
def OverlapSwapsWrongFalsely : Prop := overlapSwapsRow.holds Try.pinned (OpenSpec.ofChange overlapSwapsWrong)

/-- 'armplanlaw16.OverlapMonotone': WHATEVER THE INPUT: true; the input reads as it did. -/
def overlapMonotoneSpec : ChangeSpec := { name := "overlapMonotone", fn := fun _ => fun
  | [d1, d2, d3, d4, d5, d6, d7] => { results := [.lit (.bool true)], args := [d1, d2, d3, d4, d5, d6, d7] }
  | _ => none }
def overlapMonotoneRow : OpenClaim := { program := "ytionbckpgfaneaa", sum := "fe2cbdd1f98dc1552f3480d39645aadec8dbb0ad11ba07fa2382c0f5567aed35", func := "armplan/armplanlaw16.OverlapMonotone", spec := "overlapMonotone", unfollowed := true, recurses := true, apart := false }
def OverlapMonotoneSaid : Prop := overlapMonotoneRow.holds Try.pinned (OpenSpec.ofChange overlapMonotoneSpec)

/-- ITS FALSE NEIGHBOUR: 'it returns false'. Refute it at one input. -/
def overlapMonotoneWrong : ChangeSpec := { name := "overlapMonotone", fn := fun _ => fun
  | [d1, d2, d3, d4, d5, d6, d7] => { results := [.lit (.bool false)], args := [d1, d2, d3, d4, d5, d6, d7] }
  | _ => none }
def OverlapMonotoneWrongFalsely : Prop := overlapMonotoneRow.holds Try.pinned (OpenSpec.ofChange overlapMonotoneWrong)

/-- 'armplanlaw16.OverlapScales': WHATEVER THE INPUT: true; the input reads as it did. -/
def overlapScalesSpec : ChangeSpec := { name := "overlapScales", fn := fun _ => fun
  | [d1, d2, d3, d4, d5, d6] => { results := [.lit (.bool true)], args := [d1, d2, d3, d4, d5, d6] }
  | _ => none }
def overlapScalesRow : OpenClaim := { program := "ytionbckpgfaneaa", sum := "fe2cbdd1f98dc1552f3480d39645aadec8dbb0ad11ba07fa2382c0f5567aed35", func := "armplan/armplanlaw16.OverlapScales", spec := "overlapScales", unfollowed := true, recurses := true, apart := false }
def OverlapScalesSaid : Prop := overlapScalesRow.holds Try.pinned (OpenSpec.ofChange overlapScalesSpec)

/-- ITS FALSE NEIGHBOUR: 'it returns false'. Refute it at one input. -/
def overlapScalesWrong : ChangeSpec := { name := "overlapScales", fn := fun _ => fun
  | [d1, d2, d3, d4, d5, d6] => { results := [.lit (.bool false)], args := [d1, d2, d3, d4, d5, d6] }
  | _ => none }
def OverlapScalesWrongFalsely : Prop := overlapScalesRow.holds Try.pinned (OpenSpec.ofChange overlapScalesWrong)

/-- 'armplanlaw16.OverlapRadius': WHATEVER THE INPUT: true; the input reads as it did. -/
def overlapRadiusSpec : ChangeSpec := { name := "overlapRadius", fn := fun _ => fun
  | [d1, d2, d3, d4, d5, d6] => { results := [.lit (.bool true)], args := [d1, d2, d3, d4, d5, d6] }
  | _ => none }
def overlapRadiusRow : OpenClaim := { program := "ytionbckpgfaneaa", sum := "fe2cbdd1f98dc1552f3480d39645aadec8dbb0ad11ba07fa2382c0f5567aed35", func := "armplan/armplanlaw16.OverlapRadius", spec := "overlapRadius", unfollowed := true, recurses := true, apart := false }
def OverlapRadiusSaid : Prop := overlapRadiusRow.holds Try.pinned (OpenSpec.ofChange overlapRadiusSpec)

/-- ITS FALSE NEIGHBOUR: 'it returns false'. Refute it at one input. -/
def overlapRadiusWrong : ChangeSpec := { name := "overlapRadius", fn := fun _ => fun
  | [d1, d2, d3, d4, d5, d6] => { results := [.lit (.bool false)], args := [d1, d2, d3, d4, d5, d6] }
  | _ => none }
def OverlapRadiusWrongFalsely : Prop := overlapRadiusRow.holds Try.pinned (OpenSpec.ofChange overlapRadiusWrong)

/-- 'armplanlaw16.OverlapCommon': WHATEVER THE INPUT: true; the input reads as it did. -/
def overlapCommonSpec : ChangeSpec := { name := "overlapCommon", fn := fun _ => fun
  | [d1, d2, d3, d4, d5, d6] => { results := [.lit (.bool true)], args := [d1, d2, d3, d4, d5, d6] }
  | _ => none }
def overlapCommonRow : OpenClaim := { program := "ytionbckpgfaneaa", sum := "fe2cbdd1f98dc1552f3480d39645aadec8dbb0ad11ba07fa2382c0f5567aed35", func := "armplan/armplanlaw16.OverlapCommon", spec := "overlapCommon", unfollowed := true, recurses := true, apart := false }
def OverlapCommonSaid : Prop := overlapCommonRow.holds Try.pinned (OpenSpec.ofChange overlapCommonSpec)

/-- ITS FALSE NEIGHBOUR: 'it returns false'. Refute it at one input. -/
def overlapCommonWrong : ChangeSpec := { name := "overlapCommon", fn := fun _ => fun
  | [d1, d2, d3, d4, d5, d6] => { results := [.lit (.bool false)], args := [d1, d2, d3, d4, d5, d6] }
  | _ => none }
def OverlapCommonWrongFalsely : Prop := overlapCommonRow.holds Try.pinned (OpenSpec.ofChange overlapCommonWrong)

/-- 'armplanlaw16.OverlapSound': WHATEVER THE INPUT: true; the input reads as it did. -/
def overlapSoundSpec : ChangeSpec := { name := "overlapSound", fn := fun _ => fun
  | [d1, d2, d3, d4, d5, d6, d7] => { results := [.lit (.bool true)], args := [d1, d2, d3, d4, d5, d6, d7] }
  | _ => none }
def overlapSoundRow : OpenClaim := { program := "ytionbckpgfaneaa", sum := "fe2cbdd1f98dc1552f3480d39645aadec8dbb0ad11ba07fa2382c0f5567aed35", func := "armplan/armplanlaw16.OverlapSound", spec := "overlapSound", unfollowed := true, recurses := true, apart := false }
def OverlapSoundSaid : Prop := overlapSoundRow.holds Try.pinned (OpenSpec.ofChange overlapSoundSpec)

/-- ITS FALSE NEIGHBOUR: 'it returns false'. Refute it at one input. -/
def overlapSoundWrong : ChangeSpec := { name := "overlapSound", fn := fun _ => fun
  | [d1, d2, d3, d4, d5, d6, d7] => { results := [.lit (.bool false)], args := [d1, d2, d3, d4, d5, d6, d7] }
  | _ => none }
def OverlapSoundWrongFalsely : Prop := overlapSoundRow.holds Try.pinned (OpenSpec.ofChange overlapSoundWrong)

/-- 'armplanlaw13.SupportDots': WHATEVER THE INPUT: true; the input reads as it did. -/
def supportDotsSpec : ChangeSpec := { name := "supportDots", fn := fun _ => fun
  | [d1, d2, d3, d4, d5, d6] => { results := [.lit (.bool true)], args := [d1, d2, d3, d4, d5, d6] }
  | _ => none }
def supportDotsRow : OpenClaim := { program := "ytionbckpgfaneaa", sum := "fe2cbdd1f98dc1552f3480d39645aadec8dbb0ad11ba07fa2382c0f5567aed35", func := "armplan/armplanlaw13.SupportDots", spec := "supportDots", apart := false }
def SupportDotsSaid : Prop := supportDotsRow.holds Try.pinned (OpenSpec.ofChange supportDotsSpec)

/-- ITS FALSE NEIGHBOUR: 'it returns false'. Refute it at one input. -/
def supportDotsWrong : ChangeSpec := { name := "supportDots", fn := fun _ => fun
  | [d1, d2, d3, d4, d5, d6] => { results := [.lit (.bool false)], args := [d1, d2, d3, d4, d5, d6] }
  | _ => none }
def SupportDotsWrongFalsely : Prop := supportDotsRow.holds Try.pinned (OpenSpec.ofChange supportDotsWrong)

/-- 'armplanlaw13.SupportNormals': WHATEVER THE INPUT: true; the input reads as it did. -/
def supportNormalsSpec : ChangeSpec := { name := "supportNormals", fn := fun _ => fun
  | [d1, d2, d3, d4, d5] => { results := [.lit (.bool true)], args := [d1, d2, d3, d4, d5] }
  | _ => none }
def supportNormalsRow : OpenClaim := { program := "ytionbckpgfaneaa", sum := "fe2cbdd1f98dc1552f3480d39645aadec8dbb0ad11ba07fa2382c0f5567aed35", func := "armplan/armplanlaw13.SupportNormals", spec := "supportNormals", apart := false }
def SupportNormalsSaid : Prop := supportNormalsRow.holds Try.pinned (OpenSpec.ofChange supportNormalsSpec)

/-- ITS FALSE NEIGHBOUR: 'it returns false'. Refute it at one input. -/
def supportNormalsWrong : ChangeSpec := { name := "supportNormals", fn := fun _ => fun
  | [d1, d2, d3, d4, d5] => { results := [.lit (.bool false)], args := [d1, d2, d3, d4, d5] }
  | _ => none }
def SupportNormalsWrongFalsely : Prop := supportNormalsRow.holds Try.pinned (OpenSpec.ofChange supportNormalsWrong)

/-- 'armplanlaw13.SupportNorms': WHATEVER THE INPUT: true; the input reads as it did. -/
def supportNormsSpec : ChangeSpec := { name := "supportNorms", fn := fun _ => fun
  | [d1, d2] => { results := [.lit (.bool true)], args := [d1, d2] }
  | _ => none }
def supportNormsRow : OpenClaim := { program := "ytionbckpgfaneaa", sum := "fe2cbdd1f98dc1552f3480d39645aadec8dbb0ad11ba07fa2382c0f5567aed35", func := "armplan/armplanlaw13.SupportNorms", spec := "supportNorms", apart := false }
def SupportNormsSaid : Prop := supportNormsRow.holds Try.pinned (OpenSpec.ofChange supportNormsSpec)

/-- ITS FALSE NEIGHBOUR: 'it returns false'. Refute it at one input. -/
def supportNormsWrong : ChangeSpec := { name := "supportNorms", fn := fun _ => fun
  | [d1, d2] => { results := [.lit (.bool false)], args := [d1, d2] }
  | _ => none }
def SupportNormsWrongFalsely : Prop := supportNormsRow.holds Try.pinned (OpenSpec.ofChange supportNormsWrong)

/-- 'armplanlaw13.SupportExtremes': WHATEVER THE INPUT: true; the input reads as it did. -/
def supportExtremesSpec : ChangeSpec := { name := "supportExtremes", fn := fun _ => fun
  | [d1, d2, d3, d4, d5, d6] => { results := [.lit (.bool true)], args := [d1, d2, d3, d4, d5, d6] }
  | _ => none }
def supportExtremesRow : OpenClaim := { program := "ytionbckpgfaneaa", sum := "fe2cbdd1f98dc1552f3480d39645aadec8dbb0ad11ba07fa2382c0f5567aed35", func := "armplan/armplanlaw13.SupportExtremes", spec := "supportExtremes", unfollowed := true, recurses := true, apart := false }
def SupportExtremesSaid : Prop := supportExtremesRow.holds Try.pinned (OpenSpec.ofChange supportExtremesSpec)

/-- ITS FALSE NEIGHBOUR: 'it returns false'. Refute it at one input. -/
def supportExtremesWrong : ChangeSpec := { name := "supportExtremes", fn := fun _ => fun
  | [d1, d2, d3, d4, d5, d6] => { results := [.lit (.bool false)], args := [d1, d2, d3, d4, d5, d6] }
  | _ => none }
def SupportExtremesWrongFalsely : Prop := supportExtremesRow.holds Try.pinned (OpenSpec.ofChange supportExtremesWrong)

/-- 'armplanlaw13.SupportMonotone': WHATEVER THE INPUT: true; the input reads as it did. -/
def supportMonotoneSpec : ChangeSpec := { name := "supportMonotone", fn := fun _ => fun
  | [d1, d2, d3, d4, d5] => { results := [.lit (.bool true)], args := [d1, d2, d3, d4, d5] }
  | _ => none }
def supportMonotoneRow : OpenClaim := { program := "ytionbckpgfaneaa", sum := "fe2cbdd1f98dc1552f3480d39645aadec8dbb0ad11ba07fa2382c0f5567aed35", func := "armplan/armplanlaw13.SupportMonotone", spec := "supportMonotone", unfollowed := true, recurses := true, apart := false }
def SupportMonotoneSaid : Prop := supportMonotoneRow.holds Try.pinned (OpenSpec.ofChange supportMonotoneSpec)

/-- ITS FALSE NEIGHBOUR: 'it returns false'. Refute it at one input. -/
def supportMonotoneWrong : ChangeSpec := { name := "supportMonotone", fn := fun _ => fun
  | [d1, d2, d3, d4, d5] => { results := [.lit (.bool false)], args := [d1, d2, d3, d4, d5] }
  | _ => none }
def SupportMonotoneWrongFalsely : Prop := supportMonotoneRow.holds Try.pinned (OpenSpec.ofChange supportMonotoneWrong)

/-- 'armplanlaw13.SupportNegates': WHATEVER THE INPUT: true; the input reads as it did. -/
def supportNegatesSpec : ChangeSpec := { name := "supportNegates", fn := fun _ => fun
  | [d1, d2, d3, d4] => { results := [.lit (.bool true)], args := [d1, d2, d3, d4] }
  | _ => none }
def supportNegatesRow : OpenClaim := { program := "ytionbckpgfaneaa", sum := "fe2cbdd1f98dc1552f3480d39645aadec8dbb0ad11ba07fa2382c0f5567aed35", func := "armplan/armplanlaw13.SupportNegates", spec := "supportNegates", unfollowed := true, recurses := true, apart := false }
def SupportNegatesSaid : Prop := supportNegatesRow.holds Try.pinned (OpenSpec.ofChange supportNegatesSpec)

/-- ITS FALSE NEIGHBOUR: 'it returns false'. Refute it at one input. -/
def supportNegatesWrong : ChangeSpec := { name := "supportNegates", fn := fun _ => fun
  | [d1, d2, d3, d4] => { results := [.lit (.bool false)], args := [d1, d2, d3, d4] }
  | _ => none }
def SupportNegatesWrongFalsely : Prop := supportNegatesRow.holds Try.pinned (OpenSpec.ofChange supportNegatesWrong)

/-- 'armplanlaw13.SupportHull': WHATEVER THE INPUT: true; the input reads as it did. -/
def supportHullSpec : ChangeSpec := { name := "supportHull", fn := fun _ => fun
  | [d1, d2, d3, d4, d5, d6] => { results := [.lit (.bool true)], args := [d1, d2, d3, d4, d5, d6] }
  | _ => none }
def supportHullRow : OpenClaim := { program := "ytionbckpgfaneaa", sum := "fe2cbdd1f98dc1552f3480d39645aadec8dbb0ad11ba07fa2382c0f5567aed35", func := "armplan/armplanlaw13.SupportHull", spec := "supportHull", unfollowed := true, recurses := true, apart := false }
def SupportHullSaid : Prop := supportHullRow.holds Try.pinned (OpenSpec.ofChange supportHullSpec)

/-- ITS FALSE NEIGHBOUR: 'it returns false'. Refute it at one input. -/
def supportHullWrong : ChangeSpec := { name := "supportHull", fn := fun _ => fun
  | [d1, d2, d3, d4, d5, d6] => { results := [.lit (.bool false)], args := [d1, d2, d3, d4, d5, d6] }
  | _ => none }
def SupportHullWrongFalsely : Prop := supportHullRow.holds Try.pinned (OpenSpec.ofChange supportHullWrong)

/-- 'armplanlaw13.SupportShift': WHATEVER THE INPUT: true; the input reads as it did. -/
def supportShiftSpec : ChangeSpec := { name := "supportShift", fn := fun _ => fun
  | [d1, d2, d3, d4, d5] => { results := [.lit (.bool true)], args := [d1, d2, d3, d4, d5] }
  | _ => none }
def supportShiftRow : OpenClaim := { program := "ytionbckpgfaneaa", sum := "fe2cbdd1f98dc1552f3480d39645aadec8dbb0ad11ba07fa2382c0f5567aed35", func := "armplan/armplanlaw13.SupportShift", spec := "supportShift", unfollowed := true, recurses := true, apart := false }
def SupportShiftSaid : Prop := supportShiftRow.holds Try.pinned (OpenSpec.ofChange supportShiftSpec)

/-- ITS FALSE NEIGHBOUR: 'it returns false'. Refute it at one input. -/
def supportShiftWrong : ChangeSpec := { name := "supportShift", fn := fun _ => fun
  | [d1, d2, d3, d4, d5] => { results := [.lit (.bool false)], args := [d1, d2, d3, d4, d5] }
  | _ => none }
def SupportShiftWrongFalsely : Prop := supportShiftRow.holds Try.pinned (OpenSpec.ofChange supportShiftWrong)

/-- 'armplanlaw15.PlaneMargins': WHATEVER THE INPUT: true; the input reads as it did. -/
def planeMarginsSpec : ChangeSpec := { name := "planeMargins", fn := fun _ => fun
  | [d1, d2, d3, d4, d5, d6, d7, d8, d9, d10, d11] => { results := [.lit (.bool true)], args := [d1, d2, d3, d4, d5, d6, d7, d8, d9, d10, d11] }
  | _ => none }
def planeMarginsRow : OpenClaim := { program := "ytionbckpgfaneaa", sum := "fe2cbdd1f98dc1552f3480d39645aadec8dbb0ad11ba07fa2382c0f5567aed35", func := "armplan/armplanlaw15.PlaneMargins", spec := "planeMargins", unfollowed := true, recurses := true, apart := false }
def PlaneMarginsSaid : Prop := planeMarginsRow.holds Try.pinned (OpenSpec.ofChange planeMarginsSpec)

/-- ITS FALSE NEIGHBOUR: 'it returns false'. Refute it at one input. -/
def planeMarginsWrong : ChangeSpec := { name := "planeMargins", fn := fun _ => fun
  | [d1, d2, d3, d4, d5, d6, d7, d8, d9, d10, d11] => { results := [.lit (.bool false)], args := [d1, d2, d3, d4, d5, d6, d7, d8, d9, d10, d11] }
  | _ => none }
def PlaneMarginsWrongFalsely : Prop := planeMarginsRow.holds Try.pinned (OpenSpec.ofChange planeMarginsWrong)

/-- 'armplanlaw15.PlaneFlips': WHATEVER THE INPUT: true; the input reads as it did. -/
def planeFlipsSpec : ChangeSpec := { name := "planeFlips", fn := fun _ => fun
  | [d1, d2, d3, d4, d5, d6, d7] => { results := [.lit (.bool true)], args := [d1, d2, d3, d4, d5, d6, d7] }
  | _ => none }
def planeFlipsRow : OpenClaim := { program := "ytionbckpgfaneaa", sum := "fe2cbdd1f98dc1552f3480d39645aadec8dbb0ad11ba07fa2382c0f5567aed35", func := "armplan/armplanlaw15.PlaneFlips", spec := "planeFlips", unfollowed := true, recurses := true, apart := false }
def PlaneFlipsSaid : Prop := planeFlipsRow.holds Try.pinned (OpenSpec.ofChange planeFlipsSpec)

/-- ITS FALSE NEIGHBOUR: 'it returns false'. Refute it at one input. -/
def planeFlipsWrong : ChangeSpec := { name := "planeFlips", fn := fun _ => fun
  | [d1, d2, d3, d4, d5, d6, d7] => { results := [.lit (.bool false)], args := [d1, d2, d3, d4, d5, d6, d7] }
  | _ => none }
def PlaneFlipsWrongFalsely : Prop := planeFlipsRow.holds Try.pinned (OpenSpec.ofChange planeFlipsWrong)

/-- 'armplanlaw15.PlaneMonotone': WHATEVER THE INPUT: true; the input reads as it did. -/
def planeMonotoneSpec : ChangeSpec := { name := "planeMonotone", fn := fun _ => fun
  | [d1, d2, d3, d4, d5, d6, d7, d8, d9] => { results := [.lit (.bool true)], args := [d1, d2, d3, d4, d5, d6, d7, d8, d9] }
  | _ => none }
def planeMonotoneRow : OpenClaim := { program := "ytionbckpgfaneaa", sum := "fe2cbdd1f98dc1552f3480d39645aadec8dbb0ad11ba07fa2382c0f5567aed35", func := "armplan/armplanlaw15.PlaneMonotone", spec := "planeMonotone", unfollowed := true, recurses := true, apart := false }
def PlaneMonotoneSaid : Prop := planeMonotoneRow.holds Try.pinned (OpenSpec.ofChange planeMonotoneSpec)

/-- ITS FALSE NEIGHBOUR: 'it returns false'. Refute it at one input. -/
def planeMonotoneWrong : ChangeSpec := { name := "planeMonotone", fn := fun _ => fun
  | [d1, d2, d3, d4, d5, d6, d7, d8, d9] => { results := [.lit (.bool false)], args := [d1, d2, d3, d4, d5, d6, d7, d8, d9] }
  | _ => none }
def PlaneMonotoneWrongFalsely : Prop := planeMonotoneRow.holds Try.pinned (OpenSpec.ofChange planeMonotoneWrong)

/-- 'armplanlaw15.PlaneMoves': WHATEVER THE INPUT: true; the input reads as it did. -/
def planeMovesSpec : ChangeSpec := { name := "planeMoves", fn := fun _ => fun
  | [d1, d2, d3, d4, d5, d6, d7, d8] => { results := [.lit (.bool true)], args := [d1, d2, d3, d4, d5, d6, d7, d8] }
  | _ => none }
def planeMovesRow : OpenClaim := { program := "ytionbckpgfaneaa", sum := "fe2cbdd1f98dc1552f3480d39645aadec8dbb0ad11ba07fa2382c0f5567aed35", func := "armplan/armplanlaw15.PlaneMoves", spec := "planeMoves", unfollowed := true, recurses := true, apart := false }
def PlaneMovesSaid : Prop := planeMovesRow.holds Try.pinned (OpenSpec.ofChange planeMovesSpec)

/-- ITS FALSE NEIGHBOUR: 'it returns false'. Refute it at one input. -/
def planeMovesWrong : ChangeSpec := { name := "planeMoves", fn := fun _ => fun
  | [d1, d2, d3, d4, d5, d6, d7, d8] => { results := [.lit (.bool false)], args := [d1, d2, d3, d4, d5, d6, d7, d8] }
  | _ => none }
def PlaneMovesWrongFalsely : Prop := planeMovesRow.holds Try.pinned (OpenSpec.ofChange planeMovesWrong)

/-- 'armplanlaw15.PlaneRadius': WHATEVER THE INPUT: true; the input reads as it did. -/
def planeRadiusSpec : ChangeSpec := { name := "planeRadius", fn := fun _ => fun
  | [d1, d2, d3, d4, d5, d6, d7, d8] => { results := [.lit (.bool true)], args := [d1, d2, d3, d4, d5, d6, d7, d8] }
  | _ => none }
def planeRadiusRow : OpenClaim := { program := "ytionbckpgfaneaa", sum := "fe2cbdd1f98dc1552f3480d39645aadec8dbb0ad11ba07fa2382c0f5567aed35", func := "armplan/armplanlaw15.PlaneRadius", spec := "planeRadius", unfollowed := true, recurses := true, apart := false }
def PlaneRadiusSaid : Prop := planeRadiusRow.holds Try.pinned (OpenSpec.ofChange planeRadiusSpec)

/-- ITS FALSE NEIGHBOUR: 'it returns false'. Refute it at one input. -/
def planeRadiusWrong : ChangeSpec := { name := "planeRadius", fn := fun _ => fun
  | [d1, d2, d3, d4, d5, d6, d7, d8] => { results := [.lit (.bool false)], args := [d1, d2, d3, d4, d5, d6, d7, d8] }
  | _ => none }
def PlaneRadiusWrongFalsely : Prop := planeRadiusRow.holds Try.pinned (OpenSpec.ofChange planeRadiusWrong)

/-- 'armplanlaw15.PlaneSound': WHATEVER THE INPUT: true; the input reads as it did. -/
def planeSoundSpec : ChangeSpec := { name := "planeSound", fn := fun _ => fun
  | [d1, d2, d3, d4, d5, d6, d7, d8, d9, d10, d11] => { results := [.lit (.bool true)], args := [d1, d2, d3, d4, d5, d6, d7, d8, d9, d10, d11] }
  | _ => none }
def planeSoundRow : OpenClaim := { program := "ytionbckpgfaneaa", sum := "fe2cbdd1f98dc1552f3480d39645aadec8dbb0ad11ba07fa2382c0f5567aed35", func := "armplan/armplanlaw15.PlaneSound", spec := "planeSound", unfollowed := true, recurses := true, apart := false }
def PlaneSoundSaid : Prop := planeSoundRow.holds Try.pinned (OpenSpec.ofChange planeSoundSpec)

/-- ITS FALSE NEIGHBOUR: 'it returns false'. Refute it at one input. -/
def planeSoundWrong : ChangeSpec := { name := "planeSound", fn := fun _ => fun
  | [d1, d2, d3, d4, d5, d6, d7, d8, d9, d10, d11] => { results := [.lit (.bool false)], args := [d1, d2, d3, d4, d5, d6, d7, d8, d9, d10, d11] }
  | _ => none }
def PlaneSoundWrongFalsely : Prop := planeSoundRow.holds Try.pinned (OpenSpec.ofChange planeSoundWrong)

/-- 'armplanlaw15.PlaneNever': WHATEVER THE INPUT: true; the input reads as it did. -/
def planeNeverSpec : ChangeSpec := { name := "planeNever", fn := fun _ => fun
  | [d1, d2, d3, d4, d5, d6, d7, d8] => { results := [.lit (.bool true)], args := [d1, d2, d3, d4, d5, d6, d7, d8] }
  | _ => none }
def planeNeverRow : OpenClaim := { program := "ytionbckpgfaneaa", sum := "fe2cbdd1f98dc1552f3480d39645aadec8dbb0ad11ba07fa2382c0f5567aed35", func := "armplan/armplanlaw15.PlaneNever", spec := "planeNever", unfollowed := true, recurses := true, apart := false }
def PlaneNeverSaid : Prop := planeNeverRow.holds Try.pinned (OpenSpec.ofChange planeNeverSpec)

/-- ITS FALSE NEIGHBOUR: 'it returns false'. Refute it at one input. -/
def planeNeverWrong : ChangeSpec := { name := "planeNever", fn := fun _ => fun
  | [d1, d2, d3, d4, d5, d6, d7, d8] => { results := [.lit (.bool false)], args := [d1, d2, d3, d4, d5, d6, d7, d8] }
  | _ => none }
def PlaneNeverWrongFalsely : Prop := planeNeverRow.holds Try.pinned (OpenSpec.ofChange planeNeverWrong)

/-- 'armplanlaw15.PlaneFirst': WHATEVER THE INPUT: true; the input reads as it did. -/
def planeFirstSpec : ChangeSpec := { name := "planeFirst", fn := fun _ => fun
  | [d1, d2, d3, d4, d5, d6] => { results := [.lit (.bool true)], args := [d1, d2, d3, d4, d5, d6] }
  | _ => none }
def planeFirstRow : OpenClaim := { program := "ytionbckpgfaneaa", sum := "fe2cbdd1f98dc1552f3480d39645aadec8dbb0ad11ba07fa2382c0f5567aed35", func := "armplan/armplanlaw15.PlaneFirst", spec := "planeFirst", unfollowed := true, recurses := true, apart := false }
def PlaneFirstSaid : Prop := planeFirstRow.holds Try.pinned (OpenSpec.ofChange planeFirstSpec)

/-- ITS FALSE NEIGHBOUR: 'it returns false'. Refute it at one input. -/
def planeFirstWrong : ChangeSpec := { name := "planeFirst", fn := fun _ => fun
  | [d1, d2, d3, d4, d5, d6] => { results := [.lit (.bool false)], args := [d1, d2, d3, d4, d5, d6] }
  | _ => none }
def PlaneFirstWrongFalsely : Prop := planeFirstRow.holds Try.pinned (OpenSpec.ofChange planeFirstWrong)

/-- 'armplanlaw14.NearestSearches': WHATEVER THE INPUT: true; the input reads as it did. -/
def nearestSearchesSpec : ChangeSpec := { name := "nearestSearches", fn := fun _ => fun
  | [d1, d2, d3, d4, d5, d6] => { results := [.lit (.bool true)], args := [d1, d2, d3, d4, d5, d6] }
  | _ => none }
def nearestSearchesRow : OpenClaim := { program := "ytionbckpgfaneaa", sum := "fe2cbdd1f98dc1552f3480d39645aadec8dbb0ad11ba07fa2382c0f5567aed35", func := "armplan/armplanlaw14.NearestSearches", spec := "nearestSearches", apart := false }
def NearestSearchesSaid : Prop := nearestSearchesRow.holds Try.pinned (OpenSpec.ofChange nearestSearchesSpec)

/-- ITS FALSE NEIGHBOUR: 'it returns false'. Refute it at one input. -/
def nearestSearchesWrong : ChangeSpec := { name := "nearestSearches", fn := fun _ => fun
  | [d1, d2, d3, d4, d5, d6] => { results := [.lit (.bool false)], args := [d1, d2, d3, d4, d5, d6] }
  | _ => none }
def NearestSearchesWrongFalsely : Prop := nearestSearchesRow.holds Try.pinned (OpenSpec.ofChange nearestSearchesWrong)

/-- 'armplanlaw14.NearestWeights': WHATEVER THE INPUT: true; the input reads as it did. -/
def nearestWeightsSpec : ChangeSpec := { name := "nearestWeights", fn := fun _ => fun
  | [d1, d2, d3, d4] => { results := [.lit (.bool true)], args := [d1, d2, d3, d4] }
  | _ => none }
def nearestWeightsRow : OpenClaim := { program := "ytionbckpgfaneaa", sum := "fe2cbdd1f98dc1552f3480d39645aadec8dbb0ad11ba07fa2382c0f5567aed35", func := "armplan/armplanlaw14.NearestWeights", spec := "nearestWeights", apart := false }
def NearestWeightsSaid : Prop := nearestWeightsRow.holds Try.pinned (OpenSpec.ofChange nearestWeightsSpec)

/-- ITS FALSE NEIGHBOUR: 'it returns false'. Refute it at one input. -/
def nearestWeightsWrong : ChangeSpec := { name := "nearestWeights", fn := fun _ => fun
  | [d1, d2, d3, d4] => { results := [.lit (.bool false)], args := [d1, d2, d3, d4] }
  | _ => none }
def NearestWeightsWrongFalsely : Prop := nearestWeightsRow.holds Try.pinned (OpenSpec.ofChange nearestWeightsWrong)

/-- 'armplanlaw14.NearestDecides': WHATEVER THE INPUT: true; the input reads as it did. -/
def nearestDecidesSpec : ChangeSpec := { name := "nearestDecides", fn := fun _ => fun
  | [d1, d2, d3] => { results := [.lit (.bool true)], args := [d1, d2, d3] }
  | _ => none }
def nearestDecidesRow : OpenClaim := { program := "ytionbckpgfaneaa", sum := "fe2cbdd1f98dc1552f3480d39645aadec8dbb0ad11ba07fa2382c0f5567aed35", func := "armplan/armplanlaw14.NearestDecides", spec := "nearestDecides", apart := false }
def NearestDecidesSaid : Prop := nearestDecidesRow.holds Try.pinned (OpenSpec.ofChange nearestDecidesSpec)

/-- ITS FALSE NEIGHBOUR: 'it returns false'. Refute it at one input. -/
def nearestDecidesWrong : ChangeSpec := { name := "nearestDecides", fn := fun _ => fun
  | [d1, d2, d3] => { results := [.lit (.bool false)], args := [d1, d2, d3] }
  | _ => none }
def NearestDecidesWrongFalsely : Prop := nearestDecidesRow.holds Try.pinned (OpenSpec.ofChange nearestDecidesWrong)

/-- 'armplanlaw14.NearestExclusive': WHATEVER THE INPUT: true; the input reads as it did. -/
def nearestExclusiveSpec : ChangeSpec := { name := "nearestExclusive", fn := fun _ => fun
  | [d1, d2, d3, d4, d5] => { results := [.lit (.bool true)], args := [d1, d2, d3, d4, d5] }
  | _ => none }
def nearestExclusiveRow : OpenClaim := { program := "ytionbckpgfaneaa", sum := "fe2cbdd1f98dc1552f3480d39645aadec8dbb0ad11ba07fa2382c0f5567aed35", func := "armplan/armplanlaw14.NearestExclusive", spec := "nearestExclusive", apart := false }
def NearestExclusiveSaid : Prop := nearestExclusiveRow.holds Try.pinned (OpenSpec.ofChange nearestExclusiveSpec)

/-- ITS FALSE NEIGHBOUR: 'it returns false'. Refute it at one input. -/
def nearestExclusiveWrong : ChangeSpec := { name := "nearestExclusive", fn := fun _ => fun
  | [d1, d2, d3, d4, d5] => { results := [.lit (.bool false)], args := [d1, d2, d3, d4, d5] }
  | _ => none }
def NearestExclusiveWrongFalsely : Prop := nearestExclusiveRow.holds Try.pinned (OpenSpec.ofChange nearestExclusiveWrong)

/-- 'armplanlaw14.NearestPoints': WHATEVER THE INPUT: true; the input reads as it did. -/
def nearestPointsSpec : ChangeSpec := { name := "nearestPoints", fn := fun _ => fun
  | [d1, d2, d3, d4] => { results := [.lit (.bool true)], args := [d1, d2, d3, d4] }
  | _ => none }
def nearestPointsRow : OpenClaim := { program := "ytionbckpgfaneaa", sum := "fe2cbdd1f98dc1552f3480d39645aadec8dbb0ad11ba07fa2382c0f5567aed35", func := "armplan/armplanlaw14.NearestPoints", spec := "nearestPoints", apart := false }
def NearestPointsSaid : Prop := nearestPointsRow.holds Try.pinned (OpenSpec.ofChange nearestPointsSpec)

/-- ITS FALSE NEIGHBOUR: 'it returns false'. Refute it at one input. -/
def nearestPointsWrong : ChangeSpec := { name := "nearestPoints", fn := fun _ => fun
  | [d1, d2, d3, d4] => { results := [.lit (.bool false)], args := [d1, d2, d3, d4] }
  | _ => none }
def NearestPointsWrongFalsely : Prop := nearestPointsRow.holds Try.pinned (OpenSpec.ofChange nearestPointsWrong)

/-- 'armplanlaw14.NearestMoves': WHATEVER THE INPUT: true; the input reads as it did. -/
def nearestMovesSpec : ChangeSpec := { name := "nearestMoves", fn := fun _ => fun
  | [d1, d2, d3, d4] => { results := [.lit (.bool true)], args := [d1, d2, d3, d4] }
  | _ => none }
def nearestMovesRow : OpenClaim := { program := "ytionbckpgfaneaa", sum := "fe2cbdd1f98dc1552f3480d39645aadec8dbb0ad11ba07fa2382c0f5567aed35", func := "armplan/armplanlaw14.NearestMoves", spec := "nearestMoves", apart := false }
def NearestMovesSaid : Prop := nearestMovesRow.holds Try.pinned (OpenSpec.ofChange nearestMovesSpec)

/-- ITS FALSE NEIGHBOUR: 'it returns false'. Refute it at one input. -/
def nearestMovesWrong : ChangeSpec := { name := "nearestMoves", fn := fun _ => fun
  | [d1, d2, d3, d4] => { results := [.lit (.bool false)], args := [d1, d2, d3, d4] }
  | _ => none }
def NearestMovesWrongFalsely : Prop := nearestMovesRow.holds Try.pinned (OpenSpec.ofChange nearestMovesWrong)

/-- 'armplanlaw14.NearestMore': WHATEVER THE INPUT: true; the input reads as it did. -/
def nearestMoreSpec : ChangeSpec := { name := "nearestMore", fn := fun _ => fun
  | [d1, d2, d3, d4, d5] => { results := [.lit (.bool true)], args := [d1, d2, d3, d4, d5] }
  | _ => none }
def nearestMoreRow : OpenClaim := { program := "ytionbckpgfaneaa", sum := "fe2cbdd1f98dc1552f3480d39645aadec8dbb0ad11ba07fa2382c0f5567aed35", func := "armplan/armplanlaw14.NearestMore", spec := "nearestMore", apart := false }
def NearestMoreSaid : Prop := nearestMoreRow.holds Try.pinned (OpenSpec.ofChange nearestMoreSpec)

/-- ITS FALSE NEIGHBOUR: 'it returns false'. Refute it at one input. -/
def nearestMoreWrong : ChangeSpec := { name := "nearestMore", fn := fun _ => fun
  | [d1, d2, d3, d4, d5] => { results := [.lit (.bool false)], args := [d1, d2, d3, d4, d5] }
  | _ => none }
def NearestMoreWrongFalsely : Prop := nearestMoreRow.holds Try.pinned (OpenSpec.ofChange nearestMoreWrong)

/-- 'armplanlaw16.OverlapExcludes': WHATEVER THE INPUT: true; the input reads as it did. -/
def overlapExcludesSpec : ChangeSpec := { name := "overlapExcludes", fn := fun _ => fun
  | [d1, d2, d3, d4, d5, d6, d7, d8] => { results := [.lit (.bool true)], args := [d1, d2, d3, d4, d5, d6, d7, d8] }
  | _ => none }
def overlapExcludesRow : OpenClaim := { program := "ytionbckpgfaneaa", sum := "fe2cbdd1f98dc1552f3480d39645aadec8dbb0ad11ba07fa2382c0f5567aed35", func := "armplan/armplanlaw16.OverlapExcludes", spec := "overlapExcludes", unfollowed := true, recurses := true, apart := false }
def OverlapExcludesSaid : Prop := overlapExcludesRow.holds Try.pinned (OpenSpec.ofChange overlapExcludesSpec)

/-- ITS FALSE NEIGHBOUR: 'it returns false'. Refute it at one input. -/
def overlapExcludesWrong : ChangeSpec := { name := "overlapExcludes", fn := fun _ => fun
  | [d1, d2, d3, d4, d5, d6, d7, d8] => { results := [.lit (.bool false)], args := [d1, d2, d3, d4, d5, d6, d7, d8] }
  | _ => none }
def OverlapExcludesWrongFalsely : Prop := overlapExcludesRow.holds Try.pinned (OpenSpec.ofChange overlapExcludesWrong)

/-- 'armplanlaw17.NormalsFinds': WHATEVER THE INPUT: true; the input reads as it did. -/
def normalsFindsSpec : ChangeSpec := { name := "normalsFinds", fn := fun _ => fun
  | [d1, d2, d3, d4, d5, d6, d7, d8, d9] => { results := [.lit (.bool true)], args := [d1, d2, d3, d4, d5, d6, d7, d8, d9] }
  | _ => none }
def normalsFindsRow : OpenClaim := { program := "ytionbckpgfaneaa", sum := "fe2cbdd1f98dc1552f3480d39645aadec8dbb0ad11ba07fa2382c0f5567aed35", func := "armplan/armplanlaw17.NormalsFinds", spec := "normalsFinds", unfollowed := true, recurses := true, apart := false }
def NormalsFindsSaid : Prop := normalsFindsRow.holds Try.pinned (OpenSpec.ofChange normalsFindsSpec)

/-- ITS FALSE NEIGHBOUR: 'it returns false'. Refute it at one input. -/
def normalsFindsWrong : ChangeSpec := { name := "normalsFinds", fn := fun _ => fun
  | [d1, d2, d3, d4, d5, d6, d7, d8, d9] => { results := [.lit (.bool false)], args := [d1, d2, d3, d4, d5, d6, d7, d8, d9] }
  | _ => none }
def NormalsFindsWrongFalsely : Prop := normalsFindsRow.holds Try.pinned (OpenSpec.ofChange normalsFindsWrong)

/-- 'armplanlaw17.NormalsPoints': WHATEVER THE INPUT: true; the input reads as it did. -/
def normalsPointsSpec : ChangeSpec := { name := "normalsPoints", fn := fun _ => fun
  | [d1, d2] => { results := [.lit (.bool true)], args := [d1, d2] }
  | _ => none }
def normalsPointsRow : OpenClaim := { program := "ytionbckpgfaneaa", sum := "fe2cbdd1f98dc1552f3480d39645aadec8dbb0ad11ba07fa2382c0f5567aed35", func := "armplan/armplanlaw17.NormalsPoints", spec := "normalsPoints", unfollowed := true, recurses := true, apart := false }
def NormalsPointsSaid : Prop := normalsPointsRow.holds Try.pinned (OpenSpec.ofChange normalsPointsSpec)

/-- ITS FALSE NEIGHBOUR: 'it returns false'. Refute it at one input. -/
def normalsPointsWrong : ChangeSpec := { name := "normalsPoints", fn := fun _ => fun
  | [d1, d2] => { results := [.lit (.bool false)], args := [d1, d2] }
  | _ => none }
def NormalsPointsWrongFalsely : Prop := normalsPointsRow.holds Try.pinned (OpenSpec.ofChange normalsPointsWrong)

/-- 'armplanlaw17.NormalsAxes': WHATEVER THE INPUT: true; the input reads as it did. -/
def normalsAxesSpec : ChangeSpec := { name := "normalsAxes", fn := fun _ => fun
  | [d1, d2, d3, d4, d5] => { results := [.lit (.bool true)], args := [d1, d2, d3, d4, d5] }
  | _ => none }
def normalsAxesRow : OpenClaim := { program := "ytionbckpgfaneaa", sum := "fe2cbdd1f98dc1552f3480d39645aadec8dbb0ad11ba07fa2382c0f5567aed35", func := "armplan/armplanlaw17.NormalsAxes", spec := "normalsAxes", unfollowed := true, recurses := true, apart := false }
def NormalsAxesSaid : Prop := normalsAxesRow.holds Try.pinned (OpenSpec.ofChange normalsAxesSpec)

/-- ITS FALSE NEIGHBOUR: 'it returns false'. Refute it at one input. -/
def normalsAxesWrong : ChangeSpec := { name := "normalsAxes", fn := fun _ => fun
  | [d1, d2, d3, d4, d5] => { results := [.lit (.bool false)], args := [d1, d2, d3, d4, d5] }
  | _ => none }
def NormalsAxesWrongFalsely : Prop := normalsAxesRow.holds Try.pinned (OpenSpec.ofChange normalsAxesWrong)

/-- 'armplanlaw17.NormalsParts': WHATEVER THE INPUT: true; the input reads as it did. -/
def normalsPartsSpec : ChangeSpec := { name := "normalsParts", fn := fun _ => fun
  | [d1, d2, d3, d4, d5, d6] => { results := [.lit (.bool true)], args := [d1, d2, d3, d4, d5, d6] }
  | _ => none }
def normalsPartsRow : OpenClaim := { program := "ytionbckpgfaneaa", sum := "fe2cbdd1f98dc1552f3480d39645aadec8dbb0ad11ba07fa2382c0f5567aed35", func := "armplan/armplanlaw17.NormalsParts", spec := "normalsParts", unfollowed := true, recurses := true, apart := false }
def NormalsPartsSaid : Prop := normalsPartsRow.holds Try.pinned (OpenSpec.ofChange normalsPartsSpec)

/-- ITS FALSE NEIGHBOUR: 'it returns false'. Refute it at one input. -/
def normalsPartsWrong : ChangeSpec := { name := "normalsParts", fn := fun _ => fun
  | [d1, d2, d3, d4, d5, d6] => { results := [.lit (.bool false)], args := [d1, d2, d3, d4, d5, d6] }
  | _ => none }
def NormalsPartsWrongFalsely : Prop := normalsPartsRow.holds Try.pinned (OpenSpec.ofChange normalsPartsWrong)

/-- 'armplanlaw17.NormalsHints': WHATEVER THE INPUT: true; the input reads as it did. -/
def normalsHintsSpec : ChangeSpec := { name := "normalsHints", fn := fun _ => fun
  | [d1, d2, d3, d4, d5, d6] => { results := [.lit (.bool true)], args := [d1, d2, d3, d4, d5, d6] }
  | _ => none }
def normalsHintsRow : OpenClaim := { program := "ytionbckpgfaneaa", sum := "fe2cbdd1f98dc1552f3480d39645aadec8dbb0ad11ba07fa2382c0f5567aed35", func := "armplan/armplanlaw17.NormalsHints", spec := "normalsHints", unfollowed := true, recurses := true, apart := false }
def NormalsHintsSaid : Prop := normalsHintsRow.holds Try.pinned (OpenSpec.ofChange normalsHintsSpec)

/-- ITS FALSE NEIGHBOUR: 'it returns false'. Refute it at one input. -/
def normalsHintsWrong : ChangeSpec := { name := "normalsHints", fn := fun _ => fun
  | [d1, d2, d3, d4, d5, d6] => { results := [.lit (.bool false)], args := [d1, d2, d3, d4, d5, d6] }
  | _ => none }
def NormalsHintsWrongFalsely : Prop := normalsHintsRow.holds Try.pinned (OpenSpec.ofChange normalsHintsWrong)

/-- 'armplanlaw17.NormalsLists': WHATEVER THE INPUT: true; the input reads as it did. -/
def normalsListsSpec : ChangeSpec := { name := "normalsLists", fn := fun _ => fun
  | [d1, d2, d3, d4, d5, d6, d7, d8, d9] => { results := [.lit (.bool true)], args := [d1, d2, d3, d4, d5, d6, d7, d8, d9] }
  | _ => none }
def normalsListsRow : OpenClaim := { program := "ytionbckpgfaneaa", sum := "fe2cbdd1f98dc1552f3480d39645aadec8dbb0ad11ba07fa2382c0f5567aed35", func := "armplan/armplanlaw17.NormalsLists", spec := "normalsLists", unfollowed := true, recurses := true, apart := false }
def NormalsListsSaid : Prop := normalsListsRow.holds Try.pinned (OpenSpec.ofChange normalsListsSpec)

/-- ITS FALSE NEIGHBOUR: 'it returns false'. Refute it at one input. -/
def normalsListsWrong : ChangeSpec := { name := "normalsLists", fn := fun _ => fun
  | [d1, d2, d3, d4, d5, d6, d7, d8, d9] => { results := [.lit (.bool false)], args := [d1, d2, d3, d4, d5, d6, d7, d8, d9] }
  | _ => none }
def NormalsListsWrongFalsely : Prop := normalsListsRow.holds Try.pinned (OpenSpec.ofChange normalsListsWrong)

/-- 'armplanlaw17.NormalsSound': WHATEVER THE INPUT: true; the input reads as it did. -/
def normalsSoundSpec : ChangeSpec := { name := "normalsSound", fn := fun _ => fun
  | [d1, d2, d3, d4, d5] => { results := [.lit (.bool true)], args := [d1, d2, d3, d4, d5] }
  | _ => none }
def normalsSoundRow : OpenClaim := { program := "ytionbckpgfaneaa", sum := "fe2cbdd1f98dc1552f3480d39645aadec8dbb0ad11ba07fa2382c0f5567aed35", func := "armplan/armplanlaw17.NormalsSound", spec := "normalsSound", unfollowed := true, recurses := true, apart := false }
def NormalsSoundSaid : Prop := normalsSoundRow.holds Try.pinned (OpenSpec.ofChange normalsSoundSpec)

/-- ITS FALSE NEIGHBOUR: 'it returns false'. Refute it at one input. -/
def normalsSoundWrong : ChangeSpec := { name := "normalsSound", fn := fun _ => fun
  | [d1, d2, d3, d4, d5] => { results := [.lit (.bool false)], args := [d1, d2, d3, d4, d5] }
  | _ => none }
def NormalsSoundWrongFalsely : Prop := normalsSoundRow.holds Try.pinned (OpenSpec.ofChange normalsSoundWrong)

/- THE SECOND FORM. 'bulk': how many values and letters a reading holds, each counted each time it is reached (what is shared counts as often as it is met; a slice's spare places count too). A statement '..UptoSaid' is the law's where the arguments, and the package variables that the reading takes, are together of bulk at most 1048576: NARROWER than '..Said'. Prove '..Said' where nothing that the law and all that it calls make is longer than what came in: it says more and counts as full. Else prove '..UptoSaid'. A law counts once. -/
mutual
def uptoBulk {H : Type} : DataW H → Nat
  | .lit (.string bytes) => bytes.length + 1
  | .lit _ => 1
  | .nil => 1
  | .ptr d => uptoBulk d + 1
  | .slice elems spare => uptoBulkAll elems + uptoBulkAll spare + 1
  | .agg parts => uptoBulkAll parts + 1
  | .iface _ d => uptoBulk d + 1
  | .map entries => uptoBulkEntries entries + 1
  | .held _ => 1
def uptoBulkAll {H : Type} : List (DataW H) → Nat
  | [] => 0
  | d :: r => uptoBulk d + uptoBulkAll r
def uptoBulkEntries {H : Type} : List (Lit × DataW H) → Nat
  | [] => 0
  | x :: r => uptoBulkEntry x + uptoBulkEntries r
def uptoBulkEntry {H : Type} : Lit × DataW H → Nat
  | (.string bytes, d) => bytes.length + uptoBulk d + 1
  | (_, d) => uptoBulk d + 1
 end
def uptoSmall : (H : Type) → List (DataW H) → Bool := fun _ ds => decide (uptoBulkAll ds ≤ 1048576)
def OpenSpec.upto (s : _root_.Go.ChangeSpec) : _root_.Go.OpenSpec := { _root_.Go.OpenSpec.ofChange s with cond := some uptoSmall }

/-- 'armplanlaw16.OverlapExcess', WHERE WHAT IT READS IS OF BULK AT MOST 1048576: true; the input reads as it did. -/
def overlapExcessUptoRow : OpenClaim := { program := "ytionbckpgfaneaa", sum := "fe2cbdd1f98dc1552f3480d39645aadec8dbb0ad11ba07fa2382c0f5567aed35", func := "armplan/armplanlaw16.OverlapExcess", spec := "overlapExcess", unfollowed := true, recurses := true, apart := false, narrowed := true }
def OverlapExcessUptoSaid : Prop := overlapExcessUptoRow.holds Try.pinned (OpenSpec.upto overlapExcessSpec)

/-- 'armplanlaw16.OverlapSwaps', WHERE WHAT IT READS IS OF BULK AT MOST 1048576: true; the input reads as it did. -/
def overlapSwapsUptoRow : OpenClaim := { program := "ytionbckpgfaneaa", sum := "fe2cbdd1f98dc1552f3480d39645aadec8dbb0ad11ba07fa2382c0f5567aed35", func := "armplan/armplanlaw16.OverlapSwaps", spec := "overlapSwaps", unfollowed := true, recurses := true, apart := false, narrowed := true }
def OverlapSwapsUptoSaid : Prop := overlapSwapsUptoRow.holds Try.pinned (OpenSpec.upto overlapSwapsSpec)

/-- 'armplanlaw16.OverlapMonotone', WHERE WHAT IT READS IS OF BULK AT MOST 1048576: true; the input reads as it did. -/
def overlapMonotoneUptoRow : OpenClaim := { program := "ytionbckpgfaneaa", sum := "fe2cbdd1f98dc1552f3480d39645aadec8dbb0ad11ba07fa2382c0f5567aed35", func := "armplan/armplanlaw16.OverlapMonotone", spec := "overlapMonotone", unfollowed := true, recurses := true, apart := false, narrowed := true }
def OverlapMonotoneUptoSaid : Prop := overlapMonotoneUptoRow.holds Try.pinned (OpenSpec.upto overlapMonotoneSpec)

/-- 'armplanlaw16.OverlapScales', WHERE WHAT IT READS IS OF BULK AT MOST 1048576: true; the input reads as it did. -/
def overlapScalesUptoRow : OpenClaim := { program := "ytionbckpgfaneaa", sum := "fe2cbdd1f98dc1552f3480d39645aadec8dbb0ad11ba07fa2382c0f5567aed35", func := "armplan/armplanlaw16.OverlapScales", spec := "overlapScales", unfollowed := true, recurses := true, apart := false, narrowed := true }
def OverlapScalesUptoSaid : Prop := overlapScalesUptoRow.holds Try.pinned (OpenSpec.upto overlapScalesSpec)

/-- 'armplanlaw16.OverlapRadius', WHERE WHAT IT READS IS OF BULK AT MOST 1048576: true; the input reads as it did. -/
def overlapRadiusUptoRow : OpenClaim := { program := "ytionbckpgfaneaa", sum := "fe2cbdd1f98dc1552f3480d39645aadec8dbb0ad11ba07fa2382c0f5567aed35", func := "armplan/armplanlaw16.OverlapRadius", spec := "overlapRadius", unfollowed := true, recurses := true, apart := false, narrowed := true }
def OverlapRadiusUptoSaid : Prop := overlapRadiusUptoRow.holds Try.pinned (OpenSpec.upto overlapRadiusSpec)

/-- 'armplanlaw16.OverlapCommon', WHERE WHAT IT READS IS OF BULK AT MOST 1048576: true; the input reads as it did. -/
def overlapCommonUptoRow : OpenClaim := { program := "ytionbckpgfaneaa", sum := "fe2cbdd1f98dc1552f3480d39645aadec8dbb0ad11ba07fa2382c0f5567aed35", func := "armplan/armplanlaw16.OverlapCommon", spec := "overlapCommon", unfollowed := true, recurses := true, apart := false, narrowed := true }
def OverlapCommonUptoSaid : Prop := overlapCommonUptoRow.holds Try.pinned (OpenSpec.upto overlapCommonSpec)

/-- 'armplanlaw16.OverlapSound', WHERE WHAT IT READS IS OF BULK AT MOST 1048576: true; the input reads as it did. -/
def overlapSoundUptoRow : OpenClaim := { program := "ytionbckpgfaneaa", sum := "fe2cbdd1f98dc1552f3480d39645aadec8dbb0ad11ba07fa2382c0f5567aed35", func := "armplan/armplanlaw16.OverlapSound", spec := "overlapSound", unfollowed := true, recurses := true, apart := false, narrowed := true }
def OverlapSoundUptoSaid : Prop := overlapSoundUptoRow.holds Try.pinned (OpenSpec.upto overlapSoundSpec)

/-- 'armplanlaw13.SupportDots', WHERE WHAT IT READS IS OF BULK AT MOST 1048576: true; the input reads as it did. -/
def supportDotsUptoRow : OpenClaim := { program := "ytionbckpgfaneaa", sum := "fe2cbdd1f98dc1552f3480d39645aadec8dbb0ad11ba07fa2382c0f5567aed35", func := "armplan/armplanlaw13.SupportDots", spec := "supportDots", apart := false, narrowed := true }
def SupportDotsUptoSaid : Prop := supportDotsUptoRow.holds Try.pinned (OpenSpec.upto supportDotsSpec)

/-- 'armplanlaw13.SupportNormals', WHERE WHAT IT READS IS OF BULK AT MOST 1048576: true; the input reads as it did. -/
def supportNormalsUptoRow : OpenClaim := { program := "ytionbckpgfaneaa", sum := "fe2cbdd1f98dc1552f3480d39645aadec8dbb0ad11ba07fa2382c0f5567aed35", func := "armplan/armplanlaw13.SupportNormals", spec := "supportNormals", apart := false, narrowed := true }
def SupportNormalsUptoSaid : Prop := supportNormalsUptoRow.holds Try.pinned (OpenSpec.upto supportNormalsSpec)

/-- 'armplanlaw13.SupportNorms', WHERE WHAT IT READS IS OF BULK AT MOST 1048576: true; the input reads as it did. -/
def supportNormsUptoRow : OpenClaim := { program := "ytionbckpgfaneaa", sum := "fe2cbdd1f98dc1552f3480d39645aadec8dbb0ad11ba07fa2382c0f5567aed35", func := "armplan/armplanlaw13.SupportNorms", spec := "supportNorms", apart := false, narrowed := true }
def SupportNormsUptoSaid : Prop := supportNormsUptoRow.holds Try.pinned (OpenSpec.upto supportNormsSpec)

/-- 'armplanlaw13.SupportExtremes', WHERE WHAT IT READS IS OF BULK AT MOST 1048576: true; the input reads as it did. -/
def supportExtremesUptoRow : OpenClaim := { program := "ytionbckpgfaneaa", sum := "fe2cbdd1f98dc1552f3480d39645aadec8dbb0ad11ba07fa2382c0f5567aed35", func := "armplan/armplanlaw13.SupportExtremes", spec := "supportExtremes", unfollowed := true, recurses := true, apart := false, narrowed := true }
def SupportExtremesUptoSaid : Prop := supportExtremesUptoRow.holds Try.pinned (OpenSpec.upto supportExtremesSpec)

/-- 'armplanlaw13.SupportMonotone', WHERE WHAT IT READS IS OF BULK AT MOST 1048576: true; the input reads as it did. -/
def supportMonotoneUptoRow : OpenClaim := { program := "ytionbckpgfaneaa", sum := "fe2cbdd1f98dc1552f3480d39645aadec8dbb0ad11ba07fa2382c0f5567aed35", func := "armplan/armplanlaw13.SupportMonotone", spec := "supportMonotone", unfollowed := true, recurses := true, apart := false, narrowed := true }
def SupportMonotoneUptoSaid : Prop := supportMonotoneUptoRow.holds Try.pinned (OpenSpec.upto supportMonotoneSpec)

/-- 'armplanlaw13.SupportNegates', WHERE WHAT IT READS IS OF BULK AT MOST 1048576: true; the input reads as it did. -/
def supportNegatesUptoRow : OpenClaim := { program := "ytionbckpgfaneaa", sum := "fe2cbdd1f98dc1552f3480d39645aadec8dbb0ad11ba07fa2382c0f5567aed35", func := "armplan/armplanlaw13.SupportNegates", spec := "supportNegates", unfollowed := true, recurses := true, apart := false, narrowed := true }
def SupportNegatesUptoSaid : Prop := supportNegatesUptoRow.holds Try.pinned (OpenSpec.upto supportNegatesSpec)

/-- 'armplanlaw13.SupportHull', WHERE WHAT IT READS IS OF BULK AT MOST 1048576: true; the input reads as it did. -/
def supportHullUptoRow : OpenClaim := { program := "ytionbckpgfaneaa", sum := "fe2cbdd1f98dc1552f3480d39645aadec8dbb0ad11ba07fa2382c0f5567aed35", func := "armplan/armplanlaw13.SupportHull", spec := "supportHull", unfollowed := true, recurses := true, apart := false, narrowed := true }
def SupportHullUptoSaid : Prop := supportHullUptoRow.holds Try.pinned (OpenSpec.upto supportHullSpec)

/-- 'armplanlaw13.SupportShift', WHERE WHAT IT READS IS OF BULK AT MOST 1048576: true; the input reads as it did. -/
def supportShiftUptoRow : OpenClaim := { program := "ytionbckpgfaneaa", sum := "fe2cbdd1f98dc1552f3480d39645aadec8dbb0ad11ba07fa2382c0f5567aed35", func := "armplan/armplanlaw13.SupportShift", spec := "supportShift", unfollowed := true, recurses := true, apart := false, narrowed := true }
def SupportShiftUptoSaid : Prop := supportShiftUptoRow.holds Try.pinned (OpenSpec.upto supportShiftSpec)

/-- 'armplanlaw15.PlaneMargins', WHERE WHAT IT READS IS OF BULK AT MOST 1048576: true; the input reads as it did. -/
def planeMarginsUptoRow : OpenClaim := { program := "ytionbckpgfaneaa", sum := "fe2cbdd1f98dc1552f3480d39645aadec8dbb0ad11ba07fa2382c0f5567aed35", func := "armplan/armplanlaw15.PlaneMargins", spec := "planeMargins", unfollowed := true, recurses := true, apart := false, narrowed := true }
def PlaneMarginsUptoSaid : Prop := planeMarginsUptoRow.holds Try.pinned (OpenSpec.upto planeMarginsSpec)

/-- 'armplanlaw15.PlaneFlips', WHERE WHAT IT READS IS OF BULK AT MOST 1048576: true; the input reads as it did. -/
def planeFlipsUptoRow : OpenClaim := { program := "ytionbckpgfaneaa", sum := "fe2cbdd1f98dc1552f3480d39645aadec8dbb0ad11ba07fa2382c0f5567aed35", func := "armplan/armplanlaw15.PlaneFlips", spec := "planeFlips", unfollowed := true, recurses := true, apart := false, narrowed := true }
def PlaneFlipsUptoSaid : Prop := planeFlipsUptoRow.holds Try.pinned (OpenSpec.upto planeFlipsSpec)

/-- 'armplanlaw15.PlaneMonotone', WHERE WHAT IT READS IS OF BULK AT MOST 1048576: true; the input reads as it did. -/
def planeMonotoneUptoRow : OpenClaim := { program := "ytionbckpgfaneaa", sum := "fe2cbdd1f98dc1552f3480d39645aadec8dbb0ad11ba07fa2382c0f5567aed35", func := "armplan/armplanlaw15.PlaneMonotone", spec := "planeMonotone", unfollowed := true, recurses := true, apart := false, narrowed := true }
def PlaneMonotoneUptoSaid : Prop := planeMonotoneUptoRow.holds Try.pinned (OpenSpec.upto planeMonotoneSpec)

/-- 'armplanlaw15.PlaneMoves', WHERE WHAT IT READS IS OF BULK AT MOST 1048576: true; the input reads as it did. -/
def planeMovesUptoRow : OpenClaim := { program := "ytionbckpgfaneaa", sum := "fe2cbdd1f98dc1552f3480d39645aadec8dbb0ad11ba07fa2382c0f5567aed35", func := "armplan/armplanlaw15.PlaneMoves", spec := "planeMoves", unfollowed := true, recurses := true, apart := false, narrowed := true }
def PlaneMovesUptoSaid : Prop := planeMovesUptoRow.holds Try.pinned (OpenSpec.upto planeMovesSpec)

/-- 'armplanlaw15.PlaneRadius', WHERE WHAT IT READS IS OF BULK AT MOST 1048576: true; the input reads as it did. -/
def planeRadiusUptoRow : OpenClaim := { program := "ytionbckpgfaneaa", sum := "fe2cbdd1f98dc1552f3480d39645aadec8dbb0ad11ba07fa2382c0f5567aed35", func := "armplan/armplanlaw15.PlaneRadius", spec := "planeRadius", unfollowed := true, recurses := true, apart := false, narrowed := true }
def PlaneRadiusUptoSaid : Prop := planeRadiusUptoRow.holds Try.pinned (OpenSpec.upto planeRadiusSpec)

/-- 'armplanlaw15.PlaneSound', WHERE WHAT IT READS IS OF BULK AT MOST 1048576: true; the input reads as it did. -/
def planeSoundUptoRow : OpenClaim := { program := "ytionbckpgfaneaa", sum := "fe2cbdd1f98dc1552f3480d39645aadec8dbb0ad11ba07fa2382c0f5567aed35", func := "armplan/armplanlaw15.PlaneSound", spec := "planeSound", unfollowed := true, recurses := true, apart := false, narrowed := true }
def PlaneSoundUptoSaid : Prop := planeSoundUptoRow.holds Try.pinned (OpenSpec.upto planeSoundSpec)

/-- 'armplanlaw15.PlaneNever', WHERE WHAT IT READS IS OF BULK AT MOST 1048576: true; the input reads as it did. -/
def planeNeverUptoRow : OpenClaim := { program := "ytionbckpgfaneaa", sum := "fe2cbdd1f98dc1552f3480d39645aadec8dbb0ad11ba07fa2382c0f5567aed35", func := "armplan/armplanlaw15.PlaneNever", spec := "planeNever", unfollowed := true, recurses := true, apart := false, narrowed := true }
def PlaneNeverUptoSaid : Prop := planeNeverUptoRow.holds Try.pinned (OpenSpec.upto planeNeverSpec)

/-- 'armplanlaw15.PlaneFirst', WHERE WHAT IT READS IS OF BULK AT MOST 1048576: true; the input reads as it did. -/
def planeFirstUptoRow : OpenClaim := { program := "ytionbckpgfaneaa", sum := "fe2cbdd1f98dc1552f3480d39645aadec8dbb0ad11ba07fa2382c0f5567aed35", func := "armplan/armplanlaw15.PlaneFirst", spec := "planeFirst", unfollowed := true, recurses := true, apart := false, narrowed := true }
def PlaneFirstUptoSaid : Prop := planeFirstUptoRow.holds Try.pinned (OpenSpec.upto planeFirstSpec)

/-- 'armplanlaw14.NearestSearches', WHERE WHAT IT READS IS OF BULK AT MOST 1048576: true; the input reads as it did. -/
def nearestSearchesUptoRow : OpenClaim := { program := "ytionbckpgfaneaa", sum := "fe2cbdd1f98dc1552f3480d39645aadec8dbb0ad11ba07fa2382c0f5567aed35", func := "armplan/armplanlaw14.NearestSearches", spec := "nearestSearches", apart := false, narrowed := true }
def NearestSearchesUptoSaid : Prop := nearestSearchesUptoRow.holds Try.pinned (OpenSpec.upto nearestSearchesSpec)

/-- 'armplanlaw14.NearestWeights', WHERE WHAT IT READS IS OF BULK AT MOST 1048576: true; the input reads as it did. -/
def nearestWeightsUptoRow : OpenClaim := { program := "ytionbckpgfaneaa", sum := "fe2cbdd1f98dc1552f3480d39645aadec8dbb0ad11ba07fa2382c0f5567aed35", func := "armplan/armplanlaw14.NearestWeights", spec := "nearestWeights", apart := false, narrowed := true }
def NearestWeightsUptoSaid : Prop := nearestWeightsUptoRow.holds Try.pinned (OpenSpec.upto nearestWeightsSpec)

/-- 'armplanlaw14.NearestDecides', WHERE WHAT IT READS IS OF BULK AT MOST 1048576: true; the input reads as it did. -/
def nearestDecidesUptoRow : OpenClaim := { program := "ytionbckpgfaneaa", sum := "fe2cbdd1f98dc1552f3480d39645aadec8dbb0ad11ba07fa2382c0f5567aed35", func := "armplan/armplanlaw14.NearestDecides", spec := "nearestDecides", apart := false, narrowed := true }
def NearestDecidesUptoSaid : Prop := nearestDecidesUptoRow.holds Try.pinned (OpenSpec.upto nearestDecidesSpec)

/-- 'armplanlaw14.NearestExclusive', WHERE WHAT IT READS IS OF BULK AT MOST 1048576: true; the input reads as it did. -/
def nearestExclusiveUptoRow : OpenClaim := { program := "ytionbckpgfaneaa", sum := "fe2cbdd1f98dc1552f3480d39645aadec8dbb0ad11ba07fa2382c0f5567aed35", func := "armplan/armplanlaw14.NearestExclusive", spec := "nearestExclusive", apart := false, narrowed := true }
def NearestExclusiveUptoSaid : Prop := nearestExclusiveUptoRow.holds Try.pinned (OpenSpec.upto nearestExclusiveSpec)

/-- 'armplanlaw14.NearestPoints', WHERE WHAT IT READS IS OF BULK AT MOST 1048576: true; the input reads as it did. -/
def nearestPointsUptoRow : OpenClaim := { program := "ytionbckpgfaneaa", sum := "fe2cbdd1f98dc1552f3480d39645aadec8dbb0ad11ba07fa2382c0f5567aed35", func := "armplan/armplanlaw14.NearestPoints", spec := "nearestPoints", apart := false, narrowed := true }
def NearestPointsUptoSaid : Prop := nearestPointsUptoRow.holds Try.pinned (OpenSpec.upto nearestPointsSpec)

/-- 'armplanlaw14.NearestMoves', WHERE WHAT IT READS IS OF BULK AT MOST 1048576: true; the input reads as it did. -/
def nearestMovesUptoRow : OpenClaim := { program := "ytionbckpgfaneaa", sum := "fe2cbdd1f98dc1552f3480d39645aadec8dbb0ad11ba07fa2382c0f5567aed35", func := "armplan/armplanlaw14.NearestMoves", spec := "nearestMoves", apart := false, narrowed := true }
def NearestMovesUptoSaid : Prop := nearestMovesUptoRow.holds Try.pinned (OpenSpec.upto nearestMovesSpec)

/-- 'armplanlaw14.NearestMore', WHERE WHAT IT READS IS OF BULK AT MOST 1048576: true; the input reads as it did. -/
def nearestMoreUptoRow : OpenClaim := { program := "ytionbckpgfaneaa", sum := "fe2cbdd1f98dc1552f3480d39645aadec8dbb0ad11ba07fa2382c0f5567aed35", func := "armplan/armplanlaw14.NearestMore", spec := "nearestMore", apart := false, narrowed := true }
def NearestMoreUptoSaid : Prop := nearestMoreUptoRow.holds Try.pinned (OpenSpec.upto nearestMoreSpec)

/-- 'armplanlaw16.OverlapExcludes', WHERE WHAT IT READS IS OF BULK AT MOST 1048576: true; the input reads as it did. -/
def overlapExcludesUptoRow : OpenClaim := { program := "ytionbckpgfaneaa", sum := "fe2cbdd1f98dc1552f3480d39645aadec8dbb0ad11ba07fa2382c0f5567aed35", func := "armplan/armplanlaw16.OverlapExcludes", spec := "overlapExcludes", unfollowed := true, recurses := true, apart := false, narrowed := true }
def OverlapExcludesUptoSaid : Prop := overlapExcludesUptoRow.holds Try.pinned (OpenSpec.upto overlapExcludesSpec)

/-- 'armplanlaw17.NormalsFinds', WHERE WHAT IT READS IS OF BULK AT MOST 1048576: true; the input reads as it did. -/
def normalsFindsUptoRow : OpenClaim := { program := "ytionbckpgfaneaa", sum := "fe2cbdd1f98dc1552f3480d39645aadec8dbb0ad11ba07fa2382c0f5567aed35", func := "armplan/armplanlaw17.NormalsFinds", spec := "normalsFinds", unfollowed := true, recurses := true, apart := false, narrowed := true }
def NormalsFindsUptoSaid : Prop := normalsFindsUptoRow.holds Try.pinned (OpenSpec.upto normalsFindsSpec)

/-- 'armplanlaw17.NormalsPoints', WHERE WHAT IT READS IS OF BULK AT MOST 1048576: true; the input reads as it did. -/
def normalsPointsUptoRow : OpenClaim := { program := "ytionbckpgfaneaa", sum := "fe2cbdd1f98dc1552f3480d39645aadec8dbb0ad11ba07fa2382c0f5567aed35", func := "armplan/armplanlaw17.NormalsPoints", spec := "normalsPoints", unfollowed := true, recurses := true, apart := false, narrowed := true }
def NormalsPointsUptoSaid : Prop := normalsPointsUptoRow.holds Try.pinned (OpenSpec.upto normalsPointsSpec)

/-- 'armplanlaw17.NormalsAxes', WHERE WHAT IT READS IS OF BULK AT MOST 1048576: true; the input reads as it did. -/
def normalsAxesUptoRow : OpenClaim := { program := "ytionbckpgfaneaa", sum := "fe2cbdd1f98dc1552f3480d39645aadec8dbb0ad11ba07fa2382c0f5567aed35", func := "armplan/armplanlaw17.NormalsAxes", spec := "normalsAxes", unfollowed := true, recurses := true, apart := false, narrowed := true }
def NormalsAxesUptoSaid : Prop := normalsAxesUptoRow.holds Try.pinned (OpenSpec.upto normalsAxesSpec)

/-- 'armplanlaw17.NormalsParts', WHERE WHAT IT READS IS OF BULK AT MOST 1048576: true; the input reads as it did. -/
def normalsPartsUptoRow : OpenClaim := { program := "ytionbckpgfaneaa", sum := "fe2cbdd1f98dc1552f3480d39645aadec8dbb0ad11ba07fa2382c0f5567aed35", func := "armplan/armplanlaw17.NormalsParts", spec := "normalsParts", unfollowed := true, recurses := true, apart := false, narrowed := true }
def NormalsPartsUptoSaid : Prop := normalsPartsUptoRow.holds Try.pinned (OpenSpec.upto normalsPartsSpec)

/-- 'armplanlaw17.NormalsHints', WHERE WHAT IT READS IS OF BULK AT MOST 1048576: true; the input reads as it did. -/
def normalsHintsUptoRow : OpenClaim := { program := "ytionbckpgfaneaa", sum := "fe2cbdd1f98dc1552f3480d39645aadec8dbb0ad11ba07fa2382c0f5567aed35", func := "armplan/armplanlaw17.NormalsHints", spec := "normalsHints", unfollowed := true, recurses := true, apart := false, narrowed := true }
def NormalsHintsUptoSaid : Prop := normalsHintsUptoRow.holds Try.pinned (OpenSpec.upto normalsHintsSpec)

/-- 'armplanlaw17.NormalsLists', WHERE WHAT IT READS IS OF BULK AT MOST 1048576: true; the input reads as it did. -/
def normalsListsUptoRow : OpenClaim := { program := "ytionbckpgfaneaa", sum := "fe2cbdd1f98dc1552f3480d39645aadec8dbb0ad11ba07fa2382c0f5567aed35", func := "armplan/armplanlaw17.NormalsLists", spec := "normalsLists", unfollowed := true, recurses := true, apart := false, narrowed := true }
def NormalsListsUptoSaid : Prop := normalsListsUptoRow.holds Try.pinned (OpenSpec.upto normalsListsSpec)

/-- 'armplanlaw17.NormalsSound', WHERE WHAT IT READS IS OF BULK AT MOST 1048576: true; the input reads as it did. -/
def normalsSoundUptoRow : OpenClaim := { program := "ytionbckpgfaneaa", sum := "fe2cbdd1f98dc1552f3480d39645aadec8dbb0ad11ba07fa2382c0f5567aed35", func := "armplan/armplanlaw17.NormalsSound", spec := "normalsSound", unfollowed := true, recurses := true, apart := false, narrowed := true }
def NormalsSoundUptoSaid : Prop := normalsSoundUptoRow.holds Try.pinned (OpenSpec.upto normalsSoundSpec)

end Rows
end Go.Proofs.Ytionbckpgfaneaa
