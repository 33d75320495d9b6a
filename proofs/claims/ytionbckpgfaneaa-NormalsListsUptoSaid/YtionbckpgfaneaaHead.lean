/- The head of the dump as a list of words: three closed facts of the rows (mayEnter, liftsFinal, make) reckoned from it cheaply. -/
import Derived.Test.YtionbckpgfaneaaRows
import Derived.ProofKit
namespace Go.Proofs.Ytionbckpgfaneaa
theorem words_one : ∀ (w : List Char), (w.all fun c => c != Char.ofNat 32) = true → wordsSigns w = [w]
  | [], _ => rfl
  | c :: r, h => by
    simp only [List.all_cons, Bool.and_eq_true, bne_iff_ne] at h
    have ih := words_one r h.2
    unfold wordsSigns
    split
    · rename_i e; cases e
    · rename_i e; injection e with e1 _; exact absurd e1 h.1
    · rename_i e; injection e with e1 e2; subst e1; subst e2; rw [ih]
theorem words_more : ∀ (w r : List Char), (w.all fun c => c != Char.ofNat 32) = true → wordsSigns (w ++ Char.ofNat 32 :: r) = w :: wordsSigns r
  | [], r, _ => rfl
  | c :: w, r, h => by
    simp only [List.all_cons, Bool.and_eq_true, bne_iff_ne] at h
    have ih := words_more w r h.2
    rw [List.cons_append]
    conv => lhs; unfold wordsSigns
    split
    · rename_i e; cases e
    · rename_i e; injection e with e1 _; exact absurd e1 h.1
    · rename_i e; injection e with e1 e2; subst e1; subst e2; rw [ih]
def joined : List (List Char) → List Char
  | [] => []
  | [w] => w
  | w :: x :: l => w ++ Char.ofNat 32 :: joined (x :: l)
theorem words_joined : ∀ (w : List Char) (l : List (List Char)), ((w :: l).all fun x => x.all fun c => c != Char.ofNat 32) = true → wordsSigns (joined (w :: l)) = w :: l
  | w, [], h => by
    simp only [List.all_cons, List.all_nil, Bool.and_true] at h
    exact words_one w h
  | w, x :: l, h => by
    rw [List.all_cons, Bool.and_eq_true] at h
    have ih := words_joined x l h.2
    show wordsSigns (w ++ Char.ofNat 32 :: joined (x :: l)) = _
    rw [words_more w _ h.1, ih]
def headWords : List (List Char) := ([[104, 97, 114, 110, 101, 115, 115], [52, 50, 99, 98, 54, 56, 53, 51, 98, 48, 54, 49, 98, 52, 100, 50, 55, 102, 50, 48, 53, 54, 56, 54, 51, 98, 48, 99, 53, 100, 56, 100, 48, 53, 54, 52, 97, 99, 54, 52, 54, 51, 50, 54, 48, 102, 49, 50, 54, 97, 102, 57, 97, 48, 57, 101, 56, 99, 49, 56, 57, 54, 53, 97], [99, 117, 116], [97, 116], [97, 114, 109, 112, 108, 97, 110, 47, 97, 114, 109, 112, 108, 97, 110, 108, 97, 119, 49, 54, 46, 79, 118, 101, 114, 108, 97, 112, 69, 120, 99, 101, 115, 115], [97, 114, 109, 112, 108, 97, 110, 47, 97, 114, 109, 112, 108, 97, 110, 108, 97, 119, 49, 54, 46, 79, 118, 101, 114, 108, 97, 112, 83, 119, 97, 112, 115], [97, 114, 109, 112, 108, 97, 110, 47, 97, 114, 109, 112, 108, 97, 110, 108, 97, 119, 49, 54, 46, 79, 118, 101, 114, 108, 97, 112, 77, 111, 110, 111, 116, 111, 110, 101], [97, 114, 109, 112, 108, 97, 110, 47, 97, 114, 109, 112, 108, 97, 110, 108, 97, 119, 49, 54, 46, 79, 118, 101, 114, 108, 97, 112, 83, 99, 97, 108, 101, 115], [97, 114, 109, 112, 108, 97, 110, 47, 97, 114, 109, 112, 108, 97, 110, 108, 97, 119, 49, 54, 46, 79, 118, 101, 114, 108, 97, 112, 82, 97, 100, 105, 117, 115], [97, 114, 109, 112, 108, 97, 110, 47, 97, 114, 109, 112, 108, 97, 110, 108, 97, 119, 49, 54, 46, 79, 118, 101, 114, 108, 97, 112, 67, 111, 109, 109, 111, 110], [97, 114, 109, 112, 108, 97, 110, 47, 97, 114, 109, 112, 108, 97, 110, 108, 97, 119, 49, 54, 46, 79, 118, 101, 114, 108, 97, 112, 83, 111, 117, 110, 100], [97, 114, 109, 112, 108, 97, 110, 47, 97, 114, 109, 112, 108, 97, 110, 108, 97, 119, 49, 51, 46, 83, 117, 112, 112, 111, 114, 116, 68, 111, 116, 115], [97, 114, 109, 112, 108, 97, 110, 47, 97, 114, 109, 112, 108, 97, 110, 108, 97, 119, 49, 51, 46, 83, 117, 112, 112, 111, 114, 116, 78, 111, 114, 109, 97, 108, 115], [97, 114, 109, 112, 108, 97, 110, 47, 97, 114, 109, 112, 108, 97, 110, 108, 97, 119, 49, 51, 46, 83, 117, 112, 112, 111, 114, 116, 78, 111, 114, 109, 115], [97, 114, 109, 112, 108, 97, 110, 47, 97, 114, 109, 112, 108, 97, 110, 108, 97, 119, 49, 51, 46, 83, 117, 112, 112, 111, 114, 116, 69, 120, 116, 114, 101, 109, 101, 115], [97, 114, 109, 112, 108, 97, 110, 47, 97, 114, 109, 112, 108, 97, 110, 108, 97, 119, 49, 51, 46, 83, 117, 112, 112, 111, 114, 116, 77, 111, 110, 111, 116, 111, 110, 101], [97, 114, 109, 112, 108, 97, 110, 47, 97, 114, 109, 112, 108, 97, 110, 108, 97, 119, 49, 51, 46, 83, 117, 112, 112, 111, 114, 116, 78, 101, 103, 97, 116, 101, 115], [97, 114, 109, 112, 108, 97, 110, 47, 97, 114, 109, 112, 108, 97, 110, 108, 97, 119, 49, 51, 46, 83, 117, 112, 112, 111, 114, 116, 72, 117, 108, 108], [97, 114, 109, 112, 108, 97, 110, 47, 97, 114, 109, 112, 108, 97, 110, 108, 97, 119, 49, 51, 46, 83, 117, 112, 112, 111, 114, 116, 83, 104, 105, 102, 116], [97, 114, 109, 112, 108, 97, 110, 47, 97, 114, 109, 112, 108, 97, 110, 108, 97, 119, 49, 53, 46, 80, 108, 97, 110, 101, 77, 97, 114, 103, 105, 110, 115], [97, 114, 109, 112, 108, 97, 110, 47, 97, 114, 109, 112, 108, 97, 110, 108, 97, 119, 49, 53, 46, 80, 108, 97, 110, 101, 70, 108, 105, 112, 115], [97, 114, 109, 112, 108, 97, 110, 47, 97, 114, 109, 112, 108, 97, 110, 108, 97, 119, 49, 53, 46, 80, 108, 97, 110, 101, 77, 111, 110, 111, 116, 111, 110, 101], [97, 114, 109, 112, 108, 97, 110, 47, 97, 114, 109, 112, 108, 97, 110, 108, 97, 119, 49, 53, 46, 80, 108, 97, 110, 101, 77, 111, 118, 101, 115], [97, 114, 109, 112, 108, 97, 110, 47, 97, 114, 109, 112, 108, 97, 110, 108, 97, 119, 49, 53, 46, 80, 108, 97, 110, 101, 82, 97, 100, 105, 117, 115], [97, 114, 109, 112, 108, 97, 110, 47, 97, 114, 109, 112, 108, 97, 110, 108, 97, 119, 49, 53, 46, 80, 108, 97, 110, 101, 83, 111, 117, 110, 100], [97, 114, 109, 112, 108, 97, 110, 47, 97, 114, 109, 112, 108, 97, 110, 108, 97, 119, 49, 53, 46, 80, 108, 97, 110, 101, 78, 101, 118, 101, 114], [97, 114, 109, 112, 108, 97, 110, 47, 97, 114, 109, 112, 108, 97, 110, 108, 97, 119, 49, 53, 46, 80, 108, 97, 110, 101, 70, 105, 114, 115, 116], [97, 114, 109, 112, 108, 97, 110, 47, 97, 114, 109, 112, 108, 97, 110, 108, 97, 119, 49, 52, 46, 78, 101, 97, 114, 101, 115, 116, 83, 101, 97, 114, 99, 104, 101, 115], [97, 114, 109, 112, 108, 97, 110, 47, 97, 114, 109, 112, 108, 97, 110, 108, 97, 119, 49, 52, 46, 78, 101, 97, 114, 101, 115, 116, 87, 101, 105, 103, 104, 116, 115], [97, 114, 109, 112, 108, 97, 110, 47, 97, 114, 109, 112, 108, 97, 110, 108, 97, 119, 49, 52, 46, 78, 101, 97, 114, 101, 115, 116, 68, 101, 99, 105, 100, 101, 115], [97, 114, 109, 112, 108, 97, 110, 47, 97, 114, 109, 112, 108, 97, 110, 108, 97, 119, 49, 52, 46, 78, 101, 97, 114, 101, 115, 116, 69, 120, 99, 108, 117, 115, 105, 118, 101], [97, 114, 109, 112, 108, 97, 110, 47, 97, 114, 109, 112, 108, 97, 110, 108, 97, 119, 49, 52, 46, 78, 101, 97, 114, 101, 115, 116, 80, 111, 105, 110, 116, 115], [97, 114, 109, 112, 108, 97, 110, 47, 97, 114, 109, 112, 108, 97, 110, 108, 97, 119, 49, 52, 46, 78, 101, 97, 114, 101, 115, 116, 77, 111, 118, 101, 115], [97, 114, 109, 112, 108, 97, 110, 47, 97, 114, 109, 112, 108, 97, 110, 108, 97, 119, 49, 52, 46, 78, 101, 97, 114, 101, 115, 116, 77, 111, 114, 101], [97, 114, 109, 112, 108, 97, 110, 47, 97, 114, 109, 112, 108, 97, 110, 108, 97, 119, 49, 54, 46, 79, 118, 101, 114, 108, 97, 112, 69, 120, 99, 108, 117, 100, 101, 115], [97, 114, 109, 112, 108, 97, 110, 47, 97, 114, 109, 112, 108, 97, 110, 108, 97, 119, 49, 55, 46, 78, 111, 114, 109, 97, 108, 115, 70, 105, 110, 100, 115], [97, 114, 109, 112, 108, 97, 110, 47, 97, 114, 109, 112, 108, 97, 110, 108, 97, 119, 49, 55, 46, 78, 111, 114, 109, 97, 108, 115, 80, 111, 105, 110, 116, 115], [97, 114, 109, 112, 108, 97, 110, 47, 97, 114, 109, 112, 108, 97, 110, 108, 97, 119, 49, 55, 46, 78, 111, 114, 109, 97, 108, 115, 65, 120, 101, 115], [97, 114, 109, 112, 108, 97, 110, 47, 97, 114, 109, 112, 108, 97, 110, 108, 97, 119, 49, 55, 46, 78, 111, 114, 109, 97, 108, 115, 80, 97, 114, 116, 115], [97, 114, 109, 112, 108, 97, 110, 47, 97, 114, 109, 112, 108, 97, 110, 108, 97, 119, 49, 55, 46, 78, 111, 114, 109, 97, 108, 115, 72, 105, 110, 116, 115], [97, 114, 109, 112, 108, 97, 110, 47, 97, 114, 109, 112, 108, 97, 110, 108, 97, 119, 49, 55, 46, 78, 111, 114, 109, 97, 108, 115, 76, 105, 115, 116, 115], [97, 114, 109, 112, 108, 97, 110, 47, 97, 114, 109, 112, 108, 97, 110, 108, 97, 119, 49, 55, 46, 78, 111, 114, 109, 97, 108, 115, 83, 111, 117, 110, 100]] : List (List Nat)).map (fun l => l.map Char.ofNat)
theorem head_list : wordsSigns Try.prog.initOrder.toList = headWords := by
  have h : Try.prog.initOrder = String.ofList (joined headWords) := by kernel_rfl
  rw [h, String.toList_ofList]
  exact words_joined _ _ (by kernel_rfl)

theorem behind : behindMainWord (wordsSigns Try.prog.initOrder.toList) = headWords.drop 2 := by
  rw [head_list]
  kernel_rfl
theorem lays_later : Try.prog.laysLater = false := by kernel_rfl
theorem bears_reflect : Try.prog.bearsReflect = false := by kernel_rfl
theorem door_rows : Try.prog.doorRows = [] := by kernel_rfl
theorem made_of (P : Program) (x : List Char) (r : List (List Char)) (h : behindMainWord (wordsSigns P.initOrder.toList) = x :: r) (h1 : (x == "gc".toList) = false) (h2 : (x == "spec".toList) = false) (h3 : (x == "cut".toList) = true) : P.make = some .cut := by
  unfold Program.make
  rw [h]
  simp only [h1, h2, h3, Bool.or_false, Bool.true_or, Bool.false_eq_true, if_false, if_true]
theorem lifts_of (P : Program) (x : List Char) (r : List (List Char)) (h : behindMainWord (wordsSigns P.initOrder.toList) = x :: r) (hs : (stripLifts liftWords (x :: r)).1 = []) (h1 : x ≠ "carried".toList) : P.liftsFinal = false := by
  have h2 : ((x :: r).head? == some "carried".toList) = false := by simpa using h1
  unfold Program.liftsFinal Program.headLifts
  rw [h]
  simp only [h2, hs]
  simp
theorem enter_of (P : Program) (x : List Char) (r : List (List Char)) (h : behindMainWord (wordsSigns P.initOrder.toList) = x :: r) (hs : stripLifts liftWords (x :: r) = ([], x :: r)) (h3 : (x == "cut".toList) = true)
    (hl : P.laysLater = false) (hb : P.bearsReflect = false) (hd : P.doorRows = []) : P.mayEnter = true := by
  have hx : x = "cut".toList := by simpa using h3
  subst hx
  unfold Program.mayEnter Program.doorFits
  rw [h, hl, hb, hd]
  simp only [hs]
  simp
theorem split_at : headWords.drop 2 = "cut".toList :: headWords.drop 3 := by kernel_rfl
theorem strips : stripLifts liftWords ("cut".toList :: headWords.drop 3) = ([], "cut".toList :: headWords.drop 3) := by kernel_rfl
theorem may_enter : Try.prog.mayEnter = true := enter_of Try.prog _ _ (behind.trans split_at) strips (by kernel_rfl) lays_later bears_reflect door_rows
theorem lifts_final : Try.prog.liftsFinal = false := lifts_of Try.prog _ _ (behind.trans split_at) (by rw [strips]) (of_decide_eq_true (by kernel_rfl))
theorem made : Try.prog.make = some .cut := made_of Try.prog _ _ (behind.trans split_at) (by kernel_rfl) (by kernel_rfl) (by kernel_rfl)
theorem laid_out : laidOutB Try.prog = true := by kernel_rfl
theorem own_knob : ownKnob Try.prog.godebug = none := by kernel_rfl
theorem maps_rowed : mapsRowed Try.prog = true := by kernel_rfl
theorem no_stops : (Try.prog.stops == []) = true := by kernel_rfl
theorem no_knobs : (Try.prog.stopKnobs == []) = true := by kernel_rfl
theorem plain_keys : Try.prog.plainKeys = true := by kernel_rfl
theorem stops_heard : Try.prog.stopsHeard = true := by kernel_rfl
/-- the closed facts of a row, out of its parts -/
theorem joined_of {f : FuncId} {fn : Func} {s : ChangeSpec} {c : OpenClaim} (k1 : c.wf (OpenSpec.ofChange s) = true) (k4 : fn.params.all (Try.prog.readableRec ·) = true) (k5 : namedTie Try.prog c.named s.vars = true) (k6 : (c.stops == []) = true) (k8 : (c.knobs == []) = true)
    (k10 : (c.inPlace == Try.prog.inPlace f) = true) (k11 : (c.unfollowed == Try.prog.unfollowed f) = true) (k12 : (c.recurses == Try.prog.recurses f) = true) (k13 : (c.named == Try.prog.varsNamed f) = true)
    (k14 : (c.maps == (fn.params.toList ++ s.plain.varTypes Try.prog).any (Try.prog.mapsRec ·)) = true) (k15 : (c.ifaces == (fn.params.toList ++ s.plain.varTypes Try.prog).any (Try.prog.ifacesRec ·)) = true) (k16 : (c.mapsOut == Try.prog.mapsAmong fn.resultTypes.toList) = true)
    (k17 : (c.loops == (fn.params.toList ++ s.plain.varTypes Try.prog).any (Try.prog.loopsFrom ·)) = true) (k17b : (c.wideKeys == (fn.params.toList ++ s.plain.varTypes Try.prog ++ fn.resultTypes.toList).any (Try.prog.wideKeysFrom ·)) = true)
    (k18 : s.vars.all (Try.prog.varReadable ·) = true) (k19 : fn.resultTypes.all (fun t => Try.prog.readableRec t && decide (t < Try.prog.types.size)) = true) (k20 : (c.ifacesOut == fn.resultTypes.toList.any (Try.prog.ifacesRec ·)) = true) (k21 : (c.loopsOut == fn.resultTypes.toList.any (Try.prog.loopsFrom ·)) = true)
    (k22 : c.plainKeys = true) (k23 : c.shortTexts.isNone = true) (k24b : c.lifted = false) (k24c : c.make = .cut)
    (kd : c.kinds = []) (dm : c.domain = []) (k26 : (c.pinned == c.pinnedBy) = true)
    (k27 : (c.veiled == (fn.params.toList ++ s.plain.varTypes Try.prog ++ fn.resultTypes.toList).any (Try.prog.veiledRec ·)) = true) (k28 : c.veiledFits Try.prog fn.params.toList (fn.params.toList ++ s.plain.varTypes Try.prog ++ fn.resultTypes.toList) = true) :
    joinedFacts Try.prog f fn s c = true := by
  have a1 : (c.plainKeys == Try.prog.plainKeys) = true := by rw [k22, plain_keys]; rfl
  have a2 : (c.lifted == Try.prog.liftsFinal) = true := by rw [k24b, lifts_final]; rfl
  have a3 : (Try.prog.make == some c.make) = true := by rw [made, k24c]; rfl
  unfold joinedFacts
  rw [k1, laid_out, maps_rowed, k4, k5, k6, no_stops, k8, no_knobs, k10, k11, k12, k13, k14, k15, k16, k17, k17b, k18, k19, k20, k21, a1, k23, stops_heard, may_enter, a2, a3, k26, k27, k28, kd, dm]
  rfl
end Go.Proofs.Ytionbckpgfaneaa
