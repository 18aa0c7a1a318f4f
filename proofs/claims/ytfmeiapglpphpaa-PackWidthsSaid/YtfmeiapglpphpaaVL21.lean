import Derived.Test.YtfmeiapglpphpaaVL20
import Derived.ProofKit
import Derived.OpenShut
import Derived.ShutString
import Derived.ChangeOld
import Derived.JoinedOf
/- From a function's contract to a row. -/
namespace Go.VL
open Go Go.RowKit

theorem Fun.calls {P : Program} {f : FuncId} {args : List D} (h : Fun P f args fun r => r = .v (.bool true)) (J : Nat → Prop) (w : World) (vs : List Value) (hJ : ∀ b, J b → b < w.heap.size) (hv : RelPs J w args vs) :
    Calls P f vs.toArray w fun e w' => e = .returned (.bool true) ∧ Below w.heap.size w w' := by
  refine (h.2 J w vs hJ hv).mono ?_
  rintro e w' ⟨y, r, rfl, rfl, hb, hy⟩
  obtain ⟨rfl, _⟩ := hy
  exact ⟨rfl, hb⟩

theorem RelPs.nil {J : Nat → Prop} {w : World} : RelPs J w [] [] := rfl
theorem RelPs.cons {J : Nat → Prop} {w : World} {d : D} {ds : List D} {y : Value} {ys : List Value} (h : RelP J w d y) (hs : RelPs J w ds ys) : RelPs J w (d :: ds) (y :: ys) := ⟨y, ys, rfl, h, hs⟩
theorem RelP.int {J : Nat → Prop} {w : World} {k : IntKind} {n : Int} : RelP J w (.v (.int k n)) (.int k n) := ⟨rfl, rfl⟩

-- the words of a program's head
def joinW : List (List Char) → List Char
  | [] => []
  | [w] => w
  | w :: v :: r => w ++ (Char.ofNat 32) :: joinW (v :: r)
theorem ws_cons {c : Char} {r w : List Char} {ws : List (List Char)} (hc : c ≠ (Char.ofNat 32)) (h : wordsSigns r = w :: ws) : wordsSigns (c :: r) = (c :: w) :: ws := by
  conv => lhs; unfold wordsSigns
  split
  · rename_i heq; cases heq
  · rename_i heq; cases heq; exact absurd rfl hc
  · rename_i c' r' _ heq
    cases heq
    rw [h]
theorem ws_word : ∀ (w r : List Char), (w.all fun c => c != (Char.ofNat 32)) = true → wordsSigns (w ++ (Char.ofNat 32) :: r) = w :: wordsSigns r
  | [], r, _ => rfl
  | c :: w, r, h => by
    simp only [List.all_cons, Bool.and_eq_true, bne_iff_ne, ne_eq] at h
    exact ws_cons h.1 (ws_word w r h.2)
theorem ws_last : ∀ (w : List Char), (w.all fun c => c != (Char.ofNat 32)) = true → wordsSigns w = [w]
  | [], _ => rfl
  | c :: w, h => by
    simp only [List.all_cons, Bool.and_eq_true, bne_iff_ne, ne_eq] at h
    exact ws_cons h.1 (ws_last w h.2)
theorem ws_join : ∀ (l : List (List Char)), l ≠ [] → (l.all fun w => w.all fun c => c != (Char.ofNat 32)) = true → wordsSigns (joinW l) = l
  | [], h, _ => absurd rfl h
  | [w], _, h => ws_last w (by simpa using h)
  | w :: v :: r, _, h => by
    rw [List.all_cons, Bool.and_eq_true] at h
    show wordsSigns (w ++ (Char.ofNat 32) :: joinW (v :: r)) = _
    rw [ws_word w _ h.1, ws_join (v :: r) (by simp) h.2]

theorem mayEnter_of {P : Program} {w r : List (List Char)} (h : wordsSigns P.initOrder.toList = w) (hb : behindMainWord w = [(Char.ofNat 99), (Char.ofNat 117), (Char.ofNat 116)] :: r) (hs : stripLifts liftWords ([(Char.ofNat 99), (Char.ofNat 117), (Char.ofNat 116)] :: r) = ([], [(Char.ofNat 99), (Char.ofNat 117), (Char.ofNat 116)] :: r))
    (h1 : P.laysLater = false) (h2 : P.bearsReflect = false) (h3 : P.doorFits [] = true) : P.mayEnter = true := by
  unfold Program.mayEnter; rw [h, hb]
  have n1 : (([(Char.ofNat 99), (Char.ofNat 117), (Char.ofNat 116)] : List Char) == "gc".toList) = false := by decide
  have n2 : (([(Char.ofNat 99), (Char.ofNat 117), (Char.ofNat 116)] : List Char) == "spec".toList) = false := by decide
  have n4 : (([(Char.ofNat 99), (Char.ofNat 117), (Char.ofNat 116)] : List Char) == "carried".toList) = false := by decide
  simp only [n1, n2, n4, hs, h1, h2, h3, List.head?_cons, Bool.false_and, Bool.or_false, Bool.false_or, Bool.not_false, Bool.or_true, Bool.and_true]
  decide
theorem make_of {P : Program} {w r : List (List Char)} (h : wordsSigns P.initOrder.toList = w) (hb : behindMainWord w = [(Char.ofNat 99), (Char.ofNat 117), (Char.ofNat 116)] :: r) : P.make = some .cut := by
  unfold Program.make; rw [h, hb]
  have n1 : (([(Char.ofNat 99), (Char.ofNat 117), (Char.ofNat 116)] : List Char) == "gc".toList) = false := by decide
  have n2 : (([(Char.ofNat 99), (Char.ofNat 117), (Char.ofNat 116)] : List Char) == "spec".toList) = false := by decide
  have n3 : (([(Char.ofNat 99), (Char.ofNat 117), (Char.ofNat 116)] : List Char) == "cut".toList) = true := by decide
  simp only [n1, n2, n3, Bool.false_or, Bool.true_or, Bool.false_eq_true, if_false, if_true]

theorem joined_of {P : Program} {f : FuncId} {fn : Func} {s : ChangeSpec} {c : OpenClaim} (h0 : c.wf (OpenSpec.ofChange s) = true) (h1 : laidOutB P = true) (h2 : mapsRowed P = true) (h3 : fn.params.all (P.readableRec ·) = true) (h4 : namedTie P c.named s.vars = true) (h5 : (c.stops == []) = true) (h6 : (P.stops == []) = true) (h7 : (c.knobs == []) = true) (h8 : (P.stopKnobs == []) = true) (h9 : (c.inPlace == P.inPlace f) = true) (h10 : (c.unfollowed == P.unfollowed f) = true) (h11 : (c.recurses == P.recurses f) = true) (h12 : (c.named == P.varsNamed f) = true) (h13 : (c.maps == (fn.params.toList ++ s.plain.varTypes P).any (P.mapsRec ·)) = true) (h14 : (c.ifaces == (fn.params.toList ++ s.plain.varTypes P).any (P.ifacesRec ·)) = true) (h15 : (c.mapsOut == P.mapsAmong fn.resultTypes.toList) = true) (h16 : (c.loops == (fn.params.toList ++ s.plain.varTypes P).any (P.loopsFrom ·)) = true) (h17 : (c.wideKeys == (fn.params.toList ++ s.plain.varTypes P ++ fn.resultTypes.toList).any (P.wideKeysFrom ·)) = true) (h18 : s.vars.all (P.varReadable ·) = true) (h19 : fn.resultTypes.all (fun t => P.readableRec t && decide (t < P.types.size)) = true) (h20 : (c.ifacesOut == fn.resultTypes.toList.any (P.ifacesRec ·)) = true) (h21 : (c.loopsOut == fn.resultTypes.toList.any (P.loopsFrom ·)) = true) (h22 : (c.plainKeys == P.plainKeys) = true) (h23 : c.shortTexts.isNone = true) (h24 : P.stopsHeard = true) (h25 : P.mayEnter = true) (h26 : P.liftsFinal = c.lifted) (h27 : P.make = some c.make) (h28 : c.domain.isEmpty = true) (h28k : c.kinds = []) (h29 : (c.pinned == c.pinnedBy) = true) (h30 : (c.veiled == (fn.params.toList ++ s.plain.varTypes P ++ fn.resultTypes.toList).any (P.veiledRec ·)) = true) (h31 : c.veiledFits P fn.params.toList (fn.params.toList ++ s.plain.varTypes P ++ fn.resultTypes.toList) = true) : joinedFacts P f fn s c = true := by
  unfold joinedFacts
  rw [h26, h27, h28k, h0, h1, h2, h3, h4, h5, h6, h7, h8, h9, h10, h11, h12, h13, h14, h15, h16, h17, h18, h19, h20, h21, h22, h23, h24, h25, h28, h29, h30, h31]
  simp
end Go.VL
