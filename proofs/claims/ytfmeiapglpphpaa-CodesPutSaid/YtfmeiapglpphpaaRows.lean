/-
  No cell of these rows narrows 'for every input' (looked for: loops, veiled, ifaces, maps, wideKeys, modest, calm, conditions, laid).
  DERIVED. THE GIVEN ROWS OF THIS SEAT. 33 by the template 'for every input the law returns true; each argument reads behind the call as it read before'; 0 by the template 'total and deterministic' (their statements: YtfmeiapglpphpaaTotals.lean).
  GIVEN WITH THE SEED: the statements are not yours to turn. If you find one false, say at which input.
  Laid BY PROGRAM, IN A SANDBOX (cutbox-rows.mjs): the forced cells as the released guide's own fill.sh prints them over the translation 871fb05eebbbdb4f… (all of the seat's roots in one cut). By AI agents, Wed Nov 11 2026. No macro, syntax, notation, axiom, sorry.
-/
import Derived.Test.YtfmeiapglpphpaaChecked
import GoSem.Claim
import GoSem.ClaimJoined
import GoSem.ClaimMapViews
import Derived.JoinedTies
import Derived.KernelRfl
namespace Go.Proofs.Ytfmeiapglpphpaa
/- THE CELL 'sum', in the pinned program and in every row, IS THE sha256 OF THE DUMP (.gsa) THAT YtfmeiapglpphpaaProg.lean LOADS. Nothing in Lean hashes anything: it is a label: what it is worth is what the hold of that sum in a sandbox is worth. -/
noncomputable def Try.pinned : Pinned := { name := "ytfmeiapglpphpaa", sum := "871fb05eebbbdb4f016316663bf2e2d33c29042c8e41d43ea5f5722ee08c63ad", checked := Try.checked }
namespace Rows
def none {H : Type} : Left H := { results := [], args := [] }

/-- 'cuvettelaw03.PackNumbers': WHATEVER THE INPUT: true; the input reads as it did. -/
def packNumbersSpec : ChangeSpec := { name := "packNumbers", fn := fun _ => fun
  | [d1, d2, d3, d4] => { results := [.lit (.bool true)], args := [d1, d2, d3, d4] }
  | _ => none }
def packNumbersRow : OpenClaim := { program := "ytfmeiapglpphpaa", sum := "871fb05eebbbdb4f016316663bf2e2d33c29042c8e41d43ea5f5722ee08c63ad", func := "cuvette/cuvettelaw03.PackNumbers", spec := "packNumbers", apart := false }
def PackNumbersSaid : Prop := packNumbersRow.holds Try.pinned (OpenSpec.ofChange packNumbersSpec)

/-- ITS FALSE NEIGHBOUR: 'it returns false'. Refute it at one input. -/
def packNumbersWrong : ChangeSpec := { name := "packNumbers", fn := fun _ => fun
  | [d1, d2, d3, d4] => { results := [.lit (.bool false)], args := [d1, d2, d3, d4] }
  | _ => none }
def PackNumbersWrongFalsely : Prop := packNumbersRow.holds Try.pinned (OpenSpec.ofChange packNumbersWrong)

/-- 'cuvettelaw03.PackBack': WHATEVER THE INPUT: true; the input reads as it did. -/
def packBackSpec : ChangeSpec := { name := "packBack", fn := fun _ => fun
  | [d1, d2, d3, d4, d5] => { results := [.lit (.bool true)], args := [d1, d2, d3, d4, d5] }
  | _ => none }
def packBackRow : OpenClaim := { program := "ytfmeiapglpphpaa", sum := "871fb05eebbbdb4f016316663bf2e2d33c29042c8e41d43ea5f5722ee08c63ad", func := "cuvette/cuvettelaw03.PackBack", spec := "packBack", apart := false }
def PackBackSaid : Prop := packBackRow.holds Try.pinned (OpenSpec.ofChange packBackSpec)

/-- ITS FALSE NEIGHBOUR: 'it returns false'. Refute it at one input. -/
def packBackWrong : ChangeSpec := { name := "packBack", fn := fun _ => fun
  | [d1, d2, d3, d4, d5] => { results := [.lit (.bool false)], args := [d1, d2, d3, d4, d5] }
  | _ => none }
def PackBackWrongFalsely : Prop := packBackRow.holds Try.pinned (OpenSpec.ofChange packBackWrong)

/-- 'cuvettelaw03.PackWidths': WHATEVER THE INPUT: true; the input reads as it did. -/
def packWidthsSpec : ChangeSpec := { name := "packWidths", fn := fun _ => fun
  | [d1, d2, d3] => { results := [.lit (.bool true)], args := [d1, d2, d3] }
  | _ => none }
def packWidthsRow : OpenClaim := { program := "ytfmeiapglpphpaa", sum := "871fb05eebbbdb4f016316663bf2e2d33c29042c8e41d43ea5f5722ee08c63ad", func := "cuvette/cuvettelaw03.PackWidths", spec := "packWidths", apart := false }
def PackWidthsSaid : Prop := packWidthsRow.holds Try.pinned (OpenSpec.ofChange packWidthsSpec)

/-- ITS FALSE NEIGHBOUR: 'it returns false'. Refute it at one input. -/
def packWidthsWrong : ChangeSpec := { name := "packWidths", fn := fun _ => fun
  | [d1, d2, d3] => { results := [.lit (.bool false)], args := [d1, d2, d3] }
  | _ => none }
def PackWidthsWrongFalsely : Prop := packWidthsRow.holds Try.pinned (OpenSpec.ofChange packWidthsWrong)

/-- 'cuvettelaw03.PackParts': WHATEVER THE INPUT: true; the input reads as it did. -/
def packPartsSpec : ChangeSpec := { name := "packParts", fn := fun _ => fun
  | [d1, d2, d3] => { results := [.lit (.bool true)], args := [d1, d2, d3] }
  | _ => none }
def packPartsRow : OpenClaim := { program := "ytfmeiapglpphpaa", sum := "871fb05eebbbdb4f016316663bf2e2d33c29042c8e41d43ea5f5722ee08c63ad", func := "cuvette/cuvettelaw03.PackParts", spec := "packParts", apart := false }
def PackPartsSaid : Prop := packPartsRow.holds Try.pinned (OpenSpec.ofChange packPartsSpec)

/-- ITS FALSE NEIGHBOUR: 'it returns false'. Refute it at one input. -/
def packPartsWrong : ChangeSpec := { name := "packParts", fn := fun _ => fun
  | [d1, d2, d3] => { results := [.lit (.bool false)], args := [d1, d2, d3] }
  | _ => none }
def PackPartsWrongFalsely : Prop := packPartsRow.holds Try.pinned (OpenSpec.ofChange packPartsWrong)

/-- 'cuvettelaw03.PackSum': WHATEVER THE INPUT: true; the input reads as it did. -/
def packSumSpec : ChangeSpec := { name := "packSum", fn := fun _ => fun
  | [d1, d2, d3] => { results := [.lit (.bool true)], args := [d1, d2, d3] }
  | _ => none }
def packSumRow : OpenClaim := { program := "ytfmeiapglpphpaa", sum := "871fb05eebbbdb4f016316663bf2e2d33c29042c8e41d43ea5f5722ee08c63ad", func := "cuvette/cuvettelaw03.PackSum", spec := "packSum", apart := false }
def PackSumSaid : Prop := packSumRow.holds Try.pinned (OpenSpec.ofChange packSumSpec)

/-- ITS FALSE NEIGHBOUR: 'it returns false'. Refute it at one input. -/
def packSumWrong : ChangeSpec := { name := "packSum", fn := fun _ => fun
  | [d1, d2, d3] => { results := [.lit (.bool false)], args := [d1, d2, d3] }
  | _ => none }
def PackSumWrongFalsely : Prop := packSumRow.holds Try.pinned (OpenSpec.ofChange packSumWrong)

/-- 'cuvettelaw03.PackCut': WHATEVER THE INPUT: true; the input reads as it did. -/
def packCutSpec : ChangeSpec := { name := "packCut", fn := fun _ => fun
  | [d1, d2, d3] => { results := [.lit (.bool true)], args := [d1, d2, d3] }
  | _ => none }
def packCutRow : OpenClaim := { program := "ytfmeiapglpphpaa", sum := "871fb05eebbbdb4f016316663bf2e2d33c29042c8e41d43ea5f5722ee08c63ad", func := "cuvette/cuvettelaw03.PackCut", spec := "packCut", unfollowed := true, recurses := true, apart := false }
def PackCutSaid : Prop := packCutRow.holds Try.pinned (OpenSpec.ofChange packCutSpec)

/-- ITS FALSE NEIGHBOUR: 'it returns false'. Refute it at one input. -/
def packCutWrong : ChangeSpec := { name := "packCut", fn := fun _ => fun
  | [d1, d2, d3] => { results := [.lit (.bool false)], args := [d1, d2, d3] }
  | _ => none }
def PackCutWrongFalsely : Prop := packCutRow.holds Try.pinned (OpenSpec.ofChange packCutWrong)

/-- 'cuvettelaw03.PackTexts': WHATEVER THE INPUT: true; the input reads as it did. -/
def packTextsSpec : ChangeSpec := { name := "packTexts", fn := fun _ => fun
  | [d1, d2] => { results := [.lit (.bool true)], args := [d1, d2] }
  | _ => none }
def packTextsRow : OpenClaim := { program := "ytfmeiapglpphpaa", sum := "871fb05eebbbdb4f016316663bf2e2d33c29042c8e41d43ea5f5722ee08c63ad", func := "cuvette/cuvettelaw03.PackTexts", spec := "packTexts", unfollowed := true, recurses := true, apart := false }
def PackTextsSaid : Prop := packTextsRow.holds Try.pinned (OpenSpec.ofChange packTextsSpec)

/-- ITS FALSE NEIGHBOUR: 'it returns false'. Refute it at one input. -/
def packTextsWrong : ChangeSpec := { name := "packTexts", fn := fun _ => fun
  | [d1, d2] => { results := [.lit (.bool false)], args := [d1, d2] }
  | _ => none }
def PackTextsWrongFalsely : Prop := packTextsRow.holds Try.pinned (OpenSpec.ofChange packTextsWrong)

/-- 'cuvettelaw04.VecMiddle': WHATEVER THE INPUT: true; the input reads as it did. -/
def vecMiddleSpec : ChangeSpec := { name := "vecMiddle", fn := fun _ => fun
  | [d1, d2, d3] => { results := [.lit (.bool true)], args := [d1, d2, d3] }
  | _ => none }
def vecMiddleRow : OpenClaim := { program := "ytfmeiapglpphpaa", sum := "871fb05eebbbdb4f016316663bf2e2d33c29042c8e41d43ea5f5722ee08c63ad", func := "cuvette/cuvettelaw04.VecMiddle", spec := "vecMiddle", unfollowed := true, recurses := true, apart := false }
def VecMiddleSaid : Prop := vecMiddleRow.holds Try.pinned (OpenSpec.ofChange vecMiddleSpec)

/-- ITS FALSE NEIGHBOUR: 'it returns false'. Refute it at one input. -/
def vecMiddleWrong : ChangeSpec := { name := "vecMiddle", fn := fun _ => fun
  | [d1, d2, d3] => { results := [.lit (.bool false)], args := [d1, d2, d3] }
  | _ => none }
def VecMiddleWrongFalsely : Prop := vecMiddleRow.holds Try.pinned (OpenSpec.ofChange vecMiddleWrong)

/-- 'cuvettelaw04.VecShift': WHATEVER THE INPUT: true; the input reads as it did. -/
def vecShiftSpec : ChangeSpec := { name := "vecShift", fn := fun _ => fun
  | [d1, d2, d3] => { results := [.lit (.bool true)], args := [d1, d2, d3] }
  | _ => none }
def vecShiftRow : OpenClaim := { program := "ytfmeiapglpphpaa", sum := "871fb05eebbbdb4f016316663bf2e2d33c29042c8e41d43ea5f5722ee08c63ad", func := "cuvette/cuvettelaw04.VecShift", spec := "vecShift", unfollowed := true, recurses := true, apart := false }
def VecShiftSaid : Prop := vecShiftRow.holds Try.pinned (OpenSpec.ofChange vecShiftSpec)

/-- ITS FALSE NEIGHBOUR: 'it returns false'. Refute it at one input. -/
def vecShiftWrong : ChangeSpec := { name := "vecShift", fn := fun _ => fun
  | [d1, d2, d3] => { results := [.lit (.bool false)], args := [d1, d2, d3] }
  | _ => none }
def VecShiftWrongFalsely : Prop := vecShiftRow.holds Try.pinned (OpenSpec.ofChange vecShiftWrong)

/-- 'cuvettelaw04.VecParts': WHATEVER THE INPUT: true; the input reads as it did. -/
def vecPartsSpec : ChangeSpec := { name := "vecParts", fn := fun _ => fun
  | [d1, d2, d3] => { results := [.lit (.bool true)], args := [d1, d2, d3] }
  | _ => none }
def vecPartsRow : OpenClaim := { program := "ytfmeiapglpphpaa", sum := "871fb05eebbbdb4f016316663bf2e2d33c29042c8e41d43ea5f5722ee08c63ad", func := "cuvette/cuvettelaw04.VecParts", spec := "vecParts", unfollowed := true, recurses := true, apart := false }
def VecPartsSaid : Prop := vecPartsRow.holds Try.pinned (OpenSpec.ofChange vecPartsSpec)

/-- ITS FALSE NEIGHBOUR: 'it returns false'. Refute it at one input. -/
def vecPartsWrong : ChangeSpec := { name := "vecParts", fn := fun _ => fun
  | [d1, d2, d3] => { results := [.lit (.bool false)], args := [d1, d2, d3] }
  | _ => none }
def VecPartsWrongFalsely : Prop := vecPartsRow.holds Try.pinned (OpenSpec.ofChange vecPartsWrong)

/-- 'cuvettelaw04.VecDoes': WHATEVER THE INPUT: true; the input reads as it did. -/
def vecDoesSpec : ChangeSpec := { name := "vecDoes", fn := fun _ => fun
  | [d1, d2] => { results := [.lit (.bool true)], args := [d1, d2] }
  | _ => none }
def vecDoesRow : OpenClaim := { program := "ytfmeiapglpphpaa", sum := "871fb05eebbbdb4f016316663bf2e2d33c29042c8e41d43ea5f5722ee08c63ad", func := "cuvette/cuvettelaw04.VecDoes", spec := "vecDoes", unfollowed := true, recurses := true, apart := false }
def VecDoesSaid : Prop := vecDoesRow.holds Try.pinned (OpenSpec.ofChange vecDoesSpec)

/-- ITS FALSE NEIGHBOUR: 'it returns false'. Refute it at one input. -/
def vecDoesWrong : ChangeSpec := { name := "vecDoes", fn := fun _ => fun
  | [d1, d2] => { results := [.lit (.bool false)], args := [d1, d2] }
  | _ => none }
def VecDoesWrongFalsely : Prop := vecDoesRow.holds Try.pinned (OpenSpec.ofChange vecDoesWrong)

/-- 'cuvettelaw04.VecFar': WHATEVER THE INPUT: true; the input reads as it did. -/
def vecFarSpec : ChangeSpec := { name := "vecFar", fn := fun _ => fun
  | [d1, d2] => { results := [.lit (.bool true)], args := [d1, d2] }
  | _ => none }
def vecFarRow : OpenClaim := { program := "ytfmeiapglpphpaa", sum := "871fb05eebbbdb4f016316663bf2e2d33c29042c8e41d43ea5f5722ee08c63ad", func := "cuvette/cuvettelaw04.VecFar", spec := "vecFar", unfollowed := true, recurses := true, apart := false }
def VecFarSaid : Prop := vecFarRow.holds Try.pinned (OpenSpec.ofChange vecFarSpec)

/-- ITS FALSE NEIGHBOUR: 'it returns false'. Refute it at one input. -/
def vecFarWrong : ChangeSpec := { name := "vecFar", fn := fun _ => fun
  | [d1, d2] => { results := [.lit (.bool false)], args := [d1, d2] }
  | _ => none }
def VecFarWrongFalsely : Prop := vecFarRow.holds Try.pinned (OpenSpec.ofChange vecFarWrong)

/-- 'cuvettelaw04.VecTexts': WHATEVER THE INPUT: true; the input reads as it did. -/
def vecTextsSpec : ChangeSpec := { name := "vecTexts", fn := fun _ => fun
  | [d1, d2] => { results := [.lit (.bool true)], args := [d1, d2] }
  | _ => none }
def vecTextsRow : OpenClaim := { program := "ytfmeiapglpphpaa", sum := "871fb05eebbbdb4f016316663bf2e2d33c29042c8e41d43ea5f5722ee08c63ad", func := "cuvette/cuvettelaw04.VecTexts", spec := "vecTexts", unfollowed := true, recurses := true, apart := false }
def VecTextsSaid : Prop := vecTextsRow.holds Try.pinned (OpenSpec.ofChange vecTextsSpec)

/-- ITS FALSE NEIGHBOUR: 'it returns false'. Refute it at one input. -/
def vecTextsWrong : ChangeSpec := { name := "vecTexts", fn := fun _ => fun
  | [d1, d2] => { results := [.lit (.bool false)], args := [d1, d2] }
  | _ => none }
def VecTextsWrongFalsely : Prop := vecTextsRow.holds Try.pinned (OpenSpec.ofChange vecTextsWrong)

/-- 'cuvettelaw04.VecBack': WHATEVER THE INPUT: true; the input reads as it did. -/
def vecBackSpec : ChangeSpec := { name := "vecBack", fn := fun _ => fun
  | [d1, d2] => { results := [.lit (.bool true)], args := [d1, d2] }
  | _ => none }
def vecBackRow : OpenClaim := { program := "ytfmeiapglpphpaa", sum := "871fb05eebbbdb4f016316663bf2e2d33c29042c8e41d43ea5f5722ee08c63ad", func := "cuvette/cuvettelaw04.VecBack", spec := "vecBack", unfollowed := true, recurses := true, apart := false }
def VecBackSaid : Prop := vecBackRow.holds Try.pinned (OpenSpec.ofChange vecBackSpec)

/-- ITS FALSE NEIGHBOUR: 'it returns false'. Refute it at one input. -/
def vecBackWrong : ChangeSpec := { name := "vecBack", fn := fun _ => fun
  | [d1, d2] => { results := [.lit (.bool false)], args := [d1, d2] }
  | _ => none }
def VecBackWrongFalsely : Prop := vecBackRow.holds Try.pinned (OpenSpec.ofChange vecBackWrong)

/-- 'cuvettelaw05.TwistParts': WHATEVER THE INPUT: true; the input reads as it did. -/
def twistPartsSpec : ChangeSpec := { name := "twistParts", fn := fun _ => fun
  | [d1, d2, d3] => { results := [.lit (.bool true)], args := [d1, d2, d3] }
  | _ => none }
def twistPartsRow : OpenClaim := { program := "ytfmeiapglpphpaa", sum := "871fb05eebbbdb4f016316663bf2e2d33c29042c8e41d43ea5f5722ee08c63ad", func := "cuvette/cuvettelaw05.TwistParts", spec := "twistParts", apart := false }
def TwistPartsSaid : Prop := twistPartsRow.holds Try.pinned (OpenSpec.ofChange twistPartsSpec)

/-- ITS FALSE NEIGHBOUR: 'it returns false'. Refute it at one input. -/
def twistPartsWrong : ChangeSpec := { name := "twistParts", fn := fun _ => fun
  | [d1, d2, d3] => { results := [.lit (.bool false)], args := [d1, d2, d3] }
  | _ => none }
def TwistPartsWrongFalsely : Prop := twistPartsRow.holds Try.pinned (OpenSpec.ofChange twistPartsWrong)

/-- 'cuvettelaw05.TwistPlain': WHATEVER THE INPUT: true; the input reads as it did. -/
def twistPlainSpec : ChangeSpec := { name := "twistPlain", fn := fun _ => fun
  | [d] => { results := [.lit (.bool true)], args := [d] }
  | _ => none }
def twistPlainRow : OpenClaim := { program := "ytfmeiapglpphpaa", sum := "871fb05eebbbdb4f016316663bf2e2d33c29042c8e41d43ea5f5722ee08c63ad", func := "cuvette/cuvettelaw05.TwistPlain", spec := "twistPlain", apart := false }
def TwistPlainSaid : Prop := twistPlainRow.holds Try.pinned (OpenSpec.ofChange twistPlainSpec)

/-- ITS FALSE NEIGHBOUR: 'it returns false'. Refute it at one input. -/
def twistPlainWrong : ChangeSpec := { name := "twistPlain", fn := fun _ => fun
  | [d] => { results := [.lit (.bool false)], args := [d] }
  | _ => none }
def TwistPlainWrongFalsely : Prop := twistPlainRow.holds Try.pinned (OpenSpec.ofChange twistPlainWrong)

/-- 'cuvettelaw05.TwistGroup': WHATEVER THE INPUT: true; the input reads as it did. -/
def twistGroupSpec : ChangeSpec := { name := "twistGroup", fn := fun _ => fun
  | [d1, d2, d3] => { results := [.lit (.bool true)], args := [d1, d2, d3] }
  | _ => none }
def twistGroupRow : OpenClaim := { program := "ytfmeiapglpphpaa", sum := "871fb05eebbbdb4f016316663bf2e2d33c29042c8e41d43ea5f5722ee08c63ad", func := "cuvette/cuvettelaw05.TwistGroup", spec := "twistGroup", apart := false }
def TwistGroupSaid : Prop := twistGroupRow.holds Try.pinned (OpenSpec.ofChange twistGroupSpec)

/-- ITS FALSE NEIGHBOUR: 'it returns false'. Refute it at one input. -/
def twistGroupWrong : ChangeSpec := { name := "twistGroup", fn := fun _ => fun
  | [d1, d2, d3] => { results := [.lit (.bool false)], args := [d1, d2, d3] }
  | _ => none }
def TwistGroupWrongFalsely : Prop := twistGroupRow.holds Try.pinned (OpenSpec.ofChange twistGroupWrong)

/-- 'cuvettelaw05.TwistFar': WHATEVER THE INPUT: true; the input reads as it did. -/
def twistFarSpec : ChangeSpec := { name := "twistFar", fn := fun _ => fun
  | [d1, d2, d3] => { results := [.lit (.bool true)], args := [d1, d2, d3] }
  | _ => none }
def twistFarRow : OpenClaim := { program := "ytfmeiapglpphpaa", sum := "871fb05eebbbdb4f016316663bf2e2d33c29042c8e41d43ea5f5722ee08c63ad", func := "cuvette/cuvettelaw05.TwistFar", spec := "twistFar", unfollowed := true, recurses := true, apart := false }
def TwistFarSaid : Prop := twistFarRow.holds Try.pinned (OpenSpec.ofChange twistFarSpec)

/-- ITS FALSE NEIGHBOUR: 'it returns false'. Refute it at one input. -/
def twistFarWrong : ChangeSpec := { name := "twistFar", fn := fun _ => fun
  | [d1, d2, d3] => { results := [.lit (.bool false)], args := [d1, d2, d3] }
  | _ => none }
def TwistFarWrongFalsely : Prop := twistFarRow.holds Try.pinned (OpenSpec.ofChange twistFarWrong)

/-- 'cuvettelaw05.TwistDoes': WHATEVER THE INPUT: true; the input reads as it did. -/
def twistDoesSpec : ChangeSpec := { name := "twistDoes", fn := fun _ => fun
  | [d1, d2, d3] => { results := [.lit (.bool true)], args := [d1, d2, d3] }
  | _ => none }
def twistDoesRow : OpenClaim := { program := "ytfmeiapglpphpaa", sum := "871fb05eebbbdb4f016316663bf2e2d33c29042c8e41d43ea5f5722ee08c63ad", func := "cuvette/cuvettelaw05.TwistDoes", spec := "twistDoes", apart := false }
def TwistDoesSaid : Prop := twistDoesRow.holds Try.pinned (OpenSpec.ofChange twistDoesSpec)

/-- ITS FALSE NEIGHBOUR: 'it returns false'. Refute it at one input. -/
def twistDoesWrong : ChangeSpec := { name := "twistDoes", fn := fun _ => fun
  | [d1, d2, d3] => { results := [.lit (.bool false)], args := [d1, d2, d3] }
  | _ => none }
def TwistDoesWrongFalsely : Prop := twistDoesRow.holds Try.pinned (OpenSpec.ofChange twistDoesWrong)

/-- 'cuvettelaw05.TwistBack': WHATEVER THE INPUT: true; the input reads as it did. -/
def twistBackSpec : ChangeSpec := { name := "twistBack", fn := fun _ => fun
  | [d1, d2, d3] => { results := [.lit (.bool true)], args := [d1, d2, d3] }
  | _ => none }
def twistBackRow : OpenClaim := { program := "ytfmeiapglpphpaa", sum := "871fb05eebbbdb4f016316663bf2e2d33c29042c8e41d43ea5f5722ee08c63ad", func := "cuvette/cuvettelaw05.TwistBack", spec := "twistBack", apart := false }
def TwistBackSaid : Prop := twistBackRow.holds Try.pinned (OpenSpec.ofChange twistBackSpec)

/-- ITS FALSE NEIGHBOUR: 'it returns false'. Refute it at one input. -/
def twistBackWrong : ChangeSpec := { name := "twistBack", fn := fun _ => fun
  | [d1, d2, d3] => { results := [.lit (.bool false)], args := [d1, d2, d3] }
  | _ => none }
def TwistBackWrongFalsely : Prop := twistBackRow.holds Try.pinned (OpenSpec.ofChange twistBackWrong)

/-- 'cuvettelaw07.QuantWay': WHATEVER THE INPUT: true; the input reads as it did. -/
def quantWaySpec : ChangeSpec := { name := "quantWay", fn := fun _ => fun
  | [d1, d2, d3, d4] => { results := [.lit (.bool true)], args := [d1, d2, d3, d4] }
  | _ => none }
def quantWayRow : OpenClaim := { program := "ytfmeiapglpphpaa", sum := "871fb05eebbbdb4f016316663bf2e2d33c29042c8e41d43ea5f5722ee08c63ad", func := "cuvette/cuvettelaw07.QuantWay", spec := "quantWay", unfollowed := true, recurses := true, apart := false }
def QuantWaySaid : Prop := quantWayRow.holds Try.pinned (OpenSpec.ofChange quantWaySpec)

/-- ITS FALSE NEIGHBOUR: 'it returns false'. Refute it at one input. -/
def quantWayWrong : ChangeSpec := { name := "quantWay", fn := fun _ => fun
  | [d1, d2, d3, d4] => { results := [.lit (.bool false)], args := [d1, d2, d3, d4] }
  | _ => none }
def QuantWayWrongFalsely : Prop := quantWayRow.holds Try.pinned (OpenSpec.ofChange quantWayWrong)

/-- 'cuvettelaw07.QuantRises': WHATEVER THE INPUT: true; the input reads as it did. -/
def quantRisesSpec : ChangeSpec := { name := "quantRises", fn := fun _ => fun
  | [d1, d2, d3, d4] => { results := [.lit (.bool true)], args := [d1, d2, d3, d4] }
  | _ => none }
def quantRisesRow : OpenClaim := { program := "ytfmeiapglpphpaa", sum := "871fb05eebbbdb4f016316663bf2e2d33c29042c8e41d43ea5f5722ee08c63ad", func := "cuvette/cuvettelaw07.QuantRises", spec := "quantRises", unfollowed := true, recurses := true, apart := false }
def QuantRisesSaid : Prop := quantRisesRow.holds Try.pinned (OpenSpec.ofChange quantRisesSpec)

/-- ITS FALSE NEIGHBOUR: 'it returns false'. Refute it at one input. -/
def quantRisesWrong : ChangeSpec := { name := "quantRises", fn := fun _ => fun
  | [d1, d2, d3, d4] => { results := [.lit (.bool false)], args := [d1, d2, d3, d4] }
  | _ => none }
def QuantRisesWrongFalsely : Prop := quantRisesRow.holds Try.pinned (OpenSpec.ofChange quantRisesWrong)

/-- 'cuvettelaw07.QuantCells': WHATEVER THE INPUT: true; the input reads as it did. -/
def quantCellsSpec : ChangeSpec := { name := "quantCells", fn := fun _ => fun
  | [d1, d2] => { results := [.lit (.bool true)], args := [d1, d2] }
  | _ => none }
def quantCellsRow : OpenClaim := { program := "ytfmeiapglpphpaa", sum := "871fb05eebbbdb4f016316663bf2e2d33c29042c8e41d43ea5f5722ee08c63ad", func := "cuvette/cuvettelaw07.QuantCells", spec := "quantCells", unfollowed := true, recurses := true, apart := false }
def QuantCellsSaid : Prop := quantCellsRow.holds Try.pinned (OpenSpec.ofChange quantCellsSpec)

/-- ITS FALSE NEIGHBOUR: 'it returns false'. Refute it at one input. -/
def quantCellsWrong : ChangeSpec := { name := "quantCells", fn := fun _ => fun
  | [d1, d2] => { results := [.lit (.bool false)], args := [d1, d2] }
  | _ => none }
def QuantCellsWrongFalsely : Prop := quantCellsRow.holds Try.pinned (OpenSpec.ofChange quantCellsWrong)

/-- 'cuvettelaw07.QuantSame': WHATEVER THE INPUT: true; the input reads as it did. -/
def quantSameSpec : ChangeSpec := { name := "quantSame", fn := fun _ => fun
  | [d1, d2] => { results := [.lit (.bool true)], args := [d1, d2] }
  | _ => none }
def quantSameRow : OpenClaim := { program := "ytfmeiapglpphpaa", sum := "871fb05eebbbdb4f016316663bf2e2d33c29042c8e41d43ea5f5722ee08c63ad", func := "cuvette/cuvettelaw07.QuantSame", spec := "quantSame", unfollowed := true, recurses := true, apart := false }
def QuantSameSaid : Prop := quantSameRow.holds Try.pinned (OpenSpec.ofChange quantSameSpec)

/-- ITS FALSE NEIGHBOUR: 'it returns false'. Refute it at one input. -/
def quantSameWrong : ChangeSpec := { name := "quantSame", fn := fun _ => fun
  | [d1, d2] => { results := [.lit (.bool false)], args := [d1, d2] }
  | _ => none }
def QuantSameWrongFalsely : Prop := quantSameRow.holds Try.pinned (OpenSpec.ofChange quantSameWrong)

/-- 'cuvettelaw07.QuantIn': WHATEVER THE INPUT: true; the input reads as it did. -/
def quantInSpec : ChangeSpec := { name := "quantIn", fn := fun _ => fun
  | [d1, d2, d3] => { results := [.lit (.bool true)], args := [d1, d2, d3] }
  | _ => none }
def quantInRow : OpenClaim := { program := "ytfmeiapglpphpaa", sum := "871fb05eebbbdb4f016316663bf2e2d33c29042c8e41d43ea5f5722ee08c63ad", func := "cuvette/cuvettelaw07.QuantIn", spec := "quantIn", unfollowed := true, recurses := true, apart := false }
def QuantInSaid : Prop := quantInRow.holds Try.pinned (OpenSpec.ofChange quantInSpec)

/-- ITS FALSE NEIGHBOUR: 'it returns false'. Refute it at one input. -/
def quantInWrong : ChangeSpec := { name := "quantIn", fn := fun _ => fun
  | [d1, d2, d3] => { results := [.lit (.bool false)], args := [d1, d2, d3] }
  | _ => none }
def QuantInWrongFalsely : Prop := quantInRow.holds Try.pinned (OpenSpec.ofChange quantInWrong)

/-- 'cuvettelaw07.QuantDoes': WHATEVER THE INPUT: true; the input reads as it did. -/
def quantDoesSpec : ChangeSpec := { name := "quantDoes", fn := fun _ => fun
  | [d1, d2, d3] => { results := [.lit (.bool true)], args := [d1, d2, d3] }
  | _ => none }
def quantDoesRow : OpenClaim := { program := "ytfmeiapglpphpaa", sum := "871fb05eebbbdb4f016316663bf2e2d33c29042c8e41d43ea5f5722ee08c63ad", func := "cuvette/cuvettelaw07.QuantDoes", spec := "quantDoes", unfollowed := true, recurses := true, apart := false }
def QuantDoesSaid : Prop := quantDoesRow.holds Try.pinned (OpenSpec.ofChange quantDoesSpec)

/-- ITS FALSE NEIGHBOUR: 'it returns false'. Refute it at one input. -/
def quantDoesWrong : ChangeSpec := { name := "quantDoes", fn := fun _ => fun
  | [d1, d2, d3] => { results := [.lit (.bool false)], args := [d1, d2, d3] }
  | _ => none }
def QuantDoesWrongFalsely : Prop := quantDoesRow.holds Try.pinned (OpenSpec.ofChange quantDoesWrong)

/-- 'cuvettelaw09.GaugeFiner': WHATEVER THE INPUT: true; the input reads as it did. -/
def gaugeFinerSpec : ChangeSpec := { name := "gaugeFiner", fn := fun _ => fun
  | [d1, d2, d3, d4] => { results := [.lit (.bool true)], args := [d1, d2, d3, d4] }
  | _ => none }
def gaugeFinerRow : OpenClaim := { program := "ytfmeiapglpphpaa", sum := "871fb05eebbbdb4f016316663bf2e2d33c29042c8e41d43ea5f5722ee08c63ad", func := "cuvette/cuvettelaw09.GaugeFiner", spec := "gaugeFiner", unfollowed := true, recurses := true, apart := false }
def GaugeFinerSaid : Prop := gaugeFinerRow.holds Try.pinned (OpenSpec.ofChange gaugeFinerSpec)

/-- ITS FALSE NEIGHBOUR: 'it returns false'. Refute it at one input. -/
def gaugeFinerWrong : ChangeSpec := { name := "gaugeFiner", fn := fun _ => fun
  | [d1, d2, d3, d4] => { results := [.lit (.bool false)], args := [d1, d2, d3, d4] }
  | _ => none }
def GaugeFinerWrongFalsely : Prop := gaugeFinerRow.holds Try.pinned (OpenSpec.ofChange gaugeFinerWrong)

/-- 'cuvettelaw09.GaugeBelow': WHATEVER THE INPUT: true; the input reads as it did. -/
def gaugeBelowSpec : ChangeSpec := { name := "gaugeBelow", fn := fun _ => fun
  | [d1, d2, d3] => { results := [.lit (.bool true)], args := [d1, d2, d3] }
  | _ => none }
def gaugeBelowRow : OpenClaim := { program := "ytfmeiapglpphpaa", sum := "871fb05eebbbdb4f016316663bf2e2d33c29042c8e41d43ea5f5722ee08c63ad", func := "cuvette/cuvettelaw09.GaugeBelow", spec := "gaugeBelow", unfollowed := true, recurses := true, apart := false }
def GaugeBelowSaid : Prop := gaugeBelowRow.holds Try.pinned (OpenSpec.ofChange gaugeBelowSpec)

/-- ITS FALSE NEIGHBOUR: 'it returns false'. Refute it at one input. -/
def gaugeBelowWrong : ChangeSpec := { name := "gaugeBelow", fn := fun _ => fun
  | [d1, d2, d3] => { results := [.lit (.bool false)], args := [d1, d2, d3] }
  | _ => none }
def GaugeBelowWrongFalsely : Prop := gaugeBelowRow.holds Try.pinned (OpenSpec.ofChange gaugeBelowWrong)

/-- 'cuvettelaw09.GaugeSums': WHATEVER THE INPUT: true; the input reads as it did. -/
def gaugeSumsSpec : ChangeSpec := { name := "gaugeSums", fn := fun _ => fun
  | [d1, d2] => { results := [.lit (.bool true)], args := [d1, d2] }
  | _ => none }
def gaugeSumsRow : OpenClaim := { program := "ytfmeiapglpphpaa", sum := "871fb05eebbbdb4f016316663bf2e2d33c29042c8e41d43ea5f5722ee08c63ad", func := "cuvette/cuvettelaw09.GaugeSums", spec := "gaugeSums", unfollowed := true, recurses := true, apart := false }
def GaugeSumsSaid : Prop := gaugeSumsRow.holds Try.pinned (OpenSpec.ofChange gaugeSumsSpec)

/-- ITS FALSE NEIGHBOUR: 'it returns false'. Refute it at one input. -/
def gaugeSumsWrong : ChangeSpec := { name := "gaugeSums", fn := fun _ => fun
  | [d1, d2] => { results := [.lit (.bool false)], args := [d1, d2] }
  | _ => none }
def GaugeSumsWrongFalsely : Prop := gaugeSumsRow.holds Try.pinned (OpenSpec.ofChange gaugeSumsWrong)

/-- 'cuvettelaw09.GaugeDoes': WHATEVER THE INPUT: true; the input reads as it did. -/
def gaugeDoesSpec : ChangeSpec := { name := "gaugeDoes", fn := fun _ => fun
  | [d1, d2, d3] => { results := [.lit (.bool true)], args := [d1, d2, d3] }
  | _ => none }
def gaugeDoesRow : OpenClaim := { program := "ytfmeiapglpphpaa", sum := "871fb05eebbbdb4f016316663bf2e2d33c29042c8e41d43ea5f5722ee08c63ad", func := "cuvette/cuvettelaw09.GaugeDoes", spec := "gaugeDoes", unfollowed := true, recurses := true, apart := false }
def GaugeDoesSaid : Prop := gaugeDoesRow.holds Try.pinned (OpenSpec.ofChange gaugeDoesSpec)

/-- ITS FALSE NEIGHBOUR: 'it returns false'. Refute it at one input. -/
def gaugeDoesWrong : ChangeSpec := { name := "gaugeDoes", fn := fun _ => fun
  | [d1, d2, d3] => { results := [.lit (.bool false)], args := [d1, d2, d3] }
  | _ => none }
def GaugeDoesWrongFalsely : Prop := gaugeDoesRow.holds Try.pinned (OpenSpec.ofChange gaugeDoesWrong)

/-- 'cuvettelaw09.GaugeNear': WHATEVER THE INPUT: true; the input reads as it did. -/
def gaugeNearSpec : ChangeSpec := { name := "gaugeNear", fn := fun _ => fun
  | [d1, d2, d3] => { results := [.lit (.bool true)], args := [d1, d2, d3] }
  | _ => none }
def gaugeNearRow : OpenClaim := { program := "ytfmeiapglpphpaa", sum := "871fb05eebbbdb4f016316663bf2e2d33c29042c8e41d43ea5f5722ee08c63ad", func := "cuvette/cuvettelaw09.GaugeNear", spec := "gaugeNear", unfollowed := true, recurses := true, apart := false }
def GaugeNearSaid : Prop := gaugeNearRow.holds Try.pinned (OpenSpec.ofChange gaugeNearSpec)

/-- ITS FALSE NEIGHBOUR: 'it returns false'. Refute it at one input. -/
def gaugeNearWrong : ChangeSpec := { name := "gaugeNear", fn := fun _ => fun
  | [d1, d2, d3] => { results := [.lit (.bool false)], args := [d1, d2, d3] }
  | _ => none }
def GaugeNearWrongFalsely : Prop := gaugeNearRow.holds Try.pinned (OpenSpec.ofChange gaugeNearWrong)

/-- 'cuvettelaw11.CodesParts': WHATEVER THE INPUT: true; the input reads as it did. -/
def codesPartsSpec : ChangeSpec := { name := "codesParts", fn := fun _ => fun
  | [d1, d2, d3, d4, d5, d6] => { results := [.lit (.bool true)], args := [d1, d2, d3, d4, d5, d6] }
  | _ => none }
def codesPartsRow : OpenClaim := { program := "ytfmeiapglpphpaa", sum := "871fb05eebbbdb4f016316663bf2e2d33c29042c8e41d43ea5f5722ee08c63ad", func := "cuvette/cuvettelaw11.CodesParts", spec := "codesParts", unfollowed := true, recurses := true, apart := false }
def CodesPartsSaid : Prop := codesPartsRow.holds Try.pinned (OpenSpec.ofChange codesPartsSpec)

/-- ITS FALSE NEIGHBOUR: 'it returns false'. Refute it at one input. -/
def codesPartsWrong : ChangeSpec := { name := "codesParts", fn := fun _ => fun
  | [d1, d2, d3, d4, d5, d6] => { results := [.lit (.bool false)], args := [d1, d2, d3, d4, d5, d6] }
  | _ => none }
def CodesPartsWrongFalsely : Prop := codesPartsRow.holds Try.pinned (OpenSpec.ofChange codesPartsWrong)

/-- 'cuvettelaw11.CodesPut': WHATEVER THE INPUT: true; the input reads as it did. -/
def codesPutSpec : ChangeSpec := { name := "codesPut", fn := fun _ => fun
  | [d1, d2, d3, d4, d5, d6] => { results := [.lit (.bool true)], args := [d1, d2, d3, d4, d5, d6] }
  | _ => none }
def codesPutRow : OpenClaim := { program := "ytfmeiapglpphpaa", sum := "871fb05eebbbdb4f016316663bf2e2d33c29042c8e41d43ea5f5722ee08c63ad", func := "cuvette/cuvettelaw11.CodesPut", spec := "codesPut", unfollowed := true, recurses := true, apart := false }
def CodesPutSaid : Prop := codesPutRow.holds Try.pinned (OpenSpec.ofChange codesPutSpec)

/-- ITS FALSE NEIGHBOUR: 'it returns false'. Refute it at one input. -/
def codesPutWrong : ChangeSpec := { name := "codesPut", fn := fun _ => fun
  | [d1, d2, d3, d4, d5, d6] => { results := [.lit (.bool false)], args := [d1, d2, d3, d4, d5, d6] }
  | _ => none }
def CodesPutWrongFalsely : Prop := codesPutRow.holds Try.pinned (OpenSpec.ofChange codesPutWrong)

/- THE SECOND FORM. 'bulk': how many values and letters a reading holds, each counted each time it is reached (what is shared counts as often as it is met; a slice's spare places count too). A statement '..UptoSaid' is the law's where the arguments, and the package variables that the reading takes, are together of bulk at most 1048576: NARROWER than '..Said'. Prove '..Said' where nothing that the law and all that it calls make is longer than what came in: it says more and counts as full. Else prove '..UptoSaid'. A law counts once. -/
mutual
def uptoBulk {H : Type} : DataW H → Nat
  | .lit (.string bytes) => bytes.length + 1
  | .lit _ => 1
  | .nil => 1
  | .ptr d => uptoBulk d + 1
  | .slice elems spare => uptoBulkAll elems + uptoBulkAll spare + 1
  | .agg parts => uptoBulkAll parts + 1
  | .iface _ d => uptoBulk d + 1
  | .map entries => uptoBulkEntries entries + 1
  | .held _ => 1
def uptoBulkAll {H : Type} : List (DataW H) → Nat
  | [] => 0
  | d :: r => uptoBulk d + uptoBulkAll r
def uptoBulkEntries {H : Type} : List (Lit × DataW H) → Nat
  | [] => 0
  | x :: r => uptoBulkEntry x + uptoBulkEntries r
def uptoBulkEntry {H : Type} : Lit × DataW H → Nat
  | (.string bytes, d) => bytes.length + uptoBulk d + 1
  | (_, d) => uptoBulk d + 1
 end
def uptoSmall : (H : Type) → List (DataW H) → Bool := fun _ ds => decide (uptoBulkAll ds ≤ 1048576)
def OpenSpec.upto (s : _root_.Go.ChangeSpec) : _root_.Go.OpenSpec := { _root_.Go.OpenSpec.ofChange s with cond := some uptoSmall }

/-- 'cuvettelaw03.PackNumbers', WHERE WHAT IT READS IS OF BULK AT MOST 1048576: true; the input reads as it did. -/
def packNumbersUptoRow : OpenClaim := { program := "ytfmeiapglpphpaa", sum := "871fb05eebbbdb4f016316663bf2e2d33c29042c8e41d43ea5f5722ee08c63ad", func := "cuvette/cuvettelaw03.PackNumbers", spec := "packNumbers", apart := false, narrowed := true }
def PackNumbersUptoSaid : Prop := packNumbersUptoRow.holds Try.pinned (OpenSpec.upto packNumbersSpec)

/-- 'cuvettelaw03.PackBack', WHERE WHAT IT READS IS OF BULK AT MOST 1048576: true; the input reads as it did. -/
def packBackUptoRow : OpenClaim := { program := "ytfmeiapglpphpaa", sum := "871fb05eebbbdb4f016316663bf2e2d33c29042c8e41d43ea5f5722ee08c63ad", func := "cuvette/cuvettelaw03.PackBack", spec := "packBack", apart := false, narrowed := true }
def PackBackUptoSaid : Prop := packBackUptoRow.holds Try.pinned (OpenSpec.upto packBackSpec)

/-- 'cuvettelaw03.PackWidths', WHERE WHAT IT READS IS OF BULK AT MOST 1048576: true; the input reads as it did. -/
def packWidthsUptoRow : OpenClaim := { program := "ytfmeiapglpphpaa", sum := "871fb05eebbbdb4f016316663bf2e2d33c29042c8e41d43ea5f5722ee08c63ad", func := "cuvette/cuvettelaw03.PackWidths", spec := "packWidths", apart := false, narrowed := true }
def PackWidthsUptoSaid : Prop := packWidthsUptoRow.holds Try.pinned (OpenSpec.upto packWidthsSpec)

/-- 'cuvettelaw03.PackParts', WHERE WHAT IT READS IS OF BULK AT MOST 1048576: true; the input reads as it did. -/
def packPartsUptoRow : OpenClaim := { program := "ytfmeiapglpphpaa", sum := "871fb05eebbbdb4f016316663bf2e2d33c29042c8e41d43ea5f5722ee08c63ad", func := "cuvette/cuvettelaw03.PackParts", spec := "packParts", apart := false, narrowed := true }
def PackPartsUptoSaid : Prop := packPartsUptoRow.holds Try.pinned (OpenSpec.upto packPartsSpec)

/-- 'cuvettelaw03.PackSum', WHERE WHAT IT READS IS OF BULK AT MOST 1048576: true; the input reads as it did. -/
def packSumUptoRow : OpenClaim := { program := "ytfmeiapglpphpaa", sum := "871fb05eebbbdb4f016316663bf2e2d33c29042c8e41d43ea5f5722ee08c63ad", func := "cuvette/cuvettelaw03.PackSum", spec := "packSum", apart := false, narrowed := true }
def PackSumUptoSaid : Prop := packSumUptoRow.holds Try.pinned (OpenSpec.upto packSumSpec)

/-- 'cuvettelaw03.PackCut', WHERE WHAT IT READS IS OF BULK AT MOST 1048576: true; the input reads as it did. -/
def packCutUptoRow : OpenClaim := { program := "ytfmeiapglpphpaa", sum := "871fb05eebbbdb4f016316663bf2e2d33c29042c8e41d43ea5f5722ee08c63ad", func := "cuvette/cuvettelaw03.PackCut", spec := "packCut", unfollowed := true, recurses := true, apart := false, narrowed := true }
def PackCutUptoSaid : Prop := packCutUptoRow.holds Try.pinned (OpenSpec.upto packCutSpec)

/-- 'cuvettelaw03.PackTexts', WHERE WHAT IT READS IS OF BULK AT MOST 1048576: true; the input reads as it did. -/
def packTextsUptoRow : OpenClaim := { program := "ytfmeiapglpphpaa", sum := "871fb05eebbbdb4f016316663bf2e2d33c29042c8e41d43ea5f5722ee08c63ad", func := "cuvette/cuvettelaw03.PackTexts", spec := "packTexts", unfollowed := true, recurses := true, apart := false, narrowed := true }
def PackTextsUptoSaid : Prop := packTextsUptoRow.holds Try.pinned (OpenSpec.upto packTextsSpec)

/-- 'cuvettelaw04.VecMiddle', WHERE WHAT IT READS IS OF BULK AT MOST 1048576: true; the input reads as it did. -/
def vecMiddleUptoRow : OpenClaim := { program := "ytfmeiapglpphpaa", sum := "871fb05eebbbdb4f016316663bf2e2d33c29042c8e41d43ea5f5722ee08c63ad", func := "cuvette/cuvettelaw04.VecMiddle", spec := "vecMiddle", unfollowed := true, recurses := true, apart := false, narrowed := true }
def VecMiddleUptoSaid : Prop := vecMiddleUptoRow.holds Try.pinned (OpenSpec.upto vecMiddleSpec)

/-- 'cuvettelaw04.VecShift', WHERE WHAT IT READS IS OF BULK AT MOST 1048576: true; the input reads as it did. -/
def vecShiftUptoRow : OpenClaim := { program := "ytfmeiapglpphpaa", sum := "871fb05eebbbdb4f016316663bf2e2d33c29042c8e41d43ea5f5722ee08c63ad", func := "cuvette/cuvettelaw04.VecShift", spec := "vecShift", unfollowed := true, recurses := true, apart := false, narrowed := true }
def VecShiftUptoSaid : Prop := vecShiftUptoRow.holds Try.pinned (OpenSpec.upto vecShiftSpec)

/-- 'cuvettelaw04.VecParts', WHERE WHAT IT READS IS OF BULK AT MOST 1048576: true; the input reads as it did. -/
def vecPartsUptoRow : OpenClaim := { program := "ytfmeiapglpphpaa", sum := "871fb05eebbbdb4f016316663bf2e2d33c29042c8e41d43ea5f5722ee08c63ad", func := "cuvette/cuvettelaw04.VecParts", spec := "vecParts", unfollowed := true, recurses := true, apart := false, narrowed := true }
def VecPartsUptoSaid : Prop := vecPartsUptoRow.holds Try.pinned (OpenSpec.upto vecPartsSpec)

/-- 'cuvettelaw04.VecDoes', WHERE WHAT IT READS IS OF BULK AT MOST 1048576: true; the input reads as it did. -/
def vecDoesUptoRow : OpenClaim := { program := "ytfmeiapglpphpaa", sum := "871fb05eebbbdb4f016316663bf2e2d33c29042c8e41d43ea5f5722ee08c63ad", func := "cuvette/cuvettelaw04.VecDoes", spec := "vecDoes", unfollowed := true, recurses := true, apart := false, narrowed := true }
def VecDoesUptoSaid : Prop := vecDoesUptoRow.holds Try.pinned (OpenSpec.upto vecDoesSpec)

/-- 'cuvettelaw04.VecFar', WHERE WHAT IT READS IS OF BULK AT MOST 1048576: true; the input reads as it did. -/
def vecFarUptoRow : OpenClaim := { program := "ytfmeiapglpphpaa", sum := "871fb05eebbbdb4f016316663bf2e2d33c29042c8e41d43ea5f5722ee08c63ad", func := "cuvette/cuvettelaw04.VecFar", spec := "vecFar", unfollowed := true, recurses := true, apart := false, narrowed := true }
def VecFarUptoSaid : Prop := vecFarUptoRow.holds Try.pinned (OpenSpec.upto vecFarSpec)

/-- 'cuvettelaw04.VecTexts', WHERE WHAT IT READS IS OF BULK AT MOST 1048576: true; the input reads as it did. -/
def vecTextsUptoRow : OpenClaim := { program := "ytfmeiapglpphpaa", sum := "871fb05eebbbdb4f016316663bf2e2d33c29042c8e41d43ea5f5722ee08c63ad", func := "cuvette/cuvettelaw04.VecTexts", spec := "vecTexts", unfollowed := true, recurses := true, apart := false, narrowed := true }
def VecTextsUptoSaid : Prop := vecTextsUptoRow.holds Try.pinned (OpenSpec.upto vecTextsSpec)

/-- 'cuvettelaw04.VecBack', WHERE WHAT IT READS IS OF BULK AT MOST 1048576: true; the input reads as it did. -/
def vecBackUptoRow : OpenClaim := { program := "ytfmeiapglpphpaa", sum := "871fb05eebbbdb4f016316663bf2e2d33c29042c8e41d43ea5f5722ee08c63ad", func := "cuvette/cuvettelaw04.VecBack", spec := "vecBack", unfollowed := true, recurses := true, apart := false, narrowed := true }
def VecBackUptoSaid : Prop := vecBackUptoRow.holds Try.pinned (OpenSpec.upto vecBackSpec)

/-- 'cuvettelaw05.TwistParts', WHERE WHAT IT READS IS OF BULK AT MOST 1048576: true; the input reads as it did. -/
def twistPartsUptoRow : OpenClaim := { program := "ytfmeiapglpphpaa", sum := "871fb05eebbbdb4f016316663bf2e2d33c29042c8e41d43ea5f5722ee08c63ad", func := "cuvette/cuvettelaw05.TwistParts", spec := "twistParts", apart := false, narrowed := true }
def TwistPartsUptoSaid : Prop := twistPartsUptoRow.holds Try.pinned (OpenSpec.upto twistPartsSpec)

/-- 'cuvettelaw05.TwistPlain', WHERE WHAT IT READS IS OF BULK AT MOST 1048576: true; the input reads as it did. -/
def twistPlainUptoRow : OpenClaim := { program := "ytfmeiapglpphpaa", sum := "871fb05eebbbdb4f016316663bf2e2d33c29042c8e41d43ea5f5722ee08c63ad", func := "cuvette/cuvettelaw05.TwistPlain", spec := "twistPlain", apart := false, narrowed := true }
def TwistPlainUptoSaid : Prop := twistPlainUptoRow.holds Try.pinned (OpenSpec.upto twistPlainSpec)

/-- 'cuvettelaw05.TwistGroup', WHERE WHAT IT READS IS OF BULK AT MOST 1048576: true; the input reads as it did. -/
def twistGroupUptoRow : OpenClaim := { program := "ytfmeiapglpphpaa", sum := "871fb05eebbbdb4f016316663bf2e2d33c29042c8e41d43ea5f5722ee08c63ad", func := "cuvette/cuvettelaw05.TwistGroup", spec := "twistGroup", apart := false, narrowed := true }
def TwistGroupUptoSaid : Prop := twistGroupUptoRow.holds Try.pinned (OpenSpec.upto twistGroupSpec)

/-- 'cuvettelaw05.TwistFar', WHERE WHAT IT READS IS OF BULK AT MOST 1048576: true; the input reads as it did. -/
def twistFarUptoRow : OpenClaim := { program := "ytfmeiapglpphpaa", sum := "871fb05eebbbdb4f016316663bf2e2d33c29042c8e41d43ea5f5722ee08c63ad", func := "cuvette/cuvettelaw05.TwistFar", spec := "twistFar", unfollowed := true, recurses := true, apart := false, narrowed := true }
def TwistFarUptoSaid : Prop := twistFarUptoRow.holds Try.pinned (OpenSpec.upto twistFarSpec)

/-- 'cuvettelaw05.TwistDoes', WHERE WHAT IT READS IS OF BULK AT MOST 1048576: true; the input reads as it did. -/
def twistDoesUptoRow : OpenClaim := { program := "ytfmeiapglpphpaa", sum := "871fb05eebbbdb4f016316663bf2e2d33c29042c8e41d43ea5f5722ee08c63ad", func := "cuvette/cuvettelaw05.TwistDoes", spec := "twistDoes", apart := false, narrowed := true }
def TwistDoesUptoSaid : Prop := twistDoesUptoRow.holds Try.pinned (OpenSpec.upto twistDoesSpec)

/-- 'cuvettelaw05.TwistBack', WHERE WHAT IT READS IS OF BULK AT MOST 1048576: true; the input reads as it did. -/
def twistBackUptoRow : OpenClaim := { program := "ytfmeiapglpphpaa", sum := "871fb05eebbbdb4f016316663bf2e2d33c29042c8e41d43ea5f5722ee08c63ad", func := "cuvette/cuvettelaw05.TwistBack", spec := "twistBack", apart := false, narrowed := true }
def TwistBackUptoSaid : Prop := twistBackUptoRow.holds Try.pinned (OpenSpec.upto twistBackSpec)

/-- 'cuvettelaw07.QuantWay', WHERE WHAT IT READS IS OF BULK AT MOST 1048576: true; the input reads as it did. -/
def quantWayUptoRow : OpenClaim := { program := "ytfmeiapglpphpaa", sum := "871fb05eebbbdb4f016316663bf2e2d33c29042c8e41d43ea5f5722ee08c63ad", func := "cuvette/cuvettelaw07.QuantWay", spec := "quantWay", unfollowed := true, recurses := true, apart := false, narrowed := true }
def QuantWayUptoSaid : Prop := quantWayUptoRow.holds Try.pinned (OpenSpec.upto quantWaySpec)

/-- 'cuvettelaw07.QuantRises', WHERE WHAT IT READS IS OF BULK AT MOST 1048576: true; the input reads as it did. -/
def quantRisesUptoRow : OpenClaim := { program := "ytfmeiapglpphpaa", sum := "871fb05eebbbdb4f016316663bf2e2d33c29042c8e41d43ea5f5722ee08c63ad", func := "cuvette/cuvettelaw07.QuantRises", spec := "quantRises", unfollowed := true, recurses := true, apart := false, narrowed := true }
def QuantRisesUptoSaid : Prop := quantRisesUptoRow.holds Try.pinned (OpenSpec.upto quantRisesSpec)

/-- 'cuvettelaw07.QuantCells', WHERE WHAT IT READS IS OF BULK AT MOST 1048576: true; the input reads as it did. -/
def quantCellsUptoRow : OpenClaim := { program := "ytfmeiapglpphpaa", sum := "871fb05eebbbdb4f016316663bf2e2d33c29042c8e41d43ea5f5722ee08c63ad", func := "cuvette/cuvettelaw07.QuantCells", spec := "quantCells", unfollowed := true, recurses := true, apart := false, narrowed := true }
def QuantCellsUptoSaid : Prop := quantCellsUptoRow.holds Try.pinned (OpenSpec.upto quantCellsSpec)

/-- 'cuvettelaw07.QuantSame', WHERE WHAT IT READS IS OF BULK AT MOST 1048576: true; the input reads as it did. -/
def quantSameUptoRow : OpenClaim := { program := "ytfmeiapglpphpaa", sum := "871fb05eebbbdb4f016316663bf2e2d33c29042c8e41d43ea5f5722ee08c63ad", func := "cuvette/cuvettelaw07.QuantSame", spec := "quantSame", unfollowed := true, recurses := true, apart := false, narrowed := true }
def QuantSameUptoSaid : Prop := quantSameUptoRow.holds Try.pinned (OpenSpec.upto quantSameSpec)

/-- 'cuvettelaw07.QuantIn', WHERE WHAT IT READS IS OF BULK AT MOST 1048576: true; the input reads as it did. -/
def quantInUptoRow : OpenClaim := { program := "ytfmeiapglpphpaa", sum := "871fb05eebbbdb4f016316663bf2e2d33c29042c8e41d43ea5f5722ee08c63ad", func := "cuvette/cuvettelaw07.QuantIn", spec := "quantIn", unfollowed := true, recurses := true, apart := false, narrowed := true }
def QuantInUptoSaid : Prop := quantInUptoRow.holds Try.pinned (OpenSpec.upto quantInSpec)

/-- 'cuvettelaw07.QuantDoes', WHERE WHAT IT READS IS OF BULK AT MOST 1048576: true; the input reads as it did. -/
def quantDoesUptoRow : OpenClaim := { program := "ytfmeiapglpphpaa", sum := "871fb05eebbbdb4f016316663bf2e2d33c29042c8e41d43ea5f5722ee08c63ad", func := "cuvette/cuvettelaw07.QuantDoes", spec := "quantDoes", unfollowed := true, recurses := true, apart := false, narrowed := true }
def QuantDoesUptoSaid : Prop := quantDoesUptoRow.holds Try.pinned (OpenSpec.upto quantDoesSpec)

/-- 'cuvettelaw09.GaugeFiner', WHERE WHAT IT READS IS OF BULK AT MOST 1048576: true; the input reads as it did. -/
def gaugeFinerUptoRow : OpenClaim := { program := "ytfmeiapglpphpaa", sum := "871fb05eebbbdb4f016316663bf2e2d33c29042c8e41d43ea5f5722ee08c63ad", func := "cuvette/cuvettelaw09.GaugeFiner", spec := "gaugeFiner", unfollowed := true, recurses := true, apart := false, narrowed := true }
def GaugeFinerUptoSaid : Prop := gaugeFinerUptoRow.holds Try.pinned (OpenSpec.upto gaugeFinerSpec)

/-- 'cuvettelaw09.GaugeBelow', WHERE WHAT IT READS IS OF BULK AT MOST 1048576: true; the input reads as it did. -/
def gaugeBelowUptoRow : OpenClaim := { program := "ytfmeiapglpphpaa", sum := "871fb05eebbbdb4f016316663bf2e2d33c29042c8e41d43ea5f5722ee08c63ad", func := "cuvette/cuvettelaw09.GaugeBelow", spec := "gaugeBelow", unfollowed := true, recurses := true, apart := false, narrowed := true }
def GaugeBelowUptoSaid : Prop := gaugeBelowUptoRow.holds Try.pinned (OpenSpec.upto gaugeBelowSpec)

/-- 'cuvettelaw09.GaugeSums', WHERE WHAT IT READS IS OF BULK AT MOST 1048576: true; the input reads as it did. -/
def gaugeSumsUptoRow : OpenClaim := { program := "ytfmeiapglpphpaa", sum := "871fb05eebbbdb4f016316663bf2e2d33c29042c8e41d43ea5f5722ee08c63ad", func := "cuvette/cuvettelaw09.GaugeSums", spec := "gaugeSums", unfollowed := true, recurses := true, apart := false, narrowed := true }
def GaugeSumsUptoSaid : Prop := gaugeSumsUptoRow.holds Try.pinned (OpenSpec.upto gaugeSumsSpec)

/-- 'cuvettelaw09.GaugeDoes', WHERE WHAT IT READS IS OF BULK AT MOST 1048576: true; the input reads as it did. -/
def gaugeDoesUptoRow : OpenClaim := { program := "ytfmeiapglpphpaa", sum := "871fb05eebbbdb4f016316663bf2e2d33c29042c8e41d43ea5f5722ee08c63ad", func := "cuvette/cuvettelaw09.GaugeDoes", spec := "gaugeDoes", unfollowed := true, recurses := true, apart := false, narrowed := true }
def GaugeDoesUptoSaid : Prop := gaugeDoesUptoRow.holds Try.pinned (OpenSpec.upto gaugeDoesSpec)

/-- 'cuvettelaw09.GaugeNear', WHERE WHAT IT READS IS OF BULK AT MOST 1048576: true; the input reads as it did. -/
def gaugeNearUptoRow : OpenClaim := { program := "ytfmeiapglpphpaa", sum := "871fb05eebbbdb4f016316663bf2e2d33c29042c8e41d43ea5f5722ee08c63ad", func := "cuvette/cuvettelaw09.GaugeNear", spec := "gaugeNear", unfollowed := true, recurses := true, apart := false, narrowed := true }
def GaugeNearUptoSaid : Prop := gaugeNearUptoRow.holds Try.pinned (OpenSpec.upto gaugeNearSpec)

/-- 'cuvettelaw11.CodesParts', WHERE WHAT IT READS IS OF BULK AT MOST 1048576: true; the input reads as it did. -/
def codesPartsUptoRow : OpenClaim := { program := "ytfmeiapglpphpaa", sum := "871fb05eebbbdb4f016316663bf2e2d33c29042c8e41d43ea5f5722ee08c63ad", func := "cuvette/cuvettelaw11.CodesParts", spec := "codesParts", unfollowed := true, recurses := true, apart := false, narrowed := true }
def CodesPartsUptoSaid : Prop := codesPartsUptoRow.holds Try.pinned (OpenSpec.upto codesPartsSpec)

/-- 'cuvettelaw11.CodesPut', WHERE WHAT IT READS IS OF BULK AT MOST 1048576: true; the input reads as it did. -/
def codesPutUptoRow : OpenClaim := { program := "ytfmeiapglpphpaa", sum := "871fb05eebbbdb4f016316663bf2e2d33c29042c8e41d43ea5f5722ee08c63ad", func := "cuvette/cuvettelaw11.CodesPut", spec := "codesPut", unfollowed := true, recurses := true, apart := false, narrowed := true }
def CodesPutUptoSaid : Prop := codesPutUptoRow.holds Try.pinned (OpenSpec.upto codesPutSpec)

end Rows
end Go.Proofs.Ytfmeiapglpphpaa
