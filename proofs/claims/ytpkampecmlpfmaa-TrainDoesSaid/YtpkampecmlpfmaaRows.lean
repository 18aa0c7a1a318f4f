/-
  No cell of these rows narrows 'for every input' (looked for: loops, veiled, ifaces, maps, wideKeys, modest, calm, conditions, laid).
  DERIVED. THE GIVEN ROWS OF THIS SEAT. 21 by the template 'for every input the law returns true; each argument reads behind the call as it read before'; 0 by the template 'total and deterministic' (their statements: YtpkampecmlpfmaaTotals.lean).
  GIVEN WITH THE SEED: the statements are not yours to turn. If you find one false, say at which input.
  Laid BY PROGRAM, IN A SANDBOX (cutbox-rows.mjs): the forced cells as the released guide's own fill.sh prints them over the translation e0ee50a0a7c3bb96… (all of the seat's roots in one cut). By AI agents, Wed Nov 11 2026. No macro, syntax, notation, axiom, sorry.
-/
import Derived.Test.YtpkampecmlpfmaaChecked
import GoSem.Claim
import GoSem.ClaimJoined
import GoSem.ClaimMapViews
import Derived.JoinedTies
import Derived.KernelRfl
namespace Go.Proofs.Ytpkampecmlpfmaa
/- THE CELL 'sum', in the pinned program and in every row, IS THE sha256 OF THE DUMP (.gsa) THAT YtpkampecmlpfmaaProg.lean LOADS. Nothing in Lean hashes anything: it is a label: what it is worth is what the hold of that sum in a sandbox is worth. -/
noncomputable def Try.pinned : Pinned := { name := "ytpkampecmlpfmaa", sum := "e0ee50a0a7c3bb967210e761f997c38a36aa2eae2bca632da8ef9164b6d855ba", checked := Try.checked }
namespace Rows
def none {H : Type} : Left H := { results := [], args := [] }

/-- 'cuvettelaw06.RankOrder': WHATEVER THE INPUT: true; the input reads as it did. -/
def rankOrderSpec : ChangeSpec := { name := "rankOrder", fn := fun _ => fun
  | [d1, d2, d3] => { results := [.lit (.bool true)], args := [d1, d2, d3] }
  | _ => none }
def rankOrderRow : OpenClaim := { program := "ytpkampecmlpfmaa", sum := "e0ee50a0a7c3bb967210e761f997c38a36aa2eae2bca632da8ef9164b6d855ba", func := "cuvette/cuvettelaw06.RankOrder", spec := "rankOrder", unfollowed := true, recurses := true, apart := false }
def RankOrderSaid : Prop := rankOrderRow.holds Try.pinned (OpenSpec.ofChange rankOrderSpec)

/-- ITS FALSE NEIGHBOUR: 'it returns false'. Refute it at one input. -/
def rankOrderWrong : ChangeSpec := { name := "rankOrder", fn := fun _ => fun
  | [d1, d2, d3] => { results := [.lit (.bool false)], args := [d1, d2, d3] }
  | _ => none }
def RankOrderWrongFalsely : Prop := rankOrderRow.holds Try.pinned (OpenSpec.ofChange rankOrderWrong)

/-- 'cuvettelaw06.RankFewer': WHATEVER THE INPUT: true; the input reads as it did. -/
def rankFewerSpec : ChangeSpec := { name := "rankFewer", fn := fun _ => fun
  | [d1, d2] => { results := [.lit (.bool true)], args := [d1, d2] }
  | _ => none }
def rankFewerRow : OpenClaim := { program := "ytpkampecmlpfmaa", sum := "e0ee50a0a7c3bb967210e761f997c38a36aa2eae2bca632da8ef9164b6d855ba", func := "cuvette/cuvettelaw06.RankFewer", spec := "rankFewer", unfollowed := true, recurses := true, apart := false }
def RankFewerSaid : Prop := rankFewerRow.holds Try.pinned (OpenSpec.ofChange rankFewerSpec)

/-- ITS FALSE NEIGHBOUR: 'it returns false'. Refute it at one input. -/
def rankFewerWrong : ChangeSpec := { name := "rankFewer", fn := fun _ => fun
  | [d1, d2] => { results := [.lit (.bool false)], args := [d1, d2] }
  | _ => none }
def RankFewerWrongFalsely : Prop := rankFewerRow.holds Try.pinned (OpenSpec.ofChange rankFewerWrong)

/-- 'cuvettelaw06.RankIn': WHATEVER THE INPUT: true; the input reads as it did. -/
def rankInSpec : ChangeSpec := { name := "rankIn", fn := fun _ => fun
  | [d1, d2, d3] => { results := [.lit (.bool true)], args := [d1, d2, d3] }
  | _ => none }
def rankInRow : OpenClaim := { program := "ytpkampecmlpfmaa", sum := "e0ee50a0a7c3bb967210e761f997c38a36aa2eae2bca632da8ef9164b6d855ba", func := "cuvette/cuvettelaw06.RankIn", spec := "rankIn", unfollowed := true, recurses := true, apart := false }
def RankInSaid : Prop := rankInRow.holds Try.pinned (OpenSpec.ofChange rankInSpec)

/-- ITS FALSE NEIGHBOUR: 'it returns false'. Refute it at one input. -/
def rankInWrong : ChangeSpec := { name := "rankIn", fn := fun _ => fun
  | [d1, d2, d3] => { results := [.lit (.bool false)], args := [d1, d2, d3] }
  | _ => none }
def RankInWrongFalsely : Prop := rankInRow.holds Try.pinned (OpenSpec.ofChange rankInWrong)

/-- 'cuvettelaw06.RankEven': WHATEVER THE INPUT: true; the input reads as it did. -/
def rankEvenSpec : ChangeSpec := { name := "rankEven", fn := fun _ => fun
  | [d1, d2] => { results := [.lit (.bool true)], args := [d1, d2] }
  | _ => none }
def rankEvenRow : OpenClaim := { program := "ytpkampecmlpfmaa", sum := "e0ee50a0a7c3bb967210e761f997c38a36aa2eae2bca632da8ef9164b6d855ba", func := "cuvette/cuvettelaw06.RankEven", spec := "rankEven", unfollowed := true, recurses := true, apart := false }
def RankEvenSaid : Prop := rankEvenRow.holds Try.pinned (OpenSpec.ofChange rankEvenSpec)

/-- ITS FALSE NEIGHBOUR: 'it returns false'. Refute it at one input. -/
def rankEvenWrong : ChangeSpec := { name := "rankEven", fn := fun _ => fun
  | [d1, d2] => { results := [.lit (.bool false)], args := [d1, d2] }
  | _ => none }
def RankEvenWrongFalsely : Prop := rankEvenRow.holds Try.pinned (OpenSpec.ofChange rankEvenWrong)

/-- 'cuvettelaw06.RankCounts': WHATEVER THE INPUT: true; the input reads as it did. -/
def rankCountsSpec : ChangeSpec := { name := "rankCounts", fn := fun _ => fun
  | [d1, d2, d3] => { results := [.lit (.bool true)], args := [d1, d2, d3] }
  | _ => none }
def rankCountsRow : OpenClaim := { program := "ytpkampecmlpfmaa", sum := "e0ee50a0a7c3bb967210e761f997c38a36aa2eae2bca632da8ef9164b6d855ba", func := "cuvette/cuvettelaw06.RankCounts", spec := "rankCounts", unfollowed := true, recurses := true, apart := false }
def RankCountsSaid : Prop := rankCountsRow.holds Try.pinned (OpenSpec.ofChange rankCountsSpec)

/-- ITS FALSE NEIGHBOUR: 'it returns false'. Refute it at one input. -/
def rankCountsWrong : ChangeSpec := { name := "rankCounts", fn := fun _ => fun
  | [d1, d2, d3] => { results := [.lit (.bool false)], args := [d1, d2, d3] }
  | _ => none }
def RankCountsWrongFalsely : Prop := rankCountsRow.holds Try.pinned (OpenSpec.ofChange rankCountsWrong)

/-- 'cuvettelaw10.SlotsFirst': WHATEVER THE INPUT: true; the input reads as it did. -/
def slotsFirstSpec : ChangeSpec := { name := "slotsFirst", fn := fun _ => fun
  | [d1, d2, d3] => { results := [.lit (.bool true)], args := [d1, d2, d3] }
  | _ => none }
def slotsFirstRow : OpenClaim := { program := "ytpkampecmlpfmaa", sum := "e0ee50a0a7c3bb967210e761f997c38a36aa2eae2bca632da8ef9164b6d855ba", func := "cuvette/cuvettelaw10.SlotsFirst", spec := "slotsFirst", apart := false }
def SlotsFirstSaid : Prop := slotsFirstRow.holds Try.pinned (OpenSpec.ofChange slotsFirstSpec)

/-- ITS FALSE NEIGHBOUR: 'it returns false'. Refute it at one input. -/
def slotsFirstWrong : ChangeSpec := { name := "slotsFirst", fn := fun _ => fun
  | [d1, d2, d3] => { results := [.lit (.bool false)], args := [d1, d2, d3] }
  | _ => none }
def SlotsFirstWrongFalsely : Prop := slotsFirstRow.holds Try.pinned (OpenSpec.ofChange slotsFirstWrong)

/-- 'cuvettelaw10.SlotsBack': WHATEVER THE INPUT: true; the input reads as it did. -/
def slotsBackSpec : ChangeSpec := { name := "slotsBack", fn := fun _ => fun
  | [d1, d2, d3] => { results := [.lit (.bool true)], args := [d1, d2, d3] }
  | _ => none }
def slotsBackRow : OpenClaim := { program := "ytpkampecmlpfmaa", sum := "e0ee50a0a7c3bb967210e761f997c38a36aa2eae2bca632da8ef9164b6d855ba", func := "cuvette/cuvettelaw10.SlotsBack", spec := "slotsBack", unfollowed := true, recurses := true, apart := false }
def SlotsBackSaid : Prop := slotsBackRow.holds Try.pinned (OpenSpec.ofChange slotsBackSpec)

/-- ITS FALSE NEIGHBOUR: 'it returns false'. Refute it at one input. -/
def slotsBackWrong : ChangeSpec := { name := "slotsBack", fn := fun _ => fun
  | [d1, d2, d3] => { results := [.lit (.bool false)], args := [d1, d2, d3] }
  | _ => none }
def SlotsBackWrongFalsely : Prop := slotsBackRow.holds Try.pinned (OpenSpec.ofChange slotsBackWrong)

/-- 'cuvettelaw10.SlotsApart': WHATEVER THE INPUT: true; the input reads as it did. -/
def slotsApartSpec : ChangeSpec := { name := "slotsApart", fn := fun _ => fun
  | [d1, d2, d3, d4, d5] => { results := [.lit (.bool true)], args := [d1, d2, d3, d4, d5] }
  | _ => none }
def slotsApartRow : OpenClaim := { program := "ytpkampecmlpfmaa", sum := "e0ee50a0a7c3bb967210e761f997c38a36aa2eae2bca632da8ef9164b6d855ba", func := "cuvette/cuvettelaw10.SlotsApart", spec := "slotsApart", recurses := true, apart := false }
def SlotsApartSaid : Prop := slotsApartRow.holds Try.pinned (OpenSpec.ofChange slotsApartSpec)

/-- ITS FALSE NEIGHBOUR: 'it returns false'. Refute it at one input. -/
def slotsApartWrong : ChangeSpec := { name := "slotsApart", fn := fun _ => fun
  | [d1, d2, d3, d4, d5] => { results := [.lit (.bool false)], args := [d1, d2, d3, d4, d5] }
  | _ => none }
def SlotsApartWrongFalsely : Prop := slotsApartRow.holds Try.pinned (OpenSpec.ofChange slotsApartWrong)

/-- 'cuvettelaw10.SlotsMap': WHATEVER THE INPUT: true; the input reads as it did. -/
def slotsMapSpec : ChangeSpec := { name := "slotsMap", fn := fun _ => fun
  | [d1, d2] => { results := [.lit (.bool true)], args := [d1, d2] }
  | _ => none }
def slotsMapRow : OpenClaim := { program := "ytpkampecmlpfmaa", sum := "e0ee50a0a7c3bb967210e761f997c38a36aa2eae2bca632da8ef9164b6d855ba", func := "cuvette/cuvettelaw10.SlotsMap", spec := "slotsMap", recurses := true, apart := false }
def SlotsMapSaid : Prop := slotsMapRow.holds Try.pinned (OpenSpec.ofChange slotsMapSpec)

/-- ITS FALSE NEIGHBOUR: 'it returns false'. Refute it at one input. -/
def slotsMapWrong : ChangeSpec := { name := "slotsMap", fn := fun _ => fun
  | [d1, d2] => { results := [.lit (.bool false)], args := [d1, d2] }
  | _ => none }
def SlotsMapWrongFalsely : Prop := slotsMapRow.holds Try.pinned (OpenSpec.ofChange slotsMapWrong)

/-- 'cuvettelaw10.SlotsDoes': WHATEVER THE INPUT: true; the input reads as it did. -/
def slotsDoesSpec : ChangeSpec := { name := "slotsDoes", fn := fun _ => fun
  | [d1, d2, d3, d4, d5, d6] => { results := [.lit (.bool true)], args := [d1, d2, d3, d4, d5, d6] }
  | _ => none }
def slotsDoesRow : OpenClaim := { program := "ytpkampecmlpfmaa", sum := "e0ee50a0a7c3bb967210e761f997c38a36aa2eae2bca632da8ef9164b6d855ba", func := "cuvette/cuvettelaw10.SlotsDoes", spec := "slotsDoes", unfollowed := true, recurses := true, apart := false }
def SlotsDoesSaid : Prop := slotsDoesRow.holds Try.pinned (OpenSpec.ofChange slotsDoesSpec)

/-- ITS FALSE NEIGHBOUR: 'it returns false'. Refute it at one input. -/
def slotsDoesWrong : ChangeSpec := { name := "slotsDoes", fn := fun _ => fun
  | [d1, d2, d3, d4, d5, d6] => { results := [.lit (.bool false)], args := [d1, d2, d3, d4, d5, d6] }
  | _ => none }
def SlotsDoesWrongFalsely : Prop := slotsDoesRow.holds Try.pinned (OpenSpec.ofChange slotsDoesWrong)

/-- 'cuvettelaw08.BookTexts': WHATEVER THE INPUT: true; the input reads as it did. -/
def bookTextsSpec : ChangeSpec := { name := "bookTexts", fn := fun _ => fun
  | [d1, d2, d3, d4, d5] => { results := [.lit (.bool true)], args := [d1, d2, d3, d4, d5] }
  | _ => none }
def bookTextsRow : OpenClaim := { program := "ytpkampecmlpfmaa", sum := "e0ee50a0a7c3bb967210e761f997c38a36aa2eae2bca632da8ef9164b6d855ba", func := "cuvette/cuvettelaw08.BookTexts", spec := "bookTexts", unfollowed := true, recurses := true, apart := false }
def BookTextsSaid : Prop := bookTextsRow.holds Try.pinned (OpenSpec.ofChange bookTextsSpec)

/-- ITS FALSE NEIGHBOUR: 'it returns false'. Refute it at one input. -/
def bookTextsWrong : ChangeSpec := { name := "bookTexts", fn := fun _ => fun
  | [d1, d2, d3, d4, d5] => { results := [.lit (.bool false)], args := [d1, d2, d3, d4, d5] }
  | _ => none }
def BookTextsWrongFalsely : Prop := bookTextsRow.holds Try.pinned (OpenSpec.ofChange bookTextsWrong)

/-- 'cuvettelaw08.BookBack': WHATEVER THE INPUT: true; the input reads as it did. -/
def bookBackSpec : ChangeSpec := { name := "bookBack", fn := fun _ => fun
  | [d1, d2, d3, d4] => { results := [.lit (.bool true)], args := [d1, d2, d3, d4] }
  | _ => none }
def bookBackRow : OpenClaim := { program := "ytpkampecmlpfmaa", sum := "e0ee50a0a7c3bb967210e761f997c38a36aa2eae2bca632da8ef9164b6d855ba", func := "cuvette/cuvettelaw08.BookBack", spec := "bookBack", unfollowed := true, recurses := true, apart := false }
def BookBackSaid : Prop := bookBackRow.holds Try.pinned (OpenSpec.ofChange bookBackSpec)

/-- ITS FALSE NEIGHBOUR: 'it returns false'. Refute it at one input. -/
def bookBackWrong : ChangeSpec := { name := "bookBack", fn := fun _ => fun
  | [d1, d2, d3, d4] => { results := [.lit (.bool false)], args := [d1, d2, d3, d4] }
  | _ => none }
def BookBackWrongFalsely : Prop := bookBackRow.holds Try.pinned (OpenSpec.ofChange bookBackWrong)

/-- 'cuvettelaw08.BookTrains': WHATEVER THE INPUT: true; the input reads as it did. -/
def bookTrainsSpec : ChangeSpec := { name := "bookTrains", fn := fun _ => fun
  | [d1, d2, d3] => { results := [.lit (.bool true)], args := [d1, d2, d3] }
  | _ => none }
def bookTrainsRow : OpenClaim := { program := "ytpkampecmlpfmaa", sum := "e0ee50a0a7c3bb967210e761f997c38a36aa2eae2bca632da8ef9164b6d855ba", func := "cuvette/cuvettelaw08.BookTrains", spec := "bookTrains", unfollowed := true, recurses := true, apart := false }
def BookTrainsSaid : Prop := bookTrainsRow.holds Try.pinned (OpenSpec.ofChange bookTrainsSpec)

/-- ITS FALSE NEIGHBOUR: 'it returns false'. Refute it at one input. -/
def bookTrainsWrong : ChangeSpec := { name := "bookTrains", fn := fun _ => fun
  | [d1, d2, d3] => { results := [.lit (.bool false)], args := [d1, d2, d3] }
  | _ => none }
def BookTrainsWrongFalsely : Prop := bookTrainsRow.holds Try.pinned (OpenSpec.ofChange bookTrainsWrong)

/-- 'cuvettelaw08.BookSample': WHATEVER THE INPUT: true; the input reads as it did. -/
def bookSampleSpec : ChangeSpec := { name := "bookSample", fn := fun _ => fun
  | [d1, d2, d3] => { results := [.lit (.bool true)], args := [d1, d2, d3] }
  | _ => none }
def bookSampleRow : OpenClaim := { program := "ytpkampecmlpfmaa", sum := "e0ee50a0a7c3bb967210e761f997c38a36aa2eae2bca632da8ef9164b6d855ba", func := "cuvette/cuvettelaw08.BookSample", spec := "bookSample", unfollowed := true, recurses := true, apart := false }
def BookSampleSaid : Prop := bookSampleRow.holds Try.pinned (OpenSpec.ofChange bookSampleSpec)

/-- ITS FALSE NEIGHBOUR: 'it returns false'. Refute it at one input. -/
def bookSampleWrong : ChangeSpec := { name := "bookSample", fn := fun _ => fun
  | [d1, d2, d3] => { results := [.lit (.bool false)], args := [d1, d2, d3] }
  | _ => none }
def BookSampleWrongFalsely : Prop := bookSampleRow.holds Try.pinned (OpenSpec.ofChange bookSampleWrong)

/-- 'cuvettelaw08.BookTurned': WHATEVER THE INPUT: true; the input reads as it did. -/
def bookTurnedSpec : ChangeSpec := { name := "bookTurned", fn := fun _ => fun
  | [d1, d2, d3] => { results := [.lit (.bool true)], args := [d1, d2, d3] }
  | _ => none }
def bookTurnedRow : OpenClaim := { program := "ytpkampecmlpfmaa", sum := "e0ee50a0a7c3bb967210e761f997c38a36aa2eae2bca632da8ef9164b6d855ba", func := "cuvette/cuvettelaw08.BookTurned", spec := "bookTurned", unfollowed := true, recurses := true, apart := false }
def BookTurnedSaid : Prop := bookTurnedRow.holds Try.pinned (OpenSpec.ofChange bookTurnedSpec)

/-- ITS FALSE NEIGHBOUR: 'it returns false'. Refute it at one input. -/
def bookTurnedWrong : ChangeSpec := { name := "bookTurned", fn := fun _ => fun
  | [d1, d2, d3] => { results := [.lit (.bool false)], args := [d1, d2, d3] }
  | _ => none }
def BookTurnedWrongFalsely : Prop := bookTurnedRow.holds Try.pinned (OpenSpec.ofChange bookTurnedWrong)

/-- 'cuvettelaw08.BookEven': WHATEVER THE INPUT: true; the input reads as it did. -/
def bookEvenSpec : ChangeSpec := { name := "bookEven", fn := fun _ => fun
  | [d1, d2, d3] => { results := [.lit (.bool true)], args := [d1, d2, d3] }
  | _ => none }
def bookEvenRow : OpenClaim := { program := "ytpkampecmlpfmaa", sum := "e0ee50a0a7c3bb967210e761f997c38a36aa2eae2bca632da8ef9164b6d855ba", func := "cuvette/cuvettelaw08.BookEven", spec := "bookEven", unfollowed := true, recurses := true, apart := false }
def BookEvenSaid : Prop := bookEvenRow.holds Try.pinned (OpenSpec.ofChange bookEvenSpec)

/-- ITS FALSE NEIGHBOUR: 'it returns false'. Refute it at one input. -/
def bookEvenWrong : ChangeSpec := { name := "bookEven", fn := fun _ => fun
  | [d1, d2, d3] => { results := [.lit (.bool false)], args := [d1, d2, d3] }
  | _ => none }
def BookEvenWrongFalsely : Prop := bookEvenRow.holds Try.pinned (OpenSpec.ofChange bookEvenWrong)

/-- 'cuvettelaw13.TrainSample': WHATEVER THE INPUT: true; the input reads as it did. -/
def trainSampleSpec : ChangeSpec := { name := "trainSample", fn := fun _ => fun
  | [d1, d2, d3, d4] => { results := [.lit (.bool true)], args := [d1, d2, d3, d4] }
  | _ => none }
def trainSampleRow : OpenClaim := { program := "ytpkampecmlpfmaa", sum := "e0ee50a0a7c3bb967210e761f997c38a36aa2eae2bca632da8ef9164b6d855ba", func := "cuvette/cuvettelaw13.TrainSample", spec := "trainSample", unfollowed := true, recurses := true, apart := false }
def TrainSampleSaid : Prop := trainSampleRow.holds Try.pinned (OpenSpec.ofChange trainSampleSpec)

/-- ITS FALSE NEIGHBOUR: 'it returns false'. Refute it at one input. -/
def trainSampleWrong : ChangeSpec := { name := "trainSample", fn := fun _ => fun
  | [d1, d2, d3, d4] => { results := [.lit (.bool false)], args := [d1, d2, d3, d4] }
  | _ => none }
def TrainSampleWrongFalsely : Prop := trainSampleRow.holds Try.pinned (OpenSpec.ofChange trainSampleWrong)

/-- 'cuvettelaw13.TrainParts': WHATEVER THE INPUT: true; the input reads as it did. -/
def trainPartsSpec : ChangeSpec := { name := "trainParts", fn := fun _ => fun
  | [d1, d2, d3, d4, d5] => { results := [.lit (.bool true)], args := [d1, d2, d3, d4, d5] }
  | _ => none }
def trainPartsRow : OpenClaim := { program := "ytpkampecmlpfmaa", sum := "e0ee50a0a7c3bb967210e761f997c38a36aa2eae2bca632da8ef9164b6d855ba", func := "cuvette/cuvettelaw13.TrainParts", spec := "trainParts", unfollowed := true, recurses := true, apart := false }
def TrainPartsSaid : Prop := trainPartsRow.holds Try.pinned (OpenSpec.ofChange trainPartsSpec)

/-- ITS FALSE NEIGHBOUR: 'it returns false'. Refute it at one input. -/
def trainPartsWrong : ChangeSpec := { name := "trainParts", fn := fun _ => fun
  | [d1, d2, d3, d4, d5] => { results := [.lit (.bool false)], args := [d1, d2, d3, d4, d5] }
  | _ => none }
def TrainPartsWrongFalsely : Prop := trainPartsRow.holds Try.pinned (OpenSpec.ofChange trainPartsWrong)

/-- 'cuvettelaw13.TrainEmpty': WHATEVER THE INPUT: true; the input reads as it did. -/
def trainEmptySpec : ChangeSpec := { name := "trainEmpty", fn := fun _ => fun
  | [d1, d2, d3, d4, d5, d6] => { results := [.lit (.bool true)], args := [d1, d2, d3, d4, d5, d6] }
  | _ => none }
def trainEmptyRow : OpenClaim := { program := "ytpkampecmlpfmaa", sum := "e0ee50a0a7c3bb967210e761f997c38a36aa2eae2bca632da8ef9164b6d855ba", func := "cuvette/cuvettelaw13.TrainEmpty", spec := "trainEmpty", unfollowed := true, recurses := true, apart := false }
def TrainEmptySaid : Prop := trainEmptyRow.holds Try.pinned (OpenSpec.ofChange trainEmptySpec)

/-- ITS FALSE NEIGHBOUR: 'it returns false'. Refute it at one input. -/
def trainEmptyWrong : ChangeSpec := { name := "trainEmpty", fn := fun _ => fun
  | [d1, d2, d3, d4, d5, d6] => { results := [.lit (.bool false)], args := [d1, d2, d3, d4, d5, d6] }
  | _ => none }
def TrainEmptyWrongFalsely : Prop := trainEmptyRow.holds Try.pinned (OpenSpec.ofChange trainEmptyWrong)

/-- 'cuvettelaw13.TrainDoes': WHATEVER THE INPUT: true; the input reads as it did. -/
def trainDoesSpec : ChangeSpec := { name := "trainDoes", fn := fun _ => fun
  | [d1, d2, d3, d4, d5, d6, d7] => { results := [.lit (.bool true)], args := [d1, d2, d3, d4, d5, d6, d7] }
  | _ => none }
def trainDoesRow : OpenClaim := { program := "ytpkampecmlpfmaa", sum := "e0ee50a0a7c3bb967210e761f997c38a36aa2eae2bca632da8ef9164b6d855ba", func := "cuvette/cuvettelaw13.TrainDoes", spec := "trainDoes", unfollowed := true, recurses := true, apart := false }
def TrainDoesSaid : Prop := trainDoesRow.holds Try.pinned (OpenSpec.ofChange trainDoesSpec)

/-- ITS FALSE NEIGHBOUR: 'it returns false'. Refute it at one input. -/
def trainDoesWrong : ChangeSpec := { name := "trainDoes", fn := fun _ => fun
  | [d1, d2, d3, d4, d5, d6, d7] => { results := [.lit (.bool false)], args := [d1, d2, d3, d4, d5, d6, d7] }
  | _ => none }
def TrainDoesWrongFalsely : Prop := trainDoesRow.holds Try.pinned (OpenSpec.ofChange trainDoesWrong)

/-- 'cuvettelaw13.TrainBudgets': WHATEVER THE INPUT: true; the input reads as it did. -/
def trainBudgetsSpec : ChangeSpec := { name := "trainBudgets", fn := fun _ => fun
  | [d1, d2, d3, d4, d5, d6] => { results := [.lit (.bool true)], args := [d1, d2, d3, d4, d5, d6] }
  | _ => none }
def trainBudgetsRow : OpenClaim := { program := "ytpkampecmlpfmaa", sum := "e0ee50a0a7c3bb967210e761f997c38a36aa2eae2bca632da8ef9164b6d855ba", func := "cuvette/cuvettelaw13.TrainBudgets", spec := "trainBudgets", unfollowed := true, recurses := true, apart := false }
def TrainBudgetsSaid : Prop := trainBudgetsRow.holds Try.pinned (OpenSpec.ofChange trainBudgetsSpec)

/-- ITS FALSE NEIGHBOUR: 'it returns false'. Refute it at one input. -/
def trainBudgetsWrong : ChangeSpec := { name := "trainBudgets", fn := fun _ => fun
  | [d1, d2, d3, d4, d5, d6] => { results := [.lit (.bool false)], args := [d1, d2, d3, d4, d5, d6] }
  | _ => none }
def TrainBudgetsWrongFalsely : Prop := trainBudgetsRow.holds Try.pinned (OpenSpec.ofChange trainBudgetsWrong)

/- THE SECOND FORM. 'bulk': how many values and letters a reading holds, each counted each time it is reached (what is shared counts as often as it is met; a slice's spare places count too). A statement '..UptoSaid' is the law's where the arguments, and the package variables that the reading takes, are together of bulk at most 1048576: NARROWER than '..Said'. Prove '..Said' where nothing that the law and all that it calls make is longer than what came in: it says more and counts as full. Else prove '..UptoSaid'. A law counts once. -/
mutual
def uptoBulk {H : Type} : DataW H → Nat
  | .lit (.string bytes) => bytes.length + 1
  | .lit _ => 1
  | .nil => 1
  | .ptr d => uptoBulk d + 1
  | .slice elems spare => uptoBulkAll elems + uptoBulkAll spare + 1
  | .agg parts => uptoBulkAll parts + 1
  | .iface _ d => uptoBulk d + 1
  | .map entries => uptoBulkEntries entries + 1
  | .held _ => 1
def uptoBulkAll {H : Type} : List (DataW H) → Nat
  | [] => 0
  | d :: r => uptoBulk d + uptoBulkAll r
def uptoBulkEntries {H : Type} : List (Lit × DataW H) → Nat
  | [] => 0
  | x :: r => uptoBulkEntry x + uptoBulkEntries r
def uptoBulkEntry {H : Type} : Lit × DataW H → Nat
  | (.string bytes, d) => bytes.length + uptoBulk d + 1
  | (_, d) => uptoBulk d + 1
 end
def uptoSmall : (H : Type) → List (DataW H) → Bool := fun _ ds => decide (uptoBulkAll ds ≤ 1048576)
def OpenSpec.upto (s : _root_.Go.ChangeSpec) : _root_.Go.OpenSpec := { _root_.Go.OpenSpec.ofChange s with cond := some uptoSmall }

/-- 'cuvettelaw06.RankOrder', WHERE WHAT IT READS IS OF BULK AT MOST 1048576: true; the input reads as it did. -/
def rankOrderUptoRow : OpenClaim := { program := "ytpkampecmlpfmaa", sum := "e0ee50a0a7c3bb967210e761f997c38a36aa2eae2bca632da8ef9164b6d855ba", func := "cuvette/cuvettelaw06.RankOrder", spec := "rankOrder", unfollowed := true, recurses := true, apart := false, narrowed := true }
def RankOrderUptoSaid : Prop := rankOrderUptoRow.holds Try.pinned (OpenSpec.upto rankOrderSpec)

/-- 'cuvettelaw06.RankFewer', WHERE WHAT IT READS IS OF BULK AT MOST 1048576: true; the input reads as it did. -/
def rankFewerUptoRow : OpenClaim := { program := "ytpkampecmlpfmaa", sum := "e0ee50a0a7c3bb967210e761f997c38a36aa2eae2bca632da8ef9164b6d855ba", func := "cuvette/cuvettelaw06.RankFewer", spec := "rankFewer", unfollowed := true, recurses := true, apart := false, narrowed := true }
def RankFewerUptoSaid : Prop := rankFewerUptoRow.holds Try.pinned (OpenSpec.upto rankFewerSpec)

/-- 'cuvettelaw06.RankIn', WHERE WHAT IT READS IS OF BULK AT MOST 1048576: true; the input reads as it did. -/
def rankInUptoRow : OpenClaim := { program := "ytpkampecmlpfmaa", sum := "e0ee50a0a7c3bb967210e761f997c38a36aa2eae2bca632da8ef9164b6d855ba", func := "cuvette/cuvettelaw06.RankIn", spec := "rankIn", unfollowed := true, recurses := true, apart := false, narrowed := true }
def RankInUptoSaid : Prop := rankInUptoRow.holds Try.pinned (OpenSpec.upto rankInSpec)

/-- 'cuvettelaw06.RankEven', WHERE WHAT IT READS IS OF BULK AT MOST 1048576: true; the input reads as it did. -/
def rankEvenUptoRow : OpenClaim := { program := "ytpkampecmlpfmaa", sum := "e0ee50a0a7c3bb967210e761f997c38a36aa2eae2bca632da8ef9164b6d855ba", func := "cuvette/cuvettelaw06.RankEven", spec := "rankEven", unfollowed := true, recurses := true, apart := false, narrowed := true }
def RankEvenUptoSaid : Prop := rankEvenUptoRow.holds Try.pinned (OpenSpec.upto rankEvenSpec)

/-- 'cuvettelaw06.RankCounts', WHERE WHAT IT READS IS OF BULK AT MOST 1048576: true; the input reads as it did. -/
def rankCountsUptoRow : OpenClaim := { program := "ytpkampecmlpfmaa", sum := "e0ee50a0a7c3bb967210e761f997c38a36aa2eae2bca632da8ef9164b6d855ba", func := "cuvette/cuvettelaw06.RankCounts", spec := "rankCounts", unfollowed := true, recurses := true, apart := false, narrowed := true }
def RankCountsUptoSaid : Prop := rankCountsUptoRow.holds Try.pinned (OpenSpec.upto rankCountsSpec)

/-- 'cuvettelaw10.SlotsFirst', WHERE WHAT IT READS IS OF BULK AT MOST 1048576: true; the input reads as it did. -/
def slotsFirstUptoRow : OpenClaim := { program := "ytpkampecmlpfmaa", sum := "e0ee50a0a7c3bb967210e761f997c38a36aa2eae2bca632da8ef9164b6d855ba", func := "cuvette/cuvettelaw10.SlotsFirst", spec := "slotsFirst", apart := false, narrowed := true }
def SlotsFirstUptoSaid : Prop := slotsFirstUptoRow.holds Try.pinned (OpenSpec.upto slotsFirstSpec)

/-- 'cuvettelaw10.SlotsBack', WHERE WHAT IT READS IS OF BULK AT MOST 1048576: true; the input reads as it did. -/
def slotsBackUptoRow : OpenClaim := { program := "ytpkampecmlpfmaa", sum := "e0ee50a0a7c3bb967210e761f997c38a36aa2eae2bca632da8ef9164b6d855ba", func := "cuvette/cuvettelaw10.SlotsBack", spec := "slotsBack", unfollowed := true, recurses := true, apart := false, narrowed := true }
def SlotsBackUptoSaid : Prop := slotsBackUptoRow.holds Try.pinned (OpenSpec.upto slotsBackSpec)

/-- 'cuvettelaw10.SlotsApart', WHERE WHAT IT READS IS OF BULK AT MOST 1048576: true; the input reads as it did. -/
def slotsApartUptoRow : OpenClaim := { program := "ytpkampecmlpfmaa", sum := "e0ee50a0a7c3bb967210e761f997c38a36aa2eae2bca632da8ef9164b6d855ba", func := "cuvette/cuvettelaw10.SlotsApart", spec := "slotsApart", recurses := true, apart := false, narrowed := true }
def SlotsApartUptoSaid : Prop := slotsApartUptoRow.holds Try.pinned (OpenSpec.upto slotsApartSpec)

/-- 'cuvettelaw10.SlotsMap', WHERE WHAT IT READS IS OF BULK AT MOST 1048576: true; the input reads as it did. -/
def slotsMapUptoRow : OpenClaim := { program := "ytpkampecmlpfmaa", sum := "e0ee50a0a7c3bb967210e761f997c38a36aa2eae2bca632da8ef9164b6d855ba", func := "cuvette/cuvettelaw10.SlotsMap", spec := "slotsMap", recurses := true, apart := false, narrowed := true }
def SlotsMapUptoSaid : Prop := slotsMapUptoRow.holds Try.pinned (OpenSpec.upto slotsMapSpec)

/-- 'cuvettelaw10.SlotsDoes', WHERE WHAT IT READS IS OF BULK AT MOST 1048576: true; the input reads as it did. -/
def slotsDoesUptoRow : OpenClaim := { program := "ytpkampecmlpfmaa", sum := "e0ee50a0a7c3bb967210e761f997c38a36aa2eae2bca632da8ef9164b6d855ba", func := "cuvette/cuvettelaw10.SlotsDoes", spec := "slotsDoes", unfollowed := true, recurses := true, apart := false, narrowed := true }
def SlotsDoesUptoSaid : Prop := slotsDoesUptoRow.holds Try.pinned (OpenSpec.upto slotsDoesSpec)

/-- 'cuvettelaw08.BookTexts', WHERE WHAT IT READS IS OF BULK AT MOST 1048576: true; the input reads as it did. -/
def bookTextsUptoRow : OpenClaim := { program := "ytpkampecmlpfmaa", sum := "e0ee50a0a7c3bb967210e761f997c38a36aa2eae2bca632da8ef9164b6d855ba", func := "cuvette/cuvettelaw08.BookTexts", spec := "bookTexts", unfollowed := true, recurses := true, apart := false, narrowed := true }
def BookTextsUptoSaid : Prop := bookTextsUptoRow.holds Try.pinned (OpenSpec.upto bookTextsSpec)

/-- 'cuvettelaw08.BookBack', WHERE WHAT IT READS IS OF BULK AT MOST 1048576: true; the input reads as it did. -/
def bookBackUptoRow : OpenClaim := { program := "ytpkampecmlpfmaa", sum := "e0ee50a0a7c3bb967210e761f997c38a36aa2eae2bca632da8ef9164b6d855ba", func := "cuvette/cuvettelaw08.BookBack", spec := "bookBack", unfollowed := true, recurses := true, apart := false, narrowed := true }
def BookBackUptoSaid : Prop := bookBackUptoRow.holds Try.pinned (OpenSpec.upto bookBackSpec)

/-- 'cuvettelaw08.BookTrains', WHERE WHAT IT READS IS OF BULK AT MOST 1048576: true; the input reads as it did. -/
def bookTrainsUptoRow : OpenClaim := { program := "ytpkampecmlpfmaa", sum := "e0ee50a0a7c3bb967210e761f997c38a36aa2eae2bca632da8ef9164b6d855ba", func := "cuvette/cuvettelaw08.BookTrains", spec := "bookTrains", unfollowed := true, recurses := true, apart := false, narrowed := true }
def BookTrainsUptoSaid : Prop := bookTrainsUptoRow.holds Try.pinned (OpenSpec.upto bookTrainsSpec)

/-- 'cuvettelaw08.BookSample', WHERE WHAT IT READS IS OF BULK AT MOST 1048576: true; the input reads as it did. -/
def bookSampleUptoRow : OpenClaim := { program := "ytpkampecmlpfmaa", sum := "e0ee50a0a7c3bb967210e761f997c38a36aa2eae2bca632da8ef9164b6d855ba", func := "cuvette/cuvettelaw08.BookSample", spec := "bookSample", unfollowed := true, recurses := true, apart := false, narrowed := true }
def BookSampleUptoSaid : Prop := bookSampleUptoRow.holds Try.pinned (OpenSpec.upto bookSampleSpec)

/-- 'cuvettelaw08.BookTurned', WHERE WHAT IT READS IS OF BULK AT MOST 1048576: true; the input reads as it did. -/
def bookTurnedUptoRow : OpenClaim := { program := "ytpkampecmlpfmaa", sum := "e0ee50a0a7c3bb967210e761f997c38a36aa2eae2bca632da8ef9164b6d855ba", func := "cuvette/cuvettelaw08.BookTurned", spec := "bookTurned", unfollowed := true, recurses := true, apart := false, narrowed := true }
def BookTurnedUptoSaid : Prop := bookTurnedUptoRow.holds Try.pinned (OpenSpec.upto bookTurnedSpec)

/-- 'cuvettelaw08.BookEven', WHERE WHAT IT READS IS OF BULK AT MOST 1048576: true; the input reads as it did. -/
def bookEvenUptoRow : OpenClaim := { program := "ytpkampecmlpfmaa", sum := "e0ee50a0a7c3bb967210e761f997c38a36aa2eae2bca632da8ef9164b6d855ba", func := "cuvette/cuvettelaw08.BookEven", spec := "bookEven", unfollowed := true, recurses := true, apart := false, narrowed := true }
def BookEvenUptoSaid : Prop := bookEvenUptoRow.holds Try.pinned (OpenSpec.upto bookEvenSpec)

/-- 'cuvettelaw13.TrainSample', WHERE WHAT IT READS IS OF BULK AT MOST 1048576: true; the input reads as it did. -/
def trainSampleUptoRow : OpenClaim := { program := "ytpkampecmlpfmaa", sum := "e0ee50a0a7c3bb967210e761f997c38a36aa2eae2bca632da8ef9164b6d855ba", func := "cuvette/cuvettelaw13.TrainSample", spec := "trainSample", unfollowed := true, recurses := true, apart := false, narrowed := true }
def TrainSampleUptoSaid : Prop := trainSampleUptoRow.holds Try.pinned (OpenSpec.upto trainSampleSpec)

/-- 'cuvettelaw13.TrainParts', WHERE WHAT IT READS IS OF BULK AT MOST 1048576: true; the input reads as it did. -/
def trainPartsUptoRow : OpenClaim := { program := "ytpkampecmlpfmaa", sum := "e0ee50a0a7c3bb967210e761f997c38a36aa2eae2bca632da8ef9164b6d855ba", func := "cuvette/cuvettelaw13.TrainParts", spec := "trainParts", unfollowed := true, recurses := true, apart := false, narrowed := true }
def TrainPartsUptoSaid : Prop := trainPartsUptoRow.holds Try.pinned (OpenSpec.upto trainPartsSpec)

/-- 'cuvettelaw13.TrainEmpty', WHERE WHAT IT READS IS OF BULK AT MOST 1048576: true; the input reads as it did. -/
def trainEmptyUptoRow : OpenClaim := { program := "ytpkampecmlpfmaa", sum := "e0ee50a0a7c3bb967210e761f997c38a36aa2eae2bca632da8ef9164b6d855ba", func := "cuvette/cuvettelaw13.TrainEmpty", spec := "trainEmpty", unfollowed := true, recurses := true, apart := false, narrowed := true }
def TrainEmptyUptoSaid : Prop := trainEmptyUptoRow.holds Try.pinned (OpenSpec.upto trainEmptySpec)

/-- 'cuvettelaw13.TrainDoes', WHERE WHAT IT READS IS OF BULK AT MOST 1048576: true; the input reads as it did. -/
def trainDoesUptoRow : OpenClaim := { program := "ytpkampecmlpfmaa", sum := "e0ee50a0a7c3bb967210e761f997c38a36aa2eae2bca632da8ef9164b6d855ba", func := "cuvette/cuvettelaw13.TrainDoes", spec := "trainDoes", unfollowed := true, recurses := true, apart := false, narrowed := true }
def TrainDoesUptoSaid : Prop := trainDoesUptoRow.holds Try.pinned (OpenSpec.upto trainDoesSpec)

/-- 'cuvettelaw13.TrainBudgets', WHERE WHAT IT READS IS OF BULK AT MOST 1048576: true; the input reads as it did. -/
def trainBudgetsUptoRow : OpenClaim := { program := "ytpkampecmlpfmaa", sum := "e0ee50a0a7c3bb967210e761f997c38a36aa2eae2bca632da8ef9164b6d855ba", func := "cuvette/cuvettelaw13.TrainBudgets", spec := "trainBudgets", unfollowed := true, recurses := true, apart := false, narrowed := true }
def TrainBudgetsUptoSaid : Prop := trainBudgetsUptoRow.holds Try.pinned (OpenSpec.upto trainBudgetsSpec)

end Rows
end Go.Proofs.Ytpkampecmlpfmaa
