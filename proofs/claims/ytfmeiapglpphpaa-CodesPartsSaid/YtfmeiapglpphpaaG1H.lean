import Derived.Test.YtfmeiapglpphpaaRows
import Derived.Test.YtfmeiapglpphpaaLB
/- The head of the program: closed facts that every row asks. -/
namespace Go.Proofs.Ytfmeiapglpphpaa.T
open Go Go.VL Go.Proofs Go.Proofs.Ytfmeiapglpphpaa
set_option maxRecDepth 100000
theorem own : ownKnob Try.prog.godebug = none := by kernel_rfl
theorem laidOut : laidOutB Try.prog = true := by kernel_rfl
def ioW : List (List Char) := [
  ['h', 'a', 'r', 'n', 'e', 's', 's'],
  ['4', 'a', 'f', '4', '3', '0', '5', '4', '0', '4', 'a', 'f', '4', 'd', '3', '1', '7', '0', '6', '7', '7', 'c', '8', '3', 'c', 'd', '2', '3', '1', 'd', '2', 'b', 'a', 'b', 'a', '8', '9', '4', 'd', '9', '0', '6', '6', '7', '2', '9', '4', 'e', '2', 'b', '3', 'd', 'c', '3', '5', '8', 'a', '8', 'd', '8', 'c', 'f', '0', 'f'],
  ['c', 'u', 't'],
  ['a', 't'],
  ['c', 'u', 'v', 'e', 't', 't', 'e', '/', 'c', 'u', 'v', 'e', 't', 't', 'e', 'l', 'a', 'w', '0', '3', '.', 'P', 'a', 'c', 'k', 'N', 'u', 'm', 'b', 'e', 'r', 's'],
  ['c', 'u', 'v', 'e', 't', 't', 'e', '/', 'c', 'u', 'v', 'e', 't', 't', 'e', 'l', 'a', 'w', '0', '3', '.', 'P', 'a', 'c', 'k', 'B', 'a', 'c', 'k'],
  ['c', 'u', 'v', 'e', 't', 't', 'e', '/', 'c', 'u', 'v', 'e', 't', 't', 'e', 'l', 'a', 'w', '0', '3', '.', 'P', 'a', 'c', 'k', 'W', 'i', 'd', 't', 'h', 's'],
  ['c', 'u', 'v', 'e', 't', 't', 'e', '/', 'c', 'u', 'v', 'e', 't', 't', 'e', 'l', 'a', 'w', '0', '3', '.', 'P', 'a', 'c', 'k', 'P', 'a', 'r', 't', 's'],
  ['c', 'u', 'v', 'e', 't', 't', 'e', '/', 'c', 'u', 'v', 'e', 't', 't', 'e', 'l', 'a', 'w', '0', '3', '.', 'P', 'a', 'c', 'k', 'S', 'u', 'm'],
  ['c', 'u', 'v', 'e', 't', 't', 'e', '/', 'c', 'u', 'v', 'e', 't', 't', 'e', 'l', 'a', 'w', '0', '3', '.', 'P', 'a', 'c', 'k', 'C', 'u', 't'],
  ['c', 'u', 'v', 'e', 't', 't', 'e', '/', 'c', 'u', 'v', 'e', 't', 't', 'e', 'l', 'a', 'w', '0', '3', '.', 'P', 'a', 'c', 'k', 'T', 'e', 'x', 't', 's'],
  ['c', 'u', 'v', 'e', 't', 't', 'e', '/', 'c', 'u', 'v', 'e', 't', 't', 'e', 'l', 'a', 'w', '0', '4', '.', 'V', 'e', 'c', 'M', 'i', 'd', 'd', 'l', 'e'],
  ['c', 'u', 'v', 'e', 't', 't', 'e', '/', 'c', 'u', 'v', 'e', 't', 't', 'e', 'l', 'a', 'w', '0', '4', '.', 'V', 'e', 'c', 'S', 'h', 'i', 'f', 't'],
  ['c', 'u', 'v', 'e', 't', 't', 'e', '/', 'c', 'u', 'v', 'e', 't', 't', 'e', 'l', 'a', 'w', '0', '4', '.', 'V', 'e', 'c', 'P', 'a', 'r', 't', 's'],
  ['c', 'u', 'v', 'e', 't', 't', 'e', '/', 'c', 'u', 'v', 'e', 't', 't', 'e', 'l', 'a', 'w', '0', '4', '.', 'V', 'e', 'c', 'D', 'o', 'e', 's'],
  ['c', 'u', 'v', 'e', 't', 't', 'e', '/', 'c', 'u', 'v', 'e', 't', 't', 'e', 'l', 'a', 'w', '0', '4', '.', 'V', 'e', 'c', 'F', 'a', 'r'],
  ['c', 'u', 'v', 'e', 't', 't', 'e', '/', 'c', 'u', 'v', 'e', 't', 't', 'e', 'l', 'a', 'w', '0', '4', '.', 'V', 'e', 'c', 'T', 'e', 'x', 't', 's'],
  ['c', 'u', 'v', 'e', 't', 't', 'e', '/', 'c', 'u', 'v', 'e', 't', 't', 'e', 'l', 'a', 'w', '0', '4', '.', 'V', 'e', 'c', 'B', 'a', 'c', 'k'],
  ['c', 'u', 'v', 'e', 't', 't', 'e', '/', 'c', 'u', 'v', 'e', 't', 't', 'e', 'l', 'a', 'w', '0', '5', '.', 'T', 'w', 'i', 's', 't', 'P', 'a', 'r', 't', 's'],
  ['c', 'u', 'v', 'e', 't', 't', 'e', '/', 'c', 'u', 'v', 'e', 't', 't', 'e', 'l', 'a', 'w', '0', '5', '.', 'T', 'w', 'i', 's', 't', 'P', 'l', 'a', 'i', 'n'],
  ['c', 'u', 'v', 'e', 't', 't', 'e', '/', 'c', 'u', 'v', 'e', 't', 't', 'e', 'l', 'a', 'w', '0', '5', '.', 'T', 'w', 'i', 's', 't', 'G', 'r', 'o', 'u', 'p'],
  ['c', 'u', 'v', 'e', 't', 't', 'e', '/', 'c', 'u', 'v', 'e', 't', 't', 'e', 'l', 'a', 'w', '0', '5', '.', 'T', 'w', 'i', 's', 't', 'F', 'a', 'r'],
  ['c', 'u', 'v', 'e', 't', 't', 'e', '/', 'c', 'u', 'v', 'e', 't', 't', 'e', 'l', 'a', 'w', '0', '5', '.', 'T', 'w', 'i', 's', 't', 'D', 'o', 'e', 's'],
  ['c', 'u', 'v', 'e', 't', 't', 'e', '/', 'c', 'u', 'v', 'e', 't', 't', 'e', 'l', 'a', 'w', '0', '5', '.', 'T', 'w', 'i', 's', 't', 'B', 'a', 'c', 'k'],
  ['c', 'u', 'v', 'e', 't', 't', 'e', '/', 'c', 'u', 'v', 'e', 't', 't', 'e', 'l', 'a', 'w', '0', '7', '.', 'Q', 'u', 'a', 'n', 't', 'W', 'a', 'y'],
  ['c', 'u', 'v', 'e', 't', 't', 'e', '/', 'c', 'u', 'v', 'e', 't', 't', 'e', 'l', 'a', 'w', '0', '7', '.', 'Q', 'u', 'a', 'n', 't', 'R', 'i', 's', 'e', 's'],
  ['c', 'u', 'v', 'e', 't', 't', 'e', '/', 'c', 'u', 'v', 'e', 't', 't', 'e', 'l', 'a', 'w', '0', '7', '.', 'Q', 'u', 'a', 'n', 't', 'C', 'e', 'l', 'l', 's'],
  ['c', 'u', 'v', 'e', 't', 't', 'e', '/', 'c', 'u', 'v', 'e', 't', 't', 'e', 'l', 'a', 'w', '0', '7', '.', 'Q', 'u', 'a', 'n', 't', 'S', 'a', 'm', 'e'],
  ['c', 'u', 'v', 'e', 't', 't', 'e', '/', 'c', 'u', 'v', 'e', 't', 't', 'e', 'l', 'a', 'w', '0', '7', '.', 'Q', 'u', 'a', 'n', 't', 'I', 'n'],
  ['c', 'u', 'v', 'e', 't', 't', 'e', '/', 'c', 'u', 'v', 'e', 't', 't', 'e', 'l', 'a', 'w', '0', '7', '.', 'Q', 'u', 'a', 'n', 't', 'D', 'o', 'e', 's'],
  ['c', 'u', 'v', 'e', 't', 't', 'e', '/', 'c', 'u', 'v', 'e', 't', 't', 'e', 'l', 'a', 'w', '0', '9', '.', 'G', 'a', 'u', 'g', 'e', 'F', 'i', 'n', 'e', 'r'],
  ['c', 'u', 'v', 'e', 't', 't', 'e', '/', 'c', 'u', 'v', 'e', 't', 't', 'e', 'l', 'a', 'w', '0', '9', '.', 'G', 'a', 'u', 'g', 'e', 'B', 'e', 'l', 'o', 'w'],
  ['c', 'u', 'v', 'e', 't', 't', 'e', '/', 'c', 'u', 'v', 'e', 't', 't', 'e', 'l', 'a', 'w', '0', '9', '.', 'G', 'a', 'u', 'g', 'e', 'S', 'u', 'm', 's'],
  ['c', 'u', 'v', 'e', 't', 't', 'e', '/', 'c', 'u', 'v', 'e', 't', 't', 'e', 'l', 'a', 'w', '0', '9', '.', 'G', 'a', 'u', 'g', 'e', 'D', 'o', 'e', 's'],
  ['c', 'u', 'v', 'e', 't', 't', 'e', '/', 'c', 'u', 'v', 'e', 't', 't', 'e', 'l', 'a', 'w', '0', '9', '.', 'G', 'a', 'u', 'g', 'e', 'N', 'e', 'a', 'r'],
  ['c', 'u', 'v', 'e', 't', 't', 'e', '/', 'c', 'u', 'v', 'e', 't', 't', 'e', 'l', 'a', 'w', '1', '1', '.', 'C', 'o', 'd', 'e', 's', 'P', 'a', 'r', 't', 's'],
  ['c', 'u', 'v', 'e', 't', 't', 'e', '/', 'c', 'u', 'v', 'e', 't', 't', 'e', 'l', 'a', 'w', '1', '1', '.', 'C', 'o', 'd', 'e', 's', 'P', 'u', 't']]
theorem io0 : Try.prog.initOrder = String.ofList (joinW ioW) := by kernel_rfl
theorem io : wordsSigns Try.prog.initOrder.toList = ioW := by rw [io0, String.toList_ofList]; exact ws_join _ (by simp [ioW]) (by kernel_rfl)
theorem ioC : wordsSigns Try.checked.prog.initOrder.toList = ioW := io
theorem bh : behindMainWord ioW = ['c', 'u', 't'] :: (ioW.drop 3) := by kernel_rfl
theorem sl : stripLifts liftWords (['c', 'u', 't'] :: (ioW.drop 3)) = ([], ['c', 'u', 't'] :: (ioW.drop 3)) := by kernel_rfl
theorem lay : Try.checked.prog.laysLater = false := by kernel_rfl
theorem noReflect : Try.checked.prog.bearsReflect = false := by kernel_rfl
theorem door : Try.checked.prog.doorFits [] = true := by kernel_rfl
theorem enters : Try.checked.prog.mayEnter = true := mayEnter_of ioC bh sl lay noReflect door
theorem lifts : Try.checked.prog.liftsFinal = false := by unfold Program.liftsFinal Program.headLifts; rw [ioC]; kernel_rfl
theorem cut : Try.checked.prog.make = some .cut := make_of ioC bh
theorem c_laid : laidOutB Try.checked.prog = true := by kernel_rfl
theorem c_maps : mapsRowed Try.checked.prog = true := by kernel_rfl
theorem c_stops : (Try.checked.prog.stops == []) = true := by kernel_rfl
theorem c_knobs : (Try.checked.prog.stopKnobs == []) = true := by kernel_rfl
theorem c_heard : Try.checked.prog.stopsHeard = true := by kernel_rfl
theorem c_keys : Try.checked.prog.plainKeys = true := by kernel_rfl
end Go.Proofs.Ytfmeiapglpphpaa.T
