import Derived.Test.YtcbkeekldbggkaaRows
import Derived.Test.YtcbkeekldbggkaaLE
/- The head of the program: closed facts that every row asks. -/
namespace Go.Proofs.Ytcbkeekldbggkaa.T
open Go Go.VL Go.Proofs Go.Proofs.Ytcbkeekldbggkaa
set_option maxRecDepth 100000
theorem own : ownKnob Try.prog.godebug = none := by kernel_rfl
theorem laidOut : laidOutB Try.prog = true := by kernel_rfl
def ioW : List (List Char) := [
  [(Char.ofNat 104), (Char.ofNat 97), (Char.ofNat 114), (Char.ofNat 110), (Char.ofNat 101), (Char.ofNat 115), (Char.ofNat 115)],
  [(Char.ofNat 56), (Char.ofNat 53), (Char.ofNat 56), (Char.ofNat 97), (Char.ofNat 101), (Char.ofNat 57), (Char.ofNat 53), (Char.ofNat 49), (Char.ofNat 100), (Char.ofNat 53), (Char.ofNat 56), (Char.ofNat 56), (Char.ofNat 49), (Char.ofNat 49), (Char.ofNat 98), (Char.ofNat 53), (Char.ofNat 102), (Char.ofNat 57), (Char.ofNat 52), (Char.ofNat 48), (Char.ofNat 52), (Char.ofNat 55), (Char.ofNat 57), (Char.ofNat 99), (Char.ofNat 50), (Char.ofNat 57), (Char.ofNat 55), (Char.ofNat 97), (Char.ofNat 51), (Char.ofNat 102), (Char.ofNat 49), (Char.ofNat 52), (Char.ofNat 51), (Char.ofNat 55), (Char.ofNat 50), (Char.ofNat 101), (Char.ofNat 50), (Char.ofNat 99), (Char.ofNat 100), (Char.ofNat 100), (Char.ofNat 57), (Char.ofNat 99), (Char.ofNat 55), (Char.ofNat 52), (Char.ofNat 54), (Char.ofNat 97), (Char.ofNat 49), (Char.ofNat 57), (Char.ofNat 100), (Char.ofNat 55), (Char.ofNat 51), (Char.ofNat 99), (Char.ofNat 48), (Char.ofNat 97), (Char.ofNat 102), (Char.ofNat 98), (Char.ofNat 49), (Char.ofNat 99), (Char.ofNat 53), (Char.ofNat 99), (Char.ofNat 99), (Char.ofNat 53), (Char.ofNat 57), (Char.ofNat 52)],
  [(Char.ofNat 99), (Char.ofNat 117), (Char.ofNat 116)],
  [(Char.ofNat 97), (Char.ofNat 116)],
  [(Char.ofNat 99), (Char.ofNat 117), (Char.ofNat 118), (Char.ofNat 101), (Char.ofNat 116), (Char.ofNat 116), (Char.ofNat 101), (Char.ofNat 47), (Char.ofNat 99), (Char.ofNat 117), (Char.ofNat 118), (Char.ofNat 101), (Char.ofNat 116), (Char.ofNat 116), (Char.ofNat 101), (Char.ofNat 108), (Char.ofNat 97), (Char.ofNat 119), (Char.ofNat 48), (Char.ofNat 51), (Char.ofNat 46), (Char.ofNat 80), (Char.ofNat 97), (Char.ofNat 99), (Char.ofNat 107), (Char.ofNat 67), (Char.ofNat 117), (Char.ofNat 116)],
  [(Char.ofNat 99), (Char.ofNat 117), (Char.ofNat 118), (Char.ofNat 101), (Char.ofNat 116), (Char.ofNat 116), (Char.ofNat 101), (Char.ofNat 47), (Char.ofNat 99), (Char.ofNat 117), (Char.ofNat 118), (Char.ofNat 101), (Char.ofNat 116), (Char.ofNat 116), (Char.ofNat 101), (Char.ofNat 108), (Char.ofNat 97), (Char.ofNat 119), (Char.ofNat 48), (Char.ofNat 51), (Char.ofNat 46), (Char.ofNat 80), (Char.ofNat 97), (Char.ofNat 99), (Char.ofNat 107), (Char.ofNat 84), (Char.ofNat 101), (Char.ofNat 120), (Char.ofNat 116), (Char.ofNat 115)]]
theorem io0 : Try.prog.initOrder = String.ofList (joinW ioW) := by kernel_rfl
theorem io : wordsSigns Try.prog.initOrder.toList = ioW := by rw [io0, String.toList_ofList]; exact ws_join _ (by simp [ioW]) (by kernel_rfl)
theorem ioC : wordsSigns Try.checked.prog.initOrder.toList = ioW := io
theorem bh : behindMainWord ioW = [(Char.ofNat 99), (Char.ofNat 117), (Char.ofNat 116)] :: (ioW.drop 3) := by kernel_rfl
theorem sl : stripLifts liftWords ([(Char.ofNat 99), (Char.ofNat 117), (Char.ofNat 116)] :: (ioW.drop 3)) = ([], [(Char.ofNat 99), (Char.ofNat 117), (Char.ofNat 116)] :: (ioW.drop 3)) := by kernel_rfl
theorem lay : Try.checked.prog.laysLater = false := by kernel_rfl
theorem noReflect : Try.checked.prog.bearsReflect = false := by kernel_rfl
theorem door : Try.checked.prog.doorFits [] = true := by kernel_rfl
theorem enters : Try.checked.prog.mayEnter = true := mayEnter_of ioC bh sl lay noReflect door
theorem lifts : Try.checked.prog.liftsFinal = false := by unfold Program.liftsFinal Program.headLifts; rw [ioC]; kernel_rfl
theorem cut : Try.checked.prog.make = some .cut := make_of ioC bh
theorem c_laid : laidOutB Try.checked.prog = true := by kernel_rfl
theorem c_maps : mapsRowed Try.checked.prog = true := by kernel_rfl
theorem c_stops : (Try.checked.prog.stops == []) = true := by kernel_rfl
theorem c_knobs : (Try.checked.prog.stopKnobs == []) = true := by kernel_rfl
theorem c_heard : Try.checked.prog.stopsHeard = true := by kernel_rfl
end Go.Proofs.Ytcbkeekldbggkaa.T
