import Derived.Test.YtfmeiapglpphpaaDoorRows
import Derived.Test.YtfmeiapglpphpaaDoorLE
/- The head of the program: closed facts that every row asks. -/
namespace Go.Proofs.YtfmeiapglpphpaaDoor.T
open Go Go.VL Go.Proofs Go.Proofs.YtfmeiapglpphpaaDoor
set_option maxRecDepth 100000
theorem own : ownKnob Tryd.prog.godebug = none := by kernel_rfl
theorem laidOut : laidOutB Tryd.prog = true := by kernel_rfl
def ioW : List (List Char) := [
  [(Char.ofNat 104), (Char.ofNat 97), (Char.ofNat 114), (Char.ofNat 110), (Char.ofNat 101), (Char.ofNat 115), (Char.ofNat 115)],
  [(Char.ofNat 55), (Char.ofNat 97), (Char.ofNat 97), (Char.ofNat 99), (Char.ofNat 101), (Char.ofNat 101), (Char.ofNat 102), (Char.ofNat 56), (Char.ofNat 97), (Char.ofNat 57), (Char.ofNat 56), (Char.ofNat 56), (Char.ofNat 50), (Char.ofNat 51), (Char.ofNat 55), (Char.ofNat 56), (Char.ofNat 51), (Char.ofNat 56), (Char.ofNat 48), (Char.ofNat 54), (Char.ofNat 54), (Char.ofNat 101), (Char.ofNat 98), (Char.ofNat 49), (Char.ofNat 56), (Char.ofNat 48), (Char.ofNat 49), (Char.ofNat 49), (Char.ofNat 101), (Char.ofNat 57), (Char.ofNat 54), (Char.ofNat 52), (Char.ofNat 52), (Char.ofNat 97), (Char.ofNat 50), (Char.ofNat 100), (Char.ofNat 50), (Char.ofNat 100), (Char.ofNat 98), (Char.ofNat 101), (Char.ofNat 49), (Char.ofNat 102), (Char.ofNat 51), (Char.ofNat 51), (Char.ofNat 50), (Char.ofNat 102), (Char.ofNat 48), (Char.ofNat 54), (Char.ofNat 50), (Char.ofNat 102), (Char.ofNat 102), (Char.ofNat 56), (Char.ofNat 48), (Char.ofNat 53), (Char.ofNat 53), (Char.ofNat 54), (Char.ofNat 98), (Char.ofNat 52), (Char.ofNat 97), (Char.ofNat 52), (Char.ofNat 98), (Char.ofNat 51), (Char.ofNat 48), (Char.ofNat 102)],
  [(Char.ofNat 99), (Char.ofNat 117), (Char.ofNat 116)],
  [(Char.ofNat 97), (Char.ofNat 116)],
  [(Char.ofNat 99), (Char.ofNat 117), (Char.ofNat 118), (Char.ofNat 101), (Char.ofNat 116), (Char.ofNat 116), (Char.ofNat 101), (Char.ofNat 47), (Char.ofNat 99), (Char.ofNat 117), (Char.ofNat 118), (Char.ofNat 101), (Char.ofNat 116), (Char.ofNat 116), (Char.ofNat 101), (Char.ofNat 108), (Char.ofNat 97), (Char.ofNat 119), (Char.ofNat 49), (Char.ofNat 56), (Char.ofNat 46), (Char.ofNat 65), (Char.ofNat 115), (Char.ofNat 107), (Char.ofNat 66), (Char.ofNat 111), (Char.ofNat 117), (Char.ofNat 110), (Char.ofNat 100), (Char.ofNat 115)],
  [(Char.ofNat 99), (Char.ofNat 117), (Char.ofNat 118), (Char.ofNat 101), (Char.ofNat 116), (Char.ofNat 116), (Char.ofNat 101), (Char.ofNat 47), (Char.ofNat 99), (Char.ofNat 117), (Char.ofNat 118), (Char.ofNat 101), (Char.ofNat 116), (Char.ofNat 116), (Char.ofNat 101), (Char.ofNat 108), (Char.ofNat 97), (Char.ofNat 119), (Char.ofNat 49), (Char.ofNat 56), (Char.ofNat 46), (Char.ofNat 65), (Char.ofNat 115), (Char.ofNat 107), (Char.ofNat 68), (Char.ofNat 111), (Char.ofNat 101), (Char.ofNat 115)],
  [(Char.ofNat 99), (Char.ofNat 117), (Char.ofNat 118), (Char.ofNat 101), (Char.ofNat 116), (Char.ofNat 116), (Char.ofNat 101), (Char.ofNat 47), (Char.ofNat 99), (Char.ofNat 117), (Char.ofNat 118), (Char.ofNat 101), (Char.ofNat 116), (Char.ofNat 116), (Char.ofNat 101), (Char.ofNat 108), (Char.ofNat 97), (Char.ofNat 119), (Char.ofNat 49), (Char.ofNat 56), (Char.ofNat 46), (Char.ofNat 65), (Char.ofNat 115), (Char.ofNat 107), (Char.ofNat 66), (Char.ofNat 97), (Char.ofNat 99), (Char.ofNat 107)],
  [(Char.ofNat 99), (Char.ofNat 117), (Char.ofNat 118), (Char.ofNat 101), (Char.ofNat 116), (Char.ofNat 116), (Char.ofNat 101), (Char.ofNat 47), (Char.ofNat 99), (Char.ofNat 117), (Char.ofNat 118), (Char.ofNat 101), (Char.ofNat 116), (Char.ofNat 116), (Char.ofNat 101), (Char.ofNat 108), (Char.ofNat 97), (Char.ofNat 119), (Char.ofNat 49), (Char.ofNat 56), (Char.ofNat 46), (Char.ofNat 65), (Char.ofNat 115), (Char.ofNat 107), (Char.ofNat 76), (Char.ofNat 111), (Char.ofNat 110), (Char.ofNat 103)]]
theorem io0 : Tryd.prog.initOrder = String.ofList (joinW ioW) := by kernel_rfl
theorem io : wordsSigns Tryd.prog.initOrder.toList = ioW := by rw [io0, String.toList_ofList]; exact ws_join _ (by simp [ioW]) (by kernel_rfl)
theorem ioC : wordsSigns Tryd.checked.prog.initOrder.toList = ioW := io
theorem bh : behindMainWord ioW = [(Char.ofNat 99), (Char.ofNat 117), (Char.ofNat 116)] :: (ioW.drop 3) := by kernel_rfl
theorem sl : stripLifts liftWords ([(Char.ofNat 99), (Char.ofNat 117), (Char.ofNat 116)] :: (ioW.drop 3)) = ([], [(Char.ofNat 99), (Char.ofNat 117), (Char.ofNat 116)] :: (ioW.drop 3)) := by kernel_rfl
theorem lay : Tryd.checked.prog.laysLater = false := by kernel_rfl
theorem noReflect : Tryd.checked.prog.bearsReflect = false := by kernel_rfl
theorem door : Tryd.checked.prog.doorFits [] = true := by kernel_rfl
theorem enters : Tryd.checked.prog.mayEnter = true := mayEnter_of ioC bh sl lay noReflect door
theorem lifts : Tryd.checked.prog.liftsFinal = false := by unfold Program.liftsFinal Program.headLifts; rw [ioC]; kernel_rfl
theorem cut : Tryd.checked.prog.make = some .cut := make_of ioC bh
theorem c_laid : laidOutB Tryd.checked.prog = true := by kernel_rfl
theorem c_maps : mapsRowed Tryd.checked.prog = true := by kernel_rfl
theorem c_stops : (Tryd.checked.prog.stops == []) = true := by kernel_rfl
theorem c_knobs : (Tryd.checked.prog.stopKnobs == []) = true := by kernel_rfl
theorem c_heard : Tryd.checked.prog.stopsHeard = true := by kernel_rfl
theorem c_keys : Tryd.checked.prog.plainKeys = true := by kernel_rfl
end Go.Proofs.YtfmeiapglpphpaaDoor.T
