import Derived.Test.YtpkampecmlpfmaaLE
import Derived.Test.YtpkampecmlpfmaaEPTake
set_option linter.unusedSimpArgs false
set_option linter.unusedVariables false
/- The law's guard. -/
namespace Go.Proofs.Ytpkampecmlpfmaa.T
open Go Go.VL Go.Proofs
set_option maxRecDepth 100000
theorem Fun.cast {P : Program} {f : FuncId} {a b : List D} {R : D → Prop} (h : a = b) (hf : Fun P f b R) : Fun P f a R := h ▸ hf
def putRead (b : List Int) (w : Int) (l : List Int) : List Int := if putErr b w l = 0 then putOut b w l else []
theorem put_read (b : List Int) (width : Int) (l : List Int) : Fun Try.prog 109 [.lst (ints .u8 b), .v (.int .i64 width), .lst (ints .i64 l)] fun r =>
    r = .tup [.lst (ints .u8 (putRead b width l)), .v (.int .i64 (putErr b width l))] := by
  refine (put_fun b width l).toFun ?_
  rintro r o (⟨h1, rfl, rfl⟩ | ⟨h1, rfl, rfl⟩)
  · simp only [D.nrm, D.nrms, nilV, putRead, if_neg h1, ints_nil, if_true, Bool.false_eq_true, if_false]
  · simp only [putRead, h1, if_true, ints_nrms, ints_width1, D.frz, D.frzs, D.noRef, D.noRefs, D.nrm, D.nrms, nilV, ints_length, Nat.le_refl, ints_take, List.take_length, Bool.and_self, Bool.false_eq_true, if_false, and_self]
end Go.Proofs.Ytpkampecmlpfmaa.T
