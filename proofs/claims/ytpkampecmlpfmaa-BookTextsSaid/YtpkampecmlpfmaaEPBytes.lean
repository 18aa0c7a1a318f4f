import Derived.Test.YtpkampecmlpfmaaLE
import Derived.Test.YtpkampecmlpfmaaEPMath
import Derived.Test.YtpkampecmlpfmaaEPLive
set_option linter.unusedSimpArgs false
set_option linter.unusedVariables false
/- Two texts compared. -/
namespace Go.Proofs.Ytpkampecmlpfmaa.T
open Go Go.VL Go.Proofs
set_option maxRecDepth 100000

theorem sameOctets_fun (a b : List Int) (ha : Octets a) (hb : Octets b) : Fun Try.prog 60 [.lst (ints .u8 a), .lst (ints .u8 b)] fun r => r = .v (.bool (decide (a = b))) := by
  refine Fun.of_awpI Try.func60 rfl cal60 Try.ntmps60 (by simp) fun hwf => ?_
  simp only [D.wfs, D.wf, ints_length, ints_wfs, rows_length, rows_wfs, capMax, and_true, true_and] at hwf
  repeat' (first | simp only [go_sem, Ret_eq Try.results60] | simp (disch := omega) only [arith, IntKind.bits, capMax, fill_len, elt_fill] | (with_reducible refine condI_beq (fun hq hqb => ?_) (fun hq hqb => ?_) <;> simp only [KP_mk, hqb]) | (with_reducible refine condI_bne (fun hq hqb => ?_) (fun hq hqb => ?_) <;> simp only [KP_mk, hqb]) | (with_reducible refine condI_dec (fun hq hqb => ?_) (fun hq hqb => ?_) <;> simp only [KP_mk, hqb]) | (with_reducible refine condI_b (fun hqb => ?_) (fun hqb => ?_) <;> simp only [KP_mk, hqb]) | refine RetO_calc Try.results60 ?_ | refine RetL_calc Try.results60 rfl ?_ | (refine Again.up (by omega) ?_ ?_) | exact trivial | fail)
  exact strOfNums_inj ha hb
end Go.Proofs.Ytpkampecmlpfmaa.T
