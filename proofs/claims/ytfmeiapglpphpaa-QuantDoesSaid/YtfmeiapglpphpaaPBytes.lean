import Derived.Test.YtfmeiapglpphpaaPMath
import Derived.Test.YtfmeiapglpphpaaPLive
import Derived.Test.YtfmeiapglpphpaaLB
set_option linter.unusedSimpArgs false
set_option linter.unusedVariables false
/- Two texts compared. -/
namespace Go.Proofs.Ytfmeiapglpphpaa.T
open Go Go.VL Go.Proofs
set_option maxRecDepth 100000

theorem sameOctets_fun (a b : List Int) (ha : Octets a) (hb : Octets b) : Fun Try.prog 41 [.lst (ints .u8 a), .lst (ints .u8 b)] fun r => r = .v (.bool (decide (a = b))) := by
  refine Fun.of_awpI Try.func41 rfl cal41 Try.ntmps41 (by simp) fun hwf => ?_
  simp only [D.wfs, D.wf, ints_length, ints_wfs, rows_length, rows_wfs, capMax, and_true, true_and] at hwf
  repeat' (first | simp only [go_sem, Nat.reduceEqDiff, Nat.reduceAdd, Nat.reduceLT, Nat.reduceMul, Nat.reduceSub, ↓reduceIte, reduceCtorEq, Nat.reduceLeDiff, Nat.reduceBEq, Int.reduceBEq, Int.reduceBNe, Int.reduceLT, Int.reduceLE, Int.reduceToNat, Int.reduceGT, Int.reduceGE, Int.reduceEq, Int.reducePow, Nat.reducePow, Ret_eq Try.results41] | simp (disch := omega) only [arith, IntKind.bits, capMax, fill_len, elt_fill] | (with_reducible refine condI_beq (fun hq hqb => ?_) (fun hq hqb => ?_) <;> simp only [KP_mk, hqb]) | (with_reducible refine condI_bne (fun hq hqb => ?_) (fun hq hqb => ?_) <;> simp only [KP_mk, hqb]) | (with_reducible refine condI_dec (fun hq hqb => ?_) (fun hq hqb => ?_) <;> simp only [KP_mk, hqb]) | (with_reducible refine condI_b (fun hqb => ?_) (fun hqb => ?_) <;> simp only [KP_mk, hqb]) | refine RetO_calc Try.results41 ?_ | (refine Again.up (by omega) ?_ ?_) | exact trivial | fail)
  exact strOfNums_inj ha hb
end Go.Proofs.Ytfmeiapglpphpaa.T
