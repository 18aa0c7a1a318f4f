import Derived.Test.YtpkampecmlpfmaaLE
import Derived.Test.YtpkampecmlpfmaaESeqW
import Derived.Test.YtpkampecmlpfmaaESoK16
import Derived.Test.YtpkampecmlpfmaaERkCuts
set_option linter.unusedSimpArgs false
set_option linter.unusedVariables false
/- slices.Sorted over slices.Values at int16, walked. -/
namespace Go.Proofs.Ytpkampecmlpfmaa.T
open Go Go.VL Go.Proofs
set_option maxRecDepth 100000
set_option maxHeartbeats 8000000

theorem sorted16 : Sorted16 := by
  intro l h1 h2
  have hcol := collect16_fun l h1 h2
  have hso := sort16 l h2
  have hsl := sortI_length l
  refine FunO.of_awpI Try.func89 rfl cal89 Try.ntmps89 (by simp) fun hwf => ?_
  simp only [D.wfs, D.wf, ints_length, ints_wfs, rows_length, rows_wfs, capMax, and_true, true_and] at hwf
  repeat' (first | simp only [go_sem, Ret_eq Try.results89] | simp (disch := omega) only [arith, IntKind.bits, capMax, fill_len, elt_fill] | (with_reducible refine condI_beq (fun hq hqb => ?_) (fun hq hqb => ?_) <;> simp only [KP_mk, hqb]) | (with_reducible refine condI_bne (fun hq hqb => ?_) (fun hq hqb => ?_) <;> simp only [KP_mk, hqb]) | (with_reducible refine condI_dec (fun hq hqb => ?_) (fun hq hqb => ?_) <;> simp only [KP_mk, hqb]) | (with_reducible refine condI_b (fun hqb => ?_) (fun hqb => ?_) <;> simp only [KP_mk, hqb]) | refine RetO_calc Try.results89 ?_ | refine RetL_calc Try.results89 rfl ?_ | (refine Again.up (by omega) ?_ ?_) | exact trivial | (refine opCallI_ownGv (by simp only [go_sem, Ret_eq Try.results89]; first | done | rfl) (hcol) ?_; rintro _ _ ⟨rfl, rfl⟩) | fail)
  refine opCallI_lend [5] (by simp only [go_sem, Ret_eq Try.results89]; first | done | rfl) (by simp only [go_sem, Ret_eq Try.results89]; first | done | rfl) (by decide) (by simp only [go_sem, Ret_eq Try.results89]; first | done | decide) (by simp only [go_sem, Ret_eq Try.results89]; first | done | decide) hso ?_
  rintro _ _ ⟨rfl, rfl⟩
  repeat' (first | simp only [go_sem, hsl, Ret_eq Try.results89] | simp (disch := omega) only [arith, IntKind.bits, capMax, fill_len, elt_fill] | (with_reducible refine condI_beq (fun hq hqb => ?_) (fun hq hqb => ?_) <;> simp only [KP_mk, hqb]) | (with_reducible refine condI_bne (fun hq hqb => ?_) (fun hq hqb => ?_) <;> simp only [KP_mk, hqb]) | (with_reducible refine condI_dec (fun hq hqb => ?_) (fun hq hqb => ?_) <;> simp only [KP_mk, hqb]) | (with_reducible refine condI_b (fun hqb => ?_) (fun hqb => ?_) <;> simp only [KP_mk, hqb]) | refine RetO_calc Try.results89 ?_ | refine RetL_calc Try.results89 rfl ?_ | (refine Again.up (by omega) ?_ ?_) | exact trivial | fail)
end Go.Proofs.Ytpkampecmlpfmaa.T
