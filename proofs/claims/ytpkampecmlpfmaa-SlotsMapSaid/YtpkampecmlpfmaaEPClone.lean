import Derived.Test.YtpkampecmlpfmaaLE
import Derived.Test.YtpkampecmlpfmaaEG1F
set_option linter.unusedSimpArgs false
set_option linter.unusedVariables false
/- Octets copied. -/
namespace Go.Proofs.Ytpkampecmlpfmaa.T
open Go Go.VL Go.Proofs
set_option maxRecDepth 100000

theorem clone_fun (b : List Int) (hb : b.length ≤ 140737488355328) : FunO Try.prog 148 [.lst (ints .u8 b)] fun r o => r = .ref 0 b.length ∧ o = some ⟨5, 1, ints .u8 b⟩ := by
  refine FunO.of_awpI Try.func148 rfl cal148 Try.ntmps148 (by simp) fun hwf => ?_
  simp only [D.wfs, D.wf, ints_length, ints_wfs, capMax, and_true] at hwf
  simp only [go_sem, Ret_eq Try.results148]
  refine opBinI_isNil fact_sl22 fun c hc => ?_
  rw [ints_isNil] at hc
  simp only [go_sem, Ret_eq Try.results148]
  refine condI_split (fun h => ?_) (fun h => ?_)
  · simp only [go_sem, h, Ret_eq Try.results148]
    have hb := hc h
    subst hb
    refine RetO.weak (Weak.adopt (j := 2) 2 5 1 (by simp only [go_sem, Ret_eq Try.results148]) (by simp only [go_sem, Ret_eq Try.results148]) (by decide)) ?_
    exact RetO_own Try.results148 (ds := [.ref 2 0]) (by simp only [go_sem, Ret_eq Try.results148]) 2 ⟨5, 1, []⟩ (by simp only [go_sem, Ret_eq Try.results148]) (by simp only [go_sem, Ret_eq Try.results148]) [] _ rfl (by simp only [go_sem, Ret_eq Try.results148]) (by intro i hi; simpa [D.idss, D.ids] using hi) ⟨rfl, rfl⟩
  · simp only [go_sem, h, Ret_eq Try.results148]
    refine reqI_of (by simp only [capMax]; omega) ?_
    simp only [go_sem, Ret_eq Try.results148]
    exact RetO_own Try.results148 (ds := [.ref 5 b.length]) (by simp only [go_sem, Ret_eq Try.results148]) 5 ⟨5, 1, ints .u8 b⟩ (by simp only [go_sem, Ret_eq Try.results148]) (by simp only [go_sem, Ret_eq Try.results148]) [] _ rfl (by simp only [go_sem, Ret_eq Try.results148]) (by intro i hi; simpa [D.idss, D.ids] using hi) ⟨rfl, rfl⟩
end Go.Proofs.Ytpkampecmlpfmaa.T
