import Derived.Test.YtpkampecmlpfmaaLE
import Derived.Test.YtpkampecmlpfmaaEQBox
import Derived.Test.YtpkampecmlpfmaaEG1P
set_option linter.unusedSimpArgs false
set_option linter.unusedVariables false
/- The chapter's example; small books. -/
namespace Go.Proofs.Ytpkampecmlpfmaa.T
open Go Go.VL Go.Proofs
set_option maxRecDepth 100000
set_option maxHeartbeats 4000000
def fewB (cuts : List (List Int)) : Bool := cuts.all (fun c => decide (c.length ≤ 100)) && decide (cuts.length ≤ 100)
theorem few_all {cuts : List (List Int)} (h : fewB cuts = true) : cuts.length ≤ 100 ∧ ∀ c ∈ cuts, c.length ≤ 100 := by
  unfold fewB at h
  rw [Bool.and_eq_true, List.all_eq_true, decide_eq_true_eq] at h
  exact ⟨h.2, fun c hc => by simpa using h.1 c hc⟩

theorem few_fun (w : Int) (cuts : List (List Int)) : Fun Try.prog 51 [.agg [.v (.int .i64 w), .lst (rows .i16 cuts)]] fun r => r = .v (.bool (fewB cuts)) := by
  refine Fun.of_awpI Try.func51 rfl cal51 Try.ntmps51 (by simp) fun hwf => ?_
  simp only [D.wfs, D.wf, ints_length, ints_wfs, rows_length, rows_wfs, capMax, and_true, true_and] at hwf
  repeat' (first | simp only [go_sem, Ret_eq Try.results51] | fail)
  refine awpI_for cuts.length (fun k => ∀ i, i < k → (cuts.getD i []).length ≤ 100) (fun k => [(8, .v (.int .i64 k))]) (fun _ => []) [1, 6, 7] [1] _ (Weak.refl _) (fun i hi => by omega) ?_ ?_ ?_
  · simp only [go_sem, Ret_eq Try.results51]
  · simp only [go_sem, Ret_eq Try.results51]
  · intro k s hk hQ hs
    simp only [go_sem, Ret_eq Try.results51] at hs
    by_cases hka : k < cuts.length
    · repeat' (first | simp only [go_sem, hs, Ret_eq Try.results51] | simp (disch := omega) only [arith, IntKind.bits, capMax, fill_len, elt_fill] | (with_reducible refine condI_dec (fun hq hqb => ?_) (fun hq hqb => ?_) <;> simp only [KP_mk, hqb]) | (refine Again.up (by omega) ?_ ?_) | fail)
      · symm
        unfold fewB
        rw [Bool.and_eq_false_iff]
        exact .inl (by rw [List.all_eq_false]; exact ⟨_, getD_mem (d := []) hka, by rw [decide_eq_true_eq]; omega⟩)
      · intro i hi
        by_cases hik : i = k
        · subst hik; omega
        · exact hQ i (by omega)
    · obtain rfl : k = cuts.length := by omega
      repeat' (first | simp only [go_sem, hs, Ret_eq Try.results51] | simp (disch := omega) only [arith, IntKind.bits, capMax, fill_len, elt_fill] | fail)
      unfold fewB
      have : cuts.all (fun c => decide (c.length ≤ 100)) = true := by
        rw [List.all_eq_true]
        intro c hc
        obtain ⟨i, hi, rfl⟩ := List.mem_iff_getElem.1 hc
        have := hQ i hi
        simp [List.getD, hi] at this
        simpa using this
      rw [this, Bool.true_and]
      exact decide_eq_decide.2 (by omega)
end Go.Proofs.Ytpkampecmlpfmaa.T
