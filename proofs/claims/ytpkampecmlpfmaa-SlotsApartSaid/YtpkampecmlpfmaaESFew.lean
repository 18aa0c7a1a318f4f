import Derived.Test.YtpkampecmlpfmaaLE
import Derived.Test.YtpkampecmlpfmaaECSlots
set_option linter.unusedSimpArgs false
set_option linter.unusedVariables false
/- Few slots, walked. -/
namespace Go.Proofs.Ytpkampecmlpfmaa.T
open Go Go.VL Go.Proofs
set_option maxRecDepth 100000
set_option maxHeartbeats 4000000
def fewSlots (ids : List Int) (vecs : List (List Int)) : Prop := (∀ v ∈ vecs, v.length ≤ 100) ∧ ((ids.length ≤ 60 ∧ vecs.length ≤ 60) ∨ (ids.length = 257 ∧ vecs.length = 257))
instance (ids : List Int) (vecs : List (List Int)) : Decidable (fewSlots ids vecs) := by unfold fewSlots; infer_instance

theorem fewSlots_fun (dim : Int) (ids : List Int) (vecs : List (List Int)) : Fun Try.prog 32 [slotsD dim ids vecs] fun r => r = .v (.bool (decide (fewSlots ids vecs))) := by
  refine Fun.of_awpI Try.func32 rfl cal32 Try.ntmps32 (by simp) fun hwf => ?_
  simp only [D.wfs, D.wf, ints_length, ints_wfs, rows_length, rows_wfs, capMax, and_true, true_and] at hwf
  repeat' (first | simp only [go_sem, Ret_eq Try.results32] | fail)
  refine awpI_for vecs.length (fun k => ∀ i, i < k → (vecs.getD i []).length ≤ 100) (fun k => [(8, .v (.int .i64 k))]) (fun _ => []) [1, 6, 7] [1] _ (Weak.refl _) (fun i hi => absurd hi (Nat.not_lt_zero _)) ?_ ?_ ?_
  · simp only [go_sem, Ret_eq Try.results32]
  · simp only [go_sem, Ret_eq Try.results32]
  · intro k s hk hQ hs
    simp only [go_sem, Ret_eq Try.results32] at hs
    by_cases hka : k < vecs.length
    · by_cases q : (vecs.getD k []).length ≤ 100
      · repeat' (first | simp only [go_sem, hs, Ret_eq Try.results32] | simp (disch := omega) only [arith, IntKind.bits, capMax, fill_len, elt_fill] | (refine Again.up (by omega) ?_ ?_) | fail)
        intro i hi
        by_cases e : i < k
        · exact hQ i e
        · obtain rfl : i = k := by omega
          exact q
      · have hne : ¬ fewSlots ids vecs := fun r => q (r.1 _ (getD_mem (d := []) hka))
        rw [decide_eq_false hne]
        repeat' (first | simp only [go_sem, hs, Ret_eq Try.results32] | simp (disch := omega) only [arith, IntKind.bits, capMax, fill_len, elt_fill] | fail)
    · obtain rfl : k = vecs.length := by omega
      have hall : ∀ v ∈ vecs, v.length ≤ 100 := by
        intro v hv
        obtain ⟨i, hi, rfl⟩ := List.mem_iff_getElem.1 hv
        have := hQ i hi
        simpa [List.getD, hi] using this
      by_cases a : ids.length ≤ 60 ∧ vecs.length ≤ 60
      · rw [decide_eq_true ⟨hall, .inl a⟩]
        repeat' (first | simp only [go_sem, hs, Ret_eq Try.results32] | simp (disch := omega) only [arith, IntKind.bits, capMax, fill_len, elt_fill] | fail)
      · by_cases b : ids.length = 257 ∧ vecs.length = 257
        · rw [decide_eq_true ⟨hall, .inr b⟩]
          obtain ⟨b1, b2⟩ := b
          repeat' (first | simp only [go_sem, hs, b1, b2, Ret_eq Try.results32] | fail)
        · have hne : ¬ fewSlots ids vecs := fun r => r.2.elim a b
          rw [decide_eq_false hne]
          by_cases c1 : ids.length = 257
          · have hbe : ((vecs.length : Int) == 257) = false := beq_eq_false_iff_ne.2 (by omega)
            repeat' (first | simp only [go_sem, hs, c1, hbe, Ret_eq Try.results32] | simp (disch := omega) only [arith, IntKind.bits, capMax, fill_len, elt_fill] | fail)
          · have hbe : ((ids.length : Int) == 257) = false := beq_eq_false_iff_ne.2 (by omega)
            by_cases c2 : ids.length ≤ 60
            · repeat' (first | simp only [go_sem, hs, hbe, Ret_eq Try.results32] | simp (disch := omega) only [arith, IntKind.bits, capMax, fill_len, elt_fill] | fail)
            · repeat' (first | simp only [go_sem, hs, hbe, Ret_eq Try.results32] | simp (disch := omega) only [arith, IntKind.bits, capMax, fill_len, elt_fill] | fail)
end Go.Proofs.Ytpkampecmlpfmaa.T
