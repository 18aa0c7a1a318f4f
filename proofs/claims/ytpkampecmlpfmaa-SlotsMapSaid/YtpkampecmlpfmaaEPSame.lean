import Derived.Test.YtpkampecmlpfmaaLE
import Derived.Test.YtpkampecmlpfmaaEPLive
set_option linter.unusedSimpArgs false
set_option linter.unusedVariables false
/- Lists of numbers compared. -/
namespace Go.Proofs.Ytpkampecmlpfmaa.T
open Go Go.VL Go.Proofs
set_option maxRecDepth 100000

theorem sameInts_fun (a b : List Int) : Fun Try.prog 39 [.lst (ints .i64 a), .lst (ints .i64 b)] fun r => r = .v (.bool (decide (a = b))) := by
  refine Fun.of_awpI Try.func39 rfl cal39 Try.ntmps39 (by simp) fun hwf => ?_
  simp only [D.wfs, D.wf, ints_length, ints_wfs, capMax, and_true] at hwf
  simp only [go_sem, Ret_eq Try.results39]
  refine condI_split (fun h => ?_) (fun h => ?_)
  · have hne : a ≠ b := by rintro rfl; simp at h
    simp only [go_sem, h, decide_eq_false hne, Ret_eq Try.results39]
  · have hlen : a.length = b.length := by simp at h; omega
    simp only [go_sem, h, Ret_eq Try.results39]
    refine awpI_count a.length (fun k s => a.take k = b.take k ∧ At s 26 [(0, .lst (ints .i64 a)), (1, .lst (ints .i64 b)), (12, .v (.int .i64 a.length)), (13, .v (.int .i64 k))] []) _ (Weak.refl _) ?_ ?_
    · refine ⟨rfl, ?_⟩
      simp only [go_sem, Ret_eq Try.results39]
      try simp
    · rintro k s hk ⟨hp, hs⟩
      simp only [At, Slots_cons, Slots_nil, Heaps_nil, and_true] at hs
      simp only [go_sem, hs, Ret_eq Try.results39]
      refine condI_split (fun h5 => ?_) (fun h5 => ?_)
      · have hk1 : k < a.length := by simp at h5; omega
        have hk2 : k < b.length := by omega
        simp only [go_sem, hs, Ret_eq Try.results39]
        refine awpI_draw (.one false 0 (.one false 1 (.one false 2 (.one false 3 (.one false 4 (.one false 5 (.one false 6 (.one false 7 (.one false 8 .done))))))))) mixed (by decide +kernel) (by decide +kernel) ?_
        simp only [go_sem, hs, idx_ints hk1, idx_in hk1, idx_ints hk2, idx_in hk2, Ret_eq Try.results39]
        refine condI_split (fun h6 => ?_) (fun h6 => ?_)
        · have hne : a ≠ b := by rintro rfl; simp at h6
          simp only [go_sem, h6, hs, decide_eq_false hne, Ret_eq Try.results39]
        · have e : IntKind.i64.wrap ((k : Int) + 1) = ((k + 1 : Nat) : Int) := by rw [IntWalk.i64_in _ (by omega)]; rfl
          simp only [go_sem, h6, hs, e, Ret_eq Try.results39]
          refine Next.to hk1 ⟨?_, ?_⟩
          · have h7 : a[k] = b[k] := by simpa using h6
            rw [List.take_succ_eq_append_getElem hk1, List.take_succ_eq_append_getElem hk2, hp, h7]
          · simp only [go_sem, hs, Ret_eq Try.results39]
      · have hab : a = b := by
          have hka : k = a.length := by simp at h5; omega
          subst hka
          rw [List.take_length, hlen, List.take_length] at hp
          exact hp
        simp only [go_sem, h5, hs, decide_eq_true hab, Ret_eq Try.results39]
end Go.Proofs.Ytpkampecmlpfmaa.T
