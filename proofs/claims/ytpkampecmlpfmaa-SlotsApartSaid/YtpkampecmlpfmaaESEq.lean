import Derived.Test.YtpkampecmlpfmaaLE
import Derived.Test.YtpkampecmlpfmaaESPutM
import Derived.Test.YtpkampecmlpfmaaEVWalk
set_option linter.unusedSimpArgs false
set_option linter.unusedVariables false
/- Slots, and lists of vectors, the same, walked. -/
namespace Go.Proofs.Ytpkampecmlpfmaa.T
open Go Go.VL Go.Proofs
set_option maxRecDepth 100000
set_option maxHeartbeats 4000000

theorem equal64_fun (a b : List Int) : Fun Try.prog 99 [.lst (ints .i64 a), .lst (ints .i64 b)] fun r => r = .v (.bool (decide (a = b))) := by
  refine Fun.of_awpI Try.func99 rfl cal99 Try.ntmps99 (by simp) fun hwf => ?_
  simp only [D.wfs, D.wf, ints_length, ints_wfs, rows_length, rows_wfs, capMax, and_true, true_and] at hwf
  repeat' (first | simp only [go_sem, Ret_eq Try.results99] | (with_reducible refine condI_bne (fun hq hqb => ?_) (fun hq hqb => ?_) <;> simp only [KP_mk, hqb]) | fail)
  · rw [decide_eq_false]; rintro rfl; omega
  · have hl : a.length = b.length := by omega
    refine awpI_for a.length (fun k => a.take k = b.take k) (fun k => [(13, .v (.int .i64 k))]) (fun _ => []) [0, 1, 12] [] _ (Weak.refl _) (by simp) ?_ ?_ ?_
    · simp only [go_sem, Ret_eq Try.results99]
    · simp only [go_sem, Ret_eq Try.results99]
    · intro k s hk hQ hs
      simp only [go_sem, Ret_eq Try.results99] at hs
      by_cases hka : k < a.length
      · repeat' (first | simp only [go_sem, hs, Ret_eq Try.results99] | simp (disch := omega) only [arith, IntKind.bits, capMax, fill_len, elt_fill] | (with_reducible refine condI_bne (fun hq hqb => ?_) (fun hq hqb => ?_) <;> simp only [KP_mk, hqb]) | (refine awpI_draw2 (id := 6) (.one false 0 (.one false 1 (.one false 2 (.one false 3 (.one false 4 (.one false 5 (.one false 6 (.one false 7 (.one false 8 .done))))))))) mixed (by decide +kernel) (by decide +kernel) ?_) | (refine Again.up (by omega) ?_ ?_) | fail)
        · rw [decide_eq_false]; rintro rfl; simp_all
        · exact take_eq_snoc hka (by omega) hQ (by assumption)
      · obtain rfl : k = a.length := by omega
        rw [List.take_length, hl, List.take_length] at hQ
        subst hQ
        repeat' (first | simp only [go_sem, hs, Ret_eq Try.results99] | simp (disch := omega) only [arith, IntKind.bits, capMax, fill_len, elt_fill] | fail)

theorem equalVecs_fun (a b : List (List Int)) : Fun Try.prog 100 [.lst (rows .i16 a), .lst (rows .i16 b), .clos (.func 101) []] fun r => r = .v (.bool (decide (a = b))) := by
  refine Fun.of_awpI Try.func100 rfl cal100 Try.ntmps100 (by simp) fun hwf => ?_
  simp only [D.wfs, D.wf, ints_length, ints_wfs, rows_length, rows_wfs, capMax, and_true, true_and] at hwf
  have hlb : b.length ≤ 9223372036854775807 := by have := hwf.2.1; exact this
  have hla : a.length ≤ 9223372036854775807 := by have := hwf.1.1; exact this
  by_cases hl : a.length = b.length
  · repeat' (first | simp only [go_sem, hl, Ret_eq Try.results100] | simp (disch := omega) only [arith, IntKind.bits, capMax, fill_len, elt_fill] | fail)
    refine awpI_for b.length (fun k => a.take k = b.take k) (fun k => [(17, .v (.int .i64 k))]) (fun _ => []) [1, 2, 15, 16] [] _ (Weak.refl _) (by simp) ?_ ?_ ?_
    · simp only [go_sem, Ret_eq Try.results100]
    · simp only [go_sem, Ret_eq Try.results100]
    · intro k s hk hQ hs
      simp only [go_sem, Ret_eq Try.results100] at hs
      by_cases hka : k < b.length
      · have e1 := take_snoc (a := a) (d := ([] : List Int)) (k := k) (by omega)
        have e2 := take_snoc (a := b) (d := ([] : List Int)) hka
        have hs1 := vecSame_fun (a.getD k []) (b.getD k [])
        by_cases hv : a.getD k [] = b.getD k []
        · rw [decide_eq_true hv] at hs1
          repeat' (first | simp only [go_sem, hs, Ret_eq Try.results100] | simp (disch := omega) only [arith, IntKind.bits, capMax, fill_len, elt_fill] | (refine Again.up (by omega) ?_ ?_) | (refine opCallI_rd (by simp only [go_sem, hs, Ret_eq Try.results100]; first | done | rfl) (hs1) (by rintro _ rfl; rfl) ?_; rintro _ rfl) | fail)
          rw [e1, e2, hQ, hv]
        · rw [decide_eq_false hv] at hs1
          have hne : a ≠ b := fun q => hv (by rw [q])
          repeat' (first | simp only [go_sem, hs, decide_eq_false hne, Ret_eq Try.results100] | simp (disch := omega) only [arith, IntKind.bits, capMax, fill_len, elt_fill] | (refine opCallI_rd (by simp only [go_sem, hs, decide_eq_false hne, Ret_eq Try.results100]; first | done | rfl) (hs1) (by rintro _ rfl; rfl) ?_; rintro _ rfl) | fail)
      · obtain rfl : k = b.length := by omega
        have hQ3 : a = b := by
          rw [List.take_length, ← hl, List.take_length] at hQ; exact hQ
        repeat' (first | simp only [go_sem, hs, decide_eq_true hQ3, Ret_eq Try.results100] | simp (disch := omega) only [arith, IntKind.bits, capMax, fill_len, elt_fill] | fail)
  · have hne : a ≠ b := fun q => hl (by rw [q])
    repeat' (first | simp only [go_sem, decide_eq_false hne, Ret_eq Try.results100] | simp (disch := omega) only [arith, IntKind.bits, capMax, fill_len, elt_fill] | fail)

theorem slotsSame_fun (d : Int) (a : List Int) (v : List (List Int)) (d2 : Int) (a2 : List Int) (v2 : List (List Int)) : Fun Try.prog 36 [slotsD d a v, slotsD d2 a2 v2] fun r => r = .v (.bool (decide (d = d2 ∧ a = a2 ∧ v = v2))) := by
  have h2 := equal64_fun a a2
  have h3 := equalVecs_fun v v2
  refine Fun.of_awpI Try.func36 rfl cal36 Try.ntmps36 (by simp) fun hwf => ?_
  simp only [D.wfs, D.wf, ints_length, ints_wfs, rows_length, rows_wfs, capMax, and_true, true_and] at hwf
  by_cases g1 : d = d2
  · have b1 : (d == d2) = true := beq_iff_eq.2 g1
    by_cases g2 : a = a2
    · rw [decide_eq_true g2] at h2
      have e : decide (d = d2 ∧ a = a2 ∧ v = v2) = decide (v = v2) := by simp [g1, g2]
      rw [e]
      repeat' (first | simp only [go_sem, b1, Ret_eq Try.results36] | (refine opCallI_rd (by simp only [go_sem, b1, Ret_eq Try.results36]; first | done | rfl) (h2) (by rintro _ rfl; rfl) ?_; rintro _ rfl) | (refine opCallI_rd (by simp only [go_sem, b1, Ret_eq Try.results36]; first | done | rfl) (h3) (by rintro _ rfl; rfl) ?_; rintro _ rfl) | fail)
    · rw [decide_eq_false g2] at h2
      rw [decide_eq_false (fun q => g2 q.2.1)]
      repeat' (first | simp only [go_sem, b1, Ret_eq Try.results36] | (refine opCallI_rd (by simp only [go_sem, b1, Ret_eq Try.results36]; first | done | rfl) (h2) (by rintro _ rfl; rfl) ?_; rintro _ rfl) | fail)
  · have b1 : (d == d2) = false := beq_eq_false_iff_ne.2 g1
    rw [decide_eq_false (fun q => g1 q.1)]
    repeat' (first | simp only [go_sem, b1, Ret_eq Try.results36] | fail)
end Go.Proofs.Ytpkampecmlpfmaa.T
