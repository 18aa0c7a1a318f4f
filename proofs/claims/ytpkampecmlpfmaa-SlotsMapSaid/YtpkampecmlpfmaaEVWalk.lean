import Derived.Test.YtpkampecmlpfmaaLE
import Derived.Test.YtpkampecmlpfmaaEVSpec
import Derived.Test.YtpkampecmlpfmaaEG1F
set_option linter.unusedSimpArgs false
set_option linter.unusedVariables false
/- Vectors, walked. -/
namespace Go.Proofs.Ytpkampecmlpfmaa.T
open Go Go.VL Go.Proofs
set_option maxRecDepth 100000

theorem min_fun (l : List Int) (h : 1 ≤ l.length) : Fun Try.prog 152 [.lst (ints .i16 l)] fun r => r = .v (.int .i16 (minL l)) := by
  refine Fun.of_awpI Try.func152 rfl cal152 Try.ntmps152 (by simp) fun hwf => ?_
  simp only [D.wfs, D.wf, ints_length, ints_wfs, rows_length, rows_wfs, capMax, and_true, true_and] at hwf
  repeat' (first | simp only [go_sem, Ret_eq Try.results152] | simp (disch := omega) only [arith, IntKind.bits, capMax, fill_len, elt_fill] | fail)
  refine awpI_for (l.length - 1) (fun k => True) (fun k => [(3, .v (.int .i16 ((l.take (k + 1)).foldl mn (l.getD 0 0)))), (4, .v (.int .i64 ((k + 1 : Nat) : Int)))]) (fun _ => []) [0] [] _ (Weak.refl _) trivial ?_ ?_ ?_
  · simp only [go_sem, Ret_eq Try.results152]
    rw [foldl_take_snoc (d := 0) h]
    simp [mn]
  · simp only [go_sem, Ret_eq Try.results152]
  · intro k s hk _ hs
    simp only [go_sem, Ret_eq Try.results152] at hs
    by_cases hkl : k + 1 < l.length
    · have e := foldl_take_snoc (g := mn) (b := l.getD 0 0) (d := 0) hkl
      repeat' (first | simp only [go_sem, hs, minD_cons, minD_nil, Ret_eq Try.results152] | simp (disch := omega) only [arith, IntKind.bits, capMax, fill_len, elt_fill] | (refine Again.up (by omega) ?_ ?_) | fail)
      rw [e]; rfl
    · repeat' (first | simp only [go_sem, hs, Ret_eq Try.results152] | simp (disch := omega) only [arith, IntKind.bits, capMax, fill_len, elt_fill] | fail)
      rw [List.take_of_length_le (by omega)]; rfl

theorem vecCheck_fun (l : List Int) : Fun Try.prog 122 [.lst (ints .i16 l)] fun r => r = .v (.int .i64 (vecErr l)) := by
  refine Fun.of_awpI Try.func122 rfl cal122 Try.ntmps122 (by simp) fun hwf => ?_
  simp only [D.wfs, D.wf, ints_length, ints_wfs, rows_length, rows_wfs, capMax, and_true, true_and] at hwf
  repeat' (first | simp only [go_sem, Ret_eq Try.results122] | (with_reducible refine condI_dec (fun hq hqb => ?_) (fun hq hqb => ?_) <;> simp only [KP_mk, hqb]) | (refine opCallI_rd (by simp only [go_sem, Ret_eq Try.results122]; first | done | rfl) (min_fun _ (by omega)) (by rintro _ rfl; rfl) ?_; rintro _ rfl) | fail)
  · rw [vecErr_len (by omega)]
  · rw [vecErr_len (by omega)]
  · rw [vecErr_min (by omega) (by omega), if_pos (by omega)]
  · rw [vecErr_min (by omega) (by omega), if_neg (by omega)]

theorem equal16_fun (a b : List Int) : Fun Try.prog 143 [.lst (ints .i16 a), .lst (ints .i16 b)] fun r => r = .v (.bool (decide (a = b))) := by
  refine Fun.of_awpI Try.func143 rfl cal143 Try.ntmps143 (by simp) fun hwf => ?_
  simp only [D.wfs, D.wf, ints_length, ints_wfs, rows_length, rows_wfs, capMax, and_true, true_and] at hwf
  repeat' (first | simp only [go_sem, Ret_eq Try.results143] | (with_reducible refine condI_bne (fun hq hqb => ?_) (fun hq hqb => ?_) <;> simp only [KP_mk, hqb]) | fail)
  · rw [decide_eq_false]; rintro rfl; omega
  · have hl : a.length = b.length := by omega
    refine awpI_for a.length (fun k => a.take k = b.take k) (fun k => [(13, .v (.int .i64 k))]) (fun _ => []) [0, 1, 12] [] _ (Weak.refl _) (by simp) ?_ ?_ ?_
    · simp only [go_sem, Ret_eq Try.results143]
    · simp only [go_sem, Ret_eq Try.results143]
    · intro k s hk hQ hs
      simp only [go_sem, Ret_eq Try.results143] at hs
      by_cases hka : k < a.length
      · repeat' (first | simp only [go_sem, hs, Ret_eq Try.results143] | simp (disch := omega) only [arith, IntKind.bits, capMax, fill_len, elt_fill] | (with_reducible refine condI_bne (fun hq hqb => ?_) (fun hq hqb => ?_) <;> simp only [KP_mk, hqb]) | (refine awpI_draw (id := 6) (.one false 0 (.one false 1 (.one false 2 (.one false 3 (.one false 4 (.one false 5 (.one false 6 (.one false 7 (.one false 8 .done))))))))) mixed (by decide +kernel) (by decide +kernel) ?_) | (refine Again.up (by omega) ?_ ?_) | fail)
        · rw [decide_eq_false]; rintro rfl; simp_all
        · exact take_eq_snoc hka (by omega) hQ (by assumption)
      · obtain rfl : k = a.length := by omega
        rw [List.take_length, hl, List.take_length] at hQ
        subst hQ
        repeat' (first | simp only [go_sem, hs, Ret_eq Try.results143] | simp (disch := omega) only [arith, IntKind.bits, capMax, fill_len, elt_fill] | fail)

theorem vecSame_fun (a b : List Int) : Fun Try.prog 101 [.lst (ints .i16 a), .lst (ints .i16 b)] fun r => r = .v (.bool (decide (a = b))) := by
  refine Fun.of_awpI Try.func101 rfl cal101 Try.ntmps101 (by simp) fun hwf => ?_
  simp only [D.wfs, D.wf, ints_length, ints_wfs, rows_length, rows_wfs, capMax, and_true, true_and] at hwf
  repeat' (first | simp only [go_sem, Ret_eq Try.results101] | (refine opCallI_rd (by simp only [go_sem, Ret_eq Try.results101]; first | done | rfl) (equal16_fun _ _) (by rintro _ rfl; rfl) ?_; rintro _ rfl) | fail)

theorem refVecCheck_fun (l : List Int) : Fun Try.prog 108 [.lst (ints .i16 l)] fun r => r = .v (.int .i64 (vecErr l)) := by
  refine Fun.of_awpI Try.func108 rfl cal108 Try.ntmps108 (by simp) fun hwf => ?_
  simp only [D.wfs, D.wf, ints_length, ints_wfs, rows_length, rows_wfs, capMax, and_true, true_and] at hwf
  repeat' (first | simp only [go_sem, Ret_eq Try.results108] | (with_reducible refine condI_dec (fun hq hqb => ?_) (fun hq hqb => ?_) <;> simp only [KP_mk, hqb]) | fail)
  · rw [vecErr_len (by omega)]
  · rw [vecErr_len (by omega)]
  · refine awpI_for l.length (fun k => ∀ i, i < k → ¬ l.getD i 0 < -32767) (fun k => [(15, .v (.int .i64 k))]) (fun _ => []) [13, 14] [] _ (Weak.refl _) (by omega) ?_ ?_ ?_
    · simp only [go_sem, Ret_eq Try.results108]
    · simp only [go_sem, Ret_eq Try.results108]
    · intro k s hk hQ hs
      simp only [go_sem, Ret_eq Try.results108] at hs
      by_cases hka : k < l.length
      · repeat' (first | simp only [go_sem, hs, Ret_eq Try.results108] | simp (disch := omega) only [arith, IntKind.bits, capMax, fill_len, elt_fill] | (with_reducible refine condI_dec (fun hq hqb => ?_) (fun hq hqb => ?_) <;> simp only [KP_mk, hqb]) | (refine Again.up (by omega) ?_ ?_) | fail)
        · rw [vecErr_at hka (by assumption)]
        · intro i hi
          rcases Nat.lt_or_ge i k with h | h
          · exact hQ i h
          · obtain rfl : i = k := by omega
            assumption
      · obtain rfl : k = l.length := by omega
        repeat' (first | simp only [go_sem, hs, Ret_eq Try.results108] | simp (disch := omega) only [arith, IntKind.bits, capMax, fill_len, elt_fill] | fail)
        rw [vecErr_all (by omega) (by omega) hQ]

theorem refSame16_fun (a b : List Int) : Fun Try.prog 35 [.lst (ints .i16 a), .lst (ints .i16 b)] fun r => r = .v (.bool (decide (a = b))) := by
  refine Fun.of_awpI Try.func35 rfl cal35 Try.ntmps35 (by simp) fun hwf => ?_
  simp only [D.wfs, D.wf, ints_length, ints_wfs, rows_length, rows_wfs, capMax, and_true, true_and] at hwf
  repeat' (first | simp only [go_sem, Ret_eq Try.results35] | (with_reducible refine condI_bne (fun hq hqb => ?_) (fun hq hqb => ?_) <;> simp only [KP_mk, hqb]) | fail)
  · rw [decide_eq_false]; rintro rfl; omega
  · have hl : a.length = b.length := by omega
    refine awpI_for a.length (fun k => a.take k = b.take k) (fun k => [(13, .v (.int .i64 k))]) (fun _ => []) [0, 1, 12] [] _ (Weak.refl _) (by simp) ?_ ?_ ?_
    · simp only [go_sem, Ret_eq Try.results35]
    · simp only [go_sem, Ret_eq Try.results35]
    · intro k s hk hQ hs
      simp only [go_sem, Ret_eq Try.results35] at hs
      by_cases hka : k < a.length
      · repeat' (first | simp only [go_sem, hs, Ret_eq Try.results35] | simp (disch := omega) only [arith, IntKind.bits, capMax, fill_len, elt_fill] | (with_reducible refine condI_bne (fun hq hqb => ?_) (fun hq hqb => ?_) <;> simp only [KP_mk, hqb]) | (refine awpI_draw (id := 6) (.one false 0 (.one false 1 (.one false 2 (.one false 3 (.one false 4 (.one false 5 (.one false 6 (.one false 7 (.one false 8 .done))))))))) mixed (by decide +kernel) (by decide +kernel) ?_) | (refine Again.up (by omega) ?_ ?_) | fail)
        · rw [decide_eq_false]; rintro rfl; simp_all
        · exact take_eq_snoc hka (by omega) hQ (by assumption)
      · obtain rfl : k = a.length := by omega
        rw [List.take_length, hl, List.take_length] at hQ
        subst hQ
        repeat' (first | simp only [go_sem, hs, Ret_eq Try.results35] | simp (disch := omega) only [arith, IntKind.bits, capMax, fill_len, elt_fill] | fail)
end Go.Proofs.Ytpkampecmlpfmaa.T
