import Derived.Test.YtpkampecmlpfmaaLE
import Derived.Test.YtpkampecmlpfmaaEBkFrom
set_option linter.unusedSimpArgs false
set_option linter.unusedVariables false
/- Plain books, how long a text is, books told the same; walked. -/
namespace Go.Proofs.Ytpkampecmlpfmaa.T
open Go Go.VL Go.Proofs
set_option maxRecDepth 100000
set_option maxHeartbeats 8000000
theorem any_width : D.any.width = 1 := rfl
theorem setPart_xr {i n : Nat} : setPart .any 0 (.ref i n) = some (.ref i n) := (rfl)

theorem bwithin_fun (n m : Int) : Fun Try.prog 114 [.v (.int .i64 n), .v (.int .i64 m)] fun r => r = .v (.bool (decide (sizesOk n m))) := by
  refine Fun.of_awpI Try.func114 rfl cal114 Try.ntmps114 (by simp) fun hwf => ?_
  simp only [D.wfs, D.wf, ints_length, ints_wfs, rows_length, rows_wfs, capMax, and_true, true_and] at hwf
  by_cases h : sizesOk n m
  · rw [decide_eq_true h]
    obtain ⟨⟨h1, h2⟩, h3, h4⟩ := h
    by_cases q : m < n
    · have e : (if m < n then m else n) = m := if_pos q
      repeat' (first | simp only [go_sem, e, Ret_eq Try.results114] | simp (disch := omega) only [arith, IntKind.bits, capMax, fill_len, elt_fill] | (with_reducible refine condI_beq (fun hq hqb => ?_) (fun hq hqb => ?_) <;> simp only [KP_mk, hqb]) | (with_reducible refine condI_bne (fun hq hqb => ?_) (fun hq hqb => ?_) <;> simp only [KP_mk, hqb]) | (with_reducible refine condI_dec (fun hq hqb => ?_) (fun hq hqb => ?_) <;> simp only [KP_mk, hqb]) | (with_reducible refine condI_b (fun hqb => ?_) (fun hqb => ?_) <;> simp only [KP_mk, hqb]) | refine RetO_calc Try.results114 ?_ | refine RetL_calc Try.results114 rfl ?_ | (refine Again.up (by omega) ?_ ?_) | exact trivial | fail)
    · have e : (if m < n then m else n) = n := if_neg q
      repeat' (first | simp only [go_sem, e, Ret_eq Try.results114] | simp (disch := omega) only [arith, IntKind.bits, capMax, fill_len, elt_fill] | (with_reducible refine condI_beq (fun hq hqb => ?_) (fun hq hqb => ?_) <;> simp only [KP_mk, hqb]) | (with_reducible refine condI_bne (fun hq hqb => ?_) (fun hq hqb => ?_) <;> simp only [KP_mk, hqb]) | (with_reducible refine condI_dec (fun hq hqb => ?_) (fun hq hqb => ?_) <;> simp only [KP_mk, hqb]) | (with_reducible refine condI_b (fun hqb => ?_) (fun hqb => ?_) <;> simp only [KP_mk, hqb]) | refine RetO_calc Try.results114 ?_ | refine RetL_calc Try.results114 rfl ?_ | (refine Again.up (by omega) ?_ ?_) | exact trivial | fail)
  · rw [decide_eq_false h]
    by_cases q : m < n
    · have e : (if m < n then m else n) = m := if_pos q
      by_cases h1 : 1 ≤ m
      · by_cases h2 : n ≤ 64
        · have h3 : ¬ m ≤ 16 := fun r => h ⟨⟨by omega, h2⟩, h1, r⟩
          repeat' (first | simp only [go_sem, e, Ret_eq Try.results114] | simp (disch := omega) only [arith, IntKind.bits, capMax, fill_len, elt_fill] | (with_reducible refine condI_beq (fun hq hqb => ?_) (fun hq hqb => ?_) <;> simp only [KP_mk, hqb]) | (with_reducible refine condI_bne (fun hq hqb => ?_) (fun hq hqb => ?_) <;> simp only [KP_mk, hqb]) | (with_reducible refine condI_dec (fun hq hqb => ?_) (fun hq hqb => ?_) <;> simp only [KP_mk, hqb]) | (with_reducible refine condI_b (fun hqb => ?_) (fun hqb => ?_) <;> simp only [KP_mk, hqb]) | refine RetO_calc Try.results114 ?_ | refine RetL_calc Try.results114 rfl ?_ | (refine Again.up (by omega) ?_ ?_) | exact trivial | fail)
        · repeat' (first | simp only [go_sem, e, Ret_eq Try.results114] | simp (disch := omega) only [arith, IntKind.bits, capMax, fill_len, elt_fill] | (with_reducible refine condI_beq (fun hq hqb => ?_) (fun hq hqb => ?_) <;> simp only [KP_mk, hqb]) | (with_reducible refine condI_bne (fun hq hqb => ?_) (fun hq hqb => ?_) <;> simp only [KP_mk, hqb]) | (with_reducible refine condI_dec (fun hq hqb => ?_) (fun hq hqb => ?_) <;> simp only [KP_mk, hqb]) | (with_reducible refine condI_b (fun hqb => ?_) (fun hqb => ?_) <;> simp only [KP_mk, hqb]) | refine RetO_calc Try.results114 ?_ | refine RetL_calc Try.results114 rfl ?_ | (refine Again.up (by omega) ?_ ?_) | exact trivial | fail)
      · repeat' (first | simp only [go_sem, e, Ret_eq Try.results114] | simp (disch := omega) only [arith, IntKind.bits, capMax, fill_len, elt_fill] | (with_reducible refine condI_beq (fun hq hqb => ?_) (fun hq hqb => ?_) <;> simp only [KP_mk, hqb]) | (with_reducible refine condI_bne (fun hq hqb => ?_) (fun hq hqb => ?_) <;> simp only [KP_mk, hqb]) | (with_reducible refine condI_dec (fun hq hqb => ?_) (fun hq hqb => ?_) <;> simp only [KP_mk, hqb]) | (with_reducible refine condI_b (fun hqb => ?_) (fun hqb => ?_) <;> simp only [KP_mk, hqb]) | refine RetO_calc Try.results114 ?_ | refine RetL_calc Try.results114 rfl ?_ | (refine Again.up (by omega) ?_ ?_) | exact trivial | fail)
    · have e : (if m < n then m else n) = n := if_neg q
      by_cases h1 : 1 ≤ n
      · by_cases h2 : n ≤ 64
        · have h3 : ¬ m ≤ 16 := fun r => h ⟨⟨h1, h2⟩, by omega, r⟩
          repeat' (first | simp only [go_sem, e, Ret_eq Try.results114] | simp (disch := omega) only [arith, IntKind.bits, capMax, fill_len, elt_fill] | (with_reducible refine condI_beq (fun hq hqb => ?_) (fun hq hqb => ?_) <;> simp only [KP_mk, hqb]) | (with_reducible refine condI_bne (fun hq hqb => ?_) (fun hq hqb => ?_) <;> simp only [KP_mk, hqb]) | (with_reducible refine condI_dec (fun hq hqb => ?_) (fun hq hqb => ?_) <;> simp only [KP_mk, hqb]) | (with_reducible refine condI_b (fun hqb => ?_) (fun hqb => ?_) <;> simp only [KP_mk, hqb]) | refine RetO_calc Try.results114 ?_ | refine RetL_calc Try.results114 rfl ?_ | (refine Again.up (by omega) ?_ ?_) | exact trivial | fail)
        · repeat' (first | simp only [go_sem, e, Ret_eq Try.results114] | simp (disch := omega) only [arith, IntKind.bits, capMax, fill_len, elt_fill] | (with_reducible refine condI_beq (fun hq hqb => ?_) (fun hq hqb => ?_) <;> simp only [KP_mk, hqb]) | (with_reducible refine condI_bne (fun hq hqb => ?_) (fun hq hqb => ?_) <;> simp only [KP_mk, hqb]) | (with_reducible refine condI_dec (fun hq hqb => ?_) (fun hq hqb => ?_) <;> simp only [KP_mk, hqb]) | (with_reducible refine condI_b (fun hqb => ?_) (fun hqb => ?_) <;> simp only [KP_mk, hqb]) | refine RetO_calc Try.results114 ?_ | refine RetL_calc Try.results114 rfl ?_ | (refine Again.up (by omega) ?_ ?_) | exact trivial | fail)
      · repeat' (first | simp only [go_sem, e, Ret_eq Try.results114] | simp (disch := omega) only [arith, IntKind.bits, capMax, fill_len, elt_fill] | (with_reducible refine condI_beq (fun hq hqb => ?_) (fun hq hqb => ?_) <;> simp only [KP_mk, hqb]) | (with_reducible refine condI_bne (fun hq hqb => ?_) (fun hq hqb => ?_) <;> simp only [KP_mk, hqb]) | (with_reducible refine condI_dec (fun hq hqb => ?_) (fun hq hqb => ?_) <;> simp only [KP_mk, hqb]) | (with_reducible refine condI_b (fun hqb => ?_) (fun hqb => ?_) <;> simp only [KP_mk, hqb]) | refine RetO_calc Try.results114 ?_ | refine RetL_calc Try.results114 rfl ?_ | (refine Again.up (by omega) ?_ ?_) | exact trivial | fail)

theorem size_fun (n m : Int) : Fun Try.prog 58 [.v (.int .i64 n), .v (.int .i64 m)] fun r => r = .tup [.v (.int .i64 (sizeV n m)), .v (.int .i64 (sizeE n m))] := by
  have hb := bwithin_fun n m
  unfold sizeV sizeE
  by_cases h : sizesOk n m
  · rw [decide_eq_true h] at hb
    rw [if_pos h, if_pos h]
    obtain ⟨⟨h1, h2⟩, h3, h4⟩ := h
    have e1 : 2 * n * (m - 1) ≤ 2 * 64 * 15 := Int.mul_le_mul (by omega) (by omega) (by omega) (by omega)
    have e2 : 0 ≤ 2 * n * (m - 1) := Int.mul_nonneg (by omega) (by omega)
    refine Fun.of_awpI Try.func58 rfl cal58 Try.ntmps58 (by simp) fun hwf => ?_
    simp only [D.wfs, D.wf, ints_length, ints_wfs, rows_length, rows_wfs, capMax, and_true, true_and] at hwf
    repeat' (first | simp only [go_sem, Ret_eq Try.results58] | simp (disch := omega) only [arith, IntKind.bits, capMax, fill_len, elt_fill] | (with_reducible refine condI_beq (fun hq hqb => ?_) (fun hq hqb => ?_) <;> simp only [KP_mk, hqb]) | (with_reducible refine condI_bne (fun hq hqb => ?_) (fun hq hqb => ?_) <;> simp only [KP_mk, hqb]) | (with_reducible refine condI_dec (fun hq hqb => ?_) (fun hq hqb => ?_) <;> simp only [KP_mk, hqb]) | (with_reducible refine condI_b (fun hqb => ?_) (fun hqb => ?_) <;> simp only [KP_mk, hqb]) | refine RetO_calc Try.results58 ?_ | refine RetL_calc Try.results58 rfl ?_ | (refine Again.up (by omega) ?_ ?_) | exact trivial | (refine opCallI_rd (by simp only [go_sem, Ret_eq Try.results58]; first | done | rfl) (hb) (by rintro _ rfl; rfl) ?_; rintro _ rfl) | (refine opCallI_gv (by simp only [go_sem, Ret_eq Try.results58]; first | done | rfl) (hb) ?_; rintro _ rfl) | fail)
  · rw [decide_eq_false h] at hb
    rw [if_neg h, if_neg h]
    refine Fun.of_awpI Try.func58 rfl cal58 Try.ntmps58 (by simp) fun hwf => ?_
    simp only [D.wfs, D.wf, ints_length, ints_wfs, rows_length, rows_wfs, capMax, and_true, true_and] at hwf
    repeat' (first | simp only [go_sem, Ret_eq Try.results58] | simp (disch := omega) only [arith, IntKind.bits, capMax, fill_len, elt_fill] | (with_reducible refine condI_beq (fun hq hqb => ?_) (fun hq hqb => ?_) <;> simp only [KP_mk, hqb]) | (with_reducible refine condI_bne (fun hq hqb => ?_) (fun hq hqb => ?_) <;> simp only [KP_mk, hqb]) | (with_reducible refine condI_dec (fun hq hqb => ?_) (fun hq hqb => ?_) <;> simp only [KP_mk, hqb]) | (with_reducible refine condI_b (fun hqb => ?_) (fun hqb => ?_) <;> simp only [KP_mk, hqb]) | refine RetO_calc Try.results58 ?_ | refine RetL_calc Try.results58 rfl ?_ | (refine Again.up (by omega) ?_ ?_) | exact trivial | (refine opCallI_rd (by simp only [go_sem, Ret_eq Try.results58]; first | done | rfl) (hb) (by rintro _ rfl; rfl) ?_; rintro _ rfl) | (refine opCallI_gv (by simp only [go_sem, Ret_eq Try.results58]; first | done | rfl) (hb) ?_; rintro _ rfl) | fail)

theorem equalRow_fun (a b : List Int) : Fun Try.prog 117 [.lst (ints .i16 a), .lst (ints .i16 b)] fun r => r = .v (.bool (decide (a = b))) := by
  refine Fun.of_awpI Try.func117 rfl cal117 Try.ntmps117 (by simp) fun hwf => ?_
  simp only [D.wfs, D.wf, ints_length, ints_wfs, rows_length, rows_wfs, capMax, and_true, true_and] at hwf
  repeat' (first | simp only [go_sem, Ret_eq Try.results117] | simp (disch := omega) only [arith, IntKind.bits, capMax, fill_len, elt_fill] | (with_reducible refine condI_beq (fun hq hqb => ?_) (fun hq hqb => ?_) <;> simp only [KP_mk, hqb]) | (with_reducible refine condI_bne (fun hq hqb => ?_) (fun hq hqb => ?_) <;> simp only [KP_mk, hqb]) | (with_reducible refine condI_dec (fun hq hqb => ?_) (fun hq hqb => ?_) <;> simp only [KP_mk, hqb]) | (with_reducible refine condI_b (fun hqb => ?_) (fun hqb => ?_) <;> simp only [KP_mk, hqb]) | refine RetO_calc Try.results117 ?_ | refine RetL_calc Try.results117 rfl ?_ | (refine awpI_draw2 (id := 6) (.one false 0 (.one false 1 (.one false 2 (.one false 3 (.one false 4 (.one false 5 (.one false 6 (.one false 7 (.one false 8 .done))))))))) mixed (by decide +kernel) (by decide +kernel) ?_) | (refine Again.up (by omega) ?_ ?_) | exact trivial | fail)
  · rw [decide_eq_false]; rintro rfl; omega
  · have hl : a.length = b.length := by omega
    refine awpI_for a.length (fun k => a.take k = b.take k) (fun k => [(13, .v (.int .i64 k))]) (fun _ => []) [0, 1, 12] [] _ (Weak.refl _) (by simp) ?_ ?_ ?_
    · simp only [go_sem, Ret_eq Try.results117]
    · simp only [go_sem, Ret_eq Try.results117]
    · intro k s hk hQ hs
      simp only [go_sem, Ret_eq Try.results117] at hs
      by_cases hka : k < a.length
      · repeat' (first | simp only [go_sem, hs, Ret_eq Try.results117] | simp (disch := omega) only [arith, IntKind.bits, capMax, fill_len, elt_fill] | (with_reducible refine condI_beq (fun hq hqb => ?_) (fun hq hqb => ?_) <;> simp only [KP_mk, hqb]) | (with_reducible refine condI_bne (fun hq hqb => ?_) (fun hq hqb => ?_) <;> simp only [KP_mk, hqb]) | (with_reducible refine condI_dec (fun hq hqb => ?_) (fun hq hqb => ?_) <;> simp only [KP_mk, hqb]) | (with_reducible refine condI_b (fun hqb => ?_) (fun hqb => ?_) <;> simp only [KP_mk, hqb]) | refine RetO_calc Try.results117 ?_ | refine RetL_calc Try.results117 rfl ?_ | (refine awpI_draw2 (id := 6) (.one false 0 (.one false 1 (.one false 2 (.one false 3 (.one false 4 (.one false 5 (.one false 6 (.one false 7 (.one false 8 .done))))))))) mixed (by decide +kernel) (by decide +kernel) ?_) | (refine Again.up (by omega) ?_ ?_) | exact trivial | fail)
        · rw [decide_eq_false]; rintro rfl; simp_all
        · exact take_eq_snoc hka (by omega) hQ (by assumption)
      · obtain rfl : k = a.length := by omega
        rw [List.take_length, hl, List.take_length] at hQ
        subst hQ
        repeat' (first | simp only [go_sem, hs, Ret_eq Try.results117] | simp (disch := omega) only [arith, IntKind.bits, capMax, fill_len, elt_fill] | (with_reducible refine condI_beq (fun hq hqb => ?_) (fun hq hqb => ?_) <;> simp only [KP_mk, hqb]) | (with_reducible refine condI_bne (fun hq hqb => ?_) (fun hq hqb => ?_) <;> simp only [KP_mk, hqb]) | (with_reducible refine condI_dec (fun hq hqb => ?_) (fun hq hqb => ?_) <;> simp only [KP_mk, hqb]) | (with_reducible refine condI_b (fun hqb => ?_) (fun hqb => ?_) <;> simp only [KP_mk, hqb]) | refine RetO_calc Try.results117 ?_ | refine RetL_calc Try.results117 rfl ?_ | (refine awpI_draw2 (id := 6) (.one false 0 (.one false 1 (.one false 2 (.one false 3 (.one false 4 (.one false 5 (.one false 6 (.one false 7 (.one false 8 .done))))))))) mixed (by decide +kernel) (by decide +kernel) ?_) | (refine Again.up (by omega) ?_ ?_) | exact trivial | fail)

theorem equalRows_fun (a b : List (List Int)) : Fun Try.prog 116 [.lst (rows .i16 a), .lst (rows .i16 b), .clos (.func 117) []] fun r => r = .v (.bool (decide (a = b))) := by
  refine Fun.of_awpI Try.func116 rfl cal116 Try.ntmps116 (by simp) fun hwf => ?_
  simp only [D.wfs, D.wf, ints_length, ints_wfs, rows_length, rows_wfs, capMax, and_true, true_and] at hwf
  have hlb : b.length ≤ 9223372036854775807 := by have := hwf.2.1; exact this
  have hla : a.length ≤ 9223372036854775807 := by have := hwf.1.1; exact this
  by_cases hl : a.length = b.length
  · repeat' (first | simp only [go_sem, hl, Ret_eq Try.results116] | simp (disch := omega) only [arith, IntKind.bits, capMax, fill_len, elt_fill] | (with_reducible refine condI_beq (fun hq hqb => ?_) (fun hq hqb => ?_) <;> simp only [KP_mk, hqb]) | (with_reducible refine condI_bne (fun hq hqb => ?_) (fun hq hqb => ?_) <;> simp only [KP_mk, hqb]) | (with_reducible refine condI_dec (fun hq hqb => ?_) (fun hq hqb => ?_) <;> simp only [KP_mk, hqb]) | (with_reducible refine condI_b (fun hqb => ?_) (fun hqb => ?_) <;> simp only [KP_mk, hqb]) | refine RetO_calc Try.results116 ?_ | refine RetL_calc Try.results116 rfl ?_ | (refine Again.up (by omega) ?_ ?_) | exact trivial | fail)
    refine awpI_for b.length (fun k => a.take k = b.take k) (fun k => [(17, .v (.int .i64 k))]) (fun _ => []) [1, 2, 15, 16] [] _ (Weak.refl _) (by simp) ?_ ?_ ?_
    · simp only [go_sem, Ret_eq Try.results116]
    · simp only [go_sem, Ret_eq Try.results116]
    · intro k s hk hQ hs
      simp only [go_sem, Ret_eq Try.results116] at hs
      by_cases hka : k < b.length
      · have e1 := take_snoc (a := a) (d := ([] : List Int)) (k := k) (by omega)
        have e2 := take_snoc (a := b) (d := ([] : List Int)) hka
        have hs1 := equalRow_fun (a.getD k []) (b.getD k [])
        by_cases hv : a.getD k [] = b.getD k []
        · rw [decide_eq_true hv] at hs1
          repeat' (first | simp only [go_sem, hs, Ret_eq Try.results116] | simp (disch := omega) only [arith, IntKind.bits, capMax, fill_len, elt_fill] | (with_reducible refine condI_beq (fun hq hqb => ?_) (fun hq hqb => ?_) <;> simp only [KP_mk, hqb]) | (with_reducible refine condI_bne (fun hq hqb => ?_) (fun hq hqb => ?_) <;> simp only [KP_mk, hqb]) | (with_reducible refine condI_dec (fun hq hqb => ?_) (fun hq hqb => ?_) <;> simp only [KP_mk, hqb]) | (with_reducible refine condI_b (fun hqb => ?_) (fun hqb => ?_) <;> simp only [KP_mk, hqb]) | refine RetO_calc Try.results116 ?_ | refine RetL_calc Try.results116 rfl ?_ | (refine Again.up (by omega) ?_ ?_) | exact trivial | (refine opCallI_rd (by simp only [go_sem, hs, Ret_eq Try.results116]; first | done | rfl) (hs1) (by rintro _ rfl; rfl) ?_; rintro _ rfl) | (refine opCallI_gv (by simp only [go_sem, hs, Ret_eq Try.results116]; first | done | rfl) (hs1) ?_; rintro _ rfl) | fail)
          rw [e1, e2, hQ, hv]
        · rw [decide_eq_false hv] at hs1
          have hne : a ≠ b := fun q => hv (by rw [q])
          repeat' (first | simp only [go_sem, hs, decide_eq_false hne, Ret_eq Try.results116] | simp (disch := omega) only [arith, IntKind.bits, capMax, fill_len, elt_fill] | (with_reducible refine condI_beq (fun hq hqb => ?_) (fun hq hqb => ?_) <;> simp only [KP_mk, hqb]) | (with_reducible refine condI_bne (fun hq hqb => ?_) (fun hq hqb => ?_) <;> simp only [KP_mk, hqb]) | (with_reducible refine condI_dec (fun hq hqb => ?_) (fun hq hqb => ?_) <;> simp only [KP_mk, hqb]) | (with_reducible refine condI_b (fun hqb => ?_) (fun hqb => ?_) <;> simp only [KP_mk, hqb]) | refine RetO_calc Try.results116 ?_ | refine RetL_calc Try.results116 rfl ?_ | (refine Again.up (by omega) ?_ ?_) | exact trivial | (refine opCallI_rd (by simp only [go_sem, hs, decide_eq_false hne, Ret_eq Try.results116]; first | done | rfl) (hs1) (by rintro _ rfl; rfl) ?_; rintro _ rfl) | (refine opCallI_gv (by simp only [go_sem, hs, decide_eq_false hne, Ret_eq Try.results116]; first | done | rfl) (hs1) ?_; rintro _ rfl) | fail)
      · obtain rfl : k = b.length := by omega
        have hQ3 : a = b := by
          rw [List.take_length, ← hl, List.take_length] at hQ; exact hQ
        repeat' (first | simp only [go_sem, hs, decide_eq_true hQ3, Ret_eq Try.results116] | simp (disch := omega) only [arith, IntKind.bits, capMax, fill_len, elt_fill] | (with_reducible refine condI_beq (fun hq hqb => ?_) (fun hq hqb => ?_) <;> simp only [KP_mk, hqb]) | (with_reducible refine condI_bne (fun hq hqb => ?_) (fun hq hqb => ?_) <;> simp only [KP_mk, hqb]) | (with_reducible refine condI_dec (fun hq hqb => ?_) (fun hq hqb => ?_) <;> simp only [KP_mk, hqb]) | (with_reducible refine condI_b (fun hqb => ?_) (fun hqb => ?_) <;> simp only [KP_mk, hqb]) | refine RetO_calc Try.results116 ?_ | refine RetL_calc Try.results116 rfl ?_ | (refine Again.up (by omega) ?_ ?_) | exact trivial | fail)
  · have hne : a ≠ b := fun q => hl (by rw [q])
    repeat' (first | simp only [go_sem, decide_eq_false hne, Ret_eq Try.results116] | simp (disch := omega) only [arith, IntKind.bits, capMax, fill_len, elt_fill] | (with_reducible refine condI_beq (fun hq hqb => ?_) (fun hq hqb => ?_) <;> simp only [KP_mk, hqb]) | (with_reducible refine condI_bne (fun hq hqb => ?_) (fun hq hqb => ?_) <;> simp only [KP_mk, hqb]) | (with_reducible refine condI_dec (fun hq hqb => ?_) (fun hq hqb => ?_) <;> simp only [KP_mk, hqb]) | (with_reducible refine condI_b (fun hqb => ?_) (fun hqb => ?_) <;> simp only [KP_mk, hqb]) | refine RetO_calc Try.results116 ?_ | refine RetL_calc Try.results116 rfl ?_ | (refine Again.up (by omega) ?_ ?_) | exact trivial | fail)

theorem bookSame_fun (w : Int) (c : List (List Int)) (w2 : Int) (c2 : List (List Int)) : Fun Try.prog 62 [bookD w c, bookD w2 c2] fun r => r = .v (.bool (decide (w = w2 ∧ c = c2))) := by
  have h3 := equalRows_fun c c2
  refine Fun.of_awpI Try.func62 rfl cal62 Try.ntmps62 (by simp) fun hwf => ?_
  simp only [D.wfs, D.wf, ints_length, ints_wfs, rows_length, rows_wfs, capMax, and_true, true_and] at hwf
  by_cases g1 : w = w2
  · have b1 : (w == w2) = true := beq_iff_eq.2 g1
    have e : decide (w = w2 ∧ c = c2) = decide (c = c2) := by simp [g1]
    rw [e]
    repeat' (first | simp only [go_sem, b1, Ret_eq Try.results62] | simp (disch := omega) only [arith, IntKind.bits, capMax, fill_len, elt_fill] | (with_reducible refine condI_beq (fun hq hqb => ?_) (fun hq hqb => ?_) <;> simp only [KP_mk, hqb]) | (with_reducible refine condI_bne (fun hq hqb => ?_) (fun hq hqb => ?_) <;> simp only [KP_mk, hqb]) | (with_reducible refine condI_dec (fun hq hqb => ?_) (fun hq hqb => ?_) <;> simp only [KP_mk, hqb]) | (with_reducible refine condI_b (fun hqb => ?_) (fun hqb => ?_) <;> simp only [KP_mk, hqb]) | refine RetO_calc Try.results62 ?_ | refine RetL_calc Try.results62 rfl ?_ | (refine Again.up (by omega) ?_ ?_) | exact trivial | (refine opCallI_rd (by simp only [go_sem, b1, Ret_eq Try.results62]; first | done | rfl) (h3) (by rintro _ rfl; rfl) ?_; rintro _ rfl) | (refine opCallI_gv (by simp only [go_sem, b1, Ret_eq Try.results62]; first | done | rfl) (h3) ?_; rintro _ rfl) | fail)
  · have b1 : (w == w2) = false := beq_eq_false_iff_ne.2 g1
    rw [decide_eq_false (fun q => g1 q.1)]
    repeat' (first | simp only [go_sem, b1, Ret_eq Try.results62] | simp (disch := omega) only [arith, IntKind.bits, capMax, fill_len, elt_fill] | (with_reducible refine condI_beq (fun hq hqb => ?_) (fun hq hqb => ?_) <;> simp only [KP_mk, hqb]) | (with_reducible refine condI_bne (fun hq hqb => ?_) (fun hq hqb => ?_) <;> simp only [KP_mk, hqb]) | (with_reducible refine condI_dec (fun hq hqb => ?_) (fun hq hqb => ?_) <;> simp only [KP_mk, hqb]) | (with_reducible refine condI_b (fun hqb => ?_) (fun hqb => ?_) <;> simp only [KP_mk, hqb]) | refine RetO_calc Try.results62 ?_ | refine RetL_calc Try.results62 rfl ?_ | (refine Again.up (by omega) ?_ ?_) | exact trivial | fail)

theorem plain1_fun (n : Nat) (h : 1 ≤ n ∧ n ≤ 64) : Fun Try.prog 56 [.v (.int .i64 n), .v (.int .i64 1)] fun r => r = .tup [bookD 0 (List.replicate n []), .v (.int .i64 0)] := by
  have hb := bwithin_fun n 1
  have hs0 : sizesOk n 1 := ⟨by omega, by omega⟩
  rw [decide_eq_true hs0] at hb
  refine Fun.of_awpI Try.func56 rfl cal56 Try.ntmps56 (by simp) fun hwf => ?_
  simp only [D.wfs, D.wf, ints_length, ints_wfs, rows_length, rows_wfs, capMax, and_true, true_and] at hwf
  repeat' (first | simp only [go_sem, Ret_eq Try.results56] | simp (disch := omega) only [arith, IntKind.bits, capMax, fill_len, elt_fill] | (with_reducible refine condI_beq (fun hq hqb => ?_) (fun hq hqb => ?_) <;> simp only [KP_mk, hqb]) | (with_reducible refine condI_bne (fun hq hqb => ?_) (fun hq hqb => ?_) <;> simp only [KP_mk, hqb]) | (with_reducible refine condI_dec (fun hq hqb => ?_) (fun hq hqb => ?_) <;> simp only [KP_mk, hqb]) | (with_reducible refine condI_b (fun hqb => ?_) (fun hqb => ?_) <;> simp only [KP_mk, hqb]) | refine RetO_calc Try.results56 ?_ | refine RetL_calc Try.results56 rfl ?_ | (refine awpI_draw2 (id := 10) (.one false 8 (.one false 9 (.one false 10 (.one false 11 (.one false 12 (.one false 13 (.fam 3 [14] [42] [41] (.fam 4 [14] [42] [41] (.one true 2 (.one true 5 (.fam 6 [14] [42] [41] (.fam 7 [14] [42] [41] (.two 0 14 (.two 1 14 (.only 14 (.only 15 (.one false 16 (.only 17 .done)))) (.two 1 15 (.only 15 (.one false 16 (.only 17 .done))) (.one false 1 (.one false 16 (.only 17 .done))))) (.two 0 15 (.two 1 15 (.only 15 (.one false 16 (.only 17 .done))) (.one false 1 (.one false 16 (.only 17 .done)))) (.one false 0 (.one false 1 (.one false 16 (.only 17 .done)))))))))))))))))) mixed (by decide +kernel) (by decide +kernel) ?_) | (refine sch2I_two ?_ ?_) | (refine Again.up (by omega) ?_ ?_) | exact trivial | (refine opCallI_rd (by simp only [go_sem, Ret_eq Try.results56]; first | done | rfl) (hb) (by rintro _ rfl; rfl) ?_; rintro _ rfl) | (refine opCallI_gv (by simp only [go_sem, Ret_eq Try.results56]; first | done | rfl) (hb) ?_; rintro _ rfl) | fail)
  refine awpI_for n (fun k => True) (fun k => [(20, .v (.int .i64 k))]) (fun k => [(15, ⟨22, 1, tab [] n⟩)]) [1, 4, 6, 19] [4, 6] _ (Weak.refl _) trivial ?_ ?_ ?_
  · simp only [go_sem, Ret_eq Try.results56]
  · simp only [go_sem, Int.toNat_natCast, Ret_eq Try.results56]
  · intro k s hk _ hs
    simp only [go_sem, Ret_eq Try.results56] at hs
    by_cases hka : k < n
    · repeat' (first | simp only [go_sem, hs, Ret_eq Try.results56] | simp (disch := omega) only [arith, IntKind.bits, capMax, fill_len, elt_fill] | (with_reducible refine condI_beq (fun hq hqb => ?_) (fun hq hqb => ?_) <;> simp only [KP_mk, hqb]) | (with_reducible refine condI_bne (fun hq hqb => ?_) (fun hq hqb => ?_) <;> simp only [KP_mk, hqb]) | (with_reducible refine condI_dec (fun hq hqb => ?_) (fun hq hqb => ?_) <;> simp only [KP_mk, hqb]) | (with_reducible refine condI_b (fun hqb => ?_) (fun hqb => ?_) <;> simp only [KP_mk, hqb]) | refine RetO_calc Try.results56 ?_ | refine RetL_calc Try.results56 rfl ?_ | (refine awpI_draw2 (id := 10) (.one false 8 (.one false 9 (.one false 10 (.one false 11 (.one false 12 (.one false 13 (.fam 3 [14] [42] [41] (.fam 4 [14] [42] [41] (.one true 2 (.one true 5 (.fam 6 [14] [42] [41] (.fam 7 [14] [42] [41] (.two 0 14 (.two 1 14 (.only 14 (.only 15 (.one false 16 (.only 17 .done)))) (.two 1 15 (.only 15 (.one false 16 (.only 17 .done))) (.one false 1 (.one false 16 (.only 17 .done))))) (.two 0 15 (.two 1 15 (.only 15 (.one false 16 (.only 17 .done))) (.one false 1 (.one false 16 (.only 17 .done)))) (.one false 0 (.one false 1 (.one false 16 (.only 17 .done)))))))))))))))))) mixed (by decide +kernel) (by decide +kernel) ?_) | (refine sch2I_two ?_ ?_) | (refine Again.up (by omega) ?_ ?_) | exact trivial | fail)
      refine awpI_for 0 (fun k => True) (fun j => [(8, .v (.int .i64 1))]) (fun j => []) [1, 4, 6, 7, 19, 20] [4, 6, 15] _ (Weak.refl _) trivial ?_ ?_ ?_
      · simp only [go_sem, hs, Ret_eq Try.results56]
      · simp only [go_sem, hs, Ret_eq Try.results56]
      · intro j s2 hj2 _ hs2
        simp only [go_sem, hs, Ret_eq Try.results56] at hs2
        repeat' (first | simp only [go_sem, hs, hs2, Ret_eq Try.results56] | simp (disch := omega) only [arith, IntKind.bits, capMax, fill_len, elt_fill] | (with_reducible refine condI_beq (fun hq hqb => ?_) (fun hq hqb => ?_) <;> simp only [KP_mk, hqb]) | (with_reducible refine condI_bne (fun hq hqb => ?_) (fun hq hqb => ?_) <;> simp only [KP_mk, hqb]) | (with_reducible refine condI_dec (fun hq hqb => ?_) (fun hq hqb => ?_) <;> simp only [KP_mk, hqb]) | (with_reducible refine condI_b (fun hqb => ?_) (fun hqb => ?_) <;> simp only [KP_mk, hqb]) | refine RetO_calc Try.results56 ?_ | refine RetL_calc Try.results56 rfl ?_ | (refine awpI_draw2 (id := 10) (.one false 8 (.one false 9 (.one false 10 (.one false 11 (.one false 12 (.one false 13 (.fam 3 [14] [42] [41] (.fam 4 [14] [42] [41] (.one true 2 (.one true 5 (.fam 6 [14] [42] [41] (.fam 7 [14] [42] [41] (.two 0 14 (.two 1 14 (.only 14 (.only 15 (.one false 16 (.only 17 .done)))) (.two 1 15 (.only 15 (.one false 16 (.only 17 .done))) (.one false 1 (.one false 16 (.only 17 .done))))) (.two 0 15 (.two 1 15 (.only 15 (.one false 16 (.only 17 .done))) (.one false 1 (.one false 16 (.only 17 .done)))) (.one false 0 (.one false 1 (.one false 16 (.only 17 .done)))))))))))))))))) mixed (by decide +kernel) (by decide +kernel) ?_) | (refine sch2I_two ?_ ?_) | (refine Again.up (by omega) ?_ ?_) | exact trivial | fail)
    · obtain rfl : k = n := by omega
      repeat' (first | simp only [go_sem, hs, List.nil_append, List.length_replicate, List.take_replicate, Nat.min_self, Ret_eq Try.results56] | simp (disch := omega) only [arith, IntKind.bits, capMax, fill_len, elt_fill] | (with_reducible refine condI_beq (fun hq hqb => ?_) (fun hq hqb => ?_) <;> simp only [KP_mk, hqb]) | (with_reducible refine condI_bne (fun hq hqb => ?_) (fun hq hqb => ?_) <;> simp only [KP_mk, hqb]) | (with_reducible refine condI_dec (fun hq hqb => ?_) (fun hq hqb => ?_) <;> simp only [KP_mk, hqb]) | (with_reducible refine condI_b (fun hqb => ?_) (fun hqb => ?_) <;> simp only [KP_mk, hqb]) | refine RetO_calc Try.results56 ?_ | refine RetL_calc Try.results56 rfl ?_ | (refine awpI_draw2 (id := 10) (.one false 8 (.one false 9 (.one false 10 (.one false 11 (.one false 12 (.one false 13 (.fam 3 [14] [42] [41] (.fam 4 [14] [42] [41] (.one true 2 (.one true 5 (.fam 6 [14] [42] [41] (.fam 7 [14] [42] [41] (.two 0 14 (.two 1 14 (.only 14 (.only 15 (.one false 16 (.only 17 .done)))) (.two 1 15 (.only 15 (.one false 16 (.only 17 .done))) (.one false 1 (.one false 16 (.only 17 .done))))) (.two 0 15 (.two 1 15 (.only 15 (.one false 16 (.only 17 .done))) (.one false 1 (.one false 16 (.only 17 .done)))) (.one false 0 (.one false 1 (.one false 16 (.only 17 .done)))))))))))))))))) mixed (by decide +kernel) (by decide +kernel) ?_) | (refine sch2I_two ?_ ?_) | (refine Again.up (by omega) ?_ ?_) | exact trivial | fail)
      all_goals skip
theorem plain_fun (n : Nat) (m : Nat) (h : 1 ≤ n ∧ n ≤ 64) (hm : 2 ≤ m ∧ m ≤ 16) : Fun Try.prog 56 [.v (.int .i64 n), .v (.int .i64 m)] fun r => r = .tup [bookD 0 (List.replicate n (plainRow m)), .v (.int .i64 0)] := by
  have hb := bwithin_fun n m
  have hs0 : sizesOk n m := ⟨by omega, by omega⟩
  rw [decide_eq_true hs0] at hb
  have hrl : (plainRow m).length = m - 1 := by simp [plainRow]
  have hrg : ∀ j, j < m - 1 → (plainRow m).getD j 0 = plainCut m j := fun j hj => plainRow_getD (by omega)
  generalize plainRow m = row at *
  refine Fun.of_awpI Try.func56 rfl cal56 Try.ntmps56 (by simp) fun hwf => ?_
  simp only [D.wfs, D.wf, ints_length, ints_wfs, rows_length, rows_wfs, capMax, and_true, true_and] at hwf
  repeat' (first | simp only [go_sem, Ret_eq Try.results56] | simp (disch := omega) only [arith, IntKind.bits, capMax, fill_len, elt_fill] | (with_reducible refine condI_beq (fun hq hqb => ?_) (fun hq hqb => ?_) <;> simp only [KP_mk, hqb]) | (with_reducible refine condI_bne (fun hq hqb => ?_) (fun hq hqb => ?_) <;> simp only [KP_mk, hqb]) | (with_reducible refine condI_dec (fun hq hqb => ?_) (fun hq hqb => ?_) <;> simp only [KP_mk, hqb]) | (with_reducible refine condI_b (fun hqb => ?_) (fun hqb => ?_) <;> simp only [KP_mk, hqb]) | refine RetO_calc Try.results56 ?_ | refine RetL_calc Try.results56 rfl ?_ | (refine awpI_draw2 (id := 10) (.one false 8 (.one false 9 (.one false 10 (.one false 11 (.one false 12 (.one false 13 (.fam 3 [14] [42] [41] (.fam 4 [14] [42] [41] (.one true 2 (.one true 5 (.fam 6 [14] [42] [41] (.fam 7 [14] [42] [41] (.two 0 14 (.two 1 14 (.only 14 (.only 15 (.one false 16 (.only 17 .done)))) (.two 1 15 (.only 15 (.one false 16 (.only 17 .done))) (.one false 1 (.one false 16 (.only 17 .done))))) (.two 0 15 (.two 1 15 (.only 15 (.one false 16 (.only 17 .done))) (.one false 1 (.one false 16 (.only 17 .done)))) (.one false 0 (.one false 1 (.one false 16 (.only 17 .done)))))))))))))))))) mixed (by decide +kernel) (by decide +kernel) ?_) | (refine sch2I_two ?_ ?_) | (refine Again.up (by omega) ?_ ?_) | exact trivial | (refine opCallI_rd (by simp only [go_sem, Ret_eq Try.results56]; first | done | rfl) (hb) (by rintro _ rfl; rfl) ?_; rintro _ rfl) | (refine opCallI_gv (by simp only [go_sem, Ret_eq Try.results56]; first | done | rfl) (hb) ?_; rintro _ rfl) | fail)
  refine awpI_for n (fun k => True) (fun k => [(20, .v (.int .i64 k))]) (fun k => [(15, ⟨22, 1, tab (List.replicate k row) (n - k)⟩)]) [1, 4, 6, 19] [4, 6] _ (Weak.refl _) trivial ?_ ?_ ?_
  · simp only [go_sem, Ret_eq Try.results56]
  · simp only [go_sem, Int.toNat_natCast, List.replicate_zero, Nat.sub_zero, Ret_eq Try.results56]
  · intro k s hk _ hs
    simp only [go_sem, Ret_eq Try.results56] at hs
    by_cases hka : k < n
    · obtain ⟨q, hq⟩ : ∃ q, n - k = q + 1 := ⟨n - k - 1, by omega⟩
      have hlk : (List.replicate k row).length = k := List.length_replicate
      rw [hq] at hs
      have htg0 := tab_get (A := List.replicate k row) (m := q)
      have hts := tab_set (A := List.replicate k row) (id := 43) (len := 1) (m := q)
      rw [hlk] at htg0 hts
      repeat' (first | simp only [go_sem, hs, Ret_eq Try.results56] | simp (disch := omega) only [arith, IntKind.bits, capMax, fill_len, elt_fill] | (with_reducible refine condI_beq (fun hq hqb => ?_) (fun hq hqb => ?_) <;> simp only [KP_mk, hqb]) | (with_reducible refine condI_bne (fun hq hqb => ?_) (fun hq hqb => ?_) <;> simp only [KP_mk, hqb]) | (with_reducible refine condI_dec (fun hq hqb => ?_) (fun hq hqb => ?_) <;> simp only [KP_mk, hqb]) | (with_reducible refine condI_b (fun hqb => ?_) (fun hqb => ?_) <;> simp only [KP_mk, hqb]) | refine RetO_calc Try.results56 ?_ | refine RetL_calc Try.results56 rfl ?_ | (refine awpI_draw2 (id := 10) (.one false 8 (.one false 9 (.one false 10 (.one false 11 (.one false 12 (.one false 13 (.fam 3 [14] [42] [41] (.fam 4 [14] [42] [41] (.one true 2 (.one true 5 (.fam 6 [14] [42] [41] (.fam 7 [14] [42] [41] (.two 0 14 (.two 1 14 (.only 14 (.only 15 (.one false 16 (.only 17 .done)))) (.two 1 15 (.only 15 (.one false 16 (.only 17 .done))) (.one false 1 (.one false 16 (.only 17 .done))))) (.two 0 15 (.two 1 15 (.only 15 (.one false 16 (.only 17 .done))) (.one false 1 (.one false 16 (.only 17 .done)))) (.one false 0 (.one false 1 (.one false 16 (.only 17 .done)))))))))))))))))) mixed (by decide +kernel) (by decide +kernel) ?_) | (refine sch2I_two ?_ ?_) | (refine Again.up (by omega) ?_ ?_) | exact trivial | fail)
      refine awpI_for (m - 1) (fun j => True) (fun j => [(8, .v (.int .i64 ((j + 1 : Nat) : Int)))])
        (fun j => match j with | 0 => [(15, ⟨22, 1, tab (List.replicate k row) (q + 1)⟩)] | j + 1 => [(15, ⟨22, 1, tabR (List.replicate k row) 43 (j + 1) q⟩), (43, ⟨23, 1, ints .i16 (row.take (j + 1))⟩)]) [1, 4, 6, 7, 19, 20] [4, 6] _ (Weak.refl _) trivial ?_ ?_ ?_
      · simp only [go_sem, hs, Ret_eq Try.results56]
      · simp only [go_sem, hs, Ret_eq Try.results56]
      · intro j s2 hj2 _ hs2
        by_cases hja : j < m - 1
        · have et := take_snoc (a := row) (d := (0 : Int)) (k := j) (by omega)
          rw [hrg j hja] at et
          have hpr := plainCut_range (cells := m) (k := j) (by omega) (by omega)
          have ew : IntKind.i16.wrap (plainCut m j) = plainCut m j := IntWalk.i16_in _ (by omega)
          have hcut : ∀ y : Int, y = ((j : Int) + 1) * 65536 / (m : Int) → IntKind.i16.wrap (IntKind.i64.wrap (IntKind.i64.wrap y - 32768)) = plainCut m j := fun y hy => by
            have e0 : plainCut m j = y - 32768 := by rw [hy]; rfl
            rw [e0] at hpr ew ⊢
            rw [show IntKind.i64.wrap y = y from IntWalk.i64_in _ (by omega), show IntKind.i64.wrap (y - 32768) = y - 32768 from IntWalk.i64_in _ (by omega)]
            exact ew
          cases j with
          | zero =>
            simp only [go_sem, Ret_eq Try.results56] at hs2
            have hc0 := hcut (1 * 65536 / (m : Int)) (by simp)
            repeat' (first | simp only [go_sem, hs, hs2, htg0, hts, List.all_nil, List.all_cons, hc0, Ret_eq Try.results56] | simp (disch := omega) only [arith, IntKind.bits, capMax, fill_len, elt_fill] | (with_reducible refine condI_beq (fun hq hqb => ?_) (fun hq hqb => ?_) <;> simp only [KP_mk, hqb]) | (with_reducible refine condI_bne (fun hq hqb => ?_) (fun hq hqb => ?_) <;> simp only [KP_mk, hqb]) | (with_reducible refine condI_dec (fun hq hqb => ?_) (fun hq hqb => ?_) <;> simp only [KP_mk, hqb]) | (with_reducible refine condI_b (fun hqb => ?_) (fun hqb => ?_) <;> simp only [KP_mk, hqb]) | refine RetO_calc Try.results56 ?_ | refine RetL_calc Try.results56 rfl ?_ | (refine awpI_draw2 (id := 10) (.one false 8 (.one false 9 (.one false 10 (.one false 11 (.one false 12 (.one false 13 (.fam 3 [14] [42] [41] (.fam 4 [14] [42] [41] (.one true 2 (.one true 5 (.fam 6 [14] [42] [41] (.fam 7 [14] [42] [41] (.two 0 14 (.two 1 14 (.only 14 (.only 15 (.one false 16 (.only 17 .done)))) (.two 1 15 (.only 15 (.one false 16 (.only 17 .done))) (.one false 1 (.one false 16 (.only 17 .done))))) (.two 0 15 (.two 1 15 (.only 15 (.one false 16 (.only 17 .done))) (.one false 1 (.one false 16 (.only 17 .done)))) (.one false 0 (.one false 1 (.one false 16 (.only 17 .done)))))))))))))))))) mixed (by decide +kernel) (by decide +kernel) ?_) | (refine sch2I_two ?_ ?_) | (refine Again.up (by omega) ?_ ?_) | exact trivial | fail)
            all_goals (refine ⟨rfl, ?_⟩; rw [et]; rfl)
          | succ j =>
            simp only [go_sem, Ret_eq Try.results56] at hs2
            have hrg2 := tabR_get (A := List.replicate k row) (id := 43) (len := j + 1) (m := q)
            have hra := tabA_set (A := List.replicate k row) (id := 43) (len := j + 1 + 1) (m := q)
            have hag := tabA_get (A := List.replicate k row) (m := q)
            rw [hlk] at hrg2 hra hag
            have hc0 := hcut (((j + 1 + 1 : Nat) : Int) * 65536 / (m : Int)) (by push_cast; rfl)
            have htl : (row.take (j + 1)).length = j + 1 := by rw [List.length_take]; omega
            repeat' (first | simp only [go_sem, hs, hs2, hrg2, hra, hag, any_width, setPart_xr, List.all_nil, List.all_cons, hc0, et, htl, List.length_append, List.length_cons, List.length_nil, Ret_eq Try.results56] | simp (disch := omega) only [arith, IntKind.bits, capMax, fill_len, elt_fill] | (with_reducible refine condI_beq (fun hq hqb => ?_) (fun hq hqb => ?_) <;> simp only [KP_mk, hqb]) | (with_reducible refine condI_bne (fun hq hqb => ?_) (fun hq hqb => ?_) <;> simp only [KP_mk, hqb]) | (with_reducible refine condI_dec (fun hq hqb => ?_) (fun hq hqb => ?_) <;> simp only [KP_mk, hqb]) | (with_reducible refine condI_b (fun hqb => ?_) (fun hqb => ?_) <;> simp only [KP_mk, hqb]) | refine RetO_calc Try.results56 ?_ | refine RetL_calc Try.results56 rfl ?_ | (refine awpI_draw2 (id := 10) (.one false 8 (.one false 9 (.one false 10 (.one false 11 (.one false 12 (.one false 13 (.fam 3 [14] [42] [41] (.fam 4 [14] [42] [41] (.one true 2 (.one true 5 (.fam 6 [14] [42] [41] (.fam 7 [14] [42] [41] (.two 0 14 (.two 1 14 (.only 14 (.only 15 (.one false 16 (.only 17 .done)))) (.two 1 15 (.only 15 (.one false 16 (.only 17 .done))) (.one false 1 (.one false 16 (.only 17 .done))))) (.two 0 15 (.two 1 15 (.only 15 (.one false 16 (.only 17 .done))) (.one false 1 (.one false 16 (.only 17 .done)))) (.one false 0 (.one false 1 (.one false 16 (.only 17 .done)))))))))))))))))) mixed (by decide +kernel) (by decide +kernel) ?_) | (refine sch2I_two ?_ ?_) | (refine Again.up (by omega) ?_ ?_) | exact trivial | fail)
            all_goals skip
        · obtain rfl : j = m - 1 := by omega
          obtain ⟨p, hp⟩ : ∃ p, m - 1 = p + 1 := ⟨m - 2, by omega⟩
          rw [hp] at hs2
          simp only [go_sem, Ret_eq Try.results56] at hs2
          have htr : row.take (p + 1) = row := List.take_of_length_le (by omega)
          rw [htr] at hs2
          have hfz := tabR_frzs (A := List.replicate k row) (id := 43) (m := q) (l := row)
          rw [hrl, hp, ← List.replicate_succ'] at hfz
          repeat' (first | simp only [go_sem, hs, hs2, Ret_eq Try.results56] | simp (disch := omega) only [arith, IntKind.bits, capMax, fill_len, elt_fill] | (with_reducible refine condI_beq (fun hq hqb => ?_) (fun hq hqb => ?_) <;> simp only [KP_mk, hqb]) | (with_reducible refine condI_bne (fun hq hqb => ?_) (fun hq hqb => ?_) <;> simp only [KP_mk, hqb]) | (with_reducible refine condI_dec (fun hq hqb => ?_) (fun hq hqb => ?_) <;> simp only [KP_mk, hqb]) | (with_reducible refine condI_b (fun hqb => ?_) (fun hqb => ?_) <;> simp only [KP_mk, hqb]) | refine RetO_calc Try.results56 ?_ | refine RetL_calc Try.results56 rfl ?_ | (refine awpI_draw2 (id := 10) (.one false 8 (.one false 9 (.one false 10 (.one false 11 (.one false 12 (.one false 13 (.fam 3 [14] [42] [41] (.fam 4 [14] [42] [41] (.one true 2 (.one true 5 (.fam 6 [14] [42] [41] (.fam 7 [14] [42] [41] (.two 0 14 (.two 1 14 (.only 14 (.only 15 (.one false 16 (.only 17 .done)))) (.two 1 15 (.only 15 (.one false 16 (.only 17 .done))) (.one false 1 (.one false 16 (.only 17 .done))))) (.two 0 15 (.two 1 15 (.only 15 (.one false 16 (.only 17 .done))) (.one false 1 (.one false 16 (.only 17 .done)))) (.one false 0 (.one false 1 (.one false 16 (.only 17 .done)))))))))))))))))) mixed (by decide +kernel) (by decide +kernel) ?_) | (refine sch2I_two ?_ ?_) | exact trivial | fail)
          refine AgainB_frz 43 ⟨23, 1, ints .i16 row⟩ (by simp only [go_sem, hs, hs2, Ret_eq Try.results56]) (by simp only [go_sem, Ret_eq Try.results56]) (by simp only [go_sem, Ret_eq Try.results56]) hka trivial ?_
          have hm' : n - (k + 1) = q := by omega
          simp only [go_sem, hs, hs2, hfz, hm', Ret_eq Try.results56]
    · obtain rfl : k = n := by omega
      rw [Nat.sub_self] at hs
      repeat' (first | simp only [go_sem, hs, tab_end, List.length_replicate, List.take_replicate, Nat.min_self, Ret_eq Try.results56] | simp (disch := omega) only [arith, IntKind.bits, capMax, fill_len, elt_fill] | (with_reducible refine condI_beq (fun hq hqb => ?_) (fun hq hqb => ?_) <;> simp only [KP_mk, hqb]) | (with_reducible refine condI_bne (fun hq hqb => ?_) (fun hq hqb => ?_) <;> simp only [KP_mk, hqb]) | (with_reducible refine condI_dec (fun hq hqb => ?_) (fun hq hqb => ?_) <;> simp only [KP_mk, hqb]) | (with_reducible refine condI_b (fun hqb => ?_) (fun hqb => ?_) <;> simp only [KP_mk, hqb]) | refine RetO_calc Try.results56 ?_ | refine RetL_calc Try.results56 rfl ?_ | (refine awpI_draw2 (id := 10) (.one false 8 (.one false 9 (.one false 10 (.one false 11 (.one false 12 (.one false 13 (.fam 3 [14] [42] [41] (.fam 4 [14] [42] [41] (.one true 2 (.one true 5 (.fam 6 [14] [42] [41] (.fam 7 [14] [42] [41] (.two 0 14 (.two 1 14 (.only 14 (.only 15 (.one false 16 (.only 17 .done)))) (.two 1 15 (.only 15 (.one false 16 (.only 17 .done))) (.one false 1 (.one false 16 (.only 17 .done))))) (.two 0 15 (.two 1 15 (.only 15 (.one false 16 (.only 17 .done))) (.one false 1 (.one false 16 (.only 17 .done)))) (.one false 0 (.one false 1 (.one false 16 (.only 17 .done)))))))))))))))))) mixed (by decide +kernel) (by decide +kernel) ?_) | (refine sch2I_two ?_ ?_) | (refine Again.up (by omega) ?_ ?_) | exact trivial | fail)
      all_goals skip
theorem plain_bad (n m : Int) (h : ¬ sizesOk n m) : Fun Try.prog 56 [.v (.int .i64 n), .v (.int .i64 m)] fun r => r = .tup [bookD 0 [], .v (.int .i64 1)] := by
  have hb := bwithin_fun n m
  rw [decide_eq_false h] at hb
  refine Fun.of_awpI Try.func56 rfl cal56 Try.ntmps56 (by simp) fun hwf => ?_
  simp only [D.wfs, D.wf, ints_length, ints_wfs, rows_length, rows_wfs, capMax, and_true, true_and] at hwf
  repeat' (first | simp only [go_sem, rows_nil, Ret_eq Try.results56] | simp (disch := omega) only [arith, IntKind.bits, capMax, fill_len, elt_fill] | (with_reducible refine condI_beq (fun hq hqb => ?_) (fun hq hqb => ?_) <;> simp only [KP_mk, hqb]) | (with_reducible refine condI_bne (fun hq hqb => ?_) (fun hq hqb => ?_) <;> simp only [KP_mk, hqb]) | (with_reducible refine condI_dec (fun hq hqb => ?_) (fun hq hqb => ?_) <;> simp only [KP_mk, hqb]) | (with_reducible refine condI_b (fun hqb => ?_) (fun hqb => ?_) <;> simp only [KP_mk, hqb]) | refine RetO_calc Try.results56 ?_ | refine RetL_calc Try.results56 rfl ?_ | (refine awpI_draw2 (id := 10) (.one false 8 (.one false 9 (.one false 10 (.one false 11 (.one false 12 (.one false 13 (.fam 3 [14] [42] [41] (.fam 4 [14] [42] [41] (.one true 2 (.one true 5 (.fam 6 [14] [42] [41] (.fam 7 [14] [42] [41] (.two 0 14 (.two 1 14 (.only 14 (.only 15 (.one false 16 (.only 17 .done)))) (.two 1 15 (.only 15 (.one false 16 (.only 17 .done))) (.one false 1 (.one false 16 (.only 17 .done))))) (.two 0 15 (.two 1 15 (.only 15 (.one false 16 (.only 17 .done))) (.one false 1 (.one false 16 (.only 17 .done)))) (.one false 0 (.one false 1 (.one false 16 (.only 17 .done)))))))))))))))))) mixed (by decide +kernel) (by decide +kernel) ?_) | (refine sch2I_two ?_ ?_) | (refine Again.up (by omega) ?_ ?_) | exact trivial | (refine opCallI_rd (by simp only [go_sem, rows_nil, Ret_eq Try.results56]; first | done | rfl) (hb) (by rintro _ rfl; rfl) ?_; rintro _ rfl) | (refine opCallI_gv (by simp only [go_sem, rows_nil, Ret_eq Try.results56]; first | done | rfl) (hb) ?_; rintro _ rfl) | fail)
  all_goals rfl
end Go.Proofs.Ytpkampecmlpfmaa.T
