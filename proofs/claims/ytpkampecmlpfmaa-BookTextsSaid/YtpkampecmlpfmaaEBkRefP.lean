import Derived.Test.YtpkampecmlpfmaaLE
import Derived.Test.YtpkampecmlpfmaaEBkRefF
set_option linter.unusedSimpArgs false
set_option linter.unusedVariables false
/- The document's plain books, how long a text is, books told the same; walked. -/
namespace Go.Proofs.Ytpkampecmlpfmaa.T
open Go Go.VL Go.Proofs
set_option maxRecDepth 100000
set_option maxHeartbeats 8000000

theorem sizes_fun (n m : Int) : Fun Try.prog 115 [.v (.int .i64 n), .v (.int .i64 m)] fun r => r = .v (.bool (decide (sizesOk n m))) := by
  refine Fun.of_awpI Try.func115 rfl cal115 Try.ntmps115 (by simp) fun hwf => ?_
  simp only [D.wfs, D.wf, ints_length, ints_wfs, rows_length, rows_wfs, capMax, and_true, true_and] at hwf
  by_cases h : sizesOk n m
  · rw [decide_eq_true h]
    obtain ⟨⟨h1, h2⟩, h3, h4⟩ := h
    repeat' (first | simp only [go_sem, Ret_eq Try.results115] | simp (disch := omega) only [arith, IntKind.bits, capMax, fill_len, elt_fill] | (with_reducible refine condI_beq (fun hq hqb => ?_) (fun hq hqb => ?_) <;> simp only [KP_mk, hqb]) | (with_reducible refine condI_bne (fun hq hqb => ?_) (fun hq hqb => ?_) <;> simp only [KP_mk, hqb]) | (with_reducible refine condI_dec (fun hq hqb => ?_) (fun hq hqb => ?_) <;> simp only [KP_mk, hqb]) | (with_reducible refine condI_b (fun hqb => ?_) (fun hqb => ?_) <;> simp only [KP_mk, hqb]) | refine RetO_calc Try.results115 ?_ | refine RetL_calc Try.results115 rfl ?_ | (refine Again.up (by omega) ?_ ?_) | exact trivial | fail)
    exact decide_eq_true h4
  · rw [decide_eq_false h]
    by_cases h1 : 1 ≤ n
    · by_cases h2 : n ≤ 64
      · by_cases h3 : 1 ≤ m
        · have h4 : ¬ m ≤ 16 := fun r => h ⟨⟨h1, h2⟩, h3, r⟩
          repeat' (first | simp only [go_sem, Ret_eq Try.results115] | simp (disch := omega) only [arith, IntKind.bits, capMax, fill_len, elt_fill] | (with_reducible refine condI_beq (fun hq hqb => ?_) (fun hq hqb => ?_) <;> simp only [KP_mk, hqb]) | (with_reducible refine condI_bne (fun hq hqb => ?_) (fun hq hqb => ?_) <;> simp only [KP_mk, hqb]) | (with_reducible refine condI_dec (fun hq hqb => ?_) (fun hq hqb => ?_) <;> simp only [KP_mk, hqb]) | (with_reducible refine condI_b (fun hqb => ?_) (fun hqb => ?_) <;> simp only [KP_mk, hqb]) | refine RetO_calc Try.results115 ?_ | refine RetL_calc Try.results115 rfl ?_ | (refine Again.up (by omega) ?_ ?_) | exact trivial | fail)
          exact decide_eq_false h4
        · repeat' (first | simp only [go_sem, Ret_eq Try.results115] | simp (disch := omega) only [arith, IntKind.bits, capMax, fill_len, elt_fill] | (with_reducible refine condI_beq (fun hq hqb => ?_) (fun hq hqb => ?_) <;> simp only [KP_mk, hqb]) | (with_reducible refine condI_bne (fun hq hqb => ?_) (fun hq hqb => ?_) <;> simp only [KP_mk, hqb]) | (with_reducible refine condI_dec (fun hq hqb => ?_) (fun hq hqb => ?_) <;> simp only [KP_mk, hqb]) | (with_reducible refine condI_b (fun hqb => ?_) (fun hqb => ?_) <;> simp only [KP_mk, hqb]) | refine RetO_calc Try.results115 ?_ | refine RetL_calc Try.results115 rfl ?_ | (refine Again.up (by omega) ?_ ?_) | exact trivial | fail)
      · repeat' (first | simp only [go_sem, Ret_eq Try.results115] | simp (disch := omega) only [arith, IntKind.bits, capMax, fill_len, elt_fill] | (with_reducible refine condI_beq (fun hq hqb => ?_) (fun hq hqb => ?_) <;> simp only [KP_mk, hqb]) | (with_reducible refine condI_bne (fun hq hqb => ?_) (fun hq hqb => ?_) <;> simp only [KP_mk, hqb]) | (with_reducible refine condI_dec (fun hq hqb => ?_) (fun hq hqb => ?_) <;> simp only [KP_mk, hqb]) | (with_reducible refine condI_b (fun hqb => ?_) (fun hqb => ?_) <;> simp only [KP_mk, hqb]) | refine RetO_calc Try.results115 ?_ | refine RetL_calc Try.results115 rfl ?_ | (refine Again.up (by omega) ?_ ?_) | exact trivial | fail)
    · repeat' (first | simp only [go_sem, Ret_eq Try.results115] | simp (disch := omega) only [arith, IntKind.bits, capMax, fill_len, elt_fill] | (with_reducible refine condI_beq (fun hq hqb => ?_) (fun hq hqb => ?_) <;> simp only [KP_mk, hqb]) | (with_reducible refine condI_bne (fun hq hqb => ?_) (fun hq hqb => ?_) <;> simp only [KP_mk, hqb]) | (with_reducible refine condI_dec (fun hq hqb => ?_) (fun hq hqb => ?_) <;> simp only [KP_mk, hqb]) | (with_reducible refine condI_b (fun hqb => ?_) (fun hqb => ?_) <;> simp only [KP_mk, hqb]) | refine RetO_calc Try.results115 ?_ | refine RetL_calc Try.results115 rfl ?_ | (refine Again.up (by omega) ?_ ?_) | exact trivial | fail)

theorem refSize_fun (n m : Int) : Fun Try.prog 59 [.v (.int .i64 n), .v (.int .i64 m)] fun r => r = .tup [.v (.int .i64 (sizeV n m)), .v (.int .i64 (sizeE n m))] := by
  have hb := sizes_fun n m
  unfold sizeV sizeE
  by_cases h : sizesOk n m
  · rw [decide_eq_true h] at hb
    rw [if_pos h, if_pos h]
    obtain ⟨⟨h1, h2⟩, h3, h4⟩ := h
    have e1 : 2 * n * (m - 1) ≤ 2 * 64 * 15 := Int.mul_le_mul (by omega) (by omega) (by omega) (by omega)
    have e2 : 0 ≤ 2 * n * (m - 1) := Int.mul_nonneg (by omega) (by omega)
    refine Fun.of_awpI Try.func59 rfl cal59 Try.ntmps59 (by simp) fun hwf => ?_
    simp only [D.wfs, D.wf, ints_length, ints_wfs, rows_length, rows_wfs, capMax, and_true, true_and] at hwf
    repeat' (first | simp only [go_sem, Ret_eq Try.results59] | simp (disch := omega) only [arith, IntKind.bits, capMax, fill_len, elt_fill] | (with_reducible refine condI_beq (fun hq hqb => ?_) (fun hq hqb => ?_) <;> simp only [KP_mk, hqb]) | (with_reducible refine condI_bne (fun hq hqb => ?_) (fun hq hqb => ?_) <;> simp only [KP_mk, hqb]) | (with_reducible refine condI_dec (fun hq hqb => ?_) (fun hq hqb => ?_) <;> simp only [KP_mk, hqb]) | (with_reducible refine condI_b (fun hqb => ?_) (fun hqb => ?_) <;> simp only [KP_mk, hqb]) | refine RetO_calc Try.results59 ?_ | refine RetL_calc Try.results59 rfl ?_ | (refine Again.up (by omega) ?_ ?_) | exact trivial | (refine opCallI_rd (by simp only [go_sem, Ret_eq Try.results59]; first | done | rfl) (hb) (by rintro _ rfl; rfl) ?_; rintro _ rfl) | (refine opCallI_gv (by simp only [go_sem, Ret_eq Try.results59]; first | done | rfl) (hb) ?_; rintro _ rfl) | fail)
  · rw [decide_eq_false h] at hb
    rw [if_neg h, if_neg h]
    refine Fun.of_awpI Try.func59 rfl cal59 Try.ntmps59 (by simp) fun hwf => ?_
    simp only [D.wfs, D.wf, ints_length, ints_wfs, rows_length, rows_wfs, capMax, and_true, true_and] at hwf
    repeat' (first | simp only [go_sem, Ret_eq Try.results59] | simp (disch := omega) only [arith, IntKind.bits, capMax, fill_len, elt_fill] | (with_reducible refine condI_beq (fun hq hqb => ?_) (fun hq hqb => ?_) <;> simp only [KP_mk, hqb]) | (with_reducible refine condI_bne (fun hq hqb => ?_) (fun hq hqb => ?_) <;> simp only [KP_mk, hqb]) | (with_reducible refine condI_dec (fun hq hqb => ?_) (fun hq hqb => ?_) <;> simp only [KP_mk, hqb]) | (with_reducible refine condI_b (fun hqb => ?_) (fun hqb => ?_) <;> simp only [KP_mk, hqb]) | refine RetO_calc Try.results59 ?_ | refine RetL_calc Try.results59 rfl ?_ | (refine Again.up (by omega) ?_ ?_) | exact trivial | (refine opCallI_rd (by simp only [go_sem, Ret_eq Try.results59]; first | done | rfl) (hb) (by rintro _ rfl; rfl) ?_; rintro _ rfl) | (refine opCallI_gv (by simp only [go_sem, Ret_eq Try.results59]; first | done | rfl) (hb) ?_; rintro _ rfl) | fail)

theorem refBookSame_fun (w : Int) (c : List (List Int)) (w2 : Int) (c2 : List (List Int)) : Fun Try.prog 61 [bookD w c, bookD w2 c2] fun r => r = .v (.bool (decide (w = w2 ∧ c = c2))) := by
  refine Fun.of_awpI Try.func61 rfl cal61 Try.ntmps61 (by simp) fun hwf => ?_
  simp only [D.wfs, D.wf, ints_length, ints_wfs, rows_length, rows_wfs, capMax, and_true, true_and] at hwf
  by_cases g1 : w = w2
  · have b1 : (w == w2) = true := beq_iff_eq.2 g1
    by_cases hl : c.length = c2.length
    · repeat' (first | simp only [go_sem, b1, g1, hl, bne_self_eq_false, Ret_eq Try.results61] | simp (disch := omega) only [arith, IntKind.bits, capMax, fill_len, elt_fill] | (with_reducible refine condI_beq (fun hq hqb => ?_) (fun hq hqb => ?_) <;> simp only [KP_mk, hqb]) | (with_reducible refine condI_bne (fun hq hqb => ?_) (fun hq hqb => ?_) <;> simp only [KP_mk, hqb]) | (with_reducible refine condI_dec (fun hq hqb => ?_) (fun hq hqb => ?_) <;> simp only [KP_mk, hqb]) | (with_reducible refine condI_b (fun hqb => ?_) (fun hqb => ?_) <;> simp only [KP_mk, hqb]) | refine RetO_calc Try.results61 ?_ | refine RetL_calc Try.results61 rfl ?_ | (refine awpI_draw2 (id := 6) (.one false 0 (.one false 1 (.one false 2 (.one false 3 (.one false 4 (.one false 5 (.one false 6 (.one false 7 (.one false 8 (.one false 9 (.only 10 (.one false 11 .done)))))))))))) mixed (by decide +kernel) (by decide +kernel) ?_) | (refine Again.up (by omega) ?_ ?_) | exact trivial | fail)
      refine awpI_for c2.length (fun k => c.take k = c2.take k) (fun k => [(23, .v (.int .i64 k))]) (fun _ => []) [2, 3, 22] [2, 3] _ (Weak.refl _) (by simp) ?_ ?_ ?_
      · simp only [go_sem, Ret_eq Try.results61]
      · simp only [go_sem, Ret_eq Try.results61]
      · intro k s hk hQ hs
        simp only [go_sem, Ret_eq Try.results61] at hs
        by_cases hka : k < c2.length
        · have hka2 : k < c.length := by omega
          have e1 := take_snoc (a := c) (d := ([] : List Int)) hka2
          have e2 := take_snoc (a := c2) (d := ([] : List Int)) hka
          have hs1 := sameCuts_fun (c.getD k []) (c2.getD k [])
          by_cases hv : c.getD k [] = c2.getD k []
          · rw [decide_eq_true hv] at hs1
            repeat' (first | simp only [go_sem, hs, Ret_eq Try.results61] | simp (disch := omega) only [arith, IntKind.bits, capMax, fill_len, elt_fill] | (with_reducible refine condI_beq (fun hq hqb => ?_) (fun hq hqb => ?_) <;> simp only [KP_mk, hqb]) | (with_reducible refine condI_bne (fun hq hqb => ?_) (fun hq hqb => ?_) <;> simp only [KP_mk, hqb]) | (with_reducible refine condI_dec (fun hq hqb => ?_) (fun hq hqb => ?_) <;> simp only [KP_mk, hqb]) | (with_reducible refine condI_b (fun hqb => ?_) (fun hqb => ?_) <;> simp only [KP_mk, hqb]) | refine RetO_calc Try.results61 ?_ | refine RetL_calc Try.results61 rfl ?_ | (refine awpI_draw2 (id := 6) (.one false 0 (.one false 1 (.one false 2 (.one false 3 (.one false 4 (.one false 5 (.one false 6 (.one false 7 (.one false 8 (.one false 9 (.only 10 (.one false 11 .done)))))))))))) mixed (by decide +kernel) (by decide +kernel) ?_) | (refine Again.up (by omega) ?_ ?_) | exact trivial | (refine opCallI_rd (by simp only [go_sem, hs, Ret_eq Try.results61]; first | done | rfl) (hs1) (by rintro _ rfl; rfl) ?_; rintro _ rfl) | (refine opCallI_gv (by simp only [go_sem, hs, Ret_eq Try.results61]; first | done | rfl) (hs1) ?_; rintro _ rfl) | fail)
            rw [e1, e2, hQ, hv]
          · rw [decide_eq_false hv] at hs1
            have hne : ¬ (w2 = w2 ∧ c = c2) := fun q => hv (by rw [q.2])
            repeat' (first | simp only [go_sem, hs, decide_eq_false hne, Ret_eq Try.results61] | simp (disch := omega) only [arith, IntKind.bits, capMax, fill_len, elt_fill] | (with_reducible refine condI_beq (fun hq hqb => ?_) (fun hq hqb => ?_) <;> simp only [KP_mk, hqb]) | (with_reducible refine condI_bne (fun hq hqb => ?_) (fun hq hqb => ?_) <;> simp only [KP_mk, hqb]) | (with_reducible refine condI_dec (fun hq hqb => ?_) (fun hq hqb => ?_) <;> simp only [KP_mk, hqb]) | (with_reducible refine condI_b (fun hqb => ?_) (fun hqb => ?_) <;> simp only [KP_mk, hqb]) | refine RetO_calc Try.results61 ?_ | refine RetL_calc Try.results61 rfl ?_ | (refine awpI_draw2 (id := 6) (.one false 0 (.one false 1 (.one false 2 (.one false 3 (.one false 4 (.one false 5 (.one false 6 (.one false 7 (.one false 8 (.one false 9 (.only 10 (.one false 11 .done)))))))))))) mixed (by decide +kernel) (by decide +kernel) ?_) | (refine Again.up (by omega) ?_ ?_) | exact trivial | (refine opCallI_rd (by simp only [go_sem, hs, decide_eq_false hne, Ret_eq Try.results61]; first | done | rfl) (hs1) (by rintro _ rfl; rfl) ?_; rintro _ rfl) | (refine opCallI_gv (by simp only [go_sem, hs, decide_eq_false hne, Ret_eq Try.results61]; first | done | rfl) (hs1) ?_; rintro _ rfl) | fail)
            symm; exact decide_eq_false fun q => hv (by rw [q.2])
        · obtain rfl : k = c2.length := by omega
          have hQ3 : c = c2 := by
            rw [List.take_length, ← hl, List.take_length] at hQ; exact hQ
          have hy : w2 = w2 ∧ c = c2 := ⟨rfl, hQ3⟩
          repeat' (first | simp only [go_sem, hs, decide_eq_true hy, Ret_eq Try.results61] | simp (disch := omega) only [arith, IntKind.bits, capMax, fill_len, elt_fill] | (with_reducible refine condI_beq (fun hq hqb => ?_) (fun hq hqb => ?_) <;> simp only [KP_mk, hqb]) | (with_reducible refine condI_bne (fun hq hqb => ?_) (fun hq hqb => ?_) <;> simp only [KP_mk, hqb]) | (with_reducible refine condI_dec (fun hq hqb => ?_) (fun hq hqb => ?_) <;> simp only [KP_mk, hqb]) | (with_reducible refine condI_b (fun hqb => ?_) (fun hqb => ?_) <;> simp only [KP_mk, hqb]) | refine RetO_calc Try.results61 ?_ | refine RetL_calc Try.results61 rfl ?_ | (refine awpI_draw2 (id := 6) (.one false 0 (.one false 1 (.one false 2 (.one false 3 (.one false 4 (.one false 5 (.one false 6 (.one false 7 (.one false 8 (.one false 9 (.only 10 (.one false 11 .done)))))))))))) mixed (by decide +kernel) (by decide +kernel) ?_) | (refine Again.up (by omega) ?_ ?_) | exact trivial | fail)
          symm; exact decide_eq_true ⟨g1, hQ3⟩
    · have hne : ¬ (w = w2 ∧ c = c2) := fun q => hl (by rw [q.2])
      have hb : ((c.length : Int) == (c2.length : Int)) = false := beq_eq_false_iff_ne.2 (by omega)
      rw [decide_eq_false hne]
      repeat' (first | simp only [go_sem, b1, hb, Ret_eq Try.results61] | simp (disch := omega) only [arith, IntKind.bits, capMax, fill_len, elt_fill] | (with_reducible refine condI_beq (fun hq hqb => ?_) (fun hq hqb => ?_) <;> simp only [KP_mk, hqb]) | (with_reducible refine condI_bne (fun hq hqb => ?_) (fun hq hqb => ?_) <;> simp only [KP_mk, hqb]) | (with_reducible refine condI_dec (fun hq hqb => ?_) (fun hq hqb => ?_) <;> simp only [KP_mk, hqb]) | (with_reducible refine condI_b (fun hqb => ?_) (fun hqb => ?_) <;> simp only [KP_mk, hqb]) | refine RetO_calc Try.results61 ?_ | refine RetL_calc Try.results61 rfl ?_ | (refine awpI_draw2 (id := 6) (.one false 0 (.one false 1 (.one false 2 (.one false 3 (.one false 4 (.one false 5 (.one false 6 (.one false 7 (.one false 8 (.one false 9 (.only 10 (.one false 11 .done)))))))))))) mixed (by decide +kernel) (by decide +kernel) ?_) | (refine Again.up (by omega) ?_ ?_) | exact trivial | fail)
  · have b1 : (w == w2) = false := beq_eq_false_iff_ne.2 g1
    rw [decide_eq_false (fun q => g1 q.1)]
    repeat' (first | simp only [go_sem, b1, Ret_eq Try.results61] | simp (disch := omega) only [arith, IntKind.bits, capMax, fill_len, elt_fill] | (with_reducible refine condI_beq (fun hq hqb => ?_) (fun hq hqb => ?_) <;> simp only [KP_mk, hqb]) | (with_reducible refine condI_bne (fun hq hqb => ?_) (fun hq hqb => ?_) <;> simp only [KP_mk, hqb]) | (with_reducible refine condI_dec (fun hq hqb => ?_) (fun hq hqb => ?_) <;> simp only [KP_mk, hqb]) | (with_reducible refine condI_b (fun hqb => ?_) (fun hqb => ?_) <;> simp only [KP_mk, hqb]) | refine RetO_calc Try.results61 ?_ | refine RetL_calc Try.results61 rfl ?_ | (refine awpI_draw2 (id := 6) (.one false 0 (.one false 1 (.one false 2 (.one false 3 (.one false 4 (.one false 5 (.one false 6 (.one false 7 (.one false 8 (.one false 9 (.only 10 (.one false 11 .done)))))))))))) mixed (by decide +kernel) (by decide +kernel) ?_) | (refine Again.up (by omega) ?_ ?_) | exact trivial | fail)

theorem refPlain_fun (n : Nat) (m : Nat) (h : 1 ≤ n ∧ n ≤ 64) (hm : 1 ≤ m ∧ m ≤ 16) : Fun Try.prog 57 [.v (.int .i64 n), .v (.int .i64 m)] fun r => r = .tup [bookD 0 (List.replicate n (plainRow m)), .v (.int .i64 0)] := by
  have hb := sizes_fun n m
  have hs0 : sizesOk n m := ⟨by omega, by omega⟩
  rw [decide_eq_true hs0] at hb
  have hrl : (plainRow m).length = m - 1 := by simp [plainRow]
  have hrg : ∀ j, j < m - 1 → (plainRow m).getD j 0 = plainCut m j := fun j hj => plainRow_getD (by omega)
  generalize plainRow m = row at *
  have htr : row.take (m - 1) = row := List.take_of_length_le (by omega)
  refine Fun.of_awpI Try.func57 rfl cal57 Try.ntmps57 (by simp) fun hwf => ?_
  simp only [D.wfs, D.wf, ints_length, ints_wfs, rows_length, rows_wfs, capMax, and_true, true_and] at hwf
  repeat' (first | simp only [go_sem, Ret_eq Try.results57] | simp (disch := omega) only [arith, IntKind.bits, capMax, fill_len, elt_fill] | (with_reducible refine condI_beq (fun hq hqb => ?_) (fun hq hqb => ?_) <;> simp only [KP_mk, hqb]) | (with_reducible refine condI_bne (fun hq hqb => ?_) (fun hq hqb => ?_) <;> simp only [KP_mk, hqb]) | (with_reducible refine condI_dec (fun hq hqb => ?_) (fun hq hqb => ?_) <;> simp only [KP_mk, hqb]) | (with_reducible refine condI_b (fun hqb => ?_) (fun hqb => ?_) <;> simp only [KP_mk, hqb]) | refine RetO_calc Try.results57 ?_ | refine RetL_calc Try.results57 rfl ?_ | (refine Again.up (by omega) ?_ ?_) | exact trivial | (refine opCallI_rd (by simp only [go_sem, Ret_eq Try.results57]; first | done | rfl) (hb) (by rintro _ rfl; rfl) ?_; rintro _ rfl) | (refine opCallI_gv (by simp only [go_sem, Ret_eq Try.results57]; first | done | rfl) (hb) ?_; rintro _ rfl) | fail)
  refine awpI_for n (fun k => True) (fun k => [(16, .v (.int .i64 k))]) (fun k => match k with | 0 => [(6, ⟨73, 2, [.agg [.v (.int .i64 0), .v (.slice none 0 0)]]⟩)] | k + 1 => [(6, ⟨73, 2, [.agg [.v (.int .i64 0), .ref 36 (k + 1)]]⟩), (36, ⟨22, 1, rows .i16 (List.replicate (k + 1) row)⟩)]) [1, 4, 6, 15] [4] _ (Weak.refl _) trivial ?_ ?_ ?_
  · simp only [go_sem, Ret_eq Try.results57]
  · simp only [go_sem, Ret_eq Try.results57]
  · intro k s hk _ hs
    by_cases hka : k < n
    · have hcut : ∀ j, j < m - 1 → ∀ y : Int, y = ((j : Int) + 1) * 65536 / (m : Int) → IntKind.i16.wrap (IntKind.i64.wrap (IntKind.i64.wrap y - 32768)) = plainCut m j := fun j hj y hy => by
        have hpr := plainCut_range (cells := m) (k := j) (by omega) (by omega)
        have ew : IntKind.i16.wrap (plainCut m j) = plainCut m j := IntWalk.i16_in _ (by omega)
        have e0 : plainCut m j = y - 32768 := by rw [hy]; rfl
        rw [e0] at hpr ew ⊢
        rw [show IntKind.i64.wrap y = y from IntWalk.i64_in _ (by omega), show IntKind.i64.wrap (y - 32768) = y - 32768 from IntWalk.i64_in _ (by omega)]
        exact ew
      cases k with
      | zero =>
        simp only [go_sem, Ret_eq Try.results57] at hs
        repeat' (first | simp only [go_sem, hs, Ret_eq Try.results57] | simp (disch := omega) only [arith, IntKind.bits, capMax, fill_len, elt_fill] | (with_reducible refine condI_beq (fun hq hqb => ?_) (fun hq hqb => ?_) <;> simp only [KP_mk, hqb]) | (with_reducible refine condI_bne (fun hq hqb => ?_) (fun hq hqb => ?_) <;> simp only [KP_mk, hqb]) | (with_reducible refine condI_dec (fun hq hqb => ?_) (fun hq hqb => ?_) <;> simp only [KP_mk, hqb]) | (with_reducible refine condI_b (fun hqb => ?_) (fun hqb => ?_) <;> simp only [KP_mk, hqb]) | refine RetO_calc Try.results57 ?_ | refine RetL_calc Try.results57 rfl ?_ | (refine Again.up (by omega) ?_ ?_) | exact trivial | fail)
        refine awpI_for (m - 1) (fun j => True) (fun j => [(7, .ref 31 j), (8, .v (.int .i64 ((j + 1 : Nat) : Int)))]) (fun j => [(31, ⟨23, 1, ints .i16 (row.take j)⟩)]) [1, 4, 6, 15, 16] [4, 6] _ (Weak.adopt (j := 7) 31 23 1 (by simp only [go_sem, hs, Ret_eq Try.results57]) (by simp only [go_sem, hs, Ret_eq Try.results57]) (by decide)) trivial ?_ ?_ ?_
        · simp only [go_sem, hs, Ret_eq Try.results57]
        · simp only [go_sem, hs, List.take_zero, ints_nil, Ret_eq Try.results57]
        · intro j s2 hj2 _ hs2
          simp only [go_sem, hs, Ret_eq Try.results57] at hs2
          by_cases hja : j < m - 1
          · have et := take_snoc (a := row) (d := (0 : Int)) (k := j) (by omega)
            rw [hrg j hja] at et
            have hc0 := hcut j hja (65536 * ((j + 1 : Nat) : Int) / (m : Int)) (by push_cast; rw [Int.mul_comm])
            have htl : (row.take j).length = j := by rw [List.length_take]; omega
            repeat' (first | simp only [go_sem, hs, hs2, hc0, et, htl, List.length_append, List.length_cons, List.length_nil, Ret_eq Try.results57] | simp (disch := omega) only [arith, IntKind.bits, capMax, fill_len, elt_fill] | (with_reducible refine condI_beq (fun hq hqb => ?_) (fun hq hqb => ?_) <;> simp only [KP_mk, hqb]) | (with_reducible refine condI_bne (fun hq hqb => ?_) (fun hq hqb => ?_) <;> simp only [KP_mk, hqb]) | (with_reducible refine condI_dec (fun hq hqb => ?_) (fun hq hqb => ?_) <;> simp only [KP_mk, hqb]) | (with_reducible refine condI_b (fun hqb => ?_) (fun hqb => ?_) <;> simp only [KP_mk, hqb]) | refine RetO_calc Try.results57 ?_ | refine RetL_calc Try.results57 rfl ?_ | (refine Again.up (by omega) ?_ ?_) | exact trivial | fail)
            all_goals skip
          · obtain rfl : j = m - 1 := by omega
            rw [htr] at hs2
            repeat' (first | simp only [go_sem, hs, hs2, hrl, htr, List.length_replicate, List.length_append, List.length_cons, List.length_nil, Ret_eq Try.results57] | simp (disch := omega) only [arith, IntKind.bits, capMax, fill_len, elt_fill] | (with_reducible refine condI_beq (fun hq hqb => ?_) (fun hq hqb => ?_) <;> simp only [KP_mk, hqb]) | (with_reducible refine condI_bne (fun hq hqb => ?_) (fun hq hqb => ?_) <;> simp only [KP_mk, hqb]) | (with_reducible refine condI_dec (fun hq hqb => ?_) (fun hq hqb => ?_) <;> simp only [KP_mk, hqb]) | (with_reducible refine condI_b (fun hqb => ?_) (fun hqb => ?_) <;> simp only [KP_mk, hqb]) | refine RetO_calc Try.results57 ?_ | refine RetL_calc Try.results57 rfl ?_ | (refine Again.up (by omega) ?_ ?_) | exact trivial | fail)
            all_goals exact ⟨rfl, rfl⟩
      | succ k =>
        simp only [go_sem, Ret_eq Try.results57] at hs
        repeat' (first | simp only [go_sem, hs, Ret_eq Try.results57] | simp (disch := omega) only [arith, IntKind.bits, capMax, fill_len, elt_fill] | (with_reducible refine condI_beq (fun hq hqb => ?_) (fun hq hqb => ?_) <;> simp only [KP_mk, hqb]) | (with_reducible refine condI_bne (fun hq hqb => ?_) (fun hq hqb => ?_) <;> simp only [KP_mk, hqb]) | (with_reducible refine condI_dec (fun hq hqb => ?_) (fun hq hqb => ?_) <;> simp only [KP_mk, hqb]) | (with_reducible refine condI_b (fun hqb => ?_) (fun hqb => ?_) <;> simp only [KP_mk, hqb]) | refine RetO_calc Try.results57 ?_ | refine RetL_calc Try.results57 rfl ?_ | (refine Again.up (by omega) ?_ ?_) | exact trivial | fail)
        refine awpI_for (m - 1) (fun j => True) (fun j => [(7, .ref 31 j), (8, .v (.int .i64 ((j + 1 : Nat) : Int)))]) (fun j => [(31, ⟨23, 1, ints .i16 (row.take j)⟩)]) [1, 4, 6, 15, 16] [4, 6, 36] _ (Weak.adopt (j := 7) 31 23 1 (by simp only [go_sem, hs, Ret_eq Try.results57]) (by simp only [go_sem, hs, Ret_eq Try.results57]) (by decide)) trivial ?_ ?_ ?_
        · simp only [go_sem, hs, Ret_eq Try.results57]
        · simp only [go_sem, hs, List.take_zero, ints_nil, Ret_eq Try.results57]
        · intro j s2 hj2 _ hs2
          simp only [go_sem, hs, Ret_eq Try.results57] at hs2
          by_cases hja : j < m - 1
          · have et := take_snoc (a := row) (d := (0 : Int)) (k := j) (by omega)
            rw [hrg j hja] at et
            have hc0 := hcut j hja (65536 * ((j + 1 : Nat) : Int) / (m : Int)) (by push_cast; rw [Int.mul_comm])
            have htl : (row.take j).length = j := by rw [List.length_take]; omega
            repeat' (first | simp only [go_sem, hs, hs2, hc0, et, htl, List.length_append, List.length_cons, List.length_nil, Ret_eq Try.results57] | simp (disch := omega) only [arith, IntKind.bits, capMax, fill_len, elt_fill] | (with_reducible refine condI_beq (fun hq hqb => ?_) (fun hq hqb => ?_) <;> simp only [KP_mk, hqb]) | (with_reducible refine condI_bne (fun hq hqb => ?_) (fun hq hqb => ?_) <;> simp only [KP_mk, hqb]) | (with_reducible refine condI_dec (fun hq hqb => ?_) (fun hq hqb => ?_) <;> simp only [KP_mk, hqb]) | (with_reducible refine condI_b (fun hqb => ?_) (fun hqb => ?_) <;> simp only [KP_mk, hqb]) | refine RetO_calc Try.results57 ?_ | refine RetL_calc Try.results57 rfl ?_ | (refine Again.up (by omega) ?_ ?_) | exact trivial | fail)
            all_goals skip
          · obtain rfl : j = m - 1 := by omega
            rw [htr] at hs2
            repeat' (first | simp only [go_sem, hs, hs2, hrl, htr, List.length_replicate, List.length_append, List.length_cons, List.length_nil, Ret_eq Try.results57] | simp (disch := omega) only [arith, IntKind.bits, capMax, fill_len, elt_fill] | (with_reducible refine condI_beq (fun hq hqb => ?_) (fun hq hqb => ?_) <;> simp only [KP_mk, hqb]) | (with_reducible refine condI_bne (fun hq hqb => ?_) (fun hq hqb => ?_) <;> simp only [KP_mk, hqb]) | (with_reducible refine condI_dec (fun hq hqb => ?_) (fun hq hqb => ?_) <;> simp only [KP_mk, hqb]) | (with_reducible refine condI_b (fun hqb => ?_) (fun hqb => ?_) <;> simp only [KP_mk, hqb]) | refine RetO_calc Try.results57 ?_ | refine RetL_calc Try.results57 rfl ?_ | (refine Again.up (by omega) ?_ ?_) | exact trivial | fail)
            all_goals (rw [← List.replicate_succ'])
    · obtain rfl : k = n := by omega
      obtain ⟨q, rfl⟩ : ∃ q, k = q + 1 := ⟨k - 1, by omega⟩
      simp only [go_sem, Ret_eq Try.results57] at hs
      repeat' (first | simp only [go_sem, hs, List.length_replicate, List.take_replicate, Nat.min_self, Ret_eq Try.results57] | simp (disch := omega) only [arith, IntKind.bits, capMax, fill_len, elt_fill] | (with_reducible refine condI_beq (fun hq hqb => ?_) (fun hq hqb => ?_) <;> simp only [KP_mk, hqb]) | (with_reducible refine condI_bne (fun hq hqb => ?_) (fun hq hqb => ?_) <;> simp only [KP_mk, hqb]) | (with_reducible refine condI_dec (fun hq hqb => ?_) (fun hq hqb => ?_) <;> simp only [KP_mk, hqb]) | (with_reducible refine condI_b (fun hqb => ?_) (fun hqb => ?_) <;> simp only [KP_mk, hqb]) | refine RetO_calc Try.results57 ?_ | refine RetL_calc Try.results57 rfl ?_ | (refine Again.up (by omega) ?_ ?_) | exact trivial | fail)
      all_goals skip
theorem refPlain_bad (n m : Int) (h : ¬ sizesOk n m) : Fun Try.prog 57 [.v (.int .i64 n), .v (.int .i64 m)] fun r => r = .tup [bookD 0 [], .v (.int .i64 1)] := by
  have hb := sizes_fun n m
  rw [decide_eq_false h] at hb
  refine Fun.of_awpI Try.func57 rfl cal57 Try.ntmps57 (by simp) fun hwf => ?_
  simp only [D.wfs, D.wf, ints_length, ints_wfs, rows_length, rows_wfs, capMax, and_true, true_and] at hwf
  repeat' (first | simp only [go_sem, rows_nil, Ret_eq Try.results57] | simp (disch := omega) only [arith, IntKind.bits, capMax, fill_len, elt_fill] | (with_reducible refine condI_beq (fun hq hqb => ?_) (fun hq hqb => ?_) <;> simp only [KP_mk, hqb]) | (with_reducible refine condI_bne (fun hq hqb => ?_) (fun hq hqb => ?_) <;> simp only [KP_mk, hqb]) | (with_reducible refine condI_dec (fun hq hqb => ?_) (fun hq hqb => ?_) <;> simp only [KP_mk, hqb]) | (with_reducible refine condI_b (fun hqb => ?_) (fun hqb => ?_) <;> simp only [KP_mk, hqb]) | refine RetO_calc Try.results57 ?_ | refine RetL_calc Try.results57 rfl ?_ | (refine Again.up (by omega) ?_ ?_) | exact trivial | (refine opCallI_rd (by simp only [go_sem, rows_nil, Ret_eq Try.results57]; first | done | rfl) (hb) (by rintro _ rfl; rfl) ?_; rintro _ rfl) | (refine opCallI_gv (by simp only [go_sem, rows_nil, Ret_eq Try.results57]; first | done | rfl) (hb) ?_; rintro _ rfl) | fail)
  all_goals rfl
theorem refPlainAll_fun (n m : Int) (h : sizesOk n m) : Fun Try.prog 57 [.v (.int .i64 n), .v (.int .i64 m)] fun r => r = .tup [bookD 0 (plainC n m), .v (.int .i64 0)] := by
  obtain ⟨⟨h1, h2⟩, h3, h4⟩ := h
  have e : plainC n m = List.replicate n.toNat (plainRow m) := if_pos ⟨⟨h1, h2⟩, h3, h4⟩
  rw [e]
  obtain ⟨a, rfl⟩ := Int.eq_ofNat_of_zero_le (show 0 ≤ n by omega)
  obtain ⟨b, rfl⟩ := Int.eq_ofNat_of_zero_le (show 0 ≤ m by omega)
  exact refPlain_fun a b (by omega) (by omega)
end Go.Proofs.Ytpkampecmlpfmaa.T
