import Derived.Test.YtpkampecmlpfmaaLE
import Derived.Test.YtpkampecmlpfmaaEQRef
set_option linter.unusedSimpArgs false
set_option linter.unusedVariables false
/- The document's books, codes and boxes, walked. -/
namespace Go.Proofs.Ytpkampecmlpfmaa.T
open Go Go.VL Go.Proofs
set_option maxRecDepth 100000
set_option maxHeartbeats 4000000
theorem book_any {w : Int} {cuts : List (List Int)} {k : Nat} (hk : k < cuts.length) (h : ¬ ((cuts.getD k []).length = manyOf cuts ∧ cutsErr (cuts.getD k []) = 0)) : bookErr w cuts = 1 := by
  refine bookErr_one fun ok => h ?_
  exact book_rows (bookErr_zero.2 ok) _ (getD_mem hk)
theorem book_all {w : Int} {cuts : List (List Int)} (h1 : 1 ≤ cuts.length) (h2 : cuts.length ≤ 64) (h3 : wayErr w = 0) (h : ∀ i, i < cuts.length → (cuts.getD i []).length = manyOf cuts ∧ cutsErr (cuts.getD i []) = 0) : bookErr w cuts = 0 := by
  refine bookErr_zero.2 ⟨h1, h2, h3, ?_⟩
  rw [List.any_eq_false]
  intro c hc
  obtain ⟨i, hi, rfl⟩ := List.mem_iff_getElem.1 hc
  have := h i hi
  rw [show cuts.getD i [] = cuts[i] by simp [List.getD, hi]] at this
  unfold oddCut
  simp [this.1, this.2]

theorem refBookCheck_fun (w : Int) (cuts : List (List Int)) (hr : I16r cuts) : Fun Try.prog 110 [.agg [.v (.int .i64 w), .lst (rows .i16 cuts)]] fun r => r = .v (.int .i64 (bookErr w cuts)) := by
  refine Fun.of_awpI Try.func110 rfl cal110 Try.ntmps110 (by simp) fun hwf => ?_
  simp only [D.wfs, D.wf, ints_length, ints_wfs, rows_length, rows_wfs, capMax, and_true, true_and] at hwf
  by_cases h3 : wayErr w = 0
  · by_cases h12 : 1 ≤ cuts.length ∧ cuts.length ≤ 64
    · obtain ⟨h1, h2⟩ := h12
      repeat' (first | simp only [go_sem, h3, Ret_eq Try.results110] | simp (disch := omega) only [arith, IntKind.bits, capMax, fill_len, elt_fill] | (with_reducible refine condI_beq (fun hq hqb => ?_) (fun hq hqb => ?_) <;> simp only [KP_mk, hqb]) | (with_reducible refine condI_bne (fun hq hqb => ?_) (fun hq hqb => ?_) <;> simp only [KP_mk, hqb]) | (with_reducible refine condI_dec (fun hq hqb => ?_) (fun hq hqb => ?_) <;> simp only [KP_mk, hqb]) | (with_reducible refine condI_b (fun hqb => ?_) (fun hqb => ?_) <;> simp only [KP_mk, hqb]) | refine RetO_calc Try.results110 ?_ | refine RetL_calc Try.results110 rfl ?_ | (refine Again.up (by omega) ?_ ?_) | exact trivial | (refine opCallI_rd (by simp only [go_sem, h3, Ret_eq Try.results110]; first | done | rfl) (may_fun w) (by rintro _ rfl; rfl) ?_; rintro _ rfl) | (refine opCallI_gv (by simp only [go_sem, h3, Ret_eq Try.results110]; first | done | rfl) (may_fun w) ?_; rintro _ rfl) | fail)
      refine awpI_for cuts.length (fun k => ∀ i, i < k → (cuts.getD i []).length = manyOf cuts ∧ cutsErr (cuts.getD i []) = 0) (fun k => [(24, .v (.int .i64 k))]) (fun _ => []) [1, 22, 23] [1] _ (Weak.refl _) (fun i hi => by omega) ?_ ?_ ?_
      · simp only [go_sem, Ret_eq Try.results110]
      · simp only [go_sem, Ret_eq Try.results110]
      · intro k s hk hQ hs
        simp only [go_sem, Ret_eq Try.results110] at hs
        by_cases hka : k < cuts.length
        · have hm : (cuts.getD 0 []).length = manyOf cuts := rfl
          have bad := book_any (w := w) hka
          by_cases q1 : cutsErr (cuts.getD k []) = 0
          · by_cases q2 : (cuts.getD k []).length = manyOf cuts
            · repeat' (first | simp only [go_sem, hs, q1, hm, q2, Ret_eq Try.results110] | simp (disch := omega) only [arith, IntKind.bits, capMax, fill_len, elt_fill] | (with_reducible refine condI_beq (fun hq hqb => ?_) (fun hq hqb => ?_) <;> simp only [KP_mk, hqb]) | (with_reducible refine condI_bne (fun hq hqb => ?_) (fun hq hqb => ?_) <;> simp only [KP_mk, hqb]) | (with_reducible refine condI_dec (fun hq hqb => ?_) (fun hq hqb => ?_) <;> simp only [KP_mk, hqb]) | (with_reducible refine condI_b (fun hqb => ?_) (fun hqb => ?_) <;> simp only [KP_mk, hqb]) | refine RetO_calc Try.results110 ?_ | refine RetL_calc Try.results110 rfl ?_ | (refine Again.up (by omega) ?_ ?_) | exact trivial | (refine opCallI_rd (by simp only [go_sem, hs, q1, hm, q2, Ret_eq Try.results110]; first | done | rfl) (refCutsCheck_fun (cuts.getD k []) (hr.getD k)) (by rintro _ rfl; rfl) ?_; rintro _ rfl) | (refine opCallI_gv (by simp only [go_sem, hs, q1, hm, q2, Ret_eq Try.results110]; first | done | rfl) (refCutsCheck_fun (cuts.getD k []) (hr.getD k)) ?_; rintro _ rfl) | fail)
              all_goals (intro i hi
                         by_cases hik : i = k
                         · subst hik; exact ⟨q2, q1⟩
                         · exact hQ i (by omega))
            · rw [bad (fun q => q2 q.1)]
              repeat' (first | simp only [go_sem, hs, q1, hm, Ret_eq Try.results110] | simp (disch := omega) only [arith, IntKind.bits, capMax, fill_len, elt_fill] | (with_reducible refine condI_beq (fun hq hqb => ?_) (fun hq hqb => ?_) <;> simp only [KP_mk, hqb]) | (with_reducible refine condI_bne (fun hq hqb => ?_) (fun hq hqb => ?_) <;> simp only [KP_mk, hqb]) | (with_reducible refine condI_dec (fun hq hqb => ?_) (fun hq hqb => ?_) <;> simp only [KP_mk, hqb]) | (with_reducible refine condI_b (fun hqb => ?_) (fun hqb => ?_) <;> simp only [KP_mk, hqb]) | refine RetO_calc Try.results110 ?_ | refine RetL_calc Try.results110 rfl ?_ | (refine Again.up (by omega) ?_ ?_) | exact trivial | (refine opCallI_rd (by simp only [go_sem, hs, q1, hm, Ret_eq Try.results110]; first | done | rfl) (refCutsCheck_fun (cuts.getD k []) (hr.getD k)) (by rintro _ rfl; rfl) ?_; rintro _ rfl) | (refine opCallI_gv (by simp only [go_sem, hs, q1, hm, Ret_eq Try.results110]; first | done | rfl) (refCutsCheck_fun (cuts.getD k []) (hr.getD k)) ?_; rintro _ rfl) | fail)
          · rw [bad (fun q => q1 q.2)]
            repeat' (first | simp only [go_sem, hs, hm, Ret_eq Try.results110] | simp (disch := omega) only [arith, IntKind.bits, capMax, fill_len, elt_fill] | (with_reducible refine condI_beq (fun hq hqb => ?_) (fun hq hqb => ?_) <;> simp only [KP_mk, hqb]) | (with_reducible refine condI_bne (fun hq hqb => ?_) (fun hq hqb => ?_) <;> simp only [KP_mk, hqb]) | (with_reducible refine condI_dec (fun hq hqb => ?_) (fun hq hqb => ?_) <;> simp only [KP_mk, hqb]) | (with_reducible refine condI_b (fun hqb => ?_) (fun hqb => ?_) <;> simp only [KP_mk, hqb]) | refine RetO_calc Try.results110 ?_ | refine RetL_calc Try.results110 rfl ?_ | (refine Again.up (by omega) ?_ ?_) | exact trivial | (refine opCallI_rd (by simp only [go_sem, hs, hm, Ret_eq Try.results110]; first | done | rfl) (refCutsCheck_fun (cuts.getD k []) (hr.getD k)) (by rintro _ rfl; rfl) ?_; rintro _ rfl) | (refine opCallI_gv (by simp only [go_sem, hs, hm, Ret_eq Try.results110]; first | done | rfl) (refCutsCheck_fun (cuts.getD k []) (hr.getD k)) ?_; rintro _ rfl) | fail)
        · obtain rfl : k = cuts.length := by omega
          repeat' (first | simp only [go_sem, hs, Ret_eq Try.results110] | simp (disch := omega) only [arith, IntKind.bits, capMax, fill_len, elt_fill] | (with_reducible refine condI_beq (fun hq hqb => ?_) (fun hq hqb => ?_) <;> simp only [KP_mk, hqb]) | (with_reducible refine condI_bne (fun hq hqb => ?_) (fun hq hqb => ?_) <;> simp only [KP_mk, hqb]) | (with_reducible refine condI_dec (fun hq hqb => ?_) (fun hq hqb => ?_) <;> simp only [KP_mk, hqb]) | (with_reducible refine condI_b (fun hqb => ?_) (fun hqb => ?_) <;> simp only [KP_mk, hqb]) | refine RetO_calc Try.results110 ?_ | refine RetL_calc Try.results110 rfl ?_ | (refine Again.up (by omega) ?_ ?_) | exact trivial | fail)
          rw [book_all h1 h2 h3 hQ]
    · rw [bookErr_one (fun q => h12 ⟨q.1, q.2.1⟩)]
      repeat' (first | simp only [go_sem, h3, Ret_eq Try.results110] | simp (disch := omega) only [arith, IntKind.bits, capMax, fill_len, elt_fill] | (with_reducible refine condI_beq (fun hq hqb => ?_) (fun hq hqb => ?_) <;> simp only [KP_mk, hqb]) | (with_reducible refine condI_bne (fun hq hqb => ?_) (fun hq hqb => ?_) <;> simp only [KP_mk, hqb]) | (with_reducible refine condI_dec (fun hq hqb => ?_) (fun hq hqb => ?_) <;> simp only [KP_mk, hqb]) | (with_reducible refine condI_b (fun hqb => ?_) (fun hqb => ?_) <;> simp only [KP_mk, hqb]) | refine RetO_calc Try.results110 ?_ | refine RetL_calc Try.results110 rfl ?_ | (refine Again.up (by omega) ?_ ?_) | exact trivial | (refine opCallI_rd (by simp only [go_sem, h3, Ret_eq Try.results110]; first | done | rfl) (may_fun w) (by rintro _ rfl; rfl) ?_; rintro _ rfl) | (refine opCallI_gv (by simp only [go_sem, h3, Ret_eq Try.results110]; first | done | rfl) (may_fun w) ?_; rintro _ rfl) | fail)
      all_goals (exfalso; omega)
  · rw [bookErr_one (fun q => h3 q.2.2.1)]
    have h4 := wayErr_one h3
    repeat' (first | simp only [go_sem, h4, Ret_eq Try.results110] | simp (disch := omega) only [arith, IntKind.bits, capMax, fill_len, elt_fill] | (with_reducible refine condI_beq (fun hq hqb => ?_) (fun hq hqb => ?_) <;> simp only [KP_mk, hqb]) | (with_reducible refine condI_bne (fun hq hqb => ?_) (fun hq hqb => ?_) <;> simp only [KP_mk, hqb]) | (with_reducible refine condI_dec (fun hq hqb => ?_) (fun hq hqb => ?_) <;> simp only [KP_mk, hqb]) | (with_reducible refine condI_b (fun hqb => ?_) (fun hqb => ?_) <;> simp only [KP_mk, hqb]) | refine RetO_calc Try.results110 ?_ | refine RetL_calc Try.results110 rfl ?_ | (refine Again.up (by omega) ?_ ?_) | exact trivial | (refine opCallI_rd (by simp only [go_sem, h4, Ret_eq Try.results110]; first | done | rfl) (may_fun w) (by rintro _ rfl; rfl) ?_; rintro _ rfl) | (refine opCallI_gv (by simp only [go_sem, h4, Ret_eq Try.results110]; first | done | rfl) (may_fun w) ?_; rintro _ rfl) | fail)
end Go.Proofs.Ytpkampecmlpfmaa.T
