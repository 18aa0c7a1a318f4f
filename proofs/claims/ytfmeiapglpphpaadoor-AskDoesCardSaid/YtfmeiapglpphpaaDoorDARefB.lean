import Derived.Test.YtfmeiapglpphpaaDoorDARefA
set_option linter.unusedSimpArgs false
set_option linter.unusedVariables false
/- The document's answer on what is asked, walked: whether it may be. -/
namespace Go.Proofs.YtfmeiapglpphpaaDoor.T
open Go Go.VL Go.Proofs
set_option maxRecDepth 100000
set_option maxHeartbeats 8000000

theorem refCheck18_fun (k id n seed : Int) (v : List Int) (dim slots : Int) (hse : seed ≤ 9223372036854775807) : Fun Tryd.prog 15 [askD k id n seed v, .v (.int .i64 dim), .v (.int .i64 slots)] fun r => r = .v (.int .i64 (askErr k id n seed v dim slots)) := by
  have sz := refSizes_fun dim slots
  have hvc := refVecCheck_fun v
  have hI := refId_fun id
  by_cases hz : sizesOk dim slots
  · rw [decide_eq_true hz] at sz
    by_cases hk : kindOk k
    · have nm := names_fun k hk
      have hk0 := hk
      obtain ⟨k1, k8⟩ := hk0
      rcases shapes_five hk with ⟨e1, e2, e3, e4⟩ | ⟨e1, e2, e3, e4⟩ | ⟨e1, e2, e3, e4⟩ | ⟨e1, e2, e3, e4⟩ | ⟨e1, e2, e3, e4⟩
      · rw [e1, e2, e3, e4] at nm
        simp only [Int.reduceEq, decide_true, decide_false] at nm
        by_cases h1 : 0 ≤ id ∧ id ≤ 2147483647
        · skip
          rw [decide_eq_true h1] at hI
          by_cases h2 : n = 0
          · skip
            by_cases h4 : seed = 0
            · skip
              by_cases h5 : vecErr v = 0
              · skip
                by_cases h6 : (v.length : Int) = dim
                · skip
                  have hE : askErr k id n seed v dim slots = 0 := if_pos ⟨hz, hk, by unfold namedP; simp only [e1, Int.reduceEq, if_true, if_false]; omega, by unfold namedP; simp only [e2, Int.reduceEq, if_true, if_false]; omega, by unfold namedP; simp only [e3, Int.reduceEq, if_true, if_false]; omega, by unfold vOk; simp only [e4, if_true, if_false, Bool.false_eq_true]; omega⟩
                  rw [hE]
                  refine Fun.of_awpI Tryd.func15 rfl cal15 Tryd.ntmps15 (by simp) fun hwf => ?_
                  simp only [D.wfs, D.wf, ints_length, ints_wfs, rows_length, rows_wfs, capMax, and_true, true_and] at hwf
                  repeat' (first | simp only [go_sem, Ret_eq Tryd.results15] | simp (disch := omega) only [arith, IntKind.bits, capMax, fill_len, elt_fill] | (with_reducible refine condI_beq (fun hq hqb => ?_) (fun hq hqb => ?_) <;> simp only [KP_mk, hqb]) | (with_reducible refine condI_bne (fun hq hqb => ?_) (fun hq hqb => ?_) <;> simp only [KP_mk, hqb]) | (with_reducible refine condI_dec (fun hq hqb => ?_) (fun hq hqb => ?_) <;> simp only [KP_mk, hqb]) | (with_reducible refine condI_b (fun hqb => ?_) (fun hqb => ?_) <;> simp only [KP_mk, hqb]) | refine RetO_calc Tryd.results15 ?_ | refine RetL_calc Tryd.results15 rfl ?_ | (refine Again.up (by omega) ?_ ?_) | exact trivial | (refine opCallI_rd (by simp only [go_sem, Ret_eq Tryd.results15]; first | done | rfl) (sz) (by rintro _ rfl; rfl) ?_; rintro _ rfl) | (refine opCallI_gv (by simp only [go_sem, Ret_eq Tryd.results15]; first | done | rfl) (sz) ?_; rintro _ rfl) | (refine opCallI_rd (by simp only [go_sem, Ret_eq Tryd.results15]; first | done | rfl) (nm) (by rintro _ rfl; rfl) ?_; rintro _ rfl) | (refine opCallI_gv (by simp only [go_sem, Ret_eq Tryd.results15]; first | done | rfl) (nm) ?_; rintro _ rfl) | (refine opCallI_rd (by simp only [go_sem, Ret_eq Tryd.results15]; first | done | rfl) (hI) (by rintro _ rfl; rfl) ?_; rintro _ rfl) | (refine opCallI_gv (by simp only [go_sem, Ret_eq Tryd.results15]; first | done | rfl) (hI) ?_; rintro _ rfl) | (refine opCallI_rd (by simp only [go_sem, Ret_eq Tryd.results15]; first | done | rfl) (hvc) (by rintro _ rfl; rfl) ?_; rintro _ rfl) | (refine opCallI_gv (by simp only [go_sem, Ret_eq Tryd.results15]; first | done | rfl) (hvc) ?_; rintro _ rfl) | fail)
                · skip
                  have hE : askErr k id n seed v dim slots = 1 := if_neg fun q => by
                    obtain ⟨_, _, q1, q2, q3, q4⟩ := q
                    unfold namedP at q1 q2 q3
                    unfold vOk at q4
                    simp only [e1, e2, e3, e4, Int.reduceEq, if_true, if_false, Bool.false_eq_true] at q1 q2 q3 q4
                    omega
                  rw [hE]
                  refine Fun.of_awpI Tryd.func15 rfl cal15 Tryd.ntmps15 (by simp) fun hwf => ?_
                  simp only [D.wfs, D.wf, ints_length, ints_wfs, rows_length, rows_wfs, capMax, and_true, true_and] at hwf
                  repeat' (first | simp only [go_sem, Ret_eq Tryd.results15] | simp (disch := omega) only [arith, IntKind.bits, capMax, fill_len, elt_fill] | (with_reducible refine condI_beq (fun hq hqb => ?_) (fun hq hqb => ?_) <;> simp only [KP_mk, hqb]) | (with_reducible refine condI_bne (fun hq hqb => ?_) (fun hq hqb => ?_) <;> simp only [KP_mk, hqb]) | (with_reducible refine condI_dec (fun hq hqb => ?_) (fun hq hqb => ?_) <;> simp only [KP_mk, hqb]) | (with_reducible refine condI_b (fun hqb => ?_) (fun hqb => ?_) <;> simp only [KP_mk, hqb]) | refine RetO_calc Tryd.results15 ?_ | refine RetL_calc Tryd.results15 rfl ?_ | (refine Again.up (by omega) ?_ ?_) | exact trivial | (refine opCallI_rd (by simp only [go_sem, Ret_eq Tryd.results15]; first | done | rfl) (sz) (by rintro _ rfl; rfl) ?_; rintro _ rfl) | (refine opCallI_gv (by simp only [go_sem, Ret_eq Tryd.results15]; first | done | rfl) (sz) ?_; rintro _ rfl) | (refine opCallI_rd (by simp only [go_sem, Ret_eq Tryd.results15]; first | done | rfl) (nm) (by rintro _ rfl; rfl) ?_; rintro _ rfl) | (refine opCallI_gv (by simp only [go_sem, Ret_eq Tryd.results15]; first | done | rfl) (nm) ?_; rintro _ rfl) | (refine opCallI_rd (by simp only [go_sem, Ret_eq Tryd.results15]; first | done | rfl) (hI) (by rintro _ rfl; rfl) ?_; rintro _ rfl) | (refine opCallI_gv (by simp only [go_sem, Ret_eq Tryd.results15]; first | done | rfl) (hI) ?_; rintro _ rfl) | (refine opCallI_rd (by simp only [go_sem, Ret_eq Tryd.results15]; first | done | rfl) (hvc) (by rintro _ rfl; rfl) ?_; rintro _ rfl) | (refine opCallI_gv (by simp only [go_sem, Ret_eq Tryd.results15]; first | done | rfl) (hvc) ?_; rintro _ rfl) | fail)
              · skip
                have hE : askErr k id n seed v dim slots = 1 := if_neg fun q => by
                  obtain ⟨_, _, q1, q2, q3, q4⟩ := q
                  unfold namedP at q1 q2 q3
                  unfold vOk at q4
                  simp only [e1, e2, e3, e4, Int.reduceEq, if_true, if_false, Bool.false_eq_true] at q1 q2 q3 q4
                  omega
                rw [hE]
                refine Fun.of_awpI Tryd.func15 rfl cal15 Tryd.ntmps15 (by simp) fun hwf => ?_
                simp only [D.wfs, D.wf, ints_length, ints_wfs, rows_length, rows_wfs, capMax, and_true, true_and] at hwf
                repeat' (first | simp only [go_sem, Ret_eq Tryd.results15] | simp (disch := omega) only [arith, IntKind.bits, capMax, fill_len, elt_fill] | (with_reducible refine condI_beq (fun hq hqb => ?_) (fun hq hqb => ?_) <;> simp only [KP_mk, hqb]) | (with_reducible refine condI_bne (fun hq hqb => ?_) (fun hq hqb => ?_) <;> simp only [KP_mk, hqb]) | (with_reducible refine condI_dec (fun hq hqb => ?_) (fun hq hqb => ?_) <;> simp only [KP_mk, hqb]) | (with_reducible refine condI_b (fun hqb => ?_) (fun hqb => ?_) <;> simp only [KP_mk, hqb]) | refine RetO_calc Tryd.results15 ?_ | refine RetL_calc Tryd.results15 rfl ?_ | (refine Again.up (by omega) ?_ ?_) | exact trivial | (refine opCallI_rd (by simp only [go_sem, Ret_eq Tryd.results15]; first | done | rfl) (sz) (by rintro _ rfl; rfl) ?_; rintro _ rfl) | (refine opCallI_gv (by simp only [go_sem, Ret_eq Tryd.results15]; first | done | rfl) (sz) ?_; rintro _ rfl) | (refine opCallI_rd (by simp only [go_sem, Ret_eq Tryd.results15]; first | done | rfl) (nm) (by rintro _ rfl; rfl) ?_; rintro _ rfl) | (refine opCallI_gv (by simp only [go_sem, Ret_eq Tryd.results15]; first | done | rfl) (nm) ?_; rintro _ rfl) | (refine opCallI_rd (by simp only [go_sem, Ret_eq Tryd.results15]; first | done | rfl) (hI) (by rintro _ rfl; rfl) ?_; rintro _ rfl) | (refine opCallI_gv (by simp only [go_sem, Ret_eq Tryd.results15]; first | done | rfl) (hI) ?_; rintro _ rfl) | (refine opCallI_rd (by simp only [go_sem, Ret_eq Tryd.results15]; first | done | rfl) (hvc) (by rintro _ rfl; rfl) ?_; rintro _ rfl) | (refine opCallI_gv (by simp only [go_sem, Ret_eq Tryd.results15]; first | done | rfl) (hvc) ?_; rintro _ rfl) | fail)
            · skip
              have hE : askErr k id n seed v dim slots = 1 := if_neg fun q => by
                obtain ⟨_, _, q1, q2, q3, q4⟩ := q
                unfold namedP at q1 q2 q3
                unfold vOk at q4
                simp only [e1, e2, e3, e4, Int.reduceEq, if_true, if_false, Bool.false_eq_true] at q1 q2 q3 q4
                omega
              rw [hE]
              refine Fun.of_awpI Tryd.func15 rfl cal15 Tryd.ntmps15 (by simp) fun hwf => ?_
              simp only [D.wfs, D.wf, ints_length, ints_wfs, rows_length, rows_wfs, capMax, and_true, true_and] at hwf
              repeat' (first | simp only [go_sem, Ret_eq Tryd.results15] | simp (disch := omega) only [arith, IntKind.bits, capMax, fill_len, elt_fill] | (with_reducible refine condI_beq (fun hq hqb => ?_) (fun hq hqb => ?_) <;> simp only [KP_mk, hqb]) | (with_reducible refine condI_bne (fun hq hqb => ?_) (fun hq hqb => ?_) <;> simp only [KP_mk, hqb]) | (with_reducible refine condI_dec (fun hq hqb => ?_) (fun hq hqb => ?_) <;> simp only [KP_mk, hqb]) | (with_reducible refine condI_b (fun hqb => ?_) (fun hqb => ?_) <;> simp only [KP_mk, hqb]) | refine RetO_calc Tryd.results15 ?_ | refine RetL_calc Tryd.results15 rfl ?_ | (refine Again.up (by omega) ?_ ?_) | exact trivial | (refine opCallI_rd (by simp only [go_sem, Ret_eq Tryd.results15]; first | done | rfl) (sz) (by rintro _ rfl; rfl) ?_; rintro _ rfl) | (refine opCallI_gv (by simp only [go_sem, Ret_eq Tryd.results15]; first | done | rfl) (sz) ?_; rintro _ rfl) | (refine opCallI_rd (by simp only [go_sem, Ret_eq Tryd.results15]; first | done | rfl) (nm) (by rintro _ rfl; rfl) ?_; rintro _ rfl) | (refine opCallI_gv (by simp only [go_sem, Ret_eq Tryd.results15]; first | done | rfl) (nm) ?_; rintro _ rfl) | (refine opCallI_rd (by simp only [go_sem, Ret_eq Tryd.results15]; first | done | rfl) (hI) (by rintro _ rfl; rfl) ?_; rintro _ rfl) | (refine opCallI_gv (by simp only [go_sem, Ret_eq Tryd.results15]; first | done | rfl) (hI) ?_; rintro _ rfl) | (refine opCallI_rd (by simp only [go_sem, Ret_eq Tryd.results15]; first | done | rfl) (hvc) (by rintro _ rfl; rfl) ?_; rintro _ rfl) | (refine opCallI_gv (by simp only [go_sem, Ret_eq Tryd.results15]; first | done | rfl) (hvc) ?_; rintro _ rfl) | fail)
          · skip
            have hE : askErr k id n seed v dim slots = 1 := if_neg fun q => by
              obtain ⟨_, _, q1, q2, q3, q4⟩ := q
              unfold namedP at q1 q2 q3
              unfold vOk at q4
              simp only [e1, e2, e3, e4, Int.reduceEq, if_true, if_false, Bool.false_eq_true] at q1 q2 q3 q4
              omega
            rw [hE]
            refine Fun.of_awpI Tryd.func15 rfl cal15 Tryd.ntmps15 (by simp) fun hwf => ?_
            simp only [D.wfs, D.wf, ints_length, ints_wfs, rows_length, rows_wfs, capMax, and_true, true_and] at hwf
            repeat' (first | simp only [go_sem, Ret_eq Tryd.results15] | simp (disch := omega) only [arith, IntKind.bits, capMax, fill_len, elt_fill] | (with_reducible refine condI_beq (fun hq hqb => ?_) (fun hq hqb => ?_) <;> simp only [KP_mk, hqb]) | (with_reducible refine condI_bne (fun hq hqb => ?_) (fun hq hqb => ?_) <;> simp only [KP_mk, hqb]) | (with_reducible refine condI_dec (fun hq hqb => ?_) (fun hq hqb => ?_) <;> simp only [KP_mk, hqb]) | (with_reducible refine condI_b (fun hqb => ?_) (fun hqb => ?_) <;> simp only [KP_mk, hqb]) | refine RetO_calc Tryd.results15 ?_ | refine RetL_calc Tryd.results15 rfl ?_ | (refine Again.up (by omega) ?_ ?_) | exact trivial | (refine opCallI_rd (by simp only [go_sem, Ret_eq Tryd.results15]; first | done | rfl) (sz) (by rintro _ rfl; rfl) ?_; rintro _ rfl) | (refine opCallI_gv (by simp only [go_sem, Ret_eq Tryd.results15]; first | done | rfl) (sz) ?_; rintro _ rfl) | (refine opCallI_rd (by simp only [go_sem, Ret_eq Tryd.results15]; first | done | rfl) (nm) (by rintro _ rfl; rfl) ?_; rintro _ rfl) | (refine opCallI_gv (by simp only [go_sem, Ret_eq Tryd.results15]; first | done | rfl) (nm) ?_; rintro _ rfl) | (refine opCallI_rd (by simp only [go_sem, Ret_eq Tryd.results15]; first | done | rfl) (hI) (by rintro _ rfl; rfl) ?_; rintro _ rfl) | (refine opCallI_gv (by simp only [go_sem, Ret_eq Tryd.results15]; first | done | rfl) (hI) ?_; rintro _ rfl) | (refine opCallI_rd (by simp only [go_sem, Ret_eq Tryd.results15]; first | done | rfl) (hvc) (by rintro _ rfl; rfl) ?_; rintro _ rfl) | (refine opCallI_gv (by simp only [go_sem, Ret_eq Tryd.results15]; first | done | rfl) (hvc) ?_; rintro _ rfl) | fail)
        · skip
          rw [decide_eq_false h1] at hI
          have hE : askErr k id n seed v dim slots = 1 := if_neg fun q => by
            obtain ⟨_, _, q1, q2, q3, q4⟩ := q
            unfold namedP at q1 q2 q3
            unfold vOk at q4
            simp only [e1, e2, e3, e4, Int.reduceEq, if_true, if_false, Bool.false_eq_true] at q1 q2 q3 q4
            omega
          rw [hE]
          refine Fun.of_awpI Tryd.func15 rfl cal15 Tryd.ntmps15 (by simp) fun hwf => ?_
          simp only [D.wfs, D.wf, ints_length, ints_wfs, rows_length, rows_wfs, capMax, and_true, true_and] at hwf
          repeat' (first | simp only [go_sem, Ret_eq Tryd.results15] | simp (disch := omega) only [arith, IntKind.bits, capMax, fill_len, elt_fill] | (with_reducible refine condI_beq (fun hq hqb => ?_) (fun hq hqb => ?_) <;> simp only [KP_mk, hqb]) | (with_reducible refine condI_bne (fun hq hqb => ?_) (fun hq hqb => ?_) <;> simp only [KP_mk, hqb]) | (with_reducible refine condI_dec (fun hq hqb => ?_) (fun hq hqb => ?_) <;> simp only [KP_mk, hqb]) | (with_reducible refine condI_b (fun hqb => ?_) (fun hqb => ?_) <;> simp only [KP_mk, hqb]) | refine RetO_calc Tryd.results15 ?_ | refine RetL_calc Tryd.results15 rfl ?_ | (refine Again.up (by omega) ?_ ?_) | exact trivial | (refine opCallI_rd (by simp only [go_sem, Ret_eq Tryd.results15]; first | done | rfl) (sz) (by rintro _ rfl; rfl) ?_; rintro _ rfl) | (refine opCallI_gv (by simp only [go_sem, Ret_eq Tryd.results15]; first | done | rfl) (sz) ?_; rintro _ rfl) | (refine opCallI_rd (by simp only [go_sem, Ret_eq Tryd.results15]; first | done | rfl) (nm) (by rintro _ rfl; rfl) ?_; rintro _ rfl) | (refine opCallI_gv (by simp only [go_sem, Ret_eq Tryd.results15]; first | done | rfl) (nm) ?_; rintro _ rfl) | (refine opCallI_rd (by simp only [go_sem, Ret_eq Tryd.results15]; first | done | rfl) (hI) (by rintro _ rfl; rfl) ?_; rintro _ rfl) | (refine opCallI_gv (by simp only [go_sem, Ret_eq Tryd.results15]; first | done | rfl) (hI) ?_; rintro _ rfl) | (refine opCallI_rd (by simp only [go_sem, Ret_eq Tryd.results15]; first | done | rfl) (hvc) (by rintro _ rfl; rfl) ?_; rintro _ rfl) | (refine opCallI_gv (by simp only [go_sem, Ret_eq Tryd.results15]; first | done | rfl) (hvc) ?_; rintro _ rfl) | fail)
      · rw [e1, e2, e3, e4] at nm
        simp only [Int.reduceEq, decide_true, decide_false] at nm
        by_cases h1 : 0 ≤ id ∧ id ≤ 2147483647
        · skip
          rw [decide_eq_true h1] at hI
          by_cases h2 : n = 0
          · skip
            by_cases h4 : seed = 0
            · skip
              by_cases h5 : v.length = 0
              · skip
                have hE : askErr k id n seed v dim slots = 0 := if_pos ⟨hz, hk, by unfold namedP; simp only [e1, Int.reduceEq, if_true, if_false]; omega, by unfold namedP; simp only [e2, Int.reduceEq, if_true, if_false]; omega, by unfold namedP; simp only [e3, Int.reduceEq, if_true, if_false]; omega, by unfold vOk; simp only [e4, if_true, if_false, Bool.false_eq_true]; omega⟩
                rw [hE]
                refine Fun.of_awpI Tryd.func15 rfl cal15 Tryd.ntmps15 (by simp) fun hwf => ?_
                simp only [D.wfs, D.wf, ints_length, ints_wfs, rows_length, rows_wfs, capMax, and_true, true_and] at hwf
                repeat' (first | simp only [go_sem, Ret_eq Tryd.results15] | simp (disch := omega) only [arith, IntKind.bits, capMax, fill_len, elt_fill] | (with_reducible refine condI_beq (fun hq hqb => ?_) (fun hq hqb => ?_) <;> simp only [KP_mk, hqb]) | (with_reducible refine condI_bne (fun hq hqb => ?_) (fun hq hqb => ?_) <;> simp only [KP_mk, hqb]) | (with_reducible refine condI_dec (fun hq hqb => ?_) (fun hq hqb => ?_) <;> simp only [KP_mk, hqb]) | (with_reducible refine condI_b (fun hqb => ?_) (fun hqb => ?_) <;> simp only [KP_mk, hqb]) | refine RetO_calc Tryd.results15 ?_ | refine RetL_calc Tryd.results15 rfl ?_ | (refine Again.up (by omega) ?_ ?_) | exact trivial | (refine opCallI_rd (by simp only [go_sem, Ret_eq Tryd.results15]; first | done | rfl) (sz) (by rintro _ rfl; rfl) ?_; rintro _ rfl) | (refine opCallI_gv (by simp only [go_sem, Ret_eq Tryd.results15]; first | done | rfl) (sz) ?_; rintro _ rfl) | (refine opCallI_rd (by simp only [go_sem, Ret_eq Tryd.results15]; first | done | rfl) (nm) (by rintro _ rfl; rfl) ?_; rintro _ rfl) | (refine opCallI_gv (by simp only [go_sem, Ret_eq Tryd.results15]; first | done | rfl) (nm) ?_; rintro _ rfl) | (refine opCallI_rd (by simp only [go_sem, Ret_eq Tryd.results15]; first | done | rfl) (hI) (by rintro _ rfl; rfl) ?_; rintro _ rfl) | (refine opCallI_gv (by simp only [go_sem, Ret_eq Tryd.results15]; first | done | rfl) (hI) ?_; rintro _ rfl) | (refine opCallI_rd (by simp only [go_sem, Ret_eq Tryd.results15]; first | done | rfl) (hvc) (by rintro _ rfl; rfl) ?_; rintro _ rfl) | (refine opCallI_gv (by simp only [go_sem, Ret_eq Tryd.results15]; first | done | rfl) (hvc) ?_; rintro _ rfl) | fail)
              · skip
                have hE : askErr k id n seed v dim slots = 1 := if_neg fun q => by
                  obtain ⟨_, _, q1, q2, q3, q4⟩ := q
                  unfold namedP at q1 q2 q3
                  unfold vOk at q4
                  simp only [e1, e2, e3, e4, Int.reduceEq, if_true, if_false, Bool.false_eq_true] at q1 q2 q3 q4
                  omega
                rw [hE]
                refine Fun.of_awpI Tryd.func15 rfl cal15 Tryd.ntmps15 (by simp) fun hwf => ?_
                simp only [D.wfs, D.wf, ints_length, ints_wfs, rows_length, rows_wfs, capMax, and_true, true_and] at hwf
                repeat' (first | simp only [go_sem, Ret_eq Tryd.results15] | simp (disch := omega) only [arith, IntKind.bits, capMax, fill_len, elt_fill] | (with_reducible refine condI_beq (fun hq hqb => ?_) (fun hq hqb => ?_) <;> simp only [KP_mk, hqb]) | (with_reducible refine condI_bne (fun hq hqb => ?_) (fun hq hqb => ?_) <;> simp only [KP_mk, hqb]) | (with_reducible refine condI_dec (fun hq hqb => ?_) (fun hq hqb => ?_) <;> simp only [KP_mk, hqb]) | (with_reducible refine condI_b (fun hqb => ?_) (fun hqb => ?_) <;> simp only [KP_mk, hqb]) | refine RetO_calc Tryd.results15 ?_ | refine RetL_calc Tryd.results15 rfl ?_ | (refine Again.up (by omega) ?_ ?_) | exact trivial | (refine opCallI_rd (by simp only [go_sem, Ret_eq Tryd.results15]; first | done | rfl) (sz) (by rintro _ rfl; rfl) ?_; rintro _ rfl) | (refine opCallI_gv (by simp only [go_sem, Ret_eq Tryd.results15]; first | done | rfl) (sz) ?_; rintro _ rfl) | (refine opCallI_rd (by simp only [go_sem, Ret_eq Tryd.results15]; first | done | rfl) (nm) (by rintro _ rfl; rfl) ?_; rintro _ rfl) | (refine opCallI_gv (by simp only [go_sem, Ret_eq Tryd.results15]; first | done | rfl) (nm) ?_; rintro _ rfl) | (refine opCallI_rd (by simp only [go_sem, Ret_eq Tryd.results15]; first | done | rfl) (hI) (by rintro _ rfl; rfl) ?_; rintro _ rfl) | (refine opCallI_gv (by simp only [go_sem, Ret_eq Tryd.results15]; first | done | rfl) (hI) ?_; rintro _ rfl) | (refine opCallI_rd (by simp only [go_sem, Ret_eq Tryd.results15]; first | done | rfl) (hvc) (by rintro _ rfl; rfl) ?_; rintro _ rfl) | (refine opCallI_gv (by simp only [go_sem, Ret_eq Tryd.results15]; first | done | rfl) (hvc) ?_; rintro _ rfl) | fail)
            · skip
              have hE : askErr k id n seed v dim slots = 1 := if_neg fun q => by
                obtain ⟨_, _, q1, q2, q3, q4⟩ := q
                unfold namedP at q1 q2 q3
                unfold vOk at q4
                simp only [e1, e2, e3, e4, Int.reduceEq, if_true, if_false, Bool.false_eq_true] at q1 q2 q3 q4
                omega
              rw [hE]
              refine Fun.of_awpI Tryd.func15 rfl cal15 Tryd.ntmps15 (by simp) fun hwf => ?_
              simp only [D.wfs, D.wf, ints_length, ints_wfs, rows_length, rows_wfs, capMax, and_true, true_and] at hwf
              repeat' (first | simp only [go_sem, Ret_eq Tryd.results15] | simp (disch := omega) only [arith, IntKind.bits, capMax, fill_len, elt_fill] | (with_reducible refine condI_beq (fun hq hqb => ?_) (fun hq hqb => ?_) <;> simp only [KP_mk, hqb]) | (with_reducible refine condI_bne (fun hq hqb => ?_) (fun hq hqb => ?_) <;> simp only [KP_mk, hqb]) | (with_reducible refine condI_dec (fun hq hqb => ?_) (fun hq hqb => ?_) <;> simp only [KP_mk, hqb]) | (with_reducible refine condI_b (fun hqb => ?_) (fun hqb => ?_) <;> simp only [KP_mk, hqb]) | refine RetO_calc Tryd.results15 ?_ | refine RetL_calc Tryd.results15 rfl ?_ | (refine Again.up (by omega) ?_ ?_) | exact trivial | (refine opCallI_rd (by simp only [go_sem, Ret_eq Tryd.results15]; first | done | rfl) (sz) (by rintro _ rfl; rfl) ?_; rintro _ rfl) | (refine opCallI_gv (by simp only [go_sem, Ret_eq Tryd.results15]; first | done | rfl) (sz) ?_; rintro _ rfl) | (refine opCallI_rd (by simp only [go_sem, Ret_eq Tryd.results15]; first | done | rfl) (nm) (by rintro _ rfl; rfl) ?_; rintro _ rfl) | (refine opCallI_gv (by simp only [go_sem, Ret_eq Tryd.results15]; first | done | rfl) (nm) ?_; rintro _ rfl) | (refine opCallI_rd (by simp only [go_sem, Ret_eq Tryd.results15]; first | done | rfl) (hI) (by rintro _ rfl; rfl) ?_; rintro _ rfl) | (refine opCallI_gv (by simp only [go_sem, Ret_eq Tryd.results15]; first | done | rfl) (hI) ?_; rintro _ rfl) | (refine opCallI_rd (by simp only [go_sem, Ret_eq Tryd.results15]; first | done | rfl) (hvc) (by rintro _ rfl; rfl) ?_; rintro _ rfl) | (refine opCallI_gv (by simp only [go_sem, Ret_eq Tryd.results15]; first | done | rfl) (hvc) ?_; rintro _ rfl) | fail)
          · skip
            have hE : askErr k id n seed v dim slots = 1 := if_neg fun q => by
              obtain ⟨_, _, q1, q2, q3, q4⟩ := q
              unfold namedP at q1 q2 q3
              unfold vOk at q4
              simp only [e1, e2, e3, e4, Int.reduceEq, if_true, if_false, Bool.false_eq_true] at q1 q2 q3 q4
              omega
            rw [hE]
            refine Fun.of_awpI Tryd.func15 rfl cal15 Tryd.ntmps15 (by simp) fun hwf => ?_
            simp only [D.wfs, D.wf, ints_length, ints_wfs, rows_length, rows_wfs, capMax, and_true, true_and] at hwf
            repeat' (first | simp only [go_sem, Ret_eq Tryd.results15] | simp (disch := omega) only [arith, IntKind.bits, capMax, fill_len, elt_fill] | (with_reducible refine condI_beq (fun hq hqb => ?_) (fun hq hqb => ?_) <;> simp only [KP_mk, hqb]) | (with_reducible refine condI_bne (fun hq hqb => ?_) (fun hq hqb => ?_) <;> simp only [KP_mk, hqb]) | (with_reducible refine condI_dec (fun hq hqb => ?_) (fun hq hqb => ?_) <;> simp only [KP_mk, hqb]) | (with_reducible refine condI_b (fun hqb => ?_) (fun hqb => ?_) <;> simp only [KP_mk, hqb]) | refine RetO_calc Tryd.results15 ?_ | refine RetL_calc Tryd.results15 rfl ?_ | (refine Again.up (by omega) ?_ ?_) | exact trivial | (refine opCallI_rd (by simp only [go_sem, Ret_eq Tryd.results15]; first | done | rfl) (sz) (by rintro _ rfl; rfl) ?_; rintro _ rfl) | (refine opCallI_gv (by simp only [go_sem, Ret_eq Tryd.results15]; first | done | rfl) (sz) ?_; rintro _ rfl) | (refine opCallI_rd (by simp only [go_sem, Ret_eq Tryd.results15]; first | done | rfl) (nm) (by rintro _ rfl; rfl) ?_; rintro _ rfl) | (refine opCallI_gv (by simp only [go_sem, Ret_eq Tryd.results15]; first | done | rfl) (nm) ?_; rintro _ rfl) | (refine opCallI_rd (by simp only [go_sem, Ret_eq Tryd.results15]; first | done | rfl) (hI) (by rintro _ rfl; rfl) ?_; rintro _ rfl) | (refine opCallI_gv (by simp only [go_sem, Ret_eq Tryd.results15]; first | done | rfl) (hI) ?_; rintro _ rfl) | (refine opCallI_rd (by simp only [go_sem, Ret_eq Tryd.results15]; first | done | rfl) (hvc) (by rintro _ rfl; rfl) ?_; rintro _ rfl) | (refine opCallI_gv (by simp only [go_sem, Ret_eq Tryd.results15]; first | done | rfl) (hvc) ?_; rintro _ rfl) | fail)
        · skip
          rw [decide_eq_false h1] at hI
          have hE : askErr k id n seed v dim slots = 1 := if_neg fun q => by
            obtain ⟨_, _, q1, q2, q3, q4⟩ := q
            unfold namedP at q1 q2 q3
            unfold vOk at q4
            simp only [e1, e2, e3, e4, Int.reduceEq, if_true, if_false, Bool.false_eq_true] at q1 q2 q3 q4
            omega
          rw [hE]
          refine Fun.of_awpI Tryd.func15 rfl cal15 Tryd.ntmps15 (by simp) fun hwf => ?_
          simp only [D.wfs, D.wf, ints_length, ints_wfs, rows_length, rows_wfs, capMax, and_true, true_and] at hwf
          repeat' (first | simp only [go_sem, Ret_eq Tryd.results15] | simp (disch := omega) only [arith, IntKind.bits, capMax, fill_len, elt_fill] | (with_reducible refine condI_beq (fun hq hqb => ?_) (fun hq hqb => ?_) <;> simp only [KP_mk, hqb]) | (with_reducible refine condI_bne (fun hq hqb => ?_) (fun hq hqb => ?_) <;> simp only [KP_mk, hqb]) | (with_reducible refine condI_dec (fun hq hqb => ?_) (fun hq hqb => ?_) <;> simp only [KP_mk, hqb]) | (with_reducible refine condI_b (fun hqb => ?_) (fun hqb => ?_) <;> simp only [KP_mk, hqb]) | refine RetO_calc Tryd.results15 ?_ | refine RetL_calc Tryd.results15 rfl ?_ | (refine Again.up (by omega) ?_ ?_) | exact trivial | (refine opCallI_rd (by simp only [go_sem, Ret_eq Tryd.results15]; first | done | rfl) (sz) (by rintro _ rfl; rfl) ?_; rintro _ rfl) | (refine opCallI_gv (by simp only [go_sem, Ret_eq Tryd.results15]; first | done | rfl) (sz) ?_; rintro _ rfl) | (refine opCallI_rd (by simp only [go_sem, Ret_eq Tryd.results15]; first | done | rfl) (nm) (by rintro _ rfl; rfl) ?_; rintro _ rfl) | (refine opCallI_gv (by simp only [go_sem, Ret_eq Tryd.results15]; first | done | rfl) (nm) ?_; rintro _ rfl) | (refine opCallI_rd (by simp only [go_sem, Ret_eq Tryd.results15]; first | done | rfl) (hI) (by rintro _ rfl; rfl) ?_; rintro _ rfl) | (refine opCallI_gv (by simp only [go_sem, Ret_eq Tryd.results15]; first | done | rfl) (hI) ?_; rintro _ rfl) | (refine opCallI_rd (by simp only [go_sem, Ret_eq Tryd.results15]; first | done | rfl) (hvc) (by rintro _ rfl; rfl) ?_; rintro _ rfl) | (refine opCallI_gv (by simp only [go_sem, Ret_eq Tryd.results15]; first | done | rfl) (hvc) ?_; rintro _ rfl) | fail)
      · rw [e1, e2, e3, e4] at nm
        simp only [Int.reduceEq, decide_true, decide_false] at nm
        by_cases h1 : id = 0
        · skip
          by_cases h2 : 1 ≤ n
          · skip
            by_cases h3 : n ≤ slots
            · skip
              by_cases h4 : seed = 0
              · skip
                by_cases h5 : vecErr v = 0
                · skip
                  by_cases h6 : (v.length : Int) = dim
                  · skip
                    have hE : askErr k id n seed v dim slots = 0 := if_pos ⟨hz, hk, by unfold namedP; simp only [e1, Int.reduceEq, if_true, if_false]; omega, by unfold namedP; simp only [e2, Int.reduceEq, if_true, if_false]; omega, by unfold namedP; simp only [e3, Int.reduceEq, if_true, if_false]; omega, by unfold vOk; simp only [e4, if_true, if_false, Bool.false_eq_true]; omega⟩
                    rw [hE]
                    refine Fun.of_awpI Tryd.func15 rfl cal15 Tryd.ntmps15 (by simp) fun hwf => ?_
                    simp only [D.wfs, D.wf, ints_length, ints_wfs, rows_length, rows_wfs, capMax, and_true, true_and] at hwf
                    repeat' (first | simp only [go_sem, Ret_eq Tryd.results15] | simp (disch := omega) only [arith, IntKind.bits, capMax, fill_len, elt_fill] | (with_reducible refine condI_beq (fun hq hqb => ?_) (fun hq hqb => ?_) <;> simp only [KP_mk, hqb]) | (with_reducible refine condI_bne (fun hq hqb => ?_) (fun hq hqb => ?_) <;> simp only [KP_mk, hqb]) | (with_reducible refine condI_dec (fun hq hqb => ?_) (fun hq hqb => ?_) <;> simp only [KP_mk, hqb]) | (with_reducible refine condI_b (fun hqb => ?_) (fun hqb => ?_) <;> simp only [KP_mk, hqb]) | refine RetO_calc Tryd.results15 ?_ | refine RetL_calc Tryd.results15 rfl ?_ | (refine Again.up (by omega) ?_ ?_) | exact trivial | (refine opCallI_rd (by simp only [go_sem, Ret_eq Tryd.results15]; first | done | rfl) (sz) (by rintro _ rfl; rfl) ?_; rintro _ rfl) | (refine opCallI_gv (by simp only [go_sem, Ret_eq Tryd.results15]; first | done | rfl) (sz) ?_; rintro _ rfl) | (refine opCallI_rd (by simp only [go_sem, Ret_eq Tryd.results15]; first | done | rfl) (nm) (by rintro _ rfl; rfl) ?_; rintro _ rfl) | (refine opCallI_gv (by simp only [go_sem, Ret_eq Tryd.results15]; first | done | rfl) (nm) ?_; rintro _ rfl) | (refine opCallI_rd (by simp only [go_sem, Ret_eq Tryd.results15]; first | done | rfl) (hI) (by rintro _ rfl; rfl) ?_; rintro _ rfl) | (refine opCallI_gv (by simp only [go_sem, Ret_eq Tryd.results15]; first | done | rfl) (hI) ?_; rintro _ rfl) | (refine opCallI_rd (by simp only [go_sem, Ret_eq Tryd.results15]; first | done | rfl) (hvc) (by rintro _ rfl; rfl) ?_; rintro _ rfl) | (refine opCallI_gv (by simp only [go_sem, Ret_eq Tryd.results15]; first | done | rfl) (hvc) ?_; rintro _ rfl) | fail)
                  · skip
                    have hE : askErr k id n seed v dim slots = 1 := if_neg fun q => by
                      obtain ⟨_, _, q1, q2, q3, q4⟩ := q
                      unfold namedP at q1 q2 q3
                      unfold vOk at q4
                      simp only [e1, e2, e3, e4, Int.reduceEq, if_true, if_false, Bool.false_eq_true] at q1 q2 q3 q4
                      omega
                    rw [hE]
                    refine Fun.of_awpI Tryd.func15 rfl cal15 Tryd.ntmps15 (by simp) fun hwf => ?_
                    simp only [D.wfs, D.wf, ints_length, ints_wfs, rows_length, rows_wfs, capMax, and_true, true_and] at hwf
                    repeat' (first | simp only [go_sem, Ret_eq Tryd.results15] | simp (disch := omega) only [arith, IntKind.bits, capMax, fill_len, elt_fill] | (with_reducible refine condI_beq (fun hq hqb => ?_) (fun hq hqb => ?_) <;> simp only [KP_mk, hqb]) | (with_reducible refine condI_bne (fun hq hqb => ?_) (fun hq hqb => ?_) <;> simp only [KP_mk, hqb]) | (with_reducible refine condI_dec (fun hq hqb => ?_) (fun hq hqb => ?_) <;> simp only [KP_mk, hqb]) | (with_reducible refine condI_b (fun hqb => ?_) (fun hqb => ?_) <;> simp only [KP_mk, hqb]) | refine RetO_calc Tryd.results15 ?_ | refine RetL_calc Tryd.results15 rfl ?_ | (refine Again.up (by omega) ?_ ?_) | exact trivial | (refine opCallI_rd (by simp only [go_sem, Ret_eq Tryd.results15]; first | done | rfl) (sz) (by rintro _ rfl; rfl) ?_; rintro _ rfl) | (refine opCallI_gv (by simp only [go_sem, Ret_eq Tryd.results15]; first | done | rfl) (sz) ?_; rintro _ rfl) | (refine opCallI_rd (by simp only [go_sem, Ret_eq Tryd.results15]; first | done | rfl) (nm) (by rintro _ rfl; rfl) ?_; rintro _ rfl) | (refine opCallI_gv (by simp only [go_sem, Ret_eq Tryd.results15]; first | done | rfl) (nm) ?_; rintro _ rfl) | (refine opCallI_rd (by simp only [go_sem, Ret_eq Tryd.results15]; first | done | rfl) (hI) (by rintro _ rfl; rfl) ?_; rintro _ rfl) | (refine opCallI_gv (by simp only [go_sem, Ret_eq Tryd.results15]; first | done | rfl) (hI) ?_; rintro _ rfl) | (refine opCallI_rd (by simp only [go_sem, Ret_eq Tryd.results15]; first | done | rfl) (hvc) (by rintro _ rfl; rfl) ?_; rintro _ rfl) | (refine opCallI_gv (by simp only [go_sem, Ret_eq Tryd.results15]; first | done | rfl) (hvc) ?_; rintro _ rfl) | fail)
                · skip
                  have hE : askErr k id n seed v dim slots = 1 := if_neg fun q => by
                    obtain ⟨_, _, q1, q2, q3, q4⟩ := q
                    unfold namedP at q1 q2 q3
                    unfold vOk at q4
                    simp only [e1, e2, e3, e4, Int.reduceEq, if_true, if_false, Bool.false_eq_true] at q1 q2 q3 q4
                    omega
                  rw [hE]
                  refine Fun.of_awpI Tryd.func15 rfl cal15 Tryd.ntmps15 (by simp) fun hwf => ?_
                  simp only [D.wfs, D.wf, ints_length, ints_wfs, rows_length, rows_wfs, capMax, and_true, true_and] at hwf
                  repeat' (first | simp only [go_sem, Ret_eq Tryd.results15] | simp (disch := omega) only [arith, IntKind.bits, capMax, fill_len, elt_fill] | (with_reducible refine condI_beq (fun hq hqb => ?_) (fun hq hqb => ?_) <;> simp only [KP_mk, hqb]) | (with_reducible refine condI_bne (fun hq hqb => ?_) (fun hq hqb => ?_) <;> simp only [KP_mk, hqb]) | (with_reducible refine condI_dec (fun hq hqb => ?_) (fun hq hqb => ?_) <;> simp only [KP_mk, hqb]) | (with_reducible refine condI_b (fun hqb => ?_) (fun hqb => ?_) <;> simp only [KP_mk, hqb]) | refine RetO_calc Tryd.results15 ?_ | refine RetL_calc Tryd.results15 rfl ?_ | (refine Again.up (by omega) ?_ ?_) | exact trivial | (refine opCallI_rd (by simp only [go_sem, Ret_eq Tryd.results15]; first | done | rfl) (sz) (by rintro _ rfl; rfl) ?_; rintro _ rfl) | (refine opCallI_gv (by simp only [go_sem, Ret_eq Tryd.results15]; first | done | rfl) (sz) ?_; rintro _ rfl) | (refine opCallI_rd (by simp only [go_sem, Ret_eq Tryd.results15]; first | done | rfl) (nm) (by rintro _ rfl; rfl) ?_; rintro _ rfl) | (refine opCallI_gv (by simp only [go_sem, Ret_eq Tryd.results15]; first | done | rfl) (nm) ?_; rintro _ rfl) | (refine opCallI_rd (by simp only [go_sem, Ret_eq Tryd.results15]; first | done | rfl) (hI) (by rintro _ rfl; rfl) ?_; rintro _ rfl) | (refine opCallI_gv (by simp only [go_sem, Ret_eq Tryd.results15]; first | done | rfl) (hI) ?_; rintro _ rfl) | (refine opCallI_rd (by simp only [go_sem, Ret_eq Tryd.results15]; first | done | rfl) (hvc) (by rintro _ rfl; rfl) ?_; rintro _ rfl) | (refine opCallI_gv (by simp only [go_sem, Ret_eq Tryd.results15]; first | done | rfl) (hvc) ?_; rintro _ rfl) | fail)
              · skip
                have hE : askErr k id n seed v dim slots = 1 := if_neg fun q => by
                  obtain ⟨_, _, q1, q2, q3, q4⟩ := q
                  unfold namedP at q1 q2 q3
                  unfold vOk at q4
                  simp only [e1, e2, e3, e4, Int.reduceEq, if_true, if_false, Bool.false_eq_true] at q1 q2 q3 q4
                  omega
                rw [hE]
                refine Fun.of_awpI Tryd.func15 rfl cal15 Tryd.ntmps15 (by simp) fun hwf => ?_
                simp only [D.wfs, D.wf, ints_length, ints_wfs, rows_length, rows_wfs, capMax, and_true, true_and] at hwf
                repeat' (first | simp only [go_sem, Ret_eq Tryd.results15] | simp (disch := omega) only [arith, IntKind.bits, capMax, fill_len, elt_fill] | (with_reducible refine condI_beq (fun hq hqb => ?_) (fun hq hqb => ?_) <;> simp only [KP_mk, hqb]) | (with_reducible refine condI_bne (fun hq hqb => ?_) (fun hq hqb => ?_) <;> simp only [KP_mk, hqb]) | (with_reducible refine condI_dec (fun hq hqb => ?_) (fun hq hqb => ?_) <;> simp only [KP_mk, hqb]) | (with_reducible refine condI_b (fun hqb => ?_) (fun hqb => ?_) <;> simp only [KP_mk, hqb]) | refine RetO_calc Tryd.results15 ?_ | refine RetL_calc Tryd.results15 rfl ?_ | (refine Again.up (by omega) ?_ ?_) | exact trivial | (refine opCallI_rd (by simp only [go_sem, Ret_eq Tryd.results15]; first | done | rfl) (sz) (by rintro _ rfl; rfl) ?_; rintro _ rfl) | (refine opCallI_gv (by simp only [go_sem, Ret_eq Tryd.results15]; first | done | rfl) (sz) ?_; rintro _ rfl) | (refine opCallI_rd (by simp only [go_sem, Ret_eq Tryd.results15]; first | done | rfl) (nm) (by rintro _ rfl; rfl) ?_; rintro _ rfl) | (refine opCallI_gv (by simp only [go_sem, Ret_eq Tryd.results15]; first | done | rfl) (nm) ?_; rintro _ rfl) | (refine opCallI_rd (by simp only [go_sem, Ret_eq Tryd.results15]; first | done | rfl) (hI) (by rintro _ rfl; rfl) ?_; rintro _ rfl) | (refine opCallI_gv (by simp only [go_sem, Ret_eq Tryd.results15]; first | done | rfl) (hI) ?_; rintro _ rfl) | (refine opCallI_rd (by simp only [go_sem, Ret_eq Tryd.results15]; first | done | rfl) (hvc) (by rintro _ rfl; rfl) ?_; rintro _ rfl) | (refine opCallI_gv (by simp only [go_sem, Ret_eq Tryd.results15]; first | done | rfl) (hvc) ?_; rintro _ rfl) | fail)
            · skip
              have hE : askErr k id n seed v dim slots = 1 := if_neg fun q => by
                obtain ⟨_, _, q1, q2, q3, q4⟩ := q
                unfold namedP at q1 q2 q3
                unfold vOk at q4
                simp only [e1, e2, e3, e4, Int.reduceEq, if_true, if_false, Bool.false_eq_true] at q1 q2 q3 q4
                omega
              rw [hE]
              refine Fun.of_awpI Tryd.func15 rfl cal15 Tryd.ntmps15 (by simp) fun hwf => ?_
              simp only [D.wfs, D.wf, ints_length, ints_wfs, rows_length, rows_wfs, capMax, and_true, true_and] at hwf
              repeat' (first | simp only [go_sem, Ret_eq Tryd.results15] | simp (disch := omega) only [arith, IntKind.bits, capMax, fill_len, elt_fill] | (with_reducible refine condI_beq (fun hq hqb => ?_) (fun hq hqb => ?_) <;> simp only [KP_mk, hqb]) | (with_reducible refine condI_bne (fun hq hqb => ?_) (fun hq hqb => ?_) <;> simp only [KP_mk, hqb]) | (with_reducible refine condI_dec (fun hq hqb => ?_) (fun hq hqb => ?_) <;> simp only [KP_mk, hqb]) | (with_reducible refine condI_b (fun hqb => ?_) (fun hqb => ?_) <;> simp only [KP_mk, hqb]) | refine RetO_calc Tryd.results15 ?_ | refine RetL_calc Tryd.results15 rfl ?_ | (refine Again.up (by omega) ?_ ?_) | exact trivial | (refine opCallI_rd (by simp only [go_sem, Ret_eq Tryd.results15]; first | done | rfl) (sz) (by rintro _ rfl; rfl) ?_; rintro _ rfl) | (refine opCallI_gv (by simp only [go_sem, Ret_eq Tryd.results15]; first | done | rfl) (sz) ?_; rintro _ rfl) | (refine opCallI_rd (by simp only [go_sem, Ret_eq Tryd.results15]; first | done | rfl) (nm) (by rintro _ rfl; rfl) ?_; rintro _ rfl) | (refine opCallI_gv (by simp only [go_sem, Ret_eq Tryd.results15]; first | done | rfl) (nm) ?_; rintro _ rfl) | (refine opCallI_rd (by simp only [go_sem, Ret_eq Tryd.results15]; first | done | rfl) (hI) (by rintro _ rfl; rfl) ?_; rintro _ rfl) | (refine opCallI_gv (by simp only [go_sem, Ret_eq Tryd.results15]; first | done | rfl) (hI) ?_; rintro _ rfl) | (refine opCallI_rd (by simp only [go_sem, Ret_eq Tryd.results15]; first | done | rfl) (hvc) (by rintro _ rfl; rfl) ?_; rintro _ rfl) | (refine opCallI_gv (by simp only [go_sem, Ret_eq Tryd.results15]; first | done | rfl) (hvc) ?_; rintro _ rfl) | fail)
          · skip
            have hE : askErr k id n seed v dim slots = 1 := if_neg fun q => by
              obtain ⟨_, _, q1, q2, q3, q4⟩ := q
              unfold namedP at q1 q2 q3
              unfold vOk at q4
              simp only [e1, e2, e3, e4, Int.reduceEq, if_true, if_false, Bool.false_eq_true] at q1 q2 q3 q4
              omega
            rw [hE]
            refine Fun.of_awpI Tryd.func15 rfl cal15 Tryd.ntmps15 (by simp) fun hwf => ?_
            simp only [D.wfs, D.wf, ints_length, ints_wfs, rows_length, rows_wfs, capMax, and_true, true_and] at hwf
            repeat' (first | simp only [go_sem, Ret_eq Tryd.results15] | simp (disch := omega) only [arith, IntKind.bits, capMax, fill_len, elt_fill] | (with_reducible refine condI_beq (fun hq hqb => ?_) (fun hq hqb => ?_) <;> simp only [KP_mk, hqb]) | (with_reducible refine condI_bne (fun hq hqb => ?_) (fun hq hqb => ?_) <;> simp only [KP_mk, hqb]) | (with_reducible refine condI_dec (fun hq hqb => ?_) (fun hq hqb => ?_) <;> simp only [KP_mk, hqb]) | (with_reducible refine condI_b (fun hqb => ?_) (fun hqb => ?_) <;> simp only [KP_mk, hqb]) | refine RetO_calc Tryd.results15 ?_ | refine RetL_calc Tryd.results15 rfl ?_ | (refine Again.up (by omega) ?_ ?_) | exact trivial | (refine opCallI_rd (by simp only [go_sem, Ret_eq Tryd.results15]; first | done | rfl) (sz) (by rintro _ rfl; rfl) ?_; rintro _ rfl) | (refine opCallI_gv (by simp only [go_sem, Ret_eq Tryd.results15]; first | done | rfl) (sz) ?_; rintro _ rfl) | (refine opCallI_rd (by simp only [go_sem, Ret_eq Tryd.results15]; first | done | rfl) (nm) (by rintro _ rfl; rfl) ?_; rintro _ rfl) | (refine opCallI_gv (by simp only [go_sem, Ret_eq Tryd.results15]; first | done | rfl) (nm) ?_; rintro _ rfl) | (refine opCallI_rd (by simp only [go_sem, Ret_eq Tryd.results15]; first | done | rfl) (hI) (by rintro _ rfl; rfl) ?_; rintro _ rfl) | (refine opCallI_gv (by simp only [go_sem, Ret_eq Tryd.results15]; first | done | rfl) (hI) ?_; rintro _ rfl) | (refine opCallI_rd (by simp only [go_sem, Ret_eq Tryd.results15]; first | done | rfl) (hvc) (by rintro _ rfl; rfl) ?_; rintro _ rfl) | (refine opCallI_gv (by simp only [go_sem, Ret_eq Tryd.results15]; first | done | rfl) (hvc) ?_; rintro _ rfl) | fail)
        · skip
          have hE : askErr k id n seed v dim slots = 1 := if_neg fun q => by
            obtain ⟨_, _, q1, q2, q3, q4⟩ := q
            unfold namedP at q1 q2 q3
            unfold vOk at q4
            simp only [e1, e2, e3, e4, Int.reduceEq, if_true, if_false, Bool.false_eq_true] at q1 q2 q3 q4
            omega
          rw [hE]
          refine Fun.of_awpI Tryd.func15 rfl cal15 Tryd.ntmps15 (by simp) fun hwf => ?_
          simp only [D.wfs, D.wf, ints_length, ints_wfs, rows_length, rows_wfs, capMax, and_true, true_and] at hwf
          repeat' (first | simp only [go_sem, Ret_eq Tryd.results15] | simp (disch := omega) only [arith, IntKind.bits, capMax, fill_len, elt_fill] | (with_reducible refine condI_beq (fun hq hqb => ?_) (fun hq hqb => ?_) <;> simp only [KP_mk, hqb]) | (with_reducible refine condI_bne (fun hq hqb => ?_) (fun hq hqb => ?_) <;> simp only [KP_mk, hqb]) | (with_reducible refine condI_dec (fun hq hqb => ?_) (fun hq hqb => ?_) <;> simp only [KP_mk, hqb]) | (with_reducible refine condI_b (fun hqb => ?_) (fun hqb => ?_) <;> simp only [KP_mk, hqb]) | refine RetO_calc Tryd.results15 ?_ | refine RetL_calc Tryd.results15 rfl ?_ | (refine Again.up (by omega) ?_ ?_) | exact trivial | (refine opCallI_rd (by simp only [go_sem, Ret_eq Tryd.results15]; first | done | rfl) (sz) (by rintro _ rfl; rfl) ?_; rintro _ rfl) | (refine opCallI_gv (by simp only [go_sem, Ret_eq Tryd.results15]; first | done | rfl) (sz) ?_; rintro _ rfl) | (refine opCallI_rd (by simp only [go_sem, Ret_eq Tryd.results15]; first | done | rfl) (nm) (by rintro _ rfl; rfl) ?_; rintro _ rfl) | (refine opCallI_gv (by simp only [go_sem, Ret_eq Tryd.results15]; first | done | rfl) (nm) ?_; rintro _ rfl) | (refine opCallI_rd (by simp only [go_sem, Ret_eq Tryd.results15]; first | done | rfl) (hI) (by rintro _ rfl; rfl) ?_; rintro _ rfl) | (refine opCallI_gv (by simp only [go_sem, Ret_eq Tryd.results15]; first | done | rfl) (hI) ?_; rintro _ rfl) | (refine opCallI_rd (by simp only [go_sem, Ret_eq Tryd.results15]; first | done | rfl) (hvc) (by rintro _ rfl; rfl) ?_; rintro _ rfl) | (refine opCallI_gv (by simp only [go_sem, Ret_eq Tryd.results15]; first | done | rfl) (hvc) ?_; rintro _ rfl) | fail)
      · rw [e1, e2, e3, e4] at nm
        simp only [Int.reduceEq, decide_true, decide_false] at nm
        by_cases h1 : id = 0
        · skip
          by_cases h2 : n = 0
          · skip
            by_cases h4 : seed = 0
            · skip
              by_cases h5 : v.length = 0
              · skip
                have hE : askErr k id n seed v dim slots = 0 := if_pos ⟨hz, hk, by unfold namedP; simp only [e1, Int.reduceEq, if_true, if_false]; omega, by unfold namedP; simp only [e2, Int.reduceEq, if_true, if_false]; omega, by unfold namedP; simp only [e3, Int.reduceEq, if_true, if_false]; omega, by unfold vOk; simp only [e4, if_true, if_false, Bool.false_eq_true]; omega⟩
                rw [hE]
                refine Fun.of_awpI Tryd.func15 rfl cal15 Tryd.ntmps15 (by simp) fun hwf => ?_
                simp only [D.wfs, D.wf, ints_length, ints_wfs, rows_length, rows_wfs, capMax, and_true, true_and] at hwf
                repeat' (first | simp only [go_sem, Ret_eq Tryd.results15] | simp (disch := omega) only [arith, IntKind.bits, capMax, fill_len, elt_fill] | (with_reducible refine condI_beq (fun hq hqb => ?_) (fun hq hqb => ?_) <;> simp only [KP_mk, hqb]) | (with_reducible refine condI_bne (fun hq hqb => ?_) (fun hq hqb => ?_) <;> simp only [KP_mk, hqb]) | (with_reducible refine condI_dec (fun hq hqb => ?_) (fun hq hqb => ?_) <;> simp only [KP_mk, hqb]) | (with_reducible refine condI_b (fun hqb => ?_) (fun hqb => ?_) <;> simp only [KP_mk, hqb]) | refine RetO_calc Tryd.results15 ?_ | refine RetL_calc Tryd.results15 rfl ?_ | (refine Again.up (by omega) ?_ ?_) | exact trivial | (refine opCallI_rd (by simp only [go_sem, Ret_eq Tryd.results15]; first | done | rfl) (sz) (by rintro _ rfl; rfl) ?_; rintro _ rfl) | (refine opCallI_gv (by simp only [go_sem, Ret_eq Tryd.results15]; first | done | rfl) (sz) ?_; rintro _ rfl) | (refine opCallI_rd (by simp only [go_sem, Ret_eq Tryd.results15]; first | done | rfl) (nm) (by rintro _ rfl; rfl) ?_; rintro _ rfl) | (refine opCallI_gv (by simp only [go_sem, Ret_eq Tryd.results15]; first | done | rfl) (nm) ?_; rintro _ rfl) | (refine opCallI_rd (by simp only [go_sem, Ret_eq Tryd.results15]; first | done | rfl) (hI) (by rintro _ rfl; rfl) ?_; rintro _ rfl) | (refine opCallI_gv (by simp only [go_sem, Ret_eq Tryd.results15]; first | done | rfl) (hI) ?_; rintro _ rfl) | (refine opCallI_rd (by simp only [go_sem, Ret_eq Tryd.results15]; first | done | rfl) (hvc) (by rintro _ rfl; rfl) ?_; rintro _ rfl) | (refine opCallI_gv (by simp only [go_sem, Ret_eq Tryd.results15]; first | done | rfl) (hvc) ?_; rintro _ rfl) | fail)
              · skip
                have hE : askErr k id n seed v dim slots = 1 := if_neg fun q => by
                  obtain ⟨_, _, q1, q2, q3, q4⟩ := q
                  unfold namedP at q1 q2 q3
                  unfold vOk at q4
                  simp only [e1, e2, e3, e4, Int.reduceEq, if_true, if_false, Bool.false_eq_true] at q1 q2 q3 q4
                  omega
                rw [hE]
                refine Fun.of_awpI Tryd.func15 rfl cal15 Tryd.ntmps15 (by simp) fun hwf => ?_
                simp only [D.wfs, D.wf, ints_length, ints_wfs, rows_length, rows_wfs, capMax, and_true, true_and] at hwf
                repeat' (first | simp only [go_sem, Ret_eq Tryd.results15] | simp (disch := omega) only [arith, IntKind.bits, capMax, fill_len, elt_fill] | (with_reducible refine condI_beq (fun hq hqb => ?_) (fun hq hqb => ?_) <;> simp only [KP_mk, hqb]) | (with_reducible refine condI_bne (fun hq hqb => ?_) (fun hq hqb => ?_) <;> simp only [KP_mk, hqb]) | (with_reducible refine condI_dec (fun hq hqb => ?_) (fun hq hqb => ?_) <;> simp only [KP_mk, hqb]) | (with_reducible refine condI_b (fun hqb => ?_) (fun hqb => ?_) <;> simp only [KP_mk, hqb]) | refine RetO_calc Tryd.results15 ?_ | refine RetL_calc Tryd.results15 rfl ?_ | (refine Again.up (by omega) ?_ ?_) | exact trivial | (refine opCallI_rd (by simp only [go_sem, Ret_eq Tryd.results15]; first | done | rfl) (sz) (by rintro _ rfl; rfl) ?_; rintro _ rfl) | (refine opCallI_gv (by simp only [go_sem, Ret_eq Tryd.results15]; first | done | rfl) (sz) ?_; rintro _ rfl) | (refine opCallI_rd (by simp only [go_sem, Ret_eq Tryd.results15]; first | done | rfl) (nm) (by rintro _ rfl; rfl) ?_; rintro _ rfl) | (refine opCallI_gv (by simp only [go_sem, Ret_eq Tryd.results15]; first | done | rfl) (nm) ?_; rintro _ rfl) | (refine opCallI_rd (by simp only [go_sem, Ret_eq Tryd.results15]; first | done | rfl) (hI) (by rintro _ rfl; rfl) ?_; rintro _ rfl) | (refine opCallI_gv (by simp only [go_sem, Ret_eq Tryd.results15]; first | done | rfl) (hI) ?_; rintro _ rfl) | (refine opCallI_rd (by simp only [go_sem, Ret_eq Tryd.results15]; first | done | rfl) (hvc) (by rintro _ rfl; rfl) ?_; rintro _ rfl) | (refine opCallI_gv (by simp only [go_sem, Ret_eq Tryd.results15]; first | done | rfl) (hvc) ?_; rintro _ rfl) | fail)
            · skip
              have hE : askErr k id n seed v dim slots = 1 := if_neg fun q => by
                obtain ⟨_, _, q1, q2, q3, q4⟩ := q
                unfold namedP at q1 q2 q3
                unfold vOk at q4
                simp only [e1, e2, e3, e4, Int.reduceEq, if_true, if_false, Bool.false_eq_true] at q1 q2 q3 q4
                omega
              rw [hE]
              refine Fun.of_awpI Tryd.func15 rfl cal15 Tryd.ntmps15 (by simp) fun hwf => ?_
              simp only [D.wfs, D.wf, ints_length, ints_wfs, rows_length, rows_wfs, capMax, and_true, true_and] at hwf
              repeat' (first | simp only [go_sem, Ret_eq Tryd.results15] | simp (disch := omega) only [arith, IntKind.bits, capMax, fill_len, elt_fill] | (with_reducible refine condI_beq (fun hq hqb => ?_) (fun hq hqb => ?_) <;> simp only [KP_mk, hqb]) | (with_reducible refine condI_bne (fun hq hqb => ?_) (fun hq hqb => ?_) <;> simp only [KP_mk, hqb]) | (with_reducible refine condI_dec (fun hq hqb => ?_) (fun hq hqb => ?_) <;> simp only [KP_mk, hqb]) | (with_reducible refine condI_b (fun hqb => ?_) (fun hqb => ?_) <;> simp only [KP_mk, hqb]) | refine RetO_calc Tryd.results15 ?_ | refine RetL_calc Tryd.results15 rfl ?_ | (refine Again.up (by omega) ?_ ?_) | exact trivial | (refine opCallI_rd (by simp only [go_sem, Ret_eq Tryd.results15]; first | done | rfl) (sz) (by rintro _ rfl; rfl) ?_; rintro _ rfl) | (refine opCallI_gv (by simp only [go_sem, Ret_eq Tryd.results15]; first | done | rfl) (sz) ?_; rintro _ rfl) | (refine opCallI_rd (by simp only [go_sem, Ret_eq Tryd.results15]; first | done | rfl) (nm) (by rintro _ rfl; rfl) ?_; rintro _ rfl) | (refine opCallI_gv (by simp only [go_sem, Ret_eq Tryd.results15]; first | done | rfl) (nm) ?_; rintro _ rfl) | (refine opCallI_rd (by simp only [go_sem, Ret_eq Tryd.results15]; first | done | rfl) (hI) (by rintro _ rfl; rfl) ?_; rintro _ rfl) | (refine opCallI_gv (by simp only [go_sem, Ret_eq Tryd.results15]; first | done | rfl) (hI) ?_; rintro _ rfl) | (refine opCallI_rd (by simp only [go_sem, Ret_eq Tryd.results15]; first | done | rfl) (hvc) (by rintro _ rfl; rfl) ?_; rintro _ rfl) | (refine opCallI_gv (by simp only [go_sem, Ret_eq Tryd.results15]; first | done | rfl) (hvc) ?_; rintro _ rfl) | fail)
          · skip
            have hE : askErr k id n seed v dim slots = 1 := if_neg fun q => by
              obtain ⟨_, _, q1, q2, q3, q4⟩ := q
              unfold namedP at q1 q2 q3
              unfold vOk at q4
              simp only [e1, e2, e3, e4, Int.reduceEq, if_true, if_false, Bool.false_eq_true] at q1 q2 q3 q4
              omega
            rw [hE]
            refine Fun.of_awpI Tryd.func15 rfl cal15 Tryd.ntmps15 (by simp) fun hwf => ?_
            simp only [D.wfs, D.wf, ints_length, ints_wfs, rows_length, rows_wfs, capMax, and_true, true_and] at hwf
            repeat' (first | simp only [go_sem, Ret_eq Tryd.results15] | simp (disch := omega) only [arith, IntKind.bits, capMax, fill_len, elt_fill] | (with_reducible refine condI_beq (fun hq hqb => ?_) (fun hq hqb => ?_) <;> simp only [KP_mk, hqb]) | (with_reducible refine condI_bne (fun hq hqb => ?_) (fun hq hqb => ?_) <;> simp only [KP_mk, hqb]) | (with_reducible refine condI_dec (fun hq hqb => ?_) (fun hq hqb => ?_) <;> simp only [KP_mk, hqb]) | (with_reducible refine condI_b (fun hqb => ?_) (fun hqb => ?_) <;> simp only [KP_mk, hqb]) | refine RetO_calc Tryd.results15 ?_ | refine RetL_calc Tryd.results15 rfl ?_ | (refine Again.up (by omega) ?_ ?_) | exact trivial | (refine opCallI_rd (by simp only [go_sem, Ret_eq Tryd.results15]; first | done | rfl) (sz) (by rintro _ rfl; rfl) ?_; rintro _ rfl) | (refine opCallI_gv (by simp only [go_sem, Ret_eq Tryd.results15]; first | done | rfl) (sz) ?_; rintro _ rfl) | (refine opCallI_rd (by simp only [go_sem, Ret_eq Tryd.results15]; first | done | rfl) (nm) (by rintro _ rfl; rfl) ?_; rintro _ rfl) | (refine opCallI_gv (by simp only [go_sem, Ret_eq Tryd.results15]; first | done | rfl) (nm) ?_; rintro _ rfl) | (refine opCallI_rd (by simp only [go_sem, Ret_eq Tryd.results15]; first | done | rfl) (hI) (by rintro _ rfl; rfl) ?_; rintro _ rfl) | (refine opCallI_gv (by simp only [go_sem, Ret_eq Tryd.results15]; first | done | rfl) (hI) ?_; rintro _ rfl) | (refine opCallI_rd (by simp only [go_sem, Ret_eq Tryd.results15]; first | done | rfl) (hvc) (by rintro _ rfl; rfl) ?_; rintro _ rfl) | (refine opCallI_gv (by simp only [go_sem, Ret_eq Tryd.results15]; first | done | rfl) (hvc) ?_; rintro _ rfl) | fail)
        · skip
          have hE : askErr k id n seed v dim slots = 1 := if_neg fun q => by
            obtain ⟨_, _, q1, q2, q3, q4⟩ := q
            unfold namedP at q1 q2 q3
            unfold vOk at q4
            simp only [e1, e2, e3, e4, Int.reduceEq, if_true, if_false, Bool.false_eq_true] at q1 q2 q3 q4
            omega
          rw [hE]
          refine Fun.of_awpI Tryd.func15 rfl cal15 Tryd.ntmps15 (by simp) fun hwf => ?_
          simp only [D.wfs, D.wf, ints_length, ints_wfs, rows_length, rows_wfs, capMax, and_true, true_and] at hwf
          repeat' (first | simp only [go_sem, Ret_eq Tryd.results15] | simp (disch := omega) only [arith, IntKind.bits, capMax, fill_len, elt_fill] | (with_reducible refine condI_beq (fun hq hqb => ?_) (fun hq hqb => ?_) <;> simp only [KP_mk, hqb]) | (with_reducible refine condI_bne (fun hq hqb => ?_) (fun hq hqb => ?_) <;> simp only [KP_mk, hqb]) | (with_reducible refine condI_dec (fun hq hqb => ?_) (fun hq hqb => ?_) <;> simp only [KP_mk, hqb]) | (with_reducible refine condI_b (fun hqb => ?_) (fun hqb => ?_) <;> simp only [KP_mk, hqb]) | refine RetO_calc Tryd.results15 ?_ | refine RetL_calc Tryd.results15 rfl ?_ | (refine Again.up (by omega) ?_ ?_) | exact trivial | (refine opCallI_rd (by simp only [go_sem, Ret_eq Tryd.results15]; first | done | rfl) (sz) (by rintro _ rfl; rfl) ?_; rintro _ rfl) | (refine opCallI_gv (by simp only [go_sem, Ret_eq Tryd.results15]; first | done | rfl) (sz) ?_; rintro _ rfl) | (refine opCallI_rd (by simp only [go_sem, Ret_eq Tryd.results15]; first | done | rfl) (nm) (by rintro _ rfl; rfl) ?_; rintro _ rfl) | (refine opCallI_gv (by simp only [go_sem, Ret_eq Tryd.results15]; first | done | rfl) (nm) ?_; rintro _ rfl) | (refine opCallI_rd (by simp only [go_sem, Ret_eq Tryd.results15]; first | done | rfl) (hI) (by rintro _ rfl; rfl) ?_; rintro _ rfl) | (refine opCallI_gv (by simp only [go_sem, Ret_eq Tryd.results15]; first | done | rfl) (hI) ?_; rintro _ rfl) | (refine opCallI_rd (by simp only [go_sem, Ret_eq Tryd.results15]; first | done | rfl) (hvc) (by rintro _ rfl; rfl) ?_; rintro _ rfl) | (refine opCallI_gv (by simp only [go_sem, Ret_eq Tryd.results15]; first | done | rfl) (hvc) ?_; rintro _ rfl) | fail)
      · rw [e1, e2, e3, e4] at nm
        simp only [Int.reduceEq, decide_true, decide_false] at nm
        by_cases h1 : id = 0
        · skip
          by_cases h2 : n = 0
          · skip
            by_cases h4 : 0 ≤ seed
            · skip
              by_cases h5 : v.length = 0
              · skip
                have hE : askErr k id n seed v dim slots = 0 := if_pos ⟨hz, hk, by unfold namedP; simp only [e1, Int.reduceEq, if_true, if_false]; omega, by unfold namedP; simp only [e2, Int.reduceEq, if_true, if_false]; omega, by unfold namedP; simp only [e3, Int.reduceEq, if_true, if_false]; omega, by unfold vOk; simp only [e4, if_true, if_false, Bool.false_eq_true]; omega⟩
                rw [hE]
                refine Fun.of_awpI Tryd.func15 rfl cal15 Tryd.ntmps15 (by simp) fun hwf => ?_
                simp only [D.wfs, D.wf, ints_length, ints_wfs, rows_length, rows_wfs, capMax, and_true, true_and] at hwf
                repeat' (first | simp only [go_sem, Ret_eq Tryd.results15] | simp (disch := omega) only [arith, IntKind.bits, capMax, fill_len, elt_fill] | (with_reducible refine condI_beq (fun hq hqb => ?_) (fun hq hqb => ?_) <;> simp only [KP_mk, hqb]) | (with_reducible refine condI_bne (fun hq hqb => ?_) (fun hq hqb => ?_) <;> simp only [KP_mk, hqb]) | (with_reducible refine condI_dec (fun hq hqb => ?_) (fun hq hqb => ?_) <;> simp only [KP_mk, hqb]) | (with_reducible refine condI_b (fun hqb => ?_) (fun hqb => ?_) <;> simp only [KP_mk, hqb]) | refine RetO_calc Tryd.results15 ?_ | refine RetL_calc Tryd.results15 rfl ?_ | (refine Again.up (by omega) ?_ ?_) | exact trivial | (refine opCallI_rd (by simp only [go_sem, Ret_eq Tryd.results15]; first | done | rfl) (sz) (by rintro _ rfl; rfl) ?_; rintro _ rfl) | (refine opCallI_gv (by simp only [go_sem, Ret_eq Tryd.results15]; first | done | rfl) (sz) ?_; rintro _ rfl) | (refine opCallI_rd (by simp only [go_sem, Ret_eq Tryd.results15]; first | done | rfl) (nm) (by rintro _ rfl; rfl) ?_; rintro _ rfl) | (refine opCallI_gv (by simp only [go_sem, Ret_eq Tryd.results15]; first | done | rfl) (nm) ?_; rintro _ rfl) | (refine opCallI_rd (by simp only [go_sem, Ret_eq Tryd.results15]; first | done | rfl) (hI) (by rintro _ rfl; rfl) ?_; rintro _ rfl) | (refine opCallI_gv (by simp only [go_sem, Ret_eq Tryd.results15]; first | done | rfl) (hI) ?_; rintro _ rfl) | (refine opCallI_rd (by simp only [go_sem, Ret_eq Tryd.results15]; first | done | rfl) (hvc) (by rintro _ rfl; rfl) ?_; rintro _ rfl) | (refine opCallI_gv (by simp only [go_sem, Ret_eq Tryd.results15]; first | done | rfl) (hvc) ?_; rintro _ rfl) | fail)
              · skip
                have hE : askErr k id n seed v dim slots = 1 := if_neg fun q => by
                  obtain ⟨_, _, q1, q2, q3, q4⟩ := q
                  unfold namedP at q1 q2 q3
                  unfold vOk at q4
                  simp only [e1, e2, e3, e4, Int.reduceEq, if_true, if_false, Bool.false_eq_true] at q1 q2 q3 q4
                  omega
                rw [hE]
                refine Fun.of_awpI Tryd.func15 rfl cal15 Tryd.ntmps15 (by simp) fun hwf => ?_
                simp only [D.wfs, D.wf, ints_length, ints_wfs, rows_length, rows_wfs, capMax, and_true, true_and] at hwf
                repeat' (first | simp only [go_sem, Ret_eq Tryd.results15] | simp (disch := omega) only [arith, IntKind.bits, capMax, fill_len, elt_fill] | (with_reducible refine condI_beq (fun hq hqb => ?_) (fun hq hqb => ?_) <;> simp only [KP_mk, hqb]) | (with_reducible refine condI_bne (fun hq hqb => ?_) (fun hq hqb => ?_) <;> simp only [KP_mk, hqb]) | (with_reducible refine condI_dec (fun hq hqb => ?_) (fun hq hqb => ?_) <;> simp only [KP_mk, hqb]) | (with_reducible refine condI_b (fun hqb => ?_) (fun hqb => ?_) <;> simp only [KP_mk, hqb]) | refine RetO_calc Tryd.results15 ?_ | refine RetL_calc Tryd.results15 rfl ?_ | (refine Again.up (by omega) ?_ ?_) | exact trivial | (refine opCallI_rd (by simp only [go_sem, Ret_eq Tryd.results15]; first | done | rfl) (sz) (by rintro _ rfl; rfl) ?_; rintro _ rfl) | (refine opCallI_gv (by simp only [go_sem, Ret_eq Tryd.results15]; first | done | rfl) (sz) ?_; rintro _ rfl) | (refine opCallI_rd (by simp only [go_sem, Ret_eq Tryd.results15]; first | done | rfl) (nm) (by rintro _ rfl; rfl) ?_; rintro _ rfl) | (refine opCallI_gv (by simp only [go_sem, Ret_eq Tryd.results15]; first | done | rfl) (nm) ?_; rintro _ rfl) | (refine opCallI_rd (by simp only [go_sem, Ret_eq Tryd.results15]; first | done | rfl) (hI) (by rintro _ rfl; rfl) ?_; rintro _ rfl) | (refine opCallI_gv (by simp only [go_sem, Ret_eq Tryd.results15]; first | done | rfl) (hI) ?_; rintro _ rfl) | (refine opCallI_rd (by simp only [go_sem, Ret_eq Tryd.results15]; first | done | rfl) (hvc) (by rintro _ rfl; rfl) ?_; rintro _ rfl) | (refine opCallI_gv (by simp only [go_sem, Ret_eq Tryd.results15]; first | done | rfl) (hvc) ?_; rintro _ rfl) | fail)
            · skip
              have hE : askErr k id n seed v dim slots = 1 := if_neg fun q => by
                obtain ⟨_, _, q1, q2, q3, q4⟩ := q
                unfold namedP at q1 q2 q3
                unfold vOk at q4
                simp only [e1, e2, e3, e4, Int.reduceEq, if_true, if_false, Bool.false_eq_true] at q1 q2 q3 q4
                omega
              rw [hE]
              refine Fun.of_awpI Tryd.func15 rfl cal15 Tryd.ntmps15 (by simp) fun hwf => ?_
              simp only [D.wfs, D.wf, ints_length, ints_wfs, rows_length, rows_wfs, capMax, and_true, true_and] at hwf
              repeat' (first | simp only [go_sem, Ret_eq Tryd.results15] | simp (disch := omega) only [arith, IntKind.bits, capMax, fill_len, elt_fill] | (with_reducible refine condI_beq (fun hq hqb => ?_) (fun hq hqb => ?_) <;> simp only [KP_mk, hqb]) | (with_reducible refine condI_bne (fun hq hqb => ?_) (fun hq hqb => ?_) <;> simp only [KP_mk, hqb]) | (with_reducible refine condI_dec (fun hq hqb => ?_) (fun hq hqb => ?_) <;> simp only [KP_mk, hqb]) | (with_reducible refine condI_b (fun hqb => ?_) (fun hqb => ?_) <;> simp only [KP_mk, hqb]) | refine RetO_calc Tryd.results15 ?_ | refine RetL_calc Tryd.results15 rfl ?_ | (refine Again.up (by omega) ?_ ?_) | exact trivial | (refine opCallI_rd (by simp only [go_sem, Ret_eq Tryd.results15]; first | done | rfl) (sz) (by rintro _ rfl; rfl) ?_; rintro _ rfl) | (refine opCallI_gv (by simp only [go_sem, Ret_eq Tryd.results15]; first | done | rfl) (sz) ?_; rintro _ rfl) | (refine opCallI_rd (by simp only [go_sem, Ret_eq Tryd.results15]; first | done | rfl) (nm) (by rintro _ rfl; rfl) ?_; rintro _ rfl) | (refine opCallI_gv (by simp only [go_sem, Ret_eq Tryd.results15]; first | done | rfl) (nm) ?_; rintro _ rfl) | (refine opCallI_rd (by simp only [go_sem, Ret_eq Tryd.results15]; first | done | rfl) (hI) (by rintro _ rfl; rfl) ?_; rintro _ rfl) | (refine opCallI_gv (by simp only [go_sem, Ret_eq Tryd.results15]; first | done | rfl) (hI) ?_; rintro _ rfl) | (refine opCallI_rd (by simp only [go_sem, Ret_eq Tryd.results15]; first | done | rfl) (hvc) (by rintro _ rfl; rfl) ?_; rintro _ rfl) | (refine opCallI_gv (by simp only [go_sem, Ret_eq Tryd.results15]; first | done | rfl) (hvc) ?_; rintro _ rfl) | fail)
          · skip
            have hE : askErr k id n seed v dim slots = 1 := if_neg fun q => by
              obtain ⟨_, _, q1, q2, q3, q4⟩ := q
              unfold namedP at q1 q2 q3
              unfold vOk at q4
              simp only [e1, e2, e3, e4, Int.reduceEq, if_true, if_false, Bool.false_eq_true] at q1 q2 q3 q4
              omega
            rw [hE]
            refine Fun.of_awpI Tryd.func15 rfl cal15 Tryd.ntmps15 (by simp) fun hwf => ?_
            simp only [D.wfs, D.wf, ints_length, ints_wfs, rows_length, rows_wfs, capMax, and_true, true_and] at hwf
            repeat' (first | simp only [go_sem, Ret_eq Tryd.results15] | simp (disch := omega) only [arith, IntKind.bits, capMax, fill_len, elt_fill] | (with_reducible refine condI_beq (fun hq hqb => ?_) (fun hq hqb => ?_) <;> simp only [KP_mk, hqb]) | (with_reducible refine condI_bne (fun hq hqb => ?_) (fun hq hqb => ?_) <;> simp only [KP_mk, hqb]) | (with_reducible refine condI_dec (fun hq hqb => ?_) (fun hq hqb => ?_) <;> simp only [KP_mk, hqb]) | (with_reducible refine condI_b (fun hqb => ?_) (fun hqb => ?_) <;> simp only [KP_mk, hqb]) | refine RetO_calc Tryd.results15 ?_ | refine RetL_calc Tryd.results15 rfl ?_ | (refine Again.up (by omega) ?_ ?_) | exact trivial | (refine opCallI_rd (by simp only [go_sem, Ret_eq Tryd.results15]; first | done | rfl) (sz) (by rintro _ rfl; rfl) ?_; rintro _ rfl) | (refine opCallI_gv (by simp only [go_sem, Ret_eq Tryd.results15]; first | done | rfl) (sz) ?_; rintro _ rfl) | (refine opCallI_rd (by simp only [go_sem, Ret_eq Tryd.results15]; first | done | rfl) (nm) (by rintro _ rfl; rfl) ?_; rintro _ rfl) | (refine opCallI_gv (by simp only [go_sem, Ret_eq Tryd.results15]; first | done | rfl) (nm) ?_; rintro _ rfl) | (refine opCallI_rd (by simp only [go_sem, Ret_eq Tryd.results15]; first | done | rfl) (hI) (by rintro _ rfl; rfl) ?_; rintro _ rfl) | (refine opCallI_gv (by simp only [go_sem, Ret_eq Tryd.results15]; first | done | rfl) (hI) ?_; rintro _ rfl) | (refine opCallI_rd (by simp only [go_sem, Ret_eq Tryd.results15]; first | done | rfl) (hvc) (by rintro _ rfl; rfl) ?_; rintro _ rfl) | (refine opCallI_gv (by simp only [go_sem, Ret_eq Tryd.results15]; first | done | rfl) (hvc) ?_; rintro _ rfl) | fail)
        · skip
          have hE : askErr k id n seed v dim slots = 1 := if_neg fun q => by
            obtain ⟨_, _, q1, q2, q3, q4⟩ := q
            unfold namedP at q1 q2 q3
            unfold vOk at q4
            simp only [e1, e2, e3, e4, Int.reduceEq, if_true, if_false, Bool.false_eq_true] at q1 q2 q3 q4
            omega
          rw [hE]
          refine Fun.of_awpI Tryd.func15 rfl cal15 Tryd.ntmps15 (by simp) fun hwf => ?_
          simp only [D.wfs, D.wf, ints_length, ints_wfs, rows_length, rows_wfs, capMax, and_true, true_and] at hwf
          repeat' (first | simp only [go_sem, Ret_eq Tryd.results15] | simp (disch := omega) only [arith, IntKind.bits, capMax, fill_len, elt_fill] | (with_reducible refine condI_beq (fun hq hqb => ?_) (fun hq hqb => ?_) <;> simp only [KP_mk, hqb]) | (with_reducible refine condI_bne (fun hq hqb => ?_) (fun hq hqb => ?_) <;> simp only [KP_mk, hqb]) | (with_reducible refine condI_dec (fun hq hqb => ?_) (fun hq hqb => ?_) <;> simp only [KP_mk, hqb]) | (with_reducible refine condI_b (fun hqb => ?_) (fun hqb => ?_) <;> simp only [KP_mk, hqb]) | refine RetO_calc Tryd.results15 ?_ | refine RetL_calc Tryd.results15 rfl ?_ | (refine Again.up (by omega) ?_ ?_) | exact trivial | (refine opCallI_rd (by simp only [go_sem, Ret_eq Tryd.results15]; first | done | rfl) (sz) (by rintro _ rfl; rfl) ?_; rintro _ rfl) | (refine opCallI_gv (by simp only [go_sem, Ret_eq Tryd.results15]; first | done | rfl) (sz) ?_; rintro _ rfl) | (refine opCallI_rd (by simp only [go_sem, Ret_eq Tryd.results15]; first | done | rfl) (nm) (by rintro _ rfl; rfl) ?_; rintro _ rfl) | (refine opCallI_gv (by simp only [go_sem, Ret_eq Tryd.results15]; first | done | rfl) (nm) ?_; rintro _ rfl) | (refine opCallI_rd (by simp only [go_sem, Ret_eq Tryd.results15]; first | done | rfl) (hI) (by rintro _ rfl; rfl) ?_; rintro _ rfl) | (refine opCallI_gv (by simp only [go_sem, Ret_eq Tryd.results15]; first | done | rfl) (hI) ?_; rintro _ rfl) | (refine opCallI_rd (by simp only [go_sem, Ret_eq Tryd.results15]; first | done | rfl) (hvc) (by rintro _ rfl; rfl) ?_; rintro _ rfl) | (refine opCallI_gv (by simp only [go_sem, Ret_eq Tryd.results15]; first | done | rfl) (hvc) ?_; rintro _ rfl) | fail)
    · have hE : askErr k id n seed v dim slots = 1 := if_neg fun q => hk q.2.1
      rw [hE]
      unfold kindOk at hk
      by_cases hk1 : 1 ≤ k
      · have hk8 : ¬ k ≤ 8 := fun q => hk ⟨hk1, q⟩
        refine Fun.of_awpI Tryd.func15 rfl cal15 Tryd.ntmps15 (by simp) fun hwf => ?_
        simp only [D.wfs, D.wf, ints_length, ints_wfs, rows_length, rows_wfs, capMax, and_true, true_and] at hwf
        repeat' (first | simp only [go_sem, Ret_eq Tryd.results15] | simp (disch := omega) only [arith, IntKind.bits, capMax, fill_len, elt_fill] | (with_reducible refine condI_beq (fun hq hqb => ?_) (fun hq hqb => ?_) <;> simp only [KP_mk, hqb]) | (with_reducible refine condI_bne (fun hq hqb => ?_) (fun hq hqb => ?_) <;> simp only [KP_mk, hqb]) | (with_reducible refine condI_dec (fun hq hqb => ?_) (fun hq hqb => ?_) <;> simp only [KP_mk, hqb]) | (with_reducible refine condI_b (fun hqb => ?_) (fun hqb => ?_) <;> simp only [KP_mk, hqb]) | refine RetO_calc Tryd.results15 ?_ | refine RetL_calc Tryd.results15 rfl ?_ | (refine Again.up (by omega) ?_ ?_) | exact trivial | (refine opCallI_rd (by simp only [go_sem, Ret_eq Tryd.results15]; first | done | rfl) (sz) (by rintro _ rfl; rfl) ?_; rintro _ rfl) | (refine opCallI_gv (by simp only [go_sem, Ret_eq Tryd.results15]; first | done | rfl) (sz) ?_; rintro _ rfl) | fail)
      · skip
        refine Fun.of_awpI Tryd.func15 rfl cal15 Tryd.ntmps15 (by simp) fun hwf => ?_
        simp only [D.wfs, D.wf, ints_length, ints_wfs, rows_length, rows_wfs, capMax, and_true, true_and] at hwf
        repeat' (first | simp only [go_sem, Ret_eq Tryd.results15] | simp (disch := omega) only [arith, IntKind.bits, capMax, fill_len, elt_fill] | (with_reducible refine condI_beq (fun hq hqb => ?_) (fun hq hqb => ?_) <;> simp only [KP_mk, hqb]) | (with_reducible refine condI_bne (fun hq hqb => ?_) (fun hq hqb => ?_) <;> simp only [KP_mk, hqb]) | (with_reducible refine condI_dec (fun hq hqb => ?_) (fun hq hqb => ?_) <;> simp only [KP_mk, hqb]) | (with_reducible refine condI_b (fun hqb => ?_) (fun hqb => ?_) <;> simp only [KP_mk, hqb]) | refine RetO_calc Tryd.results15 ?_ | refine RetL_calc Tryd.results15 rfl ?_ | (refine Again.up (by omega) ?_ ?_) | exact trivial | (refine opCallI_rd (by simp only [go_sem, Ret_eq Tryd.results15]; first | done | rfl) (sz) (by rintro _ rfl; rfl) ?_; rintro _ rfl) | (refine opCallI_gv (by simp only [go_sem, Ret_eq Tryd.results15]; first | done | rfl) (sz) ?_; rintro _ rfl) | fail)
  · rw [decide_eq_false hz] at sz
    have hE : askErr k id n seed v dim slots = 1 := if_neg fun q => hz q.1
    rw [hE]
    refine Fun.of_awpI Tryd.func15 rfl cal15 Tryd.ntmps15 (by simp) fun hwf => ?_
    simp only [D.wfs, D.wf, ints_length, ints_wfs, rows_length, rows_wfs, capMax, and_true, true_and] at hwf
    repeat' (first | simp only [go_sem, Ret_eq Tryd.results15] | simp (disch := omega) only [arith, IntKind.bits, capMax, fill_len, elt_fill] | (with_reducible refine condI_beq (fun hq hqb => ?_) (fun hq hqb => ?_) <;> simp only [KP_mk, hqb]) | (with_reducible refine condI_bne (fun hq hqb => ?_) (fun hq hqb => ?_) <;> simp only [KP_mk, hqb]) | (with_reducible refine condI_dec (fun hq hqb => ?_) (fun hq hqb => ?_) <;> simp only [KP_mk, hqb]) | (with_reducible refine condI_b (fun hqb => ?_) (fun hqb => ?_) <;> simp only [KP_mk, hqb]) | refine RetO_calc Tryd.results15 ?_ | refine RetL_calc Tryd.results15 rfl ?_ | (refine Again.up (by omega) ?_ ?_) | exact trivial | (refine opCallI_rd (by simp only [go_sem, Ret_eq Tryd.results15]; first | done | rfl) (sz) (by rintro _ rfl; rfl) ?_; rintro _ rfl) | (refine opCallI_gv (by simp only [go_sem, Ret_eq Tryd.results15]; first | done | rfl) (sz) ?_; rintro _ rfl) | fail)
end Go.Proofs.YtfmeiapglpphpaaDoor.T
