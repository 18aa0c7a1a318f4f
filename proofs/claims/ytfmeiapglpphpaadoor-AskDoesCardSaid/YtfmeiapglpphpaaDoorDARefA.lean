import Derived.Test.YtfmeiapglpphpaaDoorDARefPut
set_option linter.unusedSimpArgs false
set_option linter.unusedVariables false
/- The document's answer on what is asked, walked: whether it may be, and the same. -/
namespace Go.Proofs.YtfmeiapglpphpaaDoor.T
open Go Go.VL Go.Proofs
set_option maxRecDepth 100000
set_option maxHeartbeats 8000000

theorem refSizes_fun (dim slots : Int) : Fun Tryd.prog 28 [.v (.int .i64 dim), .v (.int .i64 slots)] fun r => r = .v (.bool (decide (sizesOk dim slots))) := by
  by_cases h1 : 1 ≤ dim
  · by_cases h2 : dim ≤ 64
    · by_cases h3 : 1 ≤ slots
      · by_cases h4 : slots ≤ 256
        · rw [decide_eq_true (show sizesOk dim slots from ⟨⟨h1, h2⟩, h3, h4⟩)]
          refine Fun.of_awpI Tryd.func28 rfl cal28 Tryd.ntmps28 (by simp) fun hwf => ?_
          simp only [D.wfs, D.wf, ints_length, ints_wfs, rows_length, rows_wfs, capMax, and_true, true_and] at hwf
          repeat' (first | simp only [go_sem, Ret_eq Tryd.results28] | simp (disch := omega) only [arith, IntKind.bits, capMax, fill_len, elt_fill] | (with_reducible refine condI_beq (fun hq hqb => ?_) (fun hq hqb => ?_) <;> simp only [KP_mk, hqb]) | (with_reducible refine condI_bne (fun hq hqb => ?_) (fun hq hqb => ?_) <;> simp only [KP_mk, hqb]) | (with_reducible refine condI_dec (fun hq hqb => ?_) (fun hq hqb => ?_) <;> simp only [KP_mk, hqb]) | (with_reducible refine condI_b (fun hqb => ?_) (fun hqb => ?_) <;> simp only [KP_mk, hqb]) | refine RetO_calc Tryd.results28 ?_ | refine RetL_calc Tryd.results28 rfl ?_ | (refine Again.up (by omega) ?_ ?_) | exact trivial | fail)
          all_goals exact decide_eq_true h4
        · rw [decide_eq_false (show ¬ sizesOk dim slots from fun q => h4 q.2.2)]
          refine Fun.of_awpI Tryd.func28 rfl cal28 Tryd.ntmps28 (by simp) fun hwf => ?_
          simp only [D.wfs, D.wf, ints_length, ints_wfs, rows_length, rows_wfs, capMax, and_true, true_and] at hwf
          repeat' (first | simp only [go_sem, Ret_eq Tryd.results28] | simp (disch := omega) only [arith, IntKind.bits, capMax, fill_len, elt_fill] | (with_reducible refine condI_beq (fun hq hqb => ?_) (fun hq hqb => ?_) <;> simp only [KP_mk, hqb]) | (with_reducible refine condI_bne (fun hq hqb => ?_) (fun hq hqb => ?_) <;> simp only [KP_mk, hqb]) | (with_reducible refine condI_dec (fun hq hqb => ?_) (fun hq hqb => ?_) <;> simp only [KP_mk, hqb]) | (with_reducible refine condI_b (fun hqb => ?_) (fun hqb => ?_) <;> simp only [KP_mk, hqb]) | refine RetO_calc Tryd.results28 ?_ | refine RetL_calc Tryd.results28 rfl ?_ | (refine Again.up (by omega) ?_ ?_) | exact trivial | fail)
          all_goals exact decide_eq_false h4
      · rw [decide_eq_false (show ¬ sizesOk dim slots from fun q => h3 q.2.1)]
        refine Fun.of_awpI Tryd.func28 rfl cal28 Tryd.ntmps28 (by simp) fun hwf => ?_
        simp only [D.wfs, D.wf, ints_length, ints_wfs, rows_length, rows_wfs, capMax, and_true, true_and] at hwf
        repeat' (first | simp only [go_sem, Ret_eq Tryd.results28] | simp (disch := omega) only [arith, IntKind.bits, capMax, fill_len, elt_fill] | (with_reducible refine condI_beq (fun hq hqb => ?_) (fun hq hqb => ?_) <;> simp only [KP_mk, hqb]) | (with_reducible refine condI_bne (fun hq hqb => ?_) (fun hq hqb => ?_) <;> simp only [KP_mk, hqb]) | (with_reducible refine condI_dec (fun hq hqb => ?_) (fun hq hqb => ?_) <;> simp only [KP_mk, hqb]) | (with_reducible refine condI_b (fun hqb => ?_) (fun hqb => ?_) <;> simp only [KP_mk, hqb]) | refine RetO_calc Tryd.results28 ?_ | refine RetL_calc Tryd.results28 rfl ?_ | (refine Again.up (by omega) ?_ ?_) | exact trivial | fail)
    · rw [decide_eq_false (show ¬ sizesOk dim slots from fun q => h2 q.1.2)]
      refine Fun.of_awpI Tryd.func28 rfl cal28 Tryd.ntmps28 (by simp) fun hwf => ?_
      simp only [D.wfs, D.wf, ints_length, ints_wfs, rows_length, rows_wfs, capMax, and_true, true_and] at hwf
      repeat' (first | simp only [go_sem, Ret_eq Tryd.results28] | simp (disch := omega) only [arith, IntKind.bits, capMax, fill_len, elt_fill] | (with_reducible refine condI_beq (fun hq hqb => ?_) (fun hq hqb => ?_) <;> simp only [KP_mk, hqb]) | (with_reducible refine condI_bne (fun hq hqb => ?_) (fun hq hqb => ?_) <;> simp only [KP_mk, hqb]) | (with_reducible refine condI_dec (fun hq hqb => ?_) (fun hq hqb => ?_) <;> simp only [KP_mk, hqb]) | (with_reducible refine condI_b (fun hqb => ?_) (fun hqb => ?_) <;> simp only [KP_mk, hqb]) | refine RetO_calc Tryd.results28 ?_ | refine RetL_calc Tryd.results28 rfl ?_ | (refine Again.up (by omega) ?_ ?_) | exact trivial | fail)
  · rw [decide_eq_false (show ¬ sizesOk dim slots from fun q => h1 q.1.1)]
    refine Fun.of_awpI Tryd.func28 rfl cal28 Tryd.ntmps28 (by simp) fun hwf => ?_
    simp only [D.wfs, D.wf, ints_length, ints_wfs, rows_length, rows_wfs, capMax, and_true, true_and] at hwf
    repeat' (first | simp only [go_sem, Ret_eq Tryd.results28] | simp (disch := omega) only [arith, IntKind.bits, capMax, fill_len, elt_fill] | (with_reducible refine condI_beq (fun hq hqb => ?_) (fun hq hqb => ?_) <;> simp only [KP_mk, hqb]) | (with_reducible refine condI_bne (fun hq hqb => ?_) (fun hq hqb => ?_) <;> simp only [KP_mk, hqb]) | (with_reducible refine condI_dec (fun hq hqb => ?_) (fun hq hqb => ?_) <;> simp only [KP_mk, hqb]) | (with_reducible refine condI_b (fun hqb => ?_) (fun hqb => ?_) <;> simp only [KP_mk, hqb]) | refine RetO_calc Tryd.results28 ?_ | refine RetL_calc Tryd.results28 rfl ?_ | (refine Again.up (by omega) ?_ ?_) | exact trivial | fail)

theorem names_fun (k : Int) (hk : kindOk k) : Fun Tryd.prog 25 [.v (.int .i64 k)] fun r => r = .tup [.v (.bool (decide (shI k = 4))), .v (.bool (decide (shK k = 2))), .v (.bool (decide (shS k = 8))), .v (.bool (shV k))] := by
  obtain ⟨k1, k8⟩ := hk
  have : k = 1 ∨ k = 2 ∨ k = 3 ∨ k = 4 ∨ k = 5 ∨ k = 6 ∨ k = 7 ∨ k = 8 := by omega
  rcases this with rfl | rfl | rfl | rfl | rfl | rfl | rfl | rfl
  all_goals
    refine Fun.of_awpI Tryd.func25 rfl cal25 Tryd.ntmps25 (by simp) fun hwf => ?_
    simp only [D.wfs, D.wf, ints_length, ints_wfs, rows_length, rows_wfs, capMax, and_true, true_and] at hwf
    repeat' (first | simp only [go_sem, Ret_eq Tryd.results25] | simp (disch := omega) only [arith, IntKind.bits, capMax, fill_len, elt_fill] | (with_reducible refine condI_beq (fun hq hqb => ?_) (fun hq hqb => ?_) <;> simp only [KP_mk, hqb]) | (with_reducible refine condI_bne (fun hq hqb => ?_) (fun hq hqb => ?_) <;> simp only [KP_mk, hqb]) | (with_reducible refine condI_dec (fun hq hqb => ?_) (fun hq hqb => ?_) <;> simp only [KP_mk, hqb]) | (with_reducible refine condI_b (fun hqb => ?_) (fun hqb => ?_) <;> simp only [KP_mk, hqb]) | refine RetO_calc Tryd.results25 ?_ | refine RetL_calc Tryd.results25 rfl ?_ | (refine Again.up (by omega) ?_ ?_) | exact trivial | fail)
    all_goals first | rfl | decide

theorem refId_fun (n : Int) : Fun Tryd.prog 34 [.v (.int .i64 n)] fun r => r = .v (.bool (decide (0 ≤ n ∧ n ≤ 2147483647))) := by
  by_cases h1 : 0 ≤ n
  · by_cases h2 : n ≤ 2147483647
    · rw [decide_eq_true ⟨h1, h2⟩]
      refine Fun.of_awpI Tryd.func34 rfl cal34 Tryd.ntmps34 (by simp) fun hwf => ?_
      simp only [D.wfs, D.wf, ints_length, ints_wfs, rows_length, rows_wfs, capMax, and_true, true_and] at hwf
      repeat' (first | simp only [go_sem, Ret_eq Tryd.results34] | simp (disch := omega) only [arith, IntKind.bits, capMax, fill_len, elt_fill] | (with_reducible refine condI_beq (fun hq hqb => ?_) (fun hq hqb => ?_) <;> simp only [KP_mk, hqb]) | (with_reducible refine condI_bne (fun hq hqb => ?_) (fun hq hqb => ?_) <;> simp only [KP_mk, hqb]) | (with_reducible refine condI_dec (fun hq hqb => ?_) (fun hq hqb => ?_) <;> simp only [KP_mk, hqb]) | (with_reducible refine condI_b (fun hqb => ?_) (fun hqb => ?_) <;> simp only [KP_mk, hqb]) | refine RetO_calc Tryd.results34 ?_ | refine RetL_calc Tryd.results34 rfl ?_ | (refine Again.up (by omega) ?_ ?_) | exact trivial | fail)
    · rw [decide_eq_false (fun q => h2 q.2)]
      refine Fun.of_awpI Tryd.func34 rfl cal34 Tryd.ntmps34 (by simp) fun hwf => ?_
      simp only [D.wfs, D.wf, ints_length, ints_wfs, rows_length, rows_wfs, capMax, and_true, true_and] at hwf
      repeat' (first | simp only [go_sem, Ret_eq Tryd.results34] | simp (disch := omega) only [arith, IntKind.bits, capMax, fill_len, elt_fill] | (with_reducible refine condI_beq (fun hq hqb => ?_) (fun hq hqb => ?_) <;> simp only [KP_mk, hqb]) | (with_reducible refine condI_bne (fun hq hqb => ?_) (fun hq hqb => ?_) <;> simp only [KP_mk, hqb]) | (with_reducible refine condI_dec (fun hq hqb => ?_) (fun hq hqb => ?_) <;> simp only [KP_mk, hqb]) | (with_reducible refine condI_b (fun hqb => ?_) (fun hqb => ?_) <;> simp only [KP_mk, hqb]) | refine RetO_calc Tryd.results34 ?_ | refine RetL_calc Tryd.results34 rfl ?_ | (refine Again.up (by omega) ?_ ?_) | exact trivial | fail)
  · rw [decide_eq_false (fun q => h1 q.1)]
    refine Fun.of_awpI Tryd.func34 rfl cal34 Tryd.ntmps34 (by simp) fun hwf => ?_
    simp only [D.wfs, D.wf, ints_length, ints_wfs, rows_length, rows_wfs, capMax, and_true, true_and] at hwf
    repeat' (first | simp only [go_sem, Ret_eq Tryd.results34] | simp (disch := omega) only [arith, IntKind.bits, capMax, fill_len, elt_fill] | (with_reducible refine condI_beq (fun hq hqb => ?_) (fun hq hqb => ?_) <;> simp only [KP_mk, hqb]) | (with_reducible refine condI_bne (fun hq hqb => ?_) (fun hq hqb => ?_) <;> simp only [KP_mk, hqb]) | (with_reducible refine condI_dec (fun hq hqb => ?_) (fun hq hqb => ?_) <;> simp only [KP_mk, hqb]) | (with_reducible refine condI_b (fun hqb => ?_) (fun hqb => ?_) <;> simp only [KP_mk, hqb]) | refine RetO_calc Tryd.results34 ?_ | refine RetL_calc Tryd.results34 rfl ?_ | (refine Again.up (by omega) ?_ ?_) | exact trivial | fail)

theorem number_ok (b : List Int) (w : Int) (hb : b.length ≤ 65536) (ho : Octets b) (h : takeErr b w 1 = 0) : Fun Tryd.prog 29 [.lst (ints .u8 b), .v (.int .i64 w)] fun r => r = .tup [.v (.int .i64 (takeNum w b)), .lst (ints .u8 (b.drop w.toNat)), .v (.bool true)] := by
  have ht := refTake_fun b w 1 (by omega) ho
  have e1 : takeOut b w 1 = [takeNum w b] := by unfold takeOut; rw [if_pos h]; rfl
  have e2 : takeRest b w 1 = b.drop w.toNat := by unfold takeRest; rw [if_pos h]; simp
  rw [h, e1, e2] at ht
  refine Fun.of_awpI Tryd.func29 rfl cal29 Tryd.ntmps29 (by simp) fun hwf => ?_
  simp only [D.wfs, D.wf, ints_length, ints_wfs, rows_length, rows_wfs, capMax, and_true, true_and] at hwf
  repeat' (first | simp only [go_sem, ints_cons, ints_nil, Ret_eq Tryd.results29] | simp (disch := omega) only [arith, IntKind.bits, capMax, fill_len, elt_fill] | (with_reducible refine condI_beq (fun hq hqb => ?_) (fun hq hqb => ?_) <;> simp only [KP_mk, hqb]) | (with_reducible refine condI_bne (fun hq hqb => ?_) (fun hq hqb => ?_) <;> simp only [KP_mk, hqb]) | (with_reducible refine condI_dec (fun hq hqb => ?_) (fun hq hqb => ?_) <;> simp only [KP_mk, hqb]) | (with_reducible refine condI_b (fun hqb => ?_) (fun hqb => ?_) <;> simp only [KP_mk, hqb]) | refine RetO_calc Tryd.results29 ?_ | refine RetL_calc Tryd.results29 rfl ?_ | (refine Again.up (by omega) ?_ ?_) | exact trivial | (refine opCallI_rd (by simp only [go_sem, ints_cons, ints_nil, Ret_eq Tryd.results29]; first | done | rfl) (ht) (by rintro _ rfl; rfl) ?_; rintro _ rfl) | (refine opCallI_gv (by simp only [go_sem, ints_cons, ints_nil, Ret_eq Tryd.results29]; first | done | rfl) (ht) ?_; rintro _ rfl) | fail)
theorem number_bad (b : List Int) (w : Int) (hb : b.length ≤ 65536) (ho : Octets b) (h : takeErr b w 1 ≠ 0) : Fun Tryd.prog 29 [.lst (ints .u8 b), .v (.int .i64 w)] fun r => r = .tup [.v (.int .i64 0), .lst [], .v (.bool false)] := by
  have ht := refTake_fun b w 1 (by omega) ho
  have hb2 : (takeErr b w 1 != 0) = true := bne_iff_ne.2 h
  refine Fun.of_awpI Tryd.func29 rfl cal29 Tryd.ntmps29 (by simp) fun hwf => ?_
  simp only [D.wfs, D.wf, ints_length, ints_wfs, rows_length, rows_wfs, capMax, and_true, true_and] at hwf
  repeat' (first | simp only [go_sem, hb2, Ret_eq Tryd.results29] | simp (disch := omega) only [arith, IntKind.bits, capMax, fill_len, elt_fill] | (with_reducible refine condI_beq (fun hq hqb => ?_) (fun hq hqb => ?_) <;> simp only [KP_mk, hqb]) | (with_reducible refine condI_bne (fun hq hqb => ?_) (fun hq hqb => ?_) <;> simp only [KP_mk, hqb]) | (with_reducible refine condI_dec (fun hq hqb => ?_) (fun hq hqb => ?_) <;> simp only [KP_mk, hqb]) | (with_reducible refine condI_b (fun hqb => ?_) (fun hqb => ?_) <;> simp only [KP_mk, hqb]) | refine RetO_calc Tryd.results29 ?_ | refine RetL_calc Tryd.results29 rfl ?_ | (refine Again.up (by omega) ?_ ?_) | exact trivial | (refine opCallI_rd (by simp only [go_sem, hb2, Ret_eq Tryd.results29]; first | done | rfl) (ht) (by rintro _ rfl; rfl) ?_; rintro _ rfl) | (refine opCallI_gv (by simp only [go_sem, hb2, Ret_eq Tryd.results29]; first | done | rfl) (ht) ?_; rintro _ rfl) | fail)
end Go.Proofs.YtfmeiapglpphpaaDoor.T
