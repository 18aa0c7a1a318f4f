import Derived.Test.YtfmeiapglpphpaaDoorDARefB
set_option linter.unusedSimpArgs false
set_option linter.unusedVariables false
/- The document's answer on what is asked, walked: the same, and what is written. -/
namespace Go.Proofs.YtfmeiapglpphpaaDoor.T
open Go Go.VL Go.Proofs
set_option maxRecDepth 100000
set_option maxHeartbeats 8000000

theorem refAskSame_fun (k id n s : Int) (v : List Int) (k2 id2 n2 s2 : Int) (v2 : List Int) : Fun Tryd.prog 13 [askD k id n s v, askD k2 id2 n2 s2 v2] fun r => r = .v (.bool (decide (k = k2 ∧ id = id2 ∧ n = n2 ∧ s = s2 ∧ v = v2))) := by
  have hvs := refSame16_fun v v2
  by_cases h1 : k = k2
  · by_cases h2 : id = id2
    · by_cases h3 : n = n2
      · by_cases h4 : s = s2
        · subst h1 h2 h3 h4
          have e : decide (k = k ∧ id = id ∧ n = n ∧ s = s ∧ v = v2) = decide (v = v2) := by simp
          rw [e]
          refine Fun.of_awpI Tryd.func13 rfl cal13 Tryd.ntmps13 (by simp) fun hwf => ?_
          simp only [D.wfs, D.wf, ints_length, ints_wfs, rows_length, rows_wfs, capMax, and_true, true_and] at hwf
          repeat' (first | simp only [go_sem, beq_self_eq_true, Ret_eq Tryd.results13] | simp (disch := omega) only [arith, IntKind.bits, capMax, fill_len, elt_fill] | (with_reducible refine condI_beq (fun hq hqb => ?_) (fun hq hqb => ?_) <;> simp only [KP_mk, hqb]) | (with_reducible refine condI_bne (fun hq hqb => ?_) (fun hq hqb => ?_) <;> simp only [KP_mk, hqb]) | (with_reducible refine condI_dec (fun hq hqb => ?_) (fun hq hqb => ?_) <;> simp only [KP_mk, hqb]) | (with_reducible refine condI_b (fun hqb => ?_) (fun hqb => ?_) <;> simp only [KP_mk, hqb]) | refine RetO_calc Tryd.results13 ?_ | refine RetL_calc Tryd.results13 rfl ?_ | (refine Again.up (by omega) ?_ ?_) | exact trivial | (refine opCallI_rd (by simp only [go_sem, beq_self_eq_true, Ret_eq Tryd.results13]; first | done | rfl) (hvs) (by rintro _ rfl; rfl) ?_; rintro _ rfl) | (refine opCallI_gv (by simp only [go_sem, beq_self_eq_true, Ret_eq Tryd.results13]; first | done | rfl) (hvs) ?_; rintro _ rfl) | fail)
        · have e : decide (k = k2 ∧ id = id2 ∧ n = n2 ∧ s = s2 ∧ v = v2) = false := decide_eq_false fun q => h4 q.2.2.2.1
          have hb : (s == s2) = false := beq_eq_false_iff_ne.2 h4
          rw [e]
          subst h1 h2 h3
          refine Fun.of_awpI Tryd.func13 rfl cal13 Tryd.ntmps13 (by simp) fun hwf => ?_
          simp only [D.wfs, D.wf, ints_length, ints_wfs, rows_length, rows_wfs, capMax, and_true, true_and] at hwf
          repeat' (first | simp only [go_sem, hb, beq_self_eq_true, Ret_eq Tryd.results13] | simp (disch := omega) only [arith, IntKind.bits, capMax, fill_len, elt_fill] | (with_reducible refine condI_beq (fun hq hqb => ?_) (fun hq hqb => ?_) <;> simp only [KP_mk, hqb]) | (with_reducible refine condI_bne (fun hq hqb => ?_) (fun hq hqb => ?_) <;> simp only [KP_mk, hqb]) | (with_reducible refine condI_dec (fun hq hqb => ?_) (fun hq hqb => ?_) <;> simp only [KP_mk, hqb]) | (with_reducible refine condI_b (fun hqb => ?_) (fun hqb => ?_) <;> simp only [KP_mk, hqb]) | refine RetO_calc Tryd.results13 ?_ | refine RetL_calc Tryd.results13 rfl ?_ | (refine Again.up (by omega) ?_ ?_) | exact trivial | fail)
      · have e : decide (k = k2 ∧ id = id2 ∧ n = n2 ∧ s = s2 ∧ v = v2) = false := decide_eq_false fun q => h3 q.2.2.1
        have hb : (n == n2) = false := beq_eq_false_iff_ne.2 h3
        rw [e]
        subst h1 h2
        refine Fun.of_awpI Tryd.func13 rfl cal13 Tryd.ntmps13 (by simp) fun hwf => ?_
        simp only [D.wfs, D.wf, ints_length, ints_wfs, rows_length, rows_wfs, capMax, and_true, true_and] at hwf
        repeat' (first | simp only [go_sem, hb, beq_self_eq_true, Ret_eq Tryd.results13] | simp (disch := omega) only [arith, IntKind.bits, capMax, fill_len, elt_fill] | (with_reducible refine condI_beq (fun hq hqb => ?_) (fun hq hqb => ?_) <;> simp only [KP_mk, hqb]) | (with_reducible refine condI_bne (fun hq hqb => ?_) (fun hq hqb => ?_) <;> simp only [KP_mk, hqb]) | (with_reducible refine condI_dec (fun hq hqb => ?_) (fun hq hqb => ?_) <;> simp only [KP_mk, hqb]) | (with_reducible refine condI_b (fun hqb => ?_) (fun hqb => ?_) <;> simp only [KP_mk, hqb]) | refine RetO_calc Tryd.results13 ?_ | refine RetL_calc Tryd.results13 rfl ?_ | (refine Again.up (by omega) ?_ ?_) | exact trivial | fail)
    · have e : decide (k = k2 ∧ id = id2 ∧ n = n2 ∧ s = s2 ∧ v = v2) = false := decide_eq_false fun q => h2 q.2.1
      have hb : (id == id2) = false := beq_eq_false_iff_ne.2 h2
      rw [e]
      subst h1
      refine Fun.of_awpI Tryd.func13 rfl cal13 Tryd.ntmps13 (by simp) fun hwf => ?_
      simp only [D.wfs, D.wf, ints_length, ints_wfs, rows_length, rows_wfs, capMax, and_true, true_and] at hwf
      repeat' (first | simp only [go_sem, hb, beq_self_eq_true, Ret_eq Tryd.results13] | simp (disch := omega) only [arith, IntKind.bits, capMax, fill_len, elt_fill] | (with_reducible refine condI_beq (fun hq hqb => ?_) (fun hq hqb => ?_) <;> simp only [KP_mk, hqb]) | (with_reducible refine condI_bne (fun hq hqb => ?_) (fun hq hqb => ?_) <;> simp only [KP_mk, hqb]) | (with_reducible refine condI_dec (fun hq hqb => ?_) (fun hq hqb => ?_) <;> simp only [KP_mk, hqb]) | (with_reducible refine condI_b (fun hqb => ?_) (fun hqb => ?_) <;> simp only [KP_mk, hqb]) | refine RetO_calc Tryd.results13 ?_ | refine RetL_calc Tryd.results13 rfl ?_ | (refine Again.up (by omega) ?_ ?_) | exact trivial | fail)
  · have e : decide (k = k2 ∧ id = id2 ∧ n = n2 ∧ s = s2 ∧ v = v2) = false := decide_eq_false fun q => h1 q.1
    have hb : (k == k2) = false := beq_eq_false_iff_ne.2 h1
    rw [e]
    refine Fun.of_awpI Tryd.func13 rfl cal13 Tryd.ntmps13 (by simp) fun hwf => ?_
    simp only [D.wfs, D.wf, ints_length, ints_wfs, rows_length, rows_wfs, capMax, and_true, true_and] at hwf
    repeat' (first | simp only [go_sem, hb, Ret_eq Tryd.results13] | simp (disch := omega) only [arith, IntKind.bits, capMax, fill_len, elt_fill] | (with_reducible refine condI_beq (fun hq hqb => ?_) (fun hq hqb => ?_) <;> simp only [KP_mk, hqb]) | (with_reducible refine condI_bne (fun hq hqb => ?_) (fun hq hqb => ?_) <;> simp only [KP_mk, hqb]) | (with_reducible refine condI_dec (fun hq hqb => ?_) (fun hq hqb => ?_) <;> simp only [KP_mk, hqb]) | (with_reducible refine condI_b (fun hqb => ?_) (fun hqb => ?_) <;> simp only [KP_mk, hqb]) | refine RetO_calc Tryd.results13 ?_ | refine RetL_calc Tryd.results13 rfl ?_ | (refine Again.up (by omega) ?_ ?_) | exact trivial | fail)

theorem refWrites18_fun (k : Int) : Fun Tryd.prog 17 [.v (.int .i64 k)] fun r => r = .v (.bool (decide (k = 1 ∨ k = 2 ∨ k = 3))) := by
  by_cases h1 : k = 1
  · rw [decide_eq_true (.inl h1)]
    refine Fun.of_awpI Tryd.func17 rfl cal17 Tryd.ntmps17 (by simp) fun hwf => ?_
    simp only [D.wfs, D.wf, ints_length, ints_wfs, rows_length, rows_wfs, capMax, and_true, true_and] at hwf
    repeat' (first | simp only [go_sem, h1, beq_self_eq_true, Ret_eq Tryd.results17] | simp (disch := omega) only [arith, IntKind.bits, capMax, fill_len, elt_fill] | (with_reducible refine condI_beq (fun hq hqb => ?_) (fun hq hqb => ?_) <;> simp only [KP_mk, hqb]) | (with_reducible refine condI_bne (fun hq hqb => ?_) (fun hq hqb => ?_) <;> simp only [KP_mk, hqb]) | (with_reducible refine condI_dec (fun hq hqb => ?_) (fun hq hqb => ?_) <;> simp only [KP_mk, hqb]) | (with_reducible refine condI_b (fun hqb => ?_) (fun hqb => ?_) <;> simp only [KP_mk, hqb]) | refine RetO_calc Tryd.results17 ?_ | refine RetL_calc Tryd.results17 rfl ?_ | (refine Again.up (by omega) ?_ ?_) | exact trivial | fail)
  · have b1 : (k == 1) = false := beq_eq_false_iff_ne.2 h1
    by_cases h2 : k = 2
    · rw [decide_eq_true (.inr (.inl h2))]
      subst h2
      refine Fun.of_awpI Tryd.func17 rfl cal17 Tryd.ntmps17 (by simp) fun hwf => ?_
      simp only [D.wfs, D.wf, ints_length, ints_wfs, rows_length, rows_wfs, capMax, and_true, true_and] at hwf
      repeat' (first | simp only [go_sem, beq_self_eq_true, Ret_eq Tryd.results17] | simp (disch := omega) only [arith, IntKind.bits, capMax, fill_len, elt_fill] | (with_reducible refine condI_beq (fun hq hqb => ?_) (fun hq hqb => ?_) <;> simp only [KP_mk, hqb]) | (with_reducible refine condI_bne (fun hq hqb => ?_) (fun hq hqb => ?_) <;> simp only [KP_mk, hqb]) | (with_reducible refine condI_dec (fun hq hqb => ?_) (fun hq hqb => ?_) <;> simp only [KP_mk, hqb]) | (with_reducible refine condI_b (fun hqb => ?_) (fun hqb => ?_) <;> simp only [KP_mk, hqb]) | refine RetO_calc Tryd.results17 ?_ | refine RetL_calc Tryd.results17 rfl ?_ | (refine Again.up (by omega) ?_ ?_) | exact trivial | fail)
    · have b2 : (k == 2) = false := beq_eq_false_iff_ne.2 h2
      by_cases h3 : k = 3
      · rw [decide_eq_true (.inr (.inr h3))]
        subst h3
        refine Fun.of_awpI Tryd.func17 rfl cal17 Tryd.ntmps17 (by simp) fun hwf => ?_
        simp only [D.wfs, D.wf, ints_length, ints_wfs, rows_length, rows_wfs, capMax, and_true, true_and] at hwf
        repeat' (first | simp only [go_sem, beq_self_eq_true, Ret_eq Tryd.results17] | simp (disch := omega) only [arith, IntKind.bits, capMax, fill_len, elt_fill] | (with_reducible refine condI_beq (fun hq hqb => ?_) (fun hq hqb => ?_) <;> simp only [KP_mk, hqb]) | (with_reducible refine condI_bne (fun hq hqb => ?_) (fun hq hqb => ?_) <;> simp only [KP_mk, hqb]) | (with_reducible refine condI_dec (fun hq hqb => ?_) (fun hq hqb => ?_) <;> simp only [KP_mk, hqb]) | (with_reducible refine condI_b (fun hqb => ?_) (fun hqb => ?_) <;> simp only [KP_mk, hqb]) | refine RetO_calc Tryd.results17 ?_ | refine RetL_calc Tryd.results17 rfl ?_ | (refine Again.up (by omega) ?_ ?_) | exact trivial | fail)
      · have b3 : (k == 3) = false := beq_eq_false_iff_ne.2 h3
        rw [decide_eq_false (by omega)]
        refine Fun.of_awpI Tryd.func17 rfl cal17 Tryd.ntmps17 (by simp) fun hwf => ?_
        simp only [D.wfs, D.wf, ints_length, ints_wfs, rows_length, rows_wfs, capMax, and_true, true_and] at hwf
        repeat' (first | simp only [go_sem, b1, b2, b3, Ret_eq Tryd.results17] | simp (disch := omega) only [arith, IntKind.bits, capMax, fill_len, elt_fill] | (with_reducible refine condI_beq (fun hq hqb => ?_) (fun hq hqb => ?_) <;> simp only [KP_mk, hqb]) | (with_reducible refine condI_bne (fun hq hqb => ?_) (fun hq hqb => ?_) <;> simp only [KP_mk, hqb]) | (with_reducible refine condI_dec (fun hq hqb => ?_) (fun hq hqb => ?_) <;> simp only [KP_mk, hqb]) | (with_reducible refine condI_b (fun hqb => ?_) (fun hqb => ?_) <;> simp only [KP_mk, hqb]) | refine RetO_calc Tryd.results17 ?_ | refine RetL_calc Tryd.results17 rfl ?_ | (refine Again.up (by omega) ?_ ?_) | exact trivial | fail)
theorem namedI {k id : Int} (h : shI k = 4) (hn : namedP id (shI k) 0 2147483647) : -9223372036854775808 ≤ id ∧ id ≤ 9223372036854775807 := by
  unfold namedP at hn; rw [h, if_neg (by decide)] at hn; omega
theorem namedK {k n slots : Int} (h : shK k = 2) (hn : namedP n (shK k) 1 slots) (hs : slots ≤ 256) : -9223372036854775808 ≤ n ∧ n ≤ 9223372036854775807 := by
  unfold namedP at hn; rw [h, if_neg (by decide)] at hn; omega
theorem namedS {k s : Int} (h : shS k = 8) (hn : namedP s (shS k) 0 9223372036854775807) : -9223372036854775808 ≤ s ∧ s ≤ 9223372036854775807 := by
  unfold namedP at hn; rw [h, if_neg (by decide)] at hn; omega

theorem refWrite18_bad (k id n seed : Int) (v : List Int) (dim slots : Int) (hse : seed ≤ 9223372036854775807) (h : askErr k id n seed v dim slots ≠ 0) :
    Fun Tryd.prog 10 [askD k id n seed v, .v (.int .i64 dim), .v (.int .i64 slots)] fun r => r = .tup [.lst [], .v (.int .i64 (askErr k id n seed v dim slots))] := by
  have hc := refCheck18_fun k id n seed v dim slots hse
  rw [askErr_bad h] at hc ⊢
  refine Fun.of_awpI Tryd.func10 rfl cal10 Tryd.ntmps10 (by simp) fun hwf => ?_
  simp only [D.wfs, D.wf, ints_length, ints_wfs, rows_length, rows_wfs, capMax, and_true, true_and] at hwf
  repeat' (first | simp only [go_sem, Ret_eq Tryd.results10] | simp (disch := omega) only [arith, IntKind.bits, capMax, fill_len, elt_fill] | (with_reducible refine condI_beq (fun hq hqb => ?_) (fun hq hqb => ?_) <;> simp only [KP_mk, hqb]) | (with_reducible refine condI_bne (fun hq hqb => ?_) (fun hq hqb => ?_) <;> simp only [KP_mk, hqb]) | (with_reducible refine condI_dec (fun hq hqb => ?_) (fun hq hqb => ?_) <;> simp only [KP_mk, hqb]) | (with_reducible refine condI_b (fun hqb => ?_) (fun hqb => ?_) <;> simp only [KP_mk, hqb]) | refine RetO_calc Tryd.results10 ?_ | refine RetL_calc Tryd.results10 rfl ?_ | (refine Again.up (by omega) ?_ ?_) | exact trivial | (refine opCallI_rd (by simp only [go_sem, Ret_eq Tryd.results10]; first | done | rfl) (hc) (by rintro _ rfl; rfl) ?_; rintro _ rfl) | (refine opCallI_gv (by simp only [go_sem, Ret_eq Tryd.results10]; first | done | rfl) (hc) ?_; rintro _ rfl) | fail)

theorem refWrite18_ok (k id n seed : Int) (v : List Int) (dim slots : Int) (hse : seed ≤ 9223372036854775807) (h : askErr k id n seed v dim slots = 0) (hv : I16s v) :
    Fun Tryd.prog 10 [askD k id n seed v, .v (.int .i64 dim), .v (.int .i64 slots)] fun r => r = .tup [.lst (ints .u8 (askText k id n seed v)), .v (.int .i64 0)] := by
  have hc := refCheck18_fun k id n seed v dim slots hse
  rw [h] at hc
  obtain ⟨hz, hk, h1, h2, h3, h4⟩ := askErr_ok h
  have nm := names_fun k hk
  have hku := kind_u8 hk
  unfold askText askHead
  rcases shapes_five hk with ⟨e1, e2, e3, e4⟩ | ⟨e1, e2, e3, e4⟩ | ⟨e1, e2, e3, e4⟩ | ⟨e1, e2, e3, e4⟩ | ⟨e1, e2, e3, e4⟩
  · have hp := refPut1_fun k 4 id (namedI e1 h1) (fit_id e1 h1)
    have hl := put1_len (k := k) (w := 4) (x := id) (by decide)
    unfold vOk at h4
    simp only [e1, e2, e3, e4, if_true, if_false, Bool.false_eq_true, Int.reduceEq, List.append_nil, decide_true, decide_false] at nm h4 ⊢
    have hbl : (v.flatMap (octs 2)).length = 2 * v.length := flat_octs_length
    have hve := h4.2
    have hvl := (vecOk_iff.1 (vecErr_zero.1 hve)).2.1
    have hvb := refVecBytes_fun v hv
    rw [hve, vecBytes, if_pos hve] at hvb
    generalize v.flatMap (octs 2) = B at *
    generalize putOut [k] 4 [id] = T at *
    refine Fun.of_awpI Tryd.func10 rfl cal10 Tryd.ntmps10 (by simp) fun hwf => ?_
    simp only [D.wfs, D.wf, ints_length, ints_wfs, rows_length, rows_wfs, capMax, and_true, true_and] at hwf
    repeat' (first | simp only [go_sem, hku, hl, List.length_append, hbl, Ret_eq Tryd.results10] | simp (disch := omega) only [arith, IntKind.bits, capMax, fill_len, elt_fill] | (with_reducible refine condI_beq (fun hq hqb => ?_) (fun hq hqb => ?_) <;> simp only [KP_mk, hqb]) | (with_reducible refine condI_bne (fun hq hqb => ?_) (fun hq hqb => ?_) <;> simp only [KP_mk, hqb]) | (with_reducible refine condI_dec (fun hq hqb => ?_) (fun hq hqb => ?_) <;> simp only [KP_mk, hqb]) | (with_reducible refine condI_b (fun hqb => ?_) (fun hqb => ?_) <;> simp only [KP_mk, hqb]) | refine RetO_calc Tryd.results10 ?_ | refine RetL_calc Tryd.results10 rfl ?_ | (refine Again.up (by omega) ?_ ?_) | exact trivial | (refine opCallI_rd (by simp only [go_sem, hku, hl, List.length_append, hbl, Ret_eq Tryd.results10]; first | done | rfl) (hc) (by rintro _ rfl; rfl) ?_; rintro _ rfl) | (refine opCallI_gv (by simp only [go_sem, hku, hl, List.length_append, hbl, Ret_eq Tryd.results10]; first | done | rfl) (hc) ?_; rintro _ rfl) | (refine opCallI_rd (by simp only [go_sem, hku, hl, List.length_append, hbl, Ret_eq Tryd.results10]; first | done | rfl) (nm) (by rintro _ rfl; rfl) ?_; rintro _ rfl) | (refine opCallI_gv (by simp only [go_sem, hku, hl, List.length_append, hbl, Ret_eq Tryd.results10]; first | done | rfl) (nm) ?_; rintro _ rfl) | (refine opCallI_ownGv (by simp only [go_sem, hku, hl, List.length_append, hbl, Ret_eq Tryd.results10]; first | done | rfl) (hp) ?_; rintro _ _ ⟨rfl, rfl⟩) | (refine opCallI_rd (by simp only [go_sem, hku, hl, List.length_append, hbl, Ret_eq Tryd.results10]; first | done | rfl) (hvb) (by rintro _ rfl; rfl) ?_; rintro _ rfl) | (refine opCallI_gv (by simp only [go_sem, hku, hl, List.length_append, hbl, Ret_eq Tryd.results10]; first | done | rfl) (hvb) ?_; rintro _ rfl) | fail)
    all_goals first | rfl | (rw [List.take_of_length_le (by (try rw [List.length_append]); omega)])
  · have hp := refPut1_fun k 4 id (namedI e1 h1) (fit_id e1 h1)
    have hl := put1_len (k := k) (w := 4) (x := id) (by decide)
    unfold vOk at h4
    simp only [e1, e2, e3, e4, if_true, if_false, Bool.false_eq_true, Int.reduceEq, List.append_nil, decide_true, decide_false] at nm h4 ⊢
    generalize putOut [k] 4 [id] = T at *
    refine Fun.of_awpI Tryd.func10 rfl cal10 Tryd.ntmps10 (by simp) fun hwf => ?_
    simp only [D.wfs, D.wf, ints_length, ints_wfs, rows_length, rows_wfs, capMax, and_true, true_and] at hwf
    repeat' (first | simp only [go_sem, hku, hl, Ret_eq Tryd.results10] | simp (disch := omega) only [arith, IntKind.bits, capMax, fill_len, elt_fill] | (with_reducible refine condI_beq (fun hq hqb => ?_) (fun hq hqb => ?_) <;> simp only [KP_mk, hqb]) | (with_reducible refine condI_bne (fun hq hqb => ?_) (fun hq hqb => ?_) <;> simp only [KP_mk, hqb]) | (with_reducible refine condI_dec (fun hq hqb => ?_) (fun hq hqb => ?_) <;> simp only [KP_mk, hqb]) | (with_reducible refine condI_b (fun hqb => ?_) (fun hqb => ?_) <;> simp only [KP_mk, hqb]) | refine RetO_calc Tryd.results10 ?_ | refine RetL_calc Tryd.results10 rfl ?_ | (refine Again.up (by omega) ?_ ?_) | exact trivial | (refine opCallI_rd (by simp only [go_sem, hku, hl, Ret_eq Tryd.results10]; first | done | rfl) (hc) (by rintro _ rfl; rfl) ?_; rintro _ rfl) | (refine opCallI_gv (by simp only [go_sem, hku, hl, Ret_eq Tryd.results10]; first | done | rfl) (hc) ?_; rintro _ rfl) | (refine opCallI_rd (by simp only [go_sem, hku, hl, Ret_eq Tryd.results10]; first | done | rfl) (nm) (by rintro _ rfl; rfl) ?_; rintro _ rfl) | (refine opCallI_gv (by simp only [go_sem, hku, hl, Ret_eq Tryd.results10]; first | done | rfl) (nm) ?_; rintro _ rfl) | (refine opCallI_ownGv (by simp only [go_sem, hku, hl, Ret_eq Tryd.results10]; first | done | rfl) (hp) ?_; rintro _ _ ⟨rfl, rfl⟩) | fail)
    all_goals first | rfl | (rw [List.take_of_length_le (by (try rw [List.length_append]); omega)])
  · have hp := refPut1_fun k 2 n (namedK e2 h2 hz.2.2) (fit_n e2 h2 hz.2.2)
    have hl := put1_len (k := k) (w := 2) (x := n) (by decide)
    unfold vOk at h4
    simp only [e1, e2, e3, e4, if_true, if_false, Bool.false_eq_true, Int.reduceEq, List.append_nil, decide_true, decide_false] at nm h4 ⊢
    have hbl : (v.flatMap (octs 2)).length = 2 * v.length := flat_octs_length
    have hve := h4.2
    have hvl := (vecOk_iff.1 (vecErr_zero.1 hve)).2.1
    have hvb := refVecBytes_fun v hv
    rw [hve, vecBytes, if_pos hve] at hvb
    generalize v.flatMap (octs 2) = B at *
    generalize putOut [k] 2 [n] = T at *
    refine Fun.of_awpI Tryd.func10 rfl cal10 Tryd.ntmps10 (by simp) fun hwf => ?_
    simp only [D.wfs, D.wf, ints_length, ints_wfs, rows_length, rows_wfs, capMax, and_true, true_and] at hwf
    repeat' (first | simp only [go_sem, hku, hl, List.length_append, hbl, Ret_eq Tryd.results10] | simp (disch := omega) only [arith, IntKind.bits, capMax, fill_len, elt_fill] | (with_reducible refine condI_beq (fun hq hqb => ?_) (fun hq hqb => ?_) <;> simp only [KP_mk, hqb]) | (with_reducible refine condI_bne (fun hq hqb => ?_) (fun hq hqb => ?_) <;> simp only [KP_mk, hqb]) | (with_reducible refine condI_dec (fun hq hqb => ?_) (fun hq hqb => ?_) <;> simp only [KP_mk, hqb]) | (with_reducible refine condI_b (fun hqb => ?_) (fun hqb => ?_) <;> simp only [KP_mk, hqb]) | refine RetO_calc Tryd.results10 ?_ | refine RetL_calc Tryd.results10 rfl ?_ | (refine Again.up (by omega) ?_ ?_) | exact trivial | (refine opCallI_rd (by simp only [go_sem, hku, hl, List.length_append, hbl, Ret_eq Tryd.results10]; first | done | rfl) (hc) (by rintro _ rfl; rfl) ?_; rintro _ rfl) | (refine opCallI_gv (by simp only [go_sem, hku, hl, List.length_append, hbl, Ret_eq Tryd.results10]; first | done | rfl) (hc) ?_; rintro _ rfl) | (refine opCallI_rd (by simp only [go_sem, hku, hl, List.length_append, hbl, Ret_eq Tryd.results10]; first | done | rfl) (nm) (by rintro _ rfl; rfl) ?_; rintro _ rfl) | (refine opCallI_gv (by simp only [go_sem, hku, hl, List.length_append, hbl, Ret_eq Tryd.results10]; first | done | rfl) (nm) ?_; rintro _ rfl) | (refine opCallI_ownGv (by simp only [go_sem, hku, hl, List.length_append, hbl, Ret_eq Tryd.results10]; first | done | rfl) (hp) ?_; rintro _ _ ⟨rfl, rfl⟩) | (refine opCallI_rd (by simp only [go_sem, hku, hl, List.length_append, hbl, Ret_eq Tryd.results10]; first | done | rfl) (hvb) (by rintro _ rfl; rfl) ?_; rintro _ rfl) | (refine opCallI_gv (by simp only [go_sem, hku, hl, List.length_append, hbl, Ret_eq Tryd.results10]; first | done | rfl) (hvb) ?_; rintro _ rfl) | fail)
    all_goals first | rfl | (rw [List.take_of_length_le (by (try rw [List.length_append]); omega)])
  · unfold vOk at h4
    simp only [e1, e2, e3, e4, if_true, if_false, Bool.false_eq_true, Int.reduceEq, List.append_nil, decide_true, decide_false] at nm h4 ⊢
    refine Fun.of_awpI Tryd.func10 rfl cal10 Tryd.ntmps10 (by simp) fun hwf => ?_
    simp only [D.wfs, D.wf, ints_length, ints_wfs, rows_length, rows_wfs, capMax, and_true, true_and] at hwf
    repeat' (first | simp only [go_sem, hku, Ret_eq Tryd.results10] | simp (disch := omega) only [arith, IntKind.bits, capMax, fill_len, elt_fill] | (with_reducible refine condI_beq (fun hq hqb => ?_) (fun hq hqb => ?_) <;> simp only [KP_mk, hqb]) | (with_reducible refine condI_bne (fun hq hqb => ?_) (fun hq hqb => ?_) <;> simp only [KP_mk, hqb]) | (with_reducible refine condI_dec (fun hq hqb => ?_) (fun hq hqb => ?_) <;> simp only [KP_mk, hqb]) | (with_reducible refine condI_b (fun hqb => ?_) (fun hqb => ?_) <;> simp only [KP_mk, hqb]) | refine RetO_calc Tryd.results10 ?_ | refine RetL_calc Tryd.results10 rfl ?_ | (refine Again.up (by omega) ?_ ?_) | exact trivial | (refine opCallI_rd (by simp only [go_sem, hku, Ret_eq Tryd.results10]; first | done | rfl) (hc) (by rintro _ rfl; rfl) ?_; rintro _ rfl) | (refine opCallI_gv (by simp only [go_sem, hku, Ret_eq Tryd.results10]; first | done | rfl) (hc) ?_; rintro _ rfl) | (refine opCallI_rd (by simp only [go_sem, hku, Ret_eq Tryd.results10]; first | done | rfl) (nm) (by rintro _ rfl; rfl) ?_; rintro _ rfl) | (refine opCallI_gv (by simp only [go_sem, hku, Ret_eq Tryd.results10]; first | done | rfl) (nm) ?_; rintro _ rfl) | fail)
    all_goals first | rfl | (rw [List.take_of_length_le (by (try rw [List.length_append]); omega)])
  · have hp := refPut1_fun k 8 seed (namedS e3 h3) (fit_seed e3 h3)
    have hl := put1_len (k := k) (w := 8) (x := seed) (by decide)
    unfold vOk at h4
    simp only [e1, e2, e3, e4, if_true, if_false, Bool.false_eq_true, Int.reduceEq, List.append_nil, decide_true, decide_false] at nm h4 ⊢
    generalize putOut [k] 8 [seed] = T at *
    refine Fun.of_awpI Tryd.func10 rfl cal10 Tryd.ntmps10 (by simp) fun hwf => ?_
    simp only [D.wfs, D.wf, ints_length, ints_wfs, rows_length, rows_wfs, capMax, and_true, true_and] at hwf
    repeat' (first | simp only [go_sem, hku, hl, Ret_eq Tryd.results10] | simp (disch := omega) only [arith, IntKind.bits, capMax, fill_len, elt_fill] | (with_reducible refine condI_beq (fun hq hqb => ?_) (fun hq hqb => ?_) <;> simp only [KP_mk, hqb]) | (with_reducible refine condI_bne (fun hq hqb => ?_) (fun hq hqb => ?_) <;> simp only [KP_mk, hqb]) | (with_reducible refine condI_dec (fun hq hqb => ?_) (fun hq hqb => ?_) <;> simp only [KP_mk, hqb]) | (with_reducible refine condI_b (fun hqb => ?_) (fun hqb => ?_) <;> simp only [KP_mk, hqb]) | refine RetO_calc Tryd.results10 ?_ | refine RetL_calc Tryd.results10 rfl ?_ | (refine Again.up (by omega) ?_ ?_) | exact trivial | (refine opCallI_rd (by simp only [go_sem, hku, hl, Ret_eq Tryd.results10]; first | done | rfl) (hc) (by rintro _ rfl; rfl) ?_; rintro _ rfl) | (refine opCallI_gv (by simp only [go_sem, hku, hl, Ret_eq Tryd.results10]; first | done | rfl) (hc) ?_; rintro _ rfl) | (refine opCallI_rd (by simp only [go_sem, hku, hl, Ret_eq Tryd.results10]; first | done | rfl) (nm) (by rintro _ rfl; rfl) ?_; rintro _ rfl) | (refine opCallI_gv (by simp only [go_sem, hku, hl, Ret_eq Tryd.results10]; first | done | rfl) (nm) ?_; rintro _ rfl) | (refine opCallI_ownGv (by simp only [go_sem, hku, hl, Ret_eq Tryd.results10]; first | done | rfl) (hp) ?_; rintro _ _ ⟨rfl, rfl⟩) | fail)
    all_goals first | rfl | (rw [List.take_of_length_le (by (try rw [List.length_append]); omega)])
end Go.Proofs.YtfmeiapglpphpaaDoor.T
