import Derived.Test.YtfmeiapglpphpaaDoorDAReadA1
import Derived.Test.YtfmeiapglpphpaaDoorDAReadA0
import Derived.Test.YtfmeiapglpphpaaDoorDAReadK
import Derived.Test.YtfmeiapglpphpaaDoorDAReadN
import Derived.Test.YtfmeiapglpphpaaDoorDAReadS
import Derived.Test.YtfmeiapglpphpaaDoorDAMath
set_option linter.unusedSimpArgs false
set_option linter.unusedVariables false
/- What is asked, read: all shapes. -/
namespace Go.Proofs.YtfmeiapglpphpaaDoor.T
open Go Go.VL Go.Proofs
set_option maxRecDepth 100000
set_option maxHeartbeats 8000000
theorem read18_own (b : List Int) (dim slots : Int) (ho : Octets b) (hbl : b.length ≤ 65536) : FunO Tryd.prog 9 [.lst (ints .u8 b), .v (.int .i64 dim), .v (.int .i64 slots)] (ReadR b dim slots) := by
  by_cases h : sizesOk dim slots
  · by_cases hf : 1 ≤ b.length ∧ kindOk (b.getD 0 0)
    · rcases shapes_five hf.2 with ⟨e1, e2, e3, e4⟩ | ⟨e1, e2, e3, e4⟩ | ⟨e1, e2, e3, e4⟩ | ⟨e1, e2, e3, e4⟩ | ⟨e1, e2, e3, e4⟩
      · exact read18_A1 b dim slots h hf.1 hbl ho hf.2 e1 e2 e3 e4
      · exact read18_A0 b dim slots h hf.1 hbl ho hf.2 e1 e2 e3 e4
      · exact read18_K b dim slots h hf.1 hbl ho hf.2 e1 e2 e3 e4
      · exact read18_N b dim slots h hf.1 hbl ho hf.2 e1 e2 e3 e4
      · exact read18_S b dim slots h hf.1 hbl ho hf.2 e1 e2 e3 e4
    · exact read18_head b dim slots ho h hf
  · exact read18_sizes b dim slots h
/-- What is read, where it may be read alone. -/
theorem read18_ok (b : List Int) (dim slots : Int) (ho : Octets b) (hbl : b.length ≤ 65536) (h : readErr b dim slots = 0) : Fun Tryd.prog 9 [.lst (ints .u8 b), .v (.int .i64 dim), .v (.int .i64 slots)] fun r =>
    r = .tup [askD (b.getD 0 0) (rId b) (rK b) (rSeed b) (rV b), .v (.int .i64 0)] := by
  refine (read18_own b dim slots ho hbl).toFun ?_
  rintro r o (⟨q, _, _⟩ | ⟨_, q, rfl, rfl⟩ | ⟨_, q, rfl, rfl⟩)
  · exact absurd h q
  · have := List.length_eq_zero_iff.1 q
    rw [this]; rfl
  · refine ⟨by simp only [go_sem], by simp only [go_sem], ?_⟩
    simp only [go_sem]
theorem read18_bad (b : List Int) (dim slots : Int) (ho : Octets b) (hbl : b.length ≤ 65536) (h : readErr b dim slots ≠ 0) : Fun Tryd.prog 9 [.lst (ints .u8 b), .v (.int .i64 dim), .v (.int .i64 slots)] fun r =>
    r = .tup [askD 0 0 0 0 [], .v (.int .i64 (readErr b dim slots))] := by
  refine (read18_own b dim slots ho hbl).toFun ?_
  rintro r o (⟨q, rfl, rfl⟩ | ⟨q, _⟩ | ⟨q, _⟩)
  · rfl
  · exact absurd q h
  · exact absurd q h

theorem askSame_fun (k id n s : Int) (v : List Int) (k2 id2 n2 s2 : Int) (v2 : List Int) : Fun Tryd.prog 18 [askD k id n s v, askD k2 id2 n2 s2 v2] fun r => r = .v (.bool (decide (k = k2 ∧ id = id2 ∧ n = n2 ∧ s = s2 ∧ v = v2))) := by
  have hvs := vecSame_fun v v2
  by_cases h1 : k = k2
  · by_cases h2 : id = id2
    · by_cases h3 : n = n2
      · by_cases h4 : s = s2
        · subst h1 h2 h3 h4
          have e : decide (k = k ∧ id = id ∧ n = n ∧ s = s ∧ v = v2) = decide (v = v2) := by simp
          rw [e]
          refine Fun.of_awpI Tryd.func18 rfl cal18 Tryd.ntmps18 (by simp) fun hwf => ?_
          simp only [D.wfs, D.wf, ints_length, ints_wfs, rows_length, rows_wfs, capMax, and_true, true_and] at hwf
          repeat' (first | simp only [go_sem, beq_self_eq_true, Ret_eq Tryd.results18] | simp (disch := omega) only [arith, IntKind.bits, capMax, fill_len, elt_fill] | (with_reducible refine condI_beq (fun hq hqb => ?_) (fun hq hqb => ?_) <;> simp only [KP_mk, hqb]) | (with_reducible refine condI_bne (fun hq hqb => ?_) (fun hq hqb => ?_) <;> simp only [KP_mk, hqb]) | (with_reducible refine condI_dec (fun hq hqb => ?_) (fun hq hqb => ?_) <;> simp only [KP_mk, hqb]) | (with_reducible refine condI_b (fun hqb => ?_) (fun hqb => ?_) <;> simp only [KP_mk, hqb]) | refine RetO_calc Tryd.results18 ?_ | refine RetL_calc Tryd.results18 rfl ?_ | (refine Again.up (by omega) ?_ ?_) | exact trivial | (refine opCallI_rd (by simp only [go_sem, beq_self_eq_true, Ret_eq Tryd.results18]; first | done | rfl) (hvs) (by rintro _ rfl; rfl) ?_; rintro _ rfl) | (refine opCallI_gv (by simp only [go_sem, beq_self_eq_true, Ret_eq Tryd.results18]; first | done | rfl) (hvs) ?_; rintro _ rfl) | fail)
        · have e : decide (k = k2 ∧ id = id2 ∧ n = n2 ∧ s = s2 ∧ v = v2) = false := decide_eq_false fun q => h4 q.2.2.2.1
          have hb : (s == s2) = false := beq_eq_false_iff_ne.2 h4
          rw [e]
          subst h1 h2 h3
          refine Fun.of_awpI Tryd.func18 rfl cal18 Tryd.ntmps18 (by simp) fun hwf => ?_
          simp only [D.wfs, D.wf, ints_length, ints_wfs, rows_length, rows_wfs, capMax, and_true, true_and] at hwf
          repeat' (first | simp only [go_sem, hb, beq_self_eq_true, Ret_eq Tryd.results18] | simp (disch := omega) only [arith, IntKind.bits, capMax, fill_len, elt_fill] | (with_reducible refine condI_beq (fun hq hqb => ?_) (fun hq hqb => ?_) <;> simp only [KP_mk, hqb]) | (with_reducible refine condI_bne (fun hq hqb => ?_) (fun hq hqb => ?_) <;> simp only [KP_mk, hqb]) | (with_reducible refine condI_dec (fun hq hqb => ?_) (fun hq hqb => ?_) <;> simp only [KP_mk, hqb]) | (with_reducible refine condI_b (fun hqb => ?_) (fun hqb => ?_) <;> simp only [KP_mk, hqb]) | refine RetO_calc Tryd.results18 ?_ | refine RetL_calc Tryd.results18 rfl ?_ | (refine Again.up (by omega) ?_ ?_) | exact trivial | fail)
      · have e : decide (k = k2 ∧ id = id2 ∧ n = n2 ∧ s = s2 ∧ v = v2) = false := decide_eq_false fun q => h3 q.2.2.1
        have hb : (n == n2) = false := beq_eq_false_iff_ne.2 h3
        rw [e]
        subst h1 h2
        refine Fun.of_awpI Tryd.func18 rfl cal18 Tryd.ntmps18 (by simp) fun hwf => ?_
        simp only [D.wfs, D.wf, ints_length, ints_wfs, rows_length, rows_wfs, capMax, and_true, true_and] at hwf
        repeat' (first | simp only [go_sem, hb, beq_self_eq_true, Ret_eq Tryd.results18] | simp (disch := omega) only [arith, IntKind.bits, capMax, fill_len, elt_fill] | (with_reducible refine condI_beq (fun hq hqb => ?_) (fun hq hqb => ?_) <;> simp only [KP_mk, hqb]) | (with_reducible refine condI_bne (fun hq hqb => ?_) (fun hq hqb => ?_) <;> simp only [KP_mk, hqb]) | (with_reducible refine condI_dec (fun hq hqb => ?_) (fun hq hqb => ?_) <;> simp only [KP_mk, hqb]) | (with_reducible refine condI_b (fun hqb => ?_) (fun hqb => ?_) <;> simp only [KP_mk, hqb]) | refine RetO_calc Tryd.results18 ?_ | refine RetL_calc Tryd.results18 rfl ?_ | (refine Again.up (by omega) ?_ ?_) | exact trivial | fail)
    · have e : decide (k = k2 ∧ id = id2 ∧ n = n2 ∧ s = s2 ∧ v = v2) = false := decide_eq_false fun q => h2 q.2.1
      have hb : (id == id2) = false := beq_eq_false_iff_ne.2 h2
      rw [e]
      subst h1
      refine Fun.of_awpI Tryd.func18 rfl cal18 Tryd.ntmps18 (by simp) fun hwf => ?_
      simp only [D.wfs, D.wf, ints_length, ints_wfs, rows_length, rows_wfs, capMax, and_true, true_and] at hwf
      repeat' (first | simp only [go_sem, hb, beq_self_eq_true, Ret_eq Tryd.results18] | simp (disch := omega) only [arith, IntKind.bits, capMax, fill_len, elt_fill] | (with_reducible refine condI_beq (fun hq hqb => ?_) (fun hq hqb => ?_) <;> simp only [KP_mk, hqb]) | (with_reducible refine condI_bne (fun hq hqb => ?_) (fun hq hqb => ?_) <;> simp only [KP_mk, hqb]) | (with_reducible refine condI_dec (fun hq hqb => ?_) (fun hq hqb => ?_) <;> simp only [KP_mk, hqb]) | (with_reducible refine condI_b (fun hqb => ?_) (fun hqb => ?_) <;> simp only [KP_mk, hqb]) | refine RetO_calc Tryd.results18 ?_ | refine RetL_calc Tryd.results18 rfl ?_ | (refine Again.up (by omega) ?_ ?_) | exact trivial | fail)
  · have e : decide (k = k2 ∧ id = id2 ∧ n = n2 ∧ s = s2 ∧ v = v2) = false := decide_eq_false fun q => h1 q.1
    have hb : (k == k2) = false := beq_eq_false_iff_ne.2 h1
    rw [e]
    refine Fun.of_awpI Tryd.func18 rfl cal18 Tryd.ntmps18 (by simp) fun hwf => ?_
    simp only [D.wfs, D.wf, ints_length, ints_wfs, rows_length, rows_wfs, capMax, and_true, true_and] at hwf
    repeat' (first | simp only [go_sem, hb, Ret_eq Tryd.results18] | simp (disch := omega) only [arith, IntKind.bits, capMax, fill_len, elt_fill] | (with_reducible refine condI_beq (fun hq hqb => ?_) (fun hq hqb => ?_) <;> simp only [KP_mk, hqb]) | (with_reducible refine condI_bne (fun hq hqb => ?_) (fun hq hqb => ?_) <;> simp only [KP_mk, hqb]) | (with_reducible refine condI_dec (fun hq hqb => ?_) (fun hq hqb => ?_) <;> simp only [KP_mk, hqb]) | (with_reducible refine condI_b (fun hqb => ?_) (fun hqb => ?_) <;> simp only [KP_mk, hqb]) | refine RetO_calc Tryd.results18 ?_ | refine RetL_calc Tryd.results18 rfl ?_ | (refine Again.up (by omega) ?_ ?_) | exact trivial | fail)

theorem writes18_fun (k : Int) : Fun Tryd.prog 16 [.v (.int .i64 k)] fun r => r = .v (.bool (decide (k = 1 ∨ k = 2 ∨ k = 3))) := by
  by_cases h1 : k = 1
  · rw [decide_eq_true (.inl h1)]
    refine Fun.of_awpI Tryd.func16 rfl cal16 Tryd.ntmps16 (by simp) fun hwf => ?_
    simp only [D.wfs, D.wf, ints_length, ints_wfs, rows_length, rows_wfs, capMax, and_true, true_and] at hwf
    repeat' (first | simp only [go_sem, h1, beq_self_eq_true, Ret_eq Tryd.results16] | simp (disch := omega) only [arith, IntKind.bits, capMax, fill_len, elt_fill] | (with_reducible refine condI_beq (fun hq hqb => ?_) (fun hq hqb => ?_) <;> simp only [KP_mk, hqb]) | (with_reducible refine condI_bne (fun hq hqb => ?_) (fun hq hqb => ?_) <;> simp only [KP_mk, hqb]) | (with_reducible refine condI_dec (fun hq hqb => ?_) (fun hq hqb => ?_) <;> simp only [KP_mk, hqb]) | (with_reducible refine condI_b (fun hqb => ?_) (fun hqb => ?_) <;> simp only [KP_mk, hqb]) | refine RetO_calc Tryd.results16 ?_ | refine RetL_calc Tryd.results16 rfl ?_ | (refine Again.up (by omega) ?_ ?_) | exact trivial | fail)
  · have b1 : (k == 1) = false := beq_eq_false_iff_ne.2 h1
    by_cases h2 : k = 2
    · rw [decide_eq_true (.inr (.inl h2))]
      subst h2
      refine Fun.of_awpI Tryd.func16 rfl cal16 Tryd.ntmps16 (by simp) fun hwf => ?_
      simp only [D.wfs, D.wf, ints_length, ints_wfs, rows_length, rows_wfs, capMax, and_true, true_and] at hwf
      repeat' (first | simp only [go_sem, beq_self_eq_true, Ret_eq Tryd.results16] | simp (disch := omega) only [arith, IntKind.bits, capMax, fill_len, elt_fill] | (with_reducible refine condI_beq (fun hq hqb => ?_) (fun hq hqb => ?_) <;> simp only [KP_mk, hqb]) | (with_reducible refine condI_bne (fun hq hqb => ?_) (fun hq hqb => ?_) <;> simp only [KP_mk, hqb]) | (with_reducible refine condI_dec (fun hq hqb => ?_) (fun hq hqb => ?_) <;> simp only [KP_mk, hqb]) | (with_reducible refine condI_b (fun hqb => ?_) (fun hqb => ?_) <;> simp only [KP_mk, hqb]) | refine RetO_calc Tryd.results16 ?_ | refine RetL_calc Tryd.results16 rfl ?_ | (refine Again.up (by omega) ?_ ?_) | exact trivial | fail)
    · have b2 : (k == 2) = false := beq_eq_false_iff_ne.2 h2
      by_cases h3 : k = 3
      · rw [decide_eq_true (.inr (.inr h3))]
        subst h3
        refine Fun.of_awpI Tryd.func16 rfl cal16 Tryd.ntmps16 (by simp) fun hwf => ?_
        simp only [D.wfs, D.wf, ints_length, ints_wfs, rows_length, rows_wfs, capMax, and_true, true_and] at hwf
        repeat' (first | simp only [go_sem, beq_self_eq_true, Ret_eq Tryd.results16] | simp (disch := omega) only [arith, IntKind.bits, capMax, fill_len, elt_fill] | (with_reducible refine condI_beq (fun hq hqb => ?_) (fun hq hqb => ?_) <;> simp only [KP_mk, hqb]) | (with_reducible refine condI_bne (fun hq hqb => ?_) (fun hq hqb => ?_) <;> simp only [KP_mk, hqb]) | (with_reducible refine condI_dec (fun hq hqb => ?_) (fun hq hqb => ?_) <;> simp only [KP_mk, hqb]) | (with_reducible refine condI_b (fun hqb => ?_) (fun hqb => ?_) <;> simp only [KP_mk, hqb]) | refine RetO_calc Tryd.results16 ?_ | refine RetL_calc Tryd.results16 rfl ?_ | (refine Again.up (by omega) ?_ ?_) | exact trivial | fail)
      · have b3 : (k == 3) = false := beq_eq_false_iff_ne.2 h3
        rw [decide_eq_false (by omega)]
        refine Fun.of_awpI Tryd.func16 rfl cal16 Tryd.ntmps16 (by simp) fun hwf => ?_
        simp only [D.wfs, D.wf, ints_length, ints_wfs, rows_length, rows_wfs, capMax, and_true, true_and] at hwf
        repeat' (first | simp only [go_sem, b1, b2, b3, Ret_eq Tryd.results16] | simp (disch := omega) only [arith, IntKind.bits, capMax, fill_len, elt_fill] | (with_reducible refine condI_beq (fun hq hqb => ?_) (fun hq hqb => ?_) <;> simp only [KP_mk, hqb]) | (with_reducible refine condI_bne (fun hq hqb => ?_) (fun hq hqb => ?_) <;> simp only [KP_mk, hqb]) | (with_reducible refine condI_dec (fun hq hqb => ?_) (fun hq hqb => ?_) <;> simp only [KP_mk, hqb]) | (with_reducible refine condI_b (fun hqb => ?_) (fun hqb => ?_) <;> simp only [KP_mk, hqb]) | refine RetO_calc Tryd.results16 ?_ | refine RetL_calc Tryd.results16 rfl ?_ | (refine Again.up (by omega) ?_ ?_) | exact trivial | fail)

theorem askLive_fun : Fun Tryd.prog 7 [] fun r => r = .v (.bool true) := by
  have he : readErr [3, 7, 0, 0, 0] 2 9 = 0 := by decide +kernel
  have hr : Fun Tryd.prog 9 [.lst [.v (.int .u8 3), .v (.int .u8 7), .v (.int .u8 0), .v (.int .u8 0), .v (.int .u8 0)], .v (.int .i64 2), .v (.int .i64 9)] fun r =>
      r = .tup [askD (([3, 7, 0, 0, 0] : List Int).getD 0 0) (rId [3, 7, 0, 0, 0]) (rK [3, 7, 0, 0, 0]) (rSeed [3, 7, 0, 0, 0]) (rV [3, 7, 0, 0, 0]), .v (.int .i64 0)] := read18_ok [3, 7, 0, 0, 0] 2 9 (by unfold Octets; decide) (by decide) he
  have e1 : rId [3, 7, 0, 0, 0] = 7 := by decide +kernel
  have e2 : rK [3, 7, 0, 0, 0] = 0 := by decide +kernel
  have e3 : rSeed [3, 7, 0, 0, 0] = 0 := by decide +kernel
  have e4 : rV [3, 7, 0, 0, 0] = [] := by decide +kernel
  have e0 : ([3, 7, 0, 0, 0] : List Int).getD 0 0 = 3 := rfl
  rw [e0, e1, e2, e3, e4] at hr
  have hw := writes18_fun 3
  have ew : decide ((3 : Int) = 1 ∨ (3 : Int) = 2 ∨ (3 : Int) = 3) = true := by decide
  rw [ew] at hw
  refine Fun.of_awpI Tryd.func7 rfl cal7 Tryd.ntmps7 (by simp) fun hwf => ?_
  simp only [D.wfs, D.wf, ints_length, ints_wfs, rows_length, rows_wfs, capMax, and_true, true_and] at hwf
  repeat' (first | simp only [go_sem, ints_nil, beq_self_eq_true, Ret_eq Tryd.results7] | simp (disch := omega) only [arith, IntKind.bits, capMax, fill_len, elt_fill] | (with_reducible refine condI_beq (fun hq hqb => ?_) (fun hq hqb => ?_) <;> simp only [KP_mk, hqb]) | (with_reducible refine condI_bne (fun hq hqb => ?_) (fun hq hqb => ?_) <;> simp only [KP_mk, hqb]) | (with_reducible refine condI_dec (fun hq hqb => ?_) (fun hq hqb => ?_) <;> simp only [KP_mk, hqb]) | (with_reducible refine condI_b (fun hqb => ?_) (fun hqb => ?_) <;> simp only [KP_mk, hqb]) | refine RetO_calc Tryd.results7 ?_ | refine RetL_calc Tryd.results7 rfl ?_ | (refine Again.up (by omega) ?_ ?_) | exact trivial | (refine opCallI_rd (by simp only [go_sem, ints_nil, beq_self_eq_true, Ret_eq Tryd.results7]; first | done | rfl) (hr) (by rintro _ rfl; rfl) ?_; rintro _ rfl) | (refine opCallI_gv (by simp only [go_sem, ints_nil, beq_self_eq_true, Ret_eq Tryd.results7]; first | done | rfl) (hr) ?_; rintro _ rfl) | (refine opCallI_rd (by simp only [go_sem, ints_nil, beq_self_eq_true, Ret_eq Tryd.results7]; first | done | rfl) (hw) (by rintro _ rfl; rfl) ?_; rintro _ rfl) | (refine opCallI_gv (by simp only [go_sem, ints_nil, beq_self_eq_true, Ret_eq Tryd.results7]; first | done | rfl) (hw) ?_; rintro _ rfl) | fail)
end Go.Proofs.YtfmeiapglpphpaaDoor.T
