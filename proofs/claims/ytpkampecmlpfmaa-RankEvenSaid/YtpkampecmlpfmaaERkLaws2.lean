import Derived.Test.YtpkampecmlpfmaaLE
import Derived.Test.YtpkampecmlpfmaaERkLaws
set_option linter.unusedSimpArgs false
set_option linter.unusedVariables false
/- Laws on ranks, over what slices.Sorted does: half as many cells; counts. -/
namespace Go.Proofs.Ytpkampecmlpfmaa.T
open Go Go.VL Go.Proofs
set_option maxRecDepth 100000
set_option maxHeartbeats 8000000

theorem rankFewer_law (hS : Sorted16) (l : List Int) (cells : Int) : Fun Try.prog 4 [.lst (ints .i16 l), .v (.int .i64 cells)] fun r => r = .v (.bool true) := by
  have hlv := rkLive_fun hS
  by_cases g1 : l.length ≤ 600
  · by_cases g2 : 1 ≤ cells
    · by_cases g3 : cells ≤ 8
      · have h1 := rkCuts_fun hS l cells (by omega)
        have h2 := rkCuts_fun hS l (2 * cells) (by omega)
        rw [rkE_twice ⟨g2, g3⟩] at h2
        by_cases h : rkE l cells = 0
        · obtain ⟨n, rfl⟩ := Int.eq_ofNat_of_zero_le (show 0 ≤ cells by omega)
          have e1 : rkOut l (n : Int) = cutsL l n := by unfold rkOut; rw [if_pos h, Int.toNat_natCast]
          have e2 : rkOut l (2 * (n : Int)) = cutsL l (2 * n) := by
            unfold rkOut; rw [rkE_twice ⟨g2, g3⟩, if_pos h]
            congr 1
          rw [e1, h] at h1
          rw [e2, h] at h2
          have l1 := cutsL_length (l := l) (n := n)
          have l2 := cutsL_length (l := l) (n := 2 * n)
          have b1 : ((2 * n - 1 : Nat) : Int) = 2 * (n : Int) - 1 := by omega
          have b2 : ((n - 1 : Nat) : Int) = (n : Int) - 1 := by omega
          have hc := fun i => cutsL_twice (l := l) (n := n) (i := i)
          generalize cutsL l (2 * n) = M at *
          generalize cutsL l n = F at *
          refine Fun.of_awpI Try.func4 rfl cal4 Try.ntmps4 (by simp) fun hwf => ?_
          simp only [D.wfs, D.wf, ints_length, ints_wfs, rows_length, rows_wfs, capMax, and_true, true_and] at hwf
          repeat' (first | simp only [go_sem, beq_self_eq_true, bne_self_eq_false, l1, l2, b1, b2, Ret_eq Try.results4] | simp (disch := omega) only [arith, IntKind.bits, capMax, fill_len, elt_fill] | (with_reducible refine condI_beq (fun hq hqb => ?_) (fun hq hqb => ?_) <;> simp only [KP_mk, hqb]) | (with_reducible refine condI_bne (fun hq hqb => ?_) (fun hq hqb => ?_) <;> simp only [KP_mk, hqb]) | (with_reducible refine condI_dec (fun hq hqb => ?_) (fun hq hqb => ?_) <;> simp only [KP_mk, hqb]) | (with_reducible refine condI_b (fun hqb => ?_) (fun hqb => ?_) <;> simp only [KP_mk, hqb]) | refine RetO_calc Try.results4 ?_ | refine RetL_calc Try.results4 rfl ?_ | (refine Again.up (by omega) ?_ ?_) | exact trivial | (refine opCallI_rd (by simp only [go_sem, beq_self_eq_true, bne_self_eq_false, l1, l2, b1, b2, Ret_eq Try.results4]; first | done | rfl) (hlv) (by rintro _ rfl; rfl) ?_; rintro _ rfl) | (refine opCallI_gv (by simp only [go_sem, beq_self_eq_true, bne_self_eq_false, l1, l2, b1, b2, Ret_eq Try.results4]; first | done | rfl) (hlv) ?_; rintro _ rfl) | (refine opCallI_rd (by simp only [go_sem, beq_self_eq_true, bne_self_eq_false, l1, l2, b1, b2, Ret_eq Try.results4]; first | done | rfl) (h1) (by rintro _ rfl; rfl) ?_; rintro _ rfl) | (refine opCallI_gv (by simp only [go_sem, beq_self_eq_true, bne_self_eq_false, l1, l2, b1, b2, Ret_eq Try.results4]; first | done | rfl) (h1) ?_; rintro _ rfl) | (refine opCallI_rd (by simp only [go_sem, beq_self_eq_true, bne_self_eq_false, l1, l2, b1, b2, Ret_eq Try.results4]; first | done | rfl) (h2) (by rintro _ rfl; rfl) ?_; rintro _ rfl) | (refine opCallI_gv (by simp only [go_sem, beq_self_eq_true, bne_self_eq_false, l1, l2, b1, b2, Ret_eq Try.results4]; first | done | rfl) (h2) ?_; rintro _ rfl) | fail)
          refine awpI_for (n - 1) (fun k => True) (fun k => [(67, .v (.int .i64 k))]) (fun _ => []) [5, 8, 65, 66] [] _ (Weak.refl _) trivial ?_ ?_ ?_
          · simp only [go_sem, Ret_eq Try.results4]
          · simp only [go_sem, Ret_eq Try.results4]
          · intro k s hk _ hs
            simp only [go_sem, Ret_eq Try.results4] at hs
            by_cases hka : k < n - 1
            · have hck := hc k hka
              have e3 : (2 : Int) * (k : Int) + 1 = ((2 * k + 1 : Nat) : Int) := by omega
              repeat' (first | simp only [go_sem, hs, e3, hck, l1, l2, bne_self_eq_false, Ret_eq Try.results4] | simp (disch := omega) only [arith, IntKind.bits, capMax, fill_len, elt_fill] | (with_reducible refine condI_beq (fun hq hqb => ?_) (fun hq hqb => ?_) <;> simp only [KP_mk, hqb]) | (with_reducible refine condI_bne (fun hq hqb => ?_) (fun hq hqb => ?_) <;> simp only [KP_mk, hqb]) | (with_reducible refine condI_dec (fun hq hqb => ?_) (fun hq hqb => ?_) <;> simp only [KP_mk, hqb]) | (with_reducible refine condI_b (fun hqb => ?_) (fun hqb => ?_) <;> simp only [KP_mk, hqb]) | refine RetO_calc Try.results4 ?_ | refine RetL_calc Try.results4 rfl ?_ | (refine Again.up (by omega) ?_ ?_) | exact trivial | fail)
            · obtain rfl : k = n - 1 := by omega
              repeat' (first | simp only [go_sem, hs, l1, b2, Ret_eq Try.results4] | simp (disch := omega) only [arith, IntKind.bits, capMax, fill_len, elt_fill] | (with_reducible refine condI_beq (fun hq hqb => ?_) (fun hq hqb => ?_) <;> simp only [KP_mk, hqb]) | (with_reducible refine condI_bne (fun hq hqb => ?_) (fun hq hqb => ?_) <;> simp only [KP_mk, hqb]) | (with_reducible refine condI_dec (fun hq hqb => ?_) (fun hq hqb => ?_) <;> simp only [KP_mk, hqb]) | (with_reducible refine condI_b (fun hqb => ?_) (fun hqb => ?_) <;> simp only [KP_mk, hqb]) | refine RetO_calc Try.results4 ?_ | refine RetL_calc Try.results4 rfl ?_ | (refine Again.up (by omega) ?_ ?_) | exact trivial | fail)
        · have e1 : rkOut l cells = [] := if_neg h
          rw [e1, ints_nil] at h1
          have hb : (rkE l cells == 0) = false := beq_eq_false_iff_ne.2 h
          have hb2 : (rkE l cells != 0) = true := by rw [bne, hb]; rfl
          generalize rkE l cells = E at *
          generalize rkOut l (2 * cells) = O at *
          refine Fun.of_awpI Try.func4 rfl cal4 Try.ntmps4 (by simp) fun hwf => ?_
          simp only [D.wfs, D.wf, ints_length, ints_wfs, rows_length, rows_wfs, capMax, and_true, true_and] at hwf
          repeat' (first | simp only [go_sem, beq_self_eq_true, hb, hb2, Ret_eq Try.results4] | simp (disch := omega) only [arith, IntKind.bits, capMax, fill_len, elt_fill] | (with_reducible refine condI_beq (fun hq hqb => ?_) (fun hq hqb => ?_) <;> simp only [KP_mk, hqb]) | (with_reducible refine condI_bne (fun hq hqb => ?_) (fun hq hqb => ?_) <;> simp only [KP_mk, hqb]) | (with_reducible refine condI_dec (fun hq hqb => ?_) (fun hq hqb => ?_) <;> simp only [KP_mk, hqb]) | (with_reducible refine condI_b (fun hqb => ?_) (fun hqb => ?_) <;> simp only [KP_mk, hqb]) | refine RetO_calc Try.results4 ?_ | refine RetL_calc Try.results4 rfl ?_ | (refine Again.up (by omega) ?_ ?_) | exact trivial | (refine opCallI_rd (by simp only [go_sem, beq_self_eq_true, hb, hb2, Ret_eq Try.results4]; first | done | rfl) (hlv) (by rintro _ rfl; rfl) ?_; rintro _ rfl) | (refine opCallI_gv (by simp only [go_sem, beq_self_eq_true, hb, hb2, Ret_eq Try.results4]; first | done | rfl) (hlv) ?_; rintro _ rfl) | (refine opCallI_rd (by simp only [go_sem, beq_self_eq_true, hb, hb2, Ret_eq Try.results4]; first | done | rfl) (h1) (by rintro _ rfl; rfl) ?_; rintro _ rfl) | (refine opCallI_gv (by simp only [go_sem, beq_self_eq_true, hb, hb2, Ret_eq Try.results4]; first | done | rfl) (h1) ?_; rintro _ rfl) | (refine opCallI_rd (by simp only [go_sem, beq_self_eq_true, hb, hb2, Ret_eq Try.results4]; first | done | rfl) (h2) (by rintro _ rfl; rfl) ?_; rintro _ rfl) | (refine opCallI_gv (by simp only [go_sem, beq_self_eq_true, hb, hb2, Ret_eq Try.results4]; first | done | rfl) (h2) ?_; rintro _ rfl) | fail)
      · skip
        refine Fun.of_awpI Try.func4 rfl cal4 Try.ntmps4 (by simp) fun hwf => ?_
        simp only [D.wfs, D.wf, ints_length, ints_wfs, rows_length, rows_wfs, capMax, and_true, true_and] at hwf
        repeat' (first | simp only [go_sem, Ret_eq Try.results4] | simp (disch := omega) only [arith, IntKind.bits, capMax, fill_len, elt_fill] | (with_reducible refine condI_beq (fun hq hqb => ?_) (fun hq hqb => ?_) <;> simp only [KP_mk, hqb]) | (with_reducible refine condI_bne (fun hq hqb => ?_) (fun hq hqb => ?_) <;> simp only [KP_mk, hqb]) | (with_reducible refine condI_dec (fun hq hqb => ?_) (fun hq hqb => ?_) <;> simp only [KP_mk, hqb]) | (with_reducible refine condI_b (fun hqb => ?_) (fun hqb => ?_) <;> simp only [KP_mk, hqb]) | refine RetO_calc Try.results4 ?_ | refine RetL_calc Try.results4 rfl ?_ | (refine Again.up (by omega) ?_ ?_) | exact trivial | (refine opCallI_rd (by simp only [go_sem, Ret_eq Try.results4]; first | done | rfl) (hlv) (by rintro _ rfl; rfl) ?_; rintro _ rfl) | (refine opCallI_gv (by simp only [go_sem, Ret_eq Try.results4]; first | done | rfl) (hlv) ?_; rintro _ rfl) | fail)
    · skip
      refine Fun.of_awpI Try.func4 rfl cal4 Try.ntmps4 (by simp) fun hwf => ?_
      simp only [D.wfs, D.wf, ints_length, ints_wfs, rows_length, rows_wfs, capMax, and_true, true_and] at hwf
      repeat' (first | simp only [go_sem, Ret_eq Try.results4] | simp (disch := omega) only [arith, IntKind.bits, capMax, fill_len, elt_fill] | (with_reducible refine condI_beq (fun hq hqb => ?_) (fun hq hqb => ?_) <;> simp only [KP_mk, hqb]) | (with_reducible refine condI_bne (fun hq hqb => ?_) (fun hq hqb => ?_) <;> simp only [KP_mk, hqb]) | (with_reducible refine condI_dec (fun hq hqb => ?_) (fun hq hqb => ?_) <;> simp only [KP_mk, hqb]) | (with_reducible refine condI_b (fun hqb => ?_) (fun hqb => ?_) <;> simp only [KP_mk, hqb]) | refine RetO_calc Try.results4 ?_ | refine RetL_calc Try.results4 rfl ?_ | (refine Again.up (by omega) ?_ ?_) | exact trivial | (refine opCallI_rd (by simp only [go_sem, Ret_eq Try.results4]; first | done | rfl) (hlv) (by rintro _ rfl; rfl) ?_; rintro _ rfl) | (refine opCallI_gv (by simp only [go_sem, Ret_eq Try.results4]; first | done | rfl) (hlv) ?_; rintro _ rfl) | fail)
  · skip
    refine Fun.of_awpI Try.func4 rfl cal4 Try.ntmps4 (by simp) fun hwf => ?_
    simp only [D.wfs, D.wf, ints_length, ints_wfs, rows_length, rows_wfs, capMax, and_true, true_and] at hwf
    repeat' (first | simp only [go_sem, Ret_eq Try.results4] | simp (disch := omega) only [arith, IntKind.bits, capMax, fill_len, elt_fill] | (with_reducible refine condI_beq (fun hq hqb => ?_) (fun hq hqb => ?_) <;> simp only [KP_mk, hqb]) | (with_reducible refine condI_bne (fun hq hqb => ?_) (fun hq hqb => ?_) <;> simp only [KP_mk, hqb]) | (with_reducible refine condI_dec (fun hq hqb => ?_) (fun hq hqb => ?_) <;> simp only [KP_mk, hqb]) | (with_reducible refine condI_b (fun hqb => ?_) (fun hqb => ?_) <;> simp only [KP_mk, hqb]) | refine RetO_calc Try.results4 ?_ | refine RetL_calc Try.results4 rfl ?_ | (refine Again.up (by omega) ?_ ?_) | exact trivial | (refine opCallI_rd (by simp only [go_sem, Ret_eq Try.results4]; first | done | rfl) (hlv) (by rintro _ rfl; rfl) ?_; rintro _ rfl) | (refine opCallI_gv (by simp only [go_sem, Ret_eq Try.results4]; first | done | rfl) (hlv) ?_; rintro _ rfl) | fail)

theorem rankCounts_law (hS : Sorted16) (c l m : List Int) : Fun Try.prog 7 [.lst (ints .i16 c), .lst (ints .i16 l), .lst (ints .i16 m)] fun r => r = .v (.bool true) := by
  have hlv := rkLive_fun hS
  by_cases g1 : c.length ≤ 300
  · by_cases g2 : l.length ≤ 600
    · by_cases g3 : m.length ≤ 600
      · have h1 := count_fun c l (by omega) (by omega)
        have h2 := count_fun c m (by omega) (by omega)
        have hlm : (l ++ m).length = l.length + m.length := List.length_append
        have h3 := count_fun c (l ++ m) (by omega) (by omega)
        have hE := cntE_append (c := c) g2 g3
        by_cases q1 : cntE c l = 0
        · by_cases q2 : cntE c m = 0
          · have q3 := hE.2 ⟨q1, q2⟩
            rw [q1, show cntOut c l = cntL c l from if_pos q1] at h1
            rw [q2, show cntOut c m = cntL c m from if_pos q2] at h2
            rw [q3, show cntOut c (l ++ m) = cntL c (l ++ m) from if_pos q3] at h3
            have n1 := cntL_length (c := c) (l := l)
            have n2 := cntL_length (c := c) (l := m)
            have n3 := cntL_length (c := c) (l := l ++ m)
            have hadd := fun i => cntL_add (c := c) (l := l) (m := m) (i := i)
            have hall := sumTo_all (c := c) (l := l ++ m)
            have hbd := fun k => sumTo_bound (c := c) (l := l ++ m) (k := k)
            have hr1 : ∀ k, k < c.length + 1 → 0 ≤ (cntL c l).getD k 0 ∧ (cntL c l).getD k 0 ≤ 600 := fun k hk => by
              rw [cntL_at hk]; have := List.countP_le_length (p := fun x => cellOf c x == k) (l := l); omega
            have hr2 : ∀ k, k < c.length + 1 → 0 ≤ (cntL c m).getD k 0 ∧ (cntL c m).getD k 0 ≤ 600 := fun k hk => by
              rw [cntL_at hk]; have := List.countP_le_length (p := fun x => cellOf c x == k) (l := m); omega
            clear hE
            generalize cntL c (l ++ m) = C3 at *
            generalize cntL c l = C1 at *
            generalize cntL c m = C2 at *
            refine Fun.of_awpI Try.func7 rfl cal7 Try.ntmps7 (by simp) fun hwf => ?_
            simp only [D.wfs, D.wf, ints_length, ints_wfs, rows_length, rows_wfs, capMax, and_true, true_and] at hwf
            repeat' (first | simp only [go_sem, beq_self_eq_true, bne_self_eq_false, n1, n2, n3, List.nil_append, Ret_eq Try.results7] | simp (disch := omega) only [arith, IntKind.bits, capMax, fill_len, elt_fill] | (with_reducible refine condI_beq (fun hq hqb => ?_) (fun hq hqb => ?_) <;> simp only [KP_mk, hqb]) | (with_reducible refine condI_bne (fun hq hqb => ?_) (fun hq hqb => ?_) <;> simp only [KP_mk, hqb]) | (with_reducible refine condI_dec (fun hq hqb => ?_) (fun hq hqb => ?_) <;> simp only [KP_mk, hqb]) | (with_reducible refine condI_b (fun hqb => ?_) (fun hqb => ?_) <;> simp only [KP_mk, hqb]) | refine RetO_calc Try.results7 ?_ | refine RetL_calc Try.results7 rfl ?_ | (refine awpI_draw2 (id := 16) (.one false 0 (.one false 1 (.one false 2 (.one false 3 (.one false 4 (.one false 5 (.one false 6 (.one false 7 (.one false 8 (.one false 9 (.one false 10 (.one false 11 (.one false 12 (.one false 13 (.one false 14 (.one false 15 (.one false 16 (.one false 17 (.one false 18 (.one false 19 (.one false 20 (.one false 21 (.one false 22 .done))))))))))))))))))))))) mixed (by decide +kernel) (by decide +kernel) ?_) | (refine Again.up (by omega) ?_ ?_) | exact trivial | (refine opCallI_rd (by simp only [go_sem, beq_self_eq_true, bne_self_eq_false, n1, n2, n3, List.nil_append, Ret_eq Try.results7]; first | done | rfl) (hlv) (by rintro _ rfl; rfl) ?_; rintro _ rfl) | (refine opCallI_gv (by simp only [go_sem, beq_self_eq_true, bne_self_eq_false, n1, n2, n3, List.nil_append, Ret_eq Try.results7]; first | done | rfl) (hlv) ?_; rintro _ rfl) | (refine opCallI_rd (by simp only [go_sem, beq_self_eq_true, bne_self_eq_false, n1, n2, n3, List.nil_append, Ret_eq Try.results7]; first | done | rfl) (h1) (by rintro _ rfl; rfl) ?_; rintro _ rfl) | (refine opCallI_gv (by simp only [go_sem, beq_self_eq_true, bne_self_eq_false, n1, n2, n3, List.nil_append, Ret_eq Try.results7]; first | done | rfl) (h1) ?_; rintro _ rfl) | (refine opCallI_rd (by simp only [go_sem, beq_self_eq_true, bne_self_eq_false, n1, n2, n3, List.nil_append, Ret_eq Try.results7]; first | done | rfl) (h2) (by rintro _ rfl; rfl) ?_; rintro _ rfl) | (refine opCallI_gv (by simp only [go_sem, beq_self_eq_true, bne_self_eq_false, n1, n2, n3, List.nil_append, Ret_eq Try.results7]; first | done | rfl) (h2) ?_; rintro _ rfl) | (refine opCallI_rd (by simp only [go_sem, beq_self_eq_true, bne_self_eq_false, n1, n2, n3, List.nil_append, Ret_eq Try.results7]; first | done | rfl) (h3) (by rintro _ rfl; rfl) ?_; rintro _ rfl) | (refine opCallI_gv (by simp only [go_sem, beq_self_eq_true, bne_self_eq_false, n1, n2, n3, List.nil_append, Ret_eq Try.results7]; first | done | rfl) (h3) ?_; rintro _ rfl) | fail)
            refine awpI_for (c.length + 1) (fun k => True) (fun k => [(14, .v (.int .i64 (sumTo C3 k))), (68, .v (.int .i64 k))]) (fun _ => []) [0, 1, 2, 7, 8, 10, 12, 13, 66, 67] [] _ (Weak.refl _) trivial ?_ ?_ ?_
            · simp only [go_sem, sumTo, Ret_eq Try.results7]
            · simp only [go_sem, Ret_eq Try.results7]
            · intro k s hk _ hs
              simp only [go_sem, Ret_eq Try.results7] at hs
              by_cases hka : k < c.length + 1
              · have e1 : sumTo C3 (k + 1) = sumTo C3 k + C3.getD k 0 := rfl
                have b1 := hbd (k + 1) (by omega)
                have b0 := hbd k (by omega)
                have b2 := hr1 k hka
                have b3 := hr2 k hka
                have e2 := hadd k hka
                rw [hlm] at b1 b0
                rw [e1] at b1
                have e3 : (C3.getD k 0 == C1.getD k 0 + C2.getD k 0) = true := beq_iff_eq.2 e2
                have e4 : (C3.getD k 0 != C1.getD k 0 + C2.getD k 0) = false := by rw [bne, e3]; rfl
                repeat' (first | simp only [go_sem, hs, n1, n2, n3, e1, e3, e4, Ret_eq Try.results7] | simp (disch := omega) only [arith, IntKind.bits, capMax, fill_len, elt_fill] | (with_reducible refine condI_beq (fun hq hqb => ?_) (fun hq hqb => ?_) <;> simp only [KP_mk, hqb]) | (with_reducible refine condI_bne (fun hq hqb => ?_) (fun hq hqb => ?_) <;> simp only [KP_mk, hqb]) | (with_reducible refine condI_dec (fun hq hqb => ?_) (fun hq hqb => ?_) <;> simp only [KP_mk, hqb]) | (with_reducible refine condI_b (fun hqb => ?_) (fun hqb => ?_) <;> simp only [KP_mk, hqb]) | refine RetO_calc Try.results7 ?_ | refine RetL_calc Try.results7 rfl ?_ | (refine awpI_draw2 (id := 16) (.one false 0 (.one false 1 (.one false 2 (.one false 3 (.one false 4 (.one false 5 (.one false 6 (.one false 7 (.one false 8 (.one false 9 (.one false 10 (.one false 11 (.one false 12 (.one false 13 (.one false 14 (.one false 15 (.one false 16 (.one false 17 (.one false 18 (.one false 19 (.one false 20 (.one false 21 (.one false 22 .done))))))))))))))))))))))) mixed (by decide +kernel) (by decide +kernel) ?_) | (refine Again.up (by omega) ?_ ?_) | exact trivial | fail)
              · obtain rfl : k = c.length + 1 := by omega
                have e5 : ((l.length + m.length : Nat) : Int) = (l.length : Int) + (m.length : Int) := Int.natCast_add _ _
                rw [hall, hlm] at hs
                repeat' (first | simp only [go_sem, hs, n3, e5, beq_self_eq_true, Ret_eq Try.results7] | simp (disch := omega) only [arith, IntKind.bits, capMax, fill_len, elt_fill] | (with_reducible refine condI_beq (fun hq hqb => ?_) (fun hq hqb => ?_) <;> simp only [KP_mk, hqb]) | (with_reducible refine condI_bne (fun hq hqb => ?_) (fun hq hqb => ?_) <;> simp only [KP_mk, hqb]) | (with_reducible refine condI_dec (fun hq hqb => ?_) (fun hq hqb => ?_) <;> simp only [KP_mk, hqb]) | (with_reducible refine condI_b (fun hqb => ?_) (fun hqb => ?_) <;> simp only [KP_mk, hqb]) | refine RetO_calc Try.results7 ?_ | refine RetL_calc Try.results7 rfl ?_ | (refine awpI_draw2 (id := 16) (.one false 0 (.one false 1 (.one false 2 (.one false 3 (.one false 4 (.one false 5 (.one false 6 (.one false 7 (.one false 8 (.one false 9 (.one false 10 (.one false 11 (.one false 12 (.one false 13 (.one false 14 (.one false 15 (.one false 16 (.one false 17 (.one false 18 (.one false 19 (.one false 20 (.one false 21 (.one false 22 .done))))))))))))))))))))))) mixed (by decide +kernel) (by decide +kernel) ?_) | (refine Again.up (by omega) ?_ ?_) | exact trivial | fail)
          · have q3 : cntE c (l ++ m) ≠ 0 := fun z => q2 (hE.1 z).2
            have hb2 : (cntE c m == 0) = false := beq_eq_false_iff_ne.2 q2
            have hb3 : (cntE c (l ++ m) == 0) = false := beq_eq_false_iff_ne.2 q3
            rw [q1] at h1
            generalize cntE c m = E2 at *
            generalize cntE c (l ++ m) = E3 at *
            refine Fun.of_awpI Try.func7 rfl cal7 Try.ntmps7 (by simp) fun hwf => ?_
            simp only [D.wfs, D.wf, ints_length, ints_wfs, rows_length, rows_wfs, capMax, and_true, true_and] at hwf
            repeat' (first | simp only [go_sem, beq_self_eq_true, hb2, hb3, List.nil_append, Ret_eq Try.results7] | simp (disch := omega) only [arith, IntKind.bits, capMax, fill_len, elt_fill] | (with_reducible refine condI_beq (fun hq hqb => ?_) (fun hq hqb => ?_) <;> simp only [KP_mk, hqb]) | (with_reducible refine condI_bne (fun hq hqb => ?_) (fun hq hqb => ?_) <;> simp only [KP_mk, hqb]) | (with_reducible refine condI_dec (fun hq hqb => ?_) (fun hq hqb => ?_) <;> simp only [KP_mk, hqb]) | (with_reducible refine condI_b (fun hqb => ?_) (fun hqb => ?_) <;> simp only [KP_mk, hqb]) | refine RetO_calc Try.results7 ?_ | refine RetL_calc Try.results7 rfl ?_ | (refine awpI_draw2 (id := 16) (.one false 0 (.one false 1 (.one false 2 (.one false 3 (.one false 4 (.one false 5 (.one false 6 (.one false 7 (.one false 8 (.one false 9 (.one false 10 (.one false 11 (.one false 12 (.one false 13 (.one false 14 (.one false 15 (.one false 16 (.one false 17 (.one false 18 (.one false 19 (.one false 20 (.one false 21 (.one false 22 .done))))))))))))))))))))))) mixed (by decide +kernel) (by decide +kernel) ?_) | (refine Again.up (by omega) ?_ ?_) | exact trivial | (refine opCallI_rd (by simp only [go_sem, beq_self_eq_true, hb2, hb3, List.nil_append, Ret_eq Try.results7]; first | done | rfl) (hlv) (by rintro _ rfl; rfl) ?_; rintro _ rfl) | (refine opCallI_gv (by simp only [go_sem, beq_self_eq_true, hb2, hb3, List.nil_append, Ret_eq Try.results7]; first | done | rfl) (hlv) ?_; rintro _ rfl) | (refine opCallI_rd (by simp only [go_sem, beq_self_eq_true, hb2, hb3, List.nil_append, Ret_eq Try.results7]; first | done | rfl) (h1) (by rintro _ rfl; rfl) ?_; rintro _ rfl) | (refine opCallI_gv (by simp only [go_sem, beq_self_eq_true, hb2, hb3, List.nil_append, Ret_eq Try.results7]; first | done | rfl) (h1) ?_; rintro _ rfl) | (refine opCallI_rd (by simp only [go_sem, beq_self_eq_true, hb2, hb3, List.nil_append, Ret_eq Try.results7]; first | done | rfl) (h2) (by rintro _ rfl; rfl) ?_; rintro _ rfl) | (refine opCallI_gv (by simp only [go_sem, beq_self_eq_true, hb2, hb3, List.nil_append, Ret_eq Try.results7]; first | done | rfl) (h2) ?_; rintro _ rfl) | (refine opCallI_rd (by simp only [go_sem, beq_self_eq_true, hb2, hb3, List.nil_append, Ret_eq Try.results7]; first | done | rfl) (h3) (by rintro _ rfl; rfl) ?_; rintro _ rfl) | (refine opCallI_gv (by simp only [go_sem, beq_self_eq_true, hb2, hb3, List.nil_append, Ret_eq Try.results7]; first | done | rfl) (h3) ?_; rintro _ rfl) | fail)
            rw [bne, hb3]; rfl
        · have q3 : cntE c (l ++ m) ≠ 0 := fun z => q1 (hE.1 z).1
          have hb1 : (cntE c l == 0) = false := beq_eq_false_iff_ne.2 q1
          have hb3 : (cntE c (l ++ m) == 0) = false := beq_eq_false_iff_ne.2 q3
          generalize cntE c l = E1 at *
          generalize cntE c m = E2 at *
          generalize cntE c (l ++ m) = E3 at *
          refine Fun.of_awpI Try.func7 rfl cal7 Try.ntmps7 (by simp) fun hwf => ?_
          simp only [D.wfs, D.wf, ints_length, ints_wfs, rows_length, rows_wfs, capMax, and_true, true_and] at hwf
          repeat' (first | simp only [go_sem, beq_self_eq_true, hb1, hb3, List.nil_append, Ret_eq Try.results7] | simp (disch := omega) only [arith, IntKind.bits, capMax, fill_len, elt_fill] | (with_reducible refine condI_beq (fun hq hqb => ?_) (fun hq hqb => ?_) <;> simp only [KP_mk, hqb]) | (with_reducible refine condI_bne (fun hq hqb => ?_) (fun hq hqb => ?_) <;> simp only [KP_mk, hqb]) | (with_reducible refine condI_dec (fun hq hqb => ?_) (fun hq hqb => ?_) <;> simp only [KP_mk, hqb]) | (with_reducible refine condI_b (fun hqb => ?_) (fun hqb => ?_) <;> simp only [KP_mk, hqb]) | refine RetO_calc Try.results7 ?_ | refine RetL_calc Try.results7 rfl ?_ | (refine awpI_draw2 (id := 16) (.one false 0 (.one false 1 (.one false 2 (.one false 3 (.one false 4 (.one false 5 (.one false 6 (.one false 7 (.one false 8 (.one false 9 (.one false 10 (.one false 11 (.one false 12 (.one false 13 (.one false 14 (.one false 15 (.one false 16 (.one false 17 (.one false 18 (.one false 19 (.one false 20 (.one false 21 (.one false 22 .done))))))))))))))))))))))) mixed (by decide +kernel) (by decide +kernel) ?_) | (refine Again.up (by omega) ?_ ?_) | exact trivial | (refine opCallI_rd (by simp only [go_sem, beq_self_eq_true, hb1, hb3, List.nil_append, Ret_eq Try.results7]; first | done | rfl) (hlv) (by rintro _ rfl; rfl) ?_; rintro _ rfl) | (refine opCallI_gv (by simp only [go_sem, beq_self_eq_true, hb1, hb3, List.nil_append, Ret_eq Try.results7]; first | done | rfl) (hlv) ?_; rintro _ rfl) | (refine opCallI_rd (by simp only [go_sem, beq_self_eq_true, hb1, hb3, List.nil_append, Ret_eq Try.results7]; first | done | rfl) (h1) (by rintro _ rfl; rfl) ?_; rintro _ rfl) | (refine opCallI_gv (by simp only [go_sem, beq_self_eq_true, hb1, hb3, List.nil_append, Ret_eq Try.results7]; first | done | rfl) (h1) ?_; rintro _ rfl) | (refine opCallI_rd (by simp only [go_sem, beq_self_eq_true, hb1, hb3, List.nil_append, Ret_eq Try.results7]; first | done | rfl) (h2) (by rintro _ rfl; rfl) ?_; rintro _ rfl) | (refine opCallI_gv (by simp only [go_sem, beq_self_eq_true, hb1, hb3, List.nil_append, Ret_eq Try.results7]; first | done | rfl) (h2) ?_; rintro _ rfl) | (refine opCallI_rd (by simp only [go_sem, beq_self_eq_true, hb1, hb3, List.nil_append, Ret_eq Try.results7]; first | done | rfl) (h3) (by rintro _ rfl; rfl) ?_; rintro _ rfl) | (refine opCallI_gv (by simp only [go_sem, beq_self_eq_true, hb1, hb3, List.nil_append, Ret_eq Try.results7]; first | done | rfl) (h3) ?_; rintro _ rfl) | fail)
          rw [bne, hb3]; rfl
      · skip
        refine Fun.of_awpI Try.func7 rfl cal7 Try.ntmps7 (by simp) fun hwf => ?_
        simp only [D.wfs, D.wf, ints_length, ints_wfs, rows_length, rows_wfs, capMax, and_true, true_and] at hwf
        repeat' (first | simp only [go_sem, Ret_eq Try.results7] | simp (disch := omega) only [arith, IntKind.bits, capMax, fill_len, elt_fill] | (with_reducible refine condI_beq (fun hq hqb => ?_) (fun hq hqb => ?_) <;> simp only [KP_mk, hqb]) | (with_reducible refine condI_bne (fun hq hqb => ?_) (fun hq hqb => ?_) <;> simp only [KP_mk, hqb]) | (with_reducible refine condI_dec (fun hq hqb => ?_) (fun hq hqb => ?_) <;> simp only [KP_mk, hqb]) | (with_reducible refine condI_b (fun hqb => ?_) (fun hqb => ?_) <;> simp only [KP_mk, hqb]) | refine RetO_calc Try.results7 ?_ | refine RetL_calc Try.results7 rfl ?_ | (refine awpI_draw2 (id := 16) (.one false 0 (.one false 1 (.one false 2 (.one false 3 (.one false 4 (.one false 5 (.one false 6 (.one false 7 (.one false 8 (.one false 9 (.one false 10 (.one false 11 (.one false 12 (.one false 13 (.one false 14 (.one false 15 (.one false 16 (.one false 17 (.one false 18 (.one false 19 (.one false 20 (.one false 21 (.one false 22 .done))))))))))))))))))))))) mixed (by decide +kernel) (by decide +kernel) ?_) | (refine Again.up (by omega) ?_ ?_) | exact trivial | (refine opCallI_rd (by simp only [go_sem, Ret_eq Try.results7]; first | done | rfl) (hlv) (by rintro _ rfl; rfl) ?_; rintro _ rfl) | (refine opCallI_gv (by simp only [go_sem, Ret_eq Try.results7]; first | done | rfl) (hlv) ?_; rintro _ rfl) | fail)
    · skip
      refine Fun.of_awpI Try.func7 rfl cal7 Try.ntmps7 (by simp) fun hwf => ?_
      simp only [D.wfs, D.wf, ints_length, ints_wfs, rows_length, rows_wfs, capMax, and_true, true_and] at hwf
      repeat' (first | simp only [go_sem, Ret_eq Try.results7] | simp (disch := omega) only [arith, IntKind.bits, capMax, fill_len, elt_fill] | (with_reducible refine condI_beq (fun hq hqb => ?_) (fun hq hqb => ?_) <;> simp only [KP_mk, hqb]) | (with_reducible refine condI_bne (fun hq hqb => ?_) (fun hq hqb => ?_) <;> simp only [KP_mk, hqb]) | (with_reducible refine condI_dec (fun hq hqb => ?_) (fun hq hqb => ?_) <;> simp only [KP_mk, hqb]) | (with_reducible refine condI_b (fun hqb => ?_) (fun hqb => ?_) <;> simp only [KP_mk, hqb]) | refine RetO_calc Try.results7 ?_ | refine RetL_calc Try.results7 rfl ?_ | (refine awpI_draw2 (id := 16) (.one false 0 (.one false 1 (.one false 2 (.one false 3 (.one false 4 (.one false 5 (.one false 6 (.one false 7 (.one false 8 (.one false 9 (.one false 10 (.one false 11 (.one false 12 (.one false 13 (.one false 14 (.one false 15 (.one false 16 (.one false 17 (.one false 18 (.one false 19 (.one false 20 (.one false 21 (.one false 22 .done))))))))))))))))))))))) mixed (by decide +kernel) (by decide +kernel) ?_) | (refine Again.up (by omega) ?_ ?_) | exact trivial | (refine opCallI_rd (by simp only [go_sem, Ret_eq Try.results7]; first | done | rfl) (hlv) (by rintro _ rfl; rfl) ?_; rintro _ rfl) | (refine opCallI_gv (by simp only [go_sem, Ret_eq Try.results7]; first | done | rfl) (hlv) ?_; rintro _ rfl) | fail)
  · skip
    refine Fun.of_awpI Try.func7 rfl cal7 Try.ntmps7 (by simp) fun hwf => ?_
    simp only [D.wfs, D.wf, ints_length, ints_wfs, rows_length, rows_wfs, capMax, and_true, true_and] at hwf
    repeat' (first | simp only [go_sem, Ret_eq Try.results7] | simp (disch := omega) only [arith, IntKind.bits, capMax, fill_len, elt_fill] | (with_reducible refine condI_beq (fun hq hqb => ?_) (fun hq hqb => ?_) <;> simp only [KP_mk, hqb]) | (with_reducible refine condI_bne (fun hq hqb => ?_) (fun hq hqb => ?_) <;> simp only [KP_mk, hqb]) | (with_reducible refine condI_dec (fun hq hqb => ?_) (fun hq hqb => ?_) <;> simp only [KP_mk, hqb]) | (with_reducible refine condI_b (fun hqb => ?_) (fun hqb => ?_) <;> simp only [KP_mk, hqb]) | refine RetO_calc Try.results7 ?_ | refine RetL_calc Try.results7 rfl ?_ | (refine awpI_draw2 (id := 16) (.one false 0 (.one false 1 (.one false 2 (.one false 3 (.one false 4 (.one false 5 (.one false 6 (.one false 7 (.one false 8 (.one false 9 (.one false 10 (.one false 11 (.one false 12 (.one false 13 (.one false 14 (.one false 15 (.one false 16 (.one false 17 (.one false 18 (.one false 19 (.one false 20 (.one false 21 (.one false 22 .done))))))))))))))))))))))) mixed (by decide +kernel) (by decide +kernel) ?_) | (refine Again.up (by omega) ?_ ?_) | exact trivial | (refine opCallI_rd (by simp only [go_sem, Ret_eq Try.results7]; first | done | rfl) (hlv) (by rintro _ rfl; rfl) ?_; rintro _ rfl) | (refine opCallI_gv (by simp only [go_sem, Ret_eq Try.results7]; first | done | rfl) (hlv) ?_; rintro _ rfl) | fail)
end Go.Proofs.Ytpkampecmlpfmaa.T
