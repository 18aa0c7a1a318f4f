import Derived.Test.YtpkampecmlpfmaaLE
import Derived.Test.YtpkampecmlpfmaaERkCuts
import Derived.Test.YtpkampecmlpfmaaERkL
set_option linter.unusedSimpArgs false
set_option linter.unusedVariables false
/- Laws on ranks, over what slices.Sorted does. -/
namespace Go.Proofs.Ytpkampecmlpfmaa.T
open Go Go.VL Go.Proofs
set_option maxRecDepth 100000
set_option maxHeartbeats 8000000
theorem sort_ex : sortI [1, 5, 9, 3] = [1, 3, 5, 9] := sorted_unique ((sortI_perm _).trans (by decide)) (sortI_sorted _) (by decide)
theorem cuts_ex : cutsL [1, 5, 9, 3] 2 = [5] := by
  unfold cutsL
  rw [sort_ex]; rfl

theorem rkLive_fun (hS : Sorted16) : Fun Try.prog 24 [] fun r => r = .v (.bool true) := by
  have h0 := rkCuts_fun hS [1, 5, 9, 3] 2 (by decide)
  have hE : rkE [1, 5, 9, 3] 2 = 0 := by decide +kernel
  rw [hE, show rkOut [1, 5, 9, 3] 2 = [5] from (if_pos hE).trans cuts_ex] at h0
  have h1 := rankCell_fun [5] 5
  rw [show cellVal [5] 5 = 1 by decide +kernel, show cellErr [5] 5 = 0 by decide +kernel] at h1
  simp only [ints_cons, ints_nil] at h0 h1
  refine Fun.of_awpI Try.func24 rfl cal24 Try.ntmps24 (by simp) fun hwf => ?_
  simp only [D.wfs, D.wf, ints_length, ints_wfs, rows_length, rows_wfs, capMax, and_true, true_and] at hwf
  repeat' (first | simp only [go_sem, beq_self_eq_true, Ret_eq Try.results24] | simp (disch := omega) only [arith, IntKind.bits, capMax, fill_len, elt_fill] | (with_reducible refine condI_beq (fun hq hqb => ?_) (fun hq hqb => ?_) <;> simp only [KP_mk, hqb]) | (with_reducible refine condI_bne (fun hq hqb => ?_) (fun hq hqb => ?_) <;> simp only [KP_mk, hqb]) | (with_reducible refine condI_dec (fun hq hqb => ?_) (fun hq hqb => ?_) <;> simp only [KP_mk, hqb]) | (with_reducible refine condI_b (fun hqb => ?_) (fun hqb => ?_) <;> simp only [KP_mk, hqb]) | refine RetO_calc Try.results24 ?_ | refine RetL_calc Try.results24 rfl ?_ | (refine Again.up (by omega) ?_ ?_) | exact trivial | (refine opCallI_rd (by simp only [go_sem, beq_self_eq_true, Ret_eq Try.results24]; first | done | rfl) (h0) (by rintro _ rfl; rfl) ?_; rintro _ rfl) | (refine opCallI_gv (by simp only [go_sem, beq_self_eq_true, Ret_eq Try.results24]; first | done | rfl) (h0) ?_; rintro _ rfl) | (refine opCallI_rd (by simp only [go_sem, beq_self_eq_true, Ret_eq Try.results24]; first | done | rfl) (h1) (by rintro _ rfl; rfl) ?_; rintro _ rfl) | (refine opCallI_gv (by simp only [go_sem, beq_self_eq_true, Ret_eq Try.results24]; first | done | rfl) (h1) ?_; rintro _ rfl) | fail)

theorem rankIn_law (hS : Sorted16) (c : List Int) (x y : Int) (hc : I16s c) (hx : -32768 ≤ x ∧ x ≤ 32767) (hy : -32768 ≤ y ∧ y ≤ 32767) : Fun Try.prog 5 [.lst (ints .i16 c), .v (.int .i16 x), .v (.int .i16 y)] fun r => r = .v (.bool true) := by
  have hlv := rkLive_fun hS
  have h1 := rankCell_fun c x
  have h2 := rankCell_fun c y
  by_cases g : c.length ≤ 300
  · by_cases q1 : cutsErr c = 0 ∧ -32767 ≤ x
    · obtain ⟨a1, a2⟩ := cell_ok q1.1 q1.2
      rw [a1, a2] at h1
      by_cases q2 : cutsErr c = 0 ∧ -32767 ≤ y
      · obtain ⟨b1, b2⟩ := cell_ok q2.1 q2.2
        rw [b1, b2] at h2
        have hle := cellOf_le c x
        have hmono := cell_mono (c := c) (x := x) (y := y)
        refine Fun.of_awpI Try.func5 rfl cal5 Try.ntmps5 (by simp) fun hwf => ?_
        simp only [D.wfs, D.wf, ints_length, ints_wfs, rows_length, rows_wfs, capMax, and_true, true_and] at hwf
        repeat' (first | simp only [go_sem, beq_self_eq_true, Ret_eq Try.results5] | simp (disch := omega) only [arith, IntKind.bits, capMax, fill_len, elt_fill] | (with_reducible refine condI_beq (fun hq hqb => ?_) (fun hq hqb => ?_) <;> simp only [KP_mk, hqb]) | (with_reducible refine condI_bne (fun hq hqb => ?_) (fun hq hqb => ?_) <;> simp only [KP_mk, hqb]) | (with_reducible refine condI_dec (fun hq hqb => ?_) (fun hq hqb => ?_) <;> simp only [KP_mk, hqb]) | (with_reducible refine condI_b (fun hqb => ?_) (fun hqb => ?_) <;> simp only [KP_mk, hqb]) | refine RetO_calc Try.results5 ?_ | refine RetL_calc Try.results5 rfl ?_ | (refine Again.up (by omega) ?_ ?_) | exact trivial | (refine opCallI_rd (by simp only [go_sem, beq_self_eq_true, Ret_eq Try.results5]; first | done | rfl) (hlv) (by rintro _ rfl; rfl) ?_; rintro _ rfl) | (refine opCallI_gv (by simp only [go_sem, beq_self_eq_true, Ret_eq Try.results5]; first | done | rfl) (hlv) ?_; rintro _ rfl) | (refine opCallI_rd (by simp only [go_sem, beq_self_eq_true, Ret_eq Try.results5]; first | done | rfl) (h1) (by rintro _ rfl; rfl) ?_; rintro _ rfl) | (refine opCallI_gv (by simp only [go_sem, beq_self_eq_true, Ret_eq Try.results5]; first | done | rfl) (h1) ?_; rintro _ rfl) | (refine opCallI_rd (by simp only [go_sem, beq_self_eq_true, Ret_eq Try.results5]; first | done | rfl) (h2) (by rintro _ rfl; rfl) ?_; rintro _ rfl) | (refine opCallI_gv (by simp only [go_sem, beq_self_eq_true, Ret_eq Try.results5]; first | done | rfl) (h2) ?_; rintro _ rfl) | fail)
        refine awpI_for (c.length + 1) (fun k => True) (fun k => [(56, .v (.int .i64 k))]) (fun _ => []) [0, 1, 2, 7, 8, 10, 55] [] _ (Weak.refl _) trivial ?_ ?_ ?_
        · simp only [go_sem, Ret_eq Try.results5]
        · simp only [go_sem, Ret_eq Try.results5]
        · intro k s hk _ hs
          simp only [go_sem, Ret_eq Try.results5] at hs
          by_cases hka : k < c.length + 1
          · have hsp := rankSpan_fun c k hc
            have hok := span_ok q1.1 (show (0 : Int) ≤ k by omega) (show (k : Int) ≤ c.length by omega)
            rw [Int.toNat_natCast] at hok
            have hin := in_span2 (n := k) q1.1 (by omega) (show -32767 ≤ x ∧ x ≤ 32767 by omega)
            by_cases z : highOf c k < lowOf c k
            · rw [if_pos z] at hok
              rw [hok] at hsp
              have hne : ((k : Int) == (cellOf c x : Int)) = false := beq_eq_false_iff_ne.2 (fun q => by have := hin.2 (by omega); omega)
              repeat' (first | simp only [go_sem, hs, hne, beq_self_eq_true, bne_self_eq_false, Ret_eq Try.results5] | simp (disch := omega) only [arith, IntKind.bits, capMax, fill_len, elt_fill] | (with_reducible refine condI_beq (fun hq hqb => ?_) (fun hq hqb => ?_) <;> simp only [KP_mk, hqb]) | (with_reducible refine condI_bne (fun hq hqb => ?_) (fun hq hqb => ?_) <;> simp only [KP_mk, hqb]) | (with_reducible refine condI_dec (fun hq hqb => ?_) (fun hq hqb => ?_) <;> simp only [KP_mk, hqb]) | (with_reducible refine condI_b (fun hqb => ?_) (fun hqb => ?_) <;> simp only [KP_mk, hqb]) | refine RetO_calc Try.results5 ?_ | refine RetL_calc Try.results5 rfl ?_ | (refine Again.up (by omega) ?_ ?_) | exact trivial | (refine opCallI_rd (by simp only [go_sem, hs, hne, beq_self_eq_true, bne_self_eq_false, Ret_eq Try.results5]; first | done | rfl) (hsp) (by rintro _ rfl; rfl) ?_; rintro _ rfl) | (refine opCallI_gv (by simp only [go_sem, hs, hne, beq_self_eq_true, bne_self_eq_false, Ret_eq Try.results5]; first | done | rfl) (hsp) ?_; rintro _ rfl) | fail)
              all_goals skip
            · rw [if_neg z] at hok
              have e1 : spanLow c k = lowOf c k := by unfold spanLow; rw [if_pos hok, Int.toNat_natCast]
              have e2 : spanHigh c k = highOf c k := by unfold spanHigh; rw [if_pos hok, Int.toNat_natCast]
              rw [hok, e1, e2] at hsp
              by_cases w : cellOf c x = k
              · have hw := hin.2 w
                have hne : ((k : Int) == (cellOf c x : Int)) = true := beq_iff_eq.2 (by omega)
                have d1 : decide (x ≤ highOf c k) = true := decide_eq_true hw.2
                repeat' (first | simp only [go_sem, hs, hne, d1, beq_self_eq_true, bne_self_eq_false, Ret_eq Try.results5] | simp (disch := omega) only [arith, IntKind.bits, capMax, fill_len, elt_fill] | (with_reducible refine condI_beq (fun hq hqb => ?_) (fun hq hqb => ?_) <;> simp only [KP_mk, hqb]) | (with_reducible refine condI_bne (fun hq hqb => ?_) (fun hq hqb => ?_) <;> simp only [KP_mk, hqb]) | (with_reducible refine condI_dec (fun hq hqb => ?_) (fun hq hqb => ?_) <;> simp only [KP_mk, hqb]) | (with_reducible refine condI_b (fun hqb => ?_) (fun hqb => ?_) <;> simp only [KP_mk, hqb]) | refine RetO_calc Try.results5 ?_ | refine RetL_calc Try.results5 rfl ?_ | (refine Again.up (by omega) ?_ ?_) | exact trivial | (refine opCallI_rd (by simp only [go_sem, hs, hne, d1, beq_self_eq_true, bne_self_eq_false, Ret_eq Try.results5]; first | done | rfl) (hsp) (by rintro _ rfl; rfl) ?_; rintro _ rfl) | (refine opCallI_gv (by simp only [go_sem, hs, hne, d1, beq_self_eq_true, bne_self_eq_false, Ret_eq Try.results5]; first | done | rfl) (hsp) ?_; rintro _ rfl) | fail)
                all_goals skip
              · have hw : ¬ (lowOf c k ≤ x ∧ x ≤ highOf c k) := fun q => w (hin.1 q)
                have hne : ((k : Int) == (cellOf c x : Int)) = false := beq_eq_false_iff_ne.2 (by omega)
                by_cases w1 : lowOf c k ≤ x
                · have d1 : decide (x ≤ highOf c k) = false := decide_eq_false (fun q => hw ⟨w1, q⟩)
                  repeat' (first | simp only [go_sem, hs, hne, d1, beq_self_eq_true, bne_self_eq_false, Ret_eq Try.results5] | simp (disch := omega) only [arith, IntKind.bits, capMax, fill_len, elt_fill] | (with_reducible refine condI_beq (fun hq hqb => ?_) (fun hq hqb => ?_) <;> simp only [KP_mk, hqb]) | (with_reducible refine condI_bne (fun hq hqb => ?_) (fun hq hqb => ?_) <;> simp only [KP_mk, hqb]) | (with_reducible refine condI_dec (fun hq hqb => ?_) (fun hq hqb => ?_) <;> simp only [KP_mk, hqb]) | (with_reducible refine condI_b (fun hqb => ?_) (fun hqb => ?_) <;> simp only [KP_mk, hqb]) | refine RetO_calc Try.results5 ?_ | refine RetL_calc Try.results5 rfl ?_ | (refine Again.up (by omega) ?_ ?_) | exact trivial | (refine opCallI_rd (by simp only [go_sem, hs, hne, d1, beq_self_eq_true, bne_self_eq_false, Ret_eq Try.results5]; first | done | rfl) (hsp) (by rintro _ rfl; rfl) ?_; rintro _ rfl) | (refine opCallI_gv (by simp only [go_sem, hs, hne, d1, beq_self_eq_true, bne_self_eq_false, Ret_eq Try.results5]; first | done | rfl) (hsp) ?_; rintro _ rfl) | fail)
                  all_goals skip
                · repeat' (first | simp only [go_sem, hs, hne, beq_self_eq_true, bne_self_eq_false, Ret_eq Try.results5] | simp (disch := omega) only [arith, IntKind.bits, capMax, fill_len, elt_fill] | (with_reducible refine condI_beq (fun hq hqb => ?_) (fun hq hqb => ?_) <;> simp only [KP_mk, hqb]) | (with_reducible refine condI_bne (fun hq hqb => ?_) (fun hq hqb => ?_) <;> simp only [KP_mk, hqb]) | (with_reducible refine condI_dec (fun hq hqb => ?_) (fun hq hqb => ?_) <;> simp only [KP_mk, hqb]) | (with_reducible refine condI_b (fun hqb => ?_) (fun hqb => ?_) <;> simp only [KP_mk, hqb]) | refine RetO_calc Try.results5 ?_ | refine RetL_calc Try.results5 rfl ?_ | (refine Again.up (by omega) ?_ ?_) | exact trivial | (refine opCallI_rd (by simp only [go_sem, hs, hne, beq_self_eq_true, bne_self_eq_false, Ret_eq Try.results5]; first | done | rfl) (hsp) (by rintro _ rfl; rfl) ?_; rintro _ rfl) | (refine opCallI_gv (by simp only [go_sem, hs, hne, beq_self_eq_true, bne_self_eq_false, Ret_eq Try.results5]; first | done | rfl) (hsp) ?_; rintro _ rfl) | fail)
                  all_goals skip
          · obtain rfl : k = c.length + 1 := by omega
            by_cases w : y < x
            · repeat' (first | simp only [go_sem, hs, Ret_eq Try.results5] | simp (disch := omega) only [arith, IntKind.bits, capMax, fill_len, elt_fill] | (with_reducible refine condI_beq (fun hq hqb => ?_) (fun hq hqb => ?_) <;> simp only [KP_mk, hqb]) | (with_reducible refine condI_bne (fun hq hqb => ?_) (fun hq hqb => ?_) <;> simp only [KP_mk, hqb]) | (with_reducible refine condI_dec (fun hq hqb => ?_) (fun hq hqb => ?_) <;> simp only [KP_mk, hqb]) | (with_reducible refine condI_b (fun hqb => ?_) (fun hqb => ?_) <;> simp only [KP_mk, hqb]) | refine RetO_calc Try.results5 ?_ | refine RetL_calc Try.results5 rfl ?_ | (refine Again.up (by omega) ?_ ?_) | exact trivial | fail)
              all_goals skip
            · have := hmono (by omega)
              repeat' (first | simp only [go_sem, hs, Ret_eq Try.results5] | simp (disch := omega) only [arith, IntKind.bits, capMax, fill_len, elt_fill] | (with_reducible refine condI_beq (fun hq hqb => ?_) (fun hq hqb => ?_) <;> simp only [KP_mk, hqb]) | (with_reducible refine condI_bne (fun hq hqb => ?_) (fun hq hqb => ?_) <;> simp only [KP_mk, hqb]) | (with_reducible refine condI_dec (fun hq hqb => ?_) (fun hq hqb => ?_) <;> simp only [KP_mk, hqb]) | (with_reducible refine condI_b (fun hqb => ?_) (fun hqb => ?_) <;> simp only [KP_mk, hqb]) | refine RetO_calc Try.results5 ?_ | refine RetL_calc Try.results5 rfl ?_ | (refine Again.up (by omega) ?_ ?_) | exact trivial | fail)
              all_goals skip
      · obtain ⟨b1, b2⟩ := cell_bad q2
        rw [b1, b2] at h2
        refine Fun.of_awpI Try.func5 rfl cal5 Try.ntmps5 (by simp) fun hwf => ?_
        simp only [D.wfs, D.wf, ints_length, ints_wfs, rows_length, rows_wfs, capMax, and_true, true_and] at hwf
        repeat' (first | simp only [go_sem, beq_self_eq_true, Ret_eq Try.results5] | simp (disch := omega) only [arith, IntKind.bits, capMax, fill_len, elt_fill] | (with_reducible refine condI_beq (fun hq hqb => ?_) (fun hq hqb => ?_) <;> simp only [KP_mk, hqb]) | (with_reducible refine condI_bne (fun hq hqb => ?_) (fun hq hqb => ?_) <;> simp only [KP_mk, hqb]) | (with_reducible refine condI_dec (fun hq hqb => ?_) (fun hq hqb => ?_) <;> simp only [KP_mk, hqb]) | (with_reducible refine condI_b (fun hqb => ?_) (fun hqb => ?_) <;> simp only [KP_mk, hqb]) | refine RetO_calc Try.results5 ?_ | refine RetL_calc Try.results5 rfl ?_ | (refine Again.up (by omega) ?_ ?_) | exact trivial | (refine opCallI_rd (by simp only [go_sem, beq_self_eq_true, Ret_eq Try.results5]; first | done | rfl) (hlv) (by rintro _ rfl; rfl) ?_; rintro _ rfl) | (refine opCallI_gv (by simp only [go_sem, beq_self_eq_true, Ret_eq Try.results5]; first | done | rfl) (hlv) ?_; rintro _ rfl) | (refine opCallI_rd (by simp only [go_sem, beq_self_eq_true, Ret_eq Try.results5]; first | done | rfl) (h1) (by rintro _ rfl; rfl) ?_; rintro _ rfl) | (refine opCallI_gv (by simp only [go_sem, beq_self_eq_true, Ret_eq Try.results5]; first | done | rfl) (h1) ?_; rintro _ rfl) | (refine opCallI_rd (by simp only [go_sem, beq_self_eq_true, Ret_eq Try.results5]; first | done | rfl) (h2) (by rintro _ rfl; rfl) ?_; rintro _ rfl) | (refine opCallI_gv (by simp only [go_sem, beq_self_eq_true, Ret_eq Try.results5]; first | done | rfl) (h2) ?_; rintro _ rfl) | fail)
        all_goals skip
    · obtain ⟨a1, a2⟩ := cell_bad q1
      rw [a1, a2] at h1
      have h2' : Fun Try.prog 27 [.lst (ints .i16 c), .v (.int .i16 y)] fun r => r = .tup [.v (.int .i64 (cellVal c y)), .v (.int .i64 (cellErr c y))] := h2
      refine Fun.of_awpI Try.func5 rfl cal5 Try.ntmps5 (by simp) fun hwf => ?_
      simp only [D.wfs, D.wf, ints_length, ints_wfs, rows_length, rows_wfs, capMax, and_true, true_and] at hwf
      repeat' (first | simp only [go_sem, beq_self_eq_true, Ret_eq Try.results5] | simp (disch := omega) only [arith, IntKind.bits, capMax, fill_len, elt_fill] | (with_reducible refine condI_beq (fun hq hqb => ?_) (fun hq hqb => ?_) <;> simp only [KP_mk, hqb]) | (with_reducible refine condI_bne (fun hq hqb => ?_) (fun hq hqb => ?_) <;> simp only [KP_mk, hqb]) | (with_reducible refine condI_dec (fun hq hqb => ?_) (fun hq hqb => ?_) <;> simp only [KP_mk, hqb]) | (with_reducible refine condI_b (fun hqb => ?_) (fun hqb => ?_) <;> simp only [KP_mk, hqb]) | refine RetO_calc Try.results5 ?_ | refine RetL_calc Try.results5 rfl ?_ | (refine Again.up (by omega) ?_ ?_) | exact trivial | (refine opCallI_rd (by simp only [go_sem, beq_self_eq_true, Ret_eq Try.results5]; first | done | rfl) (hlv) (by rintro _ rfl; rfl) ?_; rintro _ rfl) | (refine opCallI_gv (by simp only [go_sem, beq_self_eq_true, Ret_eq Try.results5]; first | done | rfl) (hlv) ?_; rintro _ rfl) | (refine opCallI_rd (by simp only [go_sem, beq_self_eq_true, Ret_eq Try.results5]; first | done | rfl) (h1) (by rintro _ rfl; rfl) ?_; rintro _ rfl) | (refine opCallI_gv (by simp only [go_sem, beq_self_eq_true, Ret_eq Try.results5]; first | done | rfl) (h1) ?_; rintro _ rfl) | (refine opCallI_rd (by simp only [go_sem, beq_self_eq_true, Ret_eq Try.results5]; first | done | rfl) (h2) (by rintro _ rfl; rfl) ?_; rintro _ rfl) | (refine opCallI_gv (by simp only [go_sem, beq_self_eq_true, Ret_eq Try.results5]; first | done | rfl) (h2) ?_; rintro _ rfl) | fail)
      all_goals skip
  · skip
    refine Fun.of_awpI Try.func5 rfl cal5 Try.ntmps5 (by simp) fun hwf => ?_
    simp only [D.wfs, D.wf, ints_length, ints_wfs, rows_length, rows_wfs, capMax, and_true, true_and] at hwf
    repeat' (first | simp only [go_sem, Ret_eq Try.results5] | simp (disch := omega) only [arith, IntKind.bits, capMax, fill_len, elt_fill] | (with_reducible refine condI_beq (fun hq hqb => ?_) (fun hq hqb => ?_) <;> simp only [KP_mk, hqb]) | (with_reducible refine condI_bne (fun hq hqb => ?_) (fun hq hqb => ?_) <;> simp only [KP_mk, hqb]) | (with_reducible refine condI_dec (fun hq hqb => ?_) (fun hq hqb => ?_) <;> simp only [KP_mk, hqb]) | (with_reducible refine condI_b (fun hqb => ?_) (fun hqb => ?_) <;> simp only [KP_mk, hqb]) | refine RetO_calc Try.results5 ?_ | refine RetL_calc Try.results5 rfl ?_ | (refine Again.up (by omega) ?_ ?_) | exact trivial | (refine opCallI_rd (by simp only [go_sem, Ret_eq Try.results5]; first | done | rfl) (hlv) (by rintro _ rfl; rfl) ?_; rintro _ rfl) | (refine opCallI_gv (by simp only [go_sem, Ret_eq Try.results5]; first | done | rfl) (hlv) ?_; rintro _ rfl) | fail)
end Go.Proofs.Ytpkampecmlpfmaa.T
