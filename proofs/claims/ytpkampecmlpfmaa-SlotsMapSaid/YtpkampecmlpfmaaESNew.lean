import Derived.Test.YtpkampecmlpfmaaLE
import Derived.Test.YtpkampecmlpfmaaESPut
import Derived.Test.YtpkampecmlpfmaaEGRep
import Derived.Test.YtpkampecmlpfmaaEPSame
set_option linter.unusedSimpArgs false
set_option linter.unusedVariables false
/- New slots, and the chapter's example, walked. -/
namespace Go.Proofs.Ytpkampecmlpfmaa.T
open Go Go.VL Go.Proofs
set_option maxRecDepth 100000
set_option maxHeartbeats 4000000
abbrev nilD : D := .v (.slice none 0 0)
theorem nil_frzs (i : Nat) (els : List D) : ∀ n, D.frzs i els (List.replicate n nilD) = List.replicate n nilD
  | 0 => rfl
  | n + 1 => by rw [List.replicate_succ]; show D.frz i els nilD :: D.frzs i els (List.replicate n nilD) = _; rw [nil_frzs i els n]; rfl
theorem nil_kills (i : Nat) : ∀ n, D.kills i (List.replicate n nilD) = List.replicate n nilD
  | 0 => rfl
  | n + 1 => by rw [List.replicate_succ]; show D.kill i nilD :: D.kills i (List.replicate n nilD) = _; rw [nil_kills i n]; rfl
theorem nil_nrms : ∀ n, D.nrms (List.replicate n nilD) = rows .i16 (List.replicate n [])
  | 0 => rfl
  | n + 1 => by rw [List.replicate_succ, List.replicate_succ]; show D.nrm nilD :: D.nrms (List.replicate n nilD) = _; rw [nil_nrms n]; rfl
theorem nil_noRefs : ∀ n, D.noRefs (List.replicate n nilD) = true
  | 0 => rfl
  | n + 1 => by rw [List.replicate_succ]; show (D.noRef nilD && D.noRefs (List.replicate n nilD)) = _; rw [nil_noRefs n]; rfl
theorem nil_width1 (n : Nat) : (List.replicate n nilD).all (fun d => d.width == 1) = true := by simp [D.width]

theorem slotsNew_fun (n : Nat) (dim : Int) (h : 1 ≤ n ∧ n ≤ 256) (hd : 1 ≤ dim ∧ dim ≤ 64) : Fun Try.prog 40 [.v (.int .i64 n), .v (.int .i64 dim)] fun r => r = .tup [slotsD dim (List.replicate n (-1)) (List.replicate n []), .v (.int .i64 0)] := by
  have w1 := within_fun n 256
  have w2 := within_fun dim 64
  rw [decide_eq_true (by omega)] at w1 w2
  have hr := repeat64_fun (-1) n (by omega)
  simp only [ints_cons, ints_nil] at hr
  refine Fun.of_awpI Try.func40 rfl cal40 Try.ntmps40 (by simp) fun hwf => ?_
  simp only [D.wfs, D.wf, ints_length, ints_wfs, rows_length, rows_wfs, capMax, and_true, true_and] at hwf
  repeat' (first | simp only [go_sem, nil_frzs, nil_kills, nil_nrms, nil_noRefs, nil_width1, ints_length, List.length_replicate, Ret_eq Try.results40] | simp (disch := omega) only [arith, IntKind.bits, capMax, fill_len, elt_fill] | (refine awpI_draw2 (id := 3) (.one true 0 (.one true 2 (.one true 4 (.two 1 5 (.two 3 5 (.only 5 (.one false 6 (.only 7 (.one false 8 .done)))) (.only 3 (.one false 6 (.only 7 (.one false 8 .done))))) (.only 1 (.only 3 (.one false 6 (.only 7 (.one false 8 .done))))))))) mixed (by decide +kernel) (by decide +kernel) ?_) | (refine sch2I_two ?_ ?_) | (refine opCallI_rd (by simp only [go_sem, nil_frzs, nil_kills, nil_nrms, nil_noRefs, nil_width1, ints_length, List.length_replicate, Ret_eq Try.results40]; first | done | rfl) (w1) (by rintro _ rfl; rfl) ?_; rintro _ rfl) | (refine opCallI_rd (by simp only [go_sem, nil_frzs, nil_kills, nil_nrms, nil_noRefs, nil_width1, ints_length, List.length_replicate, Ret_eq Try.results40]; first | done | rfl) (w2) (by rintro _ rfl; rfl) ?_; rintro _ rfl) | (refine opCallI_ownGv (by simp only [go_sem, nil_frzs, nil_kills, nil_nrms, nil_noRefs, nil_width1, ints_length, List.length_replicate, Ret_eq Try.results40]; first | done | rfl) (hr) ?_; rintro _ _ ⟨rfl, rfl⟩) | fail)
  all_goals simp only [List.take_replicate, Nat.min_self]

theorem slotsNew_bad (n dim : Int) (h : ¬ ((1 ≤ n ∧ n ≤ 256) ∧ 1 ≤ dim ∧ dim ≤ 64)) : Fun Try.prog 40 [.v (.int .i64 n), .v (.int .i64 dim)] fun r => r = .tup [slotsD 0 [] [], .v (.int .i64 1)] := by
  have w1 := within_fun n 256
  have w2 := within_fun dim 64
  by_cases g : 1 ≤ n ∧ n ≤ 256
  · rw [decide_eq_true g] at w1
    rw [decide_eq_false (fun q => h ⟨g, q⟩)] at w2
    refine Fun.of_awpI Try.func40 rfl cal40 Try.ntmps40 (by simp) fun hwf => ?_
    simp only [D.wfs, D.wf, ints_length, ints_wfs, rows_length, rows_wfs, capMax, and_true, true_and] at hwf
    repeat' (first | simp only [go_sem, ints_nil, rows_nil, Ret_eq Try.results40] | (refine opCallI_rd (by simp only [go_sem, ints_nil, rows_nil, Ret_eq Try.results40]; first | done | rfl) (w1) (by rintro _ rfl; rfl) ?_; rintro _ rfl) | (refine opCallI_rd (by simp only [go_sem, ints_nil, rows_nil, Ret_eq Try.results40]; first | done | rfl) (w2) (by rintro _ rfl; rfl) ?_; rintro _ rfl) | fail)
    all_goals rfl
  · rw [decide_eq_false g] at w1
    refine Fun.of_awpI Try.func40 rfl cal40 Try.ntmps40 (by simp) fun hwf => ?_
    simp only [D.wfs, D.wf, ints_length, ints_wfs, rows_length, rows_wfs, capMax, and_true, true_and] at hwf
    repeat' (first | simp only [go_sem, ints_nil, rows_nil, Ret_eq Try.results40] | (refine opCallI_rd (by simp only [go_sem, ints_nil, rows_nil, Ret_eq Try.results40]; first | done | rfl) (w1) (by rintro _ rfl; rfl) ?_; rintro _ rfl) | fail)
    all_goals rfl

theorem slotsLive_fun : Fun Try.prog 31 [] fun r => r = .v (.bool true) := by
  have h0 := slotsNew_fun 2 1 (by decide) (by decide)
  have p1 := slotsPut_fun 1 [-1, -1] [[], []] 7 [1] (by decide) (by decide)
  rw [show putE 1 [-1, -1] [[], []] 7 [1] = 0 by decide +kernel, show putI 1 [-1, -1] [[], []] 7 [1] = 0 by decide +kernel] at p1
  have p2 := slotsPut_fun 1 [7, -1] [[1], []] 3 [2] (by decide) (by decide)
  rw [show putE 1 [7, -1] [[1], []] 3 [2] = 0 by decide +kernel, show putI 1 [7, -1] [[1], []] 3 [2] = 1 by decide +kernel] at p2
  have p3 := slotsDel_fun 1 [7, 3] [[1], [2]] 7 (by decide)
  rw [show findE 1 [7, 3] [[1], [2]] 7 = 0 by decide +kernel, show findI 1 [7, 3] [[1], [2]] 7 = 0 by decide +kernel] at p3
  have p4 := slotsPut_fun 1 [-1, 3] [[], [2]] 9 [4] (by decide) (by decide)
  rw [show putE 1 [-1, 3] [[], [2]] 9 [4] = 0 by decide +kernel, show putI 1 [-1, 3] [[], [2]] 9 [4] = 0 by decide +kernel] at p4
  have hs := sameInts_fun [9, 3] [9, 3]
  rw [decide_eq_true rfl] at hs
  simp only [if_true, Int.toNat_zero, Int.toNat_one, List.set, List.replicate, slotsD, ints_cons, ints_nil, rows_cons, rows_nil] at h0 p1 p2 p3 p4 hs
  refine Fun.of_awpI Try.func31 rfl cal31 Try.ntmps31 (by simp) fun hwf => ?_
  simp only [D.wfs, D.wf, ints_length, ints_wfs, rows_length, rows_wfs, capMax, and_true, true_and] at hwf
  repeat' (first | simp only [go_sem, beq_self_eq_true, ints_cons, ints_nil, Ret_eq Try.results31] | (refine opCallI_gv (by simp only [go_sem, beq_self_eq_true, ints_cons, ints_nil, Ret_eq Try.results31]; first | done | rfl) (h0) ?_; rintro _ rfl) | (refine opCallI_gv (by simp only [go_sem, beq_self_eq_true, ints_cons, ints_nil, Ret_eq Try.results31]; first | done | rfl) (p1) ?_; rintro _ rfl) | (refine opCallI_gv (by simp only [go_sem, beq_self_eq_true, ints_cons, ints_nil, Ret_eq Try.results31]; first | done | rfl) (p2) ?_; rintro _ rfl) | (refine opCallI_gv (by simp only [go_sem, beq_self_eq_true, ints_cons, ints_nil, Ret_eq Try.results31]; first | done | rfl) (p3) ?_; rintro _ rfl) | (refine opCallI_gv (by simp only [go_sem, beq_self_eq_true, ints_cons, ints_nil, Ret_eq Try.results31]; first | done | rfl) (p4) ?_; rintro _ rfl) | (refine opCallI_rd (by simp only [go_sem, beq_self_eq_true, ints_cons, ints_nil, Ret_eq Try.results31]; first | done | rfl) (hs) (by rintro _ rfl; rfl) ?_; rintro _ rfl) | fail)
end Go.Proofs.Ytpkampecmlpfmaa.T
