import Derived.Test.YtfmeiapglpphpaaTTurn
set_option linter.unusedSimpArgs false
set_option linter.unusedVariables false
/- Vectors turned back, and the chapter's example. -/
namespace Go.Proofs.Ytfmeiapglpphpaa.T
open Go Go.VL Go.Proofs
set_option maxRecDepth 100000
set_option maxHeartbeats 4000000
def backOut (v : List Int) (w : Int) : List Int := if turnErr v w = 0 then turnL v (notW w).toNat else []
theorem turnErr_not {v : List Int} {w : Int} (h : wayErr w = 0) : turnErr v (notW w) = turnErr v w := by
  have hw : 0 ≤ w ∧ w ≤ maxTwist := by
    unfold wayErr at h
    split at h
    · assumption
    · cases h
  have hn := notW_range w
  unfold turnErr
  by_cases hv : vecErr v = 0
  · rw [if_pos ⟨hv, hn⟩, if_pos ⟨hv, hw⟩]
  · rw [if_neg (fun h => hv h.1), if_neg (fun h => hv h.1)]
theorem backOut_not {v : List Int} {w : Int} (h : wayErr w = 0) : turnOut v (notW w) = backOut v w := by
  unfold turnOut backOut
  rw [turnErr_not h]
theorem turnErr_way {v : List Int} {w : Int} (h : wayErr w ≠ 0) : turnErr v w = 1 ∧ backOut v w = [] := by
  have : turnErr v w = 1 := turnErr_bad fun h' => h (way_even h'.2)
  exact ⟨this, by unfold backOut; rw [this]; rfl⟩

theorem back_fun (v : List Int) (w : Int) (hv : I16s v) : Fun Try.prog 69 [.lst (ints .i16 v), .v (.int .i64 w)] fun r => r = .tup [.lst (ints .i16 (backOut v w)), .v (.int .i64 (turnErr v w))] := by
  refine Fun.of_awpI Try.func69 rfl cal69 Try.ntmps69 (by simp) fun hwf => ?_
  simp only [D.wfs, D.wf, ints_length, ints_wfs, rows_length, rows_wfs, capMax, and_true, true_and] at hwf
  by_cases h : wayErr w = 0
  · have e := turnErr_not (v := v) h
    have e2 := backOut_not (v := v) h
    have e3 := notOut_ok h
    repeat' (first | simp only [go_sem, Nat.reduceEqDiff, Nat.reduceAdd, Nat.reduceLT, Nat.reduceMul, Nat.reduceSub, ↓reduceIte, reduceCtorEq, Nat.reduceLeDiff, Nat.reduceBEq, Int.reduceBEq, Int.reduceBNe, Int.reduceLT, Int.reduceLE, Int.reduceToNat, Int.reduceGT, Int.reduceGE, Int.reduceEq, Int.reducePow, Nat.reducePow, h, e, e2, e3, Ret_eq Try.results69] | simp (disch := omega) only [arith, IntKind.bits, capMax, fill_len, elt_fill] | (with_reducible refine condI_beq (fun hq hqb => ?_) (fun hq hqb => ?_) <;> simp only [KP_mk, hqb]) | (with_reducible refine condI_bne (fun hq hqb => ?_) (fun hq hqb => ?_) <;> simp only [KP_mk, hqb]) | (with_reducible refine condI_dec (fun hq hqb => ?_) (fun hq hqb => ?_) <;> simp only [KP_mk, hqb]) | (with_reducible refine condI_b (fun hqb => ?_) (fun hqb => ?_) <;> simp only [KP_mk, hqb]) | refine RetO_calc Try.results69 ?_ | (refine Again.up (by omega) ?_ ?_) | exact trivial | (refine opCallI_rd (by simp only [go_sem, Nat.reduceEqDiff, Nat.reduceAdd, Nat.reduceLT, Nat.reduceMul, Nat.reduceSub, ↓reduceIte, reduceCtorEq, Nat.reduceLeDiff, Nat.reduceBEq, Int.reduceBEq, Int.reduceBNe, Int.reduceLT, Int.reduceLE, Int.reduceToNat, Int.reduceGT, Int.reduceGE, Int.reduceEq, Int.reducePow, Nat.reducePow, h, e, e2, e3, Ret_eq Try.results69]; first | done | rfl) (not_fun w) (by rintro _ rfl; rfl) ?_; rintro _ rfl) | (refine opCallI_gv (by simp only [go_sem, Nat.reduceEqDiff, Nat.reduceAdd, Nat.reduceLT, Nat.reduceMul, Nat.reduceSub, ↓reduceIte, reduceCtorEq, Nat.reduceLeDiff, Nat.reduceBEq, Int.reduceBEq, Int.reduceBNe, Int.reduceLT, Int.reduceLE, Int.reduceToNat, Int.reduceGT, Int.reduceGE, Int.reduceEq, Int.reducePow, Nat.reducePow, h, e, e2, e3, Ret_eq Try.results69]; first | done | rfl) (not_fun w) ?_; rintro _ rfl) | (refine opCallI_rd (by simp only [go_sem, Nat.reduceEqDiff, Nat.reduceAdd, Nat.reduceLT, Nat.reduceMul, Nat.reduceSub, ↓reduceIte, reduceCtorEq, Nat.reduceLeDiff, Nat.reduceBEq, Int.reduceBEq, Int.reduceBNe, Int.reduceLT, Int.reduceLE, Int.reduceToNat, Int.reduceGT, Int.reduceGE, Int.reduceEq, Int.reducePow, Nat.reducePow, h, e, e2, e3, Ret_eq Try.results69]; first | done | rfl) (turn_fun v (notW w) hv) (by rintro _ rfl; rfl) ?_; rintro _ rfl) | (refine opCallI_gv (by simp only [go_sem, Nat.reduceEqDiff, Nat.reduceAdd, Nat.reduceLT, Nat.reduceMul, Nat.reduceSub, ↓reduceIte, reduceCtorEq, Nat.reduceLeDiff, Nat.reduceBEq, Int.reduceBEq, Int.reduceBNe, Int.reduceLT, Int.reduceLE, Int.reduceToNat, Int.reduceGT, Int.reduceGE, Int.reduceEq, Int.reducePow, Nat.reducePow, h, e, e2, e3, Ret_eq Try.results69]; first | done | rfl) (turn_fun v (notW w) hv) ?_; rintro _ rfl) | fail)
  · obtain ⟨e1, e2⟩ := turnErr_way (v := v) h
    have h1 : wayErr w = 1 := way_odd fun h' => h (way_even h')
    rw [e1, e2]
    repeat' (first | simp only [go_sem, Nat.reduceEqDiff, Nat.reduceAdd, Nat.reduceLT, Nat.reduceMul, Nat.reduceSub, ↓reduceIte, reduceCtorEq, Nat.reduceLeDiff, Nat.reduceBEq, Int.reduceBEq, Int.reduceBNe, Int.reduceLT, Int.reduceLE, Int.reduceToNat, Int.reduceGT, Int.reduceGE, Int.reduceEq, Int.reducePow, Nat.reducePow, h1, Ret_eq Try.results69] | simp (disch := omega) only [arith, IntKind.bits, capMax, fill_len, elt_fill] | (with_reducible refine condI_beq (fun hq hqb => ?_) (fun hq hqb => ?_) <;> simp only [KP_mk, hqb]) | (with_reducible refine condI_bne (fun hq hqb => ?_) (fun hq hqb => ?_) <;> simp only [KP_mk, hqb]) | (with_reducible refine condI_dec (fun hq hqb => ?_) (fun hq hqb => ?_) <;> simp only [KP_mk, hqb]) | (with_reducible refine condI_b (fun hqb => ?_) (fun hqb => ?_) <;> simp only [KP_mk, hqb]) | refine RetO_calc Try.results69 ?_ | (refine Again.up (by omega) ?_ ?_) | exact trivial | (refine opCallI_rd (by simp only [go_sem, Nat.reduceEqDiff, Nat.reduceAdd, Nat.reduceLT, Nat.reduceMul, Nat.reduceSub, ↓reduceIte, reduceCtorEq, Nat.reduceLeDiff, Nat.reduceBEq, Int.reduceBEq, Int.reduceBNe, Int.reduceLT, Int.reduceLE, Int.reduceToNat, Int.reduceGT, Int.reduceGE, Int.reduceEq, Int.reducePow, Nat.reducePow, h1, Ret_eq Try.results69]; first | done | rfl) (not_fun w) (by rintro _ rfl; rfl) ?_; rintro _ rfl) | (refine opCallI_gv (by simp only [go_sem, Nat.reduceEqDiff, Nat.reduceAdd, Nat.reduceLT, Nat.reduceMul, Nat.reduceSub, ↓reduceIte, reduceCtorEq, Nat.reduceLeDiff, Nat.reduceBEq, Int.reduceBEq, Int.reduceBNe, Int.reduceLT, Int.reduceLE, Int.reduceToNat, Int.reduceGT, Int.reduceGE, Int.reduceEq, Int.reducePow, Nat.reducePow, h1, Ret_eq Try.results69]; first | done | rfl) (not_fun w) ?_; rintro _ rfl) | fail)
    try rfl


theorem twistLive_fun : Fun Try.prog 63 [] fun r => r = .v (.bool true) := by
  refine Fun.of_awpI Try.func63 rfl cal63 Try.ntmps63 (by simp) fun hwf => ?_
  simp only [D.wfs, D.wf, ints_length, ints_wfs, rows_length, rows_wfs, capMax, and_true, true_and] at hwf
  have d1 : turnErr [1, 2] 1 = 0 := by decide +kernel
  have d2 : turnOut [1, 2] 1 = [-2, 1] := by decide +kernel
  repeat' (first | simp only [go_sem, Nat.reduceEqDiff, Nat.reduceAdd, Nat.reduceLT, Nat.reduceMul, Nat.reduceSub, ↓reduceIte, reduceCtorEq, Nat.reduceLeDiff, Nat.reduceBEq, Int.reduceBEq, Int.reduceBNe, Int.reduceLT, Int.reduceLE, Int.reduceToNat, Int.reduceGT, Int.reduceGE, Int.reduceEq, Int.reducePow, Nat.reducePow, d1, d2, ints_cons, ints_nil, Ret_eq Try.results63] | simp (disch := omega) only [arith, IntKind.bits, capMax, fill_len, elt_fill] | (with_reducible refine condI_beq (fun hq hqb => ?_) (fun hq hqb => ?_) <;> simp only [KP_mk, hqb]) | (with_reducible refine condI_bne (fun hq hqb => ?_) (fun hq hqb => ?_) <;> simp only [KP_mk, hqb]) | (with_reducible refine condI_dec (fun hq hqb => ?_) (fun hq hqb => ?_) <;> simp only [KP_mk, hqb]) | (with_reducible refine condI_b (fun hqb => ?_) (fun hqb => ?_) <;> simp only [KP_mk, hqb]) | refine RetO_calc Try.results63 ?_ | (refine Again.up (by omega) ?_ ?_) | exact trivial | (refine opCallI_rd (by simp only [go_sem, Nat.reduceEqDiff, Nat.reduceAdd, Nat.reduceLT, Nat.reduceMul, Nat.reduceSub, ↓reduceIte, reduceCtorEq, Nat.reduceLeDiff, Nat.reduceBEq, Int.reduceBEq, Int.reduceBNe, Int.reduceLT, Int.reduceLE, Int.reduceToNat, Int.reduceGT, Int.reduceGE, Int.reduceEq, Int.reducePow, Nat.reducePow, d1, d2, ints_cons, ints_nil, Ret_eq Try.results63]; first | done | rfl) (turn_fun [1, 2] 1 (by unfold I16s; decide)) (by rintro _ rfl; rfl) ?_; rintro _ rfl) | (refine opCallI_gv (by simp only [go_sem, Nat.reduceEqDiff, Nat.reduceAdd, Nat.reduceLT, Nat.reduceMul, Nat.reduceSub, ↓reduceIte, reduceCtorEq, Nat.reduceLeDiff, Nat.reduceBEq, Int.reduceBEq, Int.reduceBNe, Int.reduceLT, Int.reduceLE, Int.reduceToNat, Int.reduceGT, Int.reduceGE, Int.reduceEq, Int.reducePow, Nat.reducePow, d1, d2, ints_cons, ints_nil, Ret_eq Try.results63]; first | done | rfl) (turn_fun [1, 2] 1 (by unfold I16s; decide)) ?_; rintro _ rfl) | (refine opCallI_rd (by simp only [go_sem, Nat.reduceEqDiff, Nat.reduceAdd, Nat.reduceLT, Nat.reduceMul, Nat.reduceSub, ↓reduceIte, reduceCtorEq, Nat.reduceLeDiff, Nat.reduceBEq, Int.reduceBEq, Int.reduceBNe, Int.reduceLT, Int.reduceLE, Int.reduceToNat, Int.reduceGT, Int.reduceGE, Int.reduceEq, Int.reducePow, Nat.reducePow, d1, d2, ints_cons, ints_nil, Ret_eq Try.results63]; first | done | rfl) (refSame16_fun [-2, 1] [-2, 1]) (by rintro _ rfl; rfl) ?_; rintro _ rfl) | (refine opCallI_gv (by simp only [go_sem, Nat.reduceEqDiff, Nat.reduceAdd, Nat.reduceLT, Nat.reduceMul, Nat.reduceSub, ↓reduceIte, reduceCtorEq, Nat.reduceLeDiff, Nat.reduceBEq, Int.reduceBEq, Int.reduceBNe, Int.reduceLT, Int.reduceLE, Int.reduceToNat, Int.reduceGT, Int.reduceGE, Int.reduceEq, Int.reducePow, Nat.reducePow, d1, d2, ints_cons, ints_nil, Ret_eq Try.results63]; first | done | rfl) (refSame16_fun [-2, 1] [-2, 1]) ?_; rintro _ rfl) | fail)
end Go.Proofs.Ytfmeiapglpphpaa.T
