import Derived.Test.YtfmeiapglpphpaaDoorDABoundsB
import Derived.Test.YtfmeiapglpphpaaDoorDABoundsC
set_option linter.unusedSimpArgs false
set_option linter.unusedVariables false
/- A law on what is asked: bounds. -/
namespace Go.Proofs.YtfmeiapglpphpaaDoor.T
open Go Go.VL Go.Proofs
set_option maxRecDepth 100000
set_option maxHeartbeats 16000000

theorem askBounds_law (k id n s : Int) (v : List Int) (dim slots other kk cut : Int) (hv : I16s v) (hn : -9223372036854775808 ≤ n ∧ n ≤ 9223372036854775807) (hkc : -9223372036854775808 ≤ cut ∧ cut ≤ 9223372036854775807) :
    Fun Tryd.prog 3 [askD k id n s v, .v (.int .i64 dim), .v (.int .i64 slots), .v (.int .i64 other), .v (.int .i64 kk), .v (.int .i64 cut)] fun r => r = .v (.bool true) := by
  by_cases g1 : v.length ≤ 300
  · by_cases w : askErr k id n s v dim slots = 0
    · obtain ⟨k1, k8⟩ := (askErr_ok w).2.1
      by_cases h12 : k = 1 ∨ k = 2
      · exact askBounds_named k id n s v dim slots other kk cut hv hn g1 w hkc h12
      · by_cases h5 : k = 5
        · exact askBounds_query k id n s v dim slots other kk cut hv hn g1 w hkc h5
        · exact askBounds_plain k id n s v dim slots other kk cut hv hn g1 w hkc (by omega)
    · have hw2 := write18_bad k id n s v dim slots w
      have wb : (askErr k id n s v dim slots != 0) = true := bne_iff_ne.2 w
      refine Fun.of_awpI Tryd.func3 rfl cal3 Tryd.ntmps3 (by simp) fun hwf => ?_
      simp only [D.wfs, D.wf, ints_length, ints_wfs, rows_length, rows_wfs, capMax, and_true, true_and] at hwf
      repeat' (first | simp only [go_sem, Nat.reduceEqDiff, Nat.reduceAdd, Nat.reduceLT, Nat.reduceMul, Nat.reduceSub, ↓reduceIte, reduceCtorEq, Nat.reduceLeDiff, Nat.reduceBEq, Int.reduceBEq, Int.reduceBNe, Int.reduceLT, Int.reduceLE, Int.reduceToNat, Int.reduceGT, Int.reduceGE, Int.reduceEq, Int.reducePow, Nat.reducePow, wb, Ret_eq Tryd.results3] | simp (disch := omega) only [arith, IntKind.bits, capMax, fill_len, elt_fill] | (with_reducible refine condI_beq (fun hq hqb => ?_) (fun hq hqb => ?_) <;> simp only [KP_mk, hqb]) | (with_reducible refine condI_bne (fun hq hqb => ?_) (fun hq hqb => ?_) <;> simp only [KP_mk, hqb]) | (with_reducible refine condI_dec (fun hq hqb => ?_) (fun hq hqb => ?_) <;> simp only [KP_mk, hqb]) | (with_reducible refine condI_b (fun hqb => ?_) (fun hqb => ?_) <;> simp only [KP_mk, hqb]) | refine RetO_calc Tryd.results3 ?_ | refine RetL_calc Tryd.results3 rfl ?_ | (refine Again.up (by omega) ?_ ?_) | exact trivial | (refine opCallI_rd (by simp only [go_sem, Nat.reduceEqDiff, ↓reduceIte, reduceCtorEq, Nat.reduceLeDiff, Nat.reduceBEq, wb, Ret_eq Tryd.results3]; first | done | rfl) (askLive_fun) (by rintro _ rfl; rfl) ?_; rintro _ rfl) | (refine opCallI_gv (by simp only [go_sem, Nat.reduceEqDiff, ↓reduceIte, reduceCtorEq, Nat.reduceLeDiff, Nat.reduceBEq, wb, Ret_eq Tryd.results3]; first | done | rfl) (askLive_fun) ?_; rintro _ rfl) | (refine opCallI_rd (by simp only [go_sem, Nat.reduceEqDiff, ↓reduceIte, reduceCtorEq, Nat.reduceLeDiff, Nat.reduceBEq, wb, Ret_eq Tryd.results3]; first | done | rfl) (hw2) (by rintro _ rfl; rfl) ?_; rintro _ rfl) | (refine opCallI_gv (by simp only [go_sem, Nat.reduceEqDiff, ↓reduceIte, reduceCtorEq, Nat.reduceLeDiff, Nat.reduceBEq, wb, Ret_eq Tryd.results3]; first | done | rfl) (hw2) ?_; rintro _ rfl) | fail)
  · skip
    refine Fun.of_awpI Tryd.func3 rfl cal3 Tryd.ntmps3 (by simp) fun hwf => ?_
    simp only [D.wfs, D.wf, ints_length, ints_wfs, rows_length, rows_wfs, capMax, and_true, true_and] at hwf
    repeat' (first | simp only [go_sem, Nat.reduceEqDiff, Nat.reduceAdd, Nat.reduceLT, Nat.reduceMul, Nat.reduceSub, ↓reduceIte, reduceCtorEq, Nat.reduceLeDiff, Nat.reduceBEq, Int.reduceBEq, Int.reduceBNe, Int.reduceLT, Int.reduceLE, Int.reduceToNat, Int.reduceGT, Int.reduceGE, Int.reduceEq, Int.reducePow, Nat.reducePow, Ret_eq Tryd.results3] | simp (disch := omega) only [arith, IntKind.bits, capMax, fill_len, elt_fill] | (with_reducible refine condI_beq (fun hq hqb => ?_) (fun hq hqb => ?_) <;> simp only [KP_mk, hqb]) | (with_reducible refine condI_bne (fun hq hqb => ?_) (fun hq hqb => ?_) <;> simp only [KP_mk, hqb]) | (with_reducible refine condI_dec (fun hq hqb => ?_) (fun hq hqb => ?_) <;> simp only [KP_mk, hqb]) | (with_reducible refine condI_b (fun hqb => ?_) (fun hqb => ?_) <;> simp only [KP_mk, hqb]) | refine RetO_calc Tryd.results3 ?_ | refine RetL_calc Tryd.results3 rfl ?_ | (refine Again.up (by omega) ?_ ?_) | exact trivial | (refine opCallI_rd (by simp only [go_sem, Nat.reduceEqDiff, ↓reduceIte, reduceCtorEq, Nat.reduceLeDiff, Nat.reduceBEq, Ret_eq Tryd.results3]; first | done | rfl) (askLive_fun) (by rintro _ rfl; rfl) ?_; rintro _ rfl) | (refine opCallI_gv (by simp only [go_sem, Nat.reduceEqDiff, ↓reduceIte, reduceCtorEq, Nat.reduceLeDiff, Nat.reduceBEq, Ret_eq Tryd.results3]; first | done | rfl) (askLive_fun) ?_; rintro _ rfl) | fail)
end Go.Proofs.YtfmeiapglpphpaaDoor.T
