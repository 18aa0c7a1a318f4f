import Derived.Test.YtpkampecmlpfmaaLE
import Derived.Test.YtpkampecmlpfmaaETrM
import Derived.Test.YtpkampecmlpfmaaESPut
import Derived.Test.YtpkampecmlpfmaaESEq
set_option linter.unusedSimpArgs false
set_option linter.unusedVariables false
/- Lots, and what is checked ahead of a step, walked. -/
namespace Go.Proofs.Ytpkampecmlpfmaa.T
open Go Go.VL Go.Proofs
set_option maxRecDepth 100000
set_option maxHeartbeats 4000000

theorem next_fun (x : Int) : Fun Try.prog 175 [.v (.int .u64 x)] fun r => r = .v (.int .u64 (nxt x)) := by
  refine Fun.of_awpI Try.func175 rfl cal175 Try.ntmps175 (by simp) fun hwf => ?_
  simp only [D.wfs, D.wf, ints_length, ints_wfs, rows_length, rows_wfs, capMax, and_true, true_and] at hwf
  repeat' (first | simp only [go_sem, Ret_eq Try.results175] | simp (disch := omega) only [arith, IntKind.bits, capMax, fill_len, elt_fill] | (with_reducible refine condI_beq (fun hq hqb => ?_) (fun hq hqb => ?_) <;> simp only [KP_mk, hqb]) | (with_reducible refine condI_bne (fun hq hqb => ?_) (fun hq hqb => ?_) <;> simp only [KP_mk, hqb]) | (with_reducible refine condI_dec (fun hq hqb => ?_) (fun hq hqb => ?_) <;> simp only [KP_mk, hqb]) | (with_reducible refine condI_b (fun hqb => ?_) (fun hqb => ?_) <;> simp only [KP_mk, hqb]) | refine RetO_calc Try.results175 ?_ | refine RetL_calc Try.results175 rfl ?_ | (refine Again.up (by omega) ?_ ?_) | exact trivial | fail)
  rw [IntKind.wrap_u64, IntKind.wrap_u64]
  unfold nxt
  omega

theorem bound_fun (n : Int) : Fun Try.prog 156 [.v (.int .i64 n)] fun r => r = .v (.bool (decide (1 ≤ n ∧ n ≤ 2147483648))) := by
  refine Fun.of_awpI Try.func156 rfl cal156 Try.ntmps156 (by simp) fun hwf => ?_
  simp only [D.wfs, D.wf, ints_length, ints_wfs, rows_length, rows_wfs, capMax, and_true, true_and] at hwf
  by_cases h : 1 ≤ n ∧ n ≤ 2147483648
  · rw [decide_eq_true h]
    repeat' (first | simp only [go_sem, Ret_eq Try.results156] | simp (disch := omega) only [arith, IntKind.bits, capMax, fill_len, elt_fill] | (with_reducible refine condI_beq (fun hq hqb => ?_) (fun hq hqb => ?_) <;> simp only [KP_mk, hqb]) | (with_reducible refine condI_bne (fun hq hqb => ?_) (fun hq hqb => ?_) <;> simp only [KP_mk, hqb]) | (with_reducible refine condI_dec (fun hq hqb => ?_) (fun hq hqb => ?_) <;> simp only [KP_mk, hqb]) | (with_reducible refine condI_b (fun hqb => ?_) (fun hqb => ?_) <;> simp only [KP_mk, hqb]) | refine RetO_calc Try.results156 ?_ | refine RetL_calc Try.results156 rfl ?_ | (refine Again.up (by omega) ?_ ?_) | exact trivial | fail)
  · rw [decide_eq_false h]
    by_cases h1 : 1 ≤ n
    · repeat' (first | simp only [go_sem, Ret_eq Try.results156] | simp (disch := omega) only [arith, IntKind.bits, capMax, fill_len, elt_fill] | (with_reducible refine condI_beq (fun hq hqb => ?_) (fun hq hqb => ?_) <;> simp only [KP_mk, hqb]) | (with_reducible refine condI_bne (fun hq hqb => ?_) (fun hq hqb => ?_) <;> simp only [KP_mk, hqb]) | (with_reducible refine condI_dec (fun hq hqb => ?_) (fun hq hqb => ?_) <;> simp only [KP_mk, hqb]) | (with_reducible refine condI_b (fun hqb => ?_) (fun hqb => ?_) <;> simp only [KP_mk, hqb]) | refine RetO_calc Try.results156 ?_ | refine RetL_calc Try.results156 rfl ?_ | (refine Again.up (by omega) ?_ ?_) | exact trivial | fail)
    · repeat' (first | simp only [go_sem, Ret_eq Try.results156] | simp (disch := omega) only [arith, IntKind.bits, capMax, fill_len, elt_fill] | (with_reducible refine condI_beq (fun hq hqb => ?_) (fun hq hqb => ?_) <;> simp only [KP_mk, hqb]) | (with_reducible refine condI_bne (fun hq hqb => ?_) (fun hq hqb => ?_) <;> simp only [KP_mk, hqb]) | (with_reducible refine condI_dec (fun hq hqb => ?_) (fun hq hqb => ?_) <;> simp only [KP_mk, hqb]) | (with_reducible refine condI_b (fun hqb => ?_) (fun hqb => ?_) <;> simp only [KP_mk, hqb]) | refine RetO_calc Try.results156 ?_ | refine RetL_calc Try.results156 rfl ?_ | (refine Again.up (by omega) ?_ ?_) | exact trivial | fail)

theorem lot_fun (x b : Int) (h : 1 ≤ b ∧ b ≤ 2147483648) : Fun Try.prog 157 [.v (.int .u64 x), .v (.int .i64 b)] fun r => r = .tup [.v (.int .i64 (lotOf (nxt x) b)), .v (.int .u64 (nxt x)), .v (.int .i64 0)] := by
  have hb := bound_fun b
  rw [decide_eq_true h] at hb
  have hr := nxt_range x
  have hl := lotOf_range (x := nxt x) h.1
  have hn := next_fun x
  unfold lotOf at hl
  show Fun Try.prog 157 [.v (.int .u64 x), .v (.int .i64 b)] fun r => r = .tup [.v (.int .i64 (nxt x / 8589934592 % b)), .v (.int .u64 (nxt x)), .v (.int .i64 0)]
  generalize nxt x = y at *
  have e1 : y.fdiv 8589934592 = y / 8589934592 := Int.fdiv_eq_ediv_of_nonneg _ (by decide)
  have e2 : (y / 8589934592).tmod b = y / 8589934592 % b := Int.tmod_eq_emod_of_nonneg (by omega)
  have e3 : IntKind.i64.wrap (y / 8589934592 % b) = y / 8589934592 % b := IntWalk.i64_in _ (by omega)
  refine Fun.of_awpI Try.func157 rfl cal157 Try.ntmps157 (by simp) fun hwf => ?_
  simp only [D.wfs, D.wf, ints_length, ints_wfs, rows_length, rows_wfs, capMax, and_true, true_and] at hwf
  repeat' (first | simp only [go_sem, e1, e2, e3, Ret_eq Try.results157] | simp (disch := omega) only [arith, IntKind.bits, capMax, fill_len, elt_fill] | (with_reducible refine condI_beq (fun hq hqb => ?_) (fun hq hqb => ?_) <;> simp only [KP_mk, hqb]) | (with_reducible refine condI_bne (fun hq hqb => ?_) (fun hq hqb => ?_) <;> simp only [KP_mk, hqb]) | (with_reducible refine condI_dec (fun hq hqb => ?_) (fun hq hqb => ?_) <;> simp only [KP_mk, hqb]) | (with_reducible refine condI_b (fun hqb => ?_) (fun hqb => ?_) <;> simp only [KP_mk, hqb]) | refine RetO_calc Try.results157 ?_ | refine RetL_calc Try.results157 rfl ?_ | (refine Again.up (by omega) ?_ ?_) | exact trivial | (refine opCallI_rd (by simp only [go_sem, e1, e2, e3, Ret_eq Try.results157]; first | done | rfl) (hb) (by rintro _ rfl; rfl) ?_; rintro _ rfl) | (refine opCallI_gv (by simp only [go_sem, e1, e2, e3, Ret_eq Try.results157]; first | done | rfl) (hb) ?_; rintro _ rfl) | (refine opCallI_rd (by simp only [go_sem, e1, e2, e3, Ret_eq Try.results157]; first | done | rfl) (hn) (by rintro _ rfl; rfl) ?_; rintro _ rfl) | (refine opCallI_gv (by simp only [go_sem, e1, e2, e3, Ret_eq Try.results157]; first | done | rfl) (hn) ?_; rintro _ rfl) | fail)

theorem lots_own (x b : Int) (n : Nat) (h : 1 ≤ b ∧ b ≤ 2147483648) (hn : n ≤ 4096) : FunO Try.prog 132 [.v (.int .u64 x), .v (.int .i64 n), .v (.int .i64 b)] fun r o => r = .tup [.ref 0 n, .v (.int .u64 (nx x n)), .v (.int .i64 0)] ∧ o = some ⟨3, 1, ints .i64 (lotsL x b n)⟩ := by
  have hb := bound_fun b
  rw [decide_eq_true h] at hb
  refine FunO.of_awpI Try.func132 rfl cal132 Try.ntmps132 (by simp) fun hwf => ?_
  simp only [D.wfs, D.wf, ints_length, ints_wfs, rows_length, rows_wfs, capMax, and_true, true_and] at hwf
  repeat' (first | simp only [go_sem, Ret_eq Try.results132] | simp (disch := omega) only [arith, IntKind.bits, capMax, fill_len, elt_fill] | (with_reducible refine condI_beq (fun hq hqb => ?_) (fun hq hqb => ?_) <;> simp only [KP_mk, hqb]) | (with_reducible refine condI_bne (fun hq hqb => ?_) (fun hq hqb => ?_) <;> simp only [KP_mk, hqb]) | (with_reducible refine condI_dec (fun hq hqb => ?_) (fun hq hqb => ?_) <;> simp only [KP_mk, hqb]) | (with_reducible refine condI_b (fun hqb => ?_) (fun hqb => ?_) <;> simp only [KP_mk, hqb]) | refine RetO_calc Try.results132 ?_ | refine RetL_calc Try.results132 rfl ?_ | (refine Again.up (by omega) ?_ ?_) | exact trivial | (refine opCallI_rd (by simp only [go_sem, Ret_eq Try.results132]; first | done | rfl) (hb) (by rintro _ rfl; rfl) ?_; rintro _ rfl) | (refine opCallI_gv (by simp only [go_sem, Ret_eq Try.results132]; first | done | rfl) (hb) ?_; rintro _ rfl) | fail)
  refine awpI_for n (fun k => True) (fun k => [(0, .v (.int .u64 (nx x k))), (6, .ref 39 k), (24, .v (.int .i64 k))]) (fun k => [(39, ⟨3, 1, ints .i64 (lotsL x b k)⟩)]) [2, 23] [] _ (Weak.adopt (j := 6) 39 3 1 (by simp only [go_sem, Ret_eq Try.results132]) (by simp only [go_sem, Ret_eq Try.results132]) (by decide)) trivial ?_ ?_ ?_
  · simp only [go_sem, nx, Ret_eq Try.results132]
  · simp only [go_sem, lotsL, ints_nil, Ret_eq Try.results132]
  · intro k s hk _ hs
    simp only [go_sem, Ret_eq Try.results132] at hs
    by_cases hka : k < n
    · have hl := lot_fun (nx x k) b h
      have e1 : lotsL x b (k + 1) = lotsL x b k ++ [lotOf (nxt (nx x k)) b] := rfl
      have e2 : nx x (k + 1) = nxt (nx x k) := rfl
      have hle := lotsL_length x b k
      repeat' (first | simp only [go_sem, hs, e1, e2, hle, List.length_append, Ret_eq Try.results132] | simp (disch := omega) only [arith, IntKind.bits, capMax, fill_len, elt_fill] | (with_reducible refine condI_beq (fun hq hqb => ?_) (fun hq hqb => ?_) <;> simp only [KP_mk, hqb]) | (with_reducible refine condI_bne (fun hq hqb => ?_) (fun hq hqb => ?_) <;> simp only [KP_mk, hqb]) | (with_reducible refine condI_dec (fun hq hqb => ?_) (fun hq hqb => ?_) <;> simp only [KP_mk, hqb]) | (with_reducible refine condI_b (fun hqb => ?_) (fun hqb => ?_) <;> simp only [KP_mk, hqb]) | refine RetO_calc Try.results132 ?_ | refine RetL_calc Try.results132 rfl ?_ | (refine Again.up (by omega) ?_ ?_) | exact trivial | (refine opCallI_rd (by simp only [go_sem, hs, e1, e2, hle, List.length_append, Ret_eq Try.results132]; first | done | rfl) (hl) (by rintro _ rfl; rfl) ?_; rintro _ rfl) | (refine opCallI_gv (by simp only [go_sem, hs, e1, e2, hle, List.length_append, Ret_eq Try.results132]; first | done | rfl) (hl) ?_; rintro _ rfl) | fail)
    · obtain rfl : k = n := by omega
      have hle := lotsL_length x b k
      repeat' (first | simp only [go_sem, hs, hle, Ret_eq Try.results132] | simp (disch := omega) only [arith, IntKind.bits, capMax, fill_len, elt_fill] | (with_reducible refine condI_beq (fun hq hqb => ?_) (fun hq hqb => ?_) <;> simp only [KP_mk, hqb]) | (with_reducible refine condI_bne (fun hq hqb => ?_) (fun hq hqb => ?_) <;> simp only [KP_mk, hqb]) | (with_reducible refine condI_dec (fun hq hqb => ?_) (fun hq hqb => ?_) <;> simp only [KP_mk, hqb]) | (with_reducible refine condI_b (fun hqb => ?_) (fun hqb => ?_) <;> simp only [KP_mk, hqb]) | refine RetO_calc Try.results132 ?_ | refine RetL_calc Try.results132 rfl ?_ | (refine Again.up (by omega) ?_ ?_) | exact trivial | fail)
theorem lots_fun (x b : Int) (n : Nat) (h : 1 ≤ b ∧ b ≤ 2147483648) (hn : n ≤ 4096) : Fun Try.prog 132 [.v (.int .u64 x), .v (.int .i64 n), .v (.int .i64 b)] fun r => r = .tup [.lst (ints .i64 (lotsL x b n)), .v (.int .u64 (nx x n)), .v (.int .i64 0)] := by
  refine (lots_own x b n h hn).toFun ?_
  rintro r o ⟨rfl, rfl⟩
  have hle := lotsL_length x b n
  have ht : (lotsL x b n).take n = lotsL x b n := List.take_of_length_le (by omega)
  refine ⟨by simp only [go_sem, hle, ht, Ret_eq Try.results132], by simp only [go_sem, hle, ht, Ret_eq Try.results132], ?_⟩
  simp only [go_sem, hle, ht, Ret_eq Try.results132]
end Go.Proofs.Ytpkampecmlpfmaa.T
