import Derived.Test.YtpkampecmlpfmaaLE
import Derived.Test.YtpkampecmlpfmaaEQLive
import Derived.Test.YtpkampecmlpfmaaETRefTurn
set_option linter.unusedSimpArgs false
set_option linter.unusedVariables false
/- The document's codes and boxes, walked. -/
namespace Go.Proofs.Ytpkampecmlpfmaa.T
open Go Go.VL Go.Proofs
set_option maxRecDepth 100000
set_option maxHeartbeats 4000000
theorem cutsErr_bad {c : List Int} {k : Nat} (hk : k < c.length) (h : c.getD k 0 < -32767 ∨ (0 < k ∧ c.getD k 0 < c.getD (k - 1) 0)) : cutsErr c = 1 := by
  refine cutsErr_one fun ok => ?_
  have h1 := ok.2.1.le (i := 0) (j := k) (by omega) hk
  have h2 := ok.2.2 (by omega)
  rcases h with h | ⟨h3, h⟩
  · omega
  · have := ok.2.1.le (i := k - 1) (j := k) (by omega) hk
    omega
theorem cutsErr_all {c : List Int} (hl : c.length ≤ 15) (h : ∀ i, i < c.length → -32767 ≤ c.getD i 0 ∧ (0 < i → c.getD (i - 1) 0 ≤ c.getD i 0)) : cutsErr c = 0 :=
  cutsErr_zero.2 ⟨hl, fun i hi => (h (i + 1) hi).2 (by omega), fun h0 => (h 0 h0).1⟩

theorem refCutsCheck_fun (c : List Int) (hc : I16s c) : Fun Try.prog 149 [.lst (ints .i16 c)] fun r => r = .v (.int .i64 (cutsErr c)) := by
  refine Fun.of_awpI Try.func149 rfl cal149 Try.ntmps149 (by simp) fun hwf => ?_
  simp only [D.wfs, D.wf, ints_length, ints_wfs, rows_length, rows_wfs, capMax, and_true, true_and] at hwf
  by_cases hl : c.length ≤ 15
  · repeat' (first | simp only [go_sem, Ret_eq Try.results149] | simp (disch := omega) only [arith, IntKind.bits, capMax, fill_len, elt_fill] | (with_reducible refine condI_beq (fun hq hqb => ?_) (fun hq hqb => ?_) <;> simp only [KP_mk, hqb]) | (with_reducible refine condI_bne (fun hq hqb => ?_) (fun hq hqb => ?_) <;> simp only [KP_mk, hqb]) | (with_reducible refine condI_dec (fun hq hqb => ?_) (fun hq hqb => ?_) <;> simp only [KP_mk, hqb]) | (with_reducible refine condI_b (fun hqb => ?_) (fun hqb => ?_) <;> simp only [KP_mk, hqb]) | refine RetO_calc Try.results149 ?_ | refine RetL_calc Try.results149 rfl ?_ | (refine Again.up (by omega) ?_ ?_) | exact trivial | fail)
    refine awpI_for c.length (fun k => ∀ i, i < k → -32767 ≤ c.getD i 0 ∧ (0 < i → c.getD (i - 1) 0 ≤ c.getD i 0)) (fun k => [(10, .v (.int .i64 k))]) (fun _ => []) [0, 8, 9] [] _ (Weak.refl _) (fun i hi => by omega) ?_ ?_ ?_
    · simp only [go_sem, Ret_eq Try.results149]
    · simp only [go_sem, Ret_eq Try.results149]
    · intro k s hk hQ hs
      simp only [go_sem, Ret_eq Try.results149] at hs
      by_cases hka : k < c.length
      · have b1 := hc.getD k
        have t1 : ((k : Int) - 1).toNat = k - 1 := by omega
        have bad := cutsErr_bad hka
        repeat' (first | simp only [go_sem, hs, t1, Ret_eq Try.results149] | simp (disch := omega) only [arith, IntKind.bits, capMax, fill_len, elt_fill] | (with_reducible refine condI_beq (fun hq hqb => ?_) (fun hq hqb => ?_) <;> simp only [KP_mk, hqb]) | (with_reducible refine condI_bne (fun hq hqb => ?_) (fun hq hqb => ?_) <;> simp only [KP_mk, hqb]) | (with_reducible refine condI_dec (fun hq hqb => ?_) (fun hq hqb => ?_) <;> simp only [KP_mk, hqb]) | (with_reducible refine condI_b (fun hqb => ?_) (fun hqb => ?_) <;> simp only [KP_mk, hqb]) | refine RetO_calc Try.results149 ?_ | refine RetL_calc Try.results149 rfl ?_ | (refine Again.up (by omega) ?_ ?_) | exact trivial | fail)
        all_goals first
          | (rw [bad (by omega)]; done)
          | (intro i hi
             by_cases hik : i = k
             · subst hik; omega
             · exact hQ i (by omega))
      · obtain rfl : k = c.length := by omega
        repeat' (first | simp only [go_sem, hs, Ret_eq Try.results149] | simp (disch := omega) only [arith, IntKind.bits, capMax, fill_len, elt_fill] | (with_reducible refine condI_beq (fun hq hqb => ?_) (fun hq hqb => ?_) <;> simp only [KP_mk, hqb]) | (with_reducible refine condI_bne (fun hq hqb => ?_) (fun hq hqb => ?_) <;> simp only [KP_mk, hqb]) | (with_reducible refine condI_dec (fun hq hqb => ?_) (fun hq hqb => ?_) <;> simp only [KP_mk, hqb]) | (with_reducible refine condI_b (fun hqb => ?_) (fun hqb => ?_) <;> simp only [KP_mk, hqb]) | refine RetO_calc Try.results149 ?_ | refine RetL_calc Try.results149 rfl ?_ | (refine Again.up (by omega) ?_ ?_) | exact trivial | fail)
        rw [cutsErr_all hl hQ]
  · rw [cutsErr_one fun q => hl q.1]
    repeat' (first | simp only [go_sem, Ret_eq Try.results149] | simp (disch := omega) only [arith, IntKind.bits, capMax, fill_len, elt_fill] | (with_reducible refine condI_beq (fun hq hqb => ?_) (fun hq hqb => ?_) <;> simp only [KP_mk, hqb]) | (with_reducible refine condI_bne (fun hq hqb => ?_) (fun hq hqb => ?_) <;> simp only [KP_mk, hqb]) | (with_reducible refine condI_dec (fun hq hqb => ?_) (fun hq hqb => ?_) <;> simp only [KP_mk, hqb]) | (with_reducible refine condI_b (fun hqb => ?_) (fun hqb => ?_) <;> simp only [KP_mk, hqb]) | refine RetO_calc Try.results149 ?_ | refine RetL_calc Try.results149 rfl ?_ | (refine Again.up (by omega) ?_ ?_) | exact trivial | fail)
theorem cellOf_take {c : List Int} {x : Int} {k : Nat} (h : k < c.length) : cellOf (c.take (k + 1)) x = cellOf (c.take k) x + if c.getD k 0 ≤ x then 1 else 0 := by
  unfold cellOf; rw [take_snoc (d := 0) h, List.countP_append]; simp