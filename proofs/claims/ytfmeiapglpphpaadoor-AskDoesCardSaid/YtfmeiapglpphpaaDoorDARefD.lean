import Derived.Test.YtfmeiapglpphpaaDoorDARefC
set_option linter.unusedSimpArgs false
set_option linter.unusedVariables false
/- The document's answer on what is asked, read, walked: one of the shapes. -/
namespace Go.Proofs.YtfmeiapglpphpaaDoor.T
open Go Go.VL Go.Proofs
set_option maxRecDepth 100000
set_option maxHeartbeats 8000000
theorem takeAcc_le {w : Int} {b : List Int} : ∀ (j : Nat), takeAcc w b j ≤ 9223372036854775807
  | 0 => by simp only [takeAcc]; decide
  | j + 1 => by
    rw [takeAcc]
    simp only [abits]
    rw [IntKind.wrap_i64]
    omega
theorem takeNum_le {w : Int} {b : List Int} : takeNum w b ≤ 9223372036854775807 := by
  unfold takeNum
  have h := takeAcc_le (w := w) (b := b) w.toNat
  rw [Int.fdiv_eq_ediv_of_nonneg _ (Int.pow_nonneg (by decide))]
  have hp : (0 : Int) < 2 ^ (64 - 8 * w).toNat := Int.pow_pos (by decide)
  generalize (2 : Int) ^ (64 - 8 * w).toNat = p at *
  generalize takeAcc w b w.toNat = x at *
  by_cases h0 : 0 ≤ x
  · exact Int.le_trans (Int.ediv_le_self p h0) h
  · have := Int.ediv_neg_of_neg_of_pos (show x < 0 by omega) hp
    omega

theorem refRead18_sizes (b : List Int) (dim slots : Int) (h : ¬ sizesOk dim slots) : FunO Tryd.prog 11 [.lst (ints .u8 b), .v (.int .i64 dim), .v (.int .i64 slots)] (ReadR b dim slots) := by
  have sz := refSizes_fun dim slots
  rw [decide_eq_false h] at sz
  have he : readErr b dim slots = 1 := if_pos h
  refine FunO.of_awpI Tryd.func11 rfl cal11 Tryd.ntmps11 (by simp) fun hwf => ?_
  simp only [D.wfs, D.wf, ints_length, ints_wfs, rows_length, rows_wfs, capMax, and_true, true_and] at hwf
  repeat' (first | simp only [go_sem, Ret_eq Tryd.results11] | simp (disch := omega) only [arith, IntKind.bits, capMax, fill_len, elt_fill] | (with_reducible refine condI_beq (fun hq hqb => ?_) (fun hq hqb => ?_) <;> simp only [KP_mk, hqb]) | (with_reducible refine condI_bne (fun hq hqb => ?_) (fun hq hqb => ?_) <;> simp only [KP_mk, hqb]) | (with_reducible refine condI_dec (fun hq hqb => ?_) (fun hq hqb => ?_) <;> simp only [KP_mk, hqb]) | (with_reducible refine condI_b (fun hqb => ?_) (fun hqb => ?_) <;> simp only [KP_mk, hqb]) | refine RetO_calc Tryd.results11 ?_ | refine RetL_calc Tryd.results11 rfl ?_ | (refine Again.up (by omega) ?_ ?_) | exact trivial | (refine opCallI_rd (by simp only [go_sem, Ret_eq Tryd.results11]; first | done | rfl) (sz) (by rintro _ rfl; rfl) ?_; rintro _ rfl) | (refine opCallI_gv (by simp only [go_sem, Ret_eq Tryd.results11]; first | done | rfl) (sz) ?_; rintro _ rfl) | fail)
  exact ReadR.bad he (by decide)

theorem refRead18_head (b : List Int) (dim slots : Int) (ho : Octets b) (h : sizesOk dim slots) (hf : ¬ (1 ≤ b.length ∧ kindOk (b.getD 0 0))) : FunO Tryd.prog 11 [.lst (ints .u8 b), .v (.int .i64 dim), .v (.int .i64 slots)] (ReadR b dim slots) := by
  have sz := refSizes_fun dim slots
  rw [decide_eq_true h] at sz
  have he : readErr b dim slots = 2 := by unfold readErr; rw [if_neg (fun q => q h), if_pos (fun q => hf ⟨q.1, q.2.1⟩)]
  by_cases h0 : b.length = 0
  · skip
    refine FunO.of_awpI Tryd.func11 rfl cal11 Tryd.ntmps11 (by simp) fun hwf => ?_
    simp only [D.wfs, D.wf, ints_length, ints_wfs, rows_length, rows_wfs, capMax, and_true, true_and] at hwf
    repeat' (first | simp only [go_sem, h0, Ret_eq Tryd.results11] | simp (disch := omega) only [arith, IntKind.bits, capMax, fill_len, elt_fill] | (with_reducible refine condI_beq (fun hq hqb => ?_) (fun hq hqb => ?_) <;> simp only [KP_mk, hqb]) | (with_reducible refine condI_bne (fun hq hqb => ?_) (fun hq hqb => ?_) <;> simp only [KP_mk, hqb]) | (with_reducible refine condI_dec (fun hq hqb => ?_) (fun hq hqb => ?_) <;> simp only [KP_mk, hqb]) | (with_reducible refine condI_b (fun hqb => ?_) (fun hqb => ?_) <;> simp only [KP_mk, hqb]) | refine RetO_calc Tryd.results11 ?_ | refine RetL_calc Tryd.results11 rfl ?_ | (refine Again.up (by omega) ?_ ?_) | exact trivial | (refine opCallI_rd (by simp only [go_sem, h0, Ret_eq Tryd.results11]; first | done | rfl) (sz) (by rintro _ rfl; rfl) ?_; rintro _ rfl) | (refine opCallI_gv (by simp only [go_sem, h0, Ret_eq Tryd.results11]; first | done | rfl) (sz) ?_; rintro _ rfl) | fail)
    exact ReadR.bad he (by decide)
  · have h8 := ho _ (getD_mem (d := 0) (show 0 < b.length by omega))
    by_cases hk1 : 1 ≤ b.getD 0 0
    · have hk2 : ¬ b.getD 0 0 ≤ 8 := fun q => hf ⟨by omega, hk1, q⟩
      refine FunO.of_awpI Tryd.func11 rfl cal11 Tryd.ntmps11 (by simp) fun hwf => ?_
      simp only [D.wfs, D.wf, ints_length, ints_wfs, rows_length, rows_wfs, capMax, and_true, true_and] at hwf
      repeat' (first | simp only [go_sem, Ret_eq Tryd.results11] | simp (disch := omega) only [arith, IntKind.bits, capMax, fill_len, elt_fill] | (with_reducible refine condI_beq (fun hq hqb => ?_) (fun hq hqb => ?_) <;> simp only [KP_mk, hqb]) | (with_reducible refine condI_bne (fun hq hqb => ?_) (fun hq hqb => ?_) <;> simp only [KP_mk, hqb]) | (with_reducible refine condI_dec (fun hq hqb => ?_) (fun hq hqb => ?_) <;> simp only [KP_mk, hqb]) | (with_reducible refine condI_b (fun hqb => ?_) (fun hqb => ?_) <;> simp only [KP_mk, hqb]) | refine RetO_calc Tryd.results11 ?_ | refine RetL_calc Tryd.results11 rfl ?_ | (refine Again.up (by omega) ?_ ?_) | exact trivial | (refine opCallI_rd (by simp only [go_sem, Ret_eq Tryd.results11]; first | done | rfl) (sz) (by rintro _ rfl; rfl) ?_; rintro _ rfl) | (refine opCallI_gv (by simp only [go_sem, Ret_eq Tryd.results11]; first | done | rfl) (sz) ?_; rintro _ rfl) | fail)
      exact ReadR.bad he (by decide)
    · skip
      refine FunO.of_awpI Tryd.func11 rfl cal11 Tryd.ntmps11 (by simp) fun hwf => ?_
      simp only [D.wfs, D.wf, ints_length, ints_wfs, rows_length, rows_wfs, capMax, and_true, true_and] at hwf
      repeat' (first | simp only [go_sem, Ret_eq Tryd.results11] | simp (disch := omega) only [arith, IntKind.bits, capMax, fill_len, elt_fill] | (with_reducible refine condI_beq (fun hq hqb => ?_) (fun hq hqb => ?_) <;> simp only [KP_mk, hqb]) | (with_reducible refine condI_bne (fun hq hqb => ?_) (fun hq hqb => ?_) <;> simp only [KP_mk, hqb]) | (with_reducible refine condI_dec (fun hq hqb => ?_) (fun hq hqb => ?_) <;> simp only [KP_mk, hqb]) | (with_reducible refine condI_b (fun hqb => ?_) (fun hqb => ?_) <;> simp only [KP_mk, hqb]) | refine RetO_calc Tryd.results11 ?_ | refine RetL_calc Tryd.results11 rfl ?_ | (refine Again.up (by omega) ?_ ?_) | exact trivial | (refine opCallI_rd (by simp only [go_sem, Ret_eq Tryd.results11]; first | done | rfl) (sz) (by rintro _ rfl; rfl) ?_; rintro _ rfl) | (refine opCallI_gv (by simp only [go_sem, Ret_eq Tryd.results11]; first | done | rfl) (sz) ?_; rintro _ rfl) | fail)
      exact ReadR.bad he (by decide)
end Go.Proofs.YtfmeiapglpphpaaDoor.T
