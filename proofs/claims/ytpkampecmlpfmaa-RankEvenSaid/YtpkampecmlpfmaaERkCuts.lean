import Derived.Test.YtpkampecmlpfmaaLE
import Derived.Test.YtpkampecmlpfmaaERkW
set_option linter.unusedSimpArgs false
set_option linter.unusedVariables false
/- Where a list is cut, walked over what slices.Sorted does. -/
namespace Go.Proofs.Ytpkampecmlpfmaa.T
open Go Go.VL Go.Proofs
set_option maxRecDepth 100000
set_option maxHeartbeats 8000000

theorem values16_fun (l : List Int) : Fun Try.prog 90 [.lst (ints .i16 l)] fun r => r = .clos (.func 139) [.ptr (.lst (ints .i16 l))] := by
  refine Fun.of_awpI Try.func90 rfl cal90 Try.ntmps90 (by simp) fun hwf => ?_
  simp only [D.wfs, D.wf, ints_length, ints_wfs, rows_length, rows_wfs, capMax, and_true, true_and] at hwf
  repeat' (first | simp only [go_sem, Ret_eq Try.results90] | simp (disch := omega) only [arith, IntKind.bits, capMax, fill_len, elt_fill] | (with_reducible refine condI_beq (fun hq hqb => ?_) (fun hq hqb => ?_) <;> simp only [KP_mk, hqb]) | (with_reducible refine condI_bne (fun hq hqb => ?_) (fun hq hqb => ?_) <;> simp only [KP_mk, hqb]) | (with_reducible refine condI_dec (fun hq hqb => ?_) (fun hq hqb => ?_) <;> simp only [KP_mk, hqb]) | (with_reducible refine condI_b (fun hqb => ?_) (fun hqb => ?_) <;> simp only [KP_mk, hqb]) | refine RetO_calc Try.results90 ?_ | refine RetL_calc Try.results90 rfl ?_ | (refine Again.up (by omega) ?_ ?_) | exact trivial | fail)
def Sorted16 : Prop := ∀ l : List Int, 1 ≤ l.length → l.length ≤ 60000 → FunO Try.prog 89 [.clos (.func 139) [.ptr (.lst (ints .i16 l))]] fun r o => r = .ref 0 l.length ∧ o = some ⟨23, 1, ints .i16 (sortI l)⟩
theorem fill_cuts {l : List Int} {n : Nat} : fill (fun i => (sortI l).getD ((i + 1) * l.length / n) 0) (List.replicate (n - 1) 0) (n - 1) = cutsL l n := by
  have := fill_all (f := fun i => (sortI l).getD ((i + 1) * l.length / n) 0) (a := List.replicate (n - 1) 0)
  rw [List.length_replicate] at this
  exact this

theorem rkCuts_fun (hS : Sorted16) (l : List Int) (cells : Int) (hl : l.length ≤ 60000) : Fun Try.prog 25 [.lst (ints .i16 l), .v (.int .i64 cells)] fun r => r = .tup [.lst (ints .i16 (rkOut l cells)), .v (.int .i64 (rkE l cells))] := by
  have hcf := containsFunc16_fun l oddB 88 (fun x => rankOdd_fun x)
  by_cases h : rkE l cells = 0
  · have e1 : rkOut l cells = cutsL l cells.toNat := if_pos h
    rw [e1, h]
    obtain ⟨h1, ⟨h2, h3⟩, h4, h5⟩ := rkE_zero.1 h
    obtain ⟨n, rfl⟩ := Int.eq_ofNat_of_zero_le (show 0 ≤ cells by omega)
    rw [Int.toNat_natCast]
    rw [h4] at hcf
    have hv := values16_fun l
    have hso := hS l h5 hl
    have hsl := sortI_length l
    have en : (n : Int) - 1 = ((n - 1 : Nat) : Int) := by omega
    have hne : ((l.length : Int) == 0) = false := beq_eq_false_iff_ne.2 (by omega)
    refine Fun.of_awpI Try.func25 rfl cal25 Try.ntmps25 (by simp) fun hwf => ?_
    simp only [D.wfs, D.wf, ints_length, ints_wfs, rows_length, rows_wfs, capMax, and_true, true_and] at hwf
    repeat' (first | simp only [go_sem, en, hne, Int.toNat_natCast, Ret_eq Try.results25] | simp (disch := omega) only [arith, IntKind.bits, capMax, fill_len, elt_fill] | (with_reducible refine condI_beq (fun hq hqb => ?_) (fun hq hqb => ?_) <;> simp only [KP_mk, hqb]) | (with_reducible refine condI_bne (fun hq hqb => ?_) (fun hq hqb => ?_) <;> simp only [KP_mk, hqb]) | (with_reducible refine condI_dec (fun hq hqb => ?_) (fun hq hqb => ?_) <;> simp only [KP_mk, hqb]) | (with_reducible refine condI_b (fun hqb => ?_) (fun hqb => ?_) <;> simp only [KP_mk, hqb]) | refine RetO_calc Try.results25 ?_ | refine RetL_calc Try.results25 rfl ?_ | (refine Again.up (by omega) ?_ ?_) | exact trivial | (refine opCallI_rd (by simp only [go_sem, en, hne, Int.toNat_natCast, Ret_eq Try.results25]; first | done | rfl) (hcf) (by rintro _ rfl; rfl) ?_; rintro _ rfl) | (refine opCallI_gv (by simp only [go_sem, en, hne, Int.toNat_natCast, Ret_eq Try.results25]; first | done | rfl) (hcf) ?_; rintro _ rfl) | (refine opCallI_rd (by simp only [go_sem, en, hne, Int.toNat_natCast, Ret_eq Try.results25]; first | done | rfl) (hv) (by rintro _ rfl; rfl) ?_; rintro _ rfl) | (refine opCallI_gv (by simp only [go_sem, en, hne, Int.toNat_natCast, Ret_eq Try.results25]; first | done | rfl) (hv) ?_; rintro _ rfl) | (refine opCallI_ownGv (by simp only [go_sem, en, hne, Int.toNat_natCast, Ret_eq Try.results25]; first | done | rfl) (hso) ?_; rintro _ _ ⟨rfl, rfl⟩) | fail)
    refine awpI_for (n - 1) (fun k => True) (fun k => [(36, .v (.int .i64 k))]) (fun k => [(33, ⟨23, 1, ints .i16 (fill (fun i => (sortI l).getD ((i + 1) * l.length / n) 0) (List.replicate (n - 1) 0) k)⟩)]) [0, 1, 6, 7, 35] [30] _ (Weak.refl _) trivial ?_ ?_ ?_
    · simp only [go_sem, Ret_eq Try.results25]
    · simp only [go_sem, fill_zero, Ret_eq Try.results25]
    · intro k s hk _ hs
      simp only [go_sem, Ret_eq Try.results25] at hs
      by_cases hka : k < n - 1
      · have hlt := cutsL_idx (l := l) hka h5
        have e2 := fill_set (f := fun i => (sortI l).getD ((i + 1) * l.length / n) 0) (a := List.replicate (n - 1) 0) (k := k) (by simpa using hka)
        have el : (fill (fun i => (sortI l).getD ((i + 1) * l.length / n) 0) (List.replicate (n - 1) 0) k).length = n - 1 := by rw [fill_len (by simp; omega)]; simp
        have em : ((k + 1 : Nat) : Int) * (l.length : Int) = (((k + 1) * l.length : Nat) : Int) := (Int.natCast_mul _ _).symm
        have hmb : (k + 1) * l.length ≤ 16 * 4096 := Nat.mul_le_mul (by omega) h1
        have ed : (((k + 1) * l.length : Nat) : Int) / (n : Int) = (((k + 1) * l.length / n : Nat) : Int) := (Int.natCast_ediv _ _).symm
        have edt : (((k + 1) * l.length : Nat) : Int).tdiv (n : Int) = (((k + 1) * l.length / n : Nat) : Int) := by rw [Int.tdiv_eq_ediv_of_nonneg (by omega)]; exact ed
        obtain ⟨q, hq⟩ : ∃ q, (k + 1) * l.length / n = q := ⟨_, rfl⟩
        rw [hq] at e2 hlt ed edt
        repeat' (first | simp only [go_sem, hs, em, ed, edt, hsl, el, e2, Ret_eq Try.results25] | simp (disch := omega) only [arith, IntKind.bits, capMax, fill_len, elt_fill] | (with_reducible refine condI_beq (fun hq hqb => ?_) (fun hq hqb => ?_) <;> simp only [KP_mk, hqb]) | (with_reducible refine condI_bne (fun hq hqb => ?_) (fun hq hqb => ?_) <;> simp only [KP_mk, hqb]) | (with_reducible refine condI_dec (fun hq hqb => ?_) (fun hq hqb => ?_) <;> simp only [KP_mk, hqb]) | (with_reducible refine condI_b (fun hqb => ?_) (fun hqb => ?_) <;> simp only [KP_mk, hqb]) | refine RetO_calc Try.results25 ?_ | refine RetL_calc Try.results25 rfl ?_ | (refine Again.up (by omega) ?_ ?_) | exact trivial | fail)
      · obtain rfl : k = n - 1 := by omega
        rw [fill_cuts] at hs
        have hcl := cutsL_length (l := l) (n := n)
        have ht : (cutsL l n).take (n - 1) = cutsL l n := List.take_of_length_le (by omega)
        repeat' (first | simp only [go_sem, hs, hcl, ht, Ret_eq Try.results25] | simp (disch := omega) only [arith, IntKind.bits, capMax, fill_len, elt_fill] | (with_reducible refine condI_beq (fun hq hqb => ?_) (fun hq hqb => ?_) <;> simp only [KP_mk, hqb]) | (with_reducible refine condI_bne (fun hq hqb => ?_) (fun hq hqb => ?_) <;> simp only [KP_mk, hqb]) | (with_reducible refine condI_dec (fun hq hqb => ?_) (fun hq hqb => ?_) <;> simp only [KP_mk, hqb]) | (with_reducible refine condI_b (fun hqb => ?_) (fun hqb => ?_) <;> simp only [KP_mk, hqb]) | refine RetO_calc Try.results25 ?_ | refine RetL_calc Try.results25 rfl ?_ | (refine Again.up (by omega) ?_ ?_) | exact trivial | fail)
  · have e1 : rkOut l cells = [] := if_neg h
    rw [e1]
    by_cases h1 : 4096 < l.length
    · rw [show rkE l cells = 3 from if_pos h1]
      refine Fun.of_awpI Try.func25 rfl cal25 Try.ntmps25 (by simp) fun hwf => ?_
      simp only [D.wfs, D.wf, ints_length, ints_wfs, rows_length, rows_wfs, capMax, and_true, true_and] at hwf
      repeat' (first | simp only [go_sem, ints_nil, Ret_eq Try.results25] | simp (disch := omega) only [arith, IntKind.bits, capMax, fill_len, elt_fill] | (with_reducible refine condI_beq (fun hq hqb => ?_) (fun hq hqb => ?_) <;> simp only [KP_mk, hqb]) | (with_reducible refine condI_bne (fun hq hqb => ?_) (fun hq hqb => ?_) <;> simp only [KP_mk, hqb]) | (with_reducible refine condI_dec (fun hq hqb => ?_) (fun hq hqb => ?_) <;> simp only [KP_mk, hqb]) | (with_reducible refine condI_b (fun hqb => ?_) (fun hqb => ?_) <;> simp only [KP_mk, hqb]) | refine RetO_calc Try.results25 ?_ | refine RetL_calc Try.results25 rfl ?_ | (refine Again.up (by omega) ?_ ?_) | exact trivial | fail)
    · by_cases h2 : ¬ (1 ≤ cells ∧ cells ≤ 16) ∨ l.any oddB = true
      · rw [show rkE l cells = 1 from (if_neg h1).trans (if_pos h2)]
        by_cases q1 : 1 ≤ cells
        · by_cases q2 : cells ≤ 16
          · have q3 : l.any oddB = true := h2.resolve_left (fun z => z ⟨q1, q2⟩)
            rw [q3] at hcf
            refine Fun.of_awpI Try.func25 rfl cal25 Try.ntmps25 (by simp) fun hwf => ?_
            simp only [D.wfs, D.wf, ints_length, ints_wfs, rows_length, rows_wfs, capMax, and_true, true_and] at hwf
            repeat' (first | simp only [go_sem, ints_nil, Ret_eq Try.results25] | simp (disch := omega) only [arith, IntKind.bits, capMax, fill_len, elt_fill] | (with_reducible refine condI_beq (fun hq hqb => ?_) (fun hq hqb => ?_) <;> simp only [KP_mk, hqb]) | (with_reducible refine condI_bne (fun hq hqb => ?_) (fun hq hqb => ?_) <;> simp only [KP_mk, hqb]) | (with_reducible refine condI_dec (fun hq hqb => ?_) (fun hq hqb => ?_) <;> simp only [KP_mk, hqb]) | (with_reducible refine condI_b (fun hqb => ?_) (fun hqb => ?_) <;> simp only [KP_mk, hqb]) | refine RetO_calc Try.results25 ?_ | refine RetL_calc Try.results25 rfl ?_ | (refine Again.up (by omega) ?_ ?_) | exact trivial | (refine opCallI_rd (by simp only [go_sem, ints_nil, Ret_eq Try.results25]; first | done | rfl) (hcf) (by rintro _ rfl; rfl) ?_; rintro _ rfl) | (refine opCallI_gv (by simp only [go_sem, ints_nil, Ret_eq Try.results25]; first | done | rfl) (hcf) ?_; rintro _ rfl) | fail)
          · skip
            refine Fun.of_awpI Try.func25 rfl cal25 Try.ntmps25 (by simp) fun hwf => ?_
            simp only [D.wfs, D.wf, ints_length, ints_wfs, rows_length, rows_wfs, capMax, and_true, true_and] at hwf
            repeat' (first | simp only [go_sem, ints_nil, Ret_eq Try.results25] | simp (disch := omega) only [arith, IntKind.bits, capMax, fill_len, elt_fill] | (with_reducible refine condI_beq (fun hq hqb => ?_) (fun hq hqb => ?_) <;> simp only [KP_mk, hqb]) | (with_reducible refine condI_bne (fun hq hqb => ?_) (fun hq hqb => ?_) <;> simp only [KP_mk, hqb]) | (with_reducible refine condI_dec (fun hq hqb => ?_) (fun hq hqb => ?_) <;> simp only [KP_mk, hqb]) | (with_reducible refine condI_b (fun hqb => ?_) (fun hqb => ?_) <;> simp only [KP_mk, hqb]) | refine RetO_calc Try.results25 ?_ | refine RetL_calc Try.results25 rfl ?_ | (refine Again.up (by omega) ?_ ?_) | exact trivial | (refine opCallI_rd (by simp only [go_sem, ints_nil, Ret_eq Try.results25]; first | done | rfl) (hcf) (by rintro _ rfl; rfl) ?_; rintro _ rfl) | (refine opCallI_gv (by simp only [go_sem, ints_nil, Ret_eq Try.results25]; first | done | rfl) (hcf) ?_; rintro _ rfl) | fail)
        · skip
          refine Fun.of_awpI Try.func25 rfl cal25 Try.ntmps25 (by simp) fun hwf => ?_
          simp only [D.wfs, D.wf, ints_length, ints_wfs, rows_length, rows_wfs, capMax, and_true, true_and] at hwf
          repeat' (first | simp only [go_sem, ints_nil, Ret_eq Try.results25] | simp (disch := omega) only [arith, IntKind.bits, capMax, fill_len, elt_fill] | (with_reducible refine condI_beq (fun hq hqb => ?_) (fun hq hqb => ?_) <;> simp only [KP_mk, hqb]) | (with_reducible refine condI_bne (fun hq hqb => ?_) (fun hq hqb => ?_) <;> simp only [KP_mk, hqb]) | (with_reducible refine condI_dec (fun hq hqb => ?_) (fun hq hqb => ?_) <;> simp only [KP_mk, hqb]) | (with_reducible refine condI_b (fun hqb => ?_) (fun hqb => ?_) <;> simp only [KP_mk, hqb]) | refine RetO_calc Try.results25 ?_ | refine RetL_calc Try.results25 rfl ?_ | (refine Again.up (by omega) ?_ ?_) | exact trivial | (refine opCallI_rd (by simp only [go_sem, ints_nil, Ret_eq Try.results25]; first | done | rfl) (hcf) (by rintro _ rfl; rfl) ?_; rintro _ rfl) | (refine opCallI_gv (by simp only [go_sem, ints_nil, Ret_eq Try.results25]; first | done | rfl) (hcf) ?_; rintro _ rfl) | fail)
      · have h3 : (1 ≤ cells ∧ cells ≤ 16) ∧ l.any oddB = false := ⟨Classical.byContradiction fun q => h2 (.inl q), by
          cases e : l.any oddB with
          | false => rfl
          | true => exact absurd (.inr e) h2⟩
        obtain ⟨⟨h4, h5⟩, h6⟩ := h3
        rw [h6] at hcf
        have h7 : l.length = 0 := Classical.byContradiction fun q => h (rkE_zero.2 ⟨by omega, ⟨h4, h5⟩, h6, by omega⟩)
        rw [show rkE l cells = 5 from ((if_neg h1).trans (if_neg h2)).trans (if_pos h7)]
        refine Fun.of_awpI Try.func25 rfl cal25 Try.ntmps25 (by simp) fun hwf => ?_
        simp only [D.wfs, D.wf, ints_length, ints_wfs, rows_length, rows_wfs, capMax, and_true, true_and] at hwf
        repeat' (first | simp only [go_sem, ints_nil, h7, beq_self_eq_true, Ret_eq Try.results25] | simp (disch := omega) only [arith, IntKind.bits, capMax, fill_len, elt_fill] | (with_reducible refine condI_beq (fun hq hqb => ?_) (fun hq hqb => ?_) <;> simp only [KP_mk, hqb]) | (with_reducible refine condI_bne (fun hq hqb => ?_) (fun hq hqb => ?_) <;> simp only [KP_mk, hqb]) | (with_reducible refine condI_dec (fun hq hqb => ?_) (fun hq hqb => ?_) <;> simp only [KP_mk, hqb]) | (with_reducible refine condI_b (fun hqb => ?_) (fun hqb => ?_) <;> simp only [KP_mk, hqb]) | refine RetO_calc Try.results25 ?_ | refine RetL_calc Try.results25 rfl ?_ | (refine Again.up (by omega) ?_ ?_) | exact trivial | (refine opCallI_rd (by simp only [go_sem, ints_nil, h7, beq_self_eq_true, Ret_eq Try.results25]; first | done | rfl) (hcf) (by rintro _ rfl; rfl) ?_; rintro _ rfl) | (refine opCallI_gv (by simp only [go_sem, ints_nil, h7, beq_self_eq_true, Ret_eq Try.results25]; first | done | rfl) (hcf) ?_; rintro _ rfl) | fail)
end Go.Proofs.Ytpkampecmlpfmaa.T
