import Derived.Test.YtpkampecmlpfmaaLE
import Derived.Test.YtpkampecmlpfmaaEPRef
set_option linter.unusedSimpArgs false
set_option linter.unusedVariables false
/- The document's Put, its text owned. -/
namespace Go.Proofs.Ytpkampecmlpfmaa.T
open Go Go.VL Go.Proofs
set_option maxRecDepth 100000
set_option maxHeartbeats 4000000

theorem refPut_own (b : List Int) (w : Int) (l : List Int) (hl : I64s l) (hll : l.length ≤ 140737488355328) (hb : b.length ≤ 140737488355328) (hw8 : 1 ≤ w ∧ w ≤ 8) (hfit : l.all (putFit w) = true) (hfine : b.length + w * l.length ≤ 65536) : FunO Try.prog 111 [.lst (ints .u8 b), .v (.int .i64 w), .lst (ints .i64 l)] fun r o =>
    r = .tup [.ref 0 (b ++ l.flatMap (octs w.toNat)).length, .v (.int .i64 0)] ∧ o = some ⟨5, 1, ints .u8 (b ++ l.flatMap (octs w.toNat))⟩ := by
  refine FunO.of_awpI Try.func111 rfl cal111 Try.ntmps111 (by simp) fun hwf => ?_
  simp only [D.wfs, D.wf, ints_length, ints_wfs, rows_length, rows_wfs, capMax, and_true, true_and] at hwf
  repeat' (first | simp only [go_sem, Ret_eq Try.results111] | simp (disch := omega) only [arith, IntKind.bits, capMax, fill_len, elt_fill] | (with_reducible refine condI_beq (fun hq hqb => ?_) (fun hq hqb => ?_) <;> simp only [KP_mk, hqb]) | (with_reducible refine condI_bne (fun hq hqb => ?_) (fun hq hqb => ?_) <;> simp only [KP_mk, hqb]) | (with_reducible refine condI_dec (fun hq hqb => ?_) (fun hq hqb => ?_) <;> simp only [KP_mk, hqb]) | (with_reducible refine condI_b (fun hqb => ?_) (fun hqb => ?_) <;> simp only [KP_mk, hqb]) | refine RetO_calc Try.results111 ?_ | refine RetL_calc Try.results111 rfl ?_ | (refine Again.up (by omega) ?_ ?_) | exact trivial | fail)


  · have hw : 1 ≤ w ∧ w ≤ 8 := by omega
    refine awpI_for l.length (fun k => (l.take k).all (putFit w) = true) (fun k => [(22, .v (.int .i64 k))]) (fun _ => []) [0, 1, 2, 20, 21] [] _ (Weak.refl _) (by simp) ?_ ?_ ?_
    · simp only [go_sem, Ret_eq Try.results111]
    · simp only [go_sem, Ret_eq Try.results111]
    · intro k s hk hQ hs
      simp only [go_sem, Ret_eq Try.results111] at hs
      by_cases hka : k < l.length
      · repeat' (first | simp only [go_sem, hs, Ret_eq Try.results111] | simp (disch := omega) only [arith, IntKind.bits, capMax, fill_len, elt_fill] | (with_reducible refine condI_beq (fun hq hqb => ?_) (fun hq hqb => ?_) <;> simp only [KP_mk, hqb]) | (with_reducible refine condI_bne (fun hq hqb => ?_) (fun hq hqb => ?_) <;> simp only [KP_mk, hqb]) | (with_reducible refine condI_dec (fun hq hqb => ?_) (fun hq hqb => ?_) <;> simp only [KP_mk, hqb]) | (with_reducible refine condI_b (fun hqb => ?_) (fun hqb => ?_) <;> simp only [KP_mk, hqb]) | refine RetO_calc Try.results111 ?_ | refine RetL_calc Try.results111 rfl ?_ | (refine Again.up (by omega) ?_ ?_) | exact trivial | (refine opCallI_rd (by simp only [go_sem, hs, Ret_eq Try.results111]; first | done | rfl) (fits_fun _ _ (hl.getD k) hw) (by rintro _ rfl; rfl) ?_; rintro _ rfl) | (refine opCallI_gv (by simp only [go_sem, hs, Ret_eq Try.results111]; first | done | rfl) (fits_fun _ _ (hl.getD k) hw) ?_; rintro _ rfl) | fail)
        · rw [all_take_snoc (d := 0) hka, hQ, (by assumption : putFit w (l.getD k 0) = true)]; rfl
        · exact absurd (all_false_at (d := 0) hka (by assumption)) (by rw [hfit]; decide)
      · obtain rfl : k = l.length := by omega
        rw [List.take_length] at hQ
        have h4 : (l.length : Int) ≤ w * l.length := by have := Int.mul_le_mul_of_nonneg_right hw.1 (Int.natCast_nonneg l.length); omega
        have h5 : w * l.length ≤ 8 * l.length := Int.mul_le_mul_of_nonneg_right hw.2 (by omega)
        repeat' (first | simp only [go_sem, hs, Ret_eq Try.results111] | simp (disch := omega) only [arith, IntKind.bits, capMax, fill_len, elt_fill] | (with_reducible refine condI_beq (fun hq hqb => ?_) (fun hq hqb => ?_) <;> simp only [KP_mk, hqb]) | (with_reducible refine condI_bne (fun hq hqb => ?_) (fun hq hqb => ?_) <;> simp only [KP_mk, hqb]) | (with_reducible refine condI_dec (fun hq hqb => ?_) (fun hq hqb => ?_) <;> simp only [KP_mk, hqb]) | (with_reducible refine condI_b (fun hqb => ?_) (fun hqb => ?_) <;> simp only [KP_mk, hqb]) | refine RetO_calc Try.results111 ?_ | refine RetL_calc Try.results111 rfl ?_ | (refine Again.up (by omega) ?_ ?_) | exact trivial | fail)

        · have hlen : (b ++ l.flatMap (octs w.toNat)).length ≤ 65536 := by
            rw [List.length_append, flat_octs_length]
            have : ((w.toNat * l.length : Nat) : Int) = w * l.length := by rw [Int.natCast_mul, Int.toNat_of_nonneg (by omega)]
            omega
          refine awpI_for l.length (fun k => True) (fun k => [(10, .ref 40 (b ++ (l.take k).flatMap (octs w.toNat)).length), (43, .v (.int .i64 k))]) (fun k => [(40, ⟨5, 1, ints .u8 (b ++ (l.take k).flatMap (octs w.toNat))⟩)]) [1, 41, 42] [] _ (Weak.refl _) trivial ?_ ?_ ?_
          · simp only [go_sem, List.flatMap_nil, Ret_eq Try.results111]
          · simp only [go_sem, List.flatMap_nil, Ret_eq Try.results111]
          · intro k s2 hk2 _ hs2
            simp only [go_sem, hs, Ret_eq Try.results111] at hs2
            by_cases hkb : k < l.length
            · have hacc : (b ++ (l.take k).flatMap (octs w.toNat)).length + w.toNat ≤ 65536 := by
                rw [List.length_append, flat_octs_length, List.length_take, Nat.min_eq_left hk2]
                rw [List.length_append, flat_octs_length] at hlen
                have : w.toNat * (k + 1) ≤ w.toNat * l.length := Nat.mul_le_mul_left _ hkb
                rw [Nat.mul_succ] at this
                omega
              have hfm := flatMap_take_snoc (g := octs w.toNat) (d := 0) hkb
              generalize hae : b ++ (l.take k).flatMap (octs w.toNat) = acc at *
              have hn := hl.getD k
              generalize hne : l.getD k 0 = n at *
              have h256 : ∀ j : Nat, 0 ≤ n % 18446744073709551616 / 256 ^ j ∧ n % 18446744073709551616 / 256 ^ j ≤ 18446744073709551615 := by
                intro j
                have h0 : 0 ≤ n % 18446744073709551616 := Int.emod_nonneg _ (by decide)
                have hp : (0 : Int) ≤ 256 ^ j := Int.le_of_lt (Int.pow_pos (by decide))
                have h1 := Int.ediv_nonneg h0 hp
                have h2 := Int.ediv_le_self (256 ^ j) h0
                omega
              have hu : IntKind.u64.wrap n = n % 18446744073709551616 / 256 ^ 0 := by rw [IntKind.wrap_u64]; simp
              repeat' (first | simp only [go_sem, hs2, hne, hu, Ret_eq Try.results111] | simp (disch := omega) only [arith, IntKind.bits, capMax, fill_len, elt_fill] | (with_reducible refine condI_beq (fun hq hqb => ?_) (fun hq hqb => ?_) <;> simp only [KP_mk, hqb]) | (with_reducible refine condI_bne (fun hq hqb => ?_) (fun hq hqb => ?_) <;> simp only [KP_mk, hqb]) | (with_reducible refine condI_dec (fun hq hqb => ?_) (fun hq hqb => ?_) <;> simp only [KP_mk, hqb]) | (with_reducible refine condI_b (fun hqb => ?_) (fun hqb => ?_) <;> simp only [KP_mk, hqb]) | refine RetO_calc Try.results111 ?_ | refine RetL_calc Try.results111 rfl ?_ | (refine Again.up (by omega) ?_ ?_) | exact trivial | fail)
              refine awpI_for w.toNat (fun j => True) (fun j => [(10, .ref 40 (acc ++ octs j n).length), (13, .v (.int .u64 (n % 18446744073709551616 / 256 ^ j))), (50, .v (.int .i64 j))]) (fun j => [(40, ⟨5, 1, ints .u8 (acc ++ octs j n)⟩)]) [1, 41, 42, 43, 49] [] _ (Weak.refl _) trivial ?_ ?_ ?_
              · simp only [go_sem, hs2, hne, hu, octs_zero, Ret_eq Try.results111]
              · simp only [go_sem, hs2, octs_zero, Ret_eq Try.results111]
              · intro j s3 hj _ hs3
                simp only [go_sem, hs2, Ret_eq Try.results111] at hs3
                have b1 := h256 j
                by_cases hjw : j < w.toNat
                · have e1 := u64_oct (n := n) (j := j) (by omega)
                  have e2 := octs_succ (j := j) (n := n)
                  have e3 : (n % 18446744073709551616 / 256 ^ j) / 256 = n % 18446744073709551616 / 256 ^ (j + 1) := by
                    have hp : (0 : Int) ≤ 256 ^ j := Int.le_of_lt (Int.pow_pos (by decide))
                    rw [Int.ediv_ediv_of_nonneg hp, ← Int.pow_succ]
                  have e4 : (acc ++ (octs j n ++ [oct n j])).length ≤ 65536 := by rw [← e2, List.length_append, octs_length]; omega
                  have b2 := oct_bound n j
                  have b3 := h256 (j + 1)
                  clear h256
                  repeat' (first | simp only [go_sem, hs3, hs2, hs, e1, e2, e3, Ret_eq Try.results111] | simp (disch := omega) only [arith, IntKind.bits, capMax, fill_len, elt_fill, e1, e3] | (with_reducible refine condI_beq (fun hq hqb => ?_) (fun hq hqb => ?_) <;> simp only [KP_mk, hqb]) | (with_reducible refine condI_bne (fun hq hqb => ?_) (fun hq hqb => ?_) <;> simp only [KP_mk, hqb]) | (with_reducible refine condI_dec (fun hq hqb => ?_) (fun hq hqb => ?_) <;> simp only [KP_mk, hqb]) | (with_reducible refine condI_b (fun hqb => ?_) (fun hqb => ?_) <;> simp only [KP_mk, hqb]) | refine RetO_calc Try.results111 ?_ | refine RetL_calc Try.results111 rfl ?_ | (refine Again.up (by omega) ?_ ?_) | exact trivial | fail)
                · obtain rfl : j = w.toNat := by omega
                  clear h256
                  repeat' (first | simp only [go_sem, hs3, hs2, hs, hfm, Ret_eq Try.results111] | simp (disch := omega) only [arith, IntKind.bits, capMax, fill_len, elt_fill] | (with_reducible refine condI_beq (fun hq hqb => ?_) (fun hq hqb => ?_) <;> simp only [KP_mk, hqb]) | (with_reducible refine condI_bne (fun hq hqb => ?_) (fun hq hqb => ?_) <;> simp only [KP_mk, hqb]) | (with_reducible refine condI_dec (fun hq hqb => ?_) (fun hq hqb => ?_) <;> simp only [KP_mk, hqb]) | (with_reducible refine condI_b (fun hqb => ?_) (fun hqb => ?_) <;> simp only [KP_mk, hqb]) | refine RetO_calc Try.results111 ?_ | refine RetL_calc Try.results111 rfl ?_ | (refine Again.up (by omega) ?_ ?_) | exact trivial | fail)
                  subst hae
                  simp only [List.append_assoc, and_self]
            · obtain rfl : k = l.length := by omega
              rw [List.take_length] at hs2
              repeat' (first | simp only [go_sem, hs2, Ret_eq Try.results111] | simp (disch := omega) only [arith, IntKind.bits, capMax, fill_len, elt_fill] | (with_reducible refine condI_beq (fun hq hqb => ?_) (fun hq hqb => ?_) <;> simp only [KP_mk, hqb]) | (with_reducible refine condI_bne (fun hq hqb => ?_) (fun hq hqb => ?_) <;> simp only [KP_mk, hqb]) | (with_reducible refine condI_dec (fun hq hqb => ?_) (fun hq hqb => ?_) <;> simp only [KP_mk, hqb]) | (with_reducible refine condI_b (fun hqb => ?_) (fun hqb => ?_) <;> simp only [KP_mk, hqb]) | refine RetO_calc Try.results111 ?_ | refine RetL_calc Try.results111 rfl ?_ | (refine Again.up (by omega) ?_ ?_) | exact trivial | fail)
              all_goals skip
end Go.Proofs.Ytpkampecmlpfmaa.T
