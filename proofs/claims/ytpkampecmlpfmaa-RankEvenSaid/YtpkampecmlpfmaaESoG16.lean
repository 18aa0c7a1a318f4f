import Derived.Test.YtpkampecmlpfmaaLE
import Derived.Test.YtpkampecmlpfmaaESoL
import Derived.Test.YtpkampecmlpfmaaESoA16
set_option linter.unusedSimpArgs false
set_option linter.unusedVariables false
/- Patterns broken; walked. -/
namespace Go.Proofs.Ytpkampecmlpfmaa.T
open Go Go.VL Go.Proofs
set_option maxRecDepth 100000
set_option maxHeartbeats 8000000

theorem break16 (l : List Int) (a b : Nat) (hab : a ≤ b) (hb : b ≤ l.length) (hl : l.length ≤ 60000) : FunL Try.prog 178 [.ref 0 l.length, .v (.int .i64 a), .v (.int .i64 b)] [own16 l] fun r os =>
    r = .tup [] ∧ ∃ l', os = [own16 l'] ∧ Sw a b l l' := by
  refine FunL.of_awpI [(100000, 0)] rfl Try.func178 rfl cal178 Try.ntmps178 (by simp) fun hwf hlw ls => ?_
  simp only [lentWf, D.wfs, D.wf, ints_length, ints_wfs, rows_length, rows_wfs, capMax, and_true, true_and] at hwf hlw
  obtain ⟨m, rfl⟩ : ∃ m, b = a + m := ⟨b - a, by omega⟩
  have e0 : ((a + m : Nat) : Int) - (a : Int) = ((m : Nat) : Int) := by omega
  by_cases h8 : 8 ≤ m
  · have e1 : ((m : Nat) : Int).tdiv 4 = ((m / 4 : Nat) : Int) := by rw [Int.tdiv_eq_ediv_of_nonneg (by omega)]; omega
    have e2 : (a : Int) + ((m / 4 : Nat) : Int) * 2 = ((a + m / 4 * 2 : Nat) : Int) := by omega
    have e3 : ((a + m / 4 * 2 : Nat) : Int) - 1 = ((a + m / 4 * 2 - 1 : Nat) : Int) := by omega
    have hnp := nextPow_fun m (by omega)
    repeat' (first | simp only [go_sem, e0, e1, e2, e3, Ret_eq Try.results178] | simp (disch := omega) only [arith, IntKind.bits, capMax, fill_len, elt_fill] | (with_reducible refine condI_beq (fun hq hqb => ?_) (fun hq hqb => ?_) <;> simp only [KP_mk, hqb]) | (with_reducible refine condI_bne (fun hq hqb => ?_) (fun hq hqb => ?_) <;> simp only [KP_mk, hqb]) | (with_reducible refine condI_dec (fun hq hqb => ?_) (fun hq hqb => ?_) <;> simp only [KP_mk, hqb]) | (with_reducible refine condI_b (fun hqb => ?_) (fun hqb => ?_) <;> simp only [KP_mk, hqb]) | refine RetO_calc Try.results178 ?_ | refine RetL_calc Try.results178 rfl ?_ | (refine awpI_draw2 (id := 10) (.one false 0 (.one false 1 (.one false 6 (.one false 7 (.one false 8 (.one false 9 (.one false 10 (.one false 11 (.one false 12 (.one false 13 (.one false 14 (.one false 15 (.one false 16 (.mv 2 (.mv 3 (.mv 4 (.cal 5 [17] (.only 17 (.one false 18 (.only 19 .done)))))))))))))))))))) mixed (by decide +kernel) (by decide +kernel) ?_) | (refine Again.up (by omega) ?_ ?_) | exact trivial | (refine opCallI_rd (by simp only [go_sem, e0, e1, e2, e3, Ret_eq Try.results178]; first | done | rfl) (hnp) (by rintro _ rfl; rfl) ?_; rintro _ ⟨n, rfl, hn⟩) | (refine opCallI_gv (by simp only [go_sem, e0, e1, e2, e3, Ret_eq Try.results178]; first | done | rfl) (hnp) ?_; rintro _ ⟨n, rfl, hn⟩) | fail)
    obtain ⟨hn1, hn2⟩ := hn
    have hpow : 1 ≤ 2 ^ n := Nat.one_le_two_pow
    refine awpI_while (σ := Nat × Int × List Int) (fun x => a + m / 4 * 2 + 2 - x.1) (fun x => (a ≤ x.1 ∧ x.1 ≤ a + m / 4 * 2 + 2) ∧ Sw a (a + m) l x.2.2) (fun x => [(9, .v (.int .i64 x.1))]) (fun x => [(0, own16 x.2.2), (7, boxX x.2.1)]) [0, 1, 6, 7, 8, 100000] [] (a + m / 4 * 2 - 1, (m : Int), l) _ (Weak.refl _) ⟨⟨by show a ≤ a + m / 4 * 2 - 1; omega, by show a + m / 4 * 2 - 1 ≤ _; omega⟩, .refl _⟩ ?_ ?_ ?_
    · simp only [go_sem, Ret_eq Try.results178]
      all_goals omega
    · simp only [go_sem, Ret_eq Try.results178]
    · rintro ⟨i, x, l1⟩ s ⟨⟨hi1, hi2⟩, hsw⟩ hs
      simp only [go_sem, Ret_eq Try.results178] at hs
      dsimp only at hi1 hi2 hsw
      have hl1 := hsw.length
      have e4 : ((a + m / 4 * 2 : Nat) : Int) + 1 = ((a + m / 4 * 2 + 1 : Nat) : Int) := by omega
      by_cases hi : i ≤ a + m / 4 * 2 + 1
      · repeat' (first | simp only [go_sem, hs, e0, e1, e2, e4, Ret_eq Try.results178] | simp (disch := omega) only [arith, IntKind.bits, capMax, fill_len, elt_fill] | (with_reducible refine condI_beq (fun hq hqb => ?_) (fun hq hqb => ?_) <;> simp only [KP_mk, hqb]) | (with_reducible refine condI_bne (fun hq hqb => ?_) (fun hq hqb => ?_) <;> simp only [KP_mk, hqb]) | (with_reducible refine condI_dec (fun hq hqb => ?_) (fun hq hqb => ?_) <;> simp only [KP_mk, hqb]) | (with_reducible refine condI_b (fun hqb => ?_) (fun hqb => ?_) <;> simp only [KP_mk, hqb]) | refine RetO_calc Try.results178 ?_ | refine RetL_calc Try.results178 rfl ?_ | (refine awpI_draw2 (id := 10) (.one false 0 (.one false 1 (.one false 6 (.one false 7 (.one false 8 (.one false 9 (.one false 10 (.one false 11 (.one false 12 (.one false 13 (.one false 14 (.one false 15 (.one false 16 (.mv 2 (.mv 3 (.mv 4 (.cal 5 [17] (.only 17 (.one false 18 (.only 19 .done)))))))))))))))))))) mixed (by decide +kernel) (by decide +kernel) ?_) | (refine Again.up (by omega) ?_ ?_) | exact trivial | fail)
        refine opCallI_lend [7] (by simp only [go_sem, hs, Ret_eq Try.results178]; first | done | rfl) (by simp only [go_sem, hs, Ret_eq Try.results178]; first | done | rfl) (by decide) (by simp only [go_sem, hs, Ret_eq Try.results178]; first | done | decide) (by simp only [go_sem, hs, Ret_eq Try.results178]; first | done | decide) (next_sh x) ?_
        rintro _ _ ⟨y, rfl, rfl⟩
        obtain ⟨k, hk, hk2⟩ := and_low y hn1
        by_cases hkm : m ≤ k
        · have e6 : (k : Int) - (m : Int) = ((k - m : Nat) : Int) := by omega
          have e7 : (a : Int) + ((k - m : Nat) : Int) = ((a + (k - m) : Nat) : Int) := by omega
          have e8 : (l1.set i (l1.getD (a + (k - m)) 0)).set (a + (k - m)) (l1.getD i 0) = sw l1 i (a + (k - m)) := rfl
          have e9 : (l1.set i (l1.getD (a + (k - m)) 0)).length = l1.length := List.length_set
          repeat' (first | simp only [go_sem, hs, e0, e1, e2, e4, hk, e6, e7, e8, List.length_set, Ret_eq Try.results178] | simp (disch := omega) only [arith, IntKind.bits, capMax, fill_len, elt_fill] | (with_reducible refine condI_beq (fun hq hqb => ?_) (fun hq hqb => ?_) <;> simp only [KP_mk, hqb]) | (with_reducible refine condI_bne (fun hq hqb => ?_) (fun hq hqb => ?_) <;> simp only [KP_mk, hqb]) | (with_reducible refine condI_dec (fun hq hqb => ?_) (fun hq hqb => ?_) <;> simp only [KP_mk, hqb]) | (with_reducible refine condI_b (fun hqb => ?_) (fun hqb => ?_) <;> simp only [KP_mk, hqb]) | refine RetO_calc Try.results178 ?_ | refine RetL_calc Try.results178 rfl ?_ | (refine awpI_draw2 (id := 10) (.one false 0 (.one false 1 (.one false 6 (.one false 7 (.one false 8 (.one false 9 (.one false 10 (.one false 11 (.one false 12 (.one false 13 (.one false 14 (.one false 15 (.one false 16 (.mv 2 (.mv 3 (.mv 4 (.cal 5 [17] (.only 17 (.one false 18 (.only 19 .done)))))))))))))))))))) mixed (by decide +kernel) (by decide +kernel) ?_) | (refine Again.up (by omega) ?_ ?_) | exact trivial | fail)
          all_goals
            refine AgainW.to (i + 1, y, sw l1 i (a + (k - m))) ?_ ?_ ?_
            · show a + m / 4 * 2 + 2 - (i + 1) < a + m / 4 * 2 + 2 - i; omega
            · exact ⟨⟨by show a ≤ i + 1; omega, by show i + 1 ≤ _; omega⟩, .step _ _ hsw ⟨by omega, by omega⟩ ⟨by omega, by omega⟩ (by omega)⟩
            · simp only [go_sem, hs, Ret_eq Try.results178]
        · have e7 : (a : Int) + (k : Int) = ((a + k : Nat) : Int) := by omega
          have e8 : (l1.set i (l1.getD (a + k) 0)).set (a + k) (l1.getD i 0) = sw l1 i (a + k) := rfl
          have e9 : (l1.set i (l1.getD (a + k) 0)).length = l1.length := List.length_set
          repeat' (first | simp only [go_sem, hs, e0, e1, e2, e4, hk, e7, e8, List.length_set, Ret_eq Try.results178] | simp (disch := omega) only [arith, IntKind.bits, capMax, fill_len, elt_fill] | (with_reducible refine condI_beq (fun hq hqb => ?_) (fun hq hqb => ?_) <;> simp only [KP_mk, hqb]) | (with_reducible refine condI_bne (fun hq hqb => ?_) (fun hq hqb => ?_) <;> simp only [KP_mk, hqb]) | (with_reducible refine condI_dec (fun hq hqb => ?_) (fun hq hqb => ?_) <;> simp only [KP_mk, hqb]) | (with_reducible refine condI_b (fun hqb => ?_) (fun hqb => ?_) <;> simp only [KP_mk, hqb]) | refine RetO_calc Try.results178 ?_ | refine RetL_calc Try.results178 rfl ?_ | (refine awpI_draw2 (id := 10) (.one false 0 (.one false 1 (.one false 6 (.one false 7 (.one false 8 (.one false 9 (.one false 10 (.one false 11 (.one false 12 (.one false 13 (.one false 14 (.one false 15 (.one false 16 (.mv 2 (.mv 3 (.mv 4 (.cal 5 [17] (.only 17 (.one false 18 (.only 19 .done)))))))))))))))))))) mixed (by decide +kernel) (by decide +kernel) ?_) | (refine Again.up (by omega) ?_ ?_) | exact trivial | fail)
          all_goals
            refine AgainW.to (i + 1, y, sw l1 i (a + k)) ?_ ?_ ?_
            · show a + m / 4 * 2 + 2 - (i + 1) < a + m / 4 * 2 + 2 - i; omega
            · exact ⟨⟨by show a ≤ i + 1; omega, by show i + 1 ≤ _; omega⟩, .step _ _ hsw ⟨by omega, by omega⟩ ⟨by omega, by omega⟩ (by omega)⟩
            · simp only [go_sem, hs, Ret_eq Try.results178]
      · repeat' (first | simp only [go_sem, hs, e0, e1, e2, e4, Ret_eq Try.results178] | simp (disch := omega) only [arith, IntKind.bits, capMax, fill_len, elt_fill] | (with_reducible refine condI_beq (fun hq hqb => ?_) (fun hq hqb => ?_) <;> simp only [KP_mk, hqb]) | (with_reducible refine condI_bne (fun hq hqb => ?_) (fun hq hqb => ?_) <;> simp only [KP_mk, hqb]) | (with_reducible refine condI_dec (fun hq hqb => ?_) (fun hq hqb => ?_) <;> simp only [KP_mk, hqb]) | (with_reducible refine condI_b (fun hqb => ?_) (fun hqb => ?_) <;> simp only [KP_mk, hqb]) | refine RetO_calc Try.results178 ?_ | refine RetL_calc Try.results178 rfl ?_ | (refine awpI_draw2 (id := 10) (.one false 0 (.one false 1 (.one false 6 (.one false 7 (.one false 8 (.one false 9 (.one false 10 (.one false 11 (.one false 12 (.one false 13 (.one false 14 (.one false 15 (.one false 16 (.mv 2 (.mv 3 (.mv 4 (.cal 5 [17] (.only 17 (.one false 18 (.only 19 .done)))))))))))))))))))) mixed (by decide +kernel) (by decide +kernel) ?_) | (refine Again.up (by omega) ?_ ?_) | exact trivial | fail)
        all_goals exact ⟨rfl, l1, rfl, hsw⟩
  · repeat' (first | simp only [go_sem, e0, Ret_eq Try.results178] | simp (disch := omega) only [arith, IntKind.bits, capMax, fill_len, elt_fill] | (with_reducible refine condI_beq (fun hq hqb => ?_) (fun hq hqb => ?_) <;> simp only [KP_mk, hqb]) | (with_reducible refine condI_bne (fun hq hqb => ?_) (fun hq hqb => ?_) <;> simp only [KP_mk, hqb]) | (with_reducible refine condI_dec (fun hq hqb => ?_) (fun hq hqb => ?_) <;> simp only [KP_mk, hqb]) | (with_reducible refine condI_b (fun hqb => ?_) (fun hqb => ?_) <;> simp only [KP_mk, hqb]) | refine RetO_calc Try.results178 ?_ | refine RetL_calc Try.results178 rfl ?_ | (refine awpI_draw2 (id := 10) (.one false 0 (.one false 1 (.one false 6 (.one false 7 (.one false 8 (.one false 9 (.one false 10 (.one false 11 (.one false 12 (.one false 13 (.one false 14 (.one false 15 (.one false 16 (.mv 2 (.mv 3 (.mv 4 (.cal 5 [17] (.only 17 (.one false 18 (.only 19 .done)))))))))))))))))))) mixed (by decide +kernel) (by decide +kernel) ?_) | (refine Again.up (by omega) ?_ ?_) | exact trivial | fail)
    all_goals exact ⟨rfl, l, rfl, .refl _⟩
end Go.Proofs.Ytpkampecmlpfmaa.T
