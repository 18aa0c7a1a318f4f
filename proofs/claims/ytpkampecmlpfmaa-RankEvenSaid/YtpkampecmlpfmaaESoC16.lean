import Derived.Test.YtpkampecmlpfmaaLE
import Derived.Test.YtpkampecmlpfmaaESoB16
set_option linter.unusedSimpArgs false
set_option linter.unusedVariables false
/- Sorting a list as a heap, walked. -/
namespace Go.Proofs.Ytpkampecmlpfmaa.T
open Go Go.VL Go.Proofs
set_option maxRecDepth 100000
set_option maxHeartbeats 4000000

theorem heap16 (l : List Int) (a b : Nat) (hab : a < b) (hb : b ≤ l.length) (hl : l.length ≤ 1000000) : FunL Try.prog 177 [.ref 0 l.length, .v (.int .i64 a), .v (.int .i64 b)] [own16 l] fun r os =>
    r = .tup [] ∧ ∃ l', os = [own16 l'] ∧ Sw a b l l' ∧ Sd a b l' := by
  refine FunL.of_awpI [(100000, 0)] rfl Try.func177 rfl cal177 Try.ntmps177 (by simp) fun hwf hlw ls => ?_
  simp only [lentWf, D.wfs, D.wf, ints_length, ints_wfs, rows_length, rows_wfs, capMax, and_true, true_and] at hwf hlw
  obtain ⟨n, rfl⟩ : ∃ n, b = a + n := ⟨b - a, by omega⟩
  have e0 : ((a + n : Nat) : Int) - (a : Int) = ((n : Nat) : Int) := by omega
  have e1 : (n : Int) - 1 = ((n - 1 : Nat) : Int) := by omega
  have e2 : ((n - 1 : Nat) : Int).tdiv 2 = (((n - 1) / 2 : Nat) : Int) := by
    rw [Int.tdiv_eq_ediv_of_nonneg (by omega)]; omega
  repeat' (first | simp only [go_sem, e0, e1, e2, Ret_eq Try.results177] | simp (disch := omega) only [arith, IntKind.bits, capMax, fill_len, elt_fill] | (with_reducible refine condI_beq (fun hq hqb => ?_) (fun hq hqb => ?_) <;> simp only [KP_mk, hqb]) | (with_reducible refine condI_bne (fun hq hqb => ?_) (fun hq hqb => ?_) <;> simp only [KP_mk, hqb]) | (with_reducible refine condI_dec (fun hq hqb => ?_) (fun hq hqb => ?_) <;> simp only [KP_mk, hqb]) | (with_reducible refine condI_b (fun hqb => ?_) (fun hqb => ?_) <;> simp only [KP_mk, hqb]) | refine RetO_calc Try.results177 ?_ | refine RetL_calc Try.results177 rfl ?_ | (refine awpI_draw2 (id := 10) (.one false 0 (.one false 1 (.one false 6 (.one false 7 (.one false 8 (.one false 9 (.one false 10 (.one false 11 (.one false 12 (.one false 13 (.one false 14 (.one false 15 (.one false 16 (.mv 2 (.mv 3 (.mv 4 (.cal 5 [17] (.only 17 (.one false 18 (.only 19 .done)))))))))))))))))))) mixed (by decide +kernel) (by decide +kernel) ?_) | (refine Again.up (by omega) ?_ ?_) | exact trivial | fail)
  refine awpI_while (σ := Nat × List Int) (fun x => x.1) (fun x => x.1 ≤ (n - 1) / 2 + 1 ∧ Sw a (a + n) l x.2 ∧ Hp x.1 n a x.2) (fun x => [(9, .v (.int .i64 ((x.1 : Int) - 1)))]) (fun x => [(0, own16 x.2)]) [0, 6, 7, 8, 100000] [] ((n - 1) / 2 + 1, l) _ (Weak.refl _) ⟨Nat.le_refl _, .refl _, fun k c h1 h2 h3 => by omega⟩ ?_ ?_ ?_
  · simp only [go_sem, e2, Ret_eq Try.results177]
    all_goals omega
  · simp only [go_sem, Ret_eq Try.results177]
  · rintro ⟨k, l1⟩ s ⟨hk, hsw, hhp⟩ hs
    simp only [go_sem, Ret_eq Try.results177] at hs
    dsimp only at hk hsw hhp
    have hl1 := hsw.length
    by_cases hk0 : 1 ≤ k
    · obtain ⟨q, rfl⟩ : ∃ q, k = q + 1 := ⟨k - 1, by omega⟩
      have ek : ((q + 1 : Nat) : Int) - 1 = ((q : Nat) : Int) := by omega
      have hsf := sift16 l1 q n a hhp (by omega) (by omega) (by omega)
      rw [hl1] at hsf
      repeat' (first | simp only [go_sem, hs, ek, hl1, Ret_eq Try.results177] | simp (disch := omega) only [arith, IntKind.bits, capMax, fill_len, elt_fill] | (with_reducible refine condI_beq (fun hq hqb => ?_) (fun hq hqb => ?_) <;> simp only [KP_mk, hqb]) | (with_reducible refine condI_bne (fun hq hqb => ?_) (fun hq hqb => ?_) <;> simp only [KP_mk, hqb]) | (with_reducible refine condI_dec (fun hq hqb => ?_) (fun hq hqb => ?_) <;> simp only [KP_mk, hqb]) | (with_reducible refine condI_b (fun hqb => ?_) (fun hqb => ?_) <;> simp only [KP_mk, hqb]) | refine RetO_calc Try.results177 ?_ | refine RetL_calc Try.results177 rfl ?_ | (refine awpI_draw2 (id := 10) (.one false 0 (.one false 1 (.one false 6 (.one false 7 (.one false 8 (.one false 9 (.one false 10 (.one false 11 (.one false 12 (.one false 13 (.one false 14 (.one false 15 (.one false 16 (.mv 2 (.mv 3 (.mv 4 (.cal 5 [17] (.only 17 (.one false 18 (.only 19 .done)))))))))))))))))))) mixed (by decide +kernel) (by decide +kernel) ?_) | (refine Again.up (by omega) ?_ ?_) | exact trivial | (refine opCallI_lend [0] (by simp only [go_sem, hs, ek, hl1, Ret_eq Try.results177]; first | done | rfl) (by simp only [go_sem, hs, ek, hl1, Ret_eq Try.results177]; first | done | rfl) (by decide) (by simp only [go_sem, hs, ek, hl1, Ret_eq Try.results177]; first | done | decide) (by simp only [go_sem, hs, ek, hl1, Ret_eq Try.results177]; first | done | decide) (hsf) ?_; rintro _ _ ⟨rfl, l2, rfl, hs2, hp2⟩) | fail)
      all_goals
        refine AgainW.to (q, l2) ?_ ?_ ?_
        · show q < q + 1; omega
        · exact ⟨by show q ≤ _; omega, hsw.trans hs2, hp2⟩
        · simp only [go_sem, hs, Ret_eq Try.results177]
    · obtain rfl : k = 0 := by omega
      repeat' (first | simp only [go_sem, hs, e1, Ret_eq Try.results177] | simp (disch := omega) only [arith, IntKind.bits, capMax, fill_len, elt_fill] | (with_reducible refine condI_beq (fun hq hqb => ?_) (fun hq hqb => ?_) <;> simp only [KP_mk, hqb]) | (with_reducible refine condI_bne (fun hq hqb => ?_) (fun hq hqb => ?_) <;> simp only [KP_mk, hqb]) | (with_reducible refine condI_dec (fun hq hqb => ?_) (fun hq hqb => ?_) <;> simp only [KP_mk, hqb]) | (with_reducible refine condI_b (fun hqb => ?_) (fun hqb => ?_) <;> simp only [KP_mk, hqb]) | refine RetO_calc Try.results177 ?_ | refine RetL_calc Try.results177 rfl ?_ | (refine awpI_draw2 (id := 10) (.one false 0 (.one false 1 (.one false 6 (.one false 7 (.one false 8 (.one false 9 (.one false 10 (.one false 11 (.one false 12 (.one false 13 (.one false 14 (.one false 15 (.one false 16 (.mv 2 (.mv 3 (.mv 4 (.cal 5 [17] (.only 17 (.one false 18 (.only 19 .done)))))))))))))))))))) mixed (by decide +kernel) (by decide +kernel) ?_) | (refine Again.up (by omega) ?_ ?_) | exact trivial | fail)
      refine awpI_while (σ := Nat × List Int) (fun x => x.1) (fun x => x.1 ≤ n ∧ Sw a (a + n) l x.2 ∧ Hp 0 x.1 a x.2 ∧ Tl a x.1 n x.2) (fun x => [(10, .v (.int .i64 ((x.1 : Int) - 1)))]) (fun x => [(0, own16 x.2)]) [0, 6, 7, 100000] [] (n, l1) _ (Weak.refl _) ⟨Nat.le_refl _, hsw, hhp, ⟨fun p q h1 h2 h3 => by omega, fun p q h1 h2 h3 => by omega⟩⟩ ?_ ?_ ?_
      · simp only [go_sem, hs, e1, Ret_eq Try.results177]
      · simp only [go_sem, hs, Ret_eq Try.results177]
      · rintro ⟨k, l3⟩ s2 ⟨hk, hsw3, hhp3, htl⟩ hs2
        simp only [go_sem, hs, Ret_eq Try.results177] at hs2
        dsimp only at hk hsw3 hhp3 htl
        have hl3 := hsw3.length
        by_cases hk0 : 1 ≤ k
        · obtain ⟨q, rfl⟩ : ∃ q, k = q + 1 := ⟨k - 1, by omega⟩
          have ek : ((q + 1 : Nat) : Int) - 1 = ((q : Nat) : Int) := by omega
          have ea : (a : Int) + (q : Int) = ((a + q : Nat) : Int) := by omega
          have hslen := sw_length (l := l3) (i := a) (j := a + q)
          have hsf := sift16 (sw l3 a (a + q)) 0 q a (hhp3.swapped (by omega)) (by omega) (by omega) (by omega)
          have e00 : ((0 : Nat) : Int) = 0 := rfl
          rw [hslen, hl3, e00] at hsf
          have e5 : (l3.set a (l3.getD (a + q) 0)).set (a + q) (l3.getD a 0) = sw l3 a (a + q) := rfl
          have e6 : (l3.set a (l3.getD (a + q) 0)).length = l3.length := List.length_set
          repeat' (first | simp only [go_sem, hs, hs2, ek, ea, hl3, e5, List.length_set, Ret_eq Try.results177] | simp (disch := omega) only [arith, IntKind.bits, capMax, fill_len, elt_fill] | (with_reducible refine condI_beq (fun hq hqb => ?_) (fun hq hqb => ?_) <;> simp only [KP_mk, hqb]) | (with_reducible refine condI_bne (fun hq hqb => ?_) (fun hq hqb => ?_) <;> simp only [KP_mk, hqb]) | (with_reducible refine condI_dec (fun hq hqb => ?_) (fun hq hqb => ?_) <;> simp only [KP_mk, hqb]) | (with_reducible refine condI_b (fun hqb => ?_) (fun hqb => ?_) <;> simp only [KP_mk, hqb]) | refine RetO_calc Try.results177 ?_ | refine RetL_calc Try.results177 rfl ?_ | (refine awpI_draw2 (id := 10) (.one false 0 (.one false 1 (.one false 6 (.one false 7 (.one false 8 (.one false 9 (.one false 10 (.one false 11 (.one false 12 (.one false 13 (.one false 14 (.one false 15 (.one false 16 (.mv 2 (.mv 3 (.mv 4 (.cal 5 [17] (.only 17 (.one false 18 (.only 19 .done)))))))))))))))))))) mixed (by decide +kernel) (by decide +kernel) ?_) | (refine Again.up (by omega) ?_ ?_) | exact trivial | (refine opCallI_lend [0] (by simp only [go_sem, hs, hs2, ek, ea, hl3, e5, List.length_set, Ret_eq Try.results177]; first | done | rfl) (by simp only [go_sem, hs, hs2, ek, ea, hl3, e5, List.length_set, Ret_eq Try.results177]; first | done | rfl) (by decide) (by simp only [go_sem, hs, hs2, ek, ea, hl3, e5, List.length_set, Ret_eq Try.results177]; first | done | decide) (by simp only [go_sem, hs, hs2, ek, ea, hl3, e5, List.length_set, Ret_eq Try.results177]; first | done | decide) (hsf) ?_; rintro _ _ ⟨rfl, l4, rfl, hs4, hp4⟩) | fail)
          all_goals
            refine AgainW.to (q, l4) ?_ ?_ ?_
            · show q < q + 1; omega
            · exact ⟨by show q ≤ n; omega, (Sw.step a (a + q) hsw3 ⟨by omega, by omega⟩ ⟨by omega, by omega⟩ (by omega)).trans (hs4.mono (by omega) (by omega) (by omega)), hp4, htl.step hhp3 (by omega) (by omega) hs4⟩
            · simp only [go_sem, hs, hs2, Ret_eq Try.results177]
        · obtain rfl : k = 0 := by omega
          repeat' (first | simp only [go_sem, hs, hs2, Ret_eq Try.results177] | simp (disch := omega) only [arith, IntKind.bits, capMax, fill_len, elt_fill] | (with_reducible refine condI_beq (fun hq hqb => ?_) (fun hq hqb => ?_) <;> simp only [KP_mk, hqb]) | (with_reducible refine condI_bne (fun hq hqb => ?_) (fun hq hqb => ?_) <;> simp only [KP_mk, hqb]) | (with_reducible refine condI_dec (fun hq hqb => ?_) (fun hq hqb => ?_) <;> simp only [KP_mk, hqb]) | (with_reducible refine condI_b (fun hqb => ?_) (fun hqb => ?_) <;> simp only [KP_mk, hqb]) | refine RetO_calc Try.results177 ?_ | refine RetL_calc Try.results177 rfl ?_ | (refine awpI_draw2 (id := 10) (.one false 0 (.one false 1 (.one false 6 (.one false 7 (.one false 8 (.one false 9 (.one false 10 (.one false 11 (.one false 12 (.one false 13 (.one false 14 (.one false 15 (.one false 16 (.mv 2 (.mv 3 (.mv 4 (.cal 5 [17] (.only 17 (.one false 18 (.only 19 .done)))))))))))))))))))) mixed (by decide +kernel) (by decide +kernel) ?_) | (refine Again.up (by omega) ?_ ?_) | exact trivial | fail)
          all_goals exact ⟨rfl, l3, rfl, hsw3, htl.t1⟩
end Go.Proofs.Ytpkampecmlpfmaa.T
