import Derived.Test.YtpkampecmlpfmaaK3
set_option linter.unusedSimpArgs false
set_option linter.unusedVariables false
section
set_option linter.unusedSimpArgs false
set_option linter.unusedVariables false
/- Sorting a list that is nearly sorted, walked. -/
namespace Go.Proofs.Ytpkampecmlpfmaa.T
open Go Go.VL Go.Proofs
set_option maxRecDepth 100000
set_option maxHeartbeats 8000000

theorem partial16 (l : List Int) (a b : Nat) (hab : a + 8 ≤ b) (hb : b ≤ l.length) (hl : l.length ≤ 60000) (hA : Ahd a b l) : FunL Try.prog 181 [.ref 0 l.length, .v (.int .i64 a), .v (.int .i64 b)] [own16 l] fun r os =>
    ∃ t : Bool, r = .v (.bool t) ∧ ∃ l', os = [own16 l'] ∧ Sw a b l l' ∧ (t = true → Sd a b l') := by
  refine FunL.of_awpI [(100000, 0)] rfl Try.func181 rfl cal181 Try.ntmps181 (by simp) fun hwf hlw ls => ?_
  simp only [lentWf, D.wfs, D.wf, ints_length, ints_wfs, rows_length, rows_wfs, capMax, and_true, true_and] at hwf hlw
  have eba : (b : Int) - (a : Int) = ((b - a : Nat) : Int) := by omega
  repeat' (first | simp only [go_sem, Ret_eq Try.results181] | simp (disch := omega) only [arith, IntKind.bits, capMax, fill_len, elt_fill] | fail)
  refine awpI_while (σ := Nat × Nat × List Int) (fun x => 5 - x.1) (fun x => (a + 1 ≤ x.2.1 ∧ x.2.1 ≤ b) ∧ Sw a b l x.2.2 ∧ Sd a x.2.1 x.2.2) (fun x => [(7, .v (.int .i64 x.2.1)), (8, .v (.int .i64 x.1))]) (fun x => [(0, own16 x.2.2)]) [0, 1, 2, 100000] [] (0, a + 1, l) _ (Weak.refl _) ⟨⟨Nat.le_refl _, by show a + 1 ≤ b; omega⟩, .refl _, fun p q h1 h2 h3 => by have h3 : q < a + 1 := h3; omega⟩ ?_ ?_ ?_
  · simp only [go_sem, Ret_eq Try.results181]
    all_goals simp
  · simp only [go_sem, Ret_eq Try.results181]
  · rintro ⟨j, i, l1⟩ s ⟨⟨hi1, hi2⟩, hsw, hsd⟩ hs
    simp only [go_sem, Ret_eq Try.results181] at hs
    dsimp only at hi1 hi2 hsw hsd
    have hl1 := hsw.length
    by_cases hj : j < 5
    · repeat' (first | simp only [go_sem, hs, Ret_eq Try.results181] | simp (disch := omega) only [arith, IntKind.bits, capMax, fill_len, elt_fill] | fail)
      refine awpI_while (σ := Nat) (fun x => b - x) (fun x => (a + 1 ≤ x ∧ x ≤ b) ∧ Sd a x l1) (fun x => [(7, .v (.int .i64 x))]) (fun _ => []) [0, 1, 2, 8, 100000] [0] i _ (Weak.refl _) ⟨⟨hi1, hi2⟩, hsd⟩ ?_ ?_ ?_
      · simp only [go_sem, hs, Ret_eq Try.results181]
      · simp only [go_sem, hs, Ret_eq Try.results181]
      · rintro i2 s2 ⟨⟨hi3, hi4⟩, hsd2⟩ hs2
        simp only [go_sem, hs, Ret_eq Try.results181] at hs2
        have ei : (i2 : Int) - 1 = ((i2 - 1 : Nat) : Int) := by omega
        have eia : (i2 : Int) - (a : Int) = ((i2 - a : Nat) : Int) := by omega
        have ebi : (b : Int) - (i2 : Int) = ((b - i2 : Nat) : Int) := by omega
        by_cases hb2 : i2 < b
        · have hls := lessS16_fun (l1.getD i2 0) (l1.getD (i2 - 1) 0)
          by_cases hlt : l1.getD i2 0 < l1.getD (i2 - 1) 0
          · rw [decide_eq_true hlt] at hls
            have hbe : ((i2 : Int) == (b : Int)) = false := beq_eq_false_iff_ne.2 (by omega)
            by_cases h50 : b - a < 50
            · repeat' (first | simp only [go_sem, hs, hs2, hl1, ei, hbe, eba, Ret_eq Try.results181] | simp (disch := omega) only [arith, IntKind.bits, capMax, fill_len, elt_fill] | refine RetL_calc Try.results181 rfl ?_ | (refine awpI_draw2 (id := 5) (.one false 0 (.one false 1 (.one false 2 (.one false 3 (.one false 4 (.one false 5 (.one false 6 (.one false 7 (.one false 8 (.one false 9 (.one false 10 (.one false 11 (.one false 12 (.only 13 (.one false 14 (.one false 15 .done)))))))))))))))) mixed (by decide +kernel) (by decide +kernel) ?_) | (refine opCallI_rd (by simp only [go_sem, hs, hs2, hl1, ei, hbe, eba, Ret_eq Try.results181]; first | done | rfl) (hls) (by rintro _ rfl; rfl) ?_; rintro _ rfl) | fail)
              all_goals exact ⟨false, rfl, l1, rfl, hsw, fun q => by cases q⟩
            · have e5 : (l1.set i2 (l1.getD (i2 - 1) 0)).set (i2 - 1) (l1.getD i2 0) = sw l1 i2 (i2 - 1) := rfl
              have e6 : (l1.set i2 (l1.getD (i2 - 1) 0)).length = l1.length := List.length_set
              have hsw2 : Sw a b l (sw l1 i2 (i2 - 1)) := .step i2 (i2 - 1) hsw ⟨by omega, by omega⟩ ⟨by omega, by omega⟩ (by omega)
              have hins : Ins a (i2 - 1) (i2 - 1) (sw l1 i2 (i2 - 1)) := hsd2.swapped hi3 (by omega) hlt
              have hl2 := hsw2.length
              by_cases h2 : 2 ≤ i2 - a
              · repeat' (first | simp only [go_sem, hs, hs2, hl1, ei, eia, ebi, hbe, eba, e5, List.length_set, Ret_eq Try.results181] | simp (disch := omega) only [arith, IntKind.bits, capMax, fill_len, elt_fill] | (refine awpI_draw2 (id := 5) (.one false 0 (.one false 1 (.one false 2 (.one false 3 (.one false 4 (.one false 5 (.one false 6 (.one false 7 (.one false 8 (.one false 9 (.one false 10 (.one false 11 (.one false 12 (.only 13 (.one false 14 (.one false 15 .done)))))))))))))))) mixed (by decide +kernel) (by decide +kernel) ?_) | (refine awpI_draw2 (id := 11) (.one false 0 (.one false 1 (.one false 5 (.one false 6 (.one false 7 (.one false 8 (.one false 9 (.one false 10 (.one false 11 (.one false 12 (.one false 13 (.one false 14 (.mv 2 (.mv 3 (.cal 4 [15] (.only 15 (.one false 16 (.only 17 .done)))))))))))))))))) mixed (by decide +kernel) (by decide +kernel) ?_) | (refine opCallI_rd (by simp only [go_sem, hs, hs2, hl1, ei, eia, ebi, hbe, eba, e5, List.length_set, Ret_eq Try.results181]; first | done | rfl) (hls) (by rintro _ rfl; rfl) ?_; rintro _ rfl) | fail)
                refine awpI_while (σ := Nat × List Int) (fun x => x.1) (fun x => (a ≤ x.1 ∧ x.1 ≤ i2 - 1) ∧ Sw a b l x.2 ∧ Ins a x.1 (i2 - 1) x.2) (fun x => [(9, .v (.int .i64 x.1))]) (fun x => [(0, own16 x.2)]) [0, 1, 2, 7, 8, 100000] [] (i2 - 1, sw l1 i2 (i2 - 1)) _ (Weak.refl _) ⟨⟨by show a ≤ i2 - 1; omega, Nat.le_refl _⟩, hsw2, hins⟩ ?_ ?_ ?_
                · simp only [go_sem, hs, hs2, Ret_eq Try.results181]
                · simp only [go_sem, hs, hs2, Ret_eq Try.results181]
                · rintro ⟨u, l3⟩ s3 ⟨⟨hu1, hu2⟩, hsw3, hins3⟩ hs3
                  simp only [go_sem, hs, hs2, Ret_eq Try.results181] at hs3
                  dsimp only at hu1 hu2 hsw3 hins3
                  have hl3 := hsw3.length
                  have eu : (u : Int) - 1 = ((u - 1 : Nat) : Int) ∨ u = 0 := by omega
                  have hA3 := hA.sw hsw3
                  by_cases hu0 : 1 ≤ u
                  · have eu := eu.resolve_right (by omega)
                    have hls3 := lessS16_fun (l3.getD u 0) (l3.getD (u - 1) 0)
                    by_cases hlt3 : l3.getD u 0 < l3.getD (u - 1) 0
                    · rw [decide_eq_true hlt3] at hls3
                      have hau : a < u := by
                        refine Nat.lt_of_le_of_ne hu1 fun q => ?_
                        subst q
                        rcases hA3 with q | q
                        · omega
                        · have := q a (Nat.le_refl _) (by omega); omega
                      have e7 : (l3.set u (l3.getD (u - 1) 0)).set (u - 1) (l3.getD u 0) = sw l3 u (u - 1) := rfl
                      have e8 : (l3.set u (l3.getD (u - 1) 0)).length = l3.length := List.length_set
                      repeat' (first | simp only [go_sem, hs, hs2, hs3, hl3, eu, e7, List.length_set, Ret_eq Try.results181] | simp (disch := omega) only [arith, IntKind.bits, capMax, fill_len, elt_fill] | (refine awpI_draw2 (id := 16) (.one false 0 (.one false 1 (.one false 2 (.one false 3 (.one false 4 (.one false 5 (.one false 6 (.one false 7 (.one false 8 (.only 9 (.one false 10 .done))))))))))) mixed (by decide +kernel) (by decide +kernel) ?_) | (refine awpI_draw2 (id := 17) (.one false 0 (.one false 1 (.one false 5 (.one false 6 (.one false 7 (.one false 8 (.one false 9 (.one false 10 (.one false 11 (.one false 12 (.one false 13 (.one false 14 (.mv 2 (.mv 3 (.cal 4 [15] (.only 15 (.one false 16 (.only 17 .done)))))))))))))))))) mixed (by decide +kernel) (by decide +kernel) ?_) | (refine opCallI_rd (by simp only [go_sem, hs, hs2, hs3, hl3, eu, e7, List.length_set, Ret_eq Try.results181]; first | done | rfl) (hls3) (by rintro _ rfl; rfl) ?_; rintro _ rfl) | fail)
                      all_goals
                        refine AgainW.to (u - 1, sw l3 u (u - 1)) ?_ ?_ ?_
                        · show u - 1 < u; omega
                        · exact ⟨⟨by show a ≤ u - 1; omega, by show u - 1 ≤ i2 - 1; omega⟩, .step u (u - 1) hsw3 ⟨by omega, by omega⟩ ⟨by omega, by omega⟩ (by omega), hins3.step hau hu2 (by omega) hlt3⟩
                        · simp only [go_sem, hs, hs2, hs3, Ret_eq Try.results181]
                    · rw [decide_eq_false hlt3] at hls3
                      have hsd3 : Sd a i2 l3 := by
                        have := hins3.done (.inr (by omega))
                        rw [show i2 - 1 + 1 = i2 by omega] at this
                        exact this
                      by_cases h3 : 2 ≤ b - i2
                      · repeat' (first | simp only [go_sem, hs, hs2, hs3, hl3, eu, eia, ebi, Ret_eq Try.results181] | simp (disch := omega) only [arith, IntKind.bits, capMax, fill_len, elt_fill] | (refine awpI_draw2 (id := 16) (.one false 0 (.one false 1 (.one false 2 (.one false 3 (.one false 4 (.one false 5 (.one false 6 (.one false 7 (.one false 8 (.only 9 (.one false 10 .done))))))))))) mixed (by decide +kernel) (by decide +kernel) ?_) | (refine opCallI_rd (by simp only [go_sem, hs, hs2, hs3, hl3, eu, eia, ebi, Ret_eq Try.results181]; first | done | rfl) (hls3) (by rintro _ rfl; rfl) ?_; rintro _ rfl) | fail)
                        refine awpI_while (σ := Nat × List Int) (fun x => b - x.1) (fun x => (i2 + 1 ≤ x.1 ∧ x.1 ≤ b) ∧ Sw a b l x.2 ∧ Sd a i2 x.2) (fun x => [(10, .v (.int .i64 x.1))]) (fun x => [(0, own16 x.2)]) [0, 1, 2, 7, 8, 100000] [] (i2 + 1, l3) _ (Weak.refl _) ⟨⟨Nat.le_refl _, by show i2 + 1 ≤ b; omega⟩, hsw3, hsd3⟩ ?_ ?_ ?_
                        · simp only [go_sem, hs, hs2, hs3, Ret_eq Try.results181]
                        · simp only [go_sem, hs, hs2, hs3, Ret_eq Try.results181]
                        · rintro ⟨v, l4⟩ s4 ⟨⟨hv1, hv2⟩, hsw4, hsd4⟩ hs4
                          simp only [go_sem, hs, hs2, hs3, Ret_eq Try.results181] at hs4
                          dsimp only at hv1 hv2 hsw4 hsd4
                          have hl4 := hsw4.length
                          have ev : (v : Int) - 1 = ((v - 1 : Nat) : Int) := by omega
                          by_cases hvb : v < b
                          · have hls4 := lessS16_fun (l4.getD v 0) (l4.getD (v - 1) 0)
                            by_cases hlt4 : l4.getD v 0 < l4.getD (v - 1) 0
                            · rw [decide_eq_true hlt4] at hls4
                              have e7 : (l4.set v (l4.getD (v - 1) 0)).set (v - 1) (l4.getD v 0) = sw l4 v (v - 1) := rfl
                              have e8 : (l4.set v (l4.getD (v - 1) 0)).length = l4.length := List.length_set
                              repeat' (first | simp only [go_sem, hs, hs2, hs3, hs4, hl4, ev, e7, List.length_set, Ret_eq Try.results181] | simp (disch := omega) only [arith, IntKind.bits, capMax, fill_len, elt_fill] | (refine awpI_draw2 (id := 22) (.one false 0 (.one false 1 (.one false 2 (.one false 3 (.one false 4 (.one false 5 (.one false 6 (.one false 7 (.one false 8 (.only 9 (.one false 10 .done))))))))))) mixed (by decide +kernel) (by decide +kernel) ?_) | (refine awpI_draw2 (id := 23) (.one false 0 (.one false 1 (.one false 5 (.one false 6 (.one false 7 (.one false 8 (.one false 9 (.one false 10 (.one false 11 (.one false 12 (.one false 13 (.one false 14 (.mv 2 (.mv 3 (.cal 4 [15] (.only 15 (.one false 16 (.only 17 .done)))))))))))))))))) mixed (by decide +kernel) (by decide +kernel) ?_) | (refine opCallI_rd (by simp only [go_sem, hs, hs2, hs3, hs4, hl4, ev, e7, List.length_set, Ret_eq Try.results181]; first | done | rfl) (hls4) (by rintro _ rfl; rfl) ?_; rintro _ rfl) | fail)
                              all_goals
                                refine AgainW.to (v + 1, sw l4 v (v - 1)) ?_ ?_ ?_
                                · show b - (v + 1) < b - v; omega
                                · exact ⟨⟨by show i2 + 1 ≤ v + 1; omega, by show v + 1 ≤ b; omega⟩, .step v (v - 1) hsw4 ⟨by omega, by omega⟩ ⟨by omega, by omega⟩ (by omega), hsd4.out (by omega) (by omega) (by omega) (by omega)⟩
                                · simp only [go_sem, hs, hs2, hs3, hs4, Ret_eq Try.results181]
                            · rw [decide_eq_false hlt4] at hls4
                              repeat' (first | simp only [go_sem, hs, hs2, hs3, hs4, hl4, ev, Ret_eq Try.results181] | simp (disch := omega) only [arith, IntKind.bits, capMax, fill_len, elt_fill] | (refine awpI_draw2 (id := 22) (.one false 0 (.one false 1 (.one false 2 (.one false 3 (.one false 4 (.one false 5 (.one false 6 (.one false 7 (.one false 8 (.only 9 (.one false 10 .done))))))))))) mixed (by decide +kernel) (by decide +kernel) ?_) | (refine opCallI_rd (by simp only [go_sem, hs, hs2, hs3, hs4, hl4, ev, Ret_eq Try.results181]; first | done | rfl) (hls4) (by rintro _ rfl; rfl) ?_; rintro _ rfl) | fail)
                              all_goals
                                refine AgainW.to (j + 1, i2, l4) ?_ ?_ ?_
                                · show 5 - (j + 1) < 5 - j; omega
                                · exact ⟨⟨hi3, hi4⟩, hsw4, hsd4⟩
                                · simp only [go_sem, hs, hs2, hs3, hs4, Ret_eq Try.results181]
                          · repeat' (first | simp only [go_sem, hs, hs2, hs3, hs4, hl4, ev, Ret_eq Try.results181] | simp (disch := omega) only [arith, IntKind.bits, capMax, fill_len, elt_fill] | fail)
                            all_goals
                              refine AgainW.to (j + 1, i2, l4) ?_ ?_ ?_
                              · show 5 - (j + 1) < 5 - j; omega
                              · exact ⟨⟨hi3, hi4⟩, hsw4, hsd4⟩
                              · simp only [go_sem, hs, hs2, hs3, hs4, Ret_eq Try.results181]
                      · repeat' (first | simp only [go_sem, hs, hs2, hs3, hl3, eu, eia, ebi, Ret_eq Try.results181] | simp (disch := omega) only [arith, IntKind.bits, capMax, fill_len, elt_fill] | (refine awpI_draw2 (id := 16) (.one false 0 (.one false 1 (.one false 2 (.one false 3 (.one false 4 (.one false 5 (.one false 6 (.one false 7 (.one false 8 (.only 9 (.one false 10 .done))))))))))) mixed (by decide +kernel) (by decide +kernel) ?_) | (refine opCallI_rd (by simp only [go_sem, hs, hs2, hs3, hl3, eu, eia, ebi, Ret_eq Try.results181]; first | done | rfl) (hls3) (by rintro _ rfl; rfl) ?_; rintro _ rfl) | fail)
                        all_goals
                          refine AgainW.to (j + 1, i2, l3) ?_ ?_ ?_
                          · show 5 - (j + 1) < 5 - j; omega
                          · exact ⟨⟨hi3, hi4⟩, hsw3, hsd3⟩
                          · simp only [go_sem, hs, hs2, hs3, Ret_eq Try.results181]
                  · have hsd3 : Sd a i2 l3 := by
                      have := hins3.done (.inl (by omega))
                      rw [show i2 - 1 + 1 = i2 by omega] at this
                      exact this
                    obtain rfl : u = 0 := by omega
                    by_cases h3 : 2 ≤ b - i2
                    · repeat' (first | simp only [go_sem, hs, hs2, hs3, hl3, eia, ebi, Ret_eq Try.results181] | simp (disch := omega) only [arith, IntKind.bits, capMax, fill_len, elt_fill] | fail)
                      refine awpI_while (σ := Nat × List Int) (fun x => b - x.1) (fun x => (i2 + 1 ≤ x.1 ∧ x.1 ≤ b) ∧ Sw a b l x.2 ∧ Sd a i2 x.2) (fun x => [(10, .v (.int .i64 x.1))]) (fun x => [(0, own16 x.2)]) [0, 1, 2, 7, 8, 100000] [] (i2 + 1, l3) _ (Weak.refl _) ⟨⟨Nat.le_refl _, by show i2 + 1 ≤ b; omega⟩, hsw3, hsd3⟩ ?_ ?_ ?_
                      · simp only [go_sem, hs, hs2, hs3, Ret_eq Try.results181]
                      · simp only [go_sem, hs, hs2, hs3, Ret_eq Try.results181]
                      · rintro ⟨v, l4⟩ s4 ⟨⟨hv1, hv2⟩, hsw4, hsd4⟩ hs4
                        simp only [go_sem, hs, hs2, hs3, Ret_eq Try.results181] at hs4
                        dsimp only at hv1 hv2 hsw4 hsd4
                        have hl4 := hsw4.length
                        have ev : (v : Int) - 1 = ((v - 1 : Nat) : Int) := by omega
                        by_cases hvb : v < b
                        · have hls4 := lessS16_fun (l4.getD v 0) (l4.getD (v - 1) 0)
                          by_cases hlt4 : l4.getD v 0 < l4.getD (v - 1) 0
                          · rw [decide_eq_true hlt4] at hls4
                            have e7 : (l4.set v (l4.getD (v - 1) 0)).set (v - 1) (l4.getD v 0) = sw l4 v (v - 1) := rfl
                            have e8 : (l4.set v (l4.getD (v - 1) 0)).length = l4.length := List.length_set
                            repeat' (first | simp only [go_sem, hs, hs2, hs3, hs4, hl4, ev, e7, List.length_set, Ret_eq Try.results181] | simp (disch := omega) only [arith, IntKind.bits, capMax, fill_len, elt_fill] | (refine awpI_draw2 (id := 22) (.one false 0 (.one false 1 (.one false 2 (.one false 3 (.one false 4 (.one false 5 (.one false 6 (.one false 7 (.one false 8 (.only 9 (.one false 10 .done))))))))))) mixed (by decide +kernel) (by decide +kernel) ?_) | (refine awpI_draw2 (id := 23) (.one false 0 (.one false 1 (.one false 5 (.one false 6 (.one false 7 (.one false 8 (.one false 9 (.one false 10 (.one false 11 (.one false 12 (.one false 13 (.one false 14 (.mv 2 (.mv 3 (.cal 4 [15] (.only 15 (.one false 16 (.only 17 .done)))))))))))))))))) mixed (by decide +kernel) (by decide +kernel) ?_) | (refine opCallI_rd (by simp only [go_sem, hs, hs2, hs3, hs4, hl4, ev, e7, List.length_set, Ret_eq Try.results181]; first | done | rfl) (hls4) (by rintro _ rfl; rfl) ?_; rintro _ rfl) | fail)
                            all_goals
                              refine AgainW.to (v + 1, sw l4 v (v - 1)) ?_ ?_ ?_
                              · show b - (v + 1) < b - v; omega
                              · exact ⟨⟨by show i2 + 1 ≤ v + 1; omega, by show v + 1 ≤ b; omega⟩, .step v (v - 1) hsw4 ⟨by omega, by omega⟩ ⟨by omega, by omega⟩ (by omega), hsd4.out (by omega) (by omega) (by omega) (by omega)⟩
                              · simp only [go_sem, hs, hs2, hs3, hs4, Ret_eq Try.results181]
                          · rw [decide_eq_false hlt4] at hls4
                            repeat' (first | simp only [go_sem, hs, hs2, hs3, hs4, hl4, ev, Ret_eq Try.results181] | simp (disch := omega) only [arith, IntKind.bits, capMax, fill_len, elt_fill] | (refine awpI_draw2 (id := 22) (.one false 0 (.one false 1 (.one false 2 (.one false 3 (.one false 4 (.one false 5 (.one false 6 (.one false 7 (.one false 8 (.only 9 (.one false 10 .done))))))))))) mixed (by decide +kernel) (by decide +kernel) ?_) | (refine opCallI_rd (by simp only [go_sem, hs, hs2, hs3, hs4, hl4, ev, Ret_eq Try.results181]; first | done | rfl) (hls4) (by rintro _ rfl; rfl) ?_; rintro _ rfl) | fail)
                            all_goals
                              refine AgainW.to (j + 1, i2, l4) ?_ ?_ ?_
                              · show 5 - (j + 1) < 5 - j; omega
                              · exact ⟨⟨hi3, hi4⟩, hsw4, hsd4⟩
                              · simp only [go_sem, hs, hs2, hs3, hs4, Ret_eq Try.results181]
                        · repeat' (first | simp only [go_sem, hs, hs2, hs3, hs4, hl4, ev, Ret_eq Try.results181] | simp (disch := omega) only [arith, IntKind.bits, capMax, fill_len, elt_fill] | fail)
                          all_goals
                            refine AgainW.to (j + 1, i2, l4) ?_ ?_ ?_
                            · show 5 - (j + 1) < 5 - j; omega
                            · exact ⟨⟨hi3, hi4⟩, hsw4, hsd4⟩
                            · simp only [go_sem, hs, hs2, hs3, hs4, Ret_eq Try.results181]
                    · repeat' (first | simp only [go_sem, hs, hs2, hs3, hl3, eia, ebi, Ret_eq Try.results181] | simp (disch := omega) only [arith, IntKind.bits, capMax, fill_len, elt_fill] | fail)
                      all_goals
                        refine AgainW.to (j + 1, i2, l3) ?_ ?_ ?_
                        · show 5 - (j + 1) < 5 - j; omega
                        · exact ⟨⟨hi3, hi4⟩, hsw3, hsd3⟩
                        · simp only [go_sem, hs, hs2, hs3, Ret_eq Try.results181]
              · have hsd3 : Sd a i2 (sw l1 i2 (i2 - 1)) := fun p q p1 p2 p3 => by omega
                by_cases h3 : 2 ≤ b - i2
                · repeat' (first | simp only [go_sem, hs, hs2, hl1, ei, eia, ebi, hbe, eba, e5, List.length_set, Ret_eq Try.results181] | simp (disch := omega) only [arith, IntKind.bits, capMax, fill_len, elt_fill] | (refine awpI_draw2 (id := 5) (.one false 0 (.one false 1 (.one false 2 (.one false 3 (.one false 4 (.one false 5 (.one false 6 (.one false 7 (.one false 8 (.one false 9 (.one false 10 (.one false 11 (.one false 12 (.only 13 (.one false 14 (.one false 15 .done)))))))))))))))) mixed (by decide +kernel) (by decide +kernel) ?_) | (refine awpI_draw2 (id := 11) (.one false 0 (.one false 1 (.one false 5 (.one false 6 (.one false 7 (.one false 8 (.one false 9 (.one false 10 (.one false 11 (.one false 12 (.one false 13 (.one false 14 (.mv 2 (.mv 3 (.cal 4 [15] (.only 15 (.one false 16 (.only 17 .done)))))))))))))))))) mixed (by decide +kernel) (by decide +kernel) ?_) | (refine opCallI_rd (by simp only [go_sem, hs, hs2, hl1, ei, eia, ebi, hbe, eba, e5, List.length_set, Ret_eq Try.results181]; first | done | rfl) (hls) (by rintro _ rfl; rfl) ?_; rintro _ rfl) | fail)
                  refine awpI_while (σ := Nat × List Int) (fun x => b - x.1) (fun x => (i2 + 1 ≤ x.1 ∧ x.1 ≤ b) ∧ Sw a b l x.2 ∧ Sd a i2 x.2) (fun x => [(10, .v (.int .i64 x.1))]) (fun x => [(0, own16 x.2)]) [0, 1, 2, 7, 8, 100000] [] (i2 + 1, (sw l1 i2 (i2 - 1))) _ (Weak.refl _) ⟨⟨Nat.le_refl _, by show i2 + 1 ≤ b; omega⟩, hsw2, hsd3⟩ ?_ ?_ ?_
                  · simp only [go_sem, hs, hs2, Ret_eq Try.results181]
                  · simp only [go_sem, hs, hs2, Ret_eq Try.results181]
                  · rintro ⟨v, l4⟩ s4 ⟨⟨hv1, hv2⟩, hsw4, hsd4⟩ hs4
                    simp only [go_sem, hs, hs2, Ret_eq Try.results181] at hs4
                    dsimp only at hv1 hv2 hsw4 hsd4
                    have hl4 := hsw4.length
                    have ev : (v : Int) - 1 = ((v - 1 : Nat) : Int) := by omega
                    by_cases hvb : v < b
                    · have hls4 := lessS16_fun (l4.getD v 0) (l4.getD (v - 1) 0)
                      by_cases hlt4 : l4.getD v 0 < l4.getD (v - 1) 0
                      · rw [decide_eq_true hlt4] at hls4
                        have e7 : (l4.set v (l4.getD (v - 1) 0)).set (v - 1) (l4.getD v 0) = sw l4 v (v - 1) := rfl
                        have e8 : (l4.set v (l4.getD (v - 1) 0)).length = l4.length := List.length_set
                        repeat' (first | simp only [go_sem, hs, hs2, hs4, hl4, ev, e7, List.length_set, Ret_eq Try.results181] | simp (disch := omega) only [arith, IntKind.bits, capMax, fill_len, elt_fill] | (refine awpI_draw2 (id := 22) (.one false 0 (.one false 1 (.one false 2 (.one false 3 (.one false 4 (.one false 5 (.one false 6 (.one false 7 (.one false 8 (.only 9 (.one false 10 .done))))))))))) mixed (by decide +kernel) (by decide +kernel) ?_) | (refine awpI_draw2 (id := 23) (.one false 0 (.one false 1 (.one false 5 (.one false 6 (.one false 7 (.one false 8 (.one false 9 (.one false 10 (.one false 11 (.one false 12 (.one false 13 (.one false 14 (.mv 2 (.mv 3 (.cal 4 [15] (.only 15 (.one false 16 (.only 17 .done)))))))))))))))))) mixed (by decide +kernel) (by decide +kernel) ?_) | (refine opCallI_rd (by simp only [go_sem, hs, hs2, hs4, hl4, ev, e7, List.length_set, Ret_eq Try.results181]; first | done | rfl) (hls4) (by rintro _ rfl; rfl) ?_; rintro _ rfl) | fail)
                        all_goals
                          refine AgainW.to (v + 1, sw l4 v (v - 1)) ?_ ?_ ?_
                          · show b - (v + 1) < b - v; omega
                          · exact ⟨⟨by show i2 + 1 ≤ v + 1; omega, by show v + 1 ≤ b; omega⟩, .step v (v - 1) hsw4 ⟨by omega, by omega⟩ ⟨by omega, by omega⟩ (by omega), hsd4.out (by omega) (by omega) (by omega) (by omega)⟩
                          · simp only [go_sem, hs, hs2, hs4, Ret_eq Try.results181]
                      · rw [decide_eq_false hlt4] at hls4
                        repeat' (first | simp only [go_sem, hs, hs2, hs4, hl4, ev, Ret_eq Try.results181] | simp (disch := omega) only [arith, IntKind.bits, capMax, fill_len, elt_fill] | (refine awpI_draw2 (id := 22) (.one false 0 (.one false 1 (.one false 2 (.one false 3 (.one false 4 (.one false 5 (.one false 6 (.one false 7 (.one false 8 (.only 9 (.one false 10 .done))))))))))) mixed (by decide +kernel) (by decide +kernel) ?_) | (refine opCallI_rd (by simp only [go_sem, hs, hs2, hs4, hl4, ev, Ret_eq Try.results181]; first | done | rfl) (hls4) (by rintro _ rfl; rfl) ?_; rintro _ rfl) | fail)
                        all_goals
                          refine AgainW.to (j + 1, i2, l4) ?_ ?_ ?_
                          · show 5 - (j + 1) < 5 - j; omega
                          · exact ⟨⟨hi3, hi4⟩, hsw4, hsd4⟩
                          · simp only [go_sem, hs, hs2, hs4, Ret_eq Try.results181]
                    · repeat' (first | simp only [go_sem, hs, hs2, hs4, hl4, ev, Ret_eq Try.results181] | simp (disch := omega) only [arith, IntKind.bits, capMax, fill_len, elt_fill] | fail)
                      all_goals
                        refine AgainW.to (j + 1, i2, l4) ?_ ?_ ?_
                        · show 5 - (j + 1) < 5 - j; omega
                        · exact ⟨⟨hi3, hi4⟩, hsw4, hsd4⟩
                        · simp only [go_sem, hs, hs2, hs4, Ret_eq Try.results181]
                · exact absurd h3 (by omega)
          · rw [decide_eq_false hlt] at hls
            repeat' (first | simp only [go_sem, hs, hs2, hl1, ei, Ret_eq Try.results181] | simp (disch := omega) only [arith, IntKind.bits, capMax, fill_len, elt_fill] | (refine awpI_draw2 (id := 5) (.one false 0 (.one false 1 (.one false 2 (.one false 3 (.one false 4 (.one false 5 (.one false 6 (.one false 7 (.one false 8 (.one false 9 (.one false 10 (.one false 11 (.one false 12 (.only 13 (.one false 14 (.one false 15 .done)))))))))))))))) mixed (by decide +kernel) (by decide +kernel) ?_) | (refine opCallI_rd (by simp only [go_sem, hs, hs2, hl1, ei, Ret_eq Try.results181]; first | done | rfl) (hls) (by rintro _ rfl; rfl) ?_; rintro _ rfl) | fail)
            all_goals
              refine AgainW.to (i2 + 1) ?_ ?_ ?_
              · show b - (i2 + 1) < b - i2; omega
              · exact ⟨⟨by show a + 1 ≤ i2 + 1; omega, by show i2 + 1 ≤ b; omega⟩, hsd2.snoc hi3 (by omega)⟩
              · simp only [go_sem, hs, hs2, Ret_eq Try.results181]
        · obtain rfl : i2 = b := by omega
          repeat' (first | simp only [go_sem, hs, hs2, beq_self_eq_true, Ret_eq Try.results181] | simp (disch := omega) only [arith, IntKind.bits, capMax, fill_len, elt_fill] | refine RetL_calc Try.results181 rfl ?_ | (refine awpI_draw2 (id := 5) (.one false 0 (.one false 1 (.one false 2 (.one false 3 (.one false 4 (.one false 5 (.one false 6 (.one false 7 (.one false 8 (.one false 9 (.one false 10 (.one false 11 (.one false 12 (.only 13 (.one false 14 (.one false 15 .done)))))))))))))))) mixed (by decide +kernel) (by decide +kernel) ?_) | fail)
          all_goals exact ⟨true, rfl, l1, rfl, hsw, fun _ => hsd2⟩
    · repeat' (first | simp only [go_sem, hs, Ret_eq Try.results181] | simp (disch := omega) only [arith, IntKind.bits, capMax, fill_len, elt_fill] | refine RetL_calc Try.results181 rfl ?_ | fail)
      all_goals exact ⟨false, rfl, l1, rfl, hsw, fun q => by cases q⟩
end Go.Proofs.Ytpkampecmlpfmaa.T

end
section
set_option linter.unusedSimpArgs false
set_option linter.unusedVariables false
/- A list sorted; walked. -/
namespace Go.Proofs.Ytpkampecmlpfmaa.T
open Go Go.VL Go.Proofs
set_option maxRecDepth 100000
set_option maxHeartbeats 16000000
def SortsL16 (f : FuncId) (l : List Int) (a b lim : Nat) : Prop := FunL Try.prog f [.ref 0 l.length, .v (.int .i64 a), .v (.int .i64 b), .v (.int .i64 lim)] [own16 l] fun r os =>
    r = .tup [] ∧ ∃ l', os = [own16 l'] ∧ Sw a b l l' ∧ Sd a b l'

theorem pdq16 (n : Nat) : ∀ (l : List Int) (a b lim : Nat), b - a ≤ n → a ≤ b → b ≤ l.length → l.length ≤ 60000 → lim ≤ 60000 → Ahd a b l → SortsL16 160 l a b lim := by
  induction n using Nat.strongRecOn with
  | _ n ih =>
  intro l a b lim0 hn hab hb hl hli hA
  unfold SortsL16
  refine FunL.of_awpI [(100000, 0)] rfl Try.func160 rfl cal160 Try.ntmps160 (by simp) fun hwf hlw ls => ?_
  simp only [lentWf, D.wfs, D.wf, ints_length, ints_wfs, rows_length, rows_wfs, capMax, and_true, true_and] at hwf hlw
  repeat' (first | simp only [go_sem, Ret_eq Try.results160] | fail)
  refine awpI_while (σ := Nat × Nat × Nat × Bool × Bool × List Int) (fun x => x.2.1 - x.1) (fun x => Rest a b l x.1 x.2.1 x.2.2.2.2.2 ∧ x.2.2.1 ≤ 60000) (fun x => [(1, .v (.int .i64 x.1)), (2, .v (.int .i64 x.2.1)), (3, .v (.int .i64 x.2.2.1)), (8, .v (.bool x.2.2.2.1)), (9, .v (.bool x.2.2.2.2.1))]) (fun x => [(0, own16 x.2.2.2.2.2)]) [0, 100000] [] (a, b, lim0, true, true, l) _ (Weak.refl _) ⟨Rest.start hab hb hA, hli⟩ ?_ ?_ ?_
  · simp only [go_sem, Ret_eq Try.results160]
  · simp only [go_sem, Ret_eq Try.results160]
  · rintro ⟨a1, b1, lim, wb, wp, l1⟩ s ⟨hR, hlim⟩ hs
    simp only [go_sem, Ret_eq Try.results160] at hs
    dsimp only at hR hlim
    have hl1 := hR.rs.length
    have r1 := hR.ra
    have r2 := hR.rab
    have r3 := hR.rb
    have ebl : (b1 : Int) - (a1 : Int) = ((b1 - a1 : Nat) : Int) := by omega
    by_cases h12 : b1 - a1 ≤ 12
    · have hin := insertion16 l1 a1 b1 r2 (by omega) (by omega)
      rw [hl1] at hin
      repeat' (first | simp only [go_sem, hs, ebl, Ret_eq Try.results160] | simp (disch := omega) only [arith, IntKind.bits, capMax, fill_len, elt_fill] | refine RetL_calc Try.results160 rfl ?_ | (refine opCallI_lend [0] (by simp only [go_sem, hs, ebl, Ret_eq Try.results160]; first | done | rfl) (by simp only [go_sem, hs, ebl, Ret_eq Try.results160]; first | done | rfl) (by decide) (by simp only [go_sem, hs, ebl, Ret_eq Try.results160]; first | done | decide) (by simp only [go_sem, hs, ebl, Ret_eq Try.results160]; first | done | decide) (hin) ?_; rintro _ _ ⟨rfl, l2, rfl, s2, d2⟩) | fail)
      all_goals exact ⟨rfl, l2, rfl, hR.done s2 d2⟩
    · by_cases hlim0 : lim = 0
      · subst hlim0
        have hin := heap16 l1 a1 b1 (by omega) (by omega) (by omega)
        rw [hl1] at hin
        repeat' (first | simp only [go_sem, hs, ebl, beq_self_eq_true, Ret_eq Try.results160] | simp (disch := omega) only [arith, IntKind.bits, capMax, fill_len, elt_fill] | refine RetL_calc Try.results160 rfl ?_ | (refine opCallI_lend [0] (by simp only [go_sem, hs, ebl, beq_self_eq_true, Ret_eq Try.results160]; first | done | rfl) (by simp only [go_sem, hs, ebl, beq_self_eq_true, Ret_eq Try.results160]; first | done | rfl) (by decide) (by simp only [go_sem, hs, ebl, beq_self_eq_true, Ret_eq Try.results160]; first | done | decide) (by simp only [go_sem, hs, ebl, beq_self_eq_true, Ret_eq Try.results160]; first | done | decide) (hin) ?_; rintro _ _ ⟨rfl, l2, rfl, s2, d2⟩) | fail)
        all_goals exact ⟨rfl, l2, rfl, hR.done s2 d2⟩
      · have hlb : ((lim : Int) == 0) = false := beq_eq_false_iff_ne.2 (by omega)
        have elim : (lim : Int) - 1 = ((lim - 1 : Nat) : Int) := by omega
        cases wb with
        | false =>
          have hbr := break16 l1 a1 b1 r2 (by omega) (by omega)
          rw [hl1] at hbr
          repeat' (first | simp only [go_sem, hs, ebl, hlb, elim, Ret_eq Try.results160] | simp (disch := omega) only [arith, IntKind.bits, capMax, fill_len, elt_fill] | (refine opCallI_lend [0] (by simp only [go_sem, hs, ebl, hlb, elim, Ret_eq Try.results160]; first | done | rfl) (by simp only [go_sem, hs, ebl, hlb, elim, Ret_eq Try.results160]; first | done | rfl) (by decide) (by simp only [go_sem, hs, ebl, hlb, elim, Ret_eq Try.results160]; first | done | decide) (by simp only [go_sem, hs, ebl, hlb, elim, Ret_eq Try.results160]; first | done | decide) (hbr) ?_; rintro _ _ ⟨rfl, l2, rfl, s2⟩) | fail)
          have hR2 := hR.sw s2
          have hl2 := hR2.rs.length
          have hch := choose16 l2 a1 b1 (by omega) (by omega) (by omega)
          rw [hl2] at hch
          refine opCallI_lend [0] (by simp only [go_sem, hs, ebl, hlb, elim, Ret_eq Try.results160]; first | done | rfl) (by simp only [go_sem, hs, ebl, hlb, elim, Ret_eq Try.results160]; first | done | rfl) (by decide) (by simp only [go_sem, hs, ebl, hlb, elim, Ret_eq Try.results160]; first | done | decide) (by simp only [go_sem, hs, ebl, hlb, elim, Ret_eq Try.results160]; first | done | decide) (hch) ?_
          rintro _ _ ⟨x, h, rfl, rfl, hx1, hx2⟩
          by_cases hh : h = 2
          · subst hh
            have hrv := reverse16 l2 a1 b1 r2 (by omega) (by omega) (by omega)
            rw [hl2] at hrv
            repeat' (first | simp only [go_sem, hs, ebl, hlb, elim, beq_self_eq_true, Ret_eq Try.results160] | fail)
            refine opCallI_lend [0] (by simp only [go_sem, hs, ebl, hlb, elim, Ret_eq Try.results160]; first | done | rfl) (by simp only [go_sem, hs, ebl, hlb, elim, Ret_eq Try.results160]; first | done | rfl) (by decide) (by simp only [go_sem, hs, ebl, hlb, elim, Ret_eq Try.results160]; first | done | decide) (by simp only [go_sem, hs, ebl, hlb, elim, Ret_eq Try.results160]; first | done | decide) (hrv) ?_
            rintro _ _ ⟨rfl, l3, rfl, s3⟩
            have hR3 := hR2.sw s3
            have ev : (b1 : Int) - 1 - ((x : Int) - (a1 : Int)) = ((b1 - 1 - (x - a1) : Nat) : Int) := by omega
            have hv : a1 ≤ b1 - 1 - (x - a1) ∧ b1 - 1 - (x - a1) < b1 := by omega
            generalize b1 - 1 - (x - a1) = v at *
            have hL : l3.length = l.length := hR3.rs.length
            by_cases ha : 0 < a1
            · have ea : (a1 : Int) - 1 = ((a1 - 1 : Nat) : Int) := by omega
              have hls := lessS16_fun (l3.getD (a1 - 1) 0) (l3.getD v 0)
              by_cases hlt : l3.getD (a1 - 1) 0 < l3.getD v 0
              · rw [decide_eq_true hlt] at hls
                repeat' (first | simp only [go_sem, hs, ebl, hlb, elim, ev, ea, hL, Ret_eq Try.results160] | simp (disch := omega) only [arith, IntKind.bits, capMax, fill_len, elt_fill] | (refine awpI_draw2 (id := 17) (.one false 0 (.one false 1 (.one false 2 (.one false 3 (.one false 4 (.one false 5 (.one false 6 (.one false 7 (.one false 8 (.one false 9 (.one false 10 (.one false 11 (.only 12 (.one false 13 (.one false 14 .done))))))))))))))) mixed (by decide +kernel) (by decide +kernel) ?_) | (refine opCallI_rd (by simp only [go_sem, hs, ebl, hlb, elim, ev, ea, hL, Ret_eq Try.results160]; first | done | rfl) (hls) (by rintro _ rfl; rfl) ?_; rintro _ rfl) | fail)
                have hpt := part16 l3 a1 b1 v hv (by omega) (by omega)
                rw [hL] at hpt
                refine opCallI_lend [0] (by simp only [go_sem, hs, ebl, hlb, elim, ev, ea, Ret_eq Try.results160]; first | done | rfl) (by simp only [go_sem, hs, ebl, hlb, elim, ev, ea, Ret_eq Try.results160]; first | done | rfl) (by decide) (by simp only [go_sem, hs, ebl, hlb, elim, ev, ea, Ret_eq Try.results160]; first | done | decide) (by simp only [go_sem, hs, ebl, hlb, elim, ev, ea, Ret_eq Try.results160]; first | done | decide) (hpt) ?_
                rintro _ _ ⟨m, t, rfl, l5, rfl, s5, p5⟩
                have hR5 := hR3.sw s5
                have hl5 := hR5.rs.length
                have q1 := p5.h1
                have q2 := p5.h2
                have em1 : (m : Int) - (a1 : Int) = ((m - a1 : Nat) : Int) := by omega
                have em2 : (b1 : Int) - (m : Int) = ((b1 - m : Nat) : Int) := by omega
                have em3 : ((b1 - a1 : Nat) : Int).tdiv 8 = ((b1 - a1 : Nat) : Int) / 8 := Int.tdiv_eq_ediv_of_nonneg (by omega)
                have hA5 := hR5.rh
                have hAl : Ahd a1 m l5 := by
                  rcases hA5 with z | z
                  · exact .inl z
                  · exact .inr fun k k1 k2 => z k k1 (by omega)
                have hAr : Ahd (m + 1) b1 l5 := .inr fun k k1 k2 => by
                  rw [show m + 1 - 1 = m by omega]
                  exact p5.h4 k (by omega) k2
                by_cases hsm : m - a1 < b1 - m
                · have hrec : SortsL16 _ l5 a1 m (lim - 1) := ih (m - a1) (by omega) l5 a1 m (lim - 1) (Nat.le_refl _) q1 (by omega) (by omega) (by omega) hAl
                  unfold SortsL16 at hrec
                  rw [hl5] at hrec
                  repeat' (first | simp only [go_sem, hs, ebl, hlb, elim, ev, ea, em1, em2, em3, Ret_eq Try.results160] | simp (disch := omega) only [arith, IntKind.bits, capMax, fill_len, elt_fill] | fail)
                  refine opCallI_lend [0] (by simp only [go_sem, hs, ebl, hlb, elim, ev, ea, em1, em2, em3, Ret_eq Try.results160]; first | done | rfl) (by simp only [go_sem, hs, ebl, hlb, elim, ev, ea, em1, em2, em3, Ret_eq Try.results160]; first | done | rfl) (by decide) (by simp only [go_sem, hs, ebl, hlb, elim, ev, ea, em1, em2, em3, Ret_eq Try.results160]; first | done | decide) (by simp only [go_sem, hs, ebl, hlb, elim, ev, ea, em1, em2, em3, Ret_eq Try.results160]; first | done | decide) (hrec) ?_
                  rintro _ _ ⟨rfl, l6, rfl, s6, d6⟩
                  repeat' (first | simp only [go_sem, hs, ebl, hlb, elim, ev, ea, em1, em2, em3, Ret_eq Try.results160] | simp (disch := omega) only [arith, IntKind.bits, capMax, fill_len, elt_fill] | fail)
                  refine AgainW.to (m + 1, b1, (lim - 1), decide (((b1 - a1 : Nat) : Int) / 8 ≤ ((m - a1 : Nat) : Int)), t, l6) ?_ ?_ ?_
                  · show b1 - (m + 1) < b1 - a1; omega
                  · exact ⟨hR5.left p5 s6 d6, by show (lim - 1) ≤ 60000; omega⟩
                  · simp only [go_sem, hs, ebl, hlb, elim, ev, ea, em1, em2, em3, Ret_eq Try.results160]
                · have hrec : SortsL16 _ l5 (m + 1) b1 (lim - 1) := ih (b1 - (m + 1)) (by omega) l5 (m + 1) b1 (lim - 1) (Nat.le_refl _) (by omega) (by omega) (by omega) (by omega) hAr
                  unfold SortsL16 at hrec
                  rw [hl5] at hrec
                  repeat' (first | simp only [go_sem, hs, ebl, hlb, elim, ev, ea, em1, em2, em3, Ret_eq Try.results160] | simp (disch := omega) only [arith, IntKind.bits, capMax, fill_len, elt_fill] | fail)
                  refine opCallI_lend [0] (by simp only [go_sem, hs, ebl, hlb, elim, ev, ea, em1, em2, em3, Ret_eq Try.results160]; first | done | rfl) (by simp only [go_sem, hs, ebl, hlb, elim, ev, ea, em1, em2, em3, Ret_eq Try.results160]; first | done | rfl) (by decide) (by simp only [go_sem, hs, ebl, hlb, elim, ev, ea, em1, em2, em3, Ret_eq Try.results160]; first | done | decide) (by simp only [go_sem, hs, ebl, hlb, elim, ev, ea, em1, em2, em3, Ret_eq Try.results160]; first | done | decide) (hrec) ?_
                  rintro _ _ ⟨rfl, l6, rfl, s6, d6⟩
                  repeat' (first | simp only [go_sem, hs, ebl, hlb, elim, ev, ea, em1, em2, em3, Ret_eq Try.results160] | fail)
                  refine AgainW.to (a1, m, (lim - 1), decide (((b1 - a1 : Nat) : Int) / 8 ≤ ((b1 - m : Nat) : Int)), t, l6) ?_ ?_ ?_
                  · show m - a1 < b1 - a1; omega
                  · exact ⟨hR5.right p5 s6 d6, by show (lim - 1) ≤ 60000; omega⟩
                  · simp only [go_sem, hs, ebl, hlb, elim, ev, ea, em1, em2, em3, Ret_eq Try.results160]
              · rw [decide_eq_false hlt] at hls
                repeat' (first | simp only [go_sem, hs, ebl, hlb, elim, ev, ea, hL, Ret_eq Try.results160] | simp (disch := omega) only [arith, IntKind.bits, capMax, fill_len, elt_fill] | (refine awpI_draw2 (id := 17) (.one false 0 (.one false 1 (.one false 2 (.one false 3 (.one false 4 (.one false 5 (.one false 6 (.one false 7 (.one false 8 (.one false 9 (.one false 10 (.one false 11 (.only 12 (.one false 13 (.one false 14 .done))))))))))))))) mixed (by decide +kernel) (by decide +kernel) ?_) | (refine opCallI_rd (by simp only [go_sem, hs, ebl, hlb, elim, ev, ea, hL, Ret_eq Try.results160]; first | done | rfl) (hls) (by rintro _ rfl; rfl) ?_; rintro _ rfl) | fail)
                have hpe := partEq16 l3 a1 b1 v hv (by omega) (by omega)
                rw [hL] at hpe
                refine opCallI_lend [0] (by simp only [go_sem, hs, ebl, hlb, elim, ev, ea, Ret_eq Try.results160]; first | done | rfl) (by simp only [go_sem, hs, ebl, hlb, elim, ev, ea, Ret_eq Try.results160]; first | done | rfl) (by decide) (by simp only [go_sem, hs, ebl, hlb, elim, ev, ea, Ret_eq Try.results160]; first | done | decide) (by simp only [go_sem, hs, ebl, hlb, elim, ev, ea, Ret_eq Try.results160]; first | done | decide) (hpe) ?_
                rintro _ _ ⟨m, rfl, l5, rfl, s5, p5⟩
                repeat' (first | simp only [go_sem, hs, ebl, hlb, elim, ev, ea, Ret_eq Try.results160] | fail)
                refine AgainW.to (m, b1, (lim - 1), false, wp, l5) ?_ ?_ ?_
                · show b1 - m < b1 - a1; have := p5.h1; have := p5.h2; omega
                · exact ⟨(hR3.sw s5).eqPart p5 (s5.all (P := fun z => _ ≤ z) (hR3.ahead ha hv (by omega))), by show (lim - 1) ≤ 60000; omega⟩
                · simp only [go_sem, hs, ebl, hlb, elim, ev, ea, Ret_eq Try.results160]
            · repeat' (first | simp only [go_sem, hs, ebl, hlb, elim, ev, Ret_eq Try.results160] | simp (disch := omega) only [arith, IntKind.bits, capMax, fill_len, elt_fill] | (refine awpI_draw2 (id := 17) (.one false 0 (.one false 1 (.one false 2 (.one false 3 (.one false 4 (.one false 5 (.one false 6 (.one false 7 (.one false 8 (.one false 9 (.one false 10 (.one false 11 (.only 12 (.one false 13 (.one false 14 .done))))))))))))))) mixed (by decide +kernel) (by decide +kernel) ?_) | fail)
              have hpt := part16 l3 a1 b1 v hv (by omega) (by omega)
              rw [hL] at hpt
              refine opCallI_lend [0] (by simp only [go_sem, hs, ebl, hlb, elim, ev, Ret_eq Try.results160]; first | done | rfl) (by simp only [go_sem, hs, ebl, hlb, elim, ev, Ret_eq Try.results160]; first | done | rfl) (by decide) (by simp only [go_sem, hs, ebl, hlb, elim, ev, Ret_eq Try.results160]; first | done | decide) (by simp only [go_sem, hs, ebl, hlb, elim, ev, Ret_eq Try.results160]; first | done | decide) (hpt) ?_
              rintro _ _ ⟨m, t, rfl, l5, rfl, s5, p5⟩
              have hR5 := hR3.sw s5
              have hl5 := hR5.rs.length
              have q1 := p5.h1
              have q2 := p5.h2
              have em1 : (m : Int) - (a1 : Int) = ((m - a1 : Nat) : Int) := by omega
              have em2 : (b1 : Int) - (m : Int) = ((b1 - m : Nat) : Int) := by omega
              have em3 : ((b1 - a1 : Nat) : Int).tdiv 8 = ((b1 - a1 : Nat) : Int) / 8 := Int.tdiv_eq_ediv_of_nonneg (by omega)
              have hA5 := hR5.rh
              have hAl : Ahd a1 m l5 := by
                rcases hA5 with z | z
                · exact .inl z
                · exact .inr fun k k1 k2 => z k k1 (by omega)
              have hAr : Ahd (m + 1) b1 l5 := .inr fun k k1 k2 => by
                rw [show m + 1 - 1 = m by omega]
                exact p5.h4 k (by omega) k2
              by_cases hsm : m - a1 < b1 - m
              · have hrec : SortsL16 _ l5 a1 m (lim - 1) := ih (m - a1) (by omega) l5 a1 m (lim - 1) (Nat.le_refl _) q1 (by omega) (by omega) (by omega) hAl
                unfold SortsL16 at hrec
                rw [hl5] at hrec
                repeat' (first | simp only [go_sem, hs, ebl, hlb, elim, ev, em1, em2, em3, Ret_eq Try.results160] | simp (disch := omega) only [arith, IntKind.bits, capMax, fill_len, elt_fill] | fail)
                refine opCallI_lend [0] (by simp only [go_sem, hs, ebl, hlb, elim, ev, em1, em2, em3, Ret_eq Try.results160]; first | done | rfl) (by simp only [go_sem, hs, ebl, hlb, elim, ev, em1, em2, em3, Ret_eq Try.results160]; first | done | rfl) (by decide) (by simp only [go_sem, hs, ebl, hlb, elim, ev, em1, em2, em3, Ret_eq Try.results160]; first | done | decide) (by simp only [go_sem, hs, ebl, hlb, elim, ev, em1, em2, em3, Ret_eq Try.results160]; first | done | decide) (hrec) ?_
                rintro _ _ ⟨rfl, l6, rfl, s6, d6⟩
                repeat' (first | simp only [go_sem, hs, ebl, hlb, elim, ev, em1, em2, em3, Ret_eq Try.results160] | simp (disch := omega) only [arith, IntKind.bits, capMax, fill_len, elt_fill] | fail)
                refine AgainW.to (m + 1, b1, (lim - 1), decide (((b1 - a1 : Nat) : Int) / 8 ≤ ((m - a1 : Nat) : Int)), t, l6) ?_ ?_ ?_
                · show b1 - (m + 1) < b1 - a1; omega
                · exact ⟨hR5.left p5 s6 d6, by show (lim - 1) ≤ 60000; omega⟩
                · simp only [go_sem, hs, ebl, hlb, elim, ev, em1, em2, em3, Ret_eq Try.results160]
              · have hrec : SortsL16 _ l5 (m + 1) b1 (lim - 1) := ih (b1 - (m + 1)) (by omega) l5 (m + 1) b1 (lim - 1) (Nat.le_refl _) (by omega) (by omega) (by omega) (by omega) hAr
                unfold SortsL16 at hrec
                rw [hl5] at hrec
                repeat' (first | simp only [go_sem, hs, ebl, hlb, elim, ev, em1, em2, em3, Ret_eq Try.results160] | simp (disch := omega) only [arith, IntKind.bits, capMax, fill_len, elt_fill] | fail)
                refine opCallI_lend [0] (by simp only [go_sem, hs, ebl, hlb, elim, ev, em1, em2, em3, Ret_eq Try.results160]; first | done | rfl) (by simp only [go_sem, hs, ebl, hlb, elim, ev, em1, em2, em3, Ret_eq Try.results160]; first | done | rfl) (by decide) (by simp only [go_sem, hs, ebl, hlb, elim, ev, em1, em2, em3, Ret_eq Try.results160]; first | done | decide) (by simp only [go_sem, hs, ebl, hlb, elim, ev, em1, em2, em3, Ret_eq Try.results160]; first | done | decide) (hrec) ?_
                rintro _ _ ⟨rfl, l6, rfl, s6, d6⟩
                repeat' (first | simp only [go_sem, hs, ebl, hlb, elim, ev, em1, em2, em3, Ret_eq Try.results160] | fail)
                refine AgainW.to (a1, m, (lim - 1), decide (((b1 - a1 : Nat) : Int) / 8 ≤ ((b1 - m : Nat) : Int)), t, l6) ?_ ?_ ?_
                · show m - a1 < b1 - a1; omega
                · exact ⟨hR5.right p5 s6 d6, by show (lim - 1) ≤ 60000; omega⟩
                · simp only [go_sem, hs, ebl, hlb, elim, ev, em1, em2, em3, Ret_eq Try.results160]
          · have hhb : (h == 2) = false := beq_eq_false_iff_ne.2 hh
            have hv : a1 ≤ x ∧ x < b1 := ⟨hx1, hx2⟩
            have hL : l2.length = l.length := hR2.rs.length
            by_cases ha : 0 < a1
            · have ea : (a1 : Int) - 1 = ((a1 - 1 : Nat) : Int) := by omega
              have hls := lessS16_fun (l2.getD (a1 - 1) 0) (l2.getD x 0)
              by_cases hlt : l2.getD (a1 - 1) 0 < l2.getD x 0
              · rw [decide_eq_true hlt] at hls
                repeat' (first | simp only [go_sem, hs, ebl, hlb, elim, hhb, ea, hL, Ret_eq Try.results160] | simp (disch := omega) only [arith, IntKind.bits, capMax, fill_len, elt_fill] | (refine awpI_draw2 (id := 17) (.one false 0 (.one false 1 (.one false 2 (.one false 3 (.one false 4 (.one false 5 (.one false 6 (.one false 7 (.one false 8 (.one false 9 (.one false 10 (.one false 11 (.only 12 (.one false 13 (.one false 14 .done))))))))))))))) mixed (by decide +kernel) (by decide +kernel) ?_) | (refine opCallI_rd (by simp only [go_sem, hs, ebl, hlb, elim, hhb, ea, hL, Ret_eq Try.results160]; first | done | rfl) (hls) (by rintro _ rfl; rfl) ?_; rintro _ rfl) | fail)
                have hpt := part16 l2 a1 b1 x hv (by omega) (by omega)
                rw [hL] at hpt
                refine opCallI_lend [0] (by simp only [go_sem, hs, ebl, hlb, elim, hhb, ea, Ret_eq Try.results160]; first | done | rfl) (by simp only [go_sem, hs, ebl, hlb, elim, hhb, ea, Ret_eq Try.results160]; first | done | rfl) (by decide) (by simp only [go_sem, hs, ebl, hlb, elim, hhb, ea, Ret_eq Try.results160]; first | done | decide) (by simp only [go_sem, hs, ebl, hlb, elim, hhb, ea, Ret_eq Try.results160]; first | done | decide) (hpt) ?_
                rintro _ _ ⟨m, t, rfl, l5, rfl, s5, p5⟩
                have hR5 := hR2.sw s5
                have hl5 := hR5.rs.length
                have q1 := p5.h1
                have q2 := p5.h2
                have em1 : (m : Int) - (a1 : Int) = ((m - a1 : Nat) : Int) := by omega
                have em2 : (b1 : Int) - (m : Int) = ((b1 - m : Nat) : Int) := by omega
                have em3 : ((b1 - a1 : Nat) : Int).tdiv 8 = ((b1 - a1 : Nat) : Int) / 8 := Int.tdiv_eq_ediv_of_nonneg (by omega)
                have hA5 := hR5.rh
                have hAl : Ahd a1 m l5 := by
                  rcases hA5 with z | z
                  · exact .inl z
                  · exact .inr fun k k1 k2 => z k k1 (by omega)
                have hAr : Ahd (m + 1) b1 l5 := .inr fun k k1 k2 => by
                  rw [show m + 1 - 1 = m by omega]
                  exact p5.h4 k (by omega) k2
                by_cases hsm : m - a1 < b1 - m
                · have hrec : SortsL16 _ l5 a1 m (lim - 1) := ih (m - a1) (by omega) l5 a1 m (lim - 1) (Nat.le_refl _) q1 (by omega) (by omega) (by omega) hAl
                  unfold SortsL16 at hrec
                  rw [hl5] at hrec
                  repeat' (first | simp only [go_sem, hs, ebl, hlb, elim, hhb, ea, em1, em2, em3, Ret_eq Try.results160] | simp (disch := omega) only [arith, IntKind.bits, capMax, fill_len, elt_fill] | fail)
                  refine opCallI_lend [0] (by simp only [go_sem, hs, ebl, hlb, elim, hhb, ea, em1, em2, em3, Ret_eq Try.results160]; first | done | rfl) (by simp only [go_sem, hs, ebl, hlb, elim, hhb, ea, em1, em2, em3, Ret_eq Try.results160]; first | done | rfl) (by decide) (by simp only [go_sem, hs, ebl, hlb, elim, hhb, ea, em1, em2, em3, Ret_eq Try.results160]; first | done | decide) (by simp only [go_sem, hs, ebl, hlb, elim, hhb, ea, em1, em2, em3, Ret_eq Try.results160]; first | done | decide) (hrec) ?_
                  rintro _ _ ⟨rfl, l6, rfl, s6, d6⟩
                  repeat' (first | simp only [go_sem, hs, ebl, hlb, elim, hhb, ea, em1, em2, em3, Ret_eq Try.results160] | simp (disch := omega) only [arith, IntKind.bits, capMax, fill_len, elt_fill] | fail)
                  refine AgainW.to (m + 1, b1, (lim - 1), decide (((b1 - a1 : Nat) : Int) / 8 ≤ ((m - a1 : Nat) : Int)), t, l6) ?_ ?_ ?_
                  · show b1 - (m + 1) < b1 - a1; omega
                  · exact ⟨hR5.left p5 s6 d6, by show (lim - 1) ≤ 60000; omega⟩
                  · simp only [go_sem, hs, ebl, hlb, elim, hhb, ea, em1, em2, em3, Ret_eq Try.results160]
                · have hrec : SortsL16 _ l5 (m + 1) b1 (lim - 1) := ih (b1 - (m + 1)) (by omega) l5 (m + 1) b1 (lim - 1) (Nat.le_refl _) (by omega) (by omega) (by omega) (by omega) hAr
                  unfold SortsL16 at hrec
                  rw [hl5] at hrec
                  repeat' (first | simp only [go_sem, hs, ebl, hlb, elim, hhb, ea, em1, em2, em3, Ret_eq Try.results160] | simp (disch := omega) only [arith, IntKind.bits, capMax, fill_len, elt_fill] | fail)
                  refine opCallI_lend [0] (by simp only [go_sem, hs, ebl, hlb, elim, hhb, ea, em1, em2, em3, Ret_eq Try.results160]; first | done | rfl) (by simp only [go_sem, hs, ebl, hlb, elim, hhb, ea, em1, em2, em3, Ret_eq Try.results160]; first | done | rfl) (by decide) (by simp only [go_sem, hs, ebl, hlb, elim, hhb, ea, em1, em2, em3, Ret_eq Try.results160]; first | done | decide) (by simp only [go_sem, hs, ebl, hlb, elim, hhb, ea, em1, em2, em3, Ret_eq Try.results160]; first | done | decide) (hrec) ?_
                  rintro _ _ ⟨rfl, l6, rfl, s6, d6⟩
                  repeat' (first | simp only [go_sem, hs, ebl, hlb, elim, hhb, ea, em1, em2, em3, Ret_eq Try.results160] | fail)
                  refine AgainW.to (a1, m, (lim - 1), decide (((b1 - a1 : Nat) : Int) / 8 ≤ ((b1 - m : Nat) : Int)), t, l6) ?_ ?_ ?_
                  · show m - a1 < b1 - a1; omega
                  · exact ⟨hR5.right p5 s6 d6, by show (lim - 1) ≤ 60000; omega⟩
                  · simp only [go_sem, hs, ebl, hlb, elim, hhb, ea, em1, em2, em3, Ret_eq Try.results160]
              · rw [decide_eq_false hlt] at hls
                repeat' (first | simp only [go_sem, hs, ebl, hlb, elim, hhb, ea, hL, Ret_eq Try.results160] | simp (disch := omega) only [arith, IntKind.bits, capMax, fill_len, elt_fill] | (refine awpI_draw2 (id := 17) (.one false 0 (.one false 1 (.one false 2 (.one false 3 (.one false 4 (.one false 5 (.one false 6 (.one false 7 (.one false 8 (.one false 9 (.one false 10 (.one false 11 (.only 12 (.one false 13 (.one false 14 .done))))))))))))))) mixed (by decide +kernel) (by decide +kernel) ?_) | (refine opCallI_rd (by simp only [go_sem, hs, ebl, hlb, elim, hhb, ea, hL, Ret_eq Try.results160]; first | done | rfl) (hls) (by rintro _ rfl; rfl) ?_; rintro _ rfl) | fail)
                have hpe := partEq16 l2 a1 b1 x hv (by omega) (by omega)
                rw [hL] at hpe
                refine opCallI_lend [0] (by simp only [go_sem, hs, ebl, hlb, elim, hhb, ea, Ret_eq Try.results160]; first | done | rfl) (by simp only [go_sem, hs, ebl, hlb, elim, hhb, ea, Ret_eq Try.results160]; first | done | rfl) (by decide) (by simp only [go_sem, hs, ebl, hlb, elim, hhb, ea, Ret_eq Try.results160]; first | done | decide) (by simp only [go_sem, hs, ebl, hlb, elim, hhb, ea, Ret_eq Try.results160]; first | done | decide) (hpe) ?_
                rintro _ _ ⟨m, rfl, l5, rfl, s5, p5⟩
                repeat' (first | simp only [go_sem, hs, ebl, hlb, elim, hhb, ea, Ret_eq Try.results160] | fail)
                refine AgainW.to (m, b1, (lim - 1), false, wp, l5) ?_ ?_ ?_
                · show b1 - m < b1 - a1; have := p5.h1; have := p5.h2; omega
                · exact ⟨(hR2.sw s5).eqPart p5 (s5.all (P := fun z => _ ≤ z) (hR2.ahead ha hv (by omega))), by show (lim - 1) ≤ 60000; omega⟩
                · simp only [go_sem, hs, ebl, hlb, elim, hhb, ea, Ret_eq Try.results160]
            · repeat' (first | simp only [go_sem, hs, ebl, hlb, elim, hhb, Ret_eq Try.results160] | simp (disch := omega) only [arith, IntKind.bits, capMax, fill_len, elt_fill] | (refine awpI_draw2 (id := 17) (.one false 0 (.one false 1 (.one false 2 (.one false 3 (.one false 4 (.one false 5 (.one false 6 (.one false 7 (.one false 8 (.one false 9 (.one false 10 (.one false 11 (.only 12 (.one false 13 (.one false 14 .done))))))))))))))) mixed (by decide +kernel) (by decide +kernel) ?_) | fail)
              have hpt := part16 l2 a1 b1 x hv (by omega) (by omega)
              rw [hL] at hpt
              refine opCallI_lend [0] (by simp only [go_sem, hs, ebl, hlb, elim, hhb, Ret_eq Try.results160]; first | done | rfl) (by simp only [go_sem, hs, ebl, hlb, elim, hhb, Ret_eq Try.results160]; first | done | rfl) (by decide) (by simp only [go_sem, hs, ebl, hlb, elim, hhb, Ret_eq Try.results160]; first | done | decide) (by simp only [go_sem, hs, ebl, hlb, elim, hhb, Ret_eq Try.results160]; first | done | decide) (hpt) ?_
              rintro _ _ ⟨m, t, rfl, l5, rfl, s5, p5⟩
              have hR5 := hR2.sw s5
              have hl5 := hR5.rs.length
              have q1 := p5.h1
              have q2 := p5.h2
              have em1 : (m : Int) - (a1 : Int) = ((m - a1 : Nat) : Int) := by omega
              have em2 : (b1 : Int) - (m : Int) = ((b1 - m : Nat) : Int) := by omega
              have em3 : ((b1 - a1 : Nat) : Int).tdiv 8 = ((b1 - a1 : Nat) : Int) / 8 := Int.tdiv_eq_ediv_of_nonneg (by omega)
              have hA5 := hR5.rh
              have hAl : Ahd a1 m l5 := by
                rcases hA5 with z | z
                · exact .inl z
                · exact .inr fun k k1 k2 => z k k1 (by omega)
              have hAr : Ahd (m + 1) b1 l5 := .inr fun k k1 k2 => by
                rw [show m + 1 - 1 = m by omega]
                exact p5.h4 k (by omega) k2
              by_cases hsm : m - a1 < b1 - m
              · have hrec : SortsL16 _ l5 a1 m (lim - 1) := ih (m - a1) (by omega) l5 a1 m (lim - 1) (Nat.le_refl _) q1 (by omega) (by omega) (by omega) hAl
                unfold SortsL16 at hrec
                rw [hl5] at hrec
                repeat' (first | simp only [go_sem, hs, ebl, hlb, elim, hhb, em1, em2, em3, Ret_eq Try.results160] | simp (disch := omega) only [arith, IntKind.bits, capMax, fill_len, elt_fill] | fail)
                refine opCallI_lend [0] (by simp only [go_sem, hs, ebl, hlb, elim, hhb, em1, em2, em3, Ret_eq Try.results160]; first | done | rfl) (by simp only [go_sem, hs, ebl, hlb, elim, hhb, em1, em2, em3, Ret_eq Try.results160]; first | done | rfl) (by decide) (by simp only [go_sem, hs, ebl, hlb, elim, hhb, em1, em2, em3, Ret_eq Try.results160]; first | done | decide) (by simp only [go_sem, hs, ebl, hlb, elim, hhb, em1, em2, em3, Ret_eq Try.results160]; first | done | decide) (hrec) ?_
                rintro _ _ ⟨rfl, l6, rfl, s6, d6⟩
                repeat' (first | simp only [go_sem, hs, ebl, hlb, elim, hhb, em1, em2, em3, Ret_eq Try.results160] | simp (disch := omega) only [arith, IntKind.bits, capMax, fill_len, elt_fill] | fail)
                refine AgainW.to (m + 1, b1, (lim - 1), decide (((b1 - a1 : Nat) : Int) / 8 ≤ ((m - a1 : Nat) : Int)), t, l6) ?_ ?_ ?_
                · show b1 - (m + 1) < b1 - a1; omega
                · exact ⟨hR5.left p5 s6 d6, by show (lim - 1) ≤ 60000; omega⟩
                · simp only [go_sem, hs, ebl, hlb, elim, hhb, em1, em2, em3, Ret_eq Try.results160]
              · have hrec : SortsL16 _ l5 (m + 1) b1 (lim - 1) := ih (b1 - (m + 1)) (by omega) l5 (m + 1) b1 (lim - 1) (Nat.le_refl _) (by omega) (by omega) (by omega) (by omega) hAr
                unfold SortsL16 at hrec
                rw [hl5] at hrec
                repeat' (first | simp only [go_sem, hs, ebl, hlb, elim, hhb, em1, em2, em3, Ret_eq Try.results160] | simp (disch := omega) only [arith, IntKind.bits, capMax, fill_len, elt_fill] | fail)
                refine opCallI_lend [0] (by simp only [go_sem, hs, ebl, hlb, elim, hhb, em1, em2, em3, Ret_eq Try.results160]; first | done | rfl) (by simp only [go_sem, hs, ebl, hlb, elim, hhb, em1, em2, em3, Ret_eq Try.results160]; first | done | rfl) (by decide) (by simp only [go_sem, hs, ebl, hlb, elim, hhb, em1, em2, em3, Ret_eq Try.results160]; first | done | decide) (by simp only [go_sem, hs, ebl, hlb, elim, hhb, em1, em2, em3, Ret_eq Try.results160]; first | done | decide) (hrec) ?_
                rintro _ _ ⟨rfl, l6, rfl, s6, d6⟩
                repeat' (first | simp only [go_sem, hs, ebl, hlb, elim, hhb, em1, em2, em3, Ret_eq Try.results160] | fail)
                refine AgainW.to (a1, m, (lim - 1), decide (((b1 - a1 : Nat) : Int) / 8 ≤ ((b1 - m : Nat) : Int)), t, l6) ?_ ?_ ?_
                · show m - a1 < b1 - a1; omega
                · exact ⟨hR5.right p5 s6 d6, by show (lim - 1) ≤ 60000; omega⟩
                · simp only [go_sem, hs, ebl, hlb, elim, hhb, em1, em2, em3, Ret_eq Try.results160]
        | true =>
          have hR2 := hR
          have hl2 := hl1
          have hch := choose16 l1 a1 b1 (by omega) (by omega) (by omega)
          rw [hl1] at hch
          repeat' (first | simp only [go_sem, hs, ebl, hlb, elim, Ret_eq Try.results160] | simp (disch := omega) only [arith, IntKind.bits, capMax, fill_len, elt_fill] | fail)
          refine opCallI_lend [0] (by simp only [go_sem, hs, ebl, hlb, elim, Ret_eq Try.results160]; first | done | rfl) (by simp only [go_sem, hs, ebl, hlb, elim, Ret_eq Try.results160]; first | done | rfl) (by decide) (by simp only [go_sem, hs, ebl, hlb, elim, Ret_eq Try.results160]; first | done | decide) (by simp only [go_sem, hs, ebl, hlb, elim, Ret_eq Try.results160]; first | done | decide) (hch) ?_
          rintro _ _ ⟨x, h, rfl, rfl, hx1, hx2⟩
          by_cases hh : h = 2
          · subst hh
            have hrv := reverse16 l1 a1 b1 r2 (by omega) (by omega) (by omega)
            rw [hl2] at hrv
            repeat' (first | simp only [go_sem, hs, ebl, hlb, elim, beq_self_eq_true, Ret_eq Try.results160] | fail)
            refine opCallI_lend [0] (by simp only [go_sem, hs, ebl, hlb, elim, Ret_eq Try.results160]; first | done | rfl) (by simp only [go_sem, hs, ebl, hlb, elim, Ret_eq Try.results160]; first | done | rfl) (by decide) (by simp only [go_sem, hs, ebl, hlb, elim, Ret_eq Try.results160]; first | done | decide) (by simp only [go_sem, hs, ebl, hlb, elim, Ret_eq Try.results160]; first | done | decide) (hrv) ?_
            rintro _ _ ⟨rfl, l3, rfl, s3⟩
            have hR3 := hR2.sw s3
            have ev : (b1 : Int) - 1 - ((x : Int) - (a1 : Int)) = ((b1 - 1 - (x - a1) : Nat) : Int) := by omega
            have hv : a1 ≤ b1 - 1 - (x - a1) ∧ b1 - 1 - (x - a1) < b1 := by omega
            generalize b1 - 1 - (x - a1) = v at *
            cases wp with
            | true =>
              have hL : l3.length = l.length := hR3.rs.length
              have hpa := partial16 l3 a1 b1 (by omega) (by omega) (by omega) hR3.rh
              rw [hL] at hpa
              repeat' (first | simp only [go_sem, hs, ebl, hlb, elim, ev, beq_self_eq_true, Ret_eq Try.results160] | simp (disch := omega) only [arith, IntKind.bits, capMax, fill_len, elt_fill] | fail)
              refine opCallI_lend [0] (by simp only [go_sem, hs, ebl, hlb, elim, ev, Ret_eq Try.results160]; first | done | rfl) (by simp only [go_sem, hs, ebl, hlb, elim, ev, Ret_eq Try.results160]; first | done | rfl) (by decide) (by simp only [go_sem, hs, ebl, hlb, elim, ev, Ret_eq Try.results160]; first | done | decide) (by simp only [go_sem, hs, ebl, hlb, elim, ev, Ret_eq Try.results160]; first | done | decide) (hpa) ?_
              rintro _ _ ⟨t0, rfl, l4, rfl, s4, d4⟩
              have hR4 := hR3.sw s4
              cases t0 with
              | true =>
                repeat' (first | simp only [go_sem, hs, ebl, hlb, elim, ev, Ret_eq Try.results160] | refine RetL_calc Try.results160 rfl ?_ | fail)
                all_goals exact ⟨rfl, l4, rfl, hR3.done s4 (d4 rfl)⟩
              | false =>
                have hL : l4.length = l.length := hR4.rs.length
                by_cases ha : 0 < a1
                · have ea : (a1 : Int) - 1 = ((a1 - 1 : Nat) : Int) := by omega
                  have hls := lessS16_fun (l4.getD (a1 - 1) 0) (l4.getD v 0)
                  by_cases hlt : l4.getD (a1 - 1) 0 < l4.getD v 0
                  · rw [decide_eq_true hlt] at hls
                    repeat' (first | simp only [go_sem, hs, ebl, hlb, elim, ev, ea, hL, Ret_eq Try.results160] | simp (disch := omega) only [arith, IntKind.bits, capMax, fill_len, elt_fill] | (refine awpI_draw2 (id := 17) (.one false 0 (.one false 1 (.one false 2 (.one false 3 (.one false 4 (.one false 5 (.one false 6 (.one false 7 (.one false 8 (.one false 9 (.one false 10 (.one false 11 (.only 12 (.one false 13 (.one false 14 .done))))))))))))))) mixed (by decide +kernel) (by decide +kernel) ?_) | (refine opCallI_rd (by simp only [go_sem, hs, ebl, hlb, elim, ev, ea, hL, Ret_eq Try.results160]; first | done | rfl) (hls) (by rintro _ rfl; rfl) ?_; rintro _ rfl) | fail)
                    have hpt := part16 l4 a1 b1 v hv (by omega) (by omega)
                    rw [hL] at hpt
                    refine opCallI_lend [0] (by simp only [go_sem, hs, ebl, hlb, elim, ev, ea, Ret_eq Try.results160]; first | done | rfl) (by simp only [go_sem, hs, ebl, hlb, elim, ev, ea, Ret_eq Try.results160]; first | done | rfl) (by decide) (by simp only [go_sem, hs, ebl, hlb, elim, ev, ea, Ret_eq Try.results160]; first | done | decide) (by simp only [go_sem, hs, ebl, hlb, elim, ev, ea, Ret_eq Try.results160]; first | done | decide) (hpt) ?_
                    rintro _ _ ⟨m, t, rfl, l5, rfl, s5, p5⟩
                    have hR5 := hR4.sw s5
                    have hl5 := hR5.rs.length
                    have q1 := p5.h1
                    have q2 := p5.h2
                    have em1 : (m : Int) - (a1 : Int) = ((m - a1 : Nat) : Int) := by omega
                    have em2 : (b1 : Int) - (m : Int) = ((b1 - m : Nat) : Int) := by omega
                    have em3 : ((b1 - a1 : Nat) : Int).tdiv 8 = ((b1 - a1 : Nat) : Int) / 8 := Int.tdiv_eq_ediv_of_nonneg (by omega)
                    have hA5 := hR5.rh
                    have hAl : Ahd a1 m l5 := by
                      rcases hA5 with z | z
                      · exact .inl z
                      · exact .inr fun k k1 k2 => z k k1 (by omega)
                    have hAr : Ahd (m + 1) b1 l5 := .inr fun k k1 k2 => by
                      rw [show m + 1 - 1 = m by omega]
                      exact p5.h4 k (by omega) k2
                    by_cases hsm : m - a1 < b1 - m
                    · have hrec : SortsL16 _ l5 a1 m lim := ih (m - a1) (by omega) l5 a1 m lim (Nat.le_refl _) q1 (by omega) (by omega) (by omega) hAl
                      unfold SortsL16 at hrec
                      rw [hl5] at hrec
                      repeat' (first | simp only [go_sem, hs, ebl, hlb, elim, ev, ea, em1, em2, em3, Ret_eq Try.results160] | simp (disch := omega) only [arith, IntKind.bits, capMax, fill_len, elt_fill] | fail)
                      refine opCallI_lend [0] (by simp only [go_sem, hs, ebl, hlb, elim, ev, ea, em1, em2, em3, Ret_eq Try.results160]; first | done | rfl) (by simp only [go_sem, hs, ebl, hlb, elim, ev, ea, em1, em2, em3, Ret_eq Try.results160]; first | done | rfl) (by decide) (by simp only [go_sem, hs, ebl, hlb, elim, ev, ea, em1, em2, em3, Ret_eq Try.results160]; first | done | decide) (by simp only [go_sem, hs, ebl, hlb, elim, ev, ea, em1, em2, em3, Ret_eq Try.results160]; first | done | decide) (hrec) ?_
                      rintro _ _ ⟨rfl, l6, rfl, s6, d6⟩
                      repeat' (first | simp only [go_sem, hs, ebl, hlb, elim, ev, ea, em1, em2, em3, Ret_eq Try.results160] | simp (disch := omega) only [arith, IntKind.bits, capMax, fill_len, elt_fill] | fail)
                      refine AgainW.to (m + 1, b1, lim, decide (((b1 - a1 : Nat) : Int) / 8 ≤ ((m - a1 : Nat) : Int)), t, l6) ?_ ?_ ?_
                      · show b1 - (m + 1) < b1 - a1; omega
                      · exact ⟨hR5.left p5 s6 d6, by show lim ≤ 60000; omega⟩
                      · simp only [go_sem, hs, ebl, hlb, elim, ev, ea, em1, em2, em3, Ret_eq Try.results160]
                    · have hrec : SortsL16 _ l5 (m + 1) b1 lim := ih (b1 - (m + 1)) (by omega) l5 (m + 1) b1 lim (Nat.le_refl _) (by omega) (by omega) (by omega) (by omega) hAr
                      unfold SortsL16 at hrec
                      rw [hl5] at hrec
                      repeat' (first | simp only [go_sem, hs, ebl, hlb, elim, ev, ea, em1, em2, em3, Ret_eq Try.results160] | simp (disch := omega) only [arith, IntKind.bits, capMax, fill_len, elt_fill] | fail)
                      refine opCallI_lend [0] (by simp only [go_sem, hs, ebl, hlb, elim, ev, ea, em1, em2, em3, Ret_eq Try.results160]; first | done | rfl) (by simp only [go_sem, hs, ebl, hlb, elim, ev, ea, em1, em2, em3, Ret_eq Try.results160]; first | done | rfl) (by decide) (by simp only [go_sem, hs, ebl, hlb, elim, ev, ea, em1, em2, em3, Ret_eq Try.results160]; first | done | decide) (by simp only [go_sem, hs, ebl, hlb, elim, ev, ea, em1, em2, em3, Ret_eq Try.results160]; first | done | decide) (hrec) ?_
                      rintro _ _ ⟨rfl, l6, rfl, s6, d6⟩
                      repeat' (first | simp only [go_sem, hs, ebl, hlb, elim, ev, ea, em1, em2, em3, Ret_eq Try.results160] | fail)
                      refine AgainW.to (a1, m, lim, decide (((b1 - a1 : Nat) : Int) / 8 ≤ ((b1 - m : Nat) : Int)), t, l6) ?_ ?_ ?_
                      · show m - a1 < b1 - a1; omega
                      · exact ⟨hR5.right p5 s6 d6, by show lim ≤ 60000; omega⟩
                      · simp only [go_sem, hs, ebl, hlb, elim, ev, ea, em1, em2, em3, Ret_eq Try.results160]
                  · rw [decide_eq_false hlt] at hls
                    repeat' (first | simp only [go_sem, hs, ebl, hlb, elim, ev, ea, hL, Ret_eq Try.results160] | simp (disch := omega) only [arith, IntKind.bits, capMax, fill_len, elt_fill] | (refine awpI_draw2 (id := 17) (.one false 0 (.one false 1 (.one false 2 (.one false 3 (.one false 4 (.one false 5 (.one false 6 (.one false 7 (.one false 8 (.one false 9 (.one false 10 (.one false 11 (.only 12 (.one false 13 (.one false 14 .done))))))))))))))) mixed (by decide +kernel) (by decide +kernel) ?_) | (refine opCallI_rd (by simp only [go_sem, hs, ebl, hlb, elim, ev, ea, hL, Ret_eq Try.results160]; first | done | rfl) (hls) (by rintro _ rfl; rfl) ?_; rintro _ rfl) | fail)
                    have hpe := partEq16 l4 a1 b1 v hv (by omega) (by omega)
                    rw [hL] at hpe
                    refine opCallI_lend [0] (by simp only [go_sem, hs, ebl, hlb, elim, ev, ea, Ret_eq Try.results160]; first | done | rfl) (by simp only [go_sem, hs, ebl, hlb, elim, ev, ea, Ret_eq Try.results160]; first | done | rfl) (by decide) (by simp only [go_sem, hs, ebl, hlb, elim, ev, ea, Ret_eq Try.results160]; first | done | decide) (by simp only [go_sem, hs, ebl, hlb, elim, ev, ea, Ret_eq Try.results160]; first | done | decide) (hpe) ?_
                    rintro _ _ ⟨m, rfl, l5, rfl, s5, p5⟩
                    repeat' (first | simp only [go_sem, hs, ebl, hlb, elim, ev, ea, Ret_eq Try.results160] | fail)
                    refine AgainW.to (m, b1, lim, true, true, l5) ?_ ?_ ?_
                    · show b1 - m < b1 - a1; have := p5.h1; have := p5.h2; omega
                    · exact ⟨(hR4.sw s5).eqPart p5 (s5.all (P := fun z => _ ≤ z) (hR4.ahead ha hv (by omega))), by show lim ≤ 60000; omega⟩
                    · simp only [go_sem, hs, ebl, hlb, elim, ev, ea, Ret_eq Try.results160]
                · repeat' (first | simp only [go_sem, hs, ebl, hlb, elim, ev, Ret_eq Try.results160] | simp (disch := omega) only [arith, IntKind.bits, capMax, fill_len, elt_fill] | (refine awpI_draw2 (id := 17) (.one false 0 (.one false 1 (.one false 2 (.one false 3 (.one false 4 (.one false 5 (.one false 6 (.one false 7 (.one false 8 (.one false 9 (.one false 10 (.one false 11 (.only 12 (.one false 13 (.one false 14 .done))))))))))))))) mixed (by decide +kernel) (by decide +kernel) ?_) | fail)
                  have hpt := part16 l4 a1 b1 v hv (by omega) (by omega)
                  rw [hL] at hpt
                  refine opCallI_lend [0] (by simp only [go_sem, hs, ebl, hlb, elim, ev, Ret_eq Try.results160]; first | done | rfl) (by simp only [go_sem, hs, ebl, hlb, elim, ev, Ret_eq Try.results160]; first | done | rfl) (by decide) (by simp only [go_sem, hs, ebl, hlb, elim, ev, Ret_eq Try.results160]; first | done | decide) (by simp only [go_sem, hs, ebl, hlb, elim, ev, Ret_eq Try.results160]; first | done | decide) (hpt) ?_
                  rintro _ _ ⟨m, t, rfl, l5, rfl, s5, p5⟩
                  have hR5 := hR4.sw s5
                  have hl5 := hR5.rs.length
                  have q1 := p5.h1
                  have q2 := p5.h2
                  have em1 : (m : Int) - (a1 : Int) = ((m - a1 : Nat) : Int) := by omega
                  have em2 : (b1 : Int) - (m : Int) = ((b1 - m : Nat) : Int) := by omega
                  have em3 : ((b1 - a1 : Nat) : Int).tdiv 8 = ((b1 - a1 : Nat) : Int) / 8 := Int.tdiv_eq_ediv_of_nonneg (by omega)
                  have hA5 := hR5.rh
                  have hAl : Ahd a1 m l5 := by
                    rcases hA5 with z | z
                    · exact .inl z
                    · exact .inr fun k k1 k2 => z k k1 (by omega)
                  have hAr : Ahd (m + 1) b1 l5 := .inr fun k k1 k2 => by
                    rw [show m + 1 - 1 = m by omega]
                    exact p5.h4 k (by omega) k2
                  by_cases hsm : m - a1 < b1 - m
                  · have hrec : SortsL16 _ l5 a1 m lim := ih (m - a1) (by omega) l5 a1 m lim (Nat.le_refl _) q1 (by omega) (by omega) (by omega) hAl
                    unfold SortsL16 at hrec
                    rw [hl5] at hrec
                    repeat' (first | simp only [go_sem, hs, ebl, hlb, elim, ev, em1, em2, em3, Ret_eq Try.results160] | simp (disch := omega) only [arith, IntKind.bits, capMax, fill_len, elt_fill] | fail)
                    refine opCallI_lend [0] (by simp only [go_sem, hs, ebl, hlb, elim, ev, em1, em2, em3, Ret_eq Try.results160]; first | done | rfl) (by simp only [go_sem, hs, ebl, hlb, elim, ev, em1, em2, em3, Ret_eq Try.results160]; first | done | rfl) (by decide) (by simp only [go_sem, hs, ebl, hlb, elim, ev, em1, em2, em3, Ret_eq Try.results160]; first | done | decide) (by simp only [go_sem, hs, ebl, hlb, elim, ev, em1, em2, em3, Ret_eq Try.results160]; first | done | decide) (hrec) ?_
                    rintro _ _ ⟨rfl, l6, rfl, s6, d6⟩
                    repeat' (first | simp only [go_sem, hs, ebl, hlb, elim, ev, em1, em2, em3, Ret_eq Try.results160] | simp (disch := omega) only [arith, IntKind.bits, capMax, fill_len, elt_fill] | fail)
                    refine AgainW.to (m + 1, b1, lim, decide (((b1 - a1 : Nat) : Int) / 8 ≤ ((m - a1 : Nat) : Int)), t, l6) ?_ ?_ ?_
                    · show b1 - (m + 1) < b1 - a1; omega
                    · exact ⟨hR5.left p5 s6 d6, by show lim ≤ 60000; omega⟩
                    · simp only [go_sem, hs, ebl, hlb, elim, ev, em1, em2, em3, Ret_eq Try.results160]
                  · have hrec : SortsL16 _ l5 (m + 1) b1 lim := ih (b1 - (m + 1)) (by omega) l5 (m + 1) b1 lim (Nat.le_refl _) (by omega) (by omega) (by omega) (by omega) hAr
                    unfold SortsL16 at hrec
                    rw [hl5] at hrec
                    repeat' (first | simp only [go_sem, hs, ebl, hlb, elim, ev, em1, em2, em3, Ret_eq Try.results160] | simp (disch := omega) only [arith, IntKind.bits, capMax, fill_len, elt_fill] | fail)
                    refine opCallI_lend [0] (by simp only [go_sem, hs, ebl, hlb, elim, ev, em1, em2, em3, Ret_eq Try.results160]; first | done | rfl) (by simp only [go_sem, hs, ebl, hlb, elim, ev, em1, em2, em3, Ret_eq Try.results160]; first | done | rfl) (by decide) (by simp only [go_sem, hs, ebl, hlb, elim, ev, em1, em2, em3, Ret_eq Try.results160]; first | done | decide) (by simp only [go_sem, hs, ebl, hlb, elim, ev, em1, em2, em3, Ret_eq Try.results160]; first | done | decide) (hrec) ?_
                    rintro _ _ ⟨rfl, l6, rfl, s6, d6⟩
                    repeat' (first | simp only [go_sem, hs, ebl, hlb, elim, ev, em1, em2, em3, Ret_eq Try.results160] | fail)
                    refine AgainW.to (a1, m, lim, decide (((b1 - a1 : Nat) : Int) / 8 ≤ ((b1 - m : Nat) : Int)), t, l6) ?_ ?_ ?_
                    · show m - a1 < b1 - a1; omega
                    · exact ⟨hR5.right p5 s6 d6, by show lim ≤ 60000; omega⟩
                    · simp only [go_sem, hs, ebl, hlb, elim, ev, em1, em2, em3, Ret_eq Try.results160]
            | false =>
              have hL : l3.length = l.length := hR3.rs.length
              by_cases ha : 0 < a1
              · have ea : (a1 : Int) - 1 = ((a1 - 1 : Nat) : Int) := by omega
                have hls := lessS16_fun (l3.getD (a1 - 1) 0) (l3.getD v 0)
                by_cases hlt : l3.getD (a1 - 1) 0 < l3.getD v 0
                · rw [decide_eq_true hlt] at hls
                  repeat' (first | simp only [go_sem, hs, ebl, hlb, elim, ev, beq_self_eq_true, ea, hL, Ret_eq Try.results160] | simp (disch := omega) only [arith, IntKind.bits, capMax, fill_len, elt_fill] | (refine awpI_draw2 (id := 17) (.one false 0 (.one false 1 (.one false 2 (.one false 3 (.one false 4 (.one false 5 (.one false 6 (.one false 7 (.one false 8 (.one false 9 (.one false 10 (.one false 11 (.only 12 (.one false 13 (.one false 14 .done))))))))))))))) mixed (by decide +kernel) (by decide +kernel) ?_) | (refine opCallI_rd (by simp only [go_sem, hs, ebl, hlb, elim, ev, beq_self_eq_true, ea, hL, Ret_eq Try.results160]; first | done | rfl) (hls) (by rintro _ rfl; rfl) ?_; rintro _ rfl) | fail)
                  have hpt := part16 l3 a1 b1 v hv (by omega) (by omega)
                  rw [hL] at hpt
                  refine opCallI_lend [0] (by simp only [go_sem, hs, ebl, hlb, elim, ev, beq_self_eq_true, ea, Ret_eq Try.results160]; first | done | rfl) (by simp only [go_sem, hs, ebl, hlb, elim, ev, beq_self_eq_true, ea, Ret_eq Try.results160]; first | done | rfl) (by decide) (by simp only [go_sem, hs, ebl, hlb, elim, ev, beq_self_eq_true, ea, Ret_eq Try.results160]; first | done | decide) (by simp only [go_sem, hs, ebl, hlb, elim, ev, beq_self_eq_true, ea, Ret_eq Try.results160]; first | done | decide) (hpt) ?_
                  rintro _ _ ⟨m, t, rfl, l5, rfl, s5, p5⟩
                  have hR5 := hR3.sw s5
                  have hl5 := hR5.rs.length
                  have q1 := p5.h1
                  have q2 := p5.h2
                  have em1 : (m : Int) - (a1 : Int) = ((m - a1 : Nat) : Int) := by omega
                  have em2 : (b1 : Int) - (m : Int) = ((b1 - m : Nat) : Int) := by omega
                  have em3 : ((b1 - a1 : Nat) : Int).tdiv 8 = ((b1 - a1 : Nat) : Int) / 8 := Int.tdiv_eq_ediv_of_nonneg (by omega)
                  have hA5 := hR5.rh
                  have hAl : Ahd a1 m l5 := by
                    rcases hA5 with z | z
                    · exact .inl z
                    · exact .inr fun k k1 k2 => z k k1 (by omega)
                  have hAr : Ahd (m + 1) b1 l5 := .inr fun k k1 k2 => by
                    rw [show m + 1 - 1 = m by omega]
                    exact p5.h4 k (by omega) k2
                  by_cases hsm : m - a1 < b1 - m
                  · have hrec : SortsL16 _ l5 a1 m lim := ih (m - a1) (by omega) l5 a1 m lim (Nat.le_refl _) q1 (by omega) (by omega) (by omega) hAl
                    unfold SortsL16 at hrec
                    rw [hl5] at hrec
                    repeat' (first | simp only [go_sem, hs, ebl, hlb, elim, ev, beq_self_eq_true, ea, em1, em2, em3, Ret_eq Try.results160] | simp (disch := omega) only [arith, IntKind.bits, capMax, fill_len, elt_fill] | fail)
                    refine opCallI_lend [0] (by simp only [go_sem, hs, ebl, hlb, elim, ev, beq_self_eq_true, ea, em1, em2, em3, Ret_eq Try.results160]; first | done | rfl) (by simp only [go_sem, hs, ebl, hlb, elim, ev, beq_self_eq_true, ea, em1, em2, em3, Ret_eq Try.results160]; first | done | rfl) (by decide) (by simp only [go_sem, hs, ebl, hlb, elim, ev, beq_self_eq_true, ea, em1, em2, em3, Ret_eq Try.results160]; first | done | decide) (by simp only [go_sem, hs, ebl, hlb, elim, ev, beq_self_eq_true, ea, em1, em2, em3, Ret_eq Try.results160]; first | done | decide) (hrec) ?_
                    rintro _ _ ⟨rfl, l6, rfl, s6, d6⟩
                    repeat' (first | simp only [go_sem, hs, ebl, hlb, elim, ev, beq_self_eq_true, ea, em1, em2, em3, Ret_eq Try.results160] | simp (disch := omega) only [arith, IntKind.bits, capMax, fill_len, elt_fill] | fail)
                    refine AgainW.to (m + 1, b1, lim, decide (((b1 - a1 : Nat) : Int) / 8 ≤ ((m - a1 : Nat) : Int)), t, l6) ?_ ?_ ?_
                    · show b1 - (m + 1) < b1 - a1; omega
                    · exact ⟨hR5.left p5 s6 d6, by show lim ≤ 60000; omega⟩
                    · simp only [go_sem, hs, ebl, hlb, elim, ev, beq_self_eq_true, ea, em1, em2, em3, Ret_eq Try.results160]
                  · have hrec : SortsL16 _ l5 (m + 1) b1 lim := ih (b1 - (m + 1)) (by omega) l5 (m + 1) b1 lim (Nat.le_refl _) (by omega) (by omega) (by omega) (by omega) hAr
                    unfold SortsL16 at hrec
                    rw [hl5] at hrec
                    repeat' (first | simp only [go_sem, hs, ebl, hlb, elim, ev, beq_self_eq_true, ea, em1, em2, em3, Ret_eq Try.results160] | simp (disch := omega) only [arith, IntKind.bits, capMax, fill_len, elt_fill] | fail)
                    refine opCallI_lend [0] (by simp only [go_sem, hs, ebl, hlb, elim, ev, beq_self_eq_true, ea, em1, em2, em3, Ret_eq Try.results160]; first | done | rfl) (by simp only [go_sem, hs, ebl, hlb, elim, ev, beq_self_eq_true, ea, em1, em2, em3, Ret_eq Try.results160]; first | done | rfl) (by decide) (by simp only [go_sem, hs, ebl, hlb, elim, ev, beq_self_eq_true, ea, em1, em2, em3, Ret_eq Try.results160]; first | done | decide) (by simp only [go_sem, hs, ebl, hlb, elim, ev, beq_self_eq_true, ea, em1, em2, em3, Ret_eq Try.results160]; first | done | decide) (hrec) ?_
                    rintro _ _ ⟨rfl, l6, rfl, s6, d6⟩
                    repeat' (first | simp only [go_sem, hs, ebl, hlb, elim, ev, beq_self_eq_true, ea, em1, em2, em3, Ret_eq Try.results160] | fail)
                    refine AgainW.to (a1, m, lim, decide (((b1 - a1 : Nat) : Int) / 8 ≤ ((b1 - m : Nat) : Int)), t, l6) ?_ ?_ ?_
                    · show m - a1 < b1 - a1; omega
                    · exact ⟨hR5.right p5 s6 d6, by show lim ≤ 60000; omega⟩
                    · simp only [go_sem, hs, ebl, hlb, elim, ev, beq_self_eq_true, ea, em1, em2, em3, Ret_eq Try.results160]
                · rw [decide_eq_false hlt] at hls
                  repeat' (first | simp only [go_sem, hs, ebl, hlb, elim, ev, beq_self_eq_true, ea, hL, Ret_eq Try.results160] | simp (disch := omega) only [arith, IntKind.bits, capMax, fill_len, elt_fill] | (refine awpI_draw2 (id := 17) (.one false 0 (.one false 1 (.one false 2 (.one false 3 (.one false 4 (.one false 5 (.one false 6 (.one false 7 (.one false 8 (.one false 9 (.one false 10 (.one false 11 (.only 12 (.one false 13 (.one false 14 .done))))))))))))))) mixed (by decide +kernel) (by decide +kernel) ?_) | (refine opCallI_rd (by simp only [go_sem, hs, ebl, hlb, elim, ev, beq_self_eq_true, ea, hL, Ret_eq Try.results160]; first | done | rfl) (hls) (by rintro _ rfl; rfl) ?_; rintro _ rfl) | fail)
                  have hpe := partEq16 l3 a1 b1 v hv (by omega) (by omega)
                  rw [hL] at hpe
                  refine opCallI_lend [0] (by simp only [go_sem, hs, ebl, hlb, elim, ev, beq_self_eq_true, ea, Ret_eq Try.results160]; first | done | rfl) (by simp only [go_sem, hs, ebl, hlb, elim, ev, beq_self_eq_true, ea, Ret_eq Try.results160]; first | done | rfl) (by decide) (by simp only [go_sem, hs, ebl, hlb, elim, ev, beq_self_eq_true, ea, Ret_eq Try.results160]; first | done | decide) (by simp only [go_sem, hs, ebl, hlb, elim, ev, beq_self_eq_true, ea, Ret_eq Try.results160]; first | done | decide) (hpe) ?_
                  rintro _ _ ⟨m, rfl, l5, rfl, s5, p5⟩
                  repeat' (first | simp only [go_sem, hs, ebl, hlb, elim, ev, beq_self_eq_true, ea, Ret_eq Try.results160] | fail)
                  refine AgainW.to (m, b1, lim, true, false, l5) ?_ ?_ ?_
                  · show b1 - m < b1 - a1; have := p5.h1; have := p5.h2; omega
                  · exact ⟨(hR3.sw s5).eqPart p5 (s5.all (P := fun z => _ ≤ z) (hR3.ahead ha hv (by omega))), by show lim ≤ 60000; omega⟩
                  · simp only [go_sem, hs, ebl, hlb, elim, ev, beq_self_eq_true, ea, Ret_eq Try.results160]
              · repeat' (first | simp only [go_sem, hs, ebl, hlb, elim, ev, beq_self_eq_true, Ret_eq Try.results160] | simp (disch := omega) only [arith, IntKind.bits, capMax, fill_len, elt_fill] | (refine awpI_draw2 (id := 17) (.one false 0 (.one false 1 (.one false 2 (.one false 3 (.one false 4 (.one false 5 (.one false 6 (.one false 7 (.one false 8 (.one false 9 (.one false 10 (.one false 11 (.only 12 (.one false 13 (.one false 14 .done))))))))))))))) mixed (by decide +kernel) (by decide +kernel) ?_) | fail)
                have hpt := part16 l3 a1 b1 v hv (by omega) (by omega)
                rw [hL] at hpt
                refine opCallI_lend [0] (by simp only [go_sem, hs, ebl, hlb, elim, ev, beq_self_eq_true, Ret_eq Try.results160]; first | done | rfl) (by simp only [go_sem, hs, ebl, hlb, elim, ev, beq_self_eq_true, Ret_eq Try.results160]; first | done | rfl) (by decide) (by simp only [go_sem, hs, ebl, hlb, elim, ev, beq_self_eq_true, Ret_eq Try.results160]; first | done | decide) (by simp only [go_sem, hs, ebl, hlb, elim, ev, beq_self_eq_true, Ret_eq Try.results160]; first | done | decide) (hpt) ?_
                rintro _ _ ⟨m, t, rfl, l5, rfl, s5, p5⟩
                have hR5 := hR3.sw s5
                have hl5 := hR5.rs.length
                have q1 := p5.h1
                have q2 := p5.h2
                have em1 : (m : Int) - (a1 : Int) = ((m - a1 : Nat) : Int) := by omega
                have em2 : (b1 : Int) - (m : Int) = ((b1 - m : Nat) : Int) := by omega
                have em3 : ((b1 - a1 : Nat) : Int).tdiv 8 = ((b1 - a1 : Nat) : Int) / 8 := Int.tdiv_eq_ediv_of_nonneg (by omega)
                have hA5 := hR5.rh
                have hAl : Ahd a1 m l5 := by
                  rcases hA5 with z | z
                  · exact .inl z
                  · exact .inr fun k k1 k2 => z k k1 (by omega)
                have hAr : Ahd (m + 1) b1 l5 := .inr fun k k1 k2 => by
                  rw [show m + 1 - 1 = m by omega]
                  exact p5.h4 k (by omega) k2
                by_cases hsm : m - a1 < b1 - m
                · have hrec : SortsL16 _ l5 a1 m lim := ih (m - a1) (by omega) l5 a1 m lim (Nat.le_refl _) q1 (by omega) (by omega) (by omega) hAl
                  unfold SortsL16 at hrec
                  rw [hl5] at hrec
                  repeat' (first | simp only [go_sem, hs, ebl, hlb, elim, ev, beq_self_eq_true, em1, em2, em3, Ret_eq Try.results160] | simp (disch := omega) only [arith, IntKind.bits, capMax, fill_len, elt_fill] | fail)
                  refine opCallI_lend [0] (by simp only [go_sem, hs, ebl, hlb, elim, ev, beq_self_eq_true, em1, em2, em3, Ret_eq Try.results160]; first | done | rfl) (by simp only [go_sem, hs, ebl, hlb, elim, ev, beq_self_eq_true, em1, em2, em3, Ret_eq Try.results160]; first | done | rfl) (by decide) (by simp only [go_sem, hs, ebl, hlb, elim, ev, beq_self_eq_true, em1, em2, em3, Ret_eq Try.results160]; first | done | decide) (by simp only [go_sem, hs, ebl, hlb, elim, ev, beq_self_eq_true, em1, em2, em3, Ret_eq Try.results160]; first | done | decide) (hrec) ?_
                  rintro _ _ ⟨rfl, l6, rfl, s6, d6⟩
                  repeat' (first | simp only [go_sem, hs, ebl, hlb, elim, ev, beq_self_eq_true, em1, em2, em3, Ret_eq Try.results160] | simp (disch := omega) only [arith, IntKind.bits, capMax, fill_len, elt_fill] | fail)
                  refine AgainW.to (m + 1, b1, lim, decide (((b1 - a1 : Nat) : Int) / 8 ≤ ((m - a1 : Nat) : Int)), t, l6) ?_ ?_ ?_
                  · show b1 - (m + 1) < b1 - a1; omega
                  · exact ⟨hR5.left p5 s6 d6, by show lim ≤ 60000; omega⟩
                  · simp only [go_sem, hs, ebl, hlb, elim, ev, beq_self_eq_true, em1, em2, em3, Ret_eq Try.results160]
                · have hrec : SortsL16 _ l5 (m + 1) b1 lim := ih (b1 - (m + 1)) (by omega) l5 (m + 1) b1 lim (Nat.le_refl _) (by omega) (by omega) (by omega) (by omega) hAr
                  unfold SortsL16 at hrec
                  rw [hl5] at hrec
                  repeat' (first | simp only [go_sem, hs, ebl, hlb, elim, ev, beq_self_eq_true, em1, em2, em3, Ret_eq Try.results160] | simp (disch := omega) only [arith, IntKind.bits, capMax, fill_len, elt_fill] | fail)
                  refine opCallI_lend [0] (by simp only [go_sem, hs, ebl, hlb, elim, ev, beq_self_eq_true, em1, em2, em3, Ret_eq Try.results160]; first | done | rfl) (by simp only [go_sem, hs, ebl, hlb, elim, ev, beq_self_eq_true, em1, em2, em3, Ret_eq Try.results160]; first | done | rfl) (by decide) (by simp only [go_sem, hs, ebl, hlb, elim, ev, beq_self_eq_true, em1, em2, em3, Ret_eq Try.results160]; first | done | decide) (by simp only [go_sem, hs, ebl, hlb, elim, ev, beq_self_eq_true, em1, em2, em3, Ret_eq Try.results160]; first | done | decide) (hrec) ?_
                  rintro _ _ ⟨rfl, l6, rfl, s6, d6⟩
                  repeat' (first | simp only [go_sem, hs, ebl, hlb, elim, ev, beq_self_eq_true, em1, em2, em3, Ret_eq Try.results160] | fail)
                  refine AgainW.to (a1, m, lim, decide (((b1 - a1 : Nat) : Int) / 8 ≤ ((b1 - m : Nat) : Int)), t, l6) ?_ ?_ ?_
                  · show m - a1 < b1 - a1; omega
                  · exact ⟨hR5.right p5 s6 d6, by show lim ≤ 60000; omega⟩
                  · simp only [go_sem, hs, ebl, hlb, elim, ev, beq_self_eq_true, em1, em2, em3, Ret_eq Try.results160]
          · have hhb : (h == 2) = false := beq_eq_false_iff_ne.2 hh
            have hv : a1 ≤ x ∧ x < b1 := ⟨hx1, hx2⟩
            by_cases h1 : h = 1
            · subst h1
              cases wp with
              | true =>
                have hL : l1.length = l.length := hR2.rs.length
                have hpa := partial16 l1 a1 b1 (by omega) (by omega) (by omega) hR2.rh
                rw [hL] at hpa
                repeat' (first | simp only [go_sem, hs, ebl, hlb, elim, hhb, beq_self_eq_true, Ret_eq Try.results160] | fail)
                refine opCallI_lend [0] (by simp only [go_sem, hs, ebl, hlb, elim, hhb, Ret_eq Try.results160]; first | done | rfl) (by simp only [go_sem, hs, ebl, hlb, elim, hhb, Ret_eq Try.results160]; first | done | rfl) (by decide) (by simp only [go_sem, hs, ebl, hlb, elim, hhb, Ret_eq Try.results160]; first | done | decide) (by simp only [go_sem, hs, ebl, hlb, elim, hhb, Ret_eq Try.results160]; first | done | decide) (hpa) ?_
                rintro _ _ ⟨t0, rfl, l4, rfl, s4, d4⟩
                have hR4 := hR2.sw s4
                cases t0 with
                | true =>
                  repeat' (first | simp only [go_sem, hs, ebl, hlb, elim, hhb, Ret_eq Try.results160] | refine RetL_calc Try.results160 rfl ?_ | fail)
                  all_goals exact ⟨rfl, l4, rfl, hR2.done s4 (d4 rfl)⟩
                | false =>
                  have hL : l4.length = l.length := hR4.rs.length
                  by_cases ha : 0 < a1
                  · have ea : (a1 : Int) - 1 = ((a1 - 1 : Nat) : Int) := by omega
                    have hls := lessS16_fun (l4.getD (a1 - 1) 0) (l4.getD x 0)
                    by_cases hlt : l4.getD (a1 - 1) 0 < l4.getD x 0
                    · rw [decide_eq_true hlt] at hls
                      repeat' (first | simp only [go_sem, hs, ebl, hlb, elim, hhb, ea, hL, Ret_eq Try.results160] | simp (disch := omega) only [arith, IntKind.bits, capMax, fill_len, elt_fill] | (refine awpI_draw2 (id := 17) (.one false 0 (.one false 1 (.one false 2 (.one false 3 (.one false 4 (.one false 5 (.one false 6 (.one false 7 (.one false 8 (.one false 9 (.one false 10 (.one false 11 (.only 12 (.one false 13 (.one false 14 .done))))))))))))))) mixed (by decide +kernel) (by decide +kernel) ?_) | (refine opCallI_rd (by simp only [go_sem, hs, ebl, hlb, elim, hhb, ea, hL, Ret_eq Try.results160]; first | done | rfl) (hls) (by rintro _ rfl; rfl) ?_; rintro _ rfl) | fail)
                      have hpt := part16 l4 a1 b1 x hv (by omega) (by omega)
                      rw [hL] at hpt
                      refine opCallI_lend [0] (by simp only [go_sem, hs, ebl, hlb, elim, hhb, ea, Ret_eq Try.results160]; first | done | rfl) (by simp only [go_sem, hs, ebl, hlb, elim, hhb, ea, Ret_eq Try.results160]; first | done | rfl) (by decide) (by simp only [go_sem, hs, ebl, hlb, elim, hhb, ea, Ret_eq Try.results160]; first | done | decide) (by simp only [go_sem, hs, ebl, hlb, elim, hhb, ea, Ret_eq Try.results160]; first | done | decide) (hpt) ?_
                      rintro _ _ ⟨m, t, rfl, l5, rfl, s5, p5⟩
                      have hR5 := hR4.sw s5
                      have hl5 := hR5.rs.length
                      have q1 := p5.h1
                      have q2 := p5.h2
                      have em1 : (m : Int) - (a1 : Int) = ((m - a1 : Nat) : Int) := by omega
                      have em2 : (b1 : Int) - (m : Int) = ((b1 - m : Nat) : Int) := by omega
                      have em3 : ((b1 - a1 : Nat) : Int).tdiv 8 = ((b1 - a1 : Nat) : Int) / 8 := Int.tdiv_eq_ediv_of_nonneg (by omega)
                      have hA5 := hR5.rh
                      have hAl : Ahd a1 m l5 := by
                        rcases hA5 with z | z
                        · exact .inl z
                        · exact .inr fun k k1 k2 => z k k1 (by omega)
                      have hAr : Ahd (m + 1) b1 l5 := .inr fun k k1 k2 => by
                        rw [show m + 1 - 1 = m by omega]
                        exact p5.h4 k (by omega) k2
                      by_cases hsm : m - a1 < b1 - m
                      · have hrec : SortsL16 _ l5 a1 m lim := ih (m - a1) (by omega) l5 a1 m lim (Nat.le_refl _) q1 (by omega) (by omega) (by omega) hAl
                        unfold SortsL16 at hrec
                        rw [hl5] at hrec
                        repeat' (first | simp only [go_sem, hs, ebl, hlb, elim, hhb, ea, em1, em2, em3, Ret_eq Try.results160] | simp (disch := omega) only [arith, IntKind.bits, capMax, fill_len, elt_fill] | fail)
                        refine opCallI_lend [0] (by simp only [go_sem, hs, ebl, hlb, elim, hhb, ea, em1, em2, em3, Ret_eq Try.results160]; first | done | rfl) (by simp only [go_sem, hs, ebl, hlb, elim, hhb, ea, em1, em2, em3, Ret_eq Try.results160]; first | done | rfl) (by decide) (by simp only [go_sem, hs, ebl, hlb, elim, hhb, ea, em1, em2, em3, Ret_eq Try.results160]; first | done | decide) (by simp only [go_sem, hs, ebl, hlb, elim, hhb, ea, em1, em2, em3, Ret_eq Try.results160]; first | done | decide) (hrec) ?_
                        rintro _ _ ⟨rfl, l6, rfl, s6, d6⟩
                        repeat' (first | simp only [go_sem, hs, ebl, hlb, elim, hhb, ea, em1, em2, em3, Ret_eq Try.results160] | simp (disch := omega) only [arith, IntKind.bits, capMax, fill_len, elt_fill] | fail)
                        refine AgainW.to (m + 1, b1, lim, decide (((b1 - a1 : Nat) : Int) / 8 ≤ ((m - a1 : Nat) : Int)), t, l6) ?_ ?_ ?_
                        · show b1 - (m + 1) < b1 - a1; omega
                        · exact ⟨hR5.left p5 s6 d6, by show lim ≤ 60000; omega⟩
                        · simp only [go_sem, hs, ebl, hlb, elim, hhb, ea, em1, em2, em3, Ret_eq Try.results160]
                      · have hrec : SortsL16 _ l5 (m + 1) b1 lim := ih (b1 - (m + 1)) (by omega) l5 (m + 1) b1 lim (Nat.le_refl _) (by omega) (by omega) (by omega) (by omega) hAr
                        unfold SortsL16 at hrec
                        rw [hl5] at hrec
                        repeat' (first | simp only [go_sem, hs, ebl, hlb, elim, hhb, ea, em1, em2, em3, Ret_eq Try.results160] | simp (disch := omega) only [arith, IntKind.bits, capMax, fill_len, elt_fill] | fail)
                        refine opCallI_lend [0] (by simp only [go_sem, hs, ebl, hlb, elim, hhb, ea, em1, em2, em3, Ret_eq Try.results160]; first | done | rfl) (by simp only [go_sem, hs, ebl, hlb, elim, hhb, ea, em1, em2, em3, Ret_eq Try.results160]; first | done | rfl) (by decide) (by simp only [go_sem, hs, ebl, hlb, elim, hhb, ea, em1, em2, em3, Ret_eq Try.results160]; first | done | decide) (by simp only [go_sem, hs, ebl, hlb, elim, hhb, ea, em1, em2, em3, Ret_eq Try.results160]; first | done | decide) (hrec) ?_
                        rintro _ _ ⟨rfl, l6, rfl, s6, d6⟩
                        repeat' (first | simp only [go_sem, hs, ebl, hlb, elim, hhb, ea, em1, em2, em3, Ret_eq Try.results160] | fail)
                        refine AgainW.to (a1, m, lim, decide (((b1 - a1 : Nat) : Int) / 8 ≤ ((b1 - m : Nat) : Int)), t, l6) ?_ ?_ ?_
                        · show m - a1 < b1 - a1; omega
                        · exact ⟨hR5.right p5 s6 d6, by show lim ≤ 60000; omega⟩
                        · simp only [go_sem, hs, ebl, hlb, elim, hhb, ea, em1, em2, em3, Ret_eq Try.results160]
                    · rw [decide_eq_false hlt] at hls
                      repeat' (first | simp only [go_sem, hs, ebl, hlb, elim, hhb, ea, hL, Ret_eq Try.results160] | simp (disch := omega) only [arith, IntKind.bits, capMax, fill_len, elt_fill] | (refine awpI_draw2 (id := 17) (.one false 0 (.one false 1 (.one false 2 (.one false 3 (.one false 4 (.one false 5 (.one false 6 (.one false 7 (.one false 8 (.one false 9 (.one false 10 (.one false 11 (.only 12 (.one false 13 (.one false 14 .done))))))))))))))) mixed (by decide +kernel) (by decide +kernel) ?_) | (refine opCallI_rd (by simp only [go_sem, hs, ebl, hlb, elim, hhb, ea, hL, Ret_eq Try.results160]; first | done | rfl) (hls) (by rintro _ rfl; rfl) ?_; rintro _ rfl) | fail)
                      have hpe := partEq16 l4 a1 b1 x hv (by omega) (by omega)
                      rw [hL] at hpe
                      refine opCallI_lend [0] (by simp only [go_sem, hs, ebl, hlb, elim, hhb, ea, Ret_eq Try.results160]; first | done | rfl) (by simp only [go_sem, hs, ebl, hlb, elim, hhb, ea, Ret_eq Try.results160]; first | done | rfl) (by decide) (by simp only [go_sem, hs, ebl, hlb, elim, hhb, ea, Ret_eq Try.results160]; first | done | decide) (by simp only [go_sem, hs, ebl, hlb, elim, hhb, ea, Ret_eq Try.results160]; first | done | decide) (hpe) ?_
                      rintro _ _ ⟨m, rfl, l5, rfl, s5, p5⟩
                      repeat' (first | simp only [go_sem, hs, ebl, hlb, elim, hhb, ea, Ret_eq Try.results160] | fail)
                      refine AgainW.to (m, b1, lim, true, true, l5) ?_ ?_ ?_
                      · show b1 - m < b1 - a1; have := p5.h1; have := p5.h2; omega
                      · exact ⟨(hR4.sw s5).eqPart p5 (s5.all (P := fun z => _ ≤ z) (hR4.ahead ha hv (by omega))), by show lim ≤ 60000; omega⟩
                      · simp only [go_sem, hs, ebl, hlb, elim, hhb, ea, Ret_eq Try.results160]
                  · repeat' (first | simp only [go_sem, hs, ebl, hlb, elim, hhb, Ret_eq Try.results160] | simp (disch := omega) only [arith, IntKind.bits, capMax, fill_len, elt_fill] | (refine awpI_draw2 (id := 17) (.one false 0 (.one false 1 (.one false 2 (.one false 3 (.one false 4 (.one false 5 (.one false 6 (.one false 7 (.one false 8 (.one false 9 (.one false 10 (.one false 11 (.only 12 (.one false 13 (.one false 14 .done))))))))))))))) mixed (by decide +kernel) (by decide +kernel) ?_) | fail)
                    have hpt := part16 l4 a1 b1 x hv (by omega) (by omega)
                    rw [hL] at hpt
                    refine opCallI_lend [0] (by simp only [go_sem, hs, ebl, hlb, elim, hhb, Ret_eq Try.results160]; first | done | rfl) (by simp only [go_sem, hs, ebl, hlb, elim, hhb, Ret_eq Try.results160]; first | done | rfl) (by decide) (by simp only [go_sem, hs, ebl, hlb, elim, hhb, Ret_eq Try.results160]; first | done | decide) (by simp only [go_sem, hs, ebl, hlb, elim, hhb, Ret_eq Try.results160]; first | done | decide) (hpt) ?_
                    rintro _ _ ⟨m, t, rfl, l5, rfl, s5, p5⟩
                    have hR5 := hR4.sw s5
                    have hl5 := hR5.rs.length
                    have q1 := p5.h1
                    have q2 := p5.h2
                    have em1 : (m : Int) - (a1 : Int) = ((m - a1 : Nat) : Int) := by omega
                    have em2 : (b1 : Int) - (m : Int) = ((b1 - m : Nat) : Int) := by omega
                    have em3 : ((b1 - a1 : Nat) : Int).tdiv 8 = ((b1 - a1 : Nat) : Int) / 8 := Int.tdiv_eq_ediv_of_nonneg (by omega)
                    have hA5 := hR5.rh
                    have hAl : Ahd a1 m l5 := by
                      rcases hA5 with z | z
                      · exact .inl z
                      · exact .inr fun k k1 k2 => z k k1 (by omega)
                    have hAr : Ahd (m + 1) b1 l5 := .inr fun k k1 k2 => by
                      rw [show m + 1 - 1 = m by omega]
                      exact p5.h4 k (by omega) k2
                    by_cases hsm : m - a1 < b1 - m
                    · have hrec : SortsL16 _ l5 a1 m lim := ih (m - a1) (by omega) l5 a1 m lim (Nat.le_refl _) q1 (by omega) (by omega) (by omega) hAl
                      unfold SortsL16 at hrec
                      rw [hl5] at hrec
                      repeat' (first | simp only [go_sem, hs, ebl, hlb, elim, hhb, em1, em2, em3, Ret_eq Try.results160] | simp (disch := omega) only [arith, IntKind.bits, capMax, fill_len, elt_fill] | fail)
                      refine opCallI_lend [0] (by simp only [go_sem, hs, ebl, hlb, elim, hhb, em1, em2, em3, Ret_eq Try.results160]; first | done | rfl) (by simp only [go_sem, hs, ebl, hlb, elim, hhb, em1, em2, em3, Ret_eq Try.results160]; first | done | rfl) (by decide) (by simp only [go_sem, hs, ebl, hlb, elim, hhb, em1, em2, em3, Ret_eq Try.results160]; first | done | decide) (by simp only [go_sem, hs, ebl, hlb, elim, hhb, em1, em2, em3, Ret_eq Try.results160]; first | done | decide) (hrec) ?_
                      rintro _ _ ⟨rfl, l6, rfl, s6, d6⟩
                      repeat' (first | simp only [go_sem, hs, ebl, hlb, elim, hhb, em1, em2, em3, Ret_eq Try.results160] | simp (disch := omega) only [arith, IntKind.bits, capMax, fill_len, elt_fill] | fail)
                      refine AgainW.to (m + 1, b1, lim, decide (((b1 - a1 : Nat) : Int) / 8 ≤ ((m - a1 : Nat) : Int)), t, l6) ?_ ?_ ?_
                      · show b1 - (m + 1) < b1 - a1; omega
                      · exact ⟨hR5.left p5 s6 d6, by show lim ≤ 60000; omega⟩
                      · simp only [go_sem, hs, ebl, hlb, elim, hhb, em1, em2, em3, Ret_eq Try.results160]
                    · have hrec : SortsL16 _ l5 (m + 1) b1 lim := ih (b1 - (m + 1)) (by omega) l5 (m + 1) b1 lim (Nat.le_refl _) (by omega) (by omega) (by omega) (by omega) hAr
                      unfold SortsL16 at hrec
                      rw [hl5] at hrec
                      repeat' (first | simp only [go_sem, hs, ebl, hlb, elim, hhb, em1, em2, em3, Ret_eq Try.results160] | simp (disch := omega) only [arith, IntKind.bits, capMax, fill_len, elt_fill] | fail)
                      refine opCallI_lend [0] (by simp only [go_sem, hs, ebl, hlb, elim, hhb, em1, em2, em3, Ret_eq Try.results160]; first | done | rfl) (by simp only [go_sem, hs, ebl, hlb, elim, hhb, em1, em2, em3, Ret_eq Try.results160]; first | done | rfl) (by decide) (by simp only [go_sem, hs, ebl, hlb, elim, hhb, em1, em2, em3, Ret_eq Try.results160]; first | done | decide) (by simp only [go_sem, hs, ebl, hlb, elim, hhb, em1, em2, em3, Ret_eq Try.results160]; first | done | decide) (hrec) ?_
                      rintro _ _ ⟨rfl, l6, rfl, s6, d6⟩
                      repeat' (first | simp only [go_sem, hs, ebl, hlb, elim, hhb, em1, em2, em3, Ret_eq Try.results160] | fail)
                      refine AgainW.to (a1, m, lim, decide (((b1 - a1 : Nat) : Int) / 8 ≤ ((b1 - m : Nat) : Int)), t, l6) ?_ ?_ ?_
                      · show m - a1 < b1 - a1; omega
                      · exact ⟨hR5.right p5 s6 d6, by show lim ≤ 60000; omega⟩
                      · simp only [go_sem, hs, ebl, hlb, elim, hhb, em1, em2, em3, Ret_eq Try.results160]
              | false =>
                have hL : l1.length = l.length := hR2.rs.length
                by_cases ha : 0 < a1
                · have ea : (a1 : Int) - 1 = ((a1 - 1 : Nat) : Int) := by omega
                  have hls := lessS16_fun (l1.getD (a1 - 1) 0) (l1.getD x 0)
                  by_cases hlt : l1.getD (a1 - 1) 0 < l1.getD x 0
                  · rw [decide_eq_true hlt] at hls
                    repeat' (first | simp only [go_sem, hs, ebl, hlb, elim, hhb, beq_self_eq_true, ea, hL, Ret_eq Try.results160] | simp (disch := omega) only [arith, IntKind.bits, capMax, fill_len, elt_fill] | (refine awpI_draw2 (id := 17) (.one false 0 (.one false 1 (.one false 2 (.one false 3 (.one false 4 (.one false 5 (.one false 6 (.one false 7 (.one false 8 (.one false 9 (.one false 10 (.one false 11 (.only 12 (.one false 13 (.one false 14 .done))))))))))))))) mixed (by decide +kernel) (by decide +kernel) ?_) | (refine opCallI_rd (by simp only [go_sem, hs, ebl, hlb, elim, hhb, beq_self_eq_true, ea, hL, Ret_eq Try.results160]; first | done | rfl) (hls) (by rintro _ rfl; rfl) ?_; rintro _ rfl) | fail)
                    have hpt := part16 l1 a1 b1 x hv (by omega) (by omega)
                    rw [hL] at hpt
                    refine opCallI_lend [0] (by simp only [go_sem, hs, ebl, hlb, elim, hhb, beq_self_eq_true, ea, Ret_eq Try.results160]; first | done | rfl) (by simp only [go_sem, hs, ebl, hlb, elim, hhb, beq_self_eq_true, ea, Ret_eq Try.results160]; first | done | rfl) (by decide) (by simp only [go_sem, hs, ebl, hlb, elim, hhb, beq_self_eq_true, ea, Ret_eq Try.results160]; first | done | decide) (by simp only [go_sem, hs, ebl, hlb, elim, hhb, beq_self_eq_true, ea, Ret_eq Try.results160]; first | done | decide) (hpt) ?_
                    rintro _ _ ⟨m, t, rfl, l5, rfl, s5, p5⟩
                    have hR5 := hR2.sw s5
                    have hl5 := hR5.rs.length
                    have q1 := p5.h1
                    have q2 := p5.h2
                    have em1 : (m : Int) - (a1 : Int) = ((m - a1 : Nat) : Int) := by omega
                    have em2 : (b1 : Int) - (m : Int) = ((b1 - m : Nat) : Int) := by omega
                    have em3 : ((b1 - a1 : Nat) : Int).tdiv 8 = ((b1 - a1 : Nat) : Int) / 8 := Int.tdiv_eq_ediv_of_nonneg (by omega)
                    have hA5 := hR5.rh
                    have hAl : Ahd a1 m l5 := by
                      rcases hA5 with z | z
                      · exact .inl z
                      · exact .inr fun k k1 k2 => z k k1 (by omega)
                    have hAr : Ahd (m + 1) b1 l5 := .inr fun k k1 k2 => by
                      rw [show m + 1 - 1 = m by omega]
                      exact p5.h4 k (by omega) k2
                    by_cases hsm : m - a1 < b1 - m
                    · have hrec : SortsL16 _ l5 a1 m lim := ih (m - a1) (by omega) l5 a1 m lim (Nat.le_refl _) q1 (by omega) (by omega) (by omega) hAl
                      unfold SortsL16 at hrec
                      rw [hl5] at hrec
                      repeat' (first | simp only [go_sem, hs, ebl, hlb, elim, hhb, beq_self_eq_true, ea, em1, em2, em3, Ret_eq Try.results160] | simp (disch := omega) only [arith, IntKind.bits, capMax, fill_len, elt_fill] | fail)
                      refine opCallI_lend [0] (by simp only [go_sem, hs, ebl, hlb, elim, hhb, beq_self_eq_true, ea, em1, em2, em3, Ret_eq Try.results160]; first | done | rfl) (by simp only [go_sem, hs, ebl, hlb, elim, hhb, beq_self_eq_true, ea, em1, em2, em3, Ret_eq Try.results160]; first | done | rfl) (by decide) (by simp only [go_sem, hs, ebl, hlb, elim, hhb, beq_self_eq_true, ea, em1, em2, em3, Ret_eq Try.results160]; first | done | decide) (by simp only [go_sem, hs, ebl, hlb, elim, hhb, beq_self_eq_true, ea, em1, em2, em3, Ret_eq Try.results160]; first | done | decide) (hrec) ?_
                      rintro _ _ ⟨rfl, l6, rfl, s6, d6⟩
                      repeat' (first | simp only [go_sem, hs, ebl, hlb, elim, hhb, beq_self_eq_true, ea, em1, em2, em3, Ret_eq Try.results160] | simp (disch := omega) only [arith, IntKind.bits, capMax, fill_len, elt_fill] | fail)
                      refine AgainW.to (m + 1, b1, lim, decide (((b1 - a1 : Nat) : Int) / 8 ≤ ((m - a1 : Nat) : Int)), t, l6) ?_ ?_ ?_
                      · show b1 - (m + 1) < b1 - a1; omega
                      · exact ⟨hR5.left p5 s6 d6, by show lim ≤ 60000; omega⟩
                      · simp only [go_sem, hs, ebl, hlb, elim, hhb, beq_self_eq_true, ea, em1, em2, em3, Ret_eq Try.results160]
                    · have hrec : SortsL16 _ l5 (m + 1) b1 lim := ih (b1 - (m + 1)) (by omega) l5 (m + 1) b1 lim (Nat.le_refl _) (by omega) (by omega) (by omega) (by omega) hAr
                      unfold SortsL16 at hrec
                      rw [hl5] at hrec
                      repeat' (first | simp only [go_sem, hs, ebl, hlb, elim, hhb, beq_self_eq_true, ea, em1, em2, em3, Ret_eq Try.results160] | simp (disch := omega) only [arith, IntKind.bits, capMax, fill_len, elt_fill] | fail)
                      refine opCallI_lend [0] (by simp only [go_sem, hs, ebl, hlb, elim, hhb, beq_self_eq_true, ea, em1, em2, em3, Ret_eq Try.results160]; first | done | rfl) (by simp only [go_sem, hs, ebl, hlb, elim, hhb, beq_self_eq_true, ea, em1, em2, em3, Ret_eq Try.results160]; first | done | rfl) (by decide) (by simp only [go_sem, hs, ebl, hlb, elim, hhb, beq_self_eq_true, ea, em1, em2, em3, Ret_eq Try.results160]; first | done | decide) (by simp only [go_sem, hs, ebl, hlb, elim, hhb, beq_self_eq_true, ea, em1, em2, em3, Ret_eq Try.results160]; first | done | decide) (hrec) ?_
                      rintro _ _ ⟨rfl, l6, rfl, s6, d6⟩
                      repeat' (first | simp only [go_sem, hs, ebl, hlb, elim, hhb, beq_self_eq_true, ea, em1, em2, em3, Ret_eq Try.results160] | fail)
                      refine AgainW.to (a1, m, lim, decide (((b1 - a1 : Nat) : Int) / 8 ≤ ((b1 - m : Nat) : Int)), t, l6) ?_ ?_ ?_
                      · show m - a1 < b1 - a1; omega
                      · exact ⟨hR5.right p5 s6 d6, by show lim ≤ 60000; omega⟩
                      · simp only [go_sem, hs, ebl, hlb, elim, hhb, beq_self_eq_true, ea, em1, em2, em3, Ret_eq Try.results160]
                  · rw [decide_eq_false hlt] at hls
                    repeat' (first | simp only [go_sem, hs, ebl, hlb, elim, hhb, beq_self_eq_true, ea, hL, Ret_eq Try.results160] | simp (disch := omega) only [arith, IntKind.bits, capMax, fill_len, elt_fill] | (refine awpI_draw2 (id := 17) (.one false 0 (.one false 1 (.one false 2 (.one false 3 (.one false 4 (.one false 5 (.one false 6 (.one false 7 (.one false 8 (.one false 9 (.one false 10 (.one false 11 (.only 12 (.one false 13 (.one false 14 .done))))))))))))))) mixed (by decide +kernel) (by decide +kernel) ?_) | (refine opCallI_rd (by simp only [go_sem, hs, ebl, hlb, elim, hhb, beq_self_eq_true, ea, hL, Ret_eq Try.results160]; first | done | rfl) (hls) (by rintro _ rfl; rfl) ?_; rintro _ rfl) | fail)
                    have hpe := partEq16 l1 a1 b1 x hv (by omega) (by omega)
                    rw [hL] at hpe
                    refine opCallI_lend [0] (by simp only [go_sem, hs, ebl, hlb, elim, hhb, beq_self_eq_true, ea, Ret_eq Try.results160]; first | done | rfl) (by simp only [go_sem, hs, ebl, hlb, elim, hhb, beq_self_eq_true, ea, Ret_eq Try.results160]; first | done | rfl) (by decide) (by simp only [go_sem, hs, ebl, hlb, elim, hhb, beq_self_eq_true, ea, Ret_eq Try.results160]; first | done | decide) (by simp only [go_sem, hs, ebl, hlb, elim, hhb, beq_self_eq_true, ea, Ret_eq Try.results160]; first | done | decide) (hpe) ?_
                    rintro _ _ ⟨m, rfl, l5, rfl, s5, p5⟩
                    repeat' (first | simp only [go_sem, hs, ebl, hlb, elim, hhb, beq_self_eq_true, ea, Ret_eq Try.results160] | fail)
                    refine AgainW.to (m, b1, lim, true, false, l5) ?_ ?_ ?_
                    · show b1 - m < b1 - a1; have := p5.h1; have := p5.h2; omega
                    · exact ⟨(hR2.sw s5).eqPart p5 (s5.all (P := fun z => _ ≤ z) (hR2.ahead ha hv (by omega))), by show lim ≤ 60000; omega⟩
                    · simp only [go_sem, hs, ebl, hlb, elim, hhb, beq_self_eq_true, ea, Ret_eq Try.results160]
                · repeat' (first | simp only [go_sem, hs, ebl, hlb, elim, hhb, beq_self_eq_true, Ret_eq Try.results160] | simp (disch := omega) only [arith, IntKind.bits, capMax, fill_len, elt_fill] | (refine awpI_draw2 (id := 17) (.one false 0 (.one false 1 (.one false 2 (.one false 3 (.one false 4 (.one false 5 (.one false 6 (.one false 7 (.one false 8 (.one false 9 (.one false 10 (.one false 11 (.only 12 (.one false 13 (.one false 14 .done))))))))))))))) mixed (by decide +kernel) (by decide +kernel) ?_) | fail)
                  have hpt := part16 l1 a1 b1 x hv (by omega) (by omega)
                  rw [hL] at hpt
                  refine opCallI_lend [0] (by simp only [go_sem, hs, ebl, hlb, elim, hhb, beq_self_eq_true, Ret_eq Try.results160]; first | done | rfl) (by simp only [go_sem, hs, ebl, hlb, elim, hhb, beq_self_eq_true, Ret_eq Try.results160]; first | done | rfl) (by decide) (by simp only [go_sem, hs, ebl, hlb, elim, hhb, beq_self_eq_true, Ret_eq Try.results160]; first | done | decide) (by simp only [go_sem, hs, ebl, hlb, elim, hhb, beq_self_eq_true, Ret_eq Try.results160]; first | done | decide) (hpt) ?_
                  rintro _ _ ⟨m, t, rfl, l5, rfl, s5, p5⟩
                  have hR5 := hR2.sw s5
                  have hl5 := hR5.rs.length
                  have q1 := p5.h1
                  have q2 := p5.h2
                  have em1 : (m : Int) - (a1 : Int) = ((m - a1 : Nat) : Int) := by omega
                  have em2 : (b1 : Int) - (m : Int) = ((b1 - m : Nat) : Int) := by omega
                  have em3 : ((b1 - a1 : Nat) : Int).tdiv 8 = ((b1 - a1 : Nat) : Int) / 8 := Int.tdiv_eq_ediv_of_nonneg (by omega)
                  have hA5 := hR5.rh
                  have hAl : Ahd a1 m l5 := by
                    rcases hA5 with z | z
                    · exact .inl z
                    · exact .inr fun k k1 k2 => z k k1 (by omega)
                  have hAr : Ahd (m + 1) b1 l5 := .inr fun k k1 k2 => by
                    rw [show m + 1 - 1 = m by omega]
                    exact p5.h4 k (by omega) k2
                  by_cases hsm : m - a1 < b1 - m
                  · have hrec : SortsL16 _ l5 a1 m lim := ih (m - a1) (by omega) l5 a1 m lim (Nat.le_refl _) q1 (by omega) (by omega) (by omega) hAl
                    unfold SortsL16 at hrec
                    rw [hl5] at hrec
                    repeat' (first | simp only [go_sem, hs, ebl, hlb, elim, hhb, beq_self_eq_true, em1, em2, em3, Ret_eq Try.results160] | simp (disch := omega) only [arith, IntKind.bits, capMax, fill_len, elt_fill] | fail)
                    refine opCallI_lend [0] (by simp only [go_sem, hs, ebl, hlb, elim, hhb, beq_self_eq_true, em1, em2, em3, Ret_eq Try.results160]; first | done | rfl) (by simp only [go_sem, hs, ebl, hlb, elim, hhb, beq_self_eq_true, em1, em2, em3, Ret_eq Try.results160]; first | done | rfl) (by decide) (by simp only [go_sem, hs, ebl, hlb, elim, hhb, beq_self_eq_true, em1, em2, em3, Ret_eq Try.results160]; first | done | decide) (by simp only [go_sem, hs, ebl, hlb, elim, hhb, beq_self_eq_true, em1, em2, em3, Ret_eq Try.results160]; first | done | decide) (hrec) ?_
                    rintro _ _ ⟨rfl, l6, rfl, s6, d6⟩
                    repeat' (first | simp only [go_sem, hs, ebl, hlb, elim, hhb, beq_self_eq_true, em1, em2, em3, Ret_eq Try.results160] | simp (disch := omega) only [arith, IntKind.bits, capMax, fill_len, elt_fill] | fail)
                    refine AgainW.to (m + 1, b1, lim, decide (((b1 - a1 : Nat) : Int) / 8 ≤ ((m - a1 : Nat) : Int)), t, l6) ?_ ?_ ?_
                    · show b1 - (m + 1) < b1 - a1; omega
                    · exact ⟨hR5.left p5 s6 d6, by show lim ≤ 60000; omega⟩
                    · simp only [go_sem, hs, ebl, hlb, elim, hhb, beq_self_eq_true, em1, em2, em3, Ret_eq Try.results160]
                  · have hrec : SortsL16 _ l5 (m + 1) b1 lim := ih (b1 - (m + 1)) (by omega) l5 (m + 1) b1 lim (Nat.le_refl _) (by omega) (by omega) (by omega) (by omega) hAr
                    unfold SortsL16 at hrec
                    rw [hl5] at hrec
                    repeat' (first | simp only [go_sem, hs, ebl, hlb, elim, hhb, beq_self_eq_true, em1, em2, em3, Ret_eq Try.results160] | simp (disch := omega) only [arith, IntKind.bits, capMax, fill_len, elt_fill] | fail)
                    refine opCallI_lend [0] (by simp only [go_sem, hs, ebl, hlb, elim, hhb, beq_self_eq_true, em1, em2, em3, Ret_eq Try.results160]; first | done | rfl) (by simp only [go_sem, hs, ebl, hlb, elim, hhb, beq_self_eq_true, em1, em2, em3, Ret_eq Try.results160]; first | done | rfl) (by decide) (by simp only [go_sem, hs, ebl, hlb, elim, hhb, beq_self_eq_true, em1, em2, em3, Ret_eq Try.results160]; first | done | decide) (by simp only [go_sem, hs, ebl, hlb, elim, hhb, beq_self_eq_true, em1, em2, em3, Ret_eq Try.results160]; first | done | decide) (hrec) ?_
                    rintro _ _ ⟨rfl, l6, rfl, s6, d6⟩
                    repeat' (first | simp only [go_sem, hs, ebl, hlb, elim, hhb, beq_self_eq_true, em1, em2, em3, Ret_eq Try.results160] | fail)
                    refine AgainW.to (a1, m, lim, decide (((b1 - a1 : Nat) : Int) / 8 ≤ ((b1 - m : Nat) : Int)), t, l6) ?_ ?_ ?_
                    · show m - a1 < b1 - a1; omega
                    · exact ⟨hR5.right p5 s6 d6, by show lim ≤ 60000; omega⟩
                    · simp only [go_sem, hs, ebl, hlb, elim, hhb, beq_self_eq_true, em1, em2, em3, Ret_eq Try.results160]
            · have h1b : (h == 1) = false := beq_eq_false_iff_ne.2 h1
              cases wp with
              | true =>
                have hL : l1.length = l.length := hR2.rs.length
                by_cases ha : 0 < a1
                · have ea : (a1 : Int) - 1 = ((a1 - 1 : Nat) : Int) := by omega
                  have hls := lessS16_fun (l1.getD (a1 - 1) 0) (l1.getD x 0)
                  by_cases hlt : l1.getD (a1 - 1) 0 < l1.getD x 0
                  · rw [decide_eq_true hlt] at hls
                    repeat' (first | simp only [go_sem, hs, ebl, hlb, elim, hhb, h1b, ea, hL, Ret_eq Try.results160] | simp (disch := omega) only [arith, IntKind.bits, capMax, fill_len, elt_fill] | (refine awpI_draw2 (id := 17) (.one false 0 (.one false 1 (.one false 2 (.one false 3 (.one false 4 (.one false 5 (.one false 6 (.one false 7 (.one false 8 (.one false 9 (.one false 10 (.one false 11 (.only 12 (.one false 13 (.one false 14 .done))))))))))))))) mixed (by decide +kernel) (by decide +kernel) ?_) | (refine opCallI_rd (by simp only [go_sem, hs, ebl, hlb, elim, hhb, h1b, ea, hL, Ret_eq Try.results160]; first | done | rfl) (hls) (by rintro _ rfl; rfl) ?_; rintro _ rfl) | fail)
                    have hpt := part16 l1 a1 b1 x hv (by omega) (by omega)
                    rw [hL] at hpt
                    refine opCallI_lend [0] (by simp only [go_sem, hs, ebl, hlb, elim, hhb, h1b, ea, Ret_eq Try.results160]; first | done | rfl) (by simp only [go_sem, hs, ebl, hlb, elim, hhb, h1b, ea, Ret_eq Try.results160]; first | done | rfl) (by decide) (by simp only [go_sem, hs, ebl, hlb, elim, hhb, h1b, ea, Ret_eq Try.results160]; first | done | decide) (by simp only [go_sem, hs, ebl, hlb, elim, hhb, h1b, ea, Ret_eq Try.results160]; first | done | decide) (hpt) ?_
                    rintro _ _ ⟨m, t, rfl, l5, rfl, s5, p5⟩
                    have hR5 := hR2.sw s5
                    have hl5 := hR5.rs.length
                    have q1 := p5.h1
                    have q2 := p5.h2
                    have em1 : (m : Int) - (a1 : Int) = ((m - a1 : Nat) : Int) := by omega
                    have em2 : (b1 : Int) - (m : Int) = ((b1 - m : Nat) : Int) := by omega
                    have em3 : ((b1 - a1 : Nat) : Int).tdiv 8 = ((b1 - a1 : Nat) : Int) / 8 := Int.tdiv_eq_ediv_of_nonneg (by omega)
                    have hA5 := hR5.rh
                    have hAl : Ahd a1 m l5 := by
                      rcases hA5 with z | z
                      · exact .inl z
                      · exact .inr fun k k1 k2 => z k k1 (by omega)
                    have hAr : Ahd (m + 1) b1 l5 := .inr fun k k1 k2 => by
                      rw [show m + 1 - 1 = m by omega]
                      exact p5.h4 k (by omega) k2
                    by_cases hsm : m - a1 < b1 - m
                    · have hrec : SortsL16 _ l5 a1 m lim := ih (m - a1) (by omega) l5 a1 m lim (Nat.le_refl _) q1 (by omega) (by omega) (by omega) hAl
                      unfold SortsL16 at hrec
                      rw [hl5] at hrec
                      repeat' (first | simp only [go_sem, hs, ebl, hlb, elim, hhb, h1b, ea, em1, em2, em3, Ret_eq Try.results160] | simp (disch := omega) only [arith, IntKind.bits, capMax, fill_len, elt_fill] | fail)
                      refine opCallI_lend [0] (by simp only [go_sem, hs, ebl, hlb, elim, hhb, h1b, ea, em1, em2, em3, Ret_eq Try.results160]; first | done | rfl) (by simp only [go_sem, hs, ebl, hlb, elim, hhb, h1b, ea, em1, em2, em3, Ret_eq Try.results160]; first | done | rfl) (by decide) (by simp only [go_sem, hs, ebl, hlb, elim, hhb, h1b, ea, em1, em2, em3, Ret_eq Try.results160]; first | done | decide) (by simp only [go_sem, hs, ebl, hlb, elim, hhb, h1b, ea, em1, em2, em3, Ret_eq Try.results160]; first | done | decide) (hrec) ?_
                      rintro _ _ ⟨rfl, l6, rfl, s6, d6⟩
                      repeat' (first | simp only [go_sem, hs, ebl, hlb, elim, hhb, h1b, ea, em1, em2, em3, Ret_eq Try.results160] | simp (disch := omega) only [arith, IntKind.bits, capMax, fill_len, elt_fill] | fail)
                      refine AgainW.to (m + 1, b1, lim, decide (((b1 - a1 : Nat) : Int) / 8 ≤ ((m - a1 : Nat) : Int)), t, l6) ?_ ?_ ?_
                      · show b1 - (m + 1) < b1 - a1; omega
                      · exact ⟨hR5.left p5 s6 d6, by show lim ≤ 60000; omega⟩
                      · simp only [go_sem, hs, ebl, hlb, elim, hhb, h1b, ea, em1, em2, em3, Ret_eq Try.results160]
                    · have hrec : SortsL16 _ l5 (m + 1) b1 lim := ih (b1 - (m + 1)) (by omega) l5 (m + 1) b1 lim (Nat.le_refl _) (by omega) (by omega) (by omega) (by omega) hAr
                      unfold SortsL16 at hrec
                      rw [hl5] at hrec
                      repeat' (first | simp only [go_sem, hs, ebl, hlb, elim, hhb, h1b, ea, em1, em2, em3, Ret_eq Try.results160] | simp (disch := omega) only [arith, IntKind.bits, capMax, fill_len, elt_fill] | fail)
                      refine opCallI_lend [0] (by simp only [go_sem, hs, ebl, hlb, elim, hhb, h1b, ea, em1, em2, em3, Ret_eq Try.results160]; first | done | rfl) (by simp only [go_sem, hs, ebl, hlb, elim, hhb, h1b, ea, em1, em2, em3, Ret_eq Try.results160]; first | done | rfl) (by decide) (by simp only [go_sem, hs, ebl, hlb, elim, hhb, h1b, ea, em1, em2, em3, Ret_eq Try.results160]; first | done | decide) (by simp only [go_sem, hs, ebl, hlb, elim, hhb, h1b, ea, em1, em2, em3, Ret_eq Try.results160]; first | done | decide) (hrec) ?_
                      rintro _ _ ⟨rfl, l6, rfl, s6, d6⟩
                      repeat' (first | simp only [go_sem, hs, ebl, hlb, elim, hhb, h1b, ea, em1, em2, em3, Ret_eq Try.results160] | fail)
                      refine AgainW.to (a1, m, lim, decide (((b1 - a1 : Nat) : Int) / 8 ≤ ((b1 - m : Nat) : Int)), t, l6) ?_ ?_ ?_
                      · show m - a1 < b1 - a1; omega
                      · exact ⟨hR5.right p5 s6 d6, by show lim ≤ 60000; omega⟩
                      · simp only [go_sem, hs, ebl, hlb, elim, hhb, h1b, ea, em1, em2, em3, Ret_eq Try.results160]
                  · rw [decide_eq_false hlt] at hls
                    repeat' (first | simp only [go_sem, hs, ebl, hlb, elim, hhb, h1b, ea, hL, Ret_eq Try.results160] | simp (disch := omega) only [arith, IntKind.bits, capMax, fill_len, elt_fill] | (refine awpI_draw2 (id := 17) (.one false 0 (.one false 1 (.one false 2 (.one false 3 (.one false 4 (.one false 5 (.one false 6 (.one false 7 (.one false 8 (.one false 9 (.one false 10 (.one false 11 (.only 12 (.one false 13 (.one false 14 .done))))))))))))))) mixed (by decide +kernel) (by decide +kernel) ?_) | (refine opCallI_rd (by simp only [go_sem, hs, ebl, hlb, elim, hhb, h1b, ea, hL, Ret_eq Try.results160]; first | done | rfl) (hls) (by rintro _ rfl; rfl) ?_; rintro _ rfl) | fail)
                    have hpe := partEq16 l1 a1 b1 x hv (by omega) (by omega)
                    rw [hL] at hpe
                    refine opCallI_lend [0] (by simp only [go_sem, hs, ebl, hlb, elim, hhb, h1b, ea, Ret_eq Try.results160]; first | done | rfl) (by simp only [go_sem, hs, ebl, hlb, elim, hhb, h1b, ea, Ret_eq Try.results160]; first | done | rfl) (by decide) (by simp only [go_sem, hs, ebl, hlb, elim, hhb, h1b, ea, Ret_eq Try.results160]; first | done | decide) (by simp only [go_sem, hs, ebl, hlb, elim, hhb, h1b, ea, Ret_eq Try.results160]; first | done | decide) (hpe) ?_
                    rintro _ _ ⟨m, rfl, l5, rfl, s5, p5⟩
                    repeat' (first | simp only [go_sem, hs, ebl, hlb, elim, hhb, h1b, ea, Ret_eq Try.results160] | fail)
                    refine AgainW.to (m, b1, lim, true, true, l5) ?_ ?_ ?_
                    · show b1 - m < b1 - a1; have := p5.h1; have := p5.h2; omega
                    · exact ⟨(hR2.sw s5).eqPart p5 (s5.all (P := fun z => _ ≤ z) (hR2.ahead ha hv (by omega))), by show lim ≤ 60000; omega⟩
                    · simp only [go_sem, hs, ebl, hlb, elim, hhb, h1b, ea, Ret_eq Try.results160]
                · repeat' (first | simp only [go_sem, hs, ebl, hlb, elim, hhb, h1b, Ret_eq Try.results160] | simp (disch := omega) only [arith, IntKind.bits, capMax, fill_len, elt_fill] | (refine awpI_draw2 (id := 17) (.one false 0 (.one false 1 (.one false 2 (.one false 3 (.one false 4 (.one false 5 (.one false 6 (.one false 7 (.one false 8 (.one false 9 (.one false 10 (.one false 11 (.only 12 (.one false 13 (.one false 14 .done))))))))))))))) mixed (by decide +kernel) (by decide +kernel) ?_) | fail)
                  have hpt := part16 l1 a1 b1 x hv (by omega) (by omega)
                  rw [hL] at hpt
                  refine opCallI_lend [0] (by simp only [go_sem, hs, ebl, hlb, elim, hhb, h1b, Ret_eq Try.results160]; first | done | rfl) (by simp only [go_sem, hs, ebl, hlb, elim, hhb, h1b, Ret_eq Try.results160]; first | done | rfl) (by decide) (by simp only [go_sem, hs, ebl, hlb, elim, hhb, h1b, Ret_eq Try.results160]; first | done | decide) (by simp only [go_sem, hs, ebl, hlb, elim, hhb, h1b, Ret_eq Try.results160]; first | done | decide) (hpt) ?_
                  rintro _ _ ⟨m, t, rfl, l5, rfl, s5, p5⟩
                  have hR5 := hR2.sw s5
                  have hl5 := hR5.rs.length
                  have q1 := p5.h1
                  have q2 := p5.h2
                  have em1 : (m : Int) - (a1 : Int) = ((m - a1 : Nat) : Int) := by omega
                  have em2 : (b1 : Int) - (m : Int) = ((b1 - m : Nat) : Int) := by omega
                  have em3 : ((b1 - a1 : Nat) : Int).tdiv 8 = ((b1 - a1 : Nat) : Int) / 8 := Int.tdiv_eq_ediv_of_nonneg (by omega)
                  have hA5 := hR5.rh
                  have hAl : Ahd a1 m l5 := by
                    rcases hA5 with z | z
                    · exact .inl z
                    · exact .inr fun k k1 k2 => z k k1 (by omega)
                  have hAr : Ahd (m + 1) b1 l5 := .inr fun k k1 k2 => by
                    rw [show m + 1 - 1 = m by omega]
                    exact p5.h4 k (by omega) k2
                  by_cases hsm : m - a1 < b1 - m
                  · have hrec : SortsL16 _ l5 a1 m lim := ih (m - a1) (by omega) l5 a1 m lim (Nat.le_refl _) q1 (by omega) (by omega) (by omega) hAl
                    unfold SortsL16 at hrec
                    rw [hl5] at hrec
                    repeat' (first | simp only [go_sem, hs, ebl, hlb, elim, hhb, h1b, em1, em2, em3, Ret_eq Try.results160] | simp (disch := omega) only [arith, IntKind.bits, capMax, fill_len, elt_fill] | fail)
                    refine opCallI_lend [0] (by simp only [go_sem, hs, ebl, hlb, elim, hhb, h1b, em1, em2, em3, Ret_eq Try.results160]; first | done | rfl) (by simp only [go_sem, hs, ebl, hlb, elim, hhb, h1b, em1, em2, em3, Ret_eq Try.results160]; first | done | rfl) (by decide) (by simp only [go_sem, hs, ebl, hlb, elim, hhb, h1b, em1, em2, em3, Ret_eq Try.results160]; first | done | decide) (by simp only [go_sem, hs, ebl, hlb, elim, hhb, h1b, em1, em2, em3, Ret_eq Try.results160]; first | done | decide) (hrec) ?_
                    rintro _ _ ⟨rfl, l6, rfl, s6, d6⟩
                    repeat' (first | simp only [go_sem, hs, ebl, hlb, elim, hhb, h1b, em1, em2, em3, Ret_eq Try.results160] | simp (disch := omega) only [arith, IntKind.bits, capMax, fill_len, elt_fill] | fail)
                    refine AgainW.to (m + 1, b1, lim, decide (((b1 - a1 : Nat) : Int) / 8 ≤ ((m - a1 : Nat) : Int)), t, l6) ?_ ?_ ?_
                    · show b1 - (m + 1) < b1 - a1; omega
                    · exact ⟨hR5.left p5 s6 d6, by show lim ≤ 60000; omega⟩
                    · simp only [go_sem, hs, ebl, hlb, elim, hhb, h1b, em1, em2, em3, Ret_eq Try.results160]
                  · have hrec : SortsL16 _ l5 (m + 1) b1 lim := ih (b1 - (m + 1)) (by omega) l5 (m + 1) b1 lim (Nat.le_refl _) (by omega) (by omega) (by omega) (by omega) hAr
                    unfold SortsL16 at hrec
                    rw [hl5] at hrec
                    repeat' (first | simp only [go_sem, hs, ebl, hlb, elim, hhb, h1b, em1, em2, em3, Ret_eq Try.results160] | simp (disch := omega) only [arith, IntKind.bits, capMax, fill_len, elt_fill] | fail)
                    refine opCallI_lend [0] (by simp only [go_sem, hs, ebl, hlb, elim, hhb, h1b, em1, em2, em3, Ret_eq Try.results160]; first | done | rfl) (by simp only [go_sem, hs, ebl, hlb, elim, hhb, h1b, em1, em2, em3, Ret_eq Try.results160]; first | done | rfl) (by decide) (by simp only [go_sem, hs, ebl, hlb, elim, hhb, h1b, em1, em2, em3, Ret_eq Try.results160]; first | done | decide) (by simp only [go_sem, hs, ebl, hlb, elim, hhb, h1b, em1, em2, em3, Ret_eq Try.results160]; first | done | decide) (hrec) ?_
                    rintro _ _ ⟨rfl, l6, rfl, s6, d6⟩
                    repeat' (first | simp only [go_sem, hs, ebl, hlb, elim, hhb, h1b, em1, em2, em3, Ret_eq Try.results160] | fail)
                    refine AgainW.to (a1, m, lim, decide (((b1 - a1 : Nat) : Int) / 8 ≤ ((b1 - m : Nat) : Int)), t, l6) ?_ ?_ ?_
                    · show m - a1 < b1 - a1; omega
                    · exact ⟨hR5.right p5 s6 d6, by show lim ≤ 60000; omega⟩
                    · simp only [go_sem, hs, ebl, hlb, elim, hhb, h1b, em1, em2, em3, Ret_eq Try.results160]
              | false =>
                have hL : l1.length = l.length := hR2.rs.length
                by_cases ha : 0 < a1
                · have ea : (a1 : Int) - 1 = ((a1 - 1 : Nat) : Int) := by omega
                  have hls := lessS16_fun (l1.getD (a1 - 1) 0) (l1.getD x 0)
                  by_cases hlt : l1.getD (a1 - 1) 0 < l1.getD x 0
                  · rw [decide_eq_true hlt] at hls
                    repeat' (first | simp only [go_sem, hs, ebl, hlb, elim, hhb, h1b, ea, hL, Ret_eq Try.results160] | simp (disch := omega) only [arith, IntKind.bits, capMax, fill_len, elt_fill] | (refine awpI_draw2 (id := 17) (.one false 0 (.one false 1 (.one false 2 (.one false 3 (.one false 4 (.one false 5 (.one false 6 (.one false 7 (.one false 8 (.one false 9 (.one false 10 (.one false 11 (.only 12 (.one false 13 (.one false 14 .done))))))))))))))) mixed (by decide +kernel) (by decide +kernel) ?_) | (refine opCallI_rd (by simp only [go_sem, hs, ebl, hlb, elim, hhb, h1b, ea, hL, Ret_eq Try.results160]; first | done | rfl) (hls) (by rintro _ rfl; rfl) ?_; rintro _ rfl) | fail)
                    have hpt := part16 l1 a1 b1 x hv (by omega) (by omega)
                    rw [hL] at hpt
                    refine opCallI_lend [0] (by simp only [go_sem, hs, ebl, hlb, elim, hhb, h1b, ea, Ret_eq Try.results160]; first | done | rfl) (by simp only [go_sem, hs, ebl, hlb, elim, hhb, h1b, ea, Ret_eq Try.results160]; first | done | rfl) (by decide) (by simp only [go_sem, hs, ebl, hlb, elim, hhb, h1b, ea, Ret_eq Try.results160]; first | done | decide) (by simp only [go_sem, hs, ebl, hlb, elim, hhb, h1b, ea, Ret_eq Try.results160]; first | done | decide) (hpt) ?_
                    rintro _ _ ⟨m, t, rfl, l5, rfl, s5, p5⟩
                    have hR5 := hR2.sw s5
                    have hl5 := hR5.rs.length
                    have q1 := p5.h1
                    have q2 := p5.h2
                    have em1 : (m : Int) - (a1 : Int) = ((m - a1 : Nat) : Int) := by omega
                    have em2 : (b1 : Int) - (m : Int) = ((b1 - m : Nat) : Int) := by omega
                    have em3 : ((b1 - a1 : Nat) : Int).tdiv 8 = ((b1 - a1 : Nat) : Int) / 8 := Int.tdiv_eq_ediv_of_nonneg (by omega)
                    have hA5 := hR5.rh
                    have hAl : Ahd a1 m l5 := by
                      rcases hA5 with z | z
                      · exact .inl z
                      · exact .inr fun k k1 k2 => z k k1 (by omega)
                    have hAr : Ahd (m + 1) b1 l5 := .inr fun k k1 k2 => by
                      rw [show m + 1 - 1 = m by omega]
                      exact p5.h4 k (by omega) k2
                    by_cases hsm : m - a1 < b1 - m
                    · have hrec : SortsL16 _ l5 a1 m lim := ih (m - a1) (by omega) l5 a1 m lim (Nat.le_refl _) q1 (by omega) (by omega) (by omega) hAl
                      unfold SortsL16 at hrec
                      rw [hl5] at hrec
                      repeat' (first | simp only [go_sem, hs, ebl, hlb, elim, hhb, h1b, ea, em1, em2, em3, Ret_eq Try.results160] | simp (disch := omega) only [arith, IntKind.bits, capMax, fill_len, elt_fill] | fail)
                      refine opCallI_lend [0] (by simp only [go_sem, hs, ebl, hlb, elim, hhb, h1b, ea, em1, em2, em3, Ret_eq Try.results160]; first | done | rfl) (by simp only [go_sem, hs, ebl, hlb, elim, hhb, h1b, ea, em1, em2, em3, Ret_eq Try.results160]; first | done | rfl) (by decide) (by simp only [go_sem, hs, ebl, hlb, elim, hhb, h1b, ea, em1, em2, em3, Ret_eq Try.results160]; first | done | decide) (by simp only [go_sem, hs, ebl, hlb, elim, hhb, h1b, ea, em1, em2, em3, Ret_eq Try.results160]; first | done | decide) (hrec) ?_
                      rintro _ _ ⟨rfl, l6, rfl, s6, d6⟩
                      repeat' (first | simp only [go_sem, hs, ebl, hlb, elim, hhb, h1b, ea, em1, em2, em3, Ret_eq Try.results160] | simp (disch := omega) only [arith, IntKind.bits, capMax, fill_len, elt_fill] | fail)
                      refine AgainW.to (m + 1, b1, lim, decide (((b1 - a1 : Nat) : Int) / 8 ≤ ((m - a1 : Nat) : Int)), t, l6) ?_ ?_ ?_
                      · show b1 - (m + 1) < b1 - a1; omega
                      · exact ⟨hR5.left p5 s6 d6, by show lim ≤ 60000; omega⟩
                      · simp only [go_sem, hs, ebl, hlb, elim, hhb, h1b, ea, em1, em2, em3, Ret_eq Try.results160]
                    · have hrec : SortsL16 _ l5 (m + 1) b1 lim := ih (b1 - (m + 1)) (by omega) l5 (m + 1) b1 lim (Nat.le_refl _) (by omega) (by omega) (by omega) (by omega) hAr
                      unfold SortsL16 at hrec
                      rw [hl5] at hrec
                      repeat' (first | simp only [go_sem, hs, ebl, hlb, elim, hhb, h1b, ea, em1, em2, em3, Ret_eq Try.results160] | simp (disch := omega) only [arith, IntKind.bits, capMax, fill_len, elt_fill] | fail)
                      refine opCallI_lend [0] (by simp only [go_sem, hs, ebl, hlb, elim, hhb, h1b, ea, em1, em2, em3, Ret_eq Try.results160]; first | done | rfl) (by simp only [go_sem, hs, ebl, hlb, elim, hhb, h1b, ea, em1, em2, em3, Ret_eq Try.results160]; first | done | rfl) (by decide) (by simp only [go_sem, hs, ebl, hlb, elim, hhb, h1b, ea, em1, em2, em3, Ret_eq Try.results160]; first | done | decide) (by simp only [go_sem, hs, ebl, hlb, elim, hhb, h1b, ea, em1, em2, em3, Ret_eq Try.results160]; first | done | decide) (hrec) ?_
                      rintro _ _ ⟨rfl, l6, rfl, s6, d6⟩
                      repeat' (first | simp only [go_sem, hs, ebl, hlb, elim, hhb, h1b, ea, em1, em2, em3, Ret_eq Try.results160] | fail)
                      refine AgainW.to (a1, m, lim, decide (((b1 - a1 : Nat) : Int) / 8 ≤ ((b1 - m : Nat) : Int)), t, l6) ?_ ?_ ?_
                      · show m - a1 < b1 - a1; omega
                      · exact ⟨hR5.right p5 s6 d6, by show lim ≤ 60000; omega⟩
                      · simp only [go_sem, hs, ebl, hlb, elim, hhb, h1b, ea, em1, em2, em3, Ret_eq Try.results160]
                  · rw [decide_eq_false hlt] at hls
                    repeat' (first | simp only [go_sem, hs, ebl, hlb, elim, hhb, h1b, ea, hL, Ret_eq Try.results160] | simp (disch := omega) only [arith, IntKind.bits, capMax, fill_len, elt_fill] | (refine awpI_draw2 (id := 17) (.one false 0 (.one false 1 (.one false 2 (.one false 3 (.one false 4 (.one false 5 (.one false 6 (.one false 7 (.one false 8 (.one false 9 (.one false 10 (.one false 11 (.only 12 (.one false 13 (.one false 14 .done))))))))))))))) mixed (by decide +kernel) (by decide +kernel) ?_) | (refine opCallI_rd (by simp only [go_sem, hs, ebl, hlb, elim, hhb, h1b, ea, hL, Ret_eq Try.results160]; first | done | rfl) (hls) (by rintro _ rfl; rfl) ?_; rintro _ rfl) | fail)
                    have hpe := partEq16 l1 a1 b1 x hv (by omega) (by omega)
                    rw [hL] at hpe
                    refine opCallI_lend [0] (by simp only [go_sem, hs, ebl, hlb, elim, hhb, h1b, ea, Ret_eq Try.results160]; first | done | rfl) (by simp only [go_sem, hs, ebl, hlb, elim, hhb, h1b, ea, Ret_eq Try.results160]; first | done | rfl) (by decide) (by simp only [go_sem, hs, ebl, hlb, elim, hhb, h1b, ea, Ret_eq Try.results160]; first | done | decide) (by simp only [go_sem, hs, ebl, hlb, elim, hhb, h1b, ea, Ret_eq Try.results160]; first | done | decide) (hpe) ?_
                    rintro _ _ ⟨m, rfl, l5, rfl, s5, p5⟩
                    repeat' (first | simp only [go_sem, hs, ebl, hlb, elim, hhb, h1b, ea, Ret_eq Try.results160] | fail)
                    refine AgainW.to (m, b1, lim, true, false, l5) ?_ ?_ ?_
                    · show b1 - m < b1 - a1; have := p5.h1; have := p5.h2; omega
                    · exact ⟨(hR2.sw s5).eqPart p5 (s5.all (P := fun z => _ ≤ z) (hR2.ahead ha hv (by omega))), by show lim ≤ 60000; omega⟩
                    · simp only [go_sem, hs, ebl, hlb, elim, hhb, h1b, ea, Ret_eq Try.results160]
                · repeat' (first | simp only [go_sem, hs, ebl, hlb, elim, hhb, h1b, Ret_eq Try.results160] | simp (disch := omega) only [arith, IntKind.bits, capMax, fill_len, elt_fill] | (refine awpI_draw2 (id := 17) (.one false 0 (.one false 1 (.one false 2 (.one false 3 (.one false 4 (.one false 5 (.one false 6 (.one false 7 (.one false 8 (.one false 9 (.one false 10 (.one false 11 (.only 12 (.one false 13 (.one false 14 .done))))))))))))))) mixed (by decide +kernel) (by decide +kernel) ?_) | fail)
                  have hpt := part16 l1 a1 b1 x hv (by omega) (by omega)
                  rw [hL] at hpt
                  refine opCallI_lend [0] (by simp only [go_sem, hs, ebl, hlb, elim, hhb, h1b, Ret_eq Try.results160]; first | done | rfl) (by simp only [go_sem, hs, ebl, hlb, elim, hhb, h1b, Ret_eq Try.results160]; first | done | rfl) (by decide) (by simp only [go_sem, hs, ebl, hlb, elim, hhb, h1b, Ret_eq Try.results160]; first | done | decide) (by simp only [go_sem, hs, ebl, hlb, elim, hhb, h1b, Ret_eq Try.results160]; first | done | decide) (hpt) ?_
                  rintro _ _ ⟨m, t, rfl, l5, rfl, s5, p5⟩
                  have hR5 := hR2.sw s5
                  have hl5 := hR5.rs.length
                  have q1 := p5.h1
                  have q2 := p5.h2
                  have em1 : (m : Int) - (a1 : Int) = ((m - a1 : Nat) : Int) := by omega
                  have em2 : (b1 : Int) - (m : Int) = ((b1 - m : Nat) : Int) := by omega
                  have em3 : ((b1 - a1 : Nat) : Int).tdiv 8 = ((b1 - a1 : Nat) : Int) / 8 := Int.tdiv_eq_ediv_of_nonneg (by omega)
                  have hA5 := hR5.rh
                  have hAl : Ahd a1 m l5 := by
                    rcases hA5 with z | z
                    · exact .inl z
                    · exact .inr fun k k1 k2 => z k k1 (by omega)
                  have hAr : Ahd (m + 1) b1 l5 := .inr fun k k1 k2 => by
                    rw [show m + 1 - 1 = m by omega]
                    exact p5.h4 k (by omega) k2
                  by_cases hsm : m - a1 < b1 - m
                  · have hrec : SortsL16 _ l5 a1 m lim := ih (m - a1) (by omega) l5 a1 m lim (Nat.le_refl _) q1 (by omega) (by omega) (by omega) hAl
                    unfold SortsL16 at hrec
                    rw [hl5] at hrec
                    repeat' (first | simp only [go_sem, hs, ebl, hlb, elim, hhb, h1b, em1, em2, em3, Ret_eq Try.results160] | simp (disch := omega) only [arith, IntKind.bits, capMax, fill_len, elt_fill] | fail)
                    refine opCallI_lend [0] (by simp only [go_sem, hs, ebl, hlb, elim, hhb, h1b, em1, em2, em3, Ret_eq Try.results160]; first | done | rfl) (by simp only [go_sem, hs, ebl, hlb, elim, hhb, h1b, em1, em2, em3, Ret_eq Try.results160]; first | done | rfl) (by decide) (by simp only [go_sem, hs, ebl, hlb, elim, hhb, h1b, em1, em2, em3, Ret_eq Try.results160]; first | done | decide) (by simp only [go_sem, hs, ebl, hlb, elim, hhb, h1b, em1, em2, em3, Ret_eq Try.results160]; first | done | decide) (hrec) ?_
                    rintro _ _ ⟨rfl, l6, rfl, s6, d6⟩
                    repeat' (first | simp only [go_sem, hs, ebl, hlb, elim, hhb, h1b, em1, em2, em3, Ret_eq Try.results160] | simp (disch := omega) only [arith, IntKind.bits, capMax, fill_len, elt_fill] | fail)
                    refine AgainW.to (m + 1, b1, lim, decide (((b1 - a1 : Nat) : Int) / 8 ≤ ((m - a1 : Nat) : Int)), t, l6) ?_ ?_ ?_
                    · show b1 - (m + 1) < b1 - a1; omega
                    · exact ⟨hR5.left p5 s6 d6, by show lim ≤ 60000; omega⟩
                    · simp only [go_sem, hs, ebl, hlb, elim, hhb, h1b, em1, em2, em3, Ret_eq Try.results160]
                  · have hrec : SortsL16 _ l5 (m + 1) b1 lim := ih (b1 - (m + 1)) (by omega) l5 (m + 1) b1 lim (Nat.le_refl _) (by omega) (by omega) (by omega) (by omega) hAr
                    unfold SortsL16 at hrec
                    rw [hl5] at hrec
                    repeat' (first | simp only [go_sem, hs, ebl, hlb, elim, hhb, h1b, em1, em2, em3, Ret_eq Try.results160] | simp (disch := omega) only [arith, IntKind.bits, capMax, fill_len, elt_fill] | fail)
                    refine opCallI_lend [0] (by simp only [go_sem, hs, ebl, hlb, elim, hhb, h1b, em1, em2, em3, Ret_eq Try.results160]; first | done | rfl) (by simp only [go_sem, hs, ebl, hlb, elim, hhb, h1b, em1, em2, em3, Ret_eq Try.results160]; first | done | rfl) (by decide) (by simp only [go_sem, hs, ebl, hlb, elim, hhb, h1b, em1, em2, em3, Ret_eq Try.results160]; first | done | decide) (by simp only [go_sem, hs, ebl, hlb, elim, hhb, h1b, em1, em2, em3, Ret_eq Try.results160]; first | done | decide) (hrec) ?_
                    rintro _ _ ⟨rfl, l6, rfl, s6, d6⟩
                    repeat' (first | simp only [go_sem, hs, ebl, hlb, elim, hhb, h1b, em1, em2, em3, Ret_eq Try.results160] | fail)
                    refine AgainW.to (a1, m, lim, decide (((b1 - a1 : Nat) : Int) / 8 ≤ ((b1 - m : Nat) : Int)), t, l6) ?_ ?_ ?_
                    · show m - a1 < b1 - a1; omega
                    · exact ⟨hR5.right p5 s6 d6, by show lim ≤ 60000; omega⟩
                    · simp only [go_sem, hs, ebl, hlb, elim, hhb, h1b, em1, em2, em3, Ret_eq Try.results160]
end Go.Proofs.Ytpkampecmlpfmaa.T

end
section
set_option linter.unusedSimpArgs false
set_option linter.unusedVariables false
/- slices.Sort, walked. -/
namespace Go.Proofs.Ytpkampecmlpfmaa.T
open Go Go.VL Go.Proofs
set_option maxRecDepth 100000
set_option maxHeartbeats 8000000

theorem sort16 (l : List Int) (hl : l.length ≤ 60000) : FunL Try.prog 138 [.ref 0 l.length] [own16 l] fun r os => r = .tup [] ∧ os = [own16 (sortI l)] := by
  refine FunL.of_awpI [(100000, 0)] rfl Try.func138 rfl cal138 Try.ntmps138 (by simp) fun hwf hlw ls => ?_
  simp only [lentWf, D.wfs, D.wf, ints_length, ints_wfs, rows_length, rows_wfs, capMax, and_true, true_and] at hwf hlw
  have hbl := bitsLen_fun l.length (by omega)
  repeat' (first | simp only [go_sem, Ret_eq Try.results138] | simp (disch := omega) only [arith, IntKind.bits, capMax, fill_len, elt_fill] | (refine opCallI_gv (by simp only [go_sem, Ret_eq Try.results138]; first | done | rfl) (hbl) ?_; rintro _ ⟨n, rfl, hn⟩) | fail)
  have hp : SortsL16 _ l 0 l.length n := pdq16 l.length l 0 l.length n (by omega) (Nat.zero_le _) (Nat.le_refl _) hl (by have := hn.1; omega) (.inl rfl)
  unfold SortsL16 at hp
  rw [show ((0 : Nat) : Int) = 0 from rfl] at hp
  refine opCallI_lend [0] (by simp only [go_sem, Ret_eq Try.results138]; first | done | rfl) (by simp only [go_sem, Ret_eq Try.results138]; first | done | rfl) (by decide) (by simp only [go_sem, Ret_eq Try.results138]; first | done | decide) (by simp only [go_sem, Ret_eq Try.results138]; first | done | decide) hp ?_
  rintro _ _ ⟨rfl, l2, rfl, s2, d2⟩
  have e := sortI_of s2 d2
  subst e
  repeat' (first | simp only [go_sem, Ret_eq Try.results138] | refine RetL_calc Try.results138 rfl ?_ | fail)
  all_goals first | exact ⟨rfl, rfl⟩ | rfl
end Go.Proofs.Ytpkampecmlpfmaa.T

end
section
set_option linter.unusedSimpArgs false
set_option linter.unusedVariables false
/- slices.Sorted over slices.Values at int16, walked. -/
namespace Go.Proofs.Ytpkampecmlpfmaa.T
open Go Go.VL Go.Proofs
set_option maxRecDepth 100000
set_option maxHeartbeats 8000000

theorem sorted16 : Sorted16 := by
  intro l h1 h2
  have hcol := collect16_fun l h1 h2
  have hso := sort16 l h2
  have hsl := sortI_length l
  refine FunO.of_awpI Try.func89 rfl cal89 Try.ntmps89 (by simp) fun hwf => ?_
  simp only [D.wfs, D.wf, ints_length, ints_wfs, rows_length, rows_wfs, capMax, and_true, true_and] at hwf
  repeat' (first | simp only [go_sem, Ret_eq Try.results89] | (refine opCallI_ownGv (by simp only [go_sem, Ret_eq Try.results89]; first | done | rfl) (hcol) ?_; rintro _ _ ⟨rfl, rfl⟩) | fail)
  refine opCallI_lend [5] (by simp only [go_sem, Ret_eq Try.results89]; first | done | rfl) (by simp only [go_sem, Ret_eq Try.results89]; first | done | rfl) (by decide) (by simp only [go_sem, Ret_eq Try.results89]; first | done | decide) (by simp only [go_sem, Ret_eq Try.results89]; first | done | decide) hso ?_
  rintro _ _ ⟨rfl, rfl⟩
  repeat' (first | simp only [go_sem, hsl, Ret_eq Try.results89] | refine RetO_calc Try.results89 ?_ | fail)
end Go.Proofs.Ytpkampecmlpfmaa.T

end
section
/- Slots, and what gathers a sample, as arguments. -/
namespace Go.VL
open Go Go.RowKit Go.Proofs.Ytpkampecmlpfmaa.T
theorem has_slots {ds : List D} (h : (Ty.st [.int .i64, .sl (.int .i64), .sl (.sl (.int .i16))]).has ds) : ∃ (w : Int) (l : List Int) (c : List (List Int)), (Ty.st [.int .i64, .sl (.int .i64), .sl (.sl (.int .i16))]).wrap ds = .agg [.v (.int .i64 w), .lst (ints .i64 l), .lst (rows .i16 c)] ∧
    (Lit.int .i64 w).wf = true ∧ (∀ n ∈ l, (Lit.int .i64 n).wf = true) ∧ ∀ x ∈ c, ∀ n ∈ x, (Lit.int .i16 n).wf = true := by
  obtain ⟨a, b, rfl, h1, b1, b2, rfl, h2, b3, b4, rfl, h4, h5⟩ := h
  obtain ⟨w, rfl, hw⟩ := h1
  obtain ⟨els, rfl, h2⟩ := h2
  obtain ⟨els4, rfl, h4⟩ := h4
  have h5 : b4 = [] := h5
  subst h5
  obtain ⟨l, e, hl⟩ := has_ints (ds := [.lst (els.map (Ty.int .i64).wrap)]) ⟨els, rfl, h2⟩
  obtain ⟨c, e4, hc⟩ := has_rows (ds := [.lst (els4.map (Ty.sl (.int .i16)).wrap)]) ⟨els4, rfl, h4⟩
  refine ⟨w, l, c, ?_, hw, hl, hc⟩
  have e' : D.lst (els.map (Ty.int .i64).wrap) = .lst (ints .i64 l) := e
  have e4' : D.lst (els4.map (Ty.sl (.int .i16)).wrap) = .lst (rows .i16 c) := e4
  show D.agg ([.v (.int .i64 w)] ++ ([.lst (els.map (Ty.int .i64).wrap)] ++ ([.lst (els4.map (Ty.sl (.int .i16)).wrap)] ++ []))) = _
  rw [e', e4']
  rfl
theorem has_train {ds : List D} (h : (Ty.st [.int .u64, .int .i64, .sl (.sl (.int .i16))]).has ds) : ∃ (w a : Int) (c : List (List Int)), (Ty.st [.int .u64, .int .i64, .sl (.sl (.int .i16))]).wrap ds = .agg [.v (.int .u64 w), .v (.int .i64 a), .lst (rows .i16 c)] ∧
    (Lit.int .u64 w).wf = true ∧ (Lit.int .i64 a).wf = true ∧ ∀ x ∈ c, ∀ n ∈ x, (Lit.int .i16 n).wf = true := by
  obtain ⟨a, b, rfl, h1, b1, b2, rfl, h2, b3, b4, rfl, h4, h5⟩ := h
  obtain ⟨w, rfl, hw⟩ := h1
  obtain ⟨y, rfl, hy⟩ := h2
  obtain ⟨els4, rfl, h4⟩ := h4
  have h5 : b4 = [] := h5
  subst h5
  obtain ⟨c, e4, hc⟩ := has_rows (ds := [.lst (els4.map (Ty.sl (.int .i16)).wrap)]) ⟨els4, rfl, h4⟩
  refine ⟨w, y, c, ?_, hw, hy, hc⟩
  have e4' : D.lst (els4.map (Ty.sl (.int .i16)).wrap) = .lst (rows .i16 c) := e4
  show D.agg ([.v (.int .u64 w)] ++ ([.v (.int .i64 y)] ++ ([.lst (els4.map (Ty.sl (.int .i16)).wrap)] ++ []))) = _
  rw [e4']
  rfl
end Go.VL

end
