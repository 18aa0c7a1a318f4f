import Derived.Test.YtpkampecmlpfmaaK2
import Derived.Tactics2
set_option linter.unusedSimpArgs false
set_option linter.unusedVariables false
section
set_option linter.unusedSimpArgs false
set_option linter.unusedVariables false
/- Lists parted, walked. -/
namespace Go.Proofs.Ytpkampecmlpfmaa.T
open Go Go.VL Go.Proofs
set_option maxRecDepth 100000
set_option maxHeartbeats 8000000

theorem part16 (l : List Int) (a b v : Nat) (hv : a ≤ v ∧ v < b) (hb : b ≤ l.length) (hl : l.length ≤ 1000000) : FunL Try.prog 183 [.ref 0 l.length, .v (.int .i64 a), .v (.int .i64 b), .v (.int .i64 v)] [own16 l] fun r os =>
    ∃ (m : Nat) (t : Bool), r = .tup [.v (.int .i64 m), .v (.bool t)] ∧ ∃ l', os = [own16 l'] ∧ Sw a b l l' ∧ Parted a b m l' := by
  obtain ⟨p, hpe⟩ : ∃ p, l.getD v 0 = p := ⟨_, rfl⟩
  refine FunL.of_awpI [(100000, 0)] rfl Try.func183 rfl cal183 Try.ntmps183 (by simp) fun hwf hlw ls => ?_
  simp only [lentWf, D.wfs, D.wf, ints_length, ints_wfs, rows_length, rows_wfs, capMax, and_true, true_and] at hwf hlw
  have e2 : (l.set a (l.getD v 0)).set v (l.getD a 0) = sw l a v := rfl
  have e3 : (l.set a (l.getD v 0)).length = l.length := List.length_set
  have e4 := sw_length (l := l) (i := a) (j := v)
  have eb : (b : Int) - 1 = ((b - 1 : Nat) : Int) := by omega
  have hp : (sw l a v).getD a 0 = l.getD v 0 := by
    rw [sw_getD (by omega) (by omega)]
    by_cases q : a = v
    · rw [if_pos q, q]
    · rw [if_neg q, if_pos rfl]
  rw [hpe] at hp
  have hP : Pt a b (a + 1) (b - 1) p (sw l a v) := ⟨hp, fun k k1 k2 => by omega, fun k k1 k2 => by omega, by omega, by omega, by omega⟩
  have hsw0 : Sw a b l (sw l a v) := .step a v (.refl _) ⟨Nat.le_refl _, by omega⟩ hv hb
  repeat' (first | simp only [go_sem, e2, eb, List.length_set, Ret_eq Try.results183] | simp (disch := omega) only [arith, IntKind.bits, capMax, fill_len, elt_fill] | (refine awpI_draw2 (id := 1) (.one false 0 (.one false 1 (.one false 4 (.one false 5 (.one false 6 (.one false 7 (.one false 8 (.one false 9 (.one false 10 (.one false 11 (.one false 12 (.mv 2 (.mv 3 (.only 13 (.one false 14 (.only 15 .done)))))))))))))))) mixed (by decide +kernel) (by decide +kernel) ?_) | fail)
  clear e2 e3
  generalize sw l a v = l0 at *
  have hL := hsw0.length
  refine awpI_while (σ := Nat) (fun x => (b - 1) + 1 - x) (fun x => (a + 1) ≤ x ∧ Pt a b x (b - 1) p l0) (fun x => [(10, .v (.int .i64 x))]) (fun _ => []) [0, 1, 11, 100000] [0] (a + 1) _ (Weak.refl _) ⟨Nat.le_refl _, hP⟩ ?_ ?_ ?_
  · simp only [go_sem, Ret_eq Try.results183]
  · simp only [go_sem, Ret_eq Try.results183]
  · rintro i2 s2 ⟨hges2, hPi2⟩ hs2
    simp only [go_sem, Ret_eq Try.results183] at hs2
    have his2 := hPi2.hi
    have hjs2 := hPi2.hj
    have hijs2 := hPi2.hij
    have has2 := hPi2.ha
    have hlss2 := lessS16_fun (l0.getD i2 0) p
    by_cases qs2 : i2 ≤ (b - 1)
    · by_cases rs2 : l0.getD i2 0 < p
      · rw [decide_eq_true rs2] at hlss2
        repeat' (first | simp only [go_sem, hs2, hL, has2, Ret_eq Try.results183] | simp (disch := omega) only [arith, IntKind.bits, capMax, fill_len, elt_fill] | (refine awpI_draw2 (id := 3) (.one false 0 (.one false 1 (.one false 2 (.one false 3 (.one false 4 (.one false 5 (.one false 6 (.one false 7 (.one false 8 (.one false 9 (.one false 10 (.one false 11 (.only 12 (.one false 13 .done)))))))))))))) mixed (by decide +kernel) (by decide +kernel) ?_) | (refine opCallI_rd (by simp only [go_sem, hs2, hL, has2, Ret_eq Try.results183]; first | done | rfl) (hlss2) (by rintro _ rfl; rfl) ?_; rintro _ rfl) | fail)
        all_goals
          refine AgainW.to (i2 + 1) ?_ ?_ ?_
          · show (b - 1) + 1 - (i2 + 1) < (b - 1) + 1 - i2; omega
          · exact ⟨by show (a + 1) ≤ i2 + 1; omega, hPi2.up qs2 (by omega)⟩
          · simp only [go_sem, hs2, hL, has2, Ret_eq Try.results183]
      · rw [decide_eq_false rs2] at hlss2
        have xs2 : (b - 1) < i2 ∨ p ≤ l0.getD i2 0 := .inr (by omega)
        repeat' (first | simp only [go_sem, hs2, hL, has2, Ret_eq Try.results183] | simp (disch := omega) only [arith, IntKind.bits, capMax, fill_len, elt_fill] | (refine awpI_draw2 (id := 3) (.one false 0 (.one false 1 (.one false 2 (.one false 3 (.one false 4 (.one false 5 (.one false 6 (.one false 7 (.one false 8 (.one false 9 (.one false 10 (.one false 11 (.only 12 (.one false 13 .done)))))))))))))) mixed (by decide +kernel) (by decide +kernel) ?_) | (refine opCallI_rd (by simp only [go_sem, hs2, hL, has2, Ret_eq Try.results183]; first | done | rfl) (hlss2) (by rintro _ rfl; rfl) ?_; rintro _ rfl) | fail)
        refine awpI_while (σ := Nat) (fun x => x) (fun x => x ≤ (b - 1) ∧ Pt a b i2 x p l0) (fun x => [(11, .v (.int .i64 x))]) (fun _ => []) [0, 1, 10, 100000] [0] (b - 1) _ (Weak.refl _) ⟨Nat.le_refl _, hPi2⟩ ?_ ?_ ?_
        · simp only [go_sem, hs2, Ret_eq Try.results183]
        · simp only [go_sem, hs2, Ret_eq Try.results183]
        · rintro j2 s3 ⟨hges3, hPi2j2⟩ hs3
          simp only [go_sem, hs2, Ret_eq Try.results183] at hs3
          have his3 := hPi2j2.hi
          have hjs3 := hPi2j2.hj
          have hijs3 := hPi2j2.hij
          have has3 := hPi2j2.ha
          have hlss3 := lessS16_fun (l0.getD j2 0) p
          by_cases qs3 : i2 ≤ j2
          · have ejs3 : (j2 : Int) - 1 = ((j2 - 1 : Nat) : Int) := by omega
            by_cases rs3 : ¬ l0.getD j2 0 < p
            · rw [decide_eq_false rs3] at hlss3
              repeat' (first | simp only [go_sem, hs2, hs3, hL, has3, ejs3, Ret_eq Try.results183] | simp (disch := omega) only [arith, IntKind.bits, capMax, fill_len, elt_fill] | (refine awpI_draw2 (id := 5) (.one false 0 (.one false 1 (.one false 2 (.one false 3 (.one false 4 (.one false 5 (.one false 6 (.one false 7 (.one false 8 (.one false 9 (.one false 10 (.one false 11 (.only 12 (.one false 13 (.one false 14 .done))))))))))))))) mixed (by decide +kernel) (by decide +kernel) ?_) | (refine opCallI_rd (by simp only [go_sem, hs2, hs3, hL, has3, ejs3, Ret_eq Try.results183]; first | done | rfl) (hlss3) (by rintro _ rfl; rfl) ?_; rintro _ rfl) | fail)
              all_goals
                refine AgainW.to (j2 - 1) ?_ ?_ ?_
                · show j2 - 1 < j2; omega
                · exact ⟨by show j2 - 1 ≤ (b - 1); omega, hPi2j2.down qs3 (by omega)⟩
                · simp only [go_sem, hs2, hs3, hL, has3, Ret_eq Try.results183]
            · rw [decide_eq_true (Classical.not_not.1 rs3)] at hlss3
              have xs3 : l0.getD j2 0 < p := by omega
              have hlt : l0.getD j2 0 < p := xs3
              have ej : (j2 : Int) - 1 = ((j2 - 1 : Nat) : Int) := by omega
              have e5 : (l0.set i2 (l0.getD j2 0)).set j2 (l0.getD i2 0) = sw l0 i2 j2 := rfl
              have e6 : (l0.set i2 (l0.getD j2 0)).length = l0.length := List.length_set
              repeat' (first | simp only [go_sem, hs2, hs3, hL, has3, ej, e5, List.length_set, Ret_eq Try.results183] | simp (disch := omega) only [arith, IntKind.bits, capMax, fill_len, elt_fill] | (refine awpI_draw2 (id := 5) (.one false 0 (.one false 1 (.one false 2 (.one false 3 (.one false 4 (.one false 5 (.one false 6 (.one false 7 (.one false 8 (.one false 9 (.one false 10 (.one false 11 (.only 12 (.one false 13 (.one false 14 .done))))))))))))))) mixed (by decide +kernel) (by decide +kernel) ?_) | (refine awpI_draw2 (id := 10) (.one false 0 (.one false 1 (.one false 4 (.one false 5 (.one false 6 (.one false 7 (.one false 8 (.one false 9 (.one false 10 (.one false 11 (.one false 12 (.mv 2 (.mv 3 (.only 13 (.one false 14 (.only 15 .done)))))))))))))))) mixed (by decide +kernel) (by decide +kernel) ?_) | (refine opCallI_rd (by simp only [go_sem, hs2, hs3, hL, has3, ej, e5, List.length_set, Ret_eq Try.results183]; first | done | rfl) (hlss3) (by rintro _ rfl; rfl) ?_; rintro _ rfl) | fail)
              refine awpI_while (σ := Nat × Nat × List Int) (fun x => x.2.1 + 1 - x.1) (fun x => Sw a b l x.2.2 ∧ Pt a b x.1 x.2.1 p x.2.2) (fun x => [(10, .v (.int .i64 x.1)), (11, .v (.int .i64 x.2.1))]) (fun x => [(0, own16 x.2.2)]) [0, 1, 100000] [] (i2 + 1, j2 - 1, sw l0 i2 j2) _ (Weak.refl _) ⟨.step i2 j2 hsw0 ⟨by omega, by omega⟩ ⟨by omega, by omega⟩ (by omega), hPi2j2.swap (by omega) (by omega) (by omega) (by omega)⟩ ?_ ?_ ?_
              · simp only [go_sem, hs2, hs3, Ret_eq Try.results183]
              · simp only [go_sem, hs2, hs3, Ret_eq Try.results183]
              · rintro ⟨i3, j3, l3⟩ s4 ⟨hsw3, hPN⟩ hs4
                simp only [go_sem, hs2, hs3, Ret_eq Try.results183] at hs4
                dsimp only at hsw3 hPN
                clear e5 e6
                have hL := hsw3.length
                repeat' (first | simp only [go_sem, hs2, hs3, hs4, Ret_eq Try.results183] | fail)
                refine awpI_while (σ := Nat) (fun x => j3 + 1 - x) (fun x => i3 ≤ x ∧ Pt a b x j3 p l3) (fun x => [(10, .v (.int .i64 x))]) (fun _ => []) [0, 1, 11, 100000] [0] i3 _ (Weak.refl _) ⟨Nat.le_refl _, hPN⟩ ?_ ?_ ?_
                · simp only [go_sem, hs2, hs3, hs4, Ret_eq Try.results183]
                · simp only [go_sem, hs2, hs3, hs4, Ret_eq Try.results183]
                · rintro i4 s5 ⟨hges5, hPNi4⟩ hs5
                  simp only [go_sem, hs2, hs3, hs4, Ret_eq Try.results183] at hs5
                  have his5 := hPNi4.hi
                  have hjs5 := hPNi4.hj
                  have hijs5 := hPNi4.hij
                  have has5 := hPNi4.ha
                  have hlss5 := lessS16_fun (l3.getD i4 0) p
                  by_cases qs5 : i4 ≤ j3
                  · by_cases rs5 : l3.getD i4 0 < p
                    · rw [decide_eq_true rs5] at hlss5
                      repeat' (first | simp only [go_sem, hs2, hs3, hs4, hs5, hL, has5, Ret_eq Try.results183] | simp (disch := omega) only [arith, IntKind.bits, capMax, fill_len, elt_fill] | (refine awpI_draw2 (id := 13) (.one false 0 (.one false 1 (.one false 2 (.one false 3 (.one false 4 (.one false 5 (.one false 6 (.one false 7 (.one false 8 (.one false 9 (.one false 10 (.one false 11 (.only 12 (.one false 13 .done)))))))))))))) mixed (by decide +kernel) (by decide +kernel) ?_) | (refine opCallI_rd (by simp only [go_sem, hs2, hs3, hs4, hs5, hL, has5, Ret_eq Try.results183]; first | done | rfl) (hlss5) (by rintro _ rfl; rfl) ?_; rintro _ rfl) | fail)
                      all_goals
                        refine AgainW.to (i4 + 1) ?_ ?_ ?_
                        · show j3 + 1 - (i4 + 1) < j3 + 1 - i4; omega
                        · exact ⟨by show i3 ≤ i4 + 1; omega, hPNi4.up qs5 (by omega)⟩
                        · simp only [go_sem, hs2, hs3, hs4, hs5, hL, has5, Ret_eq Try.results183]
                    · rw [decide_eq_false rs5] at hlss5
                      have xs5 : j3 < i4 ∨ p ≤ l3.getD i4 0 := .inr (by omega)
                      repeat' (first | simp only [go_sem, hs2, hs3, hs4, hs5, hL, has5, Ret_eq Try.results183] | simp (disch := omega) only [arith, IntKind.bits, capMax, fill_len, elt_fill] | (refine awpI_draw2 (id := 13) (.one false 0 (.one false 1 (.one false 2 (.one false 3 (.one false 4 (.one false 5 (.one false 6 (.one false 7 (.one false 8 (.one false 9 (.one false 10 (.one false 11 (.only 12 (.one false 13 .done)))))))))))))) mixed (by decide +kernel) (by decide +kernel) ?_) | (refine opCallI_rd (by simp only [go_sem, hs2, hs3, hs4, hs5, hL, has5, Ret_eq Try.results183]; first | done | rfl) (hlss5) (by rintro _ rfl; rfl) ?_; rintro _ rfl) | fail)
                      refine awpI_while (σ := Nat) (fun x => x) (fun x => x ≤ j3 ∧ Pt a b i4 x p l3) (fun x => [(11, .v (.int .i64 x))]) (fun _ => []) [0, 1, 10, 100000] [0] j3 _ (Weak.refl _) ⟨Nat.le_refl _, hPNi4⟩ ?_ ?_ ?_
                      · simp only [go_sem, hs2, hs3, hs4, hs5, Ret_eq Try.results183]
                      · simp only [go_sem, hs2, hs3, hs4, hs5, Ret_eq Try.results183]
                      · rintro j4 s6 ⟨hges6, hPNi4j4⟩ hs6
                        simp only [go_sem, hs2, hs3, hs4, hs5, Ret_eq Try.results183] at hs6
                        have his6 := hPNi4j4.hi
                        have hjs6 := hPNi4j4.hj
                        have hijs6 := hPNi4j4.hij
                        have has6 := hPNi4j4.ha
                        have hlss6 := lessS16_fun (l3.getD j4 0) p
                        by_cases qs6 : i4 ≤ j4
                        · have ejs6 : (j4 : Int) - 1 = ((j4 - 1 : Nat) : Int) := by omega
                          by_cases rs6 : ¬ l3.getD j4 0 < p
                          · rw [decide_eq_false rs6] at hlss6
                            repeat' (first | simp only [go_sem, hs2, hs3, hs4, hs5, hs6, hL, has6, ejs6, Ret_eq Try.results183] | simp (disch := omega) only [arith, IntKind.bits, capMax, fill_len, elt_fill] | (refine awpI_draw2 (id := 15) (.one false 0 (.one false 1 (.one false 2 (.one false 3 (.one false 4 (.one false 5 (.one false 6 (.one false 7 (.one false 8 (.one false 9 (.one false 10 (.one false 11 (.only 12 (.one false 13 (.one false 14 .done))))))))))))))) mixed (by decide +kernel) (by decide +kernel) ?_) | (refine opCallI_rd (by simp only [go_sem, hs2, hs3, hs4, hs5, hs6, hL, has6, ejs6, Ret_eq Try.results183]; first | done | rfl) (hlss6) (by rintro _ rfl; rfl) ?_; rintro _ rfl) | fail)
                            all_goals
                              refine AgainW.to (j4 - 1) ?_ ?_ ?_
                              · show j4 - 1 < j4; omega
                              · exact ⟨by show j4 - 1 ≤ j3; omega, hPNi4j4.down qs6 (by omega)⟩
                              · simp only [go_sem, hs2, hs3, hs4, hs5, hs6, hL, has6, Ret_eq Try.results183]
                          · rw [decide_eq_true (Classical.not_not.1 rs6)] at hlss6
                            have xs6 : l3.getD j4 0 < p := by omega
                            have hlt : l3.getD j4 0 < p := xs6
                            have ej : (j4 : Int) - 1 = ((j4 - 1 : Nat) : Int) := by omega
                            have e5 : (l3.set i4 (l3.getD j4 0)).set j4 (l3.getD i4 0) = sw l3 i4 j4 := rfl
                            have e6 : (l3.set i4 (l3.getD j4 0)).length = l3.length := List.length_set
                            repeat' (first | simp only [go_sem, hs2, hs3, hs4, hs5, hs6, hL, has6, ej, e5, List.length_set, Ret_eq Try.results183] | simp (disch := omega) only [arith, IntKind.bits, capMax, fill_len, elt_fill] | (refine awpI_draw2 (id := 15) (.one false 0 (.one false 1 (.one false 2 (.one false 3 (.one false 4 (.one false 5 (.one false 6 (.one false 7 (.one false 8 (.one false 9 (.one false 10 (.one false 11 (.only 12 (.one false 13 (.one false 14 .done))))))))))))))) mixed (by decide +kernel) (by decide +kernel) ?_) | (refine awpI_draw2 (id := 18) (.one false 0 (.one false 1 (.one false 4 (.one false 5 (.one false 6 (.one false 7 (.one false 8 (.one false 9 (.one false 10 (.one false 11 (.one false 12 (.mv 2 (.mv 3 (.only 13 (.one false 14 (.only 15 .done)))))))))))))))) mixed (by decide +kernel) (by decide +kernel) ?_) | (refine opCallI_rd (by simp only [go_sem, hs2, hs3, hs4, hs5, hs6, hL, has6, ej, e5, List.length_set, Ret_eq Try.results183]; first | done | rfl) (hlss6) (by rintro _ rfl; rfl) ?_; rintro _ rfl) | fail)
                            all_goals
                              refine AgainW.to (i4 + 1, j4 - 1, sw l3 i4 j4) ?_ ?_ ?_
                              · show j4 - 1 + 1 - (i4 + 1) < j3 + 1 - i3; omega
                              · exact ⟨.step i4 j4 hsw3 ⟨by omega, by omega⟩ ⟨by omega, by omega⟩ (by omega), hPNi4j4.swap (by omega) (by omega) (by omega) (by omega)⟩
                              · simp only [go_sem, hs2, hs3, hs4, hs5, hs6, Ret_eq Try.results183]
                        · have w : j4 < i4 := by omega
                          have e5 : (l3.set j4 p).set a (l3.getD j4 0) = sw l3 j4 a := by unfold sw; rw [has6]
                          have e6 : (l3.set j4 p).length = l3.length := List.length_set
                          repeat' (first | simp only [go_sem, hs2, hs3, hs4, hs5, hs6, hL, has6, e5, List.length_set, Ret_eq Try.results183] | simp (disch := omega) only [arith, IntKind.bits, capMax, fill_len, elt_fill] | refine RetL_calc Try.results183 rfl ?_ | (refine awpI_draw2 (id := 15) (.one false 0 (.one false 1 (.one false 2 (.one false 3 (.one false 4 (.one false 5 (.one false 6 (.one false 7 (.one false 8 (.one false 9 (.one false 10 (.one false 11 (.only 12 (.one false 13 (.one false 14 .done))))))))))))))) mixed (by decide +kernel) (by decide +kernel) ?_) | (refine awpI_draw2 (id := 21) (.one false 0 (.one false 1 (.one false 4 (.one false 5 (.one false 6 (.one false 7 (.one false 8 (.one false 9 (.one false 10 (.one false 11 (.one false 12 (.mv 2 (.mv 3 (.only 13 (.one false 14 (.only 15 .done)))))))))))))))) mixed (by decide +kernel) (by decide +kernel) ?_) | fail)
                          all_goals exact ⟨j4, _, rfl, sw l3 j4 a, rfl, .step j4 a hsw3 ⟨by omega, by omega⟩ ⟨Nat.le_refl _, by omega⟩ (by omega), hPNi4j4.fin w (by omega)⟩
                  · have xs5 : j3 < i4 ∨ p ≤ l3.getD i4 0 := .inl (by omega)
                    repeat' (first | simp only [go_sem, hs2, hs3, hs4, hs5, hL, has5, Ret_eq Try.results183] | simp (disch := omega) only [arith, IntKind.bits, capMax, fill_len, elt_fill] | (refine awpI_draw2 (id := 13) (.one false 0 (.one false 1 (.one false 2 (.one false 3 (.one false 4 (.one false 5 (.one false 6 (.one false 7 (.one false 8 (.one false 9 (.one false 10 (.one false 11 (.only 12 (.one false 13 .done)))))))))))))) mixed (by decide +kernel) (by decide +kernel) ?_) | fail)
                    refine awpI_while (σ := Nat) (fun x => x) (fun x => x ≤ j3 ∧ Pt a b i4 x p l3) (fun x => [(11, .v (.int .i64 x))]) (fun _ => []) [0, 1, 10, 100000] [0] j3 _ (Weak.refl _) ⟨Nat.le_refl _, hPNi4⟩ ?_ ?_ ?_
                    · simp only [go_sem, hs2, hs3, hs4, hs5, Ret_eq Try.results183]
                    · simp only [go_sem, hs2, hs3, hs4, hs5, Ret_eq Try.results183]
                    · rintro j4 s6 ⟨hges6, hPNi4j4⟩ hs6
                      simp only [go_sem, hs2, hs3, hs4, hs5, Ret_eq Try.results183] at hs6
                      have his6 := hPNi4j4.hi
                      have hjs6 := hPNi4j4.hj
                      have hijs6 := hPNi4j4.hij
                      have has6 := hPNi4j4.ha
                      have hlss6 := lessS16_fun (l3.getD j4 0) p
                      by_cases qs6 : i4 ≤ j4
                      · exact absurd qs6 (by omega)
                      · have w : j4 < i4 := by omega
                        have e5 : (l3.set j4 p).set a (l3.getD j4 0) = sw l3 j4 a := by unfold sw; rw [has6]
                        have e6 : (l3.set j4 p).length = l3.length := List.length_set
                        repeat' (first | simp only [go_sem, hs2, hs3, hs4, hs5, hs6, hL, has6, e5, List.length_set, Ret_eq Try.results183] | simp (disch := omega) only [arith, IntKind.bits, capMax, fill_len, elt_fill] | refine RetL_calc Try.results183 rfl ?_ | (refine awpI_draw2 (id := 15) (.one false 0 (.one false 1 (.one false 2 (.one false 3 (.one false 4 (.one false 5 (.one false 6 (.one false 7 (.one false 8 (.one false 9 (.one false 10 (.one false 11 (.only 12 (.one false 13 (.one false 14 .done))))))))))))))) mixed (by decide +kernel) (by decide +kernel) ?_) | (refine awpI_draw2 (id := 21) (.one false 0 (.one false 1 (.one false 4 (.one false 5 (.one false 6 (.one false 7 (.one false 8 (.one false 9 (.one false 10 (.one false 11 (.one false 12 (.mv 2 (.mv 3 (.only 13 (.one false 14 (.only 15 .done)))))))))))))))) mixed (by decide +kernel) (by decide +kernel) ?_) | fail)
                        all_goals exact ⟨j4, _, rfl, sw l3 j4 a, rfl, .step j4 a hsw3 ⟨by omega, by omega⟩ ⟨Nat.le_refl _, by omega⟩ (by omega), hPNi4j4.fin w (by omega)⟩
          · have w : j2 < i2 := by omega
            have e5 : (l0.set j2 p).set a (l0.getD j2 0) = sw l0 j2 a := by unfold sw; rw [has3]
            have e6 : (l0.set j2 p).length = l0.length := List.length_set
            repeat' (first | simp only [go_sem, hs2, hs3, hL, has3, e5, List.length_set, Ret_eq Try.results183] | simp (disch := omega) only [arith, IntKind.bits, capMax, fill_len, elt_fill] | refine RetL_calc Try.results183 rfl ?_ | (refine awpI_draw2 (id := 5) (.one false 0 (.one false 1 (.one false 2 (.one false 3 (.one false 4 (.one false 5 (.one false 6 (.one false 7 (.one false 8 (.one false 9 (.one false 10 (.one false 11 (.only 12 (.one false 13 (.one false 14 .done))))))))))))))) mixed (by decide +kernel) (by decide +kernel) ?_) | (refine awpI_draw2 (id := 8) (.one false 0 (.one false 1 (.one false 4 (.one false 5 (.one false 6 (.one false 7 (.one false 8 (.one false 9 (.one false 10 (.one false 11 (.one false 12 (.mv 2 (.mv 3 (.only 13 (.one false 14 (.only 15 .done)))))))))))))))) mixed (by decide +kernel) (by decide +kernel) ?_) | fail)
            all_goals exact ⟨j2, _, rfl, sw l0 j2 a, rfl, .step j2 a hsw0 ⟨by omega, by omega⟩ ⟨Nat.le_refl _, by omega⟩ (by omega), hPi2j2.fin w (by omega)⟩
    · have xs2 : (b - 1) < i2 ∨ p ≤ l0.getD i2 0 := .inl (by omega)
      repeat' (first | simp only [go_sem, hs2, hL, has2, Ret_eq Try.results183] | simp (disch := omega) only [arith, IntKind.bits, capMax, fill_len, elt_fill] | (refine awpI_draw2 (id := 3) (.one false 0 (.one false 1 (.one false 2 (.one false 3 (.one false 4 (.one false 5 (.one false 6 (.one false 7 (.one false 8 (.one false 9 (.one false 10 (.one false 11 (.only 12 (.one false 13 .done)))))))))))))) mixed (by decide +kernel) (by decide +kernel) ?_) | fail)
      refine awpI_while (σ := Nat) (fun x => x) (fun x => x ≤ (b - 1) ∧ Pt a b i2 x p l0) (fun x => [(11, .v (.int .i64 x))]) (fun _ => []) [0, 1, 10, 100000] [0] (b - 1) _ (Weak.refl _) ⟨Nat.le_refl _, hPi2⟩ ?_ ?_ ?_
      · simp only [go_sem, hs2, Ret_eq Try.results183]
      · simp only [go_sem, hs2, Ret_eq Try.results183]
      · rintro j2 s3 ⟨hges3, hPi2j2⟩ hs3
        simp only [go_sem, hs2, Ret_eq Try.results183] at hs3
        have his3 := hPi2j2.hi
        have hjs3 := hPi2j2.hj
        have hijs3 := hPi2j2.hij
        have has3 := hPi2j2.ha
        have hlss3 := lessS16_fun (l0.getD j2 0) p
        by_cases qs3 : i2 ≤ j2
        · exact absurd qs3 (by omega)
        · have w : j2 < i2 := by omega
          have e5 : (l0.set j2 p).set a (l0.getD j2 0) = sw l0 j2 a := by unfold sw; rw [has3]
          have e6 : (l0.set j2 p).length = l0.length := List.length_set
          repeat' (first | simp only [go_sem, hs2, hs3, hL, has3, e5, List.length_set, Ret_eq Try.results183] | simp (disch := omega) only [arith, IntKind.bits, capMax, fill_len, elt_fill] | refine RetL_calc Try.results183 rfl ?_ | (refine awpI_draw2 (id := 5) (.one false 0 (.one false 1 (.one false 2 (.one false 3 (.one false 4 (.one false 5 (.one false 6 (.one false 7 (.one false 8 (.one false 9 (.one false 10 (.one false 11 (.only 12 (.one false 13 (.one false 14 .done))))))))))))))) mixed (by decide +kernel) (by decide +kernel) ?_) | (refine awpI_draw2 (id := 8) (.one false 0 (.one false 1 (.one false 4 (.one false 5 (.one false 6 (.one false 7 (.one false 8 (.one false 9 (.one false 10 (.one false 11 (.one false 12 (.mv 2 (.mv 3 (.only 13 (.one false 14 (.only 15 .done)))))))))))))))) mixed (by decide +kernel) (by decide +kernel) ?_) | fail)
          all_goals exact ⟨j2, _, rfl, sw l0 j2 a, rfl, .step j2 a hsw0 ⟨by omega, by omega⟩ ⟨Nat.le_refl _, by omega⟩ (by omega), hPi2j2.fin w (by omega)⟩
end Go.Proofs.Ytpkampecmlpfmaa.T

end
section
set_option linter.unusedSimpArgs false
set_option linter.unusedVariables false
/- How many bits a number has, and what comes of it; walked. -/
namespace Go.Proofs.Ytpkampecmlpfmaa.T
open Go Go.VL Go.Proofs
set_option maxRecDepth 100000
set_option maxHeartbeats 4000000
def len8 (k : Nat) : Nat := if k = 0 then 0 else Nat.log2 k + 1
theorem len8_lt (k : Nat) : k < 2 ^ len8 k := by
  unfold len8
  split
  · rename_i h; rw [h]; decide
  · exact Nat.lt_log2_self
theorem len8_le {k : Nat} (h : 1 ≤ k) : 2 ^ len8 k ≤ 2 * k := by
  unfold len8
  rw [if_neg (by omega), Nat.pow_succ]
  have := Nat.log2_self_le (show k ≠ 0 by omega)
  omega
theorem len64_raw (x : Int) (hx : 0 ≤ x ∧ x < 65536) (w : World) : Calls Try.prog 172 #[.int .u64 x] w fun e w' => (∃ n : Nat, e = .returned (.int .i64 n) ∧ n ≤ 16 ∧ x < 2 ^ n ∧ (1 ≤ x → (2 : Int) ^ n ≤ 2 * x)) ∧ w' = w := by
  go_enter Try.func172, Try.ntmps172
  go_wp2
  · go_ret
    refine ⟨⟨8 + len8 (x / 256).toNat, ?_, ?_⟩, rfl⟩
    · show Ending.returned (Value.int .i64 (RowKit.wrap64 (8 + RowKit.wrap64 (((_ : UInt8).toNat : Nat) : Int)))) = _
      rw [← getElem!_pos]
      have hk : (x / 256).toNat < 256 := by omega
      generalize (x / 256).toNat = k at *
      congr 2
      clear hx
      revert k
      decide +kernel
    · have h1 := len8_lt (x / 256).toNat
      have h2 := len8_le (k := (x / 256).toNat) (by omega)
      generalize hm : len8 (x / 256).toNat = m at *
      have h3 : m ≤ 8 := by
        refine Nat.not_lt.1 fun q => ?_
        have : 2 ^ 9 ≤ 2 ^ m := Nat.pow_le_pow_right (by decide) q
        omega
      have e : (2 : Int) ^ (8 + m) = 256 * ((2 ^ m : Nat) : Int) := by rw [Int.pow_add]; norm_cast
      rw [e]
      refine ⟨by omega, by omega, fun _ => by omega⟩
  · go_ret
    refine ⟨⟨len8 x.toNat, ?_, ?_⟩, rfl⟩
    · show Ending.returned (Value.int .i64 (RowKit.wrap64 (RowKit.wrap64 (((_ : UInt8).toNat : Nat) : Int)))) = _
      rw [← getElem!_pos]
      have hk : x.toNat < 256 := by omega
      generalize x.toNat = k at *
      congr 2
      clear hx
      revert k
      decide +kernel
    · have h1 := len8_lt x.toNat
      have h2 := len8_le (k := x.toNat)
      generalize hm : len8 x.toNat = m at *
      have e : (2 : Int) ^ m = ((2 ^ m : Nat) : Int) := by norm_cast
      rw [e]
      refine ⟨?_, by omega, fun q => by have := h2 (by omega); omega⟩
      by_cases z : 1 ≤ x.toNat
      · refine Nat.not_lt.1 fun q => ?_
        have : 2 ^ 17 ≤ 2 ^ m := Nat.pow_le_pow_right (by decide) q
        have := h2 z
        omega
      · have : x.toNat = 0 := by omega
        rw [← hm, this]; decide
theorem len64_fun (x : Int) (hx : 0 ≤ x ∧ x < 65536) : Fun Try.prog 172 [.v (.int .u64 x)] fun r => ∃ n : Nat, r = .v (.int .i64 n) ∧ n ≤ 16 ∧ x < 2 ^ n ∧ (1 ≤ x → (2 : Int) ^ n ≤ 2 * x) := by
  refine ⟨by decide +kernel, fun J w vs hJ hG hv => ?_⟩
  obtain ⟨v, vs', rfl, hv1, hv2⟩ := hv
  have hv2 : vs' = [] := hv2
  subst hv2
  obtain ⟨rfl, _⟩ := hv1
  refine (len64_raw x hx w).mono ?_
  rintro e w' ⟨⟨n, rfl, h⟩, rfl⟩
  exact ⟨_, .v (.int .i64 n), rfl, ⟨n, rfl, h⟩, RowKit.Below.refl _ _, ⟨rfl, rfl⟩⟩

theorem bitsLen_fun (x : Int) (hx : 0 ≤ x ∧ x < 65536) : Fun Try.prog 145 [.v (.int .u64 x)] fun r => ∃ n : Nat, r = .v (.int .i64 n) ∧ n ≤ 16 ∧ x < 2 ^ n ∧ (1 ≤ x → (2 : Int) ^ n ≤ 2 * x) := by
  refine Fun.of_awpI Try.func145 rfl cal145 Try.ntmps145 (by simp) fun hwf => ?_
  simp only [D.wfs, D.wf, ints_length, ints_wfs, rows_length, rows_wfs, capMax, and_true, true_and] at hwf
  repeat' (first | simp only [go_sem, Ret_eq Try.results145] | (refine opCallI_gv (by simp only [go_sem, Ret_eq Try.results145]; first | done | rfl) (len64_fun x hx) ?_; rintro _ ⟨n, rfl, hn⟩) | fail)
  exact ⟨n, rfl, hn⟩

theorem nextPow_fun (k : Nat) (hk : 1 ≤ k ∧ k < 65536) : Fun Try.prog 185 [.v (.int .i64 k)] fun r => ∃ n : Nat, r = .v (.int .u64 ((2 ^ n : Nat) : Int)) ∧ n ≤ 16 ∧ 2 ^ n ≤ 2 * k := by
  refine Fun.of_awpI Try.func185 rfl cal185 Try.ntmps185 (by simp) fun hwf => ?_
  simp only [D.wfs, D.wf, ints_length, ints_wfs, rows_length, rows_wfs, capMax, and_true, true_and] at hwf
  repeat' (first | simp only [go_sem, Ret_eq Try.results185] | simp (disch := omega) only [arith, IntKind.bits, capMax, fill_len, elt_fill] | (refine opCallI_gv (by simp only [go_sem, Ret_eq Try.results185]; first | done | rfl) (bitsLen_fun k (by omega)) ?_; rintro _ ⟨n, rfl, hn⟩) | fail)
  exact ⟨n, by rw [Int.one_mul]; norm_cast, hn.1, by have := hn.2.2 (by omega); exact_mod_cast this⟩
abbrev boxX (x : Int) : Own := ⟨197, 1, [.v (.int .u64 x)]⟩

theorem next_sh (x : Int) : FunL Try.prog 186 [.adr 0 0 0] [boxX x] fun r os => ∃ y : Int, r = .v (.int .u64 y) ∧ os = [boxX y] := by
  refine FunL.of_awpI [(100000, 0)] rfl Try.func186 rfl cal186 Try.ntmps186 (by simp) fun hwf hlw ls => ?_
  simp only [lentWf, D.wfs, D.wf, ints_length, ints_wfs, rows_length, rows_wfs, capMax, and_true, true_and] at hwf hlw
  repeat' (first | simp only [go_sem, Ret_eq Try.results186] | simp (disch := omega) only [arith, IntKind.bits, capMax, fill_len, elt_fill] | refine RetL_calc Try.results186 rfl ?_ | (refine awpI_draw2 (id := 1) (.one false 0 (.one false 1 (.one false 2 (.one false 3 (.one false 4 (.one false 5 (.one false 6 (.one false 7 (.one false 8 (.only 9 .done)))))))))) mixed (by decide +kernel) (by decide +kernel) ?_) | (refine awpI_draw2 (id := 2) (.one false 0 (.one false 1 (.one false 2 (.one false 3 (.one false 4 (.one false 5 (.one false 6 (.one false 7 (.one false 8 (.only 9 .done)))))))))) mixed (by decide +kernel) (by decide +kernel) ?_) | (refine awpI_draw2 (id := 3) (.one false 0 (.one false 1 (.one false 2 (.one false 3 (.one false 4 (.one false 5 (.one false 6 (.one false 7 (.one false 8 (.only 9 .done)))))))))) mixed (by decide +kernel) (by decide +kernel) ?_) | fail)
  exact ⟨_, rfl, rfl⟩
theorem and_low (y : Int) {n : Nat} (hn : n ≤ 16) : ∃ k : Nat, abits .and .u64 y (((2 ^ n : Nat) : Int) - 1) = k ∧ k < 2 ^ n := by
  have h1 : 2 ^ n ≤ 2 ^ 16 := Nat.pow_le_pow_right (by decide) hn
  have h0 : 1 ≤ 2 ^ n := Nat.one_le_two_pow
  have e : ((2 ^ n : Nat) : Int) - 1 = ((2 ^ n - 1 : Nat) : Int) := by omega
  rw [e]
  simp only [abits]
  have e2 : BitVec.ofInt IntKind.u64.bits ((2 ^ n - 1 : Nat) : Int) = BitVec.ofNat 64 (2 ^ n - 1) := by simp [IntKind.bits]
  rw [e2]
  show ∃ k : Nat, IntKind.u64.wrap ((BitVec.ofInt 64 y &&& BitVec.ofNat 64 (2 ^ n - 1)).toNat : Int) = k ∧ k < 2 ^ n
  have h2 : (BitVec.ofInt 64 y &&& BitVec.ofNat 64 (2 ^ n - 1)).toNat ≤ 2 ^ n - 1 := by
    rw [BitVec.toNat_and]
    refine Nat.le_trans Nat.and_le_right ?_
    rw [BitVec.toNat_ofNat]
    exact Nat.mod_le _ _
  generalize (BitVec.ofInt 64 y &&& BitVec.ofNat 64 (2 ^ n - 1)).toNat = B at *
  refine ⟨B, ?_, by omega⟩
  rw [IntKind.wrap_u64]; omega
end Go.Proofs.Ytpkampecmlpfmaa.T

end
section
set_option linter.unusedSimpArgs false
set_option linter.unusedVariables false
/- Patterns broken; walked. -/
namespace Go.Proofs.Ytpkampecmlpfmaa.T
open Go Go.VL Go.Proofs
set_option maxRecDepth 100000
set_option maxHeartbeats 8000000

theorem break16 (l : List Int) (a b : Nat) (hab : a ≤ b) (hb : b ≤ l.length) (hl : l.length ≤ 60000) : FunL Try.prog 178 [.ref 0 l.length, .v (.int .i64 a), .v (.int .i64 b)] [own16 l] fun r os =>
    r = .tup [] ∧ ∃ l', os = [own16 l'] ∧ Sw a b l l' := by
  refine FunL.of_awpI [(100000, 0)] rfl Try.func178 rfl cal178 Try.ntmps178 (by simp) fun hwf hlw ls => ?_
  simp only [lentWf, D.wfs, D.wf, ints_length, ints_wfs, rows_length, rows_wfs, capMax, and_true, true_and] at hwf hlw
  obtain ⟨m, rfl⟩ : ∃ m, b = a + m := ⟨b - a, by omega⟩
  have e0 : ((a + m : Nat) : Int) - (a : Int) = ((m : Nat) : Int) := by omega
  by_cases h8 : 8 ≤ m
  · have e1 : ((m : Nat) : Int).tdiv 4 = ((m / 4 : Nat) : Int) := by rw [Int.tdiv_eq_ediv_of_nonneg (by omega)]; omega
    have e2 : (a : Int) + ((m / 4 : Nat) : Int) * 2 = ((a + m / 4 * 2 : Nat) : Int) := by omega
    have e3 : ((a + m / 4 * 2 : Nat) : Int) - 1 = ((a + m / 4 * 2 - 1 : Nat) : Int) := by omega
    have hnp := nextPow_fun m (by omega)
    repeat' (first | simp only [go_sem, e0, e1, e2, e3, Ret_eq Try.results178] | simp (disch := omega) only [arith, IntKind.bits, capMax, fill_len, elt_fill] | (refine opCallI_gv (by simp only [go_sem, e0, e1, e2, e3, Ret_eq Try.results178]; first | done | rfl) (hnp) ?_; rintro _ ⟨n, rfl, hn⟩) | fail)
    obtain ⟨hn1, hn2⟩ := hn
    have hpow : 1 ≤ 2 ^ n := Nat.one_le_two_pow
    refine awpI_while (σ := Nat × Int × List Int) (fun x => a + m / 4 * 2 + 2 - x.1) (fun x => (a ≤ x.1 ∧ x.1 ≤ a + m / 4 * 2 + 2) ∧ Sw a (a + m) l x.2.2) (fun x => [(9, .v (.int .i64 x.1))]) (fun x => [(0, own16 x.2.2), (7, boxX x.2.1)]) [0, 1, 6, 7, 8, 100000] [] (a + m / 4 * 2 - 1, (m : Int), l) _ (Weak.refl _) ⟨⟨by show a ≤ a + m / 4 * 2 - 1; omega, by show a + m / 4 * 2 - 1 ≤ _; omega⟩, .refl _⟩ ?_ ?_ ?_
    · simp only [go_sem, Ret_eq Try.results178]
      all_goals omega
    · simp only [go_sem, Ret_eq Try.results178]
    · rintro ⟨i, x, l1⟩ s ⟨⟨hi1, hi2⟩, hsw⟩ hs
      simp only [go_sem, Ret_eq Try.results178] at hs
      dsimp only at hi1 hi2 hsw
      have hl1 := hsw.length
      have e4 : ((a + m / 4 * 2 : Nat) : Int) + 1 = ((a + m / 4 * 2 + 1 : Nat) : Int) := by omega
      by_cases hi : i ≤ a + m / 4 * 2 + 1
      · repeat' (first | simp only [go_sem, hs, e0, e1, e2, e4, Ret_eq Try.results178] | simp (disch := omega) only [arith, IntKind.bits, capMax, fill_len, elt_fill] | fail)
        refine opCallI_lend [7] (by simp only [go_sem, hs, Ret_eq Try.results178]; first | done | rfl) (by simp only [go_sem, hs, Ret_eq Try.results178]; first | done | rfl) (by decide) (by simp only [go_sem, hs, Ret_eq Try.results178]; first | done | decide) (by simp only [go_sem, hs, Ret_eq Try.results178]; first | done | decide) (next_sh x) ?_
        rintro _ _ ⟨y, rfl, rfl⟩
        obtain ⟨k, hk, hk2⟩ := and_low y hn1
        by_cases hkm : m ≤ k
        · have e6 : (k : Int) - (m : Int) = ((k - m : Nat) : Int) := by omega
          have e7 : (a : Int) + ((k - m : Nat) : Int) = ((a + (k - m) : Nat) : Int) := by omega
          have e8 : (l1.set i (l1.getD (a + (k - m)) 0)).set (a + (k - m)) (l1.getD i 0) = sw l1 i (a + (k - m)) := rfl
          have e9 : (l1.set i (l1.getD (a + (k - m)) 0)).length = l1.length := List.length_set
          repeat' (first | simp only [go_sem, hs, e0, e1, e2, e4, hk, e6, e7, e8, List.length_set, Ret_eq Try.results178] | simp (disch := omega) only [arith, IntKind.bits, capMax, fill_len, elt_fill] | (refine awpI_draw2 (id := 10) (.one false 0 (.one false 1 (.one false 6 (.one false 7 (.one false 8 (.one false 9 (.one false 10 (.one false 11 (.one false 12 (.one false 13 (.one false 14 (.one false 15 (.one false 16 (.mv 2 (.mv 3 (.mv 4 (.cal 5 [17] (.only 17 (.one false 18 (.only 19 .done)))))))))))))))))))) mixed (by decide +kernel) (by decide +kernel) ?_) | fail)
          all_goals
            refine AgainW.to (i + 1, y, sw l1 i (a + (k - m))) ?_ ?_ ?_
            · show a + m / 4 * 2 + 2 - (i + 1) < a + m / 4 * 2 + 2 - i; omega
            · exact ⟨⟨by show a ≤ i + 1; omega, by show i + 1 ≤ _; omega⟩, .step _ _ hsw ⟨by omega, by omega⟩ ⟨by omega, by omega⟩ (by omega)⟩
            · simp only [go_sem, hs, Ret_eq Try.results178]
        · have e7 : (a : Int) + (k : Int) = ((a + k : Nat) : Int) := by omega
          have e8 : (l1.set i (l1.getD (a + k) 0)).set (a + k) (l1.getD i 0) = sw l1 i (a + k) := rfl
          have e9 : (l1.set i (l1.getD (a + k) 0)).length = l1.length := List.length_set
          repeat' (first | simp only [go_sem, hs, e0, e1, e2, e4, hk, e7, e8, List.length_set, Ret_eq Try.results178] | simp (disch := omega) only [arith, IntKind.bits, capMax, fill_len, elt_fill] | (refine awpI_draw2 (id := 10) (.one false 0 (.one false 1 (.one false 6 (.one false 7 (.one false 8 (.one false 9 (.one false 10 (.one false 11 (.one false 12 (.one false 13 (.one false 14 (.one false 15 (.one false 16 (.mv 2 (.mv 3 (.mv 4 (.cal 5 [17] (.only 17 (.one false 18 (.only 19 .done)))))))))))))))))))) mixed (by decide +kernel) (by decide +kernel) ?_) | fail)
          all_goals
            refine AgainW.to (i + 1, y, sw l1 i (a + k)) ?_ ?_ ?_
            · show a + m / 4 * 2 + 2 - (i + 1) < a + m / 4 * 2 + 2 - i; omega
            · exact ⟨⟨by show a ≤ i + 1; omega, by show i + 1 ≤ _; omega⟩, .step _ _ hsw ⟨by omega, by omega⟩ ⟨by omega, by omega⟩ (by omega)⟩
            · simp only [go_sem, hs, Ret_eq Try.results178]
      · repeat' (first | simp only [go_sem, hs, e0, e1, e2, e4, Ret_eq Try.results178] | simp (disch := omega) only [arith, IntKind.bits, capMax, fill_len, elt_fill] | refine RetL_calc Try.results178 rfl ?_ | fail)
        all_goals exact ⟨rfl, l1, rfl, hsw⟩
  · repeat' (first | simp only [go_sem, e0, Ret_eq Try.results178] | simp (disch := omega) only [arith, IntKind.bits, capMax, fill_len, elt_fill] | refine RetL_calc Try.results178 rfl ?_ | fail)
    all_goals exact ⟨rfl, l, rfl, .refl _⟩
end Go.Proofs.Ytpkampecmlpfmaa.T

end
section
set_option linter.unusedSimpArgs false
set_option linter.unusedVariables false
/- By what a list is parted; walked. -/
namespace Go.Proofs.Ytpkampecmlpfmaa.T
open Go Go.VL Go.Proofs
set_option maxRecDepth 100000
set_option maxHeartbeats 8000000
abbrev boxN16 (c : Int) : Own := ⟨3, 1, [.v (.int .i64 c)]⟩

theorem order216 (l : List Int) (a b : Nat) (c : Int) (ha : a < l.length) (hb : b < l.length) (hl : l.length ≤ 60000) : FunL Try.prog 194 [.ref 0 l.length, .v (.int .i64 a), .v (.int .i64 b), .adr 1 0 0] [own16 l, boxN16 c] fun r os =>
    ∃ (x y : Nat) (d : Int), r = .tup [.v (.int .i64 x), .v (.int .i64 y)] ∧ os = [own16 l, boxN16 d] ∧ (x = a ∨ x = b) ∧ (y = a ∨ y = b) := by
  refine FunL.of_awpI [(100000, 0), (100001, 1)] rfl Try.func194 rfl cal194 Try.ntmps194 (by simp) fun hwf hlw ls => ?_
  simp only [lentWf, D.wfs, D.wf, ints_length, ints_wfs, rows_length, rows_wfs, capMax, and_true, true_and] at hwf hlw
  have hls := lessS16_fun (l.getD b 0) (l.getD a 0)
  by_cases h : l.getD b 0 < l.getD a 0
  · rw [decide_eq_true h] at hls
    repeat' (first | simp only [go_sem, Ret_eq Try.results194] | simp (disch := omega) only [arith, IntKind.bits, capMax, fill_len, elt_fill] | refine RetL_calc Try.results194 rfl ?_ | (refine awpI_draw2 (id := 1) (.one false 0 (.one false 1 (.one false 2 (.one false 3 (.one false 4 (.one false 5 (.one false 6 (.one false 7 (.only 8 .done))))))))) mixed (by decide +kernel) (by decide +kernel) ?_) | (refine opCallI_rd (by simp only [go_sem, Ret_eq Try.results194]; first | done | rfl) (hls) (by rintro _ rfl; rfl) ?_; rintro _ rfl) | fail)
    all_goals exact ⟨b, a, _, rfl, rfl, .inr rfl, .inl rfl⟩
  · rw [decide_eq_false h] at hls
    repeat' (first | simp only [go_sem, Ret_eq Try.results194] | simp (disch := omega) only [arith, IntKind.bits, capMax, fill_len, elt_fill] | refine RetL_calc Try.results194 rfl ?_ | (refine awpI_draw2 (id := 1) (.one false 0 (.one false 1 (.one false 2 (.one false 3 (.one false 4 (.one false 5 (.one false 6 (.one false 7 (.only 8 .done))))))))) mixed (by decide +kernel) (by decide +kernel) ?_) | (refine opCallI_rd (by simp only [go_sem, Ret_eq Try.results194]; first | done | rfl) (hls) (by rintro _ rfl; rfl) ?_; rintro _ rfl) | fail)
    all_goals exact ⟨a, b, _, rfl, rfl, .inl rfl, .inr rfl⟩

theorem median16 (l : List Int) (a b c : Nat) (n : Int) (ha : a < l.length) (hb : b < l.length) (hc : c < l.length) (hl : l.length ≤ 60000) : FunL Try.prog 192 [.ref 0 l.length, .v (.int .i64 a), .v (.int .i64 b), .v (.int .i64 c), .adr 1 0 0] [own16 l, boxN16 n] fun r os =>
    ∃ (x : Nat) (d : Int), r = .v (.int .i64 x) ∧ os = [own16 l, boxN16 d] ∧ (x = a ∨ x = b ∨ x = c) := by
  refine FunL.of_awpI [(100000, 0), (100001, 1)] rfl Try.func192 rfl cal192 Try.ntmps192 (by simp) fun hwf hlw ls => ?_
  simp only [lentWf, D.wfs, D.wf, ints_length, ints_wfs, rows_length, rows_wfs, capMax, and_true, true_and] at hwf hlw
  repeat' (first | simp only [go_sem, Ret_eq Try.results192] | (refine opCallI_lend [0,1] (by simp only [go_sem, Ret_eq Try.results192]; first | done | rfl) (by simp only [go_sem, Ret_eq Try.results192]; first | done | rfl) (by decide) (by simp only [go_sem, Ret_eq Try.results192]; first | done | decide) (by simp only [go_sem, Ret_eq Try.results192]; first | done | decide) (order216 l a b n ha hb hl) ?_; rintro _ _ ⟨x1, y1, d1, rfl, rfl, hx1, hy1⟩) | fail)
  have bx1 : x1 < l.length := by omega
  have by1 : y1 < l.length := by omega
  repeat' (first | simp only [go_sem, Ret_eq Try.results192] | (refine opCallI_lend [0,1] (by simp only [go_sem, Ret_eq Try.results192]; first | done | rfl) (by simp only [go_sem, Ret_eq Try.results192]; first | done | rfl) (by decide) (by simp only [go_sem, Ret_eq Try.results192]; first | done | decide) (by simp only [go_sem, Ret_eq Try.results192]; first | done | decide) (order216 l y1 c d1 by1 hc hl) ?_; rintro _ _ ⟨x2, y2, d2, rfl, rfl, hx2, hy2⟩) | fail)
  have bx2 : x2 < l.length := by omega
  repeat' (first | simp only [go_sem, Ret_eq Try.results192] | refine RetL_calc Try.results192 rfl ?_ | (refine opCallI_lend [0,1] (by simp only [go_sem, Ret_eq Try.results192]; first | done | rfl) (by simp only [go_sem, Ret_eq Try.results192]; first | done | rfl) (by decide) (by simp only [go_sem, Ret_eq Try.results192]; first | done | decide) (by simp only [go_sem, Ret_eq Try.results192]; first | done | decide) (order216 l x1 x2 d2 bx1 bx2 hl) ?_; rintro _ _ ⟨x3, y3, d3, rfl, rfl, hx3, hy3⟩) | fail)
  exact ⟨y3, d3, rfl, rfl, by omega⟩

theorem medAdj16 (l : List Int) (a : Nat) (n : Int) (h1 : 1 ≤ a) (ha : a + 1 < l.length) (hl : l.length ≤ 60000) : FunL Try.prog 191 [.ref 0 l.length, .v (.int .i64 a), .adr 1 0 0] [own16 l, boxN16 n] fun r os =>
    ∃ (x : Nat) (d : Int), r = .v (.int .i64 x) ∧ os = [own16 l, boxN16 d] ∧ (a ≤ x + 1 ∧ x ≤ a + 1) := by
  refine FunL.of_awpI [(100000, 0), (100001, 1)] rfl Try.func191 rfl cal191 Try.ntmps191 (by simp) fun hwf hlw ls => ?_
  simp only [lentWf, D.wfs, D.wf, ints_length, ints_wfs, rows_length, rows_wfs, capMax, and_true, true_and] at hwf hlw
  have e1 : (a : Int) - 1 = ((a - 1 : Nat) : Int) := by omega
  repeat' (first | simp only [go_sem, e1, Ret_eq Try.results191] | simp (disch := omega) only [arith, IntKind.bits, capMax, fill_len, elt_fill] | refine RetL_calc Try.results191 rfl ?_ | (refine opCallI_lend [0,1] (by simp only [go_sem, e1, Ret_eq Try.results191]; first | done | rfl) (by simp only [go_sem, e1, Ret_eq Try.results191]; first | done | rfl) (by decide) (by simp only [go_sem, e1, Ret_eq Try.results191]; first | done | decide) (by simp only [go_sem, e1, Ret_eq Try.results191]; first | done | decide) (median16 l (a - 1) a (a + 1) n (by omega) (by omega) ha hl) ?_; rintro _ _ ⟨x, d, rfl, rfl, hx⟩) | fail)
  exact ⟨x, d, rfl, rfl, by omega⟩

theorem choose16 (l : List Int) (a b : Nat) (hab : a + 8 ≤ b) (hb : b ≤ l.length) (hl : l.length ≤ 60000) : FunL Try.prog 179 [.ref 0 l.length, .v (.int .i64 a), .v (.int .i64 b)] [own16 l] fun r os =>
    ∃ (x : Nat) (h : Int), r = .tup [.v (.int .i64 x), .v (.int .i64 h)] ∧ os = [own16 l] ∧ a ≤ x ∧ x < b := by
  refine FunL.of_awpI [(100000, 0)] rfl Try.func179 rfl cal179 Try.ntmps179 (by simp) fun hwf hlw ls => ?_
  simp only [lentWf, D.wfs, D.wf, ints_length, ints_wfs, rows_length, rows_wfs, capMax, and_true, true_and] at hwf hlw
  obtain ⟨m, rfl⟩ : ∃ m, b = a + m := ⟨b - a, by omega⟩
  have e0 : ((a + m : Nat) : Int) - (a : Int) = ((m : Nat) : Int) := by omega
  have e1 : ((m : Nat) : Int).tdiv 4 = (m : Int) / 4 := Int.tdiv_eq_ediv_of_nonneg (by omega)
  have e2 : (a : Int) + (m : Int) / 4 * 1 = ((a + m / 4 : Nat) : Int) := by omega
  have e3 : (a : Int) + (m : Int) / 4 * 2 = ((a + m / 4 * 2 : Nat) : Int) := by omega
  have e4 : (a : Int) + (m : Int) / 4 * 3 = ((a + m / 4 * 3 : Nat) : Int) := by omega
  have key : ∀ (i j k : Nat) (d : Int), (a ≤ i ∧ i < a + m) → (a ≤ j ∧ j < a + m) → (a ≤ k ∧ k < a + m) → FunL Try.prog 192 [.ref 0 l.length, .v (.int .i64 i), .v (.int .i64 j), .v (.int .i64 k), .adr 1 0 0] [own16 l, boxN16 d] fun r os =>
      ∃ (x : Nat) (d : Int), r = .v (.int .i64 x) ∧ os = [own16 l, boxN16 d] ∧ (x = i ∨ x = j ∨ x = k) := fun i j k d h1 h2 h3 => median16 l i j k d (by omega) (by omega) (by omega) hl
  by_cases h50 : 50 ≤ m
  · repeat' (first | simp only [go_sem, e0, e1, e2, e3, e4, Ret_eq Try.results179] | simp (disch := omega) only [arith, IntKind.bits, capMax, fill_len, elt_fill] | (refine opCallI_lend [0,9] (by simp only [go_sem, e0, e1, e2, e3, e4, Ret_eq Try.results179]; first | done | rfl) (by simp only [go_sem, e0, e1, e2, e3, e4, Ret_eq Try.results179]; first | done | rfl) (by decide) (by simp only [go_sem, e0, e1, e2, e3, e4, Ret_eq Try.results179]; first | done | decide) (by simp only [go_sem, e0, e1, e2, e3, e4, Ret_eq Try.results179]; first | done | decide) (medAdj16 l (a + m / 4) 0 (by omega) (by omega) hl) ?_; rintro _ _ ⟨x1, d1, rfl, rfl, hx1⟩) | fail)
    repeat' (first | simp only [go_sem, e0, e1, e2, e3, e4, Ret_eq Try.results179] | (refine opCallI_lend [0,9] (by simp only [go_sem, e0, e1, e2, e3, e4, Ret_eq Try.results179]; first | done | rfl) (by simp only [go_sem, e0, e1, e2, e3, e4, Ret_eq Try.results179]; first | done | rfl) (by decide) (by simp only [go_sem, e0, e1, e2, e3, e4, Ret_eq Try.results179]; first | done | decide) (by simp only [go_sem, e0, e1, e2, e3, e4, Ret_eq Try.results179]; first | done | decide) (medAdj16 l (a + m / 4 * 2) d1 (by omega) (by omega) hl) ?_; rintro _ _ ⟨x2, d2, rfl, rfl, hx2⟩) | fail)
    repeat' (first | simp only [go_sem, e0, e1, e2, e3, e4, Ret_eq Try.results179] | (refine opCallI_lend [0,9] (by simp only [go_sem, e0, e1, e2, e3, e4, Ret_eq Try.results179]; first | done | rfl) (by simp only [go_sem, e0, e1, e2, e3, e4, Ret_eq Try.results179]; first | done | rfl) (by decide) (by simp only [go_sem, e0, e1, e2, e3, e4, Ret_eq Try.results179]; first | done | decide) (by simp only [go_sem, e0, e1, e2, e3, e4, Ret_eq Try.results179]; first | done | decide) (medAdj16 l (a + m / 4 * 3) d2 (by omega) (by omega) hl) ?_; rintro _ _ ⟨x3, d3, rfl, rfl, hx3⟩) | fail)
    repeat' (first | simp only [go_sem, e0, e1, e2, e3, e4, Ret_eq Try.results179] | (with_reducible refine condI_beq (fun hq hqb => ?_) (fun hq hqb => ?_) <;> simp only [KP_mk, hqb]) | refine RetL_calc Try.results179 rfl ?_ | (refine opCallI_lend [0,9] (by simp only [go_sem, e0, e1, e2, e3, e4, Ret_eq Try.results179]; first | done | rfl) (by simp only [go_sem, e0, e1, e2, e3, e4, Ret_eq Try.results179]; first | done | rfl) (by decide) (by simp only [go_sem, e0, e1, e2, e3, e4, Ret_eq Try.results179]; first | done | decide) (by simp only [go_sem, e0, e1, e2, e3, e4, Ret_eq Try.results179]; first | done | decide) (key x1 x2 x3 d3 (by omega) (by omega) (by omega)) ?_; rintro _ _ ⟨x, d, rfl, rfl, hx⟩) | fail)
    all_goals (refine ⟨x, _, rfl, ?_⟩; first | exact ⟨rfl, by omega, by omega⟩ | exact ⟨by omega, by omega⟩)
  · repeat' (first | simp only [go_sem, e0, e1, e2, e3, e4, Ret_eq Try.results179] | simp (disch := omega) only [arith, IntKind.bits, capMax, fill_len, elt_fill] | (with_reducible refine condI_beq (fun hq hqb => ?_) (fun hq hqb => ?_) <;> simp only [KP_mk, hqb]) | refine RetL_calc Try.results179 rfl ?_ | (refine opCallI_lend [0,9] (by simp only [go_sem, e0, e1, e2, e3, e4, Ret_eq Try.results179]; first | done | rfl) (by simp only [go_sem, e0, e1, e2, e3, e4, Ret_eq Try.results179]; first | done | rfl) (by decide) (by simp only [go_sem, e0, e1, e2, e3, e4, Ret_eq Try.results179]; first | done | decide) (by simp only [go_sem, e0, e1, e2, e3, e4, Ret_eq Try.results179]; first | done | decide) (key (a + m / 4) (a + m / 4 * 2) (a + m / 4 * 3) 0 (by omega) (by omega) (by omega)) ?_; rintro _ _ ⟨x, d, rfl, rfl, hx⟩) | fail)
    all_goals (refine ⟨x, _, rfl, ?_⟩; first | exact ⟨rfl, by omega, by omega⟩ | exact ⟨by omega, by omega⟩)
end Go.Proofs.Ytpkampecmlpfmaa.T

end
section
set_option linter.unusedSimpArgs false
set_option linter.unusedVariables false
/- Sorting a list that is nearly sorted, walked. -/
namespace Go.Proofs.Ytpkampecmlpfmaa.T
open Go Go.VL Go.Proofs
set_option maxRecDepth 100000
set_option maxHeartbeats 8000000

theorem partial16 (l : List Int) (a b : Nat) (hab : a + 8 ≤ b) (hb : b ≤ l.length) (hl : l.length ≤ 60000) (hA : Ahd a b l) : FunL Try.prog 181 [.ref 0 l.length, .v (.int .i64 a), .v (.int .i64 b)] [own16 l] fun r os =>
    ∃ t : Bool, r = .v (.bool t) ∧ ∃ l', os = [own16 l'] ∧ Sw a b l l' ∧ (t = true → Sd a b l') := by
  refine FunL.of_awpI [(100000, 0)] rfl Try.func181 rfl cal181 Try.ntmps181 (by simp) fun hwf hlw ls => ?_
  simp only [lentWf, D.wfs, D.wf, ints_length, ints_wfs, rows_length, rows_wfs, capMax, and_true, true_and] at hwf hlw
  have eba : (b : Int) - (a : Int) = ((b - a : Nat) : Int) := by omega
  repeat' (first | simp only [go_sem, Ret_eq Try.results181] | simp (disch := omega) only [arith, IntKind.bits, capMax, fill_len, elt_fill] | fail)
  refine awpI_while (σ := Nat × Nat × List Int) (fun x => 5 - x.1) (fun x => (a + 1 ≤ x.2.1 ∧ x.2.1 ≤ b) ∧ Sw a b l x.2.2 ∧ Sd a x.2.1 x.2.2) (fun x => [(7, .v (.int .i64 x.2.1)), (8, .v (.int .i64 x.1))]) (fun x => [(0, own16 x.2.2)]) [0, 1, 2, 100000] [] (0, a + 1, l) _ (Weak.refl _) ⟨⟨Nat.le_refl _, by show a + 1 ≤ b; omega⟩, .refl _, fun p q h1 h2 h3 => by have h3 : q < a + 1 := h3; omega⟩ ?_ ?_ ?_
  · simp only [go_sem, Ret_eq Try.results181]
    all_goals simp
  · simp only [go_sem, Ret_eq Try.results181]
  · rintro ⟨j, i, l1⟩ s ⟨⟨hi1, hi2⟩, hsw, hsd⟩ hs
    simp only [go_sem, Ret_eq Try.results181] at hs
    dsimp only at hi1 hi2 hsw hsd
    have hl1 := hsw.length
    by_cases hj : j < 5
    · repeat' (first | simp only [go_sem, hs, Ret_eq Try.results181] | simp (disch := omega) only [arith, IntKind.bits, capMax, fill_len, elt_fill] | fail)
      refine awpI_while (σ := Nat) (fun x => b - x) (fun x => (a + 1 ≤ x ∧ x ≤ b) ∧ Sd a x l1) (fun x => [(7, .v (.int .i64 x))]) (fun _ => []) [0, 1, 2, 8, 100000] [0] i _ (Weak.refl _) ⟨⟨hi1, hi2⟩, hsd⟩ ?_ ?_ ?_
      · simp only [go_sem, hs, Ret_eq Try.results181]
      · simp only [go_sem, hs, Ret_eq Try.results181]
      · rintro i2 s2 ⟨⟨hi3, hi4⟩, hsd2⟩ hs2
        simp only [go_sem, hs, Ret_eq Try.results181] at hs2
        have ei : (i2 : Int) - 1 = ((i2 - 1 : Nat) : Int) := by omega
        have eia : (i2 : Int) - (a : Int) = ((i2 - a : Nat) : Int) := by omega
        have ebi : (b : Int) - (i2 : Int) = ((b - i2 : Nat) : Int) := by omega
        by_cases hb2 : i2 < b
        · have hls := lessS16_fun (l1.getD i2 0) (l1.getD (i2 - 1) 0)
          by_cases hlt : l1.getD i2 0 < l1.getD (i2 - 1) 0
          · rw [decide_eq_true hlt] at hls
            have hbe : ((i2 : Int) == (b : Int)) = false := beq_eq_false_iff_ne.2 (by omega)
            by_cases h50 : b - a < 50
            · repeat' (first | simp only [go_sem, hs, hs2, hl1, ei, hbe, eba, Ret_eq Try.results181] | simp (disch := omega) only [arith, IntKind.bits, capMax, fill_len, elt_fill] | refine RetL_calc Try.results181 rfl ?_ | (refine awpI_draw2 (id := 5) (.one false 0 (.one false 1 (.one false 2 (.one false 3 (.one false 4 (.one false 5 (.one false 6 (.one false 7 (.one false 8 (.one false 9 (.one false 10 (.one false 11 (.one false 12 (.only 13 (.one false 14 (.one false 15 .done)))))))))))))))) mixed (by decide +kernel) (by decide +kernel) ?_) | (refine opCallI_rd (by simp only [go_sem, hs, hs2, hl1, ei, hbe, eba, Ret_eq Try.results181]; first | done | rfl) (hls) (by rintro _ rfl; rfl) ?_; rintro _ rfl) | fail)
              all_goals exact ⟨false, rfl, l1, rfl, hsw, fun q => by cases q⟩
            · have e5 : (l1.set i2 (l1.getD (i2 - 1) 0)).set (i2 - 1) (l1.getD i2 0) = sw l1 i2 (i2 - 1) := rfl
              have e6 : (l1.set i2 (l1.getD (i2 - 1) 0)).length = l1.length := List.length_set
              have hsw2 : Sw a b l (sw l1 i2 (i2 - 1)) := .step i2 (i2 - 1) hsw ⟨by omega, by omega⟩ ⟨by omega, by omega⟩ (by omega)
              have hins : Ins a (i2 - 1) (i2 - 1) (sw l1 i2 (i2 - 1)) := hsd2.swapped hi3 (by omega) hlt
              have hl2 := hsw2.length
              by_cases h2 : 2 ≤ i2 - a
              · repeat' (first | simp only [go_sem, hs, hs2, hl1, ei, eia, ebi, hbe, eba, e5, List.length_set, Ret_eq Try.results181] | simp (disch := omega) only [arith, IntKind.bits, capMax, fill_len, elt_fill] | (refine awpI_draw2 (id := 5) (.one false 0 (.one false 1 (.one false 2 (.one false 3 (.one false 4 (.one false 5 (.one false 6 (.one false 7 (.one false 8 (.one false 9 (.one false 10 (.one false 11 (.one false 12 (.only 13 (.one false 14 (.one false 15 .done)))))))))))))))) mixed (by decide +kernel) (by decide +kernel) ?_) | (refine awpI_draw2 (id := 11) (.one false 0 (.one false 1 (.one false 5 (.one false 6 (.one false 7 (.one false 8 (.one false 9 (.one false 10 (.one false 11 (.one false 12 (.one false 13 (.one false 14 (.mv 2 (.mv 3 (.cal 4 [15] (.only 15 (.one false 16 (.only 17 .done)))))))))))))))))) mixed (by decide +kernel) (by decide +kernel) ?_) | (refine opCallI_rd (by simp only [go_sem, hs, hs2, hl1, ei, eia, ebi, hbe, eba, e5, List.length_set, Ret_eq Try.results181]; first | done | rfl) (hls) (by rintro _ rfl; rfl) ?_; rintro _ rfl) | fail)
                refine awpI_while (σ := Nat × List Int) (fun x => x.1) (fun x => (a ≤ x.1 ∧ x.1 ≤ i2 - 1) ∧ Sw a b l x.2 ∧ Ins a x.1 (i2 - 1) x.2) (fun x => [(9, .v (.int .i64 x.1))]) (fun x => [(0, own16 x.2)]) [0, 1, 2, 7, 8, 100000] [] (i2 - 1, sw l1 i2 (i2 - 1)) _ (Weak.refl _) ⟨⟨by show a ≤ i2 - 1; omega, Nat.le_refl _⟩, hsw2, hins⟩ ?_ ?_ ?_
                · simp only [go_sem, hs, hs2, Ret_eq Try.results181]
                · simp only [go_sem, hs, hs2, Ret_eq Try.results181]
                · rintro ⟨u, l3⟩ s3 ⟨⟨hu1, hu2⟩, hsw3, hins3⟩ hs3
                  simp only [go_sem, hs, hs2, Ret_eq Try.results181] at hs3
                  dsimp only at hu1 hu2 hsw3 hins3
                  have hl3 := hsw3.length
                  have eu : (u : Int) - 1 = ((u - 1 : Nat) : Int) ∨ u = 0 := by omega
                  have hA3 := hA.sw hsw3
                  by_cases hu0 : 1 ≤ u
                  · have eu := eu.resolve_right (by omega)
                    have hls3 := lessS16_fun (l3.getD u 0) (l3.getD (u - 1) 0)
                    by_cases hlt3 : l3.getD u 0 < l3.getD (u - 1) 0
                    · rw [decide_eq_true hlt3] at hls3
                      have hau : a < u := by
                        refine Nat.lt_of_le_of_ne hu1 fun q => ?_
                        subst q
                        rcases hA3 with q | q
                        · omega
                        · have := q a (Nat.le_refl _) (by omega); omega
                      have e7 : (l3.set u (l3.getD (u - 1) 0)).set (u - 1) (l3.getD u 0) = sw l3 u (u - 1) := rfl
                      have e8 : (l3.set u (l3.getD (u - 1) 0)).length = l3.length := List.length_set
                      repeat' (first | simp only [go_sem, hs, hs2, hs3, hl3, eu, e7, List.length_set, Ret_eq Try.results181] | simp (disch := omega) only [arith, IntKind.bits, capMax, fill_len, elt_fill] | (refine awpI_draw2 (id := 16) (.one false 0 (.one false 1 (.one false 2 (.one false 3 (.one false 4 (.one false 5 (.one false 6 (.one false 7 (.one false 8 (.only 9 (.one false 10 .done))))))))))) mixed (by decide +kernel) (by decide +kernel) ?_) | (refine awpI_draw2 (id := 17) (.one false 0 (.one false 1 (.one false 5 (.one false 6 (.one false 7 (.one false 8 (.one false 9 (.one false 10 (.one false 11 (.one false 12 (.one false 13 (.one false 14 (.mv 2 (.mv 3 (.cal 4 [15] (.only 15 (.one false 16 (.only 17 .done)))))))))))))))))) mixed (by decide +kernel) (by decide +kernel) ?_) | (refine opCallI_rd (by simp only [go_sem, hs, hs2, hs3, hl3, eu, e7, List.length_set, Ret_eq Try.results181]; first | done | rfl) (hls3) (by rintro _ rfl; rfl) ?_; rintro _ rfl) | fail)
                      all_goals
                        refine AgainW.to (u - 1, sw l3 u (u - 1)) ?_ ?_ ?_
                        · show u - 1 < u; omega
                        · exact ⟨⟨by show a ≤ u - 1; omega, by show u - 1 ≤ i2 - 1; omega⟩, .step u (u - 1) hsw3 ⟨by omega, by omega⟩ ⟨by omega, by omega⟩ (by omega), hins3.step hau hu2 (by omega) hlt3⟩
                        · simp only [go_sem, hs, hs2, hs3, Ret_eq Try.results181]
                    · rw [decide_eq_false hlt3] at hls3
                      have hsd3 : Sd a i2 l3 := by
                        have := hins3.done (.inr (by omega))
                        rw [show i2 - 1 + 1 = i2 by omega] at this
                        exact this
                      by_cases h3 : 2 ≤ b - i2
                      · repeat' (first | simp only [go_sem, hs, hs2, hs3, hl3, eu, eia, ebi, Ret_eq Try.results181] | simp (disch := omega) only [arith, IntKind.bits, capMax, fill_len, elt_fill] | (refine awpI_draw2 (id := 16) (.one false 0 (.one false 1 (.one false 2 (.one false 3 (.one false 4 (.one false 5 (.one false 6 (.one false 7 (.one false 8 (.only 9 (.one false 10 .done))))))))))) mixed (by decide +kernel) (by decide +kernel) ?_) | (refine opCallI_rd (by simp only [go_sem, hs, hs2, hs3, hl3, eu, eia, ebi, Ret_eq Try.results181]; first | done | rfl) (hls3) (by rintro _ rfl; rfl) ?_; rintro _ rfl) | fail)
                        refine awpI_while (σ := Nat × List Int) (fun x => b - x.1) (fun x => (i2 + 1 ≤ x.1 ∧ x.1 ≤ b) ∧ Sw a b l x.2 ∧ Sd a i2 x.2) (fun x => [(10, .v (.int .i64 x.1))]) (fun x => [(0, own16 x.2)]) [0, 1, 2, 7, 8, 100000] [] (i2 + 1, l3) _ (Weak.refl _) ⟨⟨Nat.le_refl _, by show i2 + 1 ≤ b; omega⟩, hsw3, hsd3⟩ ?_ ?_ ?_
                        · simp only [go_sem, hs, hs2, hs3, Ret_eq Try.results181]
                        · simp only [go_sem, hs, hs2, hs3, Ret_eq Try.results181]
                        · rintro ⟨v, l4⟩ s4 ⟨⟨hv1, hv2⟩, hsw4, hsd4⟩ hs4
                          simp only [go_sem, hs, hs2, hs3, Ret_eq Try.results181] at hs4
                          dsimp only at hv1 hv2 hsw4 hsd4
                          have hl4 := hsw4.length
                          have ev : (v : Int) - 1 = ((v - 1 : Nat) : Int) := by omega
                          by_cases hvb : v < b
                          · have hls4 := lessS16_fun (l4.getD v 0) (l4.getD (v - 1) 0)
                            by_cases hlt4 : l4.getD v 0 < l4.getD (v - 1) 0
                            · rw [decide_eq_true hlt4] at hls4
                              have e7 : (l4.set v (l4.getD (v - 1) 0)).set (v - 1) (l4.getD v 0) = sw l4 v (v - 1) := rfl
                              have e8 : (l4.set v (l4.getD (v - 1) 0)).length = l4.length := List.length_set
                              repeat' (first | simp only [go_sem, hs, hs2, hs3, hs4, hl4, ev, e7, List.length_set, Ret_eq Try.results181] | simp (disch := omega) only [arith, IntKind.bits, capMax, fill_len, elt_fill] | (refine awpI_draw2 (id := 22) (.one false 0 (.one false 1 (.one false 2 (.one false 3 (.one false 4 (.one false 5 (.one false 6 (.one false 7 (.one false 8 (.only 9 (.one false 10 .done))))))))))) mixed (by decide +kernel) (by decide +kernel) ?_) | (refine awpI_draw2 (id := 23) (.one false 0 (.one false 1 (.one false 5 (.one false 6 (.one false 7 (.one false 8 (.one false 9 (.one false 10 (.one false 11 (.one false 12 (.one false 13 (.one false 14 (.mv 2 (.mv 3 (.cal 4 [15] (.only 15 (.one false 16 (.only 17 .done)))))))))))))))))) mixed (by decide +kernel) (by decide +kernel) ?_) | (refine opCallI_rd (by simp only [go_sem, hs, hs2, hs3, hs4, hl4, ev, e7, List.length_set, Ret_eq Try.results181]; first | done | rfl) (hls4) (by rintro _ rfl; rfl) ?_; rintro _ rfl) | fail)
                              all_goals
                                refine AgainW.to (v + 1, sw l4 v (v - 1)) ?_ ?_ ?_
                                · show b - (v + 1) < b - v; omega
                                · exact ⟨⟨by show i2 + 1 ≤ v + 1; omega, by show v + 1 ≤ b; omega⟩, .step v (v - 1) hsw4 ⟨by omega, by omega⟩ ⟨by omega, by omega⟩ (by omega), hsd4.out (by omega) (by omega) (by omega) (by omega)⟩
                                · simp only [go_sem, hs, hs2, hs3, hs4, Ret_eq Try.results181]
                            · rw [decide_eq_false hlt4] at hls4
                              repeat' (first | simp only [go_sem, hs, hs2, hs3, hs4, hl4, ev, Ret_eq Try.results181] | simp (disch := omega) only [arith, IntKind.bits, capMax, fill_len, elt_fill] | (refine awpI_draw2 (id := 22) (.one false 0 (.one false 1 (.one false 2 (.one false 3 (.one false 4 (.one false 5 (.one false 6 (.one false 7 (.one false 8 (.only 9 (.one false 10 .done))))))))))) mixed (by decide +kernel) (by decide +kernel) ?_) | (refine opCallI_rd (by simp only [go_sem, hs, hs2, hs3, hs4, hl4, ev, Ret_eq Try.results181]; first | done | rfl) (hls4) (by rintro _ rfl; rfl) ?_; rintro _ rfl) | fail)
                              all_goals
                                refine AgainW.to (j + 1, i2, l4) ?_ ?_ ?_
                                · show 5 - (j + 1) < 5 - j; omega
                                · exact ⟨⟨hi3, hi4⟩, hsw4, hsd4⟩
                                · simp only [go_sem, hs, hs2, hs3, hs4, Ret_eq Try.results181]
                          · repeat' (first | simp only [go_sem, hs, hs2, hs3, hs4, hl4, ev, Ret_eq Try.results181] | simp (disch := omega) only [arith, IntKind.bits, capMax, fill_len, elt_fill] | fail)
                            all_goals
                              refine AgainW.to (j + 1, i2, l4) ?_ ?_ ?_
                              · show 5 - (j + 1) < 5 - j; omega
                              · exact ⟨⟨hi3, hi4⟩, hsw4, hsd4⟩
                              · simp only [go_sem, hs, hs2, hs3, hs4, Ret_eq Try.results181]
                      · repeat' (first | simp only [go_sem, hs, hs2, hs3, hl3, eu, eia, ebi, Ret_eq Try.results181] | simp (disch := omega) only [arith, IntKind.bits, capMax, fill_len, elt_fill] | (refine awpI_draw2 (id := 16) (.one false 0 (.one false 1 (.one false 2 (.one false 3 (.one false 4 (.one false 5 (.one false 6 (.one false 7 (.one false 8 (.only 9 (.one false 10 .done))))))))))) mixed (by decide +kernel) (by decide +kernel) ?_) | (refine opCallI_rd (by simp only [go_sem, hs, hs2, hs3, hl3, eu, eia, ebi, Ret_eq Try.results181]; first | done | rfl) (hls3) (by rintro _ rfl; rfl) ?_; rintro _ rfl) | fail)
                        all_goals
                          refine AgainW.to (j + 1, i2, l3) ?_ ?_ ?_
                          · show 5 - (j + 1) < 5 - j; omega
                          · exact ⟨⟨hi3, hi4⟩, hsw3, hsd3⟩
                          · simp only [go_sem, hs, hs2, hs3, Ret_eq Try.results181]
                  · have hsd3 : Sd a i2 l3 := by
                      have := hins3.done (.inl (by omega))
                      rw [show i2 - 1 + 1 = i2 by omega] at this
                      exact this
                    obtain rfl : u = 0 := by omega
                    by_cases h3 : 2 ≤ b - i2
                    · repeat' (first | simp only [go_sem, hs, hs2, hs3, hl3, eia, ebi, Ret_eq Try.results181] | simp (disch := omega) only [arith, IntKind.bits, capMax, fill_len, elt_fill] | fail)
                      refine awpI_while (σ := Nat × List Int) (fun x => b - x.1) (fun x => (i2 + 1 ≤ x.1 ∧ x.1 ≤ b) ∧ Sw a b l x.2 ∧ Sd a i2 x.2) (fun x => [(10, .v (.int .i64 x.1))]) (fun x => [(0, own16 x.2)]) [0, 1, 2, 7, 8, 100000] [] (i2 + 1, l3) _ (Weak.refl _) ⟨⟨Nat.le_refl _, by show i2 + 1 ≤ b; omega⟩, hsw3, hsd3⟩ ?_ ?_ ?_
                      · simp only [go_sem, hs, hs2, hs3, Ret_eq Try.results181]
                      · simp only [go_sem, hs, hs2, hs3, Ret_eq Try.results181]
                      · rintro ⟨v, l4⟩ s4 ⟨⟨hv1, hv2⟩, hsw4, hsd4⟩ hs4
                        simp only [go_sem, hs, hs2, hs3, Ret_eq Try.results181] at hs4
                        dsimp only at hv1 hv2 hsw4 hsd4
                        have hl4 := hsw4.length
                        have ev : (v : Int) - 1 = ((v - 1 : Nat) : Int) := by omega
                        by_cases hvb : v < b
                        · have hls4 := lessS16_fun (l4.getD v 0) (l4.getD (v - 1) 0)
                          by_cases hlt4 : l4.getD v 0 < l4.getD (v - 1) 0
                          · rw [decide_eq_true hlt4] at hls4
                            have e7 : (l4.set v (l4.getD (v - 1) 0)).set (v - 1) (l4.getD v 0) = sw l4 v (v - 1) := rfl
                            have e8 : (l4.set v (l4.getD (v - 1) 0)).length = l4.length := List.length_set
                            repeat' (first | simp only [go_sem, hs, hs2, hs3, hs4, hl4, ev, e7, List.length_set, Ret_eq Try.results181] | simp (disch := omega) only [arith, IntKind.bits, capMax, fill_len, elt_fill] | (refine awpI_draw2 (id := 22) (.one false 0 (.one false 1 (.one false 2 (.one false 3 (.one false 4 (.one false 5 (.one false 6 (.one false 7 (.one false 8 (.only 9 (.one false 10 .done))))))))))) mixed (by decide +kernel) (by decide +kernel) ?_) | (refine awpI_draw2 (id := 23) (.one false 0 (.one false 1 (.one false 5 (.one false 6 (.one false 7 (.one false 8 (.one false 9 (.one false 10 (.one false 11 (.one false 12 (.one false 13 (.one false 14 (.mv 2 (.mv 3 (.cal 4 [15] (.only 15 (.one false 16 (.only 17 .done)))))))))))))))))) mixed (by decide +kernel) (by decide +kernel) ?_) | (refine opCallI_rd (by simp only [go_sem, hs, hs2, hs3, hs4, hl4, ev, e7, List.length_set, Ret_eq Try.results181]; first | done | rfl) (hls4) (by rintro _ rfl; rfl) ?_; rintro _ rfl) | fail)
                            all_goals
                              refine AgainW.to (v + 1, sw l4 v (v - 1)) ?_ ?_ ?_
                              · show b - (v + 1) < b - v; omega
                              · exact ⟨⟨by show i2 + 1 ≤ v + 1; omega, by show v + 1 ≤ b; omega⟩, .step v (v - 1) hsw4 ⟨by omega, by omega⟩ ⟨by omega, by omega⟩ (by omega), hsd4.out (by omega) (by omega) (by omega) (by omega)⟩
                              · simp only [go_sem, hs, hs2, hs3, hs4, Ret_eq Try.results181]
                          · rw [decide_eq_false hlt4] at hls4
                            repeat' (first | simp only [go_sem, hs, hs2, hs3, hs4, hl4, ev, Ret_eq Try.results181] | simp (disch := omega) only [arith, IntKind.bits, capMax, fill_len, elt_fill] | (refine awpI_draw2 (id := 22) (.one false 0 (.one false 1 (.one false 2 (.one false 3 (.one false 4 (.one false 5 (.one false 6 (.one false 7 (.one false 8 (.only 9 (.one false 10 .done))))))))))) mixed (by decide +kernel) (by decide +kernel) ?_) | (refine opCallI_rd (by simp only [go_sem, hs, hs2, hs3, hs4, hl4, ev, Ret_eq Try.results181]; first | done | rfl) (hls4) (by rintro _ rfl; rfl) ?_; rintro _ rfl) | fail)
                            all_goals
                              refine AgainW.to (j + 1, i2, l4) ?_ ?_ ?_
                              · show 5 - (j + 1) < 5 - j; omega
                              · exact ⟨⟨hi3, hi4⟩, hsw4, hsd4⟩
                              · simp only [go_sem, hs, hs2, hs3, hs4, Ret_eq Try.results181]
                        · repeat' (first | simp only [go_sem, hs, hs2, hs3, hs4, hl4, ev, Ret_eq Try.results181] | simp (disch := omega) only [arith, IntKind.bits, capMax, fill_len, elt_fill] | fail)
                          all_goals
                            refine AgainW.to (j + 1, i2, l4) ?_ ?_ ?_
                            · show 5 - (j + 1) < 5 - j; omega
                            · exact ⟨⟨hi3, hi4⟩, hsw4, hsd4⟩
                            · simp only [go_sem, hs, hs2, hs3, hs4, Ret_eq Try.results181]
                    · repeat' (first | simp only [go_sem, hs, hs2, hs3, hl3, eia, ebi, Ret_eq Try.results181] | simp (disch := omega) only [arith, IntKind.bits, capMax, fill_len, elt_fill] | fail)
                      all_goals
                        refine AgainW.to (j + 1, i2, l3) ?_ ?_ ?_
                        · show 5 - (j + 1) < 5 - j; omega
                        · exact ⟨⟨hi3, hi4⟩, hsw3, hsd3⟩
                        · simp only [go_sem, hs, hs2, hs3, Ret_eq Try.results181]
              · have hsd3 : Sd a i2 (sw l1 i2 (i2 - 1)) := fun p q p1 p2 p3 => by omega
                by_cases h3 : 2 ≤ b - i2
                · repeat' (first | simp only [go_sem, hs, hs2, hl1, ei, eia, ebi, hbe, eba, e5, List.length_set, Ret_eq Try.results181] | simp (disch := omega) only [arith, IntKind.bits, capMax, fill_len, elt_fill] | (refine awpI_draw2 (id := 5) (.one false 0 (.one false 1 (.one false 2 (.one false 3 (.one false 4 (.one false 5 (.one false 6 (.one false 7 (.one false 8 (.one false 9 (.one false 10 (.one false 11 (.one false 12 (.only 13 (.one false 14 (.one false 15 .done)))))))))))))))) mixed (by decide +kernel) (by decide +kernel) ?_) | (refine awpI_draw2 (id := 11) (.one false 0 (.one false 1 (.one false 5 (.one false 6 (.one false 7 (.one false 8 (.one false 9 (.one false 10 (.one false 11 (.one false 12 (.one false 13 (.one false 14 (.mv 2 (.mv 3 (.cal 4 [15] (.only 15 (.one false 16 (.only 17 .done)))))))))))))))))) mixed (by decide +kernel) (by decide +kernel) ?_) | (refine opCallI_rd (by simp only [go_sem, hs, hs2, hl1, ei, eia, ebi, hbe, eba, e5, List.length_set, Ret_eq Try.results181]; first | done | rfl) (hls) (by rintro _ rfl; rfl) ?_; rintro _ rfl) | fail)
                  refine awpI_while (σ := Nat × List Int) (fun x => b - x.1) (fun x => (i2 + 1 ≤ x.1 ∧ x.1 ≤ b) ∧ Sw a b l x.2 ∧ Sd a i2 x.2) (fun x => [(10, .v (.int .i64 x.1))]) (fun x => [(0, own16 x.2)]) [0, 1, 2, 7, 8, 100000] [] (i2 + 1, (sw l1 i2 (i2 - 1))) _ (Weak.refl _) ⟨⟨Nat.le_refl _, by show i2 + 1 ≤ b; omega⟩, hsw2, hsd3⟩ ?_ ?_ ?_
                  · simp only [go_sem, hs, hs2, Ret_eq Try.results181]
                  · simp only [go_sem, hs, hs2, Ret_eq Try.results181]
                  · rintro ⟨v, l4⟩ s4 ⟨⟨hv1, hv2⟩, hsw4, hsd4⟩ hs4
                    simp only [go_sem, hs, hs2, Ret_eq Try.results181] at hs4
                    dsimp only at hv1 hv2 hsw4 hsd4
                    have hl4 := hsw4.length
                    have ev : (v : Int) - 1 = ((v - 1 : Nat) : Int) := by omega
                    by_cases hvb : v < b
                    · have hls4 := lessS16_fun (l4.getD v 0) (l4.getD (v - 1) 0)
                      by_cases hlt4 : l4.getD v 0 < l4.getD (v - 1) 0
                      · rw [decide_eq_true hlt4] at hls4
                        have e7 : (l4.set v (l4.getD (v - 1) 0)).set (v - 1) (l4.getD v 0) = sw l4 v (v - 1) := rfl
                        have e8 : (l4.set v (l4.getD (v - 1) 0)).length = l4.length := List.length_set
                        repeat' (first | simp only [go_sem, hs, hs2, hs4, hl4, ev, e7, List.length_set, Ret_eq Try.results181] | simp (disch := omega) only [arith, IntKind.bits, capMax, fill_len, elt_fill] | (refine awpI_draw2 (id := 22) (.one false 0 (.one false 1 (.one false 2 (.one false 3 (.one false 4 (.one false 5 (.one false 6 (.one false 7 (.one false 8 (.only 9 (.one false 10 .done))))))))))) mixed (by decide +kernel) (by decide +kernel) ?_) | (refine awpI_draw2 (id := 23) (.one false 0 (.one false 1 (.one false 5 (.one false 6 (.one false 7 (.one false 8 (.one false 9 (.one false 10 (.one false 11 (.one false 12 (.one false 13 (.one false 14 (.mv 2 (.mv 3 (.cal 4 [15] (.only 15 (.one false 16 (.only 17 .done)))))))))))))))))) mixed (by decide +kernel) (by decide +kernel) ?_) | (refine opCallI_rd (by simp only [go_sem, hs, hs2, hs4, hl4, ev, e7, List.length_set, Ret_eq Try.results181]; first | done | rfl) (hls4) (by rintro _ rfl; rfl) ?_; rintro _ rfl) | fail)
                        all_goals
                          refine AgainW.to (v + 1, sw l4 v (v - 1)) ?_ ?_ ?_
                          · show b - (v + 1) < b - v; omega
                          · exact ⟨⟨by show i2 + 1 ≤ v + 1; omega, by show v + 1 ≤ b; omega⟩, .step v (v - 1) hsw4 ⟨by omega, by omega⟩ ⟨by omega, by omega⟩ (by omega), hsd4.out (by omega) (by omega) (by omega) (by omega)⟩
                          · simp only [go_sem, hs, hs2, hs4, Ret_eq Try.results181]
                      · rw [decide_eq_false hlt4] at hls4
                        repeat' (first | simp only [go_sem, hs, hs2, hs4, hl4, ev, Ret_eq Try.results181] | simp (disch := omega) only [arith, IntKind.bits, capMax, fill_len, elt_fill] | (refine awpI_draw2 (id := 22) (.one false 0 (.one false 1 (.one false 2 (.one false 3 (.one false 4 (.one false 5 (.one false 6 (.one false 7 (.one false 8 (.only 9 (.one false 10 .done))))))))))) mixed (by decide +kernel) (by decide +kernel) ?_) | (refine opCallI_rd (by simp only [go_sem, hs, hs2, hs4, hl4, ev, Ret_eq Try.results181]; first | done | rfl) (hls4) (by rintro _ rfl; rfl) ?_; rintro _ rfl) | fail)
                        all_goals
                          refine AgainW.to (j + 1, i2, l4) ?_ ?_ ?_
                          · show 5 - (j + 1) < 5 - j; omega
                          · exact ⟨⟨hi3, hi4⟩, hsw4, hsd4⟩
                          · simp only [go_sem, hs, hs2, hs4, Ret_eq Try.results181]
                    · repeat' (first | simp only [go_sem, hs, hs2, hs4, hl4, ev, Ret_eq Try.results181] | simp (disch := omega) only [arith, IntKind.bits, capMax, fill_len, elt_fill] | fail)
                      all_goals
                        refine AgainW.to (j + 1, i2, l4) ?_ ?_ ?_
                        · show 5 - (j + 1) < 5 - j; omega
                        · exact ⟨⟨hi3, hi4⟩, hsw4, hsd4⟩
                        · simp only [go_sem, hs, hs2, hs4, Ret_eq Try.results181]
                · exact absurd h3 (by omega)
          · rw [decide_eq_false hlt] at hls
            repeat' (first | simp only [go_sem, hs, hs2, hl1, ei, Ret_eq Try.results181] | simp (disch := omega) only [arith, IntKind.bits, capMax, fill_len, elt_fill] | (refine awpI_draw2 (id := 5) (.one false 0 (.one false 1 (.one false 2 (.one false 3 (.one false 4 (.one false 5 (.one false 6 (.one false 7 (.one false 8 (.one false 9 (.one false 10 (.one false 11 (.one false 12 (.only 13 (.one false 14 (.one false 15 .done)))))))))))))))) mixed (by decide +kernel) (by decide +kernel) ?_) | (refine opCallI_rd (by simp only [go_sem, hs, hs2, hl1, ei, Ret_eq Try.results181]; first | done | rfl) (hls) (by rintro _ rfl; rfl) ?_; rintro _ rfl) | fail)
            all_goals
              refine AgainW.to (i2 + 1) ?_ ?_ ?_
              · show b - (i2 + 1) < b - i2; omega
              · exact ⟨⟨by show a + 1 ≤ i2 + 1; omega, by show i2 + 1 ≤ b; omega⟩, hsd2.snoc hi3 (by omega)⟩
              · simp only [go_sem, hs, hs2, Ret_eq Try.results181]
        · obtain rfl : i2 = b := by omega
          repeat' (first | simp only [go_sem, hs, hs2, beq_self_eq_true, Ret_eq Try.results181] | simp (disch := omega) only [arith, IntKind.bits, capMax, fill_len, elt_fill] | refine RetL_calc Try.results181 rfl ?_ | (refine awpI_draw2 (id := 5) (.one false 0 (.one false 1 (.one false 2 (.one false 3 (.one false 4 (.one false 5 (.one false 6 (.one false 7 (.one false 8 (.one false 9 (.one false 10 (.one false 11 (.one false 12 (.only 13 (.one false 14 (.one false 15 .done)))))))))))))))) mixed (by decide +kernel) (by decide +kernel) ?_) | fail)
          all_goals exact ⟨true, rfl, l1, rfl, hsw, fun _ => hsd2⟩
    · repeat' (first | simp only [go_sem, hs, Ret_eq Try.results181] | simp (disch := omega) only [arith, IntKind.bits, capMax, fill_len, elt_fill] | refine RetL_calc Try.results181 rfl ?_ | fail)
      all_goals exact ⟨false, rfl, l1, rfl, hsw, fun q => by cases q⟩
end Go.Proofs.Ytpkampecmlpfmaa.T

end
section
set_option linter.unusedSimpArgs false
set_option linter.unusedVariables false
/- A list sorted; walked. -/
namespace Go.Proofs.Ytpkampecmlpfmaa.T
open Go Go.VL Go.Proofs
set_option maxRecDepth 100000
set_option maxHeartbeats 16000000
def SortsL16 (f : FuncId) (l : List Int) (a b lim : Nat) : Prop := FunL Try.prog f [.ref 0 l.length, .v (.int .i64 a), .v (.int .i64 b), .v (.int .i64 lim)] [own16 l] fun r os =>
    r = .tup [] ∧ ∃ l', os = [own16 l'] ∧ Sw a b l l' ∧ Sd a b l'

theorem pdq16 (n : Nat) : ∀ (l : List Int) (a b lim : Nat), b - a ≤ n → a ≤ b → b ≤ l.length → l.length ≤ 60000 → lim ≤ 60000 → Ahd a b l → SortsL16 160 l a b lim := by
  induction n using Nat.strongRecOn with
  | _ n ih =>
  intro l a b lim0 hn hab hb hl hli hA
  unfold SortsL16
  refine FunL.of_awpI [(100000, 0)] rfl Try.func160 rfl cal160 Try.ntmps160 (by simp) fun hwf hlw ls => ?_
  simp only [lentWf, D.wfs, D.wf, ints_length, ints_wfs, rows_length, rows_wfs, capMax, and_true, true_and] at hwf hlw
  repeat' (first | simp only [go_sem, Ret_eq Try.results160] | fail)
  refine awpI_while (σ := Nat × Nat × Nat × Bool × Bool × List Int) (fun x => x.2.1 - x.1) (fun x => Rest a b l x.1 x.2.1 x.2.2.2.2.2 ∧ x.2.2.1 ≤ 60000) (fun x => [(1, .v (.int .i64 x.1)), (2, .v (.int .i64 x.2.1)), (3, .v (.int .i64 x.2.2.1)), (8, .v (.bool x.2.2.2.1)), (9, .v (.bool x.2.2.2.2.1))]) (fun x => [(0, own16 x.2.2.2.2.2)]) [0, 100000] [] (a, b, lim0, true, true, l) _ (Weak.refl _) ⟨Rest.start hab hb hA, hli⟩ ?_ ?_ ?_
  · simp only [go_sem, Ret_eq Try.results160]
  · simp only [go_sem, Ret_eq Try.results160]
  · rintro ⟨a1, b1, lim, wb, wp, l1⟩ s ⟨hR, hlim⟩ hs
    simp only [go_sem, Ret_eq Try.results160] at hs
    dsimp only at hR hlim
    have hl1 := hR.rs.length
    have r1 := hR.ra
    have r2 := hR.rab
    have r3 := hR.rb
    have ebl : (b1 : Int) - (a1 : Int) = ((b1 - a1 : Nat) : Int) := by omega
    by_cases h12 : b1 - a1 ≤ 12
    · have hin := insertion16 l1 a1 b1 r2 (by omega) (by omega)
      rw [hl1] at hin
      repeat' (first | simp only [go_sem, hs, ebl, Ret_eq Try.results160] | simp (disch := omega) only [arith, IntKind.bits, capMax, fill_len, elt_fill] | refine RetL_calc Try.results160 rfl ?_ | (refine opCallI_lend [0] (by simp only [go_sem, hs, ebl, Ret_eq Try.results160]; first | done | rfl) (by simp only [go_sem, hs, ebl, Ret_eq Try.results160]; first | done | rfl) (by decide) (by simp only [go_sem, hs, ebl, Ret_eq Try.results160]; first | done | decide) (by simp only [go_sem, hs, ebl, Ret_eq Try.results160]; first | done | decide) (hin) ?_; rintro _ _ ⟨rfl, l2, rfl, s2, d2⟩) | fail)
      all_goals exact ⟨rfl, l2, rfl, hR.done s2 d2⟩
    · by_cases hlim0 : lim = 0
      · subst hlim0
        have hin := heap16 l1 a1 b1 (by omega) (by omega) (by omega)
        rw [hl1] at hin
        repeat' (first | simp only [go_sem, hs, ebl, beq_self_eq_true, Ret_eq Try.results160] | simp (disch := omega) only [arith, IntKind.bits, capMax, fill_len, elt_fill] | refine RetL_calc Try.results160 rfl ?_ | (refine opCallI_lend [0] (by simp only [go_sem, hs, ebl, beq_self_eq_true, Ret_eq Try.results160]; first | done | rfl) (by simp only [go_sem, hs, ebl, beq_self_eq_true, Ret_eq Try.results160]; first | done | rfl) (by decide) (by simp only [go_sem, hs, ebl, beq_self_eq_true, Ret_eq Try.results160]; first | done | decide) (by simp only [go_sem, hs, ebl, beq_self_eq_true, Ret_eq Try.results160]; first | done | decide) (hin) ?_; rintro _ _ ⟨rfl, l2, rfl, s2, d2⟩) | fail)
        all_goals exact ⟨rfl, l2, rfl, hR.done s2 d2⟩
      · have hlb : ((lim : Int) == 0) = false := beq_eq_false_iff_ne.2 (by omega)
        have elim : (lim : Int) - 1 = ((lim - 1 : Nat) : Int) := by omega
        cases wb with
        | false =>
          have hbr := break16 l1 a1 b1 r2 (by omega) (by omega)
          rw [hl1] at hbr
          repeat' (first | simp only [go_sem, hs, ebl, hlb, elim, Ret_eq Try.results160] | simp (disch := omega) only [arith, IntKind.bits, capMax, fill_len, elt_fill] | (refine opCallI_lend [0] (by simp only [go_sem, hs, ebl, hlb, elim, Ret_eq Try.results160]; first | done | rfl) (by simp only [go_sem, hs, ebl, hlb, elim, Ret_eq Try.results160]; first | done | rfl) (by decide) (by simp only [go_sem, hs, ebl, hlb, elim, Ret_eq Try.results160]; first | done | decide) (by simp only [go_sem, hs, ebl, hlb, elim, Ret_eq Try.results160]; first | done | decide) (hbr) ?_; rintro _ _ ⟨rfl, l2, rfl, s2⟩) | fail)
          have hR2 := hR.sw s2
          have hl2 := hR2.rs.length
          have hch := choose16 l2 a1 b1 (by omega) (by omega) (by omega)
          rw [hl2] at hch
          refine opCallI_lend [0] (by simp only [go_sem, hs, ebl, hlb, elim, Ret_eq Try.results160]; first | done | rfl) (by simp only [go_sem, hs, ebl, hlb, elim, Ret_eq Try.results160]; first | done | rfl) (by decide) (by simp only [go_sem, hs, ebl, hlb, elim, Ret_eq Try.results160]; first | done | decide) (by simp only [go_sem, hs, ebl, hlb, elim, Ret_eq Try.results160]; first | done | decide) (hch) ?_
          rintro _ _ ⟨x, h, rfl, rfl, hx1, hx2⟩
          by_cases hh : h = 2
          · subst hh
            have hrv := reverse16 l2 a1 b1 r2 (by omega) (by omega) (by omega)
            rw [hl2] at hrv
            repeat' (first | simp only [go_sem, hs, ebl, hlb, elim, beq_self_eq_true, Ret_eq Try.results160] | fail)
            refine opCallI_lend [0] (by simp only [go_sem, hs, ebl, hlb, elim, Ret_eq Try.results160]; first | done | rfl) (by simp only [go_sem, hs, ebl, hlb, elim, Ret_eq Try.results160]; first | done | rfl) (by decide) (by simp only [go_sem, hs, ebl, hlb, elim, Ret_eq Try.results160]; first | done | decide) (by simp only [go_sem, hs, ebl, hlb, elim, Ret_eq Try.results160]; first | done | decide) (hrv) ?_
            rintro _ _ ⟨rfl, l3, rfl, s3⟩
            have hR3 := hR2.sw s3
            have ev : (b1 : Int) - 1 - ((x : Int) - (a1 : Int)) = ((b1 - 1 - (x - a1) : Nat) : Int) := by omega
            have hv : a1 ≤ b1 - 1 - (x - a1) ∧ b1 - 1 - (x - a1) < b1 := by omega
            generalize b1 - 1 - (x - a1) = v at *
            have hL : l3.length = l.length := hR3.rs.length
            by_cases ha : 0 < a1
            · have ea : (a1 : Int) - 1 = ((a1 - 1 : Nat) : Int) := by omega
              have hls := lessS16_fun (l3.getD (a1 - 1) 0) (l3.getD v 0)
              by_cases hlt : l3.getD (a1 - 1) 0 < l3.getD v 0
              · rw [decide_eq_true hlt] at hls
                repeat' (first | simp only [go_sem, hs, ebl, hlb, elim, ev, ea, hL, Ret_eq Try.results160] | simp (disch := omega) only [arith, IntKind.bits, capMax, fill_len, elt_fill] | (refine awpI_draw2 (id := 17) (.one false 0 (.one false 1 (.one false 2 (.one false 3 (.one false 4 (.one false 5 (.one false 6 (.one false 7 (.one false 8 (.one false 9 (.one false 10 (.one false 11 (.only 12 (.one false 13 (.one false 14 .done))))))))))))))) mixed (by decide +kernel) (by decide +kernel) ?_) | (refine opCallI_rd (by simp only [go_sem, hs, ebl, hlb, elim, ev, ea, hL, Ret_eq Try.results160]; first | done | rfl) (hls) (by rintro _ rfl; rfl) ?_; rintro _ rfl) | fail)
                have hpt := part16 l3 a1 b1 v hv (by omega) (by omega)
                rw [hL] at hpt
                refine opCallI_lend [0] (by simp only [go_sem, hs, ebl, hlb, elim, ev, ea, Ret_eq Try.results160]; first | done | rfl) (by simp only [go_sem, hs, ebl, hlb, elim, ev, ea, Ret_eq Try.results160]; first | done | rfl) (by decide) (by simp only [go_sem, hs, ebl, hlb, elim, ev, ea, Ret_eq Try.results160]; first | done | decide) (by simp only [go_sem, hs, ebl, hlb, elim, ev, ea, Ret_eq Try.results160]; first | done | decide) (hpt) ?_
                rintro _ _ ⟨m, t, rfl, l5, rfl, s5, p5⟩
                have hR5 := hR3.sw s5
                have hl5 := hR5.rs.length
                have q1 := p5.h1
                have q2 := p5.h2
                have em1 : (m : Int) - (a1 : Int) = ((m - a1 : Nat) : Int) := by omega
                have em2 : (b1 : Int) - (m : Int) = ((b1 - m : Nat) : Int) := by omega
                have em3 : ((b1 - a1 : Nat) : Int).tdiv 8 = ((b1 - a1 : Nat) : Int) / 8 := Int.tdiv_eq_ediv_of_nonneg (by omega)
                have hA5 := hR5.rh
                have hAl : Ahd a1 m l5 := by
                  rcases hA5 with z | z
                  · exact .inl z
                  · exact .inr fun k k1 k2 => z k k1 (by omega)
                have hAr : Ahd (m + 1) b1 l5 := .inr fun k k1 k2 => by
                  rw [show m + 1 - 1 = m by omega]
                  exact p5.h4 k (by omega) k2
                by_cases hsm : m - a1 < b1 - m
                · have hrec : SortsL16 _ l5 a1 m (lim - 1) := ih (m - a1) (by omega) l5 a1 m (lim - 1) (Nat.le_refl _) q1 (by omega) (by omega) (by omega) hAl
                  unfold SortsL16 at hrec
                  rw [hl5] at hrec
                  repeat' (first | simp only [go_sem, hs, ebl, hlb, elim, ev, ea, em1, em2, em3, Ret_eq Try.results160] | simp (disch := omega) only [arith, IntKind.bits, capMax, fill_len, elt_fill] | fail)
                  refine opCallI_lend [0] (by simp only [go_sem, hs, ebl, hlb, elim, ev, ea, em1, em2, em3, Ret_eq Try.results160]; first | done | rfl) (by simp only [go_sem, hs, ebl, hlb, elim, ev, ea, em1, em2, em3, Ret_eq Try.results160]; first | done | rfl) (by decide) (by simp only [go_sem, hs, ebl, hlb, elim, ev, ea, em1, em2, em3, Ret_eq Try.results160]; first | done | decide) (by simp only [go_sem, hs, ebl, hlb, elim, ev, ea, em1, em2, em3, Ret_eq Try.results160]; first | done | decide) (hrec) ?_
                  rintro _ _ ⟨rfl, l6, rfl, s6, d6⟩
                  repeat' (first | simp only [go_sem, hs, ebl, hlb, elim, ev, ea, em1, em2, em3, Ret_eq Try.results160] | simp (disch := omega) only [arith, IntKind.bits, capMax, fill_len, elt_fill] | fail)
                  refine AgainW.to (m + 1, b1, (lim - 1), decide (((b1 - a1 : Nat) : Int) / 8 ≤ ((m - a1 : Nat) : Int)), t, l6) ?_ ?_ ?_
                  · show b1 - (m + 1) < b1 - a1; omega
                  · exact ⟨hR5.left p5 s6 d6, by show (lim - 1) ≤ 60000; omega⟩
                  · simp only [go_sem, hs, ebl, hlb, elim, ev, ea, em1, em2, em3, Ret_eq Try.results160]
                · have hrec : SortsL16 _ l5 (m + 1) b1 (lim - 1) := ih (b1 - (m + 1)) (by omega) l5 (m + 1) b1 (lim - 1) (Nat.le_refl _) (by omega) (by omega) (by omega) (by omega) hAr
                  unfold SortsL16 at hrec
                  rw [hl5] at hrec
                  repeat' (first | simp only [go_sem, hs, ebl, hlb, elim, ev, ea, em1, em2, em3, Ret_eq Try.results160] | simp (disch := omega) only [arith, IntKind.bits, capMax, fill_len, elt_fill] | fail)
                  refine opCallI_lend [0] (by simp only [go_sem, hs, ebl, hlb, elim, ev, ea, em1, em2, em3, Ret_eq Try.results160]; first | done | rfl) (by simp only [go_sem, hs, ebl, hlb, elim, ev, ea, em1, em2, em3, Ret_eq Try.results160]; first | done | rfl) (by decide) (by simp only [go_sem, hs, ebl, hlb, elim, ev, ea, em1, em2, em3, Ret_eq Try.results160]; first | done | decide) (by simp only [go_sem, hs, ebl, hlb, elim, ev, ea, em1, em2, em3, Ret_eq Try.results160]; first | done | decide) (hrec) ?_
                  rintro _ _ ⟨rfl, l6, rfl, s6, d6⟩
                  repeat' (first | simp only [go_sem, hs, ebl, hlb, elim, ev, ea, em1, em2, em3, Ret_eq Try.results160] | fail)
                  refine AgainW.to (a1, m, (lim - 1), decide (((b1 - a1 : Nat) : Int) / 8 ≤ ((b1 - m : Nat) : Int)), t, l6) ?_ ?_ ?_
                  · show m - a1 < b1 - a1; omega
                  · exact ⟨hR5.right p5 s6 d6, by show (lim - 1) ≤ 60000; omega⟩
                  · simp only [go_sem, hs, ebl, hlb, elim, ev, ea, em1, em2, em3, Ret_eq Try.results160]
              · rw [decide_eq_false hlt] at hls
                repeat' (first | simp only [go_sem, hs, ebl, hlb, elim, ev, ea, hL, Ret_eq Try.results160] | simp (disch := omega) only [arith, IntKind.bits, capMax, fill_len, elt_fill] | (refine awpI_draw2 (id := 17) (.one false 0 (.one false 1 (.one false 2 (.one false 3 (.one false 4 (.one false 5 (.one false 6 (.one false 7 (.one false 8 (.one false 9 (.one false 10 (.one false 11 (.only 12 (.one false 13 (.one false 14 .done))))))))))))))) mixed (by decide +kernel) (by decide +kernel) ?_) | (refine opCallI_rd (by simp only [go_sem, hs, ebl, hlb, elim, ev, ea, hL, Ret_eq Try.results160]; first | done | rfl) (hls) (by rintro _ rfl; rfl) ?_; rintro _ rfl) | fail)
                have hpe := partEq16 l3 a1 b1 v hv (by omega) (by omega)
                rw [hL] at hpe
                refine opCallI_lend [0] (by simp only [go_sem, hs, ebl, hlb, elim, ev, ea, Ret_eq Try.results160]; first | done | rfl) (by simp only [go_sem, hs, ebl, hlb, elim, ev, ea, Ret_eq Try.results160]; first | done | rfl) (by decide) (by simp only [go_sem, hs, ebl, hlb, elim, ev, ea, Ret_eq Try.results160]; first | done | decide) (by simp only [go_sem, hs, ebl, hlb, elim, ev, ea, Ret_eq Try.results160]; first | done | decide) (hpe) ?_
                rintro _ _ ⟨m, rfl, l5, rfl, s5, p5⟩
                repeat' (first | simp only [go_sem, hs, ebl, hlb, elim, ev, ea, Ret_eq Try.results160] | fail)
                refine AgainW.to (m, b1, (lim - 1), false, wp, l5) ?_ ?_ ?_
                · show b1 - m < b1 - a1; have := p5.h1; have := p5.h2; omega
                · exact ⟨(hR3.sw s5).eqPart p5 (s5.all (P := fun z => _ ≤ z) (hR3.ahead ha hv (by omega))), by show (lim - 1) ≤ 60000; omega⟩
                · simp only [go_sem, hs, ebl, hlb, elim, ev, ea, Ret_eq Try.results160]
            · repeat' (first | simp only [go_sem, hs, ebl, hlb, elim, ev, Ret_eq Try.results160] | simp (disch := omega) only [arith, IntKind.bits, capMax, fill_len, elt_fill] | (refine awpI_draw2 (id := 17) (.one false 0 (.one false 1 (.one false 2 (.one false 3 (.one false 4 (.one false 5 (.one false 6 (.one false 7 (.one false 8 (.one false 9 (.one false 10 (.one false 11 (.only 12 (.one false 13 (.one false 14 .done))))))))))))))) mixed (by decide +kernel) (by decide +kernel) ?_) | fail)
              have hpt := part16 l3 a1 b1 v hv (by omega) (by omega)
              rw [hL] at hpt
              refine opCallI_lend [0] (by simp only [go_sem, hs, ebl, hlb, elim, ev, Ret_eq Try.results160]; first | done | rfl) (by simp only [go_sem, hs, ebl, hlb, elim, ev, Ret_eq Try.results160]; first | done | rfl) (by decide) (by simp only [go_sem, hs, ebl, hlb, elim, ev, Ret_eq Try.results160]; first | done | decide) (by simp only [go_sem, hs, ebl, hlb, elim, ev, Ret_eq Try.results160]; first | done | decide) (hpt) ?_
              rintro _ _ ⟨m, t, rfl, l5, rfl, s5, p5⟩
              have hR5 := hR3.sw s5
              have hl5 := hR5.rs.length
              have q1 := p5.h1
              have q2 := p5.h2
              have em1 : (m : Int) - (a1 : Int) = ((m - a1 : Nat) : Int) := by omega
              have em2 : (b1 : Int) - (m : Int) = ((b1 - m : Nat) : Int) := by omega
              have em3 : ((b1 - a1 : Nat) : Int).tdiv 8 = ((b1 - a1 : Nat) : Int) / 8 := Int.tdiv_eq_ediv_of_nonneg (by omega)
              have hA5 := hR5.rh
              have hAl : Ahd a1 m l5 := by
                rcases hA5 with z | z
                · exact .inl z
                · exact .inr fun k k1 k2 => z k k1 (by omega)
              have hAr : Ahd (m + 1) b1 l5 := .inr fun k k1 k2 => by
                rw [show m + 1 - 1 = m by omega]
                exact p5.h4 k (by omega) k2
              by_cases hsm : m - a1 < b1 - m
              · have hrec : SortsL16 _ l5 a1 m (lim - 1) := ih (m - a1) (by omega) l5 a1 m (lim - 1) (Nat.le_refl _) q1 (by omega) (by omega) (by omega) hAl
                unfold SortsL16 at hrec
                rw [hl5] at hrec
                repeat' (first | simp only [go_sem, hs, ebl, hlb, elim, ev, em1, em2, em3, Ret_eq Try.results160] | simp (disch := omega) only [arith, IntKind.bits, capMax, fill_len, elt_fill] | fail)
                refine opCallI_lend [0] (by simp only [go_sem, hs, ebl, hlb, elim, ev, em1, em2, em3, Ret_eq Try.results160]; first | done | rfl) (by simp only [go_sem, hs, ebl, hlb, elim, ev, em1, em2, em3, Ret_eq Try.results160]; first | done | rfl) (by decide) (by simp only [go_sem, hs, ebl, hlb, elim, ev, em1, em2, em3, Ret_eq Try.results160]; first | done | decide) (by simp only [go_sem, hs, ebl, hlb, elim, ev, em1, em2, em3, Ret_eq Try.results160]; first | done | decide) (hrec) ?_
                rintro _ _ ⟨rfl, l6, rfl, s6, d6⟩
                repeat' (first | simp only [go_sem, hs, ebl, hlb, elim, ev, em1, em2, em3, Ret_eq Try.results160] | simp (disch := omega) only [arith, IntKind.bits, capMax, fill_len, elt_fill] | fail)
                refine AgainW.to (m + 1, b1, (lim - 1), decide (((b1 - a1 : Nat) : Int) / 8 ≤ ((m - a1 : Nat) : Int)), t, l6) ?_ ?_ ?_
                · show b1 - (m + 1) < b1 - a1; omega
                · exact ⟨hR5.left p5 s6 d6, by show (lim - 1) ≤ 60000; omega⟩
                · simp only [go_sem, hs, ebl, hlb, elim, ev, em1, em2, em3, Ret_eq Try.results160]
              · have hrec : SortsL16 _ l5 (m + 1) b1 (lim - 1) := ih (b1 - (m + 1)) (by omega) l5 (m + 1) b1 (lim - 1) (Nat.le_refl _) (by omega) (by omega) (by omega) (by omega) hAr
                unfold SortsL16 at hrec
                rw [hl5] at hrec
                repeat' (first | simp only [go_sem, hs, ebl, hlb, elim, ev, em1, em2, em3, Ret_eq Try.results160] | simp (disch := omega) only [arith, IntKind.bits, capMax, fill_len, elt_fill] | fail)
                refine opCallI_lend [0] (by simp only [go_sem, hs, ebl, hlb, elim, ev, em1, em2, em3, Ret_eq Try.results160]; first | done | rfl) (by simp only [go_sem, hs, ebl, hlb, elim, ev, em1, em2, em3, Ret_eq Try.results160]; first | done | rfl) (by decide) (by simp only [go_sem, hs, ebl, hlb, elim, ev, em1, em2, em3, Ret_eq Try.results160]; first | done | decide) (by simp only [go_sem, hs, ebl, hlb, elim, ev, em1, em2, em3, Ret_eq Try.results160]; first | done | decide) (hrec) ?_
                rintro _ _ ⟨rfl, l6, rfl, s6, d6⟩
                repeat' (first | simp only [go_sem, hs, ebl, hlb, elim, ev, em1, em2, em3, Ret_eq Try.results160] | fail)
                refine AgainW.to (a1, m, (lim - 1), decide (((b1 - a1 : Nat) : Int) / 8 ≤ ((b1 - m : Nat) : Int)), t, l6) ?_ ?_ ?_
                · show m - a1 < b1 - a1; omega
                · exact ⟨hR5.right p5 s6 d6, by show (lim - 1) ≤ 60000; omega⟩
                · simp only [go_sem, hs, ebl, hlb, elim, ev, em1, em2, em3, Ret_eq Try.results160]
          · have hhb : (h == 2) = false := beq_eq_false_iff_ne.2 hh
            have hv : a1 ≤ x ∧ x < b1 := ⟨hx1, hx2⟩
            have hL : l2.length = l.length := hR2.rs.length
            by_cases ha : 0 < a1
            · have ea : (a1 : Int) - 1 = ((a1 - 1 : Nat) : Int) := by omega
              have hls := lessS16_fun (l2.getD (a1 - 1) 0) (l2.getD x 0)
              by_cases hlt : l2.getD (a1 - 1) 0 < l2.getD x 0
              · rw [decide_eq_true hlt] at hls
                repeat' (first | simp only [go_sem, hs, ebl, hlb, elim, hhb, ea, hL, Ret_eq Try.results160] | simp (disch := omega) only [arith, IntKind.bits, capMax, fill_len, elt_fill] | (refine awpI_draw2 (id := 17) (.one false 0 (.one false 1 (.one false 2 (.one false 3 (.one false 4 (.one false 5 (.one false 6 (.one false 7 (.one false 8 (.one false 9 (.one false 10 (.one false 11 (.only 12 (.one false 13 (.one false 14 .done))))))))))))))) mixed (by decide +kernel) (by decide +kernel) ?_) | (refine opCallI_rd (by simp only [go_sem, hs, ebl, hlb, elim, hhb, ea, hL, Ret_eq Try.results160]; first | done | rfl) (hls) (by rintro _ rfl; rfl) ?_; rintro _ rfl) | fail)
                have hpt := part16 l2 a1 b1 x hv (by omega) (by omega)
                rw [hL] at hpt
                refine opCallI_lend [0] (by simp only [go_sem, hs, ebl, hlb, elim, hhb, ea, Ret_eq Try.results160]; first | done | rfl) (by simp only [go_sem, hs, ebl, hlb, elim, hhb, ea, Ret_eq Try.results160]; first | done | rfl) (by decide) (by simp only [go_sem, hs, ebl, hlb, elim, hhb, ea, Ret_eq Try.results160]; first | done | decide) (by simp only [go_sem, hs, ebl, hlb, elim, hhb, ea, Ret_eq Try.results160]; first | done | decide) (hpt) ?_
                rintro _ _ ⟨m, t, rfl, l5, rfl, s5, p5⟩
                have hR5 := hR2.sw s5
                have hl5 := hR5.rs.length
                have q1 := p5.h1
                have q2 := p5.h2
                have em1 : (m : Int) - (a1 : Int) = ((m - a1 : Nat) : Int) := by omega
                have em2 : (b1 : Int) - (m : Int) = ((b1 - m : Nat) : Int) := by omega
                have em3 : ((b1 - a1 : Nat) : Int).tdiv 8 = ((b1 - a1 : Nat) : Int) / 8 := Int.tdiv_eq_ediv_of_nonneg (by omega)
                have hA5 := hR5.rh
                have hAl : Ahd a1 m l5 := by
                  rcases hA5 with z | z
                  · exact .inl z
                  · exact .inr fun k k1 k2 => z k k1 (by omega)
                have hAr : Ahd (m + 1) b1 l5 := .inr fun k k1 k2 => by
                  rw [show m + 1 - 1 = m by omega]
                  exact p5.h4 k (by omega) k2
                by_cases hsm : m - a1 < b1 - m
                · have hrec : SortsL16 _ l5 a1 m (lim - 1) := ih (m - a1) (by omega) l5 a1 m (lim - 1) (Nat.le_refl _) q1 (by omega) (by omega) (by omega) hAl
                  unfold SortsL16 at hrec
                  rw [hl5] at hrec
                  repeat' (first | simp only [go_sem, hs, ebl, hlb, elim, hhb, ea, em1, em2, em3, Ret_eq Try.results160] | simp (disch := omega) only [arith, IntKind.bits, capMax, fill_len, elt_fill] | fail)
                  refine opCallI_lend [0] (by simp only [go_sem, hs, ebl, hlb, elim, hhb, ea, em1, em2, em3, Ret_eq Try.results160]; first | done | rfl) (by simp only [go_sem, hs, ebl, hlb, elim, hhb, ea, em1, em2, em3, Ret_eq Try.results160]; first | done | rfl) (by decide) (by simp only [go_sem, hs, ebl, hlb, elim, hhb, ea, em1, em2, em3, Ret_eq Try.results160]; first | done | decide) (by simp only [go_sem, hs, ebl, hlb, elim, hhb, ea, em1, em2, em3, Ret_eq Try.results160]; first | done | decide) (hrec) ?_
                  rintro _ _ ⟨rfl, l6, rfl, s6, d6⟩
                  repeat' (first | simp only [go_sem, hs, ebl, hlb, elim, hhb, ea, em1, em2, em3, Ret_eq Try.results160] | simp (disch := omega) only [arith, IntKind.bits, capMax, fill_len, elt_fill] | fail)
                  refine AgainW.to (m + 1, b1, (lim - 1), decide (((b1 - a1 : Nat) : Int) / 8 ≤ ((m - a1 : Nat) : Int)), t, l6) ?_ ?_ ?_
                  · show b1 - (m + 1) < b1 - a1; omega
                  · exact ⟨hR5.left p5 s6 d6, by show (lim - 1) ≤ 60000; omega⟩
                  · simp only [go_sem, hs, ebl, hlb, elim, hhb, ea, em1, em2, em3, Ret_eq Try.results160]
                · have hrec : SortsL16 _ l5 (m + 1) b1 (lim - 1) := ih (b1 - (m + 1)) (by omega) l5 (m + 1) b1 (lim - 1) (Nat.le_refl _) (by omega) (by omega) (by omega) (by omega) hAr
                  unfold SortsL16 at hrec
                  rw [hl5] at hrec
                  repeat' (first | simp only [go_sem, hs, ebl, hlb, elim, hhb, ea, em1, em2, em3, Ret_eq Try.results160] | simp (disch := omega) only [arith, IntKind.bits, capMax, fill_len, elt_fill] | fail)
                  refine opCallI_lend [0] (by simp only [go_sem, hs, ebl, hlb, elim, hhb, ea, em1, em2, em3, Ret_eq Try.results160]; first | done | rfl) (by simp only [go_sem, hs, ebl, hlb, elim, hhb, ea, em1, em2, em3, Ret_eq Try.results160]; first | done | rfl) (by decide) (by simp only [go_sem, hs, ebl, hlb, elim, hhb, ea, em1, em2, em3, Ret_eq Try.results160]; first | done | decide) (by simp only [go_sem, hs, ebl, hlb, elim, hhb, ea, em1, em2, em3, Ret_eq Try.results160]; first | done | decide) (hrec) ?_
                  rintro _ _ ⟨rfl, l6, rfl, s6, d6⟩
                  repeat' (first | simp only [go_sem, hs, ebl, hlb, elim, hhb, ea, em1, em2, em3, Ret_eq Try.results160] | fail)
                  refine AgainW.to (a1, m, (lim - 1), decide (((b1 - a1 : Nat) : Int) / 8 ≤ ((b1 - m : Nat) : Int)), t, l6) ?_ ?_ ?_
                  · show m - a1 < b1 - a1; omega
                  · exact ⟨hR5.right p5 s6 d6, by show (lim - 1) ≤ 60000; omega⟩
                  · simp only [go_sem, hs, ebl, hlb, elim, hhb, ea, em1, em2, em3, Ret_eq Try.results160]
              · rw [decide_eq_false hlt] at hls
                repeat' (first | simp only [go_sem, hs, ebl, hlb, elim, hhb, ea, hL, Ret_eq Try.results160] | simp (disch := omega) only [arith, IntKind.bits, capMax, fill_len, elt_fill] | (refine awpI_draw2 (id := 17) (.one false 0 (.one false 1 (.one false 2 (.one false 3 (.one false 4 (.one false 5 (.one false 6 (.one false 7 (.one false 8 (.one false 9 (.one false 10 (.one false 11 (.only 12 (.one false 13 (.one false 14 .done))))))))))))))) mixed (by decide +kernel) (by decide +kernel) ?_) | (refine opCallI_rd (by simp only [go_sem, hs, ebl, hlb, elim, hhb, ea, hL, Ret_eq Try.results160]; first | done | rfl) (hls) (by rintro _ rfl; rfl) ?_; rintro _ rfl) | fail)
                have hpe := partEq16 l2 a1 b1 x hv (by omega) (by omega)
                rw [hL] at hpe
                refine opCallI_lend [0] (by simp only [go_sem, hs, ebl, hlb, elim, hhb, ea, Ret_eq Try.results160]; first | done | rfl) (by simp only [go_sem, hs, ebl, hlb, elim, hhb, ea, Ret_eq Try.results160]; first | done | rfl) (by decide) (by simp only [go_sem, hs, ebl, hlb, elim, hhb, ea, Ret_eq Try.results160]; first | done | decide) (by simp only [go_sem, hs, ebl, hlb, elim, hhb, ea, Ret_eq Try.results160]; first | done | decide) (hpe) ?_
                rintro _ _ ⟨m, rfl, l5, rfl, s5, p5⟩
                repeat' (first | simp only [go_sem, hs, ebl, hlb, elim, hhb, ea, Ret_eq Try.results160] | fail)
                refine AgainW.to (m, b1, (lim - 1), false, wp, l5) ?_ ?_ ?_
                · show b1 - m < b1 - a1; have := p5.h1; have := p5.h2; omega
                · exact ⟨(hR2.sw s5).eqPart p5 (s5.all (P := fun z => _ ≤ z) (hR2.ahead ha hv (by omega))), by show (lim - 1) ≤ 60000; omega⟩
                · simp only [go_sem, hs, ebl, hlb, elim, hhb, ea, Ret_eq Try.results160]
            · repeat' (first | simp only [go_sem, hs, ebl, hlb, elim, hhb, Ret_eq Try.results160] | simp (disch := omega) only [arith, IntKind.bits, capMax, fill_len, elt_fill] | (refine awpI_draw2 (id := 17) (.one false 0 (.one false 1 (.one false 2 (.one false 3 (.one false 4 (.one false 5 (.one false 6 (.one false 7 (.one false 8 (.one false 9 (.one false 10 (.one false 11 (.only 12 (.one false 13 (.one false 14 .done))))))))))))))) mixed (by decide +kernel) (by decide +kernel) ?_) | fail)
              have hpt := part16 l2 a1 b1 x hv (by omega) (by omega)
              rw [hL] at hpt
              refine opCallI_lend [0] (by simp only [go_sem, hs, ebl, hlb, elim, hhb, Ret_eq Try.results160]; first | done | rfl) (by simp only [go_sem, hs, ebl, hlb, elim, hhb, Ret_eq Try.results160]; first | done | rfl) (by decide) (by simp only [go_sem, hs, ebl, hlb, elim, hhb, Ret_eq Try.results160]; first | done | decide) (by simp only [go_sem, hs, ebl, hlb, elim, hhb, Ret_eq Try.results160]; first | done | decide) (hpt) ?_
              rintro _ _ ⟨m, t, rfl, l5, rfl, s5, p5⟩
              have hR5 := hR2.sw s5
              have hl5 := hR5.rs.length
              have q1 := p5.h1
              have q2 := p5.h2
              have em1 : (m : Int) - (a1 : Int) = ((m - a1 : Nat) : Int) := by omega
              have em2 : (b1 : Int) - (m : Int) = ((b1 - m : Nat) : Int) := by omega
              have em3 : ((b1 - a1 : Nat) : Int).tdiv 8 = ((b1 - a1 : Nat) : Int) / 8 := Int.tdiv_eq_ediv_of_nonneg (by omega)
              have hA5 := hR5.rh
              have hAl : Ahd a1 m l5 := by
                rcases hA5 with z | z
                · exact .inl z
                · exact .inr fun k k1 k2 => z k k1 (by omega)
              have hAr : Ahd (m + 1) b1 l5 := .inr fun k k1 k2 => by
                rw [show m + 1 - 1 = m by omega]
                exact p5.h4 k (by omega) k2
              by_cases hsm : m - a1 < b1 - m
              · have hrec : SortsL16 _ l5 a1 m (lim - 1) := ih (m - a1) (by omega) l5 a1 m (lim - 1) (Nat.le_refl _) q1 (by omega) (by omega) (by omega) hAl
                unfold SortsL16 at hrec
                rw [hl5] at hrec
                repeat' (first | simp only [go_sem, hs, ebl, hlb, elim, hhb, em1, em2, em3, Ret_eq Try.results160] | simp (disch := omega) only [arith, IntKind.bits, capMax, fill_len, elt_fill] | fail)
                refine opCallI_lend [0] (by simp only [go_sem, hs, ebl, hlb, elim, hhb, em1, em2, em3, Ret_eq Try.results160]; first | done | rfl) (by simp only [go_sem, hs, ebl, hlb, elim, hhb, em1, em2, em3, Ret_eq Try.results160]; first | done | rfl) (by decide) (by simp only [go_sem, hs, ebl, hlb, elim, hhb, em1, em2, em3, Ret_eq Try.results160]; first | done | decide) (by simp only [go_sem, hs, ebl, hlb, elim, hhb, em1, em2, em3, Ret_eq Try.results160]; first | done | decide) (hrec) ?_
                rintro _ _ ⟨rfl, l6, rfl, s6, d6⟩
                repeat' (first | simp only [go_sem, hs, ebl, hlb, elim, hhb, em1, em2, em3, Ret_eq Try.results160] | simp (disch := omega) only [arith, IntKind.bits, capMax, fill_len, elt_fill] | fail)
                refine AgainW.to (m + 1, b1, (lim - 1), decide (((b1 - a1 : Nat) : Int) / 8 ≤ ((m - a1 : Nat) : Int)), t, l6) ?_ ?_ ?_
                · show b1 - (m + 1) < b1 - a1; omega
                · exact ⟨hR5.left p5 s6 d6, by show (lim - 1) ≤ 60000; omega⟩
                · simp only [go_sem, hs, ebl, hlb, elim, hhb, em1, em2, em3, Ret_eq Try.results160]
              · have hrec : SortsL16 _ l5 (m + 1) b1 (lim - 1) := ih (b1 - (m + 1)) (by omega) l5 (m + 1) b1 (lim - 1) (Nat.le_refl _) (by omega) (by omega) (by omega) (by omega) hAr
                unfold SortsL16 at hrec
                rw [hl5] at hrec
                repeat' (first | simp only [go_sem, hs, ebl, hlb, elim, hhb, em1, em2, em3, Ret_eq Try.results160] | simp (disch := omega) only [arith, IntKind.bits, capMax, fill_len, elt_fill] | fail)
                refine opCallI_lend [0] (by simp only [go_sem, hs, ebl, hlb, elim, hhb, em1, em2, em3, Ret_eq Try.results160]; first | done | rfl) (by simp only [go_sem, hs, ebl, hlb, elim, hhb, em1, em2, em3, Ret_eq Try.results160]; first | done | rfl) (by decide) (by simp only [go_sem, hs, ebl, hlb, elim, hhb, em1, em2, em3, Ret_eq Try.results160]; first | done | decide) (by simp only [go_sem, hs, ebl, hlb, elim, hhb, em1, em2, em3, Ret_eq Try.results160]; first | done | decide) (hrec) ?_
                rintro _ _ ⟨rfl, l6, rfl, s6, d6⟩
                repeat' (first | simp only [go_sem, hs, ebl, hlb, elim, hhb, em1, em2, em3, Ret_eq Try.results160] | fail)
                refine AgainW.to (a1, m, (lim - 1), decide (((b1 - a1 : Nat) : Int) / 8 ≤ ((b1 - m : Nat) : Int)), t, l6) ?_ ?_ ?_
                · show m - a1 < b1 - a1; omega
                · exact ⟨hR5.right p5 s6 d6, by show (lim - 1) ≤ 60000; omega⟩
                · simp only [go_sem, hs, ebl, hlb, elim, hhb, em1, em2, em3, Ret_eq Try.results160]
        | true =>
          have hR2 := hR
          have hl2 := hl1
          have hch := choose16 l1 a1 b1 (by omega) (by omega) (by omega)
          rw [hl1] at hch
          repeat' (first | simp only [go_sem, hs, ebl, hlb, elim, Ret_eq Try.results160] | simp (disch := omega) only [arith, IntKind.bits, capMax, fill_len, elt_fill] | fail)
          refine opCallI_lend [0] (by simp only [go_sem, hs, ebl, hlb, elim, Ret_eq Try.results160]; first | done | rfl) (by simp only [go_sem, hs, ebl, hlb, elim, Ret_eq Try.results160]; first | done | rfl) (by decide) (by simp only [go_sem, hs, ebl, hlb, elim, Ret_eq Try.results160]; first | done | decide) (by simp only [go_sem, hs, ebl, hlb, elim, Ret_eq Try.results160]; first | done | decide) (hch) ?_
          rintro _ _ ⟨x, h, rfl, rfl, hx1, hx2⟩
          by_cases hh : h = 2
          · subst hh
            have hrv := reverse16 l1 a1 b1 r2 (by omega) (by omega) (by omega)
            rw [hl2] at hrv
            repeat' (first | simp only [go_sem, hs, ebl, hlb, elim, beq_self_eq_true, Ret_eq Try.results160] | fail)
            refine opCallI_lend [0] (by simp only [go_sem, hs, ebl, hlb, elim, Ret_eq Try.results160]; first | done | rfl) (by simp only [go_sem, hs, ebl, hlb, elim, Ret_eq Try.results160]; first | done | rfl) (by decide) (by simp only [go_sem, hs, ebl, hlb, elim, Ret_eq Try.results160]; first | done | decide) (by simp only [go_sem, hs, ebl, hlb, elim, Ret_eq Try.results160]; first | done | decide) (hrv) ?_
            rintro _ _ ⟨rfl, l3, rfl, s3⟩
            have hR3 := hR2.sw s3
            have ev : (b1 : Int) - 1 - ((x : Int) - (a1 : Int)) = ((b1 - 1 - (x - a1) : Nat) : Int) := by omega
            have hv : a1 ≤ b1 - 1 - (x - a1) ∧ b1 - 1 - (x - a1) < b1 := by omega
            generalize b1 - 1 - (x - a1) = v at *
            cases wp with
            | true =>
              have hL : l3.length = l.length := hR3.rs.length
              have hpa := partial16 l3 a1 b1 (by omega) (by omega) (by omega) hR3.rh
              rw [hL] at hpa
              repeat' (first | simp only [go_sem, hs, ebl, hlb, elim, ev, beq_self_eq_true, Ret_eq Try.results160] | simp (disch := omega) only [arith, IntKind.bits, capMax, fill_len, elt_fill] | fail)
              refine opCallI_lend [0] (by simp only [go_sem, hs, ebl, hlb, elim, ev, Ret_eq Try.results160]; first | done | rfl) (by simp only [go_sem, hs, ebl, hlb, elim, ev, Ret_eq Try.results160]; first | done | rfl) (by decide) (by simp only [go_sem, hs, ebl, hlb, elim, ev, Ret_eq Try.results160]; first | done | decide) (by simp only [go_sem, hs, ebl, hlb, elim, ev, Ret_eq Try.results160]; first | done | decide) (hpa) ?_
              rintro _ _ ⟨t0, rfl, l4, rfl, s4, d4⟩
              have hR4 := hR3.sw s4
              cases t0 with
              | true =>
                repeat' (first | simp only [go_sem, hs, ebl, hlb, elim, ev, Ret_eq Try.results160] | refine RetL_calc Try.results160 rfl ?_ | fail)
                all_goals exact ⟨rfl, l4, rfl, hR3.done s4 (d4 rfl)⟩
              | false =>
                have hL : l4.length = l.length := hR4.rs.length
                by_cases ha : 0 < a1
                · have ea : (a1 : Int) - 1 = ((a1 - 1 : Nat) : Int) := by omega
                  have hls := lessS16_fun (l4.getD (a1 - 1) 0) (l4.getD v 0)
                  by_cases hlt : l4.getD (a1 - 1) 0 < l4.getD v 0
                  · rw [decide_eq_true hlt] at hls
                    repeat' (first | simp only [go_sem, hs, ebl, hlb, elim, ev, ea, hL, Ret_eq Try.results160] | simp (disch := omega) only [arith, IntKind.bits, capMax, fill_len, elt_fill] | (refine awpI_draw2 (id := 17) (.one false 0 (.one false 1 (.one false 2 (.one false 3 (.one false 4 (.one false 5 (.one false 6 (.one false 7 (.one false 8 (.one false 9 (.one false 10 (.one false 11 (.only 12 (.one false 13 (.one false 14 .done))))))))))))))) mixed (by decide +kernel) (by decide +kernel) ?_) | (refine opCallI_rd (by simp only [go_sem, hs, ebl, hlb, elim, ev, ea, hL, Ret_eq Try.results160]; first | done | rfl) (hls) (by rintro _ rfl; rfl) ?_; rintro _ rfl) | fail)
                    have hpt := part16 l4 a1 b1 v hv (by omega) (by omega)
                    rw [hL] at hpt
                    refine opCallI_lend [0] (by simp only [go_sem, hs, ebl, hlb, elim, ev, ea, Ret_eq Try.results160]; first | done | rfl) (by simp only [go_sem, hs, ebl, hlb, elim, ev, ea, Ret_eq Try.results160]; first | done | rfl) (by decide) (by simp only [go_sem, hs, ebl, hlb, elim, ev, ea, Ret_eq Try.results160]; first | done | decide) (by simp only [go_sem, hs, ebl, hlb, elim, ev, ea, Ret_eq Try.results160]; first | done | decide) (hpt) ?_
                    rintro _ _ ⟨m, t, rfl, l5, rfl, s5, p5⟩
                    have hR5 := hR4.sw s5
                    have hl5 := hR5.rs.length
                    have q1 := p5.h1
                    have q2 := p5.h2
                    have em1 : (m : Int) - (a1 : Int) = ((m - a1 : Nat) : Int) := by omega
                    have em2 : (b1 : Int) - (m : Int) = ((b1 - m : Nat) : Int) := by omega
                    have em3 : ((b1 - a1 : Nat) : Int).tdiv 8 = ((b1 - a1 : Nat) : Int) / 8 := Int.tdiv_eq_ediv_of_nonneg (by omega)
                    have hA5 := hR5.rh
                    have hAl : Ahd a1 m l5 := by
                      rcases hA5 with z | z
                      · exact .inl z
                      · exact .inr fun k k1 k2 => z k k1 (by omega)
                    have hAr : Ahd (m + 1) b1 l5 := .inr fun k k1 k2 => by
                      rw [show m + 1 - 1 = m by omega]
                      exact p5.h4 k (by omega) k2
                    by_cases hsm : m - a1 < b1 - m
                    · have hrec : SortsL16 _ l5 a1 m lim := ih (m - a1) (by omega) l5 a1 m lim (Nat.le_refl _) q1 (by omega) (by omega) (by omega) hAl
                      unfold SortsL16 at hrec
                      rw [hl5] at hrec
                      repeat' (first | simp only [go_sem, hs, ebl, hlb, elim, ev, ea, em1, em2, em3, Ret_eq Try.results160] | simp (disch := omega) only [arith, IntKind.bits, capMax, fill_len, elt_fill] | fail)
                      refine opCallI_lend [0] (by simp only [go_sem, hs, ebl, hlb, elim, ev, ea, em1, em2, em3, Ret_eq Try.results160]; first | done | rfl) (by simp only [go_sem, hs, ebl, hlb, elim, ev, ea, em1, em2, em3, Ret_eq Try.results160]; first | done | rfl) (by decide) (by simp only [go_sem, hs, ebl, hlb, elim, ev, ea, em1, em2, em3, Ret_eq Try.results160]; first | done | decide) (by simp only [go_sem, hs, ebl, hlb, elim, ev, ea, em1, em2, em3, Ret_eq Try.results160]; first | done | decide) (hrec) ?_
                      rintro _ _ ⟨rfl, l6, rfl, s6, d6⟩
                      repeat' (first | simp only [go_sem, hs, ebl, hlb, elim, ev, ea, em1, em2, em3, Ret_eq Try.results160] | simp (disch := omega) only [arith, IntKind.bits, capMax, fill_len, elt_fill] | fail)
                      refine AgainW.to (m + 1, b1, lim, decide (((b1 - a1 : Nat) : Int) / 8 ≤ ((m - a1 : Nat) : Int)), t, l6) ?_ ?_ ?_
                      · show b1 - (m + 1) < b1 - a1; omega
                      · exact ⟨hR5.left p5 s6 d6, by show lim ≤ 60000; omega⟩
                      · simp only [go_sem, hs, ebl, hlb, elim, ev, ea, em1, em2, em3, Ret_eq Try.results160]
                    · have hrec : SortsL16 _ l5 (m + 1) b1 lim := ih (b1 - (m + 1)) (by omega) l5 (m + 1) b1 lim (Nat.le_refl _) (by omega) (by omega) (by omega) (by omega) hAr
                      unfold SortsL16 at hrec
                      rw [hl5] at hrec
                      repeat' (first | simp only [go_sem, hs, ebl, hlb, elim, ev, ea, em1, em2, em3, Ret_eq Try.results160] | simp (disch := omega) only [arith, IntKind.bits, capMax, fill_len, elt_fill] | fail)
                      refine opCallI_lend [0] (by simp only [go_sem, hs, ebl, hlb, elim, ev, ea, em1, em2, em3, Ret_eq Try.results160]; first | done | rfl) (by simp only [go_sem, hs, ebl, hlb, elim, ev, ea, em1, em2, em3, Ret_eq Try.results160]; first | done | rfl) (by decide) (by simp only [go_sem, hs, ebl, hlb, elim, ev, ea, em1, em2, em3, Ret_eq Try.results160]; first | done | decide) (by simp only [go_sem, hs, ebl, hlb, elim, ev, ea, em1, em2, em3, Ret_eq Try.results160]; first | done | decide) (hrec) ?_
                      rintro _ _ ⟨rfl, l6, rfl, s6, d6⟩
                      repeat' (first | simp only [go_sem, hs, ebl, hlb, elim, ev, ea, em1, em2, em3, Ret_eq Try.results160] | fail)
                      refine AgainW.to (a1, m, lim, decide (((b1 - a1 : Nat) : Int) / 8 ≤ ((b1 - m : Nat) : Int)), t, l6) ?_ ?_ ?_
                      · show m - a1 < b1 - a1; omega
                      · exact ⟨hR5.right p5 s6 d6, by show lim ≤ 60000; omega⟩
                      · simp only [go_sem, hs, ebl, hlb, elim, ev, ea, em1, em2, em3, Ret_eq Try.results160]
                  · rw [decide_eq_false hlt] at hls
                    repeat' (first | simp only [go_sem, hs, ebl, hlb, elim, ev, ea, hL, Ret_eq Try.results160] | simp (disch := omega) only [arith, IntKind.bits, capMax, fill_len, elt_fill] | (refine awpI_draw2 (id := 17) (.one false 0 (.one false 1 (.one false 2 (.one false 3 (.one false 4 (.one false 5 (.one false 6 (.one false 7 (.one false 8 (.one false 9 (.one false 10 (.one false 11 (.only 12 (.one false 13 (.one false 14 .done))))))))))))))) mixed (by decide +kernel) (by decide +kernel) ?_) | (refine opCallI_rd (by simp only [go_sem, hs, ebl, hlb, elim, ev, ea, hL, Ret_eq Try.results160]; first | done | rfl) (hls) (by rintro _ rfl; rfl) ?_; rintro _ rfl) | fail)
                    have hpe := partEq16 l4 a1 b1 v hv (by omega) (by omega)
                    rw [hL] at hpe
                    refine opCallI_lend [0] (by simp only [go_sem, hs, ebl, hlb, elim, ev, ea, Ret_eq Try.results160]; first | done | rfl) (by simp only [go_sem, hs, ebl, hlb, elim, ev, ea, Ret_eq Try.results160]; first | done | rfl) (by decide) (by simp only [go_sem, hs, ebl, hlb, elim, ev, ea, Ret_eq Try.results160]; first | done | decide) (by simp only [go_sem, hs, ebl, hlb, elim, ev, ea, Ret_eq Try.results160]; first | done | decide) (hpe) ?_
                    rintro _ _ ⟨m, rfl, l5, rfl, s5, p5⟩
                    repeat' (first | simp only [go_sem, hs, ebl, hlb, elim, ev, ea, Ret_eq Try.results160] | fail)
                    refine AgainW.to (m, b1, lim, true, true, l5) ?_ ?_ ?_
                    · show b1 - m < b1 - a1; have := p5.h1; have := p5.h2; omega
                    · exact ⟨(hR4.sw s5).eqPart p5 (s5.all (P := fun z => _ ≤ z) (hR4.ahead ha hv (by omega))), by show lim ≤ 60000; omega⟩
                    · simp only [go_sem, hs, ebl, hlb, elim, ev, ea, Ret_eq Try.results160]
                · repeat' (first | simp only [go_sem, hs, ebl, hlb, elim, ev, Ret_eq Try.results160] | simp (disch := omega) only [arith, IntKind.bits, capMax, fill_len, elt_fill] | (refine awpI_draw2 (id := 17) (.one false 0 (.one false 1 (.one false 2 (.one false 3 (.one false 4 (.one false 5 (.one false 6 (.one false 7 (.one false 8 (.one false 9 (.one false 10 (.one false 11 (.only 12 (.one false 13 (.one false 14 .done))))))))))))))) mixed (by decide +kernel) (by decide +kernel) ?_) | fail)
                  have hpt := part16 l4 a1 b1 v hv (by omega) (by omega)
                  rw [hL] at hpt
                  refine opCallI_lend [0] (by simp only [go_sem, hs, ebl, hlb, elim, ev, Ret_eq Try.results160]; first | done | rfl) (by simp only [go_sem, hs, ebl, hlb, elim, ev, Ret_eq Try.results160]; first | done | rfl) (by decide) (by simp only [go_sem, hs, ebl, hlb, elim, ev, Ret_eq Try.results160]; first | done | decide) (by simp only [go_sem, hs, ebl, hlb, elim, ev, Ret_eq Try.results160]; first | done | decide) (hpt) ?_
                  rintro _ _ ⟨m, t, rfl, l5, rfl, s5, p5⟩
                  have hR5 := hR4.sw s5
                  have hl5 := hR5.rs.length
                  have q1 := p5.h1
                  have q2 := p5.h2
                  have em1 : (m : Int) - (a1 : Int) = ((m - a1 : Nat) : Int) := by omega
                  have em2 : (b1 : Int) - (m : Int) = ((b1 - m : Nat) : Int) := by omega
                  have em3 : ((b1 - a1 : Nat) : Int).tdiv 8 = ((b1 - a1 : Nat) : Int) / 8 := Int.tdiv_eq_ediv_of_nonneg (by omega)
                  have hA5 := hR5.rh
                  have hAl : Ahd a1 m l5 := by
                    rcases hA5 with z | z
                    · exact .inl z
                    · exact .inr fun k k1 k2 => z k k1 (by omega)
                  have hAr : Ahd (m + 1) b1 l5 := .inr fun k k1 k2 => by
                    rw [show m + 1 - 1 = m by omega]
                    exact p5.h4 k (by omega) k2
                  by_cases hsm : m - a1 < b1 - m
                  · have hrec : SortsL16 _ l5 a1 m lim := ih (m - a1) (by omega) l5 a1 m lim (Nat.le_refl _) q1 (by omega) (by omega) (by omega) hAl
                    unfold SortsL16 at hrec
                    rw [hl5] at hrec
                    repeat' (first | simp only [go_sem, hs, ebl, hlb, elim, ev, em1, em2, em3, Ret_eq Try.results160] | simp (disch := omega) only [arith, IntKind.bits, capMax, fill_len, elt_fill] | fail)
                    refine opCallI_lend [0] (by simp only [go_sem, hs, ebl, hlb, elim, ev, em1, em2, em3, Ret_eq Try.results160]; first | done | rfl) (by simp only [go_sem, hs, ebl, hlb, elim, ev, em1, em2, em3, Ret_eq Try.results160]; first | done | rfl) (by decide) (by simp only [go_sem, hs, ebl, hlb, elim, ev, em1, em2, em3, Ret_eq Try.results160]; first | done | decide) (by simp only [go_sem, hs, ebl, hlb, elim, ev, em1, em2, em3, Ret_eq Try.results160]; first | done | decide) (hrec) ?_
                    rintro _ _ ⟨rfl, l6, rfl, s6, d6⟩
                    repeat' (first | simp only [go_sem, hs, ebl, hlb, elim, ev, em1, em2, em3, Ret_eq Try.results160] | simp (disch := omega) only [arith, IntKind.bits, capMax, fill_len, elt_fill] | fail)
                    refine AgainW.to (m + 1, b1, lim, decide (((b1 - a1 : Nat) : Int) / 8 ≤ ((m - a1 : Nat) : Int)), t, l6) ?_ ?_ ?_
                    · show b1 - (m + 1) < b1 - a1; omega
                    · exact ⟨hR5.left p5 s6 d6, by show lim ≤ 60000; omega⟩
                    · simp only [go_sem, hs, ebl, hlb, elim, ev, em1, em2, em3, Ret_eq Try.results160]
                  · have hrec : SortsL16 _ l5 (m + 1) b1 lim := ih (b1 - (m + 1)) (by omega) l5 (m + 1) b1 lim (Nat.le_refl _) (by omega) (by omega) (by omega) (by omega) hAr
                    unfold SortsL16 at hrec
                    rw [hl5] at hrec
                    repeat' (first | simp only [go_sem, hs, ebl, hlb, elim, ev, em1, em2, em3, Ret_eq Try.results160] | simp (disch := omega) only [arith, IntKind.bits, capMax, fill_len, elt_fill] | fail)
                    refine opCallI_lend [0] (by simp only [go_sem, hs, ebl, hlb, elim, ev, em1, em2, em3, Ret_eq Try.results160]; first | done | rfl) (by simp only [go_sem, hs, ebl, hlb, elim, ev, em1, em2, em3, Ret_eq Try.results160]; first | done | rfl) (by decide) (by simp only [go_sem, hs, ebl, hlb, elim, ev, em1, em2, em3, Ret_eq Try.results160]; first | done | decide) (by simp only [go_sem, hs, ebl, hlb, elim, ev, em1, em2, em3, Ret_eq Try.results160]; first | done | decide) (hrec) ?_
                    rintro _ _ ⟨rfl, l6, rfl, s6, d6⟩
                    repeat' (first | simp only [go_sem, hs, ebl, hlb, elim, ev, em1, em2, em3, Ret_eq Try.results160] | fail)
                    refine AgainW.to (a1, m, lim, decide (((b1 - a1 : Nat) : Int) / 8 ≤ ((b1 - m : Nat) : Int)), t, l6) ?_ ?_ ?_
                    · show m - a1 < b1 - a1; omega
                    · exact ⟨hR5.right p5 s6 d6, by show lim ≤ 60000; omega⟩
                    · simp only [go_sem, hs, ebl, hlb, elim, ev, em1, em2, em3, Ret_eq Try.results160]
            | false =>
              have hL : l3.length = l.length := hR3.rs.length
              by_cases ha : 0 < a1
              · have ea : (a1 : Int) - 1 = ((a1 - 1 : Nat) : Int) := by omega
                have hls := lessS16_fun (l3.getD (a1 - 1) 0) (l3.getD v 0)
                by_cases hlt : l3.getD (a1 - 1) 0 < l3.getD v 0
                · rw [decide_eq_true hlt] at hls
                  repeat' (first | simp only [go_sem, hs, ebl, hlb, elim, ev, beq_self_eq_true, ea, hL, Ret_eq Try.results160] | simp (disch := omega) only [arith, IntKind.bits, capMax, fill_len, elt_fill] | (refine awpI_draw2 (id := 17) (.one false 0 (.one false 1 (.one false 2 (.one false 3 (.one false 4 (.one false 5 (.one false 6 (.one false 7 (.one false 8 (.one false 9 (.one false 10 (.one false 11 (.only 12 (.one false 13 (.one false 14 .done))))))))))))))) mixed (by decide +kernel) (by decide +kernel) ?_) | (refine opCallI_rd (by simp only [go_sem, hs, ebl, hlb, elim, ev, beq_self_eq_true, ea, hL, Ret_eq Try.results160]; first | done | rfl) (hls) (by rintro _ rfl; rfl) ?_; rintro _ rfl) | fail)
                  have hpt := part16 l3 a1 b1 v hv (by omega) (by omega)
                  rw [hL] at hpt
                  refine opCallI_lend [0] (by simp only [go_sem, hs, ebl, hlb, elim, ev, beq_self_eq_true, ea, Ret_eq Try.results160]; first | done | rfl) (by simp only [go_sem, hs, ebl, hlb, elim, ev, beq_self_eq_true, ea, Ret_eq Try.results160]; first | done | rfl) (by decide) (by simp only [go_sem, hs, ebl, hlb, elim, ev, beq_self_eq_true, ea, Ret_eq Try.results160]; first | done | decide) (by simp only [go_sem, hs, ebl, hlb, elim, ev, beq_self_eq_true, ea, Ret_eq Try.results160]; first | done | decide) (hpt) ?_
                  rintro _ _ ⟨m, t, rfl, l5, rfl, s5, p5⟩
                  have hR5 := hR3.sw s5
                  have hl5 := hR5.rs.length
                  have q1 := p5.h1
                  have q2 := p5.h2
                  have em1 : (m : Int) - (a1 : Int) = ((m - a1 : Nat) : Int) := by omega
                  have em2 : (b1 : Int) - (m : Int) = ((b1 - m : Nat) : Int) := by omega
                  have em3 : ((b1 - a1 : Nat) : Int).tdiv 8 = ((b1 - a1 : Nat) : Int) / 8 := Int.tdiv_eq_ediv_of_nonneg (by omega)
                  have hA5 := hR5.rh
                  have hAl : Ahd a1 m l5 := by
                    rcases hA5 with z | z
                    · exact .inl z
                    · exact .inr fun k k1 k2 => z k k1 (by omega)
                  have hAr : Ahd (m + 1) b1 l5 := .inr fun k k1 k2 => by
                    rw [show m + 1 - 1 = m by omega]
                    exact p5.h4 k (by omega) k2
                  by_cases hsm : m - a1 < b1 - m
                  · have hrec : SortsL16 _ l5 a1 m lim := ih (m - a1) (by omega) l5 a1 m lim (Nat.le_refl _) q1 (by omega) (by omega) (by omega) hAl
                    unfold SortsL16 at hrec
                    rw [hl5] at hrec
                    repeat' (first | simp only [go_sem, hs, ebl, hlb, elim, ev, beq_self_eq_true, ea, em1, em2, em3, Ret_eq Try.results160] | simp (disch := omega) only [arith, IntKind.bits, capMax, fill_len, elt_fill] | fail)
                    refine opCallI_lend [0] (by simp only [go_sem, hs, ebl, hlb, elim, ev, beq_self_eq_true, ea, em1, em2, em3, Ret_eq Try.results160]; first | done | rfl) (by simp only [go_sem, hs, ebl, hlb, elim, ev, beq_self_eq_true, ea, em1, em2, em3, Ret_eq Try.results160]; first | done | rfl) (by decide) (by simp only [go_sem, hs, ebl, hlb, elim, ev, beq_self_eq_true, ea, em1, em2, em3, Ret_eq Try.results160]; first | done | decide) (by simp only [go_sem, hs, ebl, hlb, elim, ev, beq_self_eq_true, ea, em1, em2, em3, Ret_eq Try.results160]; first | done | decide) (hrec) ?_
                    rintro _ _ ⟨rfl, l6, rfl, s6, d6⟩
                    repeat' (first | simp only [go_sem, hs, ebl, hlb, elim, ev, beq_self_eq_true, ea, em1, em2, em3, Ret_eq Try.results160] | simp (disch := omega) only [arith, IntKind.bits, capMax, fill_len, elt_fill] | fail)
                    refine AgainW.to (m + 1, b1, lim, decide (((b1 - a1 : Nat) : Int) / 8 ≤ ((m - a1 : Nat) : Int)), t, l6) ?_ ?_ ?_
                    · show b1 - (m + 1) < b1 - a1; omega
                    · exact ⟨hR5.left p5 s6 d6, by show lim ≤ 60000; omega⟩
                    · simp only [go_sem, hs, ebl, hlb, elim, ev, beq_self_eq_true, ea, em1, em2, em3, Ret_eq Try.results160]
                  · have hrec : SortsL16 _ l5 (m + 1) b1 lim := ih (b1 - (m + 1)) (by omega) l5 (m + 1) b1 lim (Nat.le_refl _) (by omega) (by omega) (by omega) (by omega) hAr
                    unfold SortsL16 at hrec
                    rw [hl5] at hrec
                    repeat' (first | simp only [go_sem, hs, ebl, hlb, elim, ev, beq_self_eq_true, ea, em1, em2, em3, Ret_eq Try.results160] | simp (disch := omega) only [arith, IntKind.bits, capMax, fill_len, elt_fill] | fail)
                    refine opCallI_lend [0] (by simp only [go_sem, hs, ebl, hlb, elim, ev, beq_self_eq_true, ea, em1, em2, em3, Ret_eq Try.results160]; first | done | rfl) (by simp only [go_sem, hs, ebl, hlb, elim, ev, beq_self_eq_true, ea, em1, em2, em3, Ret_eq Try.results160]; first | done | rfl) (by decide) (by simp only [go_sem, hs, ebl, hlb, elim, ev, beq_self_eq_true, ea, em1, em2, em3, Ret_eq Try.results160]; first | done | decide) (by simp only [go_sem, hs, ebl, hlb, elim, ev, beq_self_eq_true, ea, em1, em2, em3, Ret_eq Try.results160]; first | done | decide) (hrec) ?_
                    rintro _ _ ⟨rfl, l6, rfl, s6, d6⟩
                    repeat' (first | simp only [go_sem, hs, ebl, hlb, elim, ev, beq_self_eq_true, ea, em1, em2, em3, Ret_eq Try.results160] | fail)
                    refine AgainW.to (a1, m, lim, decide (((b1 - a1 : Nat) : Int) / 8 ≤ ((b1 - m : Nat) : Int)), t, l6) ?_ ?_ ?_
                    · show m - a1 < b1 - a1; omega
                    · exact ⟨hR5.right p5 s6 d6, by show lim ≤ 60000; omega⟩
                    · simp only [go_sem, hs, ebl, hlb, elim, ev, beq_self_eq_true, ea, em1, em2, em3, Ret_eq Try.results160]
                · rw [decide_eq_false hlt] at hls
                  repeat' (first | simp only [go_sem, hs, ebl, hlb, elim, ev, beq_self_eq_true, ea, hL, Ret_eq Try.results160] | simp (disch := omega) only [arith, IntKind.bits, capMax, fill_len, elt_fill] | (refine awpI_draw2 (id := 17) (.one false 0 (.one false 1 (.one false 2 (.one false 3 (.one false 4 (.one false 5 (.one false 6 (.one false 7 (.one false 8 (.one false 9 (.one false 10 (.one false 11 (.only 12 (.one false 13 (.one false 14 .done))))))))))))))) mixed (by decide +kernel) (by decide +kernel) ?_) | (refine opCallI_rd (by simp only [go_sem, hs, ebl, hlb, elim, ev, beq_self_eq_true, ea, hL, Ret_eq Try.results160]; first | done | rfl) (hls) (by rintro _ rfl; rfl) ?_; rintro _ rfl) | fail)
                  have hpe := partEq16 l3 a1 b1 v hv (by omega) (by omega)
                  rw [hL] at hpe
                  refine opCallI_lend [0] (by simp only [go_sem, hs, ebl, hlb, elim, ev, beq_self_eq_true, ea, Ret_eq Try.results160]; first | done | rfl) (by simp only [go_sem, hs, ebl, hlb, elim, ev, beq_self_eq_true, ea, Ret_eq Try.results160]; first | done | rfl) (by decide) (by simp only [go_sem, hs, ebl, hlb, elim, ev, beq_self_eq_true, ea, Ret_eq Try.results160]; first | done | decide) (by simp only [go_sem, hs, ebl, hlb, elim, ev, beq_self_eq_true, ea, Ret_eq Try.results160]; first | done | decide) (hpe) ?_
                  rintro _ _ ⟨m, rfl, l5, rfl, s5, p5⟩
                  repeat' (first | simp only [go_sem, hs, ebl, hlb, elim, ev, beq_self_eq_true, ea, Ret_eq Try.results160] | fail)
                  refine AgainW.to (m, b1, lim, true, false, l5) ?_ ?_ ?_
                  · show b1 - m < b1 - a1; have := p5.h1; have := p5.h2; omega
                  · exact ⟨(hR3.sw s5).eqPart p5 (s5.all (P := fun z => _ ≤ z) (hR3.ahead ha hv (by omega))), by show lim ≤ 60000; omega⟩
                  · simp only [go_sem, hs, ebl, hlb, elim, ev, beq_self_eq_true, ea, Ret_eq Try.results160]
              · repeat' (first | simp only [go_sem, hs, ebl, hlb, elim, ev, beq_self_eq_true, Ret_eq Try.results160] | simp (disch := omega) only [arith, IntKind.bits, capMax, fill_len, elt_fill] | (refine awpI_draw2 (id := 17) (.one false 0 (.one false 1 (.one false 2 (.one false 3 (.one false 4 (.one false 5 (.one false 6 (.one false 7 (.one false 8 (.one false 9 (.one false 10 (.one false 11 (.only 12 (.one false 13 (.one false 14 .done))))))))))))))) mixed (by decide +kernel) (by decide +kernel) ?_) | fail)
                have hpt := part16 l3 a1 b1 v hv (by omega) (by omega)
                rw [hL] at hpt
                refine opCallI_lend [0] (by simp only [go_sem, hs, ebl, hlb, elim, ev, beq_self_eq_true, Ret_eq Try.results160]; first | done | rfl) (by simp only [go_sem, hs, ebl, hlb, elim, ev, beq_self_eq_true, Ret_eq Try.results160]; first | done | rfl) (by decide) (by simp only [go_sem, hs, ebl, hlb, elim, ev, beq_self_eq_true, Ret_eq Try.results160]; first | done | decide) (by simp only [go_sem, hs, ebl, hlb, elim, ev, beq_self_eq_true, Ret_eq Try.results160]; first | done | decide) (hpt) ?_
                rintro _ _ ⟨m, t, rfl, l5, rfl, s5, p5⟩
                have hR5 := hR3.sw s5
                have hl5 := hR5.rs.length
                have q1 := p5.h1
                have q2 := p5.h2
                have em1 : (m : Int) - (a1 : Int) = ((m - a1 : Nat) : Int) := by omega
                have em2 : (b1 : Int) - (m : Int) = ((b1 - m : Nat) : Int) := by omega
                have em3 : ((b1 - a1 : Nat) : Int).tdiv 8 = ((b1 - a1 : Nat) : Int) / 8 := Int.tdiv_eq_ediv_of_nonneg (by omega)
                have hA5 := hR5.rh
                have hAl : Ahd a1 m l5 := by
                  rcases hA5 with z | z
                  · exact .inl z
                  · exact .inr fun k k1 k2 => z k k1 (by omega)
                have hAr : Ahd (m + 1) b1 l5 := .inr fun k k1 k2 => by
                  rw [show m + 1 - 1 = m by omega]
                  exact p5.h4 k (by omega) k2
                by_cases hsm : m - a1 < b1 - m
                · have hrec : SortsL16 _ l5 a1 m lim := ih (m - a1) (by omega) l5 a1 m lim (Nat.le_refl _) q1 (by omega) (by omega) (by omega) hAl
                  unfold SortsL16 at hrec
                  rw [hl5] at hrec
                  repeat' (first | simp only [go_sem, hs, ebl, hlb, elim, ev, beq_self_eq_true, em1, em2, em3, Ret_eq Try.results160] | simp (disch := omega) only [arith, IntKind.bits, capMax, fill_len, elt_fill] | fail)
                  refine opCallI_lend [0] (by simp only [go_sem, hs, ebl, hlb, elim, ev, beq_self_eq_true, em1, em2, em3, Ret_eq Try.results160]; first | done | rfl) (by simp only [go_sem, hs, ebl, hlb, elim, ev, beq_self_eq_true, em1, em2, em3, Ret_eq Try.results160]; first | done | rfl) (by decide) (by simp only [go_sem, hs, ebl, hlb, elim, ev, beq_self_eq_true, em1, em2, em3, Ret_eq Try.results160]; first | done | decide) (by simp only [go_sem, hs, ebl, hlb, elim, ev, beq_self_eq_true, em1, em2, em3, Ret_eq Try.results160]; first | done | decide) (hrec) ?_
                  rintro _ _ ⟨rfl, l6, rfl, s6, d6⟩
                  repeat' (first | simp only [go_sem, hs, ebl, hlb, elim, ev, beq_self_eq_true, em1, em2, em3, Ret_eq Try.results160] | simp (disch := omega) only [arith, IntKind.bits, capMax, fill_len, elt_fill] | fail)
                  refine AgainW.to (m + 1, b1, lim, decide (((b1 - a1 : Nat) : Int) / 8 ≤ ((m - a1 : Nat) : Int)), t, l6) ?_ ?_ ?_
                  · show b1 - (m + 1) < b1 - a1; omega
                  · exact ⟨hR5.left p5 s6 d6, by show lim ≤ 60000; omega⟩
                  · simp only [go_sem, hs, ebl, hlb, elim, ev, beq_self_eq_true, em1, em2, em3, Ret_eq Try.results160]
                · have hrec : SortsL16 _ l5 (m + 1) b1 lim := ih (b1 - (m + 1)) (by omega) l5 (m + 1) b1 lim (Nat.le_refl _) (by omega) (by omega) (by omega) (by omega) hAr
                  unfold SortsL16 at hrec
                  rw [hl5] at hrec
                  repeat' (first | simp only [go_sem, hs, ebl, hlb, elim, ev, beq_self_eq_true, em1, em2, em3, Ret_eq Try.results160] | simp (disch := omega) only [arith, IntKind.bits, capMax, fill_len, elt_fill] | fail)
                  refine opCallI_lend [0] (by simp only [go_sem, hs, ebl, hlb, elim, ev, beq_self_eq_true, em1, em2, em3, Ret_eq Try.results160]; first | done | rfl) (by simp only [go_sem, hs, ebl, hlb, elim, ev, beq_self_eq_true, em1, em2, em3, Ret_eq Try.results160]; first | done | rfl) (by decide) (by simp only [go_sem, hs, ebl, hlb, elim, ev, beq_self_eq_true, em1, em2, em3, Ret_eq Try.results160]; first | done | decide) (by simp only [go_sem, hs, ebl, hlb, elim, ev, beq_self_eq_true, em1, em2, em3, Ret_eq Try.results160]; first | done | decide) (hrec) ?_
                  rintro _ _ ⟨rfl, l6, rfl, s6, d6⟩
                  repeat' (first | simp only [go_sem, hs, ebl, hlb, elim, ev, beq_self_eq_true, em1, em2, em3, Ret_eq Try.results160] | fail)
                  refine AgainW.to (a1, m, lim, decide (((b1 - a1 : Nat) : Int) / 8 ≤ ((b1 - m : Nat) : Int)), t, l6) ?_ ?_ ?_
                  · show m - a1 < b1 - a1; omega
                  · exact ⟨hR5.right p5 s6 d6, by show lim ≤ 60000; omega⟩
                  · simp only [go_sem, hs, ebl, hlb, elim, ev, beq_self_eq_true, em1, em2, em3, Ret_eq Try.results160]
          · have hhb : (h == 2) = false := beq_eq_false_iff_ne.2 hh
            have hv : a1 ≤ x ∧ x < b1 := ⟨hx1, hx2⟩
            by_cases h1 : h = 1
            · subst h1
              cases wp with
              | true =>
                have hL : l1.length = l.length := hR2.rs.length
                have hpa := partial16 l1 a1 b1 (by omega) (by omega) (by omega) hR2.rh
                rw [hL] at hpa
                repeat' (first | simp only [go_sem, hs, ebl, hlb, elim, hhb, beq_self_eq_true, Ret_eq Try.results160] | fail)
                refine opCallI_lend [0] (by simp only [go_sem, hs, ebl, hlb, elim, hhb, Ret_eq Try.results160]; first | done | rfl) (by simp only [go_sem, hs, ebl, hlb, elim, hhb, Ret_eq Try.results160]; first | done | rfl) (by decide) (by simp only [go_sem, hs, ebl, hlb, elim, hhb, Ret_eq Try.results160]; first | done | decide) (by simp only [go_sem, hs, ebl, hlb, elim, hhb, Ret_eq Try.results160]; first | done | decide) (hpa) ?_
                rintro _ _ ⟨t0, rfl, l4, rfl, s4, d4⟩
                have hR4 := hR2.sw s4
                cases t0 with
                | true =>
                  repeat' (first | simp only [go_sem, hs, ebl, hlb, elim, hhb, Ret_eq Try.results160] | refine RetL_calc Try.results160 rfl ?_ | fail)
                  all_goals exact ⟨rfl, l4, rfl, hR2.done s4 (d4 rfl)⟩
                | false =>
                  have hL : l4.length = l.length := hR4.rs.length
                  by_cases ha : 0 < a1
                  · have ea : (a1 : Int) - 1 = ((a1 - 1 : Nat) : Int) := by omega
                    have hls := lessS16_fun (l4.getD (a1 - 1) 0) (l4.getD x 0)
                    by_cases hlt : l4.getD (a1 - 1) 0 < l4.getD x 0
                    · rw [decide_eq_true hlt] at hls
                      repeat' (first | simp only [go_sem, hs, ebl, hlb, elim, hhb, ea, hL, Ret_eq Try.results160] | simp (disch := omega) only [arith, IntKind.bits, capMax, fill_len, elt_fill] | (refine awpI_draw2 (id := 17) (.one false 0 (.one false 1 (.one false 2 (.one false 3 (.one false 4 (.one false 5 (.one false 6 (.one false 7 (.one false 8 (.one false 9 (.one false 10 (.one false 11 (.only 12 (.one false 13 (.one false 14 .done))))))))))))))) mixed (by decide +kernel) (by decide +kernel) ?_) | (refine opCallI_rd (by simp only [go_sem, hs, ebl, hlb, elim, hhb, ea, hL, Ret_eq Try.results160]; first | done | rfl) (hls) (by rintro _ rfl; rfl) ?_; rintro _ rfl) | fail)
                      have hpt := part16 l4 a1 b1 x hv (by omega) (by omega)
                      rw [hL] at hpt
                      refine opCallI_lend [0] (by simp only [go_sem, hs, ebl, hlb, elim, hhb, ea, Ret_eq Try.results160]; first | done | rfl) (by simp only [go_sem, hs, ebl, hlb, elim, hhb, ea, Ret_eq Try.results160]; first | done | rfl) (by decide) (by simp only [go_sem, hs, ebl, hlb, elim, hhb, ea, Ret_eq Try.results160]; first | done | decide) (by simp only [go_sem, hs, ebl, hlb, elim, hhb, ea, Ret_eq Try.results160]; first | done | decide) (hpt) ?_
                      rintro _ _ ⟨m, t, rfl, l5, rfl, s5, p5⟩
                      have hR5 := hR4.sw s5
                      have hl5 := hR5.rs.length
                      have q1 := p5.h1
                      have q2 := p5.h2
                      have em1 : (m : Int) - (a1 : Int) = ((m - a1 : Nat) : Int) := by omega
                      have em2 : (b1 : Int) - (m : Int) = ((b1 - m : Nat) : Int) := by omega
                      have em3 : ((b1 - a1 : Nat) : Int).tdiv 8 = ((b1 - a1 : Nat) : Int) / 8 := Int.tdiv_eq_ediv_of_nonneg (by omega)
                      have hA5 := hR5.rh
                      have hAl : Ahd a1 m l5 := by
                        rcases hA5 with z | z
                        · exact .inl z
                        · exact .inr fun k k1 k2 => z k k1 (by omega)
                      have hAr : Ahd (m + 1) b1 l5 := .inr fun k k1 k2 => by
                        rw [show m + 1 - 1 = m by omega]
                        exact p5.h4 k (by omega) k2
                      by_cases hsm : m - a1 < b1 - m
                      · have hrec : SortsL16 _ l5 a1 m lim := ih (m - a1) (by omega) l5 a1 m lim (Nat.le_refl _) q1 (by omega) (by omega) (by omega) hAl
                        unfold SortsL16 at hrec
                        rw [hl5] at hrec
                        repeat' (first | simp only [go_sem, hs, ebl, hlb, elim, hhb, ea, em1, em2, em3, Ret_eq Try.results160] | simp (disch := omega) only [arith, IntKind.bits, capMax, fill_len, elt_fill] | fail)
                        refine opCallI_lend [0] (by simp only [go_sem, hs, ebl, hlb, elim, hhb, ea, em1, em2, em3, Ret_eq Try.results160]; first | done | rfl) (by simp only [go_sem, hs, ebl, hlb, elim, hhb, ea, em1, em2, em3, Ret_eq Try.results160]; first | done | rfl) (by decide) (by simp only [go_sem, hs, ebl, hlb, elim, hhb, ea, em1, em2, em3, Ret_eq Try.results160]; first | done | decide) (by simp only [go_sem, hs, ebl, hlb, elim, hhb, ea, em1, em2, em3, Ret_eq Try.results160]; first | done | decide) (hrec) ?_
                        rintro _ _ ⟨rfl, l6, rfl, s6, d6⟩
                        repeat' (first | simp only [go_sem, hs, ebl, hlb, elim, hhb, ea, em1, em2, em3, Ret_eq Try.results160] | simp (disch := omega) only [arith, IntKind.bits, capMax, fill_len, elt_fill] | fail)
                        refine AgainW.to (m + 1, b1, lim, decide (((b1 - a1 : Nat) : Int) / 8 ≤ ((m - a1 : Nat) : Int)), t, l6) ?_ ?_ ?_
                        · show b1 - (m + 1) < b1 - a1; omega
                        · exact ⟨hR5.left p5 s6 d6, by show lim ≤ 60000; omega⟩
                        · simp only [go_sem, hs, ebl, hlb, elim, hhb, ea, em1, em2, em3, Ret_eq Try.results160]
                      · have hrec : SortsL16 _ l5 (m + 1) b1 lim := ih (b1 - (m + 1)) (by omega) l5 (m + 1) b1 lim (Nat.le_refl _) (by omega) (by omega) (by omega) (by omega) hAr
                        unfold SortsL16 at hrec
                        rw [hl5] at hrec
                        repeat' (first | simp only [go_sem, hs, ebl, hlb, elim, hhb, ea, em1, em2, em3, Ret_eq Try.results160] | simp (disch := omega) only [arith, IntKind.bits, capMax, fill_len, elt_fill] | fail)
                        refine opCallI_lend [0] (by simp only [go_sem, hs, ebl, hlb, elim, hhb, ea, em1, em2, em3, Ret_eq Try.results160]; first | done | rfl) (by simp only [go_sem, hs, ebl, hlb, elim, hhb, ea, em1, em2, em3, Ret_eq Try.results160]; first | done | rfl) (by decide) (by simp only [go_sem, hs, ebl, hlb, elim, hhb, ea, em1, em2, em3, Ret_eq Try.results160]; first | done | decide) (by simp only [go_sem, hs, ebl, hlb, elim, hhb, ea, em1, em2, em3, Ret_eq Try.results160]; first | done | decide) (hrec) ?_
                        rintro _ _ ⟨rfl, l6, rfl, s6, d6⟩
                        repeat' (first | simp only [go_sem, hs, ebl, hlb, elim, hhb, ea, em1, em2, em3, Ret_eq Try.results160] | fail)
                        refine AgainW.to (a1, m, lim, decide (((b1 - a1 : Nat) : Int) / 8 ≤ ((b1 - m : Nat) : Int)), t, l6) ?_ ?_ ?_
                        · show m - a1 < b1 - a1; omega
                        · exact ⟨hR5.right p5 s6 d6, by show lim ≤ 60000; omega⟩
                        · simp only [go_sem, hs, ebl, hlb, elim, hhb, ea, em1, em2, em3, Ret_eq Try.results160]
                    · rw [decide_eq_false hlt] at hls
                      repeat' (first | simp only [go_sem, hs, ebl, hlb, elim, hhb, ea, hL, Ret_eq Try.results160] | simp (disch := omega) only [arith, IntKind.bits, capMax, fill_len, elt_fill] | (refine awpI_draw2 (id := 17) (.one false 0 (.one false 1 (.one false 2 (.one false 3 (.one false 4 (.one false 5 (.one false 6 (.one false 7 (.one false 8 (.one false 9 (.one false 10 (.one false 11 (.only 12 (.one false 13 (.one false 14 .done))))))))))))))) mixed (by decide +kernel) (by decide +kernel) ?_) | (refine opCallI_rd (by simp only [go_sem, hs, ebl, hlb, elim, hhb, ea, hL, Ret_eq Try.results160]; first | done | rfl) (hls) (by rintro _ rfl; rfl) ?_; rintro _ rfl) | fail)
                      have hpe := partEq16 l4 a1 b1 x hv (by omega) (by omega)
                      rw [hL] at hpe
                      refine opCallI_lend [0] (by simp only [go_sem, hs, ebl, hlb, elim, hhb, ea, Ret_eq Try.results160]; first | done | rfl) (by simp only [go_sem, hs, ebl, hlb, elim, hhb, ea, Ret_eq Try.results160]; first | done | rfl) (by decide) (by simp only [go_sem, hs, ebl, hlb, elim, hhb, ea, Ret_eq Try.results160]; first | done | decide) (by simp only [go_sem, hs, ebl, hlb, elim, hhb, ea, Ret_eq Try.results160]; first | done | decide) (hpe) ?_
                      rintro _ _ ⟨m, rfl, l5, rfl, s5, p5⟩
                      repeat' (first | simp only [go_sem, hs, ebl, hlb, elim, hhb, ea, Ret_eq Try.results160] | fail)
                      refine AgainW.to (m, b1, lim, true, true, l5) ?_ ?_ ?_
                      · show b1 - m < b1 - a1; have := p5.h1; have := p5.h2; omega
                      · exact ⟨(hR4.sw s5).eqPart p5 (s5.all (P := fun z => _ ≤ z) (hR4.ahead ha hv (by omega))), by show lim ≤ 60000; omega⟩
                      · simp only [go_sem, hs, ebl, hlb, elim, hhb, ea, Ret_eq Try.results160]
                  · repeat' (first | simp only [go_sem, hs, ebl, hlb, elim, hhb, Ret_eq Try.results160] | simp (disch := omega) only [arith, IntKind.bits, capMax, fill_len, elt_fill] | (refine awpI_draw2 (id := 17) (.one false 0 (.one false 1 (.one false 2 (.one false 3 (.one false 4 (.one false 5 (.one false 6 (.one false 7 (.one false 8 (.one false 9 (.one false 10 (.one false 11 (.only 12 (.one false 13 (.one false 14 .done))))))))))))))) mixed (by decide +kernel) (by decide +kernel) ?_) | fail)
                    have hpt := part16 l4 a1 b1 x hv (by omega) (by omega)
                    rw [hL] at hpt
                    refine opCallI_lend [0] (by simp only [go_sem, hs, ebl, hlb, elim, hhb, Ret_eq Try.results160]; first | done | rfl) (by simp only [go_sem, hs, ebl, hlb, elim, hhb, Ret_eq Try.results160]; first | done | rfl) (by decide) (by simp only [go_sem, hs, ebl, hlb, elim, hhb, Ret_eq Try.results160]; first | done | decide) (by simp only [go_sem, hs, ebl, hlb, elim, hhb, Ret_eq Try.results160]; first | done | decide) (hpt) ?_
                    rintro _ _ ⟨m, t, rfl, l5, rfl, s5, p5⟩
                    have hR5 := hR4.sw s5
                    have hl5 := hR5.rs.length
                    have q1 := p5.h1
                    have q2 := p5.h2
                    have em1 : (m : Int) - (a1 : Int) = ((m - a1 : Nat) : Int) := by omega
                    have em2 : (b1 : Int) - (m : Int) = ((b1 - m : Nat) : Int) := by omega
                    have em3 : ((b1 - a1 : Nat) : Int).tdiv 8 = ((b1 - a1 : Nat) : Int) / 8 := Int.tdiv_eq_ediv_of_nonneg (by omega)
                    have hA5 := hR5.rh
                    have hAl : Ahd a1 m l5 := by
                      rcases hA5 with z | z
                      · exact .inl z
                      · exact .inr fun k k1 k2 => z k k1 (by omega)
                    have hAr : Ahd (m + 1) b1 l5 := .inr fun k k1 k2 => by
                      rw [show m + 1 - 1 = m by omega]
                      exact p5.h4 k (by omega) k2
                    by_cases hsm : m - a1 < b1 - m
                    · have hrec : SortsL16 _ l5 a1 m lim := ih (m - a1) (by omega) l5 a1 m lim (Nat.le_refl _) q1 (by omega) (by omega) (by omega) hAl
                      unfold SortsL16 at hrec
                      rw [hl5] at hrec
                      repeat' (first | simp only [go_sem, hs, ebl, hlb, elim, hhb, em1, em2, em3, Ret_eq Try.results160] | simp (disch := omega) only [arith, IntKind.bits, capMax, fill_len, elt_fill] | fail)
                      refine opCallI_lend [0] (by simp only [go_sem, hs, ebl, hlb, elim, hhb, em1, em2, em3, Ret_eq Try.results160]; first | done | rfl) (by simp only [go_sem, hs, ebl, hlb, elim, hhb, em1, em2, em3, Ret_eq Try.results160]; first | done | rfl) (by decide) (by simp only [go_sem, hs, ebl, hlb, elim, hhb, em1, em2, em3, Ret_eq Try.results160]; first | done | decide) (by simp only [go_sem, hs, ebl, hlb, elim, hhb, em1, em2, em3, Ret_eq Try.results160]; first | done | decide) (hrec) ?_
                      rintro _ _ ⟨rfl, l6, rfl, s6, d6⟩
                      repeat' (first | simp only [go_sem, hs, ebl, hlb, elim, hhb, em1, em2, em3, Ret_eq Try.results160] | simp (disch := omega) only [arith, IntKind.bits, capMax, fill_len, elt_fill] | fail)
                      refine AgainW.to (m + 1, b1, lim, decide (((b1 - a1 : Nat) : Int) / 8 ≤ ((m - a1 : Nat) : Int)), t, l6) ?_ ?_ ?_
                      · show b1 - (m + 1) < b1 - a1; omega
                      · exact ⟨hR5.left p5 s6 d6, by show lim ≤ 60000; omega⟩
                      · simp only [go_sem, hs, ebl, hlb, elim, hhb, em1, em2, em3, Ret_eq Try.results160]
                    · have hrec : SortsL16 _ l5 (m + 1) b1 lim := ih (b1 - (m + 1)) (by omega) l5 (m + 1) b1 lim (Nat.le_refl _) (by omega) (by omega) (by omega) (by omega) hAr
                      unfold SortsL16 at hrec
                      rw [hl5] at hrec
                      repeat' (first | simp only [go_sem, hs, ebl, hlb, elim, hhb, em1, em2, em3, Ret_eq Try.results160] | simp (disch := omega) only [arith, IntKind.bits, capMax, fill_len, elt_fill] | fail)
                      refine opCallI_lend [0] (by simp only [go_sem, hs, ebl, hlb, elim, hhb, em1, em2, em3, Ret_eq Try.results160]; first | done | rfl) (by simp only [go_sem, hs, ebl, hlb, elim, hhb, em1, em2, em3, Ret_eq Try.results160]; first | done | rfl) (by decide) (by simp only [go_sem, hs, ebl, hlb, elim, hhb, em1, em2, em3, Ret_eq Try.results160]; first | done | decide) (by simp only [go_sem, hs, ebl, hlb, elim, hhb, em1, em2, em3, Ret_eq Try.results160]; first | done | decide) (hrec) ?_
                      rintro _ _ ⟨rfl, l6, rfl, s6, d6⟩
                      repeat' (first | simp only [go_sem, hs, ebl, hlb, elim, hhb, em1, em2, em3, Ret_eq Try.results160] | fail)
                      refine AgainW.to (a1, m, lim, decide (((b1 - a1 : Nat) : Int) / 8 ≤ ((b1 - m : Nat) : Int)), t, l6) ?_ ?_ ?_
                      · show m - a1 < b1 - a1; omega
                      · exact ⟨hR5.right p5 s6 d6, by show lim ≤ 60000; omega⟩
                      · simp only [go_sem, hs, ebl, hlb, elim, hhb, em1, em2, em3, Ret_eq Try.results160]
              | false =>
                have hL : l1.length = l.length := hR2.rs.length
                by_cases ha : 0 < a1
                · have ea : (a1 : Int) - 1 = ((a1 - 1 : Nat) : Int) := by omega
                  have hls := lessS16_fun (l1.getD (a1 - 1) 0) (l1.getD x 0)
                  by_cases hlt : l1.getD (a1 - 1) 0 < l1.getD x 0
                  · rw [decide_eq_true hlt] at hls
                    repeat' (first | simp only [go_sem, hs, ebl, hlb, elim, hhb, beq_self_eq_true, ea, hL, Ret_eq Try.results160] | simp (disch := omega) only [arith, IntKind.bits, capMax, fill_len, elt_fill] | (refine awpI_draw2 (id := 17) (.one false 0 (.one false 1 (.one false 2 (.one false 3 (.one false 4 (.one false 5 (.one false 6 (.one false 7 (.one false 8 (.one false 9 (.one false 10 (.one false 11 (.only 12 (.one false 13 (.one false 14 .done))))))))))))))) mixed (by decide +kernel) (by decide +kernel) ?_) | (refine opCallI_rd (by simp only [go_sem, hs, ebl, hlb, elim, hhb, beq_self_eq_true, ea, hL, Ret_eq Try.results160]; first | done | rfl) (hls) (by rintro _ rfl; rfl) ?_; rintro _ rfl) | fail)
                    have hpt := part16 l1 a1 b1 x hv (by omega) (by omega)
                    rw [hL] at hpt
                    refine opCallI_lend [0] (by simp only [go_sem, hs, ebl, hlb, elim, hhb, beq_self_eq_true, ea, Ret_eq Try.results160]; first | done | rfl) (by simp only [go_sem, hs, ebl, hlb, elim, hhb, beq_self_eq_true, ea, Ret_eq Try.results160]; first | done | rfl) (by decide) (by simp only [go_sem, hs, ebl, hlb, elim, hhb, beq_self_eq_true, ea, Ret_eq Try.results160]; first | done | decide) (by simp only [go_sem, hs, ebl, hlb, elim, hhb, beq_self_eq_true, ea, Ret_eq Try.results160]; first | done | decide) (hpt) ?_
                    rintro _ _ ⟨m, t, rfl, l5, rfl, s5, p5⟩
                    have hR5 := hR2.sw s5
                    have hl5 := hR5.rs.length
                    have q1 := p5.h1
                    have q2 := p5.h2
                    have em1 : (m : Int) - (a1 : Int) = ((m - a1 : Nat) : Int) := by omega
                    have em2 : (b1 : Int) - (m : Int) = ((b1 - m : Nat) : Int) := by omega
                    have em3 : ((b1 - a1 : Nat) : Int).tdiv 8 = ((b1 - a1 : Nat) : Int) / 8 := Int.tdiv_eq_ediv_of_nonneg (by omega)
                    have hA5 := hR5.rh
                    have hAl : Ahd a1 m l5 := by
                      rcases hA5 with z | z
                      · exact .inl z
                      · exact .inr fun k k1 k2 => z k k1 (by omega)
                    have hAr : Ahd (m + 1) b1 l5 := .inr fun k k1 k2 => by
                      rw [show m + 1 - 1 = m by omega]
                      exact p5.h4 k (by omega) k2
                    by_cases hsm : m - a1 < b1 - m
                    · have hrec : SortsL16 _ l5 a1 m lim := ih (m - a1) (by omega) l5 a1 m lim (Nat.le_refl _) q1 (by omega) (by omega) (by omega) hAl
                      unfold SortsL16 at hrec
                      rw [hl5] at hrec
                      repeat' (first | simp only [go_sem, hs, ebl, hlb, elim, hhb, beq_self_eq_true, ea, em1, em2, em3, Ret_eq Try.results160] | simp (disch := omega) only [arith, IntKind.bits, capMax, fill_len, elt_fill] | fail)
                      refine opCallI_lend [0] (by simp only [go_sem, hs, ebl, hlb, elim, hhb, beq_self_eq_true, ea, em1, em2, em3, Ret_eq Try.results160]; first | done | rfl) (by simp only [go_sem, hs, ebl, hlb, elim, hhb, beq_self_eq_true, ea, em1, em2, em3, Ret_eq Try.results160]; first | done | rfl) (by decide) (by simp only [go_sem, hs, ebl, hlb, elim, hhb, beq_self_eq_true, ea, em1, em2, em3, Ret_eq Try.results160]; first | done | decide) (by simp only [go_sem, hs, ebl, hlb, elim, hhb, beq_self_eq_true, ea, em1, em2, em3, Ret_eq Try.results160]; first | done | decide) (hrec) ?_
                      rintro _ _ ⟨rfl, l6, rfl, s6, d6⟩
                      repeat' (first | simp only [go_sem, hs, ebl, hlb, elim, hhb, beq_self_eq_true, ea, em1, em2, em3, Ret_eq Try.results160] | simp (disch := omega) only [arith, IntKind.bits, capMax, fill_len, elt_fill] | fail)
                      refine AgainW.to (m + 1, b1, lim, decide (((b1 - a1 : Nat) : Int) / 8 ≤ ((m - a1 : Nat) : Int)), t, l6) ?_ ?_ ?_
                      · show b1 - (m + 1) < b1 - a1; omega
                      · exact ⟨hR5.left p5 s6 d6, by show lim ≤ 60000; omega⟩
                      · simp only [go_sem, hs, ebl, hlb, elim, hhb, beq_self_eq_true, ea, em1, em2, em3, Ret_eq Try.results160]
                    · have hrec : SortsL16 _ l5 (m + 1) b1 lim := ih (b1 - (m + 1)) (by omega) l5 (m + 1) b1 lim (Nat.le_refl _) (by omega) (by omega) (by omega) (by omega) hAr
                      unfold SortsL16 at hrec
                      rw [hl5] at hrec
                      repeat' (first | simp only [go_sem, hs, ebl, hlb, elim, hhb, beq_self_eq_true, ea, em1, em2, em3, Ret_eq Try.results160] | simp (disch := omega) only [arith, IntKind.bits, capMax, fill_len, elt_fill] | fail)
                      refine opCallI_lend [0] (by simp only [go_sem, hs, ebl, hlb, elim, hhb, beq_self_eq_true, ea, em1, em2, em3, Ret_eq Try.results160]; first | done | rfl) (by simp only [go_sem, hs, ebl, hlb, elim, hhb, beq_self_eq_true, ea, em1, em2, em3, Ret_eq Try.results160]; first | done | rfl) (by decide) (by simp only [go_sem, hs, ebl, hlb, elim, hhb, beq_self_eq_true, ea, em1, em2, em3, Ret_eq Try.results160]; first | done | decide) (by simp only [go_sem, hs, ebl, hlb, elim, hhb, beq_self_eq_true, ea, em1, em2, em3, Ret_eq Try.results160]; first | done | decide) (hrec) ?_
                      rintro _ _ ⟨rfl, l6, rfl, s6, d6⟩
                      repeat' (first | simp only [go_sem, hs, ebl, hlb, elim, hhb, beq_self_eq_true, ea, em1, em2, em3, Ret_eq Try.results160] | fail)
                      refine AgainW.to (a1, m, lim, decide (((b1 - a1 : Nat) : Int) / 8 ≤ ((b1 - m : Nat) : Int)), t, l6) ?_ ?_ ?_
                      · show m - a1 < b1 - a1; omega
                      · exact ⟨hR5.right p5 s6 d6, by show lim ≤ 60000; omega⟩
                      · simp only [go_sem, hs, ebl, hlb, elim, hhb, beq_self_eq_true, ea, em1, em2, em3, Ret_eq Try.results160]
                  · rw [decide_eq_false hlt] at hls
                    repeat' (first | simp only [go_sem, hs, ebl, hlb, elim, hhb, beq_self_eq_true, ea, hL, Ret_eq Try.results160] | simp (disch := omega) only [arith, IntKind.bits, capMax, fill_len, elt_fill] | (refine awpI_draw2 (id := 17) (.one false 0 (.one false 1 (.one false 2 (.one false 3 (.one false 4 (.one false 5 (.one false 6 (.one false 7 (.one false 8 (.one false 9 (.one false 10 (.one false 11 (.only 12 (.one false 13 (.one false 14 .done))))))))))))))) mixed (by decide +kernel) (by decide +kernel) ?_) | (refine opCallI_rd (by simp only [go_sem, hs, ebl, hlb, elim, hhb, beq_self_eq_true, ea, hL, Ret_eq Try.results160]; first | done | rfl) (hls) (by rintro _ rfl; rfl) ?_; rintro _ rfl) | fail)
                    have hpe := partEq16 l1 a1 b1 x hv (by omega) (by omega)
                    rw [hL] at hpe
                    refine opCallI_lend [0] (by simp only [go_sem, hs, ebl, hlb, elim, hhb, beq_self_eq_true, ea, Ret_eq Try.results160]; first | done | rfl) (by simp only [go_sem, hs, ebl, hlb, elim, hhb, beq_self_eq_true, ea, Ret_eq Try.results160]; first | done | rfl) (by decide) (by simp only [go_sem, hs, ebl, hlb, elim, hhb, beq_self_eq_true, ea, Ret_eq Try.results160]; first | done | decide) (by simp only [go_sem, hs, ebl, hlb, elim, hhb, beq_self_eq_true, ea, Ret_eq Try.results160]; first | done | decide) (hpe) ?_
                    rintro _ _ ⟨m, rfl, l5, rfl, s5, p5⟩
                    repeat' (first | simp only [go_sem, hs, ebl, hlb, elim, hhb, beq_self_eq_true, ea, Ret_eq Try.results160] | fail)
                    refine AgainW.to (m, b1, lim, true, false, l5) ?_ ?_ ?_
                    · show b1 - m < b1 - a1; have := p5.h1; have := p5.h2; omega
                    · exact ⟨(hR2.sw s5).eqPart p5 (s5.all (P := fun z => _ ≤ z) (hR2.ahead ha hv (by omega))), by show lim ≤ 60000; omega⟩
                    · simp only [go_sem, hs, ebl, hlb, elim, hhb, beq_self_eq_true, ea, Ret_eq Try.results160]
                · repeat' (first | simp only [go_sem, hs, ebl, hlb, elim, hhb, beq_self_eq_true, Ret_eq Try.results160] | simp (disch := omega) only [arith, IntKind.bits, capMax, fill_len, elt_fill] | (refine awpI_draw2 (id := 17) (.one false 0 (.one false 1 (.one false 2 (.one false 3 (.one false 4 (.one false 5 (.one false 6 (.one false 7 (.one false 8 (.one false 9 (.one false 10 (.one false 11 (.only 12 (.one false 13 (.one false 14 .done))))))))))))))) mixed (by decide +kernel) (by decide +kernel) ?_) | fail)
                  have hpt := part16 l1 a1 b1 x hv (by omega) (by omega)
                  rw [hL] at hpt
                  refine opCallI_lend [0] (by simp only [go_sem, hs, ebl, hlb, elim, hhb, beq_self_eq_true, Ret_eq Try.results160]; first | done | rfl) (by simp only [go_sem, hs, ebl, hlb, elim, hhb, beq_self_eq_true, Ret_eq Try.results160]; first | done | rfl) (by decide) (by simp only [go_sem, hs, ebl, hlb, elim, hhb, beq_self_eq_true, Ret_eq Try.results160]; first | done | decide) (by simp only [go_sem, hs, ebl, hlb, elim, hhb, beq_self_eq_true, Ret_eq Try.results160]; first | done | decide) (hpt) ?_
                  rintro _ _ ⟨m, t, rfl, l5, rfl, s5, p5⟩
                  have hR5 := hR2.sw s5
                  have hl5 := hR5.rs.length
                  have q1 := p5.h1
                  have q2 := p5.h2
                  have em1 : (m : Int) - (a1 : Int) = ((m - a1 : Nat) : Int) := by omega
                  have em2 : (b1 : Int) - (m : Int) = ((b1 - m : Nat) : Int) := by omega
                  have em3 : ((b1 - a1 : Nat) : Int).tdiv 8 = ((b1 - a1 : Nat) : Int) / 8 := Int.tdiv_eq_ediv_of_nonneg (by omega)
                  have hA5 := hR5.rh
                  have hAl : Ahd a1 m l5 := by
                    rcases hA5 with z | z
                    · exact .inl z
                    · exact .inr fun k k1 k2 => z k k1 (by omega)
                  have hAr : Ahd (m + 1) b1 l5 := .inr fun k k1 k2 => by
                    rw [show m + 1 - 1 = m by omega]
                    exact p5.h4 k (by omega) k2
                  by_cases hsm : m - a1 < b1 - m
                  · have hrec : SortsL16 _ l5 a1 m lim := ih (m - a1) (by omega) l5 a1 m lim (Nat.le_refl _) q1 (by omega) (by omega) (by omega) hAl
                    unfold SortsL16 at hrec
                    rw [hl5] at hrec
                    repeat' (first | simp only [go_sem, hs, ebl, hlb, elim, hhb, beq_self_eq_true, em1, em2, em3, Ret_eq Try.results160] | simp (disch := omega) only [arith, IntKind.bits, capMax, fill_len, elt_fill] | fail)
                    refine opCallI_lend [0] (by simp only [go_sem, hs, ebl, hlb, elim, hhb, beq_self_eq_true, em1, em2, em3, Ret_eq Try.results160]; first | done | rfl) (by simp only [go_sem, hs, ebl, hlb, elim, hhb, beq_self_eq_true, em1, em2, em3, Ret_eq Try.results160]; first | done | rfl) (by decide) (by simp only [go_sem, hs, ebl, hlb, elim, hhb, beq_self_eq_true, em1, em2, em3, Ret_eq Try.results160]; first | done | decide) (by simp only [go_sem, hs, ebl, hlb, elim, hhb, beq_self_eq_true, em1, em2, em3, Ret_eq Try.results160]; first | done | decide) (hrec) ?_
                    rintro _ _ ⟨rfl, l6, rfl, s6, d6⟩
                    repeat' (first | simp only [go_sem, hs, ebl, hlb, elim, hhb, beq_self_eq_true, em1, em2, em3, Ret_eq Try.results160] | simp (disch := omega) only [arith, IntKind.bits, capMax, fill_len, elt_fill] | fail)
                    refine AgainW.to (m + 1, b1, lim, decide (((b1 - a1 : Nat) : Int) / 8 ≤ ((m - a1 : Nat) : Int)), t, l6) ?_ ?_ ?_
                    · show b1 - (m + 1) < b1 - a1; omega
                    · exact ⟨hR5.left p5 s6 d6, by show lim ≤ 60000; omega⟩
                    · simp only [go_sem, hs, ebl, hlb, elim, hhb, beq_self_eq_true, em1, em2, em3, Ret_eq Try.results160]
                  · have hrec : SortsL16 _ l5 (m + 1) b1 lim := ih (b1 - (m + 1)) (by omega) l5 (m + 1) b1 lim (Nat.le_refl _) (by omega) (by omega) (by omega) (by omega) hAr
                    unfold SortsL16 at hrec
                    rw [hl5] at hrec
                    repeat' (first | simp only [go_sem, hs, ebl, hlb, elim, hhb, beq_self_eq_true, em1, em2, em3, Ret_eq Try.results160] | simp (disch := omega) only [arith, IntKind.bits, capMax, fill_len, elt_fill] | fail)
                    refine opCallI_lend [0] (by simp only [go_sem, hs, ebl, hlb, elim, hhb, beq_self_eq_true, em1, em2, em3, Ret_eq Try.results160]; first | done | rfl) (by simp only [go_sem, hs, ebl, hlb, elim, hhb, beq_self_eq_true, em1, em2, em3, Ret_eq Try.results160]; first | done | rfl) (by decide) (by simp only [go_sem, hs, ebl, hlb, elim, hhb, beq_self_eq_true, em1, em2, em3, Ret_eq Try.results160]; first | done | decide) (by simp only [go_sem, hs, ebl, hlb, elim, hhb, beq_self_eq_true, em1, em2, em3, Ret_eq Try.results160]; first | done | decide) (hrec) ?_
                    rintro _ _ ⟨rfl, l6, rfl, s6, d6⟩
                    repeat' (first | simp only [go_sem, hs, ebl, hlb, elim, hhb, beq_self_eq_true, em1, em2, em3, Ret_eq Try.results160] | fail)
                    refine AgainW.to (a1, m, lim, decide (((b1 - a1 : Nat) : Int) / 8 ≤ ((b1 - m : Nat) : Int)), t, l6) ?_ ?_ ?_
                    · show m - a1 < b1 - a1; omega
                    · exact ⟨hR5.right p5 s6 d6, by show lim ≤ 60000; omega⟩
                    · simp only [go_sem, hs, ebl, hlb, elim, hhb, beq_self_eq_true, em1, em2, em3, Ret_eq Try.results160]
            · have h1b : (h == 1) = false := beq_eq_false_iff_ne.2 h1
              cases wp with
              | true =>
                have hL : l1.length = l.length := hR2.rs.length
                by_cases ha : 0 < a1
                · have ea : (a1 : Int) - 1 = ((a1 - 1 : Nat) : Int) := by omega
                  have hls := lessS16_fun (l1.getD (a1 - 1) 0) (l1.getD x 0)
                  by_cases hlt : l1.getD (a1 - 1) 0 < l1.getD x 0
                  · rw [decide_eq_true hlt] at hls
                    repeat' (first | simp only [go_sem, hs, ebl, hlb, elim, hhb, h1b, ea, hL, Ret_eq Try.results160] | simp (disch := omega) only [arith, IntKind.bits, capMax, fill_len, elt_fill] | (refine awpI_draw2 (id := 17) (.one false 0 (.one false 1 (.one false 2 (.one false 3 (.one false 4 (.one false 5 (.one false 6 (.one false 7 (.one false 8 (.one false 9 (.one false 10 (.one false 11 (.only 12 (.one false 13 (.one false 14 .done))))))))))))))) mixed (by decide +kernel) (by decide +kernel) ?_) | (refine opCallI_rd (by simp only [go_sem, hs, ebl, hlb, elim, hhb, h1b, ea, hL, Ret_eq Try.results160]; first | done | rfl) (hls) (by rintro _ rfl; rfl) ?_; rintro _ rfl) | fail)
                    have hpt := part16 l1 a1 b1 x hv (by omega) (by omega)
                    rw [hL] at hpt
                    refine opCallI_lend [0] (by simp only [go_sem, hs, ebl, hlb, elim, hhb, h1b, ea, Ret_eq Try.results160]; first | done | rfl) (by simp only [go_sem, hs, ebl, hlb, elim, hhb, h1b, ea, Ret_eq Try.results160]; first | done | rfl) (by decide) (by simp only [go_sem, hs, ebl, hlb, elim, hhb, h1b, ea, Ret_eq Try.results160]; first | done | decide) (by simp only [go_sem, hs, ebl, hlb, elim, hhb, h1b, ea, Ret_eq Try.results160]; first | done | decide) (hpt) ?_
                    rintro _ _ ⟨m, t, rfl, l5, rfl, s5, p5⟩
                    have hR5 := hR2.sw s5
                    have hl5 := hR5.rs.length
                    have q1 := p5.h1
                    have q2 := p5.h2
                    have em1 : (m : Int) - (a1 : Int) = ((m - a1 : Nat) : Int) := by omega
                    have em2 : (b1 : Int) - (m : Int) = ((b1 - m : Nat) : Int) := by omega
                    have em3 : ((b1 - a1 : Nat) : Int).tdiv 8 = ((b1 - a1 : Nat) : Int) / 8 := Int.tdiv_eq_ediv_of_nonneg (by omega)
                    have hA5 := hR5.rh
                    have hAl : Ahd a1 m l5 := by
                      rcases hA5 with z | z
                      · exact .inl z
                      · exact .inr fun k k1 k2 => z k k1 (by omega)
                    have hAr : Ahd (m + 1) b1 l5 := .inr fun k k1 k2 => by
                      rw [show m + 1 - 1 = m by omega]
                      exact p5.h4 k (by omega) k2
                    by_cases hsm : m - a1 < b1 - m
                    · have hrec : SortsL16 _ l5 a1 m lim := ih (m - a1) (by omega) l5 a1 m lim (Nat.le_refl _) q1 (by omega) (by omega) (by omega) hAl
                      unfold SortsL16 at hrec
                      rw [hl5] at hrec
                      repeat' (first | simp only [go_sem, hs, ebl, hlb, elim, hhb, h1b, ea, em1, em2, em3, Ret_eq Try.results160] | simp (disch := omega) only [arith, IntKind.bits, capMax, fill_len, elt_fill] | fail)
                      refine opCallI_lend [0] (by simp only [go_sem, hs, ebl, hlb, elim, hhb, h1b, ea, em1, em2, em3, Ret_eq Try.results160]; first | done | rfl) (by simp only [go_sem, hs, ebl, hlb, elim, hhb, h1b, ea, em1, em2, em3, Ret_eq Try.results160]; first | done | rfl) (by decide) (by simp only [go_sem, hs, ebl, hlb, elim, hhb, h1b, ea, em1, em2, em3, Ret_eq Try.results160]; first | done | decide) (by simp only [go_sem, hs, ebl, hlb, elim, hhb, h1b, ea, em1, em2, em3, Ret_eq Try.results160]; first | done | decide) (hrec) ?_
                      rintro _ _ ⟨rfl, l6, rfl, s6, d6⟩
                      repeat' (first | simp only [go_sem, hs, ebl, hlb, elim, hhb, h1b, ea, em1, em2, em3, Ret_eq Try.results160] | simp (disch := omega) only [arith, IntKind.bits, capMax, fill_len, elt_fill] | fail)
                      refine AgainW.to (m + 1, b1, lim, decide (((b1 - a1 : Nat) : Int) / 8 ≤ ((m - a1 : Nat) : Int)), t, l6) ?_ ?_ ?_
                      · show b1 - (m + 1) < b1 - a1; omega
                      · exact ⟨hR5.left p5 s6 d6, by show lim ≤ 60000; omega⟩
                      · simp only [go_sem, hs, ebl, hlb, elim, hhb, h1b, ea, em1, em2, em3, Ret_eq Try.results160]
                    · have hrec : SortsL16 _ l5 (m + 1) b1 lim := ih (b1 - (m + 1)) (by omega) l5 (m + 1) b1 lim (Nat.le_refl _) (by omega) (by omega) (by omega) (by omega) hAr
                      unfold SortsL16 at hrec
                      rw [hl5] at hrec
                      repeat' (first | simp only [go_sem, hs, ebl, hlb, elim, hhb, h1b, ea, em1, em2, em3, Ret_eq Try.results160] | simp (disch := omega) only [arith, IntKind.bits, capMax, fill_len, elt_fill] | fail)
                      refine opCallI_lend [0] (by simp only [go_sem, hs, ebl, hlb, elim, hhb, h1b, ea, em1, em2, em3, Ret_eq Try.results160]; first | done | rfl) (by simp only [go_sem, hs, ebl, hlb, elim, hhb, h1b, ea, em1, em2, em3, Ret_eq Try.results160]; first | done | rfl) (by decide) (by simp only [go_sem, hs, ebl, hlb, elim, hhb, h1b, ea, em1, em2, em3, Ret_eq Try.results160]; first | done | decide) (by simp only [go_sem, hs, ebl, hlb, elim, hhb, h1b, ea, em1, em2, em3, Ret_eq Try.results160]; first | done | decide) (hrec) ?_
                      rintro _ _ ⟨rfl, l6, rfl, s6, d6⟩
                      repeat' (first | simp only [go_sem, hs, ebl, hlb, elim, hhb, h1b, ea, em1, em2, em3, Ret_eq Try.results160] | fail)
                      refine AgainW.to (a1, m, lim, decide (((b1 - a1 : Nat) : Int) / 8 ≤ ((b1 - m : Nat) : Int)), t, l6) ?_ ?_ ?_
                      · show m - a1 < b1 - a1; omega
                      · exact ⟨hR5.right p5 s6 d6, by show lim ≤ 60000; omega⟩
                      · simp only [go_sem, hs, ebl, hlb, elim, hhb, h1b, ea, em1, em2, em3, Ret_eq Try.results160]
                  · rw [decide_eq_false hlt] at hls
                    repeat' (first | simp only [go_sem, hs, ebl, hlb, elim, hhb, h1b, ea, hL, Ret_eq Try.results160] | simp (disch := omega) only [arith, IntKind.bits, capMax, fill_len, elt_fill] | (refine awpI_draw2 (id := 17) (.one false 0 (.one false 1 (.one false 2 (.one false 3 (.one false 4 (.one false 5 (.one false 6 (.one false 7 (.one false 8 (.one false 9 (.one false 10 (.one false 11 (.only 12 (.one false 13 (.one false 14 .done))))))))))))))) mixed (by decide +kernel) (by decide +kernel) ?_) | (refine opCallI_rd (by simp only [go_sem, hs, ebl, hlb, elim, hhb, h1b, ea, hL, Ret_eq Try.results160]; first | done | rfl) (hls) (by rintro _ rfl; rfl) ?_; rintro _ rfl) | fail)
                    have hpe := partEq16 l1 a1 b1 x hv (by omega) (by omega)
                    rw [hL] at hpe
                    refine opCallI_lend [0] (by simp only [go_sem, hs, ebl, hlb, elim, hhb, h1b, ea, Ret_eq Try.results160]; first | done | rfl) (by simp only [go_sem, hs, ebl, hlb, elim, hhb, h1b, ea, Ret_eq Try.results160]; first | done | rfl) (by decide) (by simp only [go_sem, hs, ebl, hlb, elim, hhb, h1b, ea, Ret_eq Try.results160]; first | done | decide) (by simp only [go_sem, hs, ebl, hlb, elim, hhb, h1b, ea, Ret_eq Try.results160]; first | done | decide) (hpe) ?_
                    rintro _ _ ⟨m, rfl, l5, rfl, s5, p5⟩
                    repeat' (first | simp only [go_sem, hs, ebl, hlb, elim, hhb, h1b, ea, Ret_eq Try.results160] | fail)
                    refine AgainW.to (m, b1, lim, true, true, l5) ?_ ?_ ?_
                    · show b1 - m < b1 - a1; have := p5.h1; have := p5.h2; omega
                    · exact ⟨(hR2.sw s5).eqPart p5 (s5.all (P := fun z => _ ≤ z) (hR2.ahead ha hv (by omega))), by show lim ≤ 60000; omega⟩
                    · simp only [go_sem, hs, ebl, hlb, elim, hhb, h1b, ea, Ret_eq Try.results160]
                · repeat' (first | simp only [go_sem, hs, ebl, hlb, elim, hhb, h1b, Ret_eq Try.results160] | simp (disch := omega) only [arith, IntKind.bits, capMax, fill_len, elt_fill] | (refine awpI_draw2 (id := 17) (.one false 0 (.one false 1 (.one false 2 (.one false 3 (.one false 4 (.one false 5 (.one false 6 (.one false 7 (.one false 8 (.one false 9 (.one false 10 (.one false 11 (.only 12 (.one false 13 (.one false 14 .done))))))))))))))) mixed (by decide +kernel) (by decide +kernel) ?_) | fail)
                  have hpt := part16 l1 a1 b1 x hv (by omega) (by omega)
                  rw [hL] at hpt
                  refine opCallI_lend [0] (by simp only [go_sem, hs, ebl, hlb, elim, hhb, h1b, Ret_eq Try.results160]; first | done | rfl) (by simp only [go_sem, hs, ebl, hlb, elim, hhb, h1b, Ret_eq Try.results160]; first | done | rfl) (by decide) (by simp only [go_sem, hs, ebl, hlb, elim, hhb, h1b, Ret_eq Try.results160]; first | done | decide) (by simp only [go_sem, hs, ebl, hlb, elim, hhb, h1b, Ret_eq Try.results160]; first | done | decide) (hpt) ?_
                  rintro _ _ ⟨m, t, rfl, l5, rfl, s5, p5⟩
                  have hR5 := hR2.sw s5
                  have hl5 := hR5.rs.length
                  have q1 := p5.h1
                  have q2 := p5.h2
                  have em1 : (m : Int) - (a1 : Int) = ((m - a1 : Nat) : Int) := by omega
                  have em2 : (b1 : Int) - (m : Int) = ((b1 - m : Nat) : Int) := by omega
                  have em3 : ((b1 - a1 : Nat) : Int).tdiv 8 = ((b1 - a1 : Nat) : Int) / 8 := Int.tdiv_eq_ediv_of_nonneg (by omega)
                  have hA5 := hR5.rh
                  have hAl : Ahd a1 m l5 := by
                    rcases hA5 with z | z
                    · exact .inl z
                    · exact .inr fun k k1 k2 => z k k1 (by omega)
                  have hAr : Ahd (m + 1) b1 l5 := .inr fun k k1 k2 => by
                    rw [show m + 1 - 1 = m by omega]
                    exact p5.h4 k (by omega) k2
                  by_cases hsm : m - a1 < b1 - m
                  · have hrec : SortsL16 _ l5 a1 m lim := ih (m - a1) (by omega) l5 a1 m lim (Nat.le_refl _) q1 (by omega) (by omega) (by omega) hAl
                    unfold SortsL16 at hrec
                    rw [hl5] at hrec
                    repeat' (first | simp only [go_sem, hs, ebl, hlb, elim, hhb, h1b, em1, em2, em3, Ret_eq Try.results160] | simp (disch := omega) only [arith, IntKind.bits, capMax, fill_len, elt_fill] | fail)
                    refine opCallI_lend [0] (by simp only [go_sem, hs, ebl, hlb, elim, hhb, h1b, em1, em2, em3, Ret_eq Try.results160]; first | done | rfl) (by simp only [go_sem, hs, ebl, hlb, elim, hhb, h1b, em1, em2, em3, Ret_eq Try.results160]; first | done | rfl) (by decide) (by simp only [go_sem, hs, ebl, hlb, elim, hhb, h1b, em1, em2, em3, Ret_eq Try.results160]; first | done | decide) (by simp only [go_sem, hs, ebl, hlb, elim, hhb, h1b, em1, em2, em3, Ret_eq Try.results160]; first | done | decide) (hrec) ?_
                    rintro _ _ ⟨rfl, l6, rfl, s6, d6⟩
                    repeat' (first | simp only [go_sem, hs, ebl, hlb, elim, hhb, h1b, em1, em2, em3, Ret_eq Try.results160] | simp (disch := omega) only [arith, IntKind.bits, capMax, fill_len, elt_fill] | fail)
                    refine AgainW.to (m + 1, b1, lim, decide (((b1 - a1 : Nat) : Int) / 8 ≤ ((m - a1 : Nat) : Int)), t, l6) ?_ ?_ ?_
                    · show b1 - (m + 1) < b1 - a1; omega
                    · exact ⟨hR5.left p5 s6 d6, by show lim ≤ 60000; omega⟩
                    · simp only [go_sem, hs, ebl, hlb, elim, hhb, h1b, em1, em2, em3, Ret_eq Try.results160]
                  · have hrec : SortsL16 _ l5 (m + 1) b1 lim := ih (b1 - (m + 1)) (by omega) l5 (m + 1) b1 lim (Nat.le_refl _) (by omega) (by omega) (by omega) (by omega) hAr
                    unfold SortsL16 at hrec
                    rw [hl5] at hrec
                    repeat' (first | simp only [go_sem, hs, ebl, hlb, elim, hhb, h1b, em1, em2, em3, Ret_eq Try.results160] | simp (disch := omega) only [arith, IntKind.bits, capMax, fill_len, elt_fill] | fail)
                    refine opCallI_lend [0] (by simp only [go_sem, hs, ebl, hlb, elim, hhb, h1b, em1, em2, em3, Ret_eq Try.results160]; first | done | rfl) (by simp only [go_sem, hs, ebl, hlb, elim, hhb, h1b, em1, em2, em3, Ret_eq Try.results160]; first | done | rfl) (by decide) (by simp only [go_sem, hs, ebl, hlb, elim, hhb, h1b, em1, em2, em3, Ret_eq Try.results160]; first | done | decide) (by simp only [go_sem, hs, ebl, hlb, elim, hhb, h1b, em1, em2, em3, Ret_eq Try.results160]; first | done | decide) (hrec) ?_
                    rintro _ _ ⟨rfl, l6, rfl, s6, d6⟩
                    repeat' (first | simp only [go_sem, hs, ebl, hlb, elim, hhb, h1b, em1, em2, em3, Ret_eq Try.results160] | fail)
                    refine AgainW.to (a1, m, lim, decide (((b1 - a1 : Nat) : Int) / 8 ≤ ((b1 - m : Nat) : Int)), t, l6) ?_ ?_ ?_
                    · show m - a1 < b1 - a1; omega
                    · exact ⟨hR5.right p5 s6 d6, by show lim ≤ 60000; omega⟩
                    · simp only [go_sem, hs, ebl, hlb, elim, hhb, h1b, em1, em2, em3, Ret_eq Try.results160]
              | false =>
                have hL : l1.length = l.length := hR2.rs.length
                by_cases ha : 0 < a1
                · have ea : (a1 : Int) - 1 = ((a1 - 1 : Nat) : Int) := by omega
                  have hls := lessS16_fun (l1.getD (a1 - 1) 0) (l1.getD x 0)
                  by_cases hlt : l1.getD (a1 - 1) 0 < l1.getD x 0
                  · rw [decide_eq_true hlt] at hls
                    repeat' (first | simp only [go_sem, hs, ebl, hlb, elim, hhb, h1b, ea, hL, Ret_eq Try.results160] | simp (disch := omega) only [arith, IntKind.bits, capMax, fill_len, elt_fill] | (refine awpI_draw2 (id := 17) (.one false 0 (.one false 1 (.one false 2 (.one false 3 (.one false 4 (.one false 5 (.one false 6 (.one false 7 (.one false 8 (.one false 9 (.one false 10 (.one false 11 (.only 12 (.one false 13 (.one false 14 .done))))))))))))))) mixed (by decide +kernel) (by decide +kernel) ?_) | (refine opCallI_rd (by simp only [go_sem, hs, ebl, hlb, elim, hhb, h1b, ea, hL, Ret_eq Try.results160]; first | done | rfl) (hls) (by rintro _ rfl; rfl) ?_; rintro _ rfl) | fail)
                    have hpt := part16 l1 a1 b1 x hv (by omega) (by omega)
                    rw [hL] at hpt
                    refine opCallI_lend [0] (by simp only [go_sem, hs, ebl, hlb, elim, hhb, h1b, ea, Ret_eq Try.results160]; first | done | rfl) (by simp only [go_sem, hs, ebl, hlb, elim, hhb, h1b, ea, Ret_eq Try.results160]; first | done | rfl) (by decide) (by simp only [go_sem, hs, ebl, hlb, elim, hhb, h1b, ea, Ret_eq Try.results160]; first | done | decide) (by simp only [go_sem, hs, ebl, hlb, elim, hhb, h1b, ea, Ret_eq Try.results160]; first | done | decide) (hpt) ?_
                    rintro _ _ ⟨m, t, rfl, l5, rfl, s5, p5⟩
                    have hR5 := hR2.sw s5
                    have hl5 := hR5.rs.length
                    have q1 := p5.h1
                    have q2 := p5.h2
                    have em1 : (m : Int) - (a1 : Int) = ((m - a1 : Nat) : Int) := by omega
                    have em2 : (b1 : Int) - (m : Int) = ((b1 - m : Nat) : Int) := by omega
                    have em3 : ((b1 - a1 : Nat) : Int).tdiv 8 = ((b1 - a1 : Nat) : Int) / 8 := Int.tdiv_eq_ediv_of_nonneg (by omega)
                    have hA5 := hR5.rh
                    have hAl : Ahd a1 m l5 := by
                      rcases hA5 with z | z
                      · exact .inl z
                      · exact .inr fun k k1 k2 => z k k1 (by omega)
                    have hAr : Ahd (m + 1) b1 l5 := .inr fun k k1 k2 => by
                      rw [show m + 1 - 1 = m by omega]
                      exact p5.h4 k (by omega) k2
                    by_cases hsm : m - a1 < b1 - m
                    · have hrec : SortsL16 _ l5 a1 m lim := ih (m - a1) (by omega) l5 a1 m lim (Nat.le_refl _) q1 (by omega) (by omega) (by omega) hAl
                      unfold SortsL16 at hrec
                      rw [hl5] at hrec
                      repeat' (first | simp only [go_sem, hs, ebl, hlb, elim, hhb, h1b, ea, em1, em2, em3, Ret_eq Try.results160] | simp (disch := omega) only [arith, IntKind.bits, capMax, fill_len, elt_fill] | fail)
                      refine opCallI_lend [0] (by simp only [go_sem, hs, ebl, hlb, elim, hhb, h1b, ea, em1, em2, em3, Ret_eq Try.results160]; first | done | rfl) (by simp only [go_sem, hs, ebl, hlb, elim, hhb, h1b, ea, em1, em2, em3, Ret_eq Try.results160]; first | done | rfl) (by decide) (by simp only [go_sem, hs, ebl, hlb, elim, hhb, h1b, ea, em1, em2, em3, Ret_eq Try.results160]; first | done | decide) (by simp only [go_sem, hs, ebl, hlb, elim, hhb, h1b, ea, em1, em2, em3, Ret_eq Try.results160]; first | done | decide) (hrec) ?_
                      rintro _ _ ⟨rfl, l6, rfl, s6, d6⟩
                      repeat' (first | simp only [go_sem, hs, ebl, hlb, elim, hhb, h1b, ea, em1, em2, em3, Ret_eq Try.results160] | simp (disch := omega) only [arith, IntKind.bits, capMax, fill_len, elt_fill] | fail)
                      refine AgainW.to (m + 1, b1, lim, decide (((b1 - a1 : Nat) : Int) / 8 ≤ ((m - a1 : Nat) : Int)), t, l6) ?_ ?_ ?_
                      · show b1 - (m + 1) < b1 - a1; omega
                      · exact ⟨hR5.left p5 s6 d6, by show lim ≤ 60000; omega⟩
                      · simp only [go_sem, hs, ebl, hlb, elim, hhb, h1b, ea, em1, em2, em3, Ret_eq Try.results160]
                    · have hrec : SortsL16 _ l5 (m + 1) b1 lim := ih (b1 - (m + 1)) (by omega) l5 (m + 1) b1 lim (Nat.le_refl _) (by omega) (by omega) (by omega) (by omega) hAr
                      unfold SortsL16 at hrec
                      rw [hl5] at hrec
                      repeat' (first | simp only [go_sem, hs, ebl, hlb, elim, hhb, h1b, ea, em1, em2, em3, Ret_eq Try.results160] | simp (disch := omega) only [arith, IntKind.bits, capMax, fill_len, elt_fill] | fail)
                      refine opCallI_lend [0] (by simp only [go_sem, hs, ebl, hlb, elim, hhb, h1b, ea, em1, em2, em3, Ret_eq Try.results160]; first | done | rfl) (by simp only [go_sem, hs, ebl, hlb, elim, hhb, h1b, ea, em1, em2, em3, Ret_eq Try.results160]; first | done | rfl) (by decide) (by simp only [go_sem, hs, ebl, hlb, elim, hhb, h1b, ea, em1, em2, em3, Ret_eq Try.results160]; first | done | decide) (by simp only [go_sem, hs, ebl, hlb, elim, hhb, h1b, ea, em1, em2, em3, Ret_eq Try.results160]; first | done | decide) (hrec) ?_
                      rintro _ _ ⟨rfl, l6, rfl, s6, d6⟩
                      repeat' (first | simp only [go_sem, hs, ebl, hlb, elim, hhb, h1b, ea, em1, em2, em3, Ret_eq Try.results160] | fail)
                      refine AgainW.to (a1, m, lim, decide (((b1 - a1 : Nat) : Int) / 8 ≤ ((b1 - m : Nat) : Int)), t, l6) ?_ ?_ ?_
                      · show m - a1 < b1 - a1; omega
                      · exact ⟨hR5.right p5 s6 d6, by show lim ≤ 60000; omega⟩
                      · simp only [go_sem, hs, ebl, hlb, elim, hhb, h1b, ea, em1, em2, em3, Ret_eq Try.results160]
                  · rw [decide_eq_false hlt] at hls
                    repeat' (first | simp only [go_sem, hs, ebl, hlb, elim, hhb, h1b, ea, hL, Ret_eq Try.results160] | simp (disch := omega) only [arith, IntKind.bits, capMax, fill_len, elt_fill] | (refine awpI_draw2 (id := 17) (.one false 0 (.one false 1 (.one false 2 (.one false 3 (.one false 4 (.one false 5 (.one false 6 (.one false 7 (.one false 8 (.one false 9 (.one false 10 (.one false 11 (.only 12 (.one false 13 (.one false 14 .done))))))))))))))) mixed (by decide +kernel) (by decide +kernel) ?_) | (refine opCallI_rd (by simp only [go_sem, hs, ebl, hlb, elim, hhb, h1b, ea, hL, Ret_eq Try.results160]; first | done | rfl) (hls) (by rintro _ rfl; rfl) ?_; rintro _ rfl) | fail)
                    have hpe := partEq16 l1 a1 b1 x hv (by omega) (by omega)
                    rw [hL] at hpe
                    refine opCallI_lend [0] (by simp only [go_sem, hs, ebl, hlb, elim, hhb, h1b, ea, Ret_eq Try.results160]; first | done | rfl) (by simp only [go_sem, hs, ebl, hlb, elim, hhb, h1b, ea, Ret_eq Try.results160]; first | done | rfl) (by decide) (by simp only [go_sem, hs, ebl, hlb, elim, hhb, h1b, ea, Ret_eq Try.results160]; first | done | decide) (by simp only [go_sem, hs, ebl, hlb, elim, hhb, h1b, ea, Ret_eq Try.results160]; first | done | decide) (hpe) ?_
                    rintro _ _ ⟨m, rfl, l5, rfl, s5, p5⟩
                    repeat' (first | simp only [go_sem, hs, ebl, hlb, elim, hhb, h1b, ea, Ret_eq Try.results160] | fail)
                    refine AgainW.to (m, b1, lim, true, false, l5) ?_ ?_ ?_
                    · show b1 - m < b1 - a1; have := p5.h1; have := p5.h2; omega
                    · exact ⟨(hR2.sw s5).eqPart p5 (s5.all (P := fun z => _ ≤ z) (hR2.ahead ha hv (by omega))), by show lim ≤ 60000; omega⟩
                    · simp only [go_sem, hs, ebl, hlb, elim, hhb, h1b, ea, Ret_eq Try.results160]
                · repeat' (first | simp only [go_sem, hs, ebl, hlb, elim, hhb, h1b, Ret_eq Try.results160] | simp (disch := omega) only [arith, IntKind.bits, capMax, fill_len, elt_fill] | (refine awpI_draw2 (id := 17) (.one false 0 (.one false 1 (.one false 2 (.one false 3 (.one false 4 (.one false 5 (.one false 6 (.one false 7 (.one false 8 (.one false 9 (.one false 10 (.one false 11 (.only 12 (.one false 13 (.one false 14 .done))))))))))))))) mixed (by decide +kernel) (by decide +kernel) ?_) | fail)
                  have hpt := part16 l1 a1 b1 x hv (by omega) (by omega)
                  rw [hL] at hpt
                  refine opCallI_lend [0] (by simp only [go_sem, hs, ebl, hlb, elim, hhb, h1b, Ret_eq Try.results160]; first | done | rfl) (by simp only [go_sem, hs, ebl, hlb, elim, hhb, h1b, Ret_eq Try.results160]; first | done | rfl) (by decide) (by simp only [go_sem, hs, ebl, hlb, elim, hhb, h1b, Ret_eq Try.results160]; first | done | decide) (by simp only [go_sem, hs, ebl, hlb, elim, hhb, h1b, Ret_eq Try.results160]; first | done | decide) (hpt) ?_
                  rintro _ _ ⟨m, t, rfl, l5, rfl, s5, p5⟩
                  have hR5 := hR2.sw s5
                  have hl5 := hR5.rs.length
                  have q1 := p5.h1
                  have q2 := p5.h2
                  have em1 : (m : Int) - (a1 : Int) = ((m - a1 : Nat) : Int) := by omega
                  have em2 : (b1 : Int) - (m : Int) = ((b1 - m : Nat) : Int) := by omega
                  have em3 : ((b1 - a1 : Nat) : Int).tdiv 8 = ((b1 - a1 : Nat) : Int) / 8 := Int.tdiv_eq_ediv_of_nonneg (by omega)
                  have hA5 := hR5.rh
                  have hAl : Ahd a1 m l5 := by
                    rcases hA5 with z | z
                    · exact .inl z
                    · exact .inr fun k k1 k2 => z k k1 (by omega)
                  have hAr : Ahd (m + 1) b1 l5 := .inr fun k k1 k2 => by
                    rw [show m + 1 - 1 = m by omega]
                    exact p5.h4 k (by omega) k2
                  by_cases hsm : m - a1 < b1 - m
                  · have hrec : SortsL16 _ l5 a1 m lim := ih (m - a1) (by omega) l5 a1 m lim (Nat.le_refl _) q1 (by omega) (by omega) (by omega) hAl
                    unfold SortsL16 at hrec
                    rw [hl5] at hrec
                    repeat' (first | simp only [go_sem, hs, ebl, hlb, elim, hhb, h1b, em1, em2, em3, Ret_eq Try.results160] | simp (disch := omega) only [arith, IntKind.bits, capMax, fill_len, elt_fill] | fail)
                    refine opCallI_lend [0] (by simp only [go_sem, hs, ebl, hlb, elim, hhb, h1b, em1, em2, em3, Ret_eq Try.results160]; first | done | rfl) (by simp only [go_sem, hs, ebl, hlb, elim, hhb, h1b, em1, em2, em3, Ret_eq Try.results160]; first | done | rfl) (by decide) (by simp only [go_sem, hs, ebl, hlb, elim, hhb, h1b, em1, em2, em3, Ret_eq Try.results160]; first | done | decide) (by simp only [go_sem, hs, ebl, hlb, elim, hhb, h1b, em1, em2, em3, Ret_eq Try.results160]; first | done | decide) (hrec) ?_
                    rintro _ _ ⟨rfl, l6, rfl, s6, d6⟩
                    repeat' (first | simp only [go_sem, hs, ebl, hlb, elim, hhb, h1b, em1, em2, em3, Ret_eq Try.results160] | simp (disch := omega) only [arith, IntKind.bits, capMax, fill_len, elt_fill] | fail)
                    refine AgainW.to (m + 1, b1, lim, decide (((b1 - a1 : Nat) : Int) / 8 ≤ ((m - a1 : Nat) : Int)), t, l6) ?_ ?_ ?_
                    · show b1 - (m + 1) < b1 - a1; omega
                    · exact ⟨hR5.left p5 s6 d6, by show lim ≤ 60000; omega⟩
                    · simp only [go_sem, hs, ebl, hlb, elim, hhb, h1b, em1, em2, em3, Ret_eq Try.results160]
                  · have hrec : SortsL16 _ l5 (m + 1) b1 lim := ih (b1 - (m + 1)) (by omega) l5 (m + 1) b1 lim (Nat.le_refl _) (by omega) (by omega) (by omega) (by omega) hAr
                    unfold SortsL16 at hrec
                    rw [hl5] at hrec
                    repeat' (first | simp only [go_sem, hs, ebl, hlb, elim, hhb, h1b, em1, em2, em3, Ret_eq Try.results160] | simp (disch := omega) only [arith, IntKind.bits, capMax, fill_len, elt_fill] | fail)
                    refine opCallI_lend [0] (by simp only [go_sem, hs, ebl, hlb, elim, hhb, h1b, em1, em2, em3, Ret_eq Try.results160]; first | done | rfl) (by simp only [go_sem, hs, ebl, hlb, elim, hhb, h1b, em1, em2, em3, Ret_eq Try.results160]; first | done | rfl) (by decide) (by simp only [go_sem, hs, ebl, hlb, elim, hhb, h1b, em1, em2, em3, Ret_eq Try.results160]; first | done | decide) (by simp only [go_sem, hs, ebl, hlb, elim, hhb, h1b, em1, em2, em3, Ret_eq Try.results160]; first | done | decide) (hrec) ?_
                    rintro _ _ ⟨rfl, l6, rfl, s6, d6⟩
                    repeat' (first | simp only [go_sem, hs, ebl, hlb, elim, hhb, h1b, em1, em2, em3, Ret_eq Try.results160] | fail)
                    refine AgainW.to (a1, m, lim, decide (((b1 - a1 : Nat) : Int) / 8 ≤ ((b1 - m : Nat) : Int)), t, l6) ?_ ?_ ?_
                    · show m - a1 < b1 - a1; omega
                    · exact ⟨hR5.right p5 s6 d6, by show lim ≤ 60000; omega⟩
                    · simp only [go_sem, hs, ebl, hlb, elim, hhb, h1b, em1, em2, em3, Ret_eq Try.results160]
end Go.Proofs.Ytpkampecmlpfmaa.T

end
section
set_option linter.unusedSimpArgs false
set_option linter.unusedVariables false
/- slices.Sort, walked. -/
namespace Go.Proofs.Ytpkampecmlpfmaa.T
open Go Go.VL Go.Proofs
set_option maxRecDepth 100000
set_option maxHeartbeats 8000000

theorem sort16 (l : List Int) (hl : l.length ≤ 60000) : FunL Try.prog 138 [.ref 0 l.length] [own16 l] fun r os => r = .tup [] ∧ os = [own16 (sortI l)] := by
  refine FunL.of_awpI [(100000, 0)] rfl Try.func138 rfl cal138 Try.ntmps138 (by simp) fun hwf hlw ls => ?_
  simp only [lentWf, D.wfs, D.wf, ints_length, ints_wfs, rows_length, rows_wfs, capMax, and_true, true_and] at hwf hlw
  have hbl := bitsLen_fun l.length (by omega)
  repeat' (first | simp only [go_sem, Ret_eq Try.results138] | simp (disch := omega) only [arith, IntKind.bits, capMax, fill_len, elt_fill] | (refine opCallI_gv (by simp only [go_sem, Ret_eq Try.results138]; first | done | rfl) (hbl) ?_; rintro _ ⟨n, rfl, hn⟩) | fail)
  have hp : SortsL16 _ l 0 l.length n := pdq16 l.length l 0 l.length n (by omega) (Nat.zero_le _) (Nat.le_refl _) hl (by have := hn.1; omega) (.inl rfl)
  unfold SortsL16 at hp
  rw [show ((0 : Nat) : Int) = 0 from rfl] at hp
  refine opCallI_lend [0] (by simp only [go_sem, Ret_eq Try.results138]; first | done | rfl) (by simp only [go_sem, Ret_eq Try.results138]; first | done | rfl) (by decide) (by simp only [go_sem, Ret_eq Try.results138]; first | done | decide) (by simp only [go_sem, Ret_eq Try.results138]; first | done | decide) hp ?_
  rintro _ _ ⟨rfl, l2, rfl, s2, d2⟩
  have e := sortI_of s2 d2
  subst e
  repeat' (first | simp only [go_sem, Ret_eq Try.results138] | refine RetL_calc Try.results138 rfl ?_ | fail)
  all_goals first | exact ⟨rfl, rfl⟩ | rfl
end Go.Proofs.Ytpkampecmlpfmaa.T

end
section
set_option linter.unusedSimpArgs false
set_option linter.unusedVariables false
/- slices.Sorted over slices.Values at int16, walked. -/
namespace Go.Proofs.Ytpkampecmlpfmaa.T
open Go Go.VL Go.Proofs
set_option maxRecDepth 100000
set_option maxHeartbeats 8000000

theorem sorted16 : Sorted16 := by
  intro l h1 h2
  have hcol := collect16_fun l h1 h2
  have hso := sort16 l h2
  have hsl := sortI_length l
  refine FunO.of_awpI Try.func89 rfl cal89 Try.ntmps89 (by simp) fun hwf => ?_
  simp only [D.wfs, D.wf, ints_length, ints_wfs, rows_length, rows_wfs, capMax, and_true, true_and] at hwf
  repeat' (first | simp only [go_sem, Ret_eq Try.results89] | (refine opCallI_ownGv (by simp only [go_sem, Ret_eq Try.results89]; first | done | rfl) (hcol) ?_; rintro _ _ ⟨rfl, rfl⟩) | fail)
  refine opCallI_lend [5] (by simp only [go_sem, Ret_eq Try.results89]; first | done | rfl) (by simp only [go_sem, Ret_eq Try.results89]; first | done | rfl) (by decide) (by simp only [go_sem, Ret_eq Try.results89]; first | done | decide) (by simp only [go_sem, Ret_eq Try.results89]; first | done | decide) hso ?_
  rintro _ _ ⟨rfl, rfl⟩
  repeat' (first | simp only [go_sem, hsl, Ret_eq Try.results89] | refine RetO_calc Try.results89 ?_ | fail)
end Go.Proofs.Ytpkampecmlpfmaa.T

end
section
/- A book as an argument. -/
namespace Go.VL
open Go Go.RowKit
theorem has_book {ds : List D} (h : (Ty.st [.int .i64, .sl (.sl (.int .i16))]).has ds) : ∃ (w : Int) (c : List (List Int)), (Ty.st [.int .i64, .sl (.sl (.int .i16))]).wrap ds = .agg [.v (.int .i64 w), .lst (rows .i16 c)] ∧
    (Lit.int .i64 w).wf = true ∧ ∀ x ∈ c, ∀ n ∈ x, (Lit.int .i16 n).wf = true := by
  obtain ⟨a, b, rfl, h1, b1, b2, rfl, h2, h3⟩ := h
  obtain ⟨w, rfl, hw⟩ := h1
  obtain ⟨els, rfl, h2⟩ := h2
  have h3 : b2 = [] := h3
  subst h3
  obtain ⟨l, e, hl⟩ := has_rows (ds := [.lst (els.map (Ty.sl (.int .i16)).wrap)]) ⟨els, rfl, h2⟩
  refine ⟨w, l, ?_, hw, hl⟩
  have e' : D.lst (els.map (Ty.sl (.int .i16)).wrap) = .lst (rows .i16 l) := e
  show D.agg ([.v (.int .i64 w)] ++ ([.lst (els.map (Ty.sl (.int .i16)).wrap)] ++ [])) = _
  rw [e']
  rfl
end Go.VL

end
