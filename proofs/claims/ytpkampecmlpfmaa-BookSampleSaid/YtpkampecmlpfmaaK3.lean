import Derived.Test.YtpkampecmlpfmaaK2
import Derived.Tactics2
section
set_option linter.unusedSimpArgs false
set_option linter.unusedVariables false
/- Sorting a list as a heap; a span turned about; walked. -/
namespace Go.Proofs.Ytpkampecmlpfmaa.T
open Go Go.VL Go.Proofs
set_option maxRecDepth 100000
set_option maxHeartbeats 4000000

theorem reverse16 (l : List Int) (a b : Nat) (hab : a ≤ b) (hb : b ≤ l.length) (h1 : 1 ≤ b) (hl : l.length ≤ 1000000) : FunL Try.prog 180 [.ref 0 l.length, .v (.int .i64 a), .v (.int .i64 b)] [own16 l] fun r os =>
    r = .tup [] ∧ ∃ l', os = [own16 l'] ∧ Sw a b l l' := by
  refine FunL.of_awpI [(100000, 0)] rfl Try.func180 rfl cal180 Try.ntmps180 (by simp) fun hwf hlw ls => ?_
  simp only [lentWf, D.wfs, D.wf, ints_length, ints_wfs, rows_length, rows_wfs, capMax, and_true, true_and] at hwf hlw
  have e0 : (b : Int) - 1 = ((b - 1 : Nat) : Int) := by omega
  repeat' (first | simp only [go_sem, e0, Ret_eq Try.results180] | simp (disch := omega) only [arith, IntKind.bits, capMax, fill_len, elt_fill] | fail)
  refine awpI_while (σ := Nat × Nat × List Int) (fun x => x.2.1 - x.1) (fun x => a ≤ x.1 ∧ x.2.1 < b ∧ Sw a b l x.2.2) (fun x => [(6, .v (.int .i64 x.1)), (7, .v (.int .i64 x.2.1))]) (fun x => [(0, own16 x.2.2)]) [0, 100000] [] (a, b - 1, l) _ (Weak.refl _) ⟨Nat.le_refl _, by show b - 1 < b; omega, .refl _⟩ ?_ ?_ ?_
  · simp only [go_sem, Ret_eq Try.results180]
  · simp only [go_sem, Ret_eq Try.results180]
  · rintro ⟨i, j, l1⟩ s ⟨hi, hj, hsw⟩ hs
    simp only [go_sem, Ret_eq Try.results180] at hs
    dsimp only at hi hj hsw
    have hl1 := hsw.length
    by_cases hij : i < j
    · have ej : (j : Int) - 1 = ((j - 1 : Nat) : Int) := by omega
      have e2 : (l1.set i (l1.getD j 0)).set j (l1.getD i 0) = sw l1 i j := rfl
      have e4 : (l1.set i (l1.getD j 0)).length = l1.length := List.length_set
      repeat' (first | simp only [go_sem, hs, ej, hl1, e2, List.length_set, Ret_eq Try.results180] | simp (disch := omega) only [arith, IntKind.bits, capMax, fill_len, elt_fill] | (refine awpI_draw2 (id := 3) (.one false 0 (.one false 1 (.one false 4 (.one false 5 (.one false 6 (.one false 7 (.one false 8 (.one false 9 (.one false 10 (.one false 11 (.one false 12 (.mv 2 (.mv 3 (.only 13 (.one false 14 (.only 15 .done)))))))))))))))) mixed (by decide +kernel) (by decide +kernel) ?_) | fail)
      all_goals
        refine AgainW.to (i + 1, j - 1, sw l1 i j) ?_ ?_ ?_
        · show j - 1 - (i + 1) < j - i; omega
        · exact ⟨by show a ≤ i + 1; omega, by show j - 1 < b; omega, .step i j hsw ⟨hi, by omega⟩ ⟨by omega, hj⟩ (by omega)⟩
        · simp only [go_sem, hs, Ret_eq Try.results180]
    · repeat' (first | simp only [go_sem, hs, Ret_eq Try.results180] | simp (disch := omega) only [arith, IntKind.bits, capMax, fill_len, elt_fill] | refine RetL_calc Try.results180 rfl ?_ | fail)
      all_goals exact ⟨rfl, l1, rfl, hsw⟩

theorem sift16 (l : List Int) (lo hi f : Nat) (hh : Hp (lo + 1) hi f l) (hb : f + hi ≤ l.length) (hlo : lo ≤ hi) (hl : l.length ≤ 1000000) : FunL Try.prog 190 [.ref 0 l.length, .v (.int .i64 lo), .v (.int .i64 hi), .v (.int .i64 f)] [own16 l] fun r os =>
    r = .tup [] ∧ ∃ l', os = [own16 l'] ∧ Sw f (f + hi) l l' ∧ Hp lo hi f l' := by
  refine FunL.of_awpI [(100000, 0)] rfl Try.func190 rfl cal190 Try.ntmps190 (by simp) fun hwf hlw ls => ?_
  simp only [lentWf, D.wfs, D.wf, ints_length, ints_wfs, rows_length, rows_wfs, capMax, and_true, true_and] at hwf hlw
  repeat' (first | simp only [go_sem, Ret_eq Try.results190] | fail)
  refine awpI_while (σ := Nat × List Int) (fun x => hi - x.1) (fun x => (lo ≤ x.1 ∧ x.1 ≤ hi) ∧ Sw f (f + hi) l x.2 ∧ HpEx lo hi f x.1 x.2) (fun x => [(8, .v (.int .i64 x.1))]) (fun x => [(0, own16 x.2)]) [0, 2, 3, 100000] [] (lo, l) _ (Weak.refl _) ⟨⟨Nat.le_refl _, hlo⟩, .refl _, HpEx.start hh⟩ ?_ ?_ ?_
  · simp only [go_sem, Ret_eq Try.results190]
  · simp only [go_sem, Ret_eq Try.results190]
  · rintro ⟨r, l1⟩ s ⟨⟨hr1, hr2⟩, hsw, hex⟩ hs
    simp only [go_sem, Ret_eq Try.results190] at hs
    dsimp only at hr1 hr2 hsw hex
    have hl1 := hsw.length
    have er : (2 : Int) * (r : Int) + 1 = ((2 * r + 1 : Nat) : Int) := by omega
    have er1 : ((2 * r + 1 : Nat) : Int) + 1 = ((2 * r + 2 : Nat) : Int) := by omega
    have f0 : (f : Int) + (r : Int) = ((f + r : Nat) : Int) := by omega
    have f1 : (f : Int) + ((2 * r + 1 : Nat) : Int) = ((f + (2 * r + 1) : Nat) : Int) := by omega
    have f2 : (f : Int) + ((2 * r + 2 : Nat) : Int) = ((f + (2 * r + 2) : Nat) : Int) := by omega
    have f3 : ((f + (2 * r + 1) : Nat) : Int) + 1 = ((f + (2 * r + 2) : Nat) : Int) := by omega
    by_cases hc : 2 * r + 1 < hi
    · by_cases hc2 : 2 * r + 2 < hi ∧ l1.getD (f + (2 * r + 1)) 0 < l1.getD (f + (2 * r + 2)) 0
      · obtain ⟨hc2, hlt⟩ := hc2
        have hls := lessS16_fun (l1.getD (f + (2 * r + 1)) 0) (l1.getD (f + (2 * r + 2)) 0)
        rw [decide_eq_true hlt] at hls
        have hls2 := lessS16_fun (l1.getD (f + r) 0) (l1.getD (f + (2 * r + 2)) 0)
        have hd : ∀ d, (d = 2 * r + 1 ∨ d = 2 * r + 2) → d < hi → l1.getD (f + d) 0 ≤ l1.getD (f + (2 * r + 2)) 0 := fun d h1 h2 => by
          rcases h1 with rfl | rfl <;> omega
        by_cases hlt2 : l1.getD (f + r) 0 < l1.getD (f + (2 * r + 2)) 0
        · rw [decide_eq_true hlt2] at hls2
          have e2 : (l1.set (f + r) (l1.getD (f + (2 * r + 2)) 0)).set (f + (2 * r + 2)) (l1.getD (f + r) 0) = sw l1 (f + r) (f + (2 * r + 2)) := rfl
          have e4 : (l1.set (f + r) (l1.getD (f + (2 * r + 2)) 0)).length = l1.length := List.length_set
          repeat' (first | simp only [go_sem, hs, hl1, er, er1, f0, f1, f2, f3, e2, List.length_set, Ret_eq Try.results190] | simp (disch := omega) only [arith, IntKind.bits, capMax, fill_len, elt_fill] | (refine awpI_draw2 (id := 3) (.one false 0 (.one false 1 (.one false 2 (.one false 3 (.one false 4 (.one false 5 (.one false 6 (.one false 7 (.one false 8 (.one false 9 (.one false 10 (.one false 11 (.one false 12 (.one false 13 (.one false 14 (.one false 15 (.one false 16 (.one false 17 (.only 18 (.one false 19 .done)))))))))))))))))))) mixed (by decide +kernel) (by decide +kernel) ?_) | (refine awpI_draw2 (id := 5) (.one false 0 (.one false 1 (.one false 2 (.one false 3 (.one false 4 (.one false 5 (.one false 6 (.one false 7 (.one false 8 (.one false 9 (.one false 10 (.one false 11 (.only 12 (.one false 13 .done)))))))))))))) mixed (by decide +kernel) (by decide +kernel) ?_) | (refine awpI_draw2 (id := 6) (.one false 0 (.one false 1 (.one false 2 (.one false 3 (.one false 8 (.one false 9 (.one false 10 (.one false 11 (.one false 12 (.one false 13 (.one false 14 (.one false 15 (.one false 16 (.one false 17 (.one false 18 (.one false 19 (.one false 20 (.mv 4 (.mv 5 (.mv 6 (.cal 7 [21] (.only 21 (.one false 22 (.only 23 .done)))))))))))))))))))))))) mixed (by decide +kernel) (by decide +kernel) ?_) | (refine opCallI_rd (by simp only [go_sem, hs, hl1, er, er1, f0, f1, f2, f3, e2, List.length_set, Ret_eq Try.results190]; first | done | rfl) (hls) (by rintro _ rfl; rfl) ?_; rintro _ rfl) | (refine opCallI_rd (by simp only [go_sem, hs, hl1, er, er1, f0, f1, f2, f3, e2, List.length_set, Ret_eq Try.results190]; first | done | rfl) (hls2) (by rintro _ rfl; rfl) ?_; rintro _ rfl) | fail)
          all_goals
            refine AgainW.to (2 * r + 2, sw l1 (f + r) (f + (2 * r + 2))) ?_ ?_ ?_
            · show hi - (2 * r + 2) < hi - r; omega
            · exact ⟨⟨by show lo ≤ 2 * r + 2; omega, by show 2 * r + 2 ≤ hi; omega⟩, .step _ _ hsw ⟨by omega, by omega⟩ ⟨by omega, by omega⟩ (by omega), hex.step hr1 (.inr rfl) hc2 hd hlt2 (by omega)⟩
            · simp only [go_sem, hs, Ret_eq Try.results190]
        · rw [decide_eq_false hlt2] at hls2
          repeat' (first | simp only [go_sem, hs, hl1, er, er1, f0, f1, f2, f3, Ret_eq Try.results190] | simp (disch := omega) only [arith, IntKind.bits, capMax, fill_len, elt_fill] | refine RetL_calc Try.results190 rfl ?_ | (refine awpI_draw2 (id := 3) (.one false 0 (.one false 1 (.one false 2 (.one false 3 (.one false 4 (.one false 5 (.one false 6 (.one false 7 (.one false 8 (.one false 9 (.one false 10 (.one false 11 (.one false 12 (.one false 13 (.one false 14 (.one false 15 (.one false 16 (.one false 17 (.only 18 (.one false 19 .done)))))))))))))))))))) mixed (by decide +kernel) (by decide +kernel) ?_) | (refine awpI_draw2 (id := 5) (.one false 0 (.one false 1 (.one false 2 (.one false 3 (.one false 4 (.one false 5 (.one false 6 (.one false 7 (.one false 8 (.one false 9 (.one false 10 (.one false 11 (.only 12 (.one false 13 .done)))))))))))))) mixed (by decide +kernel) (by decide +kernel) ?_) | (refine opCallI_rd (by simp only [go_sem, hs, hl1, er, er1, f0, f1, f2, f3, Ret_eq Try.results190]; first | done | rfl) (hls) (by rintro _ rfl; rfl) ?_; rintro _ rfl) | (refine opCallI_rd (by simp only [go_sem, hs, hl1, er, er1, f0, f1, f2, f3, Ret_eq Try.results190]; first | done | rfl) (hls2) (by rintro _ rfl; rfl) ?_; rintro _ rfl) | fail)
          all_goals exact ⟨rfl, l1, rfl, hsw, hex.done fun d h1 h2 => by have := hd d h1 h2; omega⟩
      · have hls2 := lessS16_fun (l1.getD (f + r) 0) (l1.getD (f + (2 * r + 1)) 0)
        have hd : ∀ d, (d = 2 * r + 1 ∨ d = 2 * r + 2) → d < hi → l1.getD (f + d) 0 ≤ l1.getD (f + (2 * r + 1)) 0 := fun d h1 h2 => by
          rcases h1 with rfl | rfl
          · exact Int.le_refl _
          · refine Int.not_lt.1 fun q => hc2 ⟨h2, q⟩
        have hls := lessS16_fun (l1.getD (f + (2 * r + 1)) 0) (l1.getD (f + (2 * r + 2)) 0)
        by_cases hlt2 : l1.getD (f + r) 0 < l1.getD (f + (2 * r + 1)) 0
        · rw [decide_eq_true hlt2] at hls2
          have e2 : (l1.set (f + r) (l1.getD (f + (2 * r + 1)) 0)).set (f + (2 * r + 1)) (l1.getD (f + r) 0) = sw l1 (f + r) (f + (2 * r + 1)) := rfl
          have e4 : (l1.set (f + r) (l1.getD (f + (2 * r + 1)) 0)).length = l1.length := List.length_set
          by_cases hc3 : 2 * r + 2 < hi
          · rw [decide_eq_false (fun q => hc2 ⟨hc3, q⟩)] at hls
            repeat' (first | simp only [go_sem, hs, hl1, er, er1, f0, f1, f2, f3, e2, List.length_set, Ret_eq Try.results190] | simp (disch := omega) only [arith, IntKind.bits, capMax, fill_len, elt_fill] | (refine awpI_draw2 (id := 3) (.one false 0 (.one false 1 (.one false 2 (.one false 3 (.one false 4 (.one false 5 (.one false 6 (.one false 7 (.one false 8 (.one false 9 (.one false 10 (.one false 11 (.one false 12 (.one false 13 (.one false 14 (.one false 15 (.one false 16 (.one false 17 (.only 18 (.one false 19 .done)))))))))))))))))))) mixed (by decide +kernel) (by decide +kernel) ?_) | (refine awpI_draw2 (id := 5) (.one false 0 (.one false 1 (.one false 2 (.one false 3 (.one false 4 (.one false 5 (.one false 6 (.one false 7 (.one false 8 (.one false 9 (.one false 10 (.one false 11 (.only 12 (.one false 13 .done)))))))))))))) mixed (by decide +kernel) (by decide +kernel) ?_) | (refine awpI_draw2 (id := 6) (.one false 0 (.one false 1 (.one false 2 (.one false 3 (.one false 8 (.one false 9 (.one false 10 (.one false 11 (.one false 12 (.one false 13 (.one false 14 (.one false 15 (.one false 16 (.one false 17 (.one false 18 (.one false 19 (.one false 20 (.mv 4 (.mv 5 (.mv 6 (.cal 7 [21] (.only 21 (.one false 22 (.only 23 .done)))))))))))))))))))))))) mixed (by decide +kernel) (by decide +kernel) ?_) | (refine opCallI_rd (by simp only [go_sem, hs, hl1, er, er1, f0, f1, f2, f3, e2, List.length_set, Ret_eq Try.results190]; first | done | rfl) (hls) (by rintro _ rfl; rfl) ?_; rintro _ rfl) | (refine opCallI_rd (by simp only [go_sem, hs, hl1, er, er1, f0, f1, f2, f3, e2, List.length_set, Ret_eq Try.results190]; first | done | rfl) (hls2) (by rintro _ rfl; rfl) ?_; rintro _ rfl) | fail)
            all_goals
              refine AgainW.to (2 * r + 1, sw l1 (f + r) (f + (2 * r + 1))) ?_ ?_ ?_
              · show hi - (2 * r + 1) < hi - r; omega
              · exact ⟨⟨by show lo ≤ 2 * r + 1; omega, by show 2 * r + 1 ≤ hi; omega⟩, .step _ _ hsw ⟨by omega, by omega⟩ ⟨by omega, by omega⟩ (by omega), hex.step hr1 (.inl rfl) hc hd hlt2 (by omega)⟩
              · simp only [go_sem, hs, Ret_eq Try.results190]
          · repeat' (first | simp only [go_sem, hs, hl1, er, er1, f0, f1, f2, f3, e2, List.length_set, Ret_eq Try.results190] | simp (disch := omega) only [arith, IntKind.bits, capMax, fill_len, elt_fill] | (refine awpI_draw2 (id := 3) (.one false 0 (.one false 1 (.one false 2 (.one false 3 (.one false 4 (.one false 5 (.one false 6 (.one false 7 (.one false 8 (.one false 9 (.one false 10 (.one false 11 (.one false 12 (.one false 13 (.one false 14 (.one false 15 (.one false 16 (.one false 17 (.only 18 (.one false 19 .done)))))))))))))))))))) mixed (by decide +kernel) (by decide +kernel) ?_) | (refine awpI_draw2 (id := 5) (.one false 0 (.one false 1 (.one false 2 (.one false 3 (.one false 4 (.one false 5 (.one false 6 (.one false 7 (.one false 8 (.one false 9 (.one false 10 (.one false 11 (.only 12 (.one false 13 .done)))))))))))))) mixed (by decide +kernel) (by decide +kernel) ?_) | (refine awpI_draw2 (id := 6) (.one false 0 (.one false 1 (.one false 2 (.one false 3 (.one false 8 (.one false 9 (.one false 10 (.one false 11 (.one false 12 (.one false 13 (.one false 14 (.one false 15 (.one false 16 (.one false 17 (.one false 18 (.one false 19 (.one false 20 (.mv 4 (.mv 5 (.mv 6 (.cal 7 [21] (.only 21 (.one false 22 (.only 23 .done)))))))))))))))))))))))) mixed (by decide +kernel) (by decide +kernel) ?_) | (refine opCallI_rd (by simp only [go_sem, hs, hl1, er, er1, f0, f1, f2, f3, e2, List.length_set, Ret_eq Try.results190]; first | done | rfl) (hls2) (by rintro _ rfl; rfl) ?_; rintro _ rfl) | fail)
            all_goals
              refine AgainW.to (2 * r + 1, sw l1 (f + r) (f + (2 * r + 1))) ?_ ?_ ?_
              · show hi - (2 * r + 1) < hi - r; omega
              · exact ⟨⟨by show lo ≤ 2 * r + 1; omega, by show 2 * r + 1 ≤ hi; omega⟩, .step _ _ hsw ⟨by omega, by omega⟩ ⟨by omega, by omega⟩ (by omega), hex.step hr1 (.inl rfl) hc hd hlt2 (by omega)⟩
              · simp only [go_sem, hs, Ret_eq Try.results190]
        · rw [decide_eq_false hlt2] at hls2
          by_cases hc3 : 2 * r + 2 < hi
          · rw [decide_eq_false (fun q => hc2 ⟨hc3, q⟩)] at hls
            repeat' (first | simp only [go_sem, hs, hl1, er, er1, f0, f1, f2, f3, Ret_eq Try.results190] | simp (disch := omega) only [arith, IntKind.bits, capMax, fill_len, elt_fill] | refine RetL_calc Try.results190 rfl ?_ | (refine awpI_draw2 (id := 3) (.one false 0 (.one false 1 (.one false 2 (.one false 3 (.one false 4 (.one false 5 (.one false 6 (.one false 7 (.one false 8 (.one false 9 (.one false 10 (.one false 11 (.one false 12 (.one false 13 (.one false 14 (.one false 15 (.one false 16 (.one false 17 (.only 18 (.one false 19 .done)))))))))))))))))))) mixed (by decide +kernel) (by decide +kernel) ?_) | (refine awpI_draw2 (id := 5) (.one false 0 (.one false 1 (.one false 2 (.one false 3 (.one false 4 (.one false 5 (.one false 6 (.one false 7 (.one false 8 (.one false 9 (.one false 10 (.one false 11 (.only 12 (.one false 13 .done)))))))))))))) mixed (by decide +kernel) (by decide +kernel) ?_) | (refine opCallI_rd (by simp only [go_sem, hs, hl1, er, er1, f0, f1, f2, f3, Ret_eq Try.results190]; first | done | rfl) (hls) (by rintro _ rfl; rfl) ?_; rintro _ rfl) | (refine opCallI_rd (by simp only [go_sem, hs, hl1, er, er1, f0, f1, f2, f3, Ret_eq Try.results190]; first | done | rfl) (hls2) (by rintro _ rfl; rfl) ?_; rintro _ rfl) | fail)
            all_goals exact ⟨rfl, l1, rfl, hsw, hex.done fun d h1 h2 => by have := hd d h1 h2; omega⟩
          · repeat' (first | simp only [go_sem, hs, hl1, er, er1, f0, f1, f2, f3, Ret_eq Try.results190] | simp (disch := omega) only [arith, IntKind.bits, capMax, fill_len, elt_fill] | refine RetL_calc Try.results190 rfl ?_ | (refine awpI_draw2 (id := 3) (.one false 0 (.one false 1 (.one false 2 (.one false 3 (.one false 4 (.one false 5 (.one false 6 (.one false 7 (.one false 8 (.one false 9 (.one false 10 (.one false 11 (.one false 12 (.one false 13 (.one false 14 (.one false 15 (.one false 16 (.one false 17 (.only 18 (.one false 19 .done)))))))))))))))))))) mixed (by decide +kernel) (by decide +kernel) ?_) | (refine awpI_draw2 (id := 5) (.one false 0 (.one false 1 (.one false 2 (.one false 3 (.one false 4 (.one false 5 (.one false 6 (.one false 7 (.one false 8 (.one false 9 (.one false 10 (.one false 11 (.only 12 (.one false 13 .done)))))))))))))) mixed (by decide +kernel) (by decide +kernel) ?_) | (refine opCallI_rd (by simp only [go_sem, hs, hl1, er, er1, f0, f1, f2, f3, Ret_eq Try.results190]; first | done | rfl) (hls2) (by rintro _ rfl; rfl) ?_; rintro _ rfl) | fail)
            all_goals exact ⟨rfl, l1, rfl, hsw, hex.done fun d h1 h2 => by have := hd d h1 h2; omega⟩
    · repeat' (first | simp only [go_sem, hs, er, Ret_eq Try.results190] | simp (disch := omega) only [arith, IntKind.bits, capMax, fill_len, elt_fill] | refine RetL_calc Try.results190 rfl ?_ | fail)
      all_goals exact ⟨rfl, l1, rfl, hsw, hex.done fun d h1 h2 => by omega⟩
end Go.Proofs.Ytpkampecmlpfmaa.T

end
section
set_option linter.unusedSimpArgs false
set_option linter.unusedVariables false
/- Sorting a list as a heap, walked. -/
namespace Go.Proofs.Ytpkampecmlpfmaa.T
open Go Go.VL Go.Proofs
set_option maxRecDepth 100000
set_option maxHeartbeats 4000000

theorem heap16 (l : List Int) (a b : Nat) (hab : a < b) (hb : b ≤ l.length) (hl : l.length ≤ 1000000) : FunL Try.prog 177 [.ref 0 l.length, .v (.int .i64 a), .v (.int .i64 b)] [own16 l] fun r os =>
    r = .tup [] ∧ ∃ l', os = [own16 l'] ∧ Sw a b l l' ∧ Sd a b l' := by
  refine FunL.of_awpI [(100000, 0)] rfl Try.func177 rfl cal177 Try.ntmps177 (by simp) fun hwf hlw ls => ?_
  simp only [lentWf, D.wfs, D.wf, ints_length, ints_wfs, rows_length, rows_wfs, capMax, and_true, true_and] at hwf hlw
  obtain ⟨n, rfl⟩ : ∃ n, b = a + n := ⟨b - a, by omega⟩
  have e0 : ((a + n : Nat) : Int) - (a : Int) = ((n : Nat) : Int) := by omega
  have e1 : (n : Int) - 1 = ((n - 1 : Nat) : Int) := by omega
  have e2 : ((n - 1 : Nat) : Int).tdiv 2 = (((n - 1) / 2 : Nat) : Int) := by
    rw [Int.tdiv_eq_ediv_of_nonneg (by omega)]; omega
  repeat' (first | simp only [go_sem, e0, e1, e2, Ret_eq Try.results177] | simp (disch := omega) only [arith, IntKind.bits, capMax, fill_len, elt_fill] | fail)
  refine awpI_while (σ := Nat × List Int) (fun x => x.1) (fun x => x.1 ≤ (n - 1) / 2 + 1 ∧ Sw a (a + n) l x.2 ∧ Hp x.1 n a x.2) (fun x => [(9, .v (.int .i64 ((x.1 : Int) - 1)))]) (fun x => [(0, own16 x.2)]) [0, 6, 7, 8, 100000] [] ((n - 1) / 2 + 1, l) _ (Weak.refl _) ⟨Nat.le_refl _, .refl _, fun k c h1 h2 h3 => by omega⟩ ?_ ?_ ?_
  · simp only [go_sem, e2, Ret_eq Try.results177]
    all_goals omega
  · simp only [go_sem, Ret_eq Try.results177]
  · rintro ⟨k, l1⟩ s ⟨hk, hsw, hhp⟩ hs
    simp only [go_sem, Ret_eq Try.results177] at hs
    dsimp only at hk hsw hhp
    have hl1 := hsw.length
    by_cases hk0 : 1 ≤ k
    · obtain ⟨q, rfl⟩ : ∃ q, k = q + 1 := ⟨k - 1, by omega⟩
      have ek : ((q + 1 : Nat) : Int) - 1 = ((q : Nat) : Int) := by omega
      have hsf := sift16 l1 q n a hhp (by omega) (by omega) (by omega)
      rw [hl1] at hsf
      repeat' (first | simp only [go_sem, hs, ek, hl1, Ret_eq Try.results177] | simp (disch := omega) only [arith, IntKind.bits, capMax, fill_len, elt_fill] | (refine opCallI_lend [0] (by simp only [go_sem, hs, ek, hl1, Ret_eq Try.results177]; first | done | rfl) (by simp only [go_sem, hs, ek, hl1, Ret_eq Try.results177]; first | done | rfl) (by decide) (by simp only [go_sem, hs, ek, hl1, Ret_eq Try.results177]; first | done | decide) (by simp only [go_sem, hs, ek, hl1, Ret_eq Try.results177]; first | done | decide) (hsf) ?_; rintro _ _ ⟨rfl, l2, rfl, hs2, hp2⟩) | fail)
      all_goals
        refine AgainW.to (q, l2) ?_ ?_ ?_
        · show q < q + 1; omega
        · exact ⟨by show q ≤ _; omega, hsw.trans hs2, hp2⟩
        · simp only [go_sem, hs, Ret_eq Try.results177]
    · obtain rfl : k = 0 := by omega
      repeat' (first | simp only [go_sem, hs, e1, Ret_eq Try.results177] | simp (disch := omega) only [arith, IntKind.bits, capMax, fill_len, elt_fill] | fail)
      refine awpI_while (σ := Nat × List Int) (fun x => x.1) (fun x => x.1 ≤ n ∧ Sw a (a + n) l x.2 ∧ Hp 0 x.1 a x.2 ∧ Tl a x.1 n x.2) (fun x => [(10, .v (.int .i64 ((x.1 : Int) - 1)))]) (fun x => [(0, own16 x.2)]) [0, 6, 7, 100000] [] (n, l1) _ (Weak.refl _) ⟨Nat.le_refl _, hsw, hhp, ⟨fun p q h1 h2 h3 => by omega, fun p q h1 h2 h3 => by omega⟩⟩ ?_ ?_ ?_
      · simp only [go_sem, hs, e1, Ret_eq Try.results177]
      · simp only [go_sem, hs, Ret_eq Try.results177]
      · rintro ⟨k, l3⟩ s2 ⟨hk, hsw3, hhp3, htl⟩ hs2
        simp only [go_sem, hs, Ret_eq Try.results177] at hs2
        dsimp only at hk hsw3 hhp3 htl
        have hl3 := hsw3.length
        by_cases hk0 : 1 ≤ k
        · obtain ⟨q, rfl⟩ : ∃ q, k = q + 1 := ⟨k - 1, by omega⟩
          have ek : ((q + 1 : Nat) : Int) - 1 = ((q : Nat) : Int) := by omega
          have ea : (a : Int) + (q : Int) = ((a + q : Nat) : Int) := by omega
          have hslen := sw_length (l := l3) (i := a) (j := a + q)
          have hsf := sift16 (sw l3 a (a + q)) 0 q a (hhp3.swapped (by omega)) (by omega) (by omega) (by omega)
          have e00 : ((0 : Nat) : Int) = 0 := rfl
          rw [hslen, hl3, e00] at hsf
          have e5 : (l3.set a (l3.getD (a + q) 0)).set (a + q) (l3.getD a 0) = sw l3 a (a + q) := rfl
          have e6 : (l3.set a (l3.getD (a + q) 0)).length = l3.length := List.length_set
          repeat' (first | simp only [go_sem, hs, hs2, ek, ea, hl3, e5, List.length_set, Ret_eq Try.results177] | simp (disch := omega) only [arith, IntKind.bits, capMax, fill_len, elt_fill] | (refine awpI_draw2 (id := 10) (.one false 0 (.one false 1 (.one false 6 (.one false 7 (.one false 8 (.one false 9 (.one false 10 (.one false 11 (.one false 12 (.one false 13 (.one false 14 (.one false 15 (.one false 16 (.mv 2 (.mv 3 (.mv 4 (.cal 5 [17] (.only 17 (.one false 18 (.only 19 .done)))))))))))))))))))) mixed (by decide +kernel) (by decide +kernel) ?_) | (refine opCallI_lend [0] (by simp only [go_sem, hs, hs2, ek, ea, hl3, e5, List.length_set, Ret_eq Try.results177]; first | done | rfl) (by simp only [go_sem, hs, hs2, ek, ea, hl3, e5, List.length_set, Ret_eq Try.results177]; first | done | rfl) (by decide) (by simp only [go_sem, hs, hs2, ek, ea, hl3, e5, List.length_set, Ret_eq Try.results177]; first | done | decide) (by simp only [go_sem, hs, hs2, ek, ea, hl3, e5, List.length_set, Ret_eq Try.results177]; first | done | decide) (hsf) ?_; rintro _ _ ⟨rfl, l4, rfl, hs4, hp4⟩) | fail)
          all_goals
            refine AgainW.to (q, l4) ?_ ?_ ?_
            · show q < q + 1; omega
            · exact ⟨by show q ≤ n; omega, (Sw.step a (a + q) hsw3 ⟨by omega, by omega⟩ ⟨by omega, by omega⟩ (by omega)).trans (hs4.mono (by omega) (by omega) (by omega)), hp4, htl.step hhp3 (by omega) (by omega) hs4⟩
            · simp only [go_sem, hs, hs2, Ret_eq Try.results177]
        · obtain rfl : k = 0 := by omega
          repeat' (first | simp only [go_sem, hs, hs2, Ret_eq Try.results177] | simp (disch := omega) only [arith, IntKind.bits, capMax, fill_len, elt_fill] | refine RetL_calc Try.results177 rfl ?_ | fail)
          all_goals exact ⟨rfl, l3, rfl, hsw3, htl.t1⟩
end Go.Proofs.Ytpkampecmlpfmaa.T

end
section
set_option linter.unusedSimpArgs false
set_option linter.unusedVariables false
/- Lists parted, walked. -/
namespace Go.Proofs.Ytpkampecmlpfmaa.T
open Go Go.VL Go.Proofs
set_option maxRecDepth 100000
set_option maxHeartbeats 8000000

theorem partEq16 (l : List Int) (a b v : Nat) (hv : a ≤ v ∧ v < b) (hb : b ≤ l.length) (hl : l.length ≤ 1000000) : FunL Try.prog 182 [.ref 0 l.length, .v (.int .i64 a), .v (.int .i64 b), .v (.int .i64 v)] [own16 l] fun r os =>
    ∃ m : Nat, r = .v (.int .i64 m) ∧ ∃ l', os = [own16 l'] ∧ Sw a b l l' ∧ PartEq a b m (l.getD v 0) l' := by
  obtain ⟨p, hpe⟩ : ∃ p, l.getD v 0 = p := ⟨_, rfl⟩
  rw [hpe]
  refine FunL.of_awpI [(100000, 0)] rfl Try.func182 rfl cal182 Try.ntmps182 (by simp) fun hwf hlw ls => ?_
  simp only [lentWf, D.wfs, D.wf, ints_length, ints_wfs, rows_length, rows_wfs, capMax, and_true, true_and] at hwf hlw
  have e2 : (l.set a (l.getD v 0)).set v (l.getD a 0) = sw l a v := rfl
  have e3 : (l.set a (l.getD v 0)).length = l.length := List.length_set
  have e4 := sw_length (l := l) (i := a) (j := v)
  have eb : (b : Int) - 1 = ((b - 1 : Nat) : Int) := by omega
  have hp : (sw l a v).getD a 0 = l.getD v 0 := by
    rw [sw_getD (by omega) (by omega)]
    by_cases q : a = v
    · rw [if_pos q, q]
    · rw [if_neg q, if_pos rfl]
  rw [hpe] at hp
  have hP0 : Pe a b (a + 1) (b - 1) p (sw l a v) := by
    refine ⟨hp, fun k k1 k2 => ?_, fun k k1 k2 => by omega, by omega, by omega, by omega⟩
    obtain rfl : k = a := by omega
    exact Int.le_of_eq hp
  have hS0 : Sw a b l (sw l a v) := .step a v (.refl _) ⟨Nat.le_refl _, by omega⟩ hv hb
  repeat' (first | simp only [go_sem, e2, eb, List.length_set, Ret_eq Try.results182] | simp (disch := omega) only [arith, IntKind.bits, capMax, fill_len, elt_fill] | (refine awpI_draw2 (id := 1) (.one false 0 (.one false 1 (.one false 4 (.one false 5 (.one false 6 (.one false 7 (.one false 8 (.one false 9 (.one false 10 (.one false 11 (.one false 12 (.mv 2 (.mv 3 (.only 13 (.one false 14 (.only 15 .done)))))))))))))))) mixed (by decide +kernel) (by decide +kernel) ?_) | fail)
  refine awpI_while (σ := Nat × Nat × List Int) (fun x => x.2.1 + 1 - x.1) (fun x => Sw a b l x.2.2 ∧ Pe a b x.1 x.2.1 p x.2.2) (fun x => [(9, .v (.int .i64 x.1)), (10, .v (.int .i64 x.2.1))]) (fun x => [(0, own16 x.2.2)]) [0, 1, 100000] [] (a + 1, b - 1, sw l a v) _ (Weak.refl _) ⟨hS0, hP0⟩ ?_ ?_ ?_
  · simp only [go_sem, Ret_eq Try.results182]
  · simp only [go_sem, Ret_eq Try.results182]
  · rintro ⟨i, j, l1⟩ s ⟨hsw, hP⟩ hs
    simp only [go_sem, Ret_eq Try.results182] at hs
    dsimp only at hsw hP
    have hL := hsw.length
    repeat' (first | simp only [go_sem, hs, Ret_eq Try.results182] | fail)
    refine awpI_while (σ := Nat) (fun x => j + 1 - x) (fun x => i ≤ x ∧ Pe a b x j p l1) (fun x => [(9, .v (.int .i64 x))]) (fun _ => []) [0, 1, 10, 100000] [0] i _ (Weak.refl _) ⟨Nat.le_refl _, hP⟩ ?_ ?_ ?_
    · simp only [go_sem, hs, Ret_eq Try.results182]
    · simp only [go_sem, hs, Ret_eq Try.results182]
    · rintro i2 s2 ⟨hges2, hPi2⟩ hs2
      simp only [go_sem, hs, Ret_eq Try.results182] at hs2
      have his2 := hPi2.hi
      have hjs2 := hPi2.hj
      have hijs2 := hPi2.hij
      have has2 := hPi2.ha
      have hlss2 := lessS16_fun p (l1.getD i2 0)
      by_cases qs2 : i2 ≤ j
      · by_cases rs2 : ¬ p < l1.getD i2 0
        · rw [decide_eq_false rs2] at hlss2
          repeat' (first | simp only [go_sem, hs, hs2, hL, has2, Ret_eq Try.results182] | simp (disch := omega) only [arith, IntKind.bits, capMax, fill_len, elt_fill] | (refine awpI_draw2 (id := 3) (.one false 0 (.one false 1 (.one false 2 (.one false 3 (.one false 4 (.one false 5 (.one false 6 (.one false 7 (.one false 8 (.one false 9 (.one false 10 (.one false 11 (.only 12 (.one false 13 (.one false 14 .done))))))))))))))) mixed (by decide +kernel) (by decide +kernel) ?_) | (refine opCallI_rd (by simp only [go_sem, hs, hs2, hL, has2, Ret_eq Try.results182]; first | done | rfl) (hlss2) (by rintro _ rfl; rfl) ?_; rintro _ rfl) | fail)
          all_goals
            refine AgainW.to (i2 + 1) ?_ ?_ ?_
            · show j + 1 - (i2 + 1) < j + 1 - i2; omega
            · exact ⟨by show i ≤ i2 + 1; omega, hPi2.up qs2 (by omega)⟩
            · simp only [go_sem, hs, hs2, hL, has2, Ret_eq Try.results182]
        · rw [decide_eq_true (Classical.not_not.1 rs2)] at hlss2
          have xs2 : j < i2 ∨ p < l1.getD i2 0 := .inr (by omega)
          repeat' (first | simp only [go_sem, hs, hs2, hL, has2, Ret_eq Try.results182] | simp (disch := omega) only [arith, IntKind.bits, capMax, fill_len, elt_fill] | (refine awpI_draw2 (id := 3) (.one false 0 (.one false 1 (.one false 2 (.one false 3 (.one false 4 (.one false 5 (.one false 6 (.one false 7 (.one false 8 (.one false 9 (.one false 10 (.one false 11 (.only 12 (.one false 13 (.one false 14 .done))))))))))))))) mixed (by decide +kernel) (by decide +kernel) ?_) | (refine opCallI_rd (by simp only [go_sem, hs, hs2, hL, has2, Ret_eq Try.results182]; first | done | rfl) (hlss2) (by rintro _ rfl; rfl) ?_; rintro _ rfl) | fail)
          refine awpI_while (σ := Nat) (fun x => x) (fun x => x ≤ j ∧ Pe a b i2 x p l1) (fun x => [(10, .v (.int .i64 x))]) (fun _ => []) [0, 1, 9, 100000] [0] j _ (Weak.refl _) ⟨Nat.le_refl _, hPi2⟩ ?_ ?_ ?_
          · simp only [go_sem, hs, hs2, Ret_eq Try.results182]
          · simp only [go_sem, hs, hs2, Ret_eq Try.results182]
          · rintro j2 s3 ⟨hges3, hPi2j2⟩ hs3
            simp only [go_sem, hs, hs2, Ret_eq Try.results182] at hs3
            have his3 := hPi2j2.hi
            have hjs3 := hPi2j2.hj
            have hijs3 := hPi2j2.hij
            have has3 := hPi2j2.ha
            have hlss3 := lessS16_fun p (l1.getD j2 0)
            by_cases qs3 : i2 ≤ j2
            · have ejs3 : (j2 : Int) - 1 = ((j2 - 1 : Nat) : Int) := by omega
              by_cases rs3 : p < l1.getD j2 0
              · rw [decide_eq_true rs3] at hlss3
                repeat' (first | simp only [go_sem, hs, hs2, hs3, hL, has3, ejs3, Ret_eq Try.results182] | simp (disch := omega) only [arith, IntKind.bits, capMax, fill_len, elt_fill] | (refine awpI_draw2 (id := 5) (.one false 0 (.one false 1 (.one false 2 (.one false 3 (.one false 4 (.one false 5 (.one false 6 (.one false 7 (.one false 8 (.one false 9 (.one false 10 (.one false 11 (.only 12 (.one false 13 .done)))))))))))))) mixed (by decide +kernel) (by decide +kernel) ?_) | (refine opCallI_rd (by simp only [go_sem, hs, hs2, hs3, hL, has3, ejs3, Ret_eq Try.results182]; first | done | rfl) (hlss3) (by rintro _ rfl; rfl) ?_; rintro _ rfl) | fail)
                all_goals
                  refine AgainW.to (j2 - 1) ?_ ?_ ?_
                  · show j2 - 1 < j2; omega
                  · exact ⟨by show j2 - 1 ≤ j; omega, hPi2j2.down qs3 (by omega)⟩
                  · simp only [go_sem, hs, hs2, hs3, hL, has3, Ret_eq Try.results182]
              · rw [decide_eq_false rs3] at hlss3
                have xs3 : l1.getD j2 0 ≤ p := by omega
                have hlt : l1.getD j2 0 ≤ p := xs3
                have ej : (j2 : Int) - 1 = ((j2 - 1 : Nat) : Int) := by omega
                have e5 : (l1.set i2 (l1.getD j2 0)).set j2 (l1.getD i2 0) = sw l1 i2 j2 := rfl
                have e6 : (l1.set i2 (l1.getD j2 0)).length = l1.length := List.length_set
                repeat' (first | simp only [go_sem, hs, hs2, hs3, hL, has3, ej, e5, List.length_set, Ret_eq Try.results182] | simp (disch := omega) only [arith, IntKind.bits, capMax, fill_len, elt_fill] | (refine awpI_draw2 (id := 5) (.one false 0 (.one false 1 (.one false 2 (.one false 3 (.one false 4 (.one false 5 (.one false 6 (.one false 7 (.one false 8 (.one false 9 (.one false 10 (.one false 11 (.only 12 (.one false 13 .done)))))))))))))) mixed (by decide +kernel) (by decide +kernel) ?_) | (refine awpI_draw2 (id := 8) (.one false 0 (.one false 1 (.one false 4 (.one false 5 (.one false 6 (.one false 7 (.one false 8 (.one false 9 (.one false 10 (.one false 11 (.one false 12 (.mv 2 (.mv 3 (.only 13 (.one false 14 (.only 15 .done)))))))))))))))) mixed (by decide +kernel) (by decide +kernel) ?_) | (refine opCallI_rd (by simp only [go_sem, hs, hs2, hs3, hL, has3, ej, e5, List.length_set, Ret_eq Try.results182]; first | done | rfl) (hlss3) (by rintro _ rfl; rfl) ?_; rintro _ rfl) | fail)
                all_goals
                  refine AgainW.to (i2 + 1, j2 - 1, sw l1 i2 j2) ?_ ?_ ?_
                  · show j2 - 1 + 1 - (i2 + 1) < j + 1 - i; omega
                  · exact ⟨.step i2 j2 hsw ⟨by omega, by omega⟩ ⟨by omega, by omega⟩ (by omega), hPi2j2.swap (by omega) (by omega) (by omega) (by omega)⟩
                  · simp only [go_sem, hs, hs2, hs3, Ret_eq Try.results182]
            · have w : j2 < i2 := by omega
              repeat' (first | simp only [go_sem, hs, hs2, hs3, hL, has3, Ret_eq Try.results182] | simp (disch := omega) only [arith, IntKind.bits, capMax, fill_len, elt_fill] | refine RetL_calc Try.results182 rfl ?_ | (refine awpI_draw2 (id := 5) (.one false 0 (.one false 1 (.one false 2 (.one false 3 (.one false 4 (.one false 5 (.one false 6 (.one false 7 (.one false 8 (.one false 9 (.one false 10 (.one false 11 (.only 12 (.one false 13 .done)))))))))))))) mixed (by decide +kernel) (by decide +kernel) ?_) | fail)
              all_goals exact ⟨i2, rfl, l1, rfl, hsw, hPi2j2.fin w⟩
      · have xs2 : j < i2 ∨ p < l1.getD i2 0 := .inl (by omega)
        repeat' (first | simp only [go_sem, hs, hs2, hL, has2, Ret_eq Try.results182] | simp (disch := omega) only [arith, IntKind.bits, capMax, fill_len, elt_fill] | (refine awpI_draw2 (id := 3) (.one false 0 (.one false 1 (.one false 2 (.one false 3 (.one false 4 (.one false 5 (.one false 6 (.one false 7 (.one false 8 (.one false 9 (.one false 10 (.one false 11 (.only 12 (.one false 13 (.one false 14 .done))))))))))))))) mixed (by decide +kernel) (by decide +kernel) ?_) | fail)
        refine awpI_while (σ := Nat) (fun x => x) (fun x => x ≤ j ∧ Pe a b i2 x p l1) (fun x => [(10, .v (.int .i64 x))]) (fun _ => []) [0, 1, 9, 100000] [0] j _ (Weak.refl _) ⟨Nat.le_refl _, hPi2⟩ ?_ ?_ ?_
        · simp only [go_sem, hs, hs2, Ret_eq Try.results182]
        · simp only [go_sem, hs, hs2, Ret_eq Try.results182]
        · rintro j2 s3 ⟨hges3, hPi2j2⟩ hs3
          simp only [go_sem, hs, hs2, Ret_eq Try.results182] at hs3
          have his3 := hPi2j2.hi
          have hjs3 := hPi2j2.hj
          have hijs3 := hPi2j2.hij
          have has3 := hPi2j2.ha
          have hlss3 := lessS16_fun p (l1.getD j2 0)
          by_cases qs3 : i2 ≤ j2
          · exact absurd qs3 (by omega)
          · have w : j2 < i2 := by omega
            repeat' (first | simp only [go_sem, hs, hs2, hs3, hL, has3, Ret_eq Try.results182] | simp (disch := omega) only [arith, IntKind.bits, capMax, fill_len, elt_fill] | refine RetL_calc Try.results182 rfl ?_ | (refine awpI_draw2 (id := 5) (.one false 0 (.one false 1 (.one false 2 (.one false 3 (.one false 4 (.one false 5 (.one false 6 (.one false 7 (.one false 8 (.one false 9 (.one false 10 (.one false 11 (.only 12 (.one false 13 .done)))))))))))))) mixed (by decide +kernel) (by decide +kernel) ?_) | fail)
            all_goals exact ⟨i2, rfl, l1, rfl, hsw, hPi2j2.fin w⟩
end Go.Proofs.Ytpkampecmlpfmaa.T

end
section
set_option linter.unusedSimpArgs false
set_option linter.unusedVariables false
/- Lists parted, walked. -/
namespace Go.Proofs.Ytpkampecmlpfmaa.T
open Go Go.VL Go.Proofs
set_option maxRecDepth 100000
set_option maxHeartbeats 8000000

theorem part16 (l : List Int) (a b v : Nat) (hv : a ≤ v ∧ v < b) (hb : b ≤ l.length) (hl : l.length ≤ 1000000) : FunL Try.prog 183 [.ref 0 l.length, .v (.int .i64 a), .v (.int .i64 b), .v (.int .i64 v)] [own16 l] fun r os =>
    ∃ (m : Nat) (t : Bool), r = .tup [.v (.int .i64 m), .v (.bool t)] ∧ ∃ l', os = [own16 l'] ∧ Sw a b l l' ∧ Parted a b m l' := by
  obtain ⟨p, hpe⟩ : ∃ p, l.getD v 0 = p := ⟨_, rfl⟩
  refine FunL.of_awpI [(100000, 0)] rfl Try.func183 rfl cal183 Try.ntmps183 (by simp) fun hwf hlw ls => ?_
  simp only [lentWf, D.wfs, D.wf, ints_length, ints_wfs, rows_length, rows_wfs, capMax, and_true, true_and] at hwf hlw
  have e2 : (l.set a (l.getD v 0)).set v (l.getD a 0) = sw l a v := rfl
  have e3 : (l.set a (l.getD v 0)).length = l.length := List.length_set
  have e4 := sw_length (l := l) (i := a) (j := v)
  have eb : (b : Int) - 1 = ((b - 1 : Nat) : Int) := by omega
  have hp : (sw l a v).getD a 0 = l.getD v 0 := by
    rw [sw_getD (by omega) (by omega)]
    by_cases q : a = v
    · rw [if_pos q, q]
    · rw [if_neg q, if_pos rfl]
  rw [hpe] at hp
  have hP : Pt a b (a + 1) (b - 1) p (sw l a v) := ⟨hp, fun k k1 k2 => by omega, fun k k1 k2 => by omega, by omega, by omega, by omega⟩
  have hsw0 : Sw a b l (sw l a v) := .step a v (.refl _) ⟨Nat.le_refl _, by omega⟩ hv hb
  repeat' (first | simp only [go_sem, e2, eb, List.length_set, Ret_eq Try.results183] | simp (disch := omega) only [arith, IntKind.bits, capMax, fill_len, elt_fill] | (refine awpI_draw2 (id := 1) (.one false 0 (.one false 1 (.one false 4 (.one false 5 (.one false 6 (.one false 7 (.one false 8 (.one false 9 (.one false 10 (.one false 11 (.one false 12 (.mv 2 (.mv 3 (.only 13 (.one false 14 (.only 15 .done)))))))))))))))) mixed (by decide +kernel) (by decide +kernel) ?_) | fail)
  clear e2 e3
  generalize sw l a v = l0 at *
  have hL := hsw0.length
  refine awpI_while (σ := Nat) (fun x => (b - 1) + 1 - x) (fun x => (a + 1) ≤ x ∧ Pt a b x (b - 1) p l0) (fun x => [(10, .v (.int .i64 x))]) (fun _ => []) [0, 1, 11, 100000] [0] (a + 1) _ (Weak.refl _) ⟨Nat.le_refl _, hP⟩ ?_ ?_ ?_
  · simp only [go_sem, Ret_eq Try.results183]
  · simp only [go_sem, Ret_eq Try.results183]
  · rintro i2 s2 ⟨hges2, hPi2⟩ hs2
    simp only [go_sem, Ret_eq Try.results183] at hs2
    have his2 := hPi2.hi
    have hjs2 := hPi2.hj
    have hijs2 := hPi2.hij
    have has2 := hPi2.ha
    have hlss2 := lessS16_fun (l0.getD i2 0) p
    by_cases qs2 : i2 ≤ (b - 1)
    · by_cases rs2 : l0.getD i2 0 < p
      · rw [decide_eq_true rs2] at hlss2
        repeat' (first | simp only [go_sem, hs2, hL, has2, Ret_eq Try.results183] | simp (disch := omega) only [arith, IntKind.bits, capMax, fill_len, elt_fill] | (refine awpI_draw2 (id := 3) (.one false 0 (.one false 1 (.one false 2 (.one false 3 (.one false 4 (.one false 5 (.one false 6 (.one false 7 (.one false 8 (.one false 9 (.one false 10 (.one false 11 (.only 12 (.one false 13 .done)))))))))))))) mixed (by decide +kernel) (by decide +kernel) ?_) | (refine opCallI_rd (by simp only [go_sem, hs2, hL, has2, Ret_eq Try.results183]; first | done | rfl) (hlss2) (by rintro _ rfl; rfl) ?_; rintro _ rfl) | fail)
        all_goals
          refine AgainW.to (i2 + 1) ?_ ?_ ?_
          · show (b - 1) + 1 - (i2 + 1) < (b - 1) + 1 - i2; omega
          · exact ⟨by show (a + 1) ≤ i2 + 1; omega, hPi2.up qs2 (by omega)⟩
          · simp only [go_sem, hs2, hL, has2, Ret_eq Try.results183]
      · rw [decide_eq_false rs2] at hlss2
        have xs2 : (b - 1) < i2 ∨ p ≤ l0.getD i2 0 := .inr (by omega)
        repeat' (first | simp only [go_sem, hs2, hL, has2, Ret_eq Try.results183] | simp (disch := omega) only [arith, IntKind.bits, capMax, fill_len, elt_fill] | (refine awpI_draw2 (id := 3) (.one false 0 (.one false 1 (.one false 2 (.one false 3 (.one false 4 (.one false 5 (.one false 6 (.one false 7 (.one false 8 (.one false 9 (.one false 10 (.one false 11 (.only 12 (.one false 13 .done)))))))))))))) mixed (by decide +kernel) (by decide +kernel) ?_) | (refine opCallI_rd (by simp only [go_sem, hs2, hL, has2, Ret_eq Try.results183]; first | done | rfl) (hlss2) (by rintro _ rfl; rfl) ?_; rintro _ rfl) | fail)
        refine awpI_while (σ := Nat) (fun x => x) (fun x => x ≤ (b - 1) ∧ Pt a b i2 x p l0) (fun x => [(11, .v (.int .i64 x))]) (fun _ => []) [0, 1, 10, 100000] [0] (b - 1) _ (Weak.refl _) ⟨Nat.le_refl _, hPi2⟩ ?_ ?_ ?_
        · simp only [go_sem, hs2, Ret_eq Try.results183]
        · simp only [go_sem, hs2, Ret_eq Try.results183]
        · rintro j2 s3 ⟨hges3, hPi2j2⟩ hs3
          simp only [go_sem, hs2, Ret_eq Try.results183] at hs3
          have his3 := hPi2j2.hi
          have hjs3 := hPi2j2.hj
          have hijs3 := hPi2j2.hij
          have has3 := hPi2j2.ha
          have hlss3 := lessS16_fun (l0.getD j2 0) p
          by_cases qs3 : i2 ≤ j2
          · have ejs3 : (j2 : Int) - 1 = ((j2 - 1 : Nat) : Int) := by omega
            by_cases rs3 : ¬ l0.getD j2 0 < p
            · rw [decide_eq_false rs3] at hlss3
              repeat' (first | simp only [go_sem, hs2, hs3, hL, has3, ejs3, Ret_eq Try.results183] | simp (disch := omega) only [arith, IntKind.bits, capMax, fill_len, elt_fill] | (refine awpI_draw2 (id := 5) (.one false 0 (.one false 1 (.one false 2 (.one false 3 (.one false 4 (.one false 5 (.one false 6 (.one false 7 (.one false 8 (.one false 9 (.one false 10 (.one false 11 (.only 12 (.one false 13 (.one false 14 .done))))))))))))))) mixed (by decide +kernel) (by decide +kernel) ?_) | (refine opCallI_rd (by simp only [go_sem, hs2, hs3, hL, has3, ejs3, Ret_eq Try.results183]; first | done | rfl) (hlss3) (by rintro _ rfl; rfl) ?_; rintro _ rfl) | fail)
              all_goals
                refine AgainW.to (j2 - 1) ?_ ?_ ?_
                · show j2 - 1 < j2; omega
                · exact ⟨by show j2 - 1 ≤ (b - 1); omega, hPi2j2.down qs3 (by omega)⟩
                · simp only [go_sem, hs2, hs3, hL, has3, Ret_eq Try.results183]
            · rw [decide_eq_true (Classical.not_not.1 rs3)] at hlss3
              have xs3 : l0.getD j2 0 < p := by omega
              have hlt : l0.getD j2 0 < p := xs3
              have ej : (j2 : Int) - 1 = ((j2 - 1 : Nat) : Int) := by omega
              have e5 : (l0.set i2 (l0.getD j2 0)).set j2 (l0.getD i2 0) = sw l0 i2 j2 := rfl
              have e6 : (l0.set i2 (l0.getD j2 0)).length = l0.length := List.length_set
              repeat' (first | simp only [go_sem, hs2, hs3, hL, has3, ej, e5, List.length_set, Ret_eq Try.results183] | simp (disch := omega) only [arith, IntKind.bits, capMax, fill_len, elt_fill] | (refine awpI_draw2 (id := 5) (.one false 0 (.one false 1 (.one false 2 (.one false 3 (.one false 4 (.one false 5 (.one false 6 (.one false 7 (.one false 8 (.one false 9 (.one false 10 (.one false 11 (.only 12 (.one false 13 (.one false 14 .done))))))))))))))) mixed (by decide +kernel) (by decide +kernel) ?_) | (refine awpI_draw2 (id := 10) (.one false 0 (.one false 1 (.one false 4 (.one false 5 (.one false 6 (.one false 7 (.one false 8 (.one false 9 (.one false 10 (.one false 11 (.one false 12 (.mv 2 (.mv 3 (.only 13 (.one false 14 (.only 15 .done)))))))))))))))) mixed (by decide +kernel) (by decide +kernel) ?_) | (refine opCallI_rd (by simp only [go_sem, hs2, hs3, hL, has3, ej, e5, List.length_set, Ret_eq Try.results183]; first | done | rfl) (hlss3) (by rintro _ rfl; rfl) ?_; rintro _ rfl) | fail)
              refine awpI_while (σ := Nat × Nat × List Int) (fun x => x.2.1 + 1 - x.1) (fun x => Sw a b l x.2.2 ∧ Pt a b x.1 x.2.1 p x.2.2) (fun x => [(10, .v (.int .i64 x.1)), (11, .v (.int .i64 x.2.1))]) (fun x => [(0, own16 x.2.2)]) [0, 1, 100000] [] (i2 + 1, j2 - 1, sw l0 i2 j2) _ (Weak.refl _) ⟨.step i2 j2 hsw0 ⟨by omega, by omega⟩ ⟨by omega, by omega⟩ (by omega), hPi2j2.swap (by omega) (by omega) (by omega) (by omega)⟩ ?_ ?_ ?_
              · simp only [go_sem, hs2, hs3, Ret_eq Try.results183]
              · simp only [go_sem, hs2, hs3, Ret_eq Try.results183]
              · rintro ⟨i3, j3, l3⟩ s4 ⟨hsw3, hPN⟩ hs4
                simp only [go_sem, hs2, hs3, Ret_eq Try.results183] at hs4
                dsimp only at hsw3 hPN
                clear e5 e6
                have hL := hsw3.length
                repeat' (first | simp only [go_sem, hs2, hs3, hs4, Ret_eq Try.results183] | fail)
                refine awpI_while (σ := Nat) (fun x => j3 + 1 - x) (fun x => i3 ≤ x ∧ Pt a b x j3 p l3) (fun x => [(10, .v (.int .i64 x))]) (fun _ => []) [0, 1, 11, 100000] [0] i3 _ (Weak.refl _) ⟨Nat.le_refl _, hPN⟩ ?_ ?_ ?_
                · simp only [go_sem, hs2, hs3, hs4, Ret_eq Try.results183]
                · simp only [go_sem, hs2, hs3, hs4, Ret_eq Try.results183]
                · rintro i4 s5 ⟨hges5, hPNi4⟩ hs5
                  simp only [go_sem, hs2, hs3, hs4, Ret_eq Try.results183] at hs5
                  have his5 := hPNi4.hi
                  have hjs5 := hPNi4.hj
                  have hijs5 := hPNi4.hij
                  have has5 := hPNi4.ha
                  have hlss5 := lessS16_fun (l3.getD i4 0) p
                  by_cases qs5 : i4 ≤ j3
                  · by_cases rs5 : l3.getD i4 0 < p
                    · rw [decide_eq_true rs5] at hlss5
                      repeat' (first | simp only [go_sem, hs2, hs3, hs4, hs5, hL, has5, Ret_eq Try.results183] | simp (disch := omega) only [arith, IntKind.bits, capMax, fill_len, elt_fill] | (refine awpI_draw2 (id := 13) (.one false 0 (.one false 1 (.one false 2 (.one false 3 (.one false 4 (.one false 5 (.one false 6 (.one false 7 (.one false 8 (.one false 9 (.one false 10 (.one false 11 (.only 12 (.one false 13 .done)))))))))))))) mixed (by decide +kernel) (by decide +kernel) ?_) | (refine opCallI_rd (by simp only [go_sem, hs2, hs3, hs4, hs5, hL, has5, Ret_eq Try.results183]; first | done | rfl) (hlss5) (by rintro _ rfl; rfl) ?_; rintro _ rfl) | fail)
                      all_goals
                        refine AgainW.to (i4 + 1) ?_ ?_ ?_
                        · show j3 + 1 - (i4 + 1) < j3 + 1 - i4; omega
                        · exact ⟨by show i3 ≤ i4 + 1; omega, hPNi4.up qs5 (by omega)⟩
                        · simp only [go_sem, hs2, hs3, hs4, hs5, hL, has5, Ret_eq Try.results183]
                    · rw [decide_eq_false rs5] at hlss5
                      have xs5 : j3 < i4 ∨ p ≤ l3.getD i4 0 := .inr (by omega)
                      repeat' (first | simp only [go_sem, hs2, hs3, hs4, hs5, hL, has5, Ret_eq Try.results183] | simp (disch := omega) only [arith, IntKind.bits, capMax, fill_len, elt_fill] | (refine awpI_draw2 (id := 13) (.one false 0 (.one false 1 (.one false 2 (.one false 3 (.one false 4 (.one false 5 (.one false 6 (.one false 7 (.one false 8 (.one false 9 (.one false 10 (.one false 11 (.only 12 (.one false 13 .done)))))))))))))) mixed (by decide +kernel) (by decide +kernel) ?_) | (refine opCallI_rd (by simp only [go_sem, hs2, hs3, hs4, hs5, hL, has5, Ret_eq Try.results183]; first | done | rfl) (hlss5) (by rintro _ rfl; rfl) ?_; rintro _ rfl) | fail)
                      refine awpI_while (σ := Nat) (fun x => x) (fun x => x ≤ j3 ∧ Pt a b i4 x p l3) (fun x => [(11, .v (.int .i64 x))]) (fun _ => []) [0, 1, 10, 100000] [0] j3 _ (Weak.refl _) ⟨Nat.le_refl _, hPNi4⟩ ?_ ?_ ?_
                      · simp only [go_sem, hs2, hs3, hs4, hs5, Ret_eq Try.results183]
                      · simp only [go_sem, hs2, hs3, hs4, hs5, Ret_eq Try.results183]
                      · rintro j4 s6 ⟨hges6, hPNi4j4⟩ hs6
                        simp only [go_sem, hs2, hs3, hs4, hs5, Ret_eq Try.results183] at hs6
                        have his6 := hPNi4j4.hi
                        have hjs6 := hPNi4j4.hj
                        have hijs6 := hPNi4j4.hij
                        have has6 := hPNi4j4.ha
                        have hlss6 := lessS16_fun (l3.getD j4 0) p
                        by_cases qs6 : i4 ≤ j4
                        · have ejs6 : (j4 : Int) - 1 = ((j4 - 1 : Nat) : Int) := by omega
                          by_cases rs6 : ¬ l3.getD j4 0 < p
                          · rw [decide_eq_false rs6] at hlss6
                            repeat' (first | simp only [go_sem, hs2, hs3, hs4, hs5, hs6, hL, has6, ejs6, Ret_eq Try.results183] | simp (disch := omega) only [arith, IntKind.bits, capMax, fill_len, elt_fill] | (refine awpI_draw2 (id := 15) (.one false 0 (.one false 1 (.one false 2 (.one false 3 (.one false 4 (.one false 5 (.one false 6 (.one false 7 (.one false 8 (.one false 9 (.one false 10 (.one false 11 (.only 12 (.one false 13 (.one false 14 .done))))))))))))))) mixed (by decide +kernel) (by decide +kernel) ?_) | (refine opCallI_rd (by simp only [go_sem, hs2, hs3, hs4, hs5, hs6, hL, has6, ejs6, Ret_eq Try.results183]; first | done | rfl) (hlss6) (by rintro _ rfl; rfl) ?_; rintro _ rfl) | fail)
                            all_goals
                              refine AgainW.to (j4 - 1) ?_ ?_ ?_
                              · show j4 - 1 < j4; omega
                              · exact ⟨by show j4 - 1 ≤ j3; omega, hPNi4j4.down qs6 (by omega)⟩
                              · simp only [go_sem, hs2, hs3, hs4, hs5, hs6, hL, has6, Ret_eq Try.results183]
                          · rw [decide_eq_true (Classical.not_not.1 rs6)] at hlss6
                            have xs6 : l3.getD j4 0 < p := by omega
                            have hlt : l3.getD j4 0 < p := xs6
                            have ej : (j4 : Int) - 1 = ((j4 - 1 : Nat) : Int) := by omega
                            have e5 : (l3.set i4 (l3.getD j4 0)).set j4 (l3.getD i4 0) = sw l3 i4 j4 := rfl
                            have e6 : (l3.set i4 (l3.getD j4 0)).length = l3.length := List.length_set
                            repeat' (first | simp only [go_sem, hs2, hs3, hs4, hs5, hs6, hL, has6, ej, e5, List.length_set, Ret_eq Try.results183] | simp (disch := omega) only [arith, IntKind.bits, capMax, fill_len, elt_fill] | (refine awpI_draw2 (id := 15) (.one false 0 (.one false 1 (.one false 2 (.one false 3 (.one false 4 (.one false 5 (.one false 6 (.one false 7 (.one false 8 (.one false 9 (.one false 10 (.one false 11 (.only 12 (.one false 13 (.one false 14 .done))))))))))))))) mixed (by decide +kernel) (by decide +kernel) ?_) | (refine awpI_draw2 (id := 18) (.one false 0 (.one false 1 (.one false 4 (.one false 5 (.one false 6 (.one false 7 (.one false 8 (.one false 9 (.one false 10 (.one false 11 (.one false 12 (.mv 2 (.mv 3 (.only 13 (.one false 14 (.only 15 .done)))))))))))))))) mixed (by decide +kernel) (by decide +kernel) ?_) | (refine opCallI_rd (by simp only [go_sem, hs2, hs3, hs4, hs5, hs6, hL, has6, ej, e5, List.length_set, Ret_eq Try.results183]; first | done | rfl) (hlss6) (by rintro _ rfl; rfl) ?_; rintro _ rfl) | fail)
                            all_goals
                              refine AgainW.to (i4 + 1, j4 - 1, sw l3 i4 j4) ?_ ?_ ?_
                              · show j4 - 1 + 1 - (i4 + 1) < j3 + 1 - i3; omega
                              · exact ⟨.step i4 j4 hsw3 ⟨by omega, by omega⟩ ⟨by omega, by omega⟩ (by omega), hPNi4j4.swap (by omega) (by omega) (by omega) (by omega)⟩
                              · simp only [go_sem, hs2, hs3, hs4, hs5, hs6, Ret_eq Try.results183]
                        · have w : j4 < i4 := by omega
                          have e5 : (l3.set j4 p).set a (l3.getD j4 0) = sw l3 j4 a := by unfold sw; rw [has6]
                          have e6 : (l3.set j4 p).length = l3.length := List.length_set
                          repeat' (first | simp only [go_sem, hs2, hs3, hs4, hs5, hs6, hL, has6, e5, List.length_set, Ret_eq Try.results183] | simp (disch := omega) only [arith, IntKind.bits, capMax, fill_len, elt_fill] | refine RetL_calc Try.results183 rfl ?_ | (refine awpI_draw2 (id := 15) (.one false 0 (.one false 1 (.one false 2 (.one false 3 (.one false 4 (.one false 5 (.one false 6 (.one false 7 (.one false 8 (.one false 9 (.one false 10 (.one false 11 (.only 12 (.one false 13 (.one false 14 .done))))))))))))))) mixed (by decide +kernel) (by decide +kernel) ?_) | (refine awpI_draw2 (id := 21) (.one false 0 (.one false 1 (.one false 4 (.one false 5 (.one false 6 (.one false 7 (.one false 8 (.one false 9 (.one false 10 (.one false 11 (.one false 12 (.mv 2 (.mv 3 (.only 13 (.one false 14 (.only 15 .done)))))))))))))))) mixed (by decide +kernel) (by decide +kernel) ?_) | fail)
                          all_goals exact ⟨j4, _, rfl, sw l3 j4 a, rfl, .step j4 a hsw3 ⟨by omega, by omega⟩ ⟨Nat.le_refl _, by omega⟩ (by omega), hPNi4j4.fin w (by omega)⟩
                  · have xs5 : j3 < i4 ∨ p ≤ l3.getD i4 0 := .inl (by omega)
                    repeat' (first | simp only [go_sem, hs2, hs3, hs4, hs5, hL, has5, Ret_eq Try.results183] | simp (disch := omega) only [arith, IntKind.bits, capMax, fill_len, elt_fill] | (refine awpI_draw2 (id := 13) (.one false 0 (.one false 1 (.one false 2 (.one false 3 (.one false 4 (.one false 5 (.one false 6 (.one false 7 (.one false 8 (.one false 9 (.one false 10 (.one false 11 (.only 12 (.one false 13 .done)))))))))))))) mixed (by decide +kernel) (by decide +kernel) ?_) | fail)
                    refine awpI_while (σ := Nat) (fun x => x) (fun x => x ≤ j3 ∧ Pt a b i4 x p l3) (fun x => [(11, .v (.int .i64 x))]) (fun _ => []) [0, 1, 10, 100000] [0] j3 _ (Weak.refl _) ⟨Nat.le_refl _, hPNi4⟩ ?_ ?_ ?_
                    · simp only [go_sem, hs2, hs3, hs4, hs5, Ret_eq Try.results183]
                    · simp only [go_sem, hs2, hs3, hs4, hs5, Ret_eq Try.results183]
                    · rintro j4 s6 ⟨hges6, hPNi4j4⟩ hs6
                      simp only [go_sem, hs2, hs3, hs4, hs5, Ret_eq Try.results183] at hs6
                      have his6 := hPNi4j4.hi
                      have hjs6 := hPNi4j4.hj
                      have hijs6 := hPNi4j4.hij
                      have has6 := hPNi4j4.ha
                      have hlss6 := lessS16_fun (l3.getD j4 0) p
                      by_cases qs6 : i4 ≤ j4
                      · exact absurd qs6 (by omega)
                      · have w : j4 < i4 := by omega
                        have e5 : (l3.set j4 p).set a (l3.getD j4 0) = sw l3 j4 a := by unfold sw; rw [has6]
                        have e6 : (l3.set j4 p).length = l3.length := List.length_set
                        repeat' (first | simp only [go_sem, hs2, hs3, hs4, hs5, hs6, hL, has6, e5, List.length_set, Ret_eq Try.results183] | simp (disch := omega) only [arith, IntKind.bits, capMax, fill_len, elt_fill] | refine RetL_calc Try.results183 rfl ?_ | (refine awpI_draw2 (id := 15) (.one false 0 (.one false 1 (.one false 2 (.one false 3 (.one false 4 (.one false 5 (.one false 6 (.one false 7 (.one false 8 (.one false 9 (.one false 10 (.one false 11 (.only 12 (.one false 13 (.one false 14 .done))))))))))))))) mixed (by decide +kernel) (by decide +kernel) ?_) | (refine awpI_draw2 (id := 21) (.one false 0 (.one false 1 (.one false 4 (.one false 5 (.one false 6 (.one false 7 (.one false 8 (.one false 9 (.one false 10 (.one false 11 (.one false 12 (.mv 2 (.mv 3 (.only 13 (.one false 14 (.only 15 .done)))))))))))))))) mixed (by decide +kernel) (by decide +kernel) ?_) | fail)
                        all_goals exact ⟨j4, _, rfl, sw l3 j4 a, rfl, .step j4 a hsw3 ⟨by omega, by omega⟩ ⟨Nat.le_refl _, by omega⟩ (by omega), hPNi4j4.fin w (by omega)⟩
          · have w : j2 < i2 := by omega
            have e5 : (l0.set j2 p).set a (l0.getD j2 0) = sw l0 j2 a := by unfold sw; rw [has3]
            have e6 : (l0.set j2 p).length = l0.length := List.length_set
            repeat' (first | simp only [go_sem, hs2, hs3, hL, has3, e5, List.length_set, Ret_eq Try.results183] | simp (disch := omega) only [arith, IntKind.bits, capMax, fill_len, elt_fill] | refine RetL_calc Try.results183 rfl ?_ | (refine awpI_draw2 (id := 5) (.one false 0 (.one false 1 (.one false 2 (.one false 3 (.one false 4 (.one false 5 (.one false 6 (.one false 7 (.one false 8 (.one false 9 (.one false 10 (.one false 11 (.only 12 (.one false 13 (.one false 14 .done))))))))))))))) mixed (by decide +kernel) (by decide +kernel) ?_) | (refine awpI_draw2 (id := 8) (.one false 0 (.one false 1 (.one false 4 (.one false 5 (.one false 6 (.one false 7 (.one false 8 (.one false 9 (.one false 10 (.one false 11 (.one false 12 (.mv 2 (.mv 3 (.only 13 (.one false 14 (.only 15 .done)))))))))))))))) mixed (by decide +kernel) (by decide +kernel) ?_) | fail)
            all_goals exact ⟨j2, _, rfl, sw l0 j2 a, rfl, .step j2 a hsw0 ⟨by omega, by omega⟩ ⟨Nat.le_refl _, by omega⟩ (by omega), hPi2j2.fin w (by omega)⟩
    · have xs2 : (b - 1) < i2 ∨ p ≤ l0.getD i2 0 := .inl (by omega)
      repeat' (first | simp only [go_sem, hs2, hL, has2, Ret_eq Try.results183] | simp (disch := omega) only [arith, IntKind.bits, capMax, fill_len, elt_fill] | (refine awpI_draw2 (id := 3) (.one false 0 (.one false 1 (.one false 2 (.one false 3 (.one false 4 (.one false 5 (.one false 6 (.one false 7 (.one false 8 (.one false 9 (.one false 10 (.one false 11 (.only 12 (.one false 13 .done)))))))))))))) mixed (by decide +kernel) (by decide +kernel) ?_) | fail)
      refine awpI_while (σ := Nat) (fun x => x) (fun x => x ≤ (b - 1) ∧ Pt a b i2 x p l0) (fun x => [(11, .v (.int .i64 x))]) (fun _ => []) [0, 1, 10, 100000] [0] (b - 1) _ (Weak.refl _) ⟨Nat.le_refl _, hPi2⟩ ?_ ?_ ?_
      · simp only [go_sem, hs2, Ret_eq Try.results183]
      · simp only [go_sem, hs2, Ret_eq Try.results183]
      · rintro j2 s3 ⟨hges3, hPi2j2⟩ hs3
        simp only [go_sem, hs2, Ret_eq Try.results183] at hs3
        have his3 := hPi2j2.hi
        have hjs3 := hPi2j2.hj
        have hijs3 := hPi2j2.hij
        have has3 := hPi2j2.ha
        have hlss3 := lessS16_fun (l0.getD j2 0) p
        by_cases qs3 : i2 ≤ j2
        · exact absurd qs3 (by omega)
        · have w : j2 < i2 := by omega
          have e5 : (l0.set j2 p).set a (l0.getD j2 0) = sw l0 j2 a := by unfold sw; rw [has3]
          have e6 : (l0.set j2 p).length = l0.length := List.length_set
          repeat' (first | simp only [go_sem, hs2, hs3, hL, has3, e5, List.length_set, Ret_eq Try.results183] | simp (disch := omega) only [arith, IntKind.bits, capMax, fill_len, elt_fill] | refine RetL_calc Try.results183 rfl ?_ | (refine awpI_draw2 (id := 5) (.one false 0 (.one false 1 (.one false 2 (.one false 3 (.one false 4 (.one false 5 (.one false 6 (.one false 7 (.one false 8 (.one false 9 (.one false 10 (.one false 11 (.only 12 (.one false 13 (.one false 14 .done))))))))))))))) mixed (by decide +kernel) (by decide +kernel) ?_) | (refine awpI_draw2 (id := 8) (.one false 0 (.one false 1 (.one false 4 (.one false 5 (.one false 6 (.one false 7 (.one false 8 (.one false 9 (.one false 10 (.one false 11 (.one false 12 (.mv 2 (.mv 3 (.only 13 (.one false 14 (.only 15 .done)))))))))))))))) mixed (by decide +kernel) (by decide +kernel) ?_) | fail)
          all_goals exact ⟨j2, _, rfl, sw l0 j2 a, rfl, .step j2 a hsw0 ⟨by omega, by omega⟩ ⟨Nat.le_refl _, by omega⟩ (by omega), hPi2j2.fin w (by omega)⟩
end Go.Proofs.Ytpkampecmlpfmaa.T

end
section
set_option linter.unusedSimpArgs false
set_option linter.unusedVariables false
/- How many bits a number has, and what comes of it; walked. -/
namespace Go.Proofs.Ytpkampecmlpfmaa.T
open Go Go.VL Go.Proofs
set_option maxRecDepth 100000
set_option maxHeartbeats 4000000
def len8 (k : Nat) : Nat := if k = 0 then 0 else Nat.log2 k + 1
theorem len8_lt (k : Nat) : k < 2 ^ len8 k := by
  unfold len8
  split
  · rename_i h; rw [h]; decide
  · exact Nat.lt_log2_self
theorem len8_le {k : Nat} (h : 1 ≤ k) : 2 ^ len8 k ≤ 2 * k := by
  unfold len8
  rw [if_neg (by omega), Nat.pow_succ]
  have := Nat.log2_self_le (show k ≠ 0 by omega)
  omega
theorem len64_raw (x : Int) (hx : 0 ≤ x ∧ x < 65536) (w : World) : Calls Try.prog 172 #[.int .u64 x] w fun e w' => (∃ n : Nat, e = .returned (.int .i64 n) ∧ n ≤ 16 ∧ x < 2 ^ n ∧ (1 ≤ x → (2 : Int) ^ n ≤ 2 * x)) ∧ w' = w := by
  go_enter Try.func172, Try.ntmps172
  go_wp2
  · go_ret
    refine ⟨⟨8 + len8 (x / 256).toNat, ?_, ?_⟩, rfl⟩
    · show Ending.returned (Value.int .i64 (RowKit.wrap64 (8 + RowKit.wrap64 (((_ : UInt8).toNat : Nat) : Int)))) = _
      rw [← getElem!_pos]
      have hk : (x / 256).toNat < 256 := by omega
      generalize (x / 256).toNat = k at *
      congr 2
      clear hx
      revert k
      decide +kernel
    · have h1 := len8_lt (x / 256).toNat
      have h2 := len8_le (k := (x / 256).toNat) (by omega)
      generalize hm : len8 (x / 256).toNat = m at *
      have h3 : m ≤ 8 := by
        refine Nat.not_lt.1 fun q => ?_
        have : 2 ^ 9 ≤ 2 ^ m := Nat.pow_le_pow_right (by decide) q
        omega
      have e : (2 : Int) ^ (8 + m) = 256 * ((2 ^ m : Nat) : Int) := by rw [Int.pow_add]; norm_cast
      rw [e]
      refine ⟨by omega, by omega, fun _ => by omega⟩
  · go_ret
    refine ⟨⟨len8 x.toNat, ?_, ?_⟩, rfl⟩
    · show Ending.returned (Value.int .i64 (RowKit.wrap64 (RowKit.wrap64 (((_ : UInt8).toNat : Nat) : Int)))) = _
      rw [← getElem!_pos]
      have hk : x.toNat < 256 := by omega
      generalize x.toNat = k at *
      congr 2
      clear hx
      revert k
      decide +kernel
    · have h1 := len8_lt x.toNat
      have h2 := len8_le (k := x.toNat)
      generalize hm : len8 x.toNat = m at *
      have e : (2 : Int) ^ m = ((2 ^ m : Nat) : Int) := by norm_cast
      rw [e]
      refine ⟨?_, by omega, fun q => by have := h2 (by omega); omega⟩
      by_cases z : 1 ≤ x.toNat
      · refine Nat.not_lt.1 fun q => ?_
        have : 2 ^ 17 ≤ 2 ^ m := Nat.pow_le_pow_right (by decide) q
        have := h2 z
        omega
      · have : x.toNat = 0 := by omega
        rw [← hm, this]; decide
theorem len64_fun (x : Int) (hx : 0 ≤ x ∧ x < 65536) : Fun Try.prog 172 [.v (.int .u64 x)] fun r => ∃ n : Nat, r = .v (.int .i64 n) ∧ n ≤ 16 ∧ x < 2 ^ n ∧ (1 ≤ x → (2 : Int) ^ n ≤ 2 * x) := by
  refine ⟨by decide +kernel, fun J w vs hJ hG hv => ?_⟩
  obtain ⟨v, vs', rfl, hv1, hv2⟩ := hv
  have hv2 : vs' = [] := hv2
  subst hv2
  obtain ⟨rfl, _⟩ := hv1
  refine (len64_raw x hx w).mono ?_
  rintro e w' ⟨⟨n, rfl, h⟩, rfl⟩
  exact ⟨_, .v (.int .i64 n), rfl, ⟨n, rfl, h⟩, RowKit.Below.refl _ _, ⟨rfl, rfl⟩⟩

theorem bitsLen_fun (x : Int) (hx : 0 ≤ x ∧ x < 65536) : Fun Try.prog 145 [.v (.int .u64 x)] fun r => ∃ n : Nat, r = .v (.int .i64 n) ∧ n ≤ 16 ∧ x < 2 ^ n ∧ (1 ≤ x → (2 : Int) ^ n ≤ 2 * x) := by
  refine Fun.of_awpI Try.func145 rfl cal145 Try.ntmps145 (by simp) fun hwf => ?_
  simp only [D.wfs, D.wf, ints_length, ints_wfs, rows_length, rows_wfs, capMax, and_true, true_and] at hwf
  repeat' (first | simp only [go_sem, Ret_eq Try.results145] | (refine opCallI_gv (by simp only [go_sem, Ret_eq Try.results145]; first | done | rfl) (len64_fun x hx) ?_; rintro _ ⟨n, rfl, hn⟩) | fail)
  exact ⟨n, rfl, hn⟩

theorem nextPow_fun (k : Nat) (hk : 1 ≤ k ∧ k < 65536) : Fun Try.prog 185 [.v (.int .i64 k)] fun r => ∃ n : Nat, r = .v (.int .u64 ((2 ^ n : Nat) : Int)) ∧ n ≤ 16 ∧ 2 ^ n ≤ 2 * k := by
  refine Fun.of_awpI Try.func185 rfl cal185 Try.ntmps185 (by simp) fun hwf => ?_
  simp only [D.wfs, D.wf, ints_length, ints_wfs, rows_length, rows_wfs, capMax, and_true, true_and] at hwf
  repeat' (first | simp only [go_sem, Ret_eq Try.results185] | simp (disch := omega) only [arith, IntKind.bits, capMax, fill_len, elt_fill] | (refine opCallI_gv (by simp only [go_sem, Ret_eq Try.results185]; first | done | rfl) (bitsLen_fun k (by omega)) ?_; rintro _ ⟨n, rfl, hn⟩) | fail)
  exact ⟨n, by rw [Int.one_mul]; norm_cast, hn.1, by have := hn.2.2 (by omega); exact_mod_cast this⟩
abbrev boxX (x : Int) : Own := ⟨197, 1, [.v (.int .u64 x)]⟩

theorem next_sh (x : Int) : FunL Try.prog 186 [.adr 0 0 0] [boxX x] fun r os => ∃ y : Int, r = .v (.int .u64 y) ∧ os = [boxX y] := by
  refine FunL.of_awpI [(100000, 0)] rfl Try.func186 rfl cal186 Try.ntmps186 (by simp) fun hwf hlw ls => ?_
  simp only [lentWf, D.wfs, D.wf, ints_length, ints_wfs, rows_length, rows_wfs, capMax, and_true, true_and] at hwf hlw
  repeat' (first | simp only [go_sem, Ret_eq Try.results186] | simp (disch := omega) only [arith, IntKind.bits, capMax, fill_len, elt_fill] | refine RetL_calc Try.results186 rfl ?_ | (refine awpI_draw2 (id := 1) (.one false 0 (.one false 1 (.one false 2 (.one false 3 (.one false 4 (.one false 5 (.one false 6 (.one false 7 (.one false 8 (.only 9 .done)))))))))) mixed (by decide +kernel) (by decide +kernel) ?_) | (refine awpI_draw2 (id := 2) (.one false 0 (.one false 1 (.one false 2 (.one false 3 (.one false 4 (.one false 5 (.one false 6 (.one false 7 (.one false 8 (.only 9 .done)))))))))) mixed (by decide +kernel) (by decide +kernel) ?_) | (refine awpI_draw2 (id := 3) (.one false 0 (.one false 1 (.one false 2 (.one false 3 (.one false 4 (.one false 5 (.one false 6 (.one false 7 (.one false 8 (.only 9 .done)))))))))) mixed (by decide +kernel) (by decide +kernel) ?_) | fail)
  exact ⟨_, rfl, rfl⟩
theorem and_low (y : Int) {n : Nat} (hn : n ≤ 16) : ∃ k : Nat, abits .and .u64 y (((2 ^ n : Nat) : Int) - 1) = k ∧ k < 2 ^ n := by
  have h1 : 2 ^ n ≤ 2 ^ 16 := Nat.pow_le_pow_right (by decide) hn
  have h0 : 1 ≤ 2 ^ n := Nat.one_le_two_pow
  have e : ((2 ^ n : Nat) : Int) - 1 = ((2 ^ n - 1 : Nat) : Int) := by omega
  rw [e]
  simp only [abits]
  have e2 : BitVec.ofInt IntKind.u64.bits ((2 ^ n - 1 : Nat) : Int) = BitVec.ofNat 64 (2 ^ n - 1) := by simp [IntKind.bits]
  rw [e2]
  show ∃ k : Nat, IntKind.u64.wrap ((BitVec.ofInt 64 y &&& BitVec.ofNat 64 (2 ^ n - 1)).toNat : Int) = k ∧ k < 2 ^ n
  have h2 : (BitVec.ofInt 64 y &&& BitVec.ofNat 64 (2 ^ n - 1)).toNat ≤ 2 ^ n - 1 := by
    rw [BitVec.toNat_and]
    refine Nat.le_trans Nat.and_le_right ?_
    rw [BitVec.toNat_ofNat]
    exact Nat.mod_le _ _
  generalize (BitVec.ofInt 64 y &&& BitVec.ofNat 64 (2 ^ n - 1)).toNat = B at *
  refine ⟨B, ?_, by omega⟩
  rw [IntKind.wrap_u64]; omega
end Go.Proofs.Ytpkampecmlpfmaa.T

end
section
set_option linter.unusedSimpArgs false
set_option linter.unusedVariables false
/- Patterns broken; walked. -/
namespace Go.Proofs.Ytpkampecmlpfmaa.T
open Go Go.VL Go.Proofs
set_option maxRecDepth 100000
set_option maxHeartbeats 8000000

theorem break16 (l : List Int) (a b : Nat) (hab : a ≤ b) (hb : b ≤ l.length) (hl : l.length ≤ 60000) : FunL Try.prog 178 [.ref 0 l.length, .v (.int .i64 a), .v (.int .i64 b)] [own16 l] fun r os =>
    r = .tup [] ∧ ∃ l', os = [own16 l'] ∧ Sw a b l l' := by
  refine FunL.of_awpI [(100000, 0)] rfl Try.func178 rfl cal178 Try.ntmps178 (by simp) fun hwf hlw ls => ?_
  simp only [lentWf, D.wfs, D.wf, ints_length, ints_wfs, rows_length, rows_wfs, capMax, and_true, true_and] at hwf hlw
  obtain ⟨m, rfl⟩ : ∃ m, b = a + m := ⟨b - a, by omega⟩
  have e0 : ((a + m : Nat) : Int) - (a : Int) = ((m : Nat) : Int) := by omega
  by_cases h8 : 8 ≤ m
  · have e1 : ((m : Nat) : Int).tdiv 4 = ((m / 4 : Nat) : Int) := by rw [Int.tdiv_eq_ediv_of_nonneg (by omega)]; omega
    have e2 : (a : Int) + ((m / 4 : Nat) : Int) * 2 = ((a + m / 4 * 2 : Nat) : Int) := by omega
    have e3 : ((a + m / 4 * 2 : Nat) : Int) - 1 = ((a + m / 4 * 2 - 1 : Nat) : Int) := by omega
    have hnp := nextPow_fun m (by omega)
    repeat' (first | simp only [go_sem, e0, e1, e2, e3, Ret_eq Try.results178] | simp (disch := omega) only [arith, IntKind.bits, capMax, fill_len, elt_fill] | (refine opCallI_gv (by simp only [go_sem, e0, e1, e2, e3, Ret_eq Try.results178]; first | done | rfl) (hnp) ?_; rintro _ ⟨n, rfl, hn⟩) | fail)
    obtain ⟨hn1, hn2⟩ := hn
    have hpow : 1 ≤ 2 ^ n := Nat.one_le_two_pow
    refine awpI_while (σ := Nat × Int × List Int) (fun x => a + m / 4 * 2 + 2 - x.1) (fun x => (a ≤ x.1 ∧ x.1 ≤ a + m / 4 * 2 + 2) ∧ Sw a (a + m) l x.2.2) (fun x => [(9, .v (.int .i64 x.1))]) (fun x => [(0, own16 x.2.2), (7, boxX x.2.1)]) [0, 1, 6, 7, 8, 100000] [] (a + m / 4 * 2 - 1, (m : Int), l) _ (Weak.refl _) ⟨⟨by show a ≤ a + m / 4 * 2 - 1; omega, by show a + m / 4 * 2 - 1 ≤ _; omega⟩, .refl _⟩ ?_ ?_ ?_
    · simp only [go_sem, Ret_eq Try.results178]
      all_goals omega
    · simp only [go_sem, Ret_eq Try.results178]
    · rintro ⟨i, x, l1⟩ s ⟨⟨hi1, hi2⟩, hsw⟩ hs
      simp only [go_sem, Ret_eq Try.results178] at hs
      dsimp only at hi1 hi2 hsw
      have hl1 := hsw.length
      have e4 : ((a + m / 4 * 2 : Nat) : Int) + 1 = ((a + m / 4 * 2 + 1 : Nat) : Int) := by omega
      by_cases hi : i ≤ a + m / 4 * 2 + 1
      · repeat' (first | simp only [go_sem, hs, e0, e1, e2, e4, Ret_eq Try.results178] | simp (disch := omega) only [arith, IntKind.bits, capMax, fill_len, elt_fill] | fail)
        refine opCallI_lend [7] (by simp only [go_sem, hs, Ret_eq Try.results178]; first | done | rfl) (by simp only [go_sem, hs, Ret_eq Try.results178]; first | done | rfl) (by decide) (by simp only [go_sem, hs, Ret_eq Try.results178]; first | done | decide) (by simp only [go_sem, hs, Ret_eq Try.results178]; first | done | decide) (next_sh x) ?_
        rintro _ _ ⟨y, rfl, rfl⟩
        obtain ⟨k, hk, hk2⟩ := and_low y hn1
        by_cases hkm : m ≤ k
        · have e6 : (k : Int) - (m : Int) = ((k - m : Nat) : Int) := by omega
          have e7 : (a : Int) + ((k - m : Nat) : Int) = ((a + (k - m) : Nat) : Int) := by omega
          have e8 : (l1.set i (l1.getD (a + (k - m)) 0)).set (a + (k - m)) (l1.getD i 0) = sw l1 i (a + (k - m)) := rfl
          have e9 : (l1.set i (l1.getD (a + (k - m)) 0)).length = l1.length := List.length_set
          repeat' (first | simp only [go_sem, hs, e0, e1, e2, e4, hk, e6, e7, e8, List.length_set, Ret_eq Try.results178] | simp (disch := omega) only [arith, IntKind.bits, capMax, fill_len, elt_fill] | (refine awpI_draw2 (id := 10) (.one false 0 (.one false 1 (.one false 6 (.one false 7 (.one false 8 (.one false 9 (.one false 10 (.one false 11 (.one false 12 (.one false 13 (.one false 14 (.one false 15 (.one false 16 (.mv 2 (.mv 3 (.mv 4 (.cal 5 [17] (.only 17 (.one false 18 (.only 19 .done)))))))))))))))))))) mixed (by decide +kernel) (by decide +kernel) ?_) | fail)
          all_goals
            refine AgainW.to (i + 1, y, sw l1 i (a + (k - m))) ?_ ?_ ?_
            · show a + m / 4 * 2 + 2 - (i + 1) < a + m / 4 * 2 + 2 - i; omega
            · exact ⟨⟨by show a ≤ i + 1; omega, by show i + 1 ≤ _; omega⟩, .step _ _ hsw ⟨by omega, by omega⟩ ⟨by omega, by omega⟩ (by omega)⟩
            · simp only [go_sem, hs, Ret_eq Try.results178]
        · have e7 : (a : Int) + (k : Int) = ((a + k : Nat) : Int) := by omega
          have e8 : (l1.set i (l1.getD (a + k) 0)).set (a + k) (l1.getD i 0) = sw l1 i (a + k) := rfl
          have e9 : (l1.set i (l1.getD (a + k) 0)).length = l1.length := List.length_set
          repeat' (first | simp only [go_sem, hs, e0, e1, e2, e4, hk, e7, e8, List.length_set, Ret_eq Try.results178] | simp (disch := omega) only [arith, IntKind.bits, capMax, fill_len, elt_fill] | (refine awpI_draw2 (id := 10) (.one false 0 (.one false 1 (.one false 6 (.one false 7 (.one false 8 (.one false 9 (.one false 10 (.one false 11 (.one false 12 (.one false 13 (.one false 14 (.one false 15 (.one false 16 (.mv 2 (.mv 3 (.mv 4 (.cal 5 [17] (.only 17 (.one false 18 (.only 19 .done)))))))))))))))))))) mixed (by decide +kernel) (by decide +kernel) ?_) | fail)
          all_goals
            refine AgainW.to (i + 1, y, sw l1 i (a + k)) ?_ ?_ ?_
            · show a + m / 4 * 2 + 2 - (i + 1) < a + m / 4 * 2 + 2 - i; omega
            · exact ⟨⟨by show a ≤ i + 1; omega, by show i + 1 ≤ _; omega⟩, .step _ _ hsw ⟨by omega, by omega⟩ ⟨by omega, by omega⟩ (by omega)⟩
            · simp only [go_sem, hs, Ret_eq Try.results178]
      · repeat' (first | simp only [go_sem, hs, e0, e1, e2, e4, Ret_eq Try.results178] | simp (disch := omega) only [arith, IntKind.bits, capMax, fill_len, elt_fill] | refine RetL_calc Try.results178 rfl ?_ | fail)
        all_goals exact ⟨rfl, l1, rfl, hsw⟩
  · repeat' (first | simp only [go_sem, e0, Ret_eq Try.results178] | simp (disch := omega) only [arith, IntKind.bits, capMax, fill_len, elt_fill] | refine RetL_calc Try.results178 rfl ?_ | fail)
    all_goals exact ⟨rfl, l, rfl, .refl _⟩
end Go.Proofs.Ytpkampecmlpfmaa.T

end
section
set_option linter.unusedSimpArgs false
set_option linter.unusedVariables false
/- By what a list is parted; walked. -/
namespace Go.Proofs.Ytpkampecmlpfmaa.T
open Go Go.VL Go.Proofs
set_option maxRecDepth 100000
set_option maxHeartbeats 8000000
abbrev boxN16 (c : Int) : Own := ⟨3, 1, [.v (.int .i64 c)]⟩

theorem order216 (l : List Int) (a b : Nat) (c : Int) (ha : a < l.length) (hb : b < l.length) (hl : l.length ≤ 60000) : FunL Try.prog 194 [.ref 0 l.length, .v (.int .i64 a), .v (.int .i64 b), .adr 1 0 0] [own16 l, boxN16 c] fun r os =>
    ∃ (x y : Nat) (d : Int), r = .tup [.v (.int .i64 x), .v (.int .i64 y)] ∧ os = [own16 l, boxN16 d] ∧ (x = a ∨ x = b) ∧ (y = a ∨ y = b) := by
  refine FunL.of_awpI [(100000, 0), (100001, 1)] rfl Try.func194 rfl cal194 Try.ntmps194 (by simp) fun hwf hlw ls => ?_
  simp only [lentWf, D.wfs, D.wf, ints_length, ints_wfs, rows_length, rows_wfs, capMax, and_true, true_and] at hwf hlw
  have hls := lessS16_fun (l.getD b 0) (l.getD a 0)
  by_cases h : l.getD b 0 < l.getD a 0
  · rw [decide_eq_true h] at hls
    repeat' (first | simp only [go_sem, Ret_eq Try.results194] | simp (disch := omega) only [arith, IntKind.bits, capMax, fill_len, elt_fill] | refine RetL_calc Try.results194 rfl ?_ | (refine awpI_draw2 (id := 1) (.one false 0 (.one false 1 (.one false 2 (.one false 3 (.one false 4 (.one false 5 (.one false 6 (.one false 7 (.only 8 .done))))))))) mixed (by decide +kernel) (by decide +kernel) ?_) | (refine opCallI_rd (by simp only [go_sem, Ret_eq Try.results194]; first | done | rfl) (hls) (by rintro _ rfl; rfl) ?_; rintro _ rfl) | fail)
    all_goals exact ⟨b, a, _, rfl, rfl, .inr rfl, .inl rfl⟩
  · rw [decide_eq_false h] at hls
    repeat' (first | simp only [go_sem, Ret_eq Try.results194] | simp (disch := omega) only [arith, IntKind.bits, capMax, fill_len, elt_fill] | refine RetL_calc Try.results194 rfl ?_ | (refine awpI_draw2 (id := 1) (.one false 0 (.one false 1 (.one false 2 (.one false 3 (.one false 4 (.one false 5 (.one false 6 (.one false 7 (.only 8 .done))))))))) mixed (by decide +kernel) (by decide +kernel) ?_) | (refine opCallI_rd (by simp only [go_sem, Ret_eq Try.results194]; first | done | rfl) (hls) (by rintro _ rfl; rfl) ?_; rintro _ rfl) | fail)
    all_goals exact ⟨a, b, _, rfl, rfl, .inl rfl, .inr rfl⟩

theorem median16 (l : List Int) (a b c : Nat) (n : Int) (ha : a < l.length) (hb : b < l.length) (hc : c < l.length) (hl : l.length ≤ 60000) : FunL Try.prog 192 [.ref 0 l.length, .v (.int .i64 a), .v (.int .i64 b), .v (.int .i64 c), .adr 1 0 0] [own16 l, boxN16 n] fun r os =>
    ∃ (x : Nat) (d : Int), r = .v (.int .i64 x) ∧ os = [own16 l, boxN16 d] ∧ (x = a ∨ x = b ∨ x = c) := by
  refine FunL.of_awpI [(100000, 0), (100001, 1)] rfl Try.func192 rfl cal192 Try.ntmps192 (by simp) fun hwf hlw ls => ?_
  simp only [lentWf, D.wfs, D.wf, ints_length, ints_wfs, rows_length, rows_wfs, capMax, and_true, true_and] at hwf hlw
  repeat' (first | simp only [go_sem, Ret_eq Try.results192] | (refine opCallI_lend [0,1] (by simp only [go_sem, Ret_eq Try.results192]; first | done | rfl) (by simp only [go_sem, Ret_eq Try.results192]; first | done | rfl) (by decide) (by simp only [go_sem, Ret_eq Try.results192]; first | done | decide) (by simp only [go_sem, Ret_eq Try.results192]; first | done | decide) (order216 l a b n ha hb hl) ?_; rintro _ _ ⟨x1, y1, d1, rfl, rfl, hx1, hy1⟩) | fail)
  have bx1 : x1 < l.length := by omega
  have by1 : y1 < l.length := by omega
  repeat' (first | simp only [go_sem, Ret_eq Try.results192] | (refine opCallI_lend [0,1] (by simp only [go_sem, Ret_eq Try.results192]; first | done | rfl) (by simp only [go_sem, Ret_eq Try.results192]; first | done | rfl) (by decide) (by simp only [go_sem, Ret_eq Try.results192]; first | done | decide) (by simp only [go_sem, Ret_eq Try.results192]; first | done | decide) (order216 l y1 c d1 by1 hc hl) ?_; rintro _ _ ⟨x2, y2, d2, rfl, rfl, hx2, hy2⟩) | fail)
  have bx2 : x2 < l.length := by omega
  repeat' (first | simp only [go_sem, Ret_eq Try.results192] | refine RetL_calc Try.results192 rfl ?_ | (refine opCallI_lend [0,1] (by simp only [go_sem, Ret_eq Try.results192]; first | done | rfl) (by simp only [go_sem, Ret_eq Try.results192]; first | done | rfl) (by decide) (by simp only [go_sem, Ret_eq Try.results192]; first | done | decide) (by simp only [go_sem, Ret_eq Try.results192]; first | done | decide) (order216 l x1 x2 d2 bx1 bx2 hl) ?_; rintro _ _ ⟨x3, y3, d3, rfl, rfl, hx3, hy3⟩) | fail)
  exact ⟨y3, d3, rfl, rfl, by omega⟩

theorem medAdj16 (l : List Int) (a : Nat) (n : Int) (h1 : 1 ≤ a) (ha : a + 1 < l.length) (hl : l.length ≤ 60000) : FunL Try.prog 191 [.ref 0 l.length, .v (.int .i64 a), .adr 1 0 0] [own16 l, boxN16 n] fun r os =>
    ∃ (x : Nat) (d : Int), r = .v (.int .i64 x) ∧ os = [own16 l, boxN16 d] ∧ (a ≤ x + 1 ∧ x ≤ a + 1) := by
  refine FunL.of_awpI [(100000, 0), (100001, 1)] rfl Try.func191 rfl cal191 Try.ntmps191 (by simp) fun hwf hlw ls => ?_
  simp only [lentWf, D.wfs, D.wf, ints_length, ints_wfs, rows_length, rows_wfs, capMax, and_true, true_and] at hwf hlw
  have e1 : (a : Int) - 1 = ((a - 1 : Nat) : Int) := by omega
  repeat' (first | simp only [go_sem, e1, Ret_eq Try.results191] | simp (disch := omega) only [arith, IntKind.bits, capMax, fill_len, elt_fill] | refine RetL_calc Try.results191 rfl ?_ | (refine opCallI_lend [0,1] (by simp only [go_sem, e1, Ret_eq Try.results191]; first | done | rfl) (by simp only [go_sem, e1, Ret_eq Try.results191]; first | done | rfl) (by decide) (by simp only [go_sem, e1, Ret_eq Try.results191]; first | done | decide) (by simp only [go_sem, e1, Ret_eq Try.results191]; first | done | decide) (median16 l (a - 1) a (a + 1) n (by omega) (by omega) ha hl) ?_; rintro _ _ ⟨x, d, rfl, rfl, hx⟩) | fail)
  exact ⟨x, d, rfl, rfl, by omega⟩

theorem choose16 (l : List Int) (a b : Nat) (hab : a + 8 ≤ b) (hb : b ≤ l.length) (hl : l.length ≤ 60000) : FunL Try.prog 179 [.ref 0 l.length, .v (.int .i64 a), .v (.int .i64 b)] [own16 l] fun r os =>
    ∃ (x : Nat) (h : Int), r = .tup [.v (.int .i64 x), .v (.int .i64 h)] ∧ os = [own16 l] ∧ a ≤ x ∧ x < b := by
  refine FunL.of_awpI [(100000, 0)] rfl Try.func179 rfl cal179 Try.ntmps179 (by simp) fun hwf hlw ls => ?_
  simp only [lentWf, D.wfs, D.wf, ints_length, ints_wfs, rows_length, rows_wfs, capMax, and_true, true_and] at hwf hlw
  obtain ⟨m, rfl⟩ : ∃ m, b = a + m := ⟨b - a, by omega⟩
  have e0 : ((a + m : Nat) : Int) - (a : Int) = ((m : Nat) : Int) := by omega
  have e1 : ((m : Nat) : Int).tdiv 4 = (m : Int) / 4 := Int.tdiv_eq_ediv_of_nonneg (by omega)
  have e2 : (a : Int) + (m : Int) / 4 * 1 = ((a + m / 4 : Nat) : Int) := by omega
  have e3 : (a : Int) + (m : Int) / 4 * 2 = ((a + m / 4 * 2 : Nat) : Int) := by omega
  have e4 : (a : Int) + (m : Int) / 4 * 3 = ((a + m / 4 * 3 : Nat) : Int) := by omega
  have key : ∀ (i j k : Nat) (d : Int), (a ≤ i ∧ i < a + m) → (a ≤ j ∧ j < a + m) → (a ≤ k ∧ k < a + m) → FunL Try.prog 192 [.ref 0 l.length, .v (.int .i64 i), .v (.int .i64 j), .v (.int .i64 k), .adr 1 0 0] [own16 l, boxN16 d] fun r os =>
      ∃ (x : Nat) (d : Int), r = .v (.int .i64 x) ∧ os = [own16 l, boxN16 d] ∧ (x = i ∨ x = j ∨ x = k) := fun i j k d h1 h2 h3 => median16 l i j k d (by omega) (by omega) (by omega) hl
  by_cases h50 : 50 ≤ m
  · repeat' (first | simp only [go_sem, e0, e1, e2, e3, e4, Ret_eq Try.results179] | simp (disch := omega) only [arith, IntKind.bits, capMax, fill_len, elt_fill] | (refine opCallI_lend [0,9] (by simp only [go_sem, e0, e1, e2, e3, e4, Ret_eq Try.results179]; first | done | rfl) (by simp only [go_sem, e0, e1, e2, e3, e4, Ret_eq Try.results179]; first | done | rfl) (by decide) (by simp only [go_sem, e0, e1, e2, e3, e4, Ret_eq Try.results179]; first | done | decide) (by simp only [go_sem, e0, e1, e2, e3, e4, Ret_eq Try.results179]; first | done | decide) (medAdj16 l (a + m / 4) 0 (by omega) (by omega) hl) ?_; rintro _ _ ⟨x1, d1, rfl, rfl, hx1⟩) | fail)
    repeat' (first | simp only [go_sem, e0, e1, e2, e3, e4, Ret_eq Try.results179] | (refine opCallI_lend [0,9] (by simp only [go_sem, e0, e1, e2, e3, e4, Ret_eq Try.results179]; first | done | rfl) (by simp only [go_sem, e0, e1, e2, e3, e4, Ret_eq Try.results179]; first | done | rfl) (by decide) (by simp only [go_sem, e0, e1, e2, e3, e4, Ret_eq Try.results179]; first | done | decide) (by simp only [go_sem, e0, e1, e2, e3, e4, Ret_eq Try.results179]; first | done | decide) (medAdj16 l (a + m / 4 * 2) d1 (by omega) (by omega) hl) ?_; rintro _ _ ⟨x2, d2, rfl, rfl, hx2⟩) | fail)
    repeat' (first | simp only [go_sem, e0, e1, e2, e3, e4, Ret_eq Try.results179] | (refine opCallI_lend [0,9] (by simp only [go_sem, e0, e1, e2, e3, e4, Ret_eq Try.results179]; first | done | rfl) (by simp only [go_sem, e0, e1, e2, e3, e4, Ret_eq Try.results179]; first | done | rfl) (by decide) (by simp only [go_sem, e0, e1, e2, e3, e4, Ret_eq Try.results179]; first | done | decide) (by simp only [go_sem, e0, e1, e2, e3, e4, Ret_eq Try.results179]; first | done | decide) (medAdj16 l (a + m / 4 * 3) d2 (by omega) (by omega) hl) ?_; rintro _ _ ⟨x3, d3, rfl, rfl, hx3⟩) | fail)
    repeat' (first | simp only [go_sem, e0, e1, e2, e3, e4, Ret_eq Try.results179] | (with_reducible refine condI_beq (fun hq hqb => ?_) (fun hq hqb => ?_) <;> simp only [KP_mk, hqb]) | refine RetL_calc Try.results179 rfl ?_ | (refine opCallI_lend [0,9] (by simp only [go_sem, e0, e1, e2, e3, e4, Ret_eq Try.results179]; first | done | rfl) (by simp only [go_sem, e0, e1, e2, e3, e4, Ret_eq Try.results179]; first | done | rfl) (by decide) (by simp only [go_sem, e0, e1, e2, e3, e4, Ret_eq Try.results179]; first | done | decide) (by simp only [go_sem, e0, e1, e2, e3, e4, Ret_eq Try.results179]; first | done | decide) (key x1 x2 x3 d3 (by omega) (by omega) (by omega)) ?_; rintro _ _ ⟨x, d, rfl, rfl, hx⟩) | fail)
    all_goals (refine ⟨x, _, rfl, ?_⟩; first | exact ⟨rfl, by omega, by omega⟩ | exact ⟨by omega, by omega⟩)
  · repeat' (first | simp only [go_sem, e0, e1, e2, e3, e4, Ret_eq Try.results179] | simp (disch := omega) only [arith, IntKind.bits, capMax, fill_len, elt_fill] | (with_reducible refine condI_beq (fun hq hqb => ?_) (fun hq hqb => ?_) <;> simp only [KP_mk, hqb]) | refine RetL_calc Try.results179 rfl ?_ | (refine opCallI_lend [0,9] (by simp only [go_sem, e0, e1, e2, e3, e4, Ret_eq Try.results179]; first | done | rfl) (by simp only [go_sem, e0, e1, e2, e3, e4, Ret_eq Try.results179]; first | done | rfl) (by decide) (by simp only [go_sem, e0, e1, e2, e3, e4, Ret_eq Try.results179]; first | done | decide) (by simp only [go_sem, e0, e1, e2, e3, e4, Ret_eq Try.results179]; first | done | decide) (key (a + m / 4) (a + m / 4 * 2) (a + m / 4 * 3) 0 (by omega) (by omega) (by omega)) ?_; rintro _ _ ⟨x, d, rfl, rfl, hx⟩) | fail)
    all_goals (refine ⟨x, _, rfl, ?_⟩; first | exact ⟨rfl, by omega, by omega⟩ | exact ⟨by omega, by omega⟩)
end Go.Proofs.Ytpkampecmlpfmaa.T

end
section
set_option linter.unusedSimpArgs false
set_option linter.unusedVariables false
/- Sorting a list that is nearly sorted, walked. -/
namespace Go.Proofs.Ytpkampecmlpfmaa.T
open Go Go.VL Go.Proofs
set_option maxRecDepth 100000
set_option maxHeartbeats 8000000

theorem partial16 (l : List Int) (a b : Nat) (hab : a + 8 ≤ b) (hb : b ≤ l.length) (hl : l.length ≤ 60000) (hA : Ahd a b l) : FunL Try.prog 181 [.ref 0 l.length, .v (.int .i64 a), .v (.int .i64 b)] [own16 l] fun r os =>
    ∃ t : Bool, r = .v (.bool t) ∧ ∃ l', os = [own16 l'] ∧ Sw a b l l' ∧ (t = true → Sd a b l') := by
  refine FunL.of_awpI [(100000, 0)] rfl Try.func181 rfl cal181 Try.ntmps181 (by simp) fun hwf hlw ls => ?_
  simp only [lentWf, D.wfs, D.wf, ints_length, ints_wfs, rows_length, rows_wfs, capMax, and_true, true_and] at hwf hlw
  have eba : (b : Int) - (a : Int) = ((b - a : Nat) : Int) := by omega
  repeat' (first | simp only [go_sem, Ret_eq Try.results181] | simp (disch := omega) only [arith, IntKind.bits, capMax, fill_len, elt_fill] | fail)
  refine awpI_while (σ := Nat × Nat × List Int) (fun x => 5 - x.1) (fun x => (a + 1 ≤ x.2.1 ∧ x.2.1 ≤ b) ∧ Sw a b l x.2.2 ∧ Sd a x.2.1 x.2.2) (fun x => [(7, .v (.int .i64 x.2.1)), (8, .v (.int .i64 x.1))]) (fun x => [(0, own16 x.2.2)]) [0, 1, 2, 100000] [] (0, a + 1, l) _ (Weak.refl _) ⟨⟨Nat.le_refl _, by show a + 1 ≤ b; omega⟩, .refl _, fun p q h1 h2 h3 => by have h3 : q < a + 1 := h3; omega⟩ ?_ ?_ ?_
  · simp only [go_sem, Ret_eq Try.results181]
    all_goals simp
  · simp only [go_sem, Ret_eq Try.results181]
  · rintro ⟨j, i, l1⟩ s ⟨⟨hi1, hi2⟩, hsw, hsd⟩ hs
    simp only [go_sem, Ret_eq Try.results181] at hs
    dsimp only at hi1 hi2 hsw hsd
    have hl1 := hsw.length
    by_cases hj : j < 5
    · repeat' (first | simp only [go_sem, hs, Ret_eq Try.results181] | simp (disch := omega) only [arith, IntKind.bits, capMax, fill_len, elt_fill] | fail)
      refine awpI_while (σ := Nat) (fun x => b - x) (fun x => (a + 1 ≤ x ∧ x ≤ b) ∧ Sd a x l1) (fun x => [(7, .v (.int .i64 x))]) (fun _ => []) [0, 1, 2, 8, 100000] [0] i _ (Weak.refl _) ⟨⟨hi1, hi2⟩, hsd⟩ ?_ ?_ ?_
      · simp only [go_sem, hs, Ret_eq Try.results181]
      · simp only [go_sem, hs, Ret_eq Try.results181]
      · rintro i2 s2 ⟨⟨hi3, hi4⟩, hsd2⟩ hs2
        simp only [go_sem, hs, Ret_eq Try.results181] at hs2
        have ei : (i2 : Int) - 1 = ((i2 - 1 : Nat) : Int) := by omega
        have eia : (i2 : Int) - (a : Int) = ((i2 - a : Nat) : Int) := by omega
        have ebi : (b : Int) - (i2 : Int) = ((b - i2 : Nat) : Int) := by omega
        by_cases hb2 : i2 < b
        · have hls := lessS16_fun (l1.getD i2 0) (l1.getD (i2 - 1) 0)
          by_cases hlt : l1.getD i2 0 < l1.getD (i2 - 1) 0
          · rw [decide_eq_true hlt] at hls
            have hbe : ((i2 : Int) == (b : Int)) = false := beq_eq_false_iff_ne.2 (by omega)
            by_cases h50 : b - a < 50
            · repeat' (first | simp only [go_sem, hs, hs2, hl1, ei, hbe, eba, Ret_eq Try.results181] | simp (disch := omega) only [arith, IntKind.bits, capMax, fill_len, elt_fill] | refine RetL_calc Try.results181 rfl ?_ | (refine awpI_draw2 (id := 5) (.one false 0 (.one false 1 (.one false 2 (.one false 3 (.one false 4 (.one false 5 (.one false 6 (.one false 7 (.one false 8 (.one false 9 (.one false 10 (.one false 11 (.one false 12 (.only 13 (.one false 14 (.one false 15 .done)))))))))))))))) mixed (by decide +kernel) (by decide +kernel) ?_) | (refine opCallI_rd (by simp only [go_sem, hs, hs2, hl1, ei, hbe, eba, Ret_eq Try.results181]; first | done | rfl) (hls) (by rintro _ rfl; rfl) ?_; rintro _ rfl) | fail)
              all_goals exact ⟨false, rfl, l1, rfl, hsw, fun q => by cases q⟩
            · have e5 : (l1.set i2 (l1.getD (i2 - 1) 0)).set (i2 - 1) (l1.getD i2 0) = sw l1 i2 (i2 - 1) := rfl
              have e6 : (l1.set i2 (l1.getD (i2 - 1) 0)).length = l1.length := List.length_set
              have hsw2 : Sw a b l (sw l1 i2 (i2 - 1)) := .step i2 (i2 - 1) hsw ⟨by omega, by omega⟩ ⟨by omega, by omega⟩ (by omega)
              have hins : Ins a (i2 - 1) (i2 - 1) (sw l1 i2 (i2 - 1)) := hsd2.swapped hi3 (by omega) hlt
              have hl2 := hsw2.length
              by_cases h2 : 2 ≤ i2 - a
              · repeat' (first | simp only [go_sem, hs, hs2, hl1, ei, eia, ebi, hbe, eba, e5, List.length_set, Ret_eq Try.results181] | simp (disch := omega) only [arith, IntKind.bits, capMax, fill_len, elt_fill] | (refine awpI_draw2 (id := 5) (.one false 0 (.one false 1 (.one false 2 (.one false 3 (.one false 4 (.one false 5 (.one false 6 (.one false 7 (.one false 8 (.one false 9 (.one false 10 (.one false 11 (.one false 12 (.only 13 (.one false 14 (.one false 15 .done)))))))))))))))) mixed (by decide +kernel) (by decide +kernel) ?_) | (refine awpI_draw2 (id := 11) (.one false 0 (.one false 1 (.one false 5 (.one false 6 (.one false 7 (.one false 8 (.one false 9 (.one false 10 (.one false 11 (.one false 12 (.one false 13 (.one false 14 (.mv 2 (.mv 3 (.cal 4 [15] (.only 15 (.one false 16 (.only 17 .done)))))))))))))))))) mixed (by decide +kernel) (by decide +kernel) ?_) | (refine opCallI_rd (by simp only [go_sem, hs, hs2, hl1, ei, eia, ebi, hbe, eba, e5, List.length_set, Ret_eq Try.results181]; first | done | rfl) (hls) (by rintro _ rfl; rfl) ?_; rintro _ rfl) | fail)
                refine awpI_while (σ := Nat × List Int) (fun x => x.1) (fun x => (a ≤ x.1 ∧ x.1 ≤ i2 - 1) ∧ Sw a b l x.2 ∧ Ins a x.1 (i2 - 1) x.2) (fun x => [(9, .v (.int .i64 x.1))]) (fun x => [(0, own16 x.2)]) [0, 1, 2, 7, 8, 100000] [] (i2 - 1, sw l1 i2 (i2 - 1)) _ (Weak.refl _) ⟨⟨by show a ≤ i2 - 1; omega, Nat.le_refl _⟩, hsw2, hins⟩ ?_ ?_ ?_
                · simp only [go_sem, hs, hs2, Ret_eq Try.results181]
                · simp only [go_sem, hs, hs2, Ret_eq Try.results181]
                · rintro ⟨u, l3⟩ s3 ⟨⟨hu1, hu2⟩, hsw3, hins3⟩ hs3
                  simp only [go_sem, hs, hs2, Ret_eq Try.results181] at hs3
                  dsimp only at hu1 hu2 hsw3 hins3
                  have hl3 := hsw3.length
                  have eu : (u : Int) - 1 = ((u - 1 : Nat) : Int) ∨ u = 0 := by omega
                  have hA3 := hA.sw hsw3
                  by_cases hu0 : 1 ≤ u
                  · have eu := eu.resolve_right (by omega)
                    have hls3 := lessS16_fun (l3.getD u 0) (l3.getD (u - 1) 0)
                    by_cases hlt3 : l3.getD u 0 < l3.getD (u - 1) 0
                    · rw [decide_eq_true hlt3] at hls3
                      have hau : a < u := by
                        refine Nat.lt_of_le_of_ne hu1 fun q => ?_
                        subst q
                        rcases hA3 with q | q
                        · omega
                        · have := q a (Nat.le_refl _) (by omega); omega
                      have e7 : (l3.set u (l3.getD (u - 1) 0)).set (u - 1) (l3.getD u 0) = sw l3 u (u - 1) := rfl
                      have e8 : (l3.set u (l3.getD (u - 1) 0)).length = l3.length := List.length_set
                      repeat' (first | simp only [go_sem, hs, hs2, hs3, hl3, eu, e7, List.length_set, Ret_eq Try.results181] | simp (disch := omega) only [arith, IntKind.bits, capMax, fill_len, elt_fill] | (refine awpI_draw2 (id := 16) (.one false 0 (.one false 1 (.one false 2 (.one false 3 (.one false 4 (.one false 5 (.one false 6 (.one false 7 (.one false 8 (.only 9 (.one false 10 .done))))))))))) mixed (by decide +kernel) (by decide +kernel) ?_) | (refine awpI_draw2 (id := 17) (.one false 0 (.one false 1 (.one false 5 (.one false 6 (.one false 7 (.one false 8 (.one false 9 (.one false 10 (.one false 11 (.one false 12 (.one false 13 (.one false 14 (.mv 2 (.mv 3 (.cal 4 [15] (.only 15 (.one false 16 (.only 17 .done)))))))))))))))))) mixed (by decide +kernel) (by decide +kernel) ?_) | (refine opCallI_rd (by simp only [go_sem, hs, hs2, hs3, hl3, eu, e7, List.length_set, Ret_eq Try.results181]; first | done | rfl) (hls3) (by rintro _ rfl; rfl) ?_; rintro _ rfl) | fail)
                      all_goals
                        refine AgainW.to (u - 1, sw l3 u (u - 1)) ?_ ?_ ?_
                        · show u - 1 < u; omega
                        · exact ⟨⟨by show a ≤ u - 1; omega, by show u - 1 ≤ i2 - 1; omega⟩, .step u (u - 1) hsw3 ⟨by omega, by omega⟩ ⟨by omega, by omega⟩ (by omega), hins3.step hau hu2 (by omega) hlt3⟩
                        · simp only [go_sem, hs, hs2, hs3, Ret_eq Try.results181]
                    · rw [decide_eq_false hlt3] at hls3
                      have hsd3 : Sd a i2 l3 := by
                        have := hins3.done (.inr (by omega))
                        rw [show i2 - 1 + 1 = i2 by omega] at this
                        exact this
                      by_cases h3 : 2 ≤ b - i2
                      · repeat' (first | simp only [go_sem, hs, hs2, hs3, hl3, eu, eia, ebi, Ret_eq Try.results181] | simp (disch := omega) only [arith, IntKind.bits, capMax, fill_len, elt_fill] | (refine awpI_draw2 (id := 16) (.one false 0 (.one false 1 (.one false 2 (.one false 3 (.one false 4 (.one false 5 (.one false 6 (.one false 7 (.one false 8 (.only 9 (.one false 10 .done))))))))))) mixed (by decide +kernel) (by decide +kernel) ?_) | (refine opCallI_rd (by simp only [go_sem, hs, hs2, hs3, hl3, eu, eia, ebi, Ret_eq Try.results181]; first | done | rfl) (hls3) (by rintro _ rfl; rfl) ?_; rintro _ rfl) | fail)
                        refine awpI_while (σ := Nat × List Int) (fun x => b - x.1) (fun x => (i2 + 1 ≤ x.1 ∧ x.1 ≤ b) ∧ Sw a b l x.2 ∧ Sd a i2 x.2) (fun x => [(10, .v (.int .i64 x.1))]) (fun x => [(0, own16 x.2)]) [0, 1, 2, 7, 8, 100000] [] (i2 + 1, l3) _ (Weak.refl _) ⟨⟨Nat.le_refl _, by show i2 + 1 ≤ b; omega⟩, hsw3, hsd3⟩ ?_ ?_ ?_
                        · simp only [go_sem, hs, hs2, hs3, Ret_eq Try.results181]
                        · simp only [go_sem, hs, hs2, hs3, Ret_eq Try.results181]
                        · rintro ⟨v, l4⟩ s4 ⟨⟨hv1, hv2⟩, hsw4, hsd4⟩ hs4
                          simp only [go_sem, hs, hs2, hs3, Ret_eq Try.results181] at hs4
                          dsimp only at hv1 hv2 hsw4 hsd4
                          have hl4 := hsw4.length
                          have ev : (v : Int) - 1 = ((v - 1 : Nat) : Int) := by omega
                          by_cases hvb : v < b
                          · have hls4 := lessS16_fun (l4.getD v 0) (l4.getD (v - 1) 0)
                            by_cases hlt4 : l4.getD v 0 < l4.getD (v - 1) 0
                            · rw [decide_eq_true hlt4] at hls4
                              have e7 : (l4.set v (l4.getD (v - 1) 0)).set (v - 1) (l4.getD v 0) = sw l4 v (v - 1) := rfl
                              have e8 : (l4.set v (l4.getD (v - 1) 0)).length = l4.length := List.length_set
                              repeat' (first | simp only [go_sem, hs, hs2, hs3, hs4, hl4, ev, e7, List.length_set, Ret_eq Try.results181] | simp (disch := omega) only [arith, IntKind.bits, capMax, fill_len, elt_fill] | (refine awpI_draw2 (id := 22) (.one false 0 (.one false 1 (.one false 2 (.one false 3 (.one false 4 (.one false 5 (.one false 6 (.one false 7 (.one false 8 (.only 9 (.one false 10 .done))))))))))) mixed (by decide +kernel) (by decide +kernel) ?_) | (refine awpI_draw2 (id := 23) (.one false 0 (.one false 1 (.one false 5 (.one false 6 (.one false 7 (.one false 8 (.one false 9 (.one false 10 (.one false 11 (.one false 12 (.one false 13 (.one false 14 (.mv 2 (.mv 3 (.cal 4 [15] (.only 15 (.one false 16 (.only 17 .done)))))))))))))))))) mixed (by decide +kernel) (by decide +kernel) ?_) | (refine opCallI_rd (by simp only [go_sem, hs, hs2, hs3, hs4, hl4, ev, e7, List.length_set, Ret_eq Try.results181]; first | done | rfl) (hls4) (by rintro _ rfl; rfl) ?_; rintro _ rfl) | fail)
                              all_goals
                                refine AgainW.to (v + 1, sw l4 v (v - 1)) ?_ ?_ ?_
                                · show b - (v + 1) < b - v; omega
                                · exact ⟨⟨by show i2 + 1 ≤ v + 1; omega, by show v + 1 ≤ b; omega⟩, .step v (v - 1) hsw4 ⟨by omega, by omega⟩ ⟨by omega, by omega⟩ (by omega), hsd4.out (by omega) (by omega) (by omega) (by omega)⟩
                                · simp only [go_sem, hs, hs2, hs3, hs4, Ret_eq Try.results181]
                            · rw [decide_eq_false hlt4] at hls4
                              repeat' (first | simp only [go_sem, hs, hs2, hs3, hs4, hl4, ev, Ret_eq Try.results181] | simp (disch := omega) only [arith, IntKind.bits, capMax, fill_len, elt_fill] | (refine awpI_draw2 (id := 22) (.one false 0 (.one false 1 (.one false 2 (.one false 3 (.one false 4 (.one false 5 (.one false 6 (.one false 7 (.one false 8 (.only 9 (.one false 10 .done))))))))))) mixed (by decide +kernel) (by decide +kernel) ?_) | (refine opCallI_rd (by simp only [go_sem, hs, hs2, hs3, hs4, hl4, ev, Ret_eq Try.results181]; first | done | rfl) (hls4) (by rintro _ rfl; rfl) ?_; rintro _ rfl) | fail)
                              all_goals
                                refine AgainW.to (j + 1, i2, l4) ?_ ?_ ?_
                                · show 5 - (j + 1) < 5 - j; omega
                                · exact ⟨⟨hi3, hi4⟩, hsw4, hsd4⟩
                                · simp only [go_sem, hs, hs2, hs3, hs4, Ret_eq Try.results181]
                          · repeat' (first | simp only [go_sem, hs, hs2, hs3, hs4, hl4, ev, Ret_eq Try.results181] | simp (disch := omega) only [arith, IntKind.bits, capMax, fill_len, elt_fill] | fail)
                            all_goals
                              refine AgainW.to (j + 1, i2, l4) ?_ ?_ ?_
                              · show 5 - (j + 1) < 5 - j; omega
                              · exact ⟨⟨hi3, hi4⟩, hsw4, hsd4⟩
                              · simp only [go_sem, hs, hs2, hs3, hs4, Ret_eq Try.results181]
                      · repeat' (first | simp only [go_sem, hs, hs2, hs3, hl3, eu, eia, ebi, Ret_eq Try.results181] | simp (disch := omega) only [arith, IntKind.bits, capMax, fill_len, elt_fill] | (refine awpI_draw2 (id := 16) (.one false 0 (.one false 1 (.one false 2 (.one false 3 (.one false 4 (.one false 5 (.one false 6 (.one false 7 (.one false 8 (.only 9 (.one false 10 .done))))))))))) mixed (by decide +kernel) (by decide +kernel) ?_) | (refine opCallI_rd (by simp only [go_sem, hs, hs2, hs3, hl3, eu, eia, ebi, Ret_eq Try.results181]; first | done | rfl) (hls3) (by rintro _ rfl; rfl) ?_; rintro _ rfl) | fail)
                        all_goals
                          refine AgainW.to (j + 1, i2, l3) ?_ ?_ ?_
                          · show 5 - (j + 1) < 5 - j; omega
                          · exact ⟨⟨hi3, hi4⟩, hsw3, hsd3⟩
                          · simp only [go_sem, hs, hs2, hs3, Ret_eq Try.results181]
                  · have hsd3 : Sd a i2 l3 := by
                      have := hins3.done (.inl (by omega))
                      rw [show i2 - 1 + 1 = i2 by omega] at this
                      exact this
                    obtain rfl : u = 0 := by omega
                    by_cases h3 : 2 ≤ b - i2
                    · repeat' (first | simp only [go_sem, hs, hs2, hs3, hl3, eia, ebi, Ret_eq Try.results181] | simp (disch := omega) only [arith, IntKind.bits, capMax, fill_len, elt_fill] | fail)
                      refine awpI_while (σ := Nat × List Int) (fun x => b - x.1) (fun x => (i2 + 1 ≤ x.1 ∧ x.1 ≤ b) ∧ Sw a b l x.2 ∧ Sd a i2 x.2) (fun x => [(10, .v (.int .i64 x.1))]) (fun x => [(0, own16 x.2)]) [0, 1, 2, 7, 8, 100000] [] (i2 + 1, l3) _ (Weak.refl _) ⟨⟨Nat.le_refl _, by show i2 + 1 ≤ b; omega⟩, hsw3, hsd3⟩ ?_ ?_ ?_
                      · simp only [go_sem, hs, hs2, hs3, Ret_eq Try.results181]
                      · simp only [go_sem, hs, hs2, hs3, Ret_eq Try.results181]
                      · rintro ⟨v, l4⟩ s4 ⟨⟨hv1, hv2⟩, hsw4, hsd4⟩ hs4
                        simp only [go_sem, hs, hs2, hs3, Ret_eq Try.results181] at hs4
                        dsimp only at hv1 hv2 hsw4 hsd4
                        have hl4 := hsw4.length
                        have ev : (v : Int) - 1 = ((v - 1 : Nat) : Int) := by omega
                        by_cases hvb : v < b
                        · have hls4 := lessS16_fun (l4.getD v 0) (l4.getD (v - 1) 0)
                          by_cases hlt4 : l4.getD v 0 < l4.getD (v - 1) 0
                          · rw [decide_eq_true hlt4] at hls4
                            have e7 : (l4.set v (l4.getD (v - 1) 0)).set (v - 1) (l4.getD v 0) = sw l4 v (v - 1) := rfl
                            have e8 : (l4.set v (l4.getD (v - 1) 0)).length = l4.length := List.length_set
                            repeat' (first | simp only [go_sem, hs, hs2, hs3, hs4, hl4, ev, e7, List.length_set, Ret_eq Try.results181] | simp (disch := omega) only [arith, IntKind.bits, capMax, fill_len, elt_fill] | (refine awpI_draw2 (id := 22) (.one false 0 (.one false 1 (.one false 2 (.one false 3 (.one false 4 (.one false 5 (.one false 6 (.one false 7 (.one false 8 (.only 9 (.one false 10 .done))))))))))) mixed (by decide +kernel) (by decide +kernel) ?_) | (refine awpI_draw2 (id := 23) (.one false 0 (.one false 1 (.one false 5 (.one false 6 (.one false 7 (.one false 8 (.one false 9 (.one false 10 (.one false 11 (.one false 12 (.one false 13 (.one false 14 (.mv 2 (.mv 3 (.cal 4 [15] (.only 15 (.one false 16 (.only 17 .done)))))))))))))))))) mixed (by decide +kernel) (by decide +kernel) ?_) | (refine opCallI_rd (by simp only [go_sem, hs, hs2, hs3, hs4, hl4, ev, e7, List.length_set, Ret_eq Try.results181]; first | done | rfl) (hls4) (by rintro _ rfl; rfl) ?_; rintro _ rfl) | fail)
                            all_goals
                              refine AgainW.to (v + 1, sw l4 v (v - 1)) ?_ ?_ ?_
                              · show b - (v + 1) < b - v; omega
                              · exact ⟨⟨by show i2 + 1 ≤ v + 1; omega, by show v + 1 ≤ b; omega⟩, .step v (v - 1) hsw4 ⟨by omega, by omega⟩ ⟨by omega, by omega⟩ (by omega), hsd4.out (by omega) (by omega) (by omega) (by omega)⟩
                              · simp only [go_sem, hs, hs2, hs3, hs4, Ret_eq Try.results181]
                          · rw [decide_eq_false hlt4] at hls4
                            repeat' (first | simp only [go_sem, hs, hs2, hs3, hs4, hl4, ev, Ret_eq Try.results181] | simp (disch := omega) only [arith, IntKind.bits, capMax, fill_len, elt_fill] | (refine awpI_draw2 (id := 22) (.one false 0 (.one false 1 (.one false 2 (.one false 3 (.one false 4 (.one false 5 (.one false 6 (.one false 7 (.one false 8 (.only 9 (.one false 10 .done))))))))))) mixed (by decide +kernel) (by decide +kernel) ?_) | (refine opCallI_rd (by simp only [go_sem, hs, hs2, hs3, hs4, hl4, ev, Ret_eq Try.results181]; first | done | rfl) (hls4) (by rintro _ rfl; rfl) ?_; rintro _ rfl) | fail)
                            all_goals
                              refine AgainW.to (j + 1, i2, l4) ?_ ?_ ?_
                              · show 5 - (j + 1) < 5 - j; omega
                              · exact ⟨⟨hi3, hi4⟩, hsw4, hsd4⟩
                              · simp only [go_sem, hs, hs2, hs3, hs4, Ret_eq Try.results181]
                        · repeat' (first | simp only [go_sem, hs, hs2, hs3, hs4, hl4, ev, Ret_eq Try.results181] | simp (disch := omega) only [arith, IntKind.bits, capMax, fill_len, elt_fill] | fail)
                          all_goals
                            refine AgainW.to (j + 1, i2, l4) ?_ ?_ ?_
                            · show 5 - (j + 1) < 5 - j; omega
                            · exact ⟨⟨hi3, hi4⟩, hsw4, hsd4⟩
                            · simp only [go_sem, hs, hs2, hs3, hs4, Ret_eq Try.results181]
                    · repeat' (first | simp only [go_sem, hs, hs2, hs3, hl3, eia, ebi, Ret_eq Try.results181] | simp (disch := omega) only [arith, IntKind.bits, capMax, fill_len, elt_fill] | fail)
                      all_goals
                        refine AgainW.to (j + 1, i2, l3) ?_ ?_ ?_
                        · show 5 - (j + 1) < 5 - j; omega
                        · exact ⟨⟨hi3, hi4⟩, hsw3, hsd3⟩
                        · simp only [go_sem, hs, hs2, hs3, Ret_eq Try.results181]
              · have hsd3 : Sd a i2 (sw l1 i2 (i2 - 1)) := fun p q p1 p2 p3 => by omega
                by_cases h3 : 2 ≤ b - i2
                · repeat' (first | simp only [go_sem, hs, hs2, hl1, ei, eia, ebi, hbe, eba, e5, List.length_set, Ret_eq Try.results181] | simp (disch := omega) only [arith, IntKind.bits, capMax, fill_len, elt_fill] | (refine awpI_draw2 (id := 5) (.one false 0 (.one false 1 (.one false 2 (.one false 3 (.one false 4 (.one false 5 (.one false 6 (.one false 7 (.one false 8 (.one false 9 (.one false 10 (.one false 11 (.one false 12 (.only 13 (.one false 14 (.one false 15 .done)))))))))))))))) mixed (by decide +kernel) (by decide +kernel) ?_) | (refine awpI_draw2 (id := 11) (.one false 0 (.one false 1 (.one false 5 (.one false 6 (.one false 7 (.one false 8 (.one false 9 (.one false 10 (.one false 11 (.one false 12 (.one false 13 (.one false 14 (.mv 2 (.mv 3 (.cal 4 [15] (.only 15 (.one false 16 (.only 17 .done)))))))))))))))))) mixed (by decide +kernel) (by decide +kernel) ?_) | (refine opCallI_rd (by simp only [go_sem, hs, hs2, hl1, ei, eia, ebi, hbe, eba, e5, List.length_set, Ret_eq Try.results181]; first | done | rfl) (hls) (by rintro _ rfl; rfl) ?_; rintro _ rfl) | fail)
                  refine awpI_while (σ := Nat × List Int) (fun x => b - x.1) (fun x => (i2 + 1 ≤ x.1 ∧ x.1 ≤ b) ∧ Sw a b l x.2 ∧ Sd a i2 x.2) (fun x => [(10, .v (.int .i64 x.1))]) (fun x => [(0, own16 x.2)]) [0, 1, 2, 7, 8, 100000] [] (i2 + 1, (sw l1 i2 (i2 - 1))) _ (Weak.refl _) ⟨⟨Nat.le_refl _, by show i2 + 1 ≤ b; omega⟩, hsw2, hsd3⟩ ?_ ?_ ?_
                  · simp only [go_sem, hs, hs2, Ret_eq Try.results181]
                  · simp only [go_sem, hs, hs2, Ret_eq Try.results181]
                  · rintro ⟨v, l4⟩ s4 ⟨⟨hv1, hv2⟩, hsw4, hsd4⟩ hs4
                    simp only [go_sem, hs, hs2, Ret_eq Try.results181] at hs4
                    dsimp only at hv1 hv2 hsw4 hsd4
                    have hl4 := hsw4.length
                    have ev : (v : Int) - 1 = ((v - 1 : Nat) : Int) := by omega
                    by_cases hvb : v < b
                    · have hls4 := lessS16_fun (l4.getD v 0) (l4.getD (v - 1) 0)
                      by_cases hlt4 : l4.getD v 0 < l4.getD (v - 1) 0
                      · rw [decide_eq_true hlt4] at hls4
                        have e7 : (l4.set v (l4.getD (v - 1) 0)).set (v - 1) (l4.getD v 0) = sw l4 v (v - 1) := rfl
                        have e8 : (l4.set v (l4.getD (v - 1) 0)).length = l4.length := List.length_set
                        repeat' (first | simp only [go_sem, hs, hs2, hs4, hl4, ev, e7, List.length_set, Ret_eq Try.results181] | simp (disch := omega) only [arith, IntKind.bits, capMax, fill_len, elt_fill] | (refine awpI_draw2 (id := 22) (.one false 0 (.one false 1 (.one false 2 (.one false 3 (.one false 4 (.one false 5 (.one false 6 (.one false 7 (.one false 8 (.only 9 (.one false 10 .done))))))))))) mixed (by decide +kernel) (by decide +kernel) ?_) | (refine awpI_draw2 (id := 23) (.one false 0 (.one false 1 (.one false 5 (.one false 6 (.one false 7 (.one false 8 (.one false 9 (.one false 10 (.one false 11 (.one false 12 (.one false 13 (.one false 14 (.mv 2 (.mv 3 (.cal 4 [15] (.only 15 (.one false 16 (.only 17 .done)))))))))))))))))) mixed (by decide +kernel) (by decide +kernel) ?_) | (refine opCallI_rd (by simp only [go_sem, hs, hs2, hs4, hl4, ev, e7, List.length_set, Ret_eq Try.results181]; first | done | rfl) (hls4) (by rintro _ rfl; rfl) ?_; rintro _ rfl) | fail)
                        all_goals
                          refine AgainW.to (v + 1, sw l4 v (v - 1)) ?_ ?_ ?_
                          · show b - (v + 1) < b - v; omega
                          · exact ⟨⟨by show i2 + 1 ≤ v + 1; omega, by show v + 1 ≤ b; omega⟩, .step v (v - 1) hsw4 ⟨by omega, by omega⟩ ⟨by omega, by omega⟩ (by omega), hsd4.out (by omega) (by omega) (by omega) (by omega)⟩
                          · simp only [go_sem, hs, hs2, hs4, Ret_eq Try.results181]
                      · rw [decide_eq_false hlt4] at hls4
                        repeat' (first | simp only [go_sem, hs, hs2, hs4, hl4, ev, Ret_eq Try.results181] | simp (disch := omega) only [arith, IntKind.bits, capMax, fill_len, elt_fill] | (refine awpI_draw2 (id := 22) (.one false 0 (.one false 1 (.one false 2 (.one false 3 (.one false 4 (.one false 5 (.one false 6 (.one false 7 (.one false 8 (.only 9 (.one false 10 .done))))))))))) mixed (by decide +kernel) (by decide +kernel) ?_) | (refine opCallI_rd (by simp only [go_sem, hs, hs2, hs4, hl4, ev, Ret_eq Try.results181]; first | done | rfl) (hls4) (by rintro _ rfl; rfl) ?_; rintro _ rfl) | fail)
                        all_goals
                          refine AgainW.to (j + 1, i2, l4) ?_ ?_ ?_
                          · show 5 - (j + 1) < 5 - j; omega
                          · exact ⟨⟨hi3, hi4⟩, hsw4, hsd4⟩
                          · simp only [go_sem, hs, hs2, hs4, Ret_eq Try.results181]
                    · repeat' (first | simp only [go_sem, hs, hs2, hs4, hl4, ev, Ret_eq Try.results181] | simp (disch := omega) only [arith, IntKind.bits, capMax, fill_len, elt_fill] | fail)
                      all_goals
                        refine AgainW.to (j + 1, i2, l4) ?_ ?_ ?_
                        · show 5 - (j + 1) < 5 - j; omega
                        · exact ⟨⟨hi3, hi4⟩, hsw4, hsd4⟩
                        · simp only [go_sem, hs, hs2, hs4, Ret_eq Try.results181]
                · exact absurd h3 (by omega)
          · rw [decide_eq_false hlt] at hls
            repeat' (first | simp only [go_sem, hs, hs2, hl1, ei, Ret_eq Try.results181] | simp (disch := omega) only [arith, IntKind.bits, capMax, fill_len, elt_fill] | (refine awpI_draw2 (id := 5) (.one false 0 (.one false 1 (.one false 2 (.one false 3 (.one false 4 (.one false 5 (.one false 6 (.one false 7 (.one false 8 (.one false 9 (.one false 10 (.one false 11 (.one false 12 (.only 13 (.one false 14 (.one false 15 .done)))))))))))))))) mixed (by decide +kernel) (by decide +kernel) ?_) | (refine opCallI_rd (by simp only [go_sem, hs, hs2, hl1, ei, Ret_eq Try.results181]; first | done | rfl) (hls) (by rintro _ rfl; rfl) ?_; rintro _ rfl) | fail)
            all_goals
              refine AgainW.to (i2 + 1) ?_ ?_ ?_
              · show b - (i2 + 1) < b - i2; omega
              · exact ⟨⟨by show a + 1 ≤ i2 + 1; omega, by show i2 + 1 ≤ b; omega⟩, hsd2.snoc hi3 (by omega)⟩
              · simp only [go_sem, hs, hs2, Ret_eq Try.results181]
        · obtain rfl : i2 = b := by omega
          repeat' (first | simp only [go_sem, hs, hs2, beq_self_eq_true, Ret_eq Try.results181] | simp (disch := omega) only [arith, IntKind.bits, capMax, fill_len, elt_fill] | refine RetL_calc Try.results181 rfl ?_ | (refine awpI_draw2 (id := 5) (.one false 0 (.one false 1 (.one false 2 (.one false 3 (.one false 4 (.one false 5 (.one false 6 (.one false 7 (.one false 8 (.one false 9 (.one false 10 (.one false 11 (.one false 12 (.only 13 (.one false 14 (.one false 15 .done)))))))))))))))) mixed (by decide +kernel) (by decide +kernel) ?_) | fail)
          all_goals exact ⟨true, rfl, l1, rfl, hsw, fun _ => hsd2⟩
    · repeat' (first | simp only [go_sem, hs, Ret_eq Try.results181] | simp (disch := omega) only [arith, IntKind.bits, capMax, fill_len, elt_fill] | refine RetL_calc Try.results181 rfl ?_ | fail)
      all_goals exact ⟨false, rfl, l1, rfl, hsw, fun q => by cases q⟩
end Go.Proofs.Ytpkampecmlpfmaa.T

end
