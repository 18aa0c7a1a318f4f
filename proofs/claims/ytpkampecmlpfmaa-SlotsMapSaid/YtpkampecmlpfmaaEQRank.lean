import Derived.Test.YtpkampecmlpfmaaLE
import Derived.Test.YtpkampecmlpfmaaEQSpec
import Derived.Test.YtpkampecmlpfmaaEVWalk
set_option linter.unusedSimpArgs false
set_option linter.unusedVariables false
/- Cuts and cells, walked. -/
namespace Go.Proofs.Ytpkampecmlpfmaa.T
open Go Go.VL Go.Proofs
set_option maxRecDepth 100000
set_option maxHeartbeats 4000000

theorem isNaN16_fun (x : Int) : Fun Try.prog 161 [.v (.int .i16 x)] fun r => r = .v (.bool false) := by
  refine Fun.of_awpI Try.func161 rfl cal161 Try.ntmps161 (by simp) fun hwf => ?_
  simp only [D.wfs, D.wf, ints_length, ints_wfs, rows_length, rows_wfs, capMax, and_true, true_and] at hwf
  repeat' (first | simp only [go_sem, bne_self_eq_false, Ret_eq Try.results161] | fail)

theorem less16_fun (x y : Int) : Fun Try.prog 140 [.v (.int .i16 x), .v (.int .i16 y)] fun r => r = .v (.bool (decide (x < y))) := by
  refine Fun.of_awpI Try.func140 rfl cal140 Try.ntmps140 (by simp) fun hwf => ?_
  simp only [D.wfs, D.wf, ints_length, ints_wfs, rows_length, rows_wfs, capMax, and_true, true_and] at hwf
  repeat' (first | simp only [go_sem, Ret_eq Try.results140] | (refine opCallI_rd (by simp only [go_sem, Ret_eq Try.results140]; first | done | rfl) (isNaN16_fun x) (by rintro _ rfl; rfl) ?_; rintro _ rfl) | fail)

theorem isSorted16_fun (c : List Int) : Fun Try.prog 93 [.lst (ints .i16 c)] fun r => r = .v (.bool (decide (Rises c))) := by
  refine Fun.of_awpI Try.func93 rfl cal93 Try.ntmps93 (by simp) fun hwf => ?_
  simp only [D.wfs, D.wf, ints_length, ints_wfs, rows_length, rows_wfs, capMax, and_true, true_and] at hwf
  repeat' (first | simp only [go_sem, Ret_eq Try.results93] | simp (disch := omega) only [arith, IntKind.bits, capMax, fill_len, elt_fill] | fail)
  refine awpI_for (c.length - 1) (fun k => ∀ i, i + 1 < c.length → c.length - 1 - k ≤ i → c.getD i 0 ≤ c.getD (i + 1) 0) (fun k => [(3, .v (.int .i64 (c.length - 1 - k)))]) (fun _ => []) [0] [] _ (Weak.refl _) (fun i h1 h2 => by omega) ?_ ?_ ?_
  · simp only [go_sem, Ret_eq Try.results93]
    simp
  · simp only [go_sem, Ret_eq Try.results93]
  · intro k s hk hQ hs
    simp only [go_sem, Ret_eq Try.results93] at hs
    by_cases hka : k < c.length - 1
    · have t1 : ((c.length : Int) - 1 - k).toNat = c.length - 1 - k := by omega
      have t2 : ((c.length : Int) - 1 - k - 1).toNat = c.length - 2 - k := by omega
      repeat' (first | simp only [go_sem, hs, t1, t2, Ret_eq Try.results93] | simp (disch := omega) only [arith, IntKind.bits, capMax, fill_len, elt_fill] | (with_reducible refine condI_dec (fun hq hqb => ?_) (fun hq hqb => ?_) <;> simp only [KP_mk, hqb]) | (refine awpI_draw2 (id := 4) (.one false 0 (.one false 1 (.one false 2 (.one false 3 (.one false 4 (.one false 5 (.one false 6 (.one false 7 (.one false 8 (.only 9 .done)))))))))) mixed (by decide +kernel) (by decide +kernel) ?_) | (refine Again.up (by omega) ?_ ?_) | (refine opCallI_rd (by simp only [go_sem, hs, t1, t2, Ret_eq Try.results93]; first | done | rfl) (less16_fun _ _) (by rintro _ rfl; rfl) ?_; rintro _ rfl) | fail)
      · rw [decide_eq_false]
        intro hr
        have := hr (c.length - 2 - k) (by omega)
        rw [show c.length - 2 - k + 1 = c.length - 1 - k by omega] at this
        omega
      · intro i h1 h2
        by_cases hi : i = c.length - 2 - k
        · subst hi
          rw [show c.length - 2 - k + 1 = c.length - 1 - k by omega]
          omega
        · exact hQ i h1 (by omega)
      · omega
    · repeat' (first | simp only [go_sem, hs, Ret_eq Try.results93] | simp (disch := omega) only [arith, IntKind.bits, capMax, fill_len, elt_fill] | fail)
      rw [decide_eq_true]
      exact fun i hi => hQ i hi (by omega)

theorem rankOdd_fun (x : Int) : Fun Try.prog 88 [.v (.int .i16 x)] fun r => r = .v (.bool (decide (x < -32767))) := by
  refine Fun.of_awpI Try.func88 rfl cal88 Try.ntmps88 (by simp) fun hwf => ?_
  simp only [D.wfs, D.wf, ints_length, ints_wfs, rows_length, rows_wfs, capMax, and_true, true_and] at hwf
  repeat' (first | simp only [go_sem, Ret_eq Try.results88] | fail)

theorem rankCheck_fun (c : List Int) : Fun Try.prog 30 [.lst (ints .i16 c)] fun r => r = .v (.int .i64 (cutsErr c)) := by
  refine Fun.of_awpI Try.func30 rfl cal30 Try.ntmps30 (by simp) fun hwf => ?_
  simp only [D.wfs, D.wf, ints_length, ints_wfs, rows_length, rows_wfs, capMax, and_true, true_and] at hwf
  by_cases h : Rises c
  · repeat' (first | simp only [go_sem, h, Ret_eq Try.results30] | simp (disch := omega) only [arith, IntKind.bits, capMax, fill_len, elt_fill] | (with_reducible refine condI_dec (fun hq hqb => ?_) (fun hq hqb => ?_) <;> simp only [KP_mk, hqb]) | (refine opCallI_rd (by simp only [go_sem, h, Ret_eq Try.results30]; first | done | rfl) (isSorted16_fun c) (by rintro _ rfl; rfl) ?_; rintro _ rfl) | (refine opCallI_rd (by simp only [go_sem, h, Ret_eq Try.results30]; first | done | rfl) (rankOdd_fun _) (by rintro _ rfl; rfl) ?_; rintro _ rfl) | fail)
    all_goals first | exact (cutsErr_zero.2 ⟨by omega, h, by omega⟩).symm | (rw [cutsErr_one (fun q => by have h1 := q.1; have h2 := q.2.2; omega)]; done)
  · rw [cutsErr_one (fun q => h q.2.1)]
    repeat' (first | simp only [go_sem, h, Ret_eq Try.results30] | (with_reducible refine condI_dec (fun hq hqb => ?_) (fun hq hqb => ?_) <;> simp only [KP_mk, hqb]) | (refine opCallI_rd (by simp only [go_sem, h, Ret_eq Try.results30]; first | done | rfl) (isSorted16_fun c) (by rintro _ rfl; rfl) ?_; rintro _ rfl) | fail)

theorem search_fun (n m : Nat) (g : FuncId) (caps : List D) (hm : m ≤ n) (hn : n < 4611686018427387904) (hc1 : D.idss caps = []) (hc2 : D.noRefs caps = true) (hc3 : D.nrms caps = caps)
    (hg : ∀ i : Nat, i < n → Fun Try.prog g (.v (.int .i64 i) :: caps) fun r => r = .v (.bool (decide (m ≤ i)))) :
    Fun Try.prog 91 [.v (.int .i64 n), .clos (.func g) caps] fun r => r = .v (.int .i64 m) := by
  refine Fun.of_awpI Try.func91 rfl cal91 Try.ntmps91 (by simp) fun hwf => ?_
  simp only [D.wfs, D.wf, ints_length, ints_wfs, rows_length, rows_wfs, capMax, and_true, true_and] at hwf
  repeat' (first | simp only [go_sem, Ret_eq Try.results91] | fail)
  refine awpI_while (σ := Nat × Nat) (fun x => x.2 - x.1) (fun x => x.1 ≤ m ∧ m ≤ x.2 ∧ x.2 ≤ n) (fun x => [(5, .v (.int .i64 x.1)), (6, .v (.int .i64 x.2))]) (fun _ => []) [1] [] (0, n) _ (Weak.refl _) ⟨Nat.zero_le _, hm, Nat.le_refl _⟩ ?_ ?_ ?_
  · simp only [go_sem, Ret_eq Try.results91]
  · simp only [go_sem, Ret_eq Try.results91]
  · rintro ⟨i, j⟩ s ⟨h1, h2, h3⟩ hs
    simp only [go_sem, Ret_eq Try.results91] at hs
    by_cases hij : i < j
    · have e : ((i : Int) + j).fdiv 2 = (((i + j) / 2 : Nat) : Int) := by rw [Int.fdiv_eq_ediv_of_nonneg _ (by omega)]; rfl
      have hh : (i + j) / 2 < n := by omega
      have hb1 : i ≤ (i + j) / 2 := by omega
      have hb2 : (i + j) / 2 < j := by omega
      generalize (i + j) / 2 = h at *
      repeat' (first | simp only [go_sem, hs, e, hc1, hc2, hc3, Ret_eq Try.results91] | simp (disch := omega) only [arith, IntKind.bits, capMax, fill_len, elt_fill] | (with_reducible refine condI_dec (fun hq hqb => ?_) (fun hq hqb => ?_) <;> simp only [KP_mk, hqb]) | (refine opCallI_rd (by simp only [go_sem, hs, e, hc1, hc2, hc3, Ret_eq Try.results91]; first | done | rfl) (hg h hh) (by rintro _ rfl; rfl) ?_; rintro _ rfl) | fail)
      · refine ⟨(i, h), _, by show h - i < j - i; omega, ⟨by omega, by omega, by show h ≤ n; omega⟩, Weak.refl _, ?_⟩
        simp only [go_sem, hs, Ret_eq Try.results91]
      · refine ⟨(h + 1, j), _, by show j - (h + 1) < j - i; omega, ⟨by show h + 1 ≤ m; omega, by omega, by omega⟩, Weak.refl _, ?_⟩
        simp only [go_sem, hs, Ret_eq Try.results91]
    · obtain rfl : i = m := by omega
      repeat' (first | simp only [go_sem, hs, Ret_eq Try.results91] | simp (disch := omega) only [arith, IntKind.bits, capMax, fill_len, elt_fill] | fail)

theorem cell1_fun (c : List Int) (x : Int) (i : Nat) (h : i < c.length) : Fun Try.prog 92 [.v (.int .i64 i), .ptr (.lst (ints .i16 c)), .ptr (.v (.int .i16 x))] fun r => r = .v (.bool (decide (x < c.getD i 0))) := by
  refine Fun.of_awpI Try.func92 rfl cal92 Try.ntmps92 (by simp) fun hwf => ?_
  simp only [D.wfs, D.wf, ints_length, ints_wfs, rows_length, rows_wfs, capMax, and_true, true_and] at hwf
  repeat' (first | simp only [go_sem, Ret_eq Try.results92] | simp (disch := omega) only [arith, IntKind.bits, capMax, fill_len, elt_fill] | (refine awpI_draw2 (id := 1) (.one false 0 (.one false 1 (.one false 2 (.one false 3 (.one false 4 (.one false 5 (.one false 6 .done))))))) mixed (by decide +kernel) (by decide +kernel) ?_) | fail)

theorem rankCell_fun (c : List Int) (x : Int) : Fun Try.prog 27 [.lst (ints .i16 c), .v (.int .i16 x)] fun r => r = .tup [.v (.int .i64 (cellVal c x)), .v (.int .i64 (cellErr c x))] := by
  refine Fun.of_awpI Try.func27 rfl cal27 Try.ntmps27 (by simp) fun hwf => ?_
  simp only [D.wfs, D.wf, ints_length, ints_wfs, rows_length, rows_wfs, capMax, and_true, true_and] at hwf
  by_cases h : cutsErr c = 0
  · by_cases hx : -32767 ≤ x
    · rw [(cell_ok h hx).1, (cell_ok h hx).2]
      have hok := cutsErr_zero.1 h
      have hsp := cellOf_spec hok.2.1 x
      have hm := cellOf_le c x
      have hlen := hok.1
      have hg : ∀ i : Nat, i < c.length → Fun Try.prog 92 (.v (.int .i64 i) :: [.ptr (.lst (ints .i16 c)), .ptr (.v (.int .i16 x))]) fun r => r = .v (.bool (decide (cellOf c x ≤ i))) := by
        intro i hi
        have e : decide (cellOf c x ≤ i) = decide (x < c.getD i 0) := by
          have := hsp i hi
          rw [Bool.eq_iff_iff, decide_eq_true_eq, decide_eq_true_eq]; omega
        rw [e]
        exact cell1_fun c x i hi
      clear hsp hok
      repeat' (first | simp only [go_sem, h, Ret_eq Try.results27] | simp (disch := omega) only [arith, IntKind.bits, capMax, fill_len, elt_fill] | (refine opCallI_rd (by simp only [go_sem, h, Ret_eq Try.results27]; first | done | rfl) (rankCheck_fun c) (by rintro _ rfl; rfl) ?_; rintro _ rfl) | (refine opCallI_rd (by simp only [go_sem, h, Ret_eq Try.results27]; first | done | rfl) (rankOdd_fun x) (by rintro _ rfl; rfl) ?_; rintro _ rfl) | (refine opCallI_rd (by simp only [go_sem, h, Ret_eq Try.results27]; first | done | rfl) (search_fun c.length (cellOf c x) _ _ hm (by omega) rfl rfl rfl hg) (by rintro _ rfl; rfl) ?_; rintro _ rfl) | fail)
    · rw [(cell_bad (fun q => hx q.2)).1, (cell_bad (c := c) (x := x) (fun q => hx q.2)).2]
      repeat' (first | simp only [go_sem, h, Ret_eq Try.results27] | simp (disch := omega) only [arith, IntKind.bits, capMax, fill_len, elt_fill] | (refine opCallI_rd (by simp only [go_sem, h, Ret_eq Try.results27]; first | done | rfl) (rankCheck_fun c) (by rintro _ rfl; rfl) ?_; rintro _ rfl) | (refine opCallI_rd (by simp only [go_sem, h, Ret_eq Try.results27]; first | done | rfl) (rankOdd_fun x) (by rintro _ rfl; rfl) ?_; rintro _ rfl) | fail)
      all_goals rfl
  · rw [(cell_bad (fun q => h q.1)).1, (cell_bad (c := c) (x := x) (fun q => h q.1)).2]
    repeat' (first | simp only [go_sem, Ret_eq Try.results27] | simp (disch := omega) only [arith, IntKind.bits, capMax, fill_len, elt_fill] | (refine opCallI_rd (by simp only [go_sem, Ret_eq Try.results27]; first | done | rfl) (rankCheck_fun c) (by rintro _ rfl; rfl) ?_; rintro _ rfl) | fail)
    all_goals rfl

theorem rankSpan_fun (c : List Int) (n : Int) (hc : I16s c) : Fun Try.prog 28 [.lst (ints .i16 c), .v (.int .i64 n)] fun r => r = .tup [.v (.int .i16 (spanLow c n)), .v (.int .i16 (spanHigh c n)), .v (.int .i64 (spanErr c n))] := by
  refine Fun.of_awpI Try.func28 rfl cal28 Try.ntmps28 (by simp) fun hwf => ?_
  simp only [D.wfs, D.wf, ints_length, ints_wfs, rows_length, rows_wfs, capMax, and_true, true_and] at hwf
  unfold spanLow spanHigh
  by_cases h : cutsErr c = 0
  · by_cases h1 : 0 ≤ n ∧ n ≤ c.length
    · have b1 := hc.getD n.toNat
      have b2 := hc.getD (n - 1).toNat
      have eL : lowOf c n.toNat = if 0 < n then c.getD (n - 1).toNat 0 else -32767 := by
        unfold lowOf
        by_cases q : 0 < n
        · rw [if_pos (by omega), if_pos q, show n.toNat - 1 = (n - 1).toNat by omega]
        · rw [if_neg (by omega), if_neg q]
      have eH : highOf c n.toNat = if n < c.length then c.getD n.toNat 0 - 1 else 32767 := by
        unfold highOf
        by_cases q : n < c.length
        · rw [if_pos (by omega), if_pos q]
        · rw [if_neg (by omega), if_neg q]
      have eE := span_ok h h1.1 h1.2
      repeat' (first | simp only [go_sem, h, Ret_eq Try.results28] | simp (disch := omega) only [arith, IntKind.bits, capMax, fill_len, elt_fill] | (with_reducible refine condI_dec (fun hq hqb => ?_) (fun hq hqb => ?_) <;> simp only [KP_mk, hqb]) | (refine opCallI_rd (by simp only [go_sem, h, Ret_eq Try.results28]; first | done | rfl) (rankCheck_fun c) (by rintro _ rfl; rfl) ?_; rintro _ rfl) | fail)
      · rw [if_pos (show 0 < n by omega)] at eL; rw [if_pos (show n < c.length by omega)] at eH; rw [eL, eH, if_pos (by omega)] at eE; rw [eE]; rfl
      · rw [if_pos (show 0 < n by omega)] at eL; rw [if_pos (show n < c.length by omega)] at eH; rw [eL, eH, if_neg (by omega)] at eE; rw [eE]; rw [eL, eH]; rfl
      · rw [if_pos (show 0 < n by omega)] at eL; rw [if_neg (show ¬ n < c.length by omega)] at eH; rw [eL, eH, if_neg (by omega)] at eE; rw [eE]; rw [eL, eH]; rfl
      · rw [if_neg (show ¬ 0 < n by omega)] at eL; rw [if_pos (show n < c.length by omega)] at eH; rw [eL, eH, if_pos (by omega)] at eE; rw [eE]; rfl
      · rw [if_neg (show ¬ 0 < n by omega)] at eL; rw [if_pos (show n < c.length by omega)] at eH; rw [eL, eH, if_neg (by omega)] at eE; rw [eE]; rw [eL, eH]; rfl
      · rw [if_neg (show ¬ 0 < n by omega)] at eL; rw [if_neg (show ¬ n < c.length by omega)] at eH; rw [eL, eH, if_neg (by omega)] at eE; rw [eE]; rw [eL, eH]; rfl
    · have eE := span_bad (c := c) (n := n) (fun q => h1 q.2)
      repeat' (first | simp only [go_sem, h, Ret_eq Try.results28] | simp (disch := omega) only [arith, IntKind.bits, capMax, fill_len, elt_fill] | (with_reducible refine condI_dec (fun hq hqb => ?_) (fun hq hqb => ?_) <;> simp only [KP_mk, hqb]) | (refine opCallI_rd (by simp only [go_sem, h, Ret_eq Try.results28]; first | done | rfl) (rankCheck_fun c) (by rintro _ rfl; rfl) ?_; rintro _ rfl) | fail)
      all_goals (rw [eE]; rfl)
  · have eE := span_bad (c := c) (n := n) (fun q => h q.1)
    repeat' (first | simp only [go_sem, Ret_eq Try.results28] | simp (disch := omega) only [arith, IntKind.bits, capMax, fill_len, elt_fill] | (refine opCallI_rd (by simp only [go_sem, Ret_eq Try.results28]; first | done | rfl) (rankCheck_fun c) (by rintro _ rfl; rfl) ?_; rintro _ rfl) | fail)
    all_goals (rw [eE]; rfl)
end Go.Proofs.Ytpkampecmlpfmaa.T
