import Derived.Test.YtpkampecmlpfmaaLE
import Derived.Test.YtpkampecmlpfmaaEQRow
import Derived.Test.YtpkampecmlpfmaaEQLive
set_option linter.unusedSimpArgs false
set_option linter.unusedVariables false
/- Slots, walked. -/
namespace Go.Proofs.Ytpkampecmlpfmaa.T
open Go Go.VL Go.Proofs
set_option maxRecDepth 100000
set_option maxHeartbeats 4000000
theorem fact_dir : mapT Try.prog 63 = some (2, 3) := by kernel_rfl
attribute [go_sem] fact_dir
theorem ofVal_map {m : Option Nat} : D.ofVal (.map m) = .v (.map m) := (rfl)
attribute [go_sem] ofVal_map
abbrev slotsD (dim : Int) (ids : List Int) (vecs : List (List Int)) : D := .agg [.v (.int .i64 dim), .lst (ints .i64 ids), .lst (rows .i16 vecs)]
def dirN (ids : List Int) : Nat → List (Int × Int)
  | 0 => []
  | k + 1 => if ids.getD k 0 = -1 then dirN ids k else setN (ids.getD k 0) k (dirN ids k)
def slotOk (dim : Int) (ids : List Int) (vecs : List (List Int)) (k : Nat) : Prop :=
  (ids.getD k 0 = -1 ∧ (vecs.getD k []).length = 0) ∨ (lookN (ids.getD k 0) (dirN ids k) = none ∧ (0 ≤ ids.getD k 0 ∧ ids.getD k 0 ≤ 2147483647) ∧ vecErr (vecs.getD k []) = 0 ∧ ((vecs.getD k []).length : Int) = dim)
instance (dim : Int) (ids : List Int) (vecs : List (List Int)) (k : Nat) : Decidable (slotOk dim ids vecs k) := by unfold slotOk; infer_instance
def slotsOk (dim : Int) (ids : List Int) (vecs : List (List Int)) : Prop := (1 ≤ dim ∧ dim ≤ 64) ∧ (1 ≤ ids.length ∧ ids.length ≤ 256) ∧ vecs.length = ids.length ∧ ∀ k, k < ids.length → slotOk dim ids vecs k
instance (dim : Int) (ids : List Int) (vecs : List (List Int)) : Decidable (slotsOk dim ids vecs) := by unfold slotsOk; infer_instance
def slotsErr (dim : Int) (ids : List Int) (vecs : List (List Int)) : Int := if slotsOk dim ids vecs then 0 else 1

theorem within_fun (n m : Int) : Fun Try.prog 103 [.v (.int .i64 n), .v (.int .i64 m)] fun r => r = .v (.bool (decide (1 ≤ n ∧ n ≤ m))) := by
  refine Fun.of_awpI Try.func103 rfl cal103 Try.ntmps103 (by simp) fun hwf => ?_
  simp only [D.wfs, D.wf, ints_length, ints_wfs, rows_length, rows_wfs, capMax, and_true, true_and] at hwf
  by_cases h : 1 ≤ n ∧ n ≤ m
  · rw [decide_eq_true h]
    repeat' (first | simp only [go_sem, Ret_eq Try.results103] | simp (disch := omega) only [arith, IntKind.bits, capMax, fill_len, elt_fill] | fail)
  · rw [decide_eq_false h]
    by_cases h1 : 1 ≤ n
    · repeat' (first | simp only [go_sem, Ret_eq Try.results103] | simp (disch := omega) only [arith, IntKind.bits, capMax, fill_len, elt_fill] | fail)
    · repeat' (first | simp only [go_sem, Ret_eq Try.results103] | simp (disch := omega) only [arith, IntKind.bits, capMax, fill_len, elt_fill] | fail)

theorem isId_fun (n : Int) : Fun Try.prog 95 [.v (.int .i64 n)] fun r => r = .v (.bool (decide (0 ≤ n ∧ n ≤ 2147483647))) := by
  refine Fun.of_awpI Try.func95 rfl cal95 Try.ntmps95 (by simp) fun hwf => ?_
  simp only [D.wfs, D.wf, ints_length, ints_wfs, rows_length, rows_wfs, capMax, and_true, true_and] at hwf
  by_cases h : 0 ≤ n ∧ n ≤ 2147483647
  · rw [decide_eq_true h]
    repeat' (first | simp only [go_sem, Ret_eq Try.results95] | simp (disch := omega) only [arith, IntKind.bits, capMax, fill_len, elt_fill] | fail)
  · rw [decide_eq_false h]
    by_cases h1 : 0 ≤ n
    · repeat' (first | simp only [go_sem, Ret_eq Try.results95] | simp (disch := omega) only [arith, IntKind.bits, capMax, fill_len, elt_fill] | fail)
    · repeat' (first | simp only [go_sem, Ret_eq Try.results95] | simp (disch := omega) only [arith, IntKind.bits, capMax, fill_len, elt_fill] | fail)

theorem fits_slot_fun (dim : Int) (ids : List Int) (vecs : List (List Int)) (v : List Int) : Fun Try.prog 96 [slotsD dim ids vecs, .lst (ints .i16 v)] fun r => r = .v (.bool (decide (vecErr v = 0 ∧ (v.length : Int) = dim))) := by
  refine Fun.of_awpI Try.func96 rfl cal96 Try.ntmps96 (by simp) fun hwf => ?_
  simp only [D.wfs, D.wf, ints_length, ints_wfs, rows_length, rows_wfs, capMax, and_true, true_and] at hwf
  by_cases h1 : vecErr v = 0
  · by_cases h2 : (v.length : Int) = dim
    · rw [decide_eq_true ⟨h1, h2⟩]
      repeat' (first | simp only [go_sem, h1, h2, beq_self_eq_true, Ret_eq Try.results96] | (refine opCallI_rd (by simp only [go_sem, h1, h2, beq_self_eq_true, Ret_eq Try.results96]; first | done | rfl) (vecCheck_fun v) (by rintro _ rfl; rfl) ?_; rintro _ rfl) | fail)
    · rw [decide_eq_false (fun q => h2 q.2)]
      have h3 : ((v.length : Int) == dim) = false := beq_eq_false_iff_ne.2 h2
      repeat' (first | simp only [go_sem, h1, h3, beq_self_eq_true, Ret_eq Try.results96] | (refine opCallI_rd (by simp only [go_sem, h1, h3, beq_self_eq_true, Ret_eq Try.results96]; first | done | rfl) (vecCheck_fun v) (by rintro _ rfl; rfl) ?_; rintro _ rfl) | fail)
  · rw [decide_eq_false (fun q => h1 q.1)]
    have h3 : (vecErr v == 0) = false := beq_eq_false_iff_ne.2 h1
    repeat' (first | simp only [go_sem, h3, Ret_eq Try.results96] | (refine opCallI_rd (by simp only [go_sem, h3, Ret_eq Try.results96]; first | done | rfl) (vecCheck_fun v) (by rintro _ rfl; rfl) ?_; rintro _ rfl) | fail)
theorem setN_length (a d : Int) : ∀ l, (setN a d l).length ≤ l.length + 1
  | [] => by simp [setN]
  | (b, e) :: r => by
    have := setN_length a d r
    unfold setN
    split <;> simp only [List.length_cons] <;> omega
theorem dirN_length {ids : List Int} : ∀ k, (dirN ids k).length ≤ k
  | 0 => Nat.le_refl _
  | k + 1 => by
    have := dirN_length (ids := ids) k
    rw [dirN]
    split
    · omega
    · have := setN_length (ids.getD k 0) k (dirN ids k)
      omega

theorem dir_ok (dim : Int) (ids : List Int) (vecs : List (List Int)) (h : slotsOk dim ids vecs) : FunO Try.prog 94 [slotsD dim ids vecs] fun r o => r = .tup [.mp 0, .v (.bool true)] ∧ o = some ⟨63, 0, kvI .i64 .i64 (dirN ids ids.length)⟩ := by
  refine FunO.of_awpI Try.func94 rfl cal94 Try.ntmps94 (by simp) fun hwf => ?_
  simp only [D.wfs, D.wf, ints_length, ints_wfs, rows_length, rows_wfs, capMax, and_true, true_and] at hwf
  obtain ⟨h1, h2, h3, h4⟩ := h
  have hw1 := within_fun dim 64
  have hw2 := within_fun ids.length 256
  rw [decide_eq_true h1] at hw1
  rw [decide_eq_true (by omega)] at hw2
  repeat' (first | simp only [go_sem, h3, beq_self_eq_true, Ret_eq Try.results94] | simp (disch := omega) only [arith, IntKind.bits, capMax, fill_len, elt_fill] | (refine opCallI_rd (by simp only [go_sem, h3, beq_self_eq_true, Ret_eq Try.results94]; first | done | rfl) (hw1) (by rintro _ rfl; rfl) ?_; rintro _ rfl) | (refine opCallI_rd (by simp only [go_sem, h3, beq_self_eq_true, Ret_eq Try.results94]; first | done | rfl) (hw2) (by rintro _ rfl; rfl) ?_; rintro _ rfl) | fail)
  refine awpI_for ids.length (fun k => True) (fun k => [(36, .v (.int .i64 k))]) (fun k => [(32, ⟨63, 0, kvI .i64 .i64 (dirN ids k)⟩)]) [1, 4, 34, 35] [1] _ (Weak.refl _) trivial ?_ ?_ ?_
  · simp only [go_sem, Ret_eq Try.results94]
  · simp only [go_sem, Ret_eq Try.results94]
    rfl
  · intro k s hk _ hs
    simp only [go_sem, Ret_eq Try.results94] at hs
    by_cases hka : k < ids.length
    · have hl := dirN_length (ids := ids) k
      rcases h4 k hka with ⟨q1, q2⟩ | ⟨q1, q2, q3, q4⟩
      · have e : dirN ids (k + 1) = dirN ids k := by rw [dirN, if_pos q1]
        repeat' (first | simp only [go_sem, hs, q1, q2, e, beq_self_eq_true, Ret_eq Try.results94] | simp (disch := omega) only [arith, IntKind.bits, capMax, fill_len, elt_fill] | (refine Again.up (by omega) ?_ ?_) | fail)
      · have hne : ids.getD k 0 ≠ -1 := by omega
        have hb : (ids.getD k 0 == -1) = false := beq_eq_false_iff_ne.2 hne
        have e : dirN ids (k + 1) = setN (ids.getD k 0) k (dirN ids k) := by rw [dirN, if_neg hne]
        have hi := isId_fun (ids.getD k 0)
        rw [decide_eq_true q2] at hi
        have hf := fits_slot_fun dim ids vecs (vecs.getD k [])
        rw [decide_eq_true ⟨q3, q4⟩] at hf
        repeat' (first | simp only [go_sem, hs, hb, q1, e, List.length_map, Ret_eq Try.results94] | simp (disch := omega) only [arith, IntKind.bits, capMax, fill_len, elt_fill] | (refine awpI_draw2 (id := 9) (.one false 0 (.one false 1 (.one false 2 (.only 3 (.one false 4 (.one false 5 (.one false 6 (.one false 7 (.one false 8 (.one false 9 (.one false 10 (.one false 11 (.one false 12 (.only 13 (.one false 14 (.one false 15 .done)))))))))))))))) mixed (by decide +kernel) (by decide +kernel) ?_) | (refine Again.up (by omega) ?_ ?_) | (refine opCallI_rd (by simp only [go_sem, hs, hb, q1, e, List.length_map, Ret_eq Try.results94]; first | done | rfl) (hi) (by rintro _ rfl; rfl) ?_; rintro _ rfl) | (refine opCallI_rd (by simp only [go_sem, hs, hb, q1, e, List.length_map, Ret_eq Try.results94]; first | done | rfl) (hf) (by rintro _ rfl; rfl) ?_; rintro _ rfl) | fail)
    · obtain rfl : k = ids.length := by omega
      repeat' (first | simp only [go_sem, hs, Ret_eq Try.results94] | simp (disch := omega) only [arith, IntKind.bits, capMax, fill_len, elt_fill] | refine RetO_calc Try.results94 ?_ | fail)

theorem dir_bad (dim : Int) (ids : List Int) (vecs : List (List Int)) (h : ¬ slotsOk dim ids vecs) : FunO Try.prog 94 [slotsD dim ids vecs] fun r o => r = .tup [.v (.map none), .v (.bool false)] ∧ o = none := by
  refine FunO.of_awpI Try.func94 rfl cal94 Try.ntmps94 (by simp) fun hwf => ?_
  simp only [D.wfs, D.wf, ints_length, ints_wfs, rows_length, rows_wfs, capMax, and_true, true_and] at hwf
  have hw1 := within_fun dim 64
  have hw2 := within_fun ids.length 256
  by_cases h1 : 1 ≤ dim ∧ dim ≤ 64
  · rw [decide_eq_true h1] at hw1
    by_cases h2 : 1 ≤ ids.length ∧ ids.length ≤ 256
    · rw [decide_eq_true (by omega)] at hw2
      by_cases h3 : vecs.length = ids.length
      · repeat' (first | simp only [go_sem, h3, beq_self_eq_true, Ret_eq Try.results94] | simp (disch := omega) only [arith, IntKind.bits, capMax, fill_len, elt_fill] | (refine opCallI_rd (by simp only [go_sem, h3, beq_self_eq_true, Ret_eq Try.results94]; first | done | rfl) (hw1) (by rintro _ rfl; rfl) ?_; rintro _ rfl) | (refine opCallI_rd (by simp only [go_sem, h3, beq_self_eq_true, Ret_eq Try.results94]; first | done | rfl) (hw2) (by rintro _ rfl; rfl) ?_; rintro _ rfl) | fail)
        refine awpI_for ids.length (fun k => ∀ j, j < k → slotOk dim ids vecs j) (fun k => [(36, .v (.int .i64 k))]) (fun k => [(32, ⟨63, 0, kvI .i64 .i64 (dirN ids k)⟩)]) [1, 4, 34, 35] [1] _ (Weak.refl _) (fun j hj => absurd hj (Nat.not_lt_zero _)) ?_ ?_ ?_
        · simp only [go_sem, Ret_eq Try.results94]
        · simp only [go_sem, Ret_eq Try.results94]
          rfl
        · intro k s hk hQ hs
          simp only [go_sem, Ret_eq Try.results94] at hs
          by_cases hka : k < ids.length
          · have hl := dirN_length (ids := ids) k
            by_cases hok : slotOk dim ids vecs k
            · have hQ' : ∀ j, j < k + 1 → slotOk dim ids vecs j := fun j hj => by
                by_cases q : j < k
                · exact hQ j q
                · obtain rfl : j = k := by omega
                  exact hok
              rcases hok with ⟨q1, q2⟩ | ⟨q1, q2, q3, q4⟩
              · have e : dirN ids (k + 1) = dirN ids k := by rw [dirN, if_pos q1]
                repeat' (first | simp only [go_sem, hs, q1, q2, e, beq_self_eq_true, Ret_eq Try.results94] | simp (disch := omega) only [arith, IntKind.bits, capMax, fill_len, elt_fill] | (refine Again.up (by omega) ?_ ?_) | fail)
                exact hQ'
              · have hne : ids.getD k 0 ≠ -1 := by omega
                have hb : (ids.getD k 0 == -1) = false := beq_eq_false_iff_ne.2 hne
                have e : dirN ids (k + 1) = setN (ids.getD k 0) k (dirN ids k) := by rw [dirN, if_neg hne]
                have hi := isId_fun (ids.getD k 0)
                rw [decide_eq_true q2] at hi
                have hf := fits_slot_fun dim ids vecs (vecs.getD k [])
                rw [decide_eq_true ⟨q3, q4⟩] at hf
                repeat' (first | simp only [go_sem, hs, hb, q1, e, List.length_map, Ret_eq Try.results94] | simp (disch := omega) only [arith, IntKind.bits, capMax, fill_len, elt_fill] | (refine awpI_draw2 (id := 9) (.one false 0 (.one false 1 (.one false 2 (.only 3 (.one false 4 (.one false 5 (.one false 6 (.one false 7 (.one false 8 (.one false 9 (.one false 10 (.one false 11 (.one false 12 (.only 13 (.one false 14 (.one false 15 .done)))))))))))))))) mixed (by decide +kernel) (by decide +kernel) ?_) | (refine Again.up (by omega) ?_ ?_) | (refine opCallI_rd (by simp only [go_sem, hs, hb, q1, e, List.length_map, Ret_eq Try.results94]; first | done | rfl) (hi) (by rintro _ rfl; rfl) ?_; rintro _ rfl) | (refine opCallI_rd (by simp only [go_sem, hs, hb, q1, e, List.length_map, Ret_eq Try.results94]; first | done | rfl) (hf) (by rintro _ rfl; rfl) ?_; rintro _ rfl) | fail)
                exact hQ'
            · have hi := isId_fun (ids.getD k 0)
              have hf := fits_slot_fun dim ids vecs (vecs.getD k [])
              by_cases q0 : ids.getD k 0 = -1
              · have q1 : ¬ (vecs.getD k []).length = 0 := fun q => hok (.inl ⟨q0, q⟩)
                have hb : ((((vecs.getD k []).length : Nat) : Int) == 0) = false := beq_eq_false_iff_ne.2 (by omega)
                rw [decide_eq_false (by omega)] at hi
                cases hlk : lookN (ids.getD k 0) (dirN ids k) with
                | none =>
                  rw [q0] at hlk hi
                  repeat' (first | simp only [go_sem, hs, q0, hb, hlk, beq_self_eq_true, Ret_eq Try.results94] | simp (disch := omega) only [arith, IntKind.bits, capMax, fill_len, elt_fill] | refine RetO_calc Try.results94 ?_ | (refine awpI_draw2 (id := 9) (.one false 0 (.one false 1 (.one false 2 (.only 3 (.one false 4 (.one false 5 (.one false 6 (.one false 7 (.one false 8 (.one false 9 (.one false 10 (.one false 11 (.one false 12 (.only 13 (.one false 14 (.one false 15 .done)))))))))))))))) mixed (by decide +kernel) (by decide +kernel) ?_) | (refine opCallI_rd (by simp only [go_sem, hs, q0, hb, hlk, beq_self_eq_true, Ret_eq Try.results94]; first | done | rfl) (hi) (by rintro _ rfl; rfl) ?_; rintro _ rfl) | fail)
                | some x =>
                  rw [q0] at hlk hi
                  repeat' (first | simp only [go_sem, hs, q0, hb, hlk, beq_self_eq_true, Ret_eq Try.results94] | simp (disch := omega) only [arith, IntKind.bits, capMax, fill_len, elt_fill] | refine RetO_calc Try.results94 ?_ | (refine awpI_draw2 (id := 9) (.one false 0 (.one false 1 (.one false 2 (.only 3 (.one false 4 (.one false 5 (.one false 6 (.one false 7 (.one false 8 (.one false 9 (.one false 10 (.one false 11 (.one false 12 (.only 13 (.one false 14 (.one false 15 .done)))))))))))))))) mixed (by decide +kernel) (by decide +kernel) ?_) | fail)
              · have hb : (ids.getD k 0 == -1) = false := beq_eq_false_iff_ne.2 q0
                cases hlk : lookN (ids.getD k 0) (dirN ids k) with
                | some x =>
                  repeat' (first | simp only [go_sem, hs, hb, hlk, Ret_eq Try.results94] | simp (disch := omega) only [arith, IntKind.bits, capMax, fill_len, elt_fill] | refine RetO_calc Try.results94 ?_ | (refine awpI_draw2 (id := 9) (.one false 0 (.one false 1 (.one false 2 (.only 3 (.one false 4 (.one false 5 (.one false 6 (.one false 7 (.one false 8 (.one false 9 (.one false 10 (.one false 11 (.one false 12 (.only 13 (.one false 14 (.one false 15 .done)))))))))))))))) mixed (by decide +kernel) (by decide +kernel) ?_) | fail)
                | none =>
                  by_cases q2 : 0 ≤ ids.getD k 0 ∧ ids.getD k 0 ≤ 2147483647
                  · rw [decide_eq_true q2] at hi
                    rw [decide_eq_false (fun q => hok (.inr ⟨hlk, q2, q.1, q.2⟩))] at hf
                    repeat' (first | simp only [go_sem, hs, hb, hlk, Ret_eq Try.results94] | simp (disch := omega) only [arith, IntKind.bits, capMax, fill_len, elt_fill] | refine RetO_calc Try.results94 ?_ | (refine awpI_draw2 (id := 9) (.one false 0 (.one false 1 (.one false 2 (.only 3 (.one false 4 (.one false 5 (.one false 6 (.one false 7 (.one false 8 (.one false 9 (.one false 10 (.one false 11 (.one false 12 (.only 13 (.one false 14 (.one false 15 .done)))))))))))))))) mixed (by decide +kernel) (by decide +kernel) ?_) | (refine opCallI_rd (by simp only [go_sem, hs, hb, hlk, Ret_eq Try.results94]; first | done | rfl) (hi) (by rintro _ rfl; rfl) ?_; rintro _ rfl) | (refine opCallI_rd (by simp only [go_sem, hs, hb, hlk, Ret_eq Try.results94]; first | done | rfl) (hf) (by rintro _ rfl; rfl) ?_; rintro _ rfl) | fail)
                  · rw [decide_eq_false q2] at hi
                    repeat' (first | simp only [go_sem, hs, hb, hlk, Ret_eq Try.results94] | simp (disch := omega) only [arith, IntKind.bits, capMax, fill_len, elt_fill] | refine RetO_calc Try.results94 ?_ | (refine awpI_draw2 (id := 9) (.one false 0 (.one false 1 (.one false 2 (.only 3 (.one false 4 (.one false 5 (.one false 6 (.one false 7 (.one false 8 (.one false 9 (.one false 10 (.one false 11 (.one false 12 (.only 13 (.one false 14 (.one false 15 .done)))))))))))))))) mixed (by decide +kernel) (by decide +kernel) ?_) | (refine opCallI_rd (by simp only [go_sem, hs, hb, hlk, Ret_eq Try.results94]; first | done | rfl) (hi) (by rintro _ rfl; rfl) ?_; rintro _ rfl) | fail)
          · obtain rfl : k = ids.length := by omega
            exact absurd ⟨h1, h2, h3, hQ⟩ h
      · have hb : ((((vecs.length : Nat) : Int)) == ((ids.length : Nat) : Int)) = false := beq_eq_false_iff_ne.2 (by omega)
        repeat' (first | simp only [go_sem, hb, Ret_eq Try.results94] | simp (disch := omega) only [arith, IntKind.bits, capMax, fill_len, elt_fill] | refine RetO_calc Try.results94 ?_ | (refine opCallI_rd (by simp only [go_sem, hb, Ret_eq Try.results94]; first | done | rfl) (hw1) (by rintro _ rfl; rfl) ?_; rintro _ rfl) | (refine opCallI_rd (by simp only [go_sem, hb, Ret_eq Try.results94]; first | done | rfl) (hw2) (by rintro _ rfl; rfl) ?_; rintro _ rfl) | fail)
    · rw [decide_eq_false (by omega)] at hw2
      repeat' (first | simp only [go_sem, Ret_eq Try.results94] | refine RetO_calc Try.results94 ?_ | (refine opCallI_rd (by simp only [go_sem, Ret_eq Try.results94]; first | done | rfl) (hw1) (by rintro _ rfl; rfl) ?_; rintro _ rfl) | (refine opCallI_rd (by simp only [go_sem, Ret_eq Try.results94]; first | done | rfl) (hw2) (by rintro _ rfl; rfl) ?_; rintro _ rfl) | fail)
  · rw [decide_eq_false h1] at hw1
    repeat' (first | simp only [go_sem, Ret_eq Try.results94] | refine RetO_calc Try.results94 ?_ | (refine opCallI_rd (by simp only [go_sem, Ret_eq Try.results94]; first | done | rfl) (hw1) (by rintro _ rfl; rfl) ?_; rintro _ rfl) | fail)

theorem slotsCheck_fun (dim : Int) (ids : List Int) (vecs : List (List Int)) : Fun Try.prog 41 [slotsD dim ids vecs] fun r => r = .v (.int .i64 (slotsErr dim ids vecs)) := by
  refine Fun.of_awpI Try.func41 rfl cal41 Try.ntmps41 (by simp) fun hwf => ?_
  simp only [D.wfs, D.wf, ints_length, ints_wfs, rows_length, rows_wfs, capMax, and_true, true_and] at hwf
  unfold slotsErr
  by_cases h : slotsOk dim ids vecs
  · rw [if_pos h]
    have hd := dir_ok dim ids vecs h
    repeat' (first | simp only [go_sem, Ret_eq Try.results41] | (refine opCallI_ownGv (by simp only [go_sem, Ret_eq Try.results41]; first | done | rfl) (hd) ?_; rintro _ _ ⟨rfl, rfl⟩) | fail)
  · rw [if_neg h]
    have hd := dir_bad dim ids vecs h
    repeat' (first | simp only [go_sem, Ret_eq Try.results41] | (refine opCallI_ownGv (by simp only [go_sem, Ret_eq Try.results41]; first | done | rfl) (hd) ?_; rintro _ _ ⟨rfl, rfl⟩) | fail)
end Go.Proofs.Ytpkampecmlpfmaa.T
