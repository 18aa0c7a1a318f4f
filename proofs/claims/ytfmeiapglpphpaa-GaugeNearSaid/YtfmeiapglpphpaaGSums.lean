import Derived.Test.YtfmeiapglpphpaaGBelow
set_option linter.unusedSimpArgs false
set_option linter.unusedVariables false
/- What a table tells of a code, walked. -/
namespace Go.Proofs.Ytfmeiapglpphpaa.T
open Go Go.VL Go.Proofs
set_option maxRecDepth 100000
set_option maxHeartbeats 4000000
def bigL (l : List Int) : Bool := l.any fun n => decide (8589934592 < n)
def ent (t : List (List Int)) (code : List Int) (i : Nat) : Int := (t.getD i []).getD (code.getD i 0).toNat 0
def accN (t : List (List Int)) (code : List Int) : Nat → Int
  | 0 => 0
  | k + 1 => accN t code k + mx (ent t code k) 0
def negB (t : List (List Int)) (code : List Int) : Nat → Bool
  | 0 => false
  | k + 1 => negB t code k || decide (ent t code k < 0)
def inT (t : List (List Int)) (code : List Int) : Prop := ∀ i, i < code.length → code.getD i 0 < ((t.getD i []).length : Int)
instance (t : List (List Int)) (code : List Int) : Decidable (inT t code) := by unfold inT; infer_instance
def sumErr (t : List (List Int)) (code : List Int) : Int := if t.any bigL then 1 else if code.length ≠ t.length ∨ ¬ inT t code then 2 else if negB t code code.length then 5 else 0
def sumVal (t : List (List Int)) (code : List Int) : Int := if sumErr t code = 0 then accN t code code.length else 0
theorem sum_big {t : List (List Int)} {code : List Int} (h : t.any bigL = true) : sumErr t code = 1 ∧ sumVal t code = 0 := by
  have e : sumErr t code = 1 := if_pos h
  exact ⟨e, by unfold sumVal; rw [e]; rfl⟩
theorem sum_form {t : List (List Int)} {code : List Int} (h : t.any bigL = false) (h2 : code.length ≠ t.length ∨ ¬ inT t code) : sumErr t code = 2 ∧ sumVal t code = 0 := by
  have e : sumErr t code = 2 := by unfold sumErr; rw [if_neg (by simp [h]), if_pos h2]
  exact ⟨e, by unfold sumVal; rw [e]; rfl⟩
theorem sum_neg {t : List (List Int)} {code : List Int} (h : t.any bigL = false) (h2 : code.length = t.length ∧ inT t code) (h3 : negB t code code.length = true) : sumErr t code = 5 ∧ sumVal t code = 0 := by
  have e : sumErr t code = 5 := by unfold sumErr; rw [if_neg (by simp [h]), if_neg (by rintro (q | q); exact q h2.1; exact q h2.2), if_pos h3]
  exact ⟨e, by unfold sumVal; rw [e]; rfl⟩
theorem sum_fine {t : List (List Int)} {code : List Int} (h : t.any bigL = false) (h2 : code.length = t.length ∧ inT t code) (h3 : negB t code code.length = false) : sumErr t code = 0 ∧ sumVal t code = accN t code code.length := by
  have e : sumErr t code = 0 := by unfold sumErr; rw [if_neg (by simp [h]), if_neg (by rintro (q | q); exact q h2.1; exact q h2.2), if_neg (by simp [h3])]
  exact ⟨e, by unfold sumVal; rw [if_pos e]⟩
theorem accN_bound {t : List (List Int)} {code : List Int} (h : ∀ i, i < code.length → ent t code i ≤ 8589934592) : ∀ k, k ≤ code.length → 0 ≤ accN t code k ∧ accN t code k ≤ k * 8589934592
  | 0, _ => by simp [accN]
  | k + 1, hk => by
    have := accN_bound h k (by omega)
    have := h k (by omega)
    rw [accN]
    unfold mx
    split <;> omega
theorem big_ent {t : List (List Int)} {code : List Int} (h : t.any bigL = false) (i : Nat) : ent t code i ≤ 8589934592 := by
  unfold ent
  by_cases hi : i < t.length
  · have h1 : bigL (t.getD i []) = false := by
      rw [List.any_eq_false] at h
      have := h _ (getD_mem (d := []) hi)
      simpa using this
    generalize t.getD i [] = l at *
    by_cases hj : (code.getD i 0).toNat < l.length
    · unfold bigL at h1
      rw [List.any_eq_false] at h1
      have := h1 _ (getD_mem (d := 0) hj)
      simp only [decide_eq_true_eq] at this
      omega
    · have e : l.getD (code.getD i 0).toNat 0 = 0 := by
        generalize (code.getD i 0).toNat = j at *
        simp [List.getD, List.getElem?_eq_none (show l.length ≤ j by omega)]
      rw [e]
      decide
  · rw [show t.getD i [] = [] by simp [List.getD, List.getElem?_eq_none (show t.length ≤ i by omega)]]
    simp
theorem big_max {l : List Int} (h : 1 ≤ l.length) : bigL l = decide (8589934592 < maxL l) := by
  have := maxL_le (l := l) (B := 8589934592) h
  rw [Bool.eq_iff_iff, decide_eq_true_eq]
  unfold bigL
  rw [List.any_eq_true]
  constructor
  · rintro ⟨x, hx, hd⟩
    simp only [decide_eq_true_eq] at hd
    have : ¬ maxL l ≤ 8589934592 := fun q => by have := this.1 q x hx; omega
    omega
  · intro hlt
    refine Decidable.byContradiction fun hn => ?_
    have : maxL l ≤ 8589934592 := this.2 fun x hx => by
      refine Decidable.byContradiction fun hx2 => hn ⟨x, hx, by simp only [decide_eq_true_eq]; omega⟩
    omega

theorem max64_fun (l : List Int) (h : 1 ≤ l.length) : Fun Try.prog 140 [.lst (ints .i64 l)] fun r => r = .v (.int .i64 (maxL l)) := by
  refine Fun.of_awpI Try.func140 rfl cal140 Try.ntmps140 (by simp) fun hwf => ?_
  simp only [D.wfs, D.wf, ints_length, ints_wfs, rows_length, rows_wfs, capMax, and_true, true_and] at hwf
  repeat' (first | simp only [go_sem, Nat.reduceEqDiff, Nat.reduceAdd, Nat.reduceLT, Nat.reduceMul, Nat.reduceSub, ↓reduceIte, reduceCtorEq, Nat.reduceLeDiff, Nat.reduceBEq, Int.reduceBEq, Int.reduceBNe, Int.reduceLT, Int.reduceLE, Int.reduceToNat, Int.reduceGT, Int.reduceGE, Int.reduceEq, Int.reducePow, Nat.reducePow, Ret_eq Try.results140] | simp (disch := omega) only [arith, IntKind.bits, capMax, fill_len, elt_fill] | (with_reducible refine condI_beq (fun hq hqb => ?_) (fun hq hqb => ?_) <;> simp only [KP_mk, hqb]) | (with_reducible refine condI_bne (fun hq hqb => ?_) (fun hq hqb => ?_) <;> simp only [KP_mk, hqb]) | (with_reducible refine condI_dec (fun hq hqb => ?_) (fun hq hqb => ?_) <;> simp only [KP_mk, hqb]) | (with_reducible refine condI_b (fun hqb => ?_) (fun hqb => ?_) <;> simp only [KP_mk, hqb]) | refine RetO_calc Try.results140 ?_ | (refine Again.up (by omega) ?_ ?_) | exact trivial | fail)
  refine awpI_for (l.length - 1) (fun k => True) (fun k => [(3, .v (.int .i64 ((l.take (k + 1)).foldl mx (l.getD 0 0)))), (4, .v (.int .i64 ((k + 1 : Nat) : Int)))]) (fun _ => []) [0] [] _ (Weak.refl _) trivial ?_ ?_ ?_
  · simp only [go_sem, Nat.reduceEqDiff, Nat.reduceAdd, Nat.reduceLT, Nat.reduceMul, Nat.reduceSub, ↓reduceIte, reduceCtorEq, Nat.reduceLeDiff, Nat.reduceBEq, Int.reduceBEq, Int.reduceBNe, Int.reduceLT, Int.reduceLE, Int.reduceToNat, Int.reduceGT, Int.reduceGE, Int.reduceEq, Int.reducePow, Nat.reducePow, Ret_eq Try.results140]
    rw [foldl_take_snoc (d := 0) h]
    simp [mx]
  · simp only [go_sem, Nat.reduceEqDiff, Nat.reduceAdd, Nat.reduceLT, Nat.reduceMul, Nat.reduceSub, ↓reduceIte, reduceCtorEq, Nat.reduceLeDiff, Nat.reduceBEq, Int.reduceBEq, Int.reduceBNe, Int.reduceLT, Int.reduceLE, Int.reduceToNat, Int.reduceGT, Int.reduceGE, Int.reduceEq, Int.reducePow, Nat.reducePow, Ret_eq Try.results140]
  · intro k s hk _ hs
    simp only [go_sem, Nat.reduceEqDiff, Nat.reduceAdd, Nat.reduceLT, Nat.reduceMul, Nat.reduceSub, ↓reduceIte, reduceCtorEq, Nat.reduceLeDiff, Nat.reduceBEq, Int.reduceBEq, Int.reduceBNe, Int.reduceLT, Int.reduceLE, Int.reduceToNat, Int.reduceGT, Int.reduceGE, Int.reduceEq, Int.reducePow, Nat.reducePow, Ret_eq Try.results140] at hs
    by_cases hkl : k + 1 < l.length
    · have e := foldl_take_snoc (g := mx) (b := l.getD 0 0) (d := 0) hkl
      repeat' (first | simp only [go_sem, Nat.reduceEqDiff, Nat.reduceAdd, Nat.reduceLT, Nat.reduceMul, Nat.reduceSub, ↓reduceIte, reduceCtorEq, Nat.reduceLeDiff, Nat.reduceBEq, Int.reduceBEq, Int.reduceBNe, Int.reduceLT, Int.reduceLE, Int.reduceToNat, Int.reduceGT, Int.reduceGE, Int.reduceEq, Int.reducePow, Nat.reducePow, hs, maxD_cons, maxD_nil, Ret_eq Try.results140] | simp (disch := omega) only [arith, IntKind.bits, capMax, fill_len, elt_fill] | (with_reducible refine condI_beq (fun hq hqb => ?_) (fun hq hqb => ?_) <;> simp only [KP_mk, hqb]) | (with_reducible refine condI_bne (fun hq hqb => ?_) (fun hq hqb => ?_) <;> simp only [KP_mk, hqb]) | (with_reducible refine condI_dec (fun hq hqb => ?_) (fun hq hqb => ?_) <;> simp only [KP_mk, hqb]) | (with_reducible refine condI_b (fun hqb => ?_) (fun hqb => ?_) <;> simp only [KP_mk, hqb]) | refine RetO_calc Try.results140 ?_ | (refine Again.up (by omega) ?_ ?_) | exact trivial | fail)
      rw [e]; rfl
    · repeat' (first | simp only [go_sem, Nat.reduceEqDiff, Nat.reduceAdd, Nat.reduceLT, Nat.reduceMul, Nat.reduceSub, ↓reduceIte, reduceCtorEq, Nat.reduceLeDiff, Nat.reduceBEq, Int.reduceBEq, Int.reduceBNe, Int.reduceLT, Int.reduceLE, Int.reduceToNat, Int.reduceGT, Int.reduceGE, Int.reduceEq, Int.reducePow, Nat.reducePow, hs, Ret_eq Try.results140] | simp (disch := omega) only [arith, IntKind.bits, capMax, fill_len, elt_fill] | (with_reducible refine condI_beq (fun hq hqb => ?_) (fun hq hqb => ?_) <;> simp only [KP_mk, hqb]) | (with_reducible refine condI_bne (fun hq hqb => ?_) (fun hq hqb => ?_) <;> simp only [KP_mk, hqb]) | (with_reducible refine condI_dec (fun hq hqb => ?_) (fun hq hqb => ?_) <;> simp only [KP_mk, hqb]) | (with_reducible refine condI_b (fun hqb => ?_) (fun hqb => ?_) <;> simp only [KP_mk, hqb]) | refine RetO_calc Try.results140 ?_ | (refine Again.up (by omega) ?_ ?_) | exact trivial | fail)
      rw [List.take_of_length_le (by omega)]; rfl

theorem large_fun (l : List Int) : Fun Try.prog 139 [.lst (ints .i64 l)] fun r => r = .v (.bool (bigL l)) := by
  refine Fun.of_awpI Try.func139 rfl cal139 Try.ntmps139 (by simp) fun hwf => ?_
  simp only [D.wfs, D.wf, ints_length, ints_wfs, rows_length, rows_wfs, capMax, and_true, true_and] at hwf
  by_cases h : 1 ≤ l.length
  · rw [big_max h]
    repeat' (first | simp only [go_sem, Nat.reduceEqDiff, Nat.reduceAdd, Nat.reduceLT, Nat.reduceMul, Nat.reduceSub, ↓reduceIte, reduceCtorEq, Nat.reduceLeDiff, Nat.reduceBEq, Int.reduceBEq, Int.reduceBNe, Int.reduceLT, Int.reduceLE, Int.reduceToNat, Int.reduceGT, Int.reduceGE, Int.reduceEq, Int.reducePow, Nat.reducePow, Ret_eq Try.results139] | simp (disch := omega) only [arith, IntKind.bits, capMax, fill_len, elt_fill] | (with_reducible refine condI_beq (fun hq hqb => ?_) (fun hq hqb => ?_) <;> simp only [KP_mk, hqb]) | (with_reducible refine condI_bne (fun hq hqb => ?_) (fun hq hqb => ?_) <;> simp only [KP_mk, hqb]) | (with_reducible refine condI_dec (fun hq hqb => ?_) (fun hq hqb => ?_) <;> simp only [KP_mk, hqb]) | (with_reducible refine condI_b (fun hqb => ?_) (fun hqb => ?_) <;> simp only [KP_mk, hqb]) | refine RetO_calc Try.results139 ?_ | (refine Again.up (by omega) ?_ ?_) | exact trivial | (refine opCallI_rd (by simp only [go_sem, Nat.reduceEqDiff, Nat.reduceAdd, Nat.reduceLT, Nat.reduceMul, Nat.reduceSub, ↓reduceIte, reduceCtorEq, Nat.reduceLeDiff, Nat.reduceBEq, Int.reduceBEq, Int.reduceBNe, Int.reduceLT, Int.reduceLE, Int.reduceToNat, Int.reduceGT, Int.reduceGE, Int.reduceEq, Int.reducePow, Nat.reducePow, Ret_eq Try.results139]; first | done | rfl) (max64_fun l h) (by rintro _ rfl; rfl) ?_; rintro _ rfl) | (refine opCallI_gv (by simp only [go_sem, Nat.reduceEqDiff, Nat.reduceAdd, Nat.reduceLT, Nat.reduceMul, Nat.reduceSub, ↓reduceIte, reduceCtorEq, Nat.reduceLeDiff, Nat.reduceBEq, Int.reduceBEq, Int.reduceBNe, Int.reduceLT, Int.reduceLE, Int.reduceToNat, Int.reduceGT, Int.reduceGE, Int.reduceEq, Int.reducePow, Nat.reducePow, Ret_eq Try.results139]; first | done | rfl) (max64_fun l h) ?_; rintro _ rfl) | fail)
  · rw [show l = [] from List.length_eq_zero_iff.1 (by omega)]
    repeat' (first | simp only [go_sem, Nat.reduceEqDiff, Nat.reduceAdd, Nat.reduceLT, Nat.reduceMul, Nat.reduceSub, ↓reduceIte, reduceCtorEq, Nat.reduceLeDiff, Nat.reduceBEq, Int.reduceBEq, Int.reduceBNe, Int.reduceLT, Int.reduceLE, Int.reduceToNat, Int.reduceGT, Int.reduceGE, Int.reduceEq, Int.reducePow, Nat.reducePow, ints_nil, List.length_nil, Ret_eq Try.results139] | simp (disch := omega) only [arith, IntKind.bits, capMax, fill_len, elt_fill] | (with_reducible refine condI_beq (fun hq hqb => ?_) (fun hq hqb => ?_) <;> simp only [KP_mk, hqb]) | (with_reducible refine condI_bne (fun hq hqb => ?_) (fun hq hqb => ?_) <;> simp only [KP_mk, hqb]) | (with_reducible refine condI_dec (fun hq hqb => ?_) (fun hq hqb => ?_) <;> simp only [KP_mk, hqb]) | (with_reducible refine condI_b (fun hqb => ?_) (fun hqb => ?_) <;> simp only [KP_mk, hqb]) | refine RetO_calc Try.results139 ?_ | (refine Again.up (by omega) ?_ ?_) | exact trivial | fail)
    rfl

theorem indexFunc64_fun (l : List (List Int)) (p : List Int → Bool) (g : FuncId) (caps : List D) (hc1 : D.idss caps = []) (hc2 : D.noRefs caps = true) (hc3 : D.nrms caps = caps)
    (hg : ∀ c ∈ l, Fun Try.prog g (.lst (ints .i64 c) :: caps) fun r => r = .v (.bool (p c))) :
    Fun Try.prog 162 [.lst (rows .i64 l), .clos (.func g) caps] fun r => ∃ z : Int, r = .v (.int .i64 z) ∧ (0 ≤ z ↔ l.any p = true) := by
  refine Fun.of_awpI Try.func162 rfl cal162 Try.ntmps162 (by simp) fun hwf => ?_
  simp only [D.wfs, D.wf, ints_length, ints_wfs, rows_length, rows_wfs, capMax, and_true, true_and] at hwf
  repeat' (first | simp only [go_sem, Nat.reduceEqDiff, Nat.reduceAdd, Nat.reduceLT, Nat.reduceMul, Nat.reduceSub, ↓reduceIte, reduceCtorEq, Nat.reduceLeDiff, Nat.reduceBEq, Int.reduceBEq, Int.reduceBNe, Int.reduceLT, Int.reduceLE, Int.reduceToNat, Int.reduceGT, Int.reduceGE, Int.reduceEq, Int.reducePow, Nat.reducePow, Ret_eq Try.results162] | simp (disch := omega) only [arith, IntKind.bits, capMax, fill_len, elt_fill] | (with_reducible refine condI_beq (fun hq hqb => ?_) (fun hq hqb => ?_) <;> simp only [KP_mk, hqb]) | (with_reducible refine condI_bne (fun hq hqb => ?_) (fun hq hqb => ?_) <;> simp only [KP_mk, hqb]) | (with_reducible refine condI_dec (fun hq hqb => ?_) (fun hq hqb => ?_) <;> simp only [KP_mk, hqb]) | (with_reducible refine condI_b (fun hqb => ?_) (fun hqb => ?_) <;> simp only [KP_mk, hqb]) | refine RetO_calc Try.results162 ?_ | (refine Again.up (by omega) ?_ ?_) | exact trivial | fail)
  refine awpI_for l.length (fun k => (l.take k).any p = false) (fun k => [(8, .v (.int .i64 k))]) (fun _ => []) [0, 1, 7] [] _ (Weak.refl _) (by simp) ?_ ?_ ?_
  · simp only [go_sem, Nat.reduceEqDiff, Nat.reduceAdd, Nat.reduceLT, Nat.reduceMul, Nat.reduceSub, ↓reduceIte, reduceCtorEq, Nat.reduceLeDiff, Nat.reduceBEq, Int.reduceBEq, Int.reduceBNe, Int.reduceLT, Int.reduceLE, Int.reduceToNat, Int.reduceGT, Int.reduceGE, Int.reduceEq, Int.reducePow, Nat.reducePow, Ret_eq Try.results162]
  · simp only [go_sem, Nat.reduceEqDiff, Nat.reduceAdd, Nat.reduceLT, Nat.reduceMul, Nat.reduceSub, ↓reduceIte, reduceCtorEq, Nat.reduceLeDiff, Nat.reduceBEq, Int.reduceBEq, Int.reduceBNe, Int.reduceLT, Int.reduceLE, Int.reduceToNat, Int.reduceGT, Int.reduceGE, Int.reduceEq, Int.reducePow, Nat.reducePow, Ret_eq Try.results162]
  · intro k s hk hQ hs
    simp only [go_sem, Nat.reduceEqDiff, Nat.reduceAdd, Nat.reduceLT, Nat.reduceMul, Nat.reduceSub, ↓reduceIte, reduceCtorEq, Nat.reduceLeDiff, Nat.reduceBEq, Int.reduceBEq, Int.reduceBNe, Int.reduceLT, Int.reduceLE, Int.reduceToNat, Int.reduceGT, Int.reduceGE, Int.reduceEq, Int.reducePow, Nat.reducePow, Ret_eq Try.results162] at hs
    by_cases hka : k < l.length
    · have hgk := hg _ (getD_mem (d := []) hka)
      have e := any_take_snoc (p := p) hka
      rw [hQ, Bool.false_or] at e
      have e2 := any_of_take (p := p) hka
      generalize p (l.getD k []) = b at *
      cases b
      · repeat' (first | simp only [go_sem, Nat.reduceEqDiff, Nat.reduceAdd, Nat.reduceLT, Nat.reduceMul, Nat.reduceSub, ↓reduceIte, reduceCtorEq, Nat.reduceLeDiff, Nat.reduceBEq, Int.reduceBEq, Int.reduceBNe, Int.reduceLT, Int.reduceLE, Int.reduceToNat, Int.reduceGT, Int.reduceGE, Int.reduceEq, Int.reducePow, Nat.reducePow, hs, hc1, hc2, hc3, Ret_eq Try.results162] | simp (disch := omega) only [arith, IntKind.bits, capMax, fill_len, elt_fill] | (with_reducible refine condI_beq (fun hq hqb => ?_) (fun hq hqb => ?_) <;> simp only [KP_mk, hqb]) | (with_reducible refine condI_bne (fun hq hqb => ?_) (fun hq hqb => ?_) <;> simp only [KP_mk, hqb]) | (with_reducible refine condI_dec (fun hq hqb => ?_) (fun hq hqb => ?_) <;> simp only [KP_mk, hqb]) | (with_reducible refine condI_b (fun hqb => ?_) (fun hqb => ?_) <;> simp only [KP_mk, hqb]) | refine RetO_calc Try.results162 ?_ | (refine Again.up (by omega) ?_ ?_) | exact trivial | (refine opCallI_rd (by simp only [go_sem, Nat.reduceEqDiff, Nat.reduceAdd, Nat.reduceLT, Nat.reduceMul, Nat.reduceSub, ↓reduceIte, reduceCtorEq, Nat.reduceLeDiff, Nat.reduceBEq, Int.reduceBEq, Int.reduceBNe, Int.reduceLT, Int.reduceLE, Int.reduceToNat, Int.reduceGT, Int.reduceGE, Int.reduceEq, Int.reducePow, Nat.reducePow, hs, hc1, hc2, hc3, Ret_eq Try.results162]; first | done | rfl) (hgk) (by rintro _ rfl; rfl) ?_; rintro _ rfl) | (refine opCallI_gv (by simp only [go_sem, Nat.reduceEqDiff, Nat.reduceAdd, Nat.reduceLT, Nat.reduceMul, Nat.reduceSub, ↓reduceIte, reduceCtorEq, Nat.reduceLeDiff, Nat.reduceBEq, Int.reduceBEq, Int.reduceBNe, Int.reduceLT, Int.reduceLE, Int.reduceToNat, Int.reduceGT, Int.reduceGE, Int.reduceEq, Int.reducePow, Nat.reducePow, hs, hc1, hc2, hc3, Ret_eq Try.results162]; first | done | rfl) (hgk) ?_; rintro _ rfl) | fail)
        exact e
      · repeat' (first | simp only [go_sem, Nat.reduceEqDiff, Nat.reduceAdd, Nat.reduceLT, Nat.reduceMul, Nat.reduceSub, ↓reduceIte, reduceCtorEq, Nat.reduceLeDiff, Nat.reduceBEq, Int.reduceBEq, Int.reduceBNe, Int.reduceLT, Int.reduceLE, Int.reduceToNat, Int.reduceGT, Int.reduceGE, Int.reduceEq, Int.reducePow, Nat.reducePow, hs, hc1, hc2, hc3, Ret_eq Try.results162] | simp (disch := omega) only [arith, IntKind.bits, capMax, fill_len, elt_fill] | (with_reducible refine condI_beq (fun hq hqb => ?_) (fun hq hqb => ?_) <;> simp only [KP_mk, hqb]) | (with_reducible refine condI_bne (fun hq hqb => ?_) (fun hq hqb => ?_) <;> simp only [KP_mk, hqb]) | (with_reducible refine condI_dec (fun hq hqb => ?_) (fun hq hqb => ?_) <;> simp only [KP_mk, hqb]) | (with_reducible refine condI_b (fun hqb => ?_) (fun hqb => ?_) <;> simp only [KP_mk, hqb]) | refine RetO_calc Try.results162 ?_ | (refine Again.up (by omega) ?_ ?_) | exact trivial | (refine opCallI_rd (by simp only [go_sem, Nat.reduceEqDiff, Nat.reduceAdd, Nat.reduceLT, Nat.reduceMul, Nat.reduceSub, ↓reduceIte, reduceCtorEq, Nat.reduceLeDiff, Nat.reduceBEq, Int.reduceBEq, Int.reduceBNe, Int.reduceLT, Int.reduceLE, Int.reduceToNat, Int.reduceGT, Int.reduceGE, Int.reduceEq, Int.reducePow, Nat.reducePow, hs, hc1, hc2, hc3, Ret_eq Try.results162]; first | done | rfl) (hgk) (by rintro _ rfl; rfl) ?_; rintro _ rfl) | (refine opCallI_gv (by simp only [go_sem, Nat.reduceEqDiff, Nat.reduceAdd, Nat.reduceLT, Nat.reduceMul, Nat.reduceSub, ↓reduceIte, reduceCtorEq, Nat.reduceLeDiff, Nat.reduceBEq, Int.reduceBEq, Int.reduceBNe, Int.reduceLT, Int.reduceLE, Int.reduceToNat, Int.reduceGT, Int.reduceGE, Int.reduceEq, Int.reducePow, Nat.reducePow, hs, hc1, hc2, hc3, Ret_eq Try.results162]; first | done | rfl) (hgk) ?_; rintro _ rfl) | fail)
        exact ⟨_, rfl, fun _ => e2 rfl, fun _ => by omega⟩
    · obtain rfl : k = l.length := by omega
      rw [List.take_length] at hQ
      repeat' (first | simp only [go_sem, Nat.reduceEqDiff, Nat.reduceAdd, Nat.reduceLT, Nat.reduceMul, Nat.reduceSub, ↓reduceIte, reduceCtorEq, Nat.reduceLeDiff, Nat.reduceBEq, Int.reduceBEq, Int.reduceBNe, Int.reduceLT, Int.reduceLE, Int.reduceToNat, Int.reduceGT, Int.reduceGE, Int.reduceEq, Int.reducePow, Nat.reducePow, hs, Ret_eq Try.results162] | simp (disch := omega) only [arith, IntKind.bits, capMax, fill_len, elt_fill] | (with_reducible refine condI_beq (fun hq hqb => ?_) (fun hq hqb => ?_) <;> simp only [KP_mk, hqb]) | (with_reducible refine condI_bne (fun hq hqb => ?_) (fun hq hqb => ?_) <;> simp only [KP_mk, hqb]) | (with_reducible refine condI_dec (fun hq hqb => ?_) (fun hq hqb => ?_) <;> simp only [KP_mk, hqb]) | (with_reducible refine condI_b (fun hqb => ?_) (fun hqb => ?_) <;> simp only [KP_mk, hqb]) | refine RetO_calc Try.results162 ?_ | (refine Again.up (by omega) ?_ ?_) | exact trivial | fail)
      exact ⟨_, rfl, fun h => absurd h (by decide), fun h => by rw [hQ] at h; cases h⟩

theorem containsFunc64_fun (l : List (List Int)) (p : List Int → Bool) (g : FuncId) (caps : List D) (hc1 : D.idss caps = []) (hc2 : D.noRefs caps = true) (hc3 : D.nrms caps = caps)
    (hg : ∀ c ∈ l, Fun Try.prog g (.lst (ints .i64 c) :: caps) fun r => r = .v (.bool (p c))) :
    Fun Try.prog 141 [.lst (rows .i64 l), .clos (.func g) caps] fun r => r = .v (.bool (l.any p)) := by
  refine Fun.of_awpI Try.func141 rfl cal141 Try.ntmps141 (by simp) fun hwf => ?_
  simp only [D.wfs, D.wf, ints_length, ints_wfs, rows_length, rows_wfs, capMax, and_true, true_and] at hwf
  repeat' (first | simp only [go_sem, Nat.reduceEqDiff, Nat.reduceAdd, Nat.reduceLT, Nat.reduceMul, Nat.reduceSub, ↓reduceIte, reduceCtorEq, Nat.reduceLeDiff, Nat.reduceBEq, Int.reduceBEq, Int.reduceBNe, Int.reduceLT, Int.reduceLE, Int.reduceToNat, Int.reduceGT, Int.reduceGE, Int.reduceEq, Int.reducePow, Nat.reducePow, hc1, hc2, hc3, Ret_eq Try.results141] | simp (disch := omega) only [arith, IntKind.bits, capMax, fill_len, elt_fill] | (with_reducible refine condI_beq (fun hq hqb => ?_) (fun hq hqb => ?_) <;> simp only [KP_mk, hqb]) | (with_reducible refine condI_bne (fun hq hqb => ?_) (fun hq hqb => ?_) <;> simp only [KP_mk, hqb]) | (with_reducible refine condI_dec (fun hq hqb => ?_) (fun hq hqb => ?_) <;> simp only [KP_mk, hqb]) | (with_reducible refine condI_b (fun hqb => ?_) (fun hqb => ?_) <;> simp only [KP_mk, hqb]) | refine RetO_calc Try.results141 ?_ | (refine Again.up (by omega) ?_ ?_) | exact trivial | (refine opCallI_rd (by simp only [go_sem, Nat.reduceEqDiff, Nat.reduceAdd, Nat.reduceLT, Nat.reduceMul, Nat.reduceSub, ↓reduceIte, reduceCtorEq, Nat.reduceLeDiff, Nat.reduceBEq, Int.reduceBEq, Int.reduceBNe, Int.reduceLT, Int.reduceLE, Int.reduceToNat, Int.reduceGT, Int.reduceGE, Int.reduceEq, Int.reducePow, Nat.reducePow, hc1, hc2, hc3, Ret_eq Try.results141]; first | done | rfl) (indexFunc64_fun l p g caps hc1 hc2 hc3 hg) (by rintro _ rfl; rfl) ?_; rintro _ ⟨z, rfl, hz⟩) | (refine opCallI_gv (by simp only [go_sem, Nat.reduceEqDiff, Nat.reduceAdd, Nat.reduceLT, Nat.reduceMul, Nat.reduceSub, ↓reduceIte, reduceCtorEq, Nat.reduceLeDiff, Nat.reduceBEq, Int.reduceBEq, Int.reduceBNe, Int.reduceLT, Int.reduceLE, Int.reduceToNat, Int.reduceGT, Int.reduceGE, Int.reduceEq, Int.reducePow, Nat.reducePow, hc1, hc2, hc3, Ret_eq Try.results141]; first | done | rfl) (indexFunc64_fun l p g caps hc1 hc2 hc3 hg) ?_; rintro _ ⟨z, rfl, hz⟩) | fail)
  rw [Bool.eq_iff_iff, decide_eq_true_eq]
  omega

theorem sumTab_fun (t : List (List Int)) (code : List Int) (hc : Octets code) (hl : code.length ≤ 300) : Fun Try.prog 89 [.lst (rows .i64 t), .lst (ints .u8 code)] fun r => r = .tup [.v (.int .i64 (sumVal t code)), .v (.int .i64 (sumErr t code))] := by
  refine Fun.of_awpI Try.func89 rfl cal89 Try.ntmps89 (by simp) fun hwf => ?_
  simp only [D.wfs, D.wf, ints_length, ints_wfs, rows_length, rows_wfs, capMax, and_true, true_and] at hwf
  have hg := containsFunc64_fun t bigL 139 [] rfl rfl rfl fun c _ => large_fun c
  by_cases h : t.any bigL = true
  · obtain ⟨o1, o2⟩ := sum_big (code := code) h
    rw [o1, o2]
    repeat' (first | simp only [go_sem, Nat.reduceEqDiff, Nat.reduceAdd, Nat.reduceLT, Nat.reduceMul, Nat.reduceSub, ↓reduceIte, reduceCtorEq, Nat.reduceLeDiff, Nat.reduceBEq, Int.reduceBEq, Int.reduceBNe, Int.reduceLT, Int.reduceLE, Int.reduceToNat, Int.reduceGT, Int.reduceGE, Int.reduceEq, Int.reducePow, Nat.reducePow, h, Ret_eq Try.results89] | simp (disch := omega) only [arith, IntKind.bits, capMax, fill_len, elt_fill] | (with_reducible refine condI_beq (fun hq hqb => ?_) (fun hq hqb => ?_) <;> simp only [KP_mk, hqb]) | (with_reducible refine condI_bne (fun hq hqb => ?_) (fun hq hqb => ?_) <;> simp only [KP_mk, hqb]) | (with_reducible refine condI_dec (fun hq hqb => ?_) (fun hq hqb => ?_) <;> simp only [KP_mk, hqb]) | (with_reducible refine condI_b (fun hqb => ?_) (fun hqb => ?_) <;> simp only [KP_mk, hqb]) | refine RetO_calc Try.results89 ?_ | (refine Again.up (by omega) ?_ ?_) | exact trivial | (refine opCallI_rd (by simp only [go_sem, Nat.reduceEqDiff, Nat.reduceAdd, Nat.reduceLT, Nat.reduceMul, Nat.reduceSub, ↓reduceIte, reduceCtorEq, Nat.reduceLeDiff, Nat.reduceBEq, Int.reduceBEq, Int.reduceBNe, Int.reduceLT, Int.reduceLE, Int.reduceToNat, Int.reduceGT, Int.reduceGE, Int.reduceEq, Int.reducePow, Nat.reducePow, h, Ret_eq Try.results89]; first | done | rfl) (hg) (by rintro _ rfl; rfl) ?_; rintro _ rfl) | (refine opCallI_gv (by simp only [go_sem, Nat.reduceEqDiff, Nat.reduceAdd, Nat.reduceLT, Nat.reduceMul, Nat.reduceSub, ↓reduceIte, reduceCtorEq, Nat.reduceLeDiff, Nat.reduceBEq, Int.reduceBEq, Int.reduceBNe, Int.reduceLT, Int.reduceLE, Int.reduceToNat, Int.reduceGT, Int.reduceGE, Int.reduceEq, Int.reducePow, Nat.reducePow, h, Ret_eq Try.results89]; first | done | rfl) (hg) ?_; rintro _ rfl) | fail)
  · have h : t.any bigL = false := by simpa using h
    by_cases h2 : code.length = t.length
    · have hent := fun i => big_ent (code := code) h i
      have hacc := accN_bound (t := t) (code := code) fun i _ => hent i
      repeat' (first | simp only [go_sem, Nat.reduceEqDiff, Nat.reduceAdd, Nat.reduceLT, Nat.reduceMul, Nat.reduceSub, ↓reduceIte, reduceCtorEq, Nat.reduceLeDiff, Nat.reduceBEq, Int.reduceBEq, Int.reduceBNe, Int.reduceLT, Int.reduceLE, Int.reduceToNat, Int.reduceGT, Int.reduceGE, Int.reduceEq, Int.reducePow, Nat.reducePow, h, h2, Ret_eq Try.results89] | simp (disch := omega) only [arith, IntKind.bits, capMax, fill_len, elt_fill] | (with_reducible refine condI_beq (fun hq hqb => ?_) (fun hq hqb => ?_) <;> simp only [KP_mk, hqb]) | (with_reducible refine condI_bne (fun hq hqb => ?_) (fun hq hqb => ?_) <;> simp only [KP_mk, hqb]) | (with_reducible refine condI_dec (fun hq hqb => ?_) (fun hq hqb => ?_) <;> simp only [KP_mk, hqb]) | (with_reducible refine condI_b (fun hqb => ?_) (fun hqb => ?_) <;> simp only [KP_mk, hqb]) | refine RetO_calc Try.results89 ?_ | (refine Again.up (by omega) ?_ ?_) | exact trivial | (refine opCallI_rd (by simp only [go_sem, Nat.reduceEqDiff, Nat.reduceAdd, Nat.reduceLT, Nat.reduceMul, Nat.reduceSub, ↓reduceIte, reduceCtorEq, Nat.reduceLeDiff, Nat.reduceBEq, Int.reduceBEq, Int.reduceBNe, Int.reduceLT, Int.reduceLE, Int.reduceToNat, Int.reduceGT, Int.reduceGE, Int.reduceEq, Int.reducePow, Nat.reducePow, h, h2, Ret_eq Try.results89]; first | done | rfl) (hg) (by rintro _ rfl; rfl) ?_; rintro _ rfl) | (refine opCallI_gv (by simp only [go_sem, Nat.reduceEqDiff, Nat.reduceAdd, Nat.reduceLT, Nat.reduceMul, Nat.reduceSub, ↓reduceIte, reduceCtorEq, Nat.reduceLeDiff, Nat.reduceBEq, Int.reduceBEq, Int.reduceBNe, Int.reduceLT, Int.reduceLE, Int.reduceToNat, Int.reduceGT, Int.reduceGE, Int.reduceEq, Int.reducePow, Nat.reducePow, h, h2, Ret_eq Try.results89]; first | done | rfl) (hg) ?_; rintro _ rfl) | fail)
      refine awpI_for code.length (fun k => ∀ i, i < k → code.getD i 0 < ((t.getD i []).length : Int)) (fun k => [(4, .v (.int .i64 (accN t code k))), (7, .v (.bool (negB t code k))), (22, .v (.int .i64 k))]) (fun _ => []) [0, 20, 21] [] _ (Weak.refl _) (fun i hi => by omega) ?_ ?_ ?_
      · simp only [go_sem, Nat.reduceEqDiff, Nat.reduceAdd, Nat.reduceLT, Nat.reduceMul, Nat.reduceSub, ↓reduceIte, reduceCtorEq, Nat.reduceLeDiff, Nat.reduceBEq, Int.reduceBEq, Int.reduceBNe, Int.reduceLT, Int.reduceLE, Int.reduceToNat, Int.reduceGT, Int.reduceGE, Int.reduceEq, Int.reducePow, Nat.reducePow, accN, negB, Ret_eq Try.results89]
      · simp only [go_sem, Nat.reduceEqDiff, Nat.reduceAdd, Nat.reduceLT, Nat.reduceMul, Nat.reduceSub, ↓reduceIte, reduceCtorEq, Nat.reduceLeDiff, Nat.reduceBEq, Int.reduceBEq, Int.reduceBNe, Int.reduceLT, Int.reduceLE, Int.reduceToNat, Int.reduceGT, Int.reduceGE, Int.reduceEq, Int.reducePow, Nat.reducePow, Ret_eq Try.results89]
      · intro k s hk hQ hs
        simp only [go_sem, Nat.reduceEqDiff, Nat.reduceAdd, Nat.reduceLT, Nat.reduceMul, Nat.reduceSub, ↓reduceIte, reduceCtorEq, Nat.reduceLeDiff, Nat.reduceBEq, Int.reduceBEq, Int.reduceBNe, Int.reduceLT, Int.reduceLE, Int.reduceToNat, Int.reduceGT, Int.reduceGE, Int.reduceEq, Int.reducePow, Nat.reducePow, Ret_eq Try.results89] at hs
        by_cases hka : k < code.length
        · have hx := hc _ (getD_mem (d := 0) hka)
          have a1 := hacc k hk
          have a2 := hent k
          have e1 : accN t code (k + 1) = accN t code k + mx (ent t code k) 0 := rfl
          have e2 : negB t code (k + 1) = (negB t code k || decide (ent t code k < 0)) := rfl
          have e3 : (t.getD k []).getD (code.getD k 0).toNat 0 = ent t code k := rfl
          clear hacc hent
          generalize negB t code k = b at *
          cases b
          · repeat' (first | simp only [go_sem, Nat.reduceEqDiff, Nat.reduceAdd, Nat.reduceLT, Nat.reduceMul, Nat.reduceSub, ↓reduceIte, reduceCtorEq, Nat.reduceLeDiff, Nat.reduceBEq, Int.reduceBEq, Int.reduceBNe, Int.reduceLT, Int.reduceLE, Int.reduceToNat, Int.reduceGT, Int.reduceGE, Int.reduceEq, Int.reducePow, Nat.reducePow, hs, e3, maxD_cons, maxD_nil, Ret_eq Try.results89] | simp (disch := omega) only [arith, IntKind.bits, capMax, fill_len, elt_fill] | (with_reducible refine condI_beq (fun hq hqb => ?_) (fun hq hqb => ?_) <;> simp only [KP_mk, hqb]) | (with_reducible refine condI_bne (fun hq hqb => ?_) (fun hq hqb => ?_) <;> simp only [KP_mk, hqb]) | (with_reducible refine condI_dec (fun hq hqb => ?_) (fun hq hqb => ?_) <;> simp only [KP_mk, hqb]) | (with_reducible refine condI_b (fun hqb => ?_) (fun hqb => ?_) <;> simp only [KP_mk, hqb]) | refine RetO_calc Try.results89 ?_ | (refine Again.up (by omega) ?_ ?_) | exact trivial | fail)
            all_goals first
              | (obtain ⟨o1, o2⟩ := sum_form h (.inr fun q => by have := q k hka; omega)
                 rw [o1, o2])
              | (intro i hi
                 by_cases hik : i = k
                 · subst hik; omega
                 · exact hQ i (by omega))
              | exact ⟨e1.symm, by rw [e2]; simp⟩
          · repeat' (first | simp only [go_sem, Nat.reduceEqDiff, Nat.reduceAdd, Nat.reduceLT, Nat.reduceMul, Nat.reduceSub, ↓reduceIte, reduceCtorEq, Nat.reduceLeDiff, Nat.reduceBEq, Int.reduceBEq, Int.reduceBNe, Int.reduceLT, Int.reduceLE, Int.reduceToNat, Int.reduceGT, Int.reduceGE, Int.reduceEq, Int.reducePow, Nat.reducePow, hs, e3, maxD_cons, maxD_nil, Ret_eq Try.results89] | simp (disch := omega) only [arith, IntKind.bits, capMax, fill_len, elt_fill] | (with_reducible refine condI_beq (fun hq hqb => ?_) (fun hq hqb => ?_) <;> simp only [KP_mk, hqb]) | (with_reducible refine condI_bne (fun hq hqb => ?_) (fun hq hqb => ?_) <;> simp only [KP_mk, hqb]) | (with_reducible refine condI_dec (fun hq hqb => ?_) (fun hq hqb => ?_) <;> simp only [KP_mk, hqb]) | (with_reducible refine condI_b (fun hqb => ?_) (fun hqb => ?_) <;> simp only [KP_mk, hqb]) | refine RetO_calc Try.results89 ?_ | (refine Again.up (by omega) ?_ ?_) | exact trivial | fail)
            all_goals first
              | (obtain ⟨o1, o2⟩ := sum_form h (.inr fun q => by have := q k hka; omega)
                 rw [o1, o2])
              | (intro i hi
                 by_cases hik : i = k
                 · subst hik; omega
                 · exact hQ i (by omega))
              | exact ⟨e1.symm, by rw [e2]; simp⟩
        · obtain rfl : k = code.length := by omega
          clear hacc hent
          by_cases hn : negB t code code.length = true
          · obtain ⟨o1, o2⟩ := sum_neg h ⟨h2, hQ⟩ hn
            rw [o1, o2]
            repeat' (first | simp only [go_sem, Nat.reduceEqDiff, Nat.reduceAdd, Nat.reduceLT, Nat.reduceMul, Nat.reduceSub, ↓reduceIte, reduceCtorEq, Nat.reduceLeDiff, Nat.reduceBEq, Int.reduceBEq, Int.reduceBNe, Int.reduceLT, Int.reduceLE, Int.reduceToNat, Int.reduceGT, Int.reduceGE, Int.reduceEq, Int.reducePow, Nat.reducePow, hs, hn, Ret_eq Try.results89] | simp (disch := omega) only [arith, IntKind.bits, capMax, fill_len, elt_fill] | (with_reducible refine condI_beq (fun hq hqb => ?_) (fun hq hqb => ?_) <;> simp only [KP_mk, hqb]) | (with_reducible refine condI_bne (fun hq hqb => ?_) (fun hq hqb => ?_) <;> simp only [KP_mk, hqb]) | (with_reducible refine condI_dec (fun hq hqb => ?_) (fun hq hqb => ?_) <;> simp only [KP_mk, hqb]) | (with_reducible refine condI_b (fun hqb => ?_) (fun hqb => ?_) <;> simp only [KP_mk, hqb]) | refine RetO_calc Try.results89 ?_ | (refine Again.up (by omega) ?_ ?_) | exact trivial | fail)
          · have hn : negB t code code.length = false := by simpa using hn
            obtain ⟨o1, o2⟩ := sum_fine h ⟨h2, hQ⟩ hn
            rw [o1, o2]
            repeat' (first | simp only [go_sem, Nat.reduceEqDiff, Nat.reduceAdd, Nat.reduceLT, Nat.reduceMul, Nat.reduceSub, ↓reduceIte, reduceCtorEq, Nat.reduceLeDiff, Nat.reduceBEq, Int.reduceBEq, Int.reduceBNe, Int.reduceLT, Int.reduceLE, Int.reduceToNat, Int.reduceGT, Int.reduceGE, Int.reduceEq, Int.reducePow, Nat.reducePow, hs, hn, Ret_eq Try.results89] | simp (disch := omega) only [arith, IntKind.bits, capMax, fill_len, elt_fill] | (with_reducible refine condI_beq (fun hq hqb => ?_) (fun hq hqb => ?_) <;> simp only [KP_mk, hqb]) | (with_reducible refine condI_bne (fun hq hqb => ?_) (fun hq hqb => ?_) <;> simp only [KP_mk, hqb]) | (with_reducible refine condI_dec (fun hq hqb => ?_) (fun hq hqb => ?_) <;> simp only [KP_mk, hqb]) | (with_reducible refine condI_b (fun hqb => ?_) (fun hqb => ?_) <;> simp only [KP_mk, hqb]) | refine RetO_calc Try.results89 ?_ | (refine Again.up (by omega) ?_ ?_) | exact trivial | fail)
    · obtain ⟨o1, o2⟩ := sum_form h (.inl h2)
      rw [o1, o2]
      repeat' (first | simp only [go_sem, Nat.reduceEqDiff, Nat.reduceAdd, Nat.reduceLT, Nat.reduceMul, Nat.reduceSub, ↓reduceIte, reduceCtorEq, Nat.reduceLeDiff, Nat.reduceBEq, Int.reduceBEq, Int.reduceBNe, Int.reduceLT, Int.reduceLE, Int.reduceToNat, Int.reduceGT, Int.reduceGE, Int.reduceEq, Int.reducePow, Nat.reducePow, h, Ret_eq Try.results89] | simp (disch := omega) only [arith, IntKind.bits, capMax, fill_len, elt_fill] | (with_reducible refine condI_beq (fun hq hqb => ?_) (fun hq hqb => ?_) <;> simp only [KP_mk, hqb]) | (with_reducible refine condI_bne (fun hq hqb => ?_) (fun hq hqb => ?_) <;> simp only [KP_mk, hqb]) | (with_reducible refine condI_dec (fun hq hqb => ?_) (fun hq hqb => ?_) <;> simp only [KP_mk, hqb]) | (with_reducible refine condI_b (fun hqb => ?_) (fun hqb => ?_) <;> simp only [KP_mk, hqb]) | refine RetO_calc Try.results89 ?_ | (refine Again.up (by omega) ?_ ?_) | exact trivial | (refine opCallI_rd (by simp only [go_sem, Nat.reduceEqDiff, Nat.reduceAdd, Nat.reduceLT, Nat.reduceMul, Nat.reduceSub, ↓reduceIte, reduceCtorEq, Nat.reduceLeDiff, Nat.reduceBEq, Int.reduceBEq, Int.reduceBNe, Int.reduceLT, Int.reduceLE, Int.reduceToNat, Int.reduceGT, Int.reduceGE, Int.reduceEq, Int.reducePow, Nat.reducePow, h, Ret_eq Try.results89]; first | done | rfl) (hg) (by rintro _ rfl; rfl) ?_; rintro _ rfl) | (refine opCallI_gv (by simp only [go_sem, Nat.reduceEqDiff, Nat.reduceAdd, Nat.reduceLT, Nat.reduceMul, Nat.reduceSub, ↓reduceIte, reduceCtorEq, Nat.reduceLeDiff, Nat.reduceBEq, Int.reduceBEq, Int.reduceBNe, Int.reduceLT, Int.reduceLE, Int.reduceToNat, Int.reduceGT, Int.reduceGE, Int.reduceEq, Int.reducePow, Nat.reducePow, h, Ret_eq Try.results89]; first | done | rfl) (hg) ?_; rintro _ rfl) | fail)
def accR (t : List (List Int)) (code : List Int) : Nat → Int
  | 0 => 0
  | k + 1 => accR t code k + ent t code k
theorem acc_same {t : List (List Int)} {code : List Int} : ∀ k, (∀ i, i < k → 0 ≤ ent t code i) → negB t code k = false ∧ accR t code k = accN t code k
  | 0, _ => ⟨rfl, rfl⟩
  | k + 1, h => by
    obtain ⟨h1, h2⟩ := acc_same k fun i hi => h i (by omega)
    have h3 := h k (by omega)
    rw [negB, accR, accN, h1, h2]
    refine ⟨by simp; omega, ?_⟩
    unfold mx
    rw [if_neg (by omega)]
theorem neg_of {t : List (List Int)} {code : List Int} {i : Nat} (h : ent t code i < 0) : ∀ k, i < k → negB t code k = true
  | 0, hi => by omega
  | k + 1, hi => by
    rw [negB]
    by_cases hik : i = k
    · subst hik; simp [h]
    · rw [neg_of h k (by omega)]; rfl

theorem refSumTab_fun (t : List (List Int)) (code : List Int) (hc : Octets code) (hl : code.length ≤ 300) : Fun Try.prog 90 [.lst (rows .i64 t), .lst (ints .u8 code)] fun r => r = .tup [.v (.int .i64 (sumVal t code)), .v (.int .i64 (sumErr t code))] := by
  refine Fun.of_awpI Try.func90 rfl cal90 Try.ntmps90 (by simp) fun hwf => ?_
  simp only [D.wfs, D.wf, ints_length, ints_wfs, rows_length, rows_wfs, capMax, and_true, true_and] at hwf
  repeat' (first | simp only [go_sem, Nat.reduceEqDiff, Nat.reduceAdd, Nat.reduceLT, Nat.reduceMul, Nat.reduceSub, ↓reduceIte, reduceCtorEq, Nat.reduceLeDiff, Nat.reduceBEq, Int.reduceBEq, Int.reduceBNe, Int.reduceLT, Int.reduceLE, Int.reduceToNat, Int.reduceGT, Int.reduceGE, Int.reduceEq, Int.reducePow, Nat.reducePow, Ret_eq Try.results90] | simp (disch := omega) only [arith, IntKind.bits, capMax, fill_len, elt_fill] | (with_reducible refine condI_beq (fun hq hqb => ?_) (fun hq hqb => ?_) <;> simp only [KP_mk, hqb]) | (with_reducible refine condI_bne (fun hq hqb => ?_) (fun hq hqb => ?_) <;> simp only [KP_mk, hqb]) | (with_reducible refine condI_dec (fun hq hqb => ?_) (fun hq hqb => ?_) <;> simp only [KP_mk, hqb]) | (with_reducible refine condI_b (fun hqb => ?_) (fun hqb => ?_) <;> simp only [KP_mk, hqb]) | refine RetO_calc Try.results90 ?_ | (refine Again.up (by omega) ?_ ?_) | exact trivial | fail)
  refine awpI_for t.length (fun k => (t.take k).any bigL = false) (fun k => [(17, .v (.int .i64 k))]) (fun _ => []) [0, 1, 15, 16] [] _ (Weak.refl _) (by simp) ?_ ?_ ?_
  · simp only [go_sem, Nat.reduceEqDiff, Nat.reduceAdd, Nat.reduceLT, Nat.reduceMul, Nat.reduceSub, ↓reduceIte, reduceCtorEq, Nat.reduceLeDiff, Nat.reduceBEq, Int.reduceBEq, Int.reduceBNe, Int.reduceLT, Int.reduceLE, Int.reduceToNat, Int.reduceGT, Int.reduceGE, Int.reduceEq, Int.reducePow, Nat.reducePow, Ret_eq Try.results90]
  · simp only [go_sem, Nat.reduceEqDiff, Nat.reduceAdd, Nat.reduceLT, Nat.reduceMul, Nat.reduceSub, ↓reduceIte, reduceCtorEq, Nat.reduceLeDiff, Nat.reduceBEq, Int.reduceBEq, Int.reduceBNe, Int.reduceLT, Int.reduceLE, Int.reduceToNat, Int.reduceGT, Int.reduceGE, Int.reduceEq, Int.reducePow, Nat.reducePow, Ret_eq Try.results90]
  · intro k s hk hQ hs
    simp only [go_sem, Nat.reduceEqDiff, Nat.reduceAdd, Nat.reduceLT, Nat.reduceMul, Nat.reduceSub, ↓reduceIte, reduceCtorEq, Nat.reduceLeDiff, Nat.reduceBEq, Int.reduceBEq, Int.reduceBNe, Int.reduceLT, Int.reduceLE, Int.reduceToNat, Int.reduceGT, Int.reduceGE, Int.reduceEq, Int.reducePow, Nat.reducePow, Ret_eq Try.results90] at hs
    by_cases hka : k < t.length
    · have e := any_take_snoc (p := bigL) hka
      rw [hQ, Bool.false_or] at e
      have e0 := any_of_take (p := bigL) hka
      have hlk := hwf.1.2 _ (getD_mem (d := []) hka)
      generalize hrow : t.getD k [] = l at *
      repeat' (first | simp only [go_sem, Nat.reduceEqDiff, Nat.reduceAdd, Nat.reduceLT, Nat.reduceMul, Nat.reduceSub, ↓reduceIte, reduceCtorEq, Nat.reduceLeDiff, Nat.reduceBEq, Int.reduceBEq, Int.reduceBNe, Int.reduceLT, Int.reduceLE, Int.reduceToNat, Int.reduceGT, Int.reduceGE, Int.reduceEq, Int.reducePow, Nat.reducePow, hs, hrow, Ret_eq Try.results90] | simp (disch := omega) only [arith, IntKind.bits, capMax, fill_len, elt_fill] | (with_reducible refine condI_beq (fun hq hqb => ?_) (fun hq hqb => ?_) <;> simp only [KP_mk, hqb]) | (with_reducible refine condI_bne (fun hq hqb => ?_) (fun hq hqb => ?_) <;> simp only [KP_mk, hqb]) | (with_reducible refine condI_dec (fun hq hqb => ?_) (fun hq hqb => ?_) <;> simp only [KP_mk, hqb]) | (with_reducible refine condI_b (fun hqb => ?_) (fun hqb => ?_) <;> simp only [KP_mk, hqb]) | refine RetO_calc Try.results90 ?_ | (refine Again.up (by omega) ?_ ?_) | exact trivial | fail)
      refine awpI_for l.length (fun k => (l.take k).any (fun n => decide (8589934592 < n)) = false) (fun k => [(23, .v (.int .i64 k))]) (fun _ => []) [0, 1, 15, 16, 17, 21, 22] [] _ (Weak.refl _) (by simp) ?_ ?_ ?_
      · simp only [go_sem, Nat.reduceEqDiff, Nat.reduceAdd, Nat.reduceLT, Nat.reduceMul, Nat.reduceSub, ↓reduceIte, reduceCtorEq, Nat.reduceLeDiff, Nat.reduceBEq, Int.reduceBEq, Int.reduceBNe, Int.reduceLT, Int.reduceLE, Int.reduceToNat, Int.reduceGT, Int.reduceGE, Int.reduceEq, Int.reducePow, Nat.reducePow, Ret_eq Try.results90]
      · simp only [go_sem, Nat.reduceEqDiff, Nat.reduceAdd, Nat.reduceLT, Nat.reduceMul, Nat.reduceSub, ↓reduceIte, reduceCtorEq, Nat.reduceLeDiff, Nat.reduceBEq, Int.reduceBEq, Int.reduceBNe, Int.reduceLT, Int.reduceLE, Int.reduceToNat, Int.reduceGT, Int.reduceGE, Int.reduceEq, Int.reducePow, Nat.reducePow, Ret_eq Try.results90]
      · intro j s2 hj hQ2 hs2
        simp only [go_sem, Nat.reduceEqDiff, Nat.reduceAdd, Nat.reduceLT, Nat.reduceMul, Nat.reduceSub, ↓reduceIte, reduceCtorEq, Nat.reduceLeDiff, Nat.reduceBEq, Int.reduceBEq, Int.reduceBNe, Int.reduceLT, Int.reduceLE, Int.reduceToNat, Int.reduceGT, Int.reduceGE, Int.reduceEq, Int.reducePow, Nat.reducePow, hs, Ret_eq Try.results90] at hs2
        by_cases hja : j < l.length
        · have e2 : (l.take (j + 1)).any (fun n => decide (8589934592 < n)) = ((l.take j).any (fun n => decide (8589934592 < n)) || decide (8589934592 < l.getD j 0)) := by
            rw [take_snoc (d := 0) hja, List.any_append]; simp
          rw [hQ2, Bool.false_or] at e2
          repeat' (first | simp only [go_sem, Nat.reduceEqDiff, Nat.reduceAdd, Nat.reduceLT, Nat.reduceMul, Nat.reduceSub, ↓reduceIte, reduceCtorEq, Nat.reduceLeDiff, Nat.reduceBEq, Int.reduceBEq, Int.reduceBNe, Int.reduceLT, Int.reduceLE, Int.reduceToNat, Int.reduceGT, Int.reduceGE, Int.reduceEq, Int.reducePow, Nat.reducePow, hs, hs2, Ret_eq Try.results90] | simp (disch := omega) only [arith, IntKind.bits, capMax, fill_len, elt_fill] | (with_reducible refine condI_beq (fun hq hqb => ?_) (fun hq hqb => ?_) <;> simp only [KP_mk, hqb]) | (with_reducible refine condI_bne (fun hq hqb => ?_) (fun hq hqb => ?_) <;> simp only [KP_mk, hqb]) | (with_reducible refine condI_dec (fun hq hqb => ?_) (fun hq hqb => ?_) <;> simp only [KP_mk, hqb]) | (with_reducible refine condI_b (fun hqb => ?_) (fun hqb => ?_) <;> simp only [KP_mk, hqb]) | refine RetO_calc Try.results90 ?_ | (refine Again.up (by omega) ?_ ?_) | exact trivial | fail)
          · obtain ⟨o1, o2⟩ := sum_big (t := t) (code := code) (e0 (by unfold bigL; rw [List.any_eq_true]; exact ⟨_, getD_mem (d := 0) hja, by rw [decide_eq_true_eq]; omega⟩))
            rw [o1, o2]
          · rw [e2]; exact decide_eq_false (by omega)
        · obtain rfl : j = l.length := by omega
          rw [List.take_length] at hQ2
          repeat' (first | simp only [go_sem, Nat.reduceEqDiff, Nat.reduceAdd, Nat.reduceLT, Nat.reduceMul, Nat.reduceSub, ↓reduceIte, reduceCtorEq, Nat.reduceLeDiff, Nat.reduceBEq, Int.reduceBEq, Int.reduceBNe, Int.reduceLT, Int.reduceLE, Int.reduceToNat, Int.reduceGT, Int.reduceGE, Int.reduceEq, Int.reducePow, Nat.reducePow, hs, hs2, Ret_eq Try.results90] | simp (disch := omega) only [arith, IntKind.bits, capMax, fill_len, elt_fill] | (with_reducible refine condI_beq (fun hq hqb => ?_) (fun hq hqb => ?_) <;> simp only [KP_mk, hqb]) | (with_reducible refine condI_bne (fun hq hqb => ?_) (fun hq hqb => ?_) <;> simp only [KP_mk, hqb]) | (with_reducible refine condI_dec (fun hq hqb => ?_) (fun hq hqb => ?_) <;> simp only [KP_mk, hqb]) | (with_reducible refine condI_b (fun hqb => ?_) (fun hqb => ?_) <;> simp only [KP_mk, hqb]) | refine RetO_calc Try.results90 ?_ | (refine Again.up (by omega) ?_ ?_) | exact trivial | fail)
          rw [e]; exact hQ2
    · obtain rfl : k = t.length := by omega
      rw [List.take_length] at hQ
      by_cases h2 : code.length = t.length
      · repeat' (first | simp only [go_sem, Nat.reduceEqDiff, Nat.reduceAdd, Nat.reduceLT, Nat.reduceMul, Nat.reduceSub, ↓reduceIte, reduceCtorEq, Nat.reduceLeDiff, Nat.reduceBEq, Int.reduceBEq, Int.reduceBNe, Int.reduceLT, Int.reduceLE, Int.reduceToNat, Int.reduceGT, Int.reduceGE, Int.reduceEq, Int.reducePow, Nat.reducePow, hs, h2, Ret_eq Try.results90] | simp (disch := omega) only [arith, IntKind.bits, capMax, fill_len, elt_fill] | (with_reducible refine condI_beq (fun hq hqb => ?_) (fun hq hqb => ?_) <;> simp only [KP_mk, hqb]) | (with_reducible refine condI_bne (fun hq hqb => ?_) (fun hq hqb => ?_) <;> simp only [KP_mk, hqb]) | (with_reducible refine condI_dec (fun hq hqb => ?_) (fun hq hqb => ?_) <;> simp only [KP_mk, hqb]) | (with_reducible refine condI_b (fun hqb => ?_) (fun hqb => ?_) <;> simp only [KP_mk, hqb]) | refine RetO_calc Try.results90 ?_ | (refine Again.up (by omega) ?_ ?_) | exact trivial | fail)
        refine awpI_for code.length (fun k => ∀ i, i < k → code.getD i 0 < ((t.getD i []).length : Int)) (fun k => [(38, .v (.int .i64 k))]) (fun _ => []) [0, 1, 36, 37] [] _ (Weak.refl _) (fun i hi => by omega) ?_ ?_ ?_
        · simp only [go_sem, Nat.reduceEqDiff, Nat.reduceAdd, Nat.reduceLT, Nat.reduceMul, Nat.reduceSub, ↓reduceIte, reduceCtorEq, Nat.reduceLeDiff, Nat.reduceBEq, Int.reduceBEq, Int.reduceBNe, Int.reduceLT, Int.reduceLE, Int.reduceToNat, Int.reduceGT, Int.reduceGE, Int.reduceEq, Int.reducePow, Nat.reducePow, hs, Ret_eq Try.results90]
        · simp only [go_sem, Nat.reduceEqDiff, Nat.reduceAdd, Nat.reduceLT, Nat.reduceMul, Nat.reduceSub, ↓reduceIte, reduceCtorEq, Nat.reduceLeDiff, Nat.reduceBEq, Int.reduceBEq, Int.reduceBNe, Int.reduceLT, Int.reduceLE, Int.reduceToNat, Int.reduceGT, Int.reduceGE, Int.reduceEq, Int.reducePow, Nat.reducePow, Ret_eq Try.results90]
        · intro k s2 hk2 hQ2 hs2
          simp only [go_sem, Nat.reduceEqDiff, Nat.reduceAdd, Nat.reduceLT, Nat.reduceMul, Nat.reduceSub, ↓reduceIte, reduceCtorEq, Nat.reduceLeDiff, Nat.reduceBEq, Int.reduceBEq, Int.reduceBNe, Int.reduceLT, Int.reduceLE, Int.reduceToNat, Int.reduceGT, Int.reduceGE, Int.reduceEq, Int.reducePow, Nat.reducePow, hs, Ret_eq Try.results90] at hs2
          by_cases hka : k < code.length
          · have hx := hc _ (getD_mem (d := 0) hka)
            repeat' (first | simp only [go_sem, Nat.reduceEqDiff, Nat.reduceAdd, Nat.reduceLT, Nat.reduceMul, Nat.reduceSub, ↓reduceIte, reduceCtorEq, Nat.reduceLeDiff, Nat.reduceBEq, Int.reduceBEq, Int.reduceBNe, Int.reduceLT, Int.reduceLE, Int.reduceToNat, Int.reduceGT, Int.reduceGE, Int.reduceEq, Int.reducePow, Nat.reducePow, hs, hs2, Ret_eq Try.results90] | simp (disch := omega) only [arith, IntKind.bits, capMax, fill_len, elt_fill] | (with_reducible refine condI_beq (fun hq hqb => ?_) (fun hq hqb => ?_) <;> simp only [KP_mk, hqb]) | (with_reducible refine condI_bne (fun hq hqb => ?_) (fun hq hqb => ?_) <;> simp only [KP_mk, hqb]) | (with_reducible refine condI_dec (fun hq hqb => ?_) (fun hq hqb => ?_) <;> simp only [KP_mk, hqb]) | (with_reducible refine condI_b (fun hqb => ?_) (fun hqb => ?_) <;> simp only [KP_mk, hqb]) | refine RetO_calc Try.results90 ?_ | (refine Again.up (by omega) ?_ ?_) | exact trivial | fail)
            · obtain ⟨o1, o2⟩ := sum_form hQ (.inr fun q => by have := q k hka; omega)
              rw [o1, o2]
            · intro i hi
              by_cases hik : i = k
              · subst hik; omega
              · exact hQ2 i (by omega)
          · obtain rfl : k = code.length := by omega
            have hent := fun i => big_ent (code := code) hQ i
            repeat' (first | simp only [go_sem, Nat.reduceEqDiff, Nat.reduceAdd, Nat.reduceLT, Nat.reduceMul, Nat.reduceSub, ↓reduceIte, reduceCtorEq, Nat.reduceLeDiff, Nat.reduceBEq, Int.reduceBEq, Int.reduceBNe, Int.reduceLT, Int.reduceLE, Int.reduceToNat, Int.reduceGT, Int.reduceGE, Int.reduceEq, Int.reducePow, Nat.reducePow, hs, hs2, h2, Ret_eq Try.results90] | simp (disch := omega) only [arith, IntKind.bits, capMax, fill_len, elt_fill] | (with_reducible refine condI_beq (fun hq hqb => ?_) (fun hq hqb => ?_) <;> simp only [KP_mk, hqb]) | (with_reducible refine condI_bne (fun hq hqb => ?_) (fun hq hqb => ?_) <;> simp only [KP_mk, hqb]) | (with_reducible refine condI_dec (fun hq hqb => ?_) (fun hq hqb => ?_) <;> simp only [KP_mk, hqb]) | (with_reducible refine condI_b (fun hqb => ?_) (fun hqb => ?_) <;> simp only [KP_mk, hqb]) | refine RetO_calc Try.results90 ?_ | (refine Again.up (by omega) ?_ ?_) | exact trivial | fail)
            refine awpI_for code.length (fun k => ∀ i, i < k → 0 ≤ ent t code i) (fun k => [(12, .v (.int .i64 (accR t code k))), (54, .v (.int .i64 k))]) (fun _ => []) [0, 52, 53] [] _ (Weak.refl _) (fun i hi => by omega) ?_ ?_ ?_
            · simp only [go_sem, Nat.reduceEqDiff, Nat.reduceAdd, Nat.reduceLT, Nat.reduceMul, Nat.reduceSub, ↓reduceIte, reduceCtorEq, Nat.reduceLeDiff, Nat.reduceBEq, Int.reduceBEq, Int.reduceBNe, Int.reduceLT, Int.reduceLE, Int.reduceToNat, Int.reduceGT, Int.reduceGE, Int.reduceEq, Int.reducePow, Nat.reducePow, hs2, accR, Ret_eq Try.results90]
            · simp only [go_sem, Nat.reduceEqDiff, Nat.reduceAdd, Nat.reduceLT, Nat.reduceMul, Nat.reduceSub, ↓reduceIte, reduceCtorEq, Nat.reduceLeDiff, Nat.reduceBEq, Int.reduceBEq, Int.reduceBNe, Int.reduceLT, Int.reduceLE, Int.reduceToNat, Int.reduceGT, Int.reduceGE, Int.reduceEq, Int.reducePow, Nat.reducePow, Ret_eq Try.results90]
            · intro k s3 hk3 hQ3 hs3
              simp only [go_sem, Nat.reduceEqDiff, Nat.reduceAdd, Nat.reduceLT, Nat.reduceMul, Nat.reduceSub, ↓reduceIte, reduceCtorEq, Nat.reduceLeDiff, Nat.reduceBEq, Int.reduceBEq, Int.reduceBNe, Int.reduceLT, Int.reduceLE, Int.reduceToNat, Int.reduceGT, Int.reduceGE, Int.reduceEq, Int.reducePow, Nat.reducePow, hs, hs2, Ret_eq Try.results90] at hs3
              by_cases hkb : k < code.length
              · have hx := hc _ (getD_mem (d := 0) hkb)
                have hr := hQ2 k hkb
                obtain ⟨_, q2⟩ := acc_same (t := t) (code := code) k hQ3
                have a1 := accN_bound (t := t) (code := code) (fun i _ => hent i) k hk3
                rw [← q2] at a1
                have a2 := hent k
                have e1 : accR t code (k + 1) = accR t code k + ent t code k := rfl
                have e3 : (t.getD k []).getD (code.getD k 0).toNat 0 = ent t code k := rfl
                clear hent
                repeat' (first | simp only [go_sem, Nat.reduceEqDiff, Nat.reduceAdd, Nat.reduceLT, Nat.reduceMul, Nat.reduceSub, ↓reduceIte, reduceCtorEq, Nat.reduceLeDiff, Nat.reduceBEq, Int.reduceBEq, Int.reduceBNe, Int.reduceLT, Int.reduceLE, Int.reduceToNat, Int.reduceGT, Int.reduceGE, Int.reduceEq, Int.reducePow, Nat.reducePow, hs, hs2, hs3, e3, e1, Ret_eq Try.results90] | simp (disch := omega) only [arith, IntKind.bits, capMax, fill_len, elt_fill] | (with_reducible refine condI_beq (fun hq hqb => ?_) (fun hq hqb => ?_) <;> simp only [KP_mk, hqb]) | (with_reducible refine condI_bne (fun hq hqb => ?_) (fun hq hqb => ?_) <;> simp only [KP_mk, hqb]) | (with_reducible refine condI_dec (fun hq hqb => ?_) (fun hq hqb => ?_) <;> simp only [KP_mk, hqb]) | (with_reducible refine condI_b (fun hqb => ?_) (fun hqb => ?_) <;> simp only [KP_mk, hqb]) | refine RetO_calc Try.results90 ?_ | (refine Again.up (by omega) ?_ ?_) | exact trivial | fail)
                · obtain ⟨o1, o2⟩ := sum_neg hQ ⟨h2, hQ2⟩ (neg_of (i := k) (by assumption) _ hkb)
                  rw [o1, o2]
                · intro i hi
                  by_cases hik : i = k
                  · subst hik; omega
                  · exact hQ3 i (by omega)
              · obtain rfl : k = code.length := by omega
                obtain ⟨q1, q2⟩ := acc_same (t := t) (code := code) code.length hQ3
                obtain ⟨o1, o2⟩ := sum_fine hQ ⟨h2, hQ2⟩ q1
                rw [o1, o2]
                clear hent
                repeat' (first | simp only [go_sem, Nat.reduceEqDiff, Nat.reduceAdd, Nat.reduceLT, Nat.reduceMul, Nat.reduceSub, ↓reduceIte, reduceCtorEq, Nat.reduceLeDiff, Nat.reduceBEq, Int.reduceBEq, Int.reduceBNe, Int.reduceLT, Int.reduceLE, Int.reduceToNat, Int.reduceGT, Int.reduceGE, Int.reduceEq, Int.reducePow, Nat.reducePow, hs, hs2, hs3, q2, Ret_eq Try.results90] | simp (disch := omega) only [arith, IntKind.bits, capMax, fill_len, elt_fill] | (with_reducible refine condI_beq (fun hq hqb => ?_) (fun hq hqb => ?_) <;> simp only [KP_mk, hqb]) | (with_reducible refine condI_bne (fun hq hqb => ?_) (fun hq hqb => ?_) <;> simp only [KP_mk, hqb]) | (with_reducible refine condI_dec (fun hq hqb => ?_) (fun hq hqb => ?_) <;> simp only [KP_mk, hqb]) | (with_reducible refine condI_b (fun hqb => ?_) (fun hqb => ?_) <;> simp only [KP_mk, hqb]) | refine RetO_calc Try.results90 ?_ | (refine Again.up (by omega) ?_ ?_) | exact trivial | fail)
      · obtain ⟨o1, o2⟩ := sum_form hQ (.inl h2)
        rw [o1, o2]
        repeat' (first | simp only [go_sem, Nat.reduceEqDiff, Nat.reduceAdd, Nat.reduceLT, Nat.reduceMul, Nat.reduceSub, ↓reduceIte, reduceCtorEq, Nat.reduceLeDiff, Nat.reduceBEq, Int.reduceBEq, Int.reduceBNe, Int.reduceLT, Int.reduceLE, Int.reduceToNat, Int.reduceGT, Int.reduceGE, Int.reduceEq, Int.reducePow, Nat.reducePow, hs, Ret_eq Try.results90] | simp (disch := omega) only [arith, IntKind.bits, capMax, fill_len, elt_fill] | (with_reducible refine condI_beq (fun hq hqb => ?_) (fun hq hqb => ?_) <;> simp only [KP_mk, hqb]) | (with_reducible refine condI_bne (fun hq hqb => ?_) (fun hq hqb => ?_) <;> simp only [KP_mk, hqb]) | (with_reducible refine condI_dec (fun hq hqb => ?_) (fun hq hqb => ?_) <;> simp only [KP_mk, hqb]) | (with_reducible refine condI_b (fun hqb => ?_) (fun hqb => ?_) <;> simp only [KP_mk, hqb]) | refine RetO_calc Try.results90 ?_ | (refine Again.up (by omega) ?_ ?_) | exact trivial | fail)

theorem gaugeSums_law (t : List (List Int)) (code : List Int) (hc : Octets code) : Fun Try.prog 31 [.lst (rows .i64 t), .lst (ints .u8 code)] fun r => r = .v (.bool true) := by
  refine Fun.of_awpI Try.func31 rfl cal31 Try.ntmps31 (by simp) fun hwf => ?_
  simp only [D.wfs, D.wf, ints_length, ints_wfs, rows_length, rows_wfs, capMax, and_true, true_and] at hwf
  by_cases hg : t.length ≤ 100 ∧ code.length ≤ 100
  · obtain ⟨g1, g2⟩ := hg
    repeat' (first | simp only [go_sem, Nat.reduceEqDiff, Nat.reduceAdd, Nat.reduceLT, Nat.reduceMul, Nat.reduceSub, ↓reduceIte, reduceCtorEq, Nat.reduceLeDiff, Nat.reduceBEq, Int.reduceBEq, Int.reduceBNe, Int.reduceLT, Int.reduceLE, Int.reduceToNat, Int.reduceGT, Int.reduceGE, Int.reduceEq, Int.reducePow, Nat.reducePow, Ret_eq Try.results31] | simp (disch := omega) only [arith, IntKind.bits, capMax, fill_len, elt_fill] | (with_reducible refine condI_beq (fun hq hqb => ?_) (fun hq hqb => ?_) <;> simp only [KP_mk, hqb]) | (with_reducible refine condI_bne (fun hq hqb => ?_) (fun hq hqb => ?_) <;> simp only [KP_mk, hqb]) | (with_reducible refine condI_dec (fun hq hqb => ?_) (fun hq hqb => ?_) <;> simp only [KP_mk, hqb]) | (with_reducible refine condI_b (fun hqb => ?_) (fun hqb => ?_) <;> simp only [KP_mk, hqb]) | refine RetO_calc Try.results31 ?_ | (refine Again.up (by omega) ?_ ?_) | exact trivial | (refine opCallI_rd (by simp only [go_sem, Nat.reduceEqDiff, Nat.reduceAdd, Nat.reduceLT, Nat.reduceMul, Nat.reduceSub, ↓reduceIte, reduceCtorEq, Nat.reduceLeDiff, Nat.reduceBEq, Int.reduceBEq, Int.reduceBNe, Int.reduceLT, Int.reduceLE, Int.reduceToNat, Int.reduceGT, Int.reduceGE, Int.reduceEq, Int.reducePow, Nat.reducePow, Ret_eq Try.results31]; first | done | rfl) (gaugeLive_fun) (by rintro _ rfl; rfl) ?_; rintro _ rfl) | (refine opCallI_gv (by simp only [go_sem, Nat.reduceEqDiff, Nat.reduceAdd, Nat.reduceLT, Nat.reduceMul, Nat.reduceSub, ↓reduceIte, reduceCtorEq, Nat.reduceLeDiff, Nat.reduceBEq, Int.reduceBEq, Int.reduceBNe, Int.reduceLT, Int.reduceLE, Int.reduceToNat, Int.reduceGT, Int.reduceGE, Int.reduceEq, Int.reducePow, Nat.reducePow, Ret_eq Try.results31]; first | done | rfl) (gaugeLive_fun) ?_; rintro _ rfl) | fail)
    refine awpI_for t.length (fun k => True) (fun k => [(26, .v (.int .i64 k))]) (fun _ => []) [0, 1, 5, 24, 25] [] _ (Weak.refl _) trivial ?_ ?_ ?_
    · simp only [go_sem, Nat.reduceEqDiff, Nat.reduceAdd, Nat.reduceLT, Nat.reduceMul, Nat.reduceSub, ↓reduceIte, reduceCtorEq, Nat.reduceLeDiff, Nat.reduceBEq, Int.reduceBEq, Int.reduceBNe, Int.reduceLT, Int.reduceLE, Int.reduceToNat, Int.reduceGT, Int.reduceGE, Int.reduceEq, Int.reducePow, Nat.reducePow, Ret_eq Try.results31]
    · simp only [go_sem, Nat.reduceEqDiff, Nat.reduceAdd, Nat.reduceLT, Nat.reduceMul, Nat.reduceSub, ↓reduceIte, reduceCtorEq, Nat.reduceLeDiff, Nat.reduceBEq, Int.reduceBEq, Int.reduceBNe, Int.reduceLT, Int.reduceLE, Int.reduceToNat, Int.reduceGT, Int.reduceGE, Int.reduceEq, Int.reducePow, Nat.reducePow, Ret_eq Try.results31]
    · intro k s hk _ hs
      simp only [go_sem, Nat.reduceEqDiff, Nat.reduceAdd, Nat.reduceLT, Nat.reduceMul, Nat.reduceSub, ↓reduceIte, reduceCtorEq, Nat.reduceLeDiff, Nat.reduceBEq, Int.reduceBEq, Int.reduceBNe, Int.reduceLT, Int.reduceLE, Int.reduceToNat, Int.reduceGT, Int.reduceGE, Int.reduceEq, Int.reducePow, Nat.reducePow, Ret_eq Try.results31] at hs
      by_cases hka : k < t.length
      · repeat' (first | simp only [go_sem, Nat.reduceEqDiff, Nat.reduceAdd, Nat.reduceLT, Nat.reduceMul, Nat.reduceSub, ↓reduceIte, reduceCtorEq, Nat.reduceLeDiff, Nat.reduceBEq, Int.reduceBEq, Int.reduceBNe, Int.reduceLT, Int.reduceLE, Int.reduceToNat, Int.reduceGT, Int.reduceGE, Int.reduceEq, Int.reducePow, Nat.reducePow, hs, Ret_eq Try.results31] | simp (disch := omega) only [arith, IntKind.bits, capMax, fill_len, elt_fill] | (with_reducible refine condI_beq (fun hq hqb => ?_) (fun hq hqb => ?_) <;> simp only [KP_mk, hqb]) | (with_reducible refine condI_bne (fun hq hqb => ?_) (fun hq hqb => ?_) <;> simp only [KP_mk, hqb]) | (with_reducible refine condI_dec (fun hq hqb => ?_) (fun hq hqb => ?_) <;> simp only [KP_mk, hqb]) | (with_reducible refine condI_b (fun hqb => ?_) (fun hqb => ?_) <;> simp only [KP_mk, hqb]) | refine RetO_calc Try.results31 ?_ | (refine Again.up (by omega) ?_ ?_) | exact trivial | fail)
      · obtain rfl : k = t.length := by omega
        repeat' (first | simp only [go_sem, Nat.reduceEqDiff, Nat.reduceAdd, Nat.reduceLT, Nat.reduceMul, Nat.reduceSub, ↓reduceIte, reduceCtorEq, Nat.reduceLeDiff, Nat.reduceBEq, Int.reduceBEq, Int.reduceBNe, Int.reduceLT, Int.reduceLE, Int.reduceToNat, Int.reduceGT, Int.reduceGE, Int.reduceEq, Int.reducePow, Nat.reducePow, hs, beq_self_eq_true, Ret_eq Try.results31] | simp (disch := omega) only [arith, IntKind.bits, capMax, fill_len, elt_fill] | (with_reducible refine condI_beq (fun hq hqb => ?_) (fun hq hqb => ?_) <;> simp only [KP_mk, hqb]) | (with_reducible refine condI_bne (fun hq hqb => ?_) (fun hq hqb => ?_) <;> simp only [KP_mk, hqb]) | (with_reducible refine condI_dec (fun hq hqb => ?_) (fun hq hqb => ?_) <;> simp only [KP_mk, hqb]) | (with_reducible refine condI_b (fun hqb => ?_) (fun hqb => ?_) <;> simp only [KP_mk, hqb]) | refine RetO_calc Try.results31 ?_ | (refine Again.up (by omega) ?_ ?_) | exact trivial | (refine opCallI_rd (by simp only [go_sem, Nat.reduceEqDiff, Nat.reduceAdd, Nat.reduceLT, Nat.reduceMul, Nat.reduceSub, ↓reduceIte, reduceCtorEq, Nat.reduceLeDiff, Nat.reduceBEq, Int.reduceBEq, Int.reduceBNe, Int.reduceLT, Int.reduceLE, Int.reduceToNat, Int.reduceGT, Int.reduceGE, Int.reduceEq, Int.reducePow, Nat.reducePow, hs, beq_self_eq_true, Ret_eq Try.results31]; first | done | rfl) (sumTab_fun t code hc (by omega)) (by rintro _ rfl; rfl) ?_; rintro _ rfl) | (refine opCallI_gv (by simp only [go_sem, Nat.reduceEqDiff, Nat.reduceAdd, Nat.reduceLT, Nat.reduceMul, Nat.reduceSub, ↓reduceIte, reduceCtorEq, Nat.reduceLeDiff, Nat.reduceBEq, Int.reduceBEq, Int.reduceBNe, Int.reduceLT, Int.reduceLE, Int.reduceToNat, Int.reduceGT, Int.reduceGE, Int.reduceEq, Int.reducePow, Nat.reducePow, hs, beq_self_eq_true, Ret_eq Try.results31]; first | done | rfl) (sumTab_fun t code hc (by omega)) ?_; rintro _ rfl) | (refine opCallI_rd (by simp only [go_sem, Nat.reduceEqDiff, Nat.reduceAdd, Nat.reduceLT, Nat.reduceMul, Nat.reduceSub, ↓reduceIte, reduceCtorEq, Nat.reduceLeDiff, Nat.reduceBEq, Int.reduceBEq, Int.reduceBNe, Int.reduceLT, Int.reduceLE, Int.reduceToNat, Int.reduceGT, Int.reduceGE, Int.reduceEq, Int.reducePow, Nat.reducePow, hs, beq_self_eq_true, Ret_eq Try.results31]; first | done | rfl) (refSumTab_fun t code hc (by omega)) (by rintro _ rfl; rfl) ?_; rintro _ rfl) | (refine opCallI_gv (by simp only [go_sem, Nat.reduceEqDiff, Nat.reduceAdd, Nat.reduceLT, Nat.reduceMul, Nat.reduceSub, ↓reduceIte, reduceCtorEq, Nat.reduceLeDiff, Nat.reduceBEq, Int.reduceBEq, Int.reduceBNe, Int.reduceLT, Int.reduceLE, Int.reduceToNat, Int.reduceGT, Int.reduceGE, Int.reduceEq, Int.reducePow, Nat.reducePow, hs, beq_self_eq_true, Ret_eq Try.results31]; first | done | rfl) (refSumTab_fun t code hc (by omega)) ?_; rintro _ rfl) | fail)
  · repeat' (first | simp only [go_sem, Nat.reduceEqDiff, Nat.reduceAdd, Nat.reduceLT, Nat.reduceMul, Nat.reduceSub, ↓reduceIte, reduceCtorEq, Nat.reduceLeDiff, Nat.reduceBEq, Int.reduceBEq, Int.reduceBNe, Int.reduceLT, Int.reduceLE, Int.reduceToNat, Int.reduceGT, Int.reduceGE, Int.reduceEq, Int.reducePow, Nat.reducePow, Ret_eq Try.results31] | simp (disch := omega) only [arith, IntKind.bits, capMax, fill_len, elt_fill] | (with_reducible refine condI_beq (fun hq hqb => ?_) (fun hq hqb => ?_) <;> simp only [KP_mk, hqb]) | (with_reducible refine condI_bne (fun hq hqb => ?_) (fun hq hqb => ?_) <;> simp only [KP_mk, hqb]) | (with_reducible refine condI_dec (fun hq hqb => ?_) (fun hq hqb => ?_) <;> simp only [KP_mk, hqb]) | (with_reducible refine condI_b (fun hqb => ?_) (fun hqb => ?_) <;> simp only [KP_mk, hqb]) | refine RetO_calc Try.results31 ?_ | (refine Again.up (by omega) ?_ ?_) | exact trivial | (refine opCallI_rd (by simp only [go_sem, Nat.reduceEqDiff, Nat.reduceAdd, Nat.reduceLT, Nat.reduceMul, Nat.reduceSub, ↓reduceIte, reduceCtorEq, Nat.reduceLeDiff, Nat.reduceBEq, Int.reduceBEq, Int.reduceBNe, Int.reduceLT, Int.reduceLE, Int.reduceToNat, Int.reduceGT, Int.reduceGE, Int.reduceEq, Int.reducePow, Nat.reducePow, Ret_eq Try.results31]; first | done | rfl) (gaugeLive_fun) (by rintro _ rfl; rfl) ?_; rintro _ rfl) | (refine opCallI_gv (by simp only [go_sem, Nat.reduceEqDiff, Nat.reduceAdd, Nat.reduceLT, Nat.reduceMul, Nat.reduceSub, ↓reduceIte, reduceCtorEq, Nat.reduceLeDiff, Nat.reduceBEq, Int.reduceBEq, Int.reduceBNe, Int.reduceLT, Int.reduceLE, Int.reduceToNat, Int.reduceGT, Int.reduceGE, Int.reduceEq, Int.reducePow, Nat.reducePow, Ret_eq Try.results31]; first | done | rfl) (gaugeLive_fun) ?_; rintro _ rfl) | fail)
    all_goals omega
end Go.Proofs.Ytfmeiapglpphpaa.T
