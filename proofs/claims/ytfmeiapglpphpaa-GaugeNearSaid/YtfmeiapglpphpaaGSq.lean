import Derived.Test.YtfmeiapglpphpaaGPlace
set_option linter.unusedSimpArgs false
set_option linter.unusedVariables false
/- The least and the greatest distance, walked. -/
namespace Go.Proofs.Ytfmeiapglpphpaa.T
open Go Go.VL Go.Proofs
set_option maxRecDepth 100000
set_option maxHeartbeats 4000000
def ruleP (ρ : Int → Int → Int → Int) (p : Place) : Int := ρ p.1 p.2.1 p.2.2
def sqP (ρ : Int → Int → Int → Int) (l : List Place) : Nat → Int
  | 0 => 0
  | k + 1 => sqP ρ l k + ruleP ρ (l.getD k (0, 0, 0)) * ruleP ρ (l.getD k (0, 0, 0))
def PlaceOk (p : Place) : Prop := (-32768 ≤ p.1 ∧ p.1 ≤ 32767) ∧ (-32768 ≤ p.2.1 ∧ p.2.1 ≤ 32767) ∧ (-32768 ≤ p.2.2 ∧ p.2.2 ≤ 32767)
theorem places_ok {w : Int} {cuts : List (List Int)} {code q : List Int} (hc : Octets code) (hq : I16s q) (hr : I16r cuts) : (placesOut w cuts code q).length ≤ 64 ∧ ∀ p ∈ placesOut w cuts code q, PlaceOk p := by
  unfold placesOut
  split
  · rename_i h
    obtain ⟨e1, e2, e3⟩ := gauge_ok hc h
    obtain ⟨b1, b2, b3⟩ := codeErr_zero.1 e1
    have hqt := (turnL_ok hq (vecErr_zero.1 b2) w.toNat).2
    have hul := turnL_length (v := q) (w := w.toNat)
    have hq64 := (vecOk_iff.1 (vecErr_zero.1 b2)).2.1
    refine ⟨by rw [placesL_length]; omega, fun p hp => ?_⟩
    obtain ⟨i, hi, rfl⟩ := List.mem_map.1 hp
    rw [List.mem_range] at hi
    have := box_range hr (box_facts hc e2) (i := i) (by omega)
    exact ⟨hqt.getD i, by show -32768 ≤ (boxL cuts code).getD i 0 ∧ (boxL cuts code).getD i 0 ≤ 32767; omega, by show -32768 ≤ (boxH cuts code).getD i 0 ∧ (boxH cuts code).getD i 0 ≤ 32767; omega⟩
  · exact ⟨by simp, fun p hp => by cases hp⟩
theorem sqP_bound {ρ : Int → Int → Int → Int} {l : List Place} (h : ∀ k, k < l.length → 0 ≤ ruleP ρ (l.getD k (0, 0, 0)) ∧ ruleP ρ (l.getD k (0, 0, 0)) ≤ 65536) : ∀ k, k ≤ l.length → 0 ≤ sqP ρ l k ∧ sqP ρ l k ≤ k * 4294967296
  | 0, _ => by simp [sqP]
  | k + 1, hk => by
    have ih := sqP_bound h k (by omega)
    obtain ⟨h1, h2⟩ := h k (by omega)
    have h3 : 0 ≤ ruleP ρ (l.getD k (0, 0, 0)) * ruleP ρ (l.getD k (0, 0, 0)) := Int.mul_nonneg h1 h1
    have h4 : ruleP ρ (l.getD k (0, 0, 0)) * ruleP ρ (l.getD k (0, 0, 0)) ≤ 65536 * 65536 := Int.mul_le_mul h2 h2 h1 (by omega)
    rw [sqP]
    omega

theorem squares_fun (w : Int) (cuts : List (List Int)) (code q : List Int) (hc : Octets code) (hq : I16s q) (hr : I16r cuts) (g : FuncId) (ρ : Int → Int → Int → Int)
    (hρ : ∀ p, PlaceOk p → 0 ≤ ruleP ρ p ∧ ruleP ρ p ≤ 65536) (hg : ∀ x lo hi, (-32768 ≤ x ∧ x ≤ 32768) → (-32768 ≤ lo ∧ lo ≤ 32768) → (-32768 ≤ hi ∧ hi ≤ 32768) → Fun Try.prog g [.agg [.v (.int .i64 x), .v (.int .i64 lo), .v (.int .i64 hi)]] fun r => r = .v (.int .i64 (ρ x lo hi))) :
    Fun Try.prog 136 [.agg [.v (.int .i64 w), .lst (rows .i16 cuts)], .lst (ints .u8 code), .lst (ints .i16 q), .clos (.func g) []] fun r =>
      r = .tup [.v (.int .i64 (sqP ρ (placesOut w cuts code q) (placesOut w cuts code q).length)), .v (.int .i64 (gaugeErr w cuts code q))] := by
  refine Fun.of_awpI Try.func136 rfl cal136 Try.ntmps136 (by simp) fun hwf => ?_
  simp only [D.wfs, D.wf, ints_length, ints_wfs, rows_length, rows_wfs, capMax, and_true, true_and] at hwf
  obtain ⟨hl, hok⟩ := places_ok (w := w) hc hq hr
  have hpl := places_fun w cuts code q hc hq hr
  generalize placesOut w cuts code q = l at *
  have hb : ∀ k, k < l.length → 0 ≤ ruleP ρ (l.getD k (0, 0, 0)) ∧ ruleP ρ (l.getD k (0, 0, 0)) ≤ 65536 := fun k hk => hρ _ (hok _ (getD_mem hk))
  have hsb := sqP_bound hb
  repeat' (first | simp only [go_sem, Nat.reduceEqDiff, Nat.reduceAdd, Nat.reduceLT, Nat.reduceMul, Nat.reduceSub, ↓reduceIte, reduceCtorEq, Nat.reduceLeDiff, Nat.reduceBEq, Int.reduceBEq, Int.reduceBNe, Int.reduceLT, Int.reduceLE, Int.reduceToNat, Int.reduceGT, Int.reduceGE, Int.reduceEq, Int.reducePow, Nat.reducePow, Ret_eq Try.results136] | simp (disch := omega) only [arith, IntKind.bits, capMax, fill_len, elt_fill] | (with_reducible refine condI_beq (fun hq hqb => ?_) (fun hq hqb => ?_) <;> simp only [KP_mk, hqb]) | (with_reducible refine condI_bne (fun hq hqb => ?_) (fun hq hqb => ?_) <;> simp only [KP_mk, hqb]) | (with_reducible refine condI_dec (fun hq hqb => ?_) (fun hq hqb => ?_) <;> simp only [KP_mk, hqb]) | (with_reducible refine condI_b (fun hqb => ?_) (fun hqb => ?_) <;> simp only [KP_mk, hqb]) | refine RetO_calc Try.results136 ?_ | (refine awpI_draw2 (id := 5) (.one false 1 (.one false 2 (.cal 4 [3] (.cal 5 [3] (.cal 0 [3, 6] (.only 3 (.only 6 (.one false 7 (.one false 8 (.one false 9 .done)))))))))) mixed (by decide +kernel) (by decide +kernel) ?_) | (refine Again.up (by omega) ?_ ?_) | exact trivial | (refine opCallI_rd (by simp only [go_sem, Nat.reduceEqDiff, Nat.reduceAdd, Nat.reduceLT, Nat.reduceMul, Nat.reduceSub, ↓reduceIte, reduceCtorEq, Nat.reduceLeDiff, Nat.reduceBEq, Int.reduceBEq, Int.reduceBNe, Int.reduceLT, Int.reduceLE, Int.reduceToNat, Int.reduceGT, Int.reduceGE, Int.reduceEq, Int.reducePow, Nat.reducePow, Ret_eq Try.results136]; first | done | rfl) (hpl) (by rintro _ rfl; rfl) ?_; rintro _ rfl) | (refine opCallI_gv (by simp only [go_sem, Nat.reduceEqDiff, Nat.reduceAdd, Nat.reduceLT, Nat.reduceMul, Nat.reduceSub, ↓reduceIte, reduceCtorEq, Nat.reduceLeDiff, Nat.reduceBEq, Int.reduceBEq, Int.reduceBNe, Int.reduceLT, Int.reduceLE, Int.reduceToNat, Int.reduceGT, Int.reduceGE, Int.reduceEq, Int.reducePow, Nat.reducePow, Ret_eq Try.results136]; first | done | rfl) (hpl) ?_; rintro _ rfl) | fail)
  refine awpI_for l.length (fun k => True) (fun k => [(8, .v (.int .i64 (sqP ρ l k))), (23, .v (.int .i64 k))]) (fun _ => []) [3, 11, 21, 22] [] _ (Weak.refl _) trivial ?_ ?_ ?_
  · simp only [go_sem, Nat.reduceEqDiff, Nat.reduceAdd, Nat.reduceLT, Nat.reduceMul, Nat.reduceSub, ↓reduceIte, reduceCtorEq, Nat.reduceLeDiff, Nat.reduceBEq, Int.reduceBEq, Int.reduceBNe, Int.reduceLT, Int.reduceLE, Int.reduceToNat, Int.reduceGT, Int.reduceGE, Int.reduceEq, Int.reducePow, Nat.reducePow, sqP, Ret_eq Try.results136]
  · simp only [go_sem, Nat.reduceEqDiff, Nat.reduceAdd, Nat.reduceLT, Nat.reduceMul, Nat.reduceSub, ↓reduceIte, reduceCtorEq, Nat.reduceLeDiff, Nat.reduceBEq, Int.reduceBEq, Int.reduceBNe, Int.reduceLT, Int.reduceLE, Int.reduceToNat, Int.reduceGT, Int.reduceGE, Int.reduceEq, Int.reducePow, Nat.reducePow, Ret_eq Try.results136]
  · intro k s hk _ hs
    simp only [go_sem, Nat.reduceEqDiff, Nat.reduceAdd, Nat.reduceLT, Nat.reduceMul, Nat.reduceSub, ↓reduceIte, reduceCtorEq, Nat.reduceLeDiff, Nat.reduceBEq, Int.reduceBEq, Int.reduceBNe, Int.reduceLT, Int.reduceLE, Int.reduceToNat, Int.reduceGT, Int.reduceGE, Int.reduceEq, Int.reducePow, Nat.reducePow, Ret_eq Try.results136] at hs
    by_cases hka : k < l.length
    · have b1 := hsb k hk
      obtain ⟨b2, b3⟩ := hb k hka
      obtain ⟨o1, o2, o3⟩ := hok _ (getD_mem (d := ((0, 0, 0) : Place)) hka)
      have e : sqP ρ l (k + 1) = sqP ρ l k + ruleP ρ (l.getD k (0, 0, 0)) * ruleP ρ (l.getD k (0, 0, 0)) := rfl
      have h3 : 0 ≤ ruleP ρ (l.getD k (0, 0, 0)) * ruleP ρ (l.getD k (0, 0, 0)) := Int.mul_nonneg b2 b2
      have h4 : ruleP ρ (l.getD k (0, 0, 0)) * ruleP ρ (l.getD k (0, 0, 0)) ≤ 65536 * 65536 := Int.mul_le_mul b3 b3 b2 (by omega)
      have hgk := hg (l.getD k (0, 0, 0)).1 (l.getD k (0, 0, 0)).2.1 (l.getD k (0, 0, 0)).2.2 (by omega) (by omega) (by omega)
      rw [show ρ (l.getD k (0, 0, 0)).1 (l.getD k (0, 0, 0)).2.1 (l.getD k (0, 0, 0)).2.2 = ruleP ρ (l.getD k (0, 0, 0)) from rfl] at hgk
      clear hsb hb hok hpl hg hρ
      generalize sqP ρ l k = S at *
      generalize ruleP ρ (l.getD k (0, 0, 0)) = R at *
      generalize hRR : R * R = RR at *
      repeat' (first | simp only [go_sem, Nat.reduceEqDiff, Nat.reduceAdd, Nat.reduceLT, Nat.reduceMul, Nat.reduceSub, ↓reduceIte, reduceCtorEq, Nat.reduceLeDiff, Nat.reduceBEq, Int.reduceBEq, Int.reduceBNe, Int.reduceLT, Int.reduceLE, Int.reduceToNat, Int.reduceGT, Int.reduceGE, Int.reduceEq, Int.reducePow, Nat.reducePow, hs, Ret_eq Try.results136] | simp (disch := omega) only [arith, IntKind.bits, capMax, fill_len, elt_fill, place_get] | (with_reducible refine condI_beq (fun hq hqb => ?_) (fun hq hqb => ?_) <;> simp only [KP_mk, hqb]) | (with_reducible refine condI_bne (fun hq hqb => ?_) (fun hq hqb => ?_) <;> simp only [KP_mk, hqb]) | (with_reducible refine condI_dec (fun hq hqb => ?_) (fun hq hqb => ?_) <;> simp only [KP_mk, hqb]) | (with_reducible refine condI_b (fun hqb => ?_) (fun hqb => ?_) <;> simp only [KP_mk, hqb]) | refine RetO_calc Try.results136 ?_ | (refine awpI_draw2 (id := 5) (.one false 1 (.one false 2 (.cal 4 [3] (.cal 5 [3] (.cal 0 [3, 6] (.only 3 (.only 6 (.one false 7 (.one false 8 (.one false 9 .done)))))))))) mixed (by decide +kernel) (by decide +kernel) ?_) | (refine Again.up (by omega) ?_ ?_) | exact trivial | (refine opCallI_rd (by simp only [go_sem, Nat.reduceEqDiff, Nat.reduceAdd, Nat.reduceLT, Nat.reduceMul, Nat.reduceSub, ↓reduceIte, reduceCtorEq, Nat.reduceLeDiff, Nat.reduceBEq, Int.reduceBEq, Int.reduceBNe, Int.reduceLT, Int.reduceLE, Int.reduceToNat, Int.reduceGT, Int.reduceGE, Int.reduceEq, Int.reducePow, Nat.reducePow, hs, Ret_eq Try.results136]; first | done | rfl) (hgk) (by rintro _ rfl; rfl) ?_; rintro _ rfl) | (refine opCallI_gv (by simp only [go_sem, Nat.reduceEqDiff, Nat.reduceAdd, Nat.reduceLT, Nat.reduceMul, Nat.reduceSub, ↓reduceIte, reduceCtorEq, Nat.reduceLeDiff, Nat.reduceBEq, Int.reduceBEq, Int.reduceBNe, Int.reduceLT, Int.reduceLE, Int.reduceToNat, Int.reduceGT, Int.reduceGE, Int.reduceEq, Int.reducePow, Nat.reducePow, hs, Ret_eq Try.results136]; first | done | rfl) (hgk) ?_; rintro _ rfl) | fail)
      rw [hRR]; exact e.symm
    · obtain rfl : k = l.length := by omega
      clear hsb hb hok hpl hg hρ
      repeat' (first | simp only [go_sem, Nat.reduceEqDiff, Nat.reduceAdd, Nat.reduceLT, Nat.reduceMul, Nat.reduceSub, ↓reduceIte, reduceCtorEq, Nat.reduceLeDiff, Nat.reduceBEq, Int.reduceBEq, Int.reduceBNe, Int.reduceLT, Int.reduceLE, Int.reduceToNat, Int.reduceGT, Int.reduceGE, Int.reduceEq, Int.reducePow, Nat.reducePow, hs, Ret_eq Try.results136] | simp (disch := omega) only [arith, IntKind.bits, capMax, fill_len, elt_fill] | (with_reducible refine condI_beq (fun hq hqb => ?_) (fun hq hqb => ?_) <;> simp only [KP_mk, hqb]) | (with_reducible refine condI_bne (fun hq hqb => ?_) (fun hq hqb => ?_) <;> simp only [KP_mk, hqb]) | (with_reducible refine condI_dec (fun hq hqb => ?_) (fun hq hqb => ?_) <;> simp only [KP_mk, hqb]) | (with_reducible refine condI_b (fun hqb => ?_) (fun hqb => ?_) <;> simp only [KP_mk, hqb]) | refine RetO_calc Try.results136 ?_ | (refine awpI_draw2 (id := 5) (.one false 1 (.one false 2 (.cal 4 [3] (.cal 5 [3] (.cal 0 [3, 6] (.only 3 (.only 6 (.one false 7 (.one false 8 (.one false 9 .done)))))))))) mixed (by decide +kernel) (by decide +kernel) ?_) | (refine Again.up (by omega) ?_ ?_) | exact trivial | fail)
theorem far_range {p : Place} (h : PlaceOk p) : 0 ≤ ruleP far p ∧ ruleP far p ≤ 65536 := by
  obtain ⟨h1, h2, h3⟩ := h
  unfold ruleP far mx
  repeat' split
  all_goals omega
theorem most_range {p : Place} (h : PlaceOk p) : 0 ≤ ruleP most p ∧ ruleP most p ≤ 65536 := by
  obtain ⟨h1, h2, h3⟩ := h
  unfold ruleP most mx
  repeat' split
  all_goals omega
def gLow (w : Int) (cuts : List (List Int)) (code q : List Int) : Int := sqP far (placesOut w cuts code q) (placesOut w cuts code q).length
def gHigh (w : Int) (cuts : List (List Int)) (code q : List Int) : Int := sqP most (placesOut w cuts code q) (placesOut w cuts code q).length

theorem low_fun (w : Int) (cuts : List (List Int)) (code q : List Int) (hc : Octets code) (hq : I16s q) (hr : I16r cuts) : Fun Try.prog 87 [.agg [.v (.int .i64 w), .lst (rows .i16 cuts)], .lst (ints .u8 code), .lst (ints .i16 q)] fun r =>
    r = .tup [.v (.int .i64 (gLow w cuts code q)), .v (.int .i64 (gaugeErr w cuts code q))] := by
  refine Fun.of_awpI Try.func87 rfl cal87 Try.ntmps87 (by simp) fun hwf => ?_
  simp only [D.wfs, D.wf, ints_length, ints_wfs, rows_length, rows_wfs, capMax, and_true, true_and] at hwf
  have h := squares_fun w cuts code q hc hq hr 137 far (fun p hp => far_range hp) far_fun
  repeat' (first | simp only [go_sem, Nat.reduceEqDiff, Nat.reduceAdd, Nat.reduceLT, Nat.reduceMul, Nat.reduceSub, ↓reduceIte, reduceCtorEq, Nat.reduceLeDiff, Nat.reduceBEq, Int.reduceBEq, Int.reduceBNe, Int.reduceLT, Int.reduceLE, Int.reduceToNat, Int.reduceGT, Int.reduceGE, Int.reduceEq, Int.reducePow, Nat.reducePow, Ret_eq Try.results87] | simp (disch := omega) only [arith, IntKind.bits, capMax, fill_len, elt_fill] | (with_reducible refine condI_beq (fun hq hqb => ?_) (fun hq hqb => ?_) <;> simp only [KP_mk, hqb]) | (with_reducible refine condI_bne (fun hq hqb => ?_) (fun hq hqb => ?_) <;> simp only [KP_mk, hqb]) | (with_reducible refine condI_dec (fun hq hqb => ?_) (fun hq hqb => ?_) <;> simp only [KP_mk, hqb]) | (with_reducible refine condI_b (fun hqb => ?_) (fun hqb => ?_) <;> simp only [KP_mk, hqb]) | refine RetO_calc Try.results87 ?_ | (refine Again.up (by omega) ?_ ?_) | exact trivial | (refine opCallI_rd (by simp only [go_sem, Nat.reduceEqDiff, Nat.reduceAdd, Nat.reduceLT, Nat.reduceMul, Nat.reduceSub, ↓reduceIte, reduceCtorEq, Nat.reduceLeDiff, Nat.reduceBEq, Int.reduceBEq, Int.reduceBNe, Int.reduceLT, Int.reduceLE, Int.reduceToNat, Int.reduceGT, Int.reduceGE, Int.reduceEq, Int.reducePow, Nat.reducePow, Ret_eq Try.results87]; first | done | rfl) (h) (by rintro _ rfl; rfl) ?_; rintro _ rfl) | (refine opCallI_gv (by simp only [go_sem, Nat.reduceEqDiff, Nat.reduceAdd, Nat.reduceLT, Nat.reduceMul, Nat.reduceSub, ↓reduceIte, reduceCtorEq, Nat.reduceLeDiff, Nat.reduceBEq, Int.reduceBEq, Int.reduceBNe, Int.reduceLT, Int.reduceLE, Int.reduceToNat, Int.reduceGT, Int.reduceGE, Int.reduceEq, Int.reducePow, Nat.reducePow, Ret_eq Try.results87]; first | done | rfl) (h) ?_; rintro _ rfl) | fail)
  rfl

theorem high_fun (w : Int) (cuts : List (List Int)) (code q : List Int) (hc : Octets code) (hq : I16s q) (hr : I16r cuts) : Fun Try.prog 88 [.agg [.v (.int .i64 w), .lst (rows .i16 cuts)], .lst (ints .u8 code), .lst (ints .i16 q)] fun r =>
    r = .tup [.v (.int .i64 (gHigh w cuts code q)), .v (.int .i64 (gaugeErr w cuts code q))] := by
  refine Fun.of_awpI Try.func88 rfl cal88 Try.ntmps88 (by simp) fun hwf => ?_
  simp only [D.wfs, D.wf, ints_length, ints_wfs, rows_length, rows_wfs, capMax, and_true, true_and] at hwf
  have h := squares_fun w cuts code q hc hq hr 138 most (fun p hp => most_range hp) most_fun
  repeat' (first | simp only [go_sem, Nat.reduceEqDiff, Nat.reduceAdd, Nat.reduceLT, Nat.reduceMul, Nat.reduceSub, ↓reduceIte, reduceCtorEq, Nat.reduceLeDiff, Nat.reduceBEq, Int.reduceBEq, Int.reduceBNe, Int.reduceLT, Int.reduceLE, Int.reduceToNat, Int.reduceGT, Int.reduceGE, Int.reduceEq, Int.reducePow, Nat.reducePow, Ret_eq Try.results88] | simp (disch := omega) only [arith, IntKind.bits, capMax, fill_len, elt_fill] | (with_reducible refine condI_beq (fun hq hqb => ?_) (fun hq hqb => ?_) <;> simp only [KP_mk, hqb]) | (with_reducible refine condI_bne (fun hq hqb => ?_) (fun hq hqb => ?_) <;> simp only [KP_mk, hqb]) | (with_reducible refine condI_dec (fun hq hqb => ?_) (fun hq hqb => ?_) <;> simp only [KP_mk, hqb]) | (with_reducible refine condI_b (fun hqb => ?_) (fun hqb => ?_) <;> simp only [KP_mk, hqb]) | refine RetO_calc Try.results88 ?_ | (refine Again.up (by omega) ?_ ?_) | exact trivial | (refine opCallI_rd (by simp only [go_sem, Nat.reduceEqDiff, Nat.reduceAdd, Nat.reduceLT, Nat.reduceMul, Nat.reduceSub, ↓reduceIte, reduceCtorEq, Nat.reduceLeDiff, Nat.reduceBEq, Int.reduceBEq, Int.reduceBNe, Int.reduceLT, Int.reduceLE, Int.reduceToNat, Int.reduceGT, Int.reduceGE, Int.reduceEq, Int.reducePow, Nat.reducePow, Ret_eq Try.results88]; first | done | rfl) (h) (by rintro _ rfl; rfl) ?_; rintro _ rfl) | (refine opCallI_gv (by simp only [go_sem, Nat.reduceEqDiff, Nat.reduceAdd, Nat.reduceLT, Nat.reduceMul, Nat.reduceSub, ↓reduceIte, reduceCtorEq, Nat.reduceLeDiff, Nat.reduceBEq, Int.reduceBEq, Int.reduceBNe, Int.reduceLT, Int.reduceLE, Int.reduceToNat, Int.reduceGT, Int.reduceGE, Int.reduceEq, Int.reducePow, Nat.reducePow, Ret_eq Try.results88]; first | done | rfl) (h) ?_; rintro _ rfl) | fail)
  rfl
end Go.Proofs.Ytfmeiapglpphpaa.T
