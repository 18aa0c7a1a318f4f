import Derived.Test.YtfmeiapglpphpaaQCode
set_option linter.unusedSimpArgs false
set_option linter.unusedVariables false
/- Boxes, walked. -/
namespace Go.Proofs.Ytfmeiapglpphpaa.T
open Go Go.VL Go.Proofs
set_option maxRecDepth 100000
set_option maxHeartbeats 4000000
def lowAt (cuts : List (List Int)) (code : List Int) (i : Nat) : Int := spanLow (cuts.getD i []) (code.getD i 0)
def highAt (cuts : List (List Int)) (code : List Int) (i : Nat) : Int := spanHigh (cuts.getD i []) (code.getD i 0)
def boxL (cuts : List (List Int)) (code : List Int) : List Int := (List.range code.length).map (lowAt cuts code)
def boxH (cuts : List (List Int)) (code : List Int) : List Int := (List.range code.length).map (highAt cuts code)
def boxLow (w : Int) (cuts : List (List Int)) (code : List Int) : List Int := if boxErr w cuts code = 0 then boxL cuts code else []
def boxHigh (w : Int) (cuts : List (List Int)) (code : List Int) : List Int := if boxErr w cuts code = 0 then boxH cuts code else []
theorem fill_map {f : Nat → Int} {n : Nat} : fill f (List.replicate n 0) n = (List.range n).map f := by
  have := fill_all (f := f) (a := List.replicate n 0)
  rw [List.length_replicate] at this
  exact this
theorem box_bad {w : Int} {cuts : List (List Int)} {code : List Int} {e : Int} (h : boxErr w cuts code = e) (he : e ≠ 0) : boxLow w cuts code = [] ∧ boxHigh w cuts code = [] := by
  unfold boxLow boxHigh
  rw [h, if_neg he, if_neg he]; exact ⟨rfl, rfl⟩
theorem box_ok {w : Int} {cuts : List (List Int)} {code : List Int} (h : boxErr w cuts code = 0) : boxLow w cuts code = boxL cuts code ∧ boxHigh w cuts code = boxH cuts code := by
  unfold boxLow boxHigh
  rw [if_pos h, if_pos h]; exact ⟨rfl, rfl⟩
theorem span_or {c : List Int} {n : Int} (h : cutsErr c = 0) (h1 : 0 ≤ n) (h2 : n ≤ c.length) : spanErr c n = 0 ∨ spanErr c n = 5 := by
  rw [span_ok h h1 h2]; split <;> simp

theorem box_fun (w : Int) (cuts : List (List Int)) (code : List Int) (hc : Octets code) (hr : I16r cuts) : Fun Try.prog 78 [.agg [.v (.int .i64 w), .lst (rows .i16 cuts)], .lst (ints .u8 code)] fun r =>
    r = .tup [.lst (ints .i16 (boxLow w cuts code)), .lst (ints .i16 (boxHigh w cuts code)), .v (.int .i64 (boxErr w cuts code))] := by
  refine Fun.of_awpI Try.func78 rfl cal78 Try.ntmps78 (by simp) fun hwf => ?_
  simp only [D.wfs, D.wf, ints_length, ints_wfs, rows_length, rows_wfs, capMax, and_true, true_and] at hwf
  by_cases h : bookErr w cuts = 0
  · obtain ⟨b1, b2, b3, _⟩ := bookErr_zero.1 h
    have hrows := book_rows h
    have hmany := book_many h
    by_cases hf : formOk cuts code
    · have hfd := decide_eq_true hf
      have hlen := hf.1
      repeat' (first | simp only [go_sem, Nat.reduceEqDiff, Nat.reduceAdd, Nat.reduceLT, Nat.reduceMul, Nat.reduceSub, ↓reduceIte, reduceCtorEq, Nat.reduceLeDiff, Nat.reduceBEq, Int.reduceBEq, Int.reduceBNe, Int.reduceLT, Int.reduceLE, Int.reduceToNat, Int.reduceGT, Int.reduceGE, Int.reduceEq, Int.reducePow, Nat.reducePow, h, hfd, Ret_eq Try.results78] | simp (disch := omega) only [arith, IntKind.bits, capMax, fill_len, elt_fill] | (with_reducible refine condI_beq (fun hq hqb => ?_) (fun hq hqb => ?_) <;> simp only [KP_mk, hqb]) | (with_reducible refine condI_bne (fun hq hqb => ?_) (fun hq hqb => ?_) <;> simp only [KP_mk, hqb]) | (with_reducible refine condI_dec (fun hq hqb => ?_) (fun hq hqb => ?_) <;> simp only [KP_mk, hqb]) | (with_reducible refine condI_b (fun hqb => ?_) (fun hqb => ?_) <;> simp only [KP_mk, hqb]) | refine RetO_calc Try.results78 ?_ | (refine awpI_draw2 (id := 6) (.one true 0 (.one true 1 (.cal 3 [2] (.cal 4 [2] (.two 2 5 (.cal 6 [5] (.only 5 (.one false 7 .done))) (.only 2 (.one false 6 (.one false 7 .done)))))))) mixed (by decide +kernel) (by decide +kernel) ?_) | (refine sch2I_two ?_ ?_) | (refine Again.up (by omega) ?_ ?_) | exact trivial | (refine opCallI_rd (by simp only [go_sem, Nat.reduceEqDiff, Nat.reduceAdd, Nat.reduceLT, Nat.reduceMul, Nat.reduceSub, ↓reduceIte, reduceCtorEq, Nat.reduceLeDiff, Nat.reduceBEq, Int.reduceBEq, Int.reduceBNe, Int.reduceLT, Int.reduceLE, Int.reduceToNat, Int.reduceGT, Int.reduceGE, Int.reduceEq, Int.reducePow, Nat.reducePow, h, hfd, Ret_eq Try.results78]; first | done | rfl) (quantCheck_fun w cuts) (by rintro _ rfl; rfl) ?_; rintro _ rfl) | (refine opCallI_gv (by simp only [go_sem, Nat.reduceEqDiff, Nat.reduceAdd, Nat.reduceLT, Nat.reduceMul, Nat.reduceSub, ↓reduceIte, reduceCtorEq, Nat.reduceLeDiff, Nat.reduceBEq, Int.reduceBEq, Int.reduceBNe, Int.reduceLT, Int.reduceLE, Int.reduceToNat, Int.reduceGT, Int.reduceGE, Int.reduceEq, Int.reducePow, Nat.reducePow, h, hfd, Ret_eq Try.results78]; first | done | rfl) (quantCheck_fun w cuts) ?_; rintro _ rfl) | (refine opCallI_rd (by simp only [go_sem, Nat.reduceEqDiff, Nat.reduceAdd, Nat.reduceLT, Nat.reduceMul, Nat.reduceSub, ↓reduceIte, reduceCtorEq, Nat.reduceLeDiff, Nat.reduceBEq, Int.reduceBEq, Int.reduceBNe, Int.reduceLT, Int.reduceLE, Int.reduceToNat, Int.reduceGT, Int.reduceGE, Int.reduceEq, Int.reducePow, Nat.reducePow, h, hfd, Ret_eq Try.results78]; first | done | rfl) (form_fun w cuts code b1 hc) (by rintro _ rfl; rfl) ?_; rintro _ rfl) | (refine opCallI_gv (by simp only [go_sem, Nat.reduceEqDiff, Nat.reduceAdd, Nat.reduceLT, Nat.reduceMul, Nat.reduceSub, ↓reduceIte, reduceCtorEq, Nat.reduceLeDiff, Nat.reduceBEq, Int.reduceBEq, Int.reduceBNe, Int.reduceLT, Int.reduceLE, Int.reduceToNat, Int.reduceGT, Int.reduceGE, Int.reduceEq, Int.reducePow, Nat.reducePow, h, hfd, Ret_eq Try.results78]; first | done | rfl) (form_fun w cuts code b1 hc) ?_; rintro _ rfl) | fail)
      all_goals skip
      · skip
        refine awpI_for code.length (fun k => ∀ i, i < k → spanErr (cuts.getD i []) (code.getD i 0) = 0) (fun k => [(4, .ref 20 code.length), (5, .ref 23 code.length), (26, .v (.int .i64 k))])
          (fun k => [(20, ⟨48, 1, ints .i16 (fill (lowAt cuts code) (List.replicate code.length 0) k)⟩), (23, ⟨48, 1, ints .i16 (fill (highAt cuts code) (List.replicate code.length 0) k)⟩)]) [2, 24, 25] [2] _ (Weak.refl _) (fun i hi => by omega) ?_ ?_ ?_
        · simp only [go_sem, Nat.reduceEqDiff, Nat.reduceAdd, Nat.reduceLT, Nat.reduceMul, Nat.reduceSub, ↓reduceIte, reduceCtorEq, Nat.reduceLeDiff, Nat.reduceBEq, Int.reduceBEq, Int.reduceBNe, Int.reduceLT, Int.reduceLE, Int.reduceToNat, Int.reduceGT, Int.reduceGE, Int.reduceEq, Int.reducePow, Nat.reducePow, Ret_eq Try.results78]
        · simp only [go_sem, Nat.reduceEqDiff, Nat.reduceAdd, Nat.reduceLT, Nat.reduceMul, Nat.reduceSub, ↓reduceIte, reduceCtorEq, Nat.reduceLeDiff, Nat.reduceBEq, Int.reduceBEq, Int.reduceBNe, Int.reduceLT, Int.reduceLE, Int.reduceToNat, Int.reduceGT, Int.reduceGE, Int.reduceEq, Int.reducePow, Nat.reducePow, fill_zero, ints_replicate, Int.toNat_natCast, Ret_eq Try.results78]
        · intro k s hk hQ hs
          simp only [go_sem, Nat.reduceEqDiff, Nat.reduceAdd, Nat.reduceLT, Nat.reduceMul, Nat.reduceSub, ↓reduceIte, reduceCtorEq, Nat.reduceLeDiff, Nat.reduceBEq, Int.reduceBEq, Int.reduceBNe, Int.reduceLT, Int.reduceLE, Int.reduceToNat, Int.reduceGT, Int.reduceGE, Int.reduceEq, Int.reducePow, Nat.reducePow, Ret_eq Try.results78] at hs
          by_cases hka : k < code.length
          · have hcr := hr.getD k
            have hx := hc _ (getD_mem (d := 0) hka)
            have hcl := (hrows _ (getD_mem (d := []) (show k < cuts.length by omega))).1
            have eL : lowAt cuts code k = spanLow (cuts.getD k []) (code.getD k 0) := rfl
            have eH : highAt cuts code k = spanHigh (cuts.getD k []) (code.getD k 0) := rfl
            have e1 := fill_set (f := lowAt cuts code) (a := List.replicate code.length 0) (k := k) (by simpa using hka)
            have e2 := fill_set (f := highAt cuts code) (a := List.replicate code.length 0) (k := k) (by simpa using hka)
            have e3 : (fill (lowAt cuts code) (List.replicate code.length 0) k).length = code.length := by rw [fill_len (by simp; omega)]; simp
            have e4 : (fill (highAt cuts code) (List.replicate code.length 0) k).length = code.length := by rw [fill_len (by simp; omega)]; simp
            rw [eL] at e1
            rw [eH] at e2
            have hso := span_or (n := code.getD k 0) (hrows _ (getD_mem (d := []) (show k < cuts.length by omega))).2 (by omega) (by rw [hcl]; exact hf.2 _ (getD_mem hka))
            repeat' (first | simp only [go_sem, Nat.reduceEqDiff, Nat.reduceAdd, Nat.reduceLT, Nat.reduceMul, Nat.reduceSub, ↓reduceIte, reduceCtorEq, Nat.reduceLeDiff, Nat.reduceBEq, Int.reduceBEq, Int.reduceBNe, Int.reduceLT, Int.reduceLE, Int.reduceToNat, Int.reduceGT, Int.reduceGE, Int.reduceEq, Int.reducePow, Nat.reducePow, hs, e1, e2, e3, e4, Ret_eq Try.results78] | simp (disch := omega) only [arith, IntKind.bits, capMax, fill_len, elt_fill] | (with_reducible refine condI_beq (fun hq hqb => ?_) (fun hq hqb => ?_) <;> simp only [KP_mk, hqb]) | (with_reducible refine condI_bne (fun hq hqb => ?_) (fun hq hqb => ?_) <;> simp only [KP_mk, hqb]) | (with_reducible refine condI_dec (fun hq hqb => ?_) (fun hq hqb => ?_) <;> simp only [KP_mk, hqb]) | (with_reducible refine condI_b (fun hqb => ?_) (fun hqb => ?_) <;> simp only [KP_mk, hqb]) | refine RetO_calc Try.results78 ?_ | (refine awpI_draw2 (id := 6) (.one true 0 (.one true 1 (.cal 3 [2] (.cal 4 [2] (.two 2 5 (.cal 6 [5] (.only 5 (.one false 7 .done))) (.only 2 (.one false 6 (.one false 7 .done)))))))) mixed (by decide +kernel) (by decide +kernel) ?_) | (refine sch2I_two ?_ ?_) | (refine Again.up (by omega) ?_ ?_) | exact trivial | (refine opCallI_rd (by simp only [go_sem, Nat.reduceEqDiff, Nat.reduceAdd, Nat.reduceLT, Nat.reduceMul, Nat.reduceSub, ↓reduceIte, reduceCtorEq, Nat.reduceLeDiff, Nat.reduceBEq, Int.reduceBEq, Int.reduceBNe, Int.reduceLT, Int.reduceLE, Int.reduceToNat, Int.reduceGT, Int.reduceGE, Int.reduceEq, Int.reducePow, Nat.reducePow, hs, e1, e2, e3, e4, Ret_eq Try.results78]; first | done | rfl) (rankSpan_fun (cuts.getD k []) (code.getD k 0) hcr) (by rintro _ rfl; rfl) ?_; rintro _ rfl) | (refine opCallI_gv (by simp only [go_sem, Nat.reduceEqDiff, Nat.reduceAdd, Nat.reduceLT, Nat.reduceMul, Nat.reduceSub, ↓reduceIte, reduceCtorEq, Nat.reduceLeDiff, Nat.reduceBEq, Int.reduceBEq, Int.reduceBNe, Int.reduceLT, Int.reduceLE, Int.reduceToNat, Int.reduceGT, Int.reduceGE, Int.reduceEq, Int.reducePow, Nat.reducePow, hs, e1, e2, e3, e4, Ret_eq Try.results78]; first | done | rfl) (rankSpan_fun (cuts.getD k []) (code.getD k 0) hcr) ?_; rintro _ rfl) | fail)
            · have hne : spanErr (cuts.getD k []) (code.getD k 0) ≠ 0 := by assumption
              have hb : boxErr w cuts code = 5 := by unfold boxErr; rw [if_neg (by simpa using h), if_neg (by simpa using hf), if_pos ⟨k, hka, hne⟩]
              rw [(box_bad hb (by decide)).1, (box_bad hb (by decide)).2, hb, hso.resolve_left hne]
              rfl
            · intro i hi
              by_cases hik : i = k
              · subst hik; omega
              · exact hQ i (by omega)
          · obtain rfl : k = code.length := by omega
            rw [fill_map, fill_map] at hs
            have hb : boxErr w cuts code = 0 := by
              unfold boxErr; rw [if_neg (by simpa using h), if_neg (by simpa using hf), if_neg]
              rintro ⟨i, h1, h2⟩; exact h2 (hQ i h1)
            have hbl : (List.range code.length).map (lowAt cuts code) = boxL cuts code := rfl
            have hbh : (List.range code.length).map (highAt cuts code) = boxH cuts code := rfl
            rw [hbl, hbh] at hs
            obtain ⟨o1, o2⟩ := box_ok hb
            rw [o1, o2, hb]
            have l1 : (boxL cuts code).length = code.length := by simp [boxL]
            have l2 : (boxH cuts code).length = code.length := by simp [boxH]
            have t1 : (boxL cuts code).take code.length = boxL cuts code := List.take_of_length_le (by omega)
            have t2 : (boxH cuts code).take code.length = boxH cuts code := List.take_of_length_le (by omega)
            repeat' (first | simp only [go_sem, Nat.reduceEqDiff, Nat.reduceAdd, Nat.reduceLT, Nat.reduceMul, Nat.reduceSub, ↓reduceIte, reduceCtorEq, Nat.reduceLeDiff, Nat.reduceBEq, Int.reduceBEq, Int.reduceBNe, Int.reduceLT, Int.reduceLE, Int.reduceToNat, Int.reduceGT, Int.reduceGE, Int.reduceEq, Int.reducePow, Nat.reducePow, hs, l1, l2, t1, t2, Ret_eq Try.results78] | simp (disch := omega) only [arith, IntKind.bits, capMax, fill_len, elt_fill] | (with_reducible refine condI_beq (fun hq hqb => ?_) (fun hq hqb => ?_) <;> simp only [KP_mk, hqb]) | (with_reducible refine condI_bne (fun hq hqb => ?_) (fun hq hqb => ?_) <;> simp only [KP_mk, hqb]) | (with_reducible refine condI_dec (fun hq hqb => ?_) (fun hq hqb => ?_) <;> simp only [KP_mk, hqb]) | (with_reducible refine condI_b (fun hqb => ?_) (fun hqb => ?_) <;> simp only [KP_mk, hqb]) | refine RetO_calc Try.results78 ?_ | (refine awpI_draw2 (id := 6) (.one true 0 (.one true 1 (.cal 3 [2] (.cal 4 [2] (.two 2 5 (.cal 6 [5] (.only 5 (.one false 7 .done))) (.only 2 (.one false 6 (.one false 7 .done)))))))) mixed (by decide +kernel) (by decide +kernel) ?_) | (refine sch2I_two ?_ ?_) | (refine Again.up (by omega) ?_ ?_) | exact trivial | fail)
      · skip
        refine awpI_for code.length (fun k => ∀ i, i < k → spanErr (cuts.getD i []) (code.getD i 0) = 0) (fun k => [(4, .ref 20 code.length), (5, .ref 23 code.length), (26, .v (.int .i64 k))])
          (fun k => [(20, ⟨48, 1, ints .i16 (fill (lowAt cuts code) (List.replicate code.length 0) k)⟩), (23, ⟨48, 1, ints .i16 (fill (highAt cuts code) (List.replicate code.length 0) k)⟩)]) [2, 24, 25] [2] _ (Weak.refl _) (fun i hi => by omega) ?_ ?_ ?_
        · simp only [go_sem, Nat.reduceEqDiff, Nat.reduceAdd, Nat.reduceLT, Nat.reduceMul, Nat.reduceSub, ↓reduceIte, reduceCtorEq, Nat.reduceLeDiff, Nat.reduceBEq, Int.reduceBEq, Int.reduceBNe, Int.reduceLT, Int.reduceLE, Int.reduceToNat, Int.reduceGT, Int.reduceGE, Int.reduceEq, Int.reducePow, Nat.reducePow, Ret_eq Try.results78]
        · simp only [go_sem, Nat.reduceEqDiff, Nat.reduceAdd, Nat.reduceLT, Nat.reduceMul, Nat.reduceSub, ↓reduceIte, reduceCtorEq, Nat.reduceLeDiff, Nat.reduceBEq, Int.reduceBEq, Int.reduceBNe, Int.reduceLT, Int.reduceLE, Int.reduceToNat, Int.reduceGT, Int.reduceGE, Int.reduceEq, Int.reducePow, Nat.reducePow, fill_zero, ints_replicate, Int.toNat_natCast, Ret_eq Try.results78]
        · intro k s hk hQ hs
          simp only [go_sem, Nat.reduceEqDiff, Nat.reduceAdd, Nat.reduceLT, Nat.reduceMul, Nat.reduceSub, ↓reduceIte, reduceCtorEq, Nat.reduceLeDiff, Nat.reduceBEq, Int.reduceBEq, Int.reduceBNe, Int.reduceLT, Int.reduceLE, Int.reduceToNat, Int.reduceGT, Int.reduceGE, Int.reduceEq, Int.reducePow, Nat.reducePow, Ret_eq Try.results78] at hs
          by_cases hka : k < code.length
          · have hcr := hr.getD k
            have hx := hc _ (getD_mem (d := 0) hka)
            have hcl := (hrows _ (getD_mem (d := []) (show k < cuts.length by omega))).1
            have eL : lowAt cuts code k = spanLow (cuts.getD k []) (code.getD k 0) := rfl
            have eH : highAt cuts code k = spanHigh (cuts.getD k []) (code.getD k 0) := rfl
            have e1 := fill_set (f := lowAt cuts code) (a := List.replicate code.length 0) (k := k) (by simpa using hka)
            have e2 := fill_set (f := highAt cuts code) (a := List.replicate code.length 0) (k := k) (by simpa using hka)
            have e3 : (fill (lowAt cuts code) (List.replicate code.length 0) k).length = code.length := by rw [fill_len (by simp; omega)]; simp
            have e4 : (fill (highAt cuts code) (List.replicate code.length 0) k).length = code.length := by rw [fill_len (by simp; omega)]; simp
            rw [eL] at e1
            rw [eH] at e2
            have hso := span_or (n := code.getD k 0) (hrows _ (getD_mem (d := []) (show k < cuts.length by omega))).2 (by omega) (by rw [hcl]; exact hf.2 _ (getD_mem hka))
            repeat' (first | simp only [go_sem, Nat.reduceEqDiff, Nat.reduceAdd, Nat.reduceLT, Nat.reduceMul, Nat.reduceSub, ↓reduceIte, reduceCtorEq, Nat.reduceLeDiff, Nat.reduceBEq, Int.reduceBEq, Int.reduceBNe, Int.reduceLT, Int.reduceLE, Int.reduceToNat, Int.reduceGT, Int.reduceGE, Int.reduceEq, Int.reducePow, Nat.reducePow, hs, e1, e2, e3, e4, Ret_eq Try.results78] | simp (disch := omega) only [arith, IntKind.bits, capMax, fill_len, elt_fill] | (with_reducible refine condI_beq (fun hq hqb => ?_) (fun hq hqb => ?_) <;> simp only [KP_mk, hqb]) | (with_reducible refine condI_bne (fun hq hqb => ?_) (fun hq hqb => ?_) <;> simp only [KP_mk, hqb]) | (with_reducible refine condI_dec (fun hq hqb => ?_) (fun hq hqb => ?_) <;> simp only [KP_mk, hqb]) | (with_reducible refine condI_b (fun hqb => ?_) (fun hqb => ?_) <;> simp only [KP_mk, hqb]) | refine RetO_calc Try.results78 ?_ | (refine awpI_draw2 (id := 6) (.one true 0 (.one true 1 (.cal 3 [2] (.cal 4 [2] (.two 2 5 (.cal 6 [5] (.only 5 (.one false 7 .done))) (.only 2 (.one false 6 (.one false 7 .done)))))))) mixed (by decide +kernel) (by decide +kernel) ?_) | (refine sch2I_two ?_ ?_) | (refine Again.up (by omega) ?_ ?_) | exact trivial | (refine opCallI_rd (by simp only [go_sem, Nat.reduceEqDiff, Nat.reduceAdd, Nat.reduceLT, Nat.reduceMul, Nat.reduceSub, ↓reduceIte, reduceCtorEq, Nat.reduceLeDiff, Nat.reduceBEq, Int.reduceBEq, Int.reduceBNe, Int.reduceLT, Int.reduceLE, Int.reduceToNat, Int.reduceGT, Int.reduceGE, Int.reduceEq, Int.reducePow, Nat.reducePow, hs, e1, e2, e3, e4, Ret_eq Try.results78]; first | done | rfl) (rankSpan_fun (cuts.getD k []) (code.getD k 0) hcr) (by rintro _ rfl; rfl) ?_; rintro _ rfl) | (refine opCallI_gv (by simp only [go_sem, Nat.reduceEqDiff, Nat.reduceAdd, Nat.reduceLT, Nat.reduceMul, Nat.reduceSub, ↓reduceIte, reduceCtorEq, Nat.reduceLeDiff, Nat.reduceBEq, Int.reduceBEq, Int.reduceBNe, Int.reduceLT, Int.reduceLE, Int.reduceToNat, Int.reduceGT, Int.reduceGE, Int.reduceEq, Int.reducePow, Nat.reducePow, hs, e1, e2, e3, e4, Ret_eq Try.results78]; first | done | rfl) (rankSpan_fun (cuts.getD k []) (code.getD k 0) hcr) ?_; rintro _ rfl) | fail)
            · have hne : spanErr (cuts.getD k []) (code.getD k 0) ≠ 0 := by assumption
              have hb : boxErr w cuts code = 5 := by unfold boxErr; rw [if_neg (by simpa using h), if_neg (by simpa using hf), if_pos ⟨k, hka, hne⟩]
              rw [(box_bad hb (by decide)).1, (box_bad hb (by decide)).2, hb, hso.resolve_left hne]
              rfl
            · intro i hi
              by_cases hik : i = k
              · subst hik; omega
              · exact hQ i (by omega)
          · obtain rfl : k = code.length := by omega
            rw [fill_map, fill_map] at hs
            have hb : boxErr w cuts code = 0 := by
              unfold boxErr; rw [if_neg (by simpa using h), if_neg (by simpa using hf), if_neg]
              rintro ⟨i, h1, h2⟩; exact h2 (hQ i h1)
            have hbl : (List.range code.length).map (lowAt cuts code) = boxL cuts code := rfl
            have hbh : (List.range code.length).map (highAt cuts code) = boxH cuts code := rfl
            rw [hbl, hbh] at hs
            obtain ⟨o1, o2⟩ := box_ok hb
            rw [o1, o2, hb]
            have l1 : (boxL cuts code).length = code.length := by simp [boxL]
            have l2 : (boxH cuts code).length = code.length := by simp [boxH]
            have t1 : (boxL cuts code).take code.length = boxL cuts code := List.take_of_length_le (by omega)
            have t2 : (boxH cuts code).take code.length = boxH cuts code := List.take_of_length_le (by omega)
            repeat' (first | simp only [go_sem, Nat.reduceEqDiff, Nat.reduceAdd, Nat.reduceLT, Nat.reduceMul, Nat.reduceSub, ↓reduceIte, reduceCtorEq, Nat.reduceLeDiff, Nat.reduceBEq, Int.reduceBEq, Int.reduceBNe, Int.reduceLT, Int.reduceLE, Int.reduceToNat, Int.reduceGT, Int.reduceGE, Int.reduceEq, Int.reducePow, Nat.reducePow, hs, l1, l2, t1, t2, Ret_eq Try.results78] | simp (disch := omega) only [arith, IntKind.bits, capMax, fill_len, elt_fill] | (with_reducible refine condI_beq (fun hq hqb => ?_) (fun hq hqb => ?_) <;> simp only [KP_mk, hqb]) | (with_reducible refine condI_bne (fun hq hqb => ?_) (fun hq hqb => ?_) <;> simp only [KP_mk, hqb]) | (with_reducible refine condI_dec (fun hq hqb => ?_) (fun hq hqb => ?_) <;> simp only [KP_mk, hqb]) | (with_reducible refine condI_b (fun hqb => ?_) (fun hqb => ?_) <;> simp only [KP_mk, hqb]) | refine RetO_calc Try.results78 ?_ | (refine awpI_draw2 (id := 6) (.one true 0 (.one true 1 (.cal 3 [2] (.cal 4 [2] (.two 2 5 (.cal 6 [5] (.only 5 (.one false 7 .done))) (.only 2 (.one false 6 (.one false 7 .done)))))))) mixed (by decide +kernel) (by decide +kernel) ?_) | (refine sch2I_two ?_ ?_) | (refine Again.up (by omega) ?_ ?_) | exact trivial | fail)
    · have hfd := decide_eq_false hf
      have hb : boxErr w cuts code = 2 := by unfold boxErr; rw [if_neg (by simpa using h), if_pos hf]
      rw [(box_bad hb (by decide)).1, (box_bad hb (by decide)).2, hb]
      repeat' (first | simp only [go_sem, Nat.reduceEqDiff, Nat.reduceAdd, Nat.reduceLT, Nat.reduceMul, Nat.reduceSub, ↓reduceIte, reduceCtorEq, Nat.reduceLeDiff, Nat.reduceBEq, Int.reduceBEq, Int.reduceBNe, Int.reduceLT, Int.reduceLE, Int.reduceToNat, Int.reduceGT, Int.reduceGE, Int.reduceEq, Int.reducePow, Nat.reducePow, h, hfd, Ret_eq Try.results78] | simp (disch := omega) only [arith, IntKind.bits, capMax, fill_len, elt_fill] | (with_reducible refine condI_beq (fun hq hqb => ?_) (fun hq hqb => ?_) <;> simp only [KP_mk, hqb]) | (with_reducible refine condI_bne (fun hq hqb => ?_) (fun hq hqb => ?_) <;> simp only [KP_mk, hqb]) | (with_reducible refine condI_dec (fun hq hqb => ?_) (fun hq hqb => ?_) <;> simp only [KP_mk, hqb]) | (with_reducible refine condI_b (fun hqb => ?_) (fun hqb => ?_) <;> simp only [KP_mk, hqb]) | refine RetO_calc Try.results78 ?_ | (refine awpI_draw2 (id := 6) (.one true 0 (.one true 1 (.cal 3 [2] (.cal 4 [2] (.two 2 5 (.cal 6 [5] (.only 5 (.one false 7 .done))) (.only 2 (.one false 6 (.one false 7 .done)))))))) mixed (by decide +kernel) (by decide +kernel) ?_) | (refine sch2I_two ?_ ?_) | (refine Again.up (by omega) ?_ ?_) | exact trivial | (refine opCallI_rd (by simp only [go_sem, Nat.reduceEqDiff, Nat.reduceAdd, Nat.reduceLT, Nat.reduceMul, Nat.reduceSub, ↓reduceIte, reduceCtorEq, Nat.reduceLeDiff, Nat.reduceBEq, Int.reduceBEq, Int.reduceBNe, Int.reduceLT, Int.reduceLE, Int.reduceToNat, Int.reduceGT, Int.reduceGE, Int.reduceEq, Int.reducePow, Nat.reducePow, h, hfd, Ret_eq Try.results78]; first | done | rfl) (quantCheck_fun w cuts) (by rintro _ rfl; rfl) ?_; rintro _ rfl) | (refine opCallI_gv (by simp only [go_sem, Nat.reduceEqDiff, Nat.reduceAdd, Nat.reduceLT, Nat.reduceMul, Nat.reduceSub, ↓reduceIte, reduceCtorEq, Nat.reduceLeDiff, Nat.reduceBEq, Int.reduceBEq, Int.reduceBNe, Int.reduceLT, Int.reduceLE, Int.reduceToNat, Int.reduceGT, Int.reduceGE, Int.reduceEq, Int.reducePow, Nat.reducePow, h, hfd, Ret_eq Try.results78]; first | done | rfl) (quantCheck_fun w cuts) ?_; rintro _ rfl) | (refine opCallI_rd (by simp only [go_sem, Nat.reduceEqDiff, Nat.reduceAdd, Nat.reduceLT, Nat.reduceMul, Nat.reduceSub, ↓reduceIte, reduceCtorEq, Nat.reduceLeDiff, Nat.reduceBEq, Int.reduceBEq, Int.reduceBNe, Int.reduceLT, Int.reduceLE, Int.reduceToNat, Int.reduceGT, Int.reduceGE, Int.reduceEq, Int.reducePow, Nat.reducePow, h, hfd, Ret_eq Try.results78]; first | done | rfl) (form_fun w cuts code b1 hc) (by rintro _ rfl; rfl) ?_; rintro _ rfl) | (refine opCallI_gv (by simp only [go_sem, Nat.reduceEqDiff, Nat.reduceAdd, Nat.reduceLT, Nat.reduceMul, Nat.reduceSub, ↓reduceIte, reduceCtorEq, Nat.reduceLeDiff, Nat.reduceBEq, Int.reduceBEq, Int.reduceBNe, Int.reduceLT, Int.reduceLE, Int.reduceToNat, Int.reduceGT, Int.reduceGE, Int.reduceEq, Int.reducePow, Nat.reducePow, h, hfd, Ret_eq Try.results78]; first | done | rfl) (form_fun w cuts code b1 hc) ?_; rintro _ rfl) | fail)
  · have hb : boxErr w cuts code = 1 := by unfold boxErr; rw [if_pos h]
    have h1 : bookErr w cuts = 1 := bookErr_one fun q => h (bookErr_zero.2 q)
    rw [(box_bad hb (by decide)).1, (box_bad hb (by decide)).2, hb]
    repeat' (first | simp only [go_sem, Nat.reduceEqDiff, Nat.reduceAdd, Nat.reduceLT, Nat.reduceMul, Nat.reduceSub, ↓reduceIte, reduceCtorEq, Nat.reduceLeDiff, Nat.reduceBEq, Int.reduceBEq, Int.reduceBNe, Int.reduceLT, Int.reduceLE, Int.reduceToNat, Int.reduceGT, Int.reduceGE, Int.reduceEq, Int.reducePow, Nat.reducePow, h1, Ret_eq Try.results78] | simp (disch := omega) only [arith, IntKind.bits, capMax, fill_len, elt_fill] | (with_reducible refine condI_beq (fun hq hqb => ?_) (fun hq hqb => ?_) <;> simp only [KP_mk, hqb]) | (with_reducible refine condI_bne (fun hq hqb => ?_) (fun hq hqb => ?_) <;> simp only [KP_mk, hqb]) | (with_reducible refine condI_dec (fun hq hqb => ?_) (fun hq hqb => ?_) <;> simp only [KP_mk, hqb]) | (with_reducible refine condI_b (fun hqb => ?_) (fun hqb => ?_) <;> simp only [KP_mk, hqb]) | refine RetO_calc Try.results78 ?_ | (refine awpI_draw2 (id := 6) (.one true 0 (.one true 1 (.cal 3 [2] (.cal 4 [2] (.two 2 5 (.cal 6 [5] (.only 5 (.one false 7 .done))) (.only 2 (.one false 6 (.one false 7 .done)))))))) mixed (by decide +kernel) (by decide +kernel) ?_) | (refine sch2I_two ?_ ?_) | (refine Again.up (by omega) ?_ ?_) | exact trivial | (refine opCallI_rd (by simp only [go_sem, Nat.reduceEqDiff, Nat.reduceAdd, Nat.reduceLT, Nat.reduceMul, Nat.reduceSub, ↓reduceIte, reduceCtorEq, Nat.reduceLeDiff, Nat.reduceBEq, Int.reduceBEq, Int.reduceBNe, Int.reduceLT, Int.reduceLE, Int.reduceToNat, Int.reduceGT, Int.reduceGE, Int.reduceEq, Int.reducePow, Nat.reducePow, h1, Ret_eq Try.results78]; first | done | rfl) (quantCheck_fun w cuts) (by rintro _ rfl; rfl) ?_; rintro _ rfl) | (refine opCallI_gv (by simp only [go_sem, Nat.reduceEqDiff, Nat.reduceAdd, Nat.reduceLT, Nat.reduceMul, Nat.reduceSub, ↓reduceIte, reduceCtorEq, Nat.reduceLeDiff, Nat.reduceBEq, Int.reduceBEq, Int.reduceBNe, Int.reduceLT, Int.reduceLE, Int.reduceToNat, Int.reduceGT, Int.reduceGE, Int.reduceEq, Int.reducePow, Nat.reducePow, h1, Ret_eq Try.results78]; first | done | rfl) (quantCheck_fun w cuts) ?_; rintro _ rfl) | fail)
end Go.Proofs.Ytfmeiapglpphpaa.T
