import Derived.Test.YtfmeiapglpphpaaCCode
set_option linter.unusedSimpArgs false
set_option linter.unusedVariables false
/- Codes written, walked. -/
namespace Go.Proofs.Ytfmeiapglpphpaa.T
open Go Go.VL Go.Proofs
set_option maxRecDepth 100000
set_option maxHeartbeats 4000000
theorem code_get {l : List CodeV} {i : Nat} (h : i < l.length) : (gl codeD l)[i]? = some (.agg [.v (.bool (l.getD i (false, [])).1), .lst (ints .u8 (l.getD i (false, [])).2)]) := gl_get h
theorem code_set {l : List CodeV} {i : Nat} {a : Bool} {b : List Int} : (gl codeD l).set i (.agg [.v (.bool a), .lst (ints .u8 b)]) = gl codeD (l.set i (a, b)) := gl_set (x := (a, b))
theorem code_same {l : List CodeV} {i : Nat} (h : i < l.length) : l.set i ((l.getD i (false, [])).1, (l.getD i (false, [])).2) = l := by
  have : l.getD i (false, []) = l[i] := by simp [List.getD, h]
  rw [this]; exact List.set_getElem_self h
def writeOk (c : Coder) (l : List CodeV) (f m : Int) : Prop := coderErr c = 0 ∧ l.length = c.ids.length ∧ (0 ≤ f ∧ f ≤ l.length) ∧ 0 ≤ m ∧ m ≤ l.length - f
instance (c : Coder) (l : List CodeV) (f m : Int) : Decidable (writeOk c l f m) := by unfold writeOk; infer_instance
def wrAt (c : Coder) (l : List CodeV) (f j i : Nat) : CodeV := if f ≤ i ∧ i < f + j then codeOf c i else l.getD i (false, [])
def wr (c : Coder) (l : List CodeV) (f j : Nat) : List CodeV := (List.range l.length).map (wrAt c l f j)
theorem wr_length {c : Coder} {l : List CodeV} {f j : Nat} : (wr c l f j).length = l.length := by simp [wr]
theorem wr_getD {c : Coder} {l : List CodeV} {f j i : Nat} (h : i < l.length) : (wr c l f j).getD i (false, []) = wrAt c l f j i := getD_map_range h
theorem wr_zero {c : Coder} {l : List CodeV} {f : Nat} : wr c l f 0 = l := by
  refine ext_getD (d := (false, [])) (by rw [wr_length]) fun i hi => ?_
  rw [wr_length] at hi
  rw [wr_getD hi, wrAt, if_neg (by omega)]
theorem wr_set {c : Coder} {l : List CodeV} {f j : Nat} (h : f + j < l.length) : (wr c l f j).set (f + j) (codeOf c (f + j)) = wr c l f (j + 1) := by
  refine ext_getD (d := (false, [])) (by simp [wr_length]) fun i hi => ?_
  rw [List.length_set, wr_length] at hi
  rw [wr_getD hi, wrAt]
  by_cases q : i = f + j
  · subst q
    rw [if_pos (by omega)]
    simp [List.getD, wr_length, h]
  · have e : ((wr c l f j).set (f + j) (codeOf c (f + j))).getD i (false, []) = (wr c l f j).getD i (false, []) := by
      simp only [List.getD]
      rw [List.getElem?_set_ne (fun e => q e.symm)]
    rw [e, wr_getD hi, wrAt]
    by_cases q2 : f ≤ i ∧ i < f + j
    · rw [if_pos q2, if_pos (by omega)]
    · rw [if_neg q2, if_neg (by omega)]
def writeOut (c : Coder) (l : List CodeV) (f m : Int) : List CodeV := if writeOk c l f m then wr c l f.toNat m.toNat else []
def writeErr (c : Coder) (l : List CodeV) (f m : Int) : Int := if writeOk c l f m then 0 else 1
theorem coder_len {c : Coder} (h : coderErr c = 0) : (1 ≤ c.ids.length ∧ c.ids.length ≤ 256) ∧ c.vecs.length = c.ids.length := by
  have ok : coderOk c := by
    unfold coderErr at h
    split at h
    · assumption
    · cases h
  have so : slotsOk c.dim c.ids c.vecs := by
    have s0 := ok.1
    unfold slotsErr at s0
    split at s0
    · assumption
    · cases s0
  exact ⟨so.2.1, so.2.2.1⟩
theorem coder_codes {c : Coder} (h : coderErr c = 0) {i : Nat} (hi : i < c.ids.length) : codeOfE c i = 0 ∧ i < c.vecs.length ∧ 1 ≤ c.ids.length ∧ c.ids.length ≤ 256 := by
  have ok : coderOk c := by
    unfold coderErr at h
    split at h
    · assumption
    · cases h
  obtain ⟨s0, s1, s2, ⟨b0, l0⟩, b1, l1⟩ := ok
  have so : slotsOk c.dim c.ids c.vecs := by
    unfold slotsErr at s0
    split at s0
    · assumption
    · cases s0
  obtain ⟨t1, t2, t3, t4⟩ := so
  refine ⟨?_, by omega, t2.1, t2.2⟩
  unfold codeOfE
  by_cases q : c.ids.getD i 0 = -1
  · rw [if_pos q]
  · rw [if_neg q]
    rcases t4 i hi with ⟨q1, _⟩ | ⟨_, _, v1, v2⟩
    · exact absurd q1 q
    · split
      · exact codeErr_zero.2 ⟨b1, v1, by omega⟩
      · exact codeErr_zero.2 ⟨b0, v1, by omega⟩
theorem gl_codeWfs {l : List CodeV} : D.wfs (gl codeD l) = (∀ c ∈ l, c.2.length ≤ capMax) := by
  induction l with
  | nil => simp [gl, D.wfs]
  | cons c l ih =>
    simp only [gl, List.map_cons, D.wfs] at ih ⊢
    rw [ih]
    simp only [codeD, D.wf, D.wfs, ints_wfs, ints_length, and_true, true_and, List.mem_cons, forall_eq_or_imp]
attribute [go_sem] gl_codeWfs

theorem write_fun (c : Coder) (l : List CodeV) (f m : Int) (hr : I16r c.vecs) (hB : ∀ x ∈ l, x.2.length ≤ 300) : Fun Try.prog 148 [coderD c, .lst (gl codeD l), .v (.int .i64 f), .v (.int .i64 m)] fun r => r = .tup [.lst (gl codeD (writeOut c l f m)), .v (.int .i64 (writeErr c l f m))] := by
  have hck := coderCheck_fun c
  have hco := coderCode_fun c
  unfold writeOut writeErr
  by_cases h : writeOk c l f m
  · rw [if_pos h, if_pos h]
    obtain ⟨h1, h2, ⟨h3, h4⟩, h5, h6⟩ := h
    obtain ⟨f, rfl⟩ := Int.eq_ofNat_of_zero_le h3
    obtain ⟨m, rfl⟩ := Int.eq_ofNat_of_zero_le h5
    rw [Int.toNat_natCast, Int.toNat_natCast]
    obtain ⟨hlen, hvl⟩ := coder_len h1
    have hcd := fun i hi => (coder_codes h1 (i := i) hi).1
    have hcl := cloneCodes_fun l (by omega) (by omega)
    rw [h1] at hck
    refine Fun.of_awpI Try.func148 rfl cal148 Try.ntmps148 (by simp) fun hwf => ?_
    simp only [D.wfs, D.wf, ints_length, ints_wfs, rows_length, rows_wfs, capMax, and_true, true_and] at hwf
    repeat' (first | simp only [go_sem, Nat.reduceEqDiff, Nat.reduceAdd, Nat.reduceLT, Nat.reduceMul, Nat.reduceSub, ↓reduceIte, reduceCtorEq, Nat.reduceLeDiff, Nat.reduceBEq, Int.reduceBEq, Int.reduceBNe, Int.reduceLT, Int.reduceLE, Int.reduceToNat, Int.reduceGT, Int.reduceGE, Int.reduceEq, Int.reducePow, Nat.reducePow, h2, Ret_eq Try.results148] | simp (disch := omega) only [arith, IntKind.bits, capMax, fill_len, elt_fill] | (with_reducible refine condI_beq (fun hq hqb => ?_) (fun hq hqb => ?_) <;> simp only [KP_mk, hqb]) | (with_reducible refine condI_bne (fun hq hqb => ?_) (fun hq hqb => ?_) <;> simp only [KP_mk, hqb]) | (with_reducible refine condI_dec (fun hq hqb => ?_) (fun hq hqb => ?_) <;> simp only [KP_mk, hqb]) | (with_reducible refine condI_b (fun hqb => ?_) (fun hqb => ?_) <;> simp only [KP_mk, hqb]) | refine RetO_calc Try.results148 ?_ | (refine Again.up (by omega) ?_ ?_) | exact trivial | (refine opCallI_rd (by simp only [go_sem, Nat.reduceEqDiff, Nat.reduceAdd, Nat.reduceLT, Nat.reduceMul, Nat.reduceSub, ↓reduceIte, reduceCtorEq, Nat.reduceLeDiff, Nat.reduceBEq, Int.reduceBEq, Int.reduceBNe, Int.reduceLT, Int.reduceLE, Int.reduceToNat, Int.reduceGT, Int.reduceGE, Int.reduceEq, Int.reducePow, Nat.reducePow, h2, Ret_eq Try.results148]; first | done | rfl) (hck) (by rintro _ rfl; rfl) ?_; rintro _ rfl) | (refine opCallI_gv (by simp only [go_sem, Nat.reduceEqDiff, Nat.reduceAdd, Nat.reduceLT, Nat.reduceMul, Nat.reduceSub, ↓reduceIte, reduceCtorEq, Nat.reduceLeDiff, Nat.reduceBEq, Int.reduceBEq, Int.reduceBNe, Int.reduceLT, Int.reduceLE, Int.reduceToNat, Int.reduceGT, Int.reduceGE, Int.reduceEq, Int.reducePow, Nat.reducePow, h2, Ret_eq Try.results148]; first | done | rfl) (hck) ?_; rintro _ rfl) | (refine opCallI_ownGv (by simp only [go_sem, Nat.reduceEqDiff, Nat.reduceAdd, Nat.reduceLT, Nat.reduceMul, Nat.reduceSub, ↓reduceIte, reduceCtorEq, Nat.reduceLeDiff, Nat.reduceBEq, Int.reduceBEq, Int.reduceBNe, Int.reduceLT, Int.reduceLE, Int.reduceToNat, Int.reduceGT, Int.reduceGE, Int.reduceEq, Int.reducePow, Nat.reducePow, h2, Ret_eq Try.results148]; first | done | rfl) (hcl) ?_; rintro _ _ ⟨rfl, rfl⟩) | fail)
    refine awpI_for l.length (fun k => True) (fun k => [(52, .v (.int .i64 k))]) (fun k => [(49, ⟨114, 2, gl codeD l⟩)]) [1, 2, 3, 4, 51] [4] _ (Weak.refl _) trivial ?_ ?_ ?_
    · simp only [go_sem, Nat.reduceEqDiff, Nat.reduceAdd, Nat.reduceLT, Nat.reduceMul, Nat.reduceSub, ↓reduceIte, reduceCtorEq, Nat.reduceLeDiff, Nat.reduceBEq, Int.reduceBEq, Int.reduceBNe, Int.reduceLT, Int.reduceLE, Int.reduceToNat, Int.reduceGT, Int.reduceGE, Int.reduceEq, Int.reducePow, Nat.reducePow, Ret_eq Try.results148]
    · simp only [go_sem, Nat.reduceEqDiff, Nat.reduceAdd, Nat.reduceLT, Nat.reduceMul, Nat.reduceSub, ↓reduceIte, reduceCtorEq, Nat.reduceLeDiff, Nat.reduceBEq, Int.reduceBEq, Int.reduceBNe, Int.reduceLT, Int.reduceLE, Int.reduceToNat, Int.reduceGT, Int.reduceGE, Int.reduceEq, Int.reducePow, Nat.reducePow, Ret_eq Try.results148]
    · intro k s hk _ hs
      simp only [go_sem, Nat.reduceEqDiff, Nat.reduceAdd, Nat.reduceLT, Nat.reduceMul, Nat.reduceSub, ↓reduceIte, reduceCtorEq, Nat.reduceLeDiff, Nat.reduceBEq, Int.reduceBEq, Int.reduceBNe, Int.reduceLT, Int.reduceLE, Int.reduceToNat, Int.reduceGT, Int.reduceGE, Int.reduceEq, Int.reducePow, Nat.reducePow, Ret_eq Try.results148] at hs
      by_cases hka : k < l.length
      · have hb := cloneB_fun (l.getD k (false, [])).2 (by have := hB _ (getD_mem (d := ((false, []) : CodeV)) hka); omega)
        have hsm := code_same hka
        repeat' (first | simp only [go_sem, Nat.reduceEqDiff, Nat.reduceAdd, Nat.reduceLT, Nat.reduceMul, Nat.reduceSub, ↓reduceIte, reduceCtorEq, Nat.reduceLeDiff, Nat.reduceBEq, Int.reduceBEq, Int.reduceBNe, Int.reduceLT, Int.reduceLE, Int.reduceToNat, Int.reduceGT, Int.reduceGE, Int.reduceEq, Int.reducePow, Nat.reducePow, hs, code_set, hsm, Ret_eq Try.results148] | simp (disch := omega) only [arith, IntKind.bits, capMax, fill_len, elt_fill, code_get] | (with_reducible refine condI_beq (fun hq hqb => ?_) (fun hq hqb => ?_) <;> simp only [KP_mk, hqb]) | (with_reducible refine condI_bne (fun hq hqb => ?_) (fun hq hqb => ?_) <;> simp only [KP_mk, hqb]) | (with_reducible refine condI_dec (fun hq hqb => ?_) (fun hq hqb => ?_) <;> simp only [KP_mk, hqb]) | (with_reducible refine condI_b (fun hqb => ?_) (fun hqb => ?_) <;> simp only [KP_mk, hqb]) | refine RetO_calc Try.results148 ?_ | (refine Again.up (by omega) ?_ ?_) | exact trivial | (refine opCallI_rd (by simp only [go_sem, Nat.reduceEqDiff, Nat.reduceAdd, Nat.reduceLT, Nat.reduceMul, Nat.reduceSub, ↓reduceIte, reduceCtorEq, Nat.reduceLeDiff, Nat.reduceBEq, Int.reduceBEq, Int.reduceBNe, Int.reduceLT, Int.reduceLE, Int.reduceToNat, Int.reduceGT, Int.reduceGE, Int.reduceEq, Int.reducePow, Nat.reducePow, hs, code_set, hsm, Ret_eq Try.results148]; first | done | rfl) (hb) (by rintro _ rfl; rfl) ?_; rintro _ rfl) | (refine opCallI_gv (by simp only [go_sem, Nat.reduceEqDiff, Nat.reduceAdd, Nat.reduceLT, Nat.reduceMul, Nat.reduceSub, ↓reduceIte, reduceCtorEq, Nat.reduceLeDiff, Nat.reduceBEq, Int.reduceBEq, Int.reduceBNe, Int.reduceLT, Int.reduceLE, Int.reduceToNat, Int.reduceGT, Int.reduceGE, Int.reduceEq, Int.reducePow, Nat.reducePow, hs, code_set, hsm, Ret_eq Try.results148]; first | done | rfl) (hb) ?_; rintro _ rfl) | fail)
      · obtain rfl : k = l.length := by omega
        repeat' (first | simp only [go_sem, Nat.reduceEqDiff, Nat.reduceAdd, Nat.reduceLT, Nat.reduceMul, Nat.reduceSub, ↓reduceIte, reduceCtorEq, Nat.reduceLeDiff, Nat.reduceBEq, Int.reduceBEq, Int.reduceBNe, Int.reduceLT, Int.reduceLE, Int.reduceToNat, Int.reduceGT, Int.reduceGE, Int.reduceEq, Int.reducePow, Nat.reducePow, hs, Ret_eq Try.results148] | simp (disch := omega) only [arith, IntKind.bits, capMax, fill_len, elt_fill] | (with_reducible refine condI_beq (fun hq hqb => ?_) (fun hq hqb => ?_) <;> simp only [KP_mk, hqb]) | (with_reducible refine condI_bne (fun hq hqb => ?_) (fun hq hqb => ?_) <;> simp only [KP_mk, hqb]) | (with_reducible refine condI_dec (fun hq hqb => ?_) (fun hq hqb => ?_) <;> simp only [KP_mk, hqb]) | (with_reducible refine condI_b (fun hqb => ?_) (fun hqb => ?_) <;> simp only [KP_mk, hqb]) | refine RetO_calc Try.results148 ?_ | (refine Again.up (by omega) ?_ ?_) | exact trivial | fail)
        refine awpI_for m (fun k => True) (fun k => [(12, .v (.int .i64 ((f + k : Nat) : Int)))]) (fun k => [(49, ⟨114, 2, gl codeD (wr c l f k)⟩)]) [1, 2, 3, 4] [4] _ (Weak.refl _) trivial ?_ ?_ ?_
        · simp only [go_sem, Nat.reduceEqDiff, Nat.reduceAdd, Nat.reduceLT, Nat.reduceMul, Nat.reduceSub, ↓reduceIte, reduceCtorEq, Nat.reduceLeDiff, Nat.reduceBEq, Int.reduceBEq, Int.reduceBNe, Int.reduceLT, Int.reduceLE, Int.reduceToNat, Int.reduceGT, Int.reduceGE, Int.reduceEq, Int.reducePow, Nat.reducePow, hs, Nat.add_zero, Ret_eq Try.results148]
        · simp only [go_sem, Nat.reduceEqDiff, Nat.reduceAdd, Nat.reduceLT, Nat.reduceMul, Nat.reduceSub, ↓reduceIte, reduceCtorEq, Nat.reduceLeDiff, Nat.reduceBEq, Int.reduceBEq, Int.reduceBNe, Int.reduceLT, Int.reduceLE, Int.reduceToNat, Int.reduceGT, Int.reduceGE, Int.reduceEq, Int.reducePow, Nat.reducePow, hs, wr_zero, Ret_eq Try.results148]
        · intro k s2 hk2 _ hs2
          simp only [go_sem, Nat.reduceEqDiff, Nat.reduceAdd, Nat.reduceLT, Nat.reduceMul, Nat.reduceSub, ↓reduceIte, reduceCtorEq, Nat.reduceLeDiff, Nat.reduceBEq, Int.reduceBEq, Int.reduceBNe, Int.reduceLT, Int.reduceLE, Int.reduceToNat, Int.reduceGT, Int.reduceGE, Int.reduceEq, Int.reducePow, Nat.reducePow, hs, Ret_eq Try.results148] at hs2
          by_cases hkb : k < m
          · have hwl := wr_length (c := c) (l := l) (f := f) (j := k)
            have hws := wr_set (c := c) (l := l) (f := f) (j := k) (by omega)
            have hc1 := hco (f + k) (by omega) (by omega) hr
            rw [hcd (f + k) (by omega)] at hc1
            have ecd : codeD (codeOf c (f + k)) = .agg [.v (.bool (codeOf c (f + k)).1), .lst (ints .u8 (codeOf c (f + k)).2)] := rfl
            rw [ecd] at hc1
            repeat' (first | simp only [go_sem, Nat.reduceEqDiff, Nat.reduceAdd, Nat.reduceLT, Nat.reduceMul, Nat.reduceSub, ↓reduceIte, reduceCtorEq, Nat.reduceLeDiff, Nat.reduceBEq, Int.reduceBEq, Int.reduceBNe, Int.reduceLT, Int.reduceLE, Int.reduceToNat, Int.reduceGT, Int.reduceGE, Int.reduceEq, Int.reducePow, Nat.reducePow, hs, hs2, hwl, code_set, hws, Ret_eq Try.results148] | simp (disch := omega) only [arith, IntKind.bits, capMax, fill_len, elt_fill, code_get] | (with_reducible refine condI_beq (fun hq hqb => ?_) (fun hq hqb => ?_) <;> simp only [KP_mk, hqb]) | (with_reducible refine condI_bne (fun hq hqb => ?_) (fun hq hqb => ?_) <;> simp only [KP_mk, hqb]) | (with_reducible refine condI_dec (fun hq hqb => ?_) (fun hq hqb => ?_) <;> simp only [KP_mk, hqb]) | (with_reducible refine condI_b (fun hqb => ?_) (fun hqb => ?_) <;> simp only [KP_mk, hqb]) | refine RetO_calc Try.results148 ?_ | (refine Again.up (by omega) ?_ ?_) | exact trivial | (refine opCallI_rd (by simp only [go_sem, Nat.reduceEqDiff, Nat.reduceAdd, Nat.reduceLT, Nat.reduceMul, Nat.reduceSub, ↓reduceIte, reduceCtorEq, Nat.reduceLeDiff, Nat.reduceBEq, Int.reduceBEq, Int.reduceBNe, Int.reduceLT, Int.reduceLE, Int.reduceToNat, Int.reduceGT, Int.reduceGE, Int.reduceEq, Int.reducePow, Nat.reducePow, hs, hs2, hwl, code_set, hws, Ret_eq Try.results148]; first | done | rfl) (hc1) (by rintro _ rfl; rfl) ?_; rintro _ rfl) | (refine opCallI_gv (by simp only [go_sem, Nat.reduceEqDiff, Nat.reduceAdd, Nat.reduceLT, Nat.reduceMul, Nat.reduceSub, ↓reduceIte, reduceCtorEq, Nat.reduceLeDiff, Nat.reduceBEq, Int.reduceBEq, Int.reduceBNe, Int.reduceLT, Int.reduceLE, Int.reduceToNat, Int.reduceGT, Int.reduceGE, Int.reduceEq, Int.reducePow, Nat.reducePow, hs, hs2, hwl, code_set, hws, Ret_eq Try.results148]; first | done | rfl) (hc1) ?_; rintro _ rfl) | fail)
            all_goals rfl
          · obtain rfl : k = m := by omega
            have hwl : (wr c l f k).length = c.ids.length := by rw [wr_length]; exact h2
            have htk : (wr c l f k).take c.ids.length = wr c l f k := List.take_of_length_le (by omega)
            repeat' (first | simp only [go_sem, Nat.reduceEqDiff, Nat.reduceAdd, Nat.reduceLT, Nat.reduceMul, Nat.reduceSub, ↓reduceIte, reduceCtorEq, Nat.reduceLeDiff, Nat.reduceBEq, Int.reduceBEq, Int.reduceBNe, Int.reduceLT, Int.reduceLE, Int.reduceToNat, Int.reduceGT, Int.reduceGE, Int.reduceEq, Int.reducePow, Nat.reducePow, hs, hs2, hwl, htk, Ret_eq Try.results148] | simp (disch := omega) only [arith, IntKind.bits, capMax, fill_len, elt_fill] | (with_reducible refine condI_beq (fun hq hqb => ?_) (fun hq hqb => ?_) <;> simp only [KP_mk, hqb]) | (with_reducible refine condI_bne (fun hq hqb => ?_) (fun hq hqb => ?_) <;> simp only [KP_mk, hqb]) | (with_reducible refine condI_dec (fun hq hqb => ?_) (fun hq hqb => ?_) <;> simp only [KP_mk, hqb]) | (with_reducible refine condI_b (fun hqb => ?_) (fun hqb => ?_) <;> simp only [KP_mk, hqb]) | refine RetO_calc Try.results148 ?_ | (refine Again.up (by omega) ?_ ?_) | exact trivial | fail)
  · rw [if_neg h, if_neg h]
    unfold writeOk at h
    by_cases h1 : coderErr c = 0
    · rw [h1] at hck
      by_cases h2 : l.length = c.ids.length
      · by_cases h3 : 0 ≤ f
        · by_cases h4 : f ≤ l.length
          · by_cases h5 : 0 ≤ m
            · by_cases h6 : m ≤ l.length - f
              · exact absurd ⟨h1, h2, ⟨h3, h4⟩, h5, h6⟩ h
              · skip
                refine Fun.of_awpI Try.func148 rfl cal148 Try.ntmps148 (by simp) fun hwf => ?_
                simp only [D.wfs, D.wf, ints_length, ints_wfs, rows_length, rows_wfs, capMax, and_true, true_and] at hwf
                repeat' (first | simp only [go_sem, Nat.reduceEqDiff, Nat.reduceAdd, Nat.reduceLT, Nat.reduceMul, Nat.reduceSub, ↓reduceIte, reduceCtorEq, Nat.reduceLeDiff, Nat.reduceBEq, Int.reduceBEq, Int.reduceBNe, Int.reduceLT, Int.reduceLE, Int.reduceToNat, Int.reduceGT, Int.reduceGE, Int.reduceEq, Int.reducePow, Nat.reducePow, h2, gl_nil, Ret_eq Try.results148] | simp (disch := omega) only [arith, IntKind.bits, capMax, fill_len, elt_fill] | (with_reducible refine condI_beq (fun hq hqb => ?_) (fun hq hqb => ?_) <;> simp only [KP_mk, hqb]) | (with_reducible refine condI_bne (fun hq hqb => ?_) (fun hq hqb => ?_) <;> simp only [KP_mk, hqb]) | (with_reducible refine condI_dec (fun hq hqb => ?_) (fun hq hqb => ?_) <;> simp only [KP_mk, hqb]) | (with_reducible refine condI_b (fun hqb => ?_) (fun hqb => ?_) <;> simp only [KP_mk, hqb]) | refine RetO_calc Try.results148 ?_ | (refine Again.up (by omega) ?_ ?_) | exact trivial | (refine opCallI_rd (by simp only [go_sem, Nat.reduceEqDiff, Nat.reduceAdd, Nat.reduceLT, Nat.reduceMul, Nat.reduceSub, ↓reduceIte, reduceCtorEq, Nat.reduceLeDiff, Nat.reduceBEq, Int.reduceBEq, Int.reduceBNe, Int.reduceLT, Int.reduceLE, Int.reduceToNat, Int.reduceGT, Int.reduceGE, Int.reduceEq, Int.reducePow, Nat.reducePow, h2, gl_nil, Ret_eq Try.results148]; first | done | rfl) (hck) (by rintro _ rfl; rfl) ?_; rintro _ rfl) | (refine opCallI_gv (by simp only [go_sem, Nat.reduceEqDiff, Nat.reduceAdd, Nat.reduceLT, Nat.reduceMul, Nat.reduceSub, ↓reduceIte, reduceCtorEq, Nat.reduceLeDiff, Nat.reduceBEq, Int.reduceBEq, Int.reduceBNe, Int.reduceLT, Int.reduceLE, Int.reduceToNat, Int.reduceGT, Int.reduceGE, Int.reduceEq, Int.reducePow, Nat.reducePow, h2, gl_nil, Ret_eq Try.results148]; first | done | rfl) (hck) ?_; rintro _ rfl) | fail)
            · skip
              refine Fun.of_awpI Try.func148 rfl cal148 Try.ntmps148 (by simp) fun hwf => ?_
              simp only [D.wfs, D.wf, ints_length, ints_wfs, rows_length, rows_wfs, capMax, and_true, true_and] at hwf
              repeat' (first | simp only [go_sem, Nat.reduceEqDiff, Nat.reduceAdd, Nat.reduceLT, Nat.reduceMul, Nat.reduceSub, ↓reduceIte, reduceCtorEq, Nat.reduceLeDiff, Nat.reduceBEq, Int.reduceBEq, Int.reduceBNe, Int.reduceLT, Int.reduceLE, Int.reduceToNat, Int.reduceGT, Int.reduceGE, Int.reduceEq, Int.reducePow, Nat.reducePow, h2, gl_nil, Ret_eq Try.results148] | simp (disch := omega) only [arith, IntKind.bits, capMax, fill_len, elt_fill] | (with_reducible refine condI_beq (fun hq hqb => ?_) (fun hq hqb => ?_) <;> simp only [KP_mk, hqb]) | (with_reducible refine condI_bne (fun hq hqb => ?_) (fun hq hqb => ?_) <;> simp only [KP_mk, hqb]) | (with_reducible refine condI_dec (fun hq hqb => ?_) (fun hq hqb => ?_) <;> simp only [KP_mk, hqb]) | (with_reducible refine condI_b (fun hqb => ?_) (fun hqb => ?_) <;> simp only [KP_mk, hqb]) | refine RetO_calc Try.results148 ?_ | (refine Again.up (by omega) ?_ ?_) | exact trivial | (refine opCallI_rd (by simp only [go_sem, Nat.reduceEqDiff, Nat.reduceAdd, Nat.reduceLT, Nat.reduceMul, Nat.reduceSub, ↓reduceIte, reduceCtorEq, Nat.reduceLeDiff, Nat.reduceBEq, Int.reduceBEq, Int.reduceBNe, Int.reduceLT, Int.reduceLE, Int.reduceToNat, Int.reduceGT, Int.reduceGE, Int.reduceEq, Int.reducePow, Nat.reducePow, h2, gl_nil, Ret_eq Try.results148]; first | done | rfl) (hck) (by rintro _ rfl; rfl) ?_; rintro _ rfl) | (refine opCallI_gv (by simp only [go_sem, Nat.reduceEqDiff, Nat.reduceAdd, Nat.reduceLT, Nat.reduceMul, Nat.reduceSub, ↓reduceIte, reduceCtorEq, Nat.reduceLeDiff, Nat.reduceBEq, Int.reduceBEq, Int.reduceBNe, Int.reduceLT, Int.reduceLE, Int.reduceToNat, Int.reduceGT, Int.reduceGE, Int.reduceEq, Int.reducePow, Nat.reducePow, h2, gl_nil, Ret_eq Try.results148]; first | done | rfl) (hck) ?_; rintro _ rfl) | fail)
          · skip
            refine Fun.of_awpI Try.func148 rfl cal148 Try.ntmps148 (by simp) fun hwf => ?_
            simp only [D.wfs, D.wf, ints_length, ints_wfs, rows_length, rows_wfs, capMax, and_true, true_and] at hwf
            repeat' (first | simp only [go_sem, Nat.reduceEqDiff, Nat.reduceAdd, Nat.reduceLT, Nat.reduceMul, Nat.reduceSub, ↓reduceIte, reduceCtorEq, Nat.reduceLeDiff, Nat.reduceBEq, Int.reduceBEq, Int.reduceBNe, Int.reduceLT, Int.reduceLE, Int.reduceToNat, Int.reduceGT, Int.reduceGE, Int.reduceEq, Int.reducePow, Nat.reducePow, h2, gl_nil, Ret_eq Try.results148] | simp (disch := omega) only [arith, IntKind.bits, capMax, fill_len, elt_fill] | (with_reducible refine condI_beq (fun hq hqb => ?_) (fun hq hqb => ?_) <;> simp only [KP_mk, hqb]) | (with_reducible refine condI_bne (fun hq hqb => ?_) (fun hq hqb => ?_) <;> simp only [KP_mk, hqb]) | (with_reducible refine condI_dec (fun hq hqb => ?_) (fun hq hqb => ?_) <;> simp only [KP_mk, hqb]) | (with_reducible refine condI_b (fun hqb => ?_) (fun hqb => ?_) <;> simp only [KP_mk, hqb]) | refine RetO_calc Try.results148 ?_ | (refine Again.up (by omega) ?_ ?_) | exact trivial | (refine opCallI_rd (by simp only [go_sem, Nat.reduceEqDiff, Nat.reduceAdd, Nat.reduceLT, Nat.reduceMul, Nat.reduceSub, ↓reduceIte, reduceCtorEq, Nat.reduceLeDiff, Nat.reduceBEq, Int.reduceBEq, Int.reduceBNe, Int.reduceLT, Int.reduceLE, Int.reduceToNat, Int.reduceGT, Int.reduceGE, Int.reduceEq, Int.reducePow, Nat.reducePow, h2, gl_nil, Ret_eq Try.results148]; first | done | rfl) (hck) (by rintro _ rfl; rfl) ?_; rintro _ rfl) | (refine opCallI_gv (by simp only [go_sem, Nat.reduceEqDiff, Nat.reduceAdd, Nat.reduceLT, Nat.reduceMul, Nat.reduceSub, ↓reduceIte, reduceCtorEq, Nat.reduceLeDiff, Nat.reduceBEq, Int.reduceBEq, Int.reduceBNe, Int.reduceLT, Int.reduceLE, Int.reduceToNat, Int.reduceGT, Int.reduceGE, Int.reduceEq, Int.reducePow, Nat.reducePow, h2, gl_nil, Ret_eq Try.results148]; first | done | rfl) (hck) ?_; rintro _ rfl) | fail)
        · skip
          refine Fun.of_awpI Try.func148 rfl cal148 Try.ntmps148 (by simp) fun hwf => ?_
          simp only [D.wfs, D.wf, ints_length, ints_wfs, rows_length, rows_wfs, capMax, and_true, true_and] at hwf
          repeat' (first | simp only [go_sem, Nat.reduceEqDiff, Nat.reduceAdd, Nat.reduceLT, Nat.reduceMul, Nat.reduceSub, ↓reduceIte, reduceCtorEq, Nat.reduceLeDiff, Nat.reduceBEq, Int.reduceBEq, Int.reduceBNe, Int.reduceLT, Int.reduceLE, Int.reduceToNat, Int.reduceGT, Int.reduceGE, Int.reduceEq, Int.reducePow, Nat.reducePow, h2, gl_nil, Ret_eq Try.results148] | simp (disch := omega) only [arith, IntKind.bits, capMax, fill_len, elt_fill] | (with_reducible refine condI_beq (fun hq hqb => ?_) (fun hq hqb => ?_) <;> simp only [KP_mk, hqb]) | (with_reducible refine condI_bne (fun hq hqb => ?_) (fun hq hqb => ?_) <;> simp only [KP_mk, hqb]) | (with_reducible refine condI_dec (fun hq hqb => ?_) (fun hq hqb => ?_) <;> simp only [KP_mk, hqb]) | (with_reducible refine condI_b (fun hqb => ?_) (fun hqb => ?_) <;> simp only [KP_mk, hqb]) | refine RetO_calc Try.results148 ?_ | (refine Again.up (by omega) ?_ ?_) | exact trivial | (refine opCallI_rd (by simp only [go_sem, Nat.reduceEqDiff, Nat.reduceAdd, Nat.reduceLT, Nat.reduceMul, Nat.reduceSub, ↓reduceIte, reduceCtorEq, Nat.reduceLeDiff, Nat.reduceBEq, Int.reduceBEq, Int.reduceBNe, Int.reduceLT, Int.reduceLE, Int.reduceToNat, Int.reduceGT, Int.reduceGE, Int.reduceEq, Int.reducePow, Nat.reducePow, h2, gl_nil, Ret_eq Try.results148]; first | done | rfl) (hck) (by rintro _ rfl; rfl) ?_; rintro _ rfl) | (refine opCallI_gv (by simp only [go_sem, Nat.reduceEqDiff, Nat.reduceAdd, Nat.reduceLT, Nat.reduceMul, Nat.reduceSub, ↓reduceIte, reduceCtorEq, Nat.reduceLeDiff, Nat.reduceBEq, Int.reduceBEq, Int.reduceBNe, Int.reduceLT, Int.reduceLE, Int.reduceToNat, Int.reduceGT, Int.reduceGE, Int.reduceEq, Int.reducePow, Nat.reducePow, h2, gl_nil, Ret_eq Try.results148]; first | done | rfl) (hck) ?_; rintro _ rfl) | fail)
      · have hbe : ((l.length : Int) == (c.ids.length : Int)) = false := beq_eq_false_iff_ne.2 (by omega)
        refine Fun.of_awpI Try.func148 rfl cal148 Try.ntmps148 (by simp) fun hwf => ?_
        simp only [D.wfs, D.wf, ints_length, ints_wfs, rows_length, rows_wfs, capMax, and_true, true_and] at hwf
        repeat' (first | simp only [go_sem, Nat.reduceEqDiff, Nat.reduceAdd, Nat.reduceLT, Nat.reduceMul, Nat.reduceSub, ↓reduceIte, reduceCtorEq, Nat.reduceLeDiff, Nat.reduceBEq, Int.reduceBEq, Int.reduceBNe, Int.reduceLT, Int.reduceLE, Int.reduceToNat, Int.reduceGT, Int.reduceGE, Int.reduceEq, Int.reducePow, Nat.reducePow, hbe, gl_nil, Ret_eq Try.results148] | simp (disch := omega) only [arith, IntKind.bits, capMax, fill_len, elt_fill] | (with_reducible refine condI_beq (fun hq hqb => ?_) (fun hq hqb => ?_) <;> simp only [KP_mk, hqb]) | (with_reducible refine condI_bne (fun hq hqb => ?_) (fun hq hqb => ?_) <;> simp only [KP_mk, hqb]) | (with_reducible refine condI_dec (fun hq hqb => ?_) (fun hq hqb => ?_) <;> simp only [KP_mk, hqb]) | (with_reducible refine condI_b (fun hqb => ?_) (fun hqb => ?_) <;> simp only [KP_mk, hqb]) | refine RetO_calc Try.results148 ?_ | (refine Again.up (by omega) ?_ ?_) | exact trivial | (refine opCallI_rd (by simp only [go_sem, Nat.reduceEqDiff, Nat.reduceAdd, Nat.reduceLT, Nat.reduceMul, Nat.reduceSub, ↓reduceIte, reduceCtorEq, Nat.reduceLeDiff, Nat.reduceBEq, Int.reduceBEq, Int.reduceBNe, Int.reduceLT, Int.reduceLE, Int.reduceToNat, Int.reduceGT, Int.reduceGE, Int.reduceEq, Int.reducePow, Nat.reducePow, hbe, gl_nil, Ret_eq Try.results148]; first | done | rfl) (hck) (by rintro _ rfl; rfl) ?_; rintro _ rfl) | (refine opCallI_gv (by simp only [go_sem, Nat.reduceEqDiff, Nat.reduceAdd, Nat.reduceLT, Nat.reduceMul, Nat.reduceSub, ↓reduceIte, reduceCtorEq, Nat.reduceLeDiff, Nat.reduceBEq, Int.reduceBEq, Int.reduceBNe, Int.reduceLT, Int.reduceLE, Int.reduceToNat, Int.reduceGT, Int.reduceGE, Int.reduceEq, Int.reducePow, Nat.reducePow, hbe, gl_nil, Ret_eq Try.results148]; first | done | rfl) (hck) ?_; rintro _ rfl) | fail)
    · have he : coderErr c = 1 := if_neg (fun q : coderOk c => h1 (if_pos q))
      rw [he] at hck
      refine Fun.of_awpI Try.func148 rfl cal148 Try.ntmps148 (by simp) fun hwf => ?_
      simp only [D.wfs, D.wf, ints_length, ints_wfs, rows_length, rows_wfs, capMax, and_true, true_and] at hwf
      repeat' (first | simp only [go_sem, Nat.reduceEqDiff, Nat.reduceAdd, Nat.reduceLT, Nat.reduceMul, Nat.reduceSub, ↓reduceIte, reduceCtorEq, Nat.reduceLeDiff, Nat.reduceBEq, Int.reduceBEq, Int.reduceBNe, Int.reduceLT, Int.reduceLE, Int.reduceToNat, Int.reduceGT, Int.reduceGE, Int.reduceEq, Int.reducePow, Nat.reducePow, gl_nil, Ret_eq Try.results148] | simp (disch := omega) only [arith, IntKind.bits, capMax, fill_len, elt_fill] | (with_reducible refine condI_beq (fun hq hqb => ?_) (fun hq hqb => ?_) <;> simp only [KP_mk, hqb]) | (with_reducible refine condI_bne (fun hq hqb => ?_) (fun hq hqb => ?_) <;> simp only [KP_mk, hqb]) | (with_reducible refine condI_dec (fun hq hqb => ?_) (fun hq hqb => ?_) <;> simp only [KP_mk, hqb]) | (with_reducible refine condI_b (fun hqb => ?_) (fun hqb => ?_) <;> simp only [KP_mk, hqb]) | refine RetO_calc Try.results148 ?_ | (refine Again.up (by omega) ?_ ?_) | exact trivial | (refine opCallI_rd (by simp only [go_sem, Nat.reduceEqDiff, Nat.reduceAdd, Nat.reduceLT, Nat.reduceMul, Nat.reduceSub, ↓reduceIte, reduceCtorEq, Nat.reduceLeDiff, Nat.reduceBEq, Int.reduceBEq, Int.reduceBNe, Int.reduceLT, Int.reduceLE, Int.reduceToNat, Int.reduceGT, Int.reduceGE, Int.reduceEq, Int.reducePow, Nat.reducePow, gl_nil, Ret_eq Try.results148]; first | done | rfl) (hck) (by rintro _ rfl; rfl) ?_; rintro _ rfl) | (refine opCallI_gv (by simp only [go_sem, Nat.reduceEqDiff, Nat.reduceAdd, Nat.reduceLT, Nat.reduceMul, Nat.reduceSub, ↓reduceIte, reduceCtorEq, Nat.reduceLeDiff, Nat.reduceBEq, Int.reduceBEq, Int.reduceBNe, Int.reduceLT, Int.reduceLE, Int.reduceToNat, Int.reduceGT, Int.reduceGE, Int.reduceEq, Int.reducePow, Nat.reducePow, gl_nil, Ret_eq Try.results148]; first | done | rfl) (hck) ?_; rintro _ rfl) | fail)
def stepC (dim : Int) (ids : List Int) (vecs : List (List Int)) (w : Int) (cuts : List (List Int)) : Coder := ⟨dim, ids, vecs, w, cuts, w, cuts, ids.length⟩

theorem step_fun (l : List CodeV) (dim : Int) (ids : List Int) (vecs : List (List Int)) (w : Int) (cuts : List (List Int)) (f m : Int) (hr : I16r vecs) (hB : ∀ x ∈ l, x.2.length ≤ 300) :
    Fun Try.prog 101 [.lst (gl codeD l), slotsD dim ids vecs, .agg [.v (.int .i64 w), .lst (rows .i16 cuts)], .v (.int .i64 f), .v (.int .i64 m)] fun r =>
    r = .tup [.lst (gl codeD (writeOut (stepC dim ids vecs w cuts) l f m)), .v (.int .i64 (writeErr (stepC dim ids vecs w cuts) l f m))] := by
  have hw := write_fun (stepC dim ids vecs w cuts) l f m hr hB
  unfold coderD at hw
  generalize writeOut (stepC dim ids vecs w cuts) l f m = O at *
  generalize writeErr (stepC dim ids vecs w cuts) l f m = E at *
  simp only [stepC] at hw
  refine Fun.of_awpI Try.func101 rfl cal101 Try.ntmps101 (by simp) fun hwf => ?_
  simp only [D.wfs, D.wf, ints_length, ints_wfs, rows_length, rows_wfs, capMax, and_true, true_and] at hwf
  repeat' (first | simp only [go_sem, Nat.reduceEqDiff, Nat.reduceAdd, Nat.reduceLT, Nat.reduceMul, Nat.reduceSub, ↓reduceIte, reduceCtorEq, Nat.reduceLeDiff, Nat.reduceBEq, Int.reduceBEq, Int.reduceBNe, Int.reduceLT, Int.reduceLE, Int.reduceToNat, Int.reduceGT, Int.reduceGE, Int.reduceEq, Int.reducePow, Nat.reducePow, Ret_eq Try.results101] | simp (disch := omega) only [arith, IntKind.bits, capMax, fill_len, elt_fill] | (with_reducible refine condI_beq (fun hq hqb => ?_) (fun hq hqb => ?_) <;> simp only [KP_mk, hqb]) | (with_reducible refine condI_bne (fun hq hqb => ?_) (fun hq hqb => ?_) <;> simp only [KP_mk, hqb]) | (with_reducible refine condI_dec (fun hq hqb => ?_) (fun hq hqb => ?_) <;> simp only [KP_mk, hqb]) | (with_reducible refine condI_b (fun hqb => ?_) (fun hqb => ?_) <;> simp only [KP_mk, hqb]) | refine RetO_calc Try.results101 ?_ | (refine Again.up (by omega) ?_ ?_) | exact trivial | (refine opCallI_rd (by simp only [go_sem, Nat.reduceEqDiff, Nat.reduceAdd, Nat.reduceLT, Nat.reduceMul, Nat.reduceSub, ↓reduceIte, reduceCtorEq, Nat.reduceLeDiff, Nat.reduceBEq, Int.reduceBEq, Int.reduceBNe, Int.reduceLT, Int.reduceLE, Int.reduceToNat, Int.reduceGT, Int.reduceGE, Int.reduceEq, Int.reducePow, Nat.reducePow, Ret_eq Try.results101]; first | done | rfl) (hw) (by rintro _ rfl; rfl) ?_; rintro _ rfl) | (refine opCallI_gv (by simp only [go_sem, Nat.reduceEqDiff, Nat.reduceAdd, Nat.reduceLT, Nat.reduceMul, Nat.reduceSub, ↓reduceIte, reduceCtorEq, Nat.reduceLeDiff, Nat.reduceBEq, Int.reduceBEq, Int.reduceBNe, Int.reduceLT, Int.reduceLE, Int.reduceToNat, Int.reduceGT, Int.reduceGE, Int.reduceEq, Int.reducePow, Nat.reducePow, Ret_eq Try.results101]; first | done | rfl) (hw) ?_; rintro _ rfl) | fail)
end Go.Proofs.Ytfmeiapglpphpaa.T
