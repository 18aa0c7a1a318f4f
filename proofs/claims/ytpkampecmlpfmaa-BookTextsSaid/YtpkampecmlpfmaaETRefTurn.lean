import Derived.Test.YtpkampecmlpfmaaLE
import Derived.Test.YtpkampecmlpfmaaETRef
import Derived.Test.YtpkampecmlpfmaaETCopy
set_option linter.unusedSimpArgs false
set_option linter.unusedVariables false
/- The document's turned vectors, walked. -/
namespace Go.Proofs.Ytpkampecmlpfmaa.T
open Go Go.VL Go.Proofs
set_option maxRecDepth 100000
set_option maxHeartbeats 4000000
def rotS (L : List Int) (k : Nat) (p q : Int) : List Int := (L.set (2 * k) p).set (2 * k + 1) q
theorem rotS_length {L : List Int} {k : Nat} {p q : Int} : (rotS L k p q).length = L.length := by simp [rotS]
theorem rotS_x {L : List Int} {k : Nat} {p q : Int} (h : 2 * k + 1 < L.length) : (rotS L k p q).getD (2 * k) 0 = p := by
  unfold rotS; rw [getD_set (by simp; omega), if_neg (by omega), getD_set (by omega), if_pos rfl]
theorem rotS_y {L : List Int} {k : Nat} {p q : Int} (h : 2 * k + 1 < L.length) : (rotS L k p q).getD (2 * k + 1) 0 = q := by
  unfold rotS; rw [getD_set (by simp; omega), if_pos rfl]
theorem rotS_setx {L : List Int} {k : Nat} {p q p' : Int} : (rotS L k p q).set (2 * k) p' = rotS L k p' q := by
  unfold rotS; rw [List.set_comm _ _ (by omega : 2 * k + 1 ≠ 2 * k), List.set_set]
theorem rotS_sety {L : List Int} {k : Nat} {p q q' : Int} : (rotS L k p q).set (2 * k + 1) q' = rotS L k p q' := by
  unfold rotS; rw [List.set_set]
theorem rotS_same {v : List Int} {w k : Nat} (h : 2 * k + 1 < v.length) : rotS (outK v w k) k (v.getD (2 * k) 0) (v.getD (2 * k + 1) 0) = outK v w k := by
  refine ext_getD (d := 0) rotS_length fun i hi => ?_
  rw [rotS_length, outK_length] at hi
  unfold rotS
  obtain ⟨g1, g2⟩ := outK_here (w := w) h
  rw [getD_set (by simp [outK_length]; omega), getD_set (by rw [outK_length]; omega)]
  by_cases h1 : i = 2 * k + 1
  · subst h1; rw [if_pos rfl, g2]
  · rw [if_neg h1]
    by_cases h2 : i = 2 * k
    · subst h2; rw [if_pos rfl, g1]
    · rw [if_neg h2]
theorem rot_zero (x y : Int) : rx 0 x y = x ∧ ry 0 x y = y := by simp [rx, ry, cs, sn]
theorem rot_step {j : Nat} (h : j < 3) (x y : Int) : rx (j + 1) x y = - ry j x y ∧ ry (j + 1) x y = rx j x y := by
  have : j = 0 ∨ j = 1 ∨ j = 2 := by omega
  rcases this with rfl | rfl | rfl <;> simp [rx, ry, cs, sn]

theorem refTurn_own (v : List Int) (w : Int) (hv : I16s v) : FunO Try.prog 126 [.lst (ints .i16 v), .v (.int .i64 w)] fun r o =>
    (turnErr v w ≠ 0 ∧ r = .tup [.v (.slice none 0 0), .v (.int .i64 (turnErr v w))] ∧ o = none) ∨
    (turnErr v w = 0 ∧ r = .tup [.ref 0 v.length, .v (.int .i64 0)] ∧ o = some ⟨23, 1, ints .i16 (turnL v w.toNat)⟩) := by
  refine FunO.of_awpI Try.func126 rfl cal126 Try.ntmps126 (by simp) fun hwf => ?_
  simp only [D.wfs, D.wf, ints_length, ints_wfs, rows_length, rows_wfs, capMax, and_true, true_and] at hwf
  by_cases hok : vecErr v = 0 ∧ 0 ≤ w ∧ w ≤ maxTwist
  · obtain ⟨q0, q1, q2⟩ := hok
    obtain ⟨q3, q4, q5⟩ := vecOk_iff.1 (vecErr_zero.1 q0)
    have hE : turnErr v w = 0 := turnErr_iff.2 ⟨q0, q1, q2⟩
    have hW := way_even ⟨q1, q2⟩
    have hrange := vecOk_getD hv (vecErr_zero.1 q0)
    obtain ⟨w, rfl⟩ : ∃ n : Nat, w = n := ⟨w.toNat, by omega⟩
    have hw62 : w < 2 ^ 62 := by unfold maxTwist at q2; omega
    clear q5
    have hdl := dl_length (f := dg w) (n := 31)
    repeat' (first | simp only [go_sem, q0, hW, Ret_eq Try.results126] | simp (disch := omega) only [arith, IntKind.bits, capMax, fill_len, elt_fill] | (with_reducible refine condI_beq (fun hq hqb => ?_) (fun hq hqb => ?_) <;> simp only [KP_mk, hqb]) | (with_reducible refine condI_bne (fun hq hqb => ?_) (fun hq hqb => ?_) <;> simp only [KP_mk, hqb]) | (with_reducible refine condI_dec (fun hq hqb => ?_) (fun hq hqb => ?_) <;> simp only [KP_mk, hqb]) | (with_reducible refine condI_b (fun hqb => ?_) (fun hqb => ?_) <;> simp only [KP_mk, hqb]) | refine RetO_calc Try.results126 ?_ | refine RetL_calc Try.results126 rfl ?_ | (refine Again.up (by omega) ?_ ?_) | exact trivial | (refine opCallI_rd (by simp only [go_sem, q0, hW, Ret_eq Try.results126]; first | done | rfl) (refVecCheck_fun v) (by rintro _ rfl; rfl) ?_; rintro _ rfl) | (refine opCallI_gv (by simp only [go_sem, q0, hW, Ret_eq Try.results126]; first | done | rfl) (refVecCheck_fun v) ?_; rintro _ rfl) | (refine opCallI_rd (by simp only [go_sem, q0, hW, Ret_eq Try.results126]; first | done | rfl) (may_fun w) (by rintro _ rfl; rfl) ?_; rintro _ rfl) | (refine opCallI_gv (by simp only [go_sem, q0, hW, Ret_eq Try.results126]; first | done | rfl) (may_fun w) ?_; rintro _ rfl) | (refine opCallI_ownGv (by simp only [go_sem, q0, hW, Ret_eq Try.results126]; first | done | rfl) (copy16_fun v (by omega)) ?_; rintro _ _ ⟨rfl, rfl⟩) | (refine opCallI_ownGv (by simp only [go_sem, q0, hW, Ret_eq Try.results126]; first | done | rfl) (digits_fun w hw62) ?_; rintro _ _ ⟨rfl, rfl⟩) | fail)
    refine awpI_for 31 (fun k => True) (fun k => [(23, .v (.int .i64 k))]) (fun k => [(19, ⟨23, 1, ints .i16 (outK v w k)⟩)]) [0, 6, 21, 22] [21] _ (Weak.refl _) trivial ?_ ?_ ?_
    · simp only [go_sem, Ret_eq Try.results126]
    · simp only [go_sem, Ret_eq Try.results126]
      rw [outK_zero]
    · intro k s hk hQ hs
      simp only [go_sem, Ret_eq Try.results126] at hs
      by_cases hka : k < 31
      · have e1 := dl_getD (f := dg w) hka
        by_cases hkb : 2 * k + 1 < v.length
        · have hlen : (outK v w k).length = v.length := outK_length
          have hd := dg_lt w k
          have e5 : rotS (outK v w k) k (rx (dg w k) (v.getD (2 * k) 0) (v.getD (2 * k + 1) 0)) (ry (dg w k) (v.getD (2 * k) 0) (v.getD (2 * k + 1) 0)) = outK v w (k + 1) := outK_succ (w := w) hkb hka
          have t1 : (2 * (k : Int)).toNat = 2 * k := by omega
          have t2 : (2 * (k : Int) + 1).toNat = 2 * k + 1 := by omega
          have e6 := rotS_same (w := w) hkb
          have hrot := fun j (hj : j < 4) => rot_range hj (hrange (2 * k)) (hrange (2 * k + 1))
          generalize hL : outK v w k = L at *
          generalize dg w k = d at *
          generalize v.getD (2 * k) 0 = x at *
          generalize v.getD (2 * k + 1) 0 = y at *
          repeat' (first | simp only [go_sem, hs, e1, hdl, Ret_eq Try.results126] | simp (disch := omega) only [arith, IntKind.bits, capMax, fill_len, elt_fill] | (with_reducible refine condI_beq (fun hq hqb => ?_) (fun hq hqb => ?_) <;> simp only [KP_mk, hqb]) | (with_reducible refine condI_bne (fun hq hqb => ?_) (fun hq hqb => ?_) <;> simp only [KP_mk, hqb]) | (with_reducible refine condI_dec (fun hq hqb => ?_) (fun hq hqb => ?_) <;> simp only [KP_mk, hqb]) | (with_reducible refine condI_b (fun hqb => ?_) (fun hqb => ?_) <;> simp only [KP_mk, hqb]) | refine RetO_calc Try.results126 ?_ | refine RetL_calc Try.results126 rfl ?_ | (refine Again.up (by omega) ?_ ?_) | exact trivial | fail)
          refine awpI_for d (fun k => True) (fun j => [(35, .v (.int .i64 j))]) (fun j => [(19, ⟨23, 1, ints .i16 (rotS L k (rx j x y) (ry j x y))⟩)]) [0, 6, 7, 21, 22, 23, 34] [21] _ (Weak.refl _) trivial ?_ ?_ ?_
          · simp only [go_sem, Ret_eq Try.results126]
          · have z1 := (rot_zero x y).1
            have z2 := (rot_zero x y).2
            simp only [go_sem, hs, z1, z2, e6, Ret_eq Try.results126]
          · intro j s2 hj _ hs2
            simp only [go_sem, hs, Ret_eq Try.results126] at hs2
            obtain ⟨r1, r2⟩ := hrot j (by omega)
            have hlj : (rotS L k (rx j x y) (ry j x y)).length = v.length := by rw [rotS_length, hlen]
            have gx : (rotS L k (rx j x y) (ry j x y)).getD (2 * k) 0 = rx j x y := rotS_x (by omega)
            have gy : (rotS L k (rx j x y) (ry j x y)).getD (2 * k + 1) 0 = ry j x y := rotS_y (by omega)
            by_cases hja : j < d
            · obtain ⟨n1, n2⟩ := rot_step (j := j) (by omega) x y
              have hlj2 : (rotS L k (-(ry j x y)) (ry j x y)).length = v.length := by rw [rotS_length, hlen]
              repeat' (first | simp only [go_sem, hs, hs2, gx, gy, rotS_setx, rotS_sety, t1, t2, n1, n2, Int.zero_sub, Ret_eq Try.results126] | simp (disch := omega) only [arith, IntKind.bits, capMax, fill_len, elt_fill] | (with_reducible refine condI_beq (fun hq hqb => ?_) (fun hq hqb => ?_) <;> simp only [KP_mk, hqb]) | (with_reducible refine condI_bne (fun hq hqb => ?_) (fun hq hqb => ?_) <;> simp only [KP_mk, hqb]) | (with_reducible refine condI_dec (fun hq hqb => ?_) (fun hq hqb => ?_) <;> simp only [KP_mk, hqb]) | (with_reducible refine condI_b (fun hqb => ?_) (fun hqb => ?_) <;> simp only [KP_mk, hqb]) | refine RetO_calc Try.results126 ?_ | refine RetL_calc Try.results126 rfl ?_ | (refine Again.up (by omega) ?_ ?_) | exact trivial | fail)
            · obtain rfl : j = d := by omega
              rw [e5] at hs2
              repeat' (first | simp only [go_sem, hs, hs2, Ret_eq Try.results126] | simp (disch := omega) only [arith, IntKind.bits, capMax, fill_len, elt_fill] | (with_reducible refine condI_beq (fun hq hqb => ?_) (fun hq hqb => ?_) <;> simp only [KP_mk, hqb]) | (with_reducible refine condI_bne (fun hq hqb => ?_) (fun hq hqb => ?_) <;> simp only [KP_mk, hqb]) | (with_reducible refine condI_dec (fun hq hqb => ?_) (fun hq hqb => ?_) <;> simp only [KP_mk, hqb]) | (with_reducible refine condI_b (fun hqb => ?_) (fun hqb => ?_) <;> simp only [KP_mk, hqb]) | refine RetO_calc Try.results126 ?_ | refine RetL_calc Try.results126 rfl ?_ | (refine Again.up (by omega) ?_ ?_) | exact trivial | fail)
        · repeat' (first | simp only [go_sem, hs, e1, hdl, Ret_eq Try.results126] | simp (disch := omega) only [arith, IntKind.bits, capMax, fill_len, elt_fill] | (with_reducible refine condI_beq (fun hq hqb => ?_) (fun hq hqb => ?_) <;> simp only [KP_mk, hqb]) | (with_reducible refine condI_bne (fun hq hqb => ?_) (fun hq hqb => ?_) <;> simp only [KP_mk, hqb]) | (with_reducible refine condI_dec (fun hq hqb => ?_) (fun hq hqb => ?_) <;> simp only [KP_mk, hqb]) | (with_reducible refine condI_b (fun hqb => ?_) (fun hqb => ?_) <;> simp only [KP_mk, hqb]) | refine RetO_calc Try.results126 ?_ | refine RetL_calc Try.results126 rfl ?_ | (refine Again.up (by omega) ?_ ?_) | exact trivial | fail)
          rw [outK_end (.inr hkb)]
          exact .inr ⟨hE, rfl⟩
      · obtain rfl : k = 31 := by omega
        rw [outK_end (.inl rfl)] at hs
        repeat' (first | simp only [go_sem, hs, Int.cast_ofNat_Int, Ret_eq Try.results126] | simp (disch := omega) only [arith, IntKind.bits, capMax, fill_len, elt_fill] | (with_reducible refine condI_beq (fun hq hqb => ?_) (fun hq hqb => ?_) <;> simp only [KP_mk, hqb]) | (with_reducible refine condI_bne (fun hq hqb => ?_) (fun hq hqb => ?_) <;> simp only [KP_mk, hqb]) | (with_reducible refine condI_dec (fun hq hqb => ?_) (fun hq hqb => ?_) <;> simp only [KP_mk, hqb]) | (with_reducible refine condI_b (fun hqb => ?_) (fun hqb => ?_) <;> simp only [KP_mk, hqb]) | refine RetO_calc Try.results126 ?_ | refine RetL_calc Try.results126 rfl ?_ | (refine Again.up (by omega) ?_ ?_) | exact trivial | fail)
        exact .inr hE
  · have hE := turnErr_bad hok
    rw [hE]
    by_cases hv0 : vecErr v = 0
    · have hw0 : wayErr w = 1 := way_odd (fun h => hok ⟨hv0, h⟩)
      repeat' (first | simp only [go_sem, hw0, Ret_eq Try.results126] | simp (disch := omega) only [arith, IntKind.bits, capMax, fill_len, elt_fill] | (with_reducible refine condI_beq (fun hq hqb => ?_) (fun hq hqb => ?_) <;> simp only [KP_mk, hqb]) | (with_reducible refine condI_bne (fun hq hqb => ?_) (fun hq hqb => ?_) <;> simp only [KP_mk, hqb]) | (with_reducible refine condI_dec (fun hq hqb => ?_) (fun hq hqb => ?_) <;> simp only [KP_mk, hqb]) | (with_reducible refine condI_b (fun hqb => ?_) (fun hqb => ?_) <;> simp only [KP_mk, hqb]) | refine RetO_calc Try.results126 ?_ | refine RetL_calc Try.results126 rfl ?_ | (refine Again.up (by omega) ?_ ?_) | exact trivial | (refine opCallI_rd (by simp only [go_sem, hw0, Ret_eq Try.results126]; first | done | rfl) (refVecCheck_fun v) (by rintro _ rfl; rfl) ?_; rintro _ rfl) | (refine opCallI_gv (by simp only [go_sem, hw0, Ret_eq Try.results126]; first | done | rfl) (refVecCheck_fun v) ?_; rintro _ rfl) | (refine opCallI_rd (by simp only [go_sem, hw0, Ret_eq Try.results126]; first | done | rfl) (may_fun w) (by rintro _ rfl; rfl) ?_; rintro _ rfl) | (refine opCallI_gv (by simp only [go_sem, hw0, Ret_eq Try.results126]; first | done | rfl) (may_fun w) ?_; rintro _ rfl) | fail)
      exact .inl (by decide)
    · repeat' (first | simp only [go_sem, Ret_eq Try.results126] | simp (disch := omega) only [arith, IntKind.bits, capMax, fill_len, elt_fill] | (with_reducible refine condI_beq (fun hq hqb => ?_) (fun hq hqb => ?_) <;> simp only [KP_mk, hqb]) | (with_reducible refine condI_bne (fun hq hqb => ?_) (fun hq hqb => ?_) <;> simp only [KP_mk, hqb]) | (with_reducible refine condI_dec (fun hq hqb => ?_) (fun hq hqb => ?_) <;> simp only [KP_mk, hqb]) | (with_reducible refine condI_b (fun hqb => ?_) (fun hqb => ?_) <;> simp only [KP_mk, hqb]) | refine RetO_calc Try.results126 ?_ | refine RetL_calc Try.results126 rfl ?_ | (refine Again.up (by omega) ?_ ?_) | exact trivial | (refine opCallI_rd (by simp only [go_sem, Ret_eq Try.results126]; first | done | rfl) (refVecCheck_fun v) (by rintro _ rfl; rfl) ?_; rintro _ rfl) | (refine opCallI_gv (by simp only [go_sem, Ret_eq Try.results126]; first | done | rfl) (refVecCheck_fun v) ?_; rintro _ rfl) | (refine opCallI_rd (by simp only [go_sem, Ret_eq Try.results126]; first | done | rfl) (may_fun w) (by rintro _ rfl; rfl) ?_; rintro _ rfl) | (refine opCallI_gv (by simp only [go_sem, Ret_eq Try.results126]; first | done | rfl) (may_fun w) ?_; rintro _ rfl) | fail)
      exact .inl (by decide)
theorem refTurn_fun (v : List Int) (w : Int) (hv : I16s v) : Fun Try.prog 126 [.lst (ints .i16 v), .v (.int .i64 w)] fun r => r = .tup [.lst (ints .i16 (turnOut v w)), .v (.int .i64 (turnErr v w))] := by
  refine (refTurn_own v w hv).toFun ?_
  rintro r o (⟨h1, rfl, rfl⟩ | ⟨h1, rfl, rfl⟩)
  · obtain ⟨e1, e2⟩ := turnErr_one h1
    rw [e1, e2]; rfl
  · rw [turnOut_ok (turnErr_iff.1 h1), h1]
    have hl := turnL_length (v := v) (w := w.toNat)
    have ht : (turnL v w.toNat).take v.length = turnL v w.toNat := List.take_of_length_le (by omega)
    simp only [ints_nrms, ints_width1, D.frz, D.frzs, D.noRef, D.noRefs, D.nrm, D.nrms, nilV, ints_length, Nat.le_refl, ints_take, ints_noRefs, Bool.and_self, Bool.false_eq_true, if_true, if_false, and_self, hl, ht]
end Go.Proofs.Ytpkampecmlpfmaa.T
