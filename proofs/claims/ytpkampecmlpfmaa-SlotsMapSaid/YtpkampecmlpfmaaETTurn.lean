import Derived.Test.YtpkampecmlpfmaaLE
import Derived.Test.YtpkampecmlpfmaaETWalk
set_option linter.unusedSimpArgs false
set_option linter.unusedVariables false
/- Vectors turned, walked. -/
namespace Go.Proofs.Ytpkampecmlpfmaa.T
open Go Go.VL Go.Proofs
set_option maxRecDepth 100000
set_option maxHeartbeats 4000000
/-- The first k pairs turned. -/
def outK (v : List Int) (w k : Nat) : List Int := (List.range v.length).map fun i => if i < 2 * k then turnAt v w i else v.getD i 0
theorem outK_length {v : List Int} {w k : Nat} : (outK v w k).length = v.length := by simp [outK]
theorem outK_getD {v : List Int} {w k i : Nat} (h : i < v.length) : (outK v w k).getD i 0 = if i < 2 * k then turnAt v w i else v.getD i 0 := getD_map_range h
theorem outK_zero {v : List Int} {w : Nat} : outK v w 0 = v := by
  refine ext_getD (d := 0) outK_length fun i hi => ?_
  rw [outK_length] at hi
  rw [outK_getD hi, if_neg (by omega)]
theorem outK_end {v : List Int} {w k : Nat} (h : k = 31 ∨ ¬ 2 * k + 1 < v.length) : outK v w k = turnL v w := by
  refine ext_getD (d := 0) (by rw [outK_length, turnL_length]) fun i hi => ?_
  rw [outK_length] at hi
  rw [outK_getD hi, turnL_getD hi]
  split
  · rfl
  · unfold turnAt
    rw [if_neg (by omega)]
theorem getD_set {l : List Int} {i j : Nat} {x d : Int} (h : i < l.length) : (l.set j x).getD i d = if i = j then x else l.getD i d := by
  by_cases hij : i = j
  · subst hij; simp [List.getD, h]
  · rw [if_neg hij]; simp [List.getD, List.getElem?_set_ne (Ne.symm hij)]
theorem turnAt_even {v : List Int} {w k : Nat} (h : 2 * k + 1 < v.length) (hk : k < 31) : turnAt v w (2 * k) = rx (dg w k) (v.getD (2 * k) 0) (v.getD (2 * k + 1) 0) := by
  unfold turnAt
  rw [show 2 * k / 2 = k by omega, if_pos (by omega), if_pos (by omega)]
theorem turnAt_odd {v : List Int} {w k : Nat} (h : 2 * k + 1 < v.length) (hk : k < 31) : turnAt v w (2 * k + 1) = ry (dg w k) (v.getD (2 * k) 0) (v.getD (2 * k + 1) 0) := by
  unfold turnAt
  rw [show (2 * k + 1) / 2 = k by omega, if_pos (by omega), if_neg (by omega), show 2 * k + 1 - 1 = 2 * k by omega]
theorem outK_succ {v : List Int} {w k : Nat} (h : 2 * k + 1 < v.length) (hk : k < 31) :
    ((outK v w k).set (2 * k) (rx (dg w k) (v.getD (2 * k) 0) (v.getD (2 * k + 1) 0))).set (2 * k + 1) (ry (dg w k) (v.getD (2 * k) 0) (v.getD (2 * k + 1) 0)) = outK v w (k + 1) := by
  refine ext_getD (d := 0) (by simp [outK_length]) fun i hi => ?_
  rw [List.length_set, List.length_set, outK_length] at hi
  rw [getD_set (by simp [outK_length]; omega), getD_set (by rw [outK_length]; omega), outK_getD hi, outK_getD hi]
  by_cases h1 : i = 2 * k + 1
  · subst h1; rw [if_pos rfl, if_pos (by omega), turnAt_odd h hk]
  · rw [if_neg h1]
    by_cases h2 : i = 2 * k
    · subst h2; rw [if_pos rfl, if_pos (by omega), turnAt_even h hk]
    · rw [if_neg h2]
      by_cases h3 : i < 2 * k
      · rw [if_pos h3, if_pos (by omega)]
      · rw [if_neg h3, if_neg (by omega)]
theorem outK_here {v : List Int} {w k : Nat} (h : 2 * k + 1 < v.length) : (outK v w k).getD (2 * k) 0 = v.getD (2 * k) 0 ∧ (outK v w k).getD (2 * k + 1) 0 = v.getD (2 * k + 1) 0 :=
  ⟨by rw [outK_getD (by omega), if_neg (by omega)], by rw [outK_getD h, if_neg (by omega)]⟩
theorem turnErr_iff {v : List Int} {w : Int} : turnErr v w = 0 ↔ vecErr v = 0 ∧ 0 ≤ w ∧ w ≤ maxTwist := by
  unfold turnErr
  split
  · exact ⟨fun _ => by assumption, fun _ => rfl⟩
  · constructor
    · intro h; cases h
    · intro h; contradiction
theorem turnErr_bad {v : List Int} {w : Int} (h : ¬ (vecErr v = 0 ∧ 0 ≤ w ∧ w ≤ maxTwist)) : turnErr v w = 1 := if_neg h
theorem turnOut_bad {v : List Int} {w : Int} (h : ¬ (vecErr v = 0 ∧ 0 ≤ w ∧ w ≤ maxTwist)) : turnOut v w = [] := by
  unfold turnOut
  rw [turnErr_bad h]; rfl
theorem turnOut_ok {v : List Int} {w : Int} (h : vecErr v = 0 ∧ 0 ≤ w ∧ w ≤ maxTwist) : turnOut v w = turnL v w.toNat := by
  unfold turnOut
  rw [turnErr_iff.2 h]; rfl
theorem dig_run {w k : Nat} (hw : w < 2 ^ 62) : abits .and .i64 ((w : Int).fdiv (2 ^ (2 * k))) 3 = (dg w k : Nat) := by
  have e1 : ((w : Int).fdiv (2 ^ (2 * k))) = ((w / 2 ^ (2 * k) : Nat) : Int) := by
    rw [Int.fdiv_eq_ediv_of_nonneg _ (Int.le_of_lt (Int.pow_pos (by decide)))]
    rw [show ((2 : Int) ^ (2 * k)) = ((2 ^ (2 * k) : Nat) : Int) by norm_cast]
    rfl
  have h1 : w / 2 ^ (2 * k) < 2 ^ 62 := Nat.lt_of_le_of_lt (Nat.div_le_self _ _) hw
  rw [e1, show (3 : Int) = ((3 : Nat) : Int) from rfl, abits_i64_and h1 (by decide)]
  unfold dg
  rw [show (3 : Nat) = 2 ^ 2 - 1 by decide, Nat.and_two_pow_sub_one_eq_mod, show (4 : Nat) ^ k = 2 ^ (2 * k) by rw [Nat.pow_mul]]
/-- What a pair's turn is as numbers. -/
theorem rot_run {d : Nat} (hd : d < 4) {x y : Int} (hx : -32767 ≤ x ∧ x ≤ 32767) (hy : -32767 ≤ y ∧ y ≤ 32767) :
    ∃ p q, cmulB (FloatKind.f64.nearest x) (FloatKind.f64.nearest y) (U d).1 (U d).2 = some (p, q) ∧ floatToIntVal .f64 p .i16 = some (rx d x y) ∧ floatToIntVal .f64 q .i16 = some (ry d x y) := by
  obtain ⟨i1, i2⟩ := U_ok d hd
  have c1 : (cs d).natAbs ≤ 1 := by unfold cs; split <;> (try split) <;> decide
  have c2 : (sn d).natAbs ≤ 1 := by unfold sn; split <;> (try split) <;> decide
  obtain ⟨p, q, e, j1, j2⟩ := cmul_ok (IV.nearest (z := x) (by omega)) (IV.nearest (z := y) (by omega)) i1 i2 (by omega) (by omega) c1 c2
  obtain ⟨⟨r1, r2⟩, ⟨r3, r4⟩⟩ := rot_range hd hx hy
  have m1 : IntKind.i16.min = -32768 := by decide
  have m2 : IntKind.i16.max = 32767 := by decide
  exact ⟨p, q, e, j1.toInt (k := .i16) (by rw [m1, m2]; unfold rx at r1 r2; omega), j2.toInt (k := .i16) (by rw [m1, m2]; unfold ry at r3 r4; omega)⟩

theorem clone16_fun (v : List Int) (hb : v.length ≤ 500) (h : 1 ≤ v.length) : FunO Try.prog 129 [.lst (ints .i16 v)] fun r o => r = .ref 0 v.length ∧ o = some ⟨23, 1, ints .i16 v⟩ := by
  refine FunO.of_awpI Try.func129 rfl cal129 Try.ntmps129 (by simp) fun hwf => ?_
  simp only [D.wfs, D.wf, ints_length, ints_wfs, rows_length, rows_wfs, capMax, and_true, true_and] at hwf
  simp only [go_sem, Ret_eq Try.results129]
  refine opBinI_isNil (by simp only [factsT46]) fun c hc => ?_
  rw [ints_isNil] at hc
  simp only [go_sem, Ret_eq Try.results129]
  refine condI_split (fun h => ?_) (fun h => ?_)
  · have hb := hc h
    subst hb
    simp at h
  · repeat' (first | simp only [go_sem, h, Ret_eq Try.results129] | simp (disch := omega) only [arith, IntKind.bits, capMax, fill_len, elt_fill] | refine RetO_calc Try.results129 ?_ | fail)

theorem turn_own (v : List Int) (w : Int) (hv : I16s v) : FunO Try.prog 69 [.lst (ints .i16 v), .v (.int .i64 w)] fun r o =>
    (turnErr v w ≠ 0 ∧ r = .tup [.v (.slice none 0 0), .v (.int .i64 (turnErr v w))] ∧ o = none) ∨
    (turnErr v w = 0 ∧ r = .tup [.ref 0 v.length, .v (.int .i64 0)] ∧ o = some ⟨23, 1, ints .i16 (turnL v w.toNat)⟩) := by
  refine FunO.of_awpI Try.func69 rfl cal69 Try.ntmps69 (by simp) fun hwf => ?_
  simp only [D.wfs, D.wf, ints_length, ints_wfs, rows_length, rows_wfs, capMax, and_true, true_and] at hwf
  by_cases hok : vecErr v = 0 ∧ 0 ≤ w ∧ w ≤ maxTwist
  · obtain ⟨q0, q1, q2⟩ := hok
    obtain ⟨q3, q4, q5⟩ := vecOk_iff.1 (vecErr_zero.1 q0)
    have hE : turnErr v w = 0 := turnErr_iff.2 ⟨q0, q1, q2⟩
    have hW := way_even ⟨q1, q2⟩
    have hrange := vecOk_getD hv (vecErr_zero.1 q0)
    obtain ⟨w, rfl⟩ : ∃ n : Nat, w = n := ⟨w.toNat, by omega⟩
    have hw62 : w < 2 ^ 62 := by unfold maxTwist at q2; omega
    clear q5
    repeat' (first | simp only [go_sem, q0, hW, Ret_eq Try.results69] | simp (disch := omega) only [arith, IntKind.bits, capMax, fill_len, elt_fill] | (refine opCallI_rd (by simp only [go_sem, q0, hW, Ret_eq Try.results69]; first | done | rfl) (vecCheck_fun v) (by rintro _ rfl; rfl) ?_; rintro _ rfl) | (refine opCallI_rd (by simp only [go_sem, q0, hW, Ret_eq Try.results69]; first | done | rfl) (odd_fun w) (by rintro _ rfl; rfl) ?_; rintro _ rfl) | (refine opCallI_ownGv (by simp only [go_sem, q0, hW, Ret_eq Try.results69]; first | done | rfl) (clone16_fun v (by omega) (by omega)) ?_; rintro _ _ ⟨rfl, rfl⟩) | fail)
    refine awpI_for 31 (fun k => True) (fun k => [(7, .v (.int .i64 k))]) (fun k => [(17, ⟨23, 1, ints .i16 (outK v w k)⟩)]) [1, 6] [] _ (Weak.refl _) trivial ?_ ?_ ?_
    · simp only [go_sem, Ret_eq Try.results69]
    · simp only [go_sem, Ret_eq Try.results69]
      rw [outK_zero]
    · intro k s hk hQ hs
      simp only [go_sem, Ret_eq Try.results69] at hs
      have hlen : (outK v w k).length = v.length := outK_length
      by_cases hka : k < 31
      · by_cases hkb : 2 * k + 1 < v.length
        · obtain ⟨g1, g2⟩ := outK_here (w := w) hkb
          obtain ⟨p, q, e1, e2, e3⟩ := rot_run (dg_lt w k) (hrange (2 * k)) (hrange (2 * k + 1))
          have e4 := dig_run (k := k) hw62
          have e5 := outK_succ (w := w) hkb hka
          have hlen2 : ((outK v w k).set (2 * k) (rx (dg w k) (v.getD (2 * k) 0) (v.getD (2 * k + 1) 0))).length = v.length := by rw [List.length_set, hlen]
          have t1 : (2 * (k : Int)).toNat = 2 * k := by omega
          have t2 : (2 * (k : Int) + 1).toNat = 2 * k + 1 := by omega
          repeat' (first | simp only [go_sem, hs, t1, t2, e4, g1, g2, e1, e2, e3, e5, List.length_set, hlen, Ret_eq Try.results69] | simp (disch := omega) only [arith, IntKind.bits, capMax, fill_len, elt_fill] | (refine awpI_draw2 (id := 7) (.one false 14 (.one false 15 (.one false 16 (.one false 17 (.one false 18 (.cal 0 [19] (.cal 1 [19] (.cal 2 [19] (.cal 3 [19] (.cal 4 [19] (.cal 5 [19] (.cal 6 [19] (.cal 7 [19] (.cal 8 [19] (.cal 9 [19] (.cal 10 [19] (.cal 11 [19] (.cal 12 [19] (.cal 13 [19] (.only 19 (.one false 20 (.one false 21 .done)))))))))))))))))))))) mixed (by decide +kernel) (by decide +kernel) ?_) | (refine Again.up (by omega) ?_ ?_) | (refine opCallI_rd (by simp only [go_sem, hs, t1, t2, e4, g1, g2, e1, e2, e3, e5, List.length_set, hlen, Ret_eq Try.results69]; first | done | rfl) (unit_fun _ (dg_lt w k)) (by rintro _ rfl; rfl) ?_; rintro _ rfl) | fail)
        · repeat' (first | simp only [go_sem, hs, Ret_eq Try.results69] | simp (disch := omega) only [arith, IntKind.bits, capMax, fill_len, elt_fill] | refine RetO_calc Try.results69 ?_ | fail)
          rw [outK_end (.inr hkb)]
          exact .inr ⟨hE, rfl⟩
      · obtain rfl : k = 31 := by omega
        rw [outK_end (.inl rfl)] at hs
        repeat' (first | simp only [go_sem, hs, Int.cast_ofNat_Int, Ret_eq Try.results69] | simp (disch := omega) only [arith, IntKind.bits, capMax, fill_len, elt_fill] | refine RetO_calc Try.results69 ?_ | fail)
        exact .inr hE
  · have hE := turnErr_bad hok
    rw [hE]
    by_cases hv0 : vecErr v = 0
    · have hw0 : wayErr w = 1 := way_odd (fun h => hok ⟨hv0, h⟩)
      repeat' (first | simp only [go_sem, hw0, Ret_eq Try.results69] | simp (disch := omega) only [arith, IntKind.bits, capMax, fill_len, elt_fill] | refine RetO_calc Try.results69 ?_ | (refine opCallI_rd (by simp only [go_sem, hw0, Ret_eq Try.results69]; first | done | rfl) (vecCheck_fun v) (by rintro _ rfl; rfl) ?_; rintro _ rfl) | (refine opCallI_rd (by simp only [go_sem, hw0, Ret_eq Try.results69]; first | done | rfl) (odd_fun w) (by rintro _ rfl; rfl) ?_; rintro _ rfl) | fail)
      exact .inl (by decide)
    · repeat' (first | simp only [go_sem, Ret_eq Try.results69] | simp (disch := omega) only [arith, IntKind.bits, capMax, fill_len, elt_fill] | refine RetO_calc Try.results69 ?_ | (refine opCallI_rd (by simp only [go_sem, Ret_eq Try.results69]; first | done | rfl) (vecCheck_fun v) (by rintro _ rfl; rfl) ?_; rintro _ rfl) | fail)
      exact .inl (by decide)
theorem turnOut_length {v : List Int} {w : Int} (h : turnErr v w = 0) : (turnOut v w).length = v.length := by
  rw [turnOut_ok (turnErr_iff.1 h), turnL_length]
theorem turnErr_one {v : List Int} {w : Int} (h : turnErr v w ≠ 0) : turnErr v w = 1 ∧ turnOut v w = [] :=
  ⟨turnErr_bad fun h' => h (turnErr_iff.2 h'), turnOut_bad fun h' => h (turnErr_iff.2 h')⟩
theorem turn_uni (v : List Int) (w : Int) (hv : I16s v) : FunO Try.prog 69 [.lst (ints .i16 v), .v (.int .i64 w)] fun r o => r = .tup [.ref 0 (turnOut v w).length, .v (.int .i64 (turnErr v w))] ∧ o = some ⟨23, 1, ints .i16 (turnOut v w)⟩ := by
  refine (turn_own v w hv).uni 0 23 (S := 1) (by decide) ?_
  rintro r o (⟨h1, rfl, rfl⟩ | ⟨h1, rfl, rfl⟩)
  · obtain ⟨e1, e2⟩ := turnErr_one h1
    refine .inl ⟨_, rfl, rfl, rfl, ?_, ?_⟩
    · rw [e2, e1]; rfl
    · rw [e2]; rfl
  · exact .inr ⟨by rw [turnOut_length h1, h1], by rw [turnOut_ok (turnErr_iff.1 h1)]⟩
theorem turn_fun (v : List Int) (w : Int) (hv : I16s v) : Fun Try.prog 69 [.lst (ints .i16 v), .v (.int .i64 w)] fun r => r = .tup [.lst (ints .i16 (turnOut v w)), .v (.int .i64 (turnErr v w))] := by
  refine (turn_uni v w hv).toFun ?_
  rintro r o ⟨rfl, rfl⟩
  simp only [ints_nrms, ints_width1, D.frz, D.frzs, D.noRef, D.noRefs, D.nrm, D.nrms, nilV, ints_length, Nat.le_refl, ints_take, ints_noRefs, List.take_length, Bool.and_self, Bool.false_eq_true, if_true, if_false, and_self]
theorem turnOut_i16 {v : List Int} {w : Int} (hv : I16s v) : I16s (turnOut v w) := by
  unfold turnOut
  split
  · rename_i h
    exact (turnL_ok hv (vecErr_zero.1 (turnErr_iff.1 h).1) _).2
  · intro x hx; cases hx
end Go.Proofs.Ytpkampecmlpfmaa.T
