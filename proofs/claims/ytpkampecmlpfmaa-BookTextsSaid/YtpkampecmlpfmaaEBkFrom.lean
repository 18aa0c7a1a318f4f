import Derived.Test.YtpkampecmlpfmaaLE
import Derived.Test.YtpkampecmlpfmaaEBkTab
set_option linter.unusedSimpArgs false
set_option linter.unusedVariables false
/- A book, read; walked. -/
namespace Go.Proofs.Ytpkampecmlpfmaa.T
open Go Go.VL Go.Proofs
set_option maxRecDepth 100000
set_option maxHeartbeats 8000000

theorem from_fun (t : List Int) (ho : Octets t) (hl : t.length ≤ 140737488355328) : Fun Try.prog 54 [.lst (ints .u8 t)] fun r => r = .tup [bookD (fromW t) (fromC t), .v (.int .i64 (fromE t))] := by
  by_cases h10 : 10 ≤ t.length
  · have o8 := ho (t.getD 8 0) (getD_mem (by omega))
    have o9 := ho (t.getD 9 0) (getD_mem (by omega))
    have d8 : t.getD 8 0 = ((dimT t : Nat) : Int) := by unfold dimT; omega
    have d9 : t.getD 9 0 = ((mnyT t : Nat) : Int) := by unfold mnyT; omega
    have hdm : dimT t * mnyT t ≤ 255 * 255 := Nat.mul_le_mul (by omega) (by omega)
    have t1 := take_fun t 8 1 hl
    have te1 : takeErr t 8 1 = 0 := by unfold takeErr; rw [if_neg (by omega), if_neg (by omega)]
    have to1 : takeOut t 8 1 = [wayT t] := by unfold takeOut; rw [if_pos te1]; rfl
    rw [te1, to1] at t1
    have t2 := take_fun (t.drop 10) 2 ((dimT t * mnyT t : Nat) : Int) (by rw [List.length_drop]; omega)
    have hld : (t.drop 10).length = t.length - 10 := List.length_drop
    have ed : ((dimT t : Nat) : Int) * ((mnyT t : Nat) : Int) = ((dimT t * mnyT t : Nat) : Int) := (Int.natCast_mul _ _).symm
    by_cases hlen : t.length = 10 + 2 * (dimT t * mnyT t)
    · have te2 : takeErr (t.drop 10) 2 ((dimT t * mnyT t : Nat) : Int) = 0 := by unfold takeErr; rw [if_neg (by omega), if_neg (by omega)]
      have to2 : takeOut (t.drop 10) 2 ((dimT t * mnyT t : Nat) : Int) = numsT t := by unfold takeOut; rw [if_pos te2, Int.toNat_natCast]; rfl
      have tr2 : takeRest (t.drop 10) 2 ((dimT t * mnyT t : Nat) : Int) = [] := by
        unfold takeRest; rw [if_pos te2]
        exact List.drop_eq_nil_of_le (by rw [hld, Int.toNat_natCast]; show t.length - 10 ≤ 2 * _; omega)
      rw [te2, to2, tr2, ints_nil] at t2
      have hni := nums_i16 (dimT t * mnyT t) (bs := t.drop 10) (ho.drop 10) (by omega)
      have hni2 : ∀ x ∈ numsT t, -32768 ≤ x ∧ x ≤ 32767 := hni
      have hnl := numsT_length (t := t)
      have hcs := fun k => cutsT_snoc (t := t) (k := k)
      have hcl := cutsT_length (t := t)
      have hqc := quantCheck_fun (wayT t) (cutsT t)
      have hfin : fromOk t ↔ bookErr (wayT t) (cutsT t) = 0 := ⟨fun q => q.2.2, fun q => ⟨h10, hlen, q⟩⟩
      unfold fromW fromC fromE
      simp only [hfin]
      clear hfin hni
      generalize takeRest t 8 1 = R1 at *
      generalize wayT t = w at *
      generalize numsT t = L at *
      generalize cutsT t = C at *
      generalize dimT t = d at *
      generalize mnyT t = m at *
      refine Fun.of_awpI Try.func54 rfl cal54 Try.ntmps54 (by simp) fun hwf => ?_
      simp only [D.wfs, D.wf, ints_length, ints_wfs, rows_length, rows_wfs, capMax, and_true, true_and] at hwf
      repeat' (first | simp only [go_sem, d8, d9, ed, ints_cons, ints_nil, Ret_eq Try.results54] | simp (disch := omega) only [arith, IntKind.bits, capMax, fill_len, elt_fill] | (with_reducible refine condI_beq (fun hq hqb => ?_) (fun hq hqb => ?_) <;> simp only [KP_mk, hqb]) | (with_reducible refine condI_bne (fun hq hqb => ?_) (fun hq hqb => ?_) <;> simp only [KP_mk, hqb]) | (with_reducible refine condI_dec (fun hq hqb => ?_) (fun hq hqb => ?_) <;> simp only [KP_mk, hqb]) | (with_reducible refine condI_b (fun hqb => ?_) (fun hqb => ?_) <;> simp only [KP_mk, hqb]) | refine RetO_calc Try.results54 ?_ | refine RetL_calc Try.results54 rfl ?_ | (refine awpI_draw2 (id := 4) (.one false 0 (.one false 1 (.one false 2 (.one false 3 (.one false 4 (.one false 5 (.one false 6 (.one false 7 (.one false 8 (.one false 9 .done)))))))))) mixed (by decide +kernel) (by decide +kernel) ?_) | (refine awpI_draw2 (id := 8) (.cal 3 [6] (.cal 0 [4, 6] (.cal 1 [4, 6] (.cal 2 [4, 6] (.two 4 6 (.cal 5 [6] (.only 6 (.only 7 .done))) (.only 4 (.one false 5 (.only 7 .done)))))))) mixed (by decide +kernel) (by decide +kernel) ?_) | (refine sch2I_two ?_ ?_) | (refine Again.up (by omega) ?_ ?_) | exact trivial | (refine opCallI_rd (by simp only [go_sem, d8, d9, ed, ints_cons, ints_nil, Ret_eq Try.results54]; first | done | rfl) (t1) (by rintro _ rfl; rfl) ?_; rintro _ rfl) | (refine opCallI_gv (by simp only [go_sem, d8, d9, ed, ints_cons, ints_nil, Ret_eq Try.results54]; first | done | rfl) (t1) ?_; rintro _ rfl) | (refine opCallI_rd (by simp only [go_sem, d8, d9, ed, ints_cons, ints_nil, Ret_eq Try.results54]; first | done | rfl) (t2) (by rintro _ rfl; rfl) ?_; rintro _ rfl) | (refine opCallI_gv (by simp only [go_sem, d8, d9, ed, ints_cons, ints_nil, Ret_eq Try.results54]; first | done | rfl) (t2) ?_; rintro _ rfl) | fail)
      all_goals
        refine awpI_for d (fun k => True) (fun k => [(65, .v (.int .i64 k))]) (fun k => [(60, ⟨22, 1, tab (C.take k) (d - k)⟩)]) [2, 8, 9, 12, 64] [2, 12] _ (Weak.refl _) trivial ?_ ?_ ?_
        · simp only [go_sem, Ret_eq Try.results54]
        · simp only [go_sem, Int.toNat_natCast, List.take_zero, Nat.sub_zero, Ret_eq Try.results54]
        · intro k s hk _ hs
          simp only [go_sem, Ret_eq Try.results54] at hs
          by_cases hka : k < d
          · obtain ⟨q, hq⟩ : ∃ q, d - k = q + 1 := ⟨d - k - 1, by omega⟩
            have hlk : (C.take k).length = k := by rw [List.length_take]; omega
            have e := hcs k hka
            have hts := tab_set (A := C.take k) (id := 69) (len := m) (m := q)
            have htg0 := tab_get (A := C.take k) (m := q)
            rw [hlk] at hts htg0
            rw [hq] at hs
            have hkm : (k + 1) * m ≤ d * m := Nat.mul_le_mul_right m hka
            rw [Nat.succ_mul] at hkm
            have ek : (k : Int) * (m : Int) = ((k * m : Nat) : Int) := (Int.natCast_mul _ _).symm
            repeat' (first | simp only [go_sem, hs, Int.toNat_natCast, Ret_eq Try.results54] | simp (disch := omega) only [arith, IntKind.bits, capMax, fill_len, elt_fill] | (with_reducible refine condI_beq (fun hq hqb => ?_) (fun hq hqb => ?_) <;> simp only [KP_mk, hqb]) | (with_reducible refine condI_bne (fun hq hqb => ?_) (fun hq hqb => ?_) <;> simp only [KP_mk, hqb]) | (with_reducible refine condI_dec (fun hq hqb => ?_) (fun hq hqb => ?_) <;> simp only [KP_mk, hqb]) | (with_reducible refine condI_b (fun hqb => ?_) (fun hqb => ?_) <;> simp only [KP_mk, hqb]) | refine RetO_calc Try.results54 ?_ | refine RetL_calc Try.results54 rfl ?_ | (refine awpI_draw2 (id := 4) (.one false 0 (.one false 1 (.one false 2 (.one false 3 (.one false 4 (.one false 5 (.one false 6 (.one false 7 (.one false 8 (.one false 9 .done)))))))))) mixed (by decide +kernel) (by decide +kernel) ?_) | (refine awpI_draw2 (id := 8) (.cal 3 [6] (.cal 0 [4, 6] (.cal 1 [4, 6] (.cal 2 [4, 6] (.two 4 6 (.cal 5 [6] (.only 6 (.only 7 .done))) (.only 4 (.one false 5 (.only 7 .done)))))))) mixed (by decide +kernel) (by decide +kernel) ?_) | (refine sch2I_two ?_ ?_) | (refine Again.up (by omega) ?_ ?_) | exact trivial | fail)
            refine awpI_for m (fun j => True) (fun j => [(72, .v (.int .i64 j))]) (fun j => [(69, ⟨23, 1, ints .i16 (fill (fun j => L.getD (k * m + j) 0) (List.replicate m 0) j)⟩)]) [2, 8, 9, 12, 13, 14, 64, 65, 71] [2, 12, 60] _ (Weak.refl _) trivial ?_ ?_ ?_
            · simp only [go_sem, hs, Ret_eq Try.results54]
            · simp only [go_sem, fill_zero, hs, Ret_eq Try.results54]
            · intro j s2 hj2 _ hs2
              simp only [go_sem, hs, Ret_eq Try.results54] at hs2
              by_cases hja : j < m
              · have e2 := fill_set (f := fun j => L.getD (k * m + j) 0) (a := List.replicate m 0) (k := j) (by simpa using hja)
                have el : (fill (fun j => L.getD (k * m + j) 0) (List.replicate m 0) j).length = m := by rw [fill_len (by simp; omega)]; simp
                have hkj : k * m + j < L.length := by omega
                have hx := hni2 _ (getD_mem (d := 0) hkj)
                have ew : IntKind.i16.wrap (L.getD (k * m + j) 0) = L.getD (k * m + j) 0 := IntWalk.i16_in _ (by omega)
                have ekj : ((k * m : Nat) : Int) + (j : Int) = ((k * m + j : Nat) : Int) := (Int.natCast_add _ _).symm
                repeat' (first | simp only [go_sem, hs, hs2, ek, ekj, ew, el, e2, Ret_eq Try.results54] | simp (disch := omega) only [arith, IntKind.bits, capMax, fill_len, elt_fill] | (with_reducible refine condI_beq (fun hq hqb => ?_) (fun hq hqb => ?_) <;> simp only [KP_mk, hqb]) | (with_reducible refine condI_bne (fun hq hqb => ?_) (fun hq hqb => ?_) <;> simp only [KP_mk, hqb]) | (with_reducible refine condI_dec (fun hq hqb => ?_) (fun hq hqb => ?_) <;> simp only [KP_mk, hqb]) | (with_reducible refine condI_b (fun hqb => ?_) (fun hqb => ?_) <;> simp only [KP_mk, hqb]) | refine RetO_calc Try.results54 ?_ | refine RetL_calc Try.results54 rfl ?_ | (refine awpI_draw2 (id := 4) (.one false 0 (.one false 1 (.one false 2 (.one false 3 (.one false 4 (.one false 5 (.one false 6 (.one false 7 (.one false 8 (.one false 9 .done)))))))))) mixed (by decide +kernel) (by decide +kernel) ?_) | (refine awpI_draw2 (id := 8) (.cal 3 [6] (.cal 0 [4, 6] (.cal 1 [4, 6] (.cal 2 [4, 6] (.two 4 6 (.cal 5 [6] (.only 6 (.only 7 .done))) (.only 4 (.one false 5 (.only 7 .done)))))))) mixed (by decide +kernel) (by decide +kernel) ?_) | (refine sch2I_two ?_ ?_) | (refine Again.up (by omega) ?_ ?_) | exact trivial | fail)
              · obtain rfl : j = m := by omega
                rw [cutT_fill] at hs2
                have hrl := cutT_length (l := L) (m := j) (i := k)
                have hfz := tabR_frzs (A := C.take k) (id := 69) (m := q) (l := cutT L j k)
                rw [hrl, ← e] at hfz
                repeat' (first | simp only [go_sem, hs, hs2, hts, htg0, Ret_eq Try.results54] | simp (disch := omega) only [arith, IntKind.bits, capMax, fill_len, elt_fill] | (with_reducible refine condI_beq (fun hq hqb => ?_) (fun hq hqb => ?_) <;> simp only [KP_mk, hqb]) | (with_reducible refine condI_bne (fun hq hqb => ?_) (fun hq hqb => ?_) <;> simp only [KP_mk, hqb]) | (with_reducible refine condI_dec (fun hq hqb => ?_) (fun hq hqb => ?_) <;> simp only [KP_mk, hqb]) | (with_reducible refine condI_b (fun hqb => ?_) (fun hqb => ?_) <;> simp only [KP_mk, hqb]) | refine RetO_calc Try.results54 ?_ | refine RetL_calc Try.results54 rfl ?_ | (refine awpI_draw2 (id := 4) (.one false 0 (.one false 1 (.one false 2 (.one false 3 (.one false 4 (.one false 5 (.one false 6 (.one false 7 (.one false 8 (.one false 9 .done)))))))))) mixed (by decide +kernel) (by decide +kernel) ?_) | (refine awpI_draw2 (id := 8) (.cal 3 [6] (.cal 0 [4, 6] (.cal 1 [4, 6] (.cal 2 [4, 6] (.two 4 6 (.cal 5 [6] (.only 6 (.only 7 .done))) (.only 4 (.one false 5 (.only 7 .done)))))))) mixed (by decide +kernel) (by decide +kernel) ?_) | (refine sch2I_two ?_ ?_) | exact trivial | fail)
                refine AgainB_frz 69 ⟨23, 1, ints .i16 (cutT L j k)⟩ (by simp only [go_sem, hs, hs2, Ret_eq Try.results54]) (by simp only [go_sem, Ret_eq Try.results54]) (by simp only [go_sem, Ret_eq Try.results54]) hka trivial ?_
                have hm' : d - (k + 1) = q := by omega
                simp only [go_sem, hs, hs2, hfz, hm', Ret_eq Try.results54]
          · obtain rfl : k = d := by omega
            have htk : C.take k = C := List.take_of_length_le (by omega)
            rw [Nat.sub_self, htk] at hs
            by_cases hb : bookErr w C = 0
            · rw [if_pos hb, if_pos hb, if_pos hb]
              repeat' (first | simp only [go_sem, hs, hb, hcl, tab_end, htk, Ret_eq Try.results54] | simp (disch := omega) only [arith, IntKind.bits, capMax, fill_len, elt_fill] | (with_reducible refine condI_beq (fun hq hqb => ?_) (fun hq hqb => ?_) <;> simp only [KP_mk, hqb]) | (with_reducible refine condI_bne (fun hq hqb => ?_) (fun hq hqb => ?_) <;> simp only [KP_mk, hqb]) | (with_reducible refine condI_dec (fun hq hqb => ?_) (fun hq hqb => ?_) <;> simp only [KP_mk, hqb]) | (with_reducible refine condI_b (fun hqb => ?_) (fun hqb => ?_) <;> simp only [KP_mk, hqb]) | refine RetO_calc Try.results54 ?_ | refine RetL_calc Try.results54 rfl ?_ | (refine awpI_draw2 (id := 4) (.one false 0 (.one false 1 (.one false 2 (.one false 3 (.one false 4 (.one false 5 (.one false 6 (.one false 7 (.one false 8 (.one false 9 .done)))))))))) mixed (by decide +kernel) (by decide +kernel) ?_) | (refine awpI_draw2 (id := 8) (.cal 3 [6] (.cal 0 [4, 6] (.cal 1 [4, 6] (.cal 2 [4, 6] (.two 4 6 (.cal 5 [6] (.only 6 (.only 7 .done))) (.only 4 (.one false 5 (.only 7 .done)))))))) mixed (by decide +kernel) (by decide +kernel) ?_) | (refine sch2I_two ?_ ?_) | (refine Again.up (by omega) ?_ ?_) | exact trivial | (refine opCallI_rd (by simp only [go_sem, hs, hb, hcl, tab_end, htk, Ret_eq Try.results54]; first | done | rfl) (hqc) (by rintro _ rfl; rfl) ?_; rintro _ rfl) | (refine opCallI_gv (by simp only [go_sem, hs, hb, hcl, tab_end, htk, Ret_eq Try.results54]; first | done | rfl) (hqc) ?_; rintro _ rfl) | fail)
            · rw [if_neg hb, if_neg hb, if_neg hb]
              have hb1 : bookErr w C = 1 := by unfold bookErr at *; split at hb <;> simp_all
              repeat' (first | simp only [go_sem, hs, hb1, hcl, tab_end, htk, rows_nil, Ret_eq Try.results54] | simp (disch := omega) only [arith, IntKind.bits, capMax, fill_len, elt_fill] | (with_reducible refine condI_beq (fun hq hqb => ?_) (fun hq hqb => ?_) <;> simp only [KP_mk, hqb]) | (with_reducible refine condI_bne (fun hq hqb => ?_) (fun hq hqb => ?_) <;> simp only [KP_mk, hqb]) | (with_reducible refine condI_dec (fun hq hqb => ?_) (fun hq hqb => ?_) <;> simp only [KP_mk, hqb]) | (with_reducible refine condI_b (fun hqb => ?_) (fun hqb => ?_) <;> simp only [KP_mk, hqb]) | refine RetO_calc Try.results54 ?_ | refine RetL_calc Try.results54 rfl ?_ | (refine awpI_draw2 (id := 4) (.one false 0 (.one false 1 (.one false 2 (.one false 3 (.one false 4 (.one false 5 (.one false 6 (.one false 7 (.one false 8 (.one false 9 .done)))))))))) mixed (by decide +kernel) (by decide +kernel) ?_) | (refine awpI_draw2 (id := 8) (.cal 3 [6] (.cal 0 [4, 6] (.cal 1 [4, 6] (.cal 2 [4, 6] (.two 4 6 (.cal 5 [6] (.only 6 (.only 7 .done))) (.only 4 (.one false 5 (.only 7 .done)))))))) mixed (by decide +kernel) (by decide +kernel) ?_) | (refine sch2I_two ?_ ?_) | (refine Again.up (by omega) ?_ ?_) | exact trivial | (refine opCallI_rd (by simp only [go_sem, hs, hb1, hcl, tab_end, htk, rows_nil, Ret_eq Try.results54]; first | done | rfl) (hqc) (by rintro _ rfl; rfl) ?_; rintro _ rfl) | (refine opCallI_gv (by simp only [go_sem, hs, hb1, hcl, tab_end, htk, rows_nil, Ret_eq Try.results54]; first | done | rfl) (hqc) ?_; rintro _ rfl) | fail)
              rfl
    · have hno : ¬ fromOk t := fun q => hlen q.2.1
      unfold fromW fromC fromE
      rw [if_neg hno, if_neg hno, if_neg hno]
      by_cases hlt : t.length < 10 + 2 * (dimT t * mnyT t)
      · have te2 : takeErr (t.drop 10) 2 ((dimT t * mnyT t : Nat) : Int) = 2 := by unfold takeErr; rw [if_neg (by omega), if_pos (by omega)]
        have to2 : takeOut (t.drop 10) 2 ((dimT t * mnyT t : Nat) : Int) = [] := by unfold takeOut; rw [if_neg (by rw [te2]; decide)]
        have tr2 : takeRest (t.drop 10) 2 ((dimT t * mnyT t : Nat) : Int) = [] := by unfold takeRest; rw [if_neg (by rw [te2]; decide)]
        rw [te2, to2, tr2] at t2
        generalize takeRest t 8 1 = R1 at *
        generalize dimT t = d at *
        generalize mnyT t = m at *
        refine Fun.of_awpI Try.func54 rfl cal54 Try.ntmps54 (by simp) fun hwf => ?_
        simp only [D.wfs, D.wf, ints_length, ints_wfs, rows_length, rows_wfs, capMax, and_true, true_and] at hwf
        repeat' (first | simp only [go_sem, d8, d9, ed, ints_cons, ints_nil, rows_nil, Ret_eq Try.results54] | simp (disch := omega) only [arith, IntKind.bits, capMax, fill_len, elt_fill] | (with_reducible refine condI_beq (fun hq hqb => ?_) (fun hq hqb => ?_) <;> simp only [KP_mk, hqb]) | (with_reducible refine condI_bne (fun hq hqb => ?_) (fun hq hqb => ?_) <;> simp only [KP_mk, hqb]) | (with_reducible refine condI_dec (fun hq hqb => ?_) (fun hq hqb => ?_) <;> simp only [KP_mk, hqb]) | (with_reducible refine condI_b (fun hqb => ?_) (fun hqb => ?_) <;> simp only [KP_mk, hqb]) | refine RetO_calc Try.results54 ?_ | refine RetL_calc Try.results54 rfl ?_ | (refine awpI_draw2 (id := 4) (.one false 0 (.one false 1 (.one false 2 (.one false 3 (.one false 4 (.one false 5 (.one false 6 (.one false 7 (.one false 8 (.one false 9 .done)))))))))) mixed (by decide +kernel) (by decide +kernel) ?_) | (refine awpI_draw2 (id := 8) (.cal 3 [6] (.cal 0 [4, 6] (.cal 1 [4, 6] (.cal 2 [4, 6] (.two 4 6 (.cal 5 [6] (.only 6 (.only 7 .done))) (.only 4 (.one false 5 (.only 7 .done)))))))) mixed (by decide +kernel) (by decide +kernel) ?_) | (refine sch2I_two ?_ ?_) | (refine Again.up (by omega) ?_ ?_) | exact trivial | (refine opCallI_rd (by simp only [go_sem, d8, d9, ed, ints_cons, ints_nil, rows_nil, Ret_eq Try.results54]; first | done | rfl) (t1) (by rintro _ rfl; rfl) ?_; rintro _ rfl) | (refine opCallI_gv (by simp only [go_sem, d8, d9, ed, ints_cons, ints_nil, rows_nil, Ret_eq Try.results54]; first | done | rfl) (t1) ?_; rintro _ rfl) | (refine opCallI_rd (by simp only [go_sem, d8, d9, ed, ints_cons, ints_nil, rows_nil, Ret_eq Try.results54]; first | done | rfl) (t2) (by rintro _ rfl; rfl) ?_; rintro _ rfl) | (refine opCallI_gv (by simp only [go_sem, d8, d9, ed, ints_cons, ints_nil, rows_nil, Ret_eq Try.results54]; first | done | rfl) (t2) ?_; rintro _ rfl) | fail)
        all_goals rfl
      · have te2 : takeErr (t.drop 10) 2 ((dimT t * mnyT t : Nat) : Int) = 0 := by unfold takeErr; rw [if_neg (by omega), if_neg (by omega)]
        have hrl : 0 < (takeRest (t.drop 10) 2 ((dimT t * mnyT t : Nat) : Int)).length := by
          unfold takeRest; rw [if_pos te2, List.length_drop, hld, Int.toNat_natCast]
          show 0 < t.length - 10 - 2 * (dimT t * mnyT t)
          omega
        rw [te2] at t2
        generalize takeRest (t.drop 10) 2 ((dimT t * mnyT t : Nat) : Int) = R2 at *
        generalize takeOut (t.drop 10) 2 ((dimT t * mnyT t : Nat) : Int) = L2 at *
        generalize takeRest t 8 1 = R1 at *
        generalize dimT t = d at *
        generalize mnyT t = m at *
        refine Fun.of_awpI Try.func54 rfl cal54 Try.ntmps54 (by simp) fun hwf => ?_
        simp only [D.wfs, D.wf, ints_length, ints_wfs, rows_length, rows_wfs, capMax, and_true, true_and] at hwf
        repeat' (first | simp only [go_sem, d8, d9, ed, ints_cons, ints_nil, rows_nil, Ret_eq Try.results54] | simp (disch := omega) only [arith, IntKind.bits, capMax, fill_len, elt_fill] | (with_reducible refine condI_beq (fun hq hqb => ?_) (fun hq hqb => ?_) <;> simp only [KP_mk, hqb]) | (with_reducible refine condI_bne (fun hq hqb => ?_) (fun hq hqb => ?_) <;> simp only [KP_mk, hqb]) | (with_reducible refine condI_dec (fun hq hqb => ?_) (fun hq hqb => ?_) <;> simp only [KP_mk, hqb]) | (with_reducible refine condI_b (fun hqb => ?_) (fun hqb => ?_) <;> simp only [KP_mk, hqb]) | refine RetO_calc Try.results54 ?_ | refine RetL_calc Try.results54 rfl ?_ | (refine awpI_draw2 (id := 4) (.one false 0 (.one false 1 (.one false 2 (.one false 3 (.one false 4 (.one false 5 (.one false 6 (.one false 7 (.one false 8 (.one false 9 .done)))))))))) mixed (by decide +kernel) (by decide +kernel) ?_) | (refine awpI_draw2 (id := 8) (.cal 3 [6] (.cal 0 [4, 6] (.cal 1 [4, 6] (.cal 2 [4, 6] (.two 4 6 (.cal 5 [6] (.only 6 (.only 7 .done))) (.only 4 (.one false 5 (.only 7 .done)))))))) mixed (by decide +kernel) (by decide +kernel) ?_) | (refine sch2I_two ?_ ?_) | (refine Again.up (by omega) ?_ ?_) | exact trivial | (refine opCallI_rd (by simp only [go_sem, d8, d9, ed, ints_cons, ints_nil, rows_nil, Ret_eq Try.results54]; first | done | rfl) (t1) (by rintro _ rfl; rfl) ?_; rintro _ rfl) | (refine opCallI_gv (by simp only [go_sem, d8, d9, ed, ints_cons, ints_nil, rows_nil, Ret_eq Try.results54]; first | done | rfl) (t1) ?_; rintro _ rfl) | (refine opCallI_rd (by simp only [go_sem, d8, d9, ed, ints_cons, ints_nil, rows_nil, Ret_eq Try.results54]; first | done | rfl) (t2) (by rintro _ rfl; rfl) ?_; rintro _ rfl) | (refine opCallI_gv (by simp only [go_sem, d8, d9, ed, ints_cons, ints_nil, rows_nil, Ret_eq Try.results54]; first | done | rfl) (t2) ?_; rintro _ rfl) | fail)
        all_goals rfl
  · have hno : ¬ fromOk t := fun q => h10 q.1
    unfold fromW fromC fromE
    rw [if_neg hno, if_neg hno, if_neg hno]
    refine Fun.of_awpI Try.func54 rfl cal54 Try.ntmps54 (by simp) fun hwf => ?_
    simp only [D.wfs, D.wf, ints_length, ints_wfs, rows_length, rows_wfs, capMax, and_true, true_and] at hwf
    repeat' (first | simp only [go_sem, rows_nil, Ret_eq Try.results54] | simp (disch := omega) only [arith, IntKind.bits, capMax, fill_len, elt_fill] | (with_reducible refine condI_beq (fun hq hqb => ?_) (fun hq hqb => ?_) <;> simp only [KP_mk, hqb]) | (with_reducible refine condI_bne (fun hq hqb => ?_) (fun hq hqb => ?_) <;> simp only [KP_mk, hqb]) | (with_reducible refine condI_dec (fun hq hqb => ?_) (fun hq hqb => ?_) <;> simp only [KP_mk, hqb]) | (with_reducible refine condI_b (fun hqb => ?_) (fun hqb => ?_) <;> simp only [KP_mk, hqb]) | refine RetO_calc Try.results54 ?_ | refine RetL_calc Try.results54 rfl ?_ | (refine awpI_draw2 (id := 4) (.one false 0 (.one false 1 (.one false 2 (.one false 3 (.one false 4 (.one false 5 (.one false 6 (.one false 7 (.one false 8 (.one false 9 .done)))))))))) mixed (by decide +kernel) (by decide +kernel) ?_) | (refine awpI_draw2 (id := 8) (.cal 3 [6] (.cal 0 [4, 6] (.cal 1 [4, 6] (.cal 2 [4, 6] (.two 4 6 (.cal 5 [6] (.only 6 (.only 7 .done))) (.only 4 (.one false 5 (.only 7 .done)))))))) mixed (by decide +kernel) (by decide +kernel) ?_) | (refine sch2I_two ?_ ?_) | (refine Again.up (by omega) ?_ ?_) | exact trivial | fail)
    all_goals rfl
end Go.Proofs.Ytpkampecmlpfmaa.T
