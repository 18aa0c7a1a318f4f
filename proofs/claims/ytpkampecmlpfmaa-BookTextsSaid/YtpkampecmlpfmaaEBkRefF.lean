import Derived.Test.YtpkampecmlpfmaaLE
import Derived.Test.YtpkampecmlpfmaaEBkRefB
set_option linter.unusedSimpArgs false
set_option linter.unusedVariables false
/- The document's book, read; walked. -/
namespace Go.Proofs.Ytpkampecmlpfmaa.T
open Go Go.VL Go.Proofs
set_option maxRecDepth 100000
set_option maxHeartbeats 8000000
theorem cutsT_i16 {t : List Int} (ho : Octets t) (h10 : 10 ≤ t.length) (hlen : t.length = 10 + 2 * (dimT t * mnyT t)) : I16r (cutsT t) := by
  have hn := nums_i16 (dimT t * mnyT t) (bs := t.drop 10) (ho.drop 10) (by rw [List.length_drop]; omega)
  intro c hc x hx
  have : x ∈ (cutsT t).flatten := List.mem_flatten.2 ⟨c, hc, hx⟩
  rw [cutsT_flat] at this
  exact hn x this

theorem refFromB_fun (t : List Int) (ho : Octets t) (hl : t.length ≤ 140737488355328) : Fun Try.prog 55 [.lst (ints .u8 t)] fun r => r = .tup [bookD (fromW t) (fromC t), .v (.int .i64 (fromE t))] := by
  by_cases h10 : 10 ≤ t.length
  · have o8 := ho (t.getD 8 0) (getD_mem (by omega))
    have o9 := ho (t.getD 9 0) (getD_mem (by omega))
    have d8 : t.getD 8 0 = ((dimT t : Nat) : Int) := by unfold dimT; omega
    have d9 : t.getD 9 0 = ((mnyT t : Nat) : Int) := by unfold mnyT; omega
    have hdm : dimT t * mnyT t ≤ 255 * 255 := Nat.mul_le_mul (by omega) (by omega)
    have t1 := refTake_fun t 8 1 hl ho
    have te1 : takeErr t 8 1 = 0 := by unfold takeErr; rw [if_neg (by omega), if_neg (by omega)]
    have to1 : takeOut t 8 1 = [wayT t] := by unfold takeOut; rw [if_pos te1]; rfl
    rw [te1, to1] at t1
    have t2 := refTake_fun (t.drop 10) 2 ((dimT t * mnyT t : Nat) : Int) (by rw [List.length_drop]; omega) (ho.drop 10)
    have hld : (t.drop 10).length = t.length - 10 := List.length_drop
    have ed : ((dimT t : Nat) : Int) * ((mnyT t : Nat) : Int) = ((dimT t * mnyT t : Nat) : Int) := (Int.natCast_mul _ _).symm
    by_cases hlen : t.length = 10 + 2 * (dimT t * mnyT t)
    · have te2 : takeErr (t.drop 10) 2 ((dimT t * mnyT t : Nat) : Int) = 0 := by unfold takeErr; rw [if_neg (by omega), if_neg (by omega)]
      have to2 : takeOut (t.drop 10) 2 ((dimT t * mnyT t : Nat) : Int) = numsT t := by unfold takeOut; rw [if_pos te2, Int.toNat_natCast]; rfl
      have tr2 : takeRest (t.drop 10) 2 ((dimT t * mnyT t : Nat) : Int) = [] := by
        unfold takeRest; rw [if_pos te2]
        exact List.drop_eq_nil_of_le (by rw [hld, Int.toNat_natCast]; show t.length - 10 ≤ 2 * _; omega)
      rw [te2, to2, tr2, ints_nil] at t2
      have hni := nums_i16 (dimT t * mnyT t) (bs := t.drop 10) (ho.drop 10) (by omega)
      have hni2 : ∀ x ∈ numsT t, -32768 ≤ x ∧ x ≤ 32767 := hni
      have hnl := numsT_length (t := t)
      have hcs := fun k => cutsT_snoc (t := t) (k := k)
      have hcl := cutsT_length (t := t)
      have hqc := refBookCheck_fun (wayT t) (cutsT t) (cutsT_i16 ho h10 hlen)
      have hfin : fromOk t ↔ bookErr (wayT t) (cutsT t) = 0 := ⟨fun q => q.2.2, fun q => ⟨h10, hlen, q⟩⟩
      unfold fromW fromC fromE
      simp only [hfin]
      clear hfin hni
      generalize takeRest t 8 1 = R1 at *
      generalize wayT t = w at *
      generalize numsT t = L at *
      generalize cutsT t = C at *
      generalize dimT t = d at *
      generalize mnyT t = m at *
      refine Fun.of_awpI Try.func55 rfl cal55 Try.ntmps55 (by simp) fun hwf => ?_
      simp only [D.wfs, D.wf, ints_length, ints_wfs, rows_length, rows_wfs, capMax, and_true, true_and] at hwf
      repeat' (first | simp only [go_sem, d8, d9, ed, ints_cons, ints_nil, Ret_eq Try.results55] | simp (disch := omega) only [arith, IntKind.bits, capMax, fill_len, elt_fill] | (with_reducible refine condI_beq (fun hq hqb => ?_) (fun hq hqb => ?_) <;> simp only [KP_mk, hqb]) | (with_reducible refine condI_bne (fun hq hqb => ?_) (fun hq hqb => ?_) <;> simp only [KP_mk, hqb]) | (with_reducible refine condI_dec (fun hq hqb => ?_) (fun hq hqb => ?_) <;> simp only [KP_mk, hqb]) | (with_reducible refine condI_b (fun hqb => ?_) (fun hqb => ?_) <;> simp only [KP_mk, hqb]) | refine RetO_calc Try.results55 ?_ | refine RetL_calc Try.results55 rfl ?_ | (refine Again.up (by omega) ?_ ?_) | exact trivial | (refine opCallI_rd (by simp only [go_sem, d8, d9, ed, ints_cons, ints_nil, Ret_eq Try.results55]; first | done | rfl) (t1) (by rintro _ rfl; rfl) ?_; rintro _ rfl) | (refine opCallI_gv (by simp only [go_sem, d8, d9, ed, ints_cons, ints_nil, Ret_eq Try.results55]; first | done | rfl) (t1) ?_; rintro _ rfl) | (refine opCallI_rd (by simp only [go_sem, d8, d9, ed, ints_cons, ints_nil, Ret_eq Try.results55]; first | done | rfl) (t2) (by rintro _ rfl; rfl) ?_; rintro _ rfl) | (refine opCallI_gv (by simp only [go_sem, d8, d9, ed, ints_cons, ints_nil, Ret_eq Try.results55]; first | done | rfl) (t2) ?_; rintro _ rfl) | fail)
      refine awpI_for d (fun k => True) (fun k => [(58, .v (.int .i64 k))]) (fun k => match k with | 0 => [(12, ⟨73, 2, [.agg [.v (.int .i64 w), .v (.slice none 0 0)]]⟩)] | k + 1 => [(12, ⟨73, 2, [.agg [.v (.int .i64 w), .ref 85 (k + 1)]]⟩), (85, ⟨22, 1, rows .i16 (C.take (k + 1))⟩)]) [2, 8, 9, 12, 57] [2] _ (Weak.refl _) trivial ?_ ?_ ?_
      · simp only [go_sem, Ret_eq Try.results55]
      · simp only [go_sem, Ret_eq Try.results55]
      · intro k s hk _ hs
        by_cases hka : k < d
        · have hlk : (C.take k).length = k := by rw [List.length_take]; omega
          have e := hcs k hka
          have hkm : (k + 1) * m ≤ d * m := Nat.mul_le_mul_right m hka
          have hkm1 : (k + 1) * m = k * m + m := Nat.succ_mul k m
          have ek : (k : Int) * (m : Int) = ((k * m : Nat) : Int) := (Int.natCast_mul _ _).symm
          have ek2 : ((k + 1 : Nat) : Int) * (m : Int) = (((k + 1) * m : Nat) : Int) := (Int.natCast_mul _ _).symm
          have hSl : ((L.take ((k + 1) * m)).drop (k * m)).length = m := by rw [List.length_drop, List.length_take]; omega
          have hSj : ∀ j, j < m → ((L.take ((k + 1) * m)).drop (k * m)).getD j 0 = L.getD (k * m + j) 0 := fun j hj => by
            simp only [List.getD]
            rw [List.getElem?_drop, List.getElem?_take_of_lt (by omega)]
          have hrl := cutT_length (l := L) (m := m) (i := k)
          have hrg : ∀ j, j < m → (cutT L m k).getD j 0 = L.getD (k * m + j) 0 := fun j hj => by simp [cutT, List.getD, hj]
          have htr : (cutT L m k).take m = cutT L m k := List.take_of_length_le (by omega)
          generalize cutT L m k = row at *
          have hLi : ∀ j, j < m → k * m + j < L.length := fun j hj => by omega
          obtain ⟨S, hSe⟩ : ∃ S, (L.take ((k + 1) * m)).drop (k * m) = S := ⟨_, rfl⟩
          rw [hSe] at hSl hSj
          cases k with
          | zero =>
            have ez : ((0 : Int) + 1) * (m : Int) = (m : Int) := by simp
            have hSz : L.take m = S := by rw [← hSe]; simp
            simp only [go_sem, Ret_eq Try.results55] at hs
            repeat' (first | simp only [go_sem, hs, ek, ek2, Int.zero_mul, ez, Int.toNat_natCast, hSz, hSl, Ret_eq Try.results55] | simp (disch := omega) only [arith, IntKind.bits, capMax, fill_len, elt_fill] | (with_reducible refine condI_beq (fun hq hqb => ?_) (fun hq hqb => ?_) <;> simp only [KP_mk, hqb]) | (with_reducible refine condI_bne (fun hq hqb => ?_) (fun hq hqb => ?_) <;> simp only [KP_mk, hqb]) | (with_reducible refine condI_dec (fun hq hqb => ?_) (fun hq hqb => ?_) <;> simp only [KP_mk, hqb]) | (with_reducible refine condI_b (fun hqb => ?_) (fun hqb => ?_) <;> simp only [KP_mk, hqb]) | refine RetO_calc Try.results55 ?_ | refine RetL_calc Try.results55 rfl ?_ | (refine Again.up (by omega) ?_ ?_) | exact trivial | fail)
            refine awpI_for m (fun j => True) (fun j => [(14, .ref 79 j), (71, .v (.int .i64 j))]) (fun j => [(79, ⟨23, 1, ints .i16 (row.take j)⟩)]) [2, 8, 9, 12, 57, 58, 69, 70] [2, 12] _ (Weak.adopt (j := 14) 79 23 1 (by simp only [go_sem, hs, Ret_eq Try.results55]) (by simp only [go_sem, hs, Ret_eq Try.results55]) (by decide)) trivial ?_ ?_ ?_
            · simp only [go_sem, hs, Ret_eq Try.results55]
            · simp only [go_sem, hs, List.take_zero, ints_nil, Ret_eq Try.results55]
            · intro j s2 hj2 _ hs2
              simp only [go_sem, hs, Ret_eq Try.results55] at hs2
              by_cases hja : j < m
              · have et := take_snoc (a := row) (d := (0 : Int)) (k := j) (by omega)
                rw [hrg j hja] at et
                have eS := hSj j hja
                have hx := hni2 _ (getD_mem (a := L) (d := 0) (hLi j hja))
                have ew : IntKind.i16.wrap (S.getD j 0) = S.getD j 0 := IntWalk.i16_in _ (by rw [eS]; omega)
                rw [← eS] at et
                have htl : (row.take j).length = j := by rw [List.length_take]; omega
                repeat' (first | simp only [go_sem, hs, hs2, ew, et, htl, hSl, List.length_append, List.length_cons, List.length_nil, Ret_eq Try.results55] | simp (disch := omega) only [arith, IntKind.bits, capMax, fill_len, elt_fill] | (with_reducible refine condI_beq (fun hq hqb => ?_) (fun hq hqb => ?_) <;> simp only [KP_mk, hqb]) | (with_reducible refine condI_bne (fun hq hqb => ?_) (fun hq hqb => ?_) <;> simp only [KP_mk, hqb]) | (with_reducible refine condI_dec (fun hq hqb => ?_) (fun hq hqb => ?_) <;> simp only [KP_mk, hqb]) | (with_reducible refine condI_b (fun hqb => ?_) (fun hqb => ?_) <;> simp only [KP_mk, hqb]) | refine RetO_calc Try.results55 ?_ | refine RetL_calc Try.results55 rfl ?_ | (refine Again.up (by omega) ?_ ?_) | exact trivial | fail)
              · obtain rfl : j = m := by omega
                rw [htr] at hs2
                repeat' (first | simp only [go_sem, hs, hs2, e, hrl, htr, hlk, List.length_append, List.length_cons, List.length_nil, Ret_eq Try.results55] | simp (disch := omega) only [arith, IntKind.bits, capMax, fill_len, elt_fill] | (with_reducible refine condI_beq (fun hq hqb => ?_) (fun hq hqb => ?_) <;> simp only [KP_mk, hqb]) | (with_reducible refine condI_bne (fun hq hqb => ?_) (fun hq hqb => ?_) <;> simp only [KP_mk, hqb]) | (with_reducible refine condI_dec (fun hq hqb => ?_) (fun hq hqb => ?_) <;> simp only [KP_mk, hqb]) | (with_reducible refine condI_b (fun hqb => ?_) (fun hqb => ?_) <;> simp only [KP_mk, hqb]) | refine RetO_calc Try.results55 ?_ | refine RetL_calc Try.results55 rfl ?_ | (refine Again.up (by omega) ?_ ?_) | exact trivial | fail)
                all_goals exact ⟨rfl, rfl⟩
          | succ k =>
            simp only [go_sem, Ret_eq Try.results55] at hs
            repeat' (first | simp only [go_sem, hs, ek, ek2, hSe, hSl, Ret_eq Try.results55] | simp (disch := omega) only [arith, IntKind.bits, capMax, fill_len, elt_fill] | (with_reducible refine condI_beq (fun hq hqb => ?_) (fun hq hqb => ?_) <;> simp only [KP_mk, hqb]) | (with_reducible refine condI_bne (fun hq hqb => ?_) (fun hq hqb => ?_) <;> simp only [KP_mk, hqb]) | (with_reducible refine condI_dec (fun hq hqb => ?_) (fun hq hqb => ?_) <;> simp only [KP_mk, hqb]) | (with_reducible refine condI_b (fun hqb => ?_) (fun hqb => ?_) <;> simp only [KP_mk, hqb]) | refine RetO_calc Try.results55 ?_ | refine RetL_calc Try.results55 rfl ?_ | (refine Again.up (by omega) ?_ ?_) | exact trivial | fail)
            refine awpI_for m (fun j => True) (fun j => [(14, .ref 79 j), (71, .v (.int .i64 j))]) (fun j => [(79, ⟨23, 1, ints .i16 (row.take j)⟩)]) [2, 8, 9, 12, 57, 58, 69, 70] [2, 12, 85] _ (Weak.adopt (j := 14) 79 23 1 (by simp only [go_sem, hs, Ret_eq Try.results55]) (by simp only [go_sem, hs, Ret_eq Try.results55]) (by decide)) trivial ?_ ?_ ?_
            · simp only [go_sem, hs, Ret_eq Try.results55]
            · simp only [go_sem, hs, List.take_zero, ints_nil, Ret_eq Try.results55]
            · intro j s2 hj2 _ hs2
              simp only [go_sem, hs, Ret_eq Try.results55] at hs2
              by_cases hja : j < m
              · have et := take_snoc (a := row) (d := (0 : Int)) (k := j) (by omega)
                rw [hrg j hja] at et
                have eS := hSj j hja
                have hx := hni2 _ (getD_mem (a := L) (d := 0) (hLi j hja))
                have ew : IntKind.i16.wrap (S.getD j 0) = S.getD j 0 := IntWalk.i16_in _ (by rw [eS]; omega)
                rw [← eS] at et
                have htl : (row.take j).length = j := by rw [List.length_take]; omega
                repeat' (first | simp only [go_sem, hs, hs2, ew, et, htl, hSl, List.length_append, List.length_cons, List.length_nil, Ret_eq Try.results55] | simp (disch := omega) only [arith, IntKind.bits, capMax, fill_len, elt_fill] | (with_reducible refine condI_beq (fun hq hqb => ?_) (fun hq hqb => ?_) <;> simp only [KP_mk, hqb]) | (with_reducible refine condI_bne (fun hq hqb => ?_) (fun hq hqb => ?_) <;> simp only [KP_mk, hqb]) | (with_reducible refine condI_dec (fun hq hqb => ?_) (fun hq hqb => ?_) <;> simp only [KP_mk, hqb]) | (with_reducible refine condI_b (fun hqb => ?_) (fun hqb => ?_) <;> simp only [KP_mk, hqb]) | refine RetO_calc Try.results55 ?_ | refine RetL_calc Try.results55 rfl ?_ | (refine Again.up (by omega) ?_ ?_) | exact trivial | fail)
              · obtain rfl : j = m := by omega
                rw [htr] at hs2
                repeat' (first | simp only [go_sem, hs, hs2, e, hrl, htr, hlk, List.length_append, List.length_cons, List.length_nil, Ret_eq Try.results55] | simp (disch := omega) only [arith, IntKind.bits, capMax, fill_len, elt_fill] | (with_reducible refine condI_beq (fun hq hqb => ?_) (fun hq hqb => ?_) <;> simp only [KP_mk, hqb]) | (with_reducible refine condI_bne (fun hq hqb => ?_) (fun hq hqb => ?_) <;> simp only [KP_mk, hqb]) | (with_reducible refine condI_dec (fun hq hqb => ?_) (fun hq hqb => ?_) <;> simp only [KP_mk, hqb]) | (with_reducible refine condI_b (fun hqb => ?_) (fun hqb => ?_) <;> simp only [KP_mk, hqb]) | refine RetO_calc Try.results55 ?_ | refine RetL_calc Try.results55 rfl ?_ | (refine Again.up (by omega) ?_ ?_) | exact trivial | fail)
        · obtain rfl : k = d := by omega
          have htk : C.take k = C := List.take_of_length_le (by omega)
          cases hkk : k with
          | zero =>
            rw [hkk] at hs
            simp only [go_sem, Ret_eq Try.results55] at hs
            have hC0 : C = [] := List.length_eq_zero_iff.1 (by omega)
            have hb1 : bookErr w C = 1 := by
              refine bookErr_one fun q => ?_
              have := q.1
              omega
            rw [if_neg (by rw [hb1]; decide), if_neg (by rw [hb1]; decide), if_neg (by rw [hb1]; decide)]
            rw [hb1, hC0, rows_nil] at hqc
            repeat' (first | simp only [go_sem, hs, rows_nil, Ret_eq Try.results55] | simp (disch := omega) only [arith, IntKind.bits, capMax, fill_len, elt_fill] | (with_reducible refine condI_beq (fun hq hqb => ?_) (fun hq hqb => ?_) <;> simp only [KP_mk, hqb]) | (with_reducible refine condI_bne (fun hq hqb => ?_) (fun hq hqb => ?_) <;> simp only [KP_mk, hqb]) | (with_reducible refine condI_dec (fun hq hqb => ?_) (fun hq hqb => ?_) <;> simp only [KP_mk, hqb]) | (with_reducible refine condI_b (fun hqb => ?_) (fun hqb => ?_) <;> simp only [KP_mk, hqb]) | refine RetO_calc Try.results55 ?_ | refine RetL_calc Try.results55 rfl ?_ | (refine Again.up (by omega) ?_ ?_) | exact trivial | (refine opCallI_rd (by simp only [go_sem, hs, rows_nil, Ret_eq Try.results55]; first | done | rfl) (hqc) (by rintro _ rfl; rfl) ?_; rintro _ rfl) | (refine opCallI_gv (by simp only [go_sem, hs, rows_nil, Ret_eq Try.results55]; first | done | rfl) (hqc) ?_; rintro _ rfl) | fail)
            all_goals rfl
          | succ q =>
            rw [hkk] at hs htk
            simp only [go_sem, Ret_eq Try.results55] at hs
            rw [htk] at hs
            by_cases hb : bookErr w C = 0
            · rw [if_pos hb, if_pos hb, if_pos hb]
              rw [hb] at hqc
              repeat' (first | simp only [go_sem, hs, hb, hcl, htk, hkk, Ret_eq Try.results55] | simp (disch := omega) only [arith, IntKind.bits, capMax, fill_len, elt_fill] | (with_reducible refine condI_beq (fun hq hqb => ?_) (fun hq hqb => ?_) <;> simp only [KP_mk, hqb]) | (with_reducible refine condI_bne (fun hq hqb => ?_) (fun hq hqb => ?_) <;> simp only [KP_mk, hqb]) | (with_reducible refine condI_dec (fun hq hqb => ?_) (fun hq hqb => ?_) <;> simp only [KP_mk, hqb]) | (with_reducible refine condI_b (fun hqb => ?_) (fun hqb => ?_) <;> simp only [KP_mk, hqb]) | refine RetO_calc Try.results55 ?_ | refine RetL_calc Try.results55 rfl ?_ | (refine Again.up (by omega) ?_ ?_) | exact trivial | (refine opCallI_rd (by simp only [go_sem, hs, hb, hcl, htk, hkk, Ret_eq Try.results55]; first | done | rfl) (hqc) (by rintro _ rfl; rfl) ?_; rintro _ rfl) | (refine opCallI_gv (by simp only [go_sem, hs, hb, hcl, htk, hkk, Ret_eq Try.results55]; first | done | rfl) (hqc) ?_; rintro _ rfl) | fail)
              all_goals rfl
            · rw [if_neg hb, if_neg hb, if_neg hb]
              have hb1 : bookErr w C = 1 := by unfold bookErr at *; split at hb <;> simp_all
              rw [hb1] at hqc
              repeat' (first | simp only [go_sem, hs, hb1, hcl, htk, hkk, rows_nil, Ret_eq Try.results55] | simp (disch := omega) only [arith, IntKind.bits, capMax, fill_len, elt_fill] | (with_reducible refine condI_beq (fun hq hqb => ?_) (fun hq hqb => ?_) <;> simp only [KP_mk, hqb]) | (with_reducible refine condI_bne (fun hq hqb => ?_) (fun hq hqb => ?_) <;> simp only [KP_mk, hqb]) | (with_reducible refine condI_dec (fun hq hqb => ?_) (fun hq hqb => ?_) <;> simp only [KP_mk, hqb]) | (with_reducible refine condI_b (fun hqb => ?_) (fun hqb => ?_) <;> simp only [KP_mk, hqb]) | refine RetO_calc Try.results55 ?_ | refine RetL_calc Try.results55 rfl ?_ | (refine Again.up (by omega) ?_ ?_) | exact trivial | (refine opCallI_rd (by simp only [go_sem, hs, hb1, hcl, htk, hkk, rows_nil, Ret_eq Try.results55]; first | done | rfl) (hqc) (by rintro _ rfl; rfl) ?_; rintro _ rfl) | (refine opCallI_gv (by simp only [go_sem, hs, hb1, hcl, htk, hkk, rows_nil, Ret_eq Try.results55]; first | done | rfl) (hqc) ?_; rintro _ rfl) | fail)
              all_goals rfl
    · have hno : ¬ fromOk t := fun q => hlen q.2.1
      unfold fromW fromC fromE
      rw [if_neg hno, if_neg hno, if_neg hno]
      by_cases hlt : t.length < 10 + 2 * (dimT t * mnyT t)
      · have te2 : takeErr (t.drop 10) 2 ((dimT t * mnyT t : Nat) : Int) = 2 := by unfold takeErr; rw [if_neg (by omega), if_pos (by omega)]
        have to2 : takeOut (t.drop 10) 2 ((dimT t * mnyT t : Nat) : Int) = [] := by unfold takeOut; rw [if_neg (by rw [te2]; decide)]
        have tr2 : takeRest (t.drop 10) 2 ((dimT t * mnyT t : Nat) : Int) = [] := by unfold takeRest; rw [if_neg (by rw [te2]; decide)]
        rw [te2, to2, tr2] at t2
        generalize takeRest t 8 1 = R1 at *
        generalize dimT t = d at *
        generalize mnyT t = m at *
        refine Fun.of_awpI Try.func55 rfl cal55 Try.ntmps55 (by simp) fun hwf => ?_
        simp only [D.wfs, D.wf, ints_length, ints_wfs, rows_length, rows_wfs, capMax, and_true, true_and] at hwf
        repeat' (first | simp only [go_sem, d8, d9, ed, ints_cons, ints_nil, rows_nil, Ret_eq Try.results55] | simp (disch := omega) only [arith, IntKind.bits, capMax, fill_len, elt_fill] | (with_reducible refine condI_beq (fun hq hqb => ?_) (fun hq hqb => ?_) <;> simp only [KP_mk, hqb]) | (with_reducible refine condI_bne (fun hq hqb => ?_) (fun hq hqb => ?_) <;> simp only [KP_mk, hqb]) | (with_reducible refine condI_dec (fun hq hqb => ?_) (fun hq hqb => ?_) <;> simp only [KP_mk, hqb]) | (with_reducible refine condI_b (fun hqb => ?_) (fun hqb => ?_) <;> simp only [KP_mk, hqb]) | refine RetO_calc Try.results55 ?_ | refine RetL_calc Try.results55 rfl ?_ | (refine Again.up (by omega) ?_ ?_) | exact trivial | (refine opCallI_rd (by simp only [go_sem, d8, d9, ed, ints_cons, ints_nil, rows_nil, Ret_eq Try.results55]; first | done | rfl) (t1) (by rintro _ rfl; rfl) ?_; rintro _ rfl) | (refine opCallI_gv (by simp only [go_sem, d8, d9, ed, ints_cons, ints_nil, rows_nil, Ret_eq Try.results55]; first | done | rfl) (t1) ?_; rintro _ rfl) | (refine opCallI_rd (by simp only [go_sem, d8, d9, ed, ints_cons, ints_nil, rows_nil, Ret_eq Try.results55]; first | done | rfl) (t2) (by rintro _ rfl; rfl) ?_; rintro _ rfl) | (refine opCallI_gv (by simp only [go_sem, d8, d9, ed, ints_cons, ints_nil, rows_nil, Ret_eq Try.results55]; first | done | rfl) (t2) ?_; rintro _ rfl) | fail)
        all_goals rfl
      · have te2 : takeErr (t.drop 10) 2 ((dimT t * mnyT t : Nat) : Int) = 0 := by unfold takeErr; rw [if_neg (by omega), if_neg (by omega)]
        have hrl : 0 < (takeRest (t.drop 10) 2 ((dimT t * mnyT t : Nat) : Int)).length := by
          unfold takeRest; rw [if_pos te2, List.length_drop, hld, Int.toNat_natCast]
          show 0 < t.length - 10 - 2 * (dimT t * mnyT t)
          omega
        rw [te2] at t2
        generalize takeRest (t.drop 10) 2 ((dimT t * mnyT t : Nat) : Int) = R2 at *
        generalize takeOut (t.drop 10) 2 ((dimT t * mnyT t : Nat) : Int) = L2 at *
        generalize takeRest t 8 1 = R1 at *
        generalize dimT t = d at *
        generalize mnyT t = m at *
        refine Fun.of_awpI Try.func55 rfl cal55 Try.ntmps55 (by simp) fun hwf => ?_
        simp only [D.wfs, D.wf, ints_length, ints_wfs, rows_length, rows_wfs, capMax, and_true, true_and] at hwf
        repeat' (first | simp only [go_sem, d8, d9, ed, ints_cons, ints_nil, rows_nil, Ret_eq Try.results55] | simp (disch := omega) only [arith, IntKind.bits, capMax, fill_len, elt_fill] | (with_reducible refine condI_beq (fun hq hqb => ?_) (fun hq hqb => ?_) <;> simp only [KP_mk, hqb]) | (with_reducible refine condI_bne (fun hq hqb => ?_) (fun hq hqb => ?_) <;> simp only [KP_mk, hqb]) | (with_reducible refine condI_dec (fun hq hqb => ?_) (fun hq hqb => ?_) <;> simp only [KP_mk, hqb]) | (with_reducible refine condI_b (fun hqb => ?_) (fun hqb => ?_) <;> simp only [KP_mk, hqb]) | refine RetO_calc Try.results55 ?_ | refine RetL_calc Try.results55 rfl ?_ | (refine Again.up (by omega) ?_ ?_) | exact trivial | (refine opCallI_rd (by simp only [go_sem, d8, d9, ed, ints_cons, ints_nil, rows_nil, Ret_eq Try.results55]; first | done | rfl) (t1) (by rintro _ rfl; rfl) ?_; rintro _ rfl) | (refine opCallI_gv (by simp only [go_sem, d8, d9, ed, ints_cons, ints_nil, rows_nil, Ret_eq Try.results55]; first | done | rfl) (t1) ?_; rintro _ rfl) | (refine opCallI_rd (by simp only [go_sem, d8, d9, ed, ints_cons, ints_nil, rows_nil, Ret_eq Try.results55]; first | done | rfl) (t2) (by rintro _ rfl; rfl) ?_; rintro _ rfl) | (refine opCallI_gv (by simp only [go_sem, d8, d9, ed, ints_cons, ints_nil, rows_nil, Ret_eq Try.results55]; first | done | rfl) (t2) ?_; rintro _ rfl) | fail)
        all_goals rfl
  · have hno : ¬ fromOk t := fun q => h10 q.1
    unfold fromW fromC fromE
    rw [if_neg hno, if_neg hno, if_neg hno]
    refine Fun.of_awpI Try.func55 rfl cal55 Try.ntmps55 (by simp) fun hwf => ?_
    simp only [D.wfs, D.wf, ints_length, ints_wfs, rows_length, rows_wfs, capMax, and_true, true_and] at hwf
    repeat' (first | simp only [go_sem, rows_nil, Ret_eq Try.results55] | simp (disch := omega) only [arith, IntKind.bits, capMax, fill_len, elt_fill] | (with_reducible refine condI_beq (fun hq hqb => ?_) (fun hq hqb => ?_) <;> simp only [KP_mk, hqb]) | (with_reducible refine condI_bne (fun hq hqb => ?_) (fun hq hqb => ?_) <;> simp only [KP_mk, hqb]) | (with_reducible refine condI_dec (fun hq hqb => ?_) (fun hq hqb => ?_) <;> simp only [KP_mk, hqb]) | (with_reducible refine condI_b (fun hqb => ?_) (fun hqb => ?_) <;> simp only [KP_mk, hqb]) | refine RetO_calc Try.results55 ?_ | refine RetL_calc Try.results55 rfl ?_ | (refine Again.up (by omega) ?_ ?_) | exact trivial | fail)
    all_goals rfl
end Go.Proofs.Ytpkampecmlpfmaa.T
