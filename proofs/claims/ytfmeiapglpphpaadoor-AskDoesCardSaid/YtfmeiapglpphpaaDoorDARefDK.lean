import Derived.Test.YtfmeiapglpphpaaDoorDARefD
set_option linter.unusedSimpArgs false
set_option linter.unusedVariables false
/- The document's answer on what is asked, read, walked: one of the shapes. -/
namespace Go.Proofs.YtfmeiapglpphpaaDoor.T
open Go Go.VL Go.Proofs
set_option maxRecDepth 100000
set_option maxHeartbeats 8000000

theorem refRead18_K (b : List Int) (dim slots : Int) (h : sizesOk dim slots) (h1 : 1 ≤ b.length) (hbl : b.length ≤ 65536) (ho : Octets b) (hk : kindOk (b.getD 0 0)) (e1 : shI (b.getD 0 0) = 0) (e2 : shK (b.getD 0 0) = 2) (e3 : shS (b.getD 0 0) = 0) (e4 : shV (b.getD 0 0) = true) :
    FunO Tryd.prog 11 [.lst (ints .u8 b), .v (.int .i64 dim), .v (.int .i64 slots)] (ReadR b dim slots) := by
  have sz := refSizes_fun dim slots
  rw [decide_eq_true h] at sz
  have hb : ((b.length : Int) == 0) = false := beq_eq_false_iff_ne.2 (by omega)
  have hk' : 1 ≤ b.getD 0 0 ∧ b.getD 0 0 ≤ 8 := hk
  have nm := names_fun (b.getD 0 0) hk
  rw [e1, e2, e3, e4] at nm
  simp only [Int.reduceEq, decide_true, decide_false] at nm
  have hW : readW (b.getD 0 0) = 2 := by unfold readW; rw [e1, e2, e3]; rfl
  have ev : rV b = takeNums 2 ((tailOf b).length / 2) (tailOf b) := rfl
  have et : tailOf b = (b.drop 1).drop 2 := by unfold tailOf; rw [hW]; rfl
  have rbad := fun q => read_bad (b := b) (slots := slots) h q
  have rok := fun q => read_ok (b := b) (slots := slots) h q
  have fo : formOf b ↔ (2 ≤ (b.drop 1).length ∧ (tailOf b).length % 2 = 0 ∧ (tailOf b).length ≤ 128 ∧ (true = decide (0 < (tailOf b).length))) := by
    unfold formOf; rw [hW, e4]; exact ⟨fun q => q.2.2, fun q => ⟨h1, hk, q⟩⟩
  have en0 : rId b = 0 := by unfold rId; rw [if_neg (by rw [e1]; decide)]
  have en1 : rK b = takeNum 2 (b.drop 1) := by unfold rK numOf; rw [if_pos e2, hW]
  have en2 : rSeed b = 0 := by unfold rSeed; rw [if_neg (by rw [e3]; decide)]
  rw [ev, en0, en1, en2] at rok
  have hoT : Octets (tailOf b) := by rw [et]; exact (ho.drop _).drop _
  have hrl : (b.drop 1).length = b.length - 1 := List.length_drop
  have hor : Octets (b.drop 1) := ho.drop _
  have htl : (tailOf b).length = b.length - 1 - 2 := by rw [et, List.length_drop, hrl]
  have te := take1_err (b := b.drop 1) (w := 2) (by decide)
  have hR : (b.drop 1).drop (2 : Int).toNat = tailOf b := et.symm
  have hNb : takeNum 2 (b.drop 1) ≤ 9223372036854775807 := takeNum_le
  generalize hNe : takeNum 2 (b.drop 1) = N at *
  generalize tailOf b = R at *
  generalize hre : b.drop 1 = r at *
  by_cases hs : r.length < (2 : Int).toNat
  · rw [if_pos hs] at te
    have hro := number_bad r 2 (by omega) hor (by rw [te]; decide)
    have he := rbad fun q => by have := fo.1 q; have h2 : (2 : Int).toNat = 2 := rfl; omega
    clear ev et rok fo ho
    refine FunO.of_awpI Tryd.func11 rfl cal11 Tryd.ntmps11 (by simp) fun hwf => ?_
    simp only [D.wfs, D.wf, ints_length, ints_wfs, rows_length, rows_wfs, capMax, and_true, true_and] at hwf
    repeat' (first | simp only [go_sem, hb, hre, Ret_eq Tryd.results11] | simp (disch := omega) only [arith, IntKind.bits, capMax, fill_len, elt_fill] | (with_reducible refine condI_beq (fun hq hqb => ?_) (fun hq hqb => ?_) <;> simp only [KP_mk, hqb]) | (with_reducible refine condI_bne (fun hq hqb => ?_) (fun hq hqb => ?_) <;> simp only [KP_mk, hqb]) | (with_reducible refine condI_dec (fun hq hqb => ?_) (fun hq hqb => ?_) <;> simp only [KP_mk, hqb]) | (with_reducible refine condI_b (fun hqb => ?_) (fun hqb => ?_) <;> simp only [KP_mk, hqb]) | refine RetO_calc Tryd.results11 ?_ | refine RetL_calc Tryd.results11 rfl ?_ | (refine Again.up (by omega) ?_ ?_) | exact trivial | (refine opCallI_rd (by simp only [go_sem, hb, hre, Ret_eq Tryd.results11]; first | done | rfl) (sz) (by rintro _ rfl; rfl) ?_; rintro _ rfl) | (refine opCallI_gv (by simp only [go_sem, hb, hre, Ret_eq Tryd.results11]; first | done | rfl) (sz) ?_; rintro _ rfl) | (refine opCallI_rd (by simp only [go_sem, hb, hre, Ret_eq Tryd.results11]; first | done | rfl) (nm) (by rintro _ rfl; rfl) ?_; rintro _ rfl) | (refine opCallI_gv (by simp only [go_sem, hb, hre, Ret_eq Tryd.results11]; first | done | rfl) (nm) ?_; rintro _ rfl) | (refine opCallI_rd (by simp only [go_sem, hb, hre, Ret_eq Tryd.results11]; first | done | rfl) (hro) (by rintro _ rfl; rfl) ?_; rintro _ rfl) | (refine opCallI_gv (by simp only [go_sem, hb, hre, Ret_eq Tryd.results11]; first | done | rfl) (hro) ?_; rintro _ rfl) | fail)
    all_goals first | exact ReadR.bad he (by decide) | rfl
  · rw [if_neg hs] at te
    have hro := number_ok r 2 (by omega) hor te
    rw [hR, hNe] at hro
    have hs' : 2 ≤ r.length := by have h2 : (2 : Int).toNat = 2 := rfl; omega
    by_cases c1 : R.length % 2 = 0
    · by_cases c2 : R.length ≤ 128
      · by_cases c3 : 0 < R.length
        · have d3 : decide ((0 : Int) < (R.length : Int)) = true := decide_eq_true (by omega)
          have fok : formOf b := fo.2 ⟨hs', c1, c2, by rw [eq_comm]; exact decide_eq_true c3⟩
          have he := rok fok
          obtain ⟨t1, t2, t3⟩ := take_half (b := R) (by omega)
          have hn := takeNums_i16 (R.length / 2) hoT (by omega)
          have hvl := takeNums_length 2 (R.length / 2) R
          have nf := refTake_fun R 2 ((R.length : Int) / 2) (by omega) hoT
          rw [t1, t2, t3] at nf
          have hck := refCheck18_fun (b.getD 0 0) 0 N 0 (takeNums 2 (R.length / 2) R) dim slots (by omega)
          have hbad := askErr_bad (k := b.getD 0 0) (id := 0) (n := N) (seed := 0) (v := takeNums 2 (R.length / 2) R) (dim := dim) (slots := slots)
          generalize askErr (b.getD 0 0) 0 N 0 (takeNums 2 (R.length / 2) R) dim slots = E at *
          generalize takeNums 2 (R.length / 2) R = v at *
          clear et rok fo ho rbad
          have hv1 : 1 ≤ v.length := by omega
          refine FunO.of_awpI Tryd.func11 rfl cal11 Tryd.ntmps11 (by simp) fun hwf => ?_
          simp only [D.wfs, D.wf, ints_length, ints_wfs, rows_length, rows_wfs, capMax, and_true, true_and] at hwf
          repeat' (first | simp only [go_sem, hb, hre, hvl, d3, Ret_eq Tryd.results11] | simp (disch := omega) only [arith, IntKind.bits, capMax, fill_len, elt_fill] | (with_reducible refine condI_beq (fun hq hqb => ?_) (fun hq hqb => ?_) <;> simp only [KP_mk, hqb]) | (with_reducible refine condI_bne (fun hq hqb => ?_) (fun hq hqb => ?_) <;> simp only [KP_mk, hqb]) | (with_reducible refine condI_dec (fun hq hqb => ?_) (fun hq hqb => ?_) <;> simp only [KP_mk, hqb]) | (with_reducible refine condI_b (fun hqb => ?_) (fun hqb => ?_) <;> simp only [KP_mk, hqb]) | refine RetO_calc Tryd.results11 ?_ | refine RetL_calc Tryd.results11 rfl ?_ | (refine Again.up (by omega) ?_ ?_) | exact trivial | (refine opCallI_rd (by simp only [go_sem, hb, hre, hvl, d3, Ret_eq Tryd.results11]; first | done | rfl) (sz) (by rintro _ rfl; rfl) ?_; rintro _ rfl) | (refine opCallI_gv (by simp only [go_sem, hb, hre, hvl, d3, Ret_eq Tryd.results11]; first | done | rfl) (sz) ?_; rintro _ rfl) | (refine opCallI_rd (by simp only [go_sem, hb, hre, hvl, d3, Ret_eq Tryd.results11]; first | done | rfl) (nm) (by rintro _ rfl; rfl) ?_; rintro _ rfl) | (refine opCallI_gv (by simp only [go_sem, hb, hre, hvl, d3, Ret_eq Tryd.results11]; first | done | rfl) (nm) ?_; rintro _ rfl) | (refine opCallI_rd (by simp only [go_sem, hb, hre, hvl, d3, Ret_eq Tryd.results11]; first | done | rfl) (hro) (by rintro _ rfl; rfl) ?_; rintro _ rfl) | (refine opCallI_gv (by simp only [go_sem, hb, hre, hvl, d3, Ret_eq Tryd.results11]; first | done | rfl) (hro) ?_; rintro _ rfl) | (refine opCallI_rd (by simp only [go_sem, hb, hre, hvl, d3, Ret_eq Tryd.results11]; first | done | rfl) (nf) (by rintro _ rfl; rfl) ?_; rintro _ rfl) | (refine opCallI_gv (by simp only [go_sem, hb, hre, hvl, d3, Ret_eq Tryd.results11]; first | done | rfl) (nf) ?_; rintro _ rfl) | fail)
          all_goals
            refine awpI_for v.length (fun k => True) (fun k => [(124, .v (.int .i64 k))]) (fun j => match j with | 0 => [(8, ⟨25, 5, [.agg [.v (.int .i64 (b.getD 0 0)), .v (.int .i64 0), .v (.int .i64 N), .v (.int .i64 0), .v (.slice none 0 0)]]⟩)] | j + 1 => [(8, ⟨25, 5, [.agg [.v (.int .i64 (b.getD 0 0)), .v (.int .i64 0), .v (.int .i64 N), .v (.int .i64 0), .ref 133 (j + 1)]]⟩), (133, ⟨38, 1, ints .i16 (v.take (j + 1))⟩)]) [1, 2, 6, 8, 122, 123] [6] _ (Weak.refl _) trivial ?_ ?_ ?_
            · simp only [go_sem, Ret_eq Tryd.results11]
            · simp only [go_sem, Ret_eq Tryd.results11]
            · intro j s hj _ hs
              have hx := hn.getD j
              by_cases hja : j < v.length
              · have e := take_snoc (a := v) (d := 0) hja
                cases j with
                | zero =>
                  simp only [go_sem, Ret_eq Tryd.results11] at hs
                  repeat' (first | simp only [go_sem, hs, Ret_eq Tryd.results11] | simp (disch := omega) only [arith, IntKind.bits, capMax, fill_len, elt_fill] | (with_reducible refine condI_beq (fun hq hqb => ?_) (fun hq hqb => ?_) <;> simp only [KP_mk, hqb]) | (with_reducible refine condI_bne (fun hq hqb => ?_) (fun hq hqb => ?_) <;> simp only [KP_mk, hqb]) | (with_reducible refine condI_dec (fun hq hqb => ?_) (fun hq hqb => ?_) <;> simp only [KP_mk, hqb]) | (with_reducible refine condI_b (fun hqb => ?_) (fun hqb => ?_) <;> simp only [KP_mk, hqb]) | refine RetO_calc Tryd.results11 ?_ | refine RetL_calc Tryd.results11 rfl ?_ | (refine Again.up (by omega) ?_ ?_) | exact trivial | fail)
                  all_goals first | rfl | (refine ⟨rfl, ?_⟩; rw [show List.take 1 v = _ from e]; rfl) | skip
                | succ j =>
                  simp only [go_sem, Ret_eq Tryd.results11] at hs
                  have hlt : (v.take (j + 1)).length = j + 1 := by rw [List.length_take]; omega
                  repeat' (first | simp only [go_sem, hs, e, hlt, List.length_append, Ret_eq Tryd.results11] | simp (disch := omega) only [arith, IntKind.bits, capMax, fill_len, elt_fill] | (with_reducible refine condI_beq (fun hq hqb => ?_) (fun hq hqb => ?_) <;> simp only [KP_mk, hqb]) | (with_reducible refine condI_bne (fun hq hqb => ?_) (fun hq hqb => ?_) <;> simp only [KP_mk, hqb]) | (with_reducible refine condI_dec (fun hq hqb => ?_) (fun hq hqb => ?_) <;> simp only [KP_mk, hqb]) | (with_reducible refine condI_b (fun hqb => ?_) (fun hqb => ?_) <;> simp only [KP_mk, hqb]) | refine RetO_calc Tryd.results11 ?_ | refine RetL_calc Tryd.results11 rfl ?_ | (refine Again.up (by omega) ?_ ?_) | exact trivial | fail)
              · obtain rfl : j = v.length := by omega
                obtain ⟨m, hm⟩ : ∃ m, v.length = m + 1 := ⟨v.length - 1, by omega⟩
                rw [hm] at hs
                simp only [go_sem, Ret_eq Tryd.results11] at hs
                have hta : v.take (m + 1) = v := List.take_of_length_le (by omega)
                by_cases hE : E = 0
                · rw [hE] at hck
                  repeat' (first | simp only [go_sem, hs, hta, hm, Ret_eq Tryd.results11] | simp (disch := omega) only [arith, IntKind.bits, capMax, fill_len, elt_fill] | (with_reducible refine condI_beq (fun hq hqb => ?_) (fun hq hqb => ?_) <;> simp only [KP_mk, hqb]) | (with_reducible refine condI_bne (fun hq hqb => ?_) (fun hq hqb => ?_) <;> simp only [KP_mk, hqb]) | (with_reducible refine condI_dec (fun hq hqb => ?_) (fun hq hqb => ?_) <;> simp only [KP_mk, hqb]) | (with_reducible refine condI_b (fun hqb => ?_) (fun hqb => ?_) <;> simp only [KP_mk, hqb]) | refine RetO_calc Tryd.results11 ?_ | refine RetL_calc Tryd.results11 rfl ?_ | (refine Again.up (by omega) ?_ ?_) | exact trivial | (refine opCallI_rd (by simp only [go_sem, hs, hta, hm, Ret_eq Tryd.results11]; first | done | rfl) (hck) (by rintro _ rfl; rfl) ?_; rintro _ rfl) | (refine opCallI_gv (by simp only [go_sem, hs, hta, hm, Ret_eq Tryd.results11]; first | done | rfl) (hck) ?_; rintro _ rfl) | fail)
                  all_goals first | (rw [← hm]; exact ReadR.own (by rw [he, hE]) en0 en1 en2 ev hv1) | rfl
                · have hEb : (E == 0) = false := beq_eq_false_iff_ne.2 hE
                  have hE1 := hbad hE
                  rw [hE1] at hck he
                  repeat' (first | simp only [go_sem, hs, hta, hm, Ret_eq Tryd.results11] | simp (disch := omega) only [arith, IntKind.bits, capMax, fill_len, elt_fill] | (with_reducible refine condI_beq (fun hq hqb => ?_) (fun hq hqb => ?_) <;> simp only [KP_mk, hqb]) | (with_reducible refine condI_bne (fun hq hqb => ?_) (fun hq hqb => ?_) <;> simp only [KP_mk, hqb]) | (with_reducible refine condI_dec (fun hq hqb => ?_) (fun hq hqb => ?_) <;> simp only [KP_mk, hqb]) | (with_reducible refine condI_b (fun hqb => ?_) (fun hqb => ?_) <;> simp only [KP_mk, hqb]) | refine RetO_calc Tryd.results11 ?_ | refine RetL_calc Tryd.results11 rfl ?_ | (refine Again.up (by omega) ?_ ?_) | exact trivial | (refine opCallI_rd (by simp only [go_sem, hs, hta, hm, Ret_eq Tryd.results11]; first | done | rfl) (hck) (by rintro _ rfl; rfl) ?_; rintro _ rfl) | (refine opCallI_gv (by simp only [go_sem, hs, hta, hm, Ret_eq Tryd.results11]; first | done | rfl) (hck) ?_; rintro _ rfl) | fail)
                  all_goals first | exact ReadR.bad he (by decide) | rfl
        · have d3 : decide ((0 : Int) < (R.length : Int)) = false := decide_eq_false (by omega)
          have he := rbad fun q => c3 (by have := (fo.1 q).2.2.2; simpa using this.symm)
          clear ev et rok fo ho rbad
          refine FunO.of_awpI Tryd.func11 rfl cal11 Tryd.ntmps11 (by simp) fun hwf => ?_
          simp only [D.wfs, D.wf, ints_length, ints_wfs, rows_length, rows_wfs, capMax, and_true, true_and] at hwf
          repeat' (first | simp only [go_sem, hb, hre, d3, Ret_eq Tryd.results11] | simp (disch := omega) only [arith, IntKind.bits, capMax, fill_len, elt_fill] | (with_reducible refine condI_beq (fun hq hqb => ?_) (fun hq hqb => ?_) <;> simp only [KP_mk, hqb]) | (with_reducible refine condI_bne (fun hq hqb => ?_) (fun hq hqb => ?_) <;> simp only [KP_mk, hqb]) | (with_reducible refine condI_dec (fun hq hqb => ?_) (fun hq hqb => ?_) <;> simp only [KP_mk, hqb]) | (with_reducible refine condI_b (fun hqb => ?_) (fun hqb => ?_) <;> simp only [KP_mk, hqb]) | refine RetO_calc Tryd.results11 ?_ | refine RetL_calc Tryd.results11 rfl ?_ | (refine Again.up (by omega) ?_ ?_) | exact trivial | (refine opCallI_rd (by simp only [go_sem, hb, hre, d3, Ret_eq Tryd.results11]; first | done | rfl) (sz) (by rintro _ rfl; rfl) ?_; rintro _ rfl) | (refine opCallI_gv (by simp only [go_sem, hb, hre, d3, Ret_eq Tryd.results11]; first | done | rfl) (sz) ?_; rintro _ rfl) | (refine opCallI_rd (by simp only [go_sem, hb, hre, d3, Ret_eq Tryd.results11]; first | done | rfl) (nm) (by rintro _ rfl; rfl) ?_; rintro _ rfl) | (refine opCallI_gv (by simp only [go_sem, hb, hre, d3, Ret_eq Tryd.results11]; first | done | rfl) (nm) ?_; rintro _ rfl) | (refine opCallI_rd (by simp only [go_sem, hb, hre, d3, Ret_eq Tryd.results11]; first | done | rfl) (hro) (by rintro _ rfl; rfl) ?_; rintro _ rfl) | (refine opCallI_gv (by simp only [go_sem, hb, hre, d3, Ret_eq Tryd.results11]; first | done | rfl) (hro) ?_; rintro _ rfl) | fail)
          all_goals first | exact ReadR.bad he (by decide) | rfl
      · have he := rbad fun q => c2 (fo.1 q).2.2.1
        clear ev et rok fo ho rbad
        refine FunO.of_awpI Tryd.func11 rfl cal11 Tryd.ntmps11 (by simp) fun hwf => ?_
        simp only [D.wfs, D.wf, ints_length, ints_wfs, rows_length, rows_wfs, capMax, and_true, true_and] at hwf
        repeat' (first | simp only [go_sem, hb, hre, Ret_eq Tryd.results11] | simp (disch := omega) only [arith, IntKind.bits, capMax, fill_len, elt_fill] | (with_reducible refine condI_beq (fun hq hqb => ?_) (fun hq hqb => ?_) <;> simp only [KP_mk, hqb]) | (with_reducible refine condI_bne (fun hq hqb => ?_) (fun hq hqb => ?_) <;> simp only [KP_mk, hqb]) | (with_reducible refine condI_dec (fun hq hqb => ?_) (fun hq hqb => ?_) <;> simp only [KP_mk, hqb]) | (with_reducible refine condI_b (fun hqb => ?_) (fun hqb => ?_) <;> simp only [KP_mk, hqb]) | refine RetO_calc Tryd.results11 ?_ | refine RetL_calc Tryd.results11 rfl ?_ | (refine Again.up (by omega) ?_ ?_) | exact trivial | (refine opCallI_rd (by simp only [go_sem, hb, hre, Ret_eq Tryd.results11]; first | done | rfl) (sz) (by rintro _ rfl; rfl) ?_; rintro _ rfl) | (refine opCallI_gv (by simp only [go_sem, hb, hre, Ret_eq Tryd.results11]; first | done | rfl) (sz) ?_; rintro _ rfl) | (refine opCallI_rd (by simp only [go_sem, hb, hre, Ret_eq Tryd.results11]; first | done | rfl) (nm) (by rintro _ rfl; rfl) ?_; rintro _ rfl) | (refine opCallI_gv (by simp only [go_sem, hb, hre, Ret_eq Tryd.results11]; first | done | rfl) (nm) ?_; rintro _ rfl) | (refine opCallI_rd (by simp only [go_sem, hb, hre, Ret_eq Tryd.results11]; first | done | rfl) (hro) (by rintro _ rfl; rfl) ?_; rintro _ rfl) | (refine opCallI_gv (by simp only [go_sem, hb, hre, Ret_eq Tryd.results11]; first | done | rfl) (hro) ?_; rintro _ rfl) | fail)
        all_goals first | exact ReadR.bad he (by decide) | rfl
    · have he := rbad fun q => c1 (fo.1 q).2.1
      clear ev et rok fo ho rbad
      refine FunO.of_awpI Tryd.func11 rfl cal11 Tryd.ntmps11 (by simp) fun hwf => ?_
      simp only [D.wfs, D.wf, ints_length, ints_wfs, rows_length, rows_wfs, capMax, and_true, true_and] at hwf
      repeat' (first | simp only [go_sem, hb, hre, Ret_eq Tryd.results11] | simp (disch := omega) only [arith, IntKind.bits, capMax, fill_len, elt_fill] | (with_reducible refine condI_beq (fun hq hqb => ?_) (fun hq hqb => ?_) <;> simp only [KP_mk, hqb]) | (with_reducible refine condI_bne (fun hq hqb => ?_) (fun hq hqb => ?_) <;> simp only [KP_mk, hqb]) | (with_reducible refine condI_dec (fun hq hqb => ?_) (fun hq hqb => ?_) <;> simp only [KP_mk, hqb]) | (with_reducible refine condI_b (fun hqb => ?_) (fun hqb => ?_) <;> simp only [KP_mk, hqb]) | refine RetO_calc Tryd.results11 ?_ | refine RetL_calc Tryd.results11 rfl ?_ | (refine Again.up (by omega) ?_ ?_) | exact trivial | (refine opCallI_rd (by simp only [go_sem, hb, hre, Ret_eq Tryd.results11]; first | done | rfl) (sz) (by rintro _ rfl; rfl) ?_; rintro _ rfl) | (refine opCallI_gv (by simp only [go_sem, hb, hre, Ret_eq Tryd.results11]; first | done | rfl) (sz) ?_; rintro _ rfl) | (refine opCallI_rd (by simp only [go_sem, hb, hre, Ret_eq Tryd.results11]; first | done | rfl) (nm) (by rintro _ rfl; rfl) ?_; rintro _ rfl) | (refine opCallI_gv (by simp only [go_sem, hb, hre, Ret_eq Tryd.results11]; first | done | rfl) (nm) ?_; rintro _ rfl) | (refine opCallI_rd (by simp only [go_sem, hb, hre, Ret_eq Tryd.results11]; first | done | rfl) (hro) (by rintro _ rfl; rfl) ?_; rintro _ rfl) | (refine opCallI_gv (by simp only [go_sem, hb, hre, Ret_eq Tryd.results11]; first | done | rfl) (hro) ?_; rintro _ rfl) | fail)
      all_goals first | exact ReadR.bad he (by decide) | rfl
end Go.Proofs.YtfmeiapglpphpaaDoor.T
