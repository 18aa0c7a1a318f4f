import Derived.Test.YtfmeiapglpphpaaDoorDARefD
set_option linter.unusedSimpArgs false
set_option linter.unusedVariables false
/- The document's answer on what is asked, read, walked: one of the shapes. -/
namespace Go.Proofs.YtfmeiapglpphpaaDoor.T
open Go Go.VL Go.Proofs
set_option maxRecDepth 100000
set_option maxHeartbeats 8000000

theorem refRead18_N (b : List Int) (dim slots : Int) (h : sizesOk dim slots) (h1 : 1 ≤ b.length) (hbl : b.length ≤ 65536) (ho : Octets b) (hk : kindOk (b.getD 0 0)) (e1 : shI (b.getD 0 0) = 0) (e2 : shK (b.getD 0 0) = 0) (e3 : shS (b.getD 0 0) = 0) (e4 : shV (b.getD 0 0) = false) :
    FunO Tryd.prog 11 [.lst (ints .u8 b), .v (.int .i64 dim), .v (.int .i64 slots)] (ReadR b dim slots) := by
  have sz := refSizes_fun dim slots
  rw [decide_eq_true h] at sz
  have hb : ((b.length : Int) == 0) = false := beq_eq_false_iff_ne.2 (by omega)
  have hk' : 1 ≤ b.getD 0 0 ∧ b.getD 0 0 ≤ 8 := hk
  have nm := names_fun (b.getD 0 0) hk
  rw [e1, e2, e3, e4] at nm
  simp only [Int.reduceEq, decide_true, decide_false] at nm
  have hW : readW (b.getD 0 0) = 0 := by unfold readW; rw [e1, e2, e3]; rfl
  have ev : rV b = takeNums 2 ((tailOf b).length / 2) (tailOf b) := rfl
  have et : tailOf b = (b.drop 1).drop 0 := by unfold tailOf; rw [hW]; rfl
  have rbad := fun q => read_bad (b := b) (slots := slots) h q
  have rok := fun q => read_ok (b := b) (slots := slots) h q
  have fo : formOf b ↔ (0 ≤ (b.drop 1).length ∧ (tailOf b).length % 2 = 0 ∧ (tailOf b).length ≤ 128 ∧ (false = decide (0 < (tailOf b).length))) := by
    unfold formOf; rw [hW, e4]; exact ⟨fun q => q.2.2, fun q => ⟨h1, hk, q⟩⟩
  have en0 : rId b = 0 := by unfold rId; rw [if_neg (by rw [e1]; decide)]
  have en1 : rK b = 0 := by unfold rK; rw [if_neg (by rw [e2]; decide)]
  have en2 : rSeed b = 0 := by unfold rSeed; rw [if_neg (by rw [e3]; decide)]
  rw [ev, en0, en1, en2] at rok
  have hoT : Octets (tailOf b) := by rw [et]; exact (ho.drop _).drop _
  have hrl : (b.drop 1).length = b.length - 1 := List.length_drop
  have htl : (tailOf b).length = b.length - 1 := by rw [et, List.drop_zero, hrl]
  have hre : b.drop 1 = tailOf b := by rw [et]; rfl
  have hro := sz
  generalize tailOf b = R at *
  · have hs' : 0 ≤ (b.drop 1).length := Nat.zero_le _
    by_cases c1 : R.length % 2 = 0
    · by_cases c2 : R.length ≤ 128
      · by_cases c3 : R.length = 0
        · have d3 : decide ((0 : Int) < (R.length : Int)) = false := decide_eq_false (by omega)
          have fok : formOf b := fo.2 ⟨hs', c1, c2, by rw [eq_comm]; exact decide_eq_false (by omega)⟩
          have he := rok fok
          obtain ⟨t1, t2, t3⟩ := take_half (b := R) (by omega)
          have hn := takeNums_i16 (R.length / 2) hoT (by omega)
          have hvl := takeNums_length 2 (R.length / 2) R
          have nf := refTake_fun R 2 ((R.length : Int) / 2) (by omega) hoT
          rw [t1, t2, t3] at nf
          have hck := refCheck18_fun (b.getD 0 0) 0 0 0 (takeNums 2 (R.length / 2) R) dim slots (by omega)
          have hbad := askErr_bad (k := b.getD 0 0) (id := 0) (n := 0) (seed := 0) (v := takeNums 2 (R.length / 2) R) (dim := dim) (slots := slots)
          generalize askErr (b.getD 0 0) 0 0 0 (takeNums 2 (R.length / 2) R) dim slots = E at *
          generalize takeNums 2 (R.length / 2) R = v at *
          clear et rok fo ho rbad
          have hv0 : v.length = 0 := by omega
          obtain rfl : v = [] := List.length_eq_zero_iff.1 hv0
          simp only [askD, ints_nil] at hck
          by_cases hE : E = 0
          · rw [hE] at hck
            refine FunO.of_awpI Tryd.func11 rfl cal11 Tryd.ntmps11 (by simp) fun hwf => ?_
            simp only [D.wfs, D.wf, ints_length, ints_wfs, rows_length, rows_wfs, capMax, and_true, true_and] at hwf
            repeat' (first | simp only [go_sem, hb, hre, d3, beq_self_eq_true, Ret_eq Tryd.results11] | simp (disch := omega) only [arith, IntKind.bits, capMax, fill_len, elt_fill] | (with_reducible refine condI_beq (fun hq hqb => ?_) (fun hq hqb => ?_) <;> simp only [KP_mk, hqb]) | (with_reducible refine condI_bne (fun hq hqb => ?_) (fun hq hqb => ?_) <;> simp only [KP_mk, hqb]) | (with_reducible refine condI_dec (fun hq hqb => ?_) (fun hq hqb => ?_) <;> simp only [KP_mk, hqb]) | (with_reducible refine condI_b (fun hqb => ?_) (fun hqb => ?_) <;> simp only [KP_mk, hqb]) | refine RetO_calc Tryd.results11 ?_ | refine RetL_calc Tryd.results11 rfl ?_ | (refine Again.up (by omega) ?_ ?_) | exact trivial | (refine opCallI_rd (by simp only [go_sem, hb, hre, d3, beq_self_eq_true, Ret_eq Tryd.results11]; first | done | rfl) (sz) (by rintro _ rfl; rfl) ?_; rintro _ rfl) | (refine opCallI_gv (by simp only [go_sem, hb, hre, d3, beq_self_eq_true, Ret_eq Tryd.results11]; first | done | rfl) (sz) ?_; rintro _ rfl) | (refine opCallI_rd (by simp only [go_sem, hb, hre, d3, beq_self_eq_true, Ret_eq Tryd.results11]; first | done | rfl) (nm) (by rintro _ rfl; rfl) ?_; rintro _ rfl) | (refine opCallI_gv (by simp only [go_sem, hb, hre, d3, beq_self_eq_true, Ret_eq Tryd.results11]; first | done | rfl) (nm) ?_; rintro _ rfl) | (refine opCallI_rd (by simp only [go_sem, hb, hre, d3, beq_self_eq_true, Ret_eq Tryd.results11]; first | done | rfl) (hro) (by rintro _ rfl; rfl) ?_; rintro _ rfl) | (refine opCallI_gv (by simp only [go_sem, hb, hre, d3, beq_self_eq_true, Ret_eq Tryd.results11]; first | done | rfl) (hro) ?_; rintro _ rfl) | (refine opCallI_rd (by simp only [go_sem, hb, hre, d3, beq_self_eq_true, Ret_eq Tryd.results11]; first | done | rfl) (hck) (by rintro _ rfl; rfl) ?_; rintro _ rfl) | (refine opCallI_gv (by simp only [go_sem, hb, hre, d3, beq_self_eq_true, Ret_eq Tryd.results11]; first | done | rfl) (hck) ?_; rintro _ rfl) | fail)
            all_goals first | exact ReadR.none (by rw [he, hE]) en0 en1 en2 ev rfl | rfl
          · have hEb : (E == 0) = false := beq_eq_false_iff_ne.2 hE
            have hE1 := hbad hE
            rw [hE1] at hck he
            refine FunO.of_awpI Tryd.func11 rfl cal11 Tryd.ntmps11 (by simp) fun hwf => ?_
            simp only [D.wfs, D.wf, ints_length, ints_wfs, rows_length, rows_wfs, capMax, and_true, true_and] at hwf
            repeat' (first | simp only [go_sem, hb, hre, d3, beq_self_eq_true, Ret_eq Tryd.results11] | simp (disch := omega) only [arith, IntKind.bits, capMax, fill_len, elt_fill] | (with_reducible refine condI_beq (fun hq hqb => ?_) (fun hq hqb => ?_) <;> simp only [KP_mk, hqb]) | (with_reducible refine condI_bne (fun hq hqb => ?_) (fun hq hqb => ?_) <;> simp only [KP_mk, hqb]) | (with_reducible refine condI_dec (fun hq hqb => ?_) (fun hq hqb => ?_) <;> simp only [KP_mk, hqb]) | (with_reducible refine condI_b (fun hqb => ?_) (fun hqb => ?_) <;> simp only [KP_mk, hqb]) | refine RetO_calc Tryd.results11 ?_ | refine RetL_calc Tryd.results11 rfl ?_ | (refine Again.up (by omega) ?_ ?_) | exact trivial | (refine opCallI_rd (by simp only [go_sem, hb, hre, d3, beq_self_eq_true, Ret_eq Tryd.results11]; first | done | rfl) (sz) (by rintro _ rfl; rfl) ?_; rintro _ rfl) | (refine opCallI_gv (by simp only [go_sem, hb, hre, d3, beq_self_eq_true, Ret_eq Tryd.results11]; first | done | rfl) (sz) ?_; rintro _ rfl) | (refine opCallI_rd (by simp only [go_sem, hb, hre, d3, beq_self_eq_true, Ret_eq Tryd.results11]; first | done | rfl) (nm) (by rintro _ rfl; rfl) ?_; rintro _ rfl) | (refine opCallI_gv (by simp only [go_sem, hb, hre, d3, beq_self_eq_true, Ret_eq Tryd.results11]; first | done | rfl) (nm) ?_; rintro _ rfl) | (refine opCallI_rd (by simp only [go_sem, hb, hre, d3, beq_self_eq_true, Ret_eq Tryd.results11]; first | done | rfl) (hro) (by rintro _ rfl; rfl) ?_; rintro _ rfl) | (refine opCallI_gv (by simp only [go_sem, hb, hre, d3, beq_self_eq_true, Ret_eq Tryd.results11]; first | done | rfl) (hro) ?_; rintro _ rfl) | (refine opCallI_rd (by simp only [go_sem, hb, hre, d3, beq_self_eq_true, Ret_eq Tryd.results11]; first | done | rfl) (hck) (by rintro _ rfl; rfl) ?_; rintro _ rfl) | (refine opCallI_gv (by simp only [go_sem, hb, hre, d3, beq_self_eq_true, Ret_eq Tryd.results11]; first | done | rfl) (hck) ?_; rintro _ rfl) | fail)
            all_goals first | exact ReadR.bad he (by decide) | rfl
        · have d3 : decide ((0 : Int) < (R.length : Int)) = true := decide_eq_true (by omega)
          have he := rbad fun q => c3 (by have := (fo.1 q).2.2.2; have h2 := of_decide_eq_false this.symm; omega)
          clear ev et rok fo ho rbad
          refine FunO.of_awpI Tryd.func11 rfl cal11 Tryd.ntmps11 (by simp) fun hwf => ?_
          simp only [D.wfs, D.wf, ints_length, ints_wfs, rows_length, rows_wfs, capMax, and_true, true_and] at hwf
          repeat' (first | simp only [go_sem, hb, hre, d3, Ret_eq Tryd.results11] | simp (disch := omega) only [arith, IntKind.bits, capMax, fill_len, elt_fill] | (with_reducible refine condI_beq (fun hq hqb => ?_) (fun hq hqb => ?_) <;> simp only [KP_mk, hqb]) | (with_reducible refine condI_bne (fun hq hqb => ?_) (fun hq hqb => ?_) <;> simp only [KP_mk, hqb]) | (with_reducible refine condI_dec (fun hq hqb => ?_) (fun hq hqb => ?_) <;> simp only [KP_mk, hqb]) | (with_reducible refine condI_b (fun hqb => ?_) (fun hqb => ?_) <;> simp only [KP_mk, hqb]) | refine RetO_calc Tryd.results11 ?_ | refine RetL_calc Tryd.results11 rfl ?_ | (refine Again.up (by omega) ?_ ?_) | exact trivial | (refine opCallI_rd (by simp only [go_sem, hb, hre, d3, Ret_eq Tryd.results11]; first | done | rfl) (sz) (by rintro _ rfl; rfl) ?_; rintro _ rfl) | (refine opCallI_gv (by simp only [go_sem, hb, hre, d3, Ret_eq Tryd.results11]; first | done | rfl) (sz) ?_; rintro _ rfl) | (refine opCallI_rd (by simp only [go_sem, hb, hre, d3, Ret_eq Tryd.results11]; first | done | rfl) (nm) (by rintro _ rfl; rfl) ?_; rintro _ rfl) | (refine opCallI_gv (by simp only [go_sem, hb, hre, d3, Ret_eq Tryd.results11]; first | done | rfl) (nm) ?_; rintro _ rfl) | (refine opCallI_rd (by simp only [go_sem, hb, hre, d3, Ret_eq Tryd.results11]; first | done | rfl) (hro) (by rintro _ rfl; rfl) ?_; rintro _ rfl) | (refine opCallI_gv (by simp only [go_sem, hb, hre, d3, Ret_eq Tryd.results11]; first | done | rfl) (hro) ?_; rintro _ rfl) | fail)
          all_goals first | exact ReadR.bad he (by decide) | rfl
      · have he := rbad fun q => c2 (fo.1 q).2.2.1
        clear ev et rok fo ho rbad
        refine FunO.of_awpI Tryd.func11 rfl cal11 Tryd.ntmps11 (by simp) fun hwf => ?_
        simp only [D.wfs, D.wf, ints_length, ints_wfs, rows_length, rows_wfs, capMax, and_true, true_and] at hwf
        repeat' (first | simp only [go_sem, hb, hre, Ret_eq Tryd.results11] | simp (disch := omega) only [arith, IntKind.bits, capMax, fill_len, elt_fill] | (with_reducible refine condI_beq (fun hq hqb => ?_) (fun hq hqb => ?_) <;> simp only [KP_mk, hqb]) | (with_reducible refine condI_bne (fun hq hqb => ?_) (fun hq hqb => ?_) <;> simp only [KP_mk, hqb]) | (with_reducible refine condI_dec (fun hq hqb => ?_) (fun hq hqb => ?_) <;> simp only [KP_mk, hqb]) | (with_reducible refine condI_b (fun hqb => ?_) (fun hqb => ?_) <;> simp only [KP_mk, hqb]) | refine RetO_calc Tryd.results11 ?_ | refine RetL_calc Tryd.results11 rfl ?_ | (refine Again.up (by omega) ?_ ?_) | exact trivial | (refine opCallI_rd (by simp only [go_sem, hb, hre, Ret_eq Tryd.results11]; first | done | rfl) (sz) (by rintro _ rfl; rfl) ?_; rintro _ rfl) | (refine opCallI_gv (by simp only [go_sem, hb, hre, Ret_eq Tryd.results11]; first | done | rfl) (sz) ?_; rintro _ rfl) | (refine opCallI_rd (by simp only [go_sem, hb, hre, Ret_eq Tryd.results11]; first | done | rfl) (nm) (by rintro _ rfl; rfl) ?_; rintro _ rfl) | (refine opCallI_gv (by simp only [go_sem, hb, hre, Ret_eq Tryd.results11]; first | done | rfl) (nm) ?_; rintro _ rfl) | (refine opCallI_rd (by simp only [go_sem, hb, hre, Ret_eq Tryd.results11]; first | done | rfl) (hro) (by rintro _ rfl; rfl) ?_; rintro _ rfl) | (refine opCallI_gv (by simp only [go_sem, hb, hre, Ret_eq Tryd.results11]; first | done | rfl) (hro) ?_; rintro _ rfl) | fail)
        all_goals first | exact ReadR.bad he (by decide) | rfl
    · have he := rbad fun q => c1 (fo.1 q).2.1
      clear ev et rok fo ho rbad
      refine FunO.of_awpI Tryd.func11 rfl cal11 Tryd.ntmps11 (by simp) fun hwf => ?_
      simp only [D.wfs, D.wf, ints_length, ints_wfs, rows_length, rows_wfs, capMax, and_true, true_and] at hwf
      repeat' (first | simp only [go_sem, hb, hre, Ret_eq Tryd.results11] | simp (disch := omega) only [arith, IntKind.bits, capMax, fill_len, elt_fill] | (with_reducible refine condI_beq (fun hq hqb => ?_) (fun hq hqb => ?_) <;> simp only [KP_mk, hqb]) | (with_reducible refine condI_bne (fun hq hqb => ?_) (fun hq hqb => ?_) <;> simp only [KP_mk, hqb]) | (with_reducible refine condI_dec (fun hq hqb => ?_) (fun hq hqb => ?_) <;> simp only [KP_mk, hqb]) | (with_reducible refine condI_b (fun hqb => ?_) (fun hqb => ?_) <;> simp only [KP_mk, hqb]) | refine RetO_calc Tryd.results11 ?_ | refine RetL_calc Tryd.results11 rfl ?_ | (refine Again.up (by omega) ?_ ?_) | exact trivial | (refine opCallI_rd (by simp only [go_sem, hb, hre, Ret_eq Tryd.results11]; first | done | rfl) (sz) (by rintro _ rfl; rfl) ?_; rintro _ rfl) | (refine opCallI_gv (by simp only [go_sem, hb, hre, Ret_eq Tryd.results11]; first | done | rfl) (sz) ?_; rintro _ rfl) | (refine opCallI_rd (by simp only [go_sem, hb, hre, Ret_eq Tryd.results11]; first | done | rfl) (nm) (by rintro _ rfl; rfl) ?_; rintro _ rfl) | (refine opCallI_gv (by simp only [go_sem, hb, hre, Ret_eq Tryd.results11]; first | done | rfl) (nm) ?_; rintro _ rfl) | (refine opCallI_rd (by simp only [go_sem, hb, hre, Ret_eq Tryd.results11]; first | done | rfl) (hro) (by rintro _ rfl; rfl) ?_; rintro _ rfl) | (refine opCallI_gv (by simp only [go_sem, hb, hre, Ret_eq Tryd.results11]; first | done | rfl) (hro) ?_; rintro _ rfl) | fail)
      all_goals first | exact ReadR.bad he (by decide) | rfl
end Go.Proofs.YtfmeiapglpphpaaDoor.T
