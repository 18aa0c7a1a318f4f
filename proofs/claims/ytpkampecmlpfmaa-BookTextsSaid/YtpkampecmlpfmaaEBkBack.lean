import Derived.Test.YtpkampecmlpfmaaLE
import Derived.Test.YtpkampecmlpfmaaEBkPlain
import Derived.Test.YtpkampecmlpfmaaEPBytes
set_option linter.unusedSimpArgs false
set_option linter.unusedVariables false
/- Law: what is written is read. -/
namespace Go.Proofs.Ytpkampecmlpfmaa.T
open Go Go.VL Go.Proofs
set_option maxRecDepth 100000
set_option maxHeartbeats 8000000
theorem plainAll_fun (n m : Int) (h : sizesOk n m) : Fun Try.prog 56 [.v (.int .i64 n), .v (.int .i64 m)] fun r => r = .tup [bookD 0 (plainC n m), .v (.int .i64 0)] := by
  obtain ⟨⟨h1, h2⟩, h3, h4⟩ := h
  have e : plainC n m = List.replicate n.toNat (plainRow m) := if_pos ⟨⟨h1, h2⟩, h3, h4⟩
  rw [e]
  obtain ⟨a, rfl⟩ := Int.eq_ofNat_of_zero_le (show 0 ≤ n by omega)
  obtain ⟨b, rfl⟩ := Int.eq_ofNat_of_zero_le (show 0 ≤ m by omega)
  by_cases q : b = 1
  · subst q
    exact plain1_fun a (by omega)
  · exact plain_fun a b (by omega) (by omega)

theorem sameCuts_fun (a b : List Int) : Fun Try.prog 26 [.lst (ints .i16 a), .lst (ints .i16 b)] fun r => r = .v (.bool (decide (a = b))) := by
  refine Fun.of_awpI Try.func26 rfl cal26 Try.ntmps26 (by simp) fun hwf => ?_
  simp only [D.wfs, D.wf, ints_length, ints_wfs, rows_length, rows_wfs, capMax, and_true, true_and] at hwf
  repeat' (first | simp only [go_sem, Ret_eq Try.results26] | simp (disch := omega) only [arith, IntKind.bits, capMax, fill_len, elt_fill] | (with_reducible refine condI_beq (fun hq hqb => ?_) (fun hq hqb => ?_) <;> simp only [KP_mk, hqb]) | (with_reducible refine condI_bne (fun hq hqb => ?_) (fun hq hqb => ?_) <;> simp only [KP_mk, hqb]) | (with_reducible refine condI_dec (fun hq hqb => ?_) (fun hq hqb => ?_) <;> simp only [KP_mk, hqb]) | (with_reducible refine condI_b (fun hqb => ?_) (fun hqb => ?_) <;> simp only [KP_mk, hqb]) | refine RetO_calc Try.results26 ?_ | refine RetL_calc Try.results26 rfl ?_ | (refine awpI_draw2 (id := 6) (.one false 0 (.one false 1 (.one false 2 (.one false 3 (.one false 4 (.one false 5 (.one false 6 (.one false 7 (.one false 8 .done))))))))) mixed (by decide +kernel) (by decide +kernel) ?_) | (refine Again.up (by omega) ?_ ?_) | exact trivial | fail)
  · rw [decide_eq_false]; rintro rfl; omega
  · have hl : a.length = b.length := by omega
    refine awpI_for a.length (fun k => a.take k = b.take k) (fun k => [(13, .v (.int .i64 k))]) (fun _ => []) [0, 1, 12] [] _ (Weak.refl _) (by simp) ?_ ?_ ?_
    · simp only [go_sem, Ret_eq Try.results26]
    · simp only [go_sem, Ret_eq Try.results26]
    · intro k s hk hQ hs
      simp only [go_sem, Ret_eq Try.results26] at hs
      by_cases hka : k < a.length
      · repeat' (first | simp only [go_sem, hs, Ret_eq Try.results26] | simp (disch := omega) only [arith, IntKind.bits, capMax, fill_len, elt_fill] | (with_reducible refine condI_beq (fun hq hqb => ?_) (fun hq hqb => ?_) <;> simp only [KP_mk, hqb]) | (with_reducible refine condI_bne (fun hq hqb => ?_) (fun hq hqb => ?_) <;> simp only [KP_mk, hqb]) | (with_reducible refine condI_dec (fun hq hqb => ?_) (fun hq hqb => ?_) <;> simp only [KP_mk, hqb]) | (with_reducible refine condI_b (fun hqb => ?_) (fun hqb => ?_) <;> simp only [KP_mk, hqb]) | refine RetO_calc Try.results26 ?_ | refine RetL_calc Try.results26 rfl ?_ | (refine awpI_draw2 (id := 6) (.one false 0 (.one false 1 (.one false 2 (.one false 3 (.one false 4 (.one false 5 (.one false 6 (.one false 7 (.one false 8 .done))))))))) mixed (by decide +kernel) (by decide +kernel) ?_) | (refine Again.up (by omega) ?_ ?_) | exact trivial | fail)
        · rw [decide_eq_false]; rintro rfl; simp_all
        · exact take_eq_snoc hka (by omega) hQ (by assumption)
      · obtain rfl : k = a.length := by omega
        rw [List.take_length, hl, List.take_length] at hQ
        subst hQ
        repeat' (first | simp only [go_sem, hs, Ret_eq Try.results26] | simp (disch := omega) only [arith, IntKind.bits, capMax, fill_len, elt_fill] | (with_reducible refine condI_beq (fun hq hqb => ?_) (fun hq hqb => ?_) <;> simp only [KP_mk, hqb]) | (with_reducible refine condI_bne (fun hq hqb => ?_) (fun hq hqb => ?_) <;> simp only [KP_mk, hqb]) | (with_reducible refine condI_dec (fun hq hqb => ?_) (fun hq hqb => ?_) <;> simp only [KP_mk, hqb]) | (with_reducible refine condI_b (fun hqb => ?_) (fun hqb => ?_) <;> simp only [KP_mk, hqb]) | refine RetO_calc Try.results26 ?_ | refine RetL_calc Try.results26 rfl ?_ | (refine awpI_draw2 (id := 6) (.one false 0 (.one false 1 (.one false 2 (.one false 3 (.one false 4 (.one false 5 (.one false 6 (.one false 7 (.one false 8 .done))))))))) mixed (by decide +kernel) (by decide +kernel) ?_) | (refine Again.up (by omega) ?_ ?_) | exact trivial | fail)

theorem bookLive_fun : Fun Try.prog 50 [] fun r => r = .v (.bool true) := by
  have h0 := plainAll_fun 1 2 (by decide +kernel)
  rw [show plainC 1 2 = [[0]] by decide +kernel] at h0
  have h1 := sameCuts_fun [0] [0]
  rw [decide_eq_true rfl] at h1
  have h2 := bookSame_fun 0 [[0]] 0 [[0]]
  rw [decide_eq_true ⟨rfl, rfl⟩] at h2
  simp only [bookD, rows_cons, rows_nil, ints_cons, ints_nil] at h0 h1 h2
  refine Fun.of_awpI Try.func50 rfl cal50 Try.ntmps50 (by simp) fun hwf => ?_
  simp only [D.wfs, D.wf, ints_length, ints_wfs, rows_length, rows_wfs, capMax, and_true, true_and] at hwf
  repeat' (first | simp only [go_sem, beq_self_eq_true, Ret_eq Try.results50] | simp (disch := omega) only [arith, IntKind.bits, capMax, fill_len, elt_fill] | (with_reducible refine condI_beq (fun hq hqb => ?_) (fun hq hqb => ?_) <;> simp only [KP_mk, hqb]) | (with_reducible refine condI_bne (fun hq hqb => ?_) (fun hq hqb => ?_) <;> simp only [KP_mk, hqb]) | (with_reducible refine condI_dec (fun hq hqb => ?_) (fun hq hqb => ?_) <;> simp only [KP_mk, hqb]) | (with_reducible refine condI_b (fun hqb => ?_) (fun hqb => ?_) <;> simp only [KP_mk, hqb]) | refine RetO_calc Try.results50 ?_ | refine RetL_calc Try.results50 rfl ?_ | (refine Again.up (by omega) ?_ ?_) | exact trivial | (refine opCallI_rd (by simp only [go_sem, beq_self_eq_true, Ret_eq Try.results50]; first | done | rfl) (h0) (by rintro _ rfl; rfl) ?_; rintro _ rfl) | (refine opCallI_gv (by simp only [go_sem, beq_self_eq_true, Ret_eq Try.results50]; first | done | rfl) (h0) ?_; rintro _ rfl) | (refine opCallI_rd (by simp only [go_sem, beq_self_eq_true, Ret_eq Try.results50]; first | done | rfl) (h1) (by rintro _ rfl; rfl) ?_; rintro _ rfl) | (refine opCallI_gv (by simp only [go_sem, beq_self_eq_true, Ret_eq Try.results50]; first | done | rfl) (h1) ?_; rintro _ rfl) | (refine opCallI_rd (by simp only [go_sem, beq_self_eq_true, Ret_eq Try.results50]; first | done | rfl) (h2) (by rintro _ rfl; rfl) ?_; rintro _ rfl) | (refine opCallI_gv (by simp only [go_sem, beq_self_eq_true, Ret_eq Try.results50]; first | done | rfl) (h2) ?_; rintro _ rfl) | fail)
theorem from_ok_i16 {t : List Int} (ho : Octets t) (h : fromOk t) : I16r (fromC t) ∧ (-9223372036854775808 ≤ fromW t ∧ fromW t ≤ 9223372036854775807) ∧ bookErr (fromW t) (fromC t) = 0 ∧ bytesB (fromW t) (fromC t) = t := by
  have e1 : fromW t = wayT t := if_pos h
  have e2 : fromC t = cutsT t := if_pos h
  have e3 : bytesB (wayT t) (cutsT t) = t := by unfold bytesB; rw [if_pos h.2.2]; exact back_txt ho h
  rw [e1, e2, e3]
  have hn := nums_i16 (dimT t * mnyT t) (bs := t.drop 10) (ho.drop 10) (by rw [List.length_drop]; have := h.2.1; omega)
  refine ⟨fun c hc x hx => ?_, (octs_takeNum (w := 8) (bs := t) (by decide) ho (by have := h.1; omega)).2.2, h.2.2, rfl⟩
  have : x ∈ (cutsT t).flatten := List.mem_flatten.2 ⟨c, hc, hx⟩
  rw [cutsT_flat] at this
  exact hn x this

theorem bookBack_law (w : Int) (cuts : List (List Int)) (t : List Int) (dim cells : Int) (hw : -9223372036854775808 ≤ w ∧ w ≤ 9223372036854775807) (hr : I16r cuts) (ho : Octets t) : Fun Try.prog 14 [bookD w cuts, .lst (ints .u8 t), .v (.int .i64 dim), .v (.int .i64 cells)] fun r => r = .v (.bool true) := by
  have hf := few_fun w cuts
  by_cases g1 : fewB cuts = true
  · rw [g1] at hf
    by_cases g2 : t.length ≤ 3000
    · have hfrom := from_fun t ho (by omega)
      have hbb := bytes_fun w cuts hw hr
      have hsz := size_fun dim cells
      by_cases h1 : fromOk t
      · skip
        have hE : fromE t = 0 := if_pos h1
        obtain ⟨f1, f2, f3, f4⟩ := from_ok_i16 ho h1
        have hby := bytes_fun (fromW t) (fromC t) f2 f1
        have hqk := quantCheck_fun (fromW t) (fromC t)
        rw [f3, f4] at hby
        rw [f3] at hqk
        rw [hE] at hfrom
        clear f1 f2 f3 f4
        generalize fromW t = W1 at *
        generalize fromC t = C1 at *
        have hst : ((strOfNums t).toList == (strOfNums t).toList) = true := beq_self_eq_true _
        by_cases h2 : bookErr w cuts = 0
        · skip
          obtain ⟨b1, b2, b3⟩ := txt_back h2 hw hr
          have hfb := from_fun (bookTxt w cuts) (txt_octets h2) (by rw [txt_length h2]; have := many_le h2; have : cuts.length * manyOf cuts ≤ 64 * 15 := Nat.mul_le_mul this.1.2 this.2; omega)
          have eW : fromW (bookTxt w cuts) = w := (if_pos b1).trans b2
          have eC : fromC (bookTxt w cuts) = cuts := (if_pos b1).trans b3
          have eE : fromE (bookTxt w cuts) = 0 := if_pos b1
          rw [eW, eC, eE] at hfb
          have eB : bytesB w cuts = bookTxt w cuts := if_pos h2
          rw [h2, eB] at hbb
          have hsm := bookSame_fun w cuts w cuts
          rw [decide_eq_true ⟨rfl, rfl⟩] at hsm
          clear b1 b2 b3 eW eC eE eB
          generalize bookTxt w cuts = T2 at *
          by_cases h3 : sizesOk dim cells
          · skip
            obtain ⟨p1, p2, p3⟩ := plain_ok h3
            have hp := plainAll_fun dim cells h3
            have hpb := bytes_fun 0 (plainC dim cells) (by decide) plain_i16
            have eP : bytesB 0 (plainC dim cells) = bookTxt 0 (plainC dim cells) := if_pos p1
            rw [p1, eP] at hpb
            have hqc := quantCells_fun 0 (plainC dim cells)
            rw [p1, if_pos rfl] at hqc
            have e9 : (manyOf (plainC dim cells) : Int) + 1 = cells := by omega
            rw [e9] at hqc
            have hln := size_plain h3
            have eS : sizeE dim cells = 0 := if_pos h3
            rw [eS] at hsz
            generalize bookTxt 0 (plainC dim cells) = T3 at *
            generalize plainC dim cells = PC at *
            generalize sizeV dim cells = sz at *
            have b9 : ((T3.length : Nat) : Int) = sz := hln
            subst b9
            refine Fun.of_awpI Try.func14 rfl cal14 Try.ntmps14 (by simp) fun hwf => ?_
            simp only [D.wfs, D.wf, ints_length, ints_wfs, rows_length, rows_wfs, capMax, and_true, true_and] at hwf
            repeat' (first | simp only [go_sem, beq_self_eq_true, bne_self_eq_false, hst, p3, Ret_eq Try.results14] | simp (disch := omega) only [arith, IntKind.bits, capMax, fill_len, elt_fill] | (with_reducible refine condI_beq (fun hq hqb => ?_) (fun hq hqb => ?_) <;> simp only [KP_mk, hqb]) | (with_reducible refine condI_bne (fun hq hqb => ?_) (fun hq hqb => ?_) <;> simp only [KP_mk, hqb]) | (with_reducible refine condI_dec (fun hq hqb => ?_) (fun hq hqb => ?_) <;> simp only [KP_mk, hqb]) | (with_reducible refine condI_b (fun hqb => ?_) (fun hqb => ?_) <;> simp only [KP_mk, hqb]) | refine RetO_calc Try.results14 ?_ | refine RetL_calc Try.results14 rfl ?_ | (refine Again.up (by omega) ?_ ?_) | exact trivial | (refine opCallI_rd (by simp only [go_sem, beq_self_eq_true, bne_self_eq_false, hst, p3, Ret_eq Try.results14]; first | done | rfl) (bookLive_fun) (by rintro _ rfl; rfl) ?_; rintro _ rfl) | (refine opCallI_gv (by simp only [go_sem, beq_self_eq_true, bne_self_eq_false, hst, p3, Ret_eq Try.results14]; first | done | rfl) (bookLive_fun) ?_; rintro _ rfl) | (refine opCallI_rd (by simp only [go_sem, beq_self_eq_true, bne_self_eq_false, hst, p3, Ret_eq Try.results14]; first | done | rfl) (hf) (by rintro _ rfl; rfl) ?_; rintro _ rfl) | (refine opCallI_gv (by simp only [go_sem, beq_self_eq_true, bne_self_eq_false, hst, p3, Ret_eq Try.results14]; first | done | rfl) (hf) ?_; rintro _ rfl) | (refine opCallI_rd (by simp only [go_sem, beq_self_eq_true, bne_self_eq_false, hst, p3, Ret_eq Try.results14]; first | done | rfl) (hfrom) (by rintro _ rfl; rfl) ?_; rintro _ rfl) | (refine opCallI_gv (by simp only [go_sem, beq_self_eq_true, bne_self_eq_false, hst, p3, Ret_eq Try.results14]; first | done | rfl) (hfrom) ?_; rintro _ rfl) | (refine opCallI_rd (by simp only [go_sem, beq_self_eq_true, bne_self_eq_false, hst, p3, Ret_eq Try.results14]; first | done | rfl) (hbb) (by rintro _ rfl; rfl) ?_; rintro _ rfl) | (refine opCallI_gv (by simp only [go_sem, beq_self_eq_true, bne_self_eq_false, hst, p3, Ret_eq Try.results14]; first | done | rfl) (hbb) ?_; rintro _ rfl) | (refine opCallI_rd (by simp only [go_sem, beq_self_eq_true, bne_self_eq_false, hst, p3, Ret_eq Try.results14]; first | done | rfl) (hp) (by rintro _ rfl; rfl) ?_; rintro _ rfl) | (refine opCallI_gv (by simp only [go_sem, beq_self_eq_true, bne_self_eq_false, hst, p3, Ret_eq Try.results14]; first | done | rfl) (hp) ?_; rintro _ rfl) | (refine opCallI_rd (by simp only [go_sem, beq_self_eq_true, bne_self_eq_false, hst, p3, Ret_eq Try.results14]; first | done | rfl) (hsz) (by rintro _ rfl; rfl) ?_; rintro _ rfl) | (refine opCallI_gv (by simp only [go_sem, beq_self_eq_true, bne_self_eq_false, hst, p3, Ret_eq Try.results14]; first | done | rfl) (hsz) ?_; rintro _ rfl) | (refine opCallI_rd (by simp only [go_sem, beq_self_eq_true, bne_self_eq_false, hst, p3, Ret_eq Try.results14]; first | done | rfl) (hby) (by rintro _ rfl; rfl) ?_; rintro _ rfl) | (refine opCallI_gv (by simp only [go_sem, beq_self_eq_true, bne_self_eq_false, hst, p3, Ret_eq Try.results14]; first | done | rfl) (hby) ?_; rintro _ rfl) | (refine opCallI_rd (by simp only [go_sem, beq_self_eq_true, bne_self_eq_false, hst, p3, Ret_eq Try.results14]; first | done | rfl) (hqk) (by rintro _ rfl; rfl) ?_; rintro _ rfl) | (refine opCallI_gv (by simp only [go_sem, beq_self_eq_true, bne_self_eq_false, hst, p3, Ret_eq Try.results14]; first | done | rfl) (hqk) ?_; rintro _ rfl) | (refine opCallI_rd (by simp only [go_sem, beq_self_eq_true, bne_self_eq_false, hst, p3, Ret_eq Try.results14]; first | done | rfl) (hfb) (by rintro _ rfl; rfl) ?_; rintro _ rfl) | (refine opCallI_gv (by simp only [go_sem, beq_self_eq_true, bne_self_eq_false, hst, p3, Ret_eq Try.results14]; first | done | rfl) (hfb) ?_; rintro _ rfl) | (refine opCallI_rd (by simp only [go_sem, beq_self_eq_true, bne_self_eq_false, hst, p3, Ret_eq Try.results14]; first | done | rfl) (hsm) (by rintro _ rfl; rfl) ?_; rintro _ rfl) | (refine opCallI_gv (by simp only [go_sem, beq_self_eq_true, bne_self_eq_false, hst, p3, Ret_eq Try.results14]; first | done | rfl) (hsm) ?_; rintro _ rfl) | (refine opCallI_rd (by simp only [go_sem, beq_self_eq_true, bne_self_eq_false, hst, p3, Ret_eq Try.results14]; first | done | rfl) (hpb) (by rintro _ rfl; rfl) ?_; rintro _ rfl) | (refine opCallI_gv (by simp only [go_sem, beq_self_eq_true, bne_self_eq_false, hst, p3, Ret_eq Try.results14]; first | done | rfl) (hpb) ?_; rintro _ rfl) | (refine opCallI_rd (by simp only [go_sem, beq_self_eq_true, bne_self_eq_false, hst, p3, Ret_eq Try.results14]; first | done | rfl) (hqc) (by rintro _ rfl; rfl) ?_; rintro _ rfl) | (refine opCallI_gv (by simp only [go_sem, beq_self_eq_true, bne_self_eq_false, hst, p3, Ret_eq Try.results14]; first | done | rfl) (hqc) ?_; rintro _ rfl) | fail)
          · skip
            have hp := plain_bad dim cells h3
            simp only [bookD, rows_nil] at hp
            have eS : sizeE dim cells = 1 := if_neg h3
            rw [eS] at hsz
            refine Fun.of_awpI Try.func14 rfl cal14 Try.ntmps14 (by simp) fun hwf => ?_
            simp only [D.wfs, D.wf, ints_length, ints_wfs, rows_length, rows_wfs, capMax, and_true, true_and] at hwf
            repeat' (first | simp only [go_sem, beq_self_eq_true, bne_self_eq_false, hst, Ret_eq Try.results14] | simp (disch := omega) only [arith, IntKind.bits, capMax, fill_len, elt_fill] | (with_reducible refine condI_beq (fun hq hqb => ?_) (fun hq hqb => ?_) <;> simp only [KP_mk, hqb]) | (with_reducible refine condI_bne (fun hq hqb => ?_) (fun hq hqb => ?_) <;> simp only [KP_mk, hqb]) | (with_reducible refine condI_dec (fun hq hqb => ?_) (fun hq hqb => ?_) <;> simp only [KP_mk, hqb]) | (with_reducible refine condI_b (fun hqb => ?_) (fun hqb => ?_) <;> simp only [KP_mk, hqb]) | refine RetO_calc Try.results14 ?_ | refine RetL_calc Try.results14 rfl ?_ | (refine Again.up (by omega) ?_ ?_) | exact trivial | (refine opCallI_rd (by simp only [go_sem, beq_self_eq_true, bne_self_eq_false, hst, Ret_eq Try.results14]; first | done | rfl) (bookLive_fun) (by rintro _ rfl; rfl) ?_; rintro _ rfl) | (refine opCallI_gv (by simp only [go_sem, beq_self_eq_true, bne_self_eq_false, hst, Ret_eq Try.results14]; first | done | rfl) (bookLive_fun) ?_; rintro _ rfl) | (refine opCallI_rd (by simp only [go_sem, beq_self_eq_true, bne_self_eq_false, hst, Ret_eq Try.results14]; first | done | rfl) (hf) (by rintro _ rfl; rfl) ?_; rintro _ rfl) | (refine opCallI_gv (by simp only [go_sem, beq_self_eq_true, bne_self_eq_false, hst, Ret_eq Try.results14]; first | done | rfl) (hf) ?_; rintro _ rfl) | (refine opCallI_rd (by simp only [go_sem, beq_self_eq_true, bne_self_eq_false, hst, Ret_eq Try.results14]; first | done | rfl) (hfrom) (by rintro _ rfl; rfl) ?_; rintro _ rfl) | (refine opCallI_gv (by simp only [go_sem, beq_self_eq_true, bne_self_eq_false, hst, Ret_eq Try.results14]; first | done | rfl) (hfrom) ?_; rintro _ rfl) | (refine opCallI_rd (by simp only [go_sem, beq_self_eq_true, bne_self_eq_false, hst, Ret_eq Try.results14]; first | done | rfl) (hbb) (by rintro _ rfl; rfl) ?_; rintro _ rfl) | (refine opCallI_gv (by simp only [go_sem, beq_self_eq_true, bne_self_eq_false, hst, Ret_eq Try.results14]; first | done | rfl) (hbb) ?_; rintro _ rfl) | (refine opCallI_rd (by simp only [go_sem, beq_self_eq_true, bne_self_eq_false, hst, Ret_eq Try.results14]; first | done | rfl) (hp) (by rintro _ rfl; rfl) ?_; rintro _ rfl) | (refine opCallI_gv (by simp only [go_sem, beq_self_eq_true, bne_self_eq_false, hst, Ret_eq Try.results14]; first | done | rfl) (hp) ?_; rintro _ rfl) | (refine opCallI_rd (by simp only [go_sem, beq_self_eq_true, bne_self_eq_false, hst, Ret_eq Try.results14]; first | done | rfl) (hsz) (by rintro _ rfl; rfl) ?_; rintro _ rfl) | (refine opCallI_gv (by simp only [go_sem, beq_self_eq_true, bne_self_eq_false, hst, Ret_eq Try.results14]; first | done | rfl) (hsz) ?_; rintro _ rfl) | (refine opCallI_rd (by simp only [go_sem, beq_self_eq_true, bne_self_eq_false, hst, Ret_eq Try.results14]; first | done | rfl) (hby) (by rintro _ rfl; rfl) ?_; rintro _ rfl) | (refine opCallI_gv (by simp only [go_sem, beq_self_eq_true, bne_self_eq_false, hst, Ret_eq Try.results14]; first | done | rfl) (hby) ?_; rintro _ rfl) | (refine opCallI_rd (by simp only [go_sem, beq_self_eq_true, bne_self_eq_false, hst, Ret_eq Try.results14]; first | done | rfl) (hqk) (by rintro _ rfl; rfl) ?_; rintro _ rfl) | (refine opCallI_gv (by simp only [go_sem, beq_self_eq_true, bne_self_eq_false, hst, Ret_eq Try.results14]; first | done | rfl) (hqk) ?_; rintro _ rfl) | (refine opCallI_rd (by simp only [go_sem, beq_self_eq_true, bne_self_eq_false, hst, Ret_eq Try.results14]; first | done | rfl) (hfb) (by rintro _ rfl; rfl) ?_; rintro _ rfl) | (refine opCallI_gv (by simp only [go_sem, beq_self_eq_true, bne_self_eq_false, hst, Ret_eq Try.results14]; first | done | rfl) (hfb) ?_; rintro _ rfl) | (refine opCallI_rd (by simp only [go_sem, beq_self_eq_true, bne_self_eq_false, hst, Ret_eq Try.results14]; first | done | rfl) (hsm) (by rintro _ rfl; rfl) ?_; rintro _ rfl) | (refine opCallI_gv (by simp only [go_sem, beq_self_eq_true, bne_self_eq_false, hst, Ret_eq Try.results14]; first | done | rfl) (hsm) ?_; rintro _ rfl) | fail)
        · skip
          have eB : bytesB w cuts = [] := if_neg h2
          have eE2 : bookErr w cuts = 1 := by unfold bookErr at *; split at h2 <;> simp_all
          rw [eE2, eB, ints_nil] at hbb
          by_cases h3 : sizesOk dim cells
          · skip
            obtain ⟨p1, p2, p3⟩ := plain_ok h3
            have hp := plainAll_fun dim cells h3
            have hpb := bytes_fun 0 (plainC dim cells) (by decide) plain_i16
            have eP : bytesB 0 (plainC dim cells) = bookTxt 0 (plainC dim cells) := if_pos p1
            rw [p1, eP] at hpb
            have hqc := quantCells_fun 0 (plainC dim cells)
            rw [p1, if_pos rfl] at hqc
            have e9 : (manyOf (plainC dim cells) : Int) + 1 = cells := by omega
            rw [e9] at hqc
            have hln := size_plain h3
            have eS : sizeE dim cells = 0 := if_pos h3
            rw [eS] at hsz
            generalize bookTxt 0 (plainC dim cells) = T3 at *
            generalize plainC dim cells = PC at *
            generalize sizeV dim cells = sz at *
            have b9 : ((T3.length : Nat) : Int) = sz := hln
            subst b9
            refine Fun.of_awpI Try.func14 rfl cal14 Try.ntmps14 (by simp) fun hwf => ?_
            simp only [D.wfs, D.wf, ints_length, ints_wfs, rows_length, rows_wfs, capMax, and_true, true_and] at hwf
            repeat' (first | simp only [go_sem, beq_self_eq_true, bne_self_eq_false, hst, p3, Ret_eq Try.results14] | simp (disch := omega) only [arith, IntKind.bits, capMax, fill_len, elt_fill] | (with_reducible refine condI_beq (fun hq hqb => ?_) (fun hq hqb => ?_) <;> simp only [KP_mk, hqb]) | (with_reducible refine condI_bne (fun hq hqb => ?_) (fun hq hqb => ?_) <;> simp only [KP_mk, hqb]) | (with_reducible refine condI_dec (fun hq hqb => ?_) (fun hq hqb => ?_) <;> simp only [KP_mk, hqb]) | (with_reducible refine condI_b (fun hqb => ?_) (fun hqb => ?_) <;> simp only [KP_mk, hqb]) | refine RetO_calc Try.results14 ?_ | refine RetL_calc Try.results14 rfl ?_ | (refine Again.up (by omega) ?_ ?_) | exact trivial | (refine opCallI_rd (by simp only [go_sem, beq_self_eq_true, bne_self_eq_false, hst, p3, Ret_eq Try.results14]; first | done | rfl) (bookLive_fun) (by rintro _ rfl; rfl) ?_; rintro _ rfl) | (refine opCallI_gv (by simp only [go_sem, beq_self_eq_true, bne_self_eq_false, hst, p3, Ret_eq Try.results14]; first | done | rfl) (bookLive_fun) ?_; rintro _ rfl) | (refine opCallI_rd (by simp only [go_sem, beq_self_eq_true, bne_self_eq_false, hst, p3, Ret_eq Try.results14]; first | done | rfl) (hf) (by rintro _ rfl; rfl) ?_; rintro _ rfl) | (refine opCallI_gv (by simp only [go_sem, beq_self_eq_true, bne_self_eq_false, hst, p3, Ret_eq Try.results14]; first | done | rfl) (hf) ?_; rintro _ rfl) | (refine opCallI_rd (by simp only [go_sem, beq_self_eq_true, bne_self_eq_false, hst, p3, Ret_eq Try.results14]; first | done | rfl) (hfrom) (by rintro _ rfl; rfl) ?_; rintro _ rfl) | (refine opCallI_gv (by simp only [go_sem, beq_self_eq_true, bne_self_eq_false, hst, p3, Ret_eq Try.results14]; first | done | rfl) (hfrom) ?_; rintro _ rfl) | (refine opCallI_rd (by simp only [go_sem, beq_self_eq_true, bne_self_eq_false, hst, p3, Ret_eq Try.results14]; first | done | rfl) (hbb) (by rintro _ rfl; rfl) ?_; rintro _ rfl) | (refine opCallI_gv (by simp only [go_sem, beq_self_eq_true, bne_self_eq_false, hst, p3, Ret_eq Try.results14]; first | done | rfl) (hbb) ?_; rintro _ rfl) | (refine opCallI_rd (by simp only [go_sem, beq_self_eq_true, bne_self_eq_false, hst, p3, Ret_eq Try.results14]; first | done | rfl) (hp) (by rintro _ rfl; rfl) ?_; rintro _ rfl) | (refine opCallI_gv (by simp only [go_sem, beq_self_eq_true, bne_self_eq_false, hst, p3, Ret_eq Try.results14]; first | done | rfl) (hp) ?_; rintro _ rfl) | (refine opCallI_rd (by simp only [go_sem, beq_self_eq_true, bne_self_eq_false, hst, p3, Ret_eq Try.results14]; first | done | rfl) (hsz) (by rintro _ rfl; rfl) ?_; rintro _ rfl) | (refine opCallI_gv (by simp only [go_sem, beq_self_eq_true, bne_self_eq_false, hst, p3, Ret_eq Try.results14]; first | done | rfl) (hsz) ?_; rintro _ rfl) | (refine opCallI_rd (by simp only [go_sem, beq_self_eq_true, bne_self_eq_false, hst, p3, Ret_eq Try.results14]; first | done | rfl) (hby) (by rintro _ rfl; rfl) ?_; rintro _ rfl) | (refine opCallI_gv (by simp only [go_sem, beq_self_eq_true, bne_self_eq_false, hst, p3, Ret_eq Try.results14]; first | done | rfl) (hby) ?_; rintro _ rfl) | (refine opCallI_rd (by simp only [go_sem, beq_self_eq_true, bne_self_eq_false, hst, p3, Ret_eq Try.results14]; first | done | rfl) (hqk) (by rintro _ rfl; rfl) ?_; rintro _ rfl) | (refine opCallI_gv (by simp only [go_sem, beq_self_eq_true, bne_self_eq_false, hst, p3, Ret_eq Try.results14]; first | done | rfl) (hqk) ?_; rintro _ rfl) | (refine opCallI_rd (by simp only [go_sem, beq_self_eq_true, bne_self_eq_false, hst, p3, Ret_eq Try.results14]; first | done | rfl) (hpb) (by rintro _ rfl; rfl) ?_; rintro _ rfl) | (refine opCallI_gv (by simp only [go_sem, beq_self_eq_true, bne_self_eq_false, hst, p3, Ret_eq Try.results14]; first | done | rfl) (hpb) ?_; rintro _ rfl) | (refine opCallI_rd (by simp only [go_sem, beq_self_eq_true, bne_self_eq_false, hst, p3, Ret_eq Try.results14]; first | done | rfl) (hqc) (by rintro _ rfl; rfl) ?_; rintro _ rfl) | (refine opCallI_gv (by simp only [go_sem, beq_self_eq_true, bne_self_eq_false, hst, p3, Ret_eq Try.results14]; first | done | rfl) (hqc) ?_; rintro _ rfl) | fail)
          · skip
            have hp := plain_bad dim cells h3
            simp only [bookD, rows_nil] at hp
            have eS : sizeE dim cells = 1 := if_neg h3
            rw [eS] at hsz
            refine Fun.of_awpI Try.func14 rfl cal14 Try.ntmps14 (by simp) fun hwf => ?_
            simp only [D.wfs, D.wf, ints_length, ints_wfs, rows_length, rows_wfs, capMax, and_true, true_and] at hwf
            repeat' (first | simp only [go_sem, beq_self_eq_true, bne_self_eq_false, hst, Ret_eq Try.results14] | simp (disch := omega) only [arith, IntKind.bits, capMax, fill_len, elt_fill] | (with_reducible refine condI_beq (fun hq hqb => ?_) (fun hq hqb => ?_) <;> simp only [KP_mk, hqb]) | (with_reducible refine condI_bne (fun hq hqb => ?_) (fun hq hqb => ?_) <;> simp only [KP_mk, hqb]) | (with_reducible refine condI_dec (fun hq hqb => ?_) (fun hq hqb => ?_) <;> simp only [KP_mk, hqb]) | (with_reducible refine condI_b (fun hqb => ?_) (fun hqb => ?_) <;> simp only [KP_mk, hqb]) | refine RetO_calc Try.results14 ?_ | refine RetL_calc Try.results14 rfl ?_ | (refine Again.up (by omega) ?_ ?_) | exact trivial | (refine opCallI_rd (by simp only [go_sem, beq_self_eq_true, bne_self_eq_false, hst, Ret_eq Try.results14]; first | done | rfl) (bookLive_fun) (by rintro _ rfl; rfl) ?_; rintro _ rfl) | (refine opCallI_gv (by simp only [go_sem, beq_self_eq_true, bne_self_eq_false, hst, Ret_eq Try.results14]; first | done | rfl) (bookLive_fun) ?_; rintro _ rfl) | (refine opCallI_rd (by simp only [go_sem, beq_self_eq_true, bne_self_eq_false, hst, Ret_eq Try.results14]; first | done | rfl) (hf) (by rintro _ rfl; rfl) ?_; rintro _ rfl) | (refine opCallI_gv (by simp only [go_sem, beq_self_eq_true, bne_self_eq_false, hst, Ret_eq Try.results14]; first | done | rfl) (hf) ?_; rintro _ rfl) | (refine opCallI_rd (by simp only [go_sem, beq_self_eq_true, bne_self_eq_false, hst, Ret_eq Try.results14]; first | done | rfl) (hfrom) (by rintro _ rfl; rfl) ?_; rintro _ rfl) | (refine opCallI_gv (by simp only [go_sem, beq_self_eq_true, bne_self_eq_false, hst, Ret_eq Try.results14]; first | done | rfl) (hfrom) ?_; rintro _ rfl) | (refine opCallI_rd (by simp only [go_sem, beq_self_eq_true, bne_self_eq_false, hst, Ret_eq Try.results14]; first | done | rfl) (hbb) (by rintro _ rfl; rfl) ?_; rintro _ rfl) | (refine opCallI_gv (by simp only [go_sem, beq_self_eq_true, bne_self_eq_false, hst, Ret_eq Try.results14]; first | done | rfl) (hbb) ?_; rintro _ rfl) | (refine opCallI_rd (by simp only [go_sem, beq_self_eq_true, bne_self_eq_false, hst, Ret_eq Try.results14]; first | done | rfl) (hp) (by rintro _ rfl; rfl) ?_; rintro _ rfl) | (refine opCallI_gv (by simp only [go_sem, beq_self_eq_true, bne_self_eq_false, hst, Ret_eq Try.results14]; first | done | rfl) (hp) ?_; rintro _ rfl) | (refine opCallI_rd (by simp only [go_sem, beq_self_eq_true, bne_self_eq_false, hst, Ret_eq Try.results14]; first | done | rfl) (hsz) (by rintro _ rfl; rfl) ?_; rintro _ rfl) | (refine opCallI_gv (by simp only [go_sem, beq_self_eq_true, bne_self_eq_false, hst, Ret_eq Try.results14]; first | done | rfl) (hsz) ?_; rintro _ rfl) | (refine opCallI_rd (by simp only [go_sem, beq_self_eq_true, bne_self_eq_false, hst, Ret_eq Try.results14]; first | done | rfl) (hby) (by rintro _ rfl; rfl) ?_; rintro _ rfl) | (refine opCallI_gv (by simp only [go_sem, beq_self_eq_true, bne_self_eq_false, hst, Ret_eq Try.results14]; first | done | rfl) (hby) ?_; rintro _ rfl) | (refine opCallI_rd (by simp only [go_sem, beq_self_eq_true, bne_self_eq_false, hst, Ret_eq Try.results14]; first | done | rfl) (hqk) (by rintro _ rfl; rfl) ?_; rintro _ rfl) | (refine opCallI_gv (by simp only [go_sem, beq_self_eq_true, bne_self_eq_false, hst, Ret_eq Try.results14]; first | done | rfl) (hqk) ?_; rintro _ rfl) | fail)
      · skip
        have hE : fromE t = 2 := if_neg h1
        have e1 : fromW t = 0 := if_neg h1
        have e2 : fromC t = [] := if_neg h1
        rw [hE, e1, e2] at hfrom
        simp only [bookD, rows_nil] at hfrom
        by_cases h2 : bookErr w cuts = 0
        · skip
          obtain ⟨b1, b2, b3⟩ := txt_back h2 hw hr
          have hfb := from_fun (bookTxt w cuts) (txt_octets h2) (by rw [txt_length h2]; have := many_le h2; have : cuts.length * manyOf cuts ≤ 64 * 15 := Nat.mul_le_mul this.1.2 this.2; omega)
          have eW : fromW (bookTxt w cuts) = w := (if_pos b1).trans b2
          have eC : fromC (bookTxt w cuts) = cuts := (if_pos b1).trans b3
          have eE : fromE (bookTxt w cuts) = 0 := if_pos b1
          rw [eW, eC, eE] at hfb
          have eB : bytesB w cuts = bookTxt w cuts := if_pos h2
          rw [h2, eB] at hbb
          have hsm := bookSame_fun w cuts w cuts
          rw [decide_eq_true ⟨rfl, rfl⟩] at hsm
          clear b1 b2 b3 eW eC eE eB
          generalize bookTxt w cuts = T2 at *
          by_cases h3 : sizesOk dim cells
          · skip
            obtain ⟨p1, p2, p3⟩ := plain_ok h3
            have hp := plainAll_fun dim cells h3
            have hpb := bytes_fun 0 (plainC dim cells) (by decide) plain_i16
            have eP : bytesB 0 (plainC dim cells) = bookTxt 0 (plainC dim cells) := if_pos p1
            rw [p1, eP] at hpb
            have hqc := quantCells_fun 0 (plainC dim cells)
            rw [p1, if_pos rfl] at hqc
            have e9 : (manyOf (plainC dim cells) : Int) + 1 = cells := by omega
            rw [e9] at hqc
            have hln := size_plain h3
            have eS : sizeE dim cells = 0 := if_pos h3
            rw [eS] at hsz
            generalize bookTxt 0 (plainC dim cells) = T3 at *
            generalize plainC dim cells = PC at *
            generalize sizeV dim cells = sz at *
            have b9 : ((T3.length : Nat) : Int) = sz := hln
            subst b9
            refine Fun.of_awpI Try.func14 rfl cal14 Try.ntmps14 (by simp) fun hwf => ?_
            simp only [D.wfs, D.wf, ints_length, ints_wfs, rows_length, rows_wfs, capMax, and_true, true_and] at hwf
            repeat' (first | simp only [go_sem, beq_self_eq_true, bne_self_eq_false, p3, Ret_eq Try.results14] | simp (disch := omega) only [arith, IntKind.bits, capMax, fill_len, elt_fill] | (with_reducible refine condI_beq (fun hq hqb => ?_) (fun hq hqb => ?_) <;> simp only [KP_mk, hqb]) | (with_reducible refine condI_bne (fun hq hqb => ?_) (fun hq hqb => ?_) <;> simp only [KP_mk, hqb]) | (with_reducible refine condI_dec (fun hq hqb => ?_) (fun hq hqb => ?_) <;> simp only [KP_mk, hqb]) | (with_reducible refine condI_b (fun hqb => ?_) (fun hqb => ?_) <;> simp only [KP_mk, hqb]) | refine RetO_calc Try.results14 ?_ | refine RetL_calc Try.results14 rfl ?_ | (refine Again.up (by omega) ?_ ?_) | exact trivial | (refine opCallI_rd (by simp only [go_sem, beq_self_eq_true, bne_self_eq_false, p3, Ret_eq Try.results14]; first | done | rfl) (bookLive_fun) (by rintro _ rfl; rfl) ?_; rintro _ rfl) | (refine opCallI_gv (by simp only [go_sem, beq_self_eq_true, bne_self_eq_false, p3, Ret_eq Try.results14]; first | done | rfl) (bookLive_fun) ?_; rintro _ rfl) | (refine opCallI_rd (by simp only [go_sem, beq_self_eq_true, bne_self_eq_false, p3, Ret_eq Try.results14]; first | done | rfl) (hf) (by rintro _ rfl; rfl) ?_; rintro _ rfl) | (refine opCallI_gv (by simp only [go_sem, beq_self_eq_true, bne_self_eq_false, p3, Ret_eq Try.results14]; first | done | rfl) (hf) ?_; rintro _ rfl) | (refine opCallI_rd (by simp only [go_sem, beq_self_eq_true, bne_self_eq_false, p3, Ret_eq Try.results14]; first | done | rfl) (hfrom) (by rintro _ rfl; rfl) ?_; rintro _ rfl) | (refine opCallI_gv (by simp only [go_sem, beq_self_eq_true, bne_self_eq_false, p3, Ret_eq Try.results14]; first | done | rfl) (hfrom) ?_; rintro _ rfl) | (refine opCallI_rd (by simp only [go_sem, beq_self_eq_true, bne_self_eq_false, p3, Ret_eq Try.results14]; first | done | rfl) (hbb) (by rintro _ rfl; rfl) ?_; rintro _ rfl) | (refine opCallI_gv (by simp only [go_sem, beq_self_eq_true, bne_self_eq_false, p3, Ret_eq Try.results14]; first | done | rfl) (hbb) ?_; rintro _ rfl) | (refine opCallI_rd (by simp only [go_sem, beq_self_eq_true, bne_self_eq_false, p3, Ret_eq Try.results14]; first | done | rfl) (hp) (by rintro _ rfl; rfl) ?_; rintro _ rfl) | (refine opCallI_gv (by simp only [go_sem, beq_self_eq_true, bne_self_eq_false, p3, Ret_eq Try.results14]; first | done | rfl) (hp) ?_; rintro _ rfl) | (refine opCallI_rd (by simp only [go_sem, beq_self_eq_true, bne_self_eq_false, p3, Ret_eq Try.results14]; first | done | rfl) (hsz) (by rintro _ rfl; rfl) ?_; rintro _ rfl) | (refine opCallI_gv (by simp only [go_sem, beq_self_eq_true, bne_self_eq_false, p3, Ret_eq Try.results14]; first | done | rfl) (hsz) ?_; rintro _ rfl) | (refine opCallI_rd (by simp only [go_sem, beq_self_eq_true, bne_self_eq_false, p3, Ret_eq Try.results14]; first | done | rfl) (hfb) (by rintro _ rfl; rfl) ?_; rintro _ rfl) | (refine opCallI_gv (by simp only [go_sem, beq_self_eq_true, bne_self_eq_false, p3, Ret_eq Try.results14]; first | done | rfl) (hfb) ?_; rintro _ rfl) | (refine opCallI_rd (by simp only [go_sem, beq_self_eq_true, bne_self_eq_false, p3, Ret_eq Try.results14]; first | done | rfl) (hsm) (by rintro _ rfl; rfl) ?_; rintro _ rfl) | (refine opCallI_gv (by simp only [go_sem, beq_self_eq_true, bne_self_eq_false, p3, Ret_eq Try.results14]; first | done | rfl) (hsm) ?_; rintro _ rfl) | (refine opCallI_rd (by simp only [go_sem, beq_self_eq_true, bne_self_eq_false, p3, Ret_eq Try.results14]; first | done | rfl) (hpb) (by rintro _ rfl; rfl) ?_; rintro _ rfl) | (refine opCallI_gv (by simp only [go_sem, beq_self_eq_true, bne_self_eq_false, p3, Ret_eq Try.results14]; first | done | rfl) (hpb) ?_; rintro _ rfl) | (refine opCallI_rd (by simp only [go_sem, beq_self_eq_true, bne_self_eq_false, p3, Ret_eq Try.results14]; first | done | rfl) (hqc) (by rintro _ rfl; rfl) ?_; rintro _ rfl) | (refine opCallI_gv (by simp only [go_sem, beq_self_eq_true, bne_self_eq_false, p3, Ret_eq Try.results14]; first | done | rfl) (hqc) ?_; rintro _ rfl) | fail)
          · skip
            have hp := plain_bad dim cells h3
            simp only [bookD, rows_nil] at hp
            have eS : sizeE dim cells = 1 := if_neg h3
            rw [eS] at hsz
            refine Fun.of_awpI Try.func14 rfl cal14 Try.ntmps14 (by simp) fun hwf => ?_
            simp only [D.wfs, D.wf, ints_length, ints_wfs, rows_length, rows_wfs, capMax, and_true, true_and] at hwf
            repeat' (first | simp only [go_sem, beq_self_eq_true, bne_self_eq_false, Ret_eq Try.results14] | simp (disch := omega) only [arith, IntKind.bits, capMax, fill_len, elt_fill] | (with_reducible refine condI_beq (fun hq hqb => ?_) (fun hq hqb => ?_) <;> simp only [KP_mk, hqb]) | (with_reducible refine condI_bne (fun hq hqb => ?_) (fun hq hqb => ?_) <;> simp only [KP_mk, hqb]) | (with_reducible refine condI_dec (fun hq hqb => ?_) (fun hq hqb => ?_) <;> simp only [KP_mk, hqb]) | (with_reducible refine condI_b (fun hqb => ?_) (fun hqb => ?_) <;> simp only [KP_mk, hqb]) | refine RetO_calc Try.results14 ?_ | refine RetL_calc Try.results14 rfl ?_ | (refine Again.up (by omega) ?_ ?_) | exact trivial | (refine opCallI_rd (by simp only [go_sem, beq_self_eq_true, bne_self_eq_false, Ret_eq Try.results14]; first | done | rfl) (bookLive_fun) (by rintro _ rfl; rfl) ?_; rintro _ rfl) | (refine opCallI_gv (by simp only [go_sem, beq_self_eq_true, bne_self_eq_false, Ret_eq Try.results14]; first | done | rfl) (bookLive_fun) ?_; rintro _ rfl) | (refine opCallI_rd (by simp only [go_sem, beq_self_eq_true, bne_self_eq_false, Ret_eq Try.results14]; first | done | rfl) (hf) (by rintro _ rfl; rfl) ?_; rintro _ rfl) | (refine opCallI_gv (by simp only [go_sem, beq_self_eq_true, bne_self_eq_false, Ret_eq Try.results14]; first | done | rfl) (hf) ?_; rintro _ rfl) | (refine opCallI_rd (by simp only [go_sem, beq_self_eq_true, bne_self_eq_false, Ret_eq Try.results14]; first | done | rfl) (hfrom) (by rintro _ rfl; rfl) ?_; rintro _ rfl) | (refine opCallI_gv (by simp only [go_sem, beq_self_eq_true, bne_self_eq_false, Ret_eq Try.results14]; first | done | rfl) (hfrom) ?_; rintro _ rfl) | (refine opCallI_rd (by simp only [go_sem, beq_self_eq_true, bne_self_eq_false, Ret_eq Try.results14]; first | done | rfl) (hbb) (by rintro _ rfl; rfl) ?_; rintro _ rfl) | (refine opCallI_gv (by simp only [go_sem, beq_self_eq_true, bne_self_eq_false, Ret_eq Try.results14]; first | done | rfl) (hbb) ?_; rintro _ rfl) | (refine opCallI_rd (by simp only [go_sem, beq_self_eq_true, bne_self_eq_false, Ret_eq Try.results14]; first | done | rfl) (hp) (by rintro _ rfl; rfl) ?_; rintro _ rfl) | (refine opCallI_gv (by simp only [go_sem, beq_self_eq_true, bne_self_eq_false, Ret_eq Try.results14]; first | done | rfl) (hp) ?_; rintro _ rfl) | (refine opCallI_rd (by simp only [go_sem, beq_self_eq_true, bne_self_eq_false, Ret_eq Try.results14]; first | done | rfl) (hsz) (by rintro _ rfl; rfl) ?_; rintro _ rfl) | (refine opCallI_gv (by simp only [go_sem, beq_self_eq_true, bne_self_eq_false, Ret_eq Try.results14]; first | done | rfl) (hsz) ?_; rintro _ rfl) | (refine opCallI_rd (by simp only [go_sem, beq_self_eq_true, bne_self_eq_false, Ret_eq Try.results14]; first | done | rfl) (hfb) (by rintro _ rfl; rfl) ?_; rintro _ rfl) | (refine opCallI_gv (by simp only [go_sem, beq_self_eq_true, bne_self_eq_false, Ret_eq Try.results14]; first | done | rfl) (hfb) ?_; rintro _ rfl) | (refine opCallI_rd (by simp only [go_sem, beq_self_eq_true, bne_self_eq_false, Ret_eq Try.results14]; first | done | rfl) (hsm) (by rintro _ rfl; rfl) ?_; rintro _ rfl) | (refine opCallI_gv (by simp only [go_sem, beq_self_eq_true, bne_self_eq_false, Ret_eq Try.results14]; first | done | rfl) (hsm) ?_; rintro _ rfl) | fail)
        · skip
          have eB : bytesB w cuts = [] := if_neg h2
          have eE2 : bookErr w cuts = 1 := by unfold bookErr at *; split at h2 <;> simp_all
          rw [eE2, eB, ints_nil] at hbb
          by_cases h3 : sizesOk dim cells
          · skip
            obtain ⟨p1, p2, p3⟩ := plain_ok h3
            have hp := plainAll_fun dim cells h3
            have hpb := bytes_fun 0 (plainC dim cells) (by decide) plain_i16
            have eP : bytesB 0 (plainC dim cells) = bookTxt 0 (plainC dim cells) := if_pos p1
            rw [p1, eP] at hpb
            have hqc := quantCells_fun 0 (plainC dim cells)
            rw [p1, if_pos rfl] at hqc
            have e9 : (manyOf (plainC dim cells) : Int) + 1 = cells := by omega
            rw [e9] at hqc
            have hln := size_plain h3
            have eS : sizeE dim cells = 0 := if_pos h3
            rw [eS] at hsz
            generalize bookTxt 0 (plainC dim cells) = T3 at *
            generalize plainC dim cells = PC at *
            generalize sizeV dim cells = sz at *
            have b9 : ((T3.length : Nat) : Int) = sz := hln
            subst b9
            refine Fun.of_awpI Try.func14 rfl cal14 Try.ntmps14 (by simp) fun hwf => ?_
            simp only [D.wfs, D.wf, ints_length, ints_wfs, rows_length, rows_wfs, capMax, and_true, true_and] at hwf
            repeat' (first | simp only [go_sem, beq_self_eq_true, bne_self_eq_false, p3, Ret_eq Try.results14] | simp (disch := omega) only [arith, IntKind.bits, capMax, fill_len, elt_fill] | (with_reducible refine condI_beq (fun hq hqb => ?_) (fun hq hqb => ?_) <;> simp only [KP_mk, hqb]) | (with_reducible refine condI_bne (fun hq hqb => ?_) (fun hq hqb => ?_) <;> simp only [KP_mk, hqb]) | (with_reducible refine condI_dec (fun hq hqb => ?_) (fun hq hqb => ?_) <;> simp only [KP_mk, hqb]) | (with_reducible refine condI_b (fun hqb => ?_) (fun hqb => ?_) <;> simp only [KP_mk, hqb]) | refine RetO_calc Try.results14 ?_ | refine RetL_calc Try.results14 rfl ?_ | (refine Again.up (by omega) ?_ ?_) | exact trivial | (refine opCallI_rd (by simp only [go_sem, beq_self_eq_true, bne_self_eq_false, p3, Ret_eq Try.results14]; first | done | rfl) (bookLive_fun) (by rintro _ rfl; rfl) ?_; rintro _ rfl) | (refine opCallI_gv (by simp only [go_sem, beq_self_eq_true, bne_self_eq_false, p3, Ret_eq Try.results14]; first | done | rfl) (bookLive_fun) ?_; rintro _ rfl) | (refine opCallI_rd (by simp only [go_sem, beq_self_eq_true, bne_self_eq_false, p3, Ret_eq Try.results14]; first | done | rfl) (hf) (by rintro _ rfl; rfl) ?_; rintro _ rfl) | (refine opCallI_gv (by simp only [go_sem, beq_self_eq_true, bne_self_eq_false, p3, Ret_eq Try.results14]; first | done | rfl) (hf) ?_; rintro _ rfl) | (refine opCallI_rd (by simp only [go_sem, beq_self_eq_true, bne_self_eq_false, p3, Ret_eq Try.results14]; first | done | rfl) (hfrom) (by rintro _ rfl; rfl) ?_; rintro _ rfl) | (refine opCallI_gv (by simp only [go_sem, beq_self_eq_true, bne_self_eq_false, p3, Ret_eq Try.results14]; first | done | rfl) (hfrom) ?_; rintro _ rfl) | (refine opCallI_rd (by simp only [go_sem, beq_self_eq_true, bne_self_eq_false, p3, Ret_eq Try.results14]; first | done | rfl) (hbb) (by rintro _ rfl; rfl) ?_; rintro _ rfl) | (refine opCallI_gv (by simp only [go_sem, beq_self_eq_true, bne_self_eq_false, p3, Ret_eq Try.results14]; first | done | rfl) (hbb) ?_; rintro _ rfl) | (refine opCallI_rd (by simp only [go_sem, beq_self_eq_true, bne_self_eq_false, p3, Ret_eq Try.results14]; first | done | rfl) (hp) (by rintro _ rfl; rfl) ?_; rintro _ rfl) | (refine opCallI_gv (by simp only [go_sem, beq_self_eq_true, bne_self_eq_false, p3, Ret_eq Try.results14]; first | done | rfl) (hp) ?_; rintro _ rfl) | (refine opCallI_rd (by simp only [go_sem, beq_self_eq_true, bne_self_eq_false, p3, Ret_eq Try.results14]; first | done | rfl) (hsz) (by rintro _ rfl; rfl) ?_; rintro _ rfl) | (refine opCallI_gv (by simp only [go_sem, beq_self_eq_true, bne_self_eq_false, p3, Ret_eq Try.results14]; first | done | rfl) (hsz) ?_; rintro _ rfl) | (refine opCallI_rd (by simp only [go_sem, beq_self_eq_true, bne_self_eq_false, p3, Ret_eq Try.results14]; first | done | rfl) (hpb) (by rintro _ rfl; rfl) ?_; rintro _ rfl) | (refine opCallI_gv (by simp only [go_sem, beq_self_eq_true, bne_self_eq_false, p3, Ret_eq Try.results14]; first | done | rfl) (hpb) ?_; rintro _ rfl) | (refine opCallI_rd (by simp only [go_sem, beq_self_eq_true, bne_self_eq_false, p3, Ret_eq Try.results14]; first | done | rfl) (hqc) (by rintro _ rfl; rfl) ?_; rintro _ rfl) | (refine opCallI_gv (by simp only [go_sem, beq_self_eq_true, bne_self_eq_false, p3, Ret_eq Try.results14]; first | done | rfl) (hqc) ?_; rintro _ rfl) | fail)
          · skip
            have hp := plain_bad dim cells h3
            simp only [bookD, rows_nil] at hp
            have eS : sizeE dim cells = 1 := if_neg h3
            rw [eS] at hsz
            refine Fun.of_awpI Try.func14 rfl cal14 Try.ntmps14 (by simp) fun hwf => ?_
            simp only [D.wfs, D.wf, ints_length, ints_wfs, rows_length, rows_wfs, capMax, and_true, true_and] at hwf
            repeat' (first | simp only [go_sem, beq_self_eq_true, bne_self_eq_false, Ret_eq Try.results14] | simp (disch := omega) only [arith, IntKind.bits, capMax, fill_len, elt_fill] | (with_reducible refine condI_beq (fun hq hqb => ?_) (fun hq hqb => ?_) <;> simp only [KP_mk, hqb]) | (with_reducible refine condI_bne (fun hq hqb => ?_) (fun hq hqb => ?_) <;> simp only [KP_mk, hqb]) | (with_reducible refine condI_dec (fun hq hqb => ?_) (fun hq hqb => ?_) <;> simp only [KP_mk, hqb]) | (with_reducible refine condI_b (fun hqb => ?_) (fun hqb => ?_) <;> simp only [KP_mk, hqb]) | refine RetO_calc Try.results14 ?_ | refine RetL_calc Try.results14 rfl ?_ | (refine Again.up (by omega) ?_ ?_) | exact trivial | (refine opCallI_rd (by simp only [go_sem, beq_self_eq_true, bne_self_eq_false, Ret_eq Try.results14]; first | done | rfl) (bookLive_fun) (by rintro _ rfl; rfl) ?_; rintro _ rfl) | (refine opCallI_gv (by simp only [go_sem, beq_self_eq_true, bne_self_eq_false, Ret_eq Try.results14]; first | done | rfl) (bookLive_fun) ?_; rintro _ rfl) | (refine opCallI_rd (by simp only [go_sem, beq_self_eq_true, bne_self_eq_false, Ret_eq Try.results14]; first | done | rfl) (hf) (by rintro _ rfl; rfl) ?_; rintro _ rfl) | (refine opCallI_gv (by simp only [go_sem, beq_self_eq_true, bne_self_eq_false, Ret_eq Try.results14]; first | done | rfl) (hf) ?_; rintro _ rfl) | (refine opCallI_rd (by simp only [go_sem, beq_self_eq_true, bne_self_eq_false, Ret_eq Try.results14]; first | done | rfl) (hfrom) (by rintro _ rfl; rfl) ?_; rintro _ rfl) | (refine opCallI_gv (by simp only [go_sem, beq_self_eq_true, bne_self_eq_false, Ret_eq Try.results14]; first | done | rfl) (hfrom) ?_; rintro _ rfl) | (refine opCallI_rd (by simp only [go_sem, beq_self_eq_true, bne_self_eq_false, Ret_eq Try.results14]; first | done | rfl) (hbb) (by rintro _ rfl; rfl) ?_; rintro _ rfl) | (refine opCallI_gv (by simp only [go_sem, beq_self_eq_true, bne_self_eq_false, Ret_eq Try.results14]; first | done | rfl) (hbb) ?_; rintro _ rfl) | (refine opCallI_rd (by simp only [go_sem, beq_self_eq_true, bne_self_eq_false, Ret_eq Try.results14]; first | done | rfl) (hp) (by rintro _ rfl; rfl) ?_; rintro _ rfl) | (refine opCallI_gv (by simp only [go_sem, beq_self_eq_true, bne_self_eq_false, Ret_eq Try.results14]; first | done | rfl) (hp) ?_; rintro _ rfl) | (refine opCallI_rd (by simp only [go_sem, beq_self_eq_true, bne_self_eq_false, Ret_eq Try.results14]; first | done | rfl) (hsz) (by rintro _ rfl; rfl) ?_; rintro _ rfl) | (refine opCallI_gv (by simp only [go_sem, beq_self_eq_true, bne_self_eq_false, Ret_eq Try.results14]; first | done | rfl) (hsz) ?_; rintro _ rfl) | fail)
    · skip
      refine Fun.of_awpI Try.func14 rfl cal14 Try.ntmps14 (by simp) fun hwf => ?_
      simp only [D.wfs, D.wf, ints_length, ints_wfs, rows_length, rows_wfs, capMax, and_true, true_and] at hwf
      repeat' (first | simp only [go_sem, Ret_eq Try.results14] | simp (disch := omega) only [arith, IntKind.bits, capMax, fill_len, elt_fill] | (with_reducible refine condI_beq (fun hq hqb => ?_) (fun hq hqb => ?_) <;> simp only [KP_mk, hqb]) | (with_reducible refine condI_bne (fun hq hqb => ?_) (fun hq hqb => ?_) <;> simp only [KP_mk, hqb]) | (with_reducible refine condI_dec (fun hq hqb => ?_) (fun hq hqb => ?_) <;> simp only [KP_mk, hqb]) | (with_reducible refine condI_b (fun hqb => ?_) (fun hqb => ?_) <;> simp only [KP_mk, hqb]) | refine RetO_calc Try.results14 ?_ | refine RetL_calc Try.results14 rfl ?_ | (refine Again.up (by omega) ?_ ?_) | exact trivial | (refine opCallI_rd (by simp only [go_sem, Ret_eq Try.results14]; first | done | rfl) (bookLive_fun) (by rintro _ rfl; rfl) ?_; rintro _ rfl) | (refine opCallI_gv (by simp only [go_sem, Ret_eq Try.results14]; first | done | rfl) (bookLive_fun) ?_; rintro _ rfl) | (refine opCallI_rd (by simp only [go_sem, Ret_eq Try.results14]; first | done | rfl) (hf) (by rintro _ rfl; rfl) ?_; rintro _ rfl) | (refine opCallI_gv (by simp only [go_sem, Ret_eq Try.results14]; first | done | rfl) (hf) ?_; rintro _ rfl) | fail)
  · have g1' : fewB cuts = false := by simpa using g1
    rw [g1'] at hf
    refine Fun.of_awpI Try.func14 rfl cal14 Try.ntmps14 (by simp) fun hwf => ?_
    simp only [D.wfs, D.wf, ints_length, ints_wfs, rows_length, rows_wfs, capMax, and_true, true_and] at hwf
    repeat' (first | simp only [go_sem, Ret_eq Try.results14] | simp (disch := omega) only [arith, IntKind.bits, capMax, fill_len, elt_fill] | (with_reducible refine condI_beq (fun hq hqb => ?_) (fun hq hqb => ?_) <;> simp only [KP_mk, hqb]) | (with_reducible refine condI_bne (fun hq hqb => ?_) (fun hq hqb => ?_) <;> simp only [KP_mk, hqb]) | (with_reducible refine condI_dec (fun hq hqb => ?_) (fun hq hqb => ?_) <;> simp only [KP_mk, hqb]) | (with_reducible refine condI_b (fun hqb => ?_) (fun hqb => ?_) <;> simp only [KP_mk, hqb]) | refine RetO_calc Try.results14 ?_ | refine RetL_calc Try.results14 rfl ?_ | (refine Again.up (by omega) ?_ ?_) | exact trivial | (refine opCallI_rd (by simp only [go_sem, Ret_eq Try.results14]; first | done | rfl) (bookLive_fun) (by rintro _ rfl; rfl) ?_; rintro _ rfl) | (refine opCallI_gv (by simp only [go_sem, Ret_eq Try.results14]; first | done | rfl) (bookLive_fun) ?_; rintro _ rfl) | (refine opCallI_rd (by simp only [go_sem, Ret_eq Try.results14]; first | done | rfl) (hf) (by rintro _ rfl; rfl) ?_; rintro _ rfl) | (refine opCallI_gv (by simp only [go_sem, Ret_eq Try.results14]; first | done | rfl) (hf) ?_; rintro _ rfl) | fail)
end Go.Proofs.Ytpkampecmlpfmaa.T
