import Derived.Test.YtpkampecmlpfmaaLE
import Derived.Test.YtpkampecmlpfmaaETrParts
set_option linter.unusedSimpArgs false
set_option linter.unusedVariables false
/- Law: what a sample has. -/
namespace Go.Proofs.Ytpkampecmlpfmaa.T
open Go Go.VL Go.Proofs
set_option maxRecDepth 100000
set_option maxHeartbeats 8000000
def metN (ids : List Int) (vecs : List (List Int)) (v : List Int) : Nat → Bool
  | 0 => false
  | k + 1 => metN ids vecs v k || (decide (ids.getD k 0 ≠ -1) && decide (v = vecs.getD k []))
theorem metN_true {ids : List Int} {vecs : List (List Int)} {v : List Int} {j : Nat} (h1 : ids.getD j 0 ≠ -1) (h2 : v = vecs.getD j []) : ∀ k, j < k → metN ids vecs v k = true
  | 0, h => absurd h (Nat.not_lt_zero _)
  | k + 1, h => by
    unfold metN
    by_cases e : j < k
    · rw [metN_true h1 h2 k e]; rfl
    · obtain rfl : j = k := by omega
      rw [decide_eq_true h1, decide_eq_true h2]; simp
theorem one_slice {l : List (List Int)} {k : Nat} (h : k < l.length) : (l.take (k + 1)).drop k = [l.getD k []] := by
  rw [take_snoc (d := []) h, List.drop_left' (by rw [List.length_take]; omega)]

theorem trainSample_law (x a : Int) (s : List (List Int)) (dim : Int) (ids : List Int) (vecs : List (List Int)) (b all : Int) : Fun Try.prog 19 [trainD x a s, slotsD dim ids vecs, .v (.int .i64 b), .v (.int .i64 all)] fun r => r = .v (.bool true) := by
  have hf1 := fewT_fun x a s
  have hf2 := fewSlots_fun dim ids vecs
  by_cases g1 : fewT s
  · rw [decide_eq_true g1] at hf1
    by_cases g2 : fewSlots ids vecs
    · rw [decide_eq_true g2] at hf2
      by_cases hok : chkOk a s b all ∧ slotsOk dim ids vecs
      · obtain ⟨hk, ho⟩ := hok
        have h1 := step_fun x a s dim ids vecs b all hk ho (by have := g1.2; omega) (fewT_len g1) (fun q hq => by have := g2.1 q hq; omega)
        have ht := step_ok (x := x) ho hk
        have hn := stepN_le (a := a) (all := all) (show 0 ≤ b by have := hk.2.1; omega)
        have hn0 : all ≤ a → stepN a b all = 0 := fun q => stepN_zero q (by have := hk.2.1; omega)
        have hy : stepN a b all = 0 → nx x (stepN a b all) = x := fun q => by rw [q]; rfl
        have hgl := gathered_length (x := x) (ids := ids) (vecs := vecs) (n := stepN a b all)
        have hgm : ∀ v ∈ gathered x ids vecs (stepN a b all), metN ids vecs v ids.length = true := fun v hv => by
          obtain ⟨j, j1, j2, j3, _⟩ := gathered_mem ho hv
          exact metN_true j2 j3 _ j1
        have htc := trainCheck_fun (nx x (stepN a b all)) (a + stepN a b all) (s ++ gathered x ids vecs (stepN a b all))
        rw [show trainE (a + stepN a b all) (s ++ gathered x ids vecs (stepN a b all)) = 0 from if_pos ht] at htc
        have k1 := hk.1.1
        have k2 := hk.1.2.1
        have k3 := hk.2
        have o1 := ho.2.1
        have o2 := ho.2.2.1
        have t1 := ht.1
        have hlen : (s ++ gathered x ids vecs (stepN a b all)).length = s.length + (gathered x ids vecs (stepN a b all)).length := List.length_append
        have hat : ∀ k, k < s.length → (s ++ gathered x ids vecs (stepN a b all)).getD k [] = s.getD k [] := fun k hk => by
          simp only [List.getD]; rw [List.getElem?_append_left hk]
        have hbt : ∀ k, s.length ≤ k → k < s.length + (gathered x ids vecs (stepN a b all)).length → metN ids vecs ((s ++ gathered x ids vecs (stepN a b all)).getD k []) ids.length = true := fun k h1 h2 => by
          refine hgm _ ?_
          simp only [List.getD]; rw [List.getElem?_append_right h1, List.getElem?_eq_getElem (by omega)]
          exact List.getElem_mem _
        generalize s ++ gathered x ids vecs (stepN a b all) = S2 at *
        generalize (gathered x ids vecs (stepN a b all)).length = gl at *
        generalize nx x (stepN a b all) = y at *
        generalize stepN a b all = n at *
        obtain ⟨dn, hge, hge2⟩ : ∃ dn, decide (a + (n : Int) ≥ all) = dn ∧ decide (all ≤ a + (n : Int)) = dn := ⟨_, rfl, rfl⟩
        rw [hge2] at h1
        by_cases c1 : all ≤ a
        · have n0 := hn0 c1
          have y0 := hy n0
          subst y0
          refine Fun.of_awpI Try.func19 rfl cal19 Try.ntmps19 (by simp) fun hwf => ?_
          simp only [D.wfs, D.wf, ints_length, ints_wfs, rows_length, rows_wfs, capMax, and_true, true_and] at hwf
          repeat' (first | simp only [go_sem, beq_self_eq_true, bne_self_eq_false, hge, Ret_eq Try.results19] | simp (disch := omega) only [arith, IntKind.bits, capMax, fill_len, elt_fill] | (with_reducible refine condI_beq (fun hq hqb => ?_) (fun hq hqb => ?_) <;> simp only [KP_mk, hqb]) | (with_reducible refine condI_bne (fun hq hqb => ?_) (fun hq hqb => ?_) <;> simp only [KP_mk, hqb]) | (with_reducible refine condI_dec (fun hq hqb => ?_) (fun hq hqb => ?_) <;> simp only [KP_mk, hqb]) | (with_reducible refine condI_b (fun hqb => ?_) (fun hqb => ?_) <;> simp only [KP_mk, hqb]) | refine RetO_calc Try.results19 ?_ | refine RetL_calc Try.results19 rfl ?_ | (refine Again.up (by omega) ?_ ?_) | exact trivial | (refine opCallI_rd (by simp only [go_sem, beq_self_eq_true, bne_self_eq_false, hge, Ret_eq Try.results19]; first | done | rfl) (trainLive_fun) (by rintro _ rfl; rfl) ?_; rintro _ rfl) | (refine opCallI_gv (by simp only [go_sem, beq_self_eq_true, bne_self_eq_false, hge, Ret_eq Try.results19]; first | done | rfl) (trainLive_fun) ?_; rintro _ rfl) | (refine opCallI_rd (by simp only [go_sem, beq_self_eq_true, bne_self_eq_false, hge, Ret_eq Try.results19]; first | done | rfl) (hf1) (by rintro _ rfl; rfl) ?_; rintro _ rfl) | (refine opCallI_gv (by simp only [go_sem, beq_self_eq_true, bne_self_eq_false, hge, Ret_eq Try.results19]; first | done | rfl) (hf1) ?_; rintro _ rfl) | (refine opCallI_rd (by simp only [go_sem, beq_self_eq_true, bne_self_eq_false, hge, Ret_eq Try.results19]; first | done | rfl) (hf2) (by rintro _ rfl; rfl) ?_; rintro _ rfl) | (refine opCallI_gv (by simp only [go_sem, beq_self_eq_true, bne_self_eq_false, hge, Ret_eq Try.results19]; first | done | rfl) (hf2) ?_; rintro _ rfl) | (refine opCallI_rd (by simp only [go_sem, beq_self_eq_true, bne_self_eq_false, hge, Ret_eq Try.results19]; first | done | rfl) (h1) (by rintro _ rfl; rfl) ?_; rintro _ rfl) | (refine opCallI_gv (by simp only [go_sem, beq_self_eq_true, bne_self_eq_false, hge, Ret_eq Try.results19]; first | done | rfl) (h1) ?_; rintro _ rfl) | fail)
          refine awpI_for S2.length (fun k => True) (fun k => [(119, .v (.int .i64 k))]) (fun _ => []) [4, 5, 9, 10, 117, 118] [4, 5, 10] _ (Weak.refl _) trivial ?_ ?_ ?_
          · simp only [go_sem, Ret_eq Try.results19]
          · simp only [go_sem, Ret_eq Try.results19]
          · intro k st hk _ hs
            simp only [go_sem, Ret_eq Try.results19] at hs
            by_cases hka : k < S2.length
            · by_cases hkb : k < s.length
              · have e1 := hat k hkb
                have sm := sameVecs_fun [s.getD k []] [s.getD k []]
                rw [decide_eq_true rfl] at sm
                simp only [rows_cons, rows_nil] at sm
                have sl := one_slice hkb
                repeat' (first | simp only [go_sem, hs, e1, sl, rows_cons, rows_nil, Ret_eq Try.results19] | simp (disch := omega) only [arith, IntKind.bits, capMax, fill_len, elt_fill] | (with_reducible refine condI_beq (fun hq hqb => ?_) (fun hq hqb => ?_) <;> simp only [KP_mk, hqb]) | (with_reducible refine condI_bne (fun hq hqb => ?_) (fun hq hqb => ?_) <;> simp only [KP_mk, hqb]) | (with_reducible refine condI_dec (fun hq hqb => ?_) (fun hq hqb => ?_) <;> simp only [KP_mk, hqb]) | (with_reducible refine condI_b (fun hqb => ?_) (fun hqb => ?_) <;> simp only [KP_mk, hqb]) | refine RetO_calc Try.results19 ?_ | refine RetL_calc Try.results19 rfl ?_ | (refine Again.up (by omega) ?_ ?_) | exact trivial | (refine opCallI_rd (by simp only [go_sem, hs, e1, sl, rows_cons, rows_nil, Ret_eq Try.results19]; first | done | rfl) (sm) (by rintro _ rfl; rfl) ?_; rintro _ rfl) | (refine opCallI_gv (by simp only [go_sem, hs, e1, sl, rows_cons, rows_nil, Ret_eq Try.results19]; first | done | rfl) (sm) ?_; rintro _ rfl) | fail)
              · exact absurd hka (by omega)
            · obtain rfl : k = S2.length := by omega
              repeat' (first | simp only [go_sem, hs, Ret_eq Try.results19] | simp (disch := omega) only [arith, IntKind.bits, capMax, fill_len, elt_fill] | (with_reducible refine condI_beq (fun hq hqb => ?_) (fun hq hqb => ?_) <;> simp only [KP_mk, hqb]) | (with_reducible refine condI_bne (fun hq hqb => ?_) (fun hq hqb => ?_) <;> simp only [KP_mk, hqb]) | (with_reducible refine condI_dec (fun hq hqb => ?_) (fun hq hqb => ?_) <;> simp only [KP_mk, hqb]) | (with_reducible refine condI_b (fun hqb => ?_) (fun hqb => ?_) <;> simp only [KP_mk, hqb]) | refine RetO_calc Try.results19 ?_ | refine RetL_calc Try.results19 rfl ?_ | (refine Again.up (by omega) ?_ ?_) | exact trivial | (refine opCallI_rd (by simp only [go_sem, hs, Ret_eq Try.results19]; first | done | rfl) (htc) (by rintro _ rfl; rfl) ?_; rintro _ rfl) | (refine opCallI_gv (by simp only [go_sem, hs, Ret_eq Try.results19]; first | done | rfl) (htc) ?_; rintro _ rfl) | fail)
        · skip
          refine Fun.of_awpI Try.func19 rfl cal19 Try.ntmps19 (by simp) fun hwf => ?_
          simp only [D.wfs, D.wf, ints_length, ints_wfs, rows_length, rows_wfs, capMax, and_true, true_and] at hwf
          repeat' (first | simp only [go_sem, beq_self_eq_true, bne_self_eq_false, hge, Ret_eq Try.results19] | simp (disch := omega) only [arith, IntKind.bits, capMax, fill_len, elt_fill] | (with_reducible refine condI_beq (fun hq hqb => ?_) (fun hq hqb => ?_) <;> simp only [KP_mk, hqb]) | (with_reducible refine condI_bne (fun hq hqb => ?_) (fun hq hqb => ?_) <;> simp only [KP_mk, hqb]) | (with_reducible refine condI_dec (fun hq hqb => ?_) (fun hq hqb => ?_) <;> simp only [KP_mk, hqb]) | (with_reducible refine condI_b (fun hqb => ?_) (fun hqb => ?_) <;> simp only [KP_mk, hqb]) | refine RetO_calc Try.results19 ?_ | refine RetL_calc Try.results19 rfl ?_ | (refine Again.up (by omega) ?_ ?_) | exact trivial | (refine opCallI_rd (by simp only [go_sem, beq_self_eq_true, bne_self_eq_false, hge, Ret_eq Try.results19]; first | done | rfl) (trainLive_fun) (by rintro _ rfl; rfl) ?_; rintro _ rfl) | (refine opCallI_gv (by simp only [go_sem, beq_self_eq_true, bne_self_eq_false, hge, Ret_eq Try.results19]; first | done | rfl) (trainLive_fun) ?_; rintro _ rfl) | (refine opCallI_rd (by simp only [go_sem, beq_self_eq_true, bne_self_eq_false, hge, Ret_eq Try.results19]; first | done | rfl) (hf1) (by rintro _ rfl; rfl) ?_; rintro _ rfl) | (refine opCallI_gv (by simp only [go_sem, beq_self_eq_true, bne_self_eq_false, hge, Ret_eq Try.results19]; first | done | rfl) (hf1) ?_; rintro _ rfl) | (refine opCallI_rd (by simp only [go_sem, beq_self_eq_true, bne_self_eq_false, hge, Ret_eq Try.results19]; first | done | rfl) (hf2) (by rintro _ rfl; rfl) ?_; rintro _ rfl) | (refine opCallI_gv (by simp only [go_sem, beq_self_eq_true, bne_self_eq_false, hge, Ret_eq Try.results19]; first | done | rfl) (hf2) ?_; rintro _ rfl) | (refine opCallI_rd (by simp only [go_sem, beq_self_eq_true, bne_self_eq_false, hge, Ret_eq Try.results19]; first | done | rfl) (h1) (by rintro _ rfl; rfl) ?_; rintro _ rfl) | (refine opCallI_gv (by simp only [go_sem, beq_self_eq_true, bne_self_eq_false, hge, Ret_eq Try.results19]; first | done | rfl) (h1) ?_; rintro _ rfl) | fail)
          refine awpI_for S2.length (fun k => True) (fun k => [(119, .v (.int .i64 k))]) (fun _ => []) [4, 5, 9, 10, 117, 118] [4, 5, 10] _ (Weak.refl _) trivial ?_ ?_ ?_
          · simp only [go_sem, Ret_eq Try.results19]
          · simp only [go_sem, Ret_eq Try.results19]
          · intro k st hk _ hs
            simp only [go_sem, Ret_eq Try.results19] at hs
            by_cases hka : k < S2.length
            · by_cases hkb : k < s.length
              · have e1 := hat k hkb
                have sm := sameVecs_fun [s.getD k []] [s.getD k []]
                rw [decide_eq_true rfl] at sm
                simp only [rows_cons, rows_nil] at sm
                have sl := one_slice hkb
                repeat' (first | simp only [go_sem, hs, e1, sl, rows_cons, rows_nil, Ret_eq Try.results19] | simp (disch := omega) only [arith, IntKind.bits, capMax, fill_len, elt_fill] | (with_reducible refine condI_beq (fun hq hqb => ?_) (fun hq hqb => ?_) <;> simp only [KP_mk, hqb]) | (with_reducible refine condI_bne (fun hq hqb => ?_) (fun hq hqb => ?_) <;> simp only [KP_mk, hqb]) | (with_reducible refine condI_dec (fun hq hqb => ?_) (fun hq hqb => ?_) <;> simp only [KP_mk, hqb]) | (with_reducible refine condI_b (fun hqb => ?_) (fun hqb => ?_) <;> simp only [KP_mk, hqb]) | refine RetO_calc Try.results19 ?_ | refine RetL_calc Try.results19 rfl ?_ | (refine Again.up (by omega) ?_ ?_) | exact trivial | (refine opCallI_rd (by simp only [go_sem, hs, e1, sl, rows_cons, rows_nil, Ret_eq Try.results19]; first | done | rfl) (sm) (by rintro _ rfl; rfl) ?_; rintro _ rfl) | (refine opCallI_gv (by simp only [go_sem, hs, e1, sl, rows_cons, rows_nil, Ret_eq Try.results19]; first | done | rfl) (sm) ?_; rintro _ rfl) | fail)
              · have e1 := hbt k (by omega) (by omega)
                repeat' (first | simp only [go_sem, hs, Ret_eq Try.results19] | simp (disch := omega) only [arith, IntKind.bits, capMax, fill_len, elt_fill] | (with_reducible refine condI_beq (fun hq hqb => ?_) (fun hq hqb => ?_) <;> simp only [KP_mk, hqb]) | (with_reducible refine condI_bne (fun hq hqb => ?_) (fun hq hqb => ?_) <;> simp only [KP_mk, hqb]) | (with_reducible refine condI_dec (fun hq hqb => ?_) (fun hq hqb => ?_) <;> simp only [KP_mk, hqb]) | (with_reducible refine condI_b (fun hqb => ?_) (fun hqb => ?_) <;> simp only [KP_mk, hqb]) | refine RetO_calc Try.results19 ?_ | refine RetL_calc Try.results19 rfl ?_ | (refine Again.up (by omega) ?_ ?_) | exact trivial | fail)
                refine awpI_for ids.length (fun j => True) (fun j => [(16, .v (.bool (metN ids vecs (S2.getD k []) j))), (142, .v (.int .i64 j))]) (fun _ => []) [4, 5, 9, 10, 15, 117, 118, 119, 140, 141] [4, 5, 10] _ (Weak.refl _) trivial ?_ ?_ ?_
                · simp only [go_sem, hs, metN, Ret_eq Try.results19]
                · simp only [go_sem, hs, Ret_eq Try.results19]
                · intro j st2 hj2 _ hs2
                  simp only [go_sem, hs, Ret_eq Try.results19] at hs2
                  by_cases hja : j < ids.length
                  · have sl := one_slice (l := vecs) (k := j) (by omega)
                    have sm := sameVecs_fun [S2.getD k []] [vecs.getD j []]
                    have em : metN ids vecs (S2.getD k []) (j + 1) = (metN ids vecs (S2.getD k []) j || (decide (ids.getD j 0 ≠ -1) && decide (S2.getD k [] = vecs.getD j []))) := rfl
                    simp only [rows_cons, rows_nil] at sm
                    generalize metN ids vecs (S2.getD k []) j = mb at *
                    cases mb with
                    | true => repeat' (first | simp only [go_sem, hs, hs2, em, Bool.true_or, Ret_eq Try.results19] | simp (disch := omega) only [arith, IntKind.bits, capMax, fill_len, elt_fill] | (with_reducible refine condI_beq (fun hq hqb => ?_) (fun hq hqb => ?_) <;> simp only [KP_mk, hqb]) | (with_reducible refine condI_bne (fun hq hqb => ?_) (fun hq hqb => ?_) <;> simp only [KP_mk, hqb]) | (with_reducible refine condI_dec (fun hq hqb => ?_) (fun hq hqb => ?_) <;> simp only [KP_mk, hqb]) | (with_reducible refine condI_b (fun hqb => ?_) (fun hqb => ?_) <;> simp only [KP_mk, hqb]) | refine RetO_calc Try.results19 ?_ | refine RetL_calc Try.results19 rfl ?_ | (refine Again.up (by omega) ?_ ?_) | exact trivial | fail)
                    | false =>
                      by_cases z1 : ids.getD j 0 = -1
                      · have z2 : decide (ids.getD j 0 ≠ -1) = false := decide_eq_false (fun q => q z1)
                        rw [z2, Bool.false_and] at em
                        repeat' (first | simp only [go_sem, hs, hs2, em, z1, Bool.false_or, bne_self_eq_false, Ret_eq Try.results19] | simp (disch := omega) only [arith, IntKind.bits, capMax, fill_len, elt_fill] | (with_reducible refine condI_beq (fun hq hqb => ?_) (fun hq hqb => ?_) <;> simp only [KP_mk, hqb]) | (with_reducible refine condI_bne (fun hq hqb => ?_) (fun hq hqb => ?_) <;> simp only [KP_mk, hqb]) | (with_reducible refine condI_dec (fun hq hqb => ?_) (fun hq hqb => ?_) <;> simp only [KP_mk, hqb]) | (with_reducible refine condI_b (fun hqb => ?_) (fun hqb => ?_) <;> simp only [KP_mk, hqb]) | refine RetO_calc Try.results19 ?_ | refine RetL_calc Try.results19 rfl ?_ | (refine Again.up (by omega) ?_ ?_) | exact trivial | fail)
                      · have z2 : decide (ids.getD j 0 ≠ -1) = true := decide_eq_true z1
                        have z3 : (ids.getD j 0 == -1) = false := beq_eq_false_iff_ne.2 z1
                        have z4 : (ids.getD j 0 != -1) = true := by rw [bne, z3]; rfl
                        rw [z2, Bool.true_and] at em
                        by_cases z5 : S2.getD k [] = vecs.getD j []
                        · rw [decide_eq_true z5] at em
                          rw [decide_eq_true (by rw [z5])] at sm
                          repeat' (first | simp only [go_sem, hs, hs2, em, z3, z4, sl, rows_cons, rows_nil, Bool.false_or, Ret_eq Try.results19] | simp (disch := omega) only [arith, IntKind.bits, capMax, fill_len, elt_fill] | (with_reducible refine condI_beq (fun hq hqb => ?_) (fun hq hqb => ?_) <;> simp only [KP_mk, hqb]) | (with_reducible refine condI_bne (fun hq hqb => ?_) (fun hq hqb => ?_) <;> simp only [KP_mk, hqb]) | (with_reducible refine condI_dec (fun hq hqb => ?_) (fun hq hqb => ?_) <;> simp only [KP_mk, hqb]) | (with_reducible refine condI_b (fun hqb => ?_) (fun hqb => ?_) <;> simp only [KP_mk, hqb]) | refine RetO_calc Try.results19 ?_ | refine RetL_calc Try.results19 rfl ?_ | (refine Again.up (by omega) ?_ ?_) | exact trivial | (refine opCallI_rd (by simp only [go_sem, hs, hs2, em, z3, z4, sl, rows_cons, rows_nil, Bool.false_or, Ret_eq Try.results19]; first | done | rfl) (sm) (by rintro _ rfl; rfl) ?_; rintro _ rfl) | (refine opCallI_gv (by simp only [go_sem, hs, hs2, em, z3, z4, sl, rows_cons, rows_nil, Bool.false_or, Ret_eq Try.results19]; first | done | rfl) (sm) ?_; rintro _ rfl) | fail)
                        · rw [decide_eq_false z5] at em
                          rw [decide_eq_false (fun q => z5 (by injection q))] at sm
                          repeat' (first | simp only [go_sem, hs, hs2, em, z3, z4, sl, rows_cons, rows_nil, Bool.false_or, Ret_eq Try.results19] | simp (disch := omega) only [arith, IntKind.bits, capMax, fill_len, elt_fill] | (with_reducible refine condI_beq (fun hq hqb => ?_) (fun hq hqb => ?_) <;> simp only [KP_mk, hqb]) | (with_reducible refine condI_bne (fun hq hqb => ?_) (fun hq hqb => ?_) <;> simp only [KP_mk, hqb]) | (with_reducible refine condI_dec (fun hq hqb => ?_) (fun hq hqb => ?_) <;> simp only [KP_mk, hqb]) | (with_reducible refine condI_b (fun hqb => ?_) (fun hqb => ?_) <;> simp only [KP_mk, hqb]) | refine RetO_calc Try.results19 ?_ | refine RetL_calc Try.results19 rfl ?_ | (refine Again.up (by omega) ?_ ?_) | exact trivial | (refine opCallI_rd (by simp only [go_sem, hs, hs2, em, z3, z4, sl, rows_cons, rows_nil, Bool.false_or, Ret_eq Try.results19]; first | done | rfl) (sm) (by rintro _ rfl; rfl) ?_; rintro _ rfl) | (refine opCallI_gv (by simp only [go_sem, hs, hs2, em, z3, z4, sl, rows_cons, rows_nil, Bool.false_or, Ret_eq Try.results19]; first | done | rfl) (sm) ?_; rintro _ rfl) | fail)
                  · obtain rfl : j = ids.length := by omega
                    repeat' (first | simp only [go_sem, hs, hs2, e1, Ret_eq Try.results19] | simp (disch := omega) only [arith, IntKind.bits, capMax, fill_len, elt_fill] | (with_reducible refine condI_beq (fun hq hqb => ?_) (fun hq hqb => ?_) <;> simp only [KP_mk, hqb]) | (with_reducible refine condI_bne (fun hq hqb => ?_) (fun hq hqb => ?_) <;> simp only [KP_mk, hqb]) | (with_reducible refine condI_dec (fun hq hqb => ?_) (fun hq hqb => ?_) <;> simp only [KP_mk, hqb]) | (with_reducible refine condI_b (fun hqb => ?_) (fun hqb => ?_) <;> simp only [KP_mk, hqb]) | refine RetO_calc Try.results19 ?_ | refine RetL_calc Try.results19 rfl ?_ | (refine Again.up (by omega) ?_ ?_) | exact trivial | fail)
            · obtain rfl : k = S2.length := by omega
              repeat' (first | simp only [go_sem, hs, Ret_eq Try.results19] | simp (disch := omega) only [arith, IntKind.bits, capMax, fill_len, elt_fill] | (with_reducible refine condI_beq (fun hq hqb => ?_) (fun hq hqb => ?_) <;> simp only [KP_mk, hqb]) | (with_reducible refine condI_bne (fun hq hqb => ?_) (fun hq hqb => ?_) <;> simp only [KP_mk, hqb]) | (with_reducible refine condI_dec (fun hq hqb => ?_) (fun hq hqb => ?_) <;> simp only [KP_mk, hqb]) | (with_reducible refine condI_b (fun hqb => ?_) (fun hqb => ?_) <;> simp only [KP_mk, hqb]) | refine RetO_calc Try.results19 ?_ | refine RetL_calc Try.results19 rfl ?_ | (refine Again.up (by omega) ?_ ?_) | exact trivial | (refine opCallI_rd (by simp only [go_sem, hs, Ret_eq Try.results19]; first | done | rfl) (htc) (by rintro _ rfl; rfl) ?_; rintro _ rfl) | (refine opCallI_gv (by simp only [go_sem, hs, Ret_eq Try.results19]; first | done | rfl) (htc) ?_; rintro _ rfl) | fail)
      · have h1 := step_bad x a s dim ids vecs b all hok
        simp only [trainD, rows_nil] at h1
        refine Fun.of_awpI Try.func19 rfl cal19 Try.ntmps19 (by simp) fun hwf => ?_
        simp only [D.wfs, D.wf, ints_length, ints_wfs, rows_length, rows_wfs, capMax, and_true, true_and] at hwf
        repeat' (first | simp only [go_sem, Ret_eq Try.results19] | simp (disch := omega) only [arith, IntKind.bits, capMax, fill_len, elt_fill] | (with_reducible refine condI_beq (fun hq hqb => ?_) (fun hq hqb => ?_) <;> simp only [KP_mk, hqb]) | (with_reducible refine condI_bne (fun hq hqb => ?_) (fun hq hqb => ?_) <;> simp only [KP_mk, hqb]) | (with_reducible refine condI_dec (fun hq hqb => ?_) (fun hq hqb => ?_) <;> simp only [KP_mk, hqb]) | (with_reducible refine condI_b (fun hqb => ?_) (fun hqb => ?_) <;> simp only [KP_mk, hqb]) | refine RetO_calc Try.results19 ?_ | refine RetL_calc Try.results19 rfl ?_ | (refine Again.up (by omega) ?_ ?_) | exact trivial | (refine opCallI_rd (by simp only [go_sem, Ret_eq Try.results19]; first | done | rfl) (trainLive_fun) (by rintro _ rfl; rfl) ?_; rintro _ rfl) | (refine opCallI_gv (by simp only [go_sem, Ret_eq Try.results19]; first | done | rfl) (trainLive_fun) ?_; rintro _ rfl) | (refine opCallI_rd (by simp only [go_sem, Ret_eq Try.results19]; first | done | rfl) (hf1) (by rintro _ rfl; rfl) ?_; rintro _ rfl) | (refine opCallI_gv (by simp only [go_sem, Ret_eq Try.results19]; first | done | rfl) (hf1) ?_; rintro _ rfl) | (refine opCallI_rd (by simp only [go_sem, Ret_eq Try.results19]; first | done | rfl) (hf2) (by rintro _ rfl; rfl) ?_; rintro _ rfl) | (refine opCallI_gv (by simp only [go_sem, Ret_eq Try.results19]; first | done | rfl) (hf2) ?_; rintro _ rfl) | (refine opCallI_rd (by simp only [go_sem, Ret_eq Try.results19]; first | done | rfl) (h1) (by rintro _ rfl; rfl) ?_; rintro _ rfl) | (refine opCallI_gv (by simp only [go_sem, Ret_eq Try.results19]; first | done | rfl) (h1) ?_; rintro _ rfl) | fail)
    · rw [decide_eq_false g2] at hf2
      refine Fun.of_awpI Try.func19 rfl cal19 Try.ntmps19 (by simp) fun hwf => ?_
      simp only [D.wfs, D.wf, ints_length, ints_wfs, rows_length, rows_wfs, capMax, and_true, true_and] at hwf
      repeat' (first | simp only [go_sem, Ret_eq Try.results19] | simp (disch := omega) only [arith, IntKind.bits, capMax, fill_len, elt_fill] | (with_reducible refine condI_beq (fun hq hqb => ?_) (fun hq hqb => ?_) <;> simp only [KP_mk, hqb]) | (with_reducible refine condI_bne (fun hq hqb => ?_) (fun hq hqb => ?_) <;> simp only [KP_mk, hqb]) | (with_reducible refine condI_dec (fun hq hqb => ?_) (fun hq hqb => ?_) <;> simp only [KP_mk, hqb]) | (with_reducible refine condI_b (fun hqb => ?_) (fun hqb => ?_) <;> simp only [KP_mk, hqb]) | refine RetO_calc Try.results19 ?_ | refine RetL_calc Try.results19 rfl ?_ | (refine Again.up (by omega) ?_ ?_) | exact trivial | (refine opCallI_rd (by simp only [go_sem, Ret_eq Try.results19]; first | done | rfl) (trainLive_fun) (by rintro _ rfl; rfl) ?_; rintro _ rfl) | (refine opCallI_gv (by simp only [go_sem, Ret_eq Try.results19]; first | done | rfl) (trainLive_fun) ?_; rintro _ rfl) | (refine opCallI_rd (by simp only [go_sem, Ret_eq Try.results19]; first | done | rfl) (hf1) (by rintro _ rfl; rfl) ?_; rintro _ rfl) | (refine opCallI_gv (by simp only [go_sem, Ret_eq Try.results19]; first | done | rfl) (hf1) ?_; rintro _ rfl) | (refine opCallI_rd (by simp only [go_sem, Ret_eq Try.results19]; first | done | rfl) (hf2) (by rintro _ rfl; rfl) ?_; rintro _ rfl) | (refine opCallI_gv (by simp only [go_sem, Ret_eq Try.results19]; first | done | rfl) (hf2) ?_; rintro _ rfl) | fail)
  · rw [decide_eq_false g1] at hf1
    refine Fun.of_awpI Try.func19 rfl cal19 Try.ntmps19 (by simp) fun hwf => ?_
    simp only [D.wfs, D.wf, ints_length, ints_wfs, rows_length, rows_wfs, capMax, and_true, true_and] at hwf
    repeat' (first | simp only [go_sem, Ret_eq Try.results19] | simp (disch := omega) only [arith, IntKind.bits, capMax, fill_len, elt_fill] | (with_reducible refine condI_beq (fun hq hqb => ?_) (fun hq hqb => ?_) <;> simp only [KP_mk, hqb]) | (with_reducible refine condI_bne (fun hq hqb => ?_) (fun hq hqb => ?_) <;> simp only [KP_mk, hqb]) | (with_reducible refine condI_dec (fun hq hqb => ?_) (fun hq hqb => ?_) <;> simp only [KP_mk, hqb]) | (with_reducible refine condI_b (fun hqb => ?_) (fun hqb => ?_) <;> simp only [KP_mk, hqb]) | refine RetO_calc Try.results19 ?_ | refine RetL_calc Try.results19 rfl ?_ | (refine Again.up (by omega) ?_ ?_) | exact trivial | (refine opCallI_rd (by simp only [go_sem, Ret_eq Try.results19]; first | done | rfl) (trainLive_fun) (by rintro _ rfl; rfl) ?_; rintro _ rfl) | (refine opCallI_gv (by simp only [go_sem, Ret_eq Try.results19]; first | done | rfl) (trainLive_fun) ?_; rintro _ rfl) | (refine opCallI_rd (by simp only [go_sem, Ret_eq Try.results19]; first | done | rfl) (hf1) (by rintro _ rfl; rfl) ?_; rintro _ rfl) | (refine opCallI_gv (by simp only [go_sem, Ret_eq Try.results19]; first | done | rfl) (hf1) ?_; rintro _ rfl) | fail)
end Go.Proofs.Ytpkampecmlpfmaa.T
