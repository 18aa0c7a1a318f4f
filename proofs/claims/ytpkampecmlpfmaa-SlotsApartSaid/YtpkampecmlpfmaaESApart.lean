import Derived.Test.YtpkampecmlpfmaaLE
import Derived.Test.YtpkampecmlpfmaaESFirst
import Derived.Test.YtpkampecmlpfmaaESApM
import Derived.Test.YtpkampecmlpfmaaESLive
set_option linter.unusedSimpArgs false
set_option linter.unusedVariables false
/- Law on slots: what is put of one id leaves all others as they were. -/
namespace Go.Proofs.Ytpkampecmlpfmaa.T
open Go Go.VL Go.Proofs
set_option maxRecDepth 100000
set_option maxHeartbeats 8000000

theorem slotsApart_law (dim : Int) (ids : List Int) (vecs : List (List Int)) (id other : Int) (v w : List Int) : Fun Try.prog 10 [slotsD dim ids vecs, .v (.int .i64 id), .v (.int .i64 other), .lst (ints .i16 v), .lst (ints .i16 w)] fun r => r = .v (.bool true) := by
  have hfw := fewSlots_fun dim ids vecs
  by_cases g0 : fewSlots ids vecs
  · rw [decide_eq_true g0] at hfw
    by_cases g1 : v.length ≤ 300
    · by_cases g2 : w.length ≤ 300
      · by_cases g3 : id = other
        · subst g3
          refine Fun.of_awpI Try.func10 rfl cal10 Try.ntmps10 (by simp) fun hwf => ?_
          simp only [D.wfs, D.wf, ints_length, ints_wfs, rows_length, rows_wfs, capMax, and_true, true_and] at hwf
          repeat' (first | simp only [go_sem, beq_self_eq_true, Ret_eq Try.results10] | simp (disch := omega) only [arith, IntKind.bits, capMax, fill_len, elt_fill] | (refine opCallI_rd (by simp only [go_sem, beq_self_eq_true, Ret_eq Try.results10]; first | done | rfl) (slotsLive_fun) (by rintro _ rfl; rfl) ?_; rintro _ rfl) | (refine opCallI_rd (by simp only [go_sem, beq_self_eq_true, Ret_eq Try.results10]; first | done | rfl) (hfw) (by rintro _ rfl; rfl) ?_; rintro _ rfl) | fail)
        · have g3b : (id == other) = false := beq_eq_false_iff_ne.2 g3
          have hp1 := slotsPut_fun dim ids vecs id v (fewS_len g0) (by omega)
          have hp2 := slotsPut_fun dim ids vecs other w (fewS_len g0) (by omega)
          by_cases z1 : putE dim ids vecs id v = 0
          · by_cases z2 : putE dim ids vecs other w = 0
            · obtain ⟨i, j, ⟨i1, i2⟩, ⟨j1, j2⟩, hE, hE2, hE3⟩ := put_two g3 z1 z2
              obtain ⟨i', _, i2', _, _, i5, _⟩ := put_sets z1
              obtain rfl : i = i' := by omega
              have hvl : vecs.length = ids.length := (put_zero z1).1.2.2.1
              rw [z1, if_pos rfl, i2, Int.toNat_natCast] at hp1
              rw [z2, if_pos rfl, j2, Int.toNat_natCast] at hp2
              have hp3 := slotsPut_fun dim (ids.set i id) (vecs.set i v) other w (set_len500 (fewS_len g0) g1) (by omega)
              have hp4 := slotsPut_fun dim (ids.set j other) (vecs.set j w) id v (set_len500 (fewS_len g0) g2) (by omega)
              rw [← hE] at hp4
              have n1 : (ids.set i id).length = ids.length := List.length_set
              have n2 : (vecs.set i v).length = ids.length := by rw [List.length_set, hvl]
              refine Fun.of_awpI Try.func10 rfl cal10 Try.ntmps10 (by simp) fun hwf => ?_
              simp only [D.wfs, D.wf, ints_length, ints_wfs, rows_length, rows_wfs, capMax, and_true, true_and] at hwf
              repeat' (first | simp only [go_sem, g3b, beq_self_eq_true, bne_self_eq_false, Ret_eq Try.results10] | simp (disch := omega) only [arith, IntKind.bits, capMax, fill_len, elt_fill] | (refine opCallI_rd (by simp only [go_sem, g3b, beq_self_eq_true, bne_self_eq_false, Ret_eq Try.results10]; first | done | rfl) (slotsLive_fun) (by rintro _ rfl; rfl) ?_; rintro _ rfl) | (refine opCallI_rd (by simp only [go_sem, g3b, beq_self_eq_true, bne_self_eq_false, Ret_eq Try.results10]; first | done | rfl) (hfw) (by rintro _ rfl; rfl) ?_; rintro _ rfl) | (refine opCallI_gv (by simp only [go_sem, g3b, beq_self_eq_true, bne_self_eq_false, Ret_eq Try.results10]; first | done | rfl) (hp1) ?_; rintro _ rfl) | (refine opCallI_gv (by simp only [go_sem, g3b, beq_self_eq_true, bne_self_eq_false, Ret_eq Try.results10]; first | done | rfl) (hp2) ?_; rintro _ rfl) | fail)
              refine awpI_for ids.length (fun k => True) (fun k => [(78, .v (.int .i64 k))]) (fun _ => []) [1, 2, 3, 4, 5, 11, 13, 16, 76, 77] [5, 13, 16] _ (Weak.refl _) trivial ?_ ?_ ?_
              · simp only [go_sem, Ret_eq Try.results10]
              · simp only [go_sem, Ret_eq Try.results10]
              · intro k s hk _ hs
                simp only [go_sem, Ret_eq Try.results10] at hs
                by_cases hka : k < ids.length
                · by_cases q1 : ids.getD k 0 = -1
                  · have q1b : (ids.getD k 0 != -1) = false := by rw [q1]; rfl
                    repeat' (first | simp only [go_sem, hs, q1b, Ret_eq Try.results10] | simp (disch := omega) only [arith, IntKind.bits, capMax, fill_len, elt_fill] | (refine awpI_draw2 (id := 13) (.one false 0 (.one false 1 (.one false 2 (.one false 3 (.one false 4 (.one false 5 (.one false 6 (.one false 7 (.one false 8 (.one false 9 (.one false 10 (.one false 11 (.one false 12 (.one false 13 (.one false 14 (.one false 15 (.one false 16 (.one false 17 (.one false 18 (.one false 19 (.one false 20 (.one false 21 (.one false 22 (.one false 23 (.one false 24 (.one false 25 (.only 26 (.one false 27 (.one false 28 (.one false 29 .done)))))))))))))))))))))))))))))) mixed (by decide +kernel) (by decide +kernel) ?_) | (refine Again.up (by omega) ?_ ?_) | fail)
                    all_goals skip
                  · have q1b : (ids.getD k 0 != -1) = true := by rw [bne, beq_eq_false_iff_ne.2 q1]; rfl
                    by_cases q2 : ids.getD k 0 = id
                    · have q2b : (ids.getD k 0 != id) = false := by rw [bne, beq_iff_eq.2 q2]; rfl
                      repeat' (first | simp only [go_sem, hs, q1b, q2b, Ret_eq Try.results10] | simp (disch := omega) only [arith, IntKind.bits, capMax, fill_len, elt_fill] | (refine awpI_draw2 (id := 13) (.one false 0 (.one false 1 (.one false 2 (.one false 3 (.one false 4 (.one false 5 (.one false 6 (.one false 7 (.one false 8 (.one false 9 (.one false 10 (.one false 11 (.one false 12 (.one false 13 (.one false 14 (.one false 15 (.one false 16 (.one false 17 (.one false 18 (.one false 19 (.one false 20 (.one false 21 (.one false 22 (.one false 23 (.one false 24 (.one false 25 (.only 26 (.one false 27 (.one false 28 (.one false 29 .done)))))))))))))))))))))))))))))) mixed (by decide +kernel) (by decide +kernel) ?_) | (refine Again.up (by omega) ?_ ?_) | fail)
                      all_goals skip
                    · have q2b : (ids.getD k 0 != id) = true := by rw [bne, beq_eq_false_iff_ne.2 q2]; rfl
                      have hne : ¬ k = i := fun e => by subst e; rcases i5 with y | y; exact q2 y; exact q1 y
                      have e1 : (ids.set i id).getD k 0 = ids.getD k 0 := by rw [getDset hka, if_neg hne]
                      have e2 : (vecs.set i v).getD k [] = vecs.getD k [] := by rw [getDset (by omega), if_neg hne]
                      have hsv := refSame16_fun (vecs.getD k []) (vecs.getD k [])
                      rw [decide_eq_true rfl] at hsv
                      repeat' (first | simp only [go_sem, hs, q1b, q2b, e1, e2, n1, n2, hvl, bne_self_eq_false, Ret_eq Try.results10] | simp (disch := omega) only [arith, IntKind.bits, capMax, fill_len, elt_fill] | (refine awpI_draw2 (id := 13) (.one false 0 (.one false 1 (.one false 2 (.one false 3 (.one false 4 (.one false 5 (.one false 6 (.one false 7 (.one false 8 (.one false 9 (.one false 10 (.one false 11 (.one false 12 (.one false 13 (.one false 14 (.one false 15 (.one false 16 (.one false 17 (.one false 18 (.one false 19 (.one false 20 (.one false 21 (.one false 22 (.one false 23 (.one false 24 (.one false 25 (.only 26 (.one false 27 (.one false 28 (.one false 29 .done)))))))))))))))))))))))))))))) mixed (by decide +kernel) (by decide +kernel) ?_) | (refine Again.up (by omega) ?_ ?_) | (refine opCallI_rd (by simp only [go_sem, hs, q1b, q2b, e1, e2, n1, n2, hvl, bne_self_eq_false, Ret_eq Try.results10]; first | done | rfl) (hsv) (by rintro _ rfl; rfl) ?_; rintro _ rfl) | fail)
                      all_goals skip
                · obtain rfl : k = ids.length := by omega
                  by_cases z3 : putE dim (ids.set i id) (vecs.set i v) other w = 0
                  · obtain ⟨k2, m2, k3, m3, k4, m4, hS⟩ := hE3 z3
                    rw [z3, if_pos rfl, k3, Int.toNat_natCast] at hp3
                    rw [z3, if_pos rfl, m3, Int.toNat_natCast] at hp4
                    have hl1 := slotsLiveIds_fun dim ((ids.set i id).set k2 other) ((vecs.set i v).set k2 w)
                    have hl2 := slotsLiveIds_fun dim ((ids.set j other).set m2 id) ((vecs.set j w).set m2 v)
                    rw [if_pos k4, show slotsErr dim ((ids.set i id).set k2 other) ((vecs.set i v).set k2 w) = 0 from if_pos k4, show liveL ((ids.set i id).set k2 other) = sortI (keysF ((ids.set j other).set m2 id)) from hS] at hl1
                    rw [if_pos m4, show slotsErr dim ((ids.set j other).set m2 id) ((vecs.set j w).set m2 v) = 0 from if_pos m4, show liveL ((ids.set j other).set m2 id) = sortI (keysF ((ids.set j other).set m2 id)) from rfl] at hl2
                    generalize sortI (keysF ((ids.set j other).set m2 id)) = L at *
                    have hsi := sameInts_fun L L
                    rw [decide_eq_true rfl] at hsi
                    repeat' (first | simp only [go_sem, hs, beq_self_eq_true, bne_self_eq_false, Ret_eq Try.results10] | simp (disch := omega) only [arith, IntKind.bits, capMax, fill_len, elt_fill] | (refine opCallI_gv (by simp only [go_sem, hs, beq_self_eq_true, bne_self_eq_false, Ret_eq Try.results10]; first | done | rfl) (hp3) ?_; rintro _ rfl) | (refine opCallI_gv (by simp only [go_sem, hs, beq_self_eq_true, bne_self_eq_false, Ret_eq Try.results10]; first | done | rfl) (hp4) ?_; rintro _ rfl) | (refine opCallI_gv (by simp only [go_sem, hs, beq_self_eq_true, bne_self_eq_false, Ret_eq Try.results10]; first | done | rfl) (hl1) ?_; rintro _ rfl) | (refine opCallI_gv (by simp only [go_sem, hs, beq_self_eq_true, bne_self_eq_false, Ret_eq Try.results10]; first | done | rfl) (hl2) ?_; rintro _ rfl) | (refine opCallI_rd (by simp only [go_sem, hs, beq_self_eq_true, bne_self_eq_false, Ret_eq Try.results10]; first | done | rfl) (hsi) (by rintro _ rfl; rfl) ?_; rintro _ rfl) | fail)
                    all_goals skip
                  · have z7 := hE2.resolve_left z3
                    rw [z7, if_neg (by decide)] at hp3 hp4
                    rw [show putI dim (ids.set i id) (vecs.set i v) other w = 0 from if_neg z3] at hp3
                    rw [hE] at z3
                    rw [show putI dim (ids.set j other) (vecs.set j w) id v = 0 from if_neg z3] at hp4
                    simp only [slotsD, ints_nil, rows_nil] at hp3 hp4
                    repeat' (first | simp only [go_sem, hs, beq_self_eq_true, bne_self_eq_false, Ret_eq Try.results10] | simp (disch := omega) only [arith, IntKind.bits, capMax, fill_len, elt_fill] | (refine opCallI_gv (by simp only [go_sem, hs, beq_self_eq_true, bne_self_eq_false, Ret_eq Try.results10]; first | done | rfl) (hp3) ?_; rintro _ rfl) | (refine opCallI_gv (by simp only [go_sem, hs, beq_self_eq_true, bne_self_eq_false, Ret_eq Try.results10]; first | done | rfl) (hp4) ?_; rintro _ rfl) | fail)
                    all_goals skip
            · rw [if_neg z2] at hp2
              have z2b : (putE dim ids vecs other w != 0) = true := by rw [bne, beq_eq_false_iff_ne.2 z2]; rfl
              simp only [slotsD, ints_nil, rows_nil] at hp2
              rw [z1, if_pos rfl] at hp1
              refine Fun.of_awpI Try.func10 rfl cal10 Try.ntmps10 (by simp) fun hwf => ?_
              simp only [D.wfs, D.wf, ints_length, ints_wfs, rows_length, rows_wfs, capMax, and_true, true_and] at hwf
              repeat' (first | simp only [go_sem, g3b, beq_self_eq_true, z2b, Ret_eq Try.results10] | simp (disch := omega) only [arith, IntKind.bits, capMax, fill_len, elt_fill] | (refine opCallI_rd (by simp only [go_sem, g3b, beq_self_eq_true, z2b, Ret_eq Try.results10]; first | done | rfl) (slotsLive_fun) (by rintro _ rfl; rfl) ?_; rintro _ rfl) | (refine opCallI_rd (by simp only [go_sem, g3b, beq_self_eq_true, z2b, Ret_eq Try.results10]; first | done | rfl) (hfw) (by rintro _ rfl; rfl) ?_; rintro _ rfl) | (refine opCallI_gv (by simp only [go_sem, g3b, beq_self_eq_true, z2b, Ret_eq Try.results10]; first | done | rfl) (hp1) ?_; rintro _ rfl) | (refine opCallI_gv (by simp only [go_sem, g3b, beq_self_eq_true, z2b, Ret_eq Try.results10]; first | done | rfl) (hp2) ?_; rintro _ rfl) | fail)
          · rw [if_neg z1] at hp1
            have z1b : (putE dim ids vecs id v != 0) = true := by rw [bne, beq_eq_false_iff_ne.2 z1]; rfl
            simp only [slotsD, ints_nil, rows_nil] at hp1
            by_cases z2 : putE dim ids vecs other w = 0
            · rw [z2, if_pos rfl] at hp2
              refine Fun.of_awpI Try.func10 rfl cal10 Try.ntmps10 (by simp) fun hwf => ?_
              simp only [D.wfs, D.wf, ints_length, ints_wfs, rows_length, rows_wfs, capMax, and_true, true_and] at hwf
              repeat' (first | simp only [go_sem, g3b, beq_self_eq_true, z1b, Ret_eq Try.results10] | simp (disch := omega) only [arith, IntKind.bits, capMax, fill_len, elt_fill] | (refine opCallI_rd (by simp only [go_sem, g3b, beq_self_eq_true, z1b, Ret_eq Try.results10]; first | done | rfl) (slotsLive_fun) (by rintro _ rfl; rfl) ?_; rintro _ rfl) | (refine opCallI_rd (by simp only [go_sem, g3b, beq_self_eq_true, z1b, Ret_eq Try.results10]; first | done | rfl) (hfw) (by rintro _ rfl; rfl) ?_; rintro _ rfl) | (refine opCallI_gv (by simp only [go_sem, g3b, beq_self_eq_true, z1b, Ret_eq Try.results10]; first | done | rfl) (hp1) ?_; rintro _ rfl) | (refine opCallI_gv (by simp only [go_sem, g3b, beq_self_eq_true, z1b, Ret_eq Try.results10]; first | done | rfl) (hp2) ?_; rintro _ rfl) | fail)
            · rw [if_neg z2] at hp2
              simp only [slotsD, ints_nil, rows_nil] at hp2
              refine Fun.of_awpI Try.func10 rfl cal10 Try.ntmps10 (by simp) fun hwf => ?_
              simp only [D.wfs, D.wf, ints_length, ints_wfs, rows_length, rows_wfs, capMax, and_true, true_and] at hwf
              repeat' (first | simp only [go_sem, g3b, beq_self_eq_true, z1b, Ret_eq Try.results10] | simp (disch := omega) only [arith, IntKind.bits, capMax, fill_len, elt_fill] | (refine opCallI_rd (by simp only [go_sem, g3b, beq_self_eq_true, z1b, Ret_eq Try.results10]; first | done | rfl) (slotsLive_fun) (by rintro _ rfl; rfl) ?_; rintro _ rfl) | (refine opCallI_rd (by simp only [go_sem, g3b, beq_self_eq_true, z1b, Ret_eq Try.results10]; first | done | rfl) (hfw) (by rintro _ rfl; rfl) ?_; rintro _ rfl) | (refine opCallI_gv (by simp only [go_sem, g3b, beq_self_eq_true, z1b, Ret_eq Try.results10]; first | done | rfl) (hp1) ?_; rintro _ rfl) | (refine opCallI_gv (by simp only [go_sem, g3b, beq_self_eq_true, z1b, Ret_eq Try.results10]; first | done | rfl) (hp2) ?_; rintro _ rfl) | fail)
      · skip
        refine Fun.of_awpI Try.func10 rfl cal10 Try.ntmps10 (by simp) fun hwf => ?_
        simp only [D.wfs, D.wf, ints_length, ints_wfs, rows_length, rows_wfs, capMax, and_true, true_and] at hwf
        repeat' (first | simp only [go_sem, Ret_eq Try.results10] | simp (disch := omega) only [arith, IntKind.bits, capMax, fill_len, elt_fill] | (refine opCallI_rd (by simp only [go_sem, Ret_eq Try.results10]; first | done | rfl) (slotsLive_fun) (by rintro _ rfl; rfl) ?_; rintro _ rfl) | (refine opCallI_rd (by simp only [go_sem, Ret_eq Try.results10]; first | done | rfl) (hfw) (by rintro _ rfl; rfl) ?_; rintro _ rfl) | fail)
    · skip
      refine Fun.of_awpI Try.func10 rfl cal10 Try.ntmps10 (by simp) fun hwf => ?_
      simp only [D.wfs, D.wf, ints_length, ints_wfs, rows_length, rows_wfs, capMax, and_true, true_and] at hwf
      repeat' (first | simp only [go_sem, Ret_eq Try.results10] | simp (disch := omega) only [arith, IntKind.bits, capMax, fill_len, elt_fill] | (refine opCallI_rd (by simp only [go_sem, Ret_eq Try.results10]; first | done | rfl) (slotsLive_fun) (by rintro _ rfl; rfl) ?_; rintro _ rfl) | (refine opCallI_rd (by simp only [go_sem, Ret_eq Try.results10]; first | done | rfl) (hfw) (by rintro _ rfl; rfl) ?_; rintro _ rfl) | fail)
  · rw [decide_eq_false g0] at hfw
    refine Fun.of_awpI Try.func10 rfl cal10 Try.ntmps10 (by simp) fun hwf => ?_
    simp only [D.wfs, D.wf, ints_length, ints_wfs, rows_length, rows_wfs, capMax, and_true, true_and] at hwf
    repeat' (first | simp only [go_sem, Ret_eq Try.results10] | (refine opCallI_rd (by simp only [go_sem, Ret_eq Try.results10]; first | done | rfl) (slotsLive_fun) (by rintro _ rfl; rfl) ?_; rintro _ rfl) | (refine opCallI_rd (by simp only [go_sem, Ret_eq Try.results10]; first | done | rfl) (hfw) (by rintro _ rfl; rfl) ?_; rintro _ rfl) | fail)
end Go.Proofs.Ytpkampecmlpfmaa.T
