import Derived.Test.YtpkampecmlpfmaaLE
import Derived.Test.YtpkampecmlpfmaaESNew
import Derived.Test.YtpkampecmlpfmaaESEq
import Derived.Test.YtpkampecmlpfmaaESFew
set_option linter.unusedSimpArgs false
set_option linter.unusedVariables false
/- Laws on slots: the first one in which nobody is; back. -/
namespace Go.Proofs.Ytpkampecmlpfmaa.T
open Go Go.VL Go.Proofs
set_option maxRecDepth 100000
set_option maxHeartbeats 8000000
theorem fewS_len {ids : List Int} {vecs : List (List Int)} (h : fewSlots ids vecs) : ∀ x ∈ vecs, x.length ≤ 500 := fun x hx => by have := h.1 x hx; omega
theorem set_len500 {vecs : List (List Int)} {i : Nat} {v : List Int} (h : ∀ x ∈ vecs, x.length ≤ 500) (hv : v.length ≤ 300) : ∀ x ∈ vecs.set i v, x.length ≤ 500 := fun x hx => by
  rcases List.mem_or_eq_of_mem_set hx with q | q
  · exact h x q
  · rw [q]; omega

theorem slotsFirst_law (dim : Int) (ids : List Int) (vecs : List (List Int)) (id : Int) (v : List Int) : Fun Try.prog 8 [slotsD dim ids vecs, .v (.int .i64 id), .lst (ints .i16 v)] fun r => r = .v (.bool true) := by
  have hfw := fewSlots_fun dim ids vecs
  by_cases g0 : fewSlots ids vecs
  · rw [decide_eq_true g0] at hfw
    by_cases g1 : v.length ≤ 300
    · have hf := find_fun dim ids vecs id
      by_cases f : findE dim ids vecs id = 5
      · rw [f] at hf
        have hlen : ids.length ≤ 257 := by have := g0.2; omega
        have hp := slotsPut_fun dim ids vecs id v (fewS_len g0) (by omega)
        have f5 := find_five f
        refine Fun.of_awpI Try.func8 rfl cal8 Try.ntmps8 (by simp) fun hwf => ?_
        simp only [D.wfs, D.wf, ints_length, ints_wfs, rows_length, rows_wfs, capMax, and_true, true_and] at hwf
        repeat' (first | simp only [go_sem, beq_self_eq_true, Ret_eq Try.results8] | simp (disch := omega) only [arith, IntKind.bits, capMax, fill_len, elt_fill] | (refine opCallI_rd (by simp only [go_sem, beq_self_eq_true, Ret_eq Try.results8]; first | done | rfl) (slotsLive_fun) (by rintro _ rfl; rfl) ?_; rintro _ rfl) | (refine opCallI_rd (by simp only [go_sem, beq_self_eq_true, Ret_eq Try.results8]; first | done | rfl) (hfw) (by rintro _ rfl; rfl) ?_; rintro _ rfl) | (refine opCallI_rd (by simp only [go_sem, beq_self_eq_true, Ret_eq Try.results8]; first | done | rfl) (hf) (by rintro _ rfl; rfl) ?_; rintro _ rfl) | fail)
        refine awpI_for ids.length (fun k => True) (fun k => [(10, .v (.int .i64 (firstF ids k))), (11, .v (.int .i64 ((ids.length : Int) - 1 - k)))]) (fun _ => []) [1, 2, 3, 7] [3] _ (Weak.refl _) trivial ?_ ?_ ?_
        · simp only [go_sem, firstF, Ret_eq Try.results8]
          simp
        · simp only [go_sem, Ret_eq Try.results8]
        · intro k s hk _ hs
          simp only [go_sem, Ret_eq Try.results8] at hs
          by_cases hka : k < ids.length
          · have e : (ids.length : Int) - 1 - k = ((ids.length - 1 - k : Nat) : Int) := by omega
            have e2 : ((ids.length - 1 - k : Nat) : Int) - 1 = (ids.length : Int) - 1 - (k + 1 : Nat) := by omega
            rw [e] at hs
            by_cases q : ids.getD (ids.length - 1 - k) 0 = -1
            · have e3 : firstF ids (k + 1) = ((ids.length - 1 - k : Nat) : Int) := if_pos q
              repeat' (first | simp only [go_sem, hs, q, beq_self_eq_true, e3, e2, Ret_eq Try.results8] | simp (disch := omega) only [arith, IntKind.bits, capMax, fill_len, elt_fill] | (refine Again.up (by omega) ?_ ?_) | fail)
            · have e3 : firstF ids (k + 1) = firstF ids k := if_neg q
              have qb : (ids.getD (ids.length - 1 - k) 0 == -1) = false := beq_eq_false_iff_ne.2 q
              repeat' (first | simp only [go_sem, hs, qb, e3, e2, Ret_eq Try.results8] | simp (disch := omega) only [arith, IntKind.bits, capMax, fill_len, elt_fill] | (refine Again.up (by omega) ?_ ?_) | fail)
          · obtain rfl : k = ids.length := by omega
            have ef := firstF_all (ids := ids)
            by_cases z : putE dim ids vecs id v = 0
            · obtain ⟨i, i1, i2, i3, i4⟩ := put_find z
              have e4 : putI dim ids vecs id v = idxI ids (-1) := by unfold putI; rw [if_pos z, if_pos f]
              rw [e4] at i2
              rw [ef, i2] at hs
              have hf2 := find_fun dim (ids.set i id) (vecs.set i v) id
              rw [i3, i4] at hf2
              rw [z, if_pos rfl, e4, i2, Int.toNat_natCast] at hp
              have hvl : vecs.length = ids.length := f5.1.2.2.1
              have e5 : (vecs.set i v).getD i [] = v := by rw [getDset (by omega), if_pos rfl]
              have hsv := refSame16_fun v v
              rw [decide_eq_true rfl] at hsv
              have hl2 : (vecs.set i v).length = ids.length := by rw [List.length_set, hvl]
              repeat' (first | simp only [go_sem, hs, e5, beq_self_eq_true, hl2, Ret_eq Try.results8] | simp (disch := omega) only [arith, IntKind.bits, capMax, fill_len, elt_fill] | (refine opCallI_gv (by simp only [go_sem, hs, e5, beq_self_eq_true, hl2, Ret_eq Try.results8]; first | done | rfl) (hp) ?_; rintro _ rfl) | (refine opCallI_rd (by simp only [go_sem, hs, e5, beq_self_eq_true, hl2, Ret_eq Try.results8]; first | done | rfl) (hf2) (by rintro _ rfl; rfl) ?_; rintro _ rfl) | (refine opCallI_rd (by simp only [go_sem, hs, e5, beq_self_eq_true, hl2, Ret_eq Try.results8]; first | done | rfl) (hsv) (by rintro _ rfl; rfl) ?_; rintro _ rfl) | fail)
            · rw [if_neg z] at hp
              have e4 : putI dim ids vecs id v = 0 := if_neg z
              rw [e4] at hp
              simp only [slotsD, ints_nil, rows_nil] at hp
              by_cases z1 : putE dim ids vecs id v = 1
              · rw [z1] at hp
                repeat' (first | simp only [go_sem, hs, beq_self_eq_true, Ret_eq Try.results8] | simp (disch := omega) only [arith, IntKind.bits, capMax, fill_len, elt_fill] | (refine opCallI_gv (by simp only [go_sem, hs, beq_self_eq_true, Ret_eq Try.results8]; first | done | rfl) (hp) ?_; rintro _ rfl) | fail)
              · have hvo : vecErr v = 0 ∧ (v.length : Int) = dim := by
                  refine Classical.byContradiction fun q => z1 ?_
                  unfold putE; rw [if_pos (.inr q)]
                obtain ⟨y1, y2, y3⟩ := put_one z (by rw [f]; decide) hvo
                rw [y1] at hp
                rw [ef] at hs
                repeat' (first | simp only [go_sem, hs, beq_self_eq_true, Ret_eq Try.results8] | simp (disch := omega) only [arith, IntKind.bits, capMax, fill_len, elt_fill] | (refine opCallI_gv (by simp only [go_sem, hs, beq_self_eq_true, Ret_eq Try.results8]; first | done | rfl) (hp) ?_; rintro _ rfl) | fail)
                exact decide_eq_true y3
      · have hfb : (findE dim ids vecs id == 5) = false := beq_eq_false_iff_ne.2 f
        refine Fun.of_awpI Try.func8 rfl cal8 Try.ntmps8 (by simp) fun hwf => ?_
        simp only [D.wfs, D.wf, ints_length, ints_wfs, rows_length, rows_wfs, capMax, and_true, true_and] at hwf
        repeat' (first | simp only [go_sem, hfb, Ret_eq Try.results8] | simp (disch := omega) only [arith, IntKind.bits, capMax, fill_len, elt_fill] | (refine opCallI_rd (by simp only [go_sem, hfb, Ret_eq Try.results8]; first | done | rfl) (slotsLive_fun) (by rintro _ rfl; rfl) ?_; rintro _ rfl) | (refine opCallI_rd (by simp only [go_sem, hfb, Ret_eq Try.results8]; first | done | rfl) (hfw) (by rintro _ rfl; rfl) ?_; rintro _ rfl) | (refine opCallI_rd (by simp only [go_sem, hfb, Ret_eq Try.results8]; first | done | rfl) (hf) (by rintro _ rfl; rfl) ?_; rintro _ rfl) | fail)
    · skip
      refine Fun.of_awpI Try.func8 rfl cal8 Try.ntmps8 (by simp) fun hwf => ?_
      simp only [D.wfs, D.wf, ints_length, ints_wfs, rows_length, rows_wfs, capMax, and_true, true_and] at hwf
      repeat' (first | simp only [go_sem, Ret_eq Try.results8] | simp (disch := omega) only [arith, IntKind.bits, capMax, fill_len, elt_fill] | (refine opCallI_rd (by simp only [go_sem, Ret_eq Try.results8]; first | done | rfl) (slotsLive_fun) (by rintro _ rfl; rfl) ?_; rintro _ rfl) | (refine opCallI_rd (by simp only [go_sem, Ret_eq Try.results8]; first | done | rfl) (hfw) (by rintro _ rfl; rfl) ?_; rintro _ rfl) | fail)
  · rw [decide_eq_false g0] at hfw
    refine Fun.of_awpI Try.func8 rfl cal8 Try.ntmps8 (by simp) fun hwf => ?_
    simp only [D.wfs, D.wf, ints_length, ints_wfs, rows_length, rows_wfs, capMax, and_true, true_and] at hwf
    repeat' (first | simp only [go_sem, Ret_eq Try.results8] | (refine opCallI_rd (by simp only [go_sem, Ret_eq Try.results8]; first | done | rfl) (slotsLive_fun) (by rintro _ rfl; rfl) ?_; rintro _ rfl) | (refine opCallI_rd (by simp only [go_sem, Ret_eq Try.results8]; first | done | rfl) (hfw) (by rintro _ rfl; rfl) ?_; rintro _ rfl) | fail)

theorem slotsBack_law (dim : Int) (ids : List Int) (vecs : List (List Int)) (id : Int) (v : List Int) : Fun Try.prog 9 [slotsD dim ids vecs, .v (.int .i64 id), .lst (ints .i16 v)] fun r => r = .v (.bool true) := by
  have hfw := fewSlots_fun dim ids vecs
  by_cases g0 : fewSlots ids vecs
  · rw [decide_eq_true g0] at hfw
    by_cases g1 : v.length ≤ 300
    · have hf := find_fun dim ids vecs id
      by_cases f : findE dim ids vecs id = 0
      · obtain ⟨i, i1, i2, i3, i4, i5, i6, i7⟩ := put_own f
        have hp := slotsPut_fun dim ids vecs id (vecs.getD i []) (fewS_len g0) (fewS_len g0 _ (getD_mem (by omega)))
        rw [i4, i5, if_pos rfl, Int.toNat_natCast, i6, i7] at hp
        rw [f, i3] at hf
        have hs := slotsSame_fun dim ids vecs dim ids vecs
        rw [decide_eq_true ⟨rfl, rfl, rfl⟩] at hs
        refine Fun.of_awpI Try.func9 rfl cal9 Try.ntmps9 (by simp) fun hwf => ?_
        simp only [D.wfs, D.wf, ints_length, ints_wfs, rows_length, rows_wfs, capMax, and_true, true_and] at hwf
        repeat' (first | simp only [go_sem, beq_self_eq_true, Ret_eq Try.results9] | simp (disch := omega) only [arith, IntKind.bits, capMax, fill_len, elt_fill] | (refine awpI_draw2 (id := 8) (.cal 0 [12] (.cal 1 [12] (.cal 2 [12] (.cal 3 [12] (.cal 4 [12] (.cal 5 [12] (.cal 6 [12] (.two 7 12 (.cal 8 [12] (.cal 9 [12] (.cal 10 [12] (.one true 11 (.only 12 (.one false 13 (.only 14 (.one false 15 .done)))))))) (.only 7 (.one false 8 (.one false 9 (.one false 10 (.one false 13 (.cal 11 [14] (.only 14 (.one false 15 .done)))))))))))))))) mixed (by decide +kernel) (by decide +kernel) ?_) | (refine sch2I_two ?_ ?_) | (refine opCallI_rd (by simp only [go_sem, beq_self_eq_true, Ret_eq Try.results9]; first | done | rfl) (slotsLive_fun) (by rintro _ rfl; rfl) ?_; rintro _ rfl) | (refine opCallI_rd (by simp only [go_sem, beq_self_eq_true, Ret_eq Try.results9]; first | done | rfl) (hfw) (by rintro _ rfl; rfl) ?_; rintro _ rfl) | (refine opCallI_rd (by simp only [go_sem, beq_self_eq_true, Ret_eq Try.results9]; first | done | rfl) (hf) (by rintro _ rfl; rfl) ?_; rintro _ rfl) | (refine opCallI_gv (by simp only [go_sem, beq_self_eq_true, Ret_eq Try.results9]; first | done | rfl) (hp) ?_; rintro _ rfl) | (refine opCallI_rd (by simp only [go_sem, beq_self_eq_true, Ret_eq Try.results9]; first | done | rfl) (hs) (by rintro _ rfl; rfl) ?_; rintro _ rfl) | fail)
      · have hfb : (findE dim ids vecs id == 0) = false := beq_eq_false_iff_ne.2 f
        have hp := slotsPut_fun dim ids vecs id v (fewS_len g0) (by omega)
        by_cases e : putE dim ids vecs id v = 0
        · obtain ⟨i, i1, i2, i3, i4, i5, i6, i7⟩ := put_del e f
          rw [e, i2, if_pos rfl, Int.toNat_natCast] at hp
          have hd := slotsDel_fun dim (ids.set i id) (vecs.set i v) id (set_len500 (fewS_len g0) g1)
          rw [i4, i5, if_pos rfl, Int.toNat_natCast, i6, i7] at hd
          have hs := slotsSame_fun dim ids vecs dim ids vecs
          rw [decide_eq_true ⟨rfl, rfl, rfl⟩] at hs
          rw [i3] at hf
          refine Fun.of_awpI Try.func9 rfl cal9 Try.ntmps9 (by simp) fun hwf => ?_
          simp only [D.wfs, D.wf, ints_length, ints_wfs, rows_length, rows_wfs, capMax, and_true, true_and] at hwf
          repeat' (first | simp only [go_sem, beq_self_eq_true, Ret_eq Try.results9] | simp (disch := omega) only [arith, IntKind.bits, capMax, fill_len, elt_fill] | (refine opCallI_rd (by simp only [go_sem, beq_self_eq_true, Ret_eq Try.results9]; first | done | rfl) (slotsLive_fun) (by rintro _ rfl; rfl) ?_; rintro _ rfl) | (refine opCallI_rd (by simp only [go_sem, beq_self_eq_true, Ret_eq Try.results9]; first | done | rfl) (hfw) (by rintro _ rfl; rfl) ?_; rintro _ rfl) | (refine opCallI_rd (by simp only [go_sem, beq_self_eq_true, Ret_eq Try.results9]; first | done | rfl) (hf) (by rintro _ rfl; rfl) ?_; rintro _ rfl) | (refine opCallI_gv (by simp only [go_sem, beq_self_eq_true, Ret_eq Try.results9]; first | done | rfl) (hp) ?_; rintro _ rfl) | (refine opCallI_gv (by simp only [go_sem, beq_self_eq_true, Ret_eq Try.results9]; first | done | rfl) (hd) ?_; rintro _ rfl) | (refine opCallI_rd (by simp only [go_sem, beq_self_eq_true, Ret_eq Try.results9]; first | done | rfl) (hs) (by rintro _ rfl; rfl) ?_; rintro _ rfl) | fail)
        · rw [if_neg e] at hp
          have heb : (putE dim ids vecs id v == 0) = false := beq_eq_false_iff_ne.2 e
          simp only [slotsD, ints_nil, rows_nil] at hp
          refine Fun.of_awpI Try.func9 rfl cal9 Try.ntmps9 (by simp) fun hwf => ?_
          simp only [D.wfs, D.wf, ints_length, ints_wfs, rows_length, rows_wfs, capMax, and_true, true_and] at hwf
          repeat' (first | simp only [go_sem, hfb, heb, Ret_eq Try.results9] | simp (disch := omega) only [arith, IntKind.bits, capMax, fill_len, elt_fill] | (refine opCallI_rd (by simp only [go_sem, hfb, heb, Ret_eq Try.results9]; first | done | rfl) (slotsLive_fun) (by rintro _ rfl; rfl) ?_; rintro _ rfl) | (refine opCallI_rd (by simp only [go_sem, hfb, heb, Ret_eq Try.results9]; first | done | rfl) (hfw) (by rintro _ rfl; rfl) ?_; rintro _ rfl) | (refine opCallI_rd (by simp only [go_sem, hfb, heb, Ret_eq Try.results9]; first | done | rfl) (hf) (by rintro _ rfl; rfl) ?_; rintro _ rfl) | (refine opCallI_gv (by simp only [go_sem, hfb, heb, Ret_eq Try.results9]; first | done | rfl) (hp) ?_; rintro _ rfl) | fail)
    · skip
      refine Fun.of_awpI Try.func9 rfl cal9 Try.ntmps9 (by simp) fun hwf => ?_
      simp only [D.wfs, D.wf, ints_length, ints_wfs, rows_length, rows_wfs, capMax, and_true, true_and] at hwf
      repeat' (first | simp only [go_sem, Ret_eq Try.results9] | simp (disch := omega) only [arith, IntKind.bits, capMax, fill_len, elt_fill] | (refine opCallI_rd (by simp only [go_sem, Ret_eq Try.results9]; first | done | rfl) (slotsLive_fun) (by rintro _ rfl; rfl) ?_; rintro _ rfl) | (refine opCallI_rd (by simp only [go_sem, Ret_eq Try.results9]; first | done | rfl) (hfw) (by rintro _ rfl; rfl) ?_; rintro _ rfl) | fail)
  · rw [decide_eq_false g0] at hfw
    refine Fun.of_awpI Try.func9 rfl cal9 Try.ntmps9 (by simp) fun hwf => ?_
    simp only [D.wfs, D.wf, ints_length, ints_wfs, rows_length, rows_wfs, capMax, and_true, true_and] at hwf
    repeat' (first | simp only [go_sem, Ret_eq Try.results9] | (refine opCallI_rd (by simp only [go_sem, Ret_eq Try.results9]; first | done | rfl) (slotsLive_fun) (by rintro _ rfl; rfl) ?_; rintro _ rfl) | (refine opCallI_rd (by simp only [go_sem, Ret_eq Try.results9]; first | done | rfl) (hfw) (by rintro _ rfl; rfl) ?_; rintro _ rfl) | fail)
end Go.Proofs.Ytpkampecmlpfmaa.T
