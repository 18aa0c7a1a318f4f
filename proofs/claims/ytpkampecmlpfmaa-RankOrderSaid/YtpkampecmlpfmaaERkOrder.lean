import Derived.Test.YtpkampecmlpfmaaLE
import Derived.Test.YtpkampecmlpfmaaERkLaws
import Derived.Test.YtpkampecmlpfmaaEVWalk
set_option linter.unusedSimpArgs false
set_option linter.unusedVariables false
/- Law on ranks, over what slices.Sorted does: in whatever order. -/
namespace Go.Proofs.Ytpkampecmlpfmaa.T
open Go Go.VL Go.Proofs
set_option maxRecDepth 100000
set_option maxHeartbeats 8000000
theorem sortI_reverse (l : List Int) : sortI l.reverse = sortI l :=
  sorted_unique ((sortI_perm _).trans ((List.reverse_perm l).trans (sortI_perm l).symm)) (sortI_sorted _) (sortI_sorted _)
theorem sortI_map (l : List Int) (b : Int) : sortI (l.map (· + b)) = (sortI l).map (· + b) :=
  sorted_unique ((sortI_perm _).trans ((sortI_perm l).symm.map _)) (sortI_sorted _) (List.pairwise_map.2 ((sortI_sorted l).imp fun h => by omega))
theorem rkE_reverse (l : List Int) (c : Int) : rkE l.reverse c = rkE l c := by unfold rkE; rw [List.length_reverse, List.any_reverse]
theorem rkOut_reverse (l : List Int) (c : Int) : rkOut l.reverse c = rkOut l c := by
  unfold rkOut cutsL
  rw [rkE_reverse, sortI_reverse, List.length_reverse]
theorem cutsL_more {l : List Int} {n i : Nat} {b : Int} (h : i < n - 1) (hl : 1 ≤ l.length) : (cutsL (l.reverse.map (· + b)) n).getD i 0 = (cutsL l n).getD i 0 + b := by
  have hi := cutsL_idx (l := l) h hl
  rw [cutsL_at h, cutsL_at h, sortI_map, sortI_reverse, List.length_map, List.length_reverse]
  have hs := sortI_length l
  simp only [List.getD, List.getElem?_map]
  rw [List.getElem?_eq_getElem (by omega)]
  rfl
theorem rev_at {l : List Int} {k : Nat} (h : k < l.length) : l.reverse.getD k 0 = l.getD (l.length - 1 - k) 0 := by
  simp only [List.getD]
  rw [List.getElem?_reverse h]

theorem sameCutsR_fun (a b : List Int) : Fun Try.prog 26 [.lst (ints .i16 a), .lst (ints .i16 b)] fun r => r = .v (.bool (decide (a = b))) := by
  refine Fun.of_awpI Try.func26 rfl cal26 Try.ntmps26 (by simp) fun hwf => ?_
  simp only [D.wfs, D.wf, ints_length, ints_wfs, rows_length, rows_wfs, capMax, and_true, true_and] at hwf
  repeat' (first | simp only [go_sem, Ret_eq Try.results26] | simp (disch := omega) only [arith, IntKind.bits, capMax, fill_len, elt_fill] | (with_reducible refine condI_beq (fun hq hqb => ?_) (fun hq hqb => ?_) <;> simp only [KP_mk, hqb]) | (with_reducible refine condI_bne (fun hq hqb => ?_) (fun hq hqb => ?_) <;> simp only [KP_mk, hqb]) | (with_reducible refine condI_dec (fun hq hqb => ?_) (fun hq hqb => ?_) <;> simp only [KP_mk, hqb]) | (with_reducible refine condI_b (fun hqb => ?_) (fun hqb => ?_) <;> simp only [KP_mk, hqb]) | refine RetO_calc Try.results26 ?_ | refine RetL_calc Try.results26 rfl ?_ | (refine awpI_draw2 (id := 6) (.one false 0 (.one false 1 (.one false 2 (.one false 3 (.one false 4 (.one false 5 (.one false 6 (.one false 7 (.one false 8 .done))))))))) mixed (by decide +kernel) (by decide +kernel) ?_) | (refine Again.up (by omega) ?_ ?_) | exact trivial | fail)
  · rw [decide_eq_false]; rintro rfl; omega
  · have hl : a.length = b.length := by omega
    refine awpI_for a.length (fun k => a.take k = b.take k) (fun k => [(13, .v (.int .i64 k))]) (fun _ => []) [0, 1, 12] [] _ (Weak.refl _) (by simp) ?_ ?_ ?_
    · simp only [go_sem, Ret_eq Try.results26]
    · simp only [go_sem, Ret_eq Try.results26]
    · intro k s hk hQ hs
      simp only [go_sem, Ret_eq Try.results26] at hs
      by_cases hka : k < a.length
      · repeat' (first | simp only [go_sem, hs, Ret_eq Try.results26] | simp (disch := omega) only [arith, IntKind.bits, capMax, fill_len, elt_fill] | (with_reducible refine condI_beq (fun hq hqb => ?_) (fun hq hqb => ?_) <;> simp only [KP_mk, hqb]) | (with_reducible refine condI_bne (fun hq hqb => ?_) (fun hq hqb => ?_) <;> simp only [KP_mk, hqb]) | (with_reducible refine condI_dec (fun hq hqb => ?_) (fun hq hqb => ?_) <;> simp only [KP_mk, hqb]) | (with_reducible refine condI_b (fun hqb => ?_) (fun hqb => ?_) <;> simp only [KP_mk, hqb]) | refine RetO_calc Try.results26 ?_ | refine RetL_calc Try.results26 rfl ?_ | (refine awpI_draw2 (id := 6) (.one false 0 (.one false 1 (.one false 2 (.one false 3 (.one false 4 (.one false 5 (.one false 6 (.one false 7 (.one false 8 .done))))))))) mixed (by decide +kernel) (by decide +kernel) ?_) | (refine Again.up (by omega) ?_ ?_) | exact trivial | fail)
        · rw [decide_eq_false]; rintro rfl; simp_all
        · exact take_eq_snoc hka (by omega) hQ (by assumption)
      · obtain rfl : k = a.length := by omega
        rw [List.take_length, hl, List.take_length] at hQ
        subst hQ
        repeat' (first | simp only [go_sem, hs, Ret_eq Try.results26] | simp (disch := omega) only [arith, IntKind.bits, capMax, fill_len, elt_fill] | (with_reducible refine condI_beq (fun hq hqb => ?_) (fun hq hqb => ?_) <;> simp only [KP_mk, hqb]) | (with_reducible refine condI_bne (fun hq hqb => ?_) (fun hq hqb => ?_) <;> simp only [KP_mk, hqb]) | (with_reducible refine condI_dec (fun hq hqb => ?_) (fun hq hqb => ?_) <;> simp only [KP_mk, hqb]) | (with_reducible refine condI_b (fun hqb => ?_) (fun hqb => ?_) <;> simp only [KP_mk, hqb]) | refine RetO_calc Try.results26 ?_ | refine RetL_calc Try.results26 rfl ?_ | (refine awpI_draw2 (id := 6) (.one false 0 (.one false 1 (.one false 2 (.one false 3 (.one false 4 (.one false 5 (.one false 6 (.one false 7 (.one false 8 .done))))))))) mixed (by decide +kernel) (by decide +kernel) ?_) | (refine Again.up (by omega) ?_ ?_) | exact trivial | fail)

theorem rankOrder_law (hS : Sorted16) (l : List Int) (cells by0 : Int) (hl : I16s l) (hb : -32768 ≤ by0 ∧ by0 ≤ 32767) : Fun Try.prog 3 [.lst (ints .i16 l), .v (.int .i64 cells), .v (.int .i16 by0)] fun r => r = .v (.bool true) := by
  have hlv := rkLive_fun hS
  by_cases g1 : l.length ≤ 600
  · have h1 := rkCuts_fun hS l cells (by omega)
    have h2 := rkCuts_fun hS l.reverse cells (by rw [List.length_reverse]; omega)
    have h3 := rkCuts_fun hS (l.reverse.map (· + by0)) cells (by rw [List.length_map, List.length_reverse]; omega)
    rw [rkE_reverse, rkOut_reverse] at h2
    have lr : l.reverse.length = l.length := List.length_reverse
    have lm : (l.reverse.map (· + by0)).length = l.length := by rw [List.length_map, lr]
    refine Fun.of_awpI Try.func3 rfl cal3 Try.ntmps3 (by simp) fun hwf => ?_
    simp only [D.wfs, D.wf, ints_length, ints_wfs, rows_length, rows_wfs, capMax, and_true, true_and] at hwf
    repeat' (first | simp only [go_sem, Ret_eq Try.results3] | simp (disch := omega) only [arith, IntKind.bits, capMax, fill_len, elt_fill] | (with_reducible refine condI_beq (fun hq hqb => ?_) (fun hq hqb => ?_) <;> simp only [KP_mk, hqb]) | (with_reducible refine condI_bne (fun hq hqb => ?_) (fun hq hqb => ?_) <;> simp only [KP_mk, hqb]) | (with_reducible refine condI_dec (fun hq hqb => ?_) (fun hq hqb => ?_) <;> simp only [KP_mk, hqb]) | (with_reducible refine condI_b (fun hqb => ?_) (fun hqb => ?_) <;> simp only [KP_mk, hqb]) | refine RetO_calc Try.results3 ?_ | refine RetL_calc Try.results3 rfl ?_ | (refine awpI_draw2 (id := 27) (.one false 0 (.one false 1 (.one false 2 (.one false 3 (.one false 4 (.one false 5 (.one false 6 (.one false 7 (.one false 8 (.one false 9 (.one false 10 (.one false 11 (.one false 12 (.one false 13 .done)))))))))))))) mixed (by decide +kernel) (by decide +kernel) ?_) | (refine Again.up (by omega) ?_ ?_) | exact trivial | (refine opCallI_rd (by simp only [go_sem, Ret_eq Try.results3]; first | done | rfl) (hlv) (by rintro _ rfl; rfl) ?_; rintro _ rfl) | (refine opCallI_gv (by simp only [go_sem, Ret_eq Try.results3]; first | done | rfl) (hlv) ?_; rintro _ rfl) | (refine opCallI_rd (by simp only [go_sem, Ret_eq Try.results3]; first | done | rfl) (h1) (by rintro _ rfl; rfl) ?_; rintro _ rfl) | (refine opCallI_gv (by simp only [go_sem, Ret_eq Try.results3]; first | done | rfl) (h1) ?_; rintro _ rfl) | fail)
    refine awpI_for l.length (fun k => True) (fun k => [(10, .ref 49 k), (11, .ref 66 k), (35, .v (.int .i64 k))]) (fun k => [(49, ⟨23, 1, ints .i16 (l.reverse.take k)⟩), (66, ⟨23, 1, ints .i16 ((l.reverse.map (· + by0)).take k)⟩)]) [0, 1, 2, 7, 8, 9, 34] [] _ (Weak.trans (Weak.adopt (j := 10) 49 23 1 (by simp only [go_sem, Ret_eq Try.results3]) (by simp only [go_sem, Ret_eq Try.results3]) (by decide)) (Weak.adopt (j := 11) 66 23 1 (by simp only [go_sem, Ret_eq Try.results3]) (by simp only [go_sem, Ret_eq Try.results3]) (by decide))) trivial ?_ ?_ ?_
    · simp only [go_sem, Ret_eq Try.results3]
    · simp only [go_sem, List.take_zero, ints_nil, Ret_eq Try.results3]
    · intro k s hk _ hs
      simp only [go_sem, Ret_eq Try.results3] at hs
      by_cases hka : k < l.length
      · have e1 := take_snoc (a := l.reverse) (d := (0 : Int)) (k := k) (by omega)
        have e2 := take_snoc (a := l.reverse.map (· + by0)) (d := (0 : Int)) (k := k) (by omega)
        have e3 : (l.reverse.map (· + by0)).getD k 0 = l.getD (l.length - 1 - k) 0 + by0 := by
          rw [← rev_at hka]
          simp only [List.getD, List.getElem?_map]
          rw [List.getElem?_eq_getElem (by omega)]
          rfl
        rw [rev_at hka] at e1
        rw [e3] at e2
        have hx := hl.getD (l.length - 1 - k)
        have ei : (l.length : Int) - 1 - (k : Int) = ((l.length - 1 - k : Nat) : Int) := by omega
        have l1 : (l.reverse.take k).length = k := by rw [List.length_take]; omega
        have l2 : ((l.reverse.map (· + by0)).take k).length = k := by rw [List.length_take]; omega
        generalize hxe : l.getD (l.length - 1 - k) 0 = x at *
        have w1 : IntKind.i64.wrap x = x := IntWalk.i64_in _ (by omega)
        have w2 : IntKind.i64.wrap by0 = by0 := IntWalk.i64_in _ (by omega)
        have w3 : IntKind.i64.wrap (x + by0) = x + by0 := IntWalk.i64_in _ (by omega)
        by_cases q1 : -32767 ≤ x + by0
        · by_cases q2 : x + by0 ≤ 32767
          · have w4 : IntKind.i16.wrap (x + by0) = x + by0 := IntWalk.i16_in _ (by omega)
            repeat' (first | simp only [go_sem, hs, ei, hxe, w1, w2, w3, w4, e1, e2, l1, l2, List.length_append, List.length_cons, List.length_nil, Ret_eq Try.results3] | simp (disch := omega) only [arith, IntKind.bits, capMax, fill_len, elt_fill] | (with_reducible refine condI_beq (fun hq hqb => ?_) (fun hq hqb => ?_) <;> simp only [KP_mk, hqb]) | (with_reducible refine condI_bne (fun hq hqb => ?_) (fun hq hqb => ?_) <;> simp only [KP_mk, hqb]) | (with_reducible refine condI_dec (fun hq hqb => ?_) (fun hq hqb => ?_) <;> simp only [KP_mk, hqb]) | (with_reducible refine condI_b (fun hqb => ?_) (fun hqb => ?_) <;> simp only [KP_mk, hqb]) | refine RetO_calc Try.results3 ?_ | refine RetL_calc Try.results3 rfl ?_ | (refine awpI_draw2 (id := 27) (.one false 0 (.one false 1 (.one false 2 (.one false 3 (.one false 4 (.one false 5 (.one false 6 (.one false 7 (.one false 8 (.one false 9 (.one false 10 (.one false 11 (.one false 12 (.one false 13 .done)))))))))))))) mixed (by decide +kernel) (by decide +kernel) ?_) | (refine Again.up (by omega) ?_ ?_) | exact trivial | fail)
          · repeat' (first | simp only [go_sem, hs, ei, hxe, w1, w2, w3, e1, e2, l1, l2, List.length_append, List.length_cons, List.length_nil, Ret_eq Try.results3] | simp (disch := omega) only [arith, IntKind.bits, capMax, fill_len, elt_fill] | (with_reducible refine condI_beq (fun hq hqb => ?_) (fun hq hqb => ?_) <;> simp only [KP_mk, hqb]) | (with_reducible refine condI_bne (fun hq hqb => ?_) (fun hq hqb => ?_) <;> simp only [KP_mk, hqb]) | (with_reducible refine condI_dec (fun hq hqb => ?_) (fun hq hqb => ?_) <;> simp only [KP_mk, hqb]) | (with_reducible refine condI_b (fun hqb => ?_) (fun hqb => ?_) <;> simp only [KP_mk, hqb]) | refine RetO_calc Try.results3 ?_ | refine RetL_calc Try.results3 rfl ?_ | (refine awpI_draw2 (id := 27) (.one false 0 (.one false 1 (.one false 2 (.one false 3 (.one false 4 (.one false 5 (.one false 6 (.one false 7 (.one false 8 (.one false 9 (.one false 10 (.one false 11 (.one false 12 (.one false 13 .done)))))))))))))) mixed (by decide +kernel) (by decide +kernel) ?_) | (refine Again.up (by omega) ?_ ?_) | exact trivial | fail)
        · repeat' (first | simp only [go_sem, hs, ei, hxe, w1, w2, w3, e1, e2, l1, l2, List.length_append, List.length_cons, List.length_nil, Ret_eq Try.results3] | simp (disch := omega) only [arith, IntKind.bits, capMax, fill_len, elt_fill] | (with_reducible refine condI_beq (fun hq hqb => ?_) (fun hq hqb => ?_) <;> simp only [KP_mk, hqb]) | (with_reducible refine condI_bne (fun hq hqb => ?_) (fun hq hqb => ?_) <;> simp only [KP_mk, hqb]) | (with_reducible refine condI_dec (fun hq hqb => ?_) (fun hq hqb => ?_) <;> simp only [KP_mk, hqb]) | (with_reducible refine condI_b (fun hqb => ?_) (fun hqb => ?_) <;> simp only [KP_mk, hqb]) | refine RetO_calc Try.results3 ?_ | refine RetL_calc Try.results3 rfl ?_ | (refine awpI_draw2 (id := 27) (.one false 0 (.one false 1 (.one false 2 (.one false 3 (.one false 4 (.one false 5 (.one false 6 (.one false 7 (.one false 8 (.one false 9 (.one false 10 (.one false 11 (.one false 12 (.one false 13 .done)))))))))))))) mixed (by decide +kernel) (by decide +kernel) ?_) | (refine Again.up (by omega) ?_ ?_) | exact trivial | fail)
      · obtain rfl : k = l.length := by omega
        have t1 : l.reverse.take l.length = l.reverse := List.take_of_length_le (by omega)
        have t2 : (l.reverse.map (· + by0)).take l.length = l.reverse.map (· + by0) := List.take_of_length_le (by omega)
        have hsm := sameCutsR_fun (rkOut l cells) (rkOut l cells)
        rw [decide_eq_true rfl] at hsm
        rw [t1, t2] at hs
        by_cases z1 : rkE l cells = 0
        · by_cases z2 : rkE (l.reverse.map (· + by0)) cells = 0
          · obtain ⟨_, ⟨c1, c2⟩, _, c3⟩ := rkE_zero.1 z1
            obtain ⟨n, rfl⟩ := Int.eq_ofNat_of_zero_le (show 0 ≤ cells by omega)
            have o1 : rkOut l (n : Int) = cutsL l n := by unfold rkOut; rw [if_pos z1, Int.toNat_natCast]
            have o2 : rkOut (l.reverse.map (· + by0)) (n : Int) = cutsL (l.reverse.map (· + by0)) n := by unfold rkOut; rw [if_pos z2, Int.toNat_natCast]
            have hm := fun i => cutsL_more (l := l) (n := n) (i := i) (b := by0)
            have n1 := cutsL_length (l := l) (n := n)
            have n2 := cutsL_length (l := l.reverse.map (· + by0)) (n := n)
            rw [z1, o1] at h2
            rw [z2, o2] at h3
            rw [o1] at hs hsm
            repeat' (first | simp only [go_sem, hs, t1, t2, lr, lm, z1, beq_self_eq_true, bne_self_eq_false, Ret_eq Try.results3] | simp (disch := omega) only [arith, IntKind.bits, capMax, fill_len, elt_fill] | (with_reducible refine condI_beq (fun hq hqb => ?_) (fun hq hqb => ?_) <;> simp only [KP_mk, hqb]) | (with_reducible refine condI_bne (fun hq hqb => ?_) (fun hq hqb => ?_) <;> simp only [KP_mk, hqb]) | (with_reducible refine condI_dec (fun hq hqb => ?_) (fun hq hqb => ?_) <;> simp only [KP_mk, hqb]) | (with_reducible refine condI_b (fun hqb => ?_) (fun hqb => ?_) <;> simp only [KP_mk, hqb]) | refine RetO_calc Try.results3 ?_ | refine RetL_calc Try.results3 rfl ?_ | (refine awpI_draw2 (id := 27) (.one false 0 (.one false 1 (.one false 2 (.one false 3 (.one false 4 (.one false 5 (.one false 6 (.one false 7 (.one false 8 (.one false 9 (.one false 10 (.one false 11 (.one false 12 (.one false 13 .done)))))))))))))) mixed (by decide +kernel) (by decide +kernel) ?_) | (refine Again.up (by omega) ?_ ?_) | exact trivial | (refine opCallI_rd (by simp only [go_sem, hs, t1, t2, lr, lm, z1, beq_self_eq_true, bne_self_eq_false, Ret_eq Try.results3]; first | done | rfl) (h2) (by rintro _ rfl; rfl) ?_; rintro _ rfl) | (refine opCallI_gv (by simp only [go_sem, hs, t1, t2, lr, lm, z1, beq_self_eq_true, bne_self_eq_false, Ret_eq Try.results3]; first | done | rfl) (h2) ?_; rintro _ rfl) | (refine opCallI_rd (by simp only [go_sem, hs, t1, t2, lr, lm, z1, beq_self_eq_true, bne_self_eq_false, Ret_eq Try.results3]; first | done | rfl) (h3) (by rintro _ rfl; rfl) ?_; rintro _ rfl) | (refine opCallI_gv (by simp only [go_sem, hs, t1, t2, lr, lm, z1, beq_self_eq_true, bne_self_eq_false, Ret_eq Try.results3]; first | done | rfl) (h3) ?_; rintro _ rfl) | (refine opCallI_rd (by simp only [go_sem, hs, t1, t2, lr, lm, z1, beq_self_eq_true, bne_self_eq_false, Ret_eq Try.results3]; first | done | rfl) (hsm) (by rintro _ rfl; rfl) ?_; rintro _ rfl) | (refine opCallI_gv (by simp only [go_sem, hs, t1, t2, lr, lm, z1, beq_self_eq_true, bne_self_eq_false, Ret_eq Try.results3]; first | done | rfl) (hsm) ?_; rintro _ rfl) | fail)
            have hF : ∀ i, i < n - 1 → -32768 ≤ (cutsL l n).getD i 0 ∧ (cutsL l n).getD i 0 ≤ 32767 := fun i hi => by
              rw [cutsL_at hi]
              have hx := getD_mem (a := sortI l) (d := (0 : Int)) (k := (i + 1) * l.length / n) (by rw [sortI_length]; exact cutsL_idx hi c3)
              exact hl _ ((sortI_perm l).mem_iff.1 hx)
            refine awpI_for (n - 1) (fun k => True) (fun k => [(98, .v (.int .i64 k))]) (fun _ => []) [2, 7, 8, 17, 97] [] _ (Weak.refl _) trivial ?_ ?_ ?_
            · simp only [go_sem, hs, Ret_eq Try.results3]
            · simp only [go_sem, hs, Ret_eq Try.results3]
            · intro k s2 hk2 _ hs2
              simp only [go_sem, hs, Ret_eq Try.results3] at hs2
              by_cases hka : k < n - 1
              · have e1 := hm k hka c3
                have b1 := hF k hka
                have w1 : IntKind.i64.wrap ((cutsL l n).getD k 0) = (cutsL l n).getD k 0 := IntWalk.i64_in _ (by omega)
                have w2 : IntKind.i64.wrap by0 = by0 := IntWalk.i64_in _ (by omega)
                have w3 : IntKind.i64.wrap ((cutsL l n).getD k 0 + by0) = (cutsL l n).getD k 0 + by0 := IntWalk.i64_in _ (by omega)
                repeat' (first | simp only [go_sem, hs, hs2, n1, n2, e1, w1, w2, w3, bne_self_eq_false, Ret_eq Try.results3] | simp (disch := omega) only [arith, IntKind.bits, capMax, fill_len, elt_fill] | (with_reducible refine condI_beq (fun hq hqb => ?_) (fun hq hqb => ?_) <;> simp only [KP_mk, hqb]) | (with_reducible refine condI_bne (fun hq hqb => ?_) (fun hq hqb => ?_) <;> simp only [KP_mk, hqb]) | (with_reducible refine condI_dec (fun hq hqb => ?_) (fun hq hqb => ?_) <;> simp only [KP_mk, hqb]) | (with_reducible refine condI_b (fun hqb => ?_) (fun hqb => ?_) <;> simp only [KP_mk, hqb]) | refine RetO_calc Try.results3 ?_ | refine RetL_calc Try.results3 rfl ?_ | (refine awpI_draw2 (id := 27) (.one false 0 (.one false 1 (.one false 2 (.one false 3 (.one false 4 (.one false 5 (.one false 6 (.one false 7 (.one false 8 (.one false 9 (.one false 10 (.one false 11 (.one false 12 (.one false 13 .done)))))))))))))) mixed (by decide +kernel) (by decide +kernel) ?_) | (refine Again.up (by omega) ?_ ?_) | exact trivial | fail)
              · obtain rfl : k = n - 1 := by omega
                repeat' (first | simp only [go_sem, hs, hs2, n1, n2, beq_self_eq_true, Ret_eq Try.results3] | simp (disch := omega) only [arith, IntKind.bits, capMax, fill_len, elt_fill] | (with_reducible refine condI_beq (fun hq hqb => ?_) (fun hq hqb => ?_) <;> simp only [KP_mk, hqb]) | (with_reducible refine condI_bne (fun hq hqb => ?_) (fun hq hqb => ?_) <;> simp only [KP_mk, hqb]) | (with_reducible refine condI_dec (fun hq hqb => ?_) (fun hq hqb => ?_) <;> simp only [KP_mk, hqb]) | (with_reducible refine condI_b (fun hqb => ?_) (fun hqb => ?_) <;> simp only [KP_mk, hqb]) | refine RetO_calc Try.results3 ?_ | refine RetL_calc Try.results3 rfl ?_ | (refine awpI_draw2 (id := 27) (.one false 0 (.one false 1 (.one false 2 (.one false 3 (.one false 4 (.one false 5 (.one false 6 (.one false 7 (.one false 8 (.one false 9 (.one false 10 (.one false 11 (.one false 12 (.one false 13 .done)))))))))))))) mixed (by decide +kernel) (by decide +kernel) ?_) | (refine Again.up (by omega) ?_ ?_) | exact trivial | fail)
          · have hb2 : (rkE (l.reverse.map (· + by0)) cells == 0) = false := beq_eq_false_iff_ne.2 z2
            rw [z1] at h2
            generalize rkE (l.reverse.map (· + by0)) cells = E3 at *
            repeat' (first | simp only [go_sem, hs, t1, t2, lr, lm, z1, hb2, beq_self_eq_true, bne_self_eq_false, Ret_eq Try.results3] | simp (disch := omega) only [arith, IntKind.bits, capMax, fill_len, elt_fill] | (with_reducible refine condI_beq (fun hq hqb => ?_) (fun hq hqb => ?_) <;> simp only [KP_mk, hqb]) | (with_reducible refine condI_bne (fun hq hqb => ?_) (fun hq hqb => ?_) <;> simp only [KP_mk, hqb]) | (with_reducible refine condI_dec (fun hq hqb => ?_) (fun hq hqb => ?_) <;> simp only [KP_mk, hqb]) | (with_reducible refine condI_b (fun hqb => ?_) (fun hqb => ?_) <;> simp only [KP_mk, hqb]) | refine RetO_calc Try.results3 ?_ | refine RetL_calc Try.results3 rfl ?_ | (refine awpI_draw2 (id := 27) (.one false 0 (.one false 1 (.one false 2 (.one false 3 (.one false 4 (.one false 5 (.one false 6 (.one false 7 (.one false 8 (.one false 9 (.one false 10 (.one false 11 (.one false 12 (.one false 13 .done)))))))))))))) mixed (by decide +kernel) (by decide +kernel) ?_) | (refine Again.up (by omega) ?_ ?_) | exact trivial | (refine opCallI_rd (by simp only [go_sem, hs, t1, t2, lr, lm, z1, hb2, beq_self_eq_true, bne_self_eq_false, Ret_eq Try.results3]; first | done | rfl) (h2) (by rintro _ rfl; rfl) ?_; rintro _ rfl) | (refine opCallI_gv (by simp only [go_sem, hs, t1, t2, lr, lm, z1, hb2, beq_self_eq_true, bne_self_eq_false, Ret_eq Try.results3]; first | done | rfl) (h2) ?_; rintro _ rfl) | (refine opCallI_rd (by simp only [go_sem, hs, t1, t2, lr, lm, z1, hb2, beq_self_eq_true, bne_self_eq_false, Ret_eq Try.results3]; first | done | rfl) (h3) (by rintro _ rfl; rfl) ?_; rintro _ rfl) | (refine opCallI_gv (by simp only [go_sem, hs, t1, t2, lr, lm, z1, hb2, beq_self_eq_true, bne_self_eq_false, Ret_eq Try.results3]; first | done | rfl) (h3) ?_; rintro _ rfl) | (refine opCallI_rd (by simp only [go_sem, hs, t1, t2, lr, lm, z1, hb2, beq_self_eq_true, bne_self_eq_false, Ret_eq Try.results3]; first | done | rfl) (hsm) (by rintro _ rfl; rfl) ?_; rintro _ rfl) | (refine opCallI_gv (by simp only [go_sem, hs, t1, t2, lr, lm, z1, hb2, beq_self_eq_true, bne_self_eq_false, Ret_eq Try.results3]; first | done | rfl) (hsm) ?_; rintro _ rfl) | fail)
        · have hb1 : (rkE l cells == 0) = false := beq_eq_false_iff_ne.2 z1
          generalize rkE (l.reverse.map (· + by0)) cells = E3 at *
          generalize rkE l cells = E1 at *
          repeat' (first | simp only [go_sem, hs, t1, t2, lr, lm, hb1, beq_self_eq_true, bne_self_eq_false, Ret_eq Try.results3] | simp (disch := omega) only [arith, IntKind.bits, capMax, fill_len, elt_fill] | (with_reducible refine condI_beq (fun hq hqb => ?_) (fun hq hqb => ?_) <;> simp only [KP_mk, hqb]) | (with_reducible refine condI_bne (fun hq hqb => ?_) (fun hq hqb => ?_) <;> simp only [KP_mk, hqb]) | (with_reducible refine condI_dec (fun hq hqb => ?_) (fun hq hqb => ?_) <;> simp only [KP_mk, hqb]) | (with_reducible refine condI_b (fun hqb => ?_) (fun hqb => ?_) <;> simp only [KP_mk, hqb]) | refine RetO_calc Try.results3 ?_ | refine RetL_calc Try.results3 rfl ?_ | (refine awpI_draw2 (id := 27) (.one false 0 (.one false 1 (.one false 2 (.one false 3 (.one false 4 (.one false 5 (.one false 6 (.one false 7 (.one false 8 (.one false 9 (.one false 10 (.one false 11 (.one false 12 (.one false 13 .done)))))))))))))) mixed (by decide +kernel) (by decide +kernel) ?_) | (refine Again.up (by omega) ?_ ?_) | exact trivial | (refine opCallI_rd (by simp only [go_sem, hs, t1, t2, lr, lm, hb1, beq_self_eq_true, bne_self_eq_false, Ret_eq Try.results3]; first | done | rfl) (h2) (by rintro _ rfl; rfl) ?_; rintro _ rfl) | (refine opCallI_gv (by simp only [go_sem, hs, t1, t2, lr, lm, hb1, beq_self_eq_true, bne_self_eq_false, Ret_eq Try.results3]; first | done | rfl) (h2) ?_; rintro _ rfl) | (refine opCallI_rd (by simp only [go_sem, hs, t1, t2, lr, lm, hb1, beq_self_eq_true, bne_self_eq_false, Ret_eq Try.results3]; first | done | rfl) (h3) (by rintro _ rfl; rfl) ?_; rintro _ rfl) | (refine opCallI_gv (by simp only [go_sem, hs, t1, t2, lr, lm, hb1, beq_self_eq_true, bne_self_eq_false, Ret_eq Try.results3]; first | done | rfl) (h3) ?_; rintro _ rfl) | (refine opCallI_rd (by simp only [go_sem, hs, t1, t2, lr, lm, hb1, beq_self_eq_true, bne_self_eq_false, Ret_eq Try.results3]; first | done | rfl) (hsm) (by rintro _ rfl; rfl) ?_; rintro _ rfl) | (refine opCallI_gv (by simp only [go_sem, hs, t1, t2, lr, lm, hb1, beq_self_eq_true, bne_self_eq_false, Ret_eq Try.results3]; first | done | rfl) (hsm) ?_; rintro _ rfl) | fail)
  · skip
    refine Fun.of_awpI Try.func3 rfl cal3 Try.ntmps3 (by simp) fun hwf => ?_
    simp only [D.wfs, D.wf, ints_length, ints_wfs, rows_length, rows_wfs, capMax, and_true, true_and] at hwf
    repeat' (first | simp only [go_sem, Ret_eq Try.results3] | simp (disch := omega) only [arith, IntKind.bits, capMax, fill_len, elt_fill] | (with_reducible refine condI_beq (fun hq hqb => ?_) (fun hq hqb => ?_) <;> simp only [KP_mk, hqb]) | (with_reducible refine condI_bne (fun hq hqb => ?_) (fun hq hqb => ?_) <;> simp only [KP_mk, hqb]) | (with_reducible refine condI_dec (fun hq hqb => ?_) (fun hq hqb => ?_) <;> simp only [KP_mk, hqb]) | (with_reducible refine condI_b (fun hqb => ?_) (fun hqb => ?_) <;> simp only [KP_mk, hqb]) | refine RetO_calc Try.results3 ?_ | refine RetL_calc Try.results3 rfl ?_ | (refine awpI_draw2 (id := 27) (.one false 0 (.one false 1 (.one false 2 (.one false 3 (.one false 4 (.one false 5 (.one false 6 (.one false 7 (.one false 8 (.one false 9 (.one false 10 (.one false 11 (.one false 12 (.one false 13 .done)))))))))))))) mixed (by decide +kernel) (by decide +kernel) ?_) | (refine Again.up (by omega) ?_ ?_) | exact trivial | (refine opCallI_rd (by simp only [go_sem, Ret_eq Try.results3]; first | done | rfl) (hlv) (by rintro _ rfl; rfl) ?_; rintro _ rfl) | (refine opCallI_gv (by simp only [go_sem, Ret_eq Try.results3]; first | done | rfl) (hlv) ?_; rintro _ rfl) | fail)
end Go.Proofs.Ytpkampecmlpfmaa.T
