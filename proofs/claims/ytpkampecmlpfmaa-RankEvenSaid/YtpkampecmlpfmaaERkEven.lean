import Derived.Test.YtpkampecmlpfmaaLE
import Derived.Test.YtpkampecmlpfmaaERkLaws2
import Derived.Test.YtpkampecmlpfmaaERkE
set_option linter.unusedSimpArgs false
set_option linter.unusedVariables false
/- Law on ranks, over what slices.Sorted does: of numbers that are all different the parts are as many, or one apart. -/
namespace Go.Proofs.Ytpkampecmlpfmaa.T
open Go Go.VL Go.Proofs
set_option maxRecDepth 100000
set_option maxHeartbeats 8000000
theorem fact_mpb : mapT Try.prog 40 = some (23, 4) := by kernel_rfl
theorem kvT_kills {id : Nat} {l : List Int} : D.kills id (kvT l) = kvT l := D.noRef_kill id (kvT_noRefs l)
theorem kvT_frzs {id : Nat} {els : List D} {l : List Int} : D.frzs id els (kvT l) = kvT l := D.noRef_frzs _ (kvT_noRefs l) id els
attribute [go_sem] fact_mpb kvT_of kvT_noRefs kvT_kills kvT_frzs kvT_step

theorem rankEven_law (hS : Sorted16) (l : List Int) (cells : Int) : Fun Try.prog 6 [.lst (ints .i16 l), .v (.int .i64 cells)] fun r => r = .v (.bool true) := by
  have hlv := rkLive_fun hS
  by_cases g1 : l.length ≤ 600
  · have h1 := rkCuts_fun hS l cells (by omega)
    by_cases h : rkE l cells = 0
    · obtain ⟨_, ⟨c1, c2⟩, c3, c4⟩ := rkE_zero.1 h
      obtain ⟨n, rfl⟩ := Int.eq_ofNat_of_zero_le (show 0 ≤ cells by omega)
      have e1 : rkOut l (n : Int) = cutsL l n := by unfold rkOut; rw [if_pos h, Int.toNat_natCast]
      rw [e1, h] at h1
      have c0 := cutsOk_cutsL h
      have l1 := cutsL_length (l := l) (n := n)
      have q0 : cntE (cutsL l n) l = 0 := by
        unfold cntE; rw [if_neg (by omega), if_neg]
        rintro (q | q)
        · exact q c0
        · rw [c3] at q; cases q
      have h2 := count_fun (cutsL l n) l (by omega) (by omega)
      rw [q0, show cntOut (cutsL l n) l = cntL (cutsL l n) l from if_pos q0] at h2
      have h3 := rankCheck_fun (cutsL l n)
      rw [c0] at h3
      have hev := fun hn i => cnt_even h hn (i := i)
      have hmem := fun i => cutsL_mem (l := l) (n := n) (i := i)
      have n2 := cntL_length (c := cutsL l n) (l := l)
      have hall := sumTo_all (c := cutsL l n) (l := l)
      have hbd := fun k => sumTo_bound (c := cutsL l n) (l := l) (k := k)
      have hr1 : ∀ k, k < n → 0 ≤ (cntL (cutsL l n) l).getD k 0 ∧ (cntL (cutsL l n) l).getD k 0 ≤ 600 := fun k hk => by
        rw [cntL_at (by omega)]; have := List.countP_le_length (p := fun x => cellOf (cutsL l n) x == k) (l := l); omega
      rw [l1] at n2 hall hbd
      rw [show n - 1 + 1 = n by omega] at n2 hall hbd
      generalize cntL (cutsL l n) l = C at *
      generalize cutsL l n = F at *
      have b1 : ((n - 1 : Nat) : Int) = (n : Int) - 1 := by omega
      refine Fun.of_awpI Try.func6 rfl cal6 Try.ntmps6 (by simp) fun hwf => ?_
      simp only [D.wfs, D.wf, ints_length, ints_wfs, rows_length, rows_wfs, capMax, and_true, true_and] at hwf
      repeat' (first | simp only [go_sem, beq_self_eq_true, bne_self_eq_false, l1, n2, b1, Ret_eq Try.results6] | simp (disch := omega) only [arith, IntKind.bits, capMax, fill_len, elt_fill] | (with_reducible refine condI_beq (fun hq hqb => ?_) (fun hq hqb => ?_) <;> simp only [KP_mk, hqb]) | (with_reducible refine condI_bne (fun hq hqb => ?_) (fun hq hqb => ?_) <;> simp only [KP_mk, hqb]) | (with_reducible refine condI_dec (fun hq hqb => ?_) (fun hq hqb => ?_) <;> simp only [KP_mk, hqb]) | (with_reducible refine condI_b (fun hqb => ?_) (fun hqb => ?_) <;> simp only [KP_mk, hqb]) | refine RetO_calc Try.results6 ?_ | refine RetL_calc Try.results6 rfl ?_ | (refine Again.up (by omega) ?_ ?_) | exact trivial | (refine opCallI_rd (by simp only [go_sem, beq_self_eq_true, bne_self_eq_false, l1, n2, b1, Ret_eq Try.results6]; first | done | rfl) (hlv) (by rintro _ rfl; rfl) ?_; rintro _ rfl) | (refine opCallI_gv (by simp only [go_sem, beq_self_eq_true, bne_self_eq_false, l1, n2, b1, Ret_eq Try.results6]; first | done | rfl) (hlv) ?_; rintro _ rfl) | (refine opCallI_rd (by simp only [go_sem, beq_self_eq_true, bne_self_eq_false, l1, n2, b1, Ret_eq Try.results6]; first | done | rfl) (h1) (by rintro _ rfl; rfl) ?_; rintro _ rfl) | (refine opCallI_gv (by simp only [go_sem, beq_self_eq_true, bne_self_eq_false, l1, n2, b1, Ret_eq Try.results6]; first | done | rfl) (h1) ?_; rintro _ rfl) | (refine opCallI_rd (by simp only [go_sem, beq_self_eq_true, bne_self_eq_false, l1, n2, b1, Ret_eq Try.results6]; first | done | rfl) (h2) (by rintro _ rfl; rfl) ?_; rintro _ rfl) | (refine opCallI_gv (by simp only [go_sem, beq_self_eq_true, bne_self_eq_false, l1, n2, b1, Ret_eq Try.results6]; first | done | rfl) (h2) ?_; rintro _ rfl) | (refine opCallI_rd (by simp only [go_sem, beq_self_eq_true, bne_self_eq_false, l1, n2, b1, Ret_eq Try.results6]; first | done | rfl) (h3) (by rintro _ rfl; rfl) ?_; rintro _ rfl) | (refine opCallI_gv (by simp only [go_sem, beq_self_eq_true, bne_self_eq_false, l1, n2, b1, Ret_eq Try.results6]; first | done | rfl) (h3) ?_; rintro _ rfl) | fail)
      refine awpI_for l.length (fun k => True) (fun k => [(68, .v (.int .i64 k))]) (fun k => [(65, ⟨40, 0, kvT (keysOf l k)⟩)]) [0, 1, 5, 6, 8, 10, 66, 67] [] _ (Weak.refl _) trivial ?_ ?_ ?_
      · simp only [go_sem, Ret_eq Try.results6]
      · simp only [go_sem, keysOf, kvT_nil, Ret_eq Try.results6]
      · intro k s hk _ hs
        simp only [go_sem, Ret_eq Try.results6] at hs
        have hkl := keysOf_length (l := l) k
        by_cases hka : k < l.length
        · repeat' (first | simp only [go_sem, hs, List.length_map, Ret_eq Try.results6] | simp (disch := omega) only [arith, IntKind.bits, capMax, fill_len, elt_fill] | (with_reducible refine condI_beq (fun hq hqb => ?_) (fun hq hqb => ?_) <;> simp only [KP_mk, hqb]) | (with_reducible refine condI_bne (fun hq hqb => ?_) (fun hq hqb => ?_) <;> simp only [KP_mk, hqb]) | (with_reducible refine condI_dec (fun hq hqb => ?_) (fun hq hqb => ?_) <;> simp only [KP_mk, hqb]) | (with_reducible refine condI_b (fun hqb => ?_) (fun hqb => ?_) <;> simp only [KP_mk, hqb]) | refine RetO_calc Try.results6 ?_ | refine RetL_calc Try.results6 rfl ?_ | (refine Again.up (by omega) ?_ ?_) | exact trivial | fail)
        · obtain rfl : k = l.length := by omega
          repeat' (first | simp only [go_sem, hs, Ret_eq Try.results6] | simp (disch := omega) only [arith, IntKind.bits, capMax, fill_len, elt_fill] | (with_reducible refine condI_beq (fun hq hqb => ?_) (fun hq hqb => ?_) <;> simp only [KP_mk, hqb]) | (with_reducible refine condI_bne (fun hq hqb => ?_) (fun hq hqb => ?_) <;> simp only [KP_mk, hqb]) | (with_reducible refine condI_dec (fun hq hqb => ?_) (fun hq hqb => ?_) <;> simp only [KP_mk, hqb]) | (with_reducible refine condI_b (fun hqb => ?_) (fun hqb => ?_) <;> simp only [KP_mk, hqb]) | refine RetO_calc Try.results6 ?_ | refine RetL_calc Try.results6 rfl ?_ | (refine Again.up (by omega) ?_ ?_) | exact trivial | fail)
          have hne : (n : Int) ≠ 0 := by omega
          have d1 : (l.length : Int) / (n : Int) = ((l.length / n : Nat) : Int) := (Int.natCast_ediv _ _).symm
          have d2 : ((l.length : Int) + (n : Int) - 1) / (n : Int) = (((l.length + n - 1) / n : Nat) : Int) := by
            rw [Int.natCast_ediv]; congr 1; omega
          have d3 : l.length / n ≤ l.length := Nat.div_le_self _ _
          have d4 : (l.length + n - 1) / n ≤ l.length + n - 1 := Nat.div_le_self _ _
          have d5 : (0 : Int) ≤ ((l.length / n : Nat) : Int) := Int.natCast_nonneg _
          have d6 : (0 : Int) ≤ (((l.length + n - 1) / n : Nat) : Int) := Int.natCast_nonneg _
          have w1 : IntKind.i64.wrap ((l.length : Int) / (n : Int)) = ((l.length / n : Nat) : Int) := by
            rw [d1]; exact IntWalk.i64_in _ (by omega)
          have w2 : IntKind.i64.wrap (((l.length : Int) + (n : Int) - 1) / (n : Int)) = (((l.length + n - 1) / n : Nat) : Int) := by
            rw [d2]; exact IntWalk.i64_in _ (by omega)
          refine awpI_for n (fun k => True) (fun k => [(13, .v (.int .i64 (sumTo C k))), (77, .v (.int .i64 k))]) (fun _ => []) [0, 1, 5, 6, 10, 75, 76] [65] _ (Weak.refl _) trivial ?_ ?_ ?_
          · simp only [go_sem, hs, sumTo, Ret_eq Try.results6]
          · simp only [go_sem, hs, Ret_eq Try.results6]
          · intro k s2 hk2 _ hs2
            simp only [go_sem, hs, Ret_eq Try.results6] at hs2
            by_cases hkb : k < n
            · have e2 : sumTo C (k + 1) = sumTo C k + C.getD k 0 := rfl
              have b2 := hbd (k + 1) (by omega)
              have b0 := hbd k (by omega)
              rw [e2] at b2
              have b3 := hr1 k hkb
              by_cases hno : (keysOf l l.length).length = l.length
              · have hnd := keysOf_all l.length hno (Nat.le_refl _)
                rw [List.take_length] at hnd
                have b4 := hev hnd k hkb
                repeat' (first | simp only [go_sem, hs, hs2, e2, w1, w2, hno, n2, beq_self_eq_true, List.length_map, Ret_eq Try.results6] | simp (disch := omega) only [arith, IntKind.bits, capMax, fill_len, elt_fill] | (with_reducible refine condI_beq (fun hq hqb => ?_) (fun hq hqb => ?_) <;> simp only [KP_mk, hqb]) | (with_reducible refine condI_bne (fun hq hqb => ?_) (fun hq hqb => ?_) <;> simp only [KP_mk, hqb]) | (with_reducible refine condI_dec (fun hq hqb => ?_) (fun hq hqb => ?_) <;> simp only [KP_mk, hqb]) | (with_reducible refine condI_b (fun hqb => ?_) (fun hqb => ?_) <;> simp only [KP_mk, hqb]) | refine RetO_calc Try.results6 ?_ | refine RetL_calc Try.results6 rfl ?_ | (refine Again.up (by omega) ?_ ?_) | exact trivial | fail)
                all_goals omega
              · have hno2 : (((keysOf l l.length).length : Int) == (l.length : Int)) = false := beq_eq_false_iff_ne.2 (by omega)
                repeat' (first | simp only [go_sem, hs, hs2, e2, w1, w2, hno2, n2, List.length_map, Ret_eq Try.results6] | simp (disch := omega) only [arith, IntKind.bits, capMax, fill_len, elt_fill] | (with_reducible refine condI_beq (fun hq hqb => ?_) (fun hq hqb => ?_) <;> simp only [KP_mk, hqb]) | (with_reducible refine condI_bne (fun hq hqb => ?_) (fun hq hqb => ?_) <;> simp only [KP_mk, hqb]) | (with_reducible refine condI_dec (fun hq hqb => ?_) (fun hq hqb => ?_) <;> simp only [KP_mk, hqb]) | (with_reducible refine condI_b (fun hqb => ?_) (fun hqb => ?_) <;> simp only [KP_mk, hqb]) | refine RetO_calc Try.results6 ?_ | refine RetL_calc Try.results6 rfl ?_ | (refine Again.up (by omega) ?_ ?_) | exact trivial | fail)
                all_goals skip
            · obtain rfl : k = n := by omega
              rw [hall] at hs2
              repeat' (first | simp only [go_sem, hs, hs2, n2, Ret_eq Try.results6] | simp (disch := omega) only [arith, IntKind.bits, capMax, fill_len, elt_fill] | (with_reducible refine condI_beq (fun hq hqb => ?_) (fun hq hqb => ?_) <;> simp only [KP_mk, hqb]) | (with_reducible refine condI_bne (fun hq hqb => ?_) (fun hq hqb => ?_) <;> simp only [KP_mk, hqb]) | (with_reducible refine condI_dec (fun hq hqb => ?_) (fun hq hqb => ?_) <;> simp only [KP_mk, hqb]) | (with_reducible refine condI_b (fun hqb => ?_) (fun hqb => ?_) <;> simp only [KP_mk, hqb]) | refine RetO_calc Try.results6 ?_ | refine RetL_calc Try.results6 rfl ?_ | (refine Again.up (by omega) ?_ ?_) | exact trivial | fail)
              refine awpI_for (k - 1) (fun k => True) (fun k => [(111, .v (.int .i64 k))]) (fun _ => []) [0, 5, 10, 13, 109, 110] [65] _ (Weak.refl _) trivial ?_ ?_ ?_
              · simp only [go_sem, hs, hs2, Ret_eq Try.results6]
              · simp only [go_sem, hs, hs2, Ret_eq Try.results6]
              · intro j s3 hj _ hs3
                simp only [go_sem, hs, hs2, Ret_eq Try.results6] at hs3
                by_cases hjb : j < k - 1
                · have hm := hmem j hjb c4
                  have hin : F.getD j 0 ∈ keysOf l l.length := by
                    obtain ⟨i, hi, e⟩ := List.mem_iff_getElem.1 hm
                    exact (keysOf_mem _).2 ⟨i, hi, by rw [← e]; simp [List.getD, hi]⟩
                  have hf := kvT_find (F.getD j 0) (keysOf l l.length)
                  rw [if_pos hin] at hf
                  repeat' (first | simp only [go_sem, hs, hs2, hs3, l1, hf, Ret_eq Try.results6] | simp (disch := omega) only [arith, IntKind.bits, capMax, fill_len, elt_fill] | (with_reducible refine condI_beq (fun hq hqb => ?_) (fun hq hqb => ?_) <;> simp only [KP_mk, hqb]) | (with_reducible refine condI_bne (fun hq hqb => ?_) (fun hq hqb => ?_) <;> simp only [KP_mk, hqb]) | (with_reducible refine condI_dec (fun hq hqb => ?_) (fun hq hqb => ?_) <;> simp only [KP_mk, hqb]) | (with_reducible refine condI_b (fun hqb => ?_) (fun hqb => ?_) <;> simp only [KP_mk, hqb]) | refine RetO_calc Try.results6 ?_ | refine RetL_calc Try.results6 rfl ?_ | (refine Again.up (by omega) ?_ ?_) | exact trivial | fail)
                · obtain rfl : j = k - 1 := by omega
                  repeat' (first | simp only [go_sem, hs, hs2, hs3, l1, b1, beq_self_eq_true, Ret_eq Try.results6] | simp (disch := omega) only [arith, IntKind.bits, capMax, fill_len, elt_fill] | (with_reducible refine condI_beq (fun hq hqb => ?_) (fun hq hqb => ?_) <;> simp only [KP_mk, hqb]) | (with_reducible refine condI_bne (fun hq hqb => ?_) (fun hq hqb => ?_) <;> simp only [KP_mk, hqb]) | (with_reducible refine condI_dec (fun hq hqb => ?_) (fun hq hqb => ?_) <;> simp only [KP_mk, hqb]) | (with_reducible refine condI_b (fun hqb => ?_) (fun hqb => ?_) <;> simp only [KP_mk, hqb]) | refine RetO_calc Try.results6 ?_ | refine RetL_calc Try.results6 rfl ?_ | (refine Again.up (by omega) ?_ ?_) | exact trivial | fail)
    · have e1 : rkOut l cells = [] := if_neg h
      rw [e1, ints_nil] at h1
      have hb : (rkE l cells == 0) = false := beq_eq_false_iff_ne.2 h
      have hb2 : (rkE l cells != 0) = true := by rw [bne, hb]; rfl
      generalize rkE l cells = E at *
      refine Fun.of_awpI Try.func6 rfl cal6 Try.ntmps6 (by simp) fun hwf => ?_
      simp only [D.wfs, D.wf, ints_length, ints_wfs, rows_length, rows_wfs, capMax, and_true, true_and] at hwf
      repeat' (first | simp only [go_sem, beq_self_eq_true, hb, hb2, Ret_eq Try.results6] | simp (disch := omega) only [arith, IntKind.bits, capMax, fill_len, elt_fill] | (with_reducible refine condI_beq (fun hq hqb => ?_) (fun hq hqb => ?_) <;> simp only [KP_mk, hqb]) | (with_reducible refine condI_bne (fun hq hqb => ?_) (fun hq hqb => ?_) <;> simp only [KP_mk, hqb]) | (with_reducible refine condI_dec (fun hq hqb => ?_) (fun hq hqb => ?_) <;> simp only [KP_mk, hqb]) | (with_reducible refine condI_b (fun hqb => ?_) (fun hqb => ?_) <;> simp only [KP_mk, hqb]) | refine RetO_calc Try.results6 ?_ | refine RetL_calc Try.results6 rfl ?_ | (refine Again.up (by omega) ?_ ?_) | exact trivial | (refine opCallI_rd (by simp only [go_sem, beq_self_eq_true, hb, hb2, Ret_eq Try.results6]; first | done | rfl) (hlv) (by rintro _ rfl; rfl) ?_; rintro _ rfl) | (refine opCallI_gv (by simp only [go_sem, beq_self_eq_true, hb, hb2, Ret_eq Try.results6]; first | done | rfl) (hlv) ?_; rintro _ rfl) | (refine opCallI_rd (by simp only [go_sem, beq_self_eq_true, hb, hb2, Ret_eq Try.results6]; first | done | rfl) (h1) (by rintro _ rfl; rfl) ?_; rintro _ rfl) | (refine opCallI_gv (by simp only [go_sem, beq_self_eq_true, hb, hb2, Ret_eq Try.results6]; first | done | rfl) (h1) ?_; rintro _ rfl) | fail)
  · skip
    refine Fun.of_awpI Try.func6 rfl cal6 Try.ntmps6 (by simp) fun hwf => ?_
    simp only [D.wfs, D.wf, ints_length, ints_wfs, rows_length, rows_wfs, capMax, and_true, true_and] at hwf
    repeat' (first | simp only [go_sem, Ret_eq Try.results6] | simp (disch := omega) only [arith, IntKind.bits, capMax, fill_len, elt_fill] | (with_reducible refine condI_beq (fun hq hqb => ?_) (fun hq hqb => ?_) <;> simp only [KP_mk, hqb]) | (with_reducible refine condI_bne (fun hq hqb => ?_) (fun hq hqb => ?_) <;> simp only [KP_mk, hqb]) | (with_reducible refine condI_dec (fun hq hqb => ?_) (fun hq hqb => ?_) <;> simp only [KP_mk, hqb]) | (with_reducible refine condI_b (fun hqb => ?_) (fun hqb => ?_) <;> simp only [KP_mk, hqb]) | refine RetO_calc Try.results6 ?_ | refine RetL_calc Try.results6 rfl ?_ | (refine Again.up (by omega) ?_ ?_) | exact trivial | (refine opCallI_rd (by simp only [go_sem, Ret_eq Try.results6]; first | done | rfl) (hlv) (by rintro _ rfl; rfl) ?_; rintro _ rfl) | (refine opCallI_gv (by simp only [go_sem, Ret_eq Try.results6]; first | done | rfl) (hlv) ?_; rintro _ rfl) | fail)
end Go.Proofs.Ytpkampecmlpfmaa.T
