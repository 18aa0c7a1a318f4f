import Derived.Test.YtpkampecmlpfmaaLE
import Derived.Test.YtpkampecmlpfmaaERkM
import Derived.Test.YtpkampecmlpfmaaEQRank
set_option linter.unusedSimpArgs false
set_option linter.unusedVariables false
/- Lists looked through, and counted; walked. -/
namespace Go.Proofs.Ytpkampecmlpfmaa.T
open Go Go.VL Go.Proofs
set_option maxRecDepth 100000
set_option maxHeartbeats 8000000
theorem any16_take {p : Int → Bool} {l : List Int} {k : Nat} (h : k < l.length) : (l.take (k + 1)).any p = ((l.take k).any p || p (l.getD k 0)) := by
  rw [take_snoc (d := 0) h, List.any_append]; simp
theorem any16_of {p : Int → Bool} {l : List Int} {k : Nat} (h : k < l.length) (hp : p (l.getD k 0) = true) : l.any p = true := by
  rw [List.any_eq_true]
  exact ⟨_, getD_mem h, hp⟩

theorem indexFunc16_fun (l : List Int) (p : Int → Bool) (g : FuncId) (hg : ∀ x : Int, Fun Try.prog g [.v (.int .i16 x)] fun r => r = .v (.bool (p x))) :
    Fun Try.prog 136 [.lst (ints .i16 l), .clos (.func g) []] fun r => ∃ z : Int, r = .v (.int .i64 z) ∧ (0 ≤ z ↔ l.any p = true) := by
  refine Fun.of_awpI Try.func136 rfl cal136 Try.ntmps136 (by simp) fun hwf => ?_
  simp only [D.wfs, D.wf, ints_length, ints_wfs, rows_length, rows_wfs, capMax, and_true, true_and] at hwf
  repeat' (first | simp only [go_sem, Ret_eq Try.results136] | simp (disch := omega) only [arith, IntKind.bits, capMax, fill_len, elt_fill] | (with_reducible refine condI_beq (fun hq hqb => ?_) (fun hq hqb => ?_) <;> simp only [KP_mk, hqb]) | (with_reducible refine condI_bne (fun hq hqb => ?_) (fun hq hqb => ?_) <;> simp only [KP_mk, hqb]) | (with_reducible refine condI_dec (fun hq hqb => ?_) (fun hq hqb => ?_) <;> simp only [KP_mk, hqb]) | (with_reducible refine condI_b (fun hqb => ?_) (fun hqb => ?_) <;> simp only [KP_mk, hqb]) | refine RetO_calc Try.results136 ?_ | refine RetL_calc Try.results136 rfl ?_ | (refine Again.up (by omega) ?_ ?_) | exact trivial | fail)
  refine awpI_for l.length (fun k => (l.take k).any p = false) (fun k => [(8, .v (.int .i64 k))]) (fun _ => []) [0, 1, 7] [] _ (Weak.refl _) (by simp) ?_ ?_ ?_
  · simp only [go_sem, Ret_eq Try.results136]
  · simp only [go_sem, Ret_eq Try.results136]
  · intro k s hk hQ hs
    simp only [go_sem, Ret_eq Try.results136] at hs
    by_cases hka : k < l.length
    · have hgk := hg (l.getD k 0)
      have e := any16_take (p := p) hka
      rw [hQ, Bool.false_or] at e
      have e2 := any16_of (p := p) hka
      generalize p (l.getD k 0) = b at *
      cases b
      · repeat' (first | simp only [go_sem, hs, Ret_eq Try.results136] | simp (disch := omega) only [arith, IntKind.bits, capMax, fill_len, elt_fill] | (with_reducible refine condI_beq (fun hq hqb => ?_) (fun hq hqb => ?_) <;> simp only [KP_mk, hqb]) | (with_reducible refine condI_bne (fun hq hqb => ?_) (fun hq hqb => ?_) <;> simp only [KP_mk, hqb]) | (with_reducible refine condI_dec (fun hq hqb => ?_) (fun hq hqb => ?_) <;> simp only [KP_mk, hqb]) | (with_reducible refine condI_b (fun hqb => ?_) (fun hqb => ?_) <;> simp only [KP_mk, hqb]) | refine RetO_calc Try.results136 ?_ | refine RetL_calc Try.results136 rfl ?_ | (refine Again.up (by omega) ?_ ?_) | exact trivial | (refine opCallI_rd (by simp only [go_sem, hs, Ret_eq Try.results136]; first | done | rfl) (hgk) (by rintro _ rfl; rfl) ?_; rintro _ rfl) | (refine opCallI_gv (by simp only [go_sem, hs, Ret_eq Try.results136]; first | done | rfl) (hgk) ?_; rintro _ rfl) | fail)
        exact e
      · repeat' (first | simp only [go_sem, hs, Ret_eq Try.results136] | simp (disch := omega) only [arith, IntKind.bits, capMax, fill_len, elt_fill] | (with_reducible refine condI_beq (fun hq hqb => ?_) (fun hq hqb => ?_) <;> simp only [KP_mk, hqb]) | (with_reducible refine condI_bne (fun hq hqb => ?_) (fun hq hqb => ?_) <;> simp only [KP_mk, hqb]) | (with_reducible refine condI_dec (fun hq hqb => ?_) (fun hq hqb => ?_) <;> simp only [KP_mk, hqb]) | (with_reducible refine condI_b (fun hqb => ?_) (fun hqb => ?_) <;> simp only [KP_mk, hqb]) | refine RetO_calc Try.results136 ?_ | refine RetL_calc Try.results136 rfl ?_ | (refine Again.up (by omega) ?_ ?_) | exact trivial | (refine opCallI_rd (by simp only [go_sem, hs, Ret_eq Try.results136]; first | done | rfl) (hgk) (by rintro _ rfl; rfl) ?_; rintro _ rfl) | (refine opCallI_gv (by simp only [go_sem, hs, Ret_eq Try.results136]; first | done | rfl) (hgk) ?_; rintro _ rfl) | fail)
        exact ⟨_, rfl, fun _ => e2 rfl, fun _ => by omega⟩
    · obtain rfl : k = l.length := by omega
      rw [List.take_length] at hQ
      repeat' (first | simp only [go_sem, hs, Ret_eq Try.results136] | simp (disch := omega) only [arith, IntKind.bits, capMax, fill_len, elt_fill] | (with_reducible refine condI_beq (fun hq hqb => ?_) (fun hq hqb => ?_) <;> simp only [KP_mk, hqb]) | (with_reducible refine condI_bne (fun hq hqb => ?_) (fun hq hqb => ?_) <;> simp only [KP_mk, hqb]) | (with_reducible refine condI_dec (fun hq hqb => ?_) (fun hq hqb => ?_) <;> simp only [KP_mk, hqb]) | (with_reducible refine condI_b (fun hqb => ?_) (fun hqb => ?_) <;> simp only [KP_mk, hqb]) | refine RetO_calc Try.results136 ?_ | refine RetL_calc Try.results136 rfl ?_ | (refine Again.up (by omega) ?_ ?_) | exact trivial | fail)
      exact ⟨_, rfl, fun h => absurd h (by decide), fun h => by rw [hQ] at h; cases h⟩

theorem containsFunc16_fun (l : List Int) (p : Int → Bool) (g : FuncId) (hg : ∀ x : Int, Fun Try.prog g [.v (.int .i16 x)] fun r => r = .v (.bool (p x))) :
    Fun Try.prog 87 [.lst (ints .i16 l), .clos (.func g) []] fun r => r = .v (.bool (l.any p)) := by
  refine Fun.of_awpI Try.func87 rfl cal87 Try.ntmps87 (by simp) fun hwf => ?_
  simp only [D.wfs, D.wf, ints_length, ints_wfs, rows_length, rows_wfs, capMax, and_true, true_and] at hwf
  repeat' (first | simp only [go_sem, Ret_eq Try.results87] | simp (disch := omega) only [arith, IntKind.bits, capMax, fill_len, elt_fill] | (with_reducible refine condI_beq (fun hq hqb => ?_) (fun hq hqb => ?_) <;> simp only [KP_mk, hqb]) | (with_reducible refine condI_bne (fun hq hqb => ?_) (fun hq hqb => ?_) <;> simp only [KP_mk, hqb]) | (with_reducible refine condI_dec (fun hq hqb => ?_) (fun hq hqb => ?_) <;> simp only [KP_mk, hqb]) | (with_reducible refine condI_b (fun hqb => ?_) (fun hqb => ?_) <;> simp only [KP_mk, hqb]) | refine RetO_calc Try.results87 ?_ | refine RetL_calc Try.results87 rfl ?_ | (refine Again.up (by omega) ?_ ?_) | exact trivial | (refine opCallI_rd (by simp only [go_sem, Ret_eq Try.results87]; first | done | rfl) (indexFunc16_fun l p g hg) (by rintro _ rfl; rfl) ?_; rintro _ ⟨z, rfl, hz⟩) | (refine opCallI_gv (by simp only [go_sem, Ret_eq Try.results87]; first | done | rfl) (indexFunc16_fun l p g hg) ?_; rintro _ ⟨z, rfl, hz⟩) | fail)
  rw [Bool.eq_iff_iff, decide_eq_true_eq]
  omega

theorem count_fun (c l : List Int) (hl : l.length ≤ 60000) (hcl : c.length ≤ 60000) : Fun Try.prog 29 [.lst (ints .i16 c), .lst (ints .i16 l)] fun r => r = .tup [.lst (ints .i64 (cntOut c l)), .v (.int .i64 (cntE c l))] := by
  have hch := rankCheck_fun c
  have key : ∀ e : Int, cntE c l = e → (cntE c l = e ∧ cntOut c l = if e = 0 then cntL c l else []) := fun e h => ⟨h, by unfold cntOut; rw [h]⟩
  by_cases h1 : 4096 < l.length
  · obtain ⟨k1, k2⟩ := key 3 (if_pos h1)
    rw [k1, k2, if_neg (by decide)]
    refine Fun.of_awpI Try.func29 rfl cal29 Try.ntmps29 (by simp) fun hwf => ?_
    simp only [D.wfs, D.wf, ints_length, ints_wfs, rows_length, rows_wfs, capMax, and_true, true_and] at hwf
    repeat' (first | simp only [go_sem, Ret_eq Try.results29] | simp (disch := omega) only [arith, IntKind.bits, capMax, fill_len, elt_fill] | (with_reducible refine condI_beq (fun hq hqb => ?_) (fun hq hqb => ?_) <;> simp only [KP_mk, hqb]) | (with_reducible refine condI_bne (fun hq hqb => ?_) (fun hq hqb => ?_) <;> simp only [KP_mk, hqb]) | (with_reducible refine condI_dec (fun hq hqb => ?_) (fun hq hqb => ?_) <;> simp only [KP_mk, hqb]) | (with_reducible refine condI_b (fun hqb => ?_) (fun hqb => ?_) <;> simp only [KP_mk, hqb]) | refine RetO_calc Try.results29 ?_ | refine RetL_calc Try.results29 rfl ?_ | (refine Again.up (by omega) ?_ ?_) | exact trivial | fail)
  · have ku : cntE c l = if cutsErr c ≠ 0 ∨ l.any oddB = true then 1 else 0 := if_neg h1
    by_cases h2 : cutsErr c = 0
    · rw [h2] at hch
      by_cases h3 : l.any oddB = true
      · obtain ⟨k1, k2⟩ := key 1 (ku.trans (if_pos (.inr h3)))
        rw [k1, k2, if_neg (by decide)]
        refine Fun.of_awpI Try.func29 rfl cal29 Try.ntmps29 (by simp) fun hwf => ?_
        simp only [D.wfs, D.wf, ints_length, ints_wfs, rows_length, rows_wfs, capMax, and_true, true_and] at hwf
        repeat' (first | simp only [go_sem, Int.toNat_natCast, Ret_eq Try.results29] | simp (disch := omega) only [arith, IntKind.bits, capMax, fill_len, elt_fill] | (with_reducible refine condI_beq (fun hq hqb => ?_) (fun hq hqb => ?_) <;> simp only [KP_mk, hqb]) | (with_reducible refine condI_bne (fun hq hqb => ?_) (fun hq hqb => ?_) <;> simp only [KP_mk, hqb]) | (with_reducible refine condI_dec (fun hq hqb => ?_) (fun hq hqb => ?_) <;> simp only [KP_mk, hqb]) | (with_reducible refine condI_b (fun hqb => ?_) (fun hqb => ?_) <;> simp only [KP_mk, hqb]) | refine RetO_calc Try.results29 ?_ | refine RetL_calc Try.results29 rfl ?_ | (refine Again.up (by omega) ?_ ?_) | exact trivial | (refine opCallI_rd (by simp only [go_sem, Int.toNat_natCast, Ret_eq Try.results29]; first | done | rfl) (hch) (by rintro _ rfl; rfl) ?_; rintro _ rfl) | (refine opCallI_gv (by simp only [go_sem, Int.toNat_natCast, Ret_eq Try.results29]; first | done | rfl) (hch) ?_; rintro _ rfl) | fail)
        refine awpI_for l.length (fun k => (l.take k).any oddB = false) (fun k => [(25, .v (.int .i64 k))]) (fun k => [(22, ⟨3, 1, ints .i64 (cntL c (l.take k))⟩)]) [0, 6, 23, 24] [] _ (Weak.refl _) (by simp) ?_ ?_ ?_
        · simp only [go_sem, Ret_eq Try.results29]
        · simp only [go_sem, List.take_zero, cntL_nil, Ret_eq Try.results29]
        · intro k s hk hQ hs
          simp only [go_sem, Ret_eq Try.results29] at hs
          by_cases hka : k < l.length
          · have hce := rankCell_fun c (l.getD k 0)
            have e := any16_take (p := oddB) hka
            rw [hQ, Bool.false_or] at e
            have hl2 := cntL_length (c := c) (l := l.take k)
            have hcle := cellOf_le c (l.getD k 0)
            by_cases q : -32767 ≤ l.getD k 0
            · obtain ⟨c1, c2⟩ := cell_ok h2 q
              rw [c1, c2] at hce
              have es := cntL_snoc (c := c) (l := l.take k) (x := l.getD k 0)
              rw [← take_snoc (d := 0) hka] at es
              have hb : 0 ≤ (cntL c (l.take k)).getD (cellOf c (l.getD k 0)) 0 ∧ (cntL c (l.take k)).getD (cellOf c (l.getD k 0)) 0 ≤ 60000 := by
                rw [cntL_at (by omega)]
                have := List.countP_le_length (p := fun x => cellOf c x == cellOf c (l.getD k 0)) (l := l.take k)
                rw [List.length_take] at this
                omega
              have hob : oddB (l.getD k 0) = false := by unfold oddB; exact decide_eq_false (by omega)
              repeat' (first | simp only [go_sem, hs, hl2, es, Ret_eq Try.results29] | simp (disch := omega) only [arith, IntKind.bits, capMax, fill_len, elt_fill] | (with_reducible refine condI_beq (fun hq hqb => ?_) (fun hq hqb => ?_) <;> simp only [KP_mk, hqb]) | (with_reducible refine condI_bne (fun hq hqb => ?_) (fun hq hqb => ?_) <;> simp only [KP_mk, hqb]) | (with_reducible refine condI_dec (fun hq hqb => ?_) (fun hq hqb => ?_) <;> simp only [KP_mk, hqb]) | (with_reducible refine condI_b (fun hqb => ?_) (fun hqb => ?_) <;> simp only [KP_mk, hqb]) | refine RetO_calc Try.results29 ?_ | refine RetL_calc Try.results29 rfl ?_ | (refine Again.up (by omega) ?_ ?_) | exact trivial | (refine opCallI_rd (by simp only [go_sem, hs, hl2, es, Ret_eq Try.results29]; first | done | rfl) (hce) (by rintro _ rfl; rfl) ?_; rintro _ rfl) | (refine opCallI_gv (by simp only [go_sem, hs, hl2, es, Ret_eq Try.results29]; first | done | rfl) (hce) ?_; rintro _ rfl) | fail)
              rw [e, hob]
            · obtain ⟨c1, c2⟩ := cell_bad (c := c) (x := l.getD k 0) (fun z => q z.2)
              rw [c1, c2] at hce
              repeat' (first | simp only [go_sem, hs, ints_nil, Ret_eq Try.results29] | simp (disch := omega) only [arith, IntKind.bits, capMax, fill_len, elt_fill] | (with_reducible refine condI_beq (fun hq hqb => ?_) (fun hq hqb => ?_) <;> simp only [KP_mk, hqb]) | (with_reducible refine condI_bne (fun hq hqb => ?_) (fun hq hqb => ?_) <;> simp only [KP_mk, hqb]) | (with_reducible refine condI_dec (fun hq hqb => ?_) (fun hq hqb => ?_) <;> simp only [KP_mk, hqb]) | (with_reducible refine condI_b (fun hqb => ?_) (fun hqb => ?_) <;> simp only [KP_mk, hqb]) | refine RetO_calc Try.results29 ?_ | refine RetL_calc Try.results29 rfl ?_ | (refine Again.up (by omega) ?_ ?_) | exact trivial | (refine opCallI_rd (by simp only [go_sem, hs, ints_nil, Ret_eq Try.results29]; first | done | rfl) (hce) (by rintro _ rfl; rfl) ?_; rintro _ rfl) | (refine opCallI_gv (by simp only [go_sem, hs, ints_nil, Ret_eq Try.results29]; first | done | rfl) (hce) ?_; rintro _ rfl) | fail)
          · obtain rfl : k = l.length := by omega
            rw [List.take_length, h3] at hQ
            cases hQ
      · have h3' : l.any oddB = false := by simpa using h3
        obtain ⟨k1, k2⟩ := key 0 (ku.trans (if_neg (fun z => z.elim (fun z => z h2) h3)))
        rw [k1, k2, if_pos rfl]
        refine Fun.of_awpI Try.func29 rfl cal29 Try.ntmps29 (by simp) fun hwf => ?_
        simp only [D.wfs, D.wf, ints_length, ints_wfs, rows_length, rows_wfs, capMax, and_true, true_and] at hwf
        repeat' (first | simp only [go_sem, Int.toNat_natCast, Ret_eq Try.results29] | simp (disch := omega) only [arith, IntKind.bits, capMax, fill_len, elt_fill] | (with_reducible refine condI_beq (fun hq hqb => ?_) (fun hq hqb => ?_) <;> simp only [KP_mk, hqb]) | (with_reducible refine condI_bne (fun hq hqb => ?_) (fun hq hqb => ?_) <;> simp only [KP_mk, hqb]) | (with_reducible refine condI_dec (fun hq hqb => ?_) (fun hq hqb => ?_) <;> simp only [KP_mk, hqb]) | (with_reducible refine condI_b (fun hqb => ?_) (fun hqb => ?_) <;> simp only [KP_mk, hqb]) | refine RetO_calc Try.results29 ?_ | refine RetL_calc Try.results29 rfl ?_ | (refine Again.up (by omega) ?_ ?_) | exact trivial | (refine opCallI_rd (by simp only [go_sem, Int.toNat_natCast, Ret_eq Try.results29]; first | done | rfl) (hch) (by rintro _ rfl; rfl) ?_; rintro _ rfl) | (refine opCallI_gv (by simp only [go_sem, Int.toNat_natCast, Ret_eq Try.results29]; first | done | rfl) (hch) ?_; rintro _ rfl) | fail)
        refine awpI_for l.length (fun k => True) (fun k => [(25, .v (.int .i64 k))]) (fun k => [(22, ⟨3, 1, ints .i64 (cntL c (l.take k))⟩)]) [0, 6, 23, 24] [] _ (Weak.refl _) trivial ?_ ?_ ?_
        · simp only [go_sem, Ret_eq Try.results29]
        · simp only [go_sem, List.take_zero, cntL_nil, Ret_eq Try.results29]
        · intro k s hk _ hs
          simp only [go_sem, Ret_eq Try.results29] at hs
          have hl2 := cntL_length (c := c) (l := l.take k)
          by_cases hka : k < l.length
          · have hce := rankCell_fun c (l.getD k 0)
            have hcle := cellOf_le c (l.getD k 0)
            have q : -32767 ≤ l.getD k 0 := by
              have := List.any_eq_false.1 h3' _ (getD_mem (d := 0) hka)
              unfold oddB at this
              rw [decide_eq_true_eq] at this; omega
            obtain ⟨c1, c2⟩ := cell_ok h2 q
            rw [c1, c2] at hce
            have es := cntL_snoc (c := c) (l := l.take k) (x := l.getD k 0)
            rw [← take_snoc (d := 0) hka] at es
            have hb : 0 ≤ (cntL c (l.take k)).getD (cellOf c (l.getD k 0)) 0 ∧ (cntL c (l.take k)).getD (cellOf c (l.getD k 0)) 0 ≤ 60000 := by
              rw [cntL_at (by omega)]
              have := List.countP_le_length (p := fun x => cellOf c x == cellOf c (l.getD k 0)) (l := l.take k)
              rw [List.length_take] at this
              omega
            repeat' (first | simp only [go_sem, hs, hl2, es, Ret_eq Try.results29] | simp (disch := omega) only [arith, IntKind.bits, capMax, fill_len, elt_fill] | (with_reducible refine condI_beq (fun hq hqb => ?_) (fun hq hqb => ?_) <;> simp only [KP_mk, hqb]) | (with_reducible refine condI_bne (fun hq hqb => ?_) (fun hq hqb => ?_) <;> simp only [KP_mk, hqb]) | (with_reducible refine condI_dec (fun hq hqb => ?_) (fun hq hqb => ?_) <;> simp only [KP_mk, hqb]) | (with_reducible refine condI_b (fun hqb => ?_) (fun hqb => ?_) <;> simp only [KP_mk, hqb]) | refine RetO_calc Try.results29 ?_ | refine RetL_calc Try.results29 rfl ?_ | (refine Again.up (by omega) ?_ ?_) | exact trivial | (refine opCallI_rd (by simp only [go_sem, hs, hl2, es, Ret_eq Try.results29]; first | done | rfl) (hce) (by rintro _ rfl; rfl) ?_; rintro _ rfl) | (refine opCallI_gv (by simp only [go_sem, hs, hl2, es, Ret_eq Try.results29]; first | done | rfl) (hce) ?_; rintro _ rfl) | fail)
          · obtain rfl : k = l.length := by omega
            rw [List.take_length] at hs
            have hl3 := cntL_length (c := c) (l := l)
            have ht : (cntL c l).take (c.length + 1) = cntL c l := List.take_of_length_le (by omega)
            repeat' (first | simp only [go_sem, hs, hl3, ht, Ret_eq Try.results29] | simp (disch := omega) only [arith, IntKind.bits, capMax, fill_len, elt_fill] | (with_reducible refine condI_beq (fun hq hqb => ?_) (fun hq hqb => ?_) <;> simp only [KP_mk, hqb]) | (with_reducible refine condI_bne (fun hq hqb => ?_) (fun hq hqb => ?_) <;> simp only [KP_mk, hqb]) | (with_reducible refine condI_dec (fun hq hqb => ?_) (fun hq hqb => ?_) <;> simp only [KP_mk, hqb]) | (with_reducible refine condI_b (fun hqb => ?_) (fun hqb => ?_) <;> simp only [KP_mk, hqb]) | refine RetO_calc Try.results29 ?_ | refine RetL_calc Try.results29 rfl ?_ | (refine Again.up (by omega) ?_ ?_) | exact trivial | fail)
    · obtain ⟨k1, k2⟩ := key 1 (ku.trans (if_pos (.inl h2)))
      rw [k1, k2, if_neg (by decide)]
      have h2' : cutsErr c = 1 := cutsErr_one (fun z => h2 (cutsErr_zero.2 z))
      rw [h2'] at hch
      refine Fun.of_awpI Try.func29 rfl cal29 Try.ntmps29 (by simp) fun hwf => ?_
      simp only [D.wfs, D.wf, ints_length, ints_wfs, rows_length, rows_wfs, capMax, and_true, true_and] at hwf
      repeat' (first | simp only [go_sem, Ret_eq Try.results29] | simp (disch := omega) only [arith, IntKind.bits, capMax, fill_len, elt_fill] | (with_reducible refine condI_beq (fun hq hqb => ?_) (fun hq hqb => ?_) <;> simp only [KP_mk, hqb]) | (with_reducible refine condI_bne (fun hq hqb => ?_) (fun hq hqb => ?_) <;> simp only [KP_mk, hqb]) | (with_reducible refine condI_dec (fun hq hqb => ?_) (fun hq hqb => ?_) <;> simp only [KP_mk, hqb]) | (with_reducible refine condI_b (fun hqb => ?_) (fun hqb => ?_) <;> simp only [KP_mk, hqb]) | refine RetO_calc Try.results29 ?_ | refine RetL_calc Try.results29 rfl ?_ | (refine Again.up (by omega) ?_ ?_) | exact trivial | (refine opCallI_rd (by simp only [go_sem, Ret_eq Try.results29]; first | done | rfl) (hch) (by rintro _ rfl; rfl) ?_; rintro _ rfl) | (refine opCallI_gv (by simp only [go_sem, Ret_eq Try.results29]; first | done | rfl) (hch) ?_; rintro _ rfl) | fail)
end Go.Proofs.Ytpkampecmlpfmaa.T
