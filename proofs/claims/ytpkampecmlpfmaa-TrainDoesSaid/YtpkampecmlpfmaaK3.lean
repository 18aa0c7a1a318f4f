import Derived.Test.YtpkampecmlpfmaaK2
import Derived.RangeFuncGives
import Derived.OwnWalkIn
import Derived.TacticsInMore
import Derived.LoopNIn
import Derived.LoopIn
import Derived.Maps.AppendAt
import Derived.Shelf.Abstract
import Derived.Tactics2
set_option linter.unusedSimpArgs false
set_option linter.unusedVariables false
section
set_option linter.unusedSimpArgs false
set_option linter.unusedVariables false
/- The document's step, walked. -/
namespace Go.Proofs.Ytpkampecmlpfmaa.T
open Go Go.VL Go.Proofs
set_option maxRecDepth 100000
set_option maxHeartbeats 8000000
theorem lotsL_at {x b : Int} : ∀ {n k : Nat}, k < n → (lotsL x b n).getD k 0 = lotOf (nxt (nx x k)) b
  | 0, _, h => absurd h (Nat.not_lt_zero _)
  | n + 1, k, h => by
    rw [show lotsL x b (n + 1) = lotsL x b n ++ [lotOf (nxt (nx x n)) b] from rfl]
    have hl := lotsL_length x b n
    by_cases q : k < n
    · rw [← lotsL_at (x := x) (b := b) q]
      simp [List.getD, List.getElem?_append_left (show k < (lotsL x b n).length by omega)]
    · obtain rfl : k = n := by omega
      simp [List.getD, hl]
theorem funO_mono {P : Program} {f : FuncId} {args : List D} {R R' : D → Option Own → Prop} (h : FunO P f args R) (hR : ∀ r o, R r o → R' r o) : FunO P f args R' := by
  refine ⟨h.1, fun J w vs hJ hG hv => (h.2 J w vs hJ hG hv).mono ?_⟩
  rintro e w' ⟨y, r, o, h1, h2, h3⟩
  exact ⟨y, r, o, h1, hR r o h2, h3⟩

theorem refTCopy_own (x a : Int) (s : List (List Int)) (h1 : s.length ≤ 4096) (h3 : ∀ v ∈ s, v.length ≤ 500) : FunO Try.prog 79 [trainD x a s] fun r o => (s = [] ∧ r = .agg [.v (.int .u64 x), .v (.int .i64 a), .v (.slice none 0 0)] ∧ o = none) ∨ (s ≠ [] ∧ r = .agg [.v (.int .u64 x), .v (.int .i64 a), .ref 0 s.length] ∧ o = some ⟨46, 1, rows .i16 s⟩) := by
  refine FunO.of_awpI Try.func79 rfl cal79 Try.ntmps79 (by simp) fun hwf => ?_
  simp only [D.wfs, D.wf, ints_length, ints_wfs, rows_length, rows_wfs, capMax, and_true, true_and] at hwf
  repeat' (first | simp only [go_sem, Ret_eq Try.results79] | fail)
  refine awpI_for s.length (fun k => True) (fun k => [(14, .v (.int .i64 k))]) (fun k => match k with | 0 => [(3, ⟨99, 3, [.agg [.v (.int .u64 x), .v (.int .i64 a), .v (.slice none 0 0)]]⟩)] | k + 1 => [(3, ⟨99, 3, [.agg [.v (.int .u64 x), .v (.int .i64 a), .ref 23 (k + 1)]]⟩), (23, ⟨46, 1, rows .i16 (s.take (k + 1))⟩)]) [2, 3, 12, 13] [2] _ (Weak.refl _) trivial ?_ ?_ ?_
  · simp only [go_sem, Ret_eq Try.results79]
  · simp only [go_sem, Ret_eq Try.results79]
  · intro k st hk _ hs
    by_cases hka : k < s.length
    · have e := take_snoc (a := s) (d := []) hka
      have hcl := copy16_fun (s.getD k []) (by have := h3 _ (getD_mem (d := []) hka); omega)
      cases k with
      | zero =>
        simp only [go_sem, Ret_eq Try.results79] at hs
        repeat' (first | simp only [go_sem, hs, Ret_eq Try.results79] | simp (disch := omega) only [arith, IntKind.bits, capMax, fill_len, elt_fill] | (refine awpI_draw2 (id := 5) (.one false 2 (.fam 0 [3, 4] [21, 22] [20] (.fam 1 [3, 4] [21, 22] [20] (.only 3 (.only 4 (.only 5 (.one false 6 (.only 7 .done)))))))) mixed (by decide +kernel) (by decide +kernel) ?_) | (refine Again.up (by omega) ?_ ?_) | (refine opCallI_ownGv (by simp only [go_sem, hs, Ret_eq Try.results79]; first | done | rfl) (hcl) ?_; rintro _ _ ⟨rfl, rfl⟩) | fail)
        exact ⟨rfl, by rw [show List.take 1 s = _ from e]; rfl⟩
      | succ k =>
        simp only [go_sem, Ret_eq Try.results79] at hs
        have hlt : (s.take (k + 1)).length = k + 1 := by rw [List.length_take]; omega
        repeat' (first | simp only [go_sem, hs, e, hlt, List.length_append, Ret_eq Try.results79] | simp (disch := omega) only [arith, IntKind.bits, capMax, fill_len, elt_fill] | (refine awpI_draw2 (id := 5) (.one false 2 (.fam 0 [3, 4] [21, 22] [20] (.fam 1 [3, 4] [21, 22] [20] (.only 3 (.only 4 (.only 5 (.one false 6 (.only 7 .done)))))))) mixed (by decide +kernel) (by decide +kernel) ?_) | (refine Again.up (by omega) ?_ ?_) | (refine opCallI_ownGv (by simp only [go_sem, hs, e, hlt, List.length_append, Ret_eq Try.results79]; first | done | rfl) (hcl) ?_; rintro _ _ ⟨rfl, rfl⟩) | fail)
    · obtain rfl : k = s.length := by omega
      cases hcu : s.length with
      | zero =>
        rw [hcu] at hs
        simp only [go_sem, Ret_eq Try.results79] at hs
        repeat' (first | simp only [go_sem, hs, Ret_eq Try.results79] | refine RetO_calc Try.results79 ?_ | fail)
        all_goals first | exact .inl ⟨List.length_eq_zero_iff.1 hcu, rfl, rfl⟩ | exact List.length_eq_zero_iff.1 hcu | exact .inl (List.length_eq_zero_iff.1 hcu)
      | succ k =>
        rw [hcu] at hs
        simp only [go_sem, Ret_eq Try.results79] at hs
        have hta : s.take (k + 1) = s := List.take_of_length_le (by omega)
        have hne : s ≠ [] := fun q => by rw [q] at hcu; cases hcu
        repeat' (first | simp only [go_sem, hs, hta, hcu, Ret_eq Try.results79] | simp (disch := omega) only [arith, IntKind.bits, capMax, fill_len, elt_fill] | refine RetO_calc Try.results79 ?_ | fail)
        all_goals first | exact .inr ⟨hne, rfl, rfl⟩ | exact hne | exact .inr hne
/-- What is gathered so far, as it lies in memory. -/
def reObj (x a : Int) (s g : List (List Int)) : List (Nat × Own) :=
  match s, g with
  | [], [] => [(4, ⟨99, 3, [.agg [.v (.int .u64 x), .v (.int .i64 a), .v (.slice none 0 0)]]⟩)]
  | [], c :: r => [(4, ⟨99, 3, [.agg [.v (.int .u64 x), .v (.int .i64 a), .ref 69 (c :: r).length]]⟩), (69, ⟨46, 1, rows .i16 (c :: r)⟩)]
  | c :: r, g => [(4, ⟨99, 3, [.agg [.v (.int .u64 x), .v (.int .i64 a), .ref 30 (c :: (r ++ g)).length]]⟩), (30, ⟨46, 1, rows .i16 (c :: (r ++ g))⟩)]

theorem refStep_fun (x a : Int) (s : List (List Int)) (dim : Int) (ids : List Int) (vecs : List (List Int)) (budget all : Int) (hk : chkOk a s budget all) (ho : slotsOk dim ids vecs) (hl : s.length ≤ 4096) (hx : 0 ≤ x ∧ x < 18446744073709551616)
    (hv1 : ∀ c ∈ s, c.length ≤ 500) (hv2 : ∀ c ∈ vecs, c.length ≤ 500) :
    Fun Try.prog 81 [trainD x a s, slotsD dim ids vecs, .v (.int .i64 budget), .v (.int .i64 all)] fun r =>
      r = .tup [trainD (nx x (stepN a budget all)) (a + stepN a budget all) (s ++ gathered x ids vecs (stepN a budget all)), .v (.bool (decide (all ≤ a + stepN a budget all))), .v (.int .i64 0)] := by
  have hc1 := refTCheck_fun x a s
  rw [show trainE a s = 0 from if_pos hk.1] at hc1
  have hc2 := refSCheck_fun dim ids vecs
  rw [show slotsErr dim ids vecs = 0 from if_pos ho] at hc2
  have hbd := refBounds_fun budget all
  rw [decide_eq_true hk.2] at hbd
  have hcp := refTCopy_own x a s hl hv1
  obtain ⟨⟨k1, k2, k3⟩, k4, k5⟩ := hk
  have o1 := ho.2.1
  have o2 := ho.2.2.1
  have eN : ((stepN a budget all : Nat) : Int) = min budget (max (all - a) 0) := by unfold stepN; omega
  have hle := lotsL_length x ids.length (stepN a budget all)
  have hmem := lotsL_mem (x := x) (b := ids.length) (by omega) (stepN a budget all)
  have hlk : ∀ k, k < stepN a budget all → (lotsL x ids.length (stepN a budget all)).getD k 0 = lotOf (nxt (nx x k)) ids.length := fun k hk => lotsL_at hk
  unfold gathered
  generalize hL : lotsL x ids.length (stepN a budget all) = L at *
  generalize hm : stepN a budget all = m at *
  have hgl := gat_length (ids := ids) (vecs := vecs) L
  obtain ⟨b, rfl⟩ : ∃ b : Nat, budget = b := ⟨budget.toNat, by omega⟩
  cases s with
  | nil =>
    have hcp2 : FunO Try.prog 79 [trainD x a []] fun r o => r = .agg [.v (.int .u64 x), .v (.int .i64 a), .v (.slice none 0 0)] ∧ o = none := funO_mono hcp fun r o h => h.elim (fun q => q.2) fun q => absurd rfl q.1
    refine Fun.of_awpI Try.func81 rfl cal81 Try.ntmps81 (by simp) fun hwf => ?_
    simp only [D.wfs, D.wf, ints_length, ints_wfs, rows_length, rows_wfs, capMax, and_true, true_and] at hwf
    repeat' (first | simp only [go_sem, bne_self_eq_false, Ret_eq Try.results81] | (refine opCallI_rd (by simp only [go_sem, bne_self_eq_false, Ret_eq Try.results81]; first | done | rfl) (hc1) (by rintro _ rfl; rfl) ?_; rintro _ rfl) | (refine opCallI_rd (by simp only [go_sem, bne_self_eq_false, Ret_eq Try.results81]; first | done | rfl) (hc2) (by rintro _ rfl; rfl) ?_; rintro _ rfl) | (refine opCallI_rd (by simp only [go_sem, bne_self_eq_false, Ret_eq Try.results81]; first | done | rfl) (hbd) (by rintro _ rfl; rfl) ?_; rintro _ rfl) | (refine opCallI_ownGv (by simp only [go_sem, bne_self_eq_false, Ret_eq Try.results81]; first | done | rfl) (hcp2) ?_; rintro _ _ ⟨rfl, rfl⟩) | fail)
    refine awpI_for m (fun k => True) (fun k => [(32, .v (.int .i64 k))]) (fun k => reObj (nx x k) (a + k) [] (gat ids vecs (L.take k))) [3, 4, 5, 8, 31] [5, 8] _ (Weak.refl _) trivial ?_ ?_ ?_
    · simp only [go_sem, Ret_eq Try.results81]
    · simp only [go_sem, List.take_zero, gat, reObj, List.append_nil, nx, Int.add_zero, show a + ((0 : Nat) : Int) = a from by simp, Ret_eq Try.results81]
    · intro k st2 hk2 _ hs2
      have hr := nx_range hx k
      by_cases hka : k < m
      · obtain ⟨m1, m2⟩ := hmem _ (getD_mem (a := L) (d := 0) (k := k) (by omega))
        have hlt := refLot_fun (nx x k) ids.length (by omega)
        rw [← hlk k hka] at hlt
        have en : nxt (nx x k) = nx x (k + 1) := rfl
        rw [en] at hlt
        have ea : a + (k : Int) + 1 = a + ((k + 1 : Nat) : Int) := by omega
        have hnl : k < b ∧ a + k < all := by omega
        have e2 := take_snoc (a := L) (d := (0 : Int)) (k := k) (by omega)
        have hgk := gat_length (ids := ids) (vecs := vecs) (L.take k)
        rw [List.length_take] at hgk
        have e3 : gat ids vecs (L.take (k + 1)) = gat ids vecs (L.take k) ++ gat ids vecs [L.getD k 0] := by rw [e2, gat_append]
        have ej : L.getD k 0 = (((L.getD k 0).toNat : Nat) : Int) := by omega
        have e4 : gat ids vecs [L.getD k 0] = if ids.getD (L.getD k 0).toNat 0 = -1 then [] else [vecs.getD (L.getD k 0).toNat []] := rfl
        have hj : (L.getD k 0).toNat < ids.length := by omega
        rw [ej] at hlt
        generalize (L.getD k 0).toNat = j at *
        by_cases q : ids.getD j 0 = -1
        · rw [e4, if_pos q, List.append_nil] at e3
          have qb : (ids.getD j 0 != -1) = false := by rw [q]; rfl
          cases hg : gat ids vecs (L.take k) with
          | nil =>
            rw [hg] at e3
            simp only [go_sem, hg, reObj, List.append_nil, Ret_eq Try.results81] at hs2
            repeat' (first | simp only [go_sem, hs2, ea, qb, e3, reObj, List.append_nil, Ret_eq Try.results81] | simp (disch := omega) only [arith, IntKind.bits, capMax, fill_len, elt_fill] | (refine Again.up (by omega) ?_ ?_) | (refine opCallI_rd (by simp only [go_sem, hs2, ea, qb, e3, reObj, List.append_nil, Ret_eq Try.results81]; first | done | rfl) (hlt) (by rintro _ rfl; rfl) ?_; rintro _ rfl) | fail)
            all_goals first | done | rfl | (rw [List.take_of_length_le (by simp only [List.length_append, List.length_cons]; omega)]; done) | (rw [List.take_of_length_le (by simp only [List.length_append, List.length_cons]; omega)]; rfl)
          | cons b2 r2 =>
            rw [hg] at e3
            simp only [go_sem, hg, reObj, List.append_nil, Ret_eq Try.results81] at hs2
            repeat' (first | simp only [go_sem, hs2, ea, qb, e3, reObj, List.append_nil, Ret_eq Try.results81] | simp (disch := omega) only [arith, IntKind.bits, capMax, fill_len, elt_fill] | (refine Again.up (by omega) ?_ ?_) | (refine opCallI_rd (by simp only [go_sem, hs2, ea, qb, e3, reObj, List.append_nil, Ret_eq Try.results81]; first | done | rfl) (hlt) (by rintro _ rfl; rfl) ?_; rintro _ rfl) | fail)
            all_goals first | done | rfl | (rw [List.take_of_length_le (by simp only [List.length_append, List.length_cons]; omega)]; done) | (rw [List.take_of_length_le (by simp only [List.length_append, List.length_cons]; omega)]; rfl)
        · rw [e4, if_neg q] at e3
          have qb : (ids.getD j 0 != -1) = true := by rw [bne, beq_eq_false_iff_ne.2 q]; rfl
          have hcl := copy16_fun (vecs.getD j []) (by have := hv2 _ (getD_mem (a := vecs) (d := []) (k := j) (by omega)); omega)
          cases hg : gat ids vecs (L.take k) with
          | nil =>
            rw [hg] at e3
            simp only [go_sem, hg, reObj, List.append_nil, Ret_eq Try.results81] at hs2
            repeat' (first | simp only [go_sem, hs2, ea, qb, e3, reObj, List.append_nil, List.nil_append, List.cons_append, List.length_cons, List.length_append, List.length_nil, Ret_eq Try.results81] | simp (disch := omega) only [arith, IntKind.bits, capMax, fill_len, elt_fill] | (refine awpI_draw2 (id := 11) (.one false 2 (.one false 3 (.one false 4 (.one false 5 (.one false 6 (.fam 0 [7, 8] [67, 68] [66] (.fam 1 [7, 8] [67, 68] [66] (.only 7 (.only 8 (.only 9 (.one false 10 (.only 11 .done)))))))))))) mixed (by decide +kernel) (by decide +kernel) ?_) | (refine Again.up (by omega) ?_ ?_) | (refine opCallI_rd (by simp only [go_sem, hs2, ea, qb, e3, reObj, List.append_nil, List.nil_append, List.cons_append, List.length_cons, List.length_append, List.length_nil, Ret_eq Try.results81]; first | done | rfl) (hlt) (by rintro _ rfl; rfl) ?_; rintro _ rfl) | (refine opCallI_ownGv (by simp only [go_sem, hs2, ea, qb, e3, reObj, List.append_nil, List.nil_append, List.cons_append, List.length_cons, List.length_append, List.length_nil, Ret_eq Try.results81]; first | done | rfl) (hcl) ?_; rintro _ _ ⟨rfl, rfl⟩) | fail)
            all_goals first | done | rfl | (rw [List.take_of_length_le (by simp only [List.length_append, List.length_cons]; omega)]; done) | (rw [List.take_of_length_le (by simp only [List.length_append, List.length_cons]; omega)]; rfl)
          | cons b2 r2 =>
            rw [hg] at e3 hgk
            have hrl : r2.length ≤ 4096 := by have : (b2 :: r2).length = r2.length + 1 := rfl; omega
            simp only [go_sem, hg, reObj, List.append_nil, Ret_eq Try.results81] at hs2
            repeat' (first | simp only [go_sem, hs2, ea, qb, e3, reObj, List.append_nil, List.nil_append, List.cons_append, List.length_cons, List.length_append, List.length_nil, Ret_eq Try.results81] | simp (disch := omega) only [arith, IntKind.bits, capMax, fill_len, elt_fill] | (refine awpI_draw2 (id := 11) (.one false 2 (.one false 3 (.one false 4 (.one false 5 (.one false 6 (.fam 0 [7, 8] [67, 68] [66] (.fam 1 [7, 8] [67, 68] [66] (.only 7 (.only 8 (.only 9 (.one false 10 (.only 11 .done)))))))))))) mixed (by decide +kernel) (by decide +kernel) ?_) | (refine Again.up (by omega) ?_ ?_) | (refine opCallI_rd (by simp only [go_sem, hs2, ea, qb, e3, reObj, List.append_nil, List.nil_append, List.cons_append, List.length_cons, List.length_append, List.length_nil, Ret_eq Try.results81]; first | done | rfl) (hlt) (by rintro _ rfl; rfl) ?_; rintro _ rfl) | (refine opCallI_ownGv (by simp only [go_sem, hs2, ea, qb, e3, reObj, List.append_nil, List.nil_append, List.cons_append, List.length_cons, List.length_append, List.length_nil, Ret_eq Try.results81]; first | done | rfl) (hcl) ?_; rintro _ _ ⟨rfl, rfl⟩) | fail)
            all_goals first | done | rfl | (rw [List.take_of_length_le (by simp only [List.length_append, List.length_cons]; omega)]; done) | (rw [List.take_of_length_le (by simp only [List.length_append, List.length_cons]; omega)]; rfl)
      · obtain rfl : k = m := by omega
        have ht : L.take k = L := List.take_of_length_le (by omega)
        rw [hle] at hgl
        by_cases hkb : k < b
        · have hal : all ≤ a + k := by omega
          cases hg : gat ids vecs L with
          | nil =>
            rw [hg] at hgl
            simp only [go_sem, ht, hg, reObj, List.append_nil, Ret_eq Try.results81] at hs2
            repeat' (first | simp only [go_sem, hs2, List.append_nil, Ret_eq Try.results81] | simp (disch := omega) only [arith, IntKind.bits, capMax, fill_len, elt_fill] | (refine awpI_draw2 (id := 13) (.one false 0 (.mv 3 (.cal 1 [5] (.cal 2 [5] (.cal 4 [5] (.only 5 (.one false 6 (.one false 7 .done)))))))) mixed (by decide +kernel) (by decide +kernel) ?_) | fail)
            all_goals first | done | rfl | (rw [List.take_of_length_le (by simp only [List.length_append, List.length_cons]; omega)]; done) | (rw [List.take_of_length_le (by simp only [List.length_append, List.length_cons]; omega)]; rfl)
          | cons b2 r2 =>
            rw [hg] at hgl
            have hrl : r2.length ≤ 4096 := by have : (b2 :: r2).length = r2.length + 1 := rfl; omega
            simp only [go_sem, ht, hg, reObj, List.append_nil, Ret_eq Try.results81] at hs2
            repeat' (first | simp only [go_sem, hs2, List.nil_append, List.cons_append, List.length_cons, List.length_append, List.length_nil, Ret_eq Try.results81] | simp (disch := omega) only [arith, IntKind.bits, capMax, fill_len, elt_fill] | (refine awpI_draw2 (id := 13) (.one false 0 (.mv 3 (.cal 1 [5] (.cal 2 [5] (.cal 4 [5] (.only 5 (.one false 6 (.one false 7 .done)))))))) mixed (by decide +kernel) (by decide +kernel) ?_) | fail)
            all_goals first | done | rfl | (rw [List.take_of_length_le (by simp only [List.length_append, List.length_cons]; omega)]; done) | (rw [List.take_of_length_le (by simp only [List.length_append, List.length_cons]; omega)]; rfl)
        · cases hg : gat ids vecs L with
          | nil =>
            rw [hg] at hgl
            simp only [go_sem, ht, hg, reObj, List.append_nil, Ret_eq Try.results81] at hs2
            repeat' (first | simp only [go_sem, hs2, List.append_nil, Ret_eq Try.results81] | simp (disch := omega) only [arith, IntKind.bits, capMax, fill_len, elt_fill] | (refine awpI_draw2 (id := 13) (.one false 0 (.mv 3 (.cal 1 [5] (.cal 2 [5] (.cal 4 [5] (.only 5 (.one false 6 (.one false 7 .done)))))))) mixed (by decide +kernel) (by decide +kernel) ?_) | fail)
            all_goals first | done | rfl | (rw [List.take_of_length_le (by simp only [List.length_append, List.length_cons]; omega)]; done) | (rw [List.take_of_length_le (by simp only [List.length_append, List.length_cons]; omega)]; rfl)
          | cons b2 r2 =>
            rw [hg] at hgl
            have hrl : r2.length ≤ 4096 := by have : (b2 :: r2).length = r2.length + 1 := rfl; omega
            simp only [go_sem, ht, hg, reObj, List.append_nil, Ret_eq Try.results81] at hs2
            repeat' (first | simp only [go_sem, hs2, List.nil_append, List.cons_append, List.length_cons, List.length_append, List.length_nil, Ret_eq Try.results81] | simp (disch := omega) only [arith, IntKind.bits, capMax, fill_len, elt_fill] | (refine awpI_draw2 (id := 13) (.one false 0 (.mv 3 (.cal 1 [5] (.cal 2 [5] (.cal 4 [5] (.only 5 (.one false 6 (.one false 7 .done)))))))) mixed (by decide +kernel) (by decide +kernel) ?_) | fail)
            all_goals first | done | rfl | (rw [List.take_of_length_le (by simp only [List.length_append, List.length_cons]; omega)]; done) | (rw [List.take_of_length_le (by simp only [List.length_append, List.length_cons]; omega)]; rfl)
  | cons c0 r0 =>
    have hcp2 : FunO Try.prog 79 [trainD x a (c0 :: r0)] fun r o => r = .agg [.v (.int .u64 x), .v (.int .i64 a), .ref 0 (c0 :: r0).length] ∧ o = some ⟨46, 1, rows .i16 (c0 :: r0)⟩ := funO_mono hcp fun r o h => h.elim (fun q => by cases q.1) fun q => q.2
    refine Fun.of_awpI Try.func81 rfl cal81 Try.ntmps81 (by simp) fun hwf => ?_
    simp only [D.wfs, D.wf, ints_length, ints_wfs, rows_length, rows_wfs, capMax, and_true, true_and] at hwf
    repeat' (first | simp only [go_sem, bne_self_eq_false, Ret_eq Try.results81] | (refine opCallI_rd (by simp only [go_sem, bne_self_eq_false, Ret_eq Try.results81]; first | done | rfl) (hc1) (by rintro _ rfl; rfl) ?_; rintro _ rfl) | (refine opCallI_rd (by simp only [go_sem, bne_self_eq_false, Ret_eq Try.results81]; first | done | rfl) (hc2) (by rintro _ rfl; rfl) ?_; rintro _ rfl) | (refine opCallI_rd (by simp only [go_sem, bne_self_eq_false, Ret_eq Try.results81]; first | done | rfl) (hbd) (by rintro _ rfl; rfl) ?_; rintro _ rfl) | (refine opCallI_ownGv (by simp only [go_sem, bne_self_eq_false, Ret_eq Try.results81]; first | done | rfl) (hcp2) ?_; rintro _ _ ⟨rfl, rfl⟩) | fail)
    have hl0 : r0.length ≤ 4096 := by have : (c0 :: r0).length = r0.length + 1 := rfl; omega
    refine awpI_for m (fun k => True) (fun k => [(32, .v (.int .i64 k))]) (fun k => reObj (nx x k) (a + k) (c0 :: r0) (gat ids vecs (L.take k))) [3, 4, 5, 8, 31] [5, 8] _ (Weak.refl _) trivial ?_ ?_ ?_
    · simp only [go_sem, Ret_eq Try.results81]
    · simp only [go_sem, List.take_zero, gat, reObj, List.append_nil, nx, Int.add_zero, show a + ((0 : Nat) : Int) = a from by simp, Ret_eq Try.results81]
    · intro k st2 hk2 _ hs2
      have hr := nx_range hx k
      by_cases hka : k < m
      · obtain ⟨m1, m2⟩ := hmem _ (getD_mem (a := L) (d := 0) (k := k) (by omega))
        have hlt := refLot_fun (nx x k) ids.length (by omega)
        rw [← hlk k hka] at hlt
        have en : nxt (nx x k) = nx x (k + 1) := rfl
        rw [en] at hlt
        have ea : a + (k : Int) + 1 = a + ((k + 1 : Nat) : Int) := by omega
        have hnl : k < b ∧ a + k < all := by omega
        have e2 := take_snoc (a := L) (d := (0 : Int)) (k := k) (by omega)
        have hgk := gat_length (ids := ids) (vecs := vecs) (L.take k)
        rw [List.length_take] at hgk
        have e3 : gat ids vecs (L.take (k + 1)) = gat ids vecs (L.take k) ++ gat ids vecs [L.getD k 0] := by rw [e2, gat_append]
        have ej : L.getD k 0 = (((L.getD k 0).toNat : Nat) : Int) := by omega
        have e4 : gat ids vecs [L.getD k 0] = if ids.getD (L.getD k 0).toNat 0 = -1 then [] else [vecs.getD (L.getD k 0).toNat []] := rfl
        have hj : (L.getD k 0).toNat < ids.length := by omega
        rw [ej] at hlt
        generalize (L.getD k 0).toNat = j at *
        by_cases q : ids.getD j 0 = -1
        · rw [e4, if_pos q, List.append_nil] at e3
          have qb : (ids.getD j 0 != -1) = false := by rw [q]; rfl
          cases hg : gat ids vecs (L.take k) with
          | nil =>
            rw [hg] at e3
            simp only [go_sem, hg, reObj, List.append_nil, Ret_eq Try.results81] at hs2
            repeat' (first | simp only [go_sem, hs2, ea, qb, e3, reObj, List.append_nil, Ret_eq Try.results81] | simp (disch := omega) only [arith, IntKind.bits, capMax, fill_len, elt_fill] | (refine Again.up (by omega) ?_ ?_) | (refine opCallI_rd (by simp only [go_sem, hs2, ea, qb, e3, reObj, List.append_nil, Ret_eq Try.results81]; first | done | rfl) (hlt) (by rintro _ rfl; rfl) ?_; rintro _ rfl) | fail)
            all_goals first | done | rfl | (rw [List.take_of_length_le (by simp only [List.length_append, List.length_cons]; omega)]; done) | (rw [List.take_of_length_le (by simp only [List.length_append, List.length_cons]; omega)]; rfl)
          | cons b2 r2 =>
            rw [hg] at e3
            simp only [go_sem, hg, reObj, List.append_nil, Ret_eq Try.results81] at hs2
            repeat' (first | simp only [go_sem, hs2, ea, qb, e3, reObj, List.append_nil, Ret_eq Try.results81] | simp (disch := omega) only [arith, IntKind.bits, capMax, fill_len, elt_fill] | (refine Again.up (by omega) ?_ ?_) | (refine opCallI_rd (by simp only [go_sem, hs2, ea, qb, e3, reObj, List.append_nil, Ret_eq Try.results81]; first | done | rfl) (hlt) (by rintro _ rfl; rfl) ?_; rintro _ rfl) | fail)
            all_goals first | done | rfl | (rw [List.take_of_length_le (by simp only [List.length_append, List.length_cons]; omega)]; done) | (rw [List.take_of_length_le (by simp only [List.length_append, List.length_cons]; omega)]; rfl)
        · rw [e4, if_neg q] at e3
          have qb : (ids.getD j 0 != -1) = true := by rw [bne, beq_eq_false_iff_ne.2 q]; rfl
          have hcl := copy16_fun (vecs.getD j []) (by have := hv2 _ (getD_mem (a := vecs) (d := []) (k := j) (by omega)); omega)
          cases hg : gat ids vecs (L.take k) with
          | nil =>
            rw [hg] at e3
            simp only [go_sem, hg, reObj, List.append_nil, Ret_eq Try.results81] at hs2
            repeat' (first | simp only [go_sem, hs2, ea, qb, e3, reObj, List.append_nil, List.nil_append, List.cons_append, List.length_cons, List.length_append, List.length_nil, Ret_eq Try.results81] | simp (disch := omega) only [arith, IntKind.bits, capMax, fill_len, elt_fill] | (refine awpI_draw2 (id := 11) (.one false 2 (.one false 3 (.one false 4 (.one false 5 (.one false 6 (.fam 0 [7, 8] [67, 68] [66] (.fam 1 [7, 8] [67, 68] [66] (.only 7 (.only 8 (.only 9 (.one false 10 (.only 11 .done)))))))))))) mixed (by decide +kernel) (by decide +kernel) ?_) | (refine Again.up (by omega) ?_ ?_) | (refine opCallI_rd (by simp only [go_sem, hs2, ea, qb, e3, reObj, List.append_nil, List.nil_append, List.cons_append, List.length_cons, List.length_append, List.length_nil, Ret_eq Try.results81]; first | done | rfl) (hlt) (by rintro _ rfl; rfl) ?_; rintro _ rfl) | (refine opCallI_ownGv (by simp only [go_sem, hs2, ea, qb, e3, reObj, List.append_nil, List.nil_append, List.cons_append, List.length_cons, List.length_append, List.length_nil, Ret_eq Try.results81]; first | done | rfl) (hcl) ?_; rintro _ _ ⟨rfl, rfl⟩) | fail)
            all_goals first | done | rfl | (rw [List.take_of_length_le (by simp only [List.length_append, List.length_cons]; omega)]; done) | (rw [List.take_of_length_le (by simp only [List.length_append, List.length_cons]; omega)]; rfl)
          | cons b2 r2 =>
            rw [hg] at e3 hgk
            have hrl : r2.length ≤ 4096 := by have : (b2 :: r2).length = r2.length + 1 := rfl; omega
            simp only [go_sem, hg, reObj, List.append_nil, Ret_eq Try.results81] at hs2
            repeat' (first | simp only [go_sem, hs2, ea, qb, e3, reObj, List.append_nil, List.nil_append, List.cons_append, List.length_cons, List.length_append, List.length_nil, Ret_eq Try.results81] | simp (disch := omega) only [arith, IntKind.bits, capMax, fill_len, elt_fill] | (refine awpI_draw2 (id := 11) (.one false 2 (.one false 3 (.one false 4 (.one false 5 (.one false 6 (.fam 0 [7, 8] [67, 68] [66] (.fam 1 [7, 8] [67, 68] [66] (.only 7 (.only 8 (.only 9 (.one false 10 (.only 11 .done)))))))))))) mixed (by decide +kernel) (by decide +kernel) ?_) | (refine Again.up (by omega) ?_ ?_) | (refine opCallI_rd (by simp only [go_sem, hs2, ea, qb, e3, reObj, List.append_nil, List.nil_append, List.cons_append, List.length_cons, List.length_append, List.length_nil, Ret_eq Try.results81]; first | done | rfl) (hlt) (by rintro _ rfl; rfl) ?_; rintro _ rfl) | (refine opCallI_ownGv (by simp only [go_sem, hs2, ea, qb, e3, reObj, List.append_nil, List.nil_append, List.cons_append, List.length_cons, List.length_append, List.length_nil, Ret_eq Try.results81]; first | done | rfl) (hcl) ?_; rintro _ _ ⟨rfl, rfl⟩) | fail)
            all_goals first | done | rfl | (rw [List.take_of_length_le (by simp only [List.length_append, List.length_cons]; omega)]; done) | (rw [List.take_of_length_le (by simp only [List.length_append, List.length_cons]; omega)]; rfl)
      · obtain rfl : k = m := by omega
        have ht : L.take k = L := List.take_of_length_le (by omega)
        rw [hle] at hgl
        by_cases hkb : k < b
        · have hal : all ≤ a + k := by omega
          cases hg : gat ids vecs L with
          | nil =>
            rw [hg] at hgl
            simp only [go_sem, ht, hg, reObj, List.append_nil, Ret_eq Try.results81] at hs2
            repeat' (first | simp only [go_sem, hs2, List.append_nil, Ret_eq Try.results81] | simp (disch := omega) only [arith, IntKind.bits, capMax, fill_len, elt_fill] | (refine awpI_draw2 (id := 13) (.one false 0 (.mv 3 (.cal 1 [5] (.cal 2 [5] (.cal 4 [5] (.only 5 (.one false 6 (.one false 7 .done)))))))) mixed (by decide +kernel) (by decide +kernel) ?_) | fail)
            all_goals first | done | rfl | (rw [List.take_of_length_le (by simp only [List.length_append, List.length_cons]; omega)]; done) | (rw [List.take_of_length_le (by simp only [List.length_append, List.length_cons]; omega)]; rfl)
          | cons b2 r2 =>
            rw [hg] at hgl
            have hrl : r2.length ≤ 4096 := by have : (b2 :: r2).length = r2.length + 1 := rfl; omega
            simp only [go_sem, ht, hg, reObj, List.append_nil, Ret_eq Try.results81] at hs2
            repeat' (first | simp only [go_sem, hs2, List.nil_append, List.cons_append, List.length_cons, List.length_append, List.length_nil, Ret_eq Try.results81] | simp (disch := omega) only [arith, IntKind.bits, capMax, fill_len, elt_fill] | (refine awpI_draw2 (id := 13) (.one false 0 (.mv 3 (.cal 1 [5] (.cal 2 [5] (.cal 4 [5] (.only 5 (.one false 6 (.one false 7 .done)))))))) mixed (by decide +kernel) (by decide +kernel) ?_) | fail)
            all_goals first | done | rfl | (rw [List.take_of_length_le (by simp only [List.length_append, List.length_cons]; omega)]; done) | (rw [List.take_of_length_le (by simp only [List.length_append, List.length_cons]; omega)]; rfl)
        · cases hg : gat ids vecs L with
          | nil =>
            rw [hg] at hgl
            simp only [go_sem, ht, hg, reObj, List.append_nil, Ret_eq Try.results81] at hs2
            repeat' (first | simp only [go_sem, hs2, List.append_nil, Ret_eq Try.results81] | simp (disch := omega) only [arith, IntKind.bits, capMax, fill_len, elt_fill] | (refine awpI_draw2 (id := 13) (.one false 0 (.mv 3 (.cal 1 [5] (.cal 2 [5] (.cal 4 [5] (.only 5 (.one false 6 (.one false 7 .done)))))))) mixed (by decide +kernel) (by decide +kernel) ?_) | fail)
            all_goals first | done | rfl | (rw [List.take_of_length_le (by simp only [List.length_append, List.length_cons]; omega)]; done) | (rw [List.take_of_length_le (by simp only [List.length_append, List.length_cons]; omega)]; rfl)
          | cons b2 r2 =>
            rw [hg] at hgl
            have hrl : r2.length ≤ 4096 := by have : (b2 :: r2).length = r2.length + 1 := rfl; omega
            simp only [go_sem, ht, hg, reObj, List.append_nil, Ret_eq Try.results81] at hs2
            repeat' (first | simp only [go_sem, hs2, List.nil_append, List.cons_append, List.length_cons, List.length_append, List.length_nil, Ret_eq Try.results81] | simp (disch := omega) only [arith, IntKind.bits, capMax, fill_len, elt_fill] | (refine awpI_draw2 (id := 13) (.one false 0 (.mv 3 (.cal 1 [5] (.cal 2 [5] (.cal 4 [5] (.only 5 (.one false 6 (.one false 7 .done)))))))) mixed (by decide +kernel) (by decide +kernel) ?_) | fail)
            all_goals first | done | rfl | (rw [List.take_of_length_le (by simp only [List.length_append, List.length_cons]; omega)]; done) | (rw [List.take_of_length_le (by simp only [List.length_append, List.length_cons]; omega)]; rfl)

theorem refStep_bad (x a : Int) (s : List (List Int)) (dim : Int) (ids : List Int) (vecs : List (List Int)) (budget all : Int) (h : ¬ (chkOk a s budget all ∧ slotsOk dim ids vecs)) :
    Fun Try.prog 81 [trainD x a s, slotsD dim ids vecs, .v (.int .i64 budget), .v (.int .i64 all)] fun r => r = .tup [trainD 0 0 [], .v (.bool false), .v (.int .i64 1)] := by
  have hc1 := refTCheck_fun x a s
  have hc2 := refSCheck_fun dim ids vecs
  have hbd := refBounds_fun budget all
  by_cases h1 : trainOk a s
  · rw [show trainE a s = 0 from if_pos h1] at hc1
    by_cases h2 : slotsOk dim ids vecs
    · rw [show slotsErr dim ids vecs = 0 from if_pos h2] at hc2
      rw [decide_eq_false (fun q => h ⟨⟨h1, q⟩, h2⟩)] at hbd
      refine Fun.of_awpI Try.func81 rfl cal81 Try.ntmps81 (by simp) fun hwf => ?_
      simp only [D.wfs, D.wf, ints_length, ints_wfs, rows_length, rows_wfs, capMax, and_true, true_and] at hwf
      repeat' (first | simp only [go_sem, bne_self_eq_false, rows_nil, Ret_eq Try.results81] | (refine opCallI_rd (by simp only [go_sem, bne_self_eq_false, rows_nil, Ret_eq Try.results81]; first | done | rfl) (hc1) (by rintro _ rfl; rfl) ?_; rintro _ rfl) | (refine opCallI_rd (by simp only [go_sem, bne_self_eq_false, rows_nil, Ret_eq Try.results81]; first | done | rfl) (hc2) (by rintro _ rfl; rfl) ?_; rintro _ rfl) | (refine opCallI_rd (by simp only [go_sem, bne_self_eq_false, rows_nil, Ret_eq Try.results81]; first | done | rfl) (hbd) (by rintro _ rfl; rfl) ?_; rintro _ rfl) | fail)
      all_goals rfl
    · rw [show slotsErr dim ids vecs = 1 from if_neg h2] at hc2
      refine Fun.of_awpI Try.func81 rfl cal81 Try.ntmps81 (by simp) fun hwf => ?_
      simp only [D.wfs, D.wf, ints_length, ints_wfs, rows_length, rows_wfs, capMax, and_true, true_and] at hwf
      repeat' (first | simp only [go_sem, bne_self_eq_false, rows_nil, Ret_eq Try.results81] | (refine opCallI_rd (by simp only [go_sem, bne_self_eq_false, rows_nil, Ret_eq Try.results81]; first | done | rfl) (hc1) (by rintro _ rfl; rfl) ?_; rintro _ rfl) | (refine opCallI_rd (by simp only [go_sem, bne_self_eq_false, rows_nil, Ret_eq Try.results81]; first | done | rfl) (hc2) (by rintro _ rfl; rfl) ?_; rintro _ rfl) | fail)
      all_goals rfl
  · rw [show trainE a s = 1 from if_neg h1] at hc1
    refine Fun.of_awpI Try.func81 rfl cal81 Try.ntmps81 (by simp) fun hwf => ?_
    simp only [D.wfs, D.wf, ints_length, ints_wfs, rows_length, rows_wfs, capMax, and_true, true_and] at hwf
    repeat' (first | simp only [go_sem, rows_nil, Ret_eq Try.results81] | (refine opCallI_rd (by simp only [go_sem, rows_nil, Ret_eq Try.results81]; first | done | rfl) (hc1) (by rintro _ rfl; rfl) ?_; rintro _ rfl) | fail)
    all_goals rfl
theorem refTCopy_fun (x a : Int) (s : List (List Int)) (h1 : s.length ≤ 4096) (h3 : ∀ v ∈ s, v.length ≤ 500) : Fun Try.prog 79 [trainD x a s] fun r => r = trainD x a s := by
  refine (refTCopy_own x a s h1 h3).toFun ?_
  rintro r o (⟨rfl, rfl, rfl⟩ | ⟨_, rfl, rfl⟩)
  · rfl
  · refine ⟨by simp only [go_sem, Ret_eq Try.results81], by simp only [go_sem, Ret_eq Try.results81], ?_⟩
    simp only [go_sem, Ret_eq Try.results81]
end Go.Proofs.Ytpkampecmlpfmaa.T

end
section
set_option linter.unusedSimpArgs false
set_option linter.unusedVariables false
/- Plain books, how long a text is, books told the same; walked. -/
namespace Go.Proofs.Ytpkampecmlpfmaa.T
open Go Go.VL Go.Proofs
set_option maxRecDepth 100000
set_option maxHeartbeats 8000000
end Go.Proofs.Ytpkampecmlpfmaa.T

end
section
set_option linter.unusedSimpArgs false
set_option linter.unusedVariables false
/- The chapter's example, walked. -/
namespace Go.Proofs.Ytpkampecmlpfmaa.T
open Go Go.VL Go.Proofs
set_option maxRecDepth 100000
set_option maxHeartbeats 8000000
theorem sameCuts_fun (a b : List Int) : Fun Try.prog 26 [.lst (ints .i16 a), .lst (ints .i16 b)] fun r => r = .v (.bool (decide (a = b))) := by
  refine Fun.of_awpI Try.func26 rfl cal26 Try.ntmps26 (by simp) fun hwf => ?_
  simp only [D.wfs, D.wf, ints_length, ints_wfs, rows_length, rows_wfs, capMax, and_true, true_and] at hwf
  repeat' (first | simp only [go_sem, Ret_eq Try.results26] | (with_reducible refine condI_bne (fun hq hqb => ?_) (fun hq hqb => ?_) <;> simp only [KP_mk, hqb]) | fail)
  · rw [decide_eq_false]; rintro rfl; omega
  · have hl : a.length = b.length := by omega
    refine awpI_for a.length (fun k => a.take k = b.take k) (fun k => [(13, .v (.int .i64 k))]) (fun _ => []) [0, 1, 12] [] _ (Weak.refl _) (by simp) ?_ ?_ ?_
    · simp only [go_sem, Ret_eq Try.results26]
    · simp only [go_sem, Ret_eq Try.results26]
    · intro k s hk hQ hs
      simp only [go_sem, Ret_eq Try.results26] at hs
      by_cases hka : k < a.length
      · repeat' (first | simp only [go_sem, hs, Ret_eq Try.results26] | simp (disch := omega) only [arith, IntKind.bits, capMax, fill_len, elt_fill] | (with_reducible refine condI_bne (fun hq hqb => ?_) (fun hq hqb => ?_) <;> simp only [KP_mk, hqb]) | (refine awpI_draw2 (id := 6) (.one false 0 (.one false 1 (.one false 2 (.one false 3 (.one false 4 (.one false 5 (.one false 6 (.one false 7 (.one false 8 .done))))))))) mixed (by decide +kernel) (by decide +kernel) ?_) | (refine Again.up (by omega) ?_ ?_) | fail)
        · rw [decide_eq_false]; rintro rfl; simp_all
        · exact take_eq_snoc hka (by omega) hQ (by assumption)
      · obtain rfl : k = a.length := by omega
        rw [List.take_length, hl, List.take_length] at hQ
        subst hQ
        repeat' (first | simp only [go_sem, hs, Ret_eq Try.results26] | simp (disch := omega) only [arith, IntKind.bits, capMax, fill_len, elt_fill] | fail)

end Go.Proofs.Ytpkampecmlpfmaa.T

end
section
set_option linter.unusedSimpArgs false
set_option linter.unusedVariables false
/- Books are the same, by the document. -/
namespace Go.Proofs.Ytpkampecmlpfmaa.T
open Go Go.VL Go.Proofs
set_option maxRecDepth 100000
set_option maxHeartbeats 4000000

theorem refBookSame_fun (w : Int) (c : List (List Int)) (w2 : Int) (c2 : List (List Int)) : Fun Try.prog 61 [bookD w c, bookD w2 c2] fun r => r = .v (.bool (decide (w = w2 ∧ c = c2))) := by
  refine Fun.of_awpI Try.func61 rfl cal61 Try.ntmps61 (by simp) fun hwf => ?_
  simp only [D.wfs, D.wf, ints_length, ints_wfs, rows_length, rows_wfs, capMax, and_true, true_and] at hwf
  by_cases g1 : w = w2
  · have b1 : (w == w2) = true := beq_iff_eq.2 g1
    by_cases hl : c.length = c2.length
    · repeat' (first | simp only [go_sem, b1, g1, hl, bne_self_eq_false, Ret_eq Try.results61] | fail)
      refine awpI_for c2.length (fun k => c.take k = c2.take k) (fun k => [(23, .v (.int .i64 k))]) (fun _ => []) [2, 3, 22] [2, 3] _ (Weak.refl _) (by simp) ?_ ?_ ?_
      · simp only [go_sem, Ret_eq Try.results61]
      · simp only [go_sem, Ret_eq Try.results61]
      · intro k s hk hQ hs
        simp only [go_sem, Ret_eq Try.results61] at hs
        by_cases hka : k < c2.length
        · have hka2 : k < c.length := by omega
          have e1 := take_snoc (a := c) (d := ([] : List Int)) hka2
          have e2 := take_snoc (a := c2) (d := ([] : List Int)) hka
          have hs1 := sameCuts_fun (c.getD k []) (c2.getD k [])
          by_cases hv : c.getD k [] = c2.getD k []
          · rw [decide_eq_true hv] at hs1
            repeat' (first | simp only [go_sem, hs, Ret_eq Try.results61] | simp (disch := omega) only [arith, IntKind.bits, capMax, fill_len, elt_fill] | (refine awpI_draw2 (id := 6) (.one false 0 (.one false 1 (.one false 2 (.one false 3 (.one false 4 (.one false 5 (.one false 6 (.one false 7 (.one false 8 (.one false 9 (.only 10 (.one false 11 .done)))))))))))) mixed (by decide +kernel) (by decide +kernel) ?_) | (refine Again.up (by omega) ?_ ?_) | (refine opCallI_rd (by simp only [go_sem, hs, Ret_eq Try.results61]; first | done | rfl) (hs1) (by rintro _ rfl; rfl) ?_; rintro _ rfl) | fail)
            rw [e1, e2, hQ, hv]
          · rw [decide_eq_false hv] at hs1
            have hne : ¬ (w2 = w2 ∧ c = c2) := fun q => hv (by rw [q.2])
            repeat' (first | simp only [go_sem, hs, decide_eq_false hne, Ret_eq Try.results61] | simp (disch := omega) only [arith, IntKind.bits, capMax, fill_len, elt_fill] | (refine awpI_draw2 (id := 6) (.one false 0 (.one false 1 (.one false 2 (.one false 3 (.one false 4 (.one false 5 (.one false 6 (.one false 7 (.one false 8 (.one false 9 (.only 10 (.one false 11 .done)))))))))))) mixed (by decide +kernel) (by decide +kernel) ?_) | (refine opCallI_rd (by simp only [go_sem, hs, decide_eq_false hne, Ret_eq Try.results61]; first | done | rfl) (hs1) (by rintro _ rfl; rfl) ?_; rintro _ rfl) | fail)
            symm; exact decide_eq_false fun q => hv (by rw [q.2])
        · obtain rfl : k = c2.length := by omega
          have hQ3 : c = c2 := by
            rw [List.take_length, ← hl, List.take_length] at hQ; exact hQ
          have hy : w2 = w2 ∧ c = c2 := ⟨rfl, hQ3⟩
          repeat' (first | simp only [go_sem, hs, decide_eq_true hy, Ret_eq Try.results61] | simp (disch := omega) only [arith, IntKind.bits, capMax, fill_len, elt_fill] | fail)
          symm; exact decide_eq_true ⟨g1, hQ3⟩
    · have hne : ¬ (w = w2 ∧ c = c2) := fun q => hl (by rw [q.2])
      have hb : ((c.length : Int) == (c2.length : Int)) = false := beq_eq_false_iff_ne.2 (by omega)
      rw [decide_eq_false hne]
      repeat' (first | simp only [go_sem, b1, hb, Ret_eq Try.results61] | simp (disch := omega) only [arith, IntKind.bits, capMax, fill_len, elt_fill] | fail)
  · have b1 : (w == w2) = false := beq_eq_false_iff_ne.2 g1
    rw [decide_eq_false (fun q => g1 q.1)]
    repeat' (first | simp only [go_sem, b1, Ret_eq Try.results61] | simp (disch := omega) only [arith, IntKind.bits, capMax, fill_len, elt_fill] | fail)
end Go.Proofs.Ytpkampecmlpfmaa.T

end
section
set_option linter.unusedSimpArgs false
set_option linter.unusedVariables false
/- Law on samples: any step, how many there are, and what any sample makes. -/
namespace Go.Proofs.Ytpkampecmlpfmaa.T
open Go Go.VL Go.Proofs
set_option maxRecDepth 100000
set_option maxHeartbeats 8000000
theorem tnew_both (n : Int) (h : n ≤ 9223372036854775807) : ∃ x e, (Fun Try.prog 77 [.v (.int .i64 n)] fun r => r = .tup [trainD x 0 [], .v (.int .i64 e)]) ∧ Fun Try.prog 80 [.v (.int .i64 n)] fun r => r = .tup [trainD x 0 [], .v (.int .i64 e)] := by
  by_cases q : 0 ≤ n
  · exact ⟨_, _, trainNew_fun n ⟨q, h⟩, refTNew_fun n ⟨q, h⟩⟩
  · exact ⟨_, _, trainNew_bad n (by omega), refTNew_bad n (by omega)⟩
def incT (x : Int) : Int := IntKind.wrap .i16 (x + 1)
def rowT (c : List Int) : List Int := fill (fun t => incT (c.getD t 0)) c c.length
theorem b3_low {i : Nat} : (3000 + i < 2000) = False := eq_false (by omega)

theorem trainDoes_law (hS : Sorted16) (seed : Int) (x a : Int) (s : List (List Int)) (x2 a2 : Int) (s2 : List (List Int)) (dim : Int) (ids : List Int) (vecs : List (List Int)) (budget all : Int) (w : Int) (cuts : List (List Int))
    (hsd : seed ≤ 9223372036854775807) (hx : 0 ≤ x ∧ x < 18446744073709551616) (hI : I16r s) (hc : I16r cuts) : Fun Try.prog 22 [.v (.int .i64 seed), trainD x a s, trainD x2 a2 s2, slotsD dim ids vecs, .v (.int .i64 budget), .v (.int .i64 all), bookD w cuts] fun r => r = .v (.bool true) := by
  have hl := trainLive_fun
  have hf1 := fewT_fun x a s
  by_cases g1 : fewT s
  · rw [decide_eq_true g1] at hf1
    have hf2 := fewT_fun x2 a2 s2
    by_cases g2 : fewT s2
    · rw [decide_eq_true g2] at hf2
      have hf3 := fewSlots_fun dim ids vecs
      by_cases g3 : fewSlots ids vecs
      · rw [decide_eq_true g3] at hf3
        have hf4 := few_fun w cuts
        by_cases g4 : fewB cuts = true
        · rw [g4] at hf4
          have hv : ∀ c ∈ vecs, c.length ≤ 500 := fun c hc => by have := g3.1 c hc; omega
          have hv1 : ∀ c ∈ s, c.length ≤ 500 := fun c hc => by have := g1.1 c hc; omega
          have hs100 := g1.2
          have hcp := refTCopy_fun x a s (by omega) hv1
          obtain ⟨xn, en, hn1, hn2⟩ := tnew_both seed hsd
          have hs1 := refTSame_fun xn 0 [] xn 0 []
          rw [decide_eq_true ⟨rfl, rfl, rfl⟩] at hs1
          have hst1 := steps_fun x a s budget all
          have hst2 := refSteps_fun x a s budget all
          have he1 := trainEnd_fun hS x a s w cuts hx hI
          have he2 := refTEnd_fun x a s w cuts hx hI hc
          have hbs := refBookSame_fun (endW x a s w cuts) (endC x a s w cuts) (endW x a s w cuts) (endC x a s w cuts)
          rw [decide_eq_true ⟨rfl, rfl⟩] at hbs
          have hs4 := refTSame_fun x a s x a s
          rw [decide_eq_true ⟨rfl, rfl, rfl⟩] at hs4
          have hs5 := refTSame_fun x a s x2 a2 s2
          have hs6 := trainSame_fun x a s x2 a2 s2
          have hc1 := trainCheck_fun x a s
          have hc2 := refTCheck_fun x a s
          simp only [trainD, rows_nil] at hn1 hn2 hs1
          by_cases z : chkOk a s budget all ∧ slotsOk dim ids vecs
          · have hpo := step_own x a s dim ids vecs budget all z.1 z.2 (by omega)
            have hp2 := refStep_fun x a s dim ids vecs budget all z.1 z.2 (by omega) hx hv1 hv
            have hgl := gathered_length (x := x) (ids := ids) (vecs := vecs) (n := stepN a budget all)
            have hsn := stepN_le (a := a) (budget := budget) (all := all) (by have := z.1.2.1.1; omega)
            have hrl : ∀ c ∈ s ++ gathered x ids vecs (stepN a budget all), c.length ≤ 500 := fun c hc => by
              rcases List.mem_append.1 hc with q | q
              · exact hv1 c q
              · obtain ⟨j, j1, _, j3, _⟩ := gathered_mem z.2 q
                rw [j3]
                by_cases jj : j < vecs.length
                · exact hv _ (getD_mem jj)
                · rw [show vecs.getD j [] = [] by simp [List.getD, List.getElem?_eq_none (Nat.le_of_not_lt jj)]]; exact Nat.zero_le _
            have hGl : (s ++ gathered x ids vecs (stepN a budget all)).length ≤ 2000 := by
              rw [List.length_append]; have := z.1.2.1.2; omega
            generalize s ++ gathered x ids vecs (stepN a budget all) = G at *
            generalize nx x (stepN a budget all) = y at *
            generalize decide (all ≤ a + stepN a budget all) = dn at *
            generalize a + ((stepN a budget all : Nat) : Int) = ay at *
            have hs2 := refTSame_fun y ay G y ay G
            rw [decide_eq_true ⟨rfl, rfl, rfl⟩] at hs2
            generalize trainE a s = te at *
            generalize chkE a s budget all = ce at *
            generalize (if chkOk a s budget all then (max (all - a) 0 + budget - 1) / budget else 0) = sn at *
            generalize endE x a s w cuts = ee at *
            generalize endW x a s w cuts = ew at *
            generalize endC x a s w cuts = ec at *
            generalize decide (x = x2 ∧ a = a2 ∧ s = s2) = sm at *
            refine Fun.of_awpS Try.func22 rfl cal22 Try.ntmps22 (by simp) fun hwf => ?_
            simp only [D.wfs, D.wf, ints_wfs, rows_wfs, ints_length, rows_length, and_true, true_and] at hwf
            repeat refine awpS_seq ?_
            refine awpS_last ?_
            repeat' (first | simp only [go_sem, beq_self_eq_true, Ret_eq Try.results22] | fail)
            repeat refine awpS_seq ?_
            refine awpS_last ?_
            repeat' (first | simp only [go_sem, beq_self_eq_true, Ret_eq Try.results22] | (refine opCallI_rd (by simp only [go_sem, beq_self_eq_true, Ret_eq Try.results22]; first | done | rfl) (hl) (by rintro _ rfl; rfl) ?_; rintro _ rfl) | fail)
            repeat refine awpS_seq ?_
            refine awpS_last ?_
            repeat' (first | simp only [go_sem, beq_self_eq_true, Ret_eq Try.results22] | fail)
            repeat refine awpS_seq ?_
            refine awpS_last ?_
            repeat' (first | simp only [go_sem, beq_self_eq_true, Ret_eq Try.results22] | fail)
            repeat refine awpS_seq ?_
            refine awpS_last ?_
            repeat' (first | simp only [go_sem, beq_self_eq_true, Ret_eq Try.results22] | (refine opCallI_rd (by simp only [go_sem, beq_self_eq_true, Ret_eq Try.results22]; first | done | rfl) (hf1) (by rintro _ rfl; rfl) ?_; rintro _ rfl) | (refine opCallI_rd (by simp only [go_sem, beq_self_eq_true, Ret_eq Try.results22]; first | done | rfl) (hf2) (by rintro _ rfl; rfl) ?_; rintro _ rfl) | (refine opCallI_rd (by simp only [go_sem, beq_self_eq_true, Ret_eq Try.results22]; first | done | rfl) (hf3) (by rintro _ rfl; rfl) ?_; rintro _ rfl) | (refine opCallI_rd (by simp only [go_sem, beq_self_eq_true, Ret_eq Try.results22]; first | done | rfl) (hf4) (by rintro _ rfl; rfl) ?_; rintro _ rfl) | fail)
            repeat refine awpS_seq ?_
            refine awpS_last ?_
            repeat' (first | simp only [go_sem, beq_self_eq_true, Ret_eq Try.results22] | fail)
            repeat refine awpS_seq ?_
            refine awpS_last ?_
            repeat' (first | simp only [go_sem, beq_self_eq_true, Ret_eq Try.results22] | (refine opCallI_gv (by simp only [go_sem, beq_self_eq_true, Ret_eq Try.results22]; first | done | rfl) (hcp) ?_; rintro _ rfl) | fail)
            repeat refine awpS_seq ?_
            refine awpS_last ?_
            repeat' (first | simp only [go_sem, beq_self_eq_true, Ret_eq Try.results22] | (refine opCallI_gv (by simp only [go_sem, beq_self_eq_true, Ret_eq Try.results22]; first | done | rfl) (hn1) ?_; rintro _ rfl) | fail)
            repeat refine awpS_seq ?_
            refine awpS_last ?_
            repeat' (first | simp only [go_sem, beq_self_eq_true, Ret_eq Try.results22] | (refine opCallI_gv (by simp only [go_sem, beq_self_eq_true, Ret_eq Try.results22]; first | done | rfl) (hn2) ?_; rintro _ rfl) | fail)
            repeat refine awpS_seq ?_
            refine awpS_nth 4 rfl rfl ?_
            repeat' (first | simp only [go_sem, Ret_eq Try.results22] | fail)
            refine opX_callM0 (al := [trainD x a s, slotsD dim ids vecs, .v (.int .i64 budget), .v (.int .i64 all)]) 2000 [(4, .v (.int .i64 budget)), (5, .v (.int .i64 all)), (8, .adr 8 0 0), (9, .adr 9 0 0), (10, .adr 10 0 0), (13, .adr 13 0 0), (15, .v (.bool true)), (16, .adr 16 0 0), (17, .adr 17 0 0), (18, .v (.int .i64 en)), (19, .adr 19 0 0), (20, .v (.int .i64 en))]
              [(8, ⟨99, 3, [trainD x a s]⟩), (9, ⟨99, 3, [trainD x2 a2 s2]⟩), (10, ⟨45, 3, [slotsD dim ids vecs]⟩), (13, ⟨73, 2, [bookD w cuts]⟩), (16, ⟨99, 3, [trainD x a s]⟩), (17, ⟨99, 3, [.agg [.v (.int .u64 xn), .v (.int .i64 0), .lst []]]⟩), (19, ⟨99, 3, [.agg [.v (.int .u64 xn), .v (.int .i64 0), .lst []]]⟩)] rfl rfl (by simp only [go_sem, Ret_eq Try.results22]) (by rfl) (by simp only [go_sem, Ret_eq Try.results22]) hpo (by simp only [go_sem, Ret_eq Try.results22]) (by rfl) (by simp only [go_sem, Ret_eq Try.results22]) (by rfl) ?_ ?_
            · rintro _ _ ⟨rfl, rfl⟩
              exact ⟨rfl, ownV_ge⟩
            rintro _ _ ⟨rfl, rfl⟩
            repeat' (first | simp only [go_sem, Ret_eq Try.results22] | fail)
            repeat refine awpS_seq ?_
            refine awpS_last ?_
            repeat' (first | simp only [go_sem, Ret_eq Try.results22] | (refine opCallI_gv (by simp only [go_sem, Ret_eq Try.results22]; first | done | rfl) (hp2) ?_; rintro _ rfl) | fail)
            repeat refine awpS_seq ?_
            refine awpS_last ?_
            repeat' (first | simp only [go_sem, Ret_eq Try.results22] | (refine opCallI_rd (by simp only [go_sem, Ret_eq Try.results22]; first | done | rfl) (hst1) (by rintro _ rfl; rfl) ?_; rintro _ rfl) | fail)
            repeat refine awpS_seq ?_
            refine awpS_last ?_
            repeat' (first | simp only [go_sem, Ret_eq Try.results22] | (refine opCallI_rd (by simp only [go_sem, Ret_eq Try.results22]; first | done | rfl) (hst2) (by rintro _ rfl; rfl) ?_; rintro _ rfl) | fail)
            repeat refine awpS_seq ?_
            refine awpS_last ?_
            repeat' (first | simp only [go_sem, Ret_eq Try.results22] | (refine opCallI_gv (by simp only [go_sem, Ret_eq Try.results22]; first | done | rfl) (he1) ?_; rintro _ rfl) | fail)
            repeat refine awpS_seq ?_
            refine awpS_last ?_
            repeat' (first | simp only [go_sem, Ret_eq Try.results22] | (refine opCallI_gv (by simp only [go_sem, Ret_eq Try.results22]; first | done | rfl) (he2) ?_; rintro _ rfl) | fail)
            repeat refine awpS_seq ?_
            refine awpS_nthG 11 rfl rfl rfl ?_
            repeat' (first | simp only [go_sem, beq_self_eq_true, rows_nil, Ret_eq Try.results22] | (refine opCallI_rd (by simp only [go_sem, beq_self_eq_true, rows_nil, Ret_eq Try.results22]; first | done | rfl) (hs1) (by rintro _ rfl; rfl) ?_; rintro _ rfl) | fail)
            have hCl : (List.range G.length).map (fun i => D.lst (ints .i16 (G.getD i []))) = rows .i16 G := by
              refine List.ext_getElem? fun i => ?_
              rw [List.getElem?_map]
              by_cases q : i < G.length
              · rw [List.getElem?_range q, rows_get (by omega)]; rfl
              · rw [List.getElem?_eq_none (by simp; omega), List.getElem?_eq_none (by rw [rows_length]; omega)]; rfl
            refine opX_look (Weak.freezes1 (ob := 2000) (base := 3000) (n := G.length) (S := 1) (So := 1) (e := 23) (eo := 46) (fun i => ints .i16 (G.getD i [])) (lensOf G) [(125, .agg [.v (.int .u64 y), .v (.int .i64 ay), .ref 2000 G.length]), (126, trainD y ay G)] []
              (by decide) (by simp only [go_sem, Ret_eq Try.results22]) (by rfl) (by simp only [go_sem, Ret_eq Try.results22]) (by rfl) (by simp only [go_sem, ownV_out, refsV_kills, Ret_eq Try.results22]; rfl) (fun j hj => by
                simp only [go_sem, b3_ne, b3_low, ownV_at hj, Ret_eq Try.results22]) (fun j hj => ⟨ints_noRefs, ints_nrms, ints_width1, by rw [ints_length]; rfl⟩)) rfl rfl (by simp only [go_sem, hCl, Ret_eq Try.results22]; first | done | rfl) hs2 (by rintro _ rfl; rfl) ?_
            rintro _ rfl
            repeat' (first | simp only [go_sem, beq_self_eq_true, Ret_eq Try.results22] | (refine opCallI_rd (by simp only [go_sem, beq_self_eq_true, Ret_eq Try.results22]; first | done | rfl) (hbs) (by rintro _ rfl; rfl) ?_; rintro _ rfl) | fail)
            repeat refine awpS_seq ?_
            refine awpS_last ?_
            repeat' (first | simp only [go_sem, ownV_out, refsV_kills, refsV_length, Ret_eq Try.results22] | fail)
            repeat refine awpS_seq ?_
            refine awpS_last ?_
            repeat' (first | simp only [go_sem, ownV_out, refsV_kills, refsV_length, Ret_eq Try.results22] | fail)
            refine awpI_for G.length (fun _ => True) (fun i => [(162, .v (.int .i64 i))]) (fun i => rowsV 23 G.length fun j => if j < i then rowT (G.getD j []) else G.getD j []) [8, 9, 15, 16, 21, 35, 161] [8, 9, 16, 21, 2000] _ (Weak.refl _) trivial ?_ ?_ ?_
            · simp only [go_sem, Ret_eq Try.results22]
            · rw [Heaps_rowsV]
              intro j hj
              simp only [go_sem, b3_ne, b3_low, ownV_at hj, ints_kills, Ret_eq Try.results22]
              rw [if_neg (Nat.not_lt_zero j)]
            · intro i st hi _ hs
              simp only [go_sem, Heaps_rowsV, ownV_out, refsV_kills, Ret_eq Try.results22] at hs
              have hco := hs.2.2.1
              by_cases hin : i < G.length
              · have mg := refsV_get (g := lensOf G) hin
                have hci := hco i hin
                rw [if_neg (Nat.lt_irrefl i)] at hci
                have hl0 : (G.getD i []).length = lensOf G i := rfl
                have hlb : lensOf G i ≤ 500 := hrl _ (getD_mem (by omega))
                have hry : rowT (G.getD i []) = fill (fun t => incT ((G.getD i []).getD t 0)) (G.getD i []) (lensOf G i) := rfl
                repeat' (first | simp only [go_sem, hs, mg, hci, hl0, b3_ne, refsV_length, Ret_eq Try.results22] | simp (disch := omega) only [arith, IntKind.bits, capMax, fill_len, elt_fill] | fail)
                refine awpI_for (lensOf G i) (fun _ => True) (fun k => [(171, .v (.int .i64 k))]) (fun k => rowsV 23 G.length fun j => if j < i then rowT (G.getD j []) else if j = i then fill (fun t => incT ((G.getD i []).getD t 0)) (G.getD i []) k else G.getD j []) [8, 9, 15, 16, 21, 35, 36, 161, 162, 170] [8, 9, 16, 21, 2000] _ (Weak.refl _) trivial ?_ ?_ ?_
                · simp only [go_sem, hs, Ret_eq Try.results22]
                · rw [Heaps_rowsV]
                  intro j hj
                  have := hco j hj
                  simp only [go_sem, hs, b3_ne, this, fill_zero, Ret_eq Try.results22]
                  by_cases q : j < i
                  · rw [if_pos q, if_pos q]
                  · rw [if_neg q, if_neg q]
                    by_cases q2 : j = i
                    · rw [if_pos q2, q2]
                    · rw [if_neg q2]
                · intro k st2 hk _ hs2
                  simp only [go_sem, hs, Heaps_rowsV, refsV_kills, Ret_eq Try.results22] at hs2
                  have hco2 := hs2.2.2.1
                  by_cases hkm : k < lensOf G i
                  · have hc2 := hco2 i hin
                    rw [if_neg (Nat.lt_irrefl i), if_pos rfl] at hc2
                    have hfl : (fill (fun t => incT ((G.getD i []).getD t 0)) (G.getD i []) k).length = lensOf G i := by rw [fill_len (by omega), hl0]
                    have hat : (fill (fun t => incT ((G.getD i []).getD t 0)) (G.getD i []) k).getD k 0 = (G.getD i []).getD k 0 := fill_at (by omega)
                    have hst := fill_set (f := fun t => incT ((G.getD i []).getD t 0)) (a := G.getD i []) (k := k) (by omega)
                    rw [show incT ((G.getD i []).getD k 0) = IntKind.wrap .i16 ((G.getD i []).getD k 0 + 1) from rfl] at hst
                    repeat' (first | simp only [go_sem, hs, hs2, mg, hc2, hfl, hat, b3_ne, b3_ne', refsV_length, Ret_eq Try.results22] | simp (disch := omega) only [arith, IntKind.bits, capMax, fill_len, elt_fill] | (refine Again.up (by omega) ?_ ?_) | fail)
                    all_goals
                      rw [Heaps_rowsV]
                      intro j hj
                      have := hco2 j hj
                      simp only [go_sem, hs2, b3_ne, this, Ret_eq Try.results22]
                      by_cases q2 : j = i
                      · subst q2
                        rw [if_pos rfl, if_neg (Nat.lt_irrefl j), if_pos rfl, hst]
                      · rw [if_neg (by omega), if_neg q2, if_neg q2]
                  · obtain rfl : k = lensOf G i := by omega
                    have hc2 := hco2 i hin
                    rw [if_neg (Nat.lt_irrefl i), if_pos rfl] at hc2
                    repeat' (first | simp only [go_sem, hs, hs2, mg, hc2, b3_ne, b3_ne', refsV_length, Ret_eq Try.results22] | simp (disch := omega) only [arith, IntKind.bits, capMax, fill_len, elt_fill] | (refine Again.up (by omega) ?_ ?_) | fail)
                    refine ⟨?_, by simp only [go_sem, ownV_out, refsV_kills, Ret_eq Try.results22]⟩
                    rw [Heaps_rowsV]
                    intro j hj
                    have := hco2 j hj
                    simp only [go_sem, hs2, b3_ne, this, Ret_eq Try.results22]
                    by_cases q : j < i
                    · rw [if_pos q, if_pos (by omega)]
                    · rw [if_neg q]
                      by_cases q2 : j = i
                      · rw [if_pos q2, if_pos (by omega), q2, hry]
                      · rw [if_neg q2, if_neg (by omega)]
              · obtain rfl : i = G.length := by omega
                repeat' (first | simp only [go_sem, hs, Ret_eq Try.results22] | simp (disch := omega) only [arith, IntKind.bits, capMax, fill_len, elt_fill] | fail)
                repeat refine awpS_seq ?_
                refine awpS_last ?_
                repeat' (first | simp only [go_sem, hs, beq_self_eq_true, Ret_eq Try.results22] | (refine awpI_draw2 (id := 25) (.one false 0 (.one false 1 (.one false 2 (.one false 3 (.one false 4 (.one false 5 (.cal 7 [6] (.only 6 (.only 8 (.one false 9 (.one false 10 (.one false 11 (.one false 12 (.one false 13 (.cal 15 [14] (.cal 16 [14] (.only 14 (.only 17 (.one false 18 (.one false 19 (.one false 20 (.one false 21 (.one false 22 (.only 23 (.one false 24 (.one false 25 .done)))))))))))))))))))))))))) mixed (by decide +kernel) (by decide +kernel) ?_) | (refine opCallI_rd (by simp only [go_sem, hs, beq_self_eq_true, Ret_eq Try.results22]; first | done | rfl) (hc1) (by rintro _ rfl; rfl) ?_; rintro _ rfl) | (refine opCallI_rd (by simp only [go_sem, hs, beq_self_eq_true, Ret_eq Try.results22]; first | done | rfl) (hc2) (by rintro _ rfl; rfl) ?_; rintro _ rfl) | (refine opCallI_rd (by simp only [go_sem, hs, beq_self_eq_true, Ret_eq Try.results22]; first | done | rfl) (hs6) (by rintro _ rfl; rfl) ?_; rintro _ rfl) | (refine opCallI_rd (by simp only [go_sem, hs, beq_self_eq_true, Ret_eq Try.results22]; first | done | rfl) (hs5) (by rintro _ rfl; rfl) ?_; rintro _ rfl) | (refine opCallI_rd (by simp only [go_sem, hs, beq_self_eq_true, Ret_eq Try.results22]; first | done | rfl) (hs4) (by rintro _ rfl; rfl) ?_; rintro _ rfl) | fail)
                all_goals
                  refine awpS_last ?_
                  repeat' (first | simp only [go_sem, hs, beq_self_eq_true, Ret_eq Try.results22] | fail)
          · have hp1 := step_bad x a s dim ids vecs budget all z
            have hp2 := refStep_bad x a s dim ids vecs budget all z
            have hs2 := refTSame_fun 0 0 [] 0 0 []
            rw [decide_eq_true ⟨rfl, rfl, rfl⟩] at hs2
            simp only [trainD, rows_nil] at hp1 hp2 hs2
            generalize trainE a s = te at *
            generalize chkE a s budget all = ce at *
            generalize (if chkOk a s budget all then (max (all - a) 0 + budget - 1) / budget else 0) = sn at *
            generalize endE x a s w cuts = ee at *
            generalize endW x a s w cuts = ew at *
            generalize endC x a s w cuts = ec at *
            generalize decide (x = x2 ∧ a = a2 ∧ s = s2) = sm at *
            refine Fun.of_awpI Try.func22 rfl cal22 Try.ntmps22 (by simp) fun hwf => ?_
            simp only [D.wfs, D.wf, ints_length, ints_wfs, rows_length, rows_wfs, capMax, and_true, true_and] at hwf
            repeat' (first | simp only [go_sem, beq_self_eq_true, Ret_eq Try.results22] | (refine opCallI_rd (by simp only [go_sem, beq_self_eq_true, Ret_eq Try.results22]; first | done | rfl) (hl) (by rintro _ rfl; rfl) ?_; rintro _ rfl) | (refine opCallI_rd (by simp only [go_sem, beq_self_eq_true, Ret_eq Try.results22]; first | done | rfl) (hf1) (by rintro _ rfl; rfl) ?_; rintro _ rfl) | (refine opCallI_rd (by simp only [go_sem, beq_self_eq_true, Ret_eq Try.results22]; first | done | rfl) (hf2) (by rintro _ rfl; rfl) ?_; rintro _ rfl) | (refine opCallI_rd (by simp only [go_sem, beq_self_eq_true, Ret_eq Try.results22]; first | done | rfl) (hf3) (by rintro _ rfl; rfl) ?_; rintro _ rfl) | (refine opCallI_rd (by simp only [go_sem, beq_self_eq_true, Ret_eq Try.results22]; first | done | rfl) (hf4) (by rintro _ rfl; rfl) ?_; rintro _ rfl) | (refine opCallI_gv (by simp only [go_sem, beq_self_eq_true, Ret_eq Try.results22]; first | done | rfl) (hcp) ?_; rintro _ rfl) | (refine opCallI_gv (by simp only [go_sem, beq_self_eq_true, Ret_eq Try.results22]; first | done | rfl) (hn1) ?_; rintro _ rfl) | (refine opCallI_gv (by simp only [go_sem, beq_self_eq_true, Ret_eq Try.results22]; first | done | rfl) (hn2) ?_; rintro _ rfl) | (refine opCallI_gv (by simp only [go_sem, beq_self_eq_true, Ret_eq Try.results22]; first | done | rfl) (hp1) ?_; rintro _ rfl) | (refine opCallI_gv (by simp only [go_sem, beq_self_eq_true, Ret_eq Try.results22]; first | done | rfl) (hp2) ?_; rintro _ rfl) | (refine opCallI_rd (by simp only [go_sem, beq_self_eq_true, Ret_eq Try.results22]; first | done | rfl) (hst1) (by rintro _ rfl; rfl) ?_; rintro _ rfl) | (refine opCallI_rd (by simp only [go_sem, beq_self_eq_true, Ret_eq Try.results22]; first | done | rfl) (hst2) (by rintro _ rfl; rfl) ?_; rintro _ rfl) | (refine opCallI_gv (by simp only [go_sem, beq_self_eq_true, Ret_eq Try.results22]; first | done | rfl) (he1) ?_; rintro _ rfl) | (refine opCallI_gv (by simp only [go_sem, beq_self_eq_true, Ret_eq Try.results22]; first | done | rfl) (he2) ?_; rintro _ rfl) | (refine opCallI_rd (by simp only [go_sem, beq_self_eq_true, Ret_eq Try.results22]; first | done | rfl) (hs1) (by rintro _ rfl; rfl) ?_; rintro _ rfl) | (refine opCallI_rd (by simp only [go_sem, beq_self_eq_true, Ret_eq Try.results22]; first | done | rfl) (hs2) (by rintro _ rfl; rfl) ?_; rintro _ rfl) | (refine opCallI_rd (by simp only [go_sem, beq_self_eq_true, Ret_eq Try.results22]; first | done | rfl) (hbs) (by rintro _ rfl; rfl) ?_; rintro _ rfl) | fail)
            refine awpI_for 0 (fun _ => True) (fun _ => [(162, .v (.int .i64 0))]) (fun _ => []) [8, 9, 15, 16, 21, 35, 161] [8, 9, 16, 21] _ (Weak.refl _) trivial ?_ ?_ ?_
            · simp only [go_sem, Ret_eq Try.results22]
            · simp only [go_sem, Ret_eq Try.results22]
            · intro k2 st hk2 _ hs
              simp only [go_sem, Ret_eq Try.results22] at hs
              repeat' (first | simp only [go_sem, hs, beq_self_eq_true, Ret_eq Try.results22] | (refine awpI_draw2 (id := 25) (.one false 0 (.one false 1 (.one false 2 (.one false 3 (.one false 4 (.one false 5 (.cal 7 [6] (.only 6 (.only 8 (.one false 9 (.one false 10 (.one false 11 (.one false 12 (.one false 13 (.cal 15 [14] (.cal 16 [14] (.only 14 (.only 17 (.one false 18 (.one false 19 (.one false 20 (.one false 21 (.one false 22 (.only 23 (.one false 24 (.one false 25 .done)))))))))))))))))))))))))) mixed (by decide +kernel) (by decide +kernel) ?_) | (refine opCallI_rd (by simp only [go_sem, hs, beq_self_eq_true, Ret_eq Try.results22]; first | done | rfl) (hc1) (by rintro _ rfl; rfl) ?_; rintro _ rfl) | (refine opCallI_rd (by simp only [go_sem, hs, beq_self_eq_true, Ret_eq Try.results22]; first | done | rfl) (hc2) (by rintro _ rfl; rfl) ?_; rintro _ rfl) | (refine opCallI_rd (by simp only [go_sem, hs, beq_self_eq_true, Ret_eq Try.results22]; first | done | rfl) (hs6) (by rintro _ rfl; rfl) ?_; rintro _ rfl) | (refine opCallI_rd (by simp only [go_sem, hs, beq_self_eq_true, Ret_eq Try.results22]; first | done | rfl) (hs5) (by rintro _ rfl; rfl) ?_; rintro _ rfl) | (refine opCallI_rd (by simp only [go_sem, hs, beq_self_eq_true, Ret_eq Try.results22]; first | done | rfl) (hs4) (by rintro _ rfl; rfl) ?_; rintro _ rfl) | fail)
              all_goals skip
        · rw [Bool.not_eq_true] at g4
          rw [g4] at hf4
          refine Fun.of_awpI Try.func22 rfl cal22 Try.ntmps22 (by simp) fun hwf => ?_
          simp only [D.wfs, D.wf, ints_length, ints_wfs, rows_length, rows_wfs, capMax, and_true, true_and] at hwf
          repeat' (first | simp only [go_sem, Ret_eq Try.results22] | (refine opCallI_rd (by simp only [go_sem, Ret_eq Try.results22]; first | done | rfl) (hl) (by rintro _ rfl; rfl) ?_; rintro _ rfl) | (refine opCallI_rd (by simp only [go_sem, Ret_eq Try.results22]; first | done | rfl) (hf1) (by rintro _ rfl; rfl) ?_; rintro _ rfl) | (refine opCallI_rd (by simp only [go_sem, Ret_eq Try.results22]; first | done | rfl) (hf2) (by rintro _ rfl; rfl) ?_; rintro _ rfl) | (refine opCallI_rd (by simp only [go_sem, Ret_eq Try.results22]; first | done | rfl) (hf3) (by rintro _ rfl; rfl) ?_; rintro _ rfl) | (refine opCallI_rd (by simp only [go_sem, Ret_eq Try.results22]; first | done | rfl) (hf4) (by rintro _ rfl; rfl) ?_; rintro _ rfl) | fail)
      · rw [decide_eq_false g3] at hf3
        refine Fun.of_awpI Try.func22 rfl cal22 Try.ntmps22 (by simp) fun hwf => ?_
        simp only [D.wfs, D.wf, ints_length, ints_wfs, rows_length, rows_wfs, capMax, and_true, true_and] at hwf
        repeat' (first | simp only [go_sem, Ret_eq Try.results22] | (refine opCallI_rd (by simp only [go_sem, Ret_eq Try.results22]; first | done | rfl) (hl) (by rintro _ rfl; rfl) ?_; rintro _ rfl) | (refine opCallI_rd (by simp only [go_sem, Ret_eq Try.results22]; first | done | rfl) (hf1) (by rintro _ rfl; rfl) ?_; rintro _ rfl) | (refine opCallI_rd (by simp only [go_sem, Ret_eq Try.results22]; first | done | rfl) (hf2) (by rintro _ rfl; rfl) ?_; rintro _ rfl) | (refine opCallI_rd (by simp only [go_sem, Ret_eq Try.results22]; first | done | rfl) (hf3) (by rintro _ rfl; rfl) ?_; rintro _ rfl) | fail)
    · rw [decide_eq_false g2] at hf2
      refine Fun.of_awpI Try.func22 rfl cal22 Try.ntmps22 (by simp) fun hwf => ?_
      simp only [D.wfs, D.wf, ints_length, ints_wfs, rows_length, rows_wfs, capMax, and_true, true_and] at hwf
      repeat' (first | simp only [go_sem, Ret_eq Try.results22] | (refine opCallI_rd (by simp only [go_sem, Ret_eq Try.results22]; first | done | rfl) (hl) (by rintro _ rfl; rfl) ?_; rintro _ rfl) | (refine opCallI_rd (by simp only [go_sem, Ret_eq Try.results22]; first | done | rfl) (hf1) (by rintro _ rfl; rfl) ?_; rintro _ rfl) | (refine opCallI_rd (by simp only [go_sem, Ret_eq Try.results22]; first | done | rfl) (hf2) (by rintro _ rfl; rfl) ?_; rintro _ rfl) | fail)
  · rw [decide_eq_false g1] at hf1
    refine Fun.of_awpI Try.func22 rfl cal22 Try.ntmps22 (by simp) fun hwf => ?_
    simp only [D.wfs, D.wf, ints_length, ints_wfs, rows_length, rows_wfs, capMax, and_true, true_and] at hwf
    repeat' (first | simp only [go_sem, Ret_eq Try.results22] | (refine opCallI_rd (by simp only [go_sem, Ret_eq Try.results22]; first | done | rfl) (hl) (by rintro _ rfl; rfl) ?_; rintro _ rfl) | (refine opCallI_rd (by simp only [go_sem, Ret_eq Try.results22]; first | done | rfl) (hf1) (by rintro _ rfl; rfl) ?_; rintro _ rfl) | fail)
end Go.Proofs.Ytpkampecmlpfmaa.T

end
section
set_option linter.unusedSimpArgs false
set_option linter.unusedVariables false
/- slices.AppendSeq, slices.Collect over slices.Values: a raw walk of a range over a function. -/
namespace Go.Proofs.Ytpkampecmlpfmaa.T
open Go Go.VL Go.Proofs Go.RowKit
set_option maxRecDepth 100000
set_option maxHeartbeats 4000000
attribute [local go_sem] Oper.semAt_some
theorem info16 : (Try.prog.info? 23).map (fun i => (i.zero, i.size, i.bytes)) = some (some (.int .i16 0), 1, 2) := by kernel_rfl
theorem values1_in (F : Fence) (n : Nat) (hf : F.fn 139) (hro : F.round = none) (hn : 1 ≤ n) (l Bs Bo b off cap n0 : Nat) (zs : List Int) (hreach : zs.length ≤ 60000) (hb : b < n0) (w0 : World) (J : List Int → World → Prop)
    (hJb : ∀ pre w, J pre w → Below n0 w0 w)
    (hY : ∀ pre x W, J pre W → pre.length < zs.length → YieldAt F (n - 1) Try.prog l #[.int .i16 x] W fun e W' => e = .returned (.bool true) ∧ J (pre ++ [x]) W' ∧ KeepsWalks W W')
    (hc : ∀ j, j < zs.length → w0.cell? ⟨b, off + j, none⟩ = some (.int .i16 (zs[j]?.getD 0))) (W : World) (hBs : W.cell? ⟨Bs, Bo, none⟩ = some (.slice (some ⟨b, off, none⟩) zs.length cap)) (h0 : J [] W) :
    CallsIn F n Try.prog 139 #[.func (.yield l) #[] #[], .pointer (some ⟨Bs, Bo, none⟩)] W fun e W' => (∃ v, e = .returned v) ∧ J zs W' := by
  refine callsIn_of_wp Try.func139 rfl hf ?_ hro
  simp only [Try.ntmps139, List.size_toArray, List.length_cons, List.length_nil, Nat.reduceAdd, Nat.reduceSub, Array.replicate_succ, Array.replicate_zero, List.push_toArray, List.append_toArray, List.nil_append, List.cons_append]
  gi_wp2
  gi_loopw [7] (fun i wr => ∃ k : Nat, k ≤ zs.length ∧ i = .int .i64 k ∧ J (zs.take k) wr)
    (fun i _ => zs.length - (intOf i).toNat)
  case atStart => exact ⟨0, Nat.zero_le _, rfl, h0⟩
  case round =>
    obtain ⟨k, hk, rfl, hJs⟩ := hrel
    have hcx : k < zs.length → wr.cell? ⟨b, off + k, none⟩ = some (.int .i16 (zs[k]?.getD 0)) := fun h => ((hJb _ _ hJs).cell (p := ⟨b, off + k, none⟩) hb).trans (hc k h)
    by_cases hlt : k < zs.length
    · obtain ⟨fn, tmps, assign, body, hy, hR⟩ := hY _ zs[k] wr hJs (by rw [List.length_take]; omega)
      have hcx' := hcx hlt
      rw [show zs[k]?.getD 0 = zs[k] by simp [List.getElem?_eq_getElem hlt]] at hcx'
      gi_wp2
      refine hR.mono ?_
      rintro e W3 ⟨rfl, hJ3, hk3⟩
      gi_wp2
      go_roundw
      case rel => exact ⟨k + 1, by omega, by simp, by rw [List.take_add_one]; simpa [List.getElem?_eq_getElem hlt] using hJ3⟩
      case measure => simp [intOf]; omega
    · obtain rfl : k = zs.length := by omega
      gi_wp2
      go_end0
      rw [List.take_length] at hJs
      exact ⟨⟨_, rfl⟩, hJs⟩
/-- An iterator that gives just xs, in whatever later world, whatever the rounds keep, so they keep what lay in w. -/
def SeqB (F : Fence) (n : Nat) (g : Nat) (lb : Array Value) (xs : List Int) (N : Nat) (w : World) : Prop :=
  ∀ (l : Nat) (J : List Int → World → Prop) (W : World), Below w.heap.size w W → (∀ pre w', J pre w' → Below w.heap.size w w') →
    (∀ pre x W1, J pre W1 → pre.length < N → YieldAt F (n - 1) Try.prog l #[.int .i16 x] W1 fun e W' => e = .returned (.bool true) ∧ J (pre ++ [x]) W' ∧ KeepsWalks W1 W') →
    J [] W →
    CallsIn F n Try.prog g (#[.func (.yield l) #[] #[]] ++ lb) W fun e W' => (∃ v, e = .returned v) ∧ J xs W'
def apAssign : Code := (Code.region 2 #[{ dst := some 5, op := Op.assign (Operand.tmp 7), type := 23, pos := "iter.go:51", after := #[], guard := none }] false)
def apBody : Code := (Code.block 1 (Code.region 3 #[{ dst := some 8, op := Op.load 22 (Operand.tmp 2), type := 22, pos := "iter.go:52", after := #[], guard := none }, { dst := some 9, op := Op.move (Operand.tmp 5), type := 23, pos := "iter.go:52", after := #[], guard := none }, { dst := some 10, op := Op.buildSlice 22 1 #[(0, Operand.tmp 9)], type := 22, pos := "iter.go:52", after := #[{ on := 1, ground := Ground.data }], guard := none }, { dst := some 11, op := Op.call { callee := Callee.builtin Builtin.append, args := #[Operand.tmp 8, Operand.tmp 10], argTypes := #[22, 22] }, type := 22, pos := "iter.go:52", after := #[{ on := 0, ground := Ground.data }, { on := 2, ground := Ground.data }], guard := none }, { dst := none, op := Op.store 22 (Operand.tmp 2) (Operand.tmp 11), type := 0, pos := "iter.go:52", after := #[{ on := 3, ground := Ground.data }, { on := 3, ground := Ground.chain }, { on := 0, ground := Ground.phase }, { on := 1, ground := Ground.phase }, { on := 2, ground := Ground.phase }, { on := 3, ground := Ground.phase }], guard := none }] false))
/-- The loop's record: AppendSeq's temporaries as they stood at the entering: 's' boxed in block Bs; sv: the iterator's value. -/
def apRec (fn : FuncId) (sv : Value) (Bs D : Nat) (st : LoopState) (pend : Option Code) : Loop :=
  { state := st, pending := pend, fn, tmps := #[.slice none 0 0, sv, .pointer (some ⟨Bs, 0, none⟩), undef, .slice none 0 0, undef, sv, undef, undef, undef, undef, undef, undef], params := #[7], assign := apAssign, body := apBody, defers := D }

/-- BETWEEN TWO ROUNDS: the box holds a slice that owns, in a block of the call's own, what has come so far; IT IS nil JUST AS LONG AS NOTHING HAS COME; nothing that lay before the call has turned. -/
structure ApAt (w0 : World) (fn : FuncId) (sv : Value) (Bs l D : Nat) (ss : List Int) (W : World) : Prop where
  box : ∃ v, W.heap[Bs]? = some (.cells #[v] 22 (0, 0)) ∧ W.ownsRow w0.heap.size 23 1 v ss.length (ss.map (Value.int .i16)) ∧ (v = .slice none 0 0 ↔ ss = [])
  L : W.heap[l]? = some (.loop (apRec fn sv Bs D .ready none))
  K : W.heap[D]? = some (.deferred (some []))
  below : Below w0.heap.size w0 W

theorem grownBy_putObj (W : World) (l : Nat) (o : Obj) : W.grownBy (W.putObj l o) (some l) :=
  ⟨rfl, rfl, rfl, by simp, fun k _ hk => World.putObj_heap_other (fun e => hk (by rw [e]))⟩
theorem grownBy_setCell0 (W : World) (b : Nat) (v : Value) : W.grownBy (W.setCell ⟨b, 0, none⟩ v) (some b) :=
  ⟨rfl, rfl, rfl, (KeepsWalks.setCell W _ v).size, fun k _ hk => Below.heap_setCell _ _ _ k (fun e => hk (by rw [e]))⟩
/-- A slice's own row is not a block that holds something else than cells of its element's type. -/
theorem ownsRow_ne {W : World} {base : Nat} {e : TypeId} {size : Nat} {v : Value} {k : Nat} {xs : List Value} (h : W.ownsRow base e size v k xs) {j : Nat} {o : Obj} (hj : W.heap[j]? = some o) (hno : ∀ cur, o ≠ .cells cur e (0, 0)) :
    v.ownBlock = none ∨ v.ownBlock ≠ some j := by
  rcases h.2 with ⟨rfl, _⟩ | ⟨g, cap, cur, rfl, _, hgb, _⟩
  · exact .inl rfl
  · refine .inr fun e' => ?_
    have : g = j := by simpa [Value.ownBlock] using e'
    subst this; rw [hgb] at hj; cases hj; exact hno cur rfl
theorem cell_of_box {W : World} {B : Nat} {v : Value} {t : TypeId} (h : W.heap[B]? = some (.cells #[v] t (0, 0))) : W.cell? ⟨B, 0, none⟩ = some v ∧ W.frozen? ⟨B, 0, none⟩ = false := by
  constructor <;> simp [World.cell?, World.frozen?, h]

theorem heap_setCell_box {W : World} {B : Nat} {v : Value} {t : TypeId} (v' : Value) (h : W.heap[B]? = some (.cells #[v] t (0, 0))) : (W.setCell ⟨B, 0, none⟩ v').heap[B]? = some (.cells #[v'] t (0, 0)) := by
  obtain ⟨hlt, hk⟩ := Array.getElem?_eq_some_iff.1 h
  show (W.heap.modify B _)[B]? = _
  rw [Array.getElem?_eq_getElem (by rw [Array.size_modify]; exact hlt), Array.getElem_modify_self, hk]
  rfl
theorem ownsRow_not_walk {W : World} {base : Nat} {e : TypeId} {size : Nat} {v : Value} {k : Nat} {xs : List Value} (h : W.ownsRow base e size v k xs) : ∀ (j : Nat) (o : Obj), v.ownBlock = some j → W.heap[j]? = some o → o.isWalk = false := by
  intro j o hj ho
  rcases h.2 with ⟨rfl, _⟩ | ⟨g, cap, cur, rfl, _, hgb, _⟩
  · simp [Value.ownBlock] at hj
  · have : g = j := by simpa [Value.ownBlock] using hj
    subst this; rw [hgb] at ho; cases ho; rfl


set_option maxRecDepth 100000 in
set_option maxHeartbeats 2000000 in
theorem apYield (F : Fence) (m : Nat) (w0 : World) (fn : FuncId) (hfn : F.fn fn) (sv : Value) (Bs l D : Nat) (hBl : Bs ≠ l) (hDl : D ≠ l) (hDB : D ≠ Bs) (h0B : w0.heap.size ≤ Bs) (h0l : w0.heap.size ≤ l)
    (N : Nat) (hN : N ≤ maxLen) (hNb : N * 16 ≤ 140737488355328) (ss : List Int) (x : Int) (W : World) (h : ApAt w0 fn sv Bs l D ss W) (hlen : ss.length < N) :
    YieldAt F m Try.prog l #[.int .i16 x] W fun e W' => e = .returned (.bool true) ∧ ApAt w0 fn sv Bs l D (ss ++ [x]) W' ∧ KeepsWalks W W' := by
  obtain ⟨i0, hi, hz0, hz1, hz2⟩ := info_parts info16
  obtain ⟨v, hv, hrow, _⟩ := h.box
  refine ⟨fn, #[.slice none 0 0, sv, .pointer (some ⟨Bs, 0, none⟩), undef, .slice none 0 0, undef, sv, .int .i16 x, undef, undef, undef, undef, undef], apAssign, apBody, by simpa [apRec] using run_yield (P := Try.prog) (args := #[.int .i16 x]) h.L rfl, roundIn_of_wpIn hfn ?_⟩
  have hl : l < W.heap.size := (Array.getElem?_eq_some_iff.1 h.L).1
  have hbr := run_beginRound (P := Try.prog) h.L rfl
  obtain ⟨W2, hW2⟩ : ∃ W2, W.putObj l (.loop { apRec fn sv Bs D .ready none with state := .busy }) = W2 := ⟨_, rfl⟩
  rw [hW2] at hbr
  have hg2 : W.grownBy W2 (some l) := by rw [← hW2]; exact grownBy_putObj _ _ _
  have hk2 : KeepsWalks W W2 := by rw [← hW2]; exact KeepsWalks.putObj _ h.L rfl
  have hv2 : W2.heap[Bs]? = some (.cells #[v] 22 (0, 0)) := by rw [← hW2]; exact (World.putObj_heap_other hBl).trans hv
  have hK2 : W2.heap[D]? = some (.deferred (some [])) := by rw [← hW2]; exact (World.putObj_heap_other hDl).trans h.K
  have hL2 : W2.heap[l]? = some (.loop { apRec fn sv Bs D .ready none with state := .busy }) := by rw [← hW2]; exact World.putObj_heap_same hl
  have hrow2 : W2.ownsRow w0.heap.size 23 1 v ss.length (ss.map (Value.int .i16)) := hrow.kept hg2 (ownsRow_ne hrow h.L (fun cur e => by cases e))
  have hb2 : Below w0.heap.size w0 W2 := h.below.grown hg2 h.below.size (fun k e => by cases e; exact h0l)
  obtain ⟨hc2, hf2⟩ := cell_of_box hv2
  have hBlt : Bs < W2.heap.size := (Array.getElem?_eq_some_iff.1 hv2).1
  have hl2 : l < W2.heap.size := (Array.getElem?_eq_some_iff.1 hL2).1
  have hDlt : D < W2.heap.size := (Array.getElem?_eq_some_iff.1 hK2).1
  have ne_of : ∀ {j : Nat} {o : Obj}, W2.heap[j]? = some o → (∀ cur, o ≠ .cells cur 23 (0, 0)) → some j ≠ v.ownBlock := fun hj hno => by
    rcases ownsRow_ne hrow2 hj hno with e | e
    · rw [e]; simp
    · exact fun e' => e e'.symm
  clear hW2
  unfold apAssign
  gi_wp2_with (rw [Oper.semAt_eq _ _ _ (fun c h => by cases h)]; go_simp; try go_bits)
  unfold apBody
  gi_wp2_with (first
    | (gi_at_builtin; refine wpListIn_append_own _ rfl _ _ 22 rfl w0.heap.size 23 i0 (.int .i16 0) 1 2 Try.underlying22 hi hz0 hz1 hz2 rfl (by decide) _ _ _ rfl (hrow2.alloc _) ⟨W2.heap.size, 0, none⟩ 1 1 [.int .i16 x] rfl rfl (cell_one_new _ _ _) (by simp [Value.oneCell']) (by omega) (by omega) (by have := hb2.size; simp; omega) ?_; intro v' w3 hown' hg3 hnil3
       have hv3 : w3.heap[Bs]? = some (.cells #[v] 22 (0, 0)) := (hg3.block Bs (by simp; omega) (ne_of hv2 (fun cur e => by cases e))).trans ((Below.heap_alloc _ _ Bs hBlt).trans hv2)
       obtain ⟨hc3, hf3⟩ := cell_of_box hv3
       obtain ⟨g', cap', cur', rfl, hbase', hgb', hr1, hr2, hr3, hr4⟩ : ∃ g' cap' cur', v' = .slice (some ⟨g', 0, none⟩) (ss.length + 1) cap' ∧ w0.heap.size ≤ g' ∧ w3.heap[g']? = some (.cells cur' 23 (0, 0)) ∧ ss.length + 1 ≤ cap' ∧ cap' ≤ maxLen ∧ cur'.size = cap' * 1 ∧ cur'.toList.take ((ss.length + 1) * 1) = ss.map (Value.int .i16) ++ [.int .i16 x] := by
         rcases hown'.2 with ⟨_, h0⟩ | h'
         · exact absurd h0 (by omega)
         · exact h'
       simp only [Act.put, List.setIfInBounds_toArray, List.set_cons_succ, List.set_cons_zero])
    | (rw [Oper.semAt_eq _ _ _ (fun c h => by cases h)]; go_simp; try go_bits))
  have hg3' : (W2.alloc (.cells #[.int .i16 x] 23)).grownBy w3 v.ownBlock := hg3
  have hL3 : w3.heap[l]? = some (.loop { apRec fn sv Bs D .ready none with state := .busy }) := (hg3'.block l (by simp; omega) (ne_of hL2 (fun cur e => by cases e))).trans ((Below.heap_alloc _ _ l hl2).trans hL2)
  have hK3 : w3.heap[D]? = some (.deferred (some [])) := (hg3'.block D (by simp; omega) (ne_of hK2 (fun cur e => by cases e))).trans ((Below.heap_alloc _ _ D hDlt).trans hK2)
  obtain ⟨w4, hw4⟩ : ∃ w4, w3.setCell ⟨Bs, 0, none⟩ (.slice (some ⟨g', 0, none⟩) (ss.length + 1) cap') = w4 := ⟨_, rfl⟩
  rw [hw4]
  have hg4 : w3.grownBy w4 (some Bs) := by rw [← hw4]; exact grownBy_setCell0 _ _ _
  have hv4 : w4.heap[Bs]? = some (.cells #[.slice (some ⟨g', 0, none⟩) (ss.length + 1) cap'] 22 (0, 0)) := by rw [← hw4]; exact heap_setCell_box _ hv3
  have hL4 : w4.heap[l]? = some (.loop { apRec fn sv Bs D .ready none with state := .busy }) := (hg4.block l (Array.getElem?_eq_some_iff.1 hL3).1 (fun e => hBl (by cases e; rfl))).trans hL3
  have hK4 : w4.heap[D]? = some (.deferred (some [])) := (hg4.block D (Array.getElem?_eq_some_iff.1 hK3).1 (fun e => hDB (by cases e; rfl))).trans hK3
  have hrow4 := hown'.kept hg4 (ownsRow_ne hown' hv3 (fun cur e => by cases e))
  have hl4 : l < w4.heap.size := (Array.getElem?_eq_some_iff.1 hL4).1
  have hb3 : Below w0.heap.size w0 w3 := (hb2.alloc hb2.size _).grown hg3' (by have := hb2.size; simp; omega) (fun k e => (hrow2.lt k e).1)
  have hb4 : Below w0.heap.size w0 w4 := hb3.grown hg4 hb3.size (fun k e => by cases e; exact h0B)
  have hk4 : KeepsWalks W w4 := ((hk2.trans (KeepsWalks.alloc _ _)).trans (KeepsWalks.of_grownBy hg3' (ownsRow_not_walk (hrow2.alloc _)))).trans (by rw [← hw4]; exact KeepsWalks.setCell _ _ _)
  clear hw4
  refine ⟨_, _, run_endRound none hL4, rfl, ⟨⟨_, (World.putObj_heap_other hBl).trans hv4, ?_, by simp⟩, World.putObj_heap_same hl4, (World.putObj_heap_other hDl).trans hK4, hb4.grown (grownBy_putObj _ _ _) hb4.size (fun k e => by cases e; exact h0l)⟩, hk4.trans (KeepsWalks.putObj _ hL4 rfl)⟩
  have := hrow4.kept (grownBy_putObj w4 l (.loop { { apRec fn sv Bs D .ready none with state := .busy } with state := if (none : Option Code).isNone then .ready else .done, pending := none })) (ownsRow_ne hrow4 hL4 (fun cur e => by cases e))
  simpa using this



theorem appendSeq_in (F : Fence) (n : Nat) (h11 : F.fn 159) (hro : F.round = none) (hn : 2 ≤ n) (g : Nat) (lb : Array Value) (hFg : F.fn g) (eg : ∀ args w, (callFunc g args).run Try.prog w = .ok (.enter g args) w)
    (N : Nat) (hN : N ≤ maxLen) (hNb : N * 16 ≤ 140737488355328) (w : World) (ss : List Int) (hseq : SeqB F (n - 1) g lb ss N w) :
    CallsIn F n Try.prog 159 #[.slice none 0 0, .func (.func g) #[] lb] w fun e w' => ∃ (v : Value), e = .returned v ∧ w'.ownsRow w.heap.size 23 1 v ss.length (ss.map (Value.int .i16)) ∧ (v = .slice none 0 0 ↔ ss = []) ∧ Below w.heap.size w w' := by
  have h1 : 1 ≤ n := by omega
  refine callsIn_of_wp_marks Try.func159 rfl h11 ?_ hro
  simp only [Try.ntmps159, List.size_toArray, List.length_cons, List.length_nil, Nat.reduceAdd, Nat.reduceSub, Array.replicate_succ, Array.replicate_zero, List.push_toArray, List.append_toArray, List.nil_append, List.cons_append]
  gi_wp2
  refine wpIn_rangeFunc ?_
  intro fn hfn
  rw [hro]
  obtain ⟨W0, hW0⟩ : ∃ W0, w.alloc (.cells #[.slice none 0 0] 22) = W0 := ⟨_, rfl⟩
  have hs0 : W0.heap.size = w.heap.size + 1 := by rw [← hW0]; simp
  have hv0 : W0.heap[w.heap.size]? = some (.cells #[.slice none 0 0] 22 (0, 0)) := by rw [← hW0]; exact World.alloc_heap_new w _
  have hb0 : Below w.heap.size w W0 := by rw [← hW0]; exact (Below.refl _ w).alloc (Nat.le_refl _) _
  rw [hW0]
  obtain ⟨W1, hW1⟩ : ∃ W1, (W0.alloc (.deferred (some []))).alloc (.loop (apRec fn (.func (.func g) #[] lb) w.heap.size W0.heap.size .ready none)) = W1 := ⟨_, rfl⟩
  have hold : ∀ k, k < W0.heap.size → W1.heap[k]? = W0.heap[k]? := fun k hk => by
    rw [← hW1]; exact (Below.heap_alloc _ _ k (by simp; omega)).trans (Below.heap_alloc _ _ k hk)
  have hb1 : Below w.heap.size w W1 := by rw [← hW1]; exact (hb0.alloc hb0.size _).alloc (by have := hb0.size; simp; omega) _
  have hs1 : W1.heap.size = W0.heap.size + 2 := by rw [← hW1]; simp
  have hM : ApAt w fn (.func (.func g) #[] lb) w.heap.size (W0.heap.size + 1) W0.heap.size [] W1 :=
    ⟨⟨_, (hold w.heap.size (by omega)).trans hv0, ⟨rfl, .inl ⟨rfl, rfl⟩⟩, by simp⟩,
     by rw [← hW1]; have := World.alloc_heap_new (W0.alloc (.deferred (some []))) (.loop (apRec fn (.func (.func g) #[] lb) w.heap.size W0.heap.size .ready none)); rwa [World.size_alloc] at this,
     by rw [← hW1]; exact (Below.heap_alloc _ _ _ (by simp)).trans (World.alloc_heap_new W0 _), hb1⟩
  refine ⟨W0.heap.size + 1, [{ target := .collected W0.heap.size, args := #[] }], W1, { target := .fn (.func g) lb, args := #[.func (.yield (W0.heap.size + 1)) #[] #[]] }, W1, g,
    #[.func (.yield (W0.heap.size + 1)) #[] #[]] ++ lb, W1, ?_, ?_, ?_, ?_, fun _ => h1, ?_⟩
  · rw [← hW1]; exact run_enterLoop_outer _ _ _ _ _
  · simp [resolve, go_sem]
  · intro f' hf'; simp [Target.leads] at hf'; subst hf'; exact hFg
  · simp [invoke, go_sem, eg]
  · refine (hseq (W0.heap.size + 1) (ApAt w fn (.func (.func g) #[] lb) w.heap.size (W0.heap.size + 1) W0.heap.size) W1 hb1 (fun pre w h => h.below)
      (fun pre x W hJ hl => apYield F (n - 1 - 1) w fn hfn _ w.heap.size (W0.heap.size + 1) W0.heap.size (by omega) (by omega) (by omega) (Nat.le_refl _) (by omega) N hN hNb pre x W hJ hl) hM).mono ?_
    rintro e W2 ⟨⟨v0, rfl⟩, h2⟩
    obtain ⟨v, hv, hrow, hnil⟩ := h2.box
    have hend := run_endLoop (P := Try.prog) h2.L (by simp [apRec])
    obtain ⟨W3, hW3⟩ : ∃ W3, W2.putObj (W0.heap.size + 1) (.loop { apRec fn (.func (.func g) #[] lb) w.heap.size W0.heap.size .ready none with state := .exhausted }) = W3 := ⟨_, rfl⟩
    rw [hW3] at hend
    have hg3 : W2.grownBy W3 (some (W0.heap.size + 1)) := by rw [← hW3]; exact grownBy_putObj _ _ _
    have hv3 : W3.heap[w.heap.size]? = some (.cells #[v] 22 (0, 0)) := by rw [← hW3]; exact (World.putObj_heap_other (by omega)).trans hv
    have hK3 : W3.heap[W0.heap.size]? = some (.deferred (some [])) := by rw [← hW3]; exact (World.putObj_heap_other (by omega)).trans h2.K
    have hrow3 := hrow.kept hg3 (ownsRow_ne hrow h2.L (fun cur e => by cases e))
    have hb3 : Below w.heap.size w W3 := h2.below.grown hg3 h2.below.size (fun k e => by cases e; omega)
    obtain ⟨hc3, hf3⟩ := cell_of_box hv3
    clear hW3
    refine ⟨none, W3, hend, ?_⟩
    gi_wp2
    rw [← hs0]
    refine ⟨by simp, .inl ⟨_, _, rfl, run_takeDeferred hK3, ?_⟩⟩
    exact ⟨_, results_tmp rfl _ _ _, v, rfl, hrow3.kept (grownBy_putObj _ _ _) (ownsRow_ne hrow3 hK3 (fun cur e => by cases e)), hnil, hb3.grown (grownBy_putObj _ _ _) hb3.size (fun k e => by cases e; omega)⟩


theorem values_seq (F : Fence) (n : Nat) (hf : F.fn 139) (hro : F.round = none) (hn : 1 ≤ n) (Bs Bo b off cap : Nat) (zs : List Int) (hreach : zs.length ≤ 60000) (w : World) (hb : b < w.heap.size) (hBl : Bs < w.heap.size)
    (hBs : w.cell? ⟨Bs, Bo, none⟩ = some (.slice (some ⟨b, off, none⟩) zs.length cap)) (hc : ∀ j, j < zs.length → w.cell? ⟨b, off + j, none⟩ = some (.int .i16 (zs[j]?.getD 0))) :
    SeqB F n 139 #[.pointer (some ⟨Bs, Bo, none⟩)] zs zs.length w := fun l J W hW hJb hY h0 =>
  values1_in F n hf hro hn l Bs Bo b off cap w.heap.size zs hreach hb w J hJb hY hc W ((hW.cell (p := ⟨Bs, Bo, none⟩) hBl).trans hBs) h0
theorem collect_in (F : Fence) (n : Nat) (h8 : F.fn 137) (h11 : F.fn 159) (hro : F.round = none) (hn : 3 ≤ n) (g : Nat) (lb : Array Value) (hFg : F.fn g) (eg : ∀ args w, (callFunc g args).run Try.prog w = .ok (.enter g args) w)
    (N : Nat) (hN : N ≤ maxLen) (hNb : N * 16 ≤ 140737488355328) (w : World) (ss : List Int) (hseq : SeqB F (n - 1 - 1) g lb ss N w) :
    CallsIn F n Try.prog 137 #[.func (.func g) #[] lb] w fun e w' => ∃ (v : Value), e = .returned v ∧ w'.ownsRow w.heap.size 23 1 v ss.length (ss.map (Value.int .i16)) ∧ (v = .slice none 0 0 ↔ ss = []) ∧ Below w.heap.size w w' := by
  have h1 : 1 ≤ n := by omega
  refine callsIn_of_wp Try.func137 rfl h8 ?_ hro
  simp only [Try.ntmps137, List.size_toArray, List.length_cons, List.length_nil, Nat.reduceAdd, Nat.reduceSub, Array.replicate_succ, Array.replicate_zero, List.push_toArray, List.append_toArray, List.nil_append, List.cons_append]
  gi_wp2_with (gi_at_call 159; refine (appendSeq_in F (n - 1) h11 hro (by omega) g lb hFg eg N hN hNb _ ss hseq).mono ?_; rintro e w' ⟨v, rfl, hrow, hnil, hb⟩)
  go_ret
  exact ⟨v, rfl, hrow, hnil, hb⟩
theorem RelPs_ints {J : Nat → Prop} {w : World} {k : IntKind} : ∀ {l : List Int} {vs : List Value}, RelPs J w (ints k l) vs → vs = l.map (Value.int k)
  | [], _, h => h
  | x :: l, _, ⟨y, ys, h1, h2, h3⟩ => by rw [h1, RelPs_ints h3, h2.1]; rfl
theorem RelPs_of_ints {J : Nat → Prop} {w : World} {k : IntKind} : ∀ (l : List Int), RelPs J w (ints k l) (l.map (Value.int k))
  | [] => rfl
  | x :: l => ⟨_, _, rfl, ⟨rfl, rfl⟩, RelPs_of_ints l⟩
theorem flat_ints (k : IntKind) (l : List Int) : ((l.map (Value.int k)).flatMap fun x => x.cells.toList) = l.map (Value.int k) := by
  induction l with
  | nil => rfl
  | cons x l ih => simp only [List.map_cons, List.flatMap_cons, ih]; rfl
theorem collect16_fun (l : List Int) (h1 : 1 ≤ l.length) (h2 : l.length ≤ 60000) : FunO Try.prog 137 [.clos (.func 139) [.ptr (.lst (ints .i16 l))]] fun r o => r = .ref 0 l.length ∧ o = some ⟨23, 1, ints .i16 l⟩ := by
  refine ⟨by kernel_rfl, fun J w vs hJ hG hv => ?_⟩
  obtain ⟨y, ys, rfl, hy, rfl⟩ := hv
  obtain ⟨ps, rfl, hps⟩ := hy
  obtain ⟨p, qs, rfl, hp, rfl⟩ := hps
  obtain ⟨Bs, Bo, x, rfl, hx, hw, hJB, hcell⟩ := hp
  obtain ⟨a, c, us, rfl, hc1, hc2, hc3, ha, hus, hrow⟩ := hx
  have hll : (ints .i16 l).length = l.length := by simp [ints]
  rw [hll] at hc1 hc3 hcell
  obtain rfl := RelPs_ints hus
  rw [flat_ints] at hrow
  have hne : l ≠ [] := fun e => by rw [e] at h1; simp at h1
  rcases hrow with hz | ⟨b, o, rfl, hJb, hcs⟩
  · exact absurd (List.map_eq_nil_iff.1 hz) hne
  have hBs : w.cell? ⟨Bs, Bo, none⟩ = some (.slice (some ⟨b, o, none⟩) l.length c) := hcell 0 _ rfl
  have hcj : ∀ j, j < l.length → w.cell? ⟨b, o + j, none⟩ = some (.int .i16 (l[j]?.getD 0)) := fun j hj => hcs j _ (by simp [List.getElem?_map, List.getElem?_eq_getElem hj])
  have hm : maxLen = 9223372036854775807 := rfl
  have hseq := values_seq Fence.wide (3 - 1 - 1) trivial rfl (by decide) Bs Bo b o c l h2 w (hJ b hJb) (hJ Bs hJB) hBs hcj
  have key := callsIn_wide.1 (collect_in Fence.wide 3 trivial trivial rfl (by decide) 139 #[.pointer (some ⟨Bs, Bo, none⟩)] trivial (enters_of Try.func139 (by kernel_rfl) rfl) l.length (by omega) (by omega) w l hseq)
  refine key.mono ?_
  rintro e w' ⟨v, rfl, hrow, hnil, hb⟩
  rcases hrow.2 with ⟨rfl, h0⟩ | ⟨g, cap, cur, rfl, hbase, hgb, r1, r2, r3, r4⟩
  · omega
  have hgl : g < w'.heap.size := (Array.getElem?_eq_some_iff.1 hgb).1
  refine ⟨_, .ref 0 l.length, some ⟨23, 1, ints .i16 l⟩, rfl, ⟨rfl, rfl⟩, hb, J, ⟨some ⟨g, 0, none⟩, cap, 1⟩, fun _ h => h, fun _ h => .inl h, rfl, by simp [D.ids], ints_noRefs, ?_, fun g' _ e => by cases e; exact hbase⟩
  refine .inl ⟨rfl, Nat.one_pos, by rw [hll]; exact r1, r2, by rw [hll]; exact hc3, l.map (Value.int .i16), RelPs_of_ints l, ?_, .inr ⟨Nat.lt_of_lt_of_le h1 r1, g, cur, rfl, fun hj => ?_, hgb, r3, by rw [hll, flat_ints]; exact r4⟩⟩
  · intro x hx
    obtain ⟨n, _, rfl⟩ := List.mem_map.1 hx
    exact ⟨rfl, fun c hc => by simp [Value.cells] at hc; subst hc; rfl⟩
  · have := hJ g hj; omega
end Go.Proofs.Ytpkampecmlpfmaa.T

end
section
set_option linter.unusedSimpArgs false
set_option linter.unusedVariables false
/- Sorting a list by insertion, walked. -/
namespace Go.Proofs.Ytpkampecmlpfmaa.T
open Go Go.VL Go.Proofs
set_option maxRecDepth 100000
set_option maxHeartbeats 4000000
abbrev own16 (l : List Int) : Own := ⟨23, 1, ints .i16 l⟩

theorem isNaNS16_fun (x : Int) : Fun Try.prog 161 [.v (.int .i16 x)] fun r => r = .v (.bool false) := by
  refine Fun.of_awpI Try.func161 rfl cal161 Try.ntmps161 (by simp) fun hwf => ?_
  simp only [D.wfs, D.wf, ints_length, ints_wfs, rows_length, rows_wfs, capMax, and_true, true_and] at hwf
  repeat' (first | simp only [go_sem, bne_self_eq_false, Ret_eq Try.results161] | fail)

theorem lessS16_fun (x y : Int) : Fun Try.prog 140 [.v (.int .i16 x), .v (.int .i16 y)] fun r => r = .v (.bool (decide (x < y))) := by
  refine Fun.of_awpI Try.func140 rfl cal140 Try.ntmps140 (by simp) fun hwf => ?_
  simp only [D.wfs, D.wf, ints_length, ints_wfs, rows_length, rows_wfs, capMax, and_true, true_and] at hwf
  repeat' (first | simp only [go_sem, Ret_eq Try.results140] | (refine opCallI_rd (by simp only [go_sem, Ret_eq Try.results140]; first | done | rfl) (isNaNS16_fun x) (by rintro _ rfl; rfl) ?_; rintro _ rfl) | fail)

theorem insertion16 (l : List Int) (a b : Nat) (hab : a ≤ b) (hb : b ≤ l.length) (hl : l.length ≤ 1000000) : FunL Try.prog 176 [.ref 0 l.length, .v (.int .i64 a), .v (.int .i64 b)] [own16 l] fun r os =>
    r = .tup [] ∧ ∃ l', os = [own16 l'] ∧ Sw a b l l' ∧ Sd a b l' := by
  refine FunL.of_awpI [(100000, 0)] rfl Try.func176 rfl cal176 Try.ntmps176 (by simp) fun hwf hlw ls => ?_
  simp only [lentWf, D.wfs, D.wf, ints_length, ints_wfs, rows_length, rows_wfs, capMax, and_true, true_and] at hwf hlw
  repeat' (first | simp only [go_sem, Ret_eq Try.results176] | simp (disch := omega) only [arith, IntKind.bits, capMax, fill_len, elt_fill] | fail)
  refine awpI_while (σ := Nat × List Int) (fun x => b - x.1) (fun x => a + 1 ≤ x.1 ∧ Sw a b l x.2 ∧ Sd a x.1 x.2) (fun x => [(6, .v (.int .i64 x.1))]) (fun x => [(0, own16 x.2)]) [0, 1, 2, 100000] [] (a + 1, l) _ (Weak.refl _) ⟨Nat.le_refl _, .refl _, fun p q h1 h2 h3 => by omega⟩ ?_ ?_ ?_
  · simp only [go_sem, Ret_eq Try.results176]
  · simp only [go_sem, Ret_eq Try.results176]
  · rintro ⟨i, l1⟩ s ⟨hi, hsw, hsd⟩ hs
    simp only [go_sem, Ret_eq Try.results176] at hs
    dsimp only at hi hsw hsd
    have hl1 := hsw.length
    by_cases hib : i < b
    · repeat' (first | simp only [go_sem, hs, Ret_eq Try.results176] | simp (disch := omega) only [arith, IntKind.bits, capMax, fill_len, elt_fill] | fail)
      refine awpI_while (σ := Nat × List Int) (fun x => x.1) (fun x => (a ≤ x.1 ∧ x.1 ≤ i) ∧ Sw a b l x.2 ∧ Ins a x.1 i x.2) (fun x => [(7, .v (.int .i64 x.1))]) (fun x => [(0, own16 x.2)]) [0, 1, 2, 6, 100000] [] (i, l1) _ (Weak.refl _) ⟨⟨by omega, Nat.le_refl _⟩, hsw, Ins.start hsd⟩ ?_ ?_ ?_
      · simp only [go_sem, hs, Ret_eq Try.results176]
      · simp only [go_sem, hs, Ret_eq Try.results176]
      · rintro ⟨j, l2⟩ s2 ⟨⟨hj1, hj2⟩, hsw2, hins⟩ hs2
        simp only [go_sem, hs, Ret_eq Try.results176] at hs2
        dsimp only at hj1 hj2 hsw2 hins
        have hl2 := hsw2.length
        by_cases hja : a < j
        · have hls := lessS16_fun (l2.getD j 0) (l2.getD (j - 1) 0)
          have ej : (j : Int) - 1 = ((j - 1 : Nat) : Int) := by omega
          by_cases hlt : l2.getD j 0 < l2.getD (j - 1) 0
          · rw [decide_eq_true hlt] at hls
            have e1 := sw_length (l := l2) (i := j) (j := j - 1)
            have e4 : (l2.set j (l2.getD (j - 1) 0)).length = l2.length := List.length_set
            have e2 : (l2.set j (l2.getD (j - 1) 0)).set (j - 1) (l2.getD j 0) = sw l2 j (j - 1) := rfl
            have e3 := sw_comm (l := l2) (i := j) (j := j - 1)
            repeat' (first | simp only [go_sem, hs, hs2, ej, hl2, e2, e3, List.length_set, Ret_eq Try.results176] | simp (disch := omega) only [arith, IntKind.bits, capMax, fill_len, elt_fill] | (refine awpI_draw2 (id := 4) (.one false 0 (.one false 1 (.one false 2 (.one false 3 (.one false 4 (.one false 5 (.one false 6 (.one false 7 (.one false 8 (.one false 9 (.one false 10 (.one false 11 (.one false 12 (.only 13 (.one false 14 .done))))))))))))))) mixed (by decide +kernel) (by decide +kernel) ?_) | (refine awpI_draw2 (id := 6) (.one false 0 (.one false 1 (.one false 5 (.one false 6 (.one false 7 (.one false 8 (.one false 9 (.one false 10 (.one false 11 (.one false 12 (.one false 13 (.one false 14 (.mv 2 (.mv 3 (.cal 4 [15] (.only 15 (.one false 16 (.only 17 .done)))))))))))))))))) mixed (by decide +kernel) (by decide +kernel) ?_) | (refine opCallI_rd (by simp only [go_sem, hs, hs2, ej, hl2, e2, e3, List.length_set, Ret_eq Try.results176]; first | done | rfl) (hls) (by rintro _ rfl; rfl) ?_; rintro _ rfl) | fail)
            all_goals
              refine AgainW.to (j - 1, sw l2 j (j - 1)) ?_ ?_ ?_
              · show j - 1 < j; omega
              · exact ⟨⟨by show a ≤ j - 1; omega, by show j - 1 ≤ i; omega⟩, .step j (j - 1) hsw2 ⟨by omega, by omega⟩ ⟨by omega, by omega⟩ (by omega), hins.step hja hj2 (by omega) hlt⟩
              · simp only [go_sem, hs, hs2, Ret_eq Try.results176]
          · rw [decide_eq_false hlt] at hls
            repeat' (first | simp only [go_sem, hs, hs2, ej, hl2, Ret_eq Try.results176] | simp (disch := omega) only [arith, IntKind.bits, capMax, fill_len, elt_fill] | (refine awpI_draw2 (id := 4) (.one false 0 (.one false 1 (.one false 2 (.one false 3 (.one false 4 (.one false 5 (.one false 6 (.one false 7 (.one false 8 (.one false 9 (.one false 10 (.one false 11 (.one false 12 (.only 13 (.one false 14 .done))))))))))))))) mixed (by decide +kernel) (by decide +kernel) ?_) | (refine opCallI_rd (by simp only [go_sem, hs, hs2, ej, hl2, Ret_eq Try.results176]; first | done | rfl) (hls) (by rintro _ rfl; rfl) ?_; rintro _ rfl) | fail)
            all_goals
              refine AgainW.to (i + 1, l2) ?_ ?_ ?_
              · show b - (i + 1) < b - i; omega
              · exact ⟨by show a + 1 ≤ i + 1; omega, hsw2, hins.done (.inr (by omega))⟩
              · simp only [go_sem, hs, hs2, Ret_eq Try.results176]
        · repeat' (first | simp only [go_sem, hs, hs2, Ret_eq Try.results176] | simp (disch := omega) only [arith, IntKind.bits, capMax, fill_len, elt_fill] | (refine awpI_draw2 (id := 4) (.one false 0 (.one false 1 (.one false 2 (.one false 3 (.one false 4 (.one false 5 (.one false 6 (.one false 7 (.one false 8 (.one false 9 (.one false 10 (.one false 11 (.one false 12 (.only 13 (.one false 14 .done))))))))))))))) mixed (by decide +kernel) (by decide +kernel) ?_) | fail)
          all_goals
            refine AgainW.to (i + 1, l2) ?_ ?_ ?_
            · show b - (i + 1) < b - i; omega
            · exact ⟨by show a + 1 ≤ i + 1; omega, hsw2, hins.done (.inl (by omega))⟩
            · simp only [go_sem, hs, hs2, Ret_eq Try.results176]
    · repeat' (first | simp only [go_sem, hs, Ret_eq Try.results176] | simp (disch := omega) only [arith, IntKind.bits, capMax, fill_len, elt_fill] | refine RetL_calc Try.results176 rfl ?_ | fail)
      all_goals exact ⟨rfl, l1, rfl, hsw, fun p q h1 h2 h3 => hsd p q h1 h2 (by omega)⟩
end Go.Proofs.Ytpkampecmlpfmaa.T

end
section
set_option linter.unusedSimpArgs false
set_option linter.unusedVariables false
/- Sorting a list as a heap; a span turned about; walked. -/
namespace Go.Proofs.Ytpkampecmlpfmaa.T
open Go Go.VL Go.Proofs
set_option maxRecDepth 100000
set_option maxHeartbeats 4000000

theorem reverse16 (l : List Int) (a b : Nat) (hab : a ≤ b) (hb : b ≤ l.length) (h1 : 1 ≤ b) (hl : l.length ≤ 1000000) : FunL Try.prog 180 [.ref 0 l.length, .v (.int .i64 a), .v (.int .i64 b)] [own16 l] fun r os =>
    r = .tup [] ∧ ∃ l', os = [own16 l'] ∧ Sw a b l l' := by
  refine FunL.of_awpI [(100000, 0)] rfl Try.func180 rfl cal180 Try.ntmps180 (by simp) fun hwf hlw ls => ?_
  simp only [lentWf, D.wfs, D.wf, ints_length, ints_wfs, rows_length, rows_wfs, capMax, and_true, true_and] at hwf hlw
  have e0 : (b : Int) - 1 = ((b - 1 : Nat) : Int) := by omega
  repeat' (first | simp only [go_sem, e0, Ret_eq Try.results180] | simp (disch := omega) only [arith, IntKind.bits, capMax, fill_len, elt_fill] | fail)
  refine awpI_while (σ := Nat × Nat × List Int) (fun x => x.2.1 - x.1) (fun x => a ≤ x.1 ∧ x.2.1 < b ∧ Sw a b l x.2.2) (fun x => [(6, .v (.int .i64 x.1)), (7, .v (.int .i64 x.2.1))]) (fun x => [(0, own16 x.2.2)]) [0, 100000] [] (a, b - 1, l) _ (Weak.refl _) ⟨Nat.le_refl _, by show b - 1 < b; omega, .refl _⟩ ?_ ?_ ?_
  · simp only [go_sem, Ret_eq Try.results180]
  · simp only [go_sem, Ret_eq Try.results180]
  · rintro ⟨i, j, l1⟩ s ⟨hi, hj, hsw⟩ hs
    simp only [go_sem, Ret_eq Try.results180] at hs
    dsimp only at hi hj hsw
    have hl1 := hsw.length
    by_cases hij : i < j
    · have ej : (j : Int) - 1 = ((j - 1 : Nat) : Int) := by omega
      have e2 : (l1.set i (l1.getD j 0)).set j (l1.getD i 0) = sw l1 i j := rfl
      have e4 : (l1.set i (l1.getD j 0)).length = l1.length := List.length_set
      repeat' (first | simp only [go_sem, hs, ej, hl1, e2, List.length_set, Ret_eq Try.results180] | simp (disch := omega) only [arith, IntKind.bits, capMax, fill_len, elt_fill] | (refine awpI_draw2 (id := 3) (.one false 0 (.one false 1 (.one false 4 (.one false 5 (.one false 6 (.one false 7 (.one false 8 (.one false 9 (.one false 10 (.one false 11 (.one false 12 (.mv 2 (.mv 3 (.only 13 (.one false 14 (.only 15 .done)))))))))))))))) mixed (by decide +kernel) (by decide +kernel) ?_) | fail)
      all_goals
        refine AgainW.to (i + 1, j - 1, sw l1 i j) ?_ ?_ ?_
        · show j - 1 - (i + 1) < j - i; omega
        · exact ⟨by show a ≤ i + 1; omega, by show j - 1 < b; omega, .step i j hsw ⟨hi, by omega⟩ ⟨by omega, hj⟩ (by omega)⟩
        · simp only [go_sem, hs, Ret_eq Try.results180]
    · repeat' (first | simp only [go_sem, hs, Ret_eq Try.results180] | simp (disch := omega) only [arith, IntKind.bits, capMax, fill_len, elt_fill] | refine RetL_calc Try.results180 rfl ?_ | fail)
      all_goals exact ⟨rfl, l1, rfl, hsw⟩

theorem sift16 (l : List Int) (lo hi f : Nat) (hh : Hp (lo + 1) hi f l) (hb : f + hi ≤ l.length) (hlo : lo ≤ hi) (hl : l.length ≤ 1000000) : FunL Try.prog 190 [.ref 0 l.length, .v (.int .i64 lo), .v (.int .i64 hi), .v (.int .i64 f)] [own16 l] fun r os =>
    r = .tup [] ∧ ∃ l', os = [own16 l'] ∧ Sw f (f + hi) l l' ∧ Hp lo hi f l' := by
  refine FunL.of_awpI [(100000, 0)] rfl Try.func190 rfl cal190 Try.ntmps190 (by simp) fun hwf hlw ls => ?_
  simp only [lentWf, D.wfs, D.wf, ints_length, ints_wfs, rows_length, rows_wfs, capMax, and_true, true_and] at hwf hlw
  repeat' (first | simp only [go_sem, Ret_eq Try.results190] | fail)
  refine awpI_while (σ := Nat × List Int) (fun x => hi - x.1) (fun x => (lo ≤ x.1 ∧ x.1 ≤ hi) ∧ Sw f (f + hi) l x.2 ∧ HpEx lo hi f x.1 x.2) (fun x => [(8, .v (.int .i64 x.1))]) (fun x => [(0, own16 x.2)]) [0, 2, 3, 100000] [] (lo, l) _ (Weak.refl _) ⟨⟨Nat.le_refl _, hlo⟩, .refl _, HpEx.start hh⟩ ?_ ?_ ?_
  · simp only [go_sem, Ret_eq Try.results190]
  · simp only [go_sem, Ret_eq Try.results190]
  · rintro ⟨r, l1⟩ s ⟨⟨hr1, hr2⟩, hsw, hex⟩ hs
    simp only [go_sem, Ret_eq Try.results190] at hs
    dsimp only at hr1 hr2 hsw hex
    have hl1 := hsw.length
    have er : (2 : Int) * (r : Int) + 1 = ((2 * r + 1 : Nat) : Int) := by omega
    have er1 : ((2 * r + 1 : Nat) : Int) + 1 = ((2 * r + 2 : Nat) : Int) := by omega
    have f0 : (f : Int) + (r : Int) = ((f + r : Nat) : Int) := by omega
    have f1 : (f : Int) + ((2 * r + 1 : Nat) : Int) = ((f + (2 * r + 1) : Nat) : Int) := by omega
    have f2 : (f : Int) + ((2 * r + 2 : Nat) : Int) = ((f + (2 * r + 2) : Nat) : Int) := by omega
    have f3 : ((f + (2 * r + 1) : Nat) : Int) + 1 = ((f + (2 * r + 2) : Nat) : Int) := by omega
    by_cases hc : 2 * r + 1 < hi
    · by_cases hc2 : 2 * r + 2 < hi ∧ l1.getD (f + (2 * r + 1)) 0 < l1.getD (f + (2 * r + 2)) 0
      · obtain ⟨hc2, hlt⟩ := hc2
        have hls := lessS16_fun (l1.getD (f + (2 * r + 1)) 0) (l1.getD (f + (2 * r + 2)) 0)
        rw [decide_eq_true hlt] at hls
        have hls2 := lessS16_fun (l1.getD (f + r) 0) (l1.getD (f + (2 * r + 2)) 0)
        have hd : ∀ d, (d = 2 * r + 1 ∨ d = 2 * r + 2) → d < hi → l1.getD (f + d) 0 ≤ l1.getD (f + (2 * r + 2)) 0 := fun d h1 h2 => by
          rcases h1 with rfl | rfl <;> omega
        by_cases hlt2 : l1.getD (f + r) 0 < l1.getD (f + (2 * r + 2)) 0
        · rw [decide_eq_true hlt2] at hls2
          have e2 : (l1.set (f + r) (l1.getD (f + (2 * r + 2)) 0)).set (f + (2 * r + 2)) (l1.getD (f + r) 0) = sw l1 (f + r) (f + (2 * r + 2)) := rfl
          have e4 : (l1.set (f + r) (l1.getD (f + (2 * r + 2)) 0)).length = l1.length := List.length_set
          repeat' (first | simp only [go_sem, hs, hl1, er, er1, f0, f1, f2, f3, e2, List.length_set, Ret_eq Try.results190] | simp (disch := omega) only [arith, IntKind.bits, capMax, fill_len, elt_fill] | (refine awpI_draw2 (id := 3) (.one false 0 (.one false 1 (.one false 2 (.one false 3 (.one false 4 (.one false 5 (.one false 6 (.one false 7 (.one false 8 (.one false 9 (.one false 10 (.one false 11 (.one false 12 (.one false 13 (.one false 14 (.one false 15 (.one false 16 (.one false 17 (.only 18 (.one false 19 .done)))))))))))))))))))) mixed (by decide +kernel) (by decide +kernel) ?_) | (refine awpI_draw2 (id := 5) (.one false 0 (.one false 1 (.one false 2 (.one false 3 (.one false 4 (.one false 5 (.one false 6 (.one false 7 (.one false 8 (.one false 9 (.one false 10 (.one false 11 (.only 12 (.one false 13 .done)))))))))))))) mixed (by decide +kernel) (by decide +kernel) ?_) | (refine awpI_draw2 (id := 6) (.one false 0 (.one false 1 (.one false 2 (.one false 3 (.one false 8 (.one false 9 (.one false 10 (.one false 11 (.one false 12 (.one false 13 (.one false 14 (.one false 15 (.one false 16 (.one false 17 (.one false 18 (.one false 19 (.one false 20 (.mv 4 (.mv 5 (.mv 6 (.cal 7 [21] (.only 21 (.one false 22 (.only 23 .done)))))))))))))))))))))))) mixed (by decide +kernel) (by decide +kernel) ?_) | (refine opCallI_rd (by simp only [go_sem, hs, hl1, er, er1, f0, f1, f2, f3, e2, List.length_set, Ret_eq Try.results190]; first | done | rfl) (hls) (by rintro _ rfl; rfl) ?_; rintro _ rfl) | (refine opCallI_rd (by simp only [go_sem, hs, hl1, er, er1, f0, f1, f2, f3, e2, List.length_set, Ret_eq Try.results190]; first | done | rfl) (hls2) (by rintro _ rfl; rfl) ?_; rintro _ rfl) | fail)
          all_goals
            refine AgainW.to (2 * r + 2, sw l1 (f + r) (f + (2 * r + 2))) ?_ ?_ ?_
            · show hi - (2 * r + 2) < hi - r; omega
            · exact ⟨⟨by show lo ≤ 2 * r + 2; omega, by show 2 * r + 2 ≤ hi; omega⟩, .step _ _ hsw ⟨by omega, by omega⟩ ⟨by omega, by omega⟩ (by omega), hex.step hr1 (.inr rfl) hc2 hd hlt2 (by omega)⟩
            · simp only [go_sem, hs, Ret_eq Try.results190]
        · rw [decide_eq_false hlt2] at hls2
          repeat' (first | simp only [go_sem, hs, hl1, er, er1, f0, f1, f2, f3, Ret_eq Try.results190] | simp (disch := omega) only [arith, IntKind.bits, capMax, fill_len, elt_fill] | refine RetL_calc Try.results190 rfl ?_ | (refine awpI_draw2 (id := 3) (.one false 0 (.one false 1 (.one false 2 (.one false 3 (.one false 4 (.one false 5 (.one false 6 (.one false 7 (.one false 8 (.one false 9 (.one false 10 (.one false 11 (.one false 12 (.one false 13 (.one false 14 (.one false 15 (.one false 16 (.one false 17 (.only 18 (.one false 19 .done)))))))))))))))))))) mixed (by decide +kernel) (by decide +kernel) ?_) | (refine awpI_draw2 (id := 5) (.one false 0 (.one false 1 (.one false 2 (.one false 3 (.one false 4 (.one false 5 (.one false 6 (.one false 7 (.one false 8 (.one false 9 (.one false 10 (.one false 11 (.only 12 (.one false 13 .done)))))))))))))) mixed (by decide +kernel) (by decide +kernel) ?_) | (refine opCallI_rd (by simp only [go_sem, hs, hl1, er, er1, f0, f1, f2, f3, Ret_eq Try.results190]; first | done | rfl) (hls) (by rintro _ rfl; rfl) ?_; rintro _ rfl) | (refine opCallI_rd (by simp only [go_sem, hs, hl1, er, er1, f0, f1, f2, f3, Ret_eq Try.results190]; first | done | rfl) (hls2) (by rintro _ rfl; rfl) ?_; rintro _ rfl) | fail)
          all_goals exact ⟨rfl, l1, rfl, hsw, hex.done fun d h1 h2 => by have := hd d h1 h2; omega⟩
      · have hls2 := lessS16_fun (l1.getD (f + r) 0) (l1.getD (f + (2 * r + 1)) 0)
        have hd : ∀ d, (d = 2 * r + 1 ∨ d = 2 * r + 2) → d < hi → l1.getD (f + d) 0 ≤ l1.getD (f + (2 * r + 1)) 0 := fun d h1 h2 => by
          rcases h1 with rfl | rfl
          · exact Int.le_refl _
          · refine Int.not_lt.1 fun q => hc2 ⟨h2, q⟩
        have hls := lessS16_fun (l1.getD (f + (2 * r + 1)) 0) (l1.getD (f + (2 * r + 2)) 0)
        by_cases hlt2 : l1.getD (f + r) 0 < l1.getD (f + (2 * r + 1)) 0
        · rw [decide_eq_true hlt2] at hls2
          have e2 : (l1.set (f + r) (l1.getD (f + (2 * r + 1)) 0)).set (f + (2 * r + 1)) (l1.getD (f + r) 0) = sw l1 (f + r) (f + (2 * r + 1)) := rfl
          have e4 : (l1.set (f + r) (l1.getD (f + (2 * r + 1)) 0)).length = l1.length := List.length_set
          by_cases hc3 : 2 * r + 2 < hi
          · rw [decide_eq_false (fun q => hc2 ⟨hc3, q⟩)] at hls
            repeat' (first | simp only [go_sem, hs, hl1, er, er1, f0, f1, f2, f3, e2, List.length_set, Ret_eq Try.results190] | simp (disch := omega) only [arith, IntKind.bits, capMax, fill_len, elt_fill] | (refine awpI_draw2 (id := 3) (.one false 0 (.one false 1 (.one false 2 (.one false 3 (.one false 4 (.one false 5 (.one false 6 (.one false 7 (.one false 8 (.one false 9 (.one false 10 (.one false 11 (.one false 12 (.one false 13 (.one false 14 (.one false 15 (.one false 16 (.one false 17 (.only 18 (.one false 19 .done)))))))))))))))))))) mixed (by decide +kernel) (by decide +kernel) ?_) | (refine awpI_draw2 (id := 5) (.one false 0 (.one false 1 (.one false 2 (.one false 3 (.one false 4 (.one false 5 (.one false 6 (.one false 7 (.one false 8 (.one false 9 (.one false 10 (.one false 11 (.only 12 (.one false 13 .done)))))))))))))) mixed (by decide +kernel) (by decide +kernel) ?_) | (refine awpI_draw2 (id := 6) (.one false 0 (.one false 1 (.one false 2 (.one false 3 (.one false 8 (.one false 9 (.one false 10 (.one false 11 (.one false 12 (.one false 13 (.one false 14 (.one false 15 (.one false 16 (.one false 17 (.one false 18 (.one false 19 (.one false 20 (.mv 4 (.mv 5 (.mv 6 (.cal 7 [21] (.only 21 (.one false 22 (.only 23 .done)))))))))))))))))))))))) mixed (by decide +kernel) (by decide +kernel) ?_) | (refine opCallI_rd (by simp only [go_sem, hs, hl1, er, er1, f0, f1, f2, f3, e2, List.length_set, Ret_eq Try.results190]; first | done | rfl) (hls) (by rintro _ rfl; rfl) ?_; rintro _ rfl) | (refine opCallI_rd (by simp only [go_sem, hs, hl1, er, er1, f0, f1, f2, f3, e2, List.length_set, Ret_eq Try.results190]; first | done | rfl) (hls2) (by rintro _ rfl; rfl) ?_; rintro _ rfl) | fail)
            all_goals
              refine AgainW.to (2 * r + 1, sw l1 (f + r) (f + (2 * r + 1))) ?_ ?_ ?_
              · show hi - (2 * r + 1) < hi - r; omega
              · exact ⟨⟨by show lo ≤ 2 * r + 1; omega, by show 2 * r + 1 ≤ hi; omega⟩, .step _ _ hsw ⟨by omega, by omega⟩ ⟨by omega, by omega⟩ (by omega), hex.step hr1 (.inl rfl) hc hd hlt2 (by omega)⟩
              · simp only [go_sem, hs, Ret_eq Try.results190]
          · repeat' (first | simp only [go_sem, hs, hl1, er, er1, f0, f1, f2, f3, e2, List.length_set, Ret_eq Try.results190] | simp (disch := omega) only [arith, IntKind.bits, capMax, fill_len, elt_fill] | (refine awpI_draw2 (id := 3) (.one false 0 (.one false 1 (.one false 2 (.one false 3 (.one false 4 (.one false 5 (.one false 6 (.one false 7 (.one false 8 (.one false 9 (.one false 10 (.one false 11 (.one false 12 (.one false 13 (.one false 14 (.one false 15 (.one false 16 (.one false 17 (.only 18 (.one false 19 .done)))))))))))))))))))) mixed (by decide +kernel) (by decide +kernel) ?_) | (refine awpI_draw2 (id := 5) (.one false 0 (.one false 1 (.one false 2 (.one false 3 (.one false 4 (.one false 5 (.one false 6 (.one false 7 (.one false 8 (.one false 9 (.one false 10 (.one false 11 (.only 12 (.one false 13 .done)))))))))))))) mixed (by decide +kernel) (by decide +kernel) ?_) | (refine awpI_draw2 (id := 6) (.one false 0 (.one false 1 (.one false 2 (.one false 3 (.one false 8 (.one false 9 (.one false 10 (.one false 11 (.one false 12 (.one false 13 (.one false 14 (.one false 15 (.one false 16 (.one false 17 (.one false 18 (.one false 19 (.one false 20 (.mv 4 (.mv 5 (.mv 6 (.cal 7 [21] (.only 21 (.one false 22 (.only 23 .done)))))))))))))))))))))))) mixed (by decide +kernel) (by decide +kernel) ?_) | (refine opCallI_rd (by simp only [go_sem, hs, hl1, er, er1, f0, f1, f2, f3, e2, List.length_set, Ret_eq Try.results190]; first | done | rfl) (hls2) (by rintro _ rfl; rfl) ?_; rintro _ rfl) | fail)
            all_goals
              refine AgainW.to (2 * r + 1, sw l1 (f + r) (f + (2 * r + 1))) ?_ ?_ ?_
              · show hi - (2 * r + 1) < hi - r; omega
              · exact ⟨⟨by show lo ≤ 2 * r + 1; omega, by show 2 * r + 1 ≤ hi; omega⟩, .step _ _ hsw ⟨by omega, by omega⟩ ⟨by omega, by omega⟩ (by omega), hex.step hr1 (.inl rfl) hc hd hlt2 (by omega)⟩
              · simp only [go_sem, hs, Ret_eq Try.results190]
        · rw [decide_eq_false hlt2] at hls2
          by_cases hc3 : 2 * r + 2 < hi
          · rw [decide_eq_false (fun q => hc2 ⟨hc3, q⟩)] at hls
            repeat' (first | simp only [go_sem, hs, hl1, er, er1, f0, f1, f2, f3, Ret_eq Try.results190] | simp (disch := omega) only [arith, IntKind.bits, capMax, fill_len, elt_fill] | refine RetL_calc Try.results190 rfl ?_ | (refine awpI_draw2 (id := 3) (.one false 0 (.one false 1 (.one false 2 (.one false 3 (.one false 4 (.one false 5 (.one false 6 (.one false 7 (.one false 8 (.one false 9 (.one false 10 (.one false 11 (.one false 12 (.one false 13 (.one false 14 (.one false 15 (.one false 16 (.one false 17 (.only 18 (.one false 19 .done)))))))))))))))))))) mixed (by decide +kernel) (by decide +kernel) ?_) | (refine awpI_draw2 (id := 5) (.one false 0 (.one false 1 (.one false 2 (.one false 3 (.one false 4 (.one false 5 (.one false 6 (.one false 7 (.one false 8 (.one false 9 (.one false 10 (.one false 11 (.only 12 (.one false 13 .done)))))))))))))) mixed (by decide +kernel) (by decide +kernel) ?_) | (refine opCallI_rd (by simp only [go_sem, hs, hl1, er, er1, f0, f1, f2, f3, Ret_eq Try.results190]; first | done | rfl) (hls) (by rintro _ rfl; rfl) ?_; rintro _ rfl) | (refine opCallI_rd (by simp only [go_sem, hs, hl1, er, er1, f0, f1, f2, f3, Ret_eq Try.results190]; first | done | rfl) (hls2) (by rintro _ rfl; rfl) ?_; rintro _ rfl) | fail)
            all_goals exact ⟨rfl, l1, rfl, hsw, hex.done fun d h1 h2 => by have := hd d h1 h2; omega⟩
          · repeat' (first | simp only [go_sem, hs, hl1, er, er1, f0, f1, f2, f3, Ret_eq Try.results190] | simp (disch := omega) only [arith, IntKind.bits, capMax, fill_len, elt_fill] | refine RetL_calc Try.results190 rfl ?_ | (refine awpI_draw2 (id := 3) (.one false 0 (.one false 1 (.one false 2 (.one false 3 (.one false 4 (.one false 5 (.one false 6 (.one false 7 (.one false 8 (.one false 9 (.one false 10 (.one false 11 (.one false 12 (.one false 13 (.one false 14 (.one false 15 (.one false 16 (.one false 17 (.only 18 (.one false 19 .done)))))))))))))))))))) mixed (by decide +kernel) (by decide +kernel) ?_) | (refine awpI_draw2 (id := 5) (.one false 0 (.one false 1 (.one false 2 (.one false 3 (.one false 4 (.one false 5 (.one false 6 (.one false 7 (.one false 8 (.one false 9 (.one false 10 (.one false 11 (.only 12 (.one false 13 .done)))))))))))))) mixed (by decide +kernel) (by decide +kernel) ?_) | (refine opCallI_rd (by simp only [go_sem, hs, hl1, er, er1, f0, f1, f2, f3, Ret_eq Try.results190]; first | done | rfl) (hls2) (by rintro _ rfl; rfl) ?_; rintro _ rfl) | fail)
            all_goals exact ⟨rfl, l1, rfl, hsw, hex.done fun d h1 h2 => by have := hd d h1 h2; omega⟩
    · repeat' (first | simp only [go_sem, hs, er, Ret_eq Try.results190] | simp (disch := omega) only [arith, IntKind.bits, capMax, fill_len, elt_fill] | refine RetL_calc Try.results190 rfl ?_ | fail)
      all_goals exact ⟨rfl, l1, rfl, hsw, hex.done fun d h1 h2 => by omega⟩
end Go.Proofs.Ytpkampecmlpfmaa.T

end
section
set_option linter.unusedSimpArgs false
set_option linter.unusedVariables false
/- Sorting a list as a heap, walked. -/
namespace Go.Proofs.Ytpkampecmlpfmaa.T
open Go Go.VL Go.Proofs
set_option maxRecDepth 100000
set_option maxHeartbeats 4000000

theorem heap16 (l : List Int) (a b : Nat) (hab : a < b) (hb : b ≤ l.length) (hl : l.length ≤ 1000000) : FunL Try.prog 177 [.ref 0 l.length, .v (.int .i64 a), .v (.int .i64 b)] [own16 l] fun r os =>
    r = .tup [] ∧ ∃ l', os = [own16 l'] ∧ Sw a b l l' ∧ Sd a b l' := by
  refine FunL.of_awpI [(100000, 0)] rfl Try.func177 rfl cal177 Try.ntmps177 (by simp) fun hwf hlw ls => ?_
  simp only [lentWf, D.wfs, D.wf, ints_length, ints_wfs, rows_length, rows_wfs, capMax, and_true, true_and] at hwf hlw
  obtain ⟨n, rfl⟩ : ∃ n, b = a + n := ⟨b - a, by omega⟩
  have e0 : ((a + n : Nat) : Int) - (a : Int) = ((n : Nat) : Int) := by omega
  have e1 : (n : Int) - 1 = ((n - 1 : Nat) : Int) := by omega
  have e2 : ((n - 1 : Nat) : Int).tdiv 2 = (((n - 1) / 2 : Nat) : Int) := by
    rw [Int.tdiv_eq_ediv_of_nonneg (by omega)]; omega
  repeat' (first | simp only [go_sem, e0, e1, e2, Ret_eq Try.results177] | simp (disch := omega) only [arith, IntKind.bits, capMax, fill_len, elt_fill] | fail)
  refine awpI_while (σ := Nat × List Int) (fun x => x.1) (fun x => x.1 ≤ (n - 1) / 2 + 1 ∧ Sw a (a + n) l x.2 ∧ Hp x.1 n a x.2) (fun x => [(9, .v (.int .i64 ((x.1 : Int) - 1)))]) (fun x => [(0, own16 x.2)]) [0, 6, 7, 8, 100000] [] ((n - 1) / 2 + 1, l) _ (Weak.refl _) ⟨Nat.le_refl _, .refl _, fun k c h1 h2 h3 => by omega⟩ ?_ ?_ ?_
  · simp only [go_sem, e2, Ret_eq Try.results177]
    all_goals omega
  · simp only [go_sem, Ret_eq Try.results177]
  · rintro ⟨k, l1⟩ s ⟨hk, hsw, hhp⟩ hs
    simp only [go_sem, Ret_eq Try.results177] at hs
    dsimp only at hk hsw hhp
    have hl1 := hsw.length
    by_cases hk0 : 1 ≤ k
    · obtain ⟨q, rfl⟩ : ∃ q, k = q + 1 := ⟨k - 1, by omega⟩
      have ek : ((q + 1 : Nat) : Int) - 1 = ((q : Nat) : Int) := by omega
      have hsf := sift16 l1 q n a hhp (by omega) (by omega) (by omega)
      rw [hl1] at hsf
      repeat' (first | simp only [go_sem, hs, ek, hl1, Ret_eq Try.results177] | simp (disch := omega) only [arith, IntKind.bits, capMax, fill_len, elt_fill] | (refine opCallI_lend [0] (by simp only [go_sem, hs, ek, hl1, Ret_eq Try.results177]; first | done | rfl) (by simp only [go_sem, hs, ek, hl1, Ret_eq Try.results177]; first | done | rfl) (by decide) (by simp only [go_sem, hs, ek, hl1, Ret_eq Try.results177]; first | done | decide) (by simp only [go_sem, hs, ek, hl1, Ret_eq Try.results177]; first | done | decide) (hsf) ?_; rintro _ _ ⟨rfl, l2, rfl, hs2, hp2⟩) | fail)
      all_goals
        refine AgainW.to (q, l2) ?_ ?_ ?_
        · show q < q + 1; omega
        · exact ⟨by show q ≤ _; omega, hsw.trans hs2, hp2⟩
        · simp only [go_sem, hs, Ret_eq Try.results177]
    · obtain rfl : k = 0 := by omega
      repeat' (first | simp only [go_sem, hs, e1, Ret_eq Try.results177] | simp (disch := omega) only [arith, IntKind.bits, capMax, fill_len, elt_fill] | fail)
      refine awpI_while (σ := Nat × List Int) (fun x => x.1) (fun x => x.1 ≤ n ∧ Sw a (a + n) l x.2 ∧ Hp 0 x.1 a x.2 ∧ Tl a x.1 n x.2) (fun x => [(10, .v (.int .i64 ((x.1 : Int) - 1)))]) (fun x => [(0, own16 x.2)]) [0, 6, 7, 100000] [] (n, l1) _ (Weak.refl _) ⟨Nat.le_refl _, hsw, hhp, ⟨fun p q h1 h2 h3 => by omega, fun p q h1 h2 h3 => by omega⟩⟩ ?_ ?_ ?_
      · simp only [go_sem, hs, e1, Ret_eq Try.results177]
      · simp only [go_sem, hs, Ret_eq Try.results177]
      · rintro ⟨k, l3⟩ s2 ⟨hk, hsw3, hhp3, htl⟩ hs2
        simp only [go_sem, hs, Ret_eq Try.results177] at hs2
        dsimp only at hk hsw3 hhp3 htl
        have hl3 := hsw3.length
        by_cases hk0 : 1 ≤ k
        · obtain ⟨q, rfl⟩ : ∃ q, k = q + 1 := ⟨k - 1, by omega⟩
          have ek : ((q + 1 : Nat) : Int) - 1 = ((q : Nat) : Int) := by omega
          have ea : (a : Int) + (q : Int) = ((a + q : Nat) : Int) := by omega
          have hslen := sw_length (l := l3) (i := a) (j := a + q)
          have hsf := sift16 (sw l3 a (a + q)) 0 q a (hhp3.swapped (by omega)) (by omega) (by omega) (by omega)
          have e00 : ((0 : Nat) : Int) = 0 := rfl
          rw [hslen, hl3, e00] at hsf
          have e5 : (l3.set a (l3.getD (a + q) 0)).set (a + q) (l3.getD a 0) = sw l3 a (a + q) := rfl
          have e6 : (l3.set a (l3.getD (a + q) 0)).length = l3.length := List.length_set
          repeat' (first | simp only [go_sem, hs, hs2, ek, ea, hl3, e5, List.length_set, Ret_eq Try.results177] | simp (disch := omega) only [arith, IntKind.bits, capMax, fill_len, elt_fill] | (refine awpI_draw2 (id := 10) (.one false 0 (.one false 1 (.one false 6 (.one false 7 (.one false 8 (.one false 9 (.one false 10 (.one false 11 (.one false 12 (.one false 13 (.one false 14 (.one false 15 (.one false 16 (.mv 2 (.mv 3 (.mv 4 (.cal 5 [17] (.only 17 (.one false 18 (.only 19 .done)))))))))))))))))))) mixed (by decide +kernel) (by decide +kernel) ?_) | (refine opCallI_lend [0] (by simp only [go_sem, hs, hs2, ek, ea, hl3, e5, List.length_set, Ret_eq Try.results177]; first | done | rfl) (by simp only [go_sem, hs, hs2, ek, ea, hl3, e5, List.length_set, Ret_eq Try.results177]; first | done | rfl) (by decide) (by simp only [go_sem, hs, hs2, ek, ea, hl3, e5, List.length_set, Ret_eq Try.results177]; first | done | decide) (by simp only [go_sem, hs, hs2, ek, ea, hl3, e5, List.length_set, Ret_eq Try.results177]; first | done | decide) (hsf) ?_; rintro _ _ ⟨rfl, l4, rfl, hs4, hp4⟩) | fail)
          all_goals
            refine AgainW.to (q, l4) ?_ ?_ ?_
            · show q < q + 1; omega
            · exact ⟨by show q ≤ n; omega, (Sw.step a (a + q) hsw3 ⟨by omega, by omega⟩ ⟨by omega, by omega⟩ (by omega)).trans (hs4.mono (by omega) (by omega) (by omega)), hp4, htl.step hhp3 (by omega) (by omega) hs4⟩
            · simp only [go_sem, hs, hs2, Ret_eq Try.results177]
        · obtain rfl : k = 0 := by omega
          repeat' (first | simp only [go_sem, hs, hs2, Ret_eq Try.results177] | simp (disch := omega) only [arith, IntKind.bits, capMax, fill_len, elt_fill] | refine RetL_calc Try.results177 rfl ?_ | fail)
          all_goals exact ⟨rfl, l3, rfl, hsw3, htl.t1⟩
end Go.Proofs.Ytpkampecmlpfmaa.T

end
section
set_option linter.unusedSimpArgs false
set_option linter.unusedVariables false
/- Lists parted, walked. -/
namespace Go.Proofs.Ytpkampecmlpfmaa.T
open Go Go.VL Go.Proofs
set_option maxRecDepth 100000
set_option maxHeartbeats 8000000

theorem partEq16 (l : List Int) (a b v : Nat) (hv : a ≤ v ∧ v < b) (hb : b ≤ l.length) (hl : l.length ≤ 1000000) : FunL Try.prog 182 [.ref 0 l.length, .v (.int .i64 a), .v (.int .i64 b), .v (.int .i64 v)] [own16 l] fun r os =>
    ∃ m : Nat, r = .v (.int .i64 m) ∧ ∃ l', os = [own16 l'] ∧ Sw a b l l' ∧ PartEq a b m (l.getD v 0) l' := by
  obtain ⟨p, hpe⟩ : ∃ p, l.getD v 0 = p := ⟨_, rfl⟩
  rw [hpe]
  refine FunL.of_awpI [(100000, 0)] rfl Try.func182 rfl cal182 Try.ntmps182 (by simp) fun hwf hlw ls => ?_
  simp only [lentWf, D.wfs, D.wf, ints_length, ints_wfs, rows_length, rows_wfs, capMax, and_true, true_and] at hwf hlw
  have e2 : (l.set a (l.getD v 0)).set v (l.getD a 0) = sw l a v := rfl
  have e3 : (l.set a (l.getD v 0)).length = l.length := List.length_set
  have e4 := sw_length (l := l) (i := a) (j := v)
  have eb : (b : Int) - 1 = ((b - 1 : Nat) : Int) := by omega
  have hp : (sw l a v).getD a 0 = l.getD v 0 := by
    rw [sw_getD (by omega) (by omega)]
    by_cases q : a = v
    · rw [if_pos q, q]
    · rw [if_neg q, if_pos rfl]
  rw [hpe] at hp
  have hP0 : Pe a b (a + 1) (b - 1) p (sw l a v) := by
    refine ⟨hp, fun k k1 k2 => ?_, fun k k1 k2 => by omega, by omega, by omega, by omega⟩
    obtain rfl : k = a := by omega
    exact Int.le_of_eq hp
  have hS0 : Sw a b l (sw l a v) := .step a v (.refl _) ⟨Nat.le_refl _, by omega⟩ hv hb
  repeat' (first | simp only [go_sem, e2, eb, List.length_set, Ret_eq Try.results182] | simp (disch := omega) only [arith, IntKind.bits, capMax, fill_len, elt_fill] | (refine awpI_draw2 (id := 1) (.one false 0 (.one false 1 (.one false 4 (.one false 5 (.one false 6 (.one false 7 (.one false 8 (.one false 9 (.one false 10 (.one false 11 (.one false 12 (.mv 2 (.mv 3 (.only 13 (.one false 14 (.only 15 .done)))))))))))))))) mixed (by decide +kernel) (by decide +kernel) ?_) | fail)
  refine awpI_while (σ := Nat × Nat × List Int) (fun x => x.2.1 + 1 - x.1) (fun x => Sw a b l x.2.2 ∧ Pe a b x.1 x.2.1 p x.2.2) (fun x => [(9, .v (.int .i64 x.1)), (10, .v (.int .i64 x.2.1))]) (fun x => [(0, own16 x.2.2)]) [0, 1, 100000] [] (a + 1, b - 1, sw l a v) _ (Weak.refl _) ⟨hS0, hP0⟩ ?_ ?_ ?_
  · simp only [go_sem, Ret_eq Try.results182]
  · simp only [go_sem, Ret_eq Try.results182]
  · rintro ⟨i, j, l1⟩ s ⟨hsw, hP⟩ hs
    simp only [go_sem, Ret_eq Try.results182] at hs
    dsimp only at hsw hP
    have hL := hsw.length
    repeat' (first | simp only [go_sem, hs, Ret_eq Try.results182] | fail)
    refine awpI_while (σ := Nat) (fun x => j + 1 - x) (fun x => i ≤ x ∧ Pe a b x j p l1) (fun x => [(9, .v (.int .i64 x))]) (fun _ => []) [0, 1, 10, 100000] [0] i _ (Weak.refl _) ⟨Nat.le_refl _, hP⟩ ?_ ?_ ?_
    · simp only [go_sem, hs, Ret_eq Try.results182]
    · simp only [go_sem, hs, Ret_eq Try.results182]
    · rintro i2 s2 ⟨hges2, hPi2⟩ hs2
      simp only [go_sem, hs, Ret_eq Try.results182] at hs2
      have his2 := hPi2.hi
      have hjs2 := hPi2.hj
      have hijs2 := hPi2.hij
      have has2 := hPi2.ha
      have hlss2 := lessS16_fun p (l1.getD i2 0)
      by_cases qs2 : i2 ≤ j
      · by_cases rs2 : ¬ p < l1.getD i2 0
        · rw [decide_eq_false rs2] at hlss2
          repeat' (first | simp only [go_sem, hs, hs2, hL, has2, Ret_eq Try.results182] | simp (disch := omega) only [arith, IntKind.bits, capMax, fill_len, elt_fill] | (refine awpI_draw2 (id := 3) (.one false 0 (.one false 1 (.one false 2 (.one false 3 (.one false 4 (.one false 5 (.one false 6 (.one false 7 (.one false 8 (.one false 9 (.one false 10 (.one false 11 (.only 12 (.one false 13 (.one false 14 .done))))))))))))))) mixed (by decide +kernel) (by decide +kernel) ?_) | (refine opCallI_rd (by simp only [go_sem, hs, hs2, hL, has2, Ret_eq Try.results182]; first | done | rfl) (hlss2) (by rintro _ rfl; rfl) ?_; rintro _ rfl) | fail)
          all_goals
            refine AgainW.to (i2 + 1) ?_ ?_ ?_
            · show j + 1 - (i2 + 1) < j + 1 - i2; omega
            · exact ⟨by show i ≤ i2 + 1; omega, hPi2.up qs2 (by omega)⟩
            · simp only [go_sem, hs, hs2, hL, has2, Ret_eq Try.results182]
        · rw [decide_eq_true (Classical.not_not.1 rs2)] at hlss2
          have xs2 : j < i2 ∨ p < l1.getD i2 0 := .inr (by omega)
          repeat' (first | simp only [go_sem, hs, hs2, hL, has2, Ret_eq Try.results182] | simp (disch := omega) only [arith, IntKind.bits, capMax, fill_len, elt_fill] | (refine awpI_draw2 (id := 3) (.one false 0 (.one false 1 (.one false 2 (.one false 3 (.one false 4 (.one false 5 (.one false 6 (.one false 7 (.one false 8 (.one false 9 (.one false 10 (.one false 11 (.only 12 (.one false 13 (.one false 14 .done))))))))))))))) mixed (by decide +kernel) (by decide +kernel) ?_) | (refine opCallI_rd (by simp only [go_sem, hs, hs2, hL, has2, Ret_eq Try.results182]; first | done | rfl) (hlss2) (by rintro _ rfl; rfl) ?_; rintro _ rfl) | fail)
          refine awpI_while (σ := Nat) (fun x => x) (fun x => x ≤ j ∧ Pe a b i2 x p l1) (fun x => [(10, .v (.int .i64 x))]) (fun _ => []) [0, 1, 9, 100000] [0] j _ (Weak.refl _) ⟨Nat.le_refl _, hPi2⟩ ?_ ?_ ?_
          · simp only [go_sem, hs, hs2, Ret_eq Try.results182]
          · simp only [go_sem, hs, hs2, Ret_eq Try.results182]
          · rintro j2 s3 ⟨hges3, hPi2j2⟩ hs3
            simp only [go_sem, hs, hs2, Ret_eq Try.results182] at hs3
            have his3 := hPi2j2.hi
            have hjs3 := hPi2j2.hj
            have hijs3 := hPi2j2.hij
            have has3 := hPi2j2.ha
            have hlss3 := lessS16_fun p (l1.getD j2 0)
            by_cases qs3 : i2 ≤ j2
            · have ejs3 : (j2 : Int) - 1 = ((j2 - 1 : Nat) : Int) := by omega
              by_cases rs3 : p < l1.getD j2 0
              · rw [decide_eq_true rs3] at hlss3
                repeat' (first | simp only [go_sem, hs, hs2, hs3, hL, has3, ejs3, Ret_eq Try.results182] | simp (disch := omega) only [arith, IntKind.bits, capMax, fill_len, elt_fill] | (refine awpI_draw2 (id := 5) (.one false 0 (.one false 1 (.one false 2 (.one false 3 (.one false 4 (.one false 5 (.one false 6 (.one false 7 (.one false 8 (.one false 9 (.one false 10 (.one false 11 (.only 12 (.one false 13 .done)))))))))))))) mixed (by decide +kernel) (by decide +kernel) ?_) | (refine opCallI_rd (by simp only [go_sem, hs, hs2, hs3, hL, has3, ejs3, Ret_eq Try.results182]; first | done | rfl) (hlss3) (by rintro _ rfl; rfl) ?_; rintro _ rfl) | fail)
                all_goals
                  refine AgainW.to (j2 - 1) ?_ ?_ ?_
                  · show j2 - 1 < j2; omega
                  · exact ⟨by show j2 - 1 ≤ j; omega, hPi2j2.down qs3 (by omega)⟩
                  · simp only [go_sem, hs, hs2, hs3, hL, has3, Ret_eq Try.results182]
              · rw [decide_eq_false rs3] at hlss3
                have xs3 : l1.getD j2 0 ≤ p := by omega
                have hlt : l1.getD j2 0 ≤ p := xs3
                have ej : (j2 : Int) - 1 = ((j2 - 1 : Nat) : Int) := by omega
                have e5 : (l1.set i2 (l1.getD j2 0)).set j2 (l1.getD i2 0) = sw l1 i2 j2 := rfl
                have e6 : (l1.set i2 (l1.getD j2 0)).length = l1.length := List.length_set
                repeat' (first | simp only [go_sem, hs, hs2, hs3, hL, has3, ej, e5, List.length_set, Ret_eq Try.results182] | simp (disch := omega) only [arith, IntKind.bits, capMax, fill_len, elt_fill] | (refine awpI_draw2 (id := 5) (.one false 0 (.one false 1 (.one false 2 (.one false 3 (.one false 4 (.one false 5 (.one false 6 (.one false 7 (.one false 8 (.one false 9 (.one false 10 (.one false 11 (.only 12 (.one false 13 .done)))))))))))))) mixed (by decide +kernel) (by decide +kernel) ?_) | (refine awpI_draw2 (id := 8) (.one false 0 (.one false 1 (.one false 4 (.one false 5 (.one false 6 (.one false 7 (.one false 8 (.one false 9 (.one false 10 (.one false 11 (.one false 12 (.mv 2 (.mv 3 (.only 13 (.one false 14 (.only 15 .done)))))))))))))))) mixed (by decide +kernel) (by decide +kernel) ?_) | (refine opCallI_rd (by simp only [go_sem, hs, hs2, hs3, hL, has3, ej, e5, List.length_set, Ret_eq Try.results182]; first | done | rfl) (hlss3) (by rintro _ rfl; rfl) ?_; rintro _ rfl) | fail)
                all_goals
                  refine AgainW.to (i2 + 1, j2 - 1, sw l1 i2 j2) ?_ ?_ ?_
                  · show j2 - 1 + 1 - (i2 + 1) < j + 1 - i; omega
                  · exact ⟨.step i2 j2 hsw ⟨by omega, by omega⟩ ⟨by omega, by omega⟩ (by omega), hPi2j2.swap (by omega) (by omega) (by omega) (by omega)⟩
                  · simp only [go_sem, hs, hs2, hs3, Ret_eq Try.results182]
            · have w : j2 < i2 := by omega
              repeat' (first | simp only [go_sem, hs, hs2, hs3, hL, has3, Ret_eq Try.results182] | simp (disch := omega) only [arith, IntKind.bits, capMax, fill_len, elt_fill] | refine RetL_calc Try.results182 rfl ?_ | (refine awpI_draw2 (id := 5) (.one false 0 (.one false 1 (.one false 2 (.one false 3 (.one false 4 (.one false 5 (.one false 6 (.one false 7 (.one false 8 (.one false 9 (.one false 10 (.one false 11 (.only 12 (.one false 13 .done)))))))))))))) mixed (by decide +kernel) (by decide +kernel) ?_) | fail)
              all_goals exact ⟨i2, rfl, l1, rfl, hsw, hPi2j2.fin w⟩
      · have xs2 : j < i2 ∨ p < l1.getD i2 0 := .inl (by omega)
        repeat' (first | simp only [go_sem, hs, hs2, hL, has2, Ret_eq Try.results182] | simp (disch := omega) only [arith, IntKind.bits, capMax, fill_len, elt_fill] | (refine awpI_draw2 (id := 3) (.one false 0 (.one false 1 (.one false 2 (.one false 3 (.one false 4 (.one false 5 (.one false 6 (.one false 7 (.one false 8 (.one false 9 (.one false 10 (.one false 11 (.only 12 (.one false 13 (.one false 14 .done))))))))))))))) mixed (by decide +kernel) (by decide +kernel) ?_) | fail)
        refine awpI_while (σ := Nat) (fun x => x) (fun x => x ≤ j ∧ Pe a b i2 x p l1) (fun x => [(10, .v (.int .i64 x))]) (fun _ => []) [0, 1, 9, 100000] [0] j _ (Weak.refl _) ⟨Nat.le_refl _, hPi2⟩ ?_ ?_ ?_
        · simp only [go_sem, hs, hs2, Ret_eq Try.results182]
        · simp only [go_sem, hs, hs2, Ret_eq Try.results182]
        · rintro j2 s3 ⟨hges3, hPi2j2⟩ hs3
          simp only [go_sem, hs, hs2, Ret_eq Try.results182] at hs3
          have his3 := hPi2j2.hi
          have hjs3 := hPi2j2.hj
          have hijs3 := hPi2j2.hij
          have has3 := hPi2j2.ha
          have hlss3 := lessS16_fun p (l1.getD j2 0)
          by_cases qs3 : i2 ≤ j2
          · exact absurd qs3 (by omega)
          · have w : j2 < i2 := by omega
            repeat' (first | simp only [go_sem, hs, hs2, hs3, hL, has3, Ret_eq Try.results182] | simp (disch := omega) only [arith, IntKind.bits, capMax, fill_len, elt_fill] | refine RetL_calc Try.results182 rfl ?_ | (refine awpI_draw2 (id := 5) (.one false 0 (.one false 1 (.one false 2 (.one false 3 (.one false 4 (.one false 5 (.one false 6 (.one false 7 (.one false 8 (.one false 9 (.one false 10 (.one false 11 (.only 12 (.one false 13 .done)))))))))))))) mixed (by decide +kernel) (by decide +kernel) ?_) | fail)
            all_goals exact ⟨i2, rfl, l1, rfl, hsw, hPi2j2.fin w⟩
end Go.Proofs.Ytpkampecmlpfmaa.T

end
section
set_option linter.unusedSimpArgs false
set_option linter.unusedVariables false
/- Lists parted, walked. -/
namespace Go.Proofs.Ytpkampecmlpfmaa.T
open Go Go.VL Go.Proofs
set_option maxRecDepth 100000
set_option maxHeartbeats 8000000

theorem part16 (l : List Int) (a b v : Nat) (hv : a ≤ v ∧ v < b) (hb : b ≤ l.length) (hl : l.length ≤ 1000000) : FunL Try.prog 183 [.ref 0 l.length, .v (.int .i64 a), .v (.int .i64 b), .v (.int .i64 v)] [own16 l] fun r os =>
    ∃ (m : Nat) (t : Bool), r = .tup [.v (.int .i64 m), .v (.bool t)] ∧ ∃ l', os = [own16 l'] ∧ Sw a b l l' ∧ Parted a b m l' := by
  obtain ⟨p, hpe⟩ : ∃ p, l.getD v 0 = p := ⟨_, rfl⟩
  refine FunL.of_awpI [(100000, 0)] rfl Try.func183 rfl cal183 Try.ntmps183 (by simp) fun hwf hlw ls => ?_
  simp only [lentWf, D.wfs, D.wf, ints_length, ints_wfs, rows_length, rows_wfs, capMax, and_true, true_and] at hwf hlw
  have e2 : (l.set a (l.getD v 0)).set v (l.getD a 0) = sw l a v := rfl
  have e3 : (l.set a (l.getD v 0)).length = l.length := List.length_set
  have e4 := sw_length (l := l) (i := a) (j := v)
  have eb : (b : Int) - 1 = ((b - 1 : Nat) : Int) := by omega
  have hp : (sw l a v).getD a 0 = l.getD v 0 := by
    rw [sw_getD (by omega) (by omega)]
    by_cases q : a = v
    · rw [if_pos q, q]
    · rw [if_neg q, if_pos rfl]
  rw [hpe] at hp
  have hP : Pt a b (a + 1) (b - 1) p (sw l a v) := ⟨hp, fun k k1 k2 => by omega, fun k k1 k2 => by omega, by omega, by omega, by omega⟩
  have hsw0 : Sw a b l (sw l a v) := .step a v (.refl _) ⟨Nat.le_refl _, by omega⟩ hv hb
  repeat' (first | simp only [go_sem, e2, eb, List.length_set, Ret_eq Try.results183] | simp (disch := omega) only [arith, IntKind.bits, capMax, fill_len, elt_fill] | (refine awpI_draw2 (id := 1) (.one false 0 (.one false 1 (.one false 4 (.one false 5 (.one false 6 (.one false 7 (.one false 8 (.one false 9 (.one false 10 (.one false 11 (.one false 12 (.mv 2 (.mv 3 (.only 13 (.one false 14 (.only 15 .done)))))))))))))))) mixed (by decide +kernel) (by decide +kernel) ?_) | fail)
  clear e2 e3
  generalize sw l a v = l0 at *
  have hL := hsw0.length
  refine awpI_while (σ := Nat) (fun x => (b - 1) + 1 - x) (fun x => (a + 1) ≤ x ∧ Pt a b x (b - 1) p l0) (fun x => [(10, .v (.int .i64 x))]) (fun _ => []) [0, 1, 11, 100000] [0] (a + 1) _ (Weak.refl _) ⟨Nat.le_refl _, hP⟩ ?_ ?_ ?_
  · simp only [go_sem, Ret_eq Try.results183]
  · simp only [go_sem, Ret_eq Try.results183]
  · rintro i2 s2 ⟨hges2, hPi2⟩ hs2
    simp only [go_sem, Ret_eq Try.results183] at hs2
    have his2 := hPi2.hi
    have hjs2 := hPi2.hj
    have hijs2 := hPi2.hij
    have has2 := hPi2.ha
    have hlss2 := lessS16_fun (l0.getD i2 0) p
    by_cases qs2 : i2 ≤ (b - 1)
    · by_cases rs2 : l0.getD i2 0 < p
      · rw [decide_eq_true rs2] at hlss2
        repeat' (first | simp only [go_sem, hs2, hL, has2, Ret_eq Try.results183] | simp (disch := omega) only [arith, IntKind.bits, capMax, fill_len, elt_fill] | (refine awpI_draw2 (id := 3) (.one false 0 (.one false 1 (.one false 2 (.one false 3 (.one false 4 (.one false 5 (.one false 6 (.one false 7 (.one false 8 (.one false 9 (.one false 10 (.one false 11 (.only 12 (.one false 13 .done)))))))))))))) mixed (by decide +kernel) (by decide +kernel) ?_) | (refine opCallI_rd (by simp only [go_sem, hs2, hL, has2, Ret_eq Try.results183]; first | done | rfl) (hlss2) (by rintro _ rfl; rfl) ?_; rintro _ rfl) | fail)
        all_goals
          refine AgainW.to (i2 + 1) ?_ ?_ ?_
          · show (b - 1) + 1 - (i2 + 1) < (b - 1) + 1 - i2; omega
          · exact ⟨by show (a + 1) ≤ i2 + 1; omega, hPi2.up qs2 (by omega)⟩
          · simp only [go_sem, hs2, hL, has2, Ret_eq Try.results183]
      · rw [decide_eq_false rs2] at hlss2
        have xs2 : (b - 1) < i2 ∨ p ≤ l0.getD i2 0 := .inr (by omega)
        repeat' (first | simp only [go_sem, hs2, hL, has2, Ret_eq Try.results183] | simp (disch := omega) only [arith, IntKind.bits, capMax, fill_len, elt_fill] | (refine awpI_draw2 (id := 3) (.one false 0 (.one false 1 (.one false 2 (.one false 3 (.one false 4 (.one false 5 (.one false 6 (.one false 7 (.one false 8 (.one false 9 (.one false 10 (.one false 11 (.only 12 (.one false 13 .done)))))))))))))) mixed (by decide +kernel) (by decide +kernel) ?_) | (refine opCallI_rd (by simp only [go_sem, hs2, hL, has2, Ret_eq Try.results183]; first | done | rfl) (hlss2) (by rintro _ rfl; rfl) ?_; rintro _ rfl) | fail)
        refine awpI_while (σ := Nat) (fun x => x) (fun x => x ≤ (b - 1) ∧ Pt a b i2 x p l0) (fun x => [(11, .v (.int .i64 x))]) (fun _ => []) [0, 1, 10, 100000] [0] (b - 1) _ (Weak.refl _) ⟨Nat.le_refl _, hPi2⟩ ?_ ?_ ?_
        · simp only [go_sem, hs2, Ret_eq Try.results183]
        · simp only [go_sem, hs2, Ret_eq Try.results183]
        · rintro j2 s3 ⟨hges3, hPi2j2⟩ hs3
          simp only [go_sem, hs2, Ret_eq Try.results183] at hs3
          have his3 := hPi2j2.hi
          have hjs3 := hPi2j2.hj
          have hijs3 := hPi2j2.hij
          have has3 := hPi2j2.ha
          have hlss3 := lessS16_fun (l0.getD j2 0) p
          by_cases qs3 : i2 ≤ j2
          · have ejs3 : (j2 : Int) - 1 = ((j2 - 1 : Nat) : Int) := by omega
            by_cases rs3 : ¬ l0.getD j2 0 < p
            · rw [decide_eq_false rs3] at hlss3
              repeat' (first | simp only [go_sem, hs2, hs3, hL, has3, ejs3, Ret_eq Try.results183] | simp (disch := omega) only [arith, IntKind.bits, capMax, fill_len, elt_fill] | (refine awpI_draw2 (id := 5) (.one false 0 (.one false 1 (.one false 2 (.one false 3 (.one false 4 (.one false 5 (.one false 6 (.one false 7 (.one false 8 (.one false 9 (.one false 10 (.one false 11 (.only 12 (.one false 13 (.one false 14 .done))))))))))))))) mixed (by decide +kernel) (by decide +kernel) ?_) | (refine opCallI_rd (by simp only [go_sem, hs2, hs3, hL, has3, ejs3, Ret_eq Try.results183]; first | done | rfl) (hlss3) (by rintro _ rfl; rfl) ?_; rintro _ rfl) | fail)
              all_goals
                refine AgainW.to (j2 - 1) ?_ ?_ ?_
                · show j2 - 1 < j2; omega
                · exact ⟨by show j2 - 1 ≤ (b - 1); omega, hPi2j2.down qs3 (by omega)⟩
                · simp only [go_sem, hs2, hs3, hL, has3, Ret_eq Try.results183]
            · rw [decide_eq_true (Classical.not_not.1 rs3)] at hlss3
              have xs3 : l0.getD j2 0 < p := by omega
              have hlt : l0.getD j2 0 < p := xs3
              have ej : (j2 : Int) - 1 = ((j2 - 1 : Nat) : Int) := by omega
              have e5 : (l0.set i2 (l0.getD j2 0)).set j2 (l0.getD i2 0) = sw l0 i2 j2 := rfl
              have e6 : (l0.set i2 (l0.getD j2 0)).length = l0.length := List.length_set
              repeat' (first | simp only [go_sem, hs2, hs3, hL, has3, ej, e5, List.length_set, Ret_eq Try.results183] | simp (disch := omega) only [arith, IntKind.bits, capMax, fill_len, elt_fill] | (refine awpI_draw2 (id := 5) (.one false 0 (.one false 1 (.one false 2 (.one false 3 (.one false 4 (.one false 5 (.one false 6 (.one false 7 (.one false 8 (.one false 9 (.one false 10 (.one false 11 (.only 12 (.one false 13 (.one false 14 .done))))))))))))))) mixed (by decide +kernel) (by decide +kernel) ?_) | (refine awpI_draw2 (id := 10) (.one false 0 (.one false 1 (.one false 4 (.one false 5 (.one false 6 (.one false 7 (.one false 8 (.one false 9 (.one false 10 (.one false 11 (.one false 12 (.mv 2 (.mv 3 (.only 13 (.one false 14 (.only 15 .done)))))))))))))))) mixed (by decide +kernel) (by decide +kernel) ?_) | (refine opCallI_rd (by simp only [go_sem, hs2, hs3, hL, has3, ej, e5, List.length_set, Ret_eq Try.results183]; first | done | rfl) (hlss3) (by rintro _ rfl; rfl) ?_; rintro _ rfl) | fail)
              refine awpI_while (σ := Nat × Nat × List Int) (fun x => x.2.1 + 1 - x.1) (fun x => Sw a b l x.2.2 ∧ Pt a b x.1 x.2.1 p x.2.2) (fun x => [(10, .v (.int .i64 x.1)), (11, .v (.int .i64 x.2.1))]) (fun x => [(0, own16 x.2.2)]) [0, 1, 100000] [] (i2 + 1, j2 - 1, sw l0 i2 j2) _ (Weak.refl _) ⟨.step i2 j2 hsw0 ⟨by omega, by omega⟩ ⟨by omega, by omega⟩ (by omega), hPi2j2.swap (by omega) (by omega) (by omega) (by omega)⟩ ?_ ?_ ?_
              · simp only [go_sem, hs2, hs3, Ret_eq Try.results183]
              · simp only [go_sem, hs2, hs3, Ret_eq Try.results183]
              · rintro ⟨i3, j3, l3⟩ s4 ⟨hsw3, hPN⟩ hs4
                simp only [go_sem, hs2, hs3, Ret_eq Try.results183] at hs4
                dsimp only at hsw3 hPN
                clear e5 e6
                have hL := hsw3.length
                repeat' (first | simp only [go_sem, hs2, hs3, hs4, Ret_eq Try.results183] | fail)
                refine awpI_while (σ := Nat) (fun x => j3 + 1 - x) (fun x => i3 ≤ x ∧ Pt a b x j3 p l3) (fun x => [(10, .v (.int .i64 x))]) (fun _ => []) [0, 1, 11, 100000] [0] i3 _ (Weak.refl _) ⟨Nat.le_refl _, hPN⟩ ?_ ?_ ?_
                · simp only [go_sem, hs2, hs3, hs4, Ret_eq Try.results183]
                · simp only [go_sem, hs2, hs3, hs4, Ret_eq Try.results183]
                · rintro i4 s5 ⟨hges5, hPNi4⟩ hs5
                  simp only [go_sem, hs2, hs3, hs4, Ret_eq Try.results183] at hs5
                  have his5 := hPNi4.hi
                  have hjs5 := hPNi4.hj
                  have hijs5 := hPNi4.hij
                  have has5 := hPNi4.ha
                  have hlss5 := lessS16_fun (l3.getD i4 0) p
                  by_cases qs5 : i4 ≤ j3
                  · by_cases rs5 : l3.getD i4 0 < p
                    · rw [decide_eq_true rs5] at hlss5
                      repeat' (first | simp only [go_sem, hs2, hs3, hs4, hs5, hL, has5, Ret_eq Try.results183] | simp (disch := omega) only [arith, IntKind.bits, capMax, fill_len, elt_fill] | (refine awpI_draw2 (id := 13) (.one false 0 (.one false 1 (.one false 2 (.one false 3 (.one false 4 (.one false 5 (.one false 6 (.one false 7 (.one false 8 (.one false 9 (.one false 10 (.one false 11 (.only 12 (.one false 13 .done)))))))))))))) mixed (by decide +kernel) (by decide +kernel) ?_) | (refine opCallI_rd (by simp only [go_sem, hs2, hs3, hs4, hs5, hL, has5, Ret_eq Try.results183]; first | done | rfl) (hlss5) (by rintro _ rfl; rfl) ?_; rintro _ rfl) | fail)
                      all_goals
                        refine AgainW.to (i4 + 1) ?_ ?_ ?_
                        · show j3 + 1 - (i4 + 1) < j3 + 1 - i4; omega
                        · exact ⟨by show i3 ≤ i4 + 1; omega, hPNi4.up qs5 (by omega)⟩
                        · simp only [go_sem, hs2, hs3, hs4, hs5, hL, has5, Ret_eq Try.results183]
                    · rw [decide_eq_false rs5] at hlss5
                      have xs5 : j3 < i4 ∨ p ≤ l3.getD i4 0 := .inr (by omega)
                      repeat' (first | simp only [go_sem, hs2, hs3, hs4, hs5, hL, has5, Ret_eq Try.results183] | simp (disch := omega) only [arith, IntKind.bits, capMax, fill_len, elt_fill] | (refine awpI_draw2 (id := 13) (.one false 0 (.one false 1 (.one false 2 (.one false 3 (.one false 4 (.one false 5 (.one false 6 (.one false 7 (.one false 8 (.one false 9 (.one false 10 (.one false 11 (.only 12 (.one false 13 .done)))))))))))))) mixed (by decide +kernel) (by decide +kernel) ?_) | (refine opCallI_rd (by simp only [go_sem, hs2, hs3, hs4, hs5, hL, has5, Ret_eq Try.results183]; first | done | rfl) (hlss5) (by rintro _ rfl; rfl) ?_; rintro _ rfl) | fail)
                      refine awpI_while (σ := Nat) (fun x => x) (fun x => x ≤ j3 ∧ Pt a b i4 x p l3) (fun x => [(11, .v (.int .i64 x))]) (fun _ => []) [0, 1, 10, 100000] [0] j3 _ (Weak.refl _) ⟨Nat.le_refl _, hPNi4⟩ ?_ ?_ ?_
                      · simp only [go_sem, hs2, hs3, hs4, hs5, Ret_eq Try.results183]
                      · simp only [go_sem, hs2, hs3, hs4, hs5, Ret_eq Try.results183]
                      · rintro j4 s6 ⟨hges6, hPNi4j4⟩ hs6
                        simp only [go_sem, hs2, hs3, hs4, hs5, Ret_eq Try.results183] at hs6
                        have his6 := hPNi4j4.hi
                        have hjs6 := hPNi4j4.hj
                        have hijs6 := hPNi4j4.hij
                        have has6 := hPNi4j4.ha
                        have hlss6 := lessS16_fun (l3.getD j4 0) p
                        by_cases qs6 : i4 ≤ j4
                        · have ejs6 : (j4 : Int) - 1 = ((j4 - 1 : Nat) : Int) := by omega
                          by_cases rs6 : ¬ l3.getD j4 0 < p
                          · rw [decide_eq_false rs6] at hlss6
                            repeat' (first | simp only [go_sem, hs2, hs3, hs4, hs5, hs6, hL, has6, ejs6, Ret_eq Try.results183] | simp (disch := omega) only [arith, IntKind.bits, capMax, fill_len, elt_fill] | (refine awpI_draw2 (id := 15) (.one false 0 (.one false 1 (.one false 2 (.one false 3 (.one false 4 (.one false 5 (.one false 6 (.one false 7 (.one false 8 (.one false 9 (.one false 10 (.one false 11 (.only 12 (.one false 13 (.one false 14 .done))))))))))))))) mixed (by decide +kernel) (by decide +kernel) ?_) | (refine opCallI_rd (by simp only [go_sem, hs2, hs3, hs4, hs5, hs6, hL, has6, ejs6, Ret_eq Try.results183]; first | done | rfl) (hlss6) (by rintro _ rfl; rfl) ?_; rintro _ rfl) | fail)
                            all_goals
                              refine AgainW.to (j4 - 1) ?_ ?_ ?_
                              · show j4 - 1 < j4; omega
                              · exact ⟨by show j4 - 1 ≤ j3; omega, hPNi4j4.down qs6 (by omega)⟩
                              · simp only [go_sem, hs2, hs3, hs4, hs5, hs6, hL, has6, Ret_eq Try.results183]
                          · rw [decide_eq_true (Classical.not_not.1 rs6)] at hlss6
                            have xs6 : l3.getD j4 0 < p := by omega
                            have hlt : l3.getD j4 0 < p := xs6
                            have ej : (j4 : Int) - 1 = ((j4 - 1 : Nat) : Int) := by omega
                            have e5 : (l3.set i4 (l3.getD j4 0)).set j4 (l3.getD i4 0) = sw l3 i4 j4 := rfl
                            have e6 : (l3.set i4 (l3.getD j4 0)).length = l3.length := List.length_set
                            repeat' (first | simp only [go_sem, hs2, hs3, hs4, hs5, hs6, hL, has6, ej, e5, List.length_set, Ret_eq Try.results183] | simp (disch := omega) only [arith, IntKind.bits, capMax, fill_len, elt_fill] | (refine awpI_draw2 (id := 15) (.one false 0 (.one false 1 (.one false 2 (.one false 3 (.one false 4 (.one false 5 (.one false 6 (.one false 7 (.one false 8 (.one false 9 (.one false 10 (.one false 11 (.only 12 (.one false 13 (.one false 14 .done))))))))))))))) mixed (by decide +kernel) (by decide +kernel) ?_) | (refine awpI_draw2 (id := 18) (.one false 0 (.one false 1 (.one false 4 (.one false 5 (.one false 6 (.one false 7 (.one false 8 (.one false 9 (.one false 10 (.one false 11 (.one false 12 (.mv 2 (.mv 3 (.only 13 (.one false 14 (.only 15 .done)))))))))))))))) mixed (by decide +kernel) (by decide +kernel) ?_) | (refine opCallI_rd (by simp only [go_sem, hs2, hs3, hs4, hs5, hs6, hL, has6, ej, e5, List.length_set, Ret_eq Try.results183]; first | done | rfl) (hlss6) (by rintro _ rfl; rfl) ?_; rintro _ rfl) | fail)
                            all_goals
                              refine AgainW.to (i4 + 1, j4 - 1, sw l3 i4 j4) ?_ ?_ ?_
                              · show j4 - 1 + 1 - (i4 + 1) < j3 + 1 - i3; omega
                              · exact ⟨.step i4 j4 hsw3 ⟨by omega, by omega⟩ ⟨by omega, by omega⟩ (by omega), hPNi4j4.swap (by omega) (by omega) (by omega) (by omega)⟩
                              · simp only [go_sem, hs2, hs3, hs4, hs5, hs6, Ret_eq Try.results183]
                        · have w : j4 < i4 := by omega
                          have e5 : (l3.set j4 p).set a (l3.getD j4 0) = sw l3 j4 a := by unfold sw; rw [has6]
                          have e6 : (l3.set j4 p).length = l3.length := List.length_set
                          repeat' (first | simp only [go_sem, hs2, hs3, hs4, hs5, hs6, hL, has6, e5, List.length_set, Ret_eq Try.results183] | simp (disch := omega) only [arith, IntKind.bits, capMax, fill_len, elt_fill] | refine RetL_calc Try.results183 rfl ?_ | (refine awpI_draw2 (id := 15) (.one false 0 (.one false 1 (.one false 2 (.one false 3 (.one false 4 (.one false 5 (.one false 6 (.one false 7 (.one false 8 (.one false 9 (.one false 10 (.one false 11 (.only 12 (.one false 13 (.one false 14 .done))))))))))))))) mixed (by decide +kernel) (by decide +kernel) ?_) | (refine awpI_draw2 (id := 21) (.one false 0 (.one false 1 (.one false 4 (.one false 5 (.one false 6 (.one false 7 (.one false 8 (.one false 9 (.one false 10 (.one false 11 (.one false 12 (.mv 2 (.mv 3 (.only 13 (.one false 14 (.only 15 .done)))))))))))))))) mixed (by decide +kernel) (by decide +kernel) ?_) | fail)
                          all_goals exact ⟨j4, _, rfl, sw l3 j4 a, rfl, .step j4 a hsw3 ⟨by omega, by omega⟩ ⟨Nat.le_refl _, by omega⟩ (by omega), hPNi4j4.fin w (by omega)⟩
                  · have xs5 : j3 < i4 ∨ p ≤ l3.getD i4 0 := .inl (by omega)
                    repeat' (first | simp only [go_sem, hs2, hs3, hs4, hs5, hL, has5, Ret_eq Try.results183] | simp (disch := omega) only [arith, IntKind.bits, capMax, fill_len, elt_fill] | (refine awpI_draw2 (id := 13) (.one false 0 (.one false 1 (.one false 2 (.one false 3 (.one false 4 (.one false 5 (.one false 6 (.one false 7 (.one false 8 (.one false 9 (.one false 10 (.one false 11 (.only 12 (.one false 13 .done)))))))))))))) mixed (by decide +kernel) (by decide +kernel) ?_) | fail)
                    refine awpI_while (σ := Nat) (fun x => x) (fun x => x ≤ j3 ∧ Pt a b i4 x p l3) (fun x => [(11, .v (.int .i64 x))]) (fun _ => []) [0, 1, 10, 100000] [0] j3 _ (Weak.refl _) ⟨Nat.le_refl _, hPNi4⟩ ?_ ?_ ?_
                    · simp only [go_sem, hs2, hs3, hs4, hs5, Ret_eq Try.results183]
                    · simp only [go_sem, hs2, hs3, hs4, hs5, Ret_eq Try.results183]
                    · rintro j4 s6 ⟨hges6, hPNi4j4⟩ hs6
                      simp only [go_sem, hs2, hs3, hs4, hs5, Ret_eq Try.results183] at hs6
                      have his6 := hPNi4j4.hi
                      have hjs6 := hPNi4j4.hj
                      have hijs6 := hPNi4j4.hij
                      have has6 := hPNi4j4.ha
                      have hlss6 := lessS16_fun (l3.getD j4 0) p
                      by_cases qs6 : i4 ≤ j4
                      · exact absurd qs6 (by omega)
                      · have w : j4 < i4 := by omega
                        have e5 : (l3.set j4 p).set a (l3.getD j4 0) = sw l3 j4 a := by unfold sw; rw [has6]
                        have e6 : (l3.set j4 p).length = l3.length := List.length_set
                        repeat' (first | simp only [go_sem, hs2, hs3, hs4, hs5, hs6, hL, has6, e5, List.length_set, Ret_eq Try.results183] | simp (disch := omega) only [arith, IntKind.bits, capMax, fill_len, elt_fill] | refine RetL_calc Try.results183 rfl ?_ | (refine awpI_draw2 (id := 15) (.one false 0 (.one false 1 (.one false 2 (.one false 3 (.one false 4 (.one false 5 (.one false 6 (.one false 7 (.one false 8 (.one false 9 (.one false 10 (.one false 11 (.only 12 (.one false 13 (.one false 14 .done))))))))))))))) mixed (by decide +kernel) (by decide +kernel) ?_) | (refine awpI_draw2 (id := 21) (.one false 0 (.one false 1 (.one false 4 (.one false 5 (.one false 6 (.one false 7 (.one false 8 (.one false 9 (.one false 10 (.one false 11 (.one false 12 (.mv 2 (.mv 3 (.only 13 (.one false 14 (.only 15 .done)))))))))))))))) mixed (by decide +kernel) (by decide +kernel) ?_) | fail)
                        all_goals exact ⟨j4, _, rfl, sw l3 j4 a, rfl, .step j4 a hsw3 ⟨by omega, by omega⟩ ⟨Nat.le_refl _, by omega⟩ (by omega), hPNi4j4.fin w (by omega)⟩
          · have w : j2 < i2 := by omega
            have e5 : (l0.set j2 p).set a (l0.getD j2 0) = sw l0 j2 a := by unfold sw; rw [has3]
            have e6 : (l0.set j2 p).length = l0.length := List.length_set
            repeat' (first | simp only [go_sem, hs2, hs3, hL, has3, e5, List.length_set, Ret_eq Try.results183] | simp (disch := omega) only [arith, IntKind.bits, capMax, fill_len, elt_fill] | refine RetL_calc Try.results183 rfl ?_ | (refine awpI_draw2 (id := 5) (.one false 0 (.one false 1 (.one false 2 (.one false 3 (.one false 4 (.one false 5 (.one false 6 (.one false 7 (.one false 8 (.one false 9 (.one false 10 (.one false 11 (.only 12 (.one false 13 (.one false 14 .done))))))))))))))) mixed (by decide +kernel) (by decide +kernel) ?_) | (refine awpI_draw2 (id := 8) (.one false 0 (.one false 1 (.one false 4 (.one false 5 (.one false 6 (.one false 7 (.one false 8 (.one false 9 (.one false 10 (.one false 11 (.one false 12 (.mv 2 (.mv 3 (.only 13 (.one false 14 (.only 15 .done)))))))))))))))) mixed (by decide +kernel) (by decide +kernel) ?_) | fail)
            all_goals exact ⟨j2, _, rfl, sw l0 j2 a, rfl, .step j2 a hsw0 ⟨by omega, by omega⟩ ⟨Nat.le_refl _, by omega⟩ (by omega), hPi2j2.fin w (by omega)⟩
    · have xs2 : (b - 1) < i2 ∨ p ≤ l0.getD i2 0 := .inl (by omega)
      repeat' (first | simp only [go_sem, hs2, hL, has2, Ret_eq Try.results183] | simp (disch := omega) only [arith, IntKind.bits, capMax, fill_len, elt_fill] | (refine awpI_draw2 (id := 3) (.one false 0 (.one false 1 (.one false 2 (.one false 3 (.one false 4 (.one false 5 (.one false 6 (.one false 7 (.one false 8 (.one false 9 (.one false 10 (.one false 11 (.only 12 (.one false 13 .done)))))))))))))) mixed (by decide +kernel) (by decide +kernel) ?_) | fail)
      refine awpI_while (σ := Nat) (fun x => x) (fun x => x ≤ (b - 1) ∧ Pt a b i2 x p l0) (fun x => [(11, .v (.int .i64 x))]) (fun _ => []) [0, 1, 10, 100000] [0] (b - 1) _ (Weak.refl _) ⟨Nat.le_refl _, hPi2⟩ ?_ ?_ ?_
      · simp only [go_sem, hs2, Ret_eq Try.results183]
      · simp only [go_sem, hs2, Ret_eq Try.results183]
      · rintro j2 s3 ⟨hges3, hPi2j2⟩ hs3
        simp only [go_sem, hs2, Ret_eq Try.results183] at hs3
        have his3 := hPi2j2.hi
        have hjs3 := hPi2j2.hj
        have hijs3 := hPi2j2.hij
        have has3 := hPi2j2.ha
        have hlss3 := lessS16_fun (l0.getD j2 0) p
        by_cases qs3 : i2 ≤ j2
        · exact absurd qs3 (by omega)
        · have w : j2 < i2 := by omega
          have e5 : (l0.set j2 p).set a (l0.getD j2 0) = sw l0 j2 a := by unfold sw; rw [has3]
          have e6 : (l0.set j2 p).length = l0.length := List.length_set
          repeat' (first | simp only [go_sem, hs2, hs3, hL, has3, e5, List.length_set, Ret_eq Try.results183] | simp (disch := omega) only [arith, IntKind.bits, capMax, fill_len, elt_fill] | refine RetL_calc Try.results183 rfl ?_ | (refine awpI_draw2 (id := 5) (.one false 0 (.one false 1 (.one false 2 (.one false 3 (.one false 4 (.one false 5 (.one false 6 (.one false 7 (.one false 8 (.one false 9 (.one false 10 (.one false 11 (.only 12 (.one false 13 (.one false 14 .done))))))))))))))) mixed (by decide +kernel) (by decide +kernel) ?_) | (refine awpI_draw2 (id := 8) (.one false 0 (.one false 1 (.one false 4 (.one false 5 (.one false 6 (.one false 7 (.one false 8 (.one false 9 (.one false 10 (.one false 11 (.one false 12 (.mv 2 (.mv 3 (.only 13 (.one false 14 (.only 15 .done)))))))))))))))) mixed (by decide +kernel) (by decide +kernel) ?_) | fail)
          all_goals exact ⟨j2, _, rfl, sw l0 j2 a, rfl, .step j2 a hsw0 ⟨by omega, by omega⟩ ⟨Nat.le_refl _, by omega⟩ (by omega), hPi2j2.fin w (by omega)⟩
end Go.Proofs.Ytpkampecmlpfmaa.T

end
section
set_option linter.unusedSimpArgs false
set_option linter.unusedVariables false
/- How many bits a number has, and what comes of it; walked. -/
namespace Go.Proofs.Ytpkampecmlpfmaa.T
open Go Go.VL Go.Proofs
set_option maxRecDepth 100000
set_option maxHeartbeats 4000000
def len8 (k : Nat) : Nat := if k = 0 then 0 else Nat.log2 k + 1
theorem len8_lt (k : Nat) : k < 2 ^ len8 k := by
  unfold len8
  split
  · rename_i h; rw [h]; decide
  · exact Nat.lt_log2_self
theorem len8_le {k : Nat} (h : 1 ≤ k) : 2 ^ len8 k ≤ 2 * k := by
  unfold len8
  rw [if_neg (by omega), Nat.pow_succ]
  have := Nat.log2_self_le (show k ≠ 0 by omega)
  omega
theorem len64_raw (x : Int) (hx : 0 ≤ x ∧ x < 65536) (w : World) : Calls Try.prog 172 #[.int .u64 x] w fun e w' => (∃ n : Nat, e = .returned (.int .i64 n) ∧ n ≤ 16 ∧ x < 2 ^ n ∧ (1 ≤ x → (2 : Int) ^ n ≤ 2 * x)) ∧ w' = w := by
  go_enter Try.func172, Try.ntmps172
  go_wp2
  · go_ret
    refine ⟨⟨8 + len8 (x / 256).toNat, ?_, ?_⟩, rfl⟩
    · show Ending.returned (Value.int .i64 (RowKit.wrap64 (8 + RowKit.wrap64 (((_ : UInt8).toNat : Nat) : Int)))) = _
      rw [← getElem!_pos]
      have hk : (x / 256).toNat < 256 := by omega
      generalize (x / 256).toNat = k at *
      congr 2
      clear hx
      revert k
      decide +kernel
    · have h1 := len8_lt (x / 256).toNat
      have h2 := len8_le (k := (x / 256).toNat) (by omega)
      generalize hm : len8 (x / 256).toNat = m at *
      have h3 : m ≤ 8 := by
        refine Nat.not_lt.1 fun q => ?_
        have : 2 ^ 9 ≤ 2 ^ m := Nat.pow_le_pow_right (by decide) q
        omega
      have e : (2 : Int) ^ (8 + m) = 256 * ((2 ^ m : Nat) : Int) := by rw [Int.pow_add]; norm_cast
      rw [e]
      refine ⟨by omega, by omega, fun _ => by omega⟩
  · go_ret
    refine ⟨⟨len8 x.toNat, ?_, ?_⟩, rfl⟩
    · show Ending.returned (Value.int .i64 (RowKit.wrap64 (RowKit.wrap64 (((_ : UInt8).toNat : Nat) : Int)))) = _
      rw [← getElem!_pos]
      have hk : x.toNat < 256 := by omega
      generalize x.toNat = k at *
      congr 2
      clear hx
      revert k
      decide +kernel
    · have h1 := len8_lt x.toNat
      have h2 := len8_le (k := x.toNat)
      generalize hm : len8 x.toNat = m at *
      have e : (2 : Int) ^ m = ((2 ^ m : Nat) : Int) := by norm_cast
      rw [e]
      refine ⟨?_, by omega, fun q => by have := h2 (by omega); omega⟩
      by_cases z : 1 ≤ x.toNat
      · refine Nat.not_lt.1 fun q => ?_
        have : 2 ^ 17 ≤ 2 ^ m := Nat.pow_le_pow_right (by decide) q
        have := h2 z
        omega
      · have : x.toNat = 0 := by omega
        rw [← hm, this]; decide
theorem len64_fun (x : Int) (hx : 0 ≤ x ∧ x < 65536) : Fun Try.prog 172 [.v (.int .u64 x)] fun r => ∃ n : Nat, r = .v (.int .i64 n) ∧ n ≤ 16 ∧ x < 2 ^ n ∧ (1 ≤ x → (2 : Int) ^ n ≤ 2 * x) := by
  refine ⟨by decide +kernel, fun J w vs hJ hG hv => ?_⟩
  obtain ⟨v, vs', rfl, hv1, hv2⟩ := hv
  have hv2 : vs' = [] := hv2
  subst hv2
  obtain ⟨rfl, _⟩ := hv1
  refine (len64_raw x hx w).mono ?_
  rintro e w' ⟨⟨n, rfl, h⟩, rfl⟩
  exact ⟨_, .v (.int .i64 n), rfl, ⟨n, rfl, h⟩, RowKit.Below.refl _ _, ⟨rfl, rfl⟩⟩

theorem bitsLen_fun (x : Int) (hx : 0 ≤ x ∧ x < 65536) : Fun Try.prog 145 [.v (.int .u64 x)] fun r => ∃ n : Nat, r = .v (.int .i64 n) ∧ n ≤ 16 ∧ x < 2 ^ n ∧ (1 ≤ x → (2 : Int) ^ n ≤ 2 * x) := by
  refine Fun.of_awpI Try.func145 rfl cal145 Try.ntmps145 (by simp) fun hwf => ?_
  simp only [D.wfs, D.wf, ints_length, ints_wfs, rows_length, rows_wfs, capMax, and_true, true_and] at hwf
  repeat' (first | simp only [go_sem, Ret_eq Try.results145] | (refine opCallI_gv (by simp only [go_sem, Ret_eq Try.results145]; first | done | rfl) (len64_fun x hx) ?_; rintro _ ⟨n, rfl, hn⟩) | fail)
  exact ⟨n, rfl, hn⟩

theorem nextPow_fun (k : Nat) (hk : 1 ≤ k ∧ k < 65536) : Fun Try.prog 185 [.v (.int .i64 k)] fun r => ∃ n : Nat, r = .v (.int .u64 ((2 ^ n : Nat) : Int)) ∧ n ≤ 16 ∧ 2 ^ n ≤ 2 * k := by
  refine Fun.of_awpI Try.func185 rfl cal185 Try.ntmps185 (by simp) fun hwf => ?_
  simp only [D.wfs, D.wf, ints_length, ints_wfs, rows_length, rows_wfs, capMax, and_true, true_and] at hwf
  repeat' (first | simp only [go_sem, Ret_eq Try.results185] | simp (disch := omega) only [arith, IntKind.bits, capMax, fill_len, elt_fill] | (refine opCallI_gv (by simp only [go_sem, Ret_eq Try.results185]; first | done | rfl) (bitsLen_fun k (by omega)) ?_; rintro _ ⟨n, rfl, hn⟩) | fail)
  exact ⟨n, by rw [Int.one_mul]; norm_cast, hn.1, by have := hn.2.2 (by omega); exact_mod_cast this⟩
abbrev boxX (x : Int) : Own := ⟨197, 1, [.v (.int .u64 x)]⟩

theorem next_sh (x : Int) : FunL Try.prog 186 [.adr 0 0 0] [boxX x] fun r os => ∃ y : Int, r = .v (.int .u64 y) ∧ os = [boxX y] := by
  refine FunL.of_awpI [(100000, 0)] rfl Try.func186 rfl cal186 Try.ntmps186 (by simp) fun hwf hlw ls => ?_
  simp only [lentWf, D.wfs, D.wf, ints_length, ints_wfs, rows_length, rows_wfs, capMax, and_true, true_and] at hwf hlw
  repeat' (first | simp only [go_sem, Ret_eq Try.results186] | simp (disch := omega) only [arith, IntKind.bits, capMax, fill_len, elt_fill] | refine RetL_calc Try.results186 rfl ?_ | (refine awpI_draw2 (id := 1) (.one false 0 (.one false 1 (.one false 2 (.one false 3 (.one false 4 (.one false 5 (.one false 6 (.one false 7 (.one false 8 (.only 9 .done)))))))))) mixed (by decide +kernel) (by decide +kernel) ?_) | (refine awpI_draw2 (id := 2) (.one false 0 (.one false 1 (.one false 2 (.one false 3 (.one false 4 (.one false 5 (.one false 6 (.one false 7 (.one false 8 (.only 9 .done)))))))))) mixed (by decide +kernel) (by decide +kernel) ?_) | (refine awpI_draw2 (id := 3) (.one false 0 (.one false 1 (.one false 2 (.one false 3 (.one false 4 (.one false 5 (.one false 6 (.one false 7 (.one false 8 (.only 9 .done)))))))))) mixed (by decide +kernel) (by decide +kernel) ?_) | fail)
  exact ⟨_, rfl, rfl⟩
theorem and_low (y : Int) {n : Nat} (hn : n ≤ 16) : ∃ k : Nat, abits .and .u64 y (((2 ^ n : Nat) : Int) - 1) = k ∧ k < 2 ^ n := by
  have h1 : 2 ^ n ≤ 2 ^ 16 := Nat.pow_le_pow_right (by decide) hn
  have h0 : 1 ≤ 2 ^ n := Nat.one_le_two_pow
  have e : ((2 ^ n : Nat) : Int) - 1 = ((2 ^ n - 1 : Nat) : Int) := by omega
  rw [e]
  simp only [abits]
  have e2 : BitVec.ofInt IntKind.u64.bits ((2 ^ n - 1 : Nat) : Int) = BitVec.ofNat 64 (2 ^ n - 1) := by simp [IntKind.bits]
  rw [e2]
  show ∃ k : Nat, IntKind.u64.wrap ((BitVec.ofInt 64 y &&& BitVec.ofNat 64 (2 ^ n - 1)).toNat : Int) = k ∧ k < 2 ^ n
  have h2 : (BitVec.ofInt 64 y &&& BitVec.ofNat 64 (2 ^ n - 1)).toNat ≤ 2 ^ n - 1 := by
    rw [BitVec.toNat_and]
    refine Nat.le_trans Nat.and_le_right ?_
    rw [BitVec.toNat_ofNat]
    exact Nat.mod_le _ _
  generalize (BitVec.ofInt 64 y &&& BitVec.ofNat 64 (2 ^ n - 1)).toNat = B at *
  refine ⟨B, ?_, by omega⟩
  rw [IntKind.wrap_u64]; omega
end Go.Proofs.Ytpkampecmlpfmaa.T

end
section
set_option linter.unusedSimpArgs false
set_option linter.unusedVariables false
/- Patterns broken; walked. -/
namespace Go.Proofs.Ytpkampecmlpfmaa.T
open Go Go.VL Go.Proofs
set_option maxRecDepth 100000
set_option maxHeartbeats 8000000

theorem break16 (l : List Int) (a b : Nat) (hab : a ≤ b) (hb : b ≤ l.length) (hl : l.length ≤ 60000) : FunL Try.prog 178 [.ref 0 l.length, .v (.int .i64 a), .v (.int .i64 b)] [own16 l] fun r os =>
    r = .tup [] ∧ ∃ l', os = [own16 l'] ∧ Sw a b l l' := by
  refine FunL.of_awpI [(100000, 0)] rfl Try.func178 rfl cal178 Try.ntmps178 (by simp) fun hwf hlw ls => ?_
  simp only [lentWf, D.wfs, D.wf, ints_length, ints_wfs, rows_length, rows_wfs, capMax, and_true, true_and] at hwf hlw
  obtain ⟨m, rfl⟩ : ∃ m, b = a + m := ⟨b - a, by omega⟩
  have e0 : ((a + m : Nat) : Int) - (a : Int) = ((m : Nat) : Int) := by omega
  by_cases h8 : 8 ≤ m
  · have e1 : ((m : Nat) : Int).tdiv 4 = ((m / 4 : Nat) : Int) := by rw [Int.tdiv_eq_ediv_of_nonneg (by omega)]; omega
    have e2 : (a : Int) + ((m / 4 : Nat) : Int) * 2 = ((a + m / 4 * 2 : Nat) : Int) := by omega
    have e3 : ((a + m / 4 * 2 : Nat) : Int) - 1 = ((a + m / 4 * 2 - 1 : Nat) : Int) := by omega
    have hnp := nextPow_fun m (by omega)
    repeat' (first | simp only [go_sem, e0, e1, e2, e3, Ret_eq Try.results178] | simp (disch := omega) only [arith, IntKind.bits, capMax, fill_len, elt_fill] | (refine opCallI_gv (by simp only [go_sem, e0, e1, e2, e3, Ret_eq Try.results178]; first | done | rfl) (hnp) ?_; rintro _ ⟨n, rfl, hn⟩) | fail)
    obtain ⟨hn1, hn2⟩ := hn
    have hpow : 1 ≤ 2 ^ n := Nat.one_le_two_pow
    refine awpI_while (σ := Nat × Int × List Int) (fun x => a + m / 4 * 2 + 2 - x.1) (fun x => (a ≤ x.1 ∧ x.1 ≤ a + m / 4 * 2 + 2) ∧ Sw a (a + m) l x.2.2) (fun x => [(9, .v (.int .i64 x.1))]) (fun x => [(0, own16 x.2.2), (7, boxX x.2.1)]) [0, 1, 6, 7, 8, 100000] [] (a + m / 4 * 2 - 1, (m : Int), l) _ (Weak.refl _) ⟨⟨by show a ≤ a + m / 4 * 2 - 1; omega, by show a + m / 4 * 2 - 1 ≤ _; omega⟩, .refl _⟩ ?_ ?_ ?_
    · simp only [go_sem, Ret_eq Try.results178]
      all_goals omega
    · simp only [go_sem, Ret_eq Try.results178]
    · rintro ⟨i, x, l1⟩ s ⟨⟨hi1, hi2⟩, hsw⟩ hs
      simp only [go_sem, Ret_eq Try.results178] at hs
      dsimp only at hi1 hi2 hsw
      have hl1 := hsw.length
      have e4 : ((a + m / 4 * 2 : Nat) : Int) + 1 = ((a + m / 4 * 2 + 1 : Nat) : Int) := by omega
      by_cases hi : i ≤ a + m / 4 * 2 + 1
      · repeat' (first | simp only [go_sem, hs, e0, e1, e2, e4, Ret_eq Try.results178] | simp (disch := omega) only [arith, IntKind.bits, capMax, fill_len, elt_fill] | fail)
        refine opCallI_lend [7] (by simp only [go_sem, hs, Ret_eq Try.results178]; first | done | rfl) (by simp only [go_sem, hs, Ret_eq Try.results178]; first | done | rfl) (by decide) (by simp only [go_sem, hs, Ret_eq Try.results178]; first | done | decide) (by simp only [go_sem, hs, Ret_eq Try.results178]; first | done | decide) (next_sh x) ?_
        rintro _ _ ⟨y, rfl, rfl⟩
        obtain ⟨k, hk, hk2⟩ := and_low y hn1
        by_cases hkm : m ≤ k
        · have e6 : (k : Int) - (m : Int) = ((k - m : Nat) : Int) := by omega
          have e7 : (a : Int) + ((k - m : Nat) : Int) = ((a + (k - m) : Nat) : Int) := by omega
          have e8 : (l1.set i (l1.getD (a + (k - m)) 0)).set (a + (k - m)) (l1.getD i 0) = sw l1 i (a + (k - m)) := rfl
          have e9 : (l1.set i (l1.getD (a + (k - m)) 0)).length = l1.length := List.length_set
          repeat' (first | simp only [go_sem, hs, e0, e1, e2, e4, hk, e6, e7, e8, List.length_set, Ret_eq Try.results178] | simp (disch := omega) only [arith, IntKind.bits, capMax, fill_len, elt_fill] | (refine awpI_draw2 (id := 10) (.one false 0 (.one false 1 (.one false 6 (.one false 7 (.one false 8 (.one false 9 (.one false 10 (.one false 11 (.one false 12 (.one false 13 (.one false 14 (.one false 15 (.one false 16 (.mv 2 (.mv 3 (.mv 4 (.cal 5 [17] (.only 17 (.one false 18 (.only 19 .done)))))))))))))))))))) mixed (by decide +kernel) (by decide +kernel) ?_) | fail)
          all_goals
            refine AgainW.to (i + 1, y, sw l1 i (a + (k - m))) ?_ ?_ ?_
            · show a + m / 4 * 2 + 2 - (i + 1) < a + m / 4 * 2 + 2 - i; omega
            · exact ⟨⟨by show a ≤ i + 1; omega, by show i + 1 ≤ _; omega⟩, .step _ _ hsw ⟨by omega, by omega⟩ ⟨by omega, by omega⟩ (by omega)⟩
            · simp only [go_sem, hs, Ret_eq Try.results178]
        · have e7 : (a : Int) + (k : Int) = ((a + k : Nat) : Int) := by omega
          have e8 : (l1.set i (l1.getD (a + k) 0)).set (a + k) (l1.getD i 0) = sw l1 i (a + k) := rfl
          have e9 : (l1.set i (l1.getD (a + k) 0)).length = l1.length := List.length_set
          repeat' (first | simp only [go_sem, hs, e0, e1, e2, e4, hk, e7, e8, List.length_set, Ret_eq Try.results178] | simp (disch := omega) only [arith, IntKind.bits, capMax, fill_len, elt_fill] | (refine awpI_draw2 (id := 10) (.one false 0 (.one false 1 (.one false 6 (.one false 7 (.one false 8 (.one false 9 (.one false 10 (.one false 11 (.one false 12 (.one false 13 (.one false 14 (.one false 15 (.one false 16 (.mv 2 (.mv 3 (.mv 4 (.cal 5 [17] (.only 17 (.one false 18 (.only 19 .done)))))))))))))))))))) mixed (by decide +kernel) (by decide +kernel) ?_) | fail)
          all_goals
            refine AgainW.to (i + 1, y, sw l1 i (a + k)) ?_ ?_ ?_
            · show a + m / 4 * 2 + 2 - (i + 1) < a + m / 4 * 2 + 2 - i; omega
            · exact ⟨⟨by show a ≤ i + 1; omega, by show i + 1 ≤ _; omega⟩, .step _ _ hsw ⟨by omega, by omega⟩ ⟨by omega, by omega⟩ (by omega)⟩
            · simp only [go_sem, hs, Ret_eq Try.results178]
      · repeat' (first | simp only [go_sem, hs, e0, e1, e2, e4, Ret_eq Try.results178] | simp (disch := omega) only [arith, IntKind.bits, capMax, fill_len, elt_fill] | refine RetL_calc Try.results178 rfl ?_ | fail)
        all_goals exact ⟨rfl, l1, rfl, hsw⟩
  · repeat' (first | simp only [go_sem, e0, Ret_eq Try.results178] | simp (disch := omega) only [arith, IntKind.bits, capMax, fill_len, elt_fill] | refine RetL_calc Try.results178 rfl ?_ | fail)
    all_goals exact ⟨rfl, l, rfl, .refl _⟩
end Go.Proofs.Ytpkampecmlpfmaa.T

end
section
set_option linter.unusedSimpArgs false
set_option linter.unusedVariables false
/- By what a list is parted; walked. -/
namespace Go.Proofs.Ytpkampecmlpfmaa.T
open Go Go.VL Go.Proofs
set_option maxRecDepth 100000
set_option maxHeartbeats 8000000
abbrev boxN16 (c : Int) : Own := ⟨3, 1, [.v (.int .i64 c)]⟩

theorem order216 (l : List Int) (a b : Nat) (c : Int) (ha : a < l.length) (hb : b < l.length) (hl : l.length ≤ 60000) : FunL Try.prog 194 [.ref 0 l.length, .v (.int .i64 a), .v (.int .i64 b), .adr 1 0 0] [own16 l, boxN16 c] fun r os =>
    ∃ (x y : Nat) (d : Int), r = .tup [.v (.int .i64 x), .v (.int .i64 y)] ∧ os = [own16 l, boxN16 d] ∧ (x = a ∨ x = b) ∧ (y = a ∨ y = b) := by
  refine FunL.of_awpI [(100000, 0), (100001, 1)] rfl Try.func194 rfl cal194 Try.ntmps194 (by simp) fun hwf hlw ls => ?_
  simp only [lentWf, D.wfs, D.wf, ints_length, ints_wfs, rows_length, rows_wfs, capMax, and_true, true_and] at hwf hlw
  have hls := lessS16_fun (l.getD b 0) (l.getD a 0)
  by_cases h : l.getD b 0 < l.getD a 0
  · rw [decide_eq_true h] at hls
    repeat' (first | simp only [go_sem, Ret_eq Try.results194] | simp (disch := omega) only [arith, IntKind.bits, capMax, fill_len, elt_fill] | refine RetL_calc Try.results194 rfl ?_ | (refine awpI_draw2 (id := 1) (.one false 0 (.one false 1 (.one false 2 (.one false 3 (.one false 4 (.one false 5 (.one false 6 (.one false 7 (.only 8 .done))))))))) mixed (by decide +kernel) (by decide +kernel) ?_) | (refine opCallI_rd (by simp only [go_sem, Ret_eq Try.results194]; first | done | rfl) (hls) (by rintro _ rfl; rfl) ?_; rintro _ rfl) | fail)
    all_goals exact ⟨b, a, _, rfl, rfl, .inr rfl, .inl rfl⟩
  · rw [decide_eq_false h] at hls
    repeat' (first | simp only [go_sem, Ret_eq Try.results194] | simp (disch := omega) only [arith, IntKind.bits, capMax, fill_len, elt_fill] | refine RetL_calc Try.results194 rfl ?_ | (refine awpI_draw2 (id := 1) (.one false 0 (.one false 1 (.one false 2 (.one false 3 (.one false 4 (.one false 5 (.one false 6 (.one false 7 (.only 8 .done))))))))) mixed (by decide +kernel) (by decide +kernel) ?_) | (refine opCallI_rd (by simp only [go_sem, Ret_eq Try.results194]; first | done | rfl) (hls) (by rintro _ rfl; rfl) ?_; rintro _ rfl) | fail)
    all_goals exact ⟨a, b, _, rfl, rfl, .inl rfl, .inr rfl⟩

theorem median16 (l : List Int) (a b c : Nat) (n : Int) (ha : a < l.length) (hb : b < l.length) (hc : c < l.length) (hl : l.length ≤ 60000) : FunL Try.prog 192 [.ref 0 l.length, .v (.int .i64 a), .v (.int .i64 b), .v (.int .i64 c), .adr 1 0 0] [own16 l, boxN16 n] fun r os =>
    ∃ (x : Nat) (d : Int), r = .v (.int .i64 x) ∧ os = [own16 l, boxN16 d] ∧ (x = a ∨ x = b ∨ x = c) := by
  refine FunL.of_awpI [(100000, 0), (100001, 1)] rfl Try.func192 rfl cal192 Try.ntmps192 (by simp) fun hwf hlw ls => ?_
  simp only [lentWf, D.wfs, D.wf, ints_length, ints_wfs, rows_length, rows_wfs, capMax, and_true, true_and] at hwf hlw
  repeat' (first | simp only [go_sem, Ret_eq Try.results192] | (refine opCallI_lend [0,1] (by simp only [go_sem, Ret_eq Try.results192]; first | done | rfl) (by simp only [go_sem, Ret_eq Try.results192]; first | done | rfl) (by decide) (by simp only [go_sem, Ret_eq Try.results192]; first | done | decide) (by simp only [go_sem, Ret_eq Try.results192]; first | done | decide) (order216 l a b n ha hb hl) ?_; rintro _ _ ⟨x1, y1, d1, rfl, rfl, hx1, hy1⟩) | fail)
  have bx1 : x1 < l.length := by omega
  have by1 : y1 < l.length := by omega
  repeat' (first | simp only [go_sem, Ret_eq Try.results192] | (refine opCallI_lend [0,1] (by simp only [go_sem, Ret_eq Try.results192]; first | done | rfl) (by simp only [go_sem, Ret_eq Try.results192]; first | done | rfl) (by decide) (by simp only [go_sem, Ret_eq Try.results192]; first | done | decide) (by simp only [go_sem, Ret_eq Try.results192]; first | done | decide) (order216 l y1 c d1 by1 hc hl) ?_; rintro _ _ ⟨x2, y2, d2, rfl, rfl, hx2, hy2⟩) | fail)
  have bx2 : x2 < l.length := by omega
  repeat' (first | simp only [go_sem, Ret_eq Try.results192] | refine RetL_calc Try.results192 rfl ?_ | (refine opCallI_lend [0,1] (by simp only [go_sem, Ret_eq Try.results192]; first | done | rfl) (by simp only [go_sem, Ret_eq Try.results192]; first | done | rfl) (by decide) (by simp only [go_sem, Ret_eq Try.results192]; first | done | decide) (by simp only [go_sem, Ret_eq Try.results192]; first | done | decide) (order216 l x1 x2 d2 bx1 bx2 hl) ?_; rintro _ _ ⟨x3, y3, d3, rfl, rfl, hx3, hy3⟩) | fail)
  exact ⟨y3, d3, rfl, rfl, by omega⟩

theorem medAdj16 (l : List Int) (a : Nat) (n : Int) (h1 : 1 ≤ a) (ha : a + 1 < l.length) (hl : l.length ≤ 60000) : FunL Try.prog 191 [.ref 0 l.length, .v (.int .i64 a), .adr 1 0 0] [own16 l, boxN16 n] fun r os =>
    ∃ (x : Nat) (d : Int), r = .v (.int .i64 x) ∧ os = [own16 l, boxN16 d] ∧ (a ≤ x + 1 ∧ x ≤ a + 1) := by
  refine FunL.of_awpI [(100000, 0), (100001, 1)] rfl Try.func191 rfl cal191 Try.ntmps191 (by simp) fun hwf hlw ls => ?_
  simp only [lentWf, D.wfs, D.wf, ints_length, ints_wfs, rows_length, rows_wfs, capMax, and_true, true_and] at hwf hlw
  have e1 : (a : Int) - 1 = ((a - 1 : Nat) : Int) := by omega
  repeat' (first | simp only [go_sem, e1, Ret_eq Try.results191] | simp (disch := omega) only [arith, IntKind.bits, capMax, fill_len, elt_fill] | refine RetL_calc Try.results191 rfl ?_ | (refine opCallI_lend [0,1] (by simp only [go_sem, e1, Ret_eq Try.results191]; first | done | rfl) (by simp only [go_sem, e1, Ret_eq Try.results191]; first | done | rfl) (by decide) (by simp only [go_sem, e1, Ret_eq Try.results191]; first | done | decide) (by simp only [go_sem, e1, Ret_eq Try.results191]; first | done | decide) (median16 l (a - 1) a (a + 1) n (by omega) (by omega) ha hl) ?_; rintro _ _ ⟨x, d, rfl, rfl, hx⟩) | fail)
  exact ⟨x, d, rfl, rfl, by omega⟩

theorem choose16 (l : List Int) (a b : Nat) (hab : a + 8 ≤ b) (hb : b ≤ l.length) (hl : l.length ≤ 60000) : FunL Try.prog 179 [.ref 0 l.length, .v (.int .i64 a), .v (.int .i64 b)] [own16 l] fun r os =>
    ∃ (x : Nat) (h : Int), r = .tup [.v (.int .i64 x), .v (.int .i64 h)] ∧ os = [own16 l] ∧ a ≤ x ∧ x < b := by
  refine FunL.of_awpI [(100000, 0)] rfl Try.func179 rfl cal179 Try.ntmps179 (by simp) fun hwf hlw ls => ?_
  simp only [lentWf, D.wfs, D.wf, ints_length, ints_wfs, rows_length, rows_wfs, capMax, and_true, true_and] at hwf hlw
  obtain ⟨m, rfl⟩ : ∃ m, b = a + m := ⟨b - a, by omega⟩
  have e0 : ((a + m : Nat) : Int) - (a : Int) = ((m : Nat) : Int) := by omega
  have e1 : ((m : Nat) : Int).tdiv 4 = (m : Int) / 4 := Int.tdiv_eq_ediv_of_nonneg (by omega)
  have e2 : (a : Int) + (m : Int) / 4 * 1 = ((a + m / 4 : Nat) : Int) := by omega
  have e3 : (a : Int) + (m : Int) / 4 * 2 = ((a + m / 4 * 2 : Nat) : Int) := by omega
  have e4 : (a : Int) + (m : Int) / 4 * 3 = ((a + m / 4 * 3 : Nat) : Int) := by omega
  have key : ∀ (i j k : Nat) (d : Int), (a ≤ i ∧ i < a + m) → (a ≤ j ∧ j < a + m) → (a ≤ k ∧ k < a + m) → FunL Try.prog 192 [.ref 0 l.length, .v (.int .i64 i), .v (.int .i64 j), .v (.int .i64 k), .adr 1 0 0] [own16 l, boxN16 d] fun r os =>
      ∃ (x : Nat) (d : Int), r = .v (.int .i64 x) ∧ os = [own16 l, boxN16 d] ∧ (x = i ∨ x = j ∨ x = k) := fun i j k d h1 h2 h3 => median16 l i j k d (by omega) (by omega) (by omega) hl
  by_cases h50 : 50 ≤ m
  · repeat' (first | simp only [go_sem, e0, e1, e2, e3, e4, Ret_eq Try.results179] | simp (disch := omega) only [arith, IntKind.bits, capMax, fill_len, elt_fill] | (refine opCallI_lend [0,9] (by simp only [go_sem, e0, e1, e2, e3, e4, Ret_eq Try.results179]; first | done | rfl) (by simp only [go_sem, e0, e1, e2, e3, e4, Ret_eq Try.results179]; first | done | rfl) (by decide) (by simp only [go_sem, e0, e1, e2, e3, e4, Ret_eq Try.results179]; first | done | decide) (by simp only [go_sem, e0, e1, e2, e3, e4, Ret_eq Try.results179]; first | done | decide) (medAdj16 l (a + m / 4) 0 (by omega) (by omega) hl) ?_; rintro _ _ ⟨x1, d1, rfl, rfl, hx1⟩) | fail)
    repeat' (first | simp only [go_sem, e0, e1, e2, e3, e4, Ret_eq Try.results179] | (refine opCallI_lend [0,9] (by simp only [go_sem, e0, e1, e2, e3, e4, Ret_eq Try.results179]; first | done | rfl) (by simp only [go_sem, e0, e1, e2, e3, e4, Ret_eq Try.results179]; first | done | rfl) (by decide) (by simp only [go_sem, e0, e1, e2, e3, e4, Ret_eq Try.results179]; first | done | decide) (by simp only [go_sem, e0, e1, e2, e3, e4, Ret_eq Try.results179]; first | done | decide) (medAdj16 l (a + m / 4 * 2) d1 (by omega) (by omega) hl) ?_; rintro _ _ ⟨x2, d2, rfl, rfl, hx2⟩) | fail)
    repeat' (first | simp only [go_sem, e0, e1, e2, e3, e4, Ret_eq Try.results179] | (refine opCallI_lend [0,9] (by simp only [go_sem, e0, e1, e2, e3, e4, Ret_eq Try.results179]; first | done | rfl) (by simp only [go_sem, e0, e1, e2, e3, e4, Ret_eq Try.results179]; first | done | rfl) (by decide) (by simp only [go_sem, e0, e1, e2, e3, e4, Ret_eq Try.results179]; first | done | decide) (by simp only [go_sem, e0, e1, e2, e3, e4, Ret_eq Try.results179]; first | done | decide) (medAdj16 l (a + m / 4 * 3) d2 (by omega) (by omega) hl) ?_; rintro _ _ ⟨x3, d3, rfl, rfl, hx3⟩) | fail)
    repeat' (first | simp only [go_sem, e0, e1, e2, e3, e4, Ret_eq Try.results179] | (with_reducible refine condI_beq (fun hq hqb => ?_) (fun hq hqb => ?_) <;> simp only [KP_mk, hqb]) | refine RetL_calc Try.results179 rfl ?_ | (refine opCallI_lend [0,9] (by simp only [go_sem, e0, e1, e2, e3, e4, Ret_eq Try.results179]; first | done | rfl) (by simp only [go_sem, e0, e1, e2, e3, e4, Ret_eq Try.results179]; first | done | rfl) (by decide) (by simp only [go_sem, e0, e1, e2, e3, e4, Ret_eq Try.results179]; first | done | decide) (by simp only [go_sem, e0, e1, e2, e3, e4, Ret_eq Try.results179]; first | done | decide) (key x1 x2 x3 d3 (by omega) (by omega) (by omega)) ?_; rintro _ _ ⟨x, d, rfl, rfl, hx⟩) | fail)
    all_goals (refine ⟨x, _, rfl, ?_⟩; first | exact ⟨rfl, by omega, by omega⟩ | exact ⟨by omega, by omega⟩)
  · repeat' (first | simp only [go_sem, e0, e1, e2, e3, e4, Ret_eq Try.results179] | simp (disch := omega) only [arith, IntKind.bits, capMax, fill_len, elt_fill] | (with_reducible refine condI_beq (fun hq hqb => ?_) (fun hq hqb => ?_) <;> simp only [KP_mk, hqb]) | refine RetL_calc Try.results179 rfl ?_ | (refine opCallI_lend [0,9] (by simp only [go_sem, e0, e1, e2, e3, e4, Ret_eq Try.results179]; first | done | rfl) (by simp only [go_sem, e0, e1, e2, e3, e4, Ret_eq Try.results179]; first | done | rfl) (by decide) (by simp only [go_sem, e0, e1, e2, e3, e4, Ret_eq Try.results179]; first | done | decide) (by simp only [go_sem, e0, e1, e2, e3, e4, Ret_eq Try.results179]; first | done | decide) (key (a + m / 4) (a + m / 4 * 2) (a + m / 4 * 3) 0 (by omega) (by omega) (by omega)) ?_; rintro _ _ ⟨x, d, rfl, rfl, hx⟩) | fail)
    all_goals (refine ⟨x, _, rfl, ?_⟩; first | exact ⟨rfl, by omega, by omega⟩ | exact ⟨by omega, by omega⟩)
end Go.Proofs.Ytpkampecmlpfmaa.T

end
