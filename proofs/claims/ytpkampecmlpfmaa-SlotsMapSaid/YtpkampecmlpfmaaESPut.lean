import Derived.Test.YtpkampecmlpfmaaLE
import Derived.Test.YtpkampecmlpfmaaESPutM
set_option linter.unusedSimpArgs false
set_option linter.unusedVariables false
/- Slots with one put or taken out, walked. -/
namespace Go.Proofs.Ytpkampecmlpfmaa.T
open Go Go.VL Go.Proofs
set_option maxRecDepth 100000
set_option maxHeartbeats 4000000

theorem clone16p_fun (v : List Int) (hb : v.length ≤ 500) : Fun Try.prog 129 [.lst (ints .i16 v)] fun r => r = .lst (ints .i16 v) := by
  by_cases h : 1 ≤ v.length
  · refine (clone16_fun v hb h).toFun ?_
    rintro _ _ ⟨rfl, rfl⟩
    refine ⟨by simp only [go_sem, Ret_eq Try.results129], by simp only [go_sem, Ret_eq Try.results129], ?_⟩
    simp only [go_sem, Ret_eq Try.results129]
  · obtain rfl : v = [] := List.length_eq_zero_iff.1 (by omega)
    refine Fun.of_awpI Try.func129 rfl cal129 Try.ntmps129 (by simp) fun hwf => ?_
    simp only [D.wfs, D.wf, ints_length, ints_wfs, rows_length, rows_wfs, capMax, and_true, true_and] at hwf
    simp only [go_sem, Ret_eq Try.results129]
    refine opBinI_isNil (by simp only [factsT46]) fun c hc => ?_
    simp only [go_sem, Ret_eq Try.results129]
    refine condI_split (fun h => ?_) (fun h => ?_)
    · repeat' (first | simp only [go_sem, h, Ret_eq Try.results129] | fail)
    · repeat' (first | simp only [go_sem, h, frzStep, Ret_eq Try.results129] | fail)

theorem clone64_fun (l : List Int) (hb : l.length ≤ 500) (h : 1 ≤ l.length) : FunO Try.prog 141 [.lst (ints .i64 l)] fun r o => r = .ref 0 l.length ∧ o = some ⟨2, 1, ints .i64 l⟩ := by
  refine FunO.of_awpI Try.func141 rfl cal141 Try.ntmps141 (by simp) fun hwf => ?_
  simp only [D.wfs, D.wf, ints_length, ints_wfs, rows_length, rows_wfs, capMax, and_true, true_and] at hwf
  simp only [go_sem, Ret_eq Try.results141]
  refine opBinI_isNil (by simp only [go_sem]) fun c hc => ?_
  rw [ints_isNil] at hc
  simp only [go_sem, Ret_eq Try.results141]
  refine condI_split (fun h => ?_) (fun h => ?_)
  · have hb := hc h
    subst hb
    simp at h
  · repeat' (first | simp only [go_sem, h, Ret_eq Try.results141] | simp (disch := omega) only [arith, IntKind.bits, capMax, fill_len, elt_fill] | refine RetO_calc Try.results141 ?_ | fail)

theorem cloneVecs_fun (l : List (List Int)) (hb : l.length ≤ 500) (h : 1 ≤ l.length) : FunO Try.prog 142 [.lst (rows .i16 l)] fun r o => r = .ref 0 l.length ∧ o = some ⟨46, 1, rows .i16 l⟩ := by
  refine FunO.of_awpI Try.func142 rfl cal142 Try.ntmps142 (by simp) fun hwf => ?_
  simp only [D.wfs, D.wf, ints_length, ints_wfs, rows_length, rows_wfs, capMax, and_true, true_and] at hwf
  simp only [go_sem, Ret_eq Try.results142]
  refine opBinI_isNil (by simp only [go_sem]) fun c hc => ?_
  rw [rows_isNil] at hc
  simp only [go_sem, Ret_eq Try.results142]
  refine condI_split (fun h => ?_) (fun h => ?_)
  · have hb := hc h
    subst hb
    simp at h
  · repeat' (first | simp only [go_sem, h, Ret_eq Try.results142] | simp (disch := omega) only [arith, IntKind.bits, capMax, fill_len, elt_fill] | refine RetO_calc Try.results142 ?_ | fail)

theorem index64_fun (l : List Int) (a : Int) : Fun Try.prog 97 [.lst (ints .i64 l), .v (.int .i64 a)] fun r => r = .v (.int .i64 (idxI l a)) := by
  refine Fun.of_awpI Try.func97 rfl cal97 Try.ntmps97 (by simp) fun hwf => ?_
  simp only [D.wfs, D.wf, ints_length, ints_wfs, rows_length, rows_wfs, capMax, and_true, true_and] at hwf
  repeat' (first | simp only [go_sem, Ret_eq Try.results97] | fail)
  refine awpI_for l.length (fun k => ∀ i, i < k → l.getD i 0 ≠ a) (fun k => [(8, .v (.int .i64 k))]) (fun _ => []) [0, 1, 7] [] _ (Weak.refl _) (fun i hi => absurd hi (Nat.not_lt_zero _)) ?_ ?_ ?_
  · simp only [go_sem, Ret_eq Try.results97]
  · simp only [go_sem, Ret_eq Try.results97]
  · intro k s hk hQ hs
    simp only [go_sem, Ret_eq Try.results97] at hs
    by_cases hka : k < l.length
    · by_cases q : l.getD k 0 = a
      · rw [idx_hit hka q hQ]
        have hb : (a == l.getD k 0) = true := by rw [q]; exact beq_self_eq_true a
        repeat' (first | simp only [go_sem, hs, hb, q, beq_self_eq_true, Ret_eq Try.results97] | simp (disch := omega) only [arith, IntKind.bits, capMax, fill_len, elt_fill] | fail)
      · have hb : (a == l.getD k 0) = false := beq_eq_false_iff_ne.2 (Ne.symm q)
        have hb2 : (l.getD k 0 == a) = false := beq_eq_false_iff_ne.2 q
        repeat' (first | simp only [go_sem, hs, hb, hb2, Ret_eq Try.results97] | simp (disch := omega) only [arith, IntKind.bits, capMax, fill_len, elt_fill] | (refine Again.up (by omega) ?_ ?_) | fail)
        intro i hi
        by_cases e : i < k
        · exact hQ i e
        · obtain rfl : i = k := by omega
          exact q
    · obtain rfl : k = l.length := by omega
      rw [idx_miss hQ]
      repeat' (first | simp only [go_sem, hs, Ret_eq Try.results97] | simp (disch := omega) only [arith, IntKind.bits, capMax, fill_len, elt_fill] | fail)
theorem row_same {l : List (List Int)} {i : Nat} (h : i < l.length) : l.set i (l.getD i []) = l := by
  have : l.getD i [] = l[i] := by simp [List.getD, h]
  rw [this]; exact List.set_getElem_self h

theorem with_fun (dim : Int) (ids : List Int) (vecs : List (List Int)) (i : Nat) (id : Int) (v : List Int) (h1 : 1 ≤ ids.length) (hl : ids.length ≤ 500) (h2 : vecs.length = ids.length) (hv : ∀ x ∈ vecs, x.length ≤ 500) (hv2 : v.length ≤ 500) (hi : i < ids.length) :
    Fun Try.prog 98 [slotsD dim ids vecs, .v (.int .i64 i), .v (.int .i64 id), .lst (ints .i16 v)] fun r => r = slotsD dim (ids.set i id) (vecs.set i v) := by
  refine Fun.of_awpI Try.func98 rfl cal98 Try.ntmps98 (by simp) fun hwf => ?_
  simp only [D.wfs, D.wf, ints_length, ints_wfs, rows_length, rows_wfs, capMax, and_true, true_and] at hwf
  have c1 := clone64_fun ids hl h1
  have c2 := cloneVecs_fun vecs (by omega) (by omega)
  have c3 := clone16p_fun v hv2
  repeat' (first | simp only [go_sem, Ret_eq Try.results98] | (refine awpI_draw2 (id := 1) (.one false 0 (.one false 1 (.cal 3 [2] (.cal 4 [2] (.only 2 (.cal 6 [5] (.only 5 (.only 7 (.one false 8 (.only 9 .done)))))))))) mixed (by decide +kernel) (by decide +kernel) ?_) | (refine opCallI_ownGv (by simp only [go_sem, Ret_eq Try.results98]; first | done | rfl) (c1) ?_; rintro _ _ ⟨rfl, rfl⟩) | (refine opCallI_ownGv (by simp only [go_sem, Ret_eq Try.results98]; first | done | rfl) (c2) ?_; rintro _ _ ⟨rfl, rfl⟩) | fail)
  refine awpI_for vecs.length (fun k => True) (fun k => [(22, .v (.int .i64 k))]) (fun k => [(16, ⟨46, 1, rows .i16 vecs⟩)]) [1, 2, 3, 4, 8, 20, 21] [4, 13, 8] _ (Weak.refl _) trivial ?_ ?_ ?_
  · simp only [go_sem, Ret_eq Try.results98]
  · simp only [go_sem, Ret_eq Try.results98]
  · intro k s hk _ hs
    simp only [go_sem, Ret_eq Try.results98] at hs
    by_cases hka : k < vecs.length
    · have c4 := clone16p_fun (vecs.getD k []) (hv _ (getD_mem (d := []) hka))
      have hsm := row_same (l := vecs) hka
      repeat' (first | simp only [go_sem, hs, hsm, Ret_eq Try.results98] | simp (disch := omega) only [arith, IntKind.bits, capMax, fill_len, elt_fill] | (refine awpI_draw2 (id := 5) (.one false 3 (.cal 0 [4] (.cal 1 [4] (.cal 2 [4] (.only 4 (.one false 5 (.only 6 .done))))))) mixed (by decide +kernel) (by decide +kernel) ?_) | (refine Again.up (by omega) ?_ ?_) | (refine opCallI_gv (by simp only [go_sem, hs, hsm, Ret_eq Try.results98]; first | done | rfl) (c4) ?_; rintro _ rfl) | fail)
    · obtain rfl : k = vecs.length := by omega
      have tk1 : (ids.set i id).take ids.length = ids.set i id := List.take_of_length_le (by simp)
      have tk2 : (vecs.set i v).take vecs.length = vecs.set i v := List.take_of_length_le (by simp)
      repeat' (first | simp only [go_sem, hs, List.length_set, tk1, tk2, Ret_eq Try.results98] | simp (disch := omega) only [arith, IntKind.bits, capMax, fill_len, elt_fill] | (refine awpI_draw2 (id := 7) (.one false 7 (.cal 0 [8] (.cal 1 [8] (.cal 2 [8] (.cal 6 [8] (.one true 5 (.two 3 8 (.two 4 8 (.only 8 (.one false 9 (.only 10 (.one false 11 (.only 12 .done))))) (.one false 9 (.cal 4 [10] (.only 10 (.one false 11 (.only 12 .done)))))) (.one false 9 (.cal 3 [10] (.cal 4 [10] (.only 10 (.one false 11 (.only 12 .done))))))))))))) mixed (by decide +kernel) (by decide +kernel) ?_) | (refine sch2I_two ?_ ?_) | (refine opCallI_gv (by simp only [go_sem, hs, List.length_set, tk1, tk2, Ret_eq Try.results98]; first | done | rfl) (c3) ?_; rintro _ rfl) | fail)

theorem find_fun (dim : Int) (ids : List Int) (vecs : List (List Int)) (id : Int) : Fun Try.prog 33 [slotsD dim ids vecs, .v (.int .i64 id)] fun r => r = .tup [.v (.int .i64 (findI dim ids vecs id)), .v (.int .i64 (findE dim ids vecs id))] := by
  refine Fun.of_awpI Try.func33 rfl cal33 Try.ntmps33 (by simp) fun hwf => ?_
  simp only [D.wfs, D.wf, ints_length, ints_wfs, rows_length, rows_wfs, capMax, and_true, true_and] at hwf
  have hi := isId_fun id
  by_cases h : slotsOk dim ids vecs
  · have hd := dir_ok dim ids vecs h
    by_cases h2 : idOk id
    · have h2' : 0 ≤ id ∧ id ≤ 2147483647 := h2
      rw [decide_eq_true h2'] at hi
      unfold findI findE
      rw [if_pos ⟨h, h2⟩, if_pos ⟨h, h2⟩]
      unfold dirAt
      cases hlk : lookN id (dirN ids ids.length) with
      | none =>
        repeat' (first | simp only [go_sem, hlk, Ret_eq Try.results33] | (refine opCallI_ownGv (by simp only [go_sem, hlk, Ret_eq Try.results33]; first | done | rfl) (hd) ?_; rintro _ _ ⟨rfl, rfl⟩) | (refine opCallI_rd (by simp only [go_sem, hlk, Ret_eq Try.results33]; first | done | rfl) (hi) (by rintro _ rfl; rfl) ?_; rintro _ rfl) | fail)
        all_goals simp
      | some x =>
        repeat' (first | simp only [go_sem, hlk, Ret_eq Try.results33] | (refine opCallI_ownGv (by simp only [go_sem, hlk, Ret_eq Try.results33]; first | done | rfl) (hd) ?_; rintro _ _ ⟨rfl, rfl⟩) | (refine opCallI_rd (by simp only [go_sem, hlk, Ret_eq Try.results33]; first | done | rfl) (hi) (by rintro _ rfl; rfl) ?_; rintro _ rfl) | fail)
        all_goals simp
    · have h2' : ¬ (0 ≤ id ∧ id ≤ 2147483647) := h2
      rw [decide_eq_false h2'] at hi
      unfold findI findE
      rw [if_neg (fun q => h2 q.2), if_neg (fun q => h2 q.2)]
      repeat' (first | simp only [go_sem, Ret_eq Try.results33] | (refine opCallI_ownGv (by simp only [go_sem, Ret_eq Try.results33]; first | done | rfl) (hd) ?_; rintro _ _ ⟨rfl, rfl⟩) | (refine opCallI_rd (by simp only [go_sem, Ret_eq Try.results33]; first | done | rfl) (hi) (by rintro _ rfl; rfl) ?_; rintro _ rfl) | fail)
  · have hd := dir_bad dim ids vecs h
    unfold findI findE
    rw [if_neg (fun q => h q.1), if_neg (fun q => h q.1)]
    repeat' (first | simp only [go_sem, Ret_eq Try.results33] | (refine opCallI_ownGv (by simp only [go_sem, Ret_eq Try.results33]; first | done | rfl) (hd) ?_; rintro _ _ ⟨rfl, rfl⟩) | fail)
theorem put_one {dim : Int} {ids : List Int} {vecs : List (List Int)} {id : Int} {v : List Int} (h : putE dim ids vecs id v ≠ 0) (hf : findE dim ids vecs id ≠ 1) (hv : vecErr v = 0 ∧ (v.length : Int) = dim) : putE dim ids vecs id v = 7 ∧ findE dim ids vecs id = 5 ∧ idxI ids (-1) < 0 := by
  unfold putE at *
  rw [if_neg (fun q => q.elim hf (fun q => q hv))] at h ⊢
  by_cases q : findE dim ids vecs id = 5 ∧ idxI ids (-1) < 0
  · rw [if_pos q]; exact ⟨rfl, q⟩
  · rw [if_neg q] at h; exact absurd rfl h

theorem slotsPut_fun (dim : Int) (ids : List Int) (vecs : List (List Int)) (id : Int) (v : List Int) (hv : ∀ x ∈ vecs, x.length ≤ 500) (hv2 : v.length ≤ 500) :
    Fun Try.prog 34 [slotsD dim ids vecs, .v (.int .i64 id), .lst (ints .i16 v)] fun r => r = .tup [.v (.int .i64 (putI dim ids vecs id v)),
      (if putE dim ids vecs id v = 0 then slotsD dim (ids.set (putI dim ids vecs id v).toNat id) (vecs.set (putI dim ids vecs id v).toNat v) else slotsD 0 [] []), .v (.int .i64 (putE dim ids vecs id v))] := by
  have hf := find_fun dim ids vecs id
  have hfi := fits_slot_fun dim ids vecs v
  by_cases h : putE dim ids vecs id v = 0
  · obtain ⟨s1, s2, i, i1, i2, i3, i4⟩ := put_zero h
    have hvo : vecErr v = 0 ∧ (v.length : Int) = dim := by
      by_cases q : vecErr v = 0 ∧ (v.length : Int) = dim
      · exact q
      · unfold putE at h; rw [if_pos (.inr q)] at h; cases h
    rw [decide_eq_true hvo] at hfi
    rw [h, if_pos rfl]
    have hw := with_fun dim ids vecs i id v (by omega) (by have := s1.2.1; omega) s1.2.2.1 hv hv2 i1
    rcases find_cases dim ids vecs id with f | f | f
    · have e : putI dim ids vecs id v = findI dim ids vecs id := by unfold putI; rw [if_pos h, if_neg (by rw [f]; decide)]
      rw [f] at hf
      rw [e] at i2 ⊢
      rw [i2] at hf ⊢
      rw [Int.toNat_natCast]
      refine Fun.of_awpI Try.func34 rfl cal34 Try.ntmps34 (by simp) fun hwf => ?_
      simp only [D.wfs, D.wf, ints_length, ints_wfs, rows_length, rows_wfs, capMax, and_true, true_and] at hwf
      repeat' (first | simp only [go_sem, Ret_eq Try.results34] | (refine opCallI_rd (by simp only [go_sem, Ret_eq Try.results34]; first | done | rfl) (hf) (by rintro _ rfl; rfl) ?_; rintro _ rfl) | (refine opCallI_rd (by simp only [go_sem, Ret_eq Try.results34]; first | done | rfl) (hfi) (by rintro _ rfl; rfl) ?_; rintro _ rfl) | (refine opCallI_gv (by simp only [go_sem, Ret_eq Try.results34]; first | done | rfl) (hw) ?_; rintro _ rfl) | fail)
    · unfold putE at h; rw [if_pos (.inl f)] at h; cases h
    · have e : putI dim ids vecs id v = idxI ids (-1) := by unfold putI; rw [if_pos h, if_pos f]
      have hx := index64_fun ids (-1)
      rw [f] at hf
      rw [e] at i2 ⊢
      rw [i2] at hx ⊢
      rw [Int.toNat_natCast]
      refine Fun.of_awpI Try.func34 rfl cal34 Try.ntmps34 (by simp) fun hwf => ?_
      simp only [D.wfs, D.wf, ints_length, ints_wfs, rows_length, rows_wfs, capMax, and_true, true_and] at hwf
      repeat' (first | simp only [go_sem, Ret_eq Try.results34] | simp (disch := omega) only [arith, IntKind.bits, capMax, fill_len, elt_fill] | (refine opCallI_rd (by simp only [go_sem, Ret_eq Try.results34]; first | done | rfl) (hf) (by rintro _ rfl; rfl) ?_; rintro _ rfl) | (refine opCallI_rd (by simp only [go_sem, Ret_eq Try.results34]; first | done | rfl) (hfi) (by rintro _ rfl; rfl) ?_; rintro _ rfl) | (refine opCallI_rd (by simp only [go_sem, Ret_eq Try.results34]; first | done | rfl) (hx) (by rintro _ rfl; rfl) ?_; rintro _ rfl) | (refine opCallI_gv (by simp only [go_sem, Ret_eq Try.results34]; first | done | rfl) (hw) ?_; rintro _ rfl) | fail)
  · rw [if_neg h]
    have e0 : putI dim ids vecs id v = 0 := if_neg h
    rw [e0]
    by_cases f : findE dim ids vecs id = 1
    · have e1 : putE dim ids vecs id v = 1 := if_pos (.inl f)
      rw [e1]
      rw [f] at hf
      refine Fun.of_awpI Try.func34 rfl cal34 Try.ntmps34 (by simp) fun hwf => ?_
      simp only [D.wfs, D.wf, ints_length, ints_wfs, rows_length, rows_wfs, capMax, and_true, true_and] at hwf
      repeat' (first | simp only [go_sem, ints_nil, rows_nil, Ret_eq Try.results34] | (refine opCallI_rd (by simp only [go_sem, ints_nil, rows_nil, Ret_eq Try.results34]; first | done | rfl) (hf) (by rintro _ rfl; rfl) ?_; rintro _ rfl) | fail)
      all_goals rfl
    · have hfb : (findE dim ids vecs id == 1) = false := beq_eq_false_iff_ne.2 f
      by_cases hvo : vecErr v = 0 ∧ (v.length : Int) = dim
      · obtain ⟨g1, g2, g3⟩ := put_one h f hvo
        rw [decide_eq_true hvo] at hfi
        rw [g1]
        rw [g2] at hf
        have hx := index64_fun ids (-1)
        refine Fun.of_awpI Try.func34 rfl cal34 Try.ntmps34 (by simp) fun hwf => ?_
        simp only [D.wfs, D.wf, ints_length, ints_wfs, rows_length, rows_wfs, capMax, and_true, true_and] at hwf
        repeat' (first | simp only [go_sem, ints_nil, rows_nil, Ret_eq Try.results34] | simp (disch := omega) only [arith, IntKind.bits, capMax, fill_len, elt_fill] | (refine opCallI_rd (by simp only [go_sem, ints_nil, rows_nil, Ret_eq Try.results34]; first | done | rfl) (hf) (by rintro _ rfl; rfl) ?_; rintro _ rfl) | (refine opCallI_rd (by simp only [go_sem, ints_nil, rows_nil, Ret_eq Try.results34]; first | done | rfl) (hfi) (by rintro _ rfl; rfl) ?_; rintro _ rfl) | (refine opCallI_rd (by simp only [go_sem, ints_nil, rows_nil, Ret_eq Try.results34]; first | done | rfl) (hx) (by rintro _ rfl; rfl) ?_; rintro _ rfl) | fail)
        all_goals rfl
      · rw [decide_eq_false hvo] at hfi
        have e1 : putE dim ids vecs id v = 1 := if_pos (.inr hvo)
        rw [e1]
        refine Fun.of_awpI Try.func34 rfl cal34 Try.ntmps34 (by simp) fun hwf => ?_
        simp only [D.wfs, D.wf, ints_length, ints_wfs, rows_length, rows_wfs, capMax, and_true, true_and] at hwf
        repeat' (first | simp only [go_sem, hfb, ints_nil, rows_nil, Ret_eq Try.results34] | (refine opCallI_rd (by simp only [go_sem, hfb, ints_nil, rows_nil, Ret_eq Try.results34]; first | done | rfl) (hf) (by rintro _ rfl; rfl) ?_; rintro _ rfl) | (refine opCallI_rd (by simp only [go_sem, hfb, ints_nil, rows_nil, Ret_eq Try.results34]; first | done | rfl) (hfi) (by rintro _ rfl; rfl) ?_; rintro _ rfl) | fail)
        all_goals rfl

theorem slotsDel_fun (dim : Int) (ids : List Int) (vecs : List (List Int)) (id : Int) (hv : ∀ x ∈ vecs, x.length ≤ 500) :
    Fun Try.prog 37 [slotsD dim ids vecs, .v (.int .i64 id)] fun r => r = .tup [.v (.int .i64 (findI dim ids vecs id)),
      (if findE dim ids vecs id = 0 then slotsD dim (ids.set (findI dim ids vecs id).toNat (-1)) (vecs.set (findI dim ids vecs id).toNat []) else slotsD 0 [] []), .v (.int .i64 (findE dim ids vecs id))] := by
  have hf := find_fun dim ids vecs id
  by_cases h : findE dim ids vecs id = 0
  · obtain ⟨s1, s2, i, i1, i2, i3⟩ := find_zero h
    rw [h] at hf
    rw [i2] at hf
    rw [h, i2, if_pos rfl, Int.toNat_natCast]
    have hw : Fun Try.prog 98 [slotsD dim ids vecs, .v (.int .i64 i), .v (.int .i64 (-1)), .lst []] _ := with_fun dim ids vecs i (-1) [] (by omega) (by have := s1.2.1; omega) s1.2.2.1 hv (by decide) i1
    refine Fun.of_awpI Try.func37 rfl cal37 Try.ntmps37 (by simp) fun hwf => ?_
    simp only [D.wfs, D.wf, ints_length, ints_wfs, rows_length, rows_wfs, capMax, and_true, true_and] at hwf
    repeat' (first | simp only [go_sem, beq_self_eq_true, Ret_eq Try.results37] | (refine opCallI_rd (by simp only [go_sem, beq_self_eq_true, Ret_eq Try.results37]; first | done | rfl) (hf) (by rintro _ rfl; rfl) ?_; rintro _ rfl) | (refine opCallI_gv (by simp only [go_sem, beq_self_eq_true, Ret_eq Try.results37]; first | done | rfl) (hw) ?_; rintro _ rfl) | fail)
  · rw [if_neg h]
    have hfb : (findE dim ids vecs id == 0) = false := beq_eq_false_iff_ne.2 h
    have e0 : findI dim ids vecs id = 0 := by
      unfold findI
      by_cases q : slotsOk dim ids vecs ∧ idOk id
      · unfold findE at h
        rw [if_pos q] at h ⊢
        cases e : dirAt ids id with
        | none => rfl
        | some x => rw [e] at h; exact absurd rfl h
      · rw [if_neg q]
    rw [e0] at hf ⊢
    refine Fun.of_awpI Try.func37 rfl cal37 Try.ntmps37 (by simp) fun hwf => ?_
    simp only [D.wfs, D.wf, ints_length, ints_wfs, rows_length, rows_wfs, capMax, and_true, true_and] at hwf
    repeat' (first | simp only [go_sem, hfb, ints_nil, rows_nil, Ret_eq Try.results37] | simp (disch := omega) only [arith, IntKind.bits, capMax, fill_len, elt_fill] | (refine opCallI_rd (by simp only [go_sem, hfb, ints_nil, rows_nil, Ret_eq Try.results37]; first | done | rfl) (hf) (by rintro _ rfl; rfl) ?_; rintro _ rfl) | fail)
    all_goals rfl
end Go.Proofs.Ytpkampecmlpfmaa.T
