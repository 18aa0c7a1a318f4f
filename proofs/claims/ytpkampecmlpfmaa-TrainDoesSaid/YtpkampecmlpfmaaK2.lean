import Derived.Test.YtpkampecmlpfmaaK1
set_option linter.unusedSimpArgs false
set_option linter.unusedVariables false
section
set_option linter.unusedSimpArgs false
set_option linter.unusedVariables false
/- A step, the lists that it gives as one's own. -/
namespace Go.Proofs.Ytpkampecmlpfmaa.T
open Go Go.VL Go.Proofs
set_option maxRecDepth 100000
set_option maxHeartbeats 8000000
theorem gat_snoc {ids : List Int} {vecs : List (List Int)} {L : List Int} {s : List (List Int)} {k j : Nat} (hk : k < L.length) (hj : L.getD k 0 = (j : Int)) (hq : ids.getD j 0 ≠ -1) :
    (gat ids vecs (L.take (k + 1))).length = (gat ids vecs (L.take k)).length + 1 ∧ (s ++ gat ids vecs L).getD (s.length + (gat ids vecs (L.take k)).length) [] = vecs.getD j [] ∧ s.length + (gat ids vecs (L.take k)).length < (s ++ gat ids vecs L).length := by
  have e1 : gat ids vecs [L.getD k 0] = [vecs.getD j []] := by
    rw [hj]
    show (if ids.getD (j : Int).toNat 0 = -1 then [] else [vecs.getD (j : Int).toNat []]) = _
    rw [Int.toNat_natCast, if_neg hq]
  have e2 : gat ids vecs (L.take (k + 1)) = gat ids vecs (L.take k) ++ [vecs.getD j []] := by rw [take_snoc (d := (0 : Int)) hk, gat_append, e1]
  have e3 : gat ids vecs L = gat ids vecs (L.take k) ++ ([vecs.getD j []] ++ gat ids vecs (L.drop (k + 1))) := by
    rw [← List.append_assoc, ← e2, ← gat_append, List.take_append_drop]
  refine ⟨by rw [e2]; simp, ?_, ?_⟩
  · rw [e3, ← List.append_assoc]
    have : s.length + (gat ids vecs (L.take k)).length = (s ++ gat ids vecs (L.take k)).length := by simp
    rw [this]
    simp [List.getD]
  · rw [e3]; simp
theorem getD_left {s t : List (List Int)} {i : Nat} (h : i < s.length) : (s ++ t).getD i [] = s.getD i [] := by simp [List.getD, List.getElem?_append_left h]

theorem step_own (x a : Int) (s : List (List Int)) (dim : Int) (ids : List Int) (vecs : List (List Int)) (budget all : Int) (hk : chkOk a s budget all) (ho : slotsOk dim ids vecs) (hl : s.length ≤ 4096) :
    FunM Try.prog 73 [trainD x a s, slotsD dim ids vecs, .v (.int .i64 budget), .v (.int .i64 all)] fun r H =>
      r = .tup [.agg [.v (.int .u64 (nx x (stepN a budget all))), .v (.int .i64 (a + stepN a budget all)), .ref 2000 (s ++ gathered x ids vecs (stepN a budget all)).length], .v (.bool (decide (all ≤ a + stepN a budget all))), .v (.int .i64 0)] ∧
      H = ownV 46 23 (s ++ gathered x ids vecs (stepN a budget all)).length (s ++ gathered x ids vecs (stepN a budget all)) := by
  have hsok := (step_ok (x := x) ho hk).2.2
  have hc1 := chk_fun x a s budget all
  rw [show chkE a s budget all = 0 from if_pos hk] at hc1
  have hc2 := slotsCheck_fun dim ids vecs
  rw [show slotsErr dim ids vecs = 0 from if_pos ho] at hc2
  obtain ⟨⟨k1, k2, k3⟩, k4, k5⟩ := hk
  have o1 := ho.2.1
  have o2 := ho.2.2.1
  have eN : ((stepN a budget all : Nat) : Int) = min budget (max (all - a) 0) := by unfold stepN; omega
  have eM : (if 0 > all - a then (0 : Int) else all - a) = max (all - a) 0 := by split <;> omega
  have eM2 : (if max (all - a) 0 < budget then max (all - a) 0 else budget) = min budget (max (all - a) 0) := by split <;> omega
  have hlo := lots_fun x ids.length (stepN a budget all) (by omega) (by omega)
  have hle := lotsL_length x ids.length (stepN a budget all)
  have hmem := lotsL_mem (x := x) (b := ids.length) (by omega) (stepN a budget all)
  rw [eN] at hlo
  unfold gathered at *
  generalize hL : lotsL x ids.length (stepN a budget all) = L at *
  generalize nx x (stepN a budget all) = y at *
  generalize hm : stepN a budget all = m at *
  have hgl := gat_length (ids := ids) (vecs := vecs) L
  generalize hG : s ++ gat ids vecs L = G at *
  have hGl : G.length = s.length + (gat ids vecs L).length := by rw [← hG, List.length_append]
  have hrow : ∀ i, i < G.length → 1 ≤ (G.getD i []).length ∧ (G.getD i []).length ≤ 64 := fun i hi => by
    have := vecOk_iff.1 (vecErr_zero.1 (hsok _ (getD_mem (d := []) hi)))
    exact ⟨this.1, this.2.1⟩
  have hGs : ∀ i, i < s.length → G.getD i [] = s.getD i [] := fun i hi => by rw [← hG]; exact getD_left hi
  refine FunM.of_awpS Try.func73 rfl cal73 Try.ntmps73 (by simp) fun hwf => ?_
  simp only [D.wfs, D.wf, ints_wfs, rows_wfs, ints_length, rows_length, and_true, true_and] at hwf
  repeat refine awpS_seq ?_
  refine awpS_last ?_
  repeat' (first | simp only [go_sem, hle, eM, eM2, Ret_eq Try.results73] | fail)
  repeat refine awpS_seq ?_
  refine awpS_last ?_
  repeat' (first | simp only [go_sem, hle, eM, eM2, Ret_eq Try.results73] | (refine opCallI_rd (by simp only [go_sem, hle, eM, eM2, Ret_eq Try.results73]; first | done | rfl) (hc1) (by rintro _ rfl; rfl) ?_; rintro _ rfl) | (refine opCallI_rd (by simp only [go_sem, hle, eM, eM2, Ret_eq Try.results73]; first | done | rfl) (hc2) (by rintro _ rfl; rfl) ?_; rintro _ rfl) | fail)
  repeat refine awpS_seq ?_
  refine awpS_last ?_
  repeat' (first | simp only [go_sem, hle, eM, eM2, Ret_eq Try.results73] | fail)
  repeat refine awpS_seq ?_
  refine awpS_last ?_
  repeat' (first | simp only [go_sem, hle, eM, eM2, Ret_eq Try.results73] | simp (disch := omega) only [arith, IntKind.bits, capMax, fill_len, elt_fill] | (refine opCallI_gv (by simp only [go_sem, hle, eM, eM2, Ret_eq Try.results73]; first | done | rfl) (hlo) ?_; rintro _ rfl) | fail)
  repeat refine awpS_seq ?_
  refine awpS_last ?_
  repeat' (first | simp only [go_sem, hle, eM, eM2, Ret_eq Try.results73] | fail)
  repeat refine awpS_seq ?_
  refine awpS_last ?_
  repeat' (first | simp only [go_sem, hle, eM, eM2, Ret_eq Try.results73] | fail)
  repeat refine awpS_seq ?_
  refine awpS_last ?_
  repeat' (first | simp only [go_sem, hle, eM, eM2, Ret_eq Try.results73] | simp (disch := omega) only [arith, IntKind.bits, capMax, fill_len, elt_fill] | fail)
  repeat refine awpS_seq ?_
  refine awpS_last ?_
  repeat' (first | simp only [go_sem, hle, eM, eM2, Ret_eq Try.results73] | fail)
  repeat refine awpS_seq ?_
  refine awpS_block ?_
  refine awpS_for s.length (fun k => True) (fun k => [(61, .v (.int .i64 k))]) (fun k => (14, ⟨99, 3, [.agg [.v (.int .u64 y), .v (.int .i64 (a + m)), .ref 70 k]]⟩) :: (70, ⟨46, 1, refsV (lensOf G) k⟩) :: rowsV 23 k fun i => G.getD i []) [3, 5, 8, 11, 14, 59, 60] [5, 8] _
    (Weak.adoptAgg (ob := 14) (id := 70) (S := 1) (e := 46) (So := 3) (eo := 99) [.v (.int .u64 y), .v (.int .i64 (a + m))] [] [(3, .v (.int .i64 all)), (5, .adr 5 0 0), (8, .adr 8 0 0), (11, .lst (ints .i64 L)), (14, .adr 14 0 0), (59, .lst (rows .i16 s)), (60, .v (.int .i64 s.length)), (61, .v (.int .i64 0))] [(5, ⟨45, 3, [slotsD dim ids vecs]⟩), (8, ⟨99, 3, [.agg [.v (.int .u64 0), .v (.int .i64 0), .v (.slice none 0 0)]]⟩)]
      (by decide) (by decide) (by simp only [go_sem, Ret_eq Try.results73]; all_goals skip) (by rfl) (by simp only [go_sem, Ret_eq Try.results73]; all_goals skip) (by simp only [List.all_cons, List.all_nil]; rfl) (by simp only [go_sem, Ret_eq Try.results73]) rfl rfl) trivial ?_ ?_ ?_
  · simp only [go_sem, Ret_eq Try.results73]
  · simp only [go_sem, Heaps_rowsV, refsV_zero, Ret_eq Try.results73]
    exact fun i hi => absurd hi (Nat.not_lt_zero i)
  · intro k st hk _ hs
    simp only [go_sem, Heaps_rowsV, Ret_eq Try.results73] at hs
    have hco := hs.2.2.1.2.2
    repeat refine awpS_seq ?_
    by_cases hka : k < s.length
    · refine awpS_last ?_
      repeat' (first | simp only [go_sem, hs, Ret_eq Try.results73] | simp (disch := omega) only [arith, IntKind.bits, capMax, fill_len, elt_fill] | fail)
      repeat refine awpS_seq ?_
      refine awpS_last ?_
      repeat' (first | simp only [go_sem, hs, Ret_eq Try.results73] | fail)
      repeat refine awpS_seq ?_
      refine awpS_block ?_
      repeat refine awpS_seq ?_
      refine awpS_last ?_
      repeat' (first | simp only [go_sem, hs, Ret_eq Try.results73] | simp (disch := omega) only [arith, IntKind.bits, capMax, fill_len, elt_fill] | fail)
      obtain ⟨r1, r2⟩ := hrow k (by omega)
      have hcl := clone16_fun (G.getD k []) (by omega) r1
      rw [← hGs k hka]
      have hln : (G.getD k []).length = lensOf G k := rfl
      rw [hln] at hcl r1 r2
      generalize hrk : G.getD k [] = row at *
      refine awpS_mono (N := fun s2 => s2.n = 102 ∧ Slots s2 [(3, .v (.int .i64 all)), (5, .adr 5 0 0), (8, .adr 8 0 0), (11, .lst (ints .i64 L)), (14, .adr 14 0 0), (59, .lst (rows .i16 s)), (60, .v (.int .i64 s.length)), (61, .v (.int .i64 k))] ∧ Heaps s2 ((5, ⟨45, 3, [slotsD dim ids vecs]⟩) :: (8, ⟨99, 3, [.agg [.v (.int .u64 0), .v (.int .i64 0), .v (.slice none 0 0)]]⟩) :: (14, ⟨99, 3, [.agg [.v (.int .u64 y), .v (.int .i64 (a + m)), .ref 70 (k + 1)]]⟩) :: (70, ⟨46, 1, refsV (lensOf G) k ++ [.ref 68 (lensOf G k)]⟩) :: (68, ⟨23, 1, ints .i16 row⟩) :: rowsV 23 k fun i => G.getD i [])) ?_ fun s2 hs2 => ?_
      · refine awpS_draw (id := 10) (.one false 2 (.two 0 3 (.two 1 3 (.only 3 (.only 4 (.only 5 (.one false 6 (.only 7 .done))))) (.two 1 4 (.only 4 (.only 5 (.one false 6 (.only 7 .done)))) (.only 1 (.only 5 (.one false 6 (.only 7 .done)))))) (.two 0 4 (.two 1 4 (.only 4 (.only 5 (.one false 6 (.only 7 .done)))) (.only 1 (.only 5 (.one false 6 (.only 7 .done))))) (.only 0 (.only 1 (.only 5 (.one false 6 (.only 7 .done)))))))) mixed (by decide +kernel) (by decide +kernel) (by decide +kernel) ?_
        repeat' (first | simp only [go_sem, hs, refsV_length, refsV_kills, appKills, List.length_append, List.length_cons, List.length_nil, Ret_eq Try.results73] | simp (disch := omega) only [arith, IntKind.bits, capMax, fill_len, elt_fill] | (refine schKI_two ?_ ?_) | (refine opCallI_ownGv (by simp only [go_sem, hs, refsV_length, refsV_kills, appKills, List.length_append, List.length_cons, List.length_nil, Ret_eq Try.results73]; first | done | rfl) (hcl) ?_; rintro _ _ ⟨rfl, rfl⟩) | fail)
        all_goals
          rw [Heaps_rowsV]
          intro i hi
          have := hco i hi
          simp only [go_sem, hs, b3_ne, this, Ret_eq Try.results73]
      · simp only [go_sem, Heaps_rowsV, Ret_eq Try.results73] at hs2
        have hco2 := hs2.2.2.2.2.2.2.2
        refine awpS_last ?_
        repeat' (first | simp only [go_sem, hs2, Ret_eq Try.results73] | simp (disch := omega) only [arith, IntKind.bits, capMax, fill_len, elt_fill] | fail)
        refine AgainW.weak (k + 1) (Weak.moveRefV (ob := 70) (base := 3000) (m := k) (i0 := 68) (So := 1) (eo := 46) (R := []) (lensOf G) (fun i => ⟨23, 1, ints .i16 (G.getD i [])⟩) ⟨23, 1, ints .i16 row⟩
          [(3, .v (.int .i64 all)), (5, .adr 5 0 0), (8, .adr 8 0 0), (11, .lst (ints .i64 L)), (14, .adr 14 0 0), (59, .lst (rows .i16 s)), (60, .v (.int .i64 s.length)), (61, .v (.int .i64 ((k + 1 : Nat) : Int)))]
          [(5, ⟨45, 3, [slotsD dim ids vecs]⟩), (8, ⟨99, 3, [.agg [.v (.int .u64 0), .v (.int .i64 0), .v (.slice none 0 0)]]⟩), (14, ⟨99, 3, [.agg [.v (.int .u64 y), .v (.int .i64 (a + m)), .ref 70 (k + 1)]]⟩)]
          (by decide) (by decide) (by simp only [go_sem, hs2, Ret_eq Try.results73]) (by rfl) (by simp only [go_sem, hs2, Ret_eq Try.results73]) (by simp only [List.all_cons, List.all_nil]; rfl) (by rfl) (by decide) (by simp only [go_sem, hs2, Ret_eq Try.results73]; rfl) rfl
          (fun i hi => by
            have := hco2 i hi
            simp only [go_sem, hs2, this, hi, Ret_eq Try.results73]) (fun i _ => ints_noRefs) (by simp only [go_sem, hs2, Ret_eq Try.results73]) ints_noRefs) (by show s.length - (k + 1) < s.length - k; omega) ⟨by omega, trivial⟩ ?_
        simp only [go_sem, Heaps_rowsV, hs, hs2, false_and, b3_ne', List.append_nil, Ret_eq Try.results73]
        refine ⟨by rw [← List.range_succ]; rfl, fun i hi => ?_⟩
        rw [if_neg (by omega)]
        by_cases q : i < k
        · rw [if_pos (by omega), show 3000 + i - 3000 = i by omega]
        · rw [if_neg (by omega), if_pos (by omega), show i = k by omega, hrk]
    · obtain rfl : k = s.length := by omega
      refine awpS_last ?_
      repeat' (first | simp only [go_sem, hs, Ret_eq Try.results73] | simp (disch := omega) only [arith, IntKind.bits, capMax, fill_len, elt_fill] | fail)
      repeat refine awpS_seq ?_
      refine awpS_last ?_
      repeat' (first | simp only [go_sem, hs, Ret_eq Try.results73] | fail)
      repeat refine awpS_seq ?_
      refine awpS_last ?_
      repeat' (first | simp only [go_sem, hs, hle, Ret_eq Try.results73] | fail)
      repeat refine awpS_seq ?_
      refine awpS_block ?_
      refine awpS_for m (fun k => True) (fun k => [(75, .v (.int .i64 k))]) (fun k => (14, ⟨99, 3, [.agg [.v (.int .u64 y), .v (.int .i64 (a + m)), .ref 70 (s.length + (gat ids vecs (L.take k)).length)]]⟩) :: (70, ⟨46, 1, refsV (lensOf G) (s.length + (gat ids vecs (L.take k)).length)⟩) :: rowsV 23 (s.length + (gat ids vecs (L.take k)).length) fun i => G.getD i []) [3, 5, 8, 14, 73, 74] [5, 8] _ (Weak.refl _) trivial ?_ ?_ ?_
      · simp only [go_sem, hs, Ret_eq Try.results73]
      · simp only [go_sem, Heaps_rowsV, gat, List.take_zero, List.length_nil, Nat.add_zero, hs, Ret_eq Try.results73]
        exact fun i hi => hco i hi
      · intro k st2 hk2 _ hs2
        by_cases hka : k < m
        · obtain ⟨m1, m2⟩ := hmem _ (getD_mem (a := L) (d := 0) (k := k) (by omega))
          have hj : (L.getD k 0).toNat < ids.length := by omega
          have ej : L.getD k 0 = (((L.getD k 0).toNat : Nat) : Int) := by omega
          have e2 := take_snoc (a := L) (d := (0 : Int)) (k := k) (by omega)
          have hsn := gat_snoc (ids := ids) (vecs := vecs) (L := L) (s := s) (k := k) (j := (L.getD k 0).toNat) (by omega) ej
          rw [hG] at hsn
          have hgk := gat_length (ids := ids) (vecs := vecs) (L.take k)
          rw [List.length_take] at hgk
          generalize hjj : (L.getD k 0).toNat = j at *
          simp only [go_sem, Heaps_rowsV, hs, Ret_eq Try.results73] at hs2
          generalize hn : s.length + (gat ids vecs (L.take k)).length = n at *
          have hco2 := hs2.2.2.1.2.2
          repeat refine awpS_seq ?_
          refine awpS_last ?_
          repeat' (first | simp only [go_sem, hs, hs2, Ret_eq Try.results73] | simp (disch := omega) only [arith, IntKind.bits, capMax, fill_len, elt_fill] | fail)
          repeat refine awpS_seq ?_
          refine awpS_last ?_
          repeat' (first | simp only [go_sem, hs, hs2, Ret_eq Try.results73] | fail)
          repeat refine awpS_seq ?_
          refine awpS_block ?_
          repeat refine awpS_seq ?_
          refine awpS_last ?_
          repeat' (first | simp only [go_sem, hs, hs2, ej, Ret_eq Try.results73] | simp (disch := omega) only [arith, IntKind.bits, capMax, fill_len, elt_fill] | fail)
          repeat refine awpS_seq ?_
          refine awpS_last ?_
          repeat' (first | simp only [go_sem, hs, hs2, ej, Ret_eq Try.results73] | simp (disch := omega) only [arith, IntKind.bits, capMax, fill_len, elt_fill] | fail)
          by_cases q : ids.getD j 0 = -1
          · have qb : (ids.getD j 0 != -1) = false := by rw [q]; rfl
            have e3 : gat ids vecs (L.take (k + 1)) = gat ids vecs (L.take k) := by
              rw [e2, gat_append, ej]
              show _ ++ (if ids.getD (j : Int).toNat 0 = -1 then [] else _) = _
              rw [Int.toNat_natCast, if_pos q, List.append_nil]
            refine awpS_cond false (by simp only [go_sem, hs, hs2, qb, Ret_eq Try.results73]) (fun h => by cases h) fun _ => ?_
            refine awpS_last ?_
            repeat' (first | simp only [go_sem, hs, hs2, Ret_eq Try.results73] | simp (disch := omega) only [arith, IntKind.bits, capMax, fill_len, elt_fill] | fail)
            repeat refine awpS_seq ?_
            refine awpS_last ?_
            repeat' (first | simp only [go_sem, hs, hs2, e3, hn, Heaps_rowsV, Ret_eq Try.results73] | simp (disch := omega) only [arith, IntKind.bits, capMax, fill_len, elt_fill] | (refine Again.up (by omega) ?_ ?_) | fail)
            all_goals exact hco2
          · have qb : (ids.getD j 0 != -1) = true := by rw [bne, beq_eq_false_iff_ne.2 q]; rfl
            obtain ⟨n1, n2, n3⟩ := hsn q
            refine awpS_cond true (by simp only [go_sem, hs, hs2, qb, Ret_eq Try.results73]) (fun _ => ?_) fun h => by cases h
            obtain ⟨r1, r2⟩ := hrow n n3
            have hcl := clone16_fun (G.getD n []) (by omega) r1
            have hln : (G.getD n []).length = lensOf G n := rfl
            rw [hln] at hcl r1 r2
            rw [← n2] at hsn
            generalize hrk : G.getD n [] = row at *
            refine awpS_mono (N := fun s2 => s2.n = 102 ∧ Slots s2 [(3, .v (.int .i64 all)), (5, .adr 5 0 0), (8, .adr 8 0 0), (14, .adr 14 0 0), (18, .v (.int .i64 j)), (73, .lst (ints .i64 L)), (74, .v (.int .i64 m)), (75, .v (.int .i64 k))] ∧ Heaps s2 ((5, ⟨45, 3, [slotsD dim ids vecs]⟩) :: (8, ⟨99, 3, [.agg [.v (.int .u64 0), .v (.int .i64 0), .v (.slice none 0 0)]]⟩) :: (14, ⟨99, 3, [.agg [.v (.int .u64 y), .v (.int .i64 (a + m)), .ref 70 (n + 1)]]⟩) :: (70, ⟨46, 1, refsV (lensOf G) n ++ [.ref 92 (lensOf G n)]⟩) :: (92, ⟨23, 1, ints .i16 row⟩) :: rowsV 23 n fun i => G.getD i [])) ?_ fun s3 hs3 => ?_
            · refine awpS_draw (id := 16) (.one false 2 (.one false 3 (.one false 4 (.one false 5 (.one false 6 (.two 0 7 (.two 1 7 (.only 7 (.only 8 (.only 9 (.one false 10 (.only 11 .done))))) (.two 1 8 (.only 8 (.only 9 (.one false 10 (.only 11 .done)))) (.only 1 (.only 9 (.one false 10 (.only 11 .done)))))) (.two 0 8 (.two 1 8 (.only 8 (.only 9 (.one false 10 (.only 11 .done)))) (.only 1 (.only 9 (.one false 10 (.only 11 .done))))) (.only 0 (.only 1 (.only 9 (.one false 10 (.only 11 .done)))))))))))) mixed (by decide +kernel) (by decide +kernel) (by decide +kernel) ?_
              repeat' (first | simp only [go_sem, hs, hs2, ej, ← n2, refsV_length, refsV_kills, appKills, List.length_append, List.length_cons, List.length_nil, Ret_eq Try.results73] | simp (disch := omega) only [arith, IntKind.bits, capMax, fill_len, elt_fill] | (refine schKI_two ?_ ?_) | (refine opCallI_ownGv (by simp only [go_sem, hs, hs2, ej, ← n2, refsV_length, refsV_kills, appKills, List.length_append, List.length_cons, List.length_nil, Ret_eq Try.results73]; first | done | rfl) (hcl) ?_; rintro _ _ ⟨rfl, rfl⟩) | fail)
              all_goals
                rw [Heaps_rowsV]
                intro i hi
                have := hco2 i hi
                simp only [go_sem, hs, hs2, b3_ne, this, Ret_eq Try.results73]
            · simp only [go_sem, Heaps_rowsV, Ret_eq Try.results73] at hs3
              have hco3 := hs3.2.2.2.2.2.2.2
              have hn1 : s.length + (gat ids vecs (L.take (k + 1))).length = n + 1 := by rw [n1]; omega
              refine awpS_last ?_
              repeat' (first | simp only [go_sem, hs3, Ret_eq Try.results73] | simp (disch := omega) only [arith, IntKind.bits, capMax, fill_len, elt_fill] | fail)
              refine AgainW.weak (k + 1) (Weak.moveRefV (ob := 70) (base := 3000) (m := n) (i0 := 92) (So := 1) (eo := 46) (R := []) (lensOf G) (fun i => ⟨23, 1, ints .i16 (G.getD i [])⟩) ⟨23, 1, ints .i16 row⟩
                [(3, .v (.int .i64 all)), (5, .adr 5 0 0), (8, .adr 8 0 0), (14, .adr 14 0 0), (73, .lst (ints .i64 L)), (74, .v (.int .i64 m)), (75, .v (.int .i64 ((k + 1 : Nat) : Int)))]
                [(5, ⟨45, 3, [slotsD dim ids vecs]⟩), (8, ⟨99, 3, [.agg [.v (.int .u64 0), .v (.int .i64 0), .v (.slice none 0 0)]]⟩), (14, ⟨99, 3, [.agg [.v (.int .u64 y), .v (.int .i64 (a + m)), .ref 70 (n + 1)]]⟩)]
                (by decide) (by decide) (by simp only [go_sem, hs3, Ret_eq Try.results73]) (by rfl) (by simp only [go_sem, hs3, Ret_eq Try.results73]) (by simp only [List.all_cons, List.all_nil]; rfl) (by rfl) (by decide) (by simp only [go_sem, hs3, Ret_eq Try.results73]; rfl) rfl
                (fun i hi => by
                  have := hco3 i hi
                  simp only [go_sem, hs3, this, hi, Ret_eq Try.results73]) (fun i _ => ints_noRefs) (by simp only [go_sem, hs3, Ret_eq Try.results73]) ints_noRefs) (by show m - (k + 1) < m - k; omega) ⟨by omega, trivial⟩ ?_
              simp only [go_sem, Heaps_rowsV, hs, hs2, hs3, hn1, false_and, b3_ne', List.append_nil, Ret_eq Try.results73]
              refine ⟨by rw [← List.range_succ]; rfl, fun i hi => ?_⟩
              rw [if_neg (by omega)]
              by_cases q : i < n
              · rw [if_pos (by omega), show 3000 + i - 3000 = i by omega]
              · rw [if_neg (by omega), if_pos (by omega), show i = n by omega, hrk]
        · obtain rfl : k = m := by omega
          have ht : L.take k = L := List.take_of_length_le (by omega)
          have hnG : s.length + (gat ids vecs (L.take k)).length = G.length := by rw [ht, hGl]
          simp only [go_sem, Heaps_rowsV, hs, hnG, Ret_eq Try.results73] at hs2
          have hco2 := hs2.2.2.1.2.2
          repeat refine awpS_seq ?_
          refine awpS_last ?_
          repeat' (first | simp only [go_sem, hs, hs2, Ret_eq Try.results73] | simp (disch := omega) only [arith, IntKind.bits, capMax, fill_len, elt_fill] | fail)
          repeat refine awpS_seq ?_
          refine awpS_last ?_
          repeat' (first | simp only [go_sem, hs, hs2, Ret_eq Try.results73] | fail)
          refine awpS_last ?_
          repeat' (first | simp only [go_sem, hs, hs2, refsV_kills, Ret_eq Try.results73] | (refine awpI_draw2 (id := 18) (.one false 0 (.cal 1 [5] (.cal 2 [5] (.cal 3 [5] (.cal 4 [5] (.only 5 (.one false 6 (.one false 7 .done)))))))) mixed (by decide +kernel) (by decide +kernel) ?_) | fail)
          have e9 : (all ≤ a + (k : Int)) = (a + (k : Int) ≥ all) := rfl
          refine RetM_calc Try.results73 (giveV (ob := 70) (rid := 8) (n := G.length) (C := G) (eo := 46) (ei := 23) (eb := 99) (So := 3) [.v (.int .u64 y), .v (.int .i64 (a + k))] [(8, .adr 8 0 0), (9, .v (.bool (decide (a + (k : Int) ≥ all)))), (10, .v (.int .i64 0))] (by decide) (by decide) (by decide) (by simp only [go_sem, hs, hs2, Ret_eq Try.results73]) (by rfl) rfl (by simp only [go_sem, hs, hs2, Ret_eq Try.results73]) (by simp only [go_sem, hs, hs2, Ret_eq Try.results73]) (fun i hi => by
            have := hco2 i hi
            simp only [go_sem, hs, hs2, b3_ne, this, Ret_eq Try.results73])) (ownV 46 23 G.length G) (ds := [.agg [.v (.int .u64 y), .v (.int .i64 (a + k)), .ref 2000 G.length], .v (.bool (decide (all ≤ a + (k : Int)))), .v (.int .i64 0)]) ?_ ?_ ⟨rfl, rfl⟩
          · simp only [go_sem, resDs, resD, pickT, e9, Ret_eq Try.results73]
          · exact fun i o h => by
              show (if i = 8 then _ else ownV 46 23 G.length G i) = some o
              rw [if_neg (by rintro rfl; rw [ownV_low (by omega)] at h; cases h)]
              exact h
end Go.Proofs.Ytpkampecmlpfmaa.T

end
section
set_option linter.unusedSimpArgs false
set_option linter.unusedVariables false
/- A book's text, plainly. -/
namespace Go.Proofs.Ytpkampecmlpfmaa.T
open Go Go.VL Go.Proofs
abbrev bookD (w : Int) (cuts : List (List Int)) : D := .agg [.v (.int .i64 w), .lst (rows .i16 cuts)]
def wayT (t : List Int) : Int := takeNum 8 t
def dimT (t : List Int) : Nat := (t.getD 8 0).toNat
def mnyT (t : List Int) : Nat := (t.getD 9 0).toNat
def numsT (t : List Int) : List Int := takeNums 2 (dimT t * mnyT t) (t.drop 10)
def cutT (l : List Int) (m : Nat) (i : Nat) : List Int := (List.range m).map fun k => l.getD (i * m + k) 0
def cutsT (t : List Int) : List (List Int) := (List.range (dimT t)).map (cutT (numsT t) (mnyT t))
def fromOk (t : List Int) : Prop := 10 ≤ t.length ∧ t.length = 10 + 2 * (dimT t * mnyT t) ∧ bookErr (wayT t) (cutsT t) = 0
instance (t : List Int) : Decidable (fromOk t) := by unfold fromOk; infer_instance
def sizesOk (dim cells : Int) : Prop := (1 ≤ dim ∧ dim ≤ 64) ∧ 1 ≤ cells ∧ cells ≤ 16
instance (dim cells : Int) : Decidable (sizesOk dim cells) := by unfold sizesOk; infer_instance
theorem flat_length {m : Nat} : ∀ {c : List (List Int)}, (∀ x ∈ c, x.length = m) → c.flatten.length = c.length * m
  | [], _ => by simp
  | x :: c, h => by
    rw [List.flatten_cons, List.length_append, h x List.mem_cons_self, flat_length fun y hy => h y (List.mem_cons_of_mem _ hy), List.length_cons, Nat.succ_mul, Nat.add_comm]
end Go.Proofs.Ytpkampecmlpfmaa.T

end
section
set_option linter.unusedSimpArgs false
set_option linter.unusedVariables false
/- Swaps within a span; what is sorted; plainly. -/
namespace Go.Proofs.Ytpkampecmlpfmaa.T
open Go Go.VL Go.Proofs
def sw (l : List Int) (i j : Nat) : List Int := (l.set i (l.getD j 0)).set j (l.getD i 0)
theorem sw_length {l : List Int} {i j : Nat} : (sw l i j).length = l.length := by simp [sw]
theorem set_getD {l : List Int} {i k : Nat} {x : Int} (h : i < l.length) : (l.set i x).getD k 0 = if k = i then x else l.getD k 0 := by
  simp only [List.getD, List.getElem?_set]
  by_cases e : i = k
  · subst e; simp [h]
  · rw [if_neg e, if_neg (fun q => e q.symm)]
theorem sw_getD {l : List Int} {i j k : Nat} (hi : i < l.length) (hj : j < l.length) : (sw l i j).getD k 0 = if k = j then l.getD i 0 else if k = i then l.getD j 0 else l.getD k 0 := by
  unfold sw
  rw [set_getD (by simpa using hj), set_getD hi]
theorem sw_comm {l : List Int} {i j : Nat} : (l.set j (l.getD i 0)).set i (l.getD j 0) = sw l i j := by
  unfold sw
  by_cases e : i = j
  · subst e; rfl
  · exact List.set_comm _ _ (fun q => e q.symm)
theorem sw_perm {l : List Int} {i j : Nat} (hi : i < l.length) (hj : j < l.length) : (sw l i j).Perm l := by
  rw [List.perm_iff_count]
  intro x
  unfold sw
  rw [List.count_set (by simpa using hj), List.count_set hi]
  have ei : l.getD i 0 = l[i] := by simp [List.getD, hi]
  have ej : l.getD j 0 = l[j] := by simp [List.getD, hj]
  have e3 : (l.set i (l.getD j 0))[j]'(by simpa using hj) = l[j] := by
    rw [List.getElem_set]; split
    · rw [ej]
    · rfl
  rw [e3, ei, ej]
  have hc : ∀ k (hk : k < l.length), (if (l[k] == x) = true then 1 else 0) ≤ l.count x := fun k hk => by
    split
    · rename_i q
      exact List.count_pos_iff.2 (by rw [← beq_iff_eq.1 q]; exact List.getElem_mem hk)
    · omega
  have h1 := hc i hi
  have h2 := hc j hj
  by_cases q1 : (l[i] == x) = true <;> by_cases q2 : (l[j] == x) = true <;> simp only [q1, q2, if_true, if_false, Bool.false_eq_true] at * <;> omega
/-- What comes of a list by swaps within a span. -/
inductive Sw (a b : Nat) : List Int → List Int → Prop
  | refl (l : List Int) : Sw a b l l
  | step {l l' : List Int} (i j : Nat) (h : Sw a b l l') (h1 : a ≤ i ∧ i < b) (h2 : a ≤ j ∧ j < b) (h3 : b ≤ l'.length) : Sw a b l (sw l' i j)
theorem Sw.length {a b : Nat} {l l' : List Int} (h : Sw a b l l') : l'.length = l.length := by
  induction h with
  | refl => rfl
  | step i j _ _ _ _ ih => rw [sw_length, ih]
theorem Sw.trans {a b : Nat} {l l' l'' : List Int} (h : Sw a b l l') (h' : Sw a b l' l'') : Sw a b l l'' := by
  induction h' with
  | refl => exact h
  | step i j _ h1 h2 h3 ih => exact .step i j ih h1 h2 h3
theorem Sw.mono {a b c d : Nat} {l l' : List Int} (h : Sw a b l l') (h1 : c ≤ a) (h2 : b ≤ d) (h3 : d ≤ l.length) : Sw c d l l' := by
  induction h with
  | refl => exact .refl _
  | step i j hs q1 q2 q3 ih => exact .step i j ih ⟨by omega, by omega⟩ ⟨by omega, by omega⟩ (by rw [hs.length]; exact h3)
theorem Sw.out {a b : Nat} {l l' : List Int} (h : Sw a b l l') {k : Nat} (hk : k < a ∨ b ≤ k) : l'.getD k 0 = l.getD k 0 := by
  induction h with
  | refl => rfl
  | step i j hs h1 h2 h3 ih => rw [sw_getD (by omega) (by omega), if_neg (by omega), if_neg (by omega), ih]
theorem Sw.all {a b : Nat} {l l' : List Int} (h : Sw a b l l') {P : Int → Prop} (hP : ∀ k, a ≤ k → k < b → P (l.getD k 0)) : ∀ k, a ≤ k → k < b → P (l'.getD k 0) := by
  induction h with
  | refl => exact hP
  | step i j hs h1 h2 h3 ih =>
    intro k k1 k2
    rw [sw_getD (by omega) (by omega)]
    split
    · exact ih i h1.1 h1.2
    · split
      · exact ih j h2.1 h2.2
      · exact ih k k1 k2
theorem Sw.perm {a b : Nat} {l l' : List Int} (h : Sw a b l l') : l'.Perm l := by
  induction h with
  | refl => exact .refl _
  | step i j hs h1 h2 h3 ih => exact (sw_perm (by omega) (by omega)).trans ih
def Sd (a b : Nat) (l : List Int) : Prop := ∀ p q, a ≤ p → p < q → q < b → l.getD p 0 ≤ l.getD q 0
/-- All are in order, but for those before j. -/
def Ins (a j i : Nat) (l : List Int) : Prop := ∀ p q, a ≤ p → p < q → q ≤ i → q ≠ j → l.getD p 0 ≤ l.getD q 0
theorem Ins.start {a i : Nat} {l : List Int} (h : Sd a i l) : Ins a i i l := fun p q h1 h2 h3 h4 => h p q h1 h2 (by omega)
theorem Ins.done {a j i : Nat} {l : List Int} (h : Ins a j i l) (hj : j ≤ a ∨ l.getD (j - 1) 0 ≤ l.getD j 0) : Sd a (i + 1) l := fun p q h1 h2 h3 => by
  by_cases e : q = j
  · subst e
    rcases hj with g | g
    · omega
    · by_cases e2 : p = q - 1
      · rw [e2]; exact g
      · have := h p (q - 1) h1 (by omega) (by omega) (by omega)
        omega
  · exact h p q h1 h2 (by omega) e
theorem Ins.step {a j i : Nat} {l : List Int} (h : Ins a j i l) (hj : a < j) (hji : j ≤ i) (hi : i < l.length) (hlt : l.getD j 0 < l.getD (j - 1) 0) : Ins a (j - 1) i (sw l j (j - 1)) := fun p q h1 h2 h3 h4 => by
  have e : ∀ k, (sw l j (j - 1)).getD k 0 = if k = j - 1 then l.getD j 0 else if k = j then l.getD (j - 1) 0 else l.getD k 0 := fun k => sw_getD (by omega) (by omega)
  rw [e p, e q]
  have a1 := h p q h1 h2 h3
  have a2 := h p (j - 1)
  have a3 := h j q
  have a4 := h (j - 1) q
  grind
end Go.Proofs.Ytpkampecmlpfmaa.T

end
section
set_option linter.unusedSimpArgs false
set_option linter.unusedVariables false
/- Heaps, plainly. -/
namespace Go.Proofs.Ytpkampecmlpfmaa.T
open Go Go.VL Go.Proofs
def Hp (lo hi f : Nat) (l : List Int) : Prop := ∀ k c, lo ≤ k → (c = 2 * k + 1 ∨ c = 2 * k + 2) → c < hi → l.getD (f + c) 0 ≤ l.getD (f + k) 0
structure HpEx (lo hi f r : Nat) (l : List Int) : Prop where
  h1 : ∀ k c, lo ≤ k → k ≠ r → (c = 2 * k + 1 ∨ c = 2 * k + 2) → c < hi → l.getD (f + c) 0 ≤ l.getD (f + k) 0
  h2 : ∀ g c, lo ≤ g → (r = 2 * g + 1 ∨ r = 2 * g + 2) → (c = 2 * r + 1 ∨ c = 2 * r + 2) → c < hi → l.getD (f + c) 0 ≤ l.getD (f + g) 0
theorem HpEx.start {lo hi f : Nat} {l : List Int} (h : Hp (lo + 1) hi f l) : HpEx lo hi f lo l :=
  ⟨fun k c h1 h2 h3 h4 => h k c (by omega) h3 h4, fun g c h1 h2 h3 h4 => by omega⟩
theorem HpEx.done {lo hi f r : Nat} {l : List Int} (h : HpEx lo hi f r l) (hc : ∀ c, (c = 2 * r + 1 ∨ c = 2 * r + 2) → c < hi → l.getD (f + c) 0 ≤ l.getD (f + r) 0) : Hp lo hi f l := fun k c k1 k2 k3 => by
  by_cases e : k = r
  · subst e; exact hc c k2 k3
  · exact h.h1 k c k1 e k2 k3
theorem HpEx.step {lo hi f r c : Nat} {l : List Int} (h : HpEx lo hi f r l) (hr : lo ≤ r) (hc : c = 2 * r + 1 ∨ c = 2 * r + 2) (hch : c < hi) (hd : ∀ d, (d = 2 * r + 1 ∨ d = 2 * r + 2) → d < hi → l.getD (f + d) 0 ≤ l.getD (f + c) 0)
    (hlt : l.getD (f + r) 0 < l.getD (f + c) 0) (hl : f + hi ≤ l.length) : HpEx lo hi f c (sw l (f + r) (f + c)) := by
  have e : ∀ k, (sw l (f + r) (f + c)).getD k 0 = if k = f + c then l.getD (f + r) 0 else if k = f + r then l.getD (f + c) 0 else l.getD k 0 := fun k => sw_getD (by omega) (by omega)
  constructor
  · intro k d k1 k2 k3 k4
    rw [e, e]
    rw [if_neg (show ¬ f + k = f + c by omega)]
    by_cases kr : k = r
    · subst kr
      rw [if_pos rfl]
      by_cases dc : d = c
      · subst dc; rw [if_pos rfl]; omega
      · rw [if_neg (by omega), if_neg (by omega)]
        exact hd d k3 k4
    · rw [if_neg (show ¬ f + k = f + r by omega), if_neg (show ¬ f + d = f + c by omega)]
      by_cases dr : d = r
      · subst dr
        rw [if_pos rfl]
        exact h.h2 k c k1 k3 hc hch
      · rw [if_neg (by omega)]
        exact h.h1 k d k1 kr k3 k4
  · intro g d g1 g2 g3 g4
    obtain rfl : g = r := by omega
    rw [e, e, if_neg (show ¬ f + d = f + c by omega), if_neg (show ¬ f + d = f + g by omega), if_neg (show ¬ f + g = f + c by omega), if_pos rfl]
    exact h.h1 c d (by omega) (by omega) g3 g4
theorem Hp.max {hi f : Nat} {l : List Int} (h : Hp 0 hi f l) : ∀ k, k < hi → l.getD (f + k) 0 ≤ l.getD f 0 := by
  intro k
  induction k using Nat.strongRecOn with
  | _ k ih =>
    intro hk
    by_cases e : k = 0
    · subst e; exact Int.le_refl _
    · have h1 := ih ((k - 1) / 2) (by omega) (by omega)
      have h2 := h ((k - 1) / 2) k (by omega) (by omega) hk
      omega
structure Tl (f i n : Nat) (l : List Int) : Prop where
  t1 : Sd (f + i) (f + n) l
  t2 : ∀ p q, p < i → i ≤ q → q < n → l.getD (f + p) 0 ≤ l.getD (f + q) 0
theorem Tl.step {f i n : Nat} {l l' : List Int} (h : Tl f (i + 1) n l) (hp : Hp 0 (i + 1) f l) (hn : i + 1 ≤ n) (hl : f + n ≤ l.length) (hs : Sw f (f + i) (sw l f (f + i)) l') : Tl f i n l' := by
  have e : ∀ k, (sw l f (f + i)).getD k 0 = if k = f + i then l.getD f 0 else if k = f then l.getD (f + i) 0 else l.getD k 0 := fun k => sw_getD (by omega) (by omega)
  have hm := hp.max
  have ho : ∀ k, f + i ≤ k → l'.getD k 0 = if k = f + i then l.getD f 0 else l.getD k 0 := fun k hk => by
    rw [hs.out (.inr hk), e]
    by_cases q : k = f + i
    · rw [if_pos q, if_pos q]
    · rw [if_neg q, if_neg q, if_neg (by omega)]
  have ha : ∀ q, i ≤ q → q < n → ∀ k, f ≤ k → k < f + i → l'.getD k 0 ≤ (if f + q = f + i then l.getD f 0 else l.getD (f + q) 0) := fun q q1 q2 => by
    refine hs.all (P := fun x => x ≤ _) fun k k1 k2 => ?_
    obtain ⟨k, rfl⟩ : ∃ j, k = f + j := ⟨k - f, by omega⟩
    rw [e, if_neg (by omega)]
    by_cases q3 : f + q = f + i
    · rw [if_pos q3]
      split
      · exact hm i (by omega)
      · exact hm k (by omega)
    · rw [if_neg q3]
      split
      · exact h.t2 i q (by omega) (by omega) q2
      · exact h.t2 k q (by omega) (by omega) q2
  constructor
  · intro p q p1 p2 p3
    rw [ho p p1, ho q (by omega), if_neg (show ¬ q = f + i by omega)]
    split
    · have := h.t2 0 (q - f) (by omega) (by omega) (by omega)
      rw [show f + 0 = f from rfl, show f + (q - f) = q by omega] at this
      exact this
    · exact h.t1 p q (by omega) p2 p3
  · intro p q p1 p2 p3
    rw [ho (f + q) (by omega)]
    exact ha q p2 p3 (f + p) (by omega) (by omega)
theorem Hp.swapped {i f : Nat} {l : List Int} (h : Hp 0 (i + 1) f l) (hl : f + i < l.length) : Hp 1 i f (sw l f (f + i)) := fun k c k1 k2 k3 => by
  rw [sw_getD (by omega) hl, sw_getD (by omega) hl, if_neg (by omega), if_neg (by omega), if_neg (by omega), if_neg (by omega)]
  exact h k c (by omega) k2 (by omega)
end Go.Proofs.Ytpkampecmlpfmaa.T

end
section
set_option linter.unusedSimpArgs false
set_option linter.unusedVariables false
/- Lists that are parted, plainly. -/
namespace Go.Proofs.Ytpkampecmlpfmaa.T
open Go Go.VL Go.Proofs
structure Pt (a b i j : Nat) (p : Int) (l : List Int) : Prop where
  ha : l.getD a 0 = p
  h1 : ∀ k, a < k → k < i → l.getD k 0 < p
  h2 : ∀ k, j < k → k < b → p ≤ l.getD k 0
  hi : a < i
  hij : i ≤ j + 1
  hj : j < b
theorem Pt.up {a b i j : Nat} {p : Int} {l : List Int} (h : Pt a b i j p l) (hij : i ≤ j) (hlt : l.getD i 0 < p) : Pt a b (i + 1) j p l :=
  ⟨h.ha, fun k k1 k2 => by
    by_cases e : k = i
    · subst e; exact hlt
    · exact h.h1 k k1 (by omega), h.h2, by have := h.hi; omega, by omega, h.hj⟩
theorem Pt.down {a b i j : Nat} {p : Int} {l : List Int} (h : Pt a b i j p l) (hij : i ≤ j) (hge : p ≤ l.getD j 0) : Pt a b i (j - 1) p l :=
  ⟨h.ha, h.h1, fun k k1 k2 => by
    by_cases e : k = j
    · subst e; exact hge
    · exact h.h2 k (by omega) k2, h.hi, by omega, by have := h.hj; omega⟩
theorem Pt.swap {a b i j : Nat} {p : Int} {l : List Int} (h : Pt a b i j p l) (hij : i ≤ j) (hge : p ≤ l.getD i 0) (hlt : l.getD j 0 < p) (hl : b ≤ l.length) : Pt a b (i + 1) (j - 1) p (sw l i j) := by
  have h3 := h.hi
  have h4 := h.hj
  have hne : i ≠ j := fun q => by subst q; omega
  have e : ∀ k, (sw l i j).getD k 0 = if k = j then l.getD i 0 else if k = i then l.getD j 0 else l.getD k 0 := fun k => sw_getD (by omega) (by omega)
  refine ⟨?_, fun k k1 k2 => ?_, fun k k1 k2 => ?_, by omega, by omega, by omega⟩
  · rw [e, if_neg (by omega), if_neg (by omega)]; exact h.ha
  · rw [e, if_neg (by omega)]
    split
    · exact hlt
    · exact h.h1 k k1 (by omega)
  · rw [e]
    split
    · exact hge
    · rw [if_neg (by omega)]
      exact h.h2 k (by omega) k2
structure Parted (a b m : Nat) (l : List Int) : Prop where
  h1 : a ≤ m
  h2 : m < b
  h3 : ∀ k, a ≤ k → k < m → l.getD k 0 ≤ l.getD m 0
  h4 : ∀ k, m < k → k < b → l.getD m 0 ≤ l.getD k 0
theorem Pt.fin {a b i j : Nat} {p : Int} {l : List Int} (h : Pt a b i j p l) (hij : j < i) (hl : b ≤ l.length) : Parted a b j (sw l j a) := by
  have h3 := h.hi
  have h4 := h.hj
  have h5 := h.hij
  have e : ∀ k, (sw l j a).getD k 0 = if k = a then l.getD j 0 else if k = j then l.getD a 0 else l.getD k 0 := fun k => sw_getD (by omega) (by omega)
  have ej : (sw l j a).getD j 0 = p := by
    rw [e]
    by_cases q : j = a
    · rw [if_pos q, q]; exact h.ha
    · rw [if_neg q, if_pos rfl]; exact h.ha
  refine ⟨by omega, h4, fun k k1 k2 => ?_, fun k k1 k2 => ?_⟩
  · rw [ej, e]
    split
    · have := h.h1 j (by omega) (by omega)
      omega
    · rw [if_neg (by omega)]
      have := h.h1 k (by omega) (by omega)
      omega
  · rw [ej, e, if_neg (by omega), if_neg (by omega)]
    exact h.h2 k k1 k2
structure Pe (a b i j : Nat) (p : Int) (l : List Int) : Prop where
  ha : l.getD a 0 = p
  h1 : ∀ k, a ≤ k → k < i → l.getD k 0 ≤ p
  h2 : ∀ k, j < k → k < b → p < l.getD k 0
  hi : a < i
  hij : i ≤ j + 1
  hj : j < b
theorem Pe.up {a b i j : Nat} {p : Int} {l : List Int} (h : Pe a b i j p l) (hij : i ≤ j) (hlt : l.getD i 0 ≤ p) : Pe a b (i + 1) j p l :=
  ⟨h.ha, fun k k1 k2 => by
    by_cases e : k = i
    · subst e; exact hlt
    · exact h.h1 k k1 (by omega), h.h2, by have := h.hi; omega, by omega, h.hj⟩
theorem Pe.down {a b i j : Nat} {p : Int} {l : List Int} (h : Pe a b i j p l) (hij : i ≤ j) (hge : p < l.getD j 0) : Pe a b i (j - 1) p l :=
  ⟨h.ha, h.h1, fun k k1 k2 => by
    by_cases e : k = j
    · subst e; exact hge
    · exact h.h2 k (by omega) k2, h.hi, by omega, by have := h.hj; omega⟩
theorem Pe.swap {a b i j : Nat} {p : Int} {l : List Int} (h : Pe a b i j p l) (hij : i ≤ j) (hge : p < l.getD i 0) (hlt : l.getD j 0 ≤ p) (hl : b ≤ l.length) : Pe a b (i + 1) (j - 1) p (sw l i j) := by
  have h3 := h.hi
  have h4 := h.hj
  have hne : i ≠ j := fun q => by subst q; omega
  have e : ∀ k, (sw l i j).getD k 0 = if k = j then l.getD i 0 else if k = i then l.getD j 0 else l.getD k 0 := fun k => sw_getD (by omega) (by omega)
  refine ⟨?_, fun k k1 k2 => ?_, fun k k1 k2 => ?_, by omega, by omega, by omega⟩
  · rw [e, if_neg (by omega), if_neg (by omega)]; exact h.ha
  · rw [e, if_neg (by omega)]
    split
    · exact hlt
    · exact h.h1 k k1 (by omega)
  · rw [e]
    split
    · exact hge
    · rw [if_neg (by omega)]
      exact h.h2 k (by omega) k2
structure PartEq (a b m : Nat) (p : Int) (l : List Int) : Prop where
  h1 : a < m
  h2 : m ≤ b
  h3 : ∀ k, a ≤ k → k < m → l.getD k 0 ≤ p
  h4 : ∀ k, m ≤ k → k < b → p < l.getD k 0
theorem Pe.fin {a b i j : Nat} {p : Int} {l : List Int} (h : Pe a b i j p l) (hij : j < i) : PartEq a b i p l := by
  have h3 := h.hi
  have h4 := h.hj
  have h5 := h.hij
  exact ⟨h3, by omega, h.h1, fun k k1 k2 => h.h2 k (by omega) k2⟩
end Go.Proofs.Ytpkampecmlpfmaa.T

end
section
set_option linter.unusedSimpArgs false
set_option linter.unusedVariables false
/- Sorted beginnings, plainly. -/
namespace Go.Proofs.Ytpkampecmlpfmaa.T
open Go Go.VL Go.Proofs
theorem Sd.snoc {a i : Nat} {l : List Int} (h : Sd a i l) (ha : a + 1 ≤ i) (hle : l.getD (i - 1) 0 ≤ l.getD i 0) : Sd a (i + 1) l := fun p q h1 h2 h3 => by
  by_cases e : q = i
  · subst e
    by_cases e2 : p = q - 1
    · rw [e2]; exact hle
    · have := h p (q - 1) h1 (by omega) (by omega)
      omega
  · exact h p q h1 h2 (by omega)
theorem Sd.out {a i x y : Nat} {l : List Int} (h : Sd a i l) (hx : i ≤ x) (hy : i ≤ y) (h1 : x < l.length) (h2 : y < l.length) : Sd a i (sw l x y) := fun p q p1 p2 p3 => by
  rw [sw_getD h1 h2, sw_getD h1 h2, if_neg (by omega), if_neg (by omega), if_neg (by omega), if_neg (by omega)]
  exact h p q p1 p2 p3
theorem Sd.swapped {a i : Nat} {l : List Int} (h : Sd a i l) (ha : a + 1 ≤ i) (hi : i < l.length) (hlt : l.getD i 0 < l.getD (i - 1) 0) : Ins a (i - 1) (i - 1) (sw l i (i - 1)) := fun p q p1 p2 p3 p4 => by
  have e : ∀ k, (sw l i (i - 1)).getD k 0 = if k = i - 1 then l.getD i 0 else if k = i then l.getD (i - 1) 0 else l.getD k 0 := fun k => sw_getD (by omega) (by omega)
  rw [e, e, if_neg (by omega), if_neg (by omega), if_neg (by omega), if_neg (by omega)]
  exact h p q p1 p2 (by omega)
/-- What is ahead is no greater. -/
def Ahd (a b : Nat) (l : List Int) : Prop := a = 0 ∨ ∀ k, a ≤ k → k < b → l.getD (a - 1) 0 ≤ l.getD k 0
theorem Ahd.sw {a b : Nat} {l l' : List Int} (h : Ahd a b l) (hs : Sw a b l l') : Ahd a b l' := by
  by_cases e : a = 0
  · exact .inl e
  · right
    rcases h with h | h
    · exact absurd h e
    · have := hs.all (P := fun x => l.getD (a - 1) 0 ≤ x) h
      intro k k1 k2
      rw [hs.out (k := a - 1) (by omega)]
      exact this k k1 k2
end Go.Proofs.Ytpkampecmlpfmaa.T

end
section
set_option linter.unusedSimpArgs false
set_option linter.unusedVariables false
/- What is left to be sorted, plainly. -/
namespace Go.Proofs.Ytpkampecmlpfmaa.T
open Go Go.VL Go.Proofs
/-- Once [a, b) is sorted, all of [a0, b0) is. -/
structure Rest (a0 b0 : Nat) (l0 : List Int) (a b : Nat) (l : List Int) : Prop where
  ra : a0 ≤ a
  rab : a ≤ b
  rb : b ≤ b0
  rl : b0 ≤ l0.length
  rs : Sw a0 b0 l0 l
  rd : ∀ l', Sw a b l l' → Sd a b l' → Sd a0 b0 l'
  rh : Ahd a b l
theorem Rest.start {a b : Nat} {l : List Int} (h : a ≤ b) (hb : b ≤ l.length) (hA : Ahd a b l) : Rest a b l a b l :=
  ⟨Nat.le_refl _, h, Nat.le_refl _, hb, .refl _, fun _ _ h => h, hA⟩
theorem Rest.sw {a0 b0 a b : Nat} {l0 l l' : List Int} (h : Rest a0 b0 l0 a b l) (hs : Sw a b l l') : Rest a0 b0 l0 a b l' :=
  ⟨h.ra, h.rab, h.rb, h.rl, h.rs.trans (hs.mono h.ra h.rb (by rw [h.rs.length]; exact h.rl)), fun l'' h1 h2 => h.rd l'' (hs.trans h1) h2, h.rh.sw hs⟩
theorem Rest.done {a0 b0 a b : Nat} {l0 l l' : List Int} (h : Rest a0 b0 l0 a b l) (hs : Sw a b l l') (hd : Sd a b l') : Sw a0 b0 l0 l' ∧ Sd a0 b0 l' :=
  ⟨(h.sw hs).rs, h.rd l' hs hd⟩
/-- The beginning is of the least numbers alone. -/
theorem Rest.eqPart {a0 b0 a b m : Nat} {l0 l : List Int} {p : Int} (h : Rest a0 b0 l0 a b l) (hp : PartEq a b m p l) (hge : ∀ k, a ≤ k → k < b → p ≤ l.getD k 0) : Rest a0 b0 l0 m b l := by
  have h1 := hp.h1
  have h2 := hp.h2
  refine ⟨by have := h.ra; omega, h2, h.rb, h.rl, h.rs, fun l' s1 s2 => ?_, .inr fun k k1 k2 => ?_⟩
  · have hl : b ≤ l.length := by have := h.rb; have := h.rl; rw [h.rs.length]; omega
    refine h.rd l' (s1.mono (by omega) (Nat.le_refl _) hl) fun x y x1 x2 x3 => ?_
    have hlo : ∀ k, a ≤ k → k < m → l'.getD k 0 = p := fun k k1 k2 => by
      rw [s1.out (.inl k2)]
      have := hp.h3 k k1 k2
      have := hge k k1 (by omega)
      omega
    have hhi : ∀ k, m ≤ k → k < b → p < l'.getD k 0 := s1.all (P := fun x => p < x) hp.h4
    by_cases xm : x < m
    · rw [hlo x x1 xm]
      by_cases ym : y < m
      · rw [hlo y (by omega) ym]; exact Int.le_refl _
      · have := hhi y (by omega) x3; omega
    · exact s2 x y (by omega) x2 x3
  · have e1 := hp.h3 (m - 1) (by omega) (by omega)
    have e2 := hp.h4 k k1 k2
    omega
/-- Parted, and the left part sorted. -/
theorem Rest.left {a0 b0 a b m : Nat} {l0 l l' : List Int} (h : Rest a0 b0 l0 a b l) (hp : Parted a b m l) (hs : Sw a m l l') (hd : Sd a m l') : Rest a0 b0 l0 (m + 1) b l' := by
  have h1 := hp.h1
  have h2 := hp.h2
  have hl : b ≤ l.length := by have := h.rb; have := h.rl; rw [h.rs.length]; omega
  have hl2 := hs.length
  have hsb : Sw a b l l' := hs.mono (Nat.le_refl _) (by omega) hl
  have h' := h.sw hsb
  have em : l'.getD m 0 = l.getD m 0 := hs.out (.inr (Nat.le_refl _))
  have hlo : ∀ k, a ≤ k → k < m → l'.getD k 0 ≤ l.getD m 0 := hs.all (P := fun x => x ≤ _) hp.h3
  have hhi : ∀ k, m < k → k < b → l.getD m 0 ≤ l'.getD k 0 := fun k k1 k2 => by rw [hs.out (.inr (by omega))]; exact hp.h4 k k1 k2
  refine ⟨by have := h.ra; omega, by omega, h.rb, h.rl, h'.rs, fun l'' s1 s2 => ?_, .inr fun k k1 k2 => ?_⟩
  · refine h'.rd l'' (s1.mono (by omega) (Nat.le_refl _) (by omega)) fun x y x1 x2 x3 => ?_
    have hlo2 : ∀ k, k ≤ m → l''.getD k 0 = l'.getD k 0 := fun k k1 => s1.out (.inl (by omega))
    have hhi2 : ∀ k, m + 1 ≤ k → k < b → l.getD m 0 ≤ l''.getD k 0 := s1.all (P := fun x => _ ≤ x) fun k k1 k2 => hhi k (by omega) k2
    by_cases xm : x ≤ m
    · rw [hlo2 x xm]
      have hxm : l'.getD x 0 ≤ l.getD m 0 := by
        by_cases e : x = m
        · rw [e, em]; exact Int.le_refl _
        · exact hlo x x1 (by omega)
      by_cases ym : y ≤ m
      · rw [hlo2 y ym]
        by_cases e : y = m
        · rw [e, em]; exact hxm
        · exact hd x y x1 x2 (by omega)
      · have := hhi2 y (by omega) x3; omega
    · exact s2 x y (by omega) x2 x3
  · rw [show m + 1 - 1 = m by omega, em]
    exact hhi k (by omega) k2
/-- Parted, and the right part sorted. -/
theorem Rest.right {a0 b0 a b m : Nat} {l0 l l' : List Int} (h : Rest a0 b0 l0 a b l) (hp : Parted a b m l) (hs : Sw (m + 1) b l l') (hd : Sd (m + 1) b l') : Rest a0 b0 l0 a m l' := by
  have h1 := hp.h1
  have h2 := hp.h2
  have hl : b ≤ l.length := by have := h.rb; have := h.rl; rw [h.rs.length]; omega
  have hl2 := hs.length
  have hsb : Sw a b l l' := hs.mono (by omega) (Nat.le_refl _) hl
  have h' := h.sw hsb
  have em : l'.getD m 0 = l.getD m 0 := hs.out (.inl (by omega))
  have hhi : ∀ k, m + 1 ≤ k → k < b → l.getD m 0 ≤ l'.getD k 0 := hs.all (P := fun x => _ ≤ x) fun k k1 k2 => hp.h4 k (by omega) k2
  have hlo : ∀ k, a ≤ k → k < m → l'.getD k 0 ≤ l.getD m 0 := fun k k1 k2 => by rw [hs.out (.inl (by omega))]; exact hp.h3 k k1 k2
  refine ⟨h.ra, h1, by have := h.rb; omega, h.rl, h'.rs, fun l'' s1 s2 => ?_, ?_⟩
  · refine h'.rd l'' (s1.mono (Nat.le_refl _) (by omega) (by omega)) fun x y x1 x2 x3 => ?_
    have hhi2 : ∀ k, m ≤ k → l''.getD k 0 = l'.getD k 0 := fun k k1 => s1.out (.inr k1)
    have hlo2 : ∀ k, a ≤ k → k < m → l''.getD k 0 ≤ l.getD m 0 := s1.all (P := fun x => x ≤ _) hlo
    have hge : ∀ k, m ≤ k → k < b → l.getD m 0 ≤ l''.getD k 0 := fun k k1 k2 => by
      rw [hhi2 k k1]
      by_cases e : k = m
      · rw [e, em]; exact Int.le_refl _
      · exact hhi k (by omega) k2
    by_cases ym : y < m
    · exact s2 x y x1 x2 ym
    · by_cases xm : x < m
      · have := hlo2 x x1 xm
        have := hge y (by omega) x3
        omega
      · by_cases e : x = m
        · subst e
          rw [hhi2 x (Nat.le_refl _), em]
          exact hge y (by omega) x3
        · rw [hhi2 x (by omega), hhi2 y (by omega)]
          exact hd x y (by omega) x2 x3
  · rcases h'.rh with q | q
    · exact .inl q
    · exact .inr fun k k1 k2 => q k k1 (by omega)
theorem Rest.ahead {a0 b0 a b : Nat} {l0 l : List Int} (h : Rest a0 b0 l0 a b l) (ha : 0 < a) {v : Nat} (hv : a ≤ v ∧ v < b) (hle : l.getD v 0 ≤ l.getD (a - 1) 0) : ∀ k, a ≤ k → k < b → l.getD v 0 ≤ l.getD k 0 := fun k k1 k2 => by
  rcases h.rh with q | q
  · omega
  · have := q k k1 k2; omega
end Go.Proofs.Ytpkampecmlpfmaa.T

end
section
set_option linter.unusedSimpArgs false
/- The list, sorted, plainly. -/
namespace Go.Proofs.Ytpkampecmlpfmaa.T
open Go Go.VL Go.Proofs
/-- The list, sorted. -/
def sortI (l : List Int) : List Int := l.mergeSort fun x y => decide (x ≤ y)
theorem sortI_perm (l : List Int) : (sortI l).Perm l := List.mergeSort_perm _ _
theorem sortI_sorted (l : List Int) : (sortI l).Pairwise (· ≤ ·) := by
  have := List.pairwise_mergeSort (le := fun x y : Int => decide (x ≤ y)) (fun a b c h1 h2 => by simp at *; omega) (fun a b => by simp; omega) l
  exact this.imp fun h => by simpa using h
theorem sorted_unique {l l' : List Int} (hp : l.Perm l') (h : l.Pairwise (· ≤ ·)) (h' : l'.Pairwise (· ≤ ·)) : l = l' :=
  hp.eq_of_pairwise (fun a b _ _ h1 h2 => by omega) h h'
theorem Sd.pairwise {l : List Int} (h : Sd 0 l.length l) : l.Pairwise (· ≤ ·) := by
  rw [List.pairwise_iff_getElem]
  intro i j hi hj hij
  have := h i j (Nat.zero_le _) hij hj
  simpa [List.getD, hi, hj] using this
theorem sortI_of {l l' : List Int} (h : Sw 0 l.length l l') (hd : Sd 0 l.length l') : l' = sortI l := by
  have hl := h.length
  rw [← hl] at hd
  exact sorted_unique (h.perm.trans (sortI_perm l).symm) hd.pairwise (sortI_sorted l)
end Go.Proofs.Ytpkampecmlpfmaa.T

end
section
set_option linter.unusedSimpArgs false
set_option linter.unusedVariables false
/- Where a list is cut, and how many are in each cell, plainly. -/
namespace Go.Proofs.Ytpkampecmlpfmaa.T
open Go Go.VL Go.Proofs
def oddB (x : Int) : Bool := decide (x < -32767)
def cutsL (l : List Int) (cells : Nat) : List Int := (List.range (cells - 1)).map fun i => (sortI l).getD ((i + 1) * l.length / cells) 0
def rkE (l : List Int) (cells : Int) : Int := if 4096 < l.length then 3 else if ¬ (1 ≤ cells ∧ cells ≤ 16) ∨ l.any oddB = true then 1 else if l.length = 0 then 5 else 0
def rkOut (l : List Int) (cells : Int) : List Int := if rkE l cells = 0 then cutsL l cells.toNat else []
theorem rkE_zero {l : List Int} {cells : Int} : rkE l cells = 0 ↔ l.length ≤ 4096 ∧ (1 ≤ cells ∧ cells ≤ 16) ∧ l.any oddB = false ∧ 1 ≤ l.length := by
  unfold rkE
  by_cases h1 : 4096 < l.length
  · rw [if_pos h1]; constructor
    · intro q; cases q
    · intro q; omega
  · rw [if_neg h1]
    by_cases h2 : ¬ (1 ≤ cells ∧ cells ≤ 16) ∨ l.any oddB = true
    · rw [if_pos h2]; constructor
      · intro q; cases q
      · rintro ⟨_, q1, q2, _⟩
        rcases h2 with h2 | h2
        · exact absurd q1 h2
        · rw [q2] at h2; cases h2
    · rw [if_neg h2]
      have h3 : (1 ≤ cells ∧ cells ≤ 16) ∧ l.any oddB = false := ⟨Classical.byContradiction fun q => h2 (.inl q), by
        cases e : l.any oddB with
        | false => rfl
        | true => exact absurd (.inr e) h2⟩
      by_cases h4 : l.length = 0
      · rw [if_pos h4]; constructor
        · intro q; cases q
        · intro q; omega
      · rw [if_neg h4]; exact ⟨fun _ => ⟨by omega, h3.1, h3.2, by omega⟩, fun _ => rfl⟩
theorem sortI_length (l : List Int) : (sortI l).length = l.length := (sortI_perm l).length_eq
theorem cutsL_length {l : List Int} {n : Nat} : (cutsL l n).length = n - 1 := by simp [cutsL]
theorem cutsL_at {l : List Int} {n i : Nat} (h : i < n - 1) : (cutsL l n).getD i 0 = (sortI l).getD ((i + 1) * l.length / n) 0 := by
  simp [cutsL, List.getD, h]
theorem cutsL_idx {l : List Int} {n i : Nat} (h : i < n - 1) (hl : 1 ≤ l.length) : (i + 1) * l.length / n < l.length := by
  rw [Nat.div_lt_iff_lt_mul (by omega), Nat.mul_comm]
  exact Nat.mul_lt_mul_of_pos_left (by omega) (by omega)
end Go.Proofs.Ytpkampecmlpfmaa.T

end
section
set_option linter.unusedSimpArgs false
set_option linter.unusedVariables false
/- Laws on cuts and counts, plainly. -/
namespace Go.Proofs.Ytpkampecmlpfmaa.T
open Go Go.VL Go.Proofs
end Go.Proofs.Ytpkampecmlpfmaa.T

end
section
set_option linter.unusedSimpArgs false
set_option linter.unusedVariables false
/- A list's own cuts: they may be, and their cells hold as many, plainly. -/
namespace Go.Proofs.Ytpkampecmlpfmaa.T
open Go Go.VL Go.Proofs
theorem sortI_mono {l : List Int} {i j : Nat} (h : i ≤ j) (hj : j < l.length) : (sortI l).getD i 0 ≤ (sortI l).getD j 0 := by
  have hs := sortI_length l
  have hp := List.pairwise_iff_getElem.1 (sortI_sorted l)
  by_cases e : i = j
  · subst e; exact Int.le_refl _
  · have := hp i j (by omega) (by omega) (by omega)
    simpa [List.getD, hs, hj, show i < l.length by omega] using this
end Go.Proofs.Ytpkampecmlpfmaa.T

end
section
set_option linter.unusedSimpArgs false
set_option linter.unusedVariables false
/- A book of a sample, plainly. -/
namespace Go.Proofs.Ytpkampecmlpfmaa.T
open Go Go.VL Go.Proofs
/-- A sample, turned. -/
def turnedL (way : Int) (sample : List (List Int)) : List (List Int) := sample.map fun v => turnL v way.toNat
/-- The numbers that stand at one place. -/
def colOf (T : List (List Int)) (i : Nat) : List Int := T.map fun v => v.getD i 0
theorem colOf_length {T : List (List Int)} {i : Nat} : (colOf T i).length = T.length := by simp [colOf]
theorem colOf_snoc {T : List (List Int)} {i k : Nat} (h : k < T.length) : colOf (T.take (k + 1)) i = colOf (T.take k) i ++ [(T.getD k []).getD i 0] := by
  rw [take_snoc (d := ([] : List Int)) h]
  simp [colOf]
def oddN (n : Nat) (v : List Int) : Bool := decide (vecErr v ≠ 0 ∨ v.length ≠ n)
def sampleOk (n : Nat) (sample : List (List Int)) : Prop := ∀ v ∈ sample, vecErr v = 0 ∧ v.length = n
theorem sampleOk_iff {n : Nat} {sample : List (List Int)} : sample.any (oddN n) = false ↔ sampleOk n sample := by
  rw [List.any_eq_false]
  constructor
  · intro h v hv
    have := h v hv
    unfold oddN at this
    simp at this
    exact this
  · intro h v hv
    unfold oddN
    simp [h v hv]
def trE (w : Int) (cuts : List (List Int)) (way : Int) (sample : List (List Int)) : Int :=
  if ¬ (bookErr w cuts = 0 ∧ wayErr way = 0) ∨ sample.any (oddN cuts.length) = true then 1 else if 4096 < sample.length then 3 else 0
def trCuts (n cells : Nat) (way : Int) (sample : List (List Int)) : List (List Int) := (List.range n).map fun i => cutsL (colOf (turnedL way sample) i) cells
def trW (w : Int) (cuts : List (List Int)) (way : Int) (sample : List (List Int)) : Int := if trE w cuts way sample = 0 then (if sample = [] then w else way) else 0
def trC (w : Int) (cuts : List (List Int)) (way : Int) (sample : List (List Int)) : List (List Int) := if trE w cuts way sample = 0 then (if sample = [] then cuts else trCuts cuts.length (manyOf cuts + 1) way sample) else []
theorem trE_zero {w : Int} {cuts : List (List Int)} {way : Int} {sample : List (List Int)} : trE w cuts way sample = 0 ↔ bookErr w cuts = 0 ∧ wayErr way = 0 ∧ sampleOk cuts.length sample ∧ sample.length ≤ 4096 := by
  unfold trE
  by_cases h1 : ¬ (bookErr w cuts = 0 ∧ wayErr way = 0) ∨ sample.any (oddN cuts.length) = true
  · rw [if_pos h1]
    constructor
    · intro q; cases q
    · rintro ⟨a, b, c, _⟩
      rcases h1 with h1 | h1
      · exact absurd ⟨a, b⟩ h1
      · rw [sampleOk_iff.2 c] at h1; cases h1
  · rw [if_neg h1]
    have h2 : bookErr w cuts = 0 ∧ wayErr way = 0 := Classical.byContradiction fun q => h1 (.inl q)
    have h3 : sampleOk cuts.length sample := sampleOk_iff.1 (by cases q : sample.any (oddN cuts.length) with
      | false => rfl
      | true => exact absurd (.inr q) h1)
    by_cases h4 : 4096 < sample.length
    · rw [if_pos h4]
      constructor
      · intro q; cases q
      · rintro ⟨_, _, _, q⟩; omega
    · rw [if_neg h4]
      exact ⟨fun _ => ⟨h2.1, h2.2, h3, by omega⟩, fun _ => rfl⟩
theorem col_ok {n : Nat} {way : Int} {sample : List (List Int)} (hs : sampleOk n sample) (hI : I16r sample) {i : Nat} (hi : i < n) : (colOf (turnedL way sample) i).any oddB = false := by
  rw [List.any_eq_false]
  intro x hx
  simp only [colOf, turnedL, List.map_map, List.mem_map, Function.comp] at hx
  obtain ⟨v, hv, rfl⟩ := hx
  have h1 := hs v hv
  have h2 := vecOk_iff.1 (vecErr_zero.1 h1.1)
  have h3 := (vecOk_iff.1 (turnL_ok (hI v hv) (vecErr_zero.1 h1.1) way.toNat).1).2.2 _ (getD_mem (a := turnL v way.toNat) (d := (0 : Int)) (k := i) (by rw [turnL_length]; omega))
  rw [oddB, decide_eq_true_eq]
  omega
/-- The ways to the columns, so long each. -/
def refsL (n : Nat) (c : Nat → Nat) : List D := (List.range n).map fun i => .ref (1000 + i) (c i)
def cntC (k j : Nat) : Nat → Nat := fun i => if i < j then k + 1 else k
theorem cntC_zero (k : Nat) : cntC k 0 = fun _ => k := by funext i; exact if_neg (Nat.not_lt_zero _)
theorem refsL_length {n : Nat} {c : Nat → Nat} : (refsL n c).length = n := by simp [refsL]
theorem refsL_get {n j : Nat} {c : Nat → Nat} (h : j < n) : (refsL n c)[j]? = some (.ref (1000 + j) (c j)) := by simp [refsL, h]
theorem refsL_full {n k : Nat} : refsL n (cntC k n) = refsL n fun _ => k + 1 := List.map_congr_left fun i hi => by rw [cntC, if_pos (List.mem_range.1 hi)]
theorem refsL_kills {n j : Nat} {c : Nat → Nat} (h : j < n) : D.kills (1000 + j) (refsL n c) = (refsL n c).set j .any := by
  rw [D.kills_eq_map]
  apply List.ext_getElem
  · simp [refsL]
  · intro i h1 h2
    rw [List.getElem_set]
    simp only [refsL, List.getElem_map, List.getElem_range, D.kill]
    by_cases q : j = i
    · rw [if_pos q, if_pos (by omega)]
    · rw [if_neg q, if_neg (by omega)]
theorem refsL_step {n j k : Nat} (h : j < n) : ((refsL n (cntC k j)).set j .any).set j (.ref (1000 + j) (k + 1)) = refsL n (cntC k (j + 1)) := by
  rw [List.set_set]
  apply List.ext_getElem
  · simp [refsL]
  · intro i h1 h2
    rw [List.getElem_set]
    simp only [refsL, List.getElem_map, List.getElem_range, cntC]
    by_cases q : j = i
    · subst q; rw [if_pos rfl, if_pos (by omega)]
    · rw [if_neg q]
      by_cases z : i < j
      · rw [if_pos z, if_pos (by omega)]
      · rw [if_neg z, if_neg (by omega)]
def colsW (e : TypeId) (n : Nat) (T : List (List Int)) (c : Nat → Nat) : List (Nat × Own) := (List.range n).map fun i => (1000 + i, ⟨e, 1, ints .i16 (colOf (T.take (c i)) i)⟩)
theorem Heaps_colsW {s : St} {e : TypeId} {n : Nat} {T : List (List Int)} {c : Nat → Nat} : Heaps s (colsW e n T c) = ∀ i, i < n → s.H (1000 + i) = some ⟨e, 1, ints .i16 (colOf (T.take (c i)) i)⟩ := by
  rw [colsW, Heaps_range]
  simp only [List.mem_range]
theorem base_ne {i c : Nat} (h : c < 1000) : (1000 + i = c) = False := eq_false (by omega)
theorem base_ne' {i c : Nat} (h : c < 1000) : (c = 1000 + i) = False := eq_false (by omega)
theorem refsL_kept {n id : Nat} {c : Nat → Nat} (h : id < 1000) : D.kills id (refsL n c) = refsL n c := by
  rw [D.kills_eq_map, refsL, List.map_map]
  refine List.map_congr_left fun i _ => ?_
  simp only [Function.comp, D.kill]
  rw [if_neg (by omega)]
theorem refsL_any {n j : Nat} {c : Nat → Nat} (h : j < n) : ((refsL n c).set j .any)[j]? = some .any := by
  rw [List.getElem?_set_self (by rw [refsL_length]; exact h)]
theorem anyT_width : D.any.width = 1 := (rfl)
theorem setPartT_xr {i n : Nat} : setPart .any 0 (.ref i n) = some (.ref i n) := (rfl)
theorem colsT_get {n k : Nat} {T : List (List Int)} (h : k < n) : ((List.range n).map fun i => D.lst (ints .i16 (colOf T i)))[k]? = some (.lst (ints .i16 (colOf T k))) := by simp [h]
theorem trCuts_at {n cells k : Nat} {way : Int} {sample : List (List Int)} (h : k < n) : (trCuts n cells way sample).getD k [] = cutsL (colOf (turnedL way sample) k) cells := by simp [trCuts, List.getD, h]
theorem trCuts_length {n cells : Nat} {way : Int} {sample : List (List Int)} : (trCuts n cells way sample).length = n := by simp [trCuts]
end Go.Proofs.Ytpkampecmlpfmaa.T

end
section
set_option linter.unusedSimpArgs false
set_option linter.unusedVariables false
/- Lists looked through, and counted; walked. -/
namespace Go.Proofs.Ytpkampecmlpfmaa.T
open Go Go.VL Go.Proofs
set_option maxRecDepth 100000
set_option maxHeartbeats 8000000
theorem any16_take {p : Int → Bool} {l : List Int} {k : Nat} (h : k < l.length) : (l.take (k + 1)).any p = ((l.take k).any p || p (l.getD k 0)) := by
  rw [take_snoc (d := 0) h, List.any_append]; simp
theorem any16_of {p : Int → Bool} {l : List Int} {k : Nat} (h : k < l.length) (hp : p (l.getD k 0) = true) : l.any p = true := by
  rw [List.any_eq_true]
  exact ⟨_, getD_mem h, hp⟩

theorem indexFunc16_fun (l : List Int) (p : Int → Bool) (g : FuncId) (hg : ∀ x : Int, Fun Try.prog g [.v (.int .i16 x)] fun r => r = .v (.bool (p x))) :
    Fun Try.prog 136 [.lst (ints .i16 l), .clos (.func g) []] fun r => ∃ z : Int, r = .v (.int .i64 z) ∧ (0 ≤ z ↔ l.any p = true) := by
  refine Fun.of_awpI Try.func136 rfl cal136 Try.ntmps136 (by simp) fun hwf => ?_
  simp only [D.wfs, D.wf, ints_length, ints_wfs, rows_length, rows_wfs, capMax, and_true, true_and] at hwf
  repeat' (first | simp only [go_sem, Ret_eq Try.results136] | fail)
  refine awpI_for l.length (fun k => (l.take k).any p = false) (fun k => [(8, .v (.int .i64 k))]) (fun _ => []) [0, 1, 7] [] _ (Weak.refl _) (by simp) ?_ ?_ ?_
  · simp only [go_sem, Ret_eq Try.results136]
  · simp only [go_sem, Ret_eq Try.results136]
  · intro k s hk hQ hs
    simp only [go_sem, Ret_eq Try.results136] at hs
    by_cases hka : k < l.length
    · have hgk := hg (l.getD k 0)
      have e := any16_take (p := p) hka
      rw [hQ, Bool.false_or] at e
      have e2 := any16_of (p := p) hka
      generalize p (l.getD k 0) = b at *
      cases b
      · repeat' (first | simp only [go_sem, hs, Ret_eq Try.results136] | simp (disch := omega) only [arith, IntKind.bits, capMax, fill_len, elt_fill] | (refine Again.up (by omega) ?_ ?_) | (refine opCallI_rd (by simp only [go_sem, hs, Ret_eq Try.results136]; first | done | rfl) (hgk) (by rintro _ rfl; rfl) ?_; rintro _ rfl) | fail)
        exact e
      · repeat' (first | simp only [go_sem, hs, Ret_eq Try.results136] | simp (disch := omega) only [arith, IntKind.bits, capMax, fill_len, elt_fill] | (refine opCallI_rd (by simp only [go_sem, hs, Ret_eq Try.results136]; first | done | rfl) (hgk) (by rintro _ rfl; rfl) ?_; rintro _ rfl) | fail)
        exact ⟨_, rfl, fun _ => e2 rfl, fun _ => by omega⟩
    · obtain rfl : k = l.length := by omega
      rw [List.take_length] at hQ
      repeat' (first | simp only [go_sem, hs, Ret_eq Try.results136] | simp (disch := omega) only [arith, IntKind.bits, capMax, fill_len, elt_fill] | fail)
      exact ⟨_, rfl, fun h => absurd h (by decide), fun h => by rw [hQ] at h; cases h⟩

theorem containsFunc16_fun (l : List Int) (p : Int → Bool) (g : FuncId) (hg : ∀ x : Int, Fun Try.prog g [.v (.int .i16 x)] fun r => r = .v (.bool (p x))) :
    Fun Try.prog 87 [.lst (ints .i16 l), .clos (.func g) []] fun r => r = .v (.bool (l.any p)) := by
  refine Fun.of_awpI Try.func87 rfl cal87 Try.ntmps87 (by simp) fun hwf => ?_
  simp only [D.wfs, D.wf, ints_length, ints_wfs, rows_length, rows_wfs, capMax, and_true, true_and] at hwf
  repeat' (first | simp only [go_sem, Ret_eq Try.results87] | (refine opCallI_gv (by simp only [go_sem, Ret_eq Try.results87]; first | done | rfl) (indexFunc16_fun l p g hg) ?_; rintro _ ⟨z, rfl, hz⟩) | fail)
  rw [Bool.eq_iff_iff, decide_eq_true_eq]
  omega

end Go.Proofs.Ytpkampecmlpfmaa.T

end
section
set_option linter.unusedSimpArgs false
set_option linter.unusedVariables false
/- Where a list is cut, walked over what slices.Sorted does. -/
namespace Go.Proofs.Ytpkampecmlpfmaa.T
open Go Go.VL Go.Proofs
set_option maxRecDepth 100000
set_option maxHeartbeats 8000000

theorem values16_fun (l : List Int) : Fun Try.prog 90 [.lst (ints .i16 l)] fun r => r = .clos (.func 139) [.ptr (.lst (ints .i16 l))] := by
  refine Fun.of_awpI Try.func90 rfl cal90 Try.ntmps90 (by simp) fun hwf => ?_
  simp only [D.wfs, D.wf, ints_length, ints_wfs, rows_length, rows_wfs, capMax, and_true, true_and] at hwf
  repeat' (first | simp only [go_sem, Ret_eq Try.results90] | fail)
def Sorted16 : Prop := ∀ l : List Int, 1 ≤ l.length → l.length ≤ 60000 → FunO Try.prog 89 [.clos (.func 139) [.ptr (.lst (ints .i16 l))]] fun r o => r = .ref 0 l.length ∧ o = some ⟨23, 1, ints .i16 (sortI l)⟩
theorem fill_cuts {l : List Int} {n : Nat} : fill (fun i => (sortI l).getD ((i + 1) * l.length / n) 0) (List.replicate (n - 1) 0) (n - 1) = cutsL l n := by
  have := fill_all (f := fun i => (sortI l).getD ((i + 1) * l.length / n) 0) (a := List.replicate (n - 1) 0)
  rw [List.length_replicate] at this
  exact this

theorem rkCuts_fun (hS : Sorted16) (l : List Int) (cells : Int) (hl : l.length ≤ 60000) : Fun Try.prog 25 [.lst (ints .i16 l), .v (.int .i64 cells)] fun r => r = .tup [.lst (ints .i16 (rkOut l cells)), .v (.int .i64 (rkE l cells))] := by
  have hcf := containsFunc16_fun l oddB 88 (fun x => rankOdd_fun x)
  by_cases h : rkE l cells = 0
  · have e1 : rkOut l cells = cutsL l cells.toNat := if_pos h
    rw [e1, h]
    obtain ⟨h1, ⟨h2, h3⟩, h4, h5⟩ := rkE_zero.1 h
    obtain ⟨n, rfl⟩ := Int.eq_ofNat_of_zero_le (show 0 ≤ cells by omega)
    rw [Int.toNat_natCast]
    rw [h4] at hcf
    have hv := values16_fun l
    have hso := hS l h5 hl
    have hsl := sortI_length l
    have en : (n : Int) - 1 = ((n - 1 : Nat) : Int) := by omega
    have hne : ((l.length : Int) == 0) = false := beq_eq_false_iff_ne.2 (by omega)
    refine Fun.of_awpI Try.func25 rfl cal25 Try.ntmps25 (by simp) fun hwf => ?_
    simp only [D.wfs, D.wf, ints_length, ints_wfs, rows_length, rows_wfs, capMax, and_true, true_and] at hwf
    repeat' (first | simp only [go_sem, en, hne, Int.toNat_natCast, Ret_eq Try.results25] | simp (disch := omega) only [arith, IntKind.bits, capMax, fill_len, elt_fill] | (refine opCallI_rd (by simp only [go_sem, en, hne, Int.toNat_natCast, Ret_eq Try.results25]; first | done | rfl) (hcf) (by rintro _ rfl; rfl) ?_; rintro _ rfl) | (refine opCallI_gv (by simp only [go_sem, en, hne, Int.toNat_natCast, Ret_eq Try.results25]; first | done | rfl) (hv) ?_; rintro _ rfl) | (refine opCallI_ownGv (by simp only [go_sem, en, hne, Int.toNat_natCast, Ret_eq Try.results25]; first | done | rfl) (hso) ?_; rintro _ _ ⟨rfl, rfl⟩) | fail)
    refine awpI_for (n - 1) (fun k => True) (fun k => [(36, .v (.int .i64 k))]) (fun k => [(33, ⟨23, 1, ints .i16 (fill (fun i => (sortI l).getD ((i + 1) * l.length / n) 0) (List.replicate (n - 1) 0) k)⟩)]) [0, 1, 6, 7, 35] [30] _ (Weak.refl _) trivial ?_ ?_ ?_
    · simp only [go_sem, Ret_eq Try.results25]
    · simp only [go_sem, fill_zero, Ret_eq Try.results25]
    · intro k s hk _ hs
      simp only [go_sem, Ret_eq Try.results25] at hs
      by_cases hka : k < n - 1
      · have hlt := cutsL_idx (l := l) hka h5
        have e2 := fill_set (f := fun i => (sortI l).getD ((i + 1) * l.length / n) 0) (a := List.replicate (n - 1) 0) (k := k) (by simpa using hka)
        have el : (fill (fun i => (sortI l).getD ((i + 1) * l.length / n) 0) (List.replicate (n - 1) 0) k).length = n - 1 := by rw [fill_len (by simp; omega)]; simp
        have em : ((k + 1 : Nat) : Int) * (l.length : Int) = (((k + 1) * l.length : Nat) : Int) := (Int.natCast_mul _ _).symm
        have hmb : (k + 1) * l.length ≤ 16 * 4096 := Nat.mul_le_mul (by omega) h1
        have ed : (((k + 1) * l.length : Nat) : Int) / (n : Int) = (((k + 1) * l.length / n : Nat) : Int) := (Int.natCast_ediv _ _).symm
        have edt : (((k + 1) * l.length : Nat) : Int).tdiv (n : Int) = (((k + 1) * l.length / n : Nat) : Int) := by rw [Int.tdiv_eq_ediv_of_nonneg (by omega)]; exact ed
        obtain ⟨q, hq⟩ : ∃ q, (k + 1) * l.length / n = q := ⟨_, rfl⟩
        rw [hq] at e2 hlt ed edt
        repeat' (first | simp only [go_sem, hs, em, ed, edt, hsl, el, e2, Ret_eq Try.results25] | simp (disch := omega) only [arith, IntKind.bits, capMax, fill_len, elt_fill] | (refine Again.up (by omega) ?_ ?_) | fail)
      · obtain rfl : k = n - 1 := by omega
        rw [fill_cuts] at hs
        have hcl := cutsL_length (l := l) (n := n)
        have ht : (cutsL l n).take (n - 1) = cutsL l n := List.take_of_length_le (by omega)
        repeat' (first | simp only [go_sem, hs, hcl, ht, Ret_eq Try.results25] | simp (disch := omega) only [arith, IntKind.bits, capMax, fill_len, elt_fill] | fail)
  · have e1 : rkOut l cells = [] := if_neg h
    rw [e1]
    by_cases h1 : 4096 < l.length
    · rw [show rkE l cells = 3 from if_pos h1]
      refine Fun.of_awpI Try.func25 rfl cal25 Try.ntmps25 (by simp) fun hwf => ?_
      simp only [D.wfs, D.wf, ints_length, ints_wfs, rows_length, rows_wfs, capMax, and_true, true_and] at hwf
      repeat' (first | simp only [go_sem, ints_nil, Ret_eq Try.results25] | simp (disch := omega) only [arith, IntKind.bits, capMax, fill_len, elt_fill] | fail)
    · by_cases h2 : ¬ (1 ≤ cells ∧ cells ≤ 16) ∨ l.any oddB = true
      · rw [show rkE l cells = 1 from (if_neg h1).trans (if_pos h2)]
        by_cases q1 : 1 ≤ cells
        · by_cases q2 : cells ≤ 16
          · have q3 : l.any oddB = true := h2.resolve_left (fun z => z ⟨q1, q2⟩)
            rw [q3] at hcf
            refine Fun.of_awpI Try.func25 rfl cal25 Try.ntmps25 (by simp) fun hwf => ?_
            simp only [D.wfs, D.wf, ints_length, ints_wfs, rows_length, rows_wfs, capMax, and_true, true_and] at hwf
            repeat' (first | simp only [go_sem, ints_nil, Ret_eq Try.results25] | simp (disch := omega) only [arith, IntKind.bits, capMax, fill_len, elt_fill] | (refine opCallI_rd (by simp only [go_sem, ints_nil, Ret_eq Try.results25]; first | done | rfl) (hcf) (by rintro _ rfl; rfl) ?_; rintro _ rfl) | fail)
          · skip
            refine Fun.of_awpI Try.func25 rfl cal25 Try.ntmps25 (by simp) fun hwf => ?_
            simp only [D.wfs, D.wf, ints_length, ints_wfs, rows_length, rows_wfs, capMax, and_true, true_and] at hwf
            repeat' (first | simp only [go_sem, ints_nil, Ret_eq Try.results25] | simp (disch := omega) only [arith, IntKind.bits, capMax, fill_len, elt_fill] | fail)
        · skip
          refine Fun.of_awpI Try.func25 rfl cal25 Try.ntmps25 (by simp) fun hwf => ?_
          simp only [D.wfs, D.wf, ints_length, ints_wfs, rows_length, rows_wfs, capMax, and_true, true_and] at hwf
          repeat' (first | simp only [go_sem, ints_nil, Ret_eq Try.results25] | simp (disch := omega) only [arith, IntKind.bits, capMax, fill_len, elt_fill] | fail)
      · have h3 : (1 ≤ cells ∧ cells ≤ 16) ∧ l.any oddB = false := ⟨Classical.byContradiction fun q => h2 (.inl q), by
          cases e : l.any oddB with
          | false => rfl
          | true => exact absurd (.inr e) h2⟩
        obtain ⟨⟨h4, h5⟩, h6⟩ := h3
        rw [h6] at hcf
        have h7 : l.length = 0 := Classical.byContradiction fun q => h (rkE_zero.2 ⟨by omega, ⟨h4, h5⟩, h6, by omega⟩)
        rw [show rkE l cells = 5 from ((if_neg h1).trans (if_neg h2)).trans (if_pos h7)]
        refine Fun.of_awpI Try.func25 rfl cal25 Try.ntmps25 (by simp) fun hwf => ?_
        simp only [D.wfs, D.wf, ints_length, ints_wfs, rows_length, rows_wfs, capMax, and_true, true_and] at hwf
        repeat' (first | simp only [go_sem, ints_nil, h7, beq_self_eq_true, Ret_eq Try.results25] | simp (disch := omega) only [arith, IntKind.bits, capMax, fill_len, elt_fill] | (refine opCallI_rd (by simp only [go_sem, ints_nil, h7, beq_self_eq_true, Ret_eq Try.results25]; first | done | rfl) (hcf) (by rintro _ rfl; rfl) ?_; rintro _ rfl) | fail)
end Go.Proofs.Ytpkampecmlpfmaa.T

end
section
set_option linter.unusedSimpArgs false
set_option linter.unusedVariables false
/- A book's text, written and read, plainly. -/
namespace Go.Proofs.Ytpkampecmlpfmaa.T
open Go Go.VL Go.Proofs
end Go.Proofs.Ytpkampecmlpfmaa.T

end
section
set_option linter.unusedSimpArgs false
set_option linter.unusedVariables false
/- Lists of cuts that are filled row by row. -/
namespace Go.Proofs.Ytpkampecmlpfmaa.T
open Go Go.VL Go.Proofs
set_option maxRecDepth 100000
set_option maxHeartbeats 4000000
def nils (m : Nat) : List D := List.replicate m (.v (.slice none 0 0))
def tab (A : List (List Int)) (m : Nat) : List D := rows .i16 A ++ nils m
def tabR (A : List (List Int)) (id len m : Nat) : List D := rows .i16 A ++ .ref id len :: nils m
def tabA (A : List (List Int)) (m : Nat) : List D := rows .i16 A ++ .any :: nils m
theorem tab_zero {m : Nat} : List.replicate m (D.v (.slice none 0 0)) = tab [] m := by simp [tab, nils, rows]
theorem tab_length {A : List (List Int)} {m : Nat} : (tab A m).length = A.length + m := by simp [tab, nils, rows]
theorem tabR_length {A : List (List Int)} {id len m : Nat} : (tabR A id len m).length = A.length + (m + 1) := by simp [tabR, nils, rows]
theorem tabA_length {A : List (List Int)} {m : Nat} : (tabA A m).length = A.length + (m + 1) := by simp [tabA, nils, rows]
theorem tab_get {A : List (List Int)} {m : Nat} : (tab A (m + 1))[A.length]? = some (.v (.slice none 0 0)) := by simp [tab, nils, rows, List.replicate_succ]
theorem tab_end {A : List (List Int)} : tab A 0 = rows .i16 A := by simp [tab, nils]
theorem nils_kills {m id : Nat} : D.kills id (nils m) = nils m := by simp [nils, D.kills_eq_map, D.kill]
theorem tab_kills {A : List (List Int)} {m id : Nat} : D.kills id (tab A m) = tab A m := by
  unfold tab
  rw [D.kills_eq_map, List.map_append, ← D.kills_eq_map, ← D.kills_eq_map, nils_kills, rows_kills]
theorem tabR_kills {A : List (List Int)} {m id len : Nat} : D.kills id (tabR A id len m) = tabA A m := by
  unfold tabR tabA
  rw [D.kills_eq_map, List.map_append, ← D.kills_eq_map, rows_kills, List.map_cons, ← D.kills_eq_map, nils_kills]
  simp [D.kill]
theorem nils_idss {m : Nat} : D.idss (nils m) = [] := by
  unfold nils
  induction m with
  | zero => rfl
  | succ m ih => rw [List.replicate_succ]; show _ ++ _ = _; rw [ih]; rfl
theorem idss_app : ∀ (a b : List D), D.idss (a ++ b) = D.idss a ++ D.idss b
  | [], b => rfl
  | x :: a, b => by rw [List.cons_append]; show _ ++ D.idss (a ++ b) = (_ ++ D.idss a) ++ _; rw [idss_app a b, List.append_assoc]
theorem tab_idss {A : List (List Int)} {m : Nat} : D.idss (tab A m) = [] := by unfold tab; rw [idss_app, rows_idss, nils_idss]; rfl
theorem tabR_idss {A : List (List Int)} {id len m : Nat} : D.idss (tabR A id len m) = [id] := by
  unfold tabR; rw [idss_app, rows_idss]
  show [] ++ ([id] ++ D.idss (nils m)) = _
  rw [nils_idss]; rfl
theorem tab_noRefs {A : List (List Int)} {m : Nat} : D.noRefs (tab A m) = true := by
  unfold tab nils
  rw [D.noRefs_eq, List.all_append, ← D.noRefs_eq, rows_noRefs]
  simp [D.noRef]
theorem tab_width1 {A : List (List Int)} {m : Nat} : (tab A m).all (fun d => d.width == 1) = true := by
  unfold tab nils
  rw [List.all_append, rows_width1]
  simp [D.width]
theorem tab_nrms {A : List (List Int)} {m : Nat} : D.nrms (tab A m) = rows .i16 (A ++ List.replicate m []) := by
  unfold tab nils
  rw [D.nrms_eq, List.map_append, ← D.nrms_eq, rows_nrms]
  simp [D.nrm, nilV, rows, ints]
attribute [go_sem] tab_idss tabR_idss tab_noRefs tab_width1 tab_nrms tab_zero tab_length tabR_length tabA_length tab_kills tabR_kills
end Go.Proofs.Ytpkampecmlpfmaa.T

end
section
set_option linter.unusedSimpArgs false
set_option linter.unusedVariables false
/- A book of a sample, walked. -/
namespace Go.Proofs.Ytpkampecmlpfmaa.T
open Go Go.VL Go.Proofs
set_option maxRecDepth 100000
set_option maxHeartbeats 4000000
theorem tab_setL {A : List (List Int)} {l : List Int} {m : Nat} : (tab A (m + 1)).set A.length (.lst (ints .i16 l)) = tab (A ++ [l]) m := by
  have : (rows .i16 A).length = A.length := by simp [rows]
  unfold tab
  rw [← this, List.set_append_right _ _ (Nat.le_refl _), Nat.sub_self]
  simp [nils, rows, List.replicate_succ]
theorem okTo_tab {base m : Nat} : ∀ {A : List (List Int)}, okTos base (tab A m) = true
  | [] => by
    induction m with
    | zero => rfl
    | succ m ih => exact ih
  | _ :: A => okTo_tab (A := A)

theorem train1_fun (v : List Int) (w : Int) (cuts : List (List Int)) : Fun Try.prog 121 [.lst (ints .i16 v), .ptr (bookD w cuts)] fun r => r = .v (.bool (oddN cuts.length v)) := by
  have hv := vecCheck_fun v
  refine Fun.of_awpI Try.func121 rfl cal121 Try.ntmps121 (by simp) fun hwf => ?_
  simp only [D.wfs, D.wf, ints_length, ints_wfs, rows_length, rows_wfs, capMax, and_true, true_and] at hwf
  unfold oddN
  by_cases h1 : vecErr v = 0
  · by_cases h2 : v.length = cuts.length
    · have h2b : ((v.length : Int) != (cuts.length : Int)) = false := by rw [h2]; exact bne_self_eq_false _
      repeat' (first | simp only [go_sem, h1, h2b, Ret_eq Try.results121] | (refine opCallI_rd (by simp only [go_sem, h1, h2b, Ret_eq Try.results121]; first | done | rfl) (hv) (by rintro _ rfl; rfl) ?_; rintro _ rfl) | fail)
      all_goals simp [h1, h2]
    · have h2b : ((v.length : Int) != (cuts.length : Int)) = true := by rw [bne, beq_eq_false_iff_ne.2 (by omega)]; rfl
      repeat' (first | simp only [go_sem, h1, h2b, Ret_eq Try.results121] | (refine opCallI_rd (by simp only [go_sem, h1, h2b, Ret_eq Try.results121]; first | done | rfl) (hv) (by rintro _ rfl; rfl) ?_; rintro _ rfl) | fail)
      all_goals simp [h1, h2]
  · have h1b : (vecErr v != 0) = true := by rw [bne, beq_eq_false_iff_ne.2 h1]; rfl
    repeat' (first | simp only [go_sem, h1b, Ret_eq Try.results121] | (refine opCallI_rd (by simp only [go_sem, h1b, Ret_eq Try.results121]; first | done | rfl) (hv) (by rintro _ rfl; rfl) ?_; rintro _ rfl) | fail)
    all_goals simp [h1]

theorem cloneRow_fun (v : List Int) (hb : v.length ≤ 500) : Fun Try.prog 124 [.lst (ints .i16 v)] fun r => r = .lst (ints .i16 v) := by
  by_cases h : 1 ≤ v.length
  · skip
    refine Fun.of_awpI Try.func124 rfl cal124 Try.ntmps124 (by simp) fun hwf => ?_
    simp only [D.wfs, D.wf, ints_length, ints_wfs, rows_length, rows_wfs, capMax, and_true, true_and] at hwf
    simp only [go_sem, Ret_eq Try.results124]
    refine opBinI_isNil (by simp only [go_sem]) fun c hc => ?_
    rw [ints_isNil] at hc
    simp only [go_sem, Ret_eq Try.results124]
    refine condI_split (fun h => ?_) (fun h => ?_)
    · have hb := hc h
      subst hb
      simp at h
    · repeat' (first | simp only [go_sem, h, Ret_eq Try.results124] | simp (disch := omega) only [arith, IntKind.bits, capMax, fill_len, elt_fill] | fail)
  · obtain rfl : v = [] := List.length_eq_zero_iff.1 (by omega)
    refine Fun.of_awpI Try.func124 rfl cal124 Try.ntmps124 (by simp) fun hwf => ?_
    simp only [D.wfs, D.wf, ints_length, ints_wfs, rows_length, rows_wfs, capMax, and_true, true_and] at hwf
    simp only [go_sem, Ret_eq Try.results124]
    refine opBinI_isNil (by simp only [go_sem]) fun c hc => ?_
    simp only [go_sem, Ret_eq Try.results124]
    refine condI_split (fun h => ?_) (fun h => ?_)
    · repeat' (first | simp only [go_sem, h, Ret_eq Try.results124] | fail)
    · repeat' (first | simp only [go_sem, h, frzStep, Ret_eq Try.results124] | fail)

theorem bookTrain_fun (hS : Sorted16) (w : Int) (cuts : List (List Int)) (way : Int) (sample : List (List Int)) (hI : I16r sample) : Fun Try.prog 67 [bookD w cuts, .v (.int .i64 way), .lst (rows .i16 sample)] fun r => r = .tup [bookD (trW w cuts way sample) (trC w cuts way sample), .v (.int .i64 (trE w cuts way sample))] := by
  have hce := quantCells_fun w cuts
  have hno := not_fun way
  have hcf := containsFuncV_fun sample (oddN cuts.length) 121 [.ptr (bookD w cuts)] rfl rfl rfl fun v _ => train1_fun v w cuts
  by_cases hb : bookErr w cuts = 0
  · by_cases hw : wayErr way = 0
    · cases ha : sample.any (oddN cuts.length) with
      | true =>
        have hE : trE w cuts way sample = 1 := if_pos (.inr ha)
        rw [hE, show trW w cuts way sample = 0 from if_neg (by rw [hE]; decide), show trC w cuts way sample = [] from if_neg (by rw [hE]; decide)]
        rw [ha] at hcf
        refine Fun.of_awpI Try.func67 rfl cal67 Try.ntmps67 (by simp) fun hwf => ?_
        simp only [D.wfs, D.wf, ints_length, ints_wfs, rows_length, rows_wfs, capMax, and_true, true_and] at hwf
        repeat' (first | simp only [go_sem, hb, hw, rows_nil, Ret_eq Try.results67] | simp (disch := omega) only [arith, IntKind.bits, capMax, fill_len, elt_fill] | (refine opCallI_rd (by simp only [go_sem, hb, hw, rows_nil, Ret_eq Try.results67]; first | done | rfl) (hce) (by rintro _ rfl; rfl) ?_; rintro _ rfl) | (refine opCallI_rd (by simp only [go_sem, hb, hw, rows_nil, Ret_eq Try.results67]; first | done | rfl) (hno) (by rintro _ rfl; rfl) ?_; rintro _ rfl) | (refine opCallI_rd (by simp only [go_sem, hb, hw, rows_nil, Ret_eq Try.results67]; first | done | rfl) (hcf) (by rintro _ rfl; rfl) ?_; rintro _ rfl) | fail)
        all_goals rfl
      | false =>
        by_cases hlong : 4096 < sample.length
        · have hE : trE w cuts way sample = 3 := by
            unfold trE
            rw [if_neg, if_pos hlong]
            rintro (q | q)
            · exact q ⟨hb, hw⟩
            · rw [ha] at q; cases q
          rw [hE, show trW w cuts way sample = 0 from if_neg (by rw [hE]; decide), show trC w cuts way sample = [] from if_neg (by rw [hE]; decide)]
          rw [ha] at hcf
          refine Fun.of_awpI Try.func67 rfl cal67 Try.ntmps67 (by simp) fun hwf => ?_
          simp only [D.wfs, D.wf, ints_length, ints_wfs, rows_length, rows_wfs, capMax, and_true, true_and] at hwf
          repeat' (first | simp only [go_sem, hb, hw, rows_nil, Ret_eq Try.results67] | simp (disch := omega) only [arith, IntKind.bits, capMax, fill_len, elt_fill] | (refine opCallI_rd (by simp only [go_sem, hb, hw, rows_nil, Ret_eq Try.results67]; first | done | rfl) (hce) (by rintro _ rfl; rfl) ?_; rintro _ rfl) | (refine opCallI_rd (by simp only [go_sem, hb, hw, rows_nil, Ret_eq Try.results67]; first | done | rfl) (hno) (by rintro _ rfl; rfl) ?_; rintro _ rfl) | (refine opCallI_rd (by simp only [go_sem, hb, hw, rows_nil, Ret_eq Try.results67]; first | done | rfl) (hcf) (by rintro _ rfl; rfl) ?_; rintro _ rfl) | fail)
          all_goals rfl
        · have hsok := sampleOk_iff.1 ha
          have hE : trE w cuts way sample = 0 := trE_zero.2 ⟨hb, hw, hsok, by omega⟩
          rw [hE, show trW w cuts way sample = (if sample = [] then w else way) from if_pos hE, show trC w cuts way sample = (if sample = [] then cuts else trCuts cuts.length (manyOf cuts + 1) way sample) from if_pos hE]
          rw [ha] at hcf
          clear ha
          have hcl := (bookErr_zero.1 hb).2.1
          have hrow := book_rows hb
          have hmany := book_many hb
          by_cases h0 : sample = []
          · subst h0
            rw [if_pos rfl, if_pos rfl]
            refine Fun.of_awpI Try.func67 rfl cal67 Try.ntmps67 (by simp) fun hwf => ?_
            simp only [D.wfs, D.wf, ints_length, ints_wfs, rows_length, rows_wfs, capMax, and_true, true_and] at hwf
            repeat' (first | simp only [go_sem, hb, hw, rows_nil, Ret_eq Try.results67] | simp (disch := omega) only [arith, IntKind.bits, capMax, fill_len, elt_fill] | (refine opCallI_rd (by simp only [go_sem, hb, hw, rows_nil, Ret_eq Try.results67]; first | done | rfl) (hce) (by rintro _ rfl; rfl) ?_; rintro _ rfl) | (refine opCallI_rd (by simp only [go_sem, hb, hw, rows_nil, Ret_eq Try.results67]; first | done | rfl) (hno) (by rintro _ rfl; rfl) ?_; rintro _ rfl) | (refine opCallI_rd (by simp only [go_sem, hb, hw, rows_nil, Ret_eq Try.results67]; first | done | rfl) (hcf) (by rintro _ rfl; rfl) ?_; rintro _ rfl) | fail)
            refine awpI_for cuts.length (fun k => True) (fun k => [(64, .v (.int .i64 k))]) (fun k => match k with | 0 => [(13, ⟨73, 2, [.agg [.v (.int .i64 w), .v (.slice none 0 0)]]⟩)] | k + 1 => [(13, ⟨73, 2, [.agg [.v (.int .i64 w), .ref 73 (k + 1)]]⟩), (73, ⟨22, 1, rows .i16 (cuts.take (k + 1))⟩)]) [6, 13, 62, 63] [6] _ (Weak.refl _) trivial ?_ ?_ ?_
            · simp only [go_sem, Ret_eq Try.results67]
            · simp only [go_sem, Ret_eq Try.results67]
            · intro k s hk _ hs
              by_cases hka : k < cuts.length
              · have e := take_snoc (a := cuts) (d := []) hka
                have hcl2 := (hrow _ (getD_mem (d := []) hka)).1
                have hcn := cloneRow_fun (cuts.getD k []) (by omega)
                cases k with
                | zero =>
                  simp only [go_sem, Ret_eq Try.results67] at hs
                  repeat' (first | simp only [go_sem, hs, Ret_eq Try.results67] | simp (disch := omega) only [arith, IntKind.bits, capMax, fill_len, elt_fill] | (refine awpI_draw2 (id := 15) (.one false 2 (.two 0 3 (.two 1 3 (.only 3 (.only 4 (.only 5 (.one false 6 (.only 7 .done))))) (.fam 1 [4] [72] [71] (.only 4 (.only 5 (.one false 6 (.only 7 .done)))))) (.fam 0 [4] [72] [71] (.fam 1 [4] [72] [71] (.only 4 (.only 5 (.one false 6 (.only 7 .done)))))))) mixed (by decide +kernel) (by decide +kernel) ?_) | (refine sch2I_two ?_ ?_) | (refine Again.up (by omega) ?_ ?_) | (refine opCallI_gv (by simp only [go_sem, hs, Ret_eq Try.results67]; first | done | rfl) (hcn) ?_; rintro _ rfl) | fail)
                  all_goals exact ⟨rfl, by rw [show List.take 1 cuts = _ from e]; rfl⟩
                | succ k =>
                  simp only [go_sem, Ret_eq Try.results67] at hs
                  have hlt : (cuts.take (k + 1)).length = k + 1 := by rw [List.length_take]; omega
                  repeat' (first | simp only [go_sem, hs, e, hlt, List.length_append, Ret_eq Try.results67] | simp (disch := omega) only [arith, IntKind.bits, capMax, fill_len, elt_fill] | (refine awpI_draw2 (id := 15) (.one false 2 (.two 0 3 (.two 1 3 (.only 3 (.only 4 (.only 5 (.one false 6 (.only 7 .done))))) (.fam 1 [4] [72] [71] (.only 4 (.only 5 (.one false 6 (.only 7 .done)))))) (.fam 0 [4] [72] [71] (.fam 1 [4] [72] [71] (.only 4 (.only 5 (.one false 6 (.only 7 .done)))))))) mixed (by decide +kernel) (by decide +kernel) ?_) | (refine sch2I_two ?_ ?_) | (refine Again.up (by omega) ?_ ?_) | (refine opCallI_gv (by simp only [go_sem, hs, e, hlt, List.length_append, Ret_eq Try.results67]; first | done | rfl) (hcn) ?_; rintro _ rfl) | fail)
              · obtain rfl : k = cuts.length := by omega
                have hc1 := (bookErr_zero.1 hb).1
                cases hcu : cuts.length with
                | zero => omega
                | succ k =>
                  rw [hcu] at hs
                  simp only [go_sem, Ret_eq Try.results67] at hs
                  have hta : cuts.take (k + 1) = cuts := List.take_of_length_le (by omega)
                  repeat' (first | simp only [go_sem, hs, hta, hcu, Ret_eq Try.results67] | simp (disch := omega) only [arith, IntKind.bits, capMax, fill_len, elt_fill] | fail)
                  all_goals skip
          · rw [if_neg h0, if_neg h0]
            have hlen : 1 ≤ sample.length := by
              cases sample with
              | nil => exact absurd rfl h0
              | cons a l => simp
            refine Fun.of_awpI Try.func67 rfl cal67 Try.ntmps67 (by simp) fun hwf => ?_
            simp only [D.wfs, D.wf, ints_length, ints_wfs, rows_length, rows_wfs, capMax, and_true, true_and] at hwf
            obtain ⟨w1, w2⟩ := wayErr_zero hw
            have hTl : (turnedL way sample).length = sample.length := by simp [turnedL]
            have hc1 := (bookErr_zero.1 hb).1
            repeat' (first | simp only [go_sem, hb, hw, rows_nil, Ret_eq Try.results67] | simp (disch := omega) only [arith, IntKind.bits, capMax, fill_len, elt_fill] | (refine opCallI_rd (by simp only [go_sem, hb, hw, rows_nil, Ret_eq Try.results67]; first | done | rfl) (hce) (by rintro _ rfl; rfl) ?_; rintro _ rfl) | (refine opCallI_rd (by simp only [go_sem, hb, hw, rows_nil, Ret_eq Try.results67]; first | done | rfl) (hno) (by rintro _ rfl; rfl) ?_; rintro _ rfl) | (refine opCallI_rd (by simp only [go_sem, hb, hw, rows_nil, Ret_eq Try.results67]; first | done | rfl) (hcf) (by rintro _ rfl; rfl) ?_; rintro _ rfl) | fail)
            refine awpI_for sample.length (fun k => True) (fun k => [(83, .v (.int .i64 k))]) (fun k => (80, ⟨22, 1, refsL cuts.length fun _ => k⟩) :: colsW 23 cuts.length (turnedL way sample) fun _ => k) [1, 6, 8, 16, 81, 82] [6] _
              (Weak.adopts1 (ob := 80) (base := 1000) (n := cuts.length) (S := 1) (So := 1) (e := 23) (eo := 22) [(1, .v (.int .i64 way)), (6, .adr 6 0 0), (8, .v (.int .i64 ((manyOf cuts + 1 : Nat) : Int))), (16, .ref 80 cuts.length), (81, .lst (rows .i16 sample)), (82, .v (.int .i64 sample.length)), (83, .v (.int .i64 0))] [(6, ⟨73, 2, [.agg [.v (.int .i64 0), .v (.slice none 0 0)]]⟩)] (by decide) (by decide) (by simp only [go_sem, Ret_eq Try.results67]) (by rfl) (by simp only [go_sem, Ret_eq Try.results67]) (by rfl) (by simp only [go_sem, Ret_eq Try.results67])) trivial ?_ ?_ ?_
            · simp only [go_sem, Ret_eq Try.results67]
            · simp only [go_sem, Heaps_colsW, Ret_eq Try.results67]
              refine ⟨rfl, fun i hi => ?_⟩
              rw [if_neg (by omega), if_pos (by omega)]
              rfl
            · intro k s hk _ hs
              simp only [go_sem, Heaps_colsW, false_and, Ret_eq Try.results67] at hs
              have hco := hs.2.2.1.2
              by_cases hka : k < sample.length
              · have hvk := hsok _ (getD_mem (d := []) hka)
                have hgk : (turnedL way sample).getD k [] = turnL (sample.getD k []) way.toNat := by
                  simp [turnedL, List.getD, hka]
                have hti := turnErr_iff.2 ⟨hvk.1, w1, w2⟩
                have htu := turn_fun (sample.getD k []) way (hI.getD k)
                rw [turnOut_ok ⟨hvk.1, w1, w2⟩, hti, ← hgk] at htu
                have htl : ((turnedL way sample).getD k []).length = cuts.length := by rw [hgk, turnL_length]; exact hvk.2
                have hsn := fun i => colOf_snoc (T := turnedL way sample) (i := i) (k := k) (by omega)
                have hcln := fun i => colOf_length (T := (turnedL way sample).take k) (i := i)
                have htk : ((turnedL way sample).take k).length = k := by rw [List.length_take]; omega
                clear hgk hti
                generalize (turnedL way sample).getD k [] = tv at *
                repeat' (first | simp only [go_sem, hs, Ret_eq Try.results67] | simp (disch := omega) only [arith, IntKind.bits, capMax, fill_len, elt_fill] | (refine opCallI_gv (by simp only [go_sem, hs, Ret_eq Try.results67]; first | done | rfl) (htu) ?_; rintro _ rfl) | fail)
                refine awpI_for cuts.length (fun j => True) (fun j => [(99, .v (.int .i64 j))]) (fun j => (80, ⟨22, 1, refsL cuts.length (cntC k j)⟩) :: colsW 23 cuts.length (turnedL way sample) (cntC k j)) [1, 6, 8, 16, 81, 82, 83, 97, 98] [6] _ (Weak.refl _) trivial ?_ ?_ ?_
                · simp only [go_sem, hs, Ret_eq Try.results67]
                · rw [cntC_zero]
                  simp only [go_sem, hs, Heaps_colsW, Ret_eq Try.results67]
                  exact hco
                · intro j s2 hj _ hs2
                  simp only [go_sem, hs, Heaps_colsW, Ret_eq Try.results67] at hs2
                  by_cases hjn : j < cuts.length
                  · have g1 := refsL_get (c := cntC k j) hjn
                    have g2 := refsL_kills (c := cntC k j) hjn
                    have g3 := refsL_step (k := k) hjn
                    have g4 : cntC k j j = k := if_neg (Nat.lt_irrefl _)
                    rw [g4] at g1
                    have gl := refsL_length (n := cuts.length) (c := cntC k j)
                    have g5 : s2.H (1000 + j) = some ⟨23, 1, ints .i16 (colOf ((turnedL way sample).take k) j)⟩ := by
                      have := hs2.2.2.1.2 j hjn
                      rw [g4] at this
                      exact this
                    have g6 := refsL_any (c := cntC k j) hjn
                    repeat' (first | simp only [go_sem, hs, hs2, base_ne, base_ne', anyT_width, setPartT_xr, false_and, g6, g1, g2, g3, g4, g5, gl, hjn, htl, hcln, htk, List.length_set, List.length_append, List.length_cons, List.length_nil, Ret_eq Try.results67] | simp (disch := omega) only [arith, IntKind.bits, capMax, fill_len, elt_fill] | (refine Again.up (by omega) ?_ ?_) | fail)
                    rw [Heaps_colsW]
                    intro i hi
                    by_cases q : i = j
                    · subst q
                      have g7 : cntC k (i + 1) i = k + 1 := if_pos (by omega)
                      simp only [go_sem, base_ne, base_ne', g7, hsn, Ret_eq Try.results67]
                    · have g7 : cntC k (j + 1) i = cntC k j i := by
                        unfold cntC
                        by_cases z : i < j
                        · rw [if_pos z, if_pos (by omega)]
                        · rw [if_neg z, if_neg (by omega)]
                      have g8 : (1000 + i = 1000 + j) = False := eq_false (by omega)
                      have g9 := hs2.2.2.1.2 i hi
                      simp only [go_sem, base_ne, base_ne', g7, g8, g9, Ret_eq Try.results67]
                  · obtain rfl : j = cuts.length := by omega
                    repeat' (first | simp only [go_sem, hs, hs2, false_and, Ret_eq Try.results67] | simp (disch := omega) only [arith, IntKind.bits, capMax, fill_len, elt_fill] | (refine Again.up (by omega) ?_ ?_) | fail)
                    refine ⟨by rw [refsL_full], ?_⟩
                    rw [Heaps_colsW]
                    intro i hi
                    have := hs2.2.2.1.2 i hi
                    rw [cntC, if_pos hi] at this
                    exact this
              · obtain rfl : k = sample.length := by omega
                have gl := refsL_length (n := cuts.length) (c := fun _ => sample.length)
                have hTa : (turnedL way sample).take sample.length = turnedL way sample := List.take_of_length_le (by omega)
                rw [hTa] at hco
                repeat' (first | simp only [go_sem, hs, gl, Ret_eq Try.results67] | simp (disch := omega) only [arith, IntKind.bits, capMax, fill_len, elt_fill] | fail)
                refine awpI_for cuts.length (fun j => True) (fun j => [(123, .v (.int .i64 j))]) (fun j => [(119, ⟨22, 1, tab ((trCuts cuts.length (manyOf cuts + 1) way sample).take j) (cuts.length - j)⟩)]) [6, 8, 23, 121, 122] [6, 23, 80] _
                  (Weak.freezes1 (ob := 80) (base := 1000) (n := cuts.length) (S := 1) (So := 1) (e := 23) (eo := 22) (fun i => ints .i16 (colOf (turnedL way sample) i)) (fun _ => sample.length) [(6, .adr 6 0 0), (8, .v (.int .i64 ((manyOf cuts + 1 : Nat) : Int))), (23, .adr 23 0 0), (121, .ref 80 cuts.length), (122, .v (.int .i64 cuts.length)), (123, .v (.int .i64 0))]
                    [(6, ⟨73, 2, [.agg [.v (.int .i64 0), .v (.slice none 0 0)]]⟩), (23, ⟨73, 2, [.agg [.v (.int .i64 way), .ref 119 cuts.length]]⟩), (119, ⟨22, 1, tab [] cuts.length⟩)] (by decide) (by simp only [go_sem, hs, gl, Ret_eq Try.results67]) (by rfl) (by simp only [go_sem, hs, tab_zero, Int.toNat_natCast, Ret_eq Try.results67]) (by simp only [List.all_cons, List.all_nil, okTo_tab]; rfl) (by simp only [go_sem, hs, refsL_kept, Ret_eq Try.results67]; rfl) (fun i hi => by simp only [go_sem, hs, base_ne, hTa, hi, Ret_eq Try.results67]) (fun i hi => ⟨ints_noRefs, ints_nrms, ints_width1, by rw [ints_length, colOf_length, hTl]⟩)) trivial ?_ ?_ ?_
                · simp only [go_sem, Ret_eq Try.results67]
                · simp only [go_sem, List.take_zero, Nat.sub_zero, Ret_eq Try.results67]
                · intro j s2 hj _ hs2
                  simp only [go_sem, Ret_eq Try.results67] at hs2
                  by_cases hjn : j < cuts.length
                  · have hrk := rkCuts_fun hS (colOf (turnedL way sample) j) ((manyOf cuts + 1 : Nat) : Int) (by rw [colOf_length, hTl]; omega)
                    have hrz : rkE (colOf (turnedL way sample) j) ((manyOf cuts + 1 : Nat) : Int) = 0 := rkE_zero.2 ⟨by rw [colOf_length, hTl]; omega, by omega, col_ok hsok hI hjn, by rw [colOf_length, hTl]; omega⟩
                    have hro : rkOut (colOf (turnedL way sample) j) ((manyOf cuts + 1 : Nat) : Int) = (trCuts cuts.length (manyOf cuts + 1) way sample).getD j [] := by
                      unfold rkOut; rw [if_pos hrz, Int.toNat_natCast, trCuts_at hjn]
                    rw [hrz, hro] at hrk
                    have hcg := colsT_get (T := turnedL way sample) hjn
                    have hCl := trCuts_length (n := cuts.length) (cells := manyOf cuts + 1) (way := way) (sample := sample)
                    have e := take_snoc (a := trCuts cuts.length (manyOf cuts + 1) way sample) (d := ([] : List Int)) (k := j) (by omega)
                    obtain ⟨q, hq⟩ : ∃ q, cuts.length - j = q + 1 := ⟨cuts.length - j - 1, by omega⟩
                    have hq2 : cuts.length - (j + 1) = q := by omega
                    have htj : ((trCuts cuts.length (manyOf cuts + 1) way sample).take j).length = j := by rw [List.length_take]; omega
                    have ht1 := tab_get (A := (trCuts cuts.length (manyOf cuts + 1) way sample).take j) (m := q)
                    have ht2 := tab_setL (A := (trCuts cuts.length (manyOf cuts + 1) way sample).take j) (m := q) (l := (trCuts cuts.length (manyOf cuts + 1) way sample).getD j [])
                    have ht3 := tab_length (A := (trCuts cuts.length (manyOf cuts + 1) way sample).take j) (m := q + 1)
                    rw [htj] at ht1 ht2 ht3
                    rw [← e] at ht2
                    rw [hq] at hs2
                    repeat' (first | simp only [go_sem, hs, hs2, hcg, ht1, ht2, ht3, hq2, List.length_map, List.length_range, Ret_eq Try.results67] | simp (disch := omega) only [arith, IntKind.bits, capMax, fill_len, elt_fill] | (refine awpI_draw2 (id := 35) (.one false 3 (.one false 4 (.cal 0 [5] (.cal 1 [5] (.cal 2 [5] (.only 5 (.one false 6 (.one false 7 (.one false 9 (.cal 8 [10] (.only 10 (.one false 11 .done)))))))))))) mixed (by decide +kernel) (by decide +kernel) ?_) | (refine Again.up (by omega) ?_ ?_) | (refine opCallI_gv (by simp only [go_sem, hs, hs2, hcg, ht1, ht2, ht3, hq2, List.length_map, List.length_range, Ret_eq Try.results67]; first | done | rfl) (hrk) ?_; rintro _ rfl) | fail)
                    all_goals skip
                  · obtain rfl : j = cuts.length := by omega
                    have hCl := trCuts_length (n := cuts.length) (cells := manyOf cuts + 1) (way := way) (sample := sample)
                    have htk : (trCuts cuts.length (manyOf cuts + 1) way sample).take cuts.length = trCuts cuts.length (manyOf cuts + 1) way sample := List.take_of_length_le (by omega)
                    rw [Nat.sub_self, htk, tab_end] at hs2
                    repeat' (first | simp only [go_sem, hs, hs2, hCl, htk, Ret_eq Try.results67] | simp (disch := omega) only [arith, IntKind.bits, capMax, fill_len, elt_fill] | fail)
    · have hE : trE w cuts way sample = 1 := if_pos (.inl fun q => hw q.2)
      rw [hE, show trW w cuts way sample = 0 from if_neg (by rw [hE]; decide), show trC w cuts way sample = [] from if_neg (by rw [hE]; decide)]
      have hwb : (wayErr way != 0) = true := by rw [bne, beq_eq_false_iff_ne.2 hw]; rfl
      refine Fun.of_awpI Try.func67 rfl cal67 Try.ntmps67 (by simp) fun hwf => ?_
      simp only [D.wfs, D.wf, ints_length, ints_wfs, rows_length, rows_wfs, capMax, and_true, true_and] at hwf
      repeat' (first | simp only [go_sem, hb, hwb, rows_nil, Ret_eq Try.results67] | simp (disch := omega) only [arith, IntKind.bits, capMax, fill_len, elt_fill] | (refine opCallI_rd (by simp only [go_sem, hb, hwb, rows_nil, Ret_eq Try.results67]; first | done | rfl) (hce) (by rintro _ rfl; rfl) ?_; rintro _ rfl) | (refine opCallI_rd (by simp only [go_sem, hb, hwb, rows_nil, Ret_eq Try.results67]; first | done | rfl) (hno) (by rintro _ rfl; rfl) ?_; rintro _ rfl) | fail)
      all_goals rfl
  · have hE : trE w cuts way sample = 1 := if_pos (.inl fun q => hb q.1)
    rw [hE, show trW w cuts way sample = 0 from if_neg (by rw [hE]; decide), show trC w cuts way sample = [] from if_neg (by rw [hE]; decide)]
    have hbb : (bookErr w cuts != 0) = true := by rw [bne, beq_eq_false_iff_ne.2 hb]; rfl
    refine Fun.of_awpI Try.func67 rfl cal67 Try.ntmps67 (by simp) fun hwf => ?_
    simp only [D.wfs, D.wf, ints_length, ints_wfs, rows_length, rows_wfs, capMax, and_true, true_and] at hwf
    repeat' (first | simp only [go_sem, hbb, rows_nil, Ret_eq Try.results67] | simp (disch := omega) only [arith, IntKind.bits, capMax, fill_len, elt_fill] | (refine opCallI_rd (by simp only [go_sem, hbb, rows_nil, Ret_eq Try.results67]; first | done | rfl) (hce) (by rintro _ rfl; rfl) ?_; rintro _ rfl) | (refine opCallI_rd (by simp only [go_sem, hbb, rows_nil, Ret_eq Try.results67]; first | done | rfl) (hno) (by rintro _ rfl; rfl) ?_; rintro _ rfl) | fail)
    all_goals rfl
end Go.Proofs.Ytpkampecmlpfmaa.T

end
section
set_option linter.unusedSimpArgs false
set_option linter.unusedVariables false
/- A book of what was gathered, walked. -/
namespace Go.Proofs.Ytpkampecmlpfmaa.T
open Go Go.VL Go.Proofs
set_option maxRecDepth 100000
set_option maxHeartbeats 4000000
def endE (x a : Int) (s : List (List Int)) (w : Int) (cuts : List (List Int)) : Int := if trainOk a s then trE w cuts (x / 4) s else 1
def endW (x a : Int) (s : List (List Int)) (w : Int) (cuts : List (List Int)) : Int := if trainOk a s then trW w cuts (x / 4) s else 0
def endC (x a : Int) (s : List (List Int)) (w : Int) (cuts : List (List Int)) : List (List Int) := if trainOk a s then trC w cuts (x / 4) s else []

theorem trainEnd_fun (hS : Sorted16) (x a : Int) (s : List (List Int)) (w : Int) (cuts : List (List Int)) (hx : 0 ≤ x ∧ x < 18446744073709551616) (hI : I16r s) : Fun Try.prog 78 [trainD x a s, bookD w cuts] fun r => r = .tup [bookD (endW x a s w cuts) (endC x a s w cuts), .v (.int .i64 (endE x a s w cuts))] := by
  have hc := trainCheck_fun x a s
  have ht := bookTrain_fun hS w cuts (x / 4) s hI
  have hw : IntKind.i64.wrap (x / 4) = x / 4 := IntWalk.i64_in _ (by omega)
  have hw2 : IntKind.u64.wrap (x / 4) = x / 4 := IntWalk.u64_in _ (by omega)
  have hfd : x.fdiv 4 = x / 4 := Int.fdiv_eq_ediv_of_nonneg _ (by decide)
  unfold endE endW endC
  by_cases h : trainOk a s
  · rw [if_pos h, if_pos h, if_pos h]
    rw [show trainE a s = 0 from if_pos h] at hc
    refine Fun.of_awpI Try.func78 rfl cal78 Try.ntmps78 (by simp) fun hwf => ?_
    simp only [D.wfs, D.wf, ints_length, ints_wfs, rows_length, rows_wfs, capMax, and_true, true_and] at hwf
    repeat' (first | simp only [go_sem, hfd, hw, hw2, Ret_eq Try.results78] | simp (disch := omega) only [arith, IntKind.bits, capMax, fill_len, elt_fill] | (refine opCallI_rd (by simp only [go_sem, hfd, hw, hw2, Ret_eq Try.results78]; first | done | rfl) (hc) (by rintro _ rfl; rfl) ?_; rintro _ rfl) | (refine opCallI_gv (by simp only [go_sem, hfd, hw, hw2, Ret_eq Try.results78]; first | done | rfl) (ht) ?_; rintro _ rfl) | fail)
    all_goals skip
  · rw [if_neg h, if_neg h, if_neg h]
    rw [show trainE a s = 1 from if_neg h] at hc
    refine Fun.of_awpI Try.func78 rfl cal78 Try.ntmps78 (by simp) fun hwf => ?_
    simp only [D.wfs, D.wf, ints_length, ints_wfs, rows_length, rows_wfs, capMax, and_true, true_and] at hwf
    repeat' (first | simp only [go_sem, rows_nil, Ret_eq Try.results78] | (refine opCallI_rd (by simp only [go_sem, rows_nil, Ret_eq Try.results78]; first | done | rfl) (hc) (by rintro _ rfl; rfl) ?_; rintro _ rfl) | fail)
    all_goals rfl

theorem trainNew_bad (n : Int) (h : n < 0) : Fun Try.prog 77 [.v (.int .i64 n)] fun r => r = .tup [trainD 0 0 [], .v (.int .i64 1)] := by
  refine Fun.of_awpI Try.func77 rfl cal77 Try.ntmps77 (by simp) fun hwf => ?_
  simp only [D.wfs, D.wf, ints_length, ints_wfs, rows_length, rows_wfs, capMax, and_true, true_and] at hwf
  repeat' (first | simp only [go_sem, rows_nil, Ret_eq Try.results77] | simp (disch := omega) only [arith, IntKind.bits, capMax, fill_len, elt_fill] | fail)
  all_goals rfl
end Go.Proofs.Ytpkampecmlpfmaa.T

end
section
set_option linter.unusedSimpArgs false
set_option linter.unusedVariables false
/- The number that stands at a place, in order, plainly. -/
namespace Go.Proofs.Ytpkampecmlpfmaa.T
open Go Go.VL Go.Proofs
theorem sortI_rises (l : List Int) : Rises (sortI l) := fun i hi => by
  rw [sortI_length] at hi
  exact sortI_mono (by omega) hi
def belowN (l : List Int) (x : Int) : Nat := l.countP fun y => decide (y < x)
def sameN (l : List Int) (x : Int) : Nat := l.countP fun y => decide (y = x)
theorem below_cell (l : List Int) (x : Int) : belowN l x = cellOf (sortI l) (x - 1) := by
  unfold belowN cellOf
  rw [(sortI_perm l).countP_eq]
  refine List.countP_congr fun y _ => ?_
  simp only [decide_eq_true_eq]
  omega
theorem same_cell (l : List Int) (x : Int) : belowN l x + sameN l x = cellOf (sortI l) x := by
  unfold belowN sameN cellOf
  rw [(sortI_perm l).countP_eq]
  induction l with
  | nil => rfl
  | cons y l ih =>
    simp only [List.countP_cons]
    by_cases h1 : y < x
    · have h2 : ¬ y = x := by omega
      have h3 : y ≤ x := by omega
      simp only [h1, h2, h3, decide_true, decide_false, if_true, Bool.false_eq_true, if_false]; omega
    · by_cases h2 : y = x
      · have h3 : y ≤ x := by omega
        simp only [h1, h2, h3, decide_true, decide_false, if_true, Bool.false_eq_true, if_false, Int.lt_irrefl, Int.le_refl] at *; omega
      · have h3 : ¬ y ≤ x := by omega
        simp only [h1, h2, h3, decide_true, decide_false, if_true, Bool.false_eq_true, if_false]; omega
def atOk (l : List Int) (p : Nat) (x : Int) : Prop := belowN l x ≤ p ∧ p < belowN l x + sameN l x
instance (l : List Int) (p : Nat) (x : Int) : Decidable (atOk l p x) := by unfold atOk; infer_instance
theorem at_eq {l : List Int} {p : Nat} {x : Int} (hp : p < l.length) (h : atOk l p x) : x = (sortI l).getD p 0 := by
  unfold atOk at h
  rw [same_cell, below_cell] at h
  have hl := sortI_length l
  have h1 := cellOf_spec (sortI_rises l) x p (by omega)
  have h2 := cellOf_spec (sortI_rises l) (x - 1) p (by omega)
  have h3 := h1.2 h.2
  have h4 : ¬ (sortI l).getD p 0 ≤ x - 1 := fun z => by have := h2.1 z; omega
  omega
theorem at_ok {l : List Int} {p : Nat} (hp : p < l.length) : (sortI l).getD p 0 ∈ l ∧ atOk l p ((sortI l).getD p 0) := by
  have hl := sortI_length l
  refine ⟨(sortI_perm l).mem_iff.1 (getD_mem (by omega)), ?_⟩
  unfold atOk
  rw [same_cell, below_cell]
  have h1 := cellOf_spec (sortI_rises l) ((sortI l).getD p 0) p (by omega)
  have h2 := cellOf_spec (sortI_rises l) ((sortI l).getD p 0 - 1) p (by omega)
  refine ⟨?_, h1.1 (Int.le_refl _)⟩
  have : ¬ p < cellOf (sortI l) ((sortI l).getD p 0 - 1) := fun z => by have := h2.2 z; omega
  omega
theorem belowN_snoc {l : List Int} {x : Int} {k : Nat} (h : k < l.length) : belowN (l.take (k + 1)) x = belowN (l.take k) x + if l.getD k 0 < x then 1 else 0 := by
  unfold belowN
  rw [take_snoc (d := (0 : Int)) h, List.countP_append]
  simp
theorem sameN_snoc {l : List Int} {x : Int} {k : Nat} (h : k < l.length) : sameN (l.take (k + 1)) x = sameN (l.take k) x + if l.getD k 0 = x then 1 else 0 := by
  unfold sameN
  rw [take_snoc (d := (0 : Int)) h, List.countP_append]
  simp
end Go.Proofs.Ytpkampecmlpfmaa.T

end
section
set_option linter.unusedSimpArgs false
set_option linter.unusedVariables false
/- The document's cuts, walked. -/
namespace Go.Proofs.Ytpkampecmlpfmaa.T
open Go Go.VL Go.Proofs
set_option maxRecDepth 100000
set_option maxHeartbeats 4000000

theorem refAt_fun (l : List Int) (p : Nat) (hp : p < l.length) (hl : l.length ≤ 60000) : Fun Try.prog 155 [.lst (ints .i16 l), .v (.int .i64 p)] fun r => r = .v (.int .i16 ((sortI l).getD p 0)) := by
  refine Fun.of_awpI Try.func155 rfl cal155 Try.ntmps155 (by simp) fun hwf => ?_
  simp only [D.wfs, D.wf, ints_length, ints_wfs, rows_length, rows_wfs, capMax, and_true, true_and] at hwf
  repeat' (first | simp only [go_sem, Ret_eq Try.results155] | fail)
  refine awpI_for l.length (fun k => ∀ i, i < k → ¬ atOk l p (l.getD i 0)) (fun k => [(13, .v (.int .i64 k))]) (fun _ => []) [0, 1, 11, 12] [] _ (Weak.refl _) (fun i hi => absurd hi (Nat.not_lt_zero i)) ?_ ?_ ?_
  · simp only [go_sem, Ret_eq Try.results155]
  · simp only [go_sem, Ret_eq Try.results155]
  · intro k s hk hQ hs
    simp only [go_sem, Ret_eq Try.results155] at hs
    by_cases hka : k < l.length
    · generalize hx : l.getD k 0 = x at *
      repeat' (first | simp only [go_sem, hs, hx, Ret_eq Try.results155] | simp (disch := omega) only [arith, IntKind.bits, capMax, fill_len, elt_fill] | fail)
      refine awpI_for l.length (fun j => True) (fun j => [(7, .v (.int .i64 (belowN (l.take j) x : Nat))), (8, .v (.int .i64 (sameN (l.take j) x : Nat))), (19, .v (.int .i64 j))]) (fun _ => []) [0, 1, 6, 11, 12, 13, 17, 18] [] _ (Weak.refl _) trivial ?_ ?_ ?_
      · simp only [go_sem, hs, List.take_zero, belowN, sameN, List.countP_nil, Ret_eq Try.results155]
        all_goals first | done | exact ⟨rfl, rfl⟩
      · simp only [go_sem, Ret_eq Try.results155]
      · intro j s2 hj _ hs2
        simp only [go_sem, hs, Ret_eq Try.results155] at hs2
        have hb1 : belowN (l.take j) x ≤ j := by
          have := List.countP_le_length (p := fun y => decide (y < x)) (l := l.take j)
          rw [List.length_take] at this; unfold belowN; omega
        have hb2 : sameN (l.take j) x ≤ j := by
          have := List.countP_le_length (p := fun y => decide (y = x)) (l := l.take j)
          rw [List.length_take] at this; unfold sameN; omega
        by_cases hja : j < l.length
        · have e1 := belowN_snoc (x := x) hja
          have e2 := sameN_snoc (x := x) hja
          by_cases q1 : l.getD j 0 < x
          · have q2 : ¬ l.getD j 0 = x := by omega
            rw [if_pos q1] at e1
            rw [if_neg q2] at e2
            repeat' (first | simp only [go_sem, hs, hs2, e1, e2, Nat.add_zero, Ret_eq Try.results155] | simp (disch := omega) only [arith, IntKind.bits, capMax, fill_len, elt_fill] | (refine Again.up (by omega) ?_ ?_) | fail)
            all_goals skip
          · by_cases q2 : l.getD j 0 = x
            · rw [if_neg q1] at e1
              rw [if_pos q2] at e2
              repeat' (first | simp only [go_sem, hs, hs2, e1, e2, Nat.add_zero, Ret_eq Try.results155] | simp (disch := omega) only [arith, IntKind.bits, capMax, fill_len, elt_fill] | (refine Again.up (by omega) ?_ ?_) | fail)
              all_goals skip
            · rw [if_neg q1] at e1
              rw [if_neg q2] at e2
              repeat' (first | simp only [go_sem, hs, hs2, e1, e2, Nat.add_zero, Ret_eq Try.results155] | simp (disch := omega) only [arith, IntKind.bits, capMax, fill_len, elt_fill] | (refine Again.up (by omega) ?_ ?_) | fail)
              all_goals skip
        · obtain rfl : j = l.length := by omega
          rw [List.take_length] at hs2 hb1 hb2
          by_cases ho : atOk l p x
          · have he := at_eq hp ho
            obtain ⟨o1, o2⟩ := ho
            repeat' (first | simp only [go_sem, hs, hs2, Ret_eq Try.results155] | simp (disch := omega) only [arith, IntKind.bits, capMax, fill_len, elt_fill] | fail)
            all_goals first | done | rw [← he] | omega
          · have hq : ∀ i, i < k + 1 → ¬ atOk l p (l.getD i 0) := fun i hi => by
              by_cases z : i = k
              · rw [z, hx]; exact ho
              · exact hQ i (by omega)
            unfold atOk at ho
            by_cases o1 : belowN l x ≤ p
            · have o2 : ¬ p < belowN l x + sameN l x := fun z => ho ⟨o1, z⟩
              repeat' (first | simp only [go_sem, hs, hs2, Ret_eq Try.results155] | simp (disch := omega) only [arith, IntKind.bits, capMax, fill_len, elt_fill] | (refine Again.up (by omega) ?_ ?_) | fail)
              all_goals first | done | exact hq | omega
            · repeat' (first | simp only [go_sem, hs, hs2, Ret_eq Try.results155] | simp (disch := omega) only [arith, IntKind.bits, capMax, fill_len, elt_fill] | (refine Again.up (by omega) ?_ ?_) | fail)
              all_goals first | done | exact hq | omega
    · obtain rfl : k = l.length := by omega
      obtain ⟨h1, h2⟩ := at_ok hp
      obtain ⟨i, hi, e⟩ := List.mem_iff_getElem.1 h1
      refine absurd ?_ (hQ i hi)
      rw [show l.getD i 0 = (sortI l).getD p 0 by rw [← e]; simp [List.getD, hi]]
      exact h2

theorem refRankCuts_fun (l : List Int) (cells : Int) (hI : I16s l) (hl : l.length ≤ 60000) : Fun Try.prog 127 [.lst (ints .i16 l), .v (.int .i64 cells)] fun r => r = .tup [.lst (ints .i16 (rkOut l cells)), .v (.int .i64 (rkE l cells))] := by
  by_cases g1 : l.length ≤ 4096
  · by_cases g2 : 1 ≤ cells
    · by_cases g3 : cells ≤ 16
      · obtain ⟨n, rfl⟩ := Int.eq_ofNat_of_zero_le (show 0 ≤ cells by omega)
        refine Fun.of_awpI Try.func127 rfl cal127 Try.ntmps127 (by simp) fun hwf => ?_
        simp only [D.wfs, D.wf, ints_length, ints_wfs, rows_length, rows_wfs, capMax, and_true, true_and] at hwf
        repeat' (first | simp only [go_sem, Ret_eq Try.results127] | simp (disch := omega) only [arith, IntKind.bits, capMax, fill_len, elt_fill] | fail)
        refine awpI_for l.length (fun k => (l.take k).any oddB = false) (fun k => [(21, .v (.int .i64 k))]) (fun _ => []) [0, 1, 19, 20] [] _ (Weak.refl _) (by simp) ?_ ?_ ?_
        · simp only [go_sem, Ret_eq Try.results127]
        · simp only [go_sem, Ret_eq Try.results127]
        · intro k s hk hQ hs
          simp only [go_sem, Ret_eq Try.results127] at hs
          by_cases hka : k < l.length
          · have hx := hI.getD k
            by_cases q : l.getD k 0 = -32768
            · have hE : rkE l (n : Int) = 1 := by
                have hany : l.any oddB = true := List.any_eq_true.2 ⟨_, getD_mem hka, by rw [q]; rfl⟩
                unfold rkE
                rw [if_neg (by omega), if_pos (.inr hany)]
              rw [hE, show rkOut l (n : Int) = [] from if_neg (by rw [hE]; decide)]
              repeat' (first | simp only [go_sem, hs, q, beq_self_eq_true, ints_nil, Ret_eq Try.results127] | simp (disch := omega) only [arith, IntKind.bits, capMax, fill_len, elt_fill] | fail)
              all_goals rfl
            · have qb : (l.getD k 0 == -32768) = false := beq_eq_false_iff_ne.2 q
              repeat' (first | simp only [go_sem, hs, qb, Ret_eq Try.results127] | simp (disch := omega) only [arith, IntKind.bits, capMax, fill_len, elt_fill] | (refine Again.up (by omega) ?_ ?_) | fail)
              rw [take_snoc (d := (0 : Int)) hka, List.any_append, hQ]
              simp [oddB]
              all_goals first | done | (simp only [List.getD] at *; omega)
          · obtain rfl : k = l.length := by omega
            rw [List.take_length] at hQ
            by_cases g4 : l.length = 0
            · have hE : rkE l (n : Int) = 5 := by
                unfold rkE
                rw [if_neg (by omega), if_neg (fun z => z.elim (fun y => y ⟨by omega, by omega⟩) (fun y => by rw [hQ] at y; cases y)), if_pos g4]
              rw [hE, show rkOut l (n : Int) = [] from if_neg (by rw [hE]; decide)]
              have g4b : ((l.length : Int) == 0) = true := beq_iff_eq.2 (by omega)
              repeat' (first | simp only [go_sem, hs, g4b, ints_nil, Ret_eq Try.results127] | simp (disch := omega) only [arith, IntKind.bits, capMax, fill_len, elt_fill] | fail)
              all_goals first | rfl | omega
            · have hE : rkE l (n : Int) = 0 := rkE_zero.2 ⟨g1, ⟨g2, g3⟩, hQ, by omega⟩
              rw [hE, show rkOut l (n : Int) = cutsL l n by unfold rkOut; rw [if_pos hE, Int.toNat_natCast]]
              have g4b : ((l.length : Int) == 0) = false := beq_eq_false_iff_ne.2 (by omega)
              have hcl := cutsL_length (l := l) (n := n)
              repeat' (first | simp only [go_sem, hs, g4b, Ret_eq Try.results127] | simp (disch := omega) only [arith, IntKind.bits, capMax, fill_len, elt_fill] | fail)
              refine awpI_for (n - 1) (fun j => True) (fun j => [(8, .ref 46 j), (9, .v (.int .i64 ((j + 1 : Nat) : Int)))]) (fun j => [(46, ⟨23, 1, ints .i16 ((cutsL l n).take j)⟩)]) [0, 1] [] _ (Weak.adopt (j := 8) 46 23 1 (by simp only [go_sem, hs, Ret_eq Try.results127]) (by simp only [go_sem, hs, Ret_eq Try.results127]) (by decide)) trivial ?_ ?_ ?_
              · simp only [go_sem, hs, Ret_eq Try.results127]
                all_goals first | done | rfl
              · simp only [go_sem, List.take_zero, ints_nil, Ret_eq Try.results127]
              · intro j s2 hj _ hs2
                simp only [go_sem, hs, Ret_eq Try.results127] at hs2
                by_cases hja : j < n - 1
                · have hid := cutsL_idx (l := l) hja (by omega)
                  have hat := refAt_fun l ((j + 1) * l.length / n) hid hl
                  rw [← cutsL_at hja] at hat
                  have em : ((j + 1 : Nat) : Int) * (l.length : Int) = (((j + 1) * l.length : Nat) : Int) := (Int.natCast_mul _ _).symm
                  have hjm : (j + 1) * l.length ≤ 16 * 4096 := Nat.mul_le_mul (by omega) g1
                  have hdv : (((j + 1) * l.length : Nat) : Int) / (n : Int) = (((j + 1) * l.length / n : Nat) : Int) := (Int.natCast_ediv _ _).symm
                  have hpp : (j + 1) * l.length / n ≤ (j + 1) * l.length := Nat.div_le_self _ _
                  have hwr : ∀ pp : Nat, pp ≤ 65536 → IntKind.i64.wrap (pp : Int) = (pp : Int) := fun pp _ => IntWalk.i64_in _ (by omega)
                  have hwr := hwr ((j + 1) * l.length / n) (by omega)
                  have e := take_snoc (a := cutsL l n) (d := (0 : Int)) (k := j) (by omega)
                  have htk : ((cutsL l n).take j).length = j := by rw [List.length_take]; omega
                  generalize (j + 1) * l.length / n = pp at *
                  generalize (j + 1) * l.length = mm at *
                  repeat' (first | simp only [go_sem, hs, hs2, em, hdv, hwr, e, htk, List.length_append, List.length_cons, List.length_nil, Ret_eq Try.results127] | simp (disch := omega) only [arith, IntKind.bits, capMax, fill_len, elt_fill] | (refine Again.up (by omega) ?_ ?_) | (refine opCallI_rd (by simp only [go_sem, hs, hs2, em, hdv, hwr, e, htk, List.length_append, List.length_cons, List.length_nil, Ret_eq Try.results127]; first | done | rfl) (hat) (by rintro _ rfl; rfl) ?_; rintro _ rfl) | fail)
                  all_goals skip
                · obtain rfl : j = n - 1 := by omega
                  have hta : (cutsL l n).take (n - 1) = cutsL l n := List.take_of_length_le (by omega)
                  repeat' (first | simp only [go_sem, hs, hs2, hta, hcl, Ret_eq Try.results127] | simp (disch := omega) only [arith, IntKind.bits, capMax, fill_len, elt_fill] | fail)
                  all_goals skip
      · have hE : rkE l cells = 1 := by unfold rkE; rw [if_neg (by omega), if_pos (.inl fun z => g3 z.2)]
        rw [hE, show rkOut l cells = [] from if_neg (by rw [hE]; decide)]
        refine Fun.of_awpI Try.func127 rfl cal127 Try.ntmps127 (by simp) fun hwf => ?_
        simp only [D.wfs, D.wf, ints_length, ints_wfs, rows_length, rows_wfs, capMax, and_true, true_and] at hwf
        repeat' (first | simp only [go_sem, ints_nil, Ret_eq Try.results127] | simp (disch := omega) only [arith, IntKind.bits, capMax, fill_len, elt_fill] | fail)
        all_goals rfl
    · have hE : rkE l cells = 1 := by unfold rkE; rw [if_neg (by omega), if_pos (.inl fun z => g2 z.1)]
      rw [hE, show rkOut l cells = [] from if_neg (by rw [hE]; decide)]
      refine Fun.of_awpI Try.func127 rfl cal127 Try.ntmps127 (by simp) fun hwf => ?_
      simp only [D.wfs, D.wf, ints_length, ints_wfs, rows_length, rows_wfs, capMax, and_true, true_and] at hwf
      repeat' (first | simp only [go_sem, ints_nil, Ret_eq Try.results127] | simp (disch := omega) only [arith, IntKind.bits, capMax, fill_len, elt_fill] | fail)
      all_goals rfl
  · have hE : rkE l cells = 3 := by unfold rkE; rw [if_pos (by omega)]
    rw [hE, show rkOut l cells = [] from if_neg (by rw [hE]; decide)]
    refine Fun.of_awpI Try.func127 rfl cal127 Try.ntmps127 (by simp) fun hwf => ?_
    simp only [D.wfs, D.wf, ints_length, ints_wfs, rows_length, rows_wfs, capMax, and_true, true_and] at hwf
    repeat' (first | simp only [go_sem, ints_nil, Ret_eq Try.results127] | simp (disch := omega) only [arith, IntKind.bits, capMax, fill_len, elt_fill] | fail)
    all_goals rfl
end Go.Proofs.Ytpkampecmlpfmaa.T

end
section
set_option linter.unusedSimpArgs false
set_option linter.unusedVariables false
/- Ways, plainly. -/
namespace Go.Proofs.Ytpkampecmlpfmaa.T
open Go Go.VL Go.Proofs
end Go.Proofs.Ytpkampecmlpfmaa.T

end
section
set_option linter.unusedSimpArgs false
set_option linter.unusedVariables false
/- Vectors turned, plainly. -/
namespace Go.Proofs.Ytpkampecmlpfmaa.T
open Go Go.VL Go.Proofs
-- how far apart
-- cut
end Go.Proofs.Ytpkampecmlpfmaa.T

end
section
set_option linter.unusedSimpArgs false
set_option linter.unusedVariables false
/- The document's ways and turned vectors, walked. -/
namespace Go.Proofs.Ytpkampecmlpfmaa.T
open Go Go.VL Go.Proofs
set_option maxRecDepth 100000
set_option maxHeartbeats 4000000
/-- A list of digits. -/
def dl (f : Nat → Nat) (n : Nat) : List Int := (List.range n).map fun i => (f i : Int)
theorem dl_length {f : Nat → Nat} {n : Nat} : (dl f n).length = n := by simp [dl]
theorem dl_succ {f : Nat → Nat} {n : Nat} : dl f n ++ [(f n : Int)] = dl f (n + 1) := by simp [dl, List.range_succ]
theorem dl_getD {f : Nat → Nat} {n i : Nat} (h : i < n) : (dl f n).getD i 0 = f i := getD_map_range h
theorem div_pow_succ (w k : Nat) : w / 4 ^ k / 4 = w / 4 ^ (k + 1) := by rw [Nat.div_div_eq_div_mul, Nat.pow_succ]

theorem may_fun (a : Int) : Fun Try.prog 125 [.v (.int .i64 a)] fun r => r = .v (.bool (decide (wayErr a = 0))) := by
  refine Fun.of_awpI Try.func125 rfl cal125 Try.ntmps125 (by simp) fun hwf => ?_
  simp only [D.wfs, D.wf, ints_length, ints_wfs, rows_length, rows_wfs, capMax, and_true, true_and] at hwf
  by_cases h : wayErr a = 0
  · obtain ⟨h1, h2⟩ := wayErr_zero h
    unfold maxTwist at h2
    repeat' (first | simp only [go_sem, h, Ret_eq Try.results125] | simp (disch := omega) only [arith, IntKind.bits, capMax, fill_len, elt_fill] | fail)
  · have h' : ¬ (0 ≤ a ∧ a ≤ maxTwist) := fun q => h (way_even q)
    unfold maxTwist at h'
    rw [decide_eq_false h]
    repeat' (first | simp only [go_sem, Ret_eq Try.results125] | (with_reducible refine condI_dec (fun hq hqb => ?_) (fun hq hqb => ?_) <;> simp only [KP_mk, hqb]) | fail)
    rw [decide_eq_false (by omega)]

theorem digits_fun (w : Nat) (hw : w < 2 ^ 62) : FunO Try.prog 154 [.v (.int .i64 w)] fun r o => r = .ref 0 31 ∧ o = some ⟨3, 1, ints .i64 (dl (dg w) 31)⟩ := by
  refine FunO.of_awpI Try.func154 rfl cal154 Try.ntmps154 (by simp) fun hwf => ?_
  simp only [D.wfs, D.wf, ints_length, ints_wfs, rows_length, rows_wfs, capMax, and_true, true_and] at hwf
  repeat' (first | simp only [go_sem, Ret_eq Try.results154] | fail)
  refine awpI_for 31 (fun k => True) (fun k => [(0, .v (.int .i64 ((w / 4 ^ k : Nat) : Int))), (3, .ref 10 k), (4, .v (.int .i64 k))]) (fun k => [(10, ⟨3, 1, ints .i64 (dl (dg w) k)⟩)]) [] [] _ (Weak.adopt (j := 3) 10 3 1 (by simp only [go_sem, Ret_eq Try.results154]) (by simp only [go_sem, Ret_eq Try.results154]) (by decide)) trivial ?_ ?_ ?_
  · simp only [go_sem, Ret_eq Try.results154]
    simp
  · simp only [go_sem, Ret_eq Try.results154]
    rfl
  · intro k s hk _ hs
    simp only [go_sem, Ret_eq Try.results154] at hs
    have hl := dl_length (f := dg w) (n := k)
    have hle : w / 4 ^ k ≤ w := Nat.div_le_self _ _
    have e1 : ((w / 4 ^ k : Nat) : Int) % 4 = (dg w k : Nat) := rfl
    have e2 : ((w / 4 ^ k : Nat) : Int) / 4 = ((w / 4 ^ (k + 1) : Nat) : Int) := by rw [← div_pow_succ]; rfl
    have e3 := dl_succ (f := dg w) (n := k)
    have hd := dg_lt w k
    have hl2 := dl_length (f := dg w) (n := k + 1)
    have hle2 : w / 4 ^ (k + 1) ≤ w := Nat.div_le_self _ _
    generalize w / 4 ^ k = u at *
    generalize hu' : w / 4 ^ (k + 1) = u' at *
    generalize dg w k = d at *
    by_cases hka : k < 31
    · repeat' (first | simp only [go_sem, hs, e1, e2, e3, hl, Ret_eq Try.results154] | simp (disch := omega) only [arith, IntKind.bits, capMax, fill_len, elt_fill] | (refine Again.up (by omega) ?_ ?_) | fail)
      exact ⟨by rw [hu'], by rw [hl2]⟩
    · obtain rfl : k = 31 := by omega
      repeat' (first | simp only [go_sem, hs, Ret_eq Try.results154] | refine RetO_calc Try.results154 ?_ | fail)
end Go.Proofs.Ytpkampecmlpfmaa.T

end
section
set_option linter.unusedSimpArgs false
set_option linter.unusedVariables false
/- A vector of its own. -/
namespace Go.Proofs.Ytpkampecmlpfmaa.T
open Go Go.VL Go.Proofs
set_option maxRecDepth 100000

theorem copy16_fun (v : List Int) (h : v.length ≤ 65536) : FunO Try.prog 105 [.lst (ints .i16 v)] fun r o => r = .ref 0 v.length ∧ o = some ⟨23, 1, ints .i16 v⟩ := by
  refine FunO.of_awpI Try.func105 rfl cal105 Try.ntmps105 (by simp) fun hwf => ?_
  simp only [D.wfs, D.wf, ints_length, ints_wfs, rows_length, rows_wfs, capMax, and_true, true_and] at hwf
  repeat' (first | simp only [go_sem, Ret_eq Try.results105] | simp (disch := omega) only [arith, IntKind.bits, capMax, fill_len, elt_fill] | refine RetO_calc Try.results105 ?_ | fail)
end Go.Proofs.Ytpkampecmlpfmaa.T

end
section
set_option linter.unusedSimpArgs false
set_option linter.unusedVariables false
/- The document's turned vectors, walked. -/
namespace Go.Proofs.Ytpkampecmlpfmaa.T
open Go Go.VL Go.Proofs
set_option maxRecDepth 100000
set_option maxHeartbeats 4000000
def rotS (L : List Int) (k : Nat) (p q : Int) : List Int := (L.set (2 * k) p).set (2 * k + 1) q
theorem rotS_length {L : List Int} {k : Nat} {p q : Int} : (rotS L k p q).length = L.length := by simp [rotS]
theorem rotS_x {L : List Int} {k : Nat} {p q : Int} (h : 2 * k + 1 < L.length) : (rotS L k p q).getD (2 * k) 0 = p := by
  unfold rotS; rw [getD_set (by simp; omega), if_neg (by omega), getD_set (by omega), if_pos rfl]
theorem rotS_y {L : List Int} {k : Nat} {p q : Int} (h : 2 * k + 1 < L.length) : (rotS L k p q).getD (2 * k + 1) 0 = q := by
  unfold rotS; rw [getD_set (by simp; omega), if_pos rfl]
theorem rotS_setx {L : List Int} {k : Nat} {p q p' : Int} : (rotS L k p q).set (2 * k) p' = rotS L k p' q := by
  unfold rotS; rw [List.set_comm _ _ (by omega : 2 * k + 1 ≠ 2 * k), List.set_set]
theorem rotS_sety {L : List Int} {k : Nat} {p q q' : Int} : (rotS L k p q).set (2 * k + 1) q' = rotS L k p q' := by
  unfold rotS; rw [List.set_set]
theorem rotS_same {v : List Int} {w k : Nat} (h : 2 * k + 1 < v.length) : rotS (outK v w k) k (v.getD (2 * k) 0) (v.getD (2 * k + 1) 0) = outK v w k := by
  refine ext_getD (d := 0) rotS_length fun i hi => ?_
  rw [rotS_length, outK_length] at hi
  unfold rotS
  obtain ⟨g1, g2⟩ := outK_here (w := w) h
  rw [getD_set (by simp [outK_length]; omega), getD_set (by rw [outK_length]; omega)]
  by_cases h1 : i = 2 * k + 1
  · subst h1; rw [if_pos rfl, g2]
  · rw [if_neg h1]
    by_cases h2 : i = 2 * k
    · subst h2; rw [if_pos rfl, g1]
    · rw [if_neg h2]
theorem rot_zero (x y : Int) : rx 0 x y = x ∧ ry 0 x y = y := by simp [rx, ry, cs, sn]
theorem rot_step {j : Nat} (h : j < 3) (x y : Int) : rx (j + 1) x y = - ry j x y ∧ ry (j + 1) x y = rx j x y := by
  have : j = 0 ∨ j = 1 ∨ j = 2 := by omega
  rcases this with rfl | rfl | rfl <;> simp [rx, ry, cs, sn]

theorem refTurn_own (v : List Int) (w : Int) (hv : I16s v) : FunO Try.prog 126 [.lst (ints .i16 v), .v (.int .i64 w)] fun r o =>
    (turnErr v w ≠ 0 ∧ r = .tup [.v (.slice none 0 0), .v (.int .i64 (turnErr v w))] ∧ o = none) ∨
    (turnErr v w = 0 ∧ r = .tup [.ref 0 v.length, .v (.int .i64 0)] ∧ o = some ⟨23, 1, ints .i16 (turnL v w.toNat)⟩) := by
  refine FunO.of_awpI Try.func126 rfl cal126 Try.ntmps126 (by simp) fun hwf => ?_
  simp only [D.wfs, D.wf, ints_length, ints_wfs, rows_length, rows_wfs, capMax, and_true, true_and] at hwf
  by_cases hok : vecErr v = 0 ∧ 0 ≤ w ∧ w ≤ maxTwist
  · obtain ⟨q0, q1, q2⟩ := hok
    obtain ⟨q3, q4, q5⟩ := vecOk_iff.1 (vecErr_zero.1 q0)
    have hE : turnErr v w = 0 := turnErr_iff.2 ⟨q0, q1, q2⟩
    have hW := way_even ⟨q1, q2⟩
    have hrange := vecOk_getD hv (vecErr_zero.1 q0)
    obtain ⟨w, rfl⟩ : ∃ n : Nat, w = n := ⟨w.toNat, by omega⟩
    have hw62 : w < 2 ^ 62 := by unfold maxTwist at q2; omega
    clear q5
    have hdl := dl_length (f := dg w) (n := 31)
    repeat' (first | simp only [go_sem, q0, hW, Ret_eq Try.results126] | (refine opCallI_rd (by simp only [go_sem, q0, hW, Ret_eq Try.results126]; first | done | rfl) (refVecCheck_fun v) (by rintro _ rfl; rfl) ?_; rintro _ rfl) | (refine opCallI_rd (by simp only [go_sem, q0, hW, Ret_eq Try.results126]; first | done | rfl) (may_fun w) (by rintro _ rfl; rfl) ?_; rintro _ rfl) | (refine opCallI_ownGv (by simp only [go_sem, q0, hW, Ret_eq Try.results126]; first | done | rfl) (copy16_fun v (by omega)) ?_; rintro _ _ ⟨rfl, rfl⟩) | (refine opCallI_ownGv (by simp only [go_sem, q0, hW, Ret_eq Try.results126]; first | done | rfl) (digits_fun w hw62) ?_; rintro _ _ ⟨rfl, rfl⟩) | fail)
    refine awpI_for 31 (fun k => True) (fun k => [(23, .v (.int .i64 k))]) (fun k => [(19, ⟨23, 1, ints .i16 (outK v w k)⟩)]) [0, 6, 21, 22] [21] _ (Weak.refl _) trivial ?_ ?_ ?_
    · simp only [go_sem, Ret_eq Try.results126]
    · simp only [go_sem, Ret_eq Try.results126]
      rw [outK_zero]
    · intro k s hk hQ hs
      simp only [go_sem, Ret_eq Try.results126] at hs
      by_cases hka : k < 31
      · have e1 := dl_getD (f := dg w) hka
        by_cases hkb : 2 * k + 1 < v.length
        · have hlen : (outK v w k).length = v.length := outK_length
          have hd := dg_lt w k
          have e5 : rotS (outK v w k) k (rx (dg w k) (v.getD (2 * k) 0) (v.getD (2 * k + 1) 0)) (ry (dg w k) (v.getD (2 * k) 0) (v.getD (2 * k + 1) 0)) = outK v w (k + 1) := outK_succ (w := w) hkb hka
          have t1 : (2 * (k : Int)).toNat = 2 * k := by omega
          have t2 : (2 * (k : Int) + 1).toNat = 2 * k + 1 := by omega
          have e6 := rotS_same (w := w) hkb
          have hrot := fun j (hj : j < 4) => rot_range hj (hrange (2 * k)) (hrange (2 * k + 1))
          generalize hL : outK v w k = L at *
          generalize dg w k = d at *
          generalize v.getD (2 * k) 0 = x at *
          generalize v.getD (2 * k + 1) 0 = y at *
          repeat' (first | simp only [go_sem, hs, e1, hdl, Ret_eq Try.results126] | simp (disch := omega) only [arith, IntKind.bits, capMax, fill_len, elt_fill] | fail)
          refine awpI_for d (fun k => True) (fun j => [(35, .v (.int .i64 j))]) (fun j => [(19, ⟨23, 1, ints .i16 (rotS L k (rx j x y) (ry j x y))⟩)]) [0, 6, 7, 21, 22, 23, 34] [21] _ (Weak.refl _) trivial ?_ ?_ ?_
          · simp only [go_sem, Ret_eq Try.results126]
          · have z1 := (rot_zero x y).1
            have z2 := (rot_zero x y).2
            simp only [go_sem, hs, z1, z2, e6, Ret_eq Try.results126]
          · intro j s2 hj _ hs2
            simp only [go_sem, hs, Ret_eq Try.results126] at hs2
            obtain ⟨r1, r2⟩ := hrot j (by omega)
            have hlj : (rotS L k (rx j x y) (ry j x y)).length = v.length := by rw [rotS_length, hlen]
            have gx : (rotS L k (rx j x y) (ry j x y)).getD (2 * k) 0 = rx j x y := rotS_x (by omega)
            have gy : (rotS L k (rx j x y) (ry j x y)).getD (2 * k + 1) 0 = ry j x y := rotS_y (by omega)
            by_cases hja : j < d
            · obtain ⟨n1, n2⟩ := rot_step (j := j) (by omega) x y
              have hlj2 : (rotS L k (-(ry j x y)) (ry j x y)).length = v.length := by rw [rotS_length, hlen]
              repeat' (first | simp only [go_sem, hs, hs2, gx, gy, rotS_setx, rotS_sety, t1, t2, n1, n2, Int.zero_sub, Ret_eq Try.results126] | simp (disch := omega) only [arith, IntKind.bits, capMax, fill_len, elt_fill] | (refine Again.up (by omega) ?_ ?_) | fail)
            · obtain rfl : j = d := by omega
              rw [e5] at hs2
              repeat' (first | simp only [go_sem, hs, hs2, Ret_eq Try.results126] | simp (disch := omega) only [arith, IntKind.bits, capMax, fill_len, elt_fill] | (refine Again.up (by omega) ?_ ?_) | fail)
        · repeat' (first | simp only [go_sem, hs, e1, hdl, Ret_eq Try.results126] | simp (disch := omega) only [arith, IntKind.bits, capMax, fill_len, elt_fill] | refine RetO_calc Try.results126 ?_ | fail)
          rw [outK_end (.inr hkb)]
          exact .inr ⟨hE, rfl⟩
      · obtain rfl : k = 31 := by omega
        rw [outK_end (.inl rfl)] at hs
        repeat' (first | simp only [go_sem, hs, Int.cast_ofNat_Int, Ret_eq Try.results126] | simp (disch := omega) only [arith, IntKind.bits, capMax, fill_len, elt_fill] | refine RetO_calc Try.results126 ?_ | fail)
        exact .inr hE
  · have hE := turnErr_bad hok
    rw [hE]
    by_cases hv0 : vecErr v = 0
    · have hw0 : wayErr w = 1 := way_odd (fun h => hok ⟨hv0, h⟩)
      repeat' (first | simp only [go_sem, hw0, Ret_eq Try.results126] | simp (disch := omega) only [arith, IntKind.bits, capMax, fill_len, elt_fill] | refine RetO_calc Try.results126 ?_ | (refine opCallI_rd (by simp only [go_sem, hw0, Ret_eq Try.results126]; first | done | rfl) (refVecCheck_fun v) (by rintro _ rfl; rfl) ?_; rintro _ rfl) | (refine opCallI_rd (by simp only [go_sem, hw0, Ret_eq Try.results126]; first | done | rfl) (may_fun w) (by rintro _ rfl; rfl) ?_; rintro _ rfl) | fail)
      exact .inl (by decide)
    · repeat' (first | simp only [go_sem, Ret_eq Try.results126] | simp (disch := omega) only [arith, IntKind.bits, capMax, fill_len, elt_fill] | refine RetO_calc Try.results126 ?_ | (refine opCallI_rd (by simp only [go_sem, Ret_eq Try.results126]; first | done | rfl) (refVecCheck_fun v) (by rintro _ rfl; rfl) ?_; rintro _ rfl) | fail)
      exact .inl (by decide)
theorem refTurn_fun (v : List Int) (w : Int) (hv : I16s v) : Fun Try.prog 126 [.lst (ints .i16 v), .v (.int .i64 w)] fun r => r = .tup [.lst (ints .i16 (turnOut v w)), .v (.int .i64 (turnErr v w))] := by
  refine (refTurn_own v w hv).toFun ?_
  rintro r o (⟨h1, rfl, rfl⟩ | ⟨h1, rfl, rfl⟩)
  · obtain ⟨e1, e2⟩ := turnErr_one h1
    rw [e1, e2]; rfl
  · rw [turnOut_ok (turnErr_iff.1 h1), h1]
    have hl := turnL_length (v := v) (w := w.toNat)
    have ht : (turnL v w.toNat).take v.length = turnL v w.toNat := List.take_of_length_le (by omega)
    simp only [ints_nrms, ints_width1, D.frz, D.frzs, D.noRef, D.noRefs, D.nrm, D.nrms, nilV, ints_length, Nat.le_refl, ints_take, ints_noRefs, Bool.and_self, Bool.false_eq_true, if_true, if_false, and_self, hl, ht]
end Go.Proofs.Ytpkampecmlpfmaa.T

end
section
set_option linter.unusedSimpArgs false
set_option linter.unusedVariables false
/- The document's codes and boxes, walked. -/
namespace Go.Proofs.Ytpkampecmlpfmaa.T
open Go Go.VL Go.Proofs
set_option maxRecDepth 100000
set_option maxHeartbeats 4000000
theorem cutsErr_bad {c : List Int} {k : Nat} (hk : k < c.length) (h : c.getD k 0 < -32767 ∨ (0 < k ∧ c.getD k 0 < c.getD (k - 1) 0)) : cutsErr c = 1 := by
  refine cutsErr_one fun ok => ?_
  have h1 := ok.2.1.le (i := 0) (j := k) (by omega) hk
  have h2 := ok.2.2 (by omega)
  rcases h with h | ⟨h3, h⟩
  · omega
  · have := ok.2.1.le (i := k - 1) (j := k) (by omega) hk
    omega
theorem cutsErr_all {c : List Int} (hl : c.length ≤ 15) (h : ∀ i, i < c.length → -32767 ≤ c.getD i 0 ∧ (0 < i → c.getD (i - 1) 0 ≤ c.getD i 0)) : cutsErr c = 0 :=
  cutsErr_zero.2 ⟨hl, fun i hi => (h (i + 1) hi).2 (by omega), fun h0 => (h 0 h0).1⟩

theorem refCutsCheck_fun (c : List Int) (hc : I16s c) : Fun Try.prog 149 [.lst (ints .i16 c)] fun r => r = .v (.int .i64 (cutsErr c)) := by
  refine Fun.of_awpI Try.func149 rfl cal149 Try.ntmps149 (by simp) fun hwf => ?_
  simp only [D.wfs, D.wf, ints_length, ints_wfs, rows_length, rows_wfs, capMax, and_true, true_and] at hwf
  by_cases hl : c.length ≤ 15
  · repeat' (first | simp only [go_sem, Ret_eq Try.results149] | simp (disch := omega) only [arith, IntKind.bits, capMax, fill_len, elt_fill] | fail)
    refine awpI_for c.length (fun k => ∀ i, i < k → -32767 ≤ c.getD i 0 ∧ (0 < i → c.getD (i - 1) 0 ≤ c.getD i 0)) (fun k => [(10, .v (.int .i64 k))]) (fun _ => []) [0, 8, 9] [] _ (Weak.refl _) (fun i hi => by omega) ?_ ?_ ?_
    · simp only [go_sem, Ret_eq Try.results149]
    · simp only [go_sem, Ret_eq Try.results149]
    · intro k s hk hQ hs
      simp only [go_sem, Ret_eq Try.results149] at hs
      by_cases hka : k < c.length
      · have b1 := hc.getD k
        have t1 : ((k : Int) - 1).toNat = k - 1 := by omega
        have bad := cutsErr_bad hka
        repeat' (first | simp only [go_sem, hs, t1, Ret_eq Try.results149] | simp (disch := omega) only [arith, IntKind.bits, capMax, fill_len, elt_fill] | (with_reducible refine condI_beq (fun hq hqb => ?_) (fun hq hqb => ?_) <;> simp only [KP_mk, hqb]) | (with_reducible refine condI_dec (fun hq hqb => ?_) (fun hq hqb => ?_) <;> simp only [KP_mk, hqb]) | (refine Again.up (by omega) ?_ ?_) | fail)
        all_goals first
          | (rw [bad (by omega)]; done)
          | (intro i hi
             by_cases hik : i = k
             · subst hik; omega
             · exact hQ i (by omega))
      · obtain rfl : k = c.length := by omega
        repeat' (first | simp only [go_sem, hs, Ret_eq Try.results149] | simp (disch := omega) only [arith, IntKind.bits, capMax, fill_len, elt_fill] | fail)
        rw [cutsErr_all hl hQ]
  · rw [cutsErr_one fun q => hl q.1]
    repeat' (first | simp only [go_sem, Ret_eq Try.results149] | simp (disch := omega) only [arith, IntKind.bits, capMax, fill_len, elt_fill] | fail)
end Go.Proofs.Ytpkampecmlpfmaa.T

end
section
set_option linter.unusedSimpArgs false
set_option linter.unusedVariables false
/- The document's books, codes and boxes, walked. -/
namespace Go.Proofs.Ytpkampecmlpfmaa.T
open Go Go.VL Go.Proofs
set_option maxRecDepth 100000
set_option maxHeartbeats 4000000
theorem book_any {w : Int} {cuts : List (List Int)} {k : Nat} (hk : k < cuts.length) (h : ¬ ((cuts.getD k []).length = manyOf cuts ∧ cutsErr (cuts.getD k []) = 0)) : bookErr w cuts = 1 := by
  refine bookErr_one fun ok => h ?_
  exact book_rows (bookErr_zero.2 ok) _ (getD_mem hk)
theorem book_all {w : Int} {cuts : List (List Int)} (h1 : 1 ≤ cuts.length) (h2 : cuts.length ≤ 64) (h3 : wayErr w = 0) (h : ∀ i, i < cuts.length → (cuts.getD i []).length = manyOf cuts ∧ cutsErr (cuts.getD i []) = 0) : bookErr w cuts = 0 := by
  refine bookErr_zero.2 ⟨h1, h2, h3, ?_⟩
  rw [List.any_eq_false]
  intro c hc
  obtain ⟨i, hi, rfl⟩ := List.mem_iff_getElem.1 hc
  have := h i hi
  rw [show cuts.getD i [] = cuts[i] by simp [List.getD, hi]] at this
  unfold oddCut
  simp [this.1, this.2]

theorem refBookCheck_fun (w : Int) (cuts : List (List Int)) (hr : I16r cuts) : Fun Try.prog 110 [.agg [.v (.int .i64 w), .lst (rows .i16 cuts)]] fun r => r = .v (.int .i64 (bookErr w cuts)) := by
  refine Fun.of_awpI Try.func110 rfl cal110 Try.ntmps110 (by simp) fun hwf => ?_
  simp only [D.wfs, D.wf, ints_length, ints_wfs, rows_length, rows_wfs, capMax, and_true, true_and] at hwf
  by_cases h3 : wayErr w = 0
  · by_cases h12 : 1 ≤ cuts.length ∧ cuts.length ≤ 64
    · obtain ⟨h1, h2⟩ := h12
      repeat' (first | simp only [go_sem, h3, Ret_eq Try.results110] | simp (disch := omega) only [arith, IntKind.bits, capMax, fill_len, elt_fill] | (refine opCallI_rd (by simp only [go_sem, h3, Ret_eq Try.results110]; first | done | rfl) (may_fun w) (by rintro _ rfl; rfl) ?_; rintro _ rfl) | fail)
      refine awpI_for cuts.length (fun k => ∀ i, i < k → (cuts.getD i []).length = manyOf cuts ∧ cutsErr (cuts.getD i []) = 0) (fun k => [(24, .v (.int .i64 k))]) (fun _ => []) [1, 22, 23] [1] _ (Weak.refl _) (fun i hi => by omega) ?_ ?_ ?_
      · simp only [go_sem, Ret_eq Try.results110]
      · simp only [go_sem, Ret_eq Try.results110]
      · intro k s hk hQ hs
        simp only [go_sem, Ret_eq Try.results110] at hs
        by_cases hka : k < cuts.length
        · have hm : (cuts.getD 0 []).length = manyOf cuts := rfl
          have bad := book_any (w := w) hka
          by_cases q1 : cutsErr (cuts.getD k []) = 0
          · by_cases q2 : (cuts.getD k []).length = manyOf cuts
            · repeat' (first | simp only [go_sem, hs, q1, hm, q2, Ret_eq Try.results110] | simp (disch := omega) only [arith, IntKind.bits, capMax, fill_len, elt_fill] | (refine Again.up (by omega) ?_ ?_) | (refine opCallI_rd (by simp only [go_sem, hs, q1, hm, q2, Ret_eq Try.results110]; first | done | rfl) (refCutsCheck_fun (cuts.getD k []) (hr.getD k)) (by rintro _ rfl; rfl) ?_; rintro _ rfl) | fail)
              all_goals (intro i hi
                         by_cases hik : i = k
                         · subst hik; exact ⟨q2, q1⟩
                         · exact hQ i (by omega))
            · rw [bad (fun q => q2 q.1)]
              repeat' (first | simp only [go_sem, hs, q1, hm, Ret_eq Try.results110] | simp (disch := omega) only [arith, IntKind.bits, capMax, fill_len, elt_fill] | (refine opCallI_rd (by simp only [go_sem, hs, q1, hm, Ret_eq Try.results110]; first | done | rfl) (refCutsCheck_fun (cuts.getD k []) (hr.getD k)) (by rintro _ rfl; rfl) ?_; rintro _ rfl) | fail)
          · rw [bad (fun q => q1 q.2)]
            repeat' (first | simp only [go_sem, hs, hm, Ret_eq Try.results110] | simp (disch := omega) only [arith, IntKind.bits, capMax, fill_len, elt_fill] | (refine opCallI_rd (by simp only [go_sem, hs, hm, Ret_eq Try.results110]; first | done | rfl) (refCutsCheck_fun (cuts.getD k []) (hr.getD k)) (by rintro _ rfl; rfl) ?_; rintro _ rfl) | fail)
        · obtain rfl : k = cuts.length := by omega
          repeat' (first | simp only [go_sem, hs, Ret_eq Try.results110] | simp (disch := omega) only [arith, IntKind.bits, capMax, fill_len, elt_fill] | fail)
          rw [book_all h1 h2 h3 hQ]
    · rw [bookErr_one (fun q => h12 ⟨q.1, q.2.1⟩)]
      repeat' (first | simp only [go_sem, h3, Ret_eq Try.results110] | simp (disch := omega) only [arith, IntKind.bits, capMax, fill_len, elt_fill] | (with_reducible refine condI_dec (fun hq hqb => ?_) (fun hq hqb => ?_) <;> simp only [KP_mk, hqb]) | (refine opCallI_rd (by simp only [go_sem, h3, Ret_eq Try.results110]; first | done | rfl) (may_fun w) (by rintro _ rfl; rfl) ?_; rintro _ rfl) | fail)
      all_goals (exfalso; omega)
  · rw [bookErr_one (fun q => h3 q.2.2.1)]
    have h4 := wayErr_one h3
    repeat' (first | simp only [go_sem, h4, Ret_eq Try.results110] | (refine opCallI_rd (by simp only [go_sem, h4, Ret_eq Try.results110]; first | done | rfl) (may_fun w) (by rintro _ rfl; rfl) ?_; rintro _ rfl) | fail)
end Go.Proofs.Ytpkampecmlpfmaa.T

end
section
set_option linter.unusedSimpArgs false
set_option linter.unusedVariables false
/- A book of its own. -/
namespace Go.Proofs.Ytpkampecmlpfmaa.T
open Go Go.VL Go.Proofs
set_option maxRecDepth 100000
set_option maxHeartbeats 4000000

theorem copyBook_fun (w : Int) (cuts : List (List Int)) (hl : cuts.length ≤ 100) (hc : ∀ c ∈ cuts, c.length ≤ 100) : Fun Try.prog 66 [.agg [.v (.int .i64 w), .lst (rows .i16 cuts)]] fun r => r = .agg [.v (.int .i64 w), .lst (rows .i16 cuts)] := by
  refine Fun.of_awpI Try.func66 rfl cal66 Try.ntmps66 (by simp) fun hwf => ?_
  simp only [D.wfs, D.wf, ints_length, ints_wfs, rows_length, rows_wfs, capMax, and_true, true_and] at hwf
  repeat' (first | simp only [go_sem, Ret_eq Try.results66] | fail)
  refine awpI_for cuts.length (fun k => True) (fun k => [(12, .v (.int .i64 k))]) (fun k => match k with | 0 => [(3, ⟨73, 2, [.agg [.v (.int .i64 w), .v (.slice none 0 0)]]⟩)] | k + 1 => [(3, ⟨73, 2, [.agg [.v (.int .i64 w), .ref 21 (k + 1)]]⟩), (21, ⟨22, 1, rows .i16 (cuts.take (k + 1))⟩)]) [2, 3, 10, 11] [2] _ (Weak.refl _) trivial ?_ ?_ ?_
  · simp only [go_sem, Ret_eq Try.results66]
  · simp only [go_sem, Ret_eq Try.results66]
  · intro k s hk _ hs
    by_cases hka : k < cuts.length
    · have e := take_snoc (a := cuts) (d := []) hka
      have hcl := hc _ (getD_mem (d := []) hka)
      cases k with
      | zero =>
        simp only [go_sem, Ret_eq Try.results66] at hs
        repeat' (first | simp only [go_sem, hs, Ret_eq Try.results66] | simp (disch := omega) only [arith, IntKind.bits, capMax, fill_len, elt_fill] | (refine awpI_draw2 (id := 5) (.one false 2 (.fam 0 [3, 4] [19, 20] [18] (.fam 1 [3, 4] [19, 20] [18] (.only 3 (.only 4 (.only 5 (.one false 6 (.only 7 .done)))))))) mixed (by decide +kernel) (by decide +kernel) ?_) | (refine Again.up (by omega) ?_ ?_) | fail)
        exact ⟨rfl, by rw [show List.take 1 cuts = _ from e]; rfl⟩
      | succ k =>
        simp only [go_sem, Ret_eq Try.results66] at hs
        have hlt : (cuts.take (k + 1)).length = k + 1 := by rw [List.length_take]; omega
        repeat' (first | simp only [go_sem, hs, e, hlt, List.length_append, Ret_eq Try.results66] | simp (disch := omega) only [arith, IntKind.bits, capMax, fill_len, elt_fill] | (refine awpI_draw2 (id := 5) (.one false 2 (.fam 0 [3, 4] [19, 20] [18] (.fam 1 [3, 4] [19, 20] [18] (.only 3 (.only 4 (.only 5 (.one false 6 (.only 7 .done)))))))) mixed (by decide +kernel) (by decide +kernel) ?_) | (refine Again.up (by omega) ?_ ?_) | fail)
    · obtain rfl : k = cuts.length := by omega
      cases hcu : cuts.length with
      | zero =>
        rw [hcu] at hs
        simp only [go_sem, Ret_eq Try.results66] at hs
        repeat' (first | simp only [go_sem, hs, Ret_eq Try.results66] | fail)
        rw [List.length_eq_zero_iff.1 hcu]; rfl
      | succ k =>
        rw [hcu] at hs
        simp only [go_sem, Ret_eq Try.results66] at hs
        have hta : cuts.take (k + 1) = cuts := List.take_of_length_le (by omega)
        repeat' (first | simp only [go_sem, hs, hta, hcu, Ret_eq Try.results66] | simp (disch := omega) only [arith, IntKind.bits, capMax, fill_len, elt_fill] | fail)
end Go.Proofs.Ytpkampecmlpfmaa.T

end
section
set_option linter.unusedSimpArgs false
set_option linter.unusedVariables false
/- The document's book of a sample, walked. -/
namespace Go.Proofs.Ytpkampecmlpfmaa.T
open Go Go.VL Go.Proofs
set_option maxRecDepth 100000
set_option maxHeartbeats 4000000

theorem refTrain_fun (w : Int) (cuts : List (List Int)) (way : Int) (sample : List (List Int)) (hI : I16r sample) (hc : I16r cuts) : Fun Try.prog 68 [bookD w cuts, .v (.int .i64 way), .lst (rows .i16 sample)] fun r => r = .tup [bookD (trW w cuts way sample) (trC w cuts way sample), .v (.int .i64 (trE w cuts way sample))] := by
  have hbc := refBookCheck_fun w cuts hc
  have hmy := may_fun way
  by_cases hb : bookErr w cuts = 0
  · by_cases hw : wayErr way = 0
    · rw [hb] at hbc
      rw [decide_eq_true hw] at hmy
      obtain ⟨b1, b2, b3, b4⟩ := bookErr_zero.1 hb
      have hrow := book_rows hb
      have hmany := book_many hb
      refine Fun.of_awpI Try.func68 rfl cal68 Try.ntmps68 (by simp) fun hwf => ?_
      simp only [D.wfs, D.wf, ints_length, ints_wfs, rows_length, rows_wfs, capMax, and_true, true_and] at hwf
      repeat' (first | simp only [go_sem, bne_self_eq_false, Ret_eq Try.results68] | (refine opCallI_rd (by simp only [go_sem, bne_self_eq_false, Ret_eq Try.results68]; first | done | rfl) (hbc) (by rintro _ rfl; rfl) ?_; rintro _ rfl) | (refine opCallI_rd (by simp only [go_sem, bne_self_eq_false, Ret_eq Try.results68]; first | done | rfl) (hmy) (by rintro _ rfl; rfl) ?_; rintro _ rfl) | fail)
      refine awpI_for sample.length (fun k => ∀ v ∈ sample.take k, vecErr v = 0 ∧ v.length = cuts.length) (fun k => [(34, .v (.int .i64 k))]) (fun _ => []) [1, 2, 3, 6, 8, 32, 33] [3, 6] _ (Weak.refl _) (by simp) ?_ ?_ ?_
      · simp only [go_sem, Ret_eq Try.results68]
      · simp only [go_sem, Ret_eq Try.results68]
      · intro k s hk hQ hs
        simp only [go_sem, Ret_eq Try.results68] at hs
        by_cases hka : k < sample.length
        · have hv := refVecCheck_fun (sample.getD k [])
          by_cases q1 : vecErr (sample.getD k []) = 0
          · by_cases q2 : (sample.getD k []).length = cuts.length
            · have q2b : (((sample.getD k []).length : Int) != (cuts.length : Int)) = false := by rw [q2]; exact bne_self_eq_false _
              rw [q1] at hv
              repeat' (first | simp only [go_sem, hs, q2b, bne_self_eq_false, Ret_eq Try.results68] | simp (disch := omega) only [arith, IntKind.bits, capMax, fill_len, elt_fill] | (refine Again.up (by omega) ?_ ?_) | (refine opCallI_rd (by simp only [go_sem, hs, q2b, bne_self_eq_false, Ret_eq Try.results68]; first | done | rfl) (hv) (by rintro _ rfl; rfl) ?_; rintro _ rfl) | fail)
              rw [take_snoc (d := ([] : List Int)) hka]
              intro v hvm
              rcases List.mem_append.1 hvm with z | z
              · exact hQ v z
              · rw [List.mem_singleton.1 z]; exact ⟨q1, q2⟩
            · have q2b : (((sample.getD k []).length : Int) != (cuts.length : Int)) = true := by rw [bne, beq_eq_false_iff_ne.2 (by omega)]; rfl
              have ha : sample.any (oddN cuts.length) = true := List.any_eq_true.2 ⟨_, getD_mem hka, by unfold oddN; exact decide_eq_true (.inr q2)⟩
              have hE : trE w cuts way sample = 1 := if_pos (.inr ha)
              rw [hE, show trW w cuts way sample = 0 from if_neg (by rw [hE]; decide), show trC w cuts way sample = [] from if_neg (by rw [hE]; decide)]
              rw [q1] at hv
              repeat' (first | simp only [go_sem, hs, q2b, bne_self_eq_false, rows_nil, Ret_eq Try.results68] | simp (disch := omega) only [arith, IntKind.bits, capMax, fill_len, elt_fill] | (refine opCallI_rd (by simp only [go_sem, hs, q2b, bne_self_eq_false, rows_nil, Ret_eq Try.results68]; first | done | rfl) (hv) (by rintro _ rfl; rfl) ?_; rintro _ rfl) | fail)
              all_goals rfl
          · have q1b : (vecErr (sample.getD k []) != 0) = true := by rw [bne, beq_eq_false_iff_ne.2 q1]; rfl
            have ha : sample.any (oddN cuts.length) = true := List.any_eq_true.2 ⟨_, getD_mem hka, by unfold oddN; exact decide_eq_true (.inl q1)⟩
            have hE : trE w cuts way sample = 1 := if_pos (.inr ha)
            rw [hE, show trW w cuts way sample = 0 from if_neg (by rw [hE]; decide), show trC w cuts way sample = [] from if_neg (by rw [hE]; decide)]
            repeat' (first | simp only [go_sem, hs, q1b, rows_nil, Ret_eq Try.results68] | simp (disch := omega) only [arith, IntKind.bits, capMax, fill_len, elt_fill] | (refine opCallI_rd (by simp only [go_sem, hs, q1b, rows_nil, Ret_eq Try.results68]; first | done | rfl) (hv) (by rintro _ rfl; rfl) ?_; rintro _ rfl) | fail)
            all_goals rfl
        · obtain rfl : k = sample.length := by omega
          rw [List.take_length] at hQ
          have hsok : sampleOk cuts.length sample := hQ
          by_cases hlong : 4096 < sample.length
          · have hE : trE w cuts way sample = 3 := by
              unfold trE
              rw [if_neg, if_pos hlong]
              rintro (q | q)
              · exact q ⟨hb, hw⟩
              · rw [sampleOk_iff.2 hsok] at q; cases q
            rw [hE, show trW w cuts way sample = 0 from if_neg (by rw [hE]; decide), show trC w cuts way sample = [] from if_neg (by rw [hE]; decide)]
            repeat' (first | simp only [go_sem, hs, rows_nil, Ret_eq Try.results68] | simp (disch := omega) only [arith, IntKind.bits, capMax, fill_len, elt_fill] | fail)
            all_goals rfl
          · have hE : trE w cuts way sample = 0 := trE_zero.2 ⟨hb, hw, hsok, by omega⟩
            rw [hE, show trW w cuts way sample = (if sample = [] then w else way) from if_pos hE, show trC w cuts way sample = (if sample = [] then cuts else trCuts cuts.length (manyOf cuts + 1) way sample) from if_pos hE]
            by_cases h0 : sample = []
            · subst h0
              have hcp := copyBook_fun w cuts (by omega) (fun c hc => by have := (hrow c hc).1; omega)
              rw [if_pos rfl, if_pos rfl]
              repeat' (first | simp only [go_sem, hs, Ret_eq Try.results68] | (refine opCallI_gv (by simp only [go_sem, hs, Ret_eq Try.results68]; first | done | rfl) (hcp) ?_; rintro _ rfl) | fail)
              all_goals first | done | rfl | (exfalso; rename ¬ _ => hq; exact hq rfl)
            · have hlen : 1 ≤ sample.length := by
                cases sample with
                | nil => exact absurd rfl h0
                | cons a l => simp
              have hl1b : ((sample.length : Int) == 0) = false := beq_eq_false_iff_ne.2 (by omega)
              rw [if_neg h0, if_neg h0]
              obtain ⟨w1, w2⟩ := wayErr_zero hw
              have hTl : (turnedL way sample).length = sample.length := by simp [turnedL]
              have hCl := trCuts_length (n := cuts.length) (cells := manyOf cuts + 1) (way := way) (sample := sample)
              repeat' (first | simp only [go_sem, hs, hl1b, Ret_eq Try.results68] | simp (disch := omega) only [arith, IntKind.bits, capMax, fill_len, elt_fill] | fail)
              refine awpI_for cuts.length (fun i => True) (fun i => [(61, .v (.int .i64 i))]) (fun i => match i with | 0 => [(11, ⟨73, 2, [.agg [.v (.int .i64 way), .v (.slice none 0 0)]]⟩)] | i + 1 => [(11, ⟨73, 2, [.agg [.v (.int .i64 way), .ref 99 (i + 1)]]⟩), (99, ⟨22, 1, rows .i16 ((trCuts cuts.length (manyOf cuts + 1) way sample).take (i + 1))⟩)]) [1, 2, 3, 6, 11, 60] [3, 6] _ (Weak.refl _) trivial ?_ ?_ ?_
              · simp only [go_sem, hs, Ret_eq Try.results68]
              · simp only [go_sem, hs, Ret_eq Try.results68]
              · intro i s2 hi0 _ hs2
                by_cases hin : i < cuts.length
                · have hll : (colOf (turnedL way sample) i).length = sample.length := by rw [colOf_length, hTl]
                  have hlk : ∀ k, k < sample.length → (colOf (turnedL way sample) i).getD k 0 = ((turnedL way sample).getD k []).getD i 0 := fun k hk => by
                    simp [colOf, List.getD, hTl, hk]
                  have hcI : I16s (colOf (turnedL way sample) i) := fun x hx => by
                    obtain ⟨u, hu, rfl⟩ := List.mem_map.1 hx
                    obtain ⟨v, hv, rfl⟩ := List.mem_map.1 hu
                    exact ((turnL_ok (hI v hv) (vecErr_zero.1 (hsok v hv).1) way.toNat).2).getD i
                  have hrz : rkE (colOf (turnedL way sample) i) ((manyOf cuts + 1 : Nat) : Int) = 0 := rkE_zero.2 ⟨by omega, by omega, col_ok hsok hI hin, by omega⟩
                  have hro : rkOut (colOf (turnedL way sample) i) ((manyOf cuts + 1 : Nat) : Int) = (trCuts cuts.length (manyOf cuts + 1) way sample).getD i [] := by
                    unfold rkOut; rw [if_pos hrz, Int.toNat_natCast, trCuts_at hin]
                  have hrk := refRankCuts_fun (colOf (turnedL way sample) i) ((manyOf cuts + 1 : Nat) : Int) hcI (by omega)
                  rw [hrz, hro] at hrk
                  have hm0 : (cuts.getD 0 []).length = manyOf cuts := rfl
                  have e := take_snoc (a := trCuts cuts.length (manyOf cuts + 1) way sample) (d := ([] : List Int)) (k := i) (by omega)
                  generalize hcol : colOf (turnedL way sample) i = l at *
                  cases i with
                  | zero =>
                    simp only [go_sem, hs, Ret_eq Try.results68] at hs2
                    repeat' (first | simp only [go_sem, hs, hs2, Ret_eq Try.results68] | simp (disch := omega) only [arith, IntKind.bits, capMax, fill_len, elt_fill] | fail)
                    refine awpI_for sample.length (fun k => True) (fun k => [(13, .ref 82 k), (66, .v (.int .i64 k))]) (fun k => [(82, ⟨23, 1, ints .i16 (l.take k)⟩)]) [1, 2, 3, 6, 11, 12, 60, 61, 64, 65] [3, 6, 11] _ (Weak.adopt (j := 13) 82 23 1 (by simp only [go_sem, hs, hs2, Ret_eq Try.results68]) (by simp only [go_sem, hs, hs2, Ret_eq Try.results68]) (by decide)) trivial ?_ ?_ ?_
                    · simp only [go_sem, hs, hs2, Ret_eq Try.results68]
                    · simp only [go_sem, hs, hs2, List.take_zero, ints_nil, Ret_eq Try.results68]
                    · intro k s3 hk _ hs3
                      simp only [go_sem, hs, hs2, Ret_eq Try.results68] at hs3
                      by_cases hkb : k < sample.length
                      · have hvk := hsok _ (getD_mem (d := []) hkb)
                        have htu := refTurn_fun (sample.getD k []) way (hI.getD k)
                        have hgk : (turnedL way sample).getD k [] = turnL (sample.getD k []) way.toNat := by
                          simp [turnedL, List.getD, hkb]
                        rw [turnOut_ok ⟨hvk.1, w1, w2⟩, turnErr_iff.2 ⟨hvk.1, w1, w2⟩, ← hgk] at htu
                        have htl : ((turnedL way sample).getD k []).length = cuts.length := by rw [hgk, turnL_length]; exact hvk.2
                        have hx := hlk k hkb
                        have e2 := take_snoc (a := l) (d := (0 : Int)) (k := k) (by omega)
                        rw [hx] at e2
                        have htk : (l.take k).length = k := by rw [List.length_take]; omega
                        have hIi : ((0 : Nat) : Int) < (cuts.length : Int) := by omega
                        repeat' (first | simp only [go_sem, hs, hs2, hs3, e2, htk, htl, List.length_append, List.length_cons, List.length_nil, Ret_eq Try.results68] | simp (disch := omega) only [arith, IntKind.bits, capMax, fill_len, elt_fill] | (refine Again.up (by omega) ?_ ?_) | (refine opCallI_gv (by simp only [go_sem, hs, hs2, hs3, e2, htk, htl, List.length_append, List.length_cons, List.length_nil, Ret_eq Try.results68]; first | done | rfl) (htu) ?_; rintro _ rfl) | fail)
                        all_goals skip
                      · obtain rfl : k = sample.length := by omega
                        have hlt2 : l.take sample.length = l := List.take_of_length_le (by omega)
                        rw [hlt2] at hs3
                        repeat' (first | simp only [go_sem, hs, hs2, hs3, hlt2, hll, hm0, e, List.length_append, List.length_cons, List.length_nil, Ret_eq Try.results68] | simp (disch := omega) only [arith, IntKind.bits, capMax, fill_len, elt_fill] | (refine Again.up (by omega) ?_ ?_) | (refine opCallI_gv (by simp only [go_sem, hs, hs2, hs3, hlt2, hll, hm0, e, List.length_append, List.length_cons, List.length_nil, Ret_eq Try.results68]; first | done | rfl) (hrk) ?_; rintro _ rfl) | fail)
                        all_goals first | done | rfl | exact ⟨rfl, rfl⟩
                  | succ i =>
                    simp only [go_sem, hs, Ret_eq Try.results68] at hs2
                    have hlt : ((trCuts cuts.length (manyOf cuts + 1) way sample).take (i + 1)).length = i + 1 := by rw [List.length_take]; omega
                    repeat' (first | simp only [go_sem, hs, hs2, Ret_eq Try.results68] | simp (disch := omega) only [arith, IntKind.bits, capMax, fill_len, elt_fill] | fail)
                    refine awpI_for sample.length (fun k => True) (fun k => [(13, .ref 82 k), (66, .v (.int .i64 k))]) (fun k => [(82, ⟨23, 1, ints .i16 (l.take k)⟩)]) [1, 2, 3, 6, 11, 12, 60, 61, 64, 65] [3, 6, 11, 99] _ (Weak.adopt (j := 13) 82 23 1 (by simp only [go_sem, hs, hs2, Ret_eq Try.results68]) (by simp only [go_sem, hs, hs2, Ret_eq Try.results68]) (by decide)) trivial ?_ ?_ ?_
                    · simp only [go_sem, hs, hs2, Ret_eq Try.results68]
                    · simp only [go_sem, hs, hs2, List.take_zero, ints_nil, Ret_eq Try.results68]
                    · intro k s3 hk _ hs3
                      simp only [go_sem, hs, hs2, Ret_eq Try.results68] at hs3
                      by_cases hkb : k < sample.length
                      · have hvk := hsok _ (getD_mem (d := []) hkb)
                        have htu := refTurn_fun (sample.getD k []) way (hI.getD k)
                        have hgk : (turnedL way sample).getD k [] = turnL (sample.getD k []) way.toNat := by
                          simp [turnedL, List.getD, hkb]
                        rw [turnOut_ok ⟨hvk.1, w1, w2⟩, turnErr_iff.2 ⟨hvk.1, w1, w2⟩, ← hgk] at htu
                        have htl : ((turnedL way sample).getD k []).length = cuts.length := by rw [hgk, turnL_length]; exact hvk.2
                        have hx := hlk k hkb
                        have e2 := take_snoc (a := l) (d := (0 : Int)) (k := k) (by omega)
                        rw [hx] at e2
                        have htk : (l.take k).length = k := by rw [List.length_take]; omega
                        have hIi : (((i + 1) : Nat) : Int) < (cuts.length : Int) := by omega
                        repeat' (first | simp only [go_sem, hs, hs2, hs3, e2, htk, htl, List.length_append, List.length_cons, List.length_nil, Ret_eq Try.results68] | simp (disch := omega) only [arith, IntKind.bits, capMax, fill_len, elt_fill] | (refine Again.up (by omega) ?_ ?_) | (refine opCallI_gv (by simp only [go_sem, hs, hs2, hs3, e2, htk, htl, List.length_append, List.length_cons, List.length_nil, Ret_eq Try.results68]; first | done | rfl) (htu) ?_; rintro _ rfl) | fail)
                        all_goals skip
                      · obtain rfl : k = sample.length := by omega
                        have hlt2 : l.take sample.length = l := List.take_of_length_le (by omega)
                        rw [hlt2] at hs3
                        repeat' (first | simp only [go_sem, hs, hs2, hs3, hlt2, hll, hm0, e, hlt, List.length_append, List.length_cons, List.length_nil, Ret_eq Try.results68] | simp (disch := omega) only [arith, IntKind.bits, capMax, fill_len, elt_fill] | (refine Again.up (by omega) ?_ ?_) | (refine opCallI_gv (by simp only [go_sem, hs, hs2, hs3, hlt2, hll, hm0, e, hlt, List.length_append, List.length_cons, List.length_nil, Ret_eq Try.results68]; first | done | rfl) (hrk) ?_; rintro _ rfl) | fail)
                        all_goals skip
                · obtain rfl : i = cuts.length := by omega
                  cases hcu : cuts.length with
                  | zero => omega
                  | succ m =>
                    rw [hcu] at hs2
                    simp only [go_sem, hs, Ret_eq Try.results68] at hs2
                    have hta : (trCuts (m + 1) (manyOf cuts + 1) way sample).take (m + 1) = trCuts (m + 1) (manyOf cuts + 1) way sample := List.take_of_length_le (by rw [hcu] at hCl; omega)
                    rw [hcu] at hCl
                    repeat' (first | simp only [go_sem, hs, hs2, hta, hcu, hCl, Ret_eq Try.results68] | simp (disch := omega) only [arith, IntKind.bits, capMax, fill_len, elt_fill] | fail)
                    all_goals skip
    · have hE : trE w cuts way sample = 1 := if_pos (.inl fun q => hw q.2)
      rw [hE, show trW w cuts way sample = 0 from if_neg (by rw [hE]; decide), show trC w cuts way sample = [] from if_neg (by rw [hE]; decide)]
      rw [decide_eq_false hw] at hmy
      rw [hb] at hbc
      refine Fun.of_awpI Try.func68 rfl cal68 Try.ntmps68 (by simp) fun hwf => ?_
      simp only [D.wfs, D.wf, ints_length, ints_wfs, rows_length, rows_wfs, capMax, and_true, true_and] at hwf
      repeat' (first | simp only [go_sem, bne_self_eq_false, rows_nil, Ret_eq Try.results68] | (refine opCallI_rd (by simp only [go_sem, bne_self_eq_false, rows_nil, Ret_eq Try.results68]; first | done | rfl) (hbc) (by rintro _ rfl; rfl) ?_; rintro _ rfl) | (refine opCallI_rd (by simp only [go_sem, bne_self_eq_false, rows_nil, Ret_eq Try.results68]; first | done | rfl) (hmy) (by rintro _ rfl; rfl) ?_; rintro _ rfl) | fail)
      all_goals rfl
  · have hE : trE w cuts way sample = 1 := if_pos (.inl fun q => hb q.1)
    rw [hE, show trW w cuts way sample = 0 from if_neg (by rw [hE]; decide), show trC w cuts way sample = [] from if_neg (by rw [hE]; decide)]
    have hbb : (bookErr w cuts != 0) = true := by rw [bne, beq_eq_false_iff_ne.2 hb]; rfl
    refine Fun.of_awpI Try.func68 rfl cal68 Try.ntmps68 (by simp) fun hwf => ?_
    simp only [D.wfs, D.wf, ints_length, ints_wfs, rows_length, rows_wfs, capMax, and_true, true_and] at hwf
    repeat' (first | simp only [go_sem, hbb, rows_nil, Ret_eq Try.results68] | (refine opCallI_rd (by simp only [go_sem, hbb, rows_nil, Ret_eq Try.results68]; first | done | rfl) (hbc) (by rintro _ rfl; rfl) ?_; rintro _ rfl) | fail)
    all_goals rfl
end Go.Proofs.Ytpkampecmlpfmaa.T

end
section
set_option linter.unusedSimpArgs false
set_option linter.unusedVariables false
/- The document's check of slots, walked. -/
namespace Go.Proofs.Ytpkampecmlpfmaa.T
open Go Go.VL Go.Proofs
set_option maxRecDepth 100000
set_option maxHeartbeats 4000000

theorem refId_fun (n : Int) : Fun Try.prog 106 [.v (.int .i64 n)] fun r => r = .v (.bool (decide (0 ≤ n ∧ n ≤ 2147483647))) := by
  by_cases h1 : 0 ≤ n
  · by_cases h2 : n ≤ 2147483647
    · rw [decide_eq_true ⟨h1, h2⟩]
      refine Fun.of_awpI Try.func106 rfl cal106 Try.ntmps106 (by simp) fun hwf => ?_
      simp only [D.wfs, D.wf, ints_length, ints_wfs, rows_length, rows_wfs, capMax, and_true, true_and] at hwf
      repeat' (first | simp only [go_sem, Ret_eq Try.results106] | simp (disch := omega) only [arith, IntKind.bits, capMax, fill_len, elt_fill] | fail)
    · rw [decide_eq_false (fun q => h2 q.2)]
      refine Fun.of_awpI Try.func106 rfl cal106 Try.ntmps106 (by simp) fun hwf => ?_
      simp only [D.wfs, D.wf, ints_length, ints_wfs, rows_length, rows_wfs, capMax, and_true, true_and] at hwf
      repeat' (first | simp only [go_sem, Ret_eq Try.results106] | simp (disch := omega) only [arith, IntKind.bits, capMax, fill_len, elt_fill] | fail)
  · rw [decide_eq_false (fun q => h1 q.1)]
    refine Fun.of_awpI Try.func106 rfl cal106 Try.ntmps106 (by simp) fun hwf => ?_
    simp only [D.wfs, D.wf, ints_length, ints_wfs, rows_length, rows_wfs, capMax, and_true, true_and] at hwf
    repeat' (first | simp only [go_sem, Ret_eq Try.results106] | simp (disch := omega) only [arith, IntKind.bits, capMax, fill_len, elt_fill] | fail)

theorem refSCheck_fun (dim : Int) (ids : List Int) (vecs : List (List Int)) : Fun Try.prog 49 [slotsD dim ids vecs] fun r => r = .v (.int .i64 (slotsErr dim ids vecs)) := by
  have bad : ¬ slotsOk dim ids vecs → slotsErr dim ids vecs = 1 := fun h => if_neg h
  by_cases h1 : 1 ≤ dim
  · by_cases h2 : dim ≤ 64
    · by_cases h3 : 1 ≤ ids.length
      · by_cases h4 : ids.length ≤ 256
        · by_cases h5 : vecs.length = ids.length
          · have h5b : ((vecs.length : Int) != (ids.length : Int)) = false := by rw [h5]; exact bne_self_eq_false _
            have badk : ∀ k, k < ids.length → ¬ slotOk dim ids vecs k → slotsErr dim ids vecs = 1 := fun k hk h => bad fun q => h (q.2.2.2 k hk)
            refine Fun.of_awpI Try.func49 rfl cal49 Try.ntmps49 (by simp) fun hwf => ?_
            simp only [D.wfs, D.wf, ints_length, ints_wfs, rows_length, rows_wfs, capMax, and_true, true_and] at hwf
            repeat' (first | simp only [go_sem, h5b, Ret_eq Try.results49] | simp (disch := omega) only [arith, IntKind.bits, capMax, fill_len, elt_fill] | fail)
            refine awpI_for ids.length (fun k => ∀ j, j < k → slotOk dim ids vecs j) (fun k => [(39, .v (.int .i64 k))]) (fun _ => []) [1, 37, 38] [1] _ (Weak.refl _) (fun j hj => absurd hj (Nat.not_lt_zero j)) ?_ ?_ ?_
            · simp only [go_sem, Ret_eq Try.results49]
            · simp only [go_sem, Ret_eq Try.results49]
            · intro k s hk hQ hs
              simp only [go_sem, Ret_eq Try.results49] at hs
              by_cases hka : k < ids.length
              · have hbk := badk k hka
                have hstep : slotOk dim ids vecs k → ∀ j, j < k + 1 → slotOk dim ids vecs j := fun h j hj => by
                  by_cases q : j < k
                  · exact hQ j q
                  · rw [show j = k by omega]; exact h
                have hvk : k < vecs.length := by omega
                by_cases q0 : ids.getD k 0 = -1
                · by_cases q1 : (vecs.getD k []).length = 0
                  · repeat' (first | simp only [go_sem, hs, q0, q1, beq_self_eq_true, bne_self_eq_false, Ret_eq Try.results49] | simp (disch := omega) only [arith, IntKind.bits, capMax, fill_len, elt_fill] | (refine Again.up (by omega) ?_ ?_) | fail)
                    exact hstep (.inl ⟨q0, q1⟩)
                  · have q1b : (((vecs.getD k []).length : Int) != 0) = true := by rw [bne, beq_eq_false_iff_ne.2 (by omega)]; rfl
                    rw [hbk (by rintro (h | h); exact q1 h.2; exact absurd q0 (by have := h.2.1.1; omega))]
                    repeat' (first | simp only [go_sem, hs, q0, q1b, beq_self_eq_true, Ret_eq Try.results49] | simp (disch := omega) only [arith, IntKind.bits, capMax, fill_len, elt_fill] | fail)
                · have q0b : (ids.getD k 0 == -1) = false := beq_eq_false_iff_ne.2 q0
                  have hid := refId_fun (ids.getD k 0)
                  have hvc := refVecCheck_fun (vecs.getD k [])
                  by_cases q2 : 0 ≤ ids.getD k 0 ∧ ids.getD k 0 ≤ 2147483647
                  · rw [decide_eq_true q2] at hid
                    by_cases q3 : vecErr (vecs.getD k []) = 0
                    · rw [q3] at hvc
                      by_cases q4 : ((vecs.getD k []).length : Int) = dim
                      · have q4b : (((vecs.getD k []).length : Int) != dim) = false := by rw [q4]; exact bne_self_eq_false _
                        have htl : (ids.take k).length = k := by rw [List.length_take]; omega
                        repeat' (first | simp only [go_sem, hs, q0b, q4b, bne_self_eq_false, Ret_eq Try.results49] | simp (disch := omega) only [arith, IntKind.bits, capMax, fill_len, elt_fill] | (refine awpI_draw2 (id := 9) (.one false 0 (.only 1 (.one false 2 (.one false 3 (.one false 4 (.one false 5 (.one false 6 (.one false 7 (.one false 8 (.only 9 (.one false 10 (.one false 11 (.one false 12 (.one false 13 (.one false 14 (.one false 15 (.one false 16 (.one false 17 (.one false 18 (.one false 19 (.one false 20 (.one false 21 (.one false 22 .done))))))))))))))))))))))) mixed (by decide +kernel) (by decide +kernel) ?_) | (refine opCallI_rd (by simp only [go_sem, hs, q0b, q4b, bne_self_eq_false, Ret_eq Try.results49]; first | done | rfl) (hid) (by rintro _ rfl; rfl) ?_; rintro _ rfl) | (refine opCallI_rd (by simp only [go_sem, hs, q0b, q4b, bne_self_eq_false, Ret_eq Try.results49]; first | done | rfl) (hvc) (by rintro _ rfl; rfl) ?_; rintro _ rfl) | fail)
                        refine awpI_for k (fun j => ∀ t, t < j → ids.getD t 0 ≠ ids.getD k 0) (fun j => [(81, .v (.int .i64 j))]) (fun _ => []) [1, 4, 37, 38, 39, 79, 80] [1] _ (Weak.refl _) (fun j hj => absurd hj (Nat.not_lt_zero j)) ?_ ?_ ?_
                        · simp only [go_sem, hs, Ret_eq Try.results49]
                        · simp only [go_sem, Ret_eq Try.results49]
                        · intro j s2 hj hQ2 hs2
                          simp only [go_sem, hs, Ret_eq Try.results49] at hs2
                          by_cases hja : j < k
                          · have hgt : (ids.take k).getD j 0 = ids.getD j 0 := by simp [List.getD, List.getElem?_take_of_lt hja]
                            by_cases q5 : ids.getD j 0 = ids.getD k 0
                            · rw [hbk (by
                                rintro (h | h)
                                · exact q0 h.1
                                · exact q0 ((dir_none k).1 h.1 j hja q5))]
                              repeat' (first | simp only [go_sem, hs, hs2, htl, hgt, q5, beq_self_eq_true, Ret_eq Try.results49] | simp (disch := omega) only [arith, IntKind.bits, capMax, fill_len, elt_fill] | fail)
                            · have q5b : (ids.getD j 0 == ids.getD k 0) = false := beq_eq_false_iff_ne.2 q5
                              repeat' (first | simp only [go_sem, hs, hs2, htl, hgt, q5b, Ret_eq Try.results49] | simp (disch := omega) only [arith, IntKind.bits, capMax, fill_len, elt_fill] | (refine Again.up (by omega) ?_ ?_) | fail)
                              intro t ht
                              by_cases q : t < j
                              · exact hQ2 t q
                              · rw [show t = j by omega]; exact q5
                          · obtain rfl : j = k := by omega
                            repeat' (first | simp only [go_sem, hs, hs2, htl, Ret_eq Try.results49] | simp (disch := omega) only [arith, IntKind.bits, capMax, fill_len, elt_fill] | (refine Again.up (by omega) ?_ ?_) | fail)
                            exact hstep (.inr ⟨(dir_none j).2 fun t ht e => absurd e (hQ2 t ht), q2, q3, q4⟩)
                      · have q4b : (((vecs.getD k []).length : Int) != dim) = true := by rw [bne, beq_eq_false_iff_ne.2 q4]; rfl
                        rw [hbk (by rintro (h | h); exact q0 h.1; exact q4 h.2.2.2)]
                        repeat' (first | simp only [go_sem, hs, q0b, q4b, bne_self_eq_false, Ret_eq Try.results49] | simp (disch := omega) only [arith, IntKind.bits, capMax, fill_len, elt_fill] | (refine awpI_draw2 (id := 9) (.one false 0 (.only 1 (.one false 2 (.one false 3 (.one false 4 (.one false 5 (.one false 6 (.one false 7 (.one false 8 (.only 9 (.one false 10 (.one false 11 (.one false 12 (.one false 13 (.one false 14 (.one false 15 (.one false 16 (.one false 17 (.one false 18 (.one false 19 (.one false 20 (.one false 21 (.one false 22 .done))))))))))))))))))))))) mixed (by decide +kernel) (by decide +kernel) ?_) | (refine opCallI_rd (by simp only [go_sem, hs, q0b, q4b, bne_self_eq_false, Ret_eq Try.results49]; first | done | rfl) (hid) (by rintro _ rfl; rfl) ?_; rintro _ rfl) | (refine opCallI_rd (by simp only [go_sem, hs, q0b, q4b, bne_self_eq_false, Ret_eq Try.results49]; first | done | rfl) (hvc) (by rintro _ rfl; rfl) ?_; rintro _ rfl) | fail)
                    · have q3b : (vecErr (vecs.getD k []) != 0) = true := by rw [bne, beq_eq_false_iff_ne.2 q3]; rfl
                      rw [hbk (by rintro (h | h); exact q0 h.1; exact q3 h.2.2.1)]
                      repeat' (first | simp only [go_sem, hs, q0b, q3b, Ret_eq Try.results49] | simp (disch := omega) only [arith, IntKind.bits, capMax, fill_len, elt_fill] | (refine awpI_draw2 (id := 9) (.one false 0 (.only 1 (.one false 2 (.one false 3 (.one false 4 (.one false 5 (.one false 6 (.one false 7 (.one false 8 (.only 9 (.one false 10 (.one false 11 (.one false 12 (.one false 13 (.one false 14 (.one false 15 (.one false 16 (.one false 17 (.one false 18 (.one false 19 (.one false 20 (.one false 21 (.one false 22 .done))))))))))))))))))))))) mixed (by decide +kernel) (by decide +kernel) ?_) | (refine opCallI_rd (by simp only [go_sem, hs, q0b, q3b, Ret_eq Try.results49]; first | done | rfl) (hid) (by rintro _ rfl; rfl) ?_; rintro _ rfl) | (refine opCallI_rd (by simp only [go_sem, hs, q0b, q3b, Ret_eq Try.results49]; first | done | rfl) (hvc) (by rintro _ rfl; rfl) ?_; rintro _ rfl) | fail)
                  · rw [decide_eq_false q2] at hid
                    rw [hbk (by rintro (h | h); exact q0 h.1; exact q2 h.2.1)]
                    repeat' (first | simp only [go_sem, hs, q0b, Ret_eq Try.results49] | simp (disch := omega) only [arith, IntKind.bits, capMax, fill_len, elt_fill] | (refine awpI_draw2 (id := 9) (.one false 0 (.only 1 (.one false 2 (.one false 3 (.one false 4 (.one false 5 (.one false 6 (.one false 7 (.one false 8 (.only 9 (.one false 10 (.one false 11 (.one false 12 (.one false 13 (.one false 14 (.one false 15 (.one false 16 (.one false 17 (.one false 18 (.one false 19 (.one false 20 (.one false 21 (.one false 22 .done))))))))))))))))))))))) mixed (by decide +kernel) (by decide +kernel) ?_) | (refine opCallI_rd (by simp only [go_sem, hs, q0b, Ret_eq Try.results49]; first | done | rfl) (hid) (by rintro _ rfl; rfl) ?_; rintro _ rfl) | fail)
              · obtain rfl : k = ids.length := by omega
                rw [show slotsErr dim ids vecs = 0 from if_pos ⟨⟨h1, h2⟩, ⟨h3, h4⟩, h5, hQ⟩]
                repeat' (first | simp only [go_sem, hs, Ret_eq Try.results49] | simp (disch := omega) only [arith, IntKind.bits, capMax, fill_len, elt_fill] | fail)
          · have h5b : ((vecs.length : Int) != (ids.length : Int)) = true := by rw [bne, beq_eq_false_iff_ne.2 (by omega)]; rfl
            rw [bad fun q => h5 q.2.2.1]
            refine Fun.of_awpI Try.func49 rfl cal49 Try.ntmps49 (by simp) fun hwf => ?_
            simp only [D.wfs, D.wf, ints_length, ints_wfs, rows_length, rows_wfs, capMax, and_true, true_and] at hwf
            repeat' (first | simp only [go_sem, h5b, Ret_eq Try.results49] | simp (disch := omega) only [arith, IntKind.bits, capMax, fill_len, elt_fill] | fail)
        · rw [bad fun q => h4 q.2.1.2]
          refine Fun.of_awpI Try.func49 rfl cal49 Try.ntmps49 (by simp) fun hwf => ?_
          simp only [D.wfs, D.wf, ints_length, ints_wfs, rows_length, rows_wfs, capMax, and_true, true_and] at hwf
          repeat' (first | simp only [go_sem, Ret_eq Try.results49] | simp (disch := omega) only [arith, IntKind.bits, capMax, fill_len, elt_fill] | fail)
      · rw [bad fun q => h3 q.2.1.1]
        refine Fun.of_awpI Try.func49 rfl cal49 Try.ntmps49 (by simp) fun hwf => ?_
        simp only [D.wfs, D.wf, ints_length, ints_wfs, rows_length, rows_wfs, capMax, and_true, true_and] at hwf
        repeat' (first | simp only [go_sem, Ret_eq Try.results49] | simp (disch := omega) only [arith, IntKind.bits, capMax, fill_len, elt_fill] | fail)
    · rw [bad fun q => h2 q.1.2]
      refine Fun.of_awpI Try.func49 rfl cal49 Try.ntmps49 (by simp) fun hwf => ?_
      simp only [D.wfs, D.wf, ints_length, ints_wfs, rows_length, rows_wfs, capMax, and_true, true_and] at hwf
      repeat' (first | simp only [go_sem, Ret_eq Try.results49] | simp (disch := omega) only [arith, IntKind.bits, capMax, fill_len, elt_fill] | fail)
  · rw [bad fun q => h1 q.1.1]
    refine Fun.of_awpI Try.func49 rfl cal49 Try.ntmps49 (by simp) fun hwf => ?_
    simp only [D.wfs, D.wf, ints_length, ints_wfs, rows_length, rows_wfs, capMax, and_true, true_and] at hwf
    repeat' (first | simp only [go_sem, Ret_eq Try.results49] | simp (disch := omega) only [arith, IntKind.bits, capMax, fill_len, elt_fill] | fail)
end Go.Proofs.Ytpkampecmlpfmaa.T

end
section
set_option linter.unusedSimpArgs false
set_option linter.unusedVariables false
/- The document's samples, walked. -/
namespace Go.Proofs.Ytpkampecmlpfmaa.T
open Go Go.VL Go.Proofs
set_option maxRecDepth 100000
set_option maxHeartbeats 8000000

theorem refBounds_fun (b all : Int) : Fun Try.prog 134 [.v (.int .i64 b), .v (.int .i64 all)] fun r => r = .v (.bool (decide ((1 ≤ b ∧ b ≤ 1024) ∧ 0 ≤ all ∧ all ≤ 4096))) := by
  by_cases h1 : 1 ≤ b
  · by_cases h2 : b ≤ 1024
    · by_cases h3 : 0 ≤ all
      · by_cases h4 : all ≤ 4096
        · rw [decide_eq_true ⟨⟨h1, h2⟩, h3, h4⟩]
          refine Fun.of_awpI Try.func134 rfl cal134 Try.ntmps134 (by simp) fun hwf => ?_
          simp only [D.wfs, D.wf, ints_length, ints_wfs, rows_length, rows_wfs, capMax, and_true, true_and] at hwf
          repeat' (first | simp only [go_sem, Ret_eq Try.results134] | simp (disch := omega) only [arith, IntKind.bits, capMax, fill_len, elt_fill] | fail)
          all_goals exact decide_eq_true h4
        · rw [decide_eq_false (fun q => h4 q.2.2)]
          refine Fun.of_awpI Try.func134 rfl cal134 Try.ntmps134 (by simp) fun hwf => ?_
          simp only [D.wfs, D.wf, ints_length, ints_wfs, rows_length, rows_wfs, capMax, and_true, true_and] at hwf
          repeat' (first | simp only [go_sem, Ret_eq Try.results134] | simp (disch := omega) only [arith, IntKind.bits, capMax, fill_len, elt_fill] | fail)
          all_goals exact decide_eq_false h4
      · rw [decide_eq_false (fun q => h3 q.2.1)]
        refine Fun.of_awpI Try.func134 rfl cal134 Try.ntmps134 (by simp) fun hwf => ?_
        simp only [D.wfs, D.wf, ints_length, ints_wfs, rows_length, rows_wfs, capMax, and_true, true_and] at hwf
        repeat' (first | simp only [go_sem, Ret_eq Try.results134] | simp (disch := omega) only [arith, IntKind.bits, capMax, fill_len, elt_fill] | fail)
    · rw [decide_eq_false (fun q => h2 q.1.2)]
      refine Fun.of_awpI Try.func134 rfl cal134 Try.ntmps134 (by simp) fun hwf => ?_
      simp only [D.wfs, D.wf, ints_length, ints_wfs, rows_length, rows_wfs, capMax, and_true, true_and] at hwf
      repeat' (first | simp only [go_sem, Ret_eq Try.results134] | simp (disch := omega) only [arith, IntKind.bits, capMax, fill_len, elt_fill] | fail)
  · rw [decide_eq_false (fun q => h1 q.1.1)]
    refine Fun.of_awpI Try.func134 rfl cal134 Try.ntmps134 (by simp) fun hwf => ?_
    simp only [D.wfs, D.wf, ints_length, ints_wfs, rows_length, rows_wfs, capMax, and_true, true_and] at hwf
    repeat' (first | simp only [go_sem, Ret_eq Try.results134] | simp (disch := omega) only [arith, IntKind.bits, capMax, fill_len, elt_fill] | fail)

theorem refNext_fun (x : Int) : Fun Try.prog 158 [.v (.int .u64 x)] fun r => r = .v (.int .u64 (nxt x)) := by
  refine Fun.of_awpI Try.func158 rfl cal158 Try.ntmps158 (by simp) fun hwf => ?_
  simp only [D.wfs, D.wf, ints_length, ints_wfs, rows_length, rows_wfs, capMax, and_true, true_and] at hwf
  repeat' (first | simp only [go_sem, Ret_eq Try.results158] | fail)
  rw [IntKind.wrap_u64, IntKind.wrap_u64]
  unfold nxt
  omega

theorem refLot_fun (x b : Int) (h : 1 ≤ b ∧ b ≤ 2147483648) : Fun Try.prog 135 [.v (.int .u64 x), .v (.int .i64 b)] fun r => r = .tup [.v (.int .i64 (lotOf (nxt x) b)), .v (.int .u64 (nxt x)), .v (.int .i64 0)] := by
  have hr := nxt_range x
  have hl := lotOf_range (x := nxt x) h.1
  have hn := refNext_fun x
  unfold lotOf at hl
  show Fun Try.prog 135 [.v (.int .u64 x), .v (.int .i64 b)] fun r => r = .tup [.v (.int .i64 (nxt x / 8589934592 % b)), .v (.int .u64 (nxt x)), .v (.int .i64 0)]
  generalize nxt x = y at *
  have e1 : y.tdiv 8589934592 = y / 8589934592 := Int.tdiv_eq_ediv_of_nonneg (by omega)
  have e2 : (y / 8589934592).tmod b = y / 8589934592 % b := Int.tmod_eq_emod_of_nonneg (by omega)
  have e3 : IntKind.i64.wrap (y / 8589934592 % b) = y / 8589934592 % b := IntWalk.i64_in _ (by omega)
  refine Fun.of_awpI Try.func135 rfl cal135 Try.ntmps135 (by simp) fun hwf => ?_
  simp only [D.wfs, D.wf, ints_length, ints_wfs, rows_length, rows_wfs, capMax, and_true, true_and] at hwf
  repeat' (first | simp only [go_sem, e1, e2, e3, Ret_eq Try.results135] | simp (disch := omega) only [arith, IntKind.bits, capMax, fill_len, elt_fill] | (refine opCallI_rd (by simp only [go_sem, e1, e2, e3, Ret_eq Try.results135]; first | done | rfl) (hn) (by rintro _ rfl; rfl) ?_; rintro _ rfl) | fail)

theorem refTCheck_fun (x a : Int) (s : List (List Int)) : Fun Try.prog 86 [trainD x a s] fun r => r = .v (.int .i64 (trainE a s)) := by
  by_cases h1 : 0 ≤ a
  · by_cases h2 : a ≤ 4096
    · by_cases h3 : (s.length : Int) ≤ a
      · skip
        refine Fun.of_awpI Try.func86 rfl cal86 Try.ntmps86 (by simp) fun hwf => ?_
        simp only [D.wfs, D.wf, ints_length, ints_wfs, rows_length, rows_wfs, capMax, and_true, true_and] at hwf
        repeat' (first | simp only [go_sem, Ret_eq Try.results86] | simp (disch := omega) only [arith, IntKind.bits, capMax, fill_len, elt_fill] | fail)
        refine awpI_for s.length (fun k => ∀ i, i < k → vecErr (s.getD i []) = 0) (fun k => [(24, .v (.int .i64 k))]) (fun _ => []) [22, 23] [] _ (Weak.refl _) (fun i hi => absurd hi (Nat.not_lt_zero i)) ?_ ?_ ?_
        · simp only [go_sem, Ret_eq Try.results86]
        · simp only [go_sem, Ret_eq Try.results86]
        · intro k st hk hQ hs
          simp only [go_sem, Ret_eq Try.results86] at hs
          by_cases hka : k < s.length
          · have hv := refVecCheck_fun (s.getD k [])
            by_cases q : vecErr (s.getD k []) = 0
            · rw [q] at hv
              repeat' (first | simp only [go_sem, hs, bne_self_eq_false, Ret_eq Try.results86] | simp (disch := omega) only [arith, IntKind.bits, capMax, fill_len, elt_fill] | (refine Again.up (by omega) ?_ ?_) | (refine opCallI_rd (by simp only [go_sem, hs, bne_self_eq_false, Ret_eq Try.results86]; first | done | rfl) (hv) (by rintro _ rfl; rfl) ?_; rintro _ rfl) | fail)
              intro i hi
              by_cases e : i < k
              · exact hQ i e
              · rw [show i = k by omega]; exact q
            · have qb : (vecErr (s.getD k []) != 0) = true := by rw [bne, beq_eq_false_iff_ne.2 q]; rfl
              rw [show trainE a s = 1 from if_neg fun z => q (z.2.2 _ (getD_mem hka))]
              repeat' (first | simp only [go_sem, hs, qb, Ret_eq Try.results86] | simp (disch := omega) only [arith, IntKind.bits, capMax, fill_len, elt_fill] | (refine opCallI_rd (by simp only [go_sem, hs, qb, Ret_eq Try.results86]; first | done | rfl) (hv) (by rintro _ rfl; rfl) ?_; rintro _ rfl) | fail)
          · obtain rfl : k = s.length := by omega
            have hall : ∀ v ∈ s, vecErr v = 0 := by
              intro v hv
              obtain ⟨i, hi, rfl⟩ := List.mem_iff_getElem.1 hv
              have := hQ i hi
              simpa [List.getD, hi] using this
            rw [show trainE a s = 0 from if_pos ⟨h3, h2, hall⟩]
            repeat' (first | simp only [go_sem, hs, Ret_eq Try.results86] | simp (disch := omega) only [arith, IntKind.bits, capMax, fill_len, elt_fill] | fail)
      · rw [show trainE a s = 1 from if_neg fun z => h3 z.1]
        refine Fun.of_awpI Try.func86 rfl cal86 Try.ntmps86 (by simp) fun hwf => ?_
        simp only [D.wfs, D.wf, ints_length, ints_wfs, rows_length, rows_wfs, capMax, and_true, true_and] at hwf
        repeat' (first | simp only [go_sem, Ret_eq Try.results86] | simp (disch := omega) only [arith, IntKind.bits, capMax, fill_len, elt_fill] | fail)
    · rw [show trainE a s = 1 from if_neg fun z => h2 z.2.1]
      refine Fun.of_awpI Try.func86 rfl cal86 Try.ntmps86 (by simp) fun hwf => ?_
      simp only [D.wfs, D.wf, ints_length, ints_wfs, rows_length, rows_wfs, capMax, and_true, true_and] at hwf
      repeat' (first | simp only [go_sem, Ret_eq Try.results86] | simp (disch := omega) only [arith, IntKind.bits, capMax, fill_len, elt_fill] | fail)
  · rw [show trainE a s = 1 from if_neg fun z => h1 (by have := z.1; omega)]
    refine Fun.of_awpI Try.func86 rfl cal86 Try.ntmps86 (by simp) fun hwf => ?_
    simp only [D.wfs, D.wf, ints_length, ints_wfs, rows_length, rows_wfs, capMax, and_true, true_and] at hwf
    repeat' (first | simp only [go_sem, Ret_eq Try.results86] | simp (disch := omega) only [arith, IntKind.bits, capMax, fill_len, elt_fill] | fail)

theorem refTNew_fun (n : Int) (h : 0 ≤ n ∧ n ≤ 9223372036854775807) : Fun Try.prog 80 [.v (.int .i64 n)] fun r => r = .tup [trainD n 0 [], .v (.int .i64 0)] := by
  refine Fun.of_awpI Try.func80 rfl cal80 Try.ntmps80 (by simp) fun hwf => ?_
  simp only [D.wfs, D.wf, ints_length, ints_wfs, rows_length, rows_wfs, capMax, and_true, true_and] at hwf
  repeat' (first | simp only [go_sem, rows_nil, Ret_eq Try.results80] | simp (disch := omega) only [arith, IntKind.bits, capMax, fill_len, elt_fill] | fail)
  all_goals rfl

theorem refTNew_bad (n : Int) (h : n < 0) : Fun Try.prog 80 [.v (.int .i64 n)] fun r => r = .tup [trainD 0 0 [], .v (.int .i64 1)] := by
  refine Fun.of_awpI Try.func80 rfl cal80 Try.ntmps80 (by simp) fun hwf => ?_
  simp only [D.wfs, D.wf, ints_length, ints_wfs, rows_length, rows_wfs, capMax, and_true, true_and] at hwf
  repeat' (first | simp only [go_sem, rows_nil, Ret_eq Try.results80] | simp (disch := omega) only [arith, IntKind.bits, capMax, fill_len, elt_fill] | fail)
  all_goals rfl

theorem refTSame_fun (x a : Int) (s : List (List Int)) (x2 a2 : Int) (s2 : List (List Int)) : Fun Try.prog 85 [trainD x a s, trainD x2 a2 s2] fun r => r = .v (.bool (decide (x = x2 ∧ a = a2 ∧ s = s2))) := by
  have h3 := sameVecs_fun s s2
  refine Fun.of_awpI Try.func85 rfl cal85 Try.ntmps85 (by simp) fun hwf => ?_
  simp only [D.wfs, D.wf, ints_length, ints_wfs, rows_length, rows_wfs, capMax, and_true, true_and] at hwf
  by_cases g1 : x = x2
  · have b1 : (x == x2) = true := beq_iff_eq.2 g1
    by_cases g2 : a = a2
    · have b2 : (a == a2) = true := beq_iff_eq.2 g2
      have e : decide (x = x2 ∧ a = a2 ∧ s = s2) = decide (s = s2) := by simp [g1, g2]
      rw [e]
      repeat' (first | simp only [go_sem, b1, b2, Ret_eq Try.results85] | (refine opCallI_rd (by simp only [go_sem, b1, b2, Ret_eq Try.results85]; first | done | rfl) (h3) (by rintro _ rfl; rfl) ?_; rintro _ rfl) | fail)
    · have b2 : (a == a2) = false := beq_eq_false_iff_ne.2 g2
      rw [decide_eq_false (fun q => g2 q.2.1)]
      repeat' (first | simp only [go_sem, b1, b2, Ret_eq Try.results85] | fail)
  · have b1 : (x == x2) = false := beq_eq_false_iff_ne.2 g1
    rw [decide_eq_false (fun q => g1 q.1)]
    repeat' (first | simp only [go_sem, b1, Ret_eq Try.results85] | fail)

theorem refTEnd_fun (x a : Int) (s : List (List Int)) (w : Int) (cuts : List (List Int)) (hx : 0 ≤ x ∧ x < 18446744073709551616) (hI : I16r s) (hc : I16r cuts) : Fun Try.prog 84 [trainD x a s, bookD w cuts] fun r => r = .tup [bookD (endW x a s w cuts) (endC x a s w cuts), .v (.int .i64 (endE x a s w cuts))] := by
  have hch := refTCheck_fun x a s
  have ht := refTrain_fun w cuts (x / 4) s hI hc
  have hw : IntKind.i64.wrap (x / 4) = x / 4 := IntWalk.i64_in _ (by omega)
  have hfd : x.tdiv 4 = x / 4 := Int.tdiv_eq_ediv_of_nonneg (by omega)
  unfold endE endW endC
  by_cases h : trainOk a s
  · rw [if_pos h, if_pos h, if_pos h]
    rw [show trainE a s = 0 from if_pos h] at hch
    refine Fun.of_awpI Try.func84 rfl cal84 Try.ntmps84 (by simp) fun hwf => ?_
    simp only [D.wfs, D.wf, ints_length, ints_wfs, rows_length, rows_wfs, capMax, and_true, true_and] at hwf
    repeat' (first | simp only [go_sem, hfd, hw, bne_self_eq_false, Ret_eq Try.results84] | simp (disch := omega) only [arith, IntKind.bits, capMax, fill_len, elt_fill] | (refine opCallI_rd (by simp only [go_sem, hfd, hw, bne_self_eq_false, Ret_eq Try.results84]; first | done | rfl) (hch) (by rintro _ rfl; rfl) ?_; rintro _ rfl) | (refine opCallI_gv (by simp only [go_sem, hfd, hw, bne_self_eq_false, Ret_eq Try.results84]; first | done | rfl) (ht) ?_; rintro _ rfl) | fail)
    all_goals skip
  · rw [if_neg h, if_neg h, if_neg h]
    rw [show trainE a s = 1 from if_neg h] at hch
    refine Fun.of_awpI Try.func84 rfl cal84 Try.ntmps84 (by simp) fun hwf => ?_
    simp only [D.wfs, D.wf, ints_length, ints_wfs, rows_length, rows_wfs, capMax, and_true, true_and] at hwf
    repeat' (first | simp only [go_sem, rows_nil, Ret_eq Try.results84] | (refine opCallI_rd (by simp only [go_sem, rows_nil, Ret_eq Try.results84]; first | done | rfl) (hch) (by rintro _ rfl; rfl) ?_; rintro _ rfl) | fail)
    all_goals rfl
theorem ups_lt {M b k : Nat} (hb : 1 ≤ b) : k < (M + b - 1) / b ↔ k * b < M := by
  show k + 1 ≤ _ ↔ _
  rw [Nat.le_div_iff_mul_le (by omega), Nat.succ_mul]
  omega

theorem refSteps_fun (x a : Int) (s : List (List Int)) (budget all : Int) : Fun Try.prog 83 [trainD x a s, .v (.int .i64 budget), .v (.int .i64 all)] fun r => r = .tup [.v (.int .i64 (if chkOk a s budget all then (max (all - a) 0 + budget - 1) / budget else 0)), .v (.int .i64 (chkE a s budget all))] := by
  have hc := refTCheck_fun x a s
  have hbd := refBounds_fun budget all
  by_cases h : chkOk a s budget all
  · rw [show chkE a s budget all = 0 from if_pos h, if_pos h]
    obtain ⟨h1, h2, h3⟩ := h
    rw [show trainE a s = 0 from if_pos h1] at hc
    rw [decide_eq_true ⟨h2, h3⟩] at hbd
    obtain ⟨h4, h5, h6⟩ := h1
    obtain ⟨b, rfl⟩ : ∃ b : Nat, budget = b := ⟨budget.toNat, by omega⟩
    obtain ⟨M, hM⟩ : ∃ M : Nat, max (all - a) 0 = M := ⟨(max (all - a) 0).toNat, by omega⟩
    have hN : (max (all - a) 0 + (b : Int) - 1) / (b : Int) = (((M + b - 1) / b : Nat) : Int) := by
      rw [hM, show (M : Int) + (b : Int) - 1 = ((M + b - 1 : Nat) : Int) by omega]; rfl
    rw [hN]
    have hlt := fun k => ups_lt (M := M) (b := b) (k := k) (by omega)
    have hle : (M + b - 1) / b ≤ M + b - 1 := Nat.div_le_self _ _
    generalize (M + b - 1) / b = N at *
    refine Fun.of_awpI Try.func83 rfl cal83 Try.ntmps83 (by simp) fun hwf => ?_
    simp only [D.wfs, D.wf, ints_length, ints_wfs, rows_length, rows_wfs, capMax, and_true, true_and] at hwf
    repeat' (first | simp only [go_sem, bne_self_eq_false, Ret_eq Try.results83] | (refine opCallI_rd (by simp only [go_sem, bne_self_eq_false, Ret_eq Try.results83]; first | done | rfl) (hc) (by rintro _ rfl; rfl) ?_; rintro _ rfl) | (refine opCallI_rd (by simp only [go_sem, bne_self_eq_false, Ret_eq Try.results83]; first | done | rfl) (hbd) (by rintro _ rfl; rfl) ?_; rintro _ rfl) | fail)
    refine awpI_for N (fun k => True) (fun k => [(8, .v (.int .i64 k)), (9, .v (.int .i64 (a + ((k * b : Nat) : Int))))]) (fun _ => []) [1, 2] [] _ (Weak.refl _) trivial ?_ ?_ ?_
    · simp only [go_sem, Ret_eq Try.results83]
      simp
    · simp only [go_sem, Ret_eq Try.results83]
    · intro k st hk _ hs
      simp only [go_sem, Ret_eq Try.results83] at hs
      have hk1 := hlt k
      have hs1 : (k + 1) * b = k * b + b := Nat.succ_mul k b
      have hkb : k * b ≤ N * b := Nat.mul_le_mul_right b hk
      have hNb : ∀ j, N = j + 1 → N * b = j * b + b := fun j e => by rw [e, Nat.succ_mul]
      have hNM : N * b ≤ M + b := by
        cases hNe : N with
        | zero => omega
        | succ j =>
          have := (hlt j).1 (by omega)
          rw [Nat.succ_mul]; omega
      by_cases hka : k < N
      · have hl := hk1.1 hka
        have e9 : a + ((k * b : Nat) : Int) + (b : Int) = a + (((k + 1) * b : Nat) : Int) := by rw [hs1]; omega
        generalize hp : k * b = p at *
        repeat' (first | simp only [go_sem, hs, e9, Ret_eq Try.results83] | simp (disch := omega) only [arith, IntKind.bits, capMax, fill_len, elt_fill] | (refine Again.up (by omega) ?_ ?_) | fail)
        all_goals skip
      · obtain rfl : k = N := by omega
        have hl : ¬ k * b < M := fun q => hka (hk1.2 q)
        generalize hp : k * b = p at *
        repeat' (first | simp only [go_sem, hs, Ret_eq Try.results83] | simp (disch := omega) only [arith, IntKind.bits, capMax, fill_len, elt_fill] | fail)
        all_goals skip
  · rw [show chkE a s budget all = 1 from if_neg h, if_neg h]
    by_cases h1 : trainOk a s
    · rw [show trainE a s = 0 from if_pos h1] at hc
      rw [decide_eq_false (fun q => h ⟨h1, q⟩)] at hbd
      refine Fun.of_awpI Try.func83 rfl cal83 Try.ntmps83 (by simp) fun hwf => ?_
      simp only [D.wfs, D.wf, ints_length, ints_wfs, rows_length, rows_wfs, capMax, and_true, true_and] at hwf
      repeat' (first | simp only [go_sem, bne_self_eq_false, Ret_eq Try.results83] | (refine opCallI_rd (by simp only [go_sem, bne_self_eq_false, Ret_eq Try.results83]; first | done | rfl) (hc) (by rintro _ rfl; rfl) ?_; rintro _ rfl) | (refine opCallI_rd (by simp only [go_sem, bne_self_eq_false, Ret_eq Try.results83]; first | done | rfl) (hbd) (by rintro _ rfl; rfl) ?_; rintro _ rfl) | fail)
    · rw [show trainE a s = 1 from if_neg h1] at hc
      refine Fun.of_awpI Try.func83 rfl cal83 Try.ntmps83 (by simp) fun hwf => ?_
      simp only [D.wfs, D.wf, ints_length, ints_wfs, rows_length, rows_wfs, capMax, and_true, true_and] at hwf
      repeat' (first | simp only [go_sem, Ret_eq Try.results83] | (refine opCallI_rd (by simp only [go_sem, Ret_eq Try.results83]; first | done | rfl) (hc) (by rintro _ rfl; rfl) ?_; rintro _ rfl) | fail)
end Go.Proofs.Ytpkampecmlpfmaa.T

end
