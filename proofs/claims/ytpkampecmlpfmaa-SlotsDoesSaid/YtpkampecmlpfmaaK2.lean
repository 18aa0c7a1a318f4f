import Derived.Test.YtpkampecmlpfmaaK1
import Derived.Tactics2
set_option linter.unusedSimpArgs false
set_option linter.unusedVariables false
section
set_option linter.unusedSimpArgs false
set_option linter.unusedVariables false
/- The document's slots with one put or taken out, walked. -/
namespace Go.Proofs.Ytpkampecmlpfmaa.T
open Go Go.VL Go.Proofs
set_option maxRecDepth 100000
set_option maxHeartbeats 4000000
def ownC (ei ev : TypeId) (ids : List Int) (vecs : List (List Int)) : Nat → Option Own := fun m => if m = 2001 then some ⟨ei, 1, ints .i64 ids⟩ else if m = 2000 then some ⟨ev, 1, rows .i16 vecs⟩ else none
theorem ownC_ge {ei ev : TypeId} {ids : List Int} {vecs : List (List Int)} {dim : Int} : geTo 2000 (.agg [.v (.int .i64 dim), .ref 2001 ids.length, .ref 2000 vecs.length]) = true ∧ ∀ i o, ownC ei ev ids vecs i = some o → 2000 ≤ i ∧ geTos 2000 o.els = true := by
  refine ⟨rfl, fun i o h => ?_⟩
  unfold ownC at h
  by_cases h1 : i = 2001
  · rw [if_pos h1] at h; cases h
    refine ⟨by omega, ?_⟩
    have : ∀ l : List Int, geTos 2000 (ints .i64 l) = true := fun l => by
      induction l with
      | nil => rfl
      | cons x l ih => exact ih
    exact this _
  · rw [if_neg h1] at h
    by_cases h2 : i = 2000
    · rw [if_pos h2] at h; cases h
      refine ⟨by omega, ?_⟩
      have : ∀ l : List (List Int), geTos 2000 (rows .i16 l) = true := fun l => by
        induction l with
        | nil => rfl
        | cons x l ih => exact ih
      exact this _
    · rw [if_neg h2] at h; cases h

theorem refSCopy_own (dim : Int) (ids : List Int) (vecs : List (List Int)) (h1 : ids.length ≤ 500) (h2 : vecs.length ≤ 500) (h3 : ∀ v ∈ vecs, v.length ≤ 500) (h4 : 1 ≤ vecs.length) : FunM Try.prog 42 [slotsD dim ids vecs] fun r H =>
    r = .agg [.v (.int .i64 dim), .ref 2001 ids.length, .ref 2000 vecs.length] ∧ H = ownC 2 46 ids vecs := by
  refine FunM.of_awpS Try.func42 rfl cal42 Try.ntmps42 (by simp) fun hwf => ?_
  simp only [D.wfs, D.wf, ints_wfs, rows_wfs, ints_length, rows_length, and_true, true_and] at hwf
  repeat refine awpS_seq ?_
  refine awpS_last ?_
  repeat' (first | simp only [go_sem, Ret_eq Try.results42] | fail)
  repeat refine awpS_seq ?_
  refine awpS_mono (N := fun s2 => s2.n = 28 ∧ Slots s2 [(1, .adr 1 0 0), (2, .adr 2 0 0), (3, .adr 3 0 0)] ∧ Heaps s2 [(1, ⟨45, 3, [slotsD dim ids vecs]⟩), (2, ⟨45, 3, [.agg [.v (.int .i64 0), .v (.slice none 0 0), .v (.slice none 0 0)]]⟩), (3, ⟨45, 3, [.agg [.v (.int .i64 dim), .ref 10 ids.length, .v (.slice none 0 0)]]⟩), (10, ⟨2, 1, ints .i64 ids⟩)]) ?_ fun s2 hs2 => ?_
  · refine awpS_last ?_
    repeat' (first | simp only [go_sem, Ret_eq Try.results42] | simp (disch := omega) only [arith, IntKind.bits, capMax, fill_len, elt_fill] | (refine awpI_draw2 (id := 1) (.fam 2 [6] [3] [] (.fam 3 [6] [3] [] (.fam 0 [4, 6] [3, 10] [9] (.fam 1 [4, 6] [3, 10] [9] (.two 4 6 (.two 5 6 (.only 6 (.only 7 .done)) (.one false 5 (.only 7 .done))) (.only 4 (.one false 5 (.only 7 .done)))))))) mixed (by decide +kernel) (by decide +kernel) ?_) | (refine sch2I_two ?_ ?_) | fail)
    all_goals skip
  · simp only [go_sem, Ret_eq Try.results42] at hs2
    repeat refine awpS_seq ?_
    refine awpS_last ?_
    repeat' (first | simp only [go_sem, hs2, Ret_eq Try.results42] | fail)
    repeat refine awpS_seq ?_
    refine awpS_last ?_
    repeat' (first | simp only [go_sem, hs2, Ret_eq Try.results42] | fail)
    refine awpI_for vecs.length (fun k => True) (fun k => [(15, .v (.int .i64 k))]) (fun k => match k with | 0 => [(3, ⟨45, 3, [.agg [.v (.int .i64 dim), .ref 10 ids.length, .v (.slice none 0 0)]]⟩)] | k + 1 => [(3, ⟨45, 3, [.agg [.v (.int .i64 dim), .ref 10 ids.length, .ref 24 (k + 1)]]⟩), (24, ⟨46, 1, rows .i16 (vecs.take (k + 1))⟩)]) [2, 3, 13, 14] [2, 10] _ (Weak.refl _) trivial ?_ ?_ ?_
    · simp only [go_sem, hs2, Ret_eq Try.results42]
    · simp only [go_sem, hs2, Ret_eq Try.results42]
    · intro k s hk _ hs
      by_cases hka : k < vecs.length
      · have e := take_snoc (a := vecs) (d := []) hka
        have hcl := copy16_fun (vecs.getD k []) (by have := h3 _ (getD_mem (d := []) hka); omega)
        cases k with
        | zero =>
          simp only [go_sem, hs2, Ret_eq Try.results42] at hs
          repeat' (first | simp only [go_sem, hs, hs2, Ret_eq Try.results42] | simp (disch := omega) only [arith, IntKind.bits, capMax, fill_len, elt_fill] | (refine awpI_draw2 (id := 5) (.one false 2 (.fam 0 [3, 4] [22, 23] [21] (.fam 1 [3, 4] [22, 23] [21] (.only 3 (.only 4 (.only 5 (.one false 6 (.only 7 .done)))))))) mixed (by decide +kernel) (by decide +kernel) ?_) | (refine Again.up (by omega) ?_ ?_) | (refine opCallI_ownGv (by simp only [go_sem, hs, hs2, Ret_eq Try.results42]; first | done | rfl) (hcl) ?_; rintro _ _ ⟨rfl, rfl⟩) | fail)
          exact ⟨rfl, by rw [show List.take 1 vecs = _ from e]; rfl⟩
        | succ k =>
          simp only [go_sem, hs2, Ret_eq Try.results42] at hs
          have hlt : (vecs.take (k + 1)).length = k + 1 := by rw [List.length_take]; omega
          repeat' (first | simp only [go_sem, hs, hs2, e, hlt, List.length_append, Ret_eq Try.results42] | simp (disch := omega) only [arith, IntKind.bits, capMax, fill_len, elt_fill] | (refine awpI_draw2 (id := 5) (.one false 2 (.fam 0 [3, 4] [22, 23] [21] (.fam 1 [3, 4] [22, 23] [21] (.only 3 (.only 4 (.only 5 (.one false 6 (.only 7 .done)))))))) mixed (by decide +kernel) (by decide +kernel) ?_) | (refine Again.up (by omega) ?_ ?_) | (refine opCallI_ownGv (by simp only [go_sem, hs, hs2, e, hlt, List.length_append, Ret_eq Try.results42]; first | done | rfl) (hcl) ?_; rintro _ _ ⟨rfl, rfl⟩) | fail)
      · obtain rfl : k = vecs.length := by omega
        cases hcu : vecs.length with
        | zero => omega
        | succ k =>
          rw [hcu] at hs
          simp only [go_sem, hs2, Ret_eq Try.results42] at hs
          have hta : vecs.take (k + 1) = vecs := List.take_of_length_le (by omega)
          repeat' (first | simp only [go_sem, hs, hs2, hta, hcu, Ret_eq Try.results42] | simp (disch := omega) only [arith, IntKind.bits, capMax, fill_len, elt_fill] | fail)
          repeat refine awpS_seq ?_
          refine awpS_last ?_
          repeat' (first | simp only [go_sem, hs, hs2, hta, hcu, Ret_eq Try.results42] | fail)
          refine awpS_last ?_
          repeat' (first | simp only [go_sem, hs, hs2, hta, hcu, Ret_eq Try.results42] | fail)
          refine RetM_calc Try.results42 (Weak.give2 (a := 10) (b := 24) (rid := 2) (So := 3) (na := ids.length) (nb := k + 1) (eb := 45) (oa := ⟨2, 1, ints .i64 ids⟩) (ob := ⟨46, 1, rows .i16 vecs⟩) (Hx := fun _ => none) [.v (.int .i64 dim)] [(2, .adr 2 0 0)]
            (by decide) (by decide) (by decide) (by decide) (by decide) (by decide) (by simp only [go_sem, hs, hs2, Ret_eq Try.results42]) (by rfl) rfl (fun m o h => by cases h) (by simp only [go_sem, hs, hs2, Ret_eq Try.results42]) (by simp only [go_sem, hs, hs2, Ret_eq Try.results42]) ints_noRefs (by simp only [go_sem, hs, hs2, hta, Ret_eq Try.results42]) (ToMs.plain rows_noRefs) (ToMs.plain rows_noRefs))
            (ownC 2 46 ids vecs) (ds := [.agg [.v (.int .i64 dim), .ref 2001 ids.length, .ref 2000 (k + 1)]]) ?_ ?_ ⟨rfl, rfl⟩
          · simp only [go_sem, resDs, resD, pickT, Ret_eq Try.results42]
            all_goals skip
          · exact fun i o h => by
              show (if i = 2 then _ else ownC 2 46 ids vecs i) = some o
              rw [if_neg (by rintro rfl; cases h)]
              exact h
theorem set_takeI {l : List Int} {i : Nat} {x : Int} : (l.set i x).take l.length = l.set i x := List.take_of_length_le (by simp)
theorem set_takeR {l : List (List Int)} {i n : Nat} {x : List Int} (h : l.length = n) : (l.set i x).take n = l.set i x := List.take_of_length_le (by simp; omega)
theorem rowsN_noRefs {l : List (List Int)} {i : Nat} : D.noRefs ((rows .i16 l).set i nilD) = true := by
  rw [D.noRefs_eq, List.all_eq_true]
  intro d hd
  rcases List.mem_or_eq_of_mem_set hd with q | q
  · obtain ⟨r, _, rfl⟩ := List.mem_map.1 q; rfl
  · rw [q]; rfl
theorem rowsN_frzs {l : List (List Int)} {i k : Nat} {e : List D} : D.frzs k e ((rows .i16 l).set i nilD) = (rows .i16 l).set i nilD := D.noRef_frzs _ rowsN_noRefs _ _
theorem rowsN_kills {l : List (List Int)} {i k : Nat} : D.kills k ((rows .i16 l).set i nilD) = (rows .i16 l).set i nilD := D.noRef_kills _ rowsN_noRefs _
theorem rowsN_nrms {l : List (List Int)} {i : Nat} : D.nrms ((rows .i16 l).set i nilD) = rows .i16 (l.set i []) := by
  rw [D.nrms_eq, List.map_set, ← D.nrms_eq, rows_nrms]
  simp only [rows, List.map_set]
  rfl
theorem rowsN_width1 {l : List (List Int)} {i : Nat} : ((rows .i16 l).set i nilD).all (fun d => d.width == 1) = true := by
  rw [List.all_eq_true]
  intro d hd
  rcases List.mem_or_eq_of_mem_set hd with q | q
  · obtain ⟨r, _, rfl⟩ := List.mem_map.1 q; rfl
  · rw [q]; rfl

theorem copy16p_fun (v : List Int) (h : v.length ≤ 65536) : Fun Try.prog 105 [.lst (ints .i16 v)] fun r => r = .lst (ints .i16 v) := by
  refine (copy16_fun v h).toFun ?_
  rintro _ _ ⟨rfl, rfl⟩
  refine ⟨by simp only [go_sem, Ret_eq Try.results105], by simp only [go_sem, Ret_eq Try.results105], ?_⟩
  simp only [go_sem, Ret_eq Try.results105]

theorem refSPut_ok (dim : Int) (ids : List Int) (vecs : List (List Int)) (id : Int) (v : List Int) (hv : ∀ x ∈ vecs, x.length ≤ 500) (hv2 : v.length ≤ 500) (i : Nat) (hi : i < ids.length) (s1 : slotsOk dim ids vecs) (s2 : idOk id) (hvo : vecErr v = 0 ∧ (v.length : Int) = dim)
    (hat : idxI ids id = i ∨ (idxI ids id = -1 ∧ idxI ids (-1) = i)) :
    Fun Try.prog 45 [slotsD dim ids vecs, .v (.int .i64 id), .lst (ints .i16 v)] fun r => r = .tup [.v (.int .i64 i), slotsD dim (ids.set i id) (vecs.set i v), .v (.int .i64 0)] := by
  have hc := refSCheck_fun dim ids vecs
  rw [show slotsErr dim ids vecs = 0 from if_pos s1] at hc
  have hid := refId_fun id
  rw [decide_eq_true (show 0 ≤ id ∧ id ≤ 2147483647 from s2)] at hid
  have hvc := refVecCheck_fun v
  rw [hvo.1] at hvc
  have hlb : ((v.length : Int) != dim) = false := by rw [hvo.2]; exact bne_self_eq_false _
  have ha := refAt_fun dim ids vecs id
  have hb := refAt_fun dim ids vecs (-1)
  have hvl := s1.2.2.1
  have hidl := s1.2.1
  have hcp := refSCopy_own dim ids vecs (by omega) (by omega) hv (by omega)
  have hcv := copy16p_fun v (by omega)
  refine Fun.of_awpS Try.func45 rfl cal45 Try.ntmps45 (by simp) fun hwf => ?_
  simp only [D.wfs, D.wf, ints_wfs, rows_wfs, ints_length, rows_length, and_true, true_and] at hwf
  rcases hat with q | ⟨q, q2⟩
  · have q2 : True := trivial
    repeat refine awpS_seq ?_
    refine awpS_last ?_
    repeat' (first | simp only [go_sem, hlb, q, q2, bne_self_eq_false, Ret_eq Try.results45] | fail)
    repeat refine awpS_seq ?_
    refine awpS_last ?_
    repeat' (first | simp only [go_sem, hlb, q, q2, bne_self_eq_false, Ret_eq Try.results45] | (refine opCallI_rd (by simp only [go_sem, hlb, q, q2, bne_self_eq_false, Ret_eq Try.results45]; first | done | rfl) (hc) (by rintro _ rfl; rfl) ?_; rintro _ rfl) | (refine opCallI_rd (by simp only [go_sem, hlb, q, q2, bne_self_eq_false, Ret_eq Try.results45]; first | done | rfl) (hid) (by rintro _ rfl; rfl) ?_; rintro _ rfl) | (refine opCallI_rd (by simp only [go_sem, hlb, q, q2, bne_self_eq_false, Ret_eq Try.results45]; first | done | rfl) (hvc) (by rintro _ rfl; rfl) ?_; rintro _ rfl) | fail)
    repeat refine awpS_seq ?_
    refine awpS_last ?_
    repeat' (first | simp only [go_sem, hlb, q, q2, bne_self_eq_false, Ret_eq Try.results45] | fail)
    repeat refine awpS_seq ?_
    refine awpS_last ?_
    repeat' (first | simp only [go_sem, hlb, q, q2, bne_self_eq_false, Ret_eq Try.results45] | (refine opCallI_rd (by simp only [go_sem, hlb, q, q2, bne_self_eq_false, Ret_eq Try.results45]; first | done | rfl) (ha) (by rintro _ rfl; rfl) ?_; rintro _ rfl) | fail)
    repeat refine awpS_seq ?_
    refine awpS_last ?_
    repeat' (first | simp only [go_sem, hlb, q, q2, bne_self_eq_false, Ret_eq Try.results45] | simp (disch := omega) only [arith, IntKind.bits, capMax, fill_len, elt_fill] | fail)
    repeat refine awpS_seq ?_
    refine awpS_last ?_
    repeat' (first | simp only [go_sem, hlb, q, q2, bne_self_eq_false, Ret_eq Try.results45] | fail)
    repeat refine awpS_seq ?_
    refine awpS_last ?_
    repeat' (first | simp only [go_sem, hlb, q, q2, bne_self_eq_false, Ret_eq Try.results45] | simp (disch := omega) only [arith, IntKind.bits, capMax, fill_len, elt_fill] | fail)
    repeat refine awpS_seq ?_
    refine awpS_last ?_
    repeat' (first | simp only [go_sem, hlb, q, q2, bne_self_eq_false, Ret_eq Try.results45] | fail)
    repeat refine awpS_seq ?_
    refine awpS_nth 1 rfl rfl ?_
    repeat' (first | simp only [go_sem, Ret_eq Try.results45] | fail)
    refine opX_callM0 (al := [slotsD dim ids vecs]) 2000 [(1, .v (.int .i64 id)), (2, .lst (ints .i16 v)), (3, .adr 3 0 0), (6, .v (.int .i64 0)), (7, .adr 7 0 0), (8, .v (.int .i64 0)), (9, .v (.int .i64 i))] [(3, ⟨45, 3, [slotsD dim ids vecs]⟩), (7, ⟨45, 3, [.agg [.v (.int .i64 0), .v (.slice none 0 0), .v (.slice none 0 0)]]⟩)] rfl rfl (by simp only [go_sem, Ret_eq Try.results45]) (by rfl) (by simp only [go_sem, Ret_eq Try.results45]) hcp (by simp only [go_sem, Ret_eq Try.results45]) (by rfl) (by simp only [go_sem, Ret_eq Try.results45]) (by rfl) ?_ ?_
    · rintro _ _ ⟨rfl, rfl⟩
      exact ownC_ge
    rintro _ _ ⟨rfl, rfl⟩
    repeat' (first | simp only [go_sem, Ret_eq Try.results45] | fail)
    repeat refine awpS_seq ?_
    refine awpS_last ?_
    repeat' (first | simp only [go_sem, ownC, List.length_set, hvl, Ret_eq Try.results45] | simp (disch := omega) only [arith, IntKind.bits, capMax, fill_len, elt_fill] | fail)
    repeat refine awpS_seq ?_
    refine awpS_last ?_
    repeat' (first | simp only [go_sem, ownC, List.length_set, hvl, Ret_eq Try.results45] | simp (disch := omega) only [arith, IntKind.bits, capMax, fill_len, elt_fill] | (refine awpI_draw2 (id := 10) (.one false 3 (.cal 0 [4] (.cal 1 [4] (.cal 2 [4] (.only 4 (.one false 5 (.only 6 .done))))))) mixed (by decide +kernel) (by decide +kernel) ?_) | (refine opCallI_gv (by simp only [go_sem, ownC, List.length_set, hvl, Ret_eq Try.results45]; first | done | rfl) (hcv) ?_; rintro _ rfl) | fail)
    all_goals
      refine awpS_last ?_
      repeat' (first | simp only [go_sem, ownC, List.length_set, hvl, set_takeI, set_takeR hvl, Ret_eq Try.results45] | (refine awpI_draw2 (id := 11) (.one false 0 (.one false 1 (.one false 2 (.only 3 (.one false 4 .done))))) mixed (by decide +kernel) (by decide +kernel) ?_) | fail)
  · skip
    repeat refine awpS_seq ?_
    refine awpS_last ?_
    repeat' (first | simp only [go_sem, hlb, q, q2, bne_self_eq_false, Ret_eq Try.results45] | fail)
    repeat refine awpS_seq ?_
    refine awpS_last ?_
    repeat' (first | simp only [go_sem, hlb, q, q2, bne_self_eq_false, Ret_eq Try.results45] | (refine opCallI_rd (by simp only [go_sem, hlb, q, q2, bne_self_eq_false, Ret_eq Try.results45]; first | done | rfl) (hc) (by rintro _ rfl; rfl) ?_; rintro _ rfl) | (refine opCallI_rd (by simp only [go_sem, hlb, q, q2, bne_self_eq_false, Ret_eq Try.results45]; first | done | rfl) (hid) (by rintro _ rfl; rfl) ?_; rintro _ rfl) | (refine opCallI_rd (by simp only [go_sem, hlb, q, q2, bne_self_eq_false, Ret_eq Try.results45]; first | done | rfl) (hvc) (by rintro _ rfl; rfl) ?_; rintro _ rfl) | fail)
    repeat refine awpS_seq ?_
    refine awpS_last ?_
    repeat' (first | simp only [go_sem, hlb, q, q2, bne_self_eq_false, Ret_eq Try.results45] | fail)
    repeat refine awpS_seq ?_
    refine awpS_last ?_
    repeat' (first | simp only [go_sem, hlb, q, q2, bne_self_eq_false, Ret_eq Try.results45] | (refine opCallI_rd (by simp only [go_sem, hlb, q, q2, bne_self_eq_false, Ret_eq Try.results45]; first | done | rfl) (ha) (by rintro _ rfl; rfl) ?_; rintro _ rfl) | fail)
    repeat refine awpS_seq ?_
    refine awpS_last ?_
    repeat' (first | simp only [go_sem, hlb, q, q2, bne_self_eq_false, Ret_eq Try.results45] | fail)
    repeat refine awpS_seq ?_
    refine awpS_last ?_
    repeat' (first | simp only [go_sem, hlb, q, q2, bne_self_eq_false, Ret_eq Try.results45] | (refine opCallI_rd (by simp only [go_sem, hlb, q, q2, bne_self_eq_false, Ret_eq Try.results45]; first | done | rfl) (hb) (by rintro _ rfl; rfl) ?_; rintro _ rfl) | fail)
    repeat refine awpS_seq ?_
    refine awpS_last ?_
    repeat' (first | simp only [go_sem, hlb, q, q2, bne_self_eq_false, Ret_eq Try.results45] | simp (disch := omega) only [arith, IntKind.bits, capMax, fill_len, elt_fill] | fail)
    repeat refine awpS_seq ?_
    refine awpS_last ?_
    repeat' (first | simp only [go_sem, hlb, q, q2, bne_self_eq_false, Ret_eq Try.results45] | fail)
    repeat refine awpS_seq ?_
    refine awpS_nth 1 rfl rfl ?_
    repeat' (first | simp only [go_sem, Ret_eq Try.results45] | fail)
    refine opX_callM0 (al := [slotsD dim ids vecs]) 2000 [(1, .v (.int .i64 id)), (2, .lst (ints .i16 v)), (3, .adr 3 0 0), (6, .v (.int .i64 0)), (7, .adr 7 0 0), (8, .v (.int .i64 0)), (9, .v (.int .i64 i))] [(3, ⟨45, 3, [slotsD dim ids vecs]⟩), (7, ⟨45, 3, [.agg [.v (.int .i64 0), .v (.slice none 0 0), .v (.slice none 0 0)]]⟩)] rfl rfl (by simp only [go_sem, Ret_eq Try.results45]) (by rfl) (by simp only [go_sem, Ret_eq Try.results45]) hcp (by simp only [go_sem, Ret_eq Try.results45]) (by rfl) (by simp only [go_sem, Ret_eq Try.results45]) (by rfl) ?_ ?_
    · rintro _ _ ⟨rfl, rfl⟩
      exact ownC_ge
    rintro _ _ ⟨rfl, rfl⟩
    repeat' (first | simp only [go_sem, Ret_eq Try.results45] | fail)
    repeat refine awpS_seq ?_
    refine awpS_last ?_
    repeat' (first | simp only [go_sem, ownC, List.length_set, hvl, Ret_eq Try.results45] | simp (disch := omega) only [arith, IntKind.bits, capMax, fill_len, elt_fill] | fail)
    repeat refine awpS_seq ?_
    refine awpS_last ?_
    repeat' (first | simp only [go_sem, ownC, List.length_set, hvl, Ret_eq Try.results45] | simp (disch := omega) only [arith, IntKind.bits, capMax, fill_len, elt_fill] | (refine awpI_draw2 (id := 10) (.one false 3 (.cal 0 [4] (.cal 1 [4] (.cal 2 [4] (.only 4 (.one false 5 (.only 6 .done))))))) mixed (by decide +kernel) (by decide +kernel) ?_) | (refine opCallI_gv (by simp only [go_sem, ownC, List.length_set, hvl, Ret_eq Try.results45]; first | done | rfl) (hcv) ?_; rintro _ rfl) | fail)
    all_goals
      refine awpS_last ?_
      repeat' (first | simp only [go_sem, ownC, List.length_set, hvl, set_takeI, set_takeR hvl, Ret_eq Try.results45] | (refine awpI_draw2 (id := 11) (.one false 0 (.one false 1 (.one false 2 (.only 3 (.one false 4 .done))))) mixed (by decide +kernel) (by decide +kernel) ?_) | fail)
theorem put_vec {dim : Int} {ids : List Int} {vecs : List (List Int)} {id : Int} {v : List Int} (h : putE dim ids vecs id v = 0) : vecErr v = 0 ∧ (v.length : Int) = dim := by
  refine Classical.byContradiction fun q => ?_
  unfold putE at h; rw [if_pos (.inr q)] at h; cases h
/-- What is put, by the document. -/
theorem put_at {dim : Int} {ids : List Int} {vecs : List (List Int)} {id : Int} {v : List Int} (h : putE dim ids vecs id v = 0) :
    ∃ i : Nat, i < ids.length ∧ putI dim ids vecs id v = i ∧ (idxI ids id = i ∨ (idxI ids id = -1 ∧ idxI ids (-1) = i)) := by
  obtain ⟨s1, s2, i, i1, i2, i3, i4⟩ := put_zero h
  refine ⟨i, i1, i2, ?_⟩
  rcases at_find (vecs := vecs) s1 s2 with ⟨f1, f2, f3⟩ | ⟨f1, f2, f3⟩
  · left
    have e : putI dim ids vecs id v = findI dim ids vecs id := by unfold putI; rw [if_pos h, if_neg (by rw [f1]; decide)]
    omega
  · right
    have e : putI dim ids vecs id v = idxI ids (-1) := by unfold putI; rw [if_pos h, if_pos f1]
    exact ⟨f2, by omega⟩

theorem refSPut_fun (dim : Int) (ids : List Int) (vecs : List (List Int)) (id : Int) (v : List Int) (hv : ∀ x ∈ vecs, x.length ≤ 500) (hv2 : v.length ≤ 500) :
    Fun Try.prog 45 [slotsD dim ids vecs, .v (.int .i64 id), .lst (ints .i16 v)] fun r => r = .tup [.v (.int .i64 (putI dim ids vecs id v)),
      (if putE dim ids vecs id v = 0 then slotsD dim (ids.set (putI dim ids vecs id v).toNat id) (vecs.set (putI dim ids vecs id v).toNat v) else slotsD 0 [] []), .v (.int .i64 (putE dim ids vecs id v))] := by
  by_cases h : putE dim ids vecs id v = 0
  · obtain ⟨s1, s2, i, i1, i2, i3, i4⟩ := put_zero h
    obtain ⟨j, j1, j2, j3⟩ := put_at h
    obtain rfl : i = j := by omega
    rw [if_pos h, h, i2, Int.toNat_natCast]
    exact refSPut_ok dim ids vecs id v hv hv2 i i1 s1 s2 (put_vec h) j3
  · rw [if_neg h, show putI dim ids vecs id v = 0 from if_neg h]
    have hc := refSCheck_fun dim ids vecs
    have hid := refId_fun id
    have hvc := refVecCheck_fun v
    by_cases s1 : slotsOk dim ids vecs
    · rw [show slotsErr dim ids vecs = 0 from if_pos s1] at hc
      by_cases s2 : idOk id
      · rw [decide_eq_true (show 0 ≤ id ∧ id ≤ 2147483647 from s2)] at hid
        by_cases v1 : vecErr v = 0
        · rw [v1] at hvc
          by_cases v2 : (v.length : Int) = dim
          · have hlb : ((v.length : Int) != dim) = false := by rw [v2]; exact bne_self_eq_false _
            have hf1 : findE dim ids vecs id ≠ 1 := by
              intro q; unfold findE at q; rw [if_pos ⟨s1, s2⟩] at q; split at q <;> cases q
            obtain ⟨g1, g2, g3⟩ := put_one h hf1 ⟨v1, v2⟩
            have ha := refAt_fun dim ids vecs id
            have hb := refAt_fun dim ids vecs (-1)
            rcases at_find (vecs := vecs) s1 s2 with ⟨f1, f2, f3⟩ | ⟨f1, f2, f3⟩
            · rw [g2] at f1; cases f1
            · rw [f2] at ha
              rw [g1]
              refine Fun.of_awpI Try.func45 rfl cal45 Try.ntmps45 (by simp) fun hwf => ?_
              simp only [D.wfs, D.wf, ints_length, ints_wfs, rows_length, rows_wfs, capMax, and_true, true_and] at hwf
              repeat' (first | simp only [go_sem, hlb, bne_self_eq_false, ints_nil, rows_nil, Ret_eq Try.results45] | simp (disch := omega) only [arith, IntKind.bits, capMax, fill_len, elt_fill] | (refine opCallI_rd (by simp only [go_sem, hlb, bne_self_eq_false, ints_nil, rows_nil, Ret_eq Try.results45]; first | done | rfl) (hc) (by rintro _ rfl; rfl) ?_; rintro _ rfl) | (refine opCallI_rd (by simp only [go_sem, hlb, bne_self_eq_false, ints_nil, rows_nil, Ret_eq Try.results45]; first | done | rfl) (hid) (by rintro _ rfl; rfl) ?_; rintro _ rfl) | (refine opCallI_rd (by simp only [go_sem, hlb, bne_self_eq_false, ints_nil, rows_nil, Ret_eq Try.results45]; first | done | rfl) (hvc) (by rintro _ rfl; rfl) ?_; rintro _ rfl) | (refine opCallI_rd (by simp only [go_sem, hlb, bne_self_eq_false, ints_nil, rows_nil, Ret_eq Try.results45]; first | done | rfl) (ha) (by rintro _ rfl; rfl) ?_; rintro _ rfl) | (refine opCallI_rd (by simp only [go_sem, hlb, bne_self_eq_false, ints_nil, rows_nil, Ret_eq Try.results45]; first | done | rfl) (hb) (by rintro _ rfl; rfl) ?_; rintro _ rfl) | fail)
              all_goals rfl
          · have hlb : ((v.length : Int) != dim) = true := by rw [bne, beq_eq_false_iff_ne.2 v2]; rfl
            rw [show putE dim ids vecs id v = 1 from if_pos (.inr fun q => v2 q.2)]
            refine Fun.of_awpI Try.func45 rfl cal45 Try.ntmps45 (by simp) fun hwf => ?_
            simp only [D.wfs, D.wf, ints_length, ints_wfs, rows_length, rows_wfs, capMax, and_true, true_and] at hwf
            repeat' (first | simp only [go_sem, hlb, bne_self_eq_false, ints_nil, rows_nil, Ret_eq Try.results45] | (refine opCallI_rd (by simp only [go_sem, hlb, bne_self_eq_false, ints_nil, rows_nil, Ret_eq Try.results45]; first | done | rfl) (hc) (by rintro _ rfl; rfl) ?_; rintro _ rfl) | (refine opCallI_rd (by simp only [go_sem, hlb, bne_self_eq_false, ints_nil, rows_nil, Ret_eq Try.results45]; first | done | rfl) (hid) (by rintro _ rfl; rfl) ?_; rintro _ rfl) | (refine opCallI_rd (by simp only [go_sem, hlb, bne_self_eq_false, ints_nil, rows_nil, Ret_eq Try.results45]; first | done | rfl) (hvc) (by rintro _ rfl; rfl) ?_; rintro _ rfl) | fail)
            all_goals rfl
        · have hvb : (vecErr v != 0) = true := by rw [bne, beq_eq_false_iff_ne.2 v1]; rfl
          rw [show putE dim ids vecs id v = 1 from if_pos (.inr fun q => v1 q.1)]
          refine Fun.of_awpI Try.func45 rfl cal45 Try.ntmps45 (by simp) fun hwf => ?_
          simp only [D.wfs, D.wf, ints_length, ints_wfs, rows_length, rows_wfs, capMax, and_true, true_and] at hwf
          repeat' (first | simp only [go_sem, hvb, bne_self_eq_false, ints_nil, rows_nil, Ret_eq Try.results45] | (refine opCallI_rd (by simp only [go_sem, hvb, bne_self_eq_false, ints_nil, rows_nil, Ret_eq Try.results45]; first | done | rfl) (hc) (by rintro _ rfl; rfl) ?_; rintro _ rfl) | (refine opCallI_rd (by simp only [go_sem, hvb, bne_self_eq_false, ints_nil, rows_nil, Ret_eq Try.results45]; first | done | rfl) (hid) (by rintro _ rfl; rfl) ?_; rintro _ rfl) | (refine opCallI_rd (by simp only [go_sem, hvb, bne_self_eq_false, ints_nil, rows_nil, Ret_eq Try.results45]; first | done | rfl) (hvc) (by rintro _ rfl; rfl) ?_; rintro _ rfl) | fail)
          all_goals rfl
      · rw [decide_eq_false (show ¬ (0 ≤ id ∧ id ≤ 2147483647) from s2)] at hid
        rw [show putE dim ids vecs id v = 1 from if_pos (.inl (if_neg fun q => s2 q.2))]
        refine Fun.of_awpI Try.func45 rfl cal45 Try.ntmps45 (by simp) fun hwf => ?_
        simp only [D.wfs, D.wf, ints_length, ints_wfs, rows_length, rows_wfs, capMax, and_true, true_and] at hwf
        repeat' (first | simp only [go_sem, bne_self_eq_false, ints_nil, rows_nil, Ret_eq Try.results45] | (refine opCallI_rd (by simp only [go_sem, bne_self_eq_false, ints_nil, rows_nil, Ret_eq Try.results45]; first | done | rfl) (hc) (by rintro _ rfl; rfl) ?_; rintro _ rfl) | (refine opCallI_rd (by simp only [go_sem, bne_self_eq_false, ints_nil, rows_nil, Ret_eq Try.results45]; first | done | rfl) (hid) (by rintro _ rfl; rfl) ?_; rintro _ rfl) | fail)
        all_goals rfl
    · rw [show slotsErr dim ids vecs = 1 from if_neg s1] at hc
      rw [show putE dim ids vecs id v = 1 from if_pos (.inl (if_neg fun q => s1 q.1))]
      refine Fun.of_awpI Try.func45 rfl cal45 Try.ntmps45 (by simp) fun hwf => ?_
      simp only [D.wfs, D.wf, ints_length, ints_wfs, rows_length, rows_wfs, capMax, and_true, true_and] at hwf
      repeat' (first | simp only [go_sem, bne_self_eq_false, ints_nil, rows_nil, Ret_eq Try.results45] | (refine opCallI_rd (by simp only [go_sem, bne_self_eq_false, ints_nil, rows_nil, Ret_eq Try.results45]; first | done | rfl) (hc) (by rintro _ rfl; rfl) ?_; rintro _ rfl) | fail)
      all_goals rfl

theorem refSDel_fun (dim : Int) (ids : List Int) (vecs : List (List Int)) (id : Int) (hv : ∀ x ∈ vecs, x.length ≤ 500) :
    Fun Try.prog 46 [slotsD dim ids vecs, .v (.int .i64 id)] fun r => r = .tup [.v (.int .i64 (findI dim ids vecs id)),
      (if findE dim ids vecs id = 0 then slotsD dim (ids.set (findI dim ids vecs id).toNat (-1)) (vecs.set (findI dim ids vecs id).toNat []) else slotsD 0 [] []), .v (.int .i64 (findE dim ids vecs id))] := by
  have hf := refSFind_fun dim ids vecs id
  by_cases h : findE dim ids vecs id = 0
  · obtain ⟨s1, s2, i, i1, i2, i3⟩ := find_zero h
    rw [h, i2] at hf
    rw [h, i2, if_pos rfl, Int.toNat_natCast]
    have hvl := s1.2.2.1
    have hidl := s1.2.1
    have hcp := refSCopy_own dim ids vecs (by omega) (by omega) hv (by omega)
    refine Fun.of_awpS Try.func46 rfl cal46 Try.ntmps46 (by simp) fun hwf => ?_
    simp only [D.wfs, D.wf, ints_wfs, rows_wfs, ints_length, rows_length, and_true, true_and] at hwf
    repeat refine awpS_seq ?_
    refine awpS_last ?_
    repeat' (first | simp only [go_sem, bne_self_eq_false, Ret_eq Try.results46] | fail)
    repeat refine awpS_seq ?_
    refine awpS_last ?_
    repeat' (first | simp only [go_sem, bne_self_eq_false, Ret_eq Try.results46] | (refine opCallI_rd (by simp only [go_sem, bne_self_eq_false, Ret_eq Try.results46]; first | done | rfl) (hf) (by rintro _ rfl; rfl) ?_; rintro _ rfl) | fail)
    repeat refine awpS_seq ?_
    refine awpS_last ?_
    repeat' (first | simp only [go_sem, bne_self_eq_false, Ret_eq Try.results46] | fail)
    repeat refine awpS_seq ?_
    refine awpS_last ?_
    repeat' (first | simp only [go_sem, bne_self_eq_false, Ret_eq Try.results46] | fail)
    repeat refine awpS_seq ?_
    refine awpS_nth 1 rfl rfl ?_
    repeat' (first | simp only [go_sem, Ret_eq Try.results46] | fail)
    refine opX_callM0 (al := [slotsD dim ids vecs]) 2000 [(2, .adr 2 0 0), (4, .v (.int .i64 0)), (5, .adr 5 0 0), (6, .v (.int .i64 0)), (7, .v (.int .i64 i))] [(2, ⟨45, 3, [slotsD dim ids vecs]⟩), (5, ⟨45, 3, [.agg [.v (.int .i64 0), .v (.slice none 0 0), .v (.slice none 0 0)]]⟩)] rfl rfl (by simp only [go_sem, Ret_eq Try.results46]) (by rfl) (by simp only [go_sem, Ret_eq Try.results46]) hcp (by simp only [go_sem, Ret_eq Try.results46]) (by rfl) (by simp only [go_sem, Ret_eq Try.results46]) (by rfl) ?_ ?_
    · rintro _ _ ⟨rfl, rfl⟩
      exact ownC_ge
    rintro _ _ ⟨rfl, rfl⟩
    repeat' (first | simp only [go_sem, Ret_eq Try.results46] | fail)
    repeat refine awpS_seq ?_
    refine awpS_last ?_
    repeat' (first | simp only [go_sem, ownC, List.length_set, hvl, Ret_eq Try.results46] | simp (disch := omega) only [arith, IntKind.bits, capMax, fill_len, elt_fill] | fail)
    repeat refine awpS_seq ?_
    refine awpS_last ?_
    repeat' (first | simp only [go_sem, ownC, List.length_set, hvl, Ret_eq Try.results46] | simp (disch := omega) only [arith, IntKind.bits, capMax, fill_len, elt_fill] | fail)
    repeat refine awpS_seq ?_
    refine awpS_last ?_
    repeat' (first | simp only [go_sem, ownC, List.length_set, hvl, Ret_eq Try.results46] | (refine awpI_draw2 (id := 7) (.one false 0 (.one false 1 (.one false 2 (.only 3 (.one false 4 .done))))) mixed (by decide +kernel) (by decide +kernel) ?_) | fail)
    all_goals
      refine awpS_last ?_
      repeat' (first | simp only [go_sem, ownC, List.length_set, hvl, set_takeI, set_takeR hvl, rowsN_noRefs, rowsN_frzs, rowsN_kills, rowsN_nrms, rowsN_width1, rows_length, Ret_eq Try.results46] | fail)
    all_goals skip
  · rw [if_neg h]
    have hfb : (findE dim ids vecs id != 0) = true := by rw [bne, beq_eq_false_iff_ne.2 h]; rfl
    have e0 : findI dim ids vecs id = 0 := by
      unfold findI
      by_cases q : slotsOk dim ids vecs ∧ idOk id
      · unfold findE at h
        rw [if_pos q] at h ⊢
        cases e : dirAt ids id with
        | none => rfl
        | some x => rw [e] at h; exact absurd rfl h
      · rw [if_neg q]
    rw [e0] at hf ⊢
    refine Fun.of_awpI Try.func46 rfl cal46 Try.ntmps46 (by simp) fun hwf => ?_
    simp only [D.wfs, D.wf, ints_length, ints_wfs, rows_length, rows_wfs, capMax, and_true, true_and] at hwf
    repeat' (first | simp only [go_sem, hfb, ints_nil, rows_nil, Ret_eq Try.results46] | (refine opCallI_rd (by simp only [go_sem, hfb, ints_nil, rows_nil, Ret_eq Try.results46]; first | done | rfl) (hf) (by rintro _ rfl; rfl) ?_; rintro _ rfl) | fail)
    all_goals rfl
end Go.Proofs.Ytpkampecmlpfmaa.T

end
section
set_option linter.unusedSimpArgs false
set_option linter.unusedVariables false
/- Swaps within a span; what is sorted; plainly. -/
namespace Go.Proofs.Ytpkampecmlpfmaa.T
open Go Go.VL Go.Proofs
def sw (l : List Int) (i j : Nat) : List Int := (l.set i (l.getD j 0)).set j (l.getD i 0)
theorem sw_length {l : List Int} {i j : Nat} : (sw l i j).length = l.length := by simp [sw]
theorem set_getD {l : List Int} {i k : Nat} {x : Int} (h : i < l.length) : (l.set i x).getD k 0 = if k = i then x else l.getD k 0 := by
  simp only [List.getD, List.getElem?_set]
  by_cases e : i = k
  · subst e; simp [h]
  · rw [if_neg e, if_neg (fun q => e q.symm)]
theorem sw_getD {l : List Int} {i j k : Nat} (hi : i < l.length) (hj : j < l.length) : (sw l i j).getD k 0 = if k = j then l.getD i 0 else if k = i then l.getD j 0 else l.getD k 0 := by
  unfold sw
  rw [set_getD (by simpa using hj), set_getD hi]
theorem sw_comm {l : List Int} {i j : Nat} : (l.set j (l.getD i 0)).set i (l.getD j 0) = sw l i j := by
  unfold sw
  by_cases e : i = j
  · subst e; rfl
  · exact List.set_comm _ _ (fun q => e q.symm)
theorem sw_perm {l : List Int} {i j : Nat} (hi : i < l.length) (hj : j < l.length) : (sw l i j).Perm l := by
  rw [List.perm_iff_count]
  intro x
  unfold sw
  rw [List.count_set (by simpa using hj), List.count_set hi]
  have ei : l.getD i 0 = l[i] := by simp [List.getD, hi]
  have ej : l.getD j 0 = l[j] := by simp [List.getD, hj]
  have e3 : (l.set i (l.getD j 0))[j]'(by simpa using hj) = l[j] := by
    rw [List.getElem_set]; split
    · rw [ej]
    · rfl
  rw [e3, ei, ej]
  have hc : ∀ k (hk : k < l.length), (if (l[k] == x) = true then 1 else 0) ≤ l.count x := fun k hk => by
    split
    · rename_i q
      exact List.count_pos_iff.2 (by rw [← beq_iff_eq.1 q]; exact List.getElem_mem hk)
    · omega
  have h1 := hc i hi
  have h2 := hc j hj
  by_cases q1 : (l[i] == x) = true <;> by_cases q2 : (l[j] == x) = true <;> simp only [q1, q2, if_true, if_false, Bool.false_eq_true] at * <;> omega
/-- What comes of a list by swaps within a span. -/
inductive Sw (a b : Nat) : List Int → List Int → Prop
  | refl (l : List Int) : Sw a b l l
  | step {l l' : List Int} (i j : Nat) (h : Sw a b l l') (h1 : a ≤ i ∧ i < b) (h2 : a ≤ j ∧ j < b) (h3 : b ≤ l'.length) : Sw a b l (sw l' i j)
theorem Sw.length {a b : Nat} {l l' : List Int} (h : Sw a b l l') : l'.length = l.length := by
  induction h with
  | refl => rfl
  | step i j _ _ _ _ ih => rw [sw_length, ih]
theorem Sw.trans {a b : Nat} {l l' l'' : List Int} (h : Sw a b l l') (h' : Sw a b l' l'') : Sw a b l l'' := by
  induction h' with
  | refl => exact h
  | step i j _ h1 h2 h3 ih => exact .step i j ih h1 h2 h3
theorem Sw.mono {a b c d : Nat} {l l' : List Int} (h : Sw a b l l') (h1 : c ≤ a) (h2 : b ≤ d) (h3 : d ≤ l.length) : Sw c d l l' := by
  induction h with
  | refl => exact .refl _
  | step i j hs q1 q2 q3 ih => exact .step i j ih ⟨by omega, by omega⟩ ⟨by omega, by omega⟩ (by rw [hs.length]; exact h3)
theorem Sw.out {a b : Nat} {l l' : List Int} (h : Sw a b l l') {k : Nat} (hk : k < a ∨ b ≤ k) : l'.getD k 0 = l.getD k 0 := by
  induction h with
  | refl => rfl
  | step i j hs h1 h2 h3 ih => rw [sw_getD (by omega) (by omega), if_neg (by omega), if_neg (by omega), ih]
theorem Sw.all {a b : Nat} {l l' : List Int} (h : Sw a b l l') {P : Int → Prop} (hP : ∀ k, a ≤ k → k < b → P (l.getD k 0)) : ∀ k, a ≤ k → k < b → P (l'.getD k 0) := by
  induction h with
  | refl => exact hP
  | step i j hs h1 h2 h3 ih =>
    intro k k1 k2
    rw [sw_getD (by omega) (by omega)]
    split
    · exact ih i h1.1 h1.2
    · split
      · exact ih j h2.1 h2.2
      · exact ih k k1 k2
theorem Sw.perm {a b : Nat} {l l' : List Int} (h : Sw a b l l') : l'.Perm l := by
  induction h with
  | refl => exact .refl _
  | step i j hs h1 h2 h3 ih => exact (sw_perm (by omega) (by omega)).trans ih
def Sd (a b : Nat) (l : List Int) : Prop := ∀ p q, a ≤ p → p < q → q < b → l.getD p 0 ≤ l.getD q 0
/-- All are in order, but for those before j. -/
def Ins (a j i : Nat) (l : List Int) : Prop := ∀ p q, a ≤ p → p < q → q ≤ i → q ≠ j → l.getD p 0 ≤ l.getD q 0
theorem Ins.start {a i : Nat} {l : List Int} (h : Sd a i l) : Ins a i i l := fun p q h1 h2 h3 h4 => h p q h1 h2 (by omega)
theorem Ins.done {a j i : Nat} {l : List Int} (h : Ins a j i l) (hj : j ≤ a ∨ l.getD (j - 1) 0 ≤ l.getD j 0) : Sd a (i + 1) l := fun p q h1 h2 h3 => by
  by_cases e : q = j
  · subst e
    rcases hj with g | g
    · omega
    · by_cases e2 : p = q - 1
      · rw [e2]; exact g
      · have := h p (q - 1) h1 (by omega) (by omega) (by omega)
        omega
  · exact h p q h1 h2 (by omega) e
theorem Ins.step {a j i : Nat} {l : List Int} (h : Ins a j i l) (hj : a < j) (hji : j ≤ i) (hi : i < l.length) (hlt : l.getD j 0 < l.getD (j - 1) 0) : Ins a (j - 1) i (sw l j (j - 1)) := fun p q h1 h2 h3 h4 => by
  have e : ∀ k, (sw l j (j - 1)).getD k 0 = if k = j - 1 then l.getD j 0 else if k = j then l.getD (j - 1) 0 else l.getD k 0 := fun k => sw_getD (by omega) (by omega)
  rw [e p, e q]
  have a1 := h p q h1 h2 h3
  have a2 := h p (j - 1)
  have a3 := h j q
  have a4 := h (j - 1) q
  grind
end Go.Proofs.Ytpkampecmlpfmaa.T

end
section
set_option linter.unusedSimpArgs false
set_option linter.unusedVariables false
/- Heaps, plainly. -/
namespace Go.Proofs.Ytpkampecmlpfmaa.T
open Go Go.VL Go.Proofs
def Hp (lo hi f : Nat) (l : List Int) : Prop := ∀ k c, lo ≤ k → (c = 2 * k + 1 ∨ c = 2 * k + 2) → c < hi → l.getD (f + c) 0 ≤ l.getD (f + k) 0
structure HpEx (lo hi f r : Nat) (l : List Int) : Prop where
  h1 : ∀ k c, lo ≤ k → k ≠ r → (c = 2 * k + 1 ∨ c = 2 * k + 2) → c < hi → l.getD (f + c) 0 ≤ l.getD (f + k) 0
  h2 : ∀ g c, lo ≤ g → (r = 2 * g + 1 ∨ r = 2 * g + 2) → (c = 2 * r + 1 ∨ c = 2 * r + 2) → c < hi → l.getD (f + c) 0 ≤ l.getD (f + g) 0
theorem HpEx.start {lo hi f : Nat} {l : List Int} (h : Hp (lo + 1) hi f l) : HpEx lo hi f lo l :=
  ⟨fun k c h1 h2 h3 h4 => h k c (by omega) h3 h4, fun g c h1 h2 h3 h4 => by omega⟩
theorem HpEx.done {lo hi f r : Nat} {l : List Int} (h : HpEx lo hi f r l) (hc : ∀ c, (c = 2 * r + 1 ∨ c = 2 * r + 2) → c < hi → l.getD (f + c) 0 ≤ l.getD (f + r) 0) : Hp lo hi f l := fun k c k1 k2 k3 => by
  by_cases e : k = r
  · subst e; exact hc c k2 k3
  · exact h.h1 k c k1 e k2 k3
theorem HpEx.step {lo hi f r c : Nat} {l : List Int} (h : HpEx lo hi f r l) (hr : lo ≤ r) (hc : c = 2 * r + 1 ∨ c = 2 * r + 2) (hch : c < hi) (hd : ∀ d, (d = 2 * r + 1 ∨ d = 2 * r + 2) → d < hi → l.getD (f + d) 0 ≤ l.getD (f + c) 0)
    (hlt : l.getD (f + r) 0 < l.getD (f + c) 0) (hl : f + hi ≤ l.length) : HpEx lo hi f c (sw l (f + r) (f + c)) := by
  have e : ∀ k, (sw l (f + r) (f + c)).getD k 0 = if k = f + c then l.getD (f + r) 0 else if k = f + r then l.getD (f + c) 0 else l.getD k 0 := fun k => sw_getD (by omega) (by omega)
  constructor
  · intro k d k1 k2 k3 k4
    rw [e, e]
    rw [if_neg (show ¬ f + k = f + c by omega)]
    by_cases kr : k = r
    · subst kr
      rw [if_pos rfl]
      by_cases dc : d = c
      · subst dc; rw [if_pos rfl]; omega
      · rw [if_neg (by omega), if_neg (by omega)]
        exact hd d k3 k4
    · rw [if_neg (show ¬ f + k = f + r by omega), if_neg (show ¬ f + d = f + c by omega)]
      by_cases dr : d = r
      · subst dr
        rw [if_pos rfl]
        exact h.h2 k c k1 k3 hc hch
      · rw [if_neg (by omega)]
        exact h.h1 k d k1 kr k3 k4
  · intro g d g1 g2 g3 g4
    obtain rfl : g = r := by omega
    rw [e, e, if_neg (show ¬ f + d = f + c by omega), if_neg (show ¬ f + d = f + g by omega), if_neg (show ¬ f + g = f + c by omega), if_pos rfl]
    exact h.h1 c d (by omega) (by omega) g3 g4
theorem Hp.max {hi f : Nat} {l : List Int} (h : Hp 0 hi f l) : ∀ k, k < hi → l.getD (f + k) 0 ≤ l.getD f 0 := by
  intro k
  induction k using Nat.strongRecOn with
  | _ k ih =>
    intro hk
    by_cases e : k = 0
    · subst e; exact Int.le_refl _
    · have h1 := ih ((k - 1) / 2) (by omega) (by omega)
      have h2 := h ((k - 1) / 2) k (by omega) (by omega) hk
      omega
structure Tl (f i n : Nat) (l : List Int) : Prop where
  t1 : Sd (f + i) (f + n) l
  t2 : ∀ p q, p < i → i ≤ q → q < n → l.getD (f + p) 0 ≤ l.getD (f + q) 0
theorem Tl.step {f i n : Nat} {l l' : List Int} (h : Tl f (i + 1) n l) (hp : Hp 0 (i + 1) f l) (hn : i + 1 ≤ n) (hl : f + n ≤ l.length) (hs : Sw f (f + i) (sw l f (f + i)) l') : Tl f i n l' := by
  have e : ∀ k, (sw l f (f + i)).getD k 0 = if k = f + i then l.getD f 0 else if k = f then l.getD (f + i) 0 else l.getD k 0 := fun k => sw_getD (by omega) (by omega)
  have hm := hp.max
  have ho : ∀ k, f + i ≤ k → l'.getD k 0 = if k = f + i then l.getD f 0 else l.getD k 0 := fun k hk => by
    rw [hs.out (.inr hk), e]
    by_cases q : k = f + i
    · rw [if_pos q, if_pos q]
    · rw [if_neg q, if_neg q, if_neg (by omega)]
  have ha : ∀ q, i ≤ q → q < n → ∀ k, f ≤ k → k < f + i → l'.getD k 0 ≤ (if f + q = f + i then l.getD f 0 else l.getD (f + q) 0) := fun q q1 q2 => by
    refine hs.all (P := fun x => x ≤ _) fun k k1 k2 => ?_
    obtain ⟨k, rfl⟩ : ∃ j, k = f + j := ⟨k - f, by omega⟩
    rw [e, if_neg (by omega)]
    by_cases q3 : f + q = f + i
    · rw [if_pos q3]
      split
      · exact hm i (by omega)
      · exact hm k (by omega)
    · rw [if_neg q3]
      split
      · exact h.t2 i q (by omega) (by omega) q2
      · exact h.t2 k q (by omega) (by omega) q2
  constructor
  · intro p q p1 p2 p3
    rw [ho p p1, ho q (by omega), if_neg (show ¬ q = f + i by omega)]
    split
    · have := h.t2 0 (q - f) (by omega) (by omega) (by omega)
      rw [show f + 0 = f from rfl, show f + (q - f) = q by omega] at this
      exact this
    · exact h.t1 p q (by omega) p2 p3
  · intro p q p1 p2 p3
    rw [ho (f + q) (by omega)]
    exact ha q p2 p3 (f + p) (by omega) (by omega)
theorem Hp.swapped {i f : Nat} {l : List Int} (h : Hp 0 (i + 1) f l) (hl : f + i < l.length) : Hp 1 i f (sw l f (f + i)) := fun k c k1 k2 k3 => by
  rw [sw_getD (by omega) hl, sw_getD (by omega) hl, if_neg (by omega), if_neg (by omega), if_neg (by omega), if_neg (by omega)]
  exact h k c (by omega) k2 (by omega)
end Go.Proofs.Ytpkampecmlpfmaa.T

end
section
set_option linter.unusedSimpArgs false
set_option linter.unusedVariables false
/- Lists that are parted, plainly. -/
namespace Go.Proofs.Ytpkampecmlpfmaa.T
open Go Go.VL Go.Proofs
structure Pt (a b i j : Nat) (p : Int) (l : List Int) : Prop where
  ha : l.getD a 0 = p
  h1 : ∀ k, a < k → k < i → l.getD k 0 < p
  h2 : ∀ k, j < k → k < b → p ≤ l.getD k 0
  hi : a < i
  hij : i ≤ j + 1
  hj : j < b
theorem Pt.up {a b i j : Nat} {p : Int} {l : List Int} (h : Pt a b i j p l) (hij : i ≤ j) (hlt : l.getD i 0 < p) : Pt a b (i + 1) j p l :=
  ⟨h.ha, fun k k1 k2 => by
    by_cases e : k = i
    · subst e; exact hlt
    · exact h.h1 k k1 (by omega), h.h2, by have := h.hi; omega, by omega, h.hj⟩
theorem Pt.down {a b i j : Nat} {p : Int} {l : List Int} (h : Pt a b i j p l) (hij : i ≤ j) (hge : p ≤ l.getD j 0) : Pt a b i (j - 1) p l :=
  ⟨h.ha, h.h1, fun k k1 k2 => by
    by_cases e : k = j
    · subst e; exact hge
    · exact h.h2 k (by omega) k2, h.hi, by omega, by have := h.hj; omega⟩
theorem Pt.swap {a b i j : Nat} {p : Int} {l : List Int} (h : Pt a b i j p l) (hij : i ≤ j) (hge : p ≤ l.getD i 0) (hlt : l.getD j 0 < p) (hl : b ≤ l.length) : Pt a b (i + 1) (j - 1) p (sw l i j) := by
  have h3 := h.hi
  have h4 := h.hj
  have hne : i ≠ j := fun q => by subst q; omega
  have e : ∀ k, (sw l i j).getD k 0 = if k = j then l.getD i 0 else if k = i then l.getD j 0 else l.getD k 0 := fun k => sw_getD (by omega) (by omega)
  refine ⟨?_, fun k k1 k2 => ?_, fun k k1 k2 => ?_, by omega, by omega, by omega⟩
  · rw [e, if_neg (by omega), if_neg (by omega)]; exact h.ha
  · rw [e, if_neg (by omega)]
    split
    · exact hlt
    · exact h.h1 k k1 (by omega)
  · rw [e]
    split
    · exact hge
    · rw [if_neg (by omega)]
      exact h.h2 k (by omega) k2
structure Parted (a b m : Nat) (l : List Int) : Prop where
  h1 : a ≤ m
  h2 : m < b
  h3 : ∀ k, a ≤ k → k < m → l.getD k 0 ≤ l.getD m 0
  h4 : ∀ k, m < k → k < b → l.getD m 0 ≤ l.getD k 0
theorem Pt.fin {a b i j : Nat} {p : Int} {l : List Int} (h : Pt a b i j p l) (hij : j < i) (hl : b ≤ l.length) : Parted a b j (sw l j a) := by
  have h3 := h.hi
  have h4 := h.hj
  have h5 := h.hij
  have e : ∀ k, (sw l j a).getD k 0 = if k = a then l.getD j 0 else if k = j then l.getD a 0 else l.getD k 0 := fun k => sw_getD (by omega) (by omega)
  have ej : (sw l j a).getD j 0 = p := by
    rw [e]
    by_cases q : j = a
    · rw [if_pos q, q]; exact h.ha
    · rw [if_neg q, if_pos rfl]; exact h.ha
  refine ⟨by omega, h4, fun k k1 k2 => ?_, fun k k1 k2 => ?_⟩
  · rw [ej, e]
    split
    · have := h.h1 j (by omega) (by omega)
      omega
    · rw [if_neg (by omega)]
      have := h.h1 k (by omega) (by omega)
      omega
  · rw [ej, e, if_neg (by omega), if_neg (by omega)]
    exact h.h2 k k1 k2
structure Pe (a b i j : Nat) (p : Int) (l : List Int) : Prop where
  ha : l.getD a 0 = p
  h1 : ∀ k, a ≤ k → k < i → l.getD k 0 ≤ p
  h2 : ∀ k, j < k → k < b → p < l.getD k 0
  hi : a < i
  hij : i ≤ j + 1
  hj : j < b
theorem Pe.up {a b i j : Nat} {p : Int} {l : List Int} (h : Pe a b i j p l) (hij : i ≤ j) (hlt : l.getD i 0 ≤ p) : Pe a b (i + 1) j p l :=
  ⟨h.ha, fun k k1 k2 => by
    by_cases e : k = i
    · subst e; exact hlt
    · exact h.h1 k k1 (by omega), h.h2, by have := h.hi; omega, by omega, h.hj⟩
theorem Pe.down {a b i j : Nat} {p : Int} {l : List Int} (h : Pe a b i j p l) (hij : i ≤ j) (hge : p < l.getD j 0) : Pe a b i (j - 1) p l :=
  ⟨h.ha, h.h1, fun k k1 k2 => by
    by_cases e : k = j
    · subst e; exact hge
    · exact h.h2 k (by omega) k2, h.hi, by omega, by have := h.hj; omega⟩
theorem Pe.swap {a b i j : Nat} {p : Int} {l : List Int} (h : Pe a b i j p l) (hij : i ≤ j) (hge : p < l.getD i 0) (hlt : l.getD j 0 ≤ p) (hl : b ≤ l.length) : Pe a b (i + 1) (j - 1) p (sw l i j) := by
  have h3 := h.hi
  have h4 := h.hj
  have hne : i ≠ j := fun q => by subst q; omega
  have e : ∀ k, (sw l i j).getD k 0 = if k = j then l.getD i 0 else if k = i then l.getD j 0 else l.getD k 0 := fun k => sw_getD (by omega) (by omega)
  refine ⟨?_, fun k k1 k2 => ?_, fun k k1 k2 => ?_, by omega, by omega, by omega⟩
  · rw [e, if_neg (by omega), if_neg (by omega)]; exact h.ha
  · rw [e, if_neg (by omega)]
    split
    · exact hlt
    · exact h.h1 k k1 (by omega)
  · rw [e]
    split
    · exact hge
    · rw [if_neg (by omega)]
      exact h.h2 k (by omega) k2
structure PartEq (a b m : Nat) (p : Int) (l : List Int) : Prop where
  h1 : a < m
  h2 : m ≤ b
  h3 : ∀ k, a ≤ k → k < m → l.getD k 0 ≤ p
  h4 : ∀ k, m ≤ k → k < b → p < l.getD k 0
theorem Pe.fin {a b i j : Nat} {p : Int} {l : List Int} (h : Pe a b i j p l) (hij : j < i) : PartEq a b i p l := by
  have h3 := h.hi
  have h4 := h.hj
  have h5 := h.hij
  exact ⟨h3, by omega, h.h1, fun k k1 k2 => h.h2 k (by omega) k2⟩
end Go.Proofs.Ytpkampecmlpfmaa.T

end
section
set_option linter.unusedSimpArgs false
set_option linter.unusedVariables false
/- Sorted beginnings, plainly. -/
namespace Go.Proofs.Ytpkampecmlpfmaa.T
open Go Go.VL Go.Proofs
theorem Sd.snoc {a i : Nat} {l : List Int} (h : Sd a i l) (ha : a + 1 ≤ i) (hle : l.getD (i - 1) 0 ≤ l.getD i 0) : Sd a (i + 1) l := fun p q h1 h2 h3 => by
  by_cases e : q = i
  · subst e
    by_cases e2 : p = q - 1
    · rw [e2]; exact hle
    · have := h p (q - 1) h1 (by omega) (by omega)
      omega
  · exact h p q h1 h2 (by omega)
theorem Sd.out {a i x y : Nat} {l : List Int} (h : Sd a i l) (hx : i ≤ x) (hy : i ≤ y) (h1 : x < l.length) (h2 : y < l.length) : Sd a i (sw l x y) := fun p q p1 p2 p3 => by
  rw [sw_getD h1 h2, sw_getD h1 h2, if_neg (by omega), if_neg (by omega), if_neg (by omega), if_neg (by omega)]
  exact h p q p1 p2 p3
theorem Sd.swapped {a i : Nat} {l : List Int} (h : Sd a i l) (ha : a + 1 ≤ i) (hi : i < l.length) (hlt : l.getD i 0 < l.getD (i - 1) 0) : Ins a (i - 1) (i - 1) (sw l i (i - 1)) := fun p q p1 p2 p3 p4 => by
  have e : ∀ k, (sw l i (i - 1)).getD k 0 = if k = i - 1 then l.getD i 0 else if k = i then l.getD (i - 1) 0 else l.getD k 0 := fun k => sw_getD (by omega) (by omega)
  rw [e, e, if_neg (by omega), if_neg (by omega), if_neg (by omega), if_neg (by omega)]
  exact h p q p1 p2 (by omega)
/-- What is ahead is no greater. -/
def Ahd (a b : Nat) (l : List Int) : Prop := a = 0 ∨ ∀ k, a ≤ k → k < b → l.getD (a - 1) 0 ≤ l.getD k 0
theorem Ahd.sw {a b : Nat} {l l' : List Int} (h : Ahd a b l) (hs : Sw a b l l') : Ahd a b l' := by
  by_cases e : a = 0
  · exact .inl e
  · right
    rcases h with h | h
    · exact absurd h e
    · have := hs.all (P := fun x => l.getD (a - 1) 0 ≤ x) h
      intro k k1 k2
      rw [hs.out (k := a - 1) (by omega)]
      exact this k k1 k2
end Go.Proofs.Ytpkampecmlpfmaa.T

end
section
set_option linter.unusedSimpArgs false
set_option linter.unusedVariables false
/- What is left to be sorted, plainly. -/
namespace Go.Proofs.Ytpkampecmlpfmaa.T
open Go Go.VL Go.Proofs
/-- Once [a, b) is sorted, all of [a0, b0) is. -/
structure Rest (a0 b0 : Nat) (l0 : List Int) (a b : Nat) (l : List Int) : Prop where
  ra : a0 ≤ a
  rab : a ≤ b
  rb : b ≤ b0
  rl : b0 ≤ l0.length
  rs : Sw a0 b0 l0 l
  rd : ∀ l', Sw a b l l' → Sd a b l' → Sd a0 b0 l'
  rh : Ahd a b l
theorem Rest.start {a b : Nat} {l : List Int} (h : a ≤ b) (hb : b ≤ l.length) (hA : Ahd a b l) : Rest a b l a b l :=
  ⟨Nat.le_refl _, h, Nat.le_refl _, hb, .refl _, fun _ _ h => h, hA⟩
theorem Rest.sw {a0 b0 a b : Nat} {l0 l l' : List Int} (h : Rest a0 b0 l0 a b l) (hs : Sw a b l l') : Rest a0 b0 l0 a b l' :=
  ⟨h.ra, h.rab, h.rb, h.rl, h.rs.trans (hs.mono h.ra h.rb (by rw [h.rs.length]; exact h.rl)), fun l'' h1 h2 => h.rd l'' (hs.trans h1) h2, h.rh.sw hs⟩
theorem Rest.done {a0 b0 a b : Nat} {l0 l l' : List Int} (h : Rest a0 b0 l0 a b l) (hs : Sw a b l l') (hd : Sd a b l') : Sw a0 b0 l0 l' ∧ Sd a0 b0 l' :=
  ⟨(h.sw hs).rs, h.rd l' hs hd⟩
/-- The beginning is of the least numbers alone. -/
theorem Rest.eqPart {a0 b0 a b m : Nat} {l0 l : List Int} {p : Int} (h : Rest a0 b0 l0 a b l) (hp : PartEq a b m p l) (hge : ∀ k, a ≤ k → k < b → p ≤ l.getD k 0) : Rest a0 b0 l0 m b l := by
  have h1 := hp.h1
  have h2 := hp.h2
  refine ⟨by have := h.ra; omega, h2, h.rb, h.rl, h.rs, fun l' s1 s2 => ?_, .inr fun k k1 k2 => ?_⟩
  · have hl : b ≤ l.length := by have := h.rb; have := h.rl; rw [h.rs.length]; omega
    refine h.rd l' (s1.mono (by omega) (Nat.le_refl _) hl) fun x y x1 x2 x3 => ?_
    have hlo : ∀ k, a ≤ k → k < m → l'.getD k 0 = p := fun k k1 k2 => by
      rw [s1.out (.inl k2)]
      have := hp.h3 k k1 k2
      have := hge k k1 (by omega)
      omega
    have hhi : ∀ k, m ≤ k → k < b → p < l'.getD k 0 := s1.all (P := fun x => p < x) hp.h4
    by_cases xm : x < m
    · rw [hlo x x1 xm]
      by_cases ym : y < m
      · rw [hlo y (by omega) ym]; exact Int.le_refl _
      · have := hhi y (by omega) x3; omega
    · exact s2 x y (by omega) x2 x3
  · have e1 := hp.h3 (m - 1) (by omega) (by omega)
    have e2 := hp.h4 k k1 k2
    omega
/-- Parted, and the left part sorted. -/
theorem Rest.left {a0 b0 a b m : Nat} {l0 l l' : List Int} (h : Rest a0 b0 l0 a b l) (hp : Parted a b m l) (hs : Sw a m l l') (hd : Sd a m l') : Rest a0 b0 l0 (m + 1) b l' := by
  have h1 := hp.h1
  have h2 := hp.h2
  have hl : b ≤ l.length := by have := h.rb; have := h.rl; rw [h.rs.length]; omega
  have hl2 := hs.length
  have hsb : Sw a b l l' := hs.mono (Nat.le_refl _) (by omega) hl
  have h' := h.sw hsb
  have em : l'.getD m 0 = l.getD m 0 := hs.out (.inr (Nat.le_refl _))
  have hlo : ∀ k, a ≤ k → k < m → l'.getD k 0 ≤ l.getD m 0 := hs.all (P := fun x => x ≤ _) hp.h3
  have hhi : ∀ k, m < k → k < b → l.getD m 0 ≤ l'.getD k 0 := fun k k1 k2 => by rw [hs.out (.inr (by omega))]; exact hp.h4 k k1 k2
  refine ⟨by have := h.ra; omega, by omega, h.rb, h.rl, h'.rs, fun l'' s1 s2 => ?_, .inr fun k k1 k2 => ?_⟩
  · refine h'.rd l'' (s1.mono (by omega) (Nat.le_refl _) (by omega)) fun x y x1 x2 x3 => ?_
    have hlo2 : ∀ k, k ≤ m → l''.getD k 0 = l'.getD k 0 := fun k k1 => s1.out (.inl (by omega))
    have hhi2 : ∀ k, m + 1 ≤ k → k < b → l.getD m 0 ≤ l''.getD k 0 := s1.all (P := fun x => _ ≤ x) fun k k1 k2 => hhi k (by omega) k2
    by_cases xm : x ≤ m
    · rw [hlo2 x xm]
      have hxm : l'.getD x 0 ≤ l.getD m 0 := by
        by_cases e : x = m
        · rw [e, em]; exact Int.le_refl _
        · exact hlo x x1 (by omega)
      by_cases ym : y ≤ m
      · rw [hlo2 y ym]
        by_cases e : y = m
        · rw [e, em]; exact hxm
        · exact hd x y x1 x2 (by omega)
      · have := hhi2 y (by omega) x3; omega
    · exact s2 x y (by omega) x2 x3
  · rw [show m + 1 - 1 = m by omega, em]
    exact hhi k (by omega) k2
/-- Parted, and the right part sorted. -/
theorem Rest.right {a0 b0 a b m : Nat} {l0 l l' : List Int} (h : Rest a0 b0 l0 a b l) (hp : Parted a b m l) (hs : Sw (m + 1) b l l') (hd : Sd (m + 1) b l') : Rest a0 b0 l0 a m l' := by
  have h1 := hp.h1
  have h2 := hp.h2
  have hl : b ≤ l.length := by have := h.rb; have := h.rl; rw [h.rs.length]; omega
  have hl2 := hs.length
  have hsb : Sw a b l l' := hs.mono (by omega) (Nat.le_refl _) hl
  have h' := h.sw hsb
  have em : l'.getD m 0 = l.getD m 0 := hs.out (.inl (by omega))
  have hhi : ∀ k, m + 1 ≤ k → k < b → l.getD m 0 ≤ l'.getD k 0 := hs.all (P := fun x => _ ≤ x) fun k k1 k2 => hp.h4 k (by omega) k2
  have hlo : ∀ k, a ≤ k → k < m → l'.getD k 0 ≤ l.getD m 0 := fun k k1 k2 => by rw [hs.out (.inl (by omega))]; exact hp.h3 k k1 k2
  refine ⟨h.ra, h1, by have := h.rb; omega, h.rl, h'.rs, fun l'' s1 s2 => ?_, ?_⟩
  · refine h'.rd l'' (s1.mono (Nat.le_refl _) (by omega) (by omega)) fun x y x1 x2 x3 => ?_
    have hhi2 : ∀ k, m ≤ k → l''.getD k 0 = l'.getD k 0 := fun k k1 => s1.out (.inr k1)
    have hlo2 : ∀ k, a ≤ k → k < m → l''.getD k 0 ≤ l.getD m 0 := s1.all (P := fun x => x ≤ _) hlo
    have hge : ∀ k, m ≤ k → k < b → l.getD m 0 ≤ l''.getD k 0 := fun k k1 k2 => by
      rw [hhi2 k k1]
      by_cases e : k = m
      · rw [e, em]; exact Int.le_refl _
      · exact hhi k (by omega) k2
    by_cases ym : y < m
    · exact s2 x y x1 x2 ym
    · by_cases xm : x < m
      · have := hlo2 x x1 xm
        have := hge y (by omega) x3
        omega
      · by_cases e : x = m
        · subst e
          rw [hhi2 x (Nat.le_refl _), em]
          exact hge y (by omega) x3
        · rw [hhi2 x (by omega), hhi2 y (by omega)]
          exact hd x y (by omega) x2 x3
  · rcases h'.rh with q | q
    · exact .inl q
    · exact .inr fun k k1 k2 => q k k1 (by omega)
theorem Rest.ahead {a0 b0 a b : Nat} {l0 l : List Int} (h : Rest a0 b0 l0 a b l) (ha : 0 < a) {v : Nat} (hv : a ≤ v ∧ v < b) (hle : l.getD v 0 ≤ l.getD (a - 1) 0) : ∀ k, a ≤ k → k < b → l.getD v 0 ≤ l.getD k 0 := fun k k1 k2 => by
  rcases h.rh with q | q
  · omega
  · have := q k k1 k2; omega
end Go.Proofs.Ytpkampecmlpfmaa.T

end
section
set_option linter.unusedSimpArgs false
set_option linter.unusedVariables false
/- Sorting a list by insertion, walked. -/
namespace Go.Proofs.Ytpkampecmlpfmaa.T
open Go Go.VL Go.Proofs
set_option maxRecDepth 100000
set_option maxHeartbeats 4000000
abbrev own64 (l : List Int) : Own := ⟨2, 1, ints .i64 l⟩

theorem isNaNS64_fun (x : Int) : Fun Try.prog 189 [.v (.int .i64 x)] fun r => r = .v (.bool false) := by
  refine Fun.of_awpI Try.func189 rfl cal189 Try.ntmps189 (by simp) fun hwf => ?_
  simp only [D.wfs, D.wf, ints_length, ints_wfs, rows_length, rows_wfs, capMax, and_true, true_and] at hwf
  repeat' (first | simp only [go_sem, bne_self_eq_false, Ret_eq Try.results189] | fail)

theorem lessS64_fun (x y : Int) : Fun Try.prog 168 [.v (.int .i64 x), .v (.int .i64 y)] fun r => r = .v (.bool (decide (x < y))) := by
  refine Fun.of_awpI Try.func168 rfl cal168 Try.ntmps168 (by simp) fun hwf => ?_
  simp only [D.wfs, D.wf, ints_length, ints_wfs, rows_length, rows_wfs, capMax, and_true, true_and] at hwf
  repeat' (first | simp only [go_sem, Ret_eq Try.results168] | (refine opCallI_rd (by simp only [go_sem, Ret_eq Try.results168]; first | done | rfl) (isNaNS64_fun x) (by rintro _ rfl; rfl) ?_; rintro _ rfl) | fail)

theorem insertion64 (l : List Int) (a b : Nat) (hab : a ≤ b) (hb : b ≤ l.length) (hl : l.length ≤ 1000000) : FunL Try.prog 162 [.ref 0 l.length, .v (.int .i64 a), .v (.int .i64 b)] [own64 l] fun r os =>
    r = .tup [] ∧ ∃ l', os = [own64 l'] ∧ Sw a b l l' ∧ Sd a b l' := by
  refine FunL.of_awpI [(100000, 0)] rfl Try.func162 rfl cal162 Try.ntmps162 (by simp) fun hwf hlw ls => ?_
  simp only [lentWf, D.wfs, D.wf, ints_length, ints_wfs, rows_length, rows_wfs, capMax, and_true, true_and] at hwf hlw
  repeat' (first | simp only [go_sem, Ret_eq Try.results162] | simp (disch := omega) only [arith, IntKind.bits, capMax, fill_len, elt_fill] | fail)
  refine awpI_while (σ := Nat × List Int) (fun x => b - x.1) (fun x => a + 1 ≤ x.1 ∧ Sw a b l x.2 ∧ Sd a x.1 x.2) (fun x => [(6, .v (.int .i64 x.1))]) (fun x => [(0, own64 x.2)]) [0, 1, 2, 100000] [] (a + 1, l) _ (Weak.refl _) ⟨Nat.le_refl _, .refl _, fun p q h1 h2 h3 => by omega⟩ ?_ ?_ ?_
  · simp only [go_sem, Ret_eq Try.results162]
  · simp only [go_sem, Ret_eq Try.results162]
  · rintro ⟨i, l1⟩ s ⟨hi, hsw, hsd⟩ hs
    simp only [go_sem, Ret_eq Try.results162] at hs
    dsimp only at hi hsw hsd
    have hl1 := hsw.length
    by_cases hib : i < b
    · repeat' (first | simp only [go_sem, hs, Ret_eq Try.results162] | simp (disch := omega) only [arith, IntKind.bits, capMax, fill_len, elt_fill] | fail)
      refine awpI_while (σ := Nat × List Int) (fun x => x.1) (fun x => (a ≤ x.1 ∧ x.1 ≤ i) ∧ Sw a b l x.2 ∧ Ins a x.1 i x.2) (fun x => [(7, .v (.int .i64 x.1))]) (fun x => [(0, own64 x.2)]) [0, 1, 2, 6, 100000] [] (i, l1) _ (Weak.refl _) ⟨⟨by omega, Nat.le_refl _⟩, hsw, Ins.start hsd⟩ ?_ ?_ ?_
      · simp only [go_sem, hs, Ret_eq Try.results162]
      · simp only [go_sem, hs, Ret_eq Try.results162]
      · rintro ⟨j, l2⟩ s2 ⟨⟨hj1, hj2⟩, hsw2, hins⟩ hs2
        simp only [go_sem, hs, Ret_eq Try.results162] at hs2
        dsimp only at hj1 hj2 hsw2 hins
        have hl2 := hsw2.length
        by_cases hja : a < j
        · have hls := lessS64_fun (l2.getD j 0) (l2.getD (j - 1) 0)
          have ej : (j : Int) - 1 = ((j - 1 : Nat) : Int) := by omega
          by_cases hlt : l2.getD j 0 < l2.getD (j - 1) 0
          · rw [decide_eq_true hlt] at hls
            have e1 := sw_length (l := l2) (i := j) (j := j - 1)
            have e4 : (l2.set j (l2.getD (j - 1) 0)).length = l2.length := List.length_set
            have e2 : (l2.set j (l2.getD (j - 1) 0)).set (j - 1) (l2.getD j 0) = sw l2 j (j - 1) := rfl
            have e3 := sw_comm (l := l2) (i := j) (j := j - 1)
            repeat' (first | simp only [go_sem, hs, hs2, ej, hl2, e2, e3, List.length_set, Ret_eq Try.results162] | simp (disch := omega) only [arith, IntKind.bits, capMax, fill_len, elt_fill] | (refine awpI_draw2 (id := 4) (.one false 0 (.one false 1 (.one false 2 (.one false 3 (.one false 4 (.one false 5 (.one false 6 (.one false 7 (.one false 8 (.one false 9 (.one false 10 (.one false 11 (.one false 12 (.only 13 (.one false 14 .done))))))))))))))) mixed (by decide +kernel) (by decide +kernel) ?_) | (refine awpI_draw2 (id := 6) (.one false 0 (.one false 1 (.one false 5 (.one false 6 (.one false 7 (.one false 8 (.one false 9 (.one false 10 (.one false 11 (.one false 12 (.one false 13 (.one false 14 (.mv 2 (.mv 3 (.cal 4 [15] (.only 15 (.one false 16 (.only 17 .done)))))))))))))))))) mixed (by decide +kernel) (by decide +kernel) ?_) | (refine opCallI_rd (by simp only [go_sem, hs, hs2, ej, hl2, e2, e3, List.length_set, Ret_eq Try.results162]; first | done | rfl) (hls) (by rintro _ rfl; rfl) ?_; rintro _ rfl) | fail)
            all_goals
              refine AgainW.to (j - 1, sw l2 j (j - 1)) ?_ ?_ ?_
              · show j - 1 < j; omega
              · exact ⟨⟨by show a ≤ j - 1; omega, by show j - 1 ≤ i; omega⟩, .step j (j - 1) hsw2 ⟨by omega, by omega⟩ ⟨by omega, by omega⟩ (by omega), hins.step hja hj2 (by omega) hlt⟩
              · simp only [go_sem, hs, hs2, Ret_eq Try.results162]
          · rw [decide_eq_false hlt] at hls
            repeat' (first | simp only [go_sem, hs, hs2, ej, hl2, Ret_eq Try.results162] | simp (disch := omega) only [arith, IntKind.bits, capMax, fill_len, elt_fill] | (refine awpI_draw2 (id := 4) (.one false 0 (.one false 1 (.one false 2 (.one false 3 (.one false 4 (.one false 5 (.one false 6 (.one false 7 (.one false 8 (.one false 9 (.one false 10 (.one false 11 (.one false 12 (.only 13 (.one false 14 .done))))))))))))))) mixed (by decide +kernel) (by decide +kernel) ?_) | (refine opCallI_rd (by simp only [go_sem, hs, hs2, ej, hl2, Ret_eq Try.results162]; first | done | rfl) (hls) (by rintro _ rfl; rfl) ?_; rintro _ rfl) | fail)
            all_goals
              refine AgainW.to (i + 1, l2) ?_ ?_ ?_
              · show b - (i + 1) < b - i; omega
              · exact ⟨by show a + 1 ≤ i + 1; omega, hsw2, hins.done (.inr (by omega))⟩
              · simp only [go_sem, hs, hs2, Ret_eq Try.results162]
        · repeat' (first | simp only [go_sem, hs, hs2, Ret_eq Try.results162] | simp (disch := omega) only [arith, IntKind.bits, capMax, fill_len, elt_fill] | (refine awpI_draw2 (id := 4) (.one false 0 (.one false 1 (.one false 2 (.one false 3 (.one false 4 (.one false 5 (.one false 6 (.one false 7 (.one false 8 (.one false 9 (.one false 10 (.one false 11 (.one false 12 (.only 13 (.one false 14 .done))))))))))))))) mixed (by decide +kernel) (by decide +kernel) ?_) | fail)
          all_goals
            refine AgainW.to (i + 1, l2) ?_ ?_ ?_
            · show b - (i + 1) < b - i; omega
            · exact ⟨by show a + 1 ≤ i + 1; omega, hsw2, hins.done (.inl (by omega))⟩
            · simp only [go_sem, hs, hs2, Ret_eq Try.results162]
    · repeat' (first | simp only [go_sem, hs, Ret_eq Try.results162] | simp (disch := omega) only [arith, IntKind.bits, capMax, fill_len, elt_fill] | refine RetL_calc Try.results162 rfl ?_ | fail)
      all_goals exact ⟨rfl, l1, rfl, hsw, fun p q h1 h2 h3 => hsd p q h1 h2 (by omega)⟩
end Go.Proofs.Ytpkampecmlpfmaa.T

end
section
set_option linter.unusedSimpArgs false
set_option linter.unusedVariables false
/- Sorting a list as a heap; a span turned about; walked. -/
namespace Go.Proofs.Ytpkampecmlpfmaa.T
open Go Go.VL Go.Proofs
set_option maxRecDepth 100000
set_option maxHeartbeats 4000000

theorem reverse64 (l : List Int) (a b : Nat) (hab : a ≤ b) (hb : b ≤ l.length) (h1 : 1 ≤ b) (hl : l.length ≤ 1000000) : FunL Try.prog 166 [.ref 0 l.length, .v (.int .i64 a), .v (.int .i64 b)] [own64 l] fun r os =>
    r = .tup [] ∧ ∃ l', os = [own64 l'] ∧ Sw a b l l' := by
  refine FunL.of_awpI [(100000, 0)] rfl Try.func166 rfl cal166 Try.ntmps166 (by simp) fun hwf hlw ls => ?_
  simp only [lentWf, D.wfs, D.wf, ints_length, ints_wfs, rows_length, rows_wfs, capMax, and_true, true_and] at hwf hlw
  have e0 : (b : Int) - 1 = ((b - 1 : Nat) : Int) := by omega
  repeat' (first | simp only [go_sem, e0, Ret_eq Try.results166] | simp (disch := omega) only [arith, IntKind.bits, capMax, fill_len, elt_fill] | fail)
  refine awpI_while (σ := Nat × Nat × List Int) (fun x => x.2.1 - x.1) (fun x => a ≤ x.1 ∧ x.2.1 < b ∧ Sw a b l x.2.2) (fun x => [(6, .v (.int .i64 x.1)), (7, .v (.int .i64 x.2.1))]) (fun x => [(0, own64 x.2.2)]) [0, 100000] [] (a, b - 1, l) _ (Weak.refl _) ⟨Nat.le_refl _, by show b - 1 < b; omega, .refl _⟩ ?_ ?_ ?_
  · simp only [go_sem, Ret_eq Try.results166]
  · simp only [go_sem, Ret_eq Try.results166]
  · rintro ⟨i, j, l1⟩ s ⟨hi, hj, hsw⟩ hs
    simp only [go_sem, Ret_eq Try.results166] at hs
    dsimp only at hi hj hsw
    have hl1 := hsw.length
    by_cases hij : i < j
    · have ej : (j : Int) - 1 = ((j - 1 : Nat) : Int) := by omega
      have e2 : (l1.set i (l1.getD j 0)).set j (l1.getD i 0) = sw l1 i j := rfl
      have e4 : (l1.set i (l1.getD j 0)).length = l1.length := List.length_set
      repeat' (first | simp only [go_sem, hs, ej, hl1, e2, List.length_set, Ret_eq Try.results166] | simp (disch := omega) only [arith, IntKind.bits, capMax, fill_len, elt_fill] | (refine awpI_draw2 (id := 3) (.one false 0 (.one false 1 (.one false 4 (.one false 5 (.one false 6 (.one false 7 (.one false 8 (.one false 9 (.one false 10 (.one false 11 (.one false 12 (.mv 2 (.mv 3 (.only 13 (.one false 14 (.only 15 .done)))))))))))))))) mixed (by decide +kernel) (by decide +kernel) ?_) | fail)
      all_goals
        refine AgainW.to (i + 1, j - 1, sw l1 i j) ?_ ?_ ?_
        · show j - 1 - (i + 1) < j - i; omega
        · exact ⟨by show a ≤ i + 1; omega, by show j - 1 < b; omega, .step i j hsw ⟨hi, by omega⟩ ⟨by omega, hj⟩ (by omega)⟩
        · simp only [go_sem, hs, Ret_eq Try.results166]
    · repeat' (first | simp only [go_sem, hs, Ret_eq Try.results166] | simp (disch := omega) only [arith, IntKind.bits, capMax, fill_len, elt_fill] | refine RetL_calc Try.results166 rfl ?_ | fail)
      all_goals exact ⟨rfl, l1, rfl, hsw⟩

theorem sift64 (l : List Int) (lo hi f : Nat) (hh : Hp (lo + 1) hi f l) (hb : f + hi ≤ l.length) (hlo : lo ≤ hi) (hl : l.length ≤ 1000000) : FunL Try.prog 184 [.ref 0 l.length, .v (.int .i64 lo), .v (.int .i64 hi), .v (.int .i64 f)] [own64 l] fun r os =>
    r = .tup [] ∧ ∃ l', os = [own64 l'] ∧ Sw f (f + hi) l l' ∧ Hp lo hi f l' := by
  refine FunL.of_awpI [(100000, 0)] rfl Try.func184 rfl cal184 Try.ntmps184 (by simp) fun hwf hlw ls => ?_
  simp only [lentWf, D.wfs, D.wf, ints_length, ints_wfs, rows_length, rows_wfs, capMax, and_true, true_and] at hwf hlw
  repeat' (first | simp only [go_sem, Ret_eq Try.results184] | fail)
  refine awpI_while (σ := Nat × List Int) (fun x => hi - x.1) (fun x => (lo ≤ x.1 ∧ x.1 ≤ hi) ∧ Sw f (f + hi) l x.2 ∧ HpEx lo hi f x.1 x.2) (fun x => [(8, .v (.int .i64 x.1))]) (fun x => [(0, own64 x.2)]) [0, 2, 3, 100000] [] (lo, l) _ (Weak.refl _) ⟨⟨Nat.le_refl _, hlo⟩, .refl _, HpEx.start hh⟩ ?_ ?_ ?_
  · simp only [go_sem, Ret_eq Try.results184]
  · simp only [go_sem, Ret_eq Try.results184]
  · rintro ⟨r, l1⟩ s ⟨⟨hr1, hr2⟩, hsw, hex⟩ hs
    simp only [go_sem, Ret_eq Try.results184] at hs
    dsimp only at hr1 hr2 hsw hex
    have hl1 := hsw.length
    have er : (2 : Int) * (r : Int) + 1 = ((2 * r + 1 : Nat) : Int) := by omega
    have er1 : ((2 * r + 1 : Nat) : Int) + 1 = ((2 * r + 2 : Nat) : Int) := by omega
    have f0 : (f : Int) + (r : Int) = ((f + r : Nat) : Int) := by omega
    have f1 : (f : Int) + ((2 * r + 1 : Nat) : Int) = ((f + (2 * r + 1) : Nat) : Int) := by omega
    have f2 : (f : Int) + ((2 * r + 2 : Nat) : Int) = ((f + (2 * r + 2) : Nat) : Int) := by omega
    have f3 : ((f + (2 * r + 1) : Nat) : Int) + 1 = ((f + (2 * r + 2) : Nat) : Int) := by omega
    by_cases hc : 2 * r + 1 < hi
    · by_cases hc2 : 2 * r + 2 < hi ∧ l1.getD (f + (2 * r + 1)) 0 < l1.getD (f + (2 * r + 2)) 0
      · obtain ⟨hc2, hlt⟩ := hc2
        have hls := lessS64_fun (l1.getD (f + (2 * r + 1)) 0) (l1.getD (f + (2 * r + 2)) 0)
        rw [decide_eq_true hlt] at hls
        have hls2 := lessS64_fun (l1.getD (f + r) 0) (l1.getD (f + (2 * r + 2)) 0)
        have hd : ∀ d, (d = 2 * r + 1 ∨ d = 2 * r + 2) → d < hi → l1.getD (f + d) 0 ≤ l1.getD (f + (2 * r + 2)) 0 := fun d h1 h2 => by
          rcases h1 with rfl | rfl <;> omega
        by_cases hlt2 : l1.getD (f + r) 0 < l1.getD (f + (2 * r + 2)) 0
        · rw [decide_eq_true hlt2] at hls2
          have e2 : (l1.set (f + r) (l1.getD (f + (2 * r + 2)) 0)).set (f + (2 * r + 2)) (l1.getD (f + r) 0) = sw l1 (f + r) (f + (2 * r + 2)) := rfl
          have e4 : (l1.set (f + r) (l1.getD (f + (2 * r + 2)) 0)).length = l1.length := List.length_set
          repeat' (first | simp only [go_sem, hs, hl1, er, er1, f0, f1, f2, f3, e2, List.length_set, Ret_eq Try.results184] | simp (disch := omega) only [arith, IntKind.bits, capMax, fill_len, elt_fill] | (refine awpI_draw2 (id := 3) (.one false 0 (.one false 1 (.one false 2 (.one false 3 (.one false 4 (.one false 5 (.one false 6 (.one false 7 (.one false 8 (.one false 9 (.one false 10 (.one false 11 (.one false 12 (.one false 13 (.one false 14 (.one false 15 (.one false 16 (.one false 17 (.only 18 (.one false 19 .done)))))))))))))))))))) mixed (by decide +kernel) (by decide +kernel) ?_) | (refine awpI_draw2 (id := 5) (.one false 0 (.one false 1 (.one false 2 (.one false 3 (.one false 4 (.one false 5 (.one false 6 (.one false 7 (.one false 8 (.one false 9 (.one false 10 (.one false 11 (.only 12 (.one false 13 .done)))))))))))))) mixed (by decide +kernel) (by decide +kernel) ?_) | (refine awpI_draw2 (id := 6) (.one false 0 (.one false 1 (.one false 2 (.one false 3 (.one false 8 (.one false 9 (.one false 10 (.one false 11 (.one false 12 (.one false 13 (.one false 14 (.one false 15 (.one false 16 (.one false 17 (.one false 18 (.one false 19 (.one false 20 (.mv 4 (.mv 5 (.mv 6 (.cal 7 [21] (.only 21 (.one false 22 (.only 23 .done)))))))))))))))))))))))) mixed (by decide +kernel) (by decide +kernel) ?_) | (refine opCallI_rd (by simp only [go_sem, hs, hl1, er, er1, f0, f1, f2, f3, e2, List.length_set, Ret_eq Try.results184]; first | done | rfl) (hls) (by rintro _ rfl; rfl) ?_; rintro _ rfl) | (refine opCallI_rd (by simp only [go_sem, hs, hl1, er, er1, f0, f1, f2, f3, e2, List.length_set, Ret_eq Try.results184]; first | done | rfl) (hls2) (by rintro _ rfl; rfl) ?_; rintro _ rfl) | fail)
          all_goals
            refine AgainW.to (2 * r + 2, sw l1 (f + r) (f + (2 * r + 2))) ?_ ?_ ?_
            · show hi - (2 * r + 2) < hi - r; omega
            · exact ⟨⟨by show lo ≤ 2 * r + 2; omega, by show 2 * r + 2 ≤ hi; omega⟩, .step _ _ hsw ⟨by omega, by omega⟩ ⟨by omega, by omega⟩ (by omega), hex.step hr1 (.inr rfl) hc2 hd hlt2 (by omega)⟩
            · simp only [go_sem, hs, Ret_eq Try.results184]
        · rw [decide_eq_false hlt2] at hls2
          repeat' (first | simp only [go_sem, hs, hl1, er, er1, f0, f1, f2, f3, Ret_eq Try.results184] | simp (disch := omega) only [arith, IntKind.bits, capMax, fill_len, elt_fill] | refine RetL_calc Try.results184 rfl ?_ | (refine awpI_draw2 (id := 3) (.one false 0 (.one false 1 (.one false 2 (.one false 3 (.one false 4 (.one false 5 (.one false 6 (.one false 7 (.one false 8 (.one false 9 (.one false 10 (.one false 11 (.one false 12 (.one false 13 (.one false 14 (.one false 15 (.one false 16 (.one false 17 (.only 18 (.one false 19 .done)))))))))))))))))))) mixed (by decide +kernel) (by decide +kernel) ?_) | (refine awpI_draw2 (id := 5) (.one false 0 (.one false 1 (.one false 2 (.one false 3 (.one false 4 (.one false 5 (.one false 6 (.one false 7 (.one false 8 (.one false 9 (.one false 10 (.one false 11 (.only 12 (.one false 13 .done)))))))))))))) mixed (by decide +kernel) (by decide +kernel) ?_) | (refine opCallI_rd (by simp only [go_sem, hs, hl1, er, er1, f0, f1, f2, f3, Ret_eq Try.results184]; first | done | rfl) (hls) (by rintro _ rfl; rfl) ?_; rintro _ rfl) | (refine opCallI_rd (by simp only [go_sem, hs, hl1, er, er1, f0, f1, f2, f3, Ret_eq Try.results184]; first | done | rfl) (hls2) (by rintro _ rfl; rfl) ?_; rintro _ rfl) | fail)
          all_goals exact ⟨rfl, l1, rfl, hsw, hex.done fun d h1 h2 => by have := hd d h1 h2; omega⟩
      · have hls2 := lessS64_fun (l1.getD (f + r) 0) (l1.getD (f + (2 * r + 1)) 0)
        have hd : ∀ d, (d = 2 * r + 1 ∨ d = 2 * r + 2) → d < hi → l1.getD (f + d) 0 ≤ l1.getD (f + (2 * r + 1)) 0 := fun d h1 h2 => by
          rcases h1 with rfl | rfl
          · exact Int.le_refl _
          · refine Int.not_lt.1 fun q => hc2 ⟨h2, q⟩
        have hls := lessS64_fun (l1.getD (f + (2 * r + 1)) 0) (l1.getD (f + (2 * r + 2)) 0)
        by_cases hlt2 : l1.getD (f + r) 0 < l1.getD (f + (2 * r + 1)) 0
        · rw [decide_eq_true hlt2] at hls2
          have e2 : (l1.set (f + r) (l1.getD (f + (2 * r + 1)) 0)).set (f + (2 * r + 1)) (l1.getD (f + r) 0) = sw l1 (f + r) (f + (2 * r + 1)) := rfl
          have e4 : (l1.set (f + r) (l1.getD (f + (2 * r + 1)) 0)).length = l1.length := List.length_set
          by_cases hc3 : 2 * r + 2 < hi
          · rw [decide_eq_false (fun q => hc2 ⟨hc3, q⟩)] at hls
            repeat' (first | simp only [go_sem, hs, hl1, er, er1, f0, f1, f2, f3, e2, List.length_set, Ret_eq Try.results184] | simp (disch := omega) only [arith, IntKind.bits, capMax, fill_len, elt_fill] | (refine awpI_draw2 (id := 3) (.one false 0 (.one false 1 (.one false 2 (.one false 3 (.one false 4 (.one false 5 (.one false 6 (.one false 7 (.one false 8 (.one false 9 (.one false 10 (.one false 11 (.one false 12 (.one false 13 (.one false 14 (.one false 15 (.one false 16 (.one false 17 (.only 18 (.one false 19 .done)))))))))))))))))))) mixed (by decide +kernel) (by decide +kernel) ?_) | (refine awpI_draw2 (id := 5) (.one false 0 (.one false 1 (.one false 2 (.one false 3 (.one false 4 (.one false 5 (.one false 6 (.one false 7 (.one false 8 (.one false 9 (.one false 10 (.one false 11 (.only 12 (.one false 13 .done)))))))))))))) mixed (by decide +kernel) (by decide +kernel) ?_) | (refine awpI_draw2 (id := 6) (.one false 0 (.one false 1 (.one false 2 (.one false 3 (.one false 8 (.one false 9 (.one false 10 (.one false 11 (.one false 12 (.one false 13 (.one false 14 (.one false 15 (.one false 16 (.one false 17 (.one false 18 (.one false 19 (.one false 20 (.mv 4 (.mv 5 (.mv 6 (.cal 7 [21] (.only 21 (.one false 22 (.only 23 .done)))))))))))))))))))))))) mixed (by decide +kernel) (by decide +kernel) ?_) | (refine opCallI_rd (by simp only [go_sem, hs, hl1, er, er1, f0, f1, f2, f3, e2, List.length_set, Ret_eq Try.results184]; first | done | rfl) (hls) (by rintro _ rfl; rfl) ?_; rintro _ rfl) | (refine opCallI_rd (by simp only [go_sem, hs, hl1, er, er1, f0, f1, f2, f3, e2, List.length_set, Ret_eq Try.results184]; first | done | rfl) (hls2) (by rintro _ rfl; rfl) ?_; rintro _ rfl) | fail)
            all_goals
              refine AgainW.to (2 * r + 1, sw l1 (f + r) (f + (2 * r + 1))) ?_ ?_ ?_
              · show hi - (2 * r + 1) < hi - r; omega
              · exact ⟨⟨by show lo ≤ 2 * r + 1; omega, by show 2 * r + 1 ≤ hi; omega⟩, .step _ _ hsw ⟨by omega, by omega⟩ ⟨by omega, by omega⟩ (by omega), hex.step hr1 (.inl rfl) hc hd hlt2 (by omega)⟩
              · simp only [go_sem, hs, Ret_eq Try.results184]
          · repeat' (first | simp only [go_sem, hs, hl1, er, er1, f0, f1, f2, f3, e2, List.length_set, Ret_eq Try.results184] | simp (disch := omega) only [arith, IntKind.bits, capMax, fill_len, elt_fill] | (refine awpI_draw2 (id := 3) (.one false 0 (.one false 1 (.one false 2 (.one false 3 (.one false 4 (.one false 5 (.one false 6 (.one false 7 (.one false 8 (.one false 9 (.one false 10 (.one false 11 (.one false 12 (.one false 13 (.one false 14 (.one false 15 (.one false 16 (.one false 17 (.only 18 (.one false 19 .done)))))))))))))))))))) mixed (by decide +kernel) (by decide +kernel) ?_) | (refine awpI_draw2 (id := 5) (.one false 0 (.one false 1 (.one false 2 (.one false 3 (.one false 4 (.one false 5 (.one false 6 (.one false 7 (.one false 8 (.one false 9 (.one false 10 (.one false 11 (.only 12 (.one false 13 .done)))))))))))))) mixed (by decide +kernel) (by decide +kernel) ?_) | (refine awpI_draw2 (id := 6) (.one false 0 (.one false 1 (.one false 2 (.one false 3 (.one false 8 (.one false 9 (.one false 10 (.one false 11 (.one false 12 (.one false 13 (.one false 14 (.one false 15 (.one false 16 (.one false 17 (.one false 18 (.one false 19 (.one false 20 (.mv 4 (.mv 5 (.mv 6 (.cal 7 [21] (.only 21 (.one false 22 (.only 23 .done)))))))))))))))))))))))) mixed (by decide +kernel) (by decide +kernel) ?_) | (refine opCallI_rd (by simp only [go_sem, hs, hl1, er, er1, f0, f1, f2, f3, e2, List.length_set, Ret_eq Try.results184]; first | done | rfl) (hls2) (by rintro _ rfl; rfl) ?_; rintro _ rfl) | fail)
            all_goals
              refine AgainW.to (2 * r + 1, sw l1 (f + r) (f + (2 * r + 1))) ?_ ?_ ?_
              · show hi - (2 * r + 1) < hi - r; omega
              · exact ⟨⟨by show lo ≤ 2 * r + 1; omega, by show 2 * r + 1 ≤ hi; omega⟩, .step _ _ hsw ⟨by omega, by omega⟩ ⟨by omega, by omega⟩ (by omega), hex.step hr1 (.inl rfl) hc hd hlt2 (by omega)⟩
              · simp only [go_sem, hs, Ret_eq Try.results184]
        · rw [decide_eq_false hlt2] at hls2
          by_cases hc3 : 2 * r + 2 < hi
          · rw [decide_eq_false (fun q => hc2 ⟨hc3, q⟩)] at hls
            repeat' (first | simp only [go_sem, hs, hl1, er, er1, f0, f1, f2, f3, Ret_eq Try.results184] | simp (disch := omega) only [arith, IntKind.bits, capMax, fill_len, elt_fill] | refine RetL_calc Try.results184 rfl ?_ | (refine awpI_draw2 (id := 3) (.one false 0 (.one false 1 (.one false 2 (.one false 3 (.one false 4 (.one false 5 (.one false 6 (.one false 7 (.one false 8 (.one false 9 (.one false 10 (.one false 11 (.one false 12 (.one false 13 (.one false 14 (.one false 15 (.one false 16 (.one false 17 (.only 18 (.one false 19 .done)))))))))))))))))))) mixed (by decide +kernel) (by decide +kernel) ?_) | (refine awpI_draw2 (id := 5) (.one false 0 (.one false 1 (.one false 2 (.one false 3 (.one false 4 (.one false 5 (.one false 6 (.one false 7 (.one false 8 (.one false 9 (.one false 10 (.one false 11 (.only 12 (.one false 13 .done)))))))))))))) mixed (by decide +kernel) (by decide +kernel) ?_) | (refine opCallI_rd (by simp only [go_sem, hs, hl1, er, er1, f0, f1, f2, f3, Ret_eq Try.results184]; first | done | rfl) (hls) (by rintro _ rfl; rfl) ?_; rintro _ rfl) | (refine opCallI_rd (by simp only [go_sem, hs, hl1, er, er1, f0, f1, f2, f3, Ret_eq Try.results184]; first | done | rfl) (hls2) (by rintro _ rfl; rfl) ?_; rintro _ rfl) | fail)
            all_goals exact ⟨rfl, l1, rfl, hsw, hex.done fun d h1 h2 => by have := hd d h1 h2; omega⟩
          · repeat' (first | simp only [go_sem, hs, hl1, er, er1, f0, f1, f2, f3, Ret_eq Try.results184] | simp (disch := omega) only [arith, IntKind.bits, capMax, fill_len, elt_fill] | refine RetL_calc Try.results184 rfl ?_ | (refine awpI_draw2 (id := 3) (.one false 0 (.one false 1 (.one false 2 (.one false 3 (.one false 4 (.one false 5 (.one false 6 (.one false 7 (.one false 8 (.one false 9 (.one false 10 (.one false 11 (.one false 12 (.one false 13 (.one false 14 (.one false 15 (.one false 16 (.one false 17 (.only 18 (.one false 19 .done)))))))))))))))))))) mixed (by decide +kernel) (by decide +kernel) ?_) | (refine awpI_draw2 (id := 5) (.one false 0 (.one false 1 (.one false 2 (.one false 3 (.one false 4 (.one false 5 (.one false 6 (.one false 7 (.one false 8 (.one false 9 (.one false 10 (.one false 11 (.only 12 (.one false 13 .done)))))))))))))) mixed (by decide +kernel) (by decide +kernel) ?_) | (refine opCallI_rd (by simp only [go_sem, hs, hl1, er, er1, f0, f1, f2, f3, Ret_eq Try.results184]; first | done | rfl) (hls2) (by rintro _ rfl; rfl) ?_; rintro _ rfl) | fail)
            all_goals exact ⟨rfl, l1, rfl, hsw, hex.done fun d h1 h2 => by have := hd d h1 h2; omega⟩
    · repeat' (first | simp only [go_sem, hs, er, Ret_eq Try.results184] | simp (disch := omega) only [arith, IntKind.bits, capMax, fill_len, elt_fill] | refine RetL_calc Try.results184 rfl ?_ | fail)
      all_goals exact ⟨rfl, l1, rfl, hsw, hex.done fun d h1 h2 => by omega⟩
end Go.Proofs.Ytpkampecmlpfmaa.T

end
section
set_option linter.unusedSimpArgs false
set_option linter.unusedVariables false
/- Sorting a list as a heap, walked. -/
namespace Go.Proofs.Ytpkampecmlpfmaa.T
open Go Go.VL Go.Proofs
set_option maxRecDepth 100000
set_option maxHeartbeats 4000000

theorem heap64 (l : List Int) (a b : Nat) (hab : a < b) (hb : b ≤ l.length) (hl : l.length ≤ 1000000) : FunL Try.prog 163 [.ref 0 l.length, .v (.int .i64 a), .v (.int .i64 b)] [own64 l] fun r os =>
    r = .tup [] ∧ ∃ l', os = [own64 l'] ∧ Sw a b l l' ∧ Sd a b l' := by
  refine FunL.of_awpI [(100000, 0)] rfl Try.func163 rfl cal163 Try.ntmps163 (by simp) fun hwf hlw ls => ?_
  simp only [lentWf, D.wfs, D.wf, ints_length, ints_wfs, rows_length, rows_wfs, capMax, and_true, true_and] at hwf hlw
  obtain ⟨n, rfl⟩ : ∃ n, b = a + n := ⟨b - a, by omega⟩
  have e0 : ((a + n : Nat) : Int) - (a : Int) = ((n : Nat) : Int) := by omega
  have e1 : (n : Int) - 1 = ((n - 1 : Nat) : Int) := by omega
  have e2 : ((n - 1 : Nat) : Int).tdiv 2 = (((n - 1) / 2 : Nat) : Int) := by
    rw [Int.tdiv_eq_ediv_of_nonneg (by omega)]; omega
  repeat' (first | simp only [go_sem, e0, e1, e2, Ret_eq Try.results163] | simp (disch := omega) only [arith, IntKind.bits, capMax, fill_len, elt_fill] | fail)
  refine awpI_while (σ := Nat × List Int) (fun x => x.1) (fun x => x.1 ≤ (n - 1) / 2 + 1 ∧ Sw a (a + n) l x.2 ∧ Hp x.1 n a x.2) (fun x => [(9, .v (.int .i64 ((x.1 : Int) - 1)))]) (fun x => [(0, own64 x.2)]) [0, 6, 7, 8, 100000] [] ((n - 1) / 2 + 1, l) _ (Weak.refl _) ⟨Nat.le_refl _, .refl _, fun k c h1 h2 h3 => by omega⟩ ?_ ?_ ?_
  · simp only [go_sem, e2, Ret_eq Try.results163]
    all_goals omega
  · simp only [go_sem, Ret_eq Try.results163]
  · rintro ⟨k, l1⟩ s ⟨hk, hsw, hhp⟩ hs
    simp only [go_sem, Ret_eq Try.results163] at hs
    dsimp only at hk hsw hhp
    have hl1 := hsw.length
    by_cases hk0 : 1 ≤ k
    · obtain ⟨q, rfl⟩ : ∃ q, k = q + 1 := ⟨k - 1, by omega⟩
      have ek : ((q + 1 : Nat) : Int) - 1 = ((q : Nat) : Int) := by omega
      have hsf := sift64 l1 q n a hhp (by omega) (by omega) (by omega)
      rw [hl1] at hsf
      repeat' (first | simp only [go_sem, hs, ek, hl1, Ret_eq Try.results163] | simp (disch := omega) only [arith, IntKind.bits, capMax, fill_len, elt_fill] | (refine opCallI_lend [0] (by simp only [go_sem, hs, ek, hl1, Ret_eq Try.results163]; first | done | rfl) (by simp only [go_sem, hs, ek, hl1, Ret_eq Try.results163]; first | done | rfl) (by decide) (by simp only [go_sem, hs, ek, hl1, Ret_eq Try.results163]; first | done | decide) (by simp only [go_sem, hs, ek, hl1, Ret_eq Try.results163]; first | done | decide) (hsf) ?_; rintro _ _ ⟨rfl, l2, rfl, hs2, hp2⟩) | fail)
      all_goals
        refine AgainW.to (q, l2) ?_ ?_ ?_
        · show q < q + 1; omega
        · exact ⟨by show q ≤ _; omega, hsw.trans hs2, hp2⟩
        · simp only [go_sem, hs, Ret_eq Try.results163]
    · obtain rfl : k = 0 := by omega
      repeat' (first | simp only [go_sem, hs, e1, Ret_eq Try.results163] | simp (disch := omega) only [arith, IntKind.bits, capMax, fill_len, elt_fill] | fail)
      refine awpI_while (σ := Nat × List Int) (fun x => x.1) (fun x => x.1 ≤ n ∧ Sw a (a + n) l x.2 ∧ Hp 0 x.1 a x.2 ∧ Tl a x.1 n x.2) (fun x => [(10, .v (.int .i64 ((x.1 : Int) - 1)))]) (fun x => [(0, own64 x.2)]) [0, 6, 7, 100000] [] (n, l1) _ (Weak.refl _) ⟨Nat.le_refl _, hsw, hhp, ⟨fun p q h1 h2 h3 => by omega, fun p q h1 h2 h3 => by omega⟩⟩ ?_ ?_ ?_
      · simp only [go_sem, hs, e1, Ret_eq Try.results163]
      · simp only [go_sem, hs, Ret_eq Try.results163]
      · rintro ⟨k, l3⟩ s2 ⟨hk, hsw3, hhp3, htl⟩ hs2
        simp only [go_sem, hs, Ret_eq Try.results163] at hs2
        dsimp only at hk hsw3 hhp3 htl
        have hl3 := hsw3.length
        by_cases hk0 : 1 ≤ k
        · obtain ⟨q, rfl⟩ : ∃ q, k = q + 1 := ⟨k - 1, by omega⟩
          have ek : ((q + 1 : Nat) : Int) - 1 = ((q : Nat) : Int) := by omega
          have ea : (a : Int) + (q : Int) = ((a + q : Nat) : Int) := by omega
          have hslen := sw_length (l := l3) (i := a) (j := a + q)
          have hsf := sift64 (sw l3 a (a + q)) 0 q a (hhp3.swapped (by omega)) (by omega) (by omega) (by omega)
          have e00 : ((0 : Nat) : Int) = 0 := rfl
          rw [hslen, hl3, e00] at hsf
          have e5 : (l3.set a (l3.getD (a + q) 0)).set (a + q) (l3.getD a 0) = sw l3 a (a + q) := rfl
          have e6 : (l3.set a (l3.getD (a + q) 0)).length = l3.length := List.length_set
          repeat' (first | simp only [go_sem, hs, hs2, ek, ea, hl3, e5, List.length_set, Ret_eq Try.results163] | simp (disch := omega) only [arith, IntKind.bits, capMax, fill_len, elt_fill] | (refine awpI_draw2 (id := 10) (.one false 0 (.one false 1 (.one false 6 (.one false 7 (.one false 8 (.one false 9 (.one false 10 (.one false 11 (.one false 12 (.one false 13 (.one false 14 (.one false 15 (.one false 16 (.mv 2 (.mv 3 (.mv 4 (.cal 5 [17] (.only 17 (.one false 18 (.only 19 .done)))))))))))))))))))) mixed (by decide +kernel) (by decide +kernel) ?_) | (refine opCallI_lend [0] (by simp only [go_sem, hs, hs2, ek, ea, hl3, e5, List.length_set, Ret_eq Try.results163]; first | done | rfl) (by simp only [go_sem, hs, hs2, ek, ea, hl3, e5, List.length_set, Ret_eq Try.results163]; first | done | rfl) (by decide) (by simp only [go_sem, hs, hs2, ek, ea, hl3, e5, List.length_set, Ret_eq Try.results163]; first | done | decide) (by simp only [go_sem, hs, hs2, ek, ea, hl3, e5, List.length_set, Ret_eq Try.results163]; first | done | decide) (hsf) ?_; rintro _ _ ⟨rfl, l4, rfl, hs4, hp4⟩) | fail)
          all_goals
            refine AgainW.to (q, l4) ?_ ?_ ?_
            · show q < q + 1; omega
            · exact ⟨by show q ≤ n; omega, (Sw.step a (a + q) hsw3 ⟨by omega, by omega⟩ ⟨by omega, by omega⟩ (by omega)).trans (hs4.mono (by omega) (by omega) (by omega)), hp4, htl.step hhp3 (by omega) (by omega) hs4⟩
            · simp only [go_sem, hs, hs2, Ret_eq Try.results163]
        · obtain rfl : k = 0 := by omega
          repeat' (first | simp only [go_sem, hs, hs2, Ret_eq Try.results163] | simp (disch := omega) only [arith, IntKind.bits, capMax, fill_len, elt_fill] | refine RetL_calc Try.results163 rfl ?_ | fail)
          all_goals exact ⟨rfl, l3, rfl, hsw3, htl.t1⟩
end Go.Proofs.Ytpkampecmlpfmaa.T

end
section
set_option linter.unusedSimpArgs false
set_option linter.unusedVariables false
/- Lists parted, walked. -/
namespace Go.Proofs.Ytpkampecmlpfmaa.T
open Go Go.VL Go.Proofs
set_option maxRecDepth 100000
set_option maxHeartbeats 8000000

theorem partEq64 (l : List Int) (a b v : Nat) (hv : a ≤ v ∧ v < b) (hb : b ≤ l.length) (hl : l.length ≤ 1000000) : FunL Try.prog 169 [.ref 0 l.length, .v (.int .i64 a), .v (.int .i64 b), .v (.int .i64 v)] [own64 l] fun r os =>
    ∃ m : Nat, r = .v (.int .i64 m) ∧ ∃ l', os = [own64 l'] ∧ Sw a b l l' ∧ PartEq a b m (l.getD v 0) l' := by
  obtain ⟨p, hpe⟩ : ∃ p, l.getD v 0 = p := ⟨_, rfl⟩
  rw [hpe]
  refine FunL.of_awpI [(100000, 0)] rfl Try.func169 rfl cal169 Try.ntmps169 (by simp) fun hwf hlw ls => ?_
  simp only [lentWf, D.wfs, D.wf, ints_length, ints_wfs, rows_length, rows_wfs, capMax, and_true, true_and] at hwf hlw
  have e2 : (l.set a (l.getD v 0)).set v (l.getD a 0) = sw l a v := rfl
  have e3 : (l.set a (l.getD v 0)).length = l.length := List.length_set
  have e4 := sw_length (l := l) (i := a) (j := v)
  have eb : (b : Int) - 1 = ((b - 1 : Nat) : Int) := by omega
  have hp : (sw l a v).getD a 0 = l.getD v 0 := by
    rw [sw_getD (by omega) (by omega)]
    by_cases q : a = v
    · rw [if_pos q, q]
    · rw [if_neg q, if_pos rfl]
  rw [hpe] at hp
  have hP0 : Pe a b (a + 1) (b - 1) p (sw l a v) := by
    refine ⟨hp, fun k k1 k2 => ?_, fun k k1 k2 => by omega, by omega, by omega, by omega⟩
    obtain rfl : k = a := by omega
    exact Int.le_of_eq hp
  have hS0 : Sw a b l (sw l a v) := .step a v (.refl _) ⟨Nat.le_refl _, by omega⟩ hv hb
  repeat' (first | simp only [go_sem, e2, eb, List.length_set, Ret_eq Try.results169] | simp (disch := omega) only [arith, IntKind.bits, capMax, fill_len, elt_fill] | (refine awpI_draw2 (id := 1) (.one false 0 (.one false 1 (.one false 4 (.one false 5 (.one false 6 (.one false 7 (.one false 8 (.one false 9 (.one false 10 (.one false 11 (.one false 12 (.mv 2 (.mv 3 (.only 13 (.one false 14 (.only 15 .done)))))))))))))))) mixed (by decide +kernel) (by decide +kernel) ?_) | fail)
  refine awpI_while (σ := Nat × Nat × List Int) (fun x => x.2.1 + 1 - x.1) (fun x => Sw a b l x.2.2 ∧ Pe a b x.1 x.2.1 p x.2.2) (fun x => [(9, .v (.int .i64 x.1)), (10, .v (.int .i64 x.2.1))]) (fun x => [(0, own64 x.2.2)]) [0, 1, 100000] [] (a + 1, b - 1, sw l a v) _ (Weak.refl _) ⟨hS0, hP0⟩ ?_ ?_ ?_
  · simp only [go_sem, Ret_eq Try.results169]
  · simp only [go_sem, Ret_eq Try.results169]
  · rintro ⟨i, j, l1⟩ s ⟨hsw, hP⟩ hs
    simp only [go_sem, Ret_eq Try.results169] at hs
    dsimp only at hsw hP
    have hL := hsw.length
    repeat' (first | simp only [go_sem, hs, Ret_eq Try.results169] | fail)
    refine awpI_while (σ := Nat) (fun x => j + 1 - x) (fun x => i ≤ x ∧ Pe a b x j p l1) (fun x => [(9, .v (.int .i64 x))]) (fun _ => []) [0, 1, 10, 100000] [0] i _ (Weak.refl _) ⟨Nat.le_refl _, hP⟩ ?_ ?_ ?_
    · simp only [go_sem, hs, Ret_eq Try.results169]
    · simp only [go_sem, hs, Ret_eq Try.results169]
    · rintro i2 s2 ⟨hges2, hPi2⟩ hs2
      simp only [go_sem, hs, Ret_eq Try.results169] at hs2
      have his2 := hPi2.hi
      have hjs2 := hPi2.hj
      have hijs2 := hPi2.hij
      have has2 := hPi2.ha
      have hlss2 := lessS64_fun p (l1.getD i2 0)
      by_cases qs2 : i2 ≤ j
      · by_cases rs2 : ¬ p < l1.getD i2 0
        · rw [decide_eq_false rs2] at hlss2
          repeat' (first | simp only [go_sem, hs, hs2, hL, has2, Ret_eq Try.results169] | simp (disch := omega) only [arith, IntKind.bits, capMax, fill_len, elt_fill] | (refine awpI_draw2 (id := 3) (.one false 0 (.one false 1 (.one false 2 (.one false 3 (.one false 4 (.one false 5 (.one false 6 (.one false 7 (.one false 8 (.one false 9 (.one false 10 (.one false 11 (.only 12 (.one false 13 (.one false 14 .done))))))))))))))) mixed (by decide +kernel) (by decide +kernel) ?_) | (refine opCallI_rd (by simp only [go_sem, hs, hs2, hL, has2, Ret_eq Try.results169]; first | done | rfl) (hlss2) (by rintro _ rfl; rfl) ?_; rintro _ rfl) | fail)
          all_goals
            refine AgainW.to (i2 + 1) ?_ ?_ ?_
            · show j + 1 - (i2 + 1) < j + 1 - i2; omega
            · exact ⟨by show i ≤ i2 + 1; omega, hPi2.up qs2 (by omega)⟩
            · simp only [go_sem, hs, hs2, hL, has2, Ret_eq Try.results169]
        · rw [decide_eq_true (Classical.not_not.1 rs2)] at hlss2
          have xs2 : j < i2 ∨ p < l1.getD i2 0 := .inr (by omega)
          repeat' (first | simp only [go_sem, hs, hs2, hL, has2, Ret_eq Try.results169] | simp (disch := omega) only [arith, IntKind.bits, capMax, fill_len, elt_fill] | (refine awpI_draw2 (id := 3) (.one false 0 (.one false 1 (.one false 2 (.one false 3 (.one false 4 (.one false 5 (.one false 6 (.one false 7 (.one false 8 (.one false 9 (.one false 10 (.one false 11 (.only 12 (.one false 13 (.one false 14 .done))))))))))))))) mixed (by decide +kernel) (by decide +kernel) ?_) | (refine opCallI_rd (by simp only [go_sem, hs, hs2, hL, has2, Ret_eq Try.results169]; first | done | rfl) (hlss2) (by rintro _ rfl; rfl) ?_; rintro _ rfl) | fail)
          refine awpI_while (σ := Nat) (fun x => x) (fun x => x ≤ j ∧ Pe a b i2 x p l1) (fun x => [(10, .v (.int .i64 x))]) (fun _ => []) [0, 1, 9, 100000] [0] j _ (Weak.refl _) ⟨Nat.le_refl _, hPi2⟩ ?_ ?_ ?_
          · simp only [go_sem, hs, hs2, Ret_eq Try.results169]
          · simp only [go_sem, hs, hs2, Ret_eq Try.results169]
          · rintro j2 s3 ⟨hges3, hPi2j2⟩ hs3
            simp only [go_sem, hs, hs2, Ret_eq Try.results169] at hs3
            have his3 := hPi2j2.hi
            have hjs3 := hPi2j2.hj
            have hijs3 := hPi2j2.hij
            have has3 := hPi2j2.ha
            have hlss3 := lessS64_fun p (l1.getD j2 0)
            by_cases qs3 : i2 ≤ j2
            · have ejs3 : (j2 : Int) - 1 = ((j2 - 1 : Nat) : Int) := by omega
              by_cases rs3 : p < l1.getD j2 0
              · rw [decide_eq_true rs3] at hlss3
                repeat' (first | simp only [go_sem, hs, hs2, hs3, hL, has3, ejs3, Ret_eq Try.results169] | simp (disch := omega) only [arith, IntKind.bits, capMax, fill_len, elt_fill] | (refine awpI_draw2 (id := 5) (.one false 0 (.one false 1 (.one false 2 (.one false 3 (.one false 4 (.one false 5 (.one false 6 (.one false 7 (.one false 8 (.one false 9 (.one false 10 (.one false 11 (.only 12 (.one false 13 .done)))))))))))))) mixed (by decide +kernel) (by decide +kernel) ?_) | (refine opCallI_rd (by simp only [go_sem, hs, hs2, hs3, hL, has3, ejs3, Ret_eq Try.results169]; first | done | rfl) (hlss3) (by rintro _ rfl; rfl) ?_; rintro _ rfl) | fail)
                all_goals
                  refine AgainW.to (j2 - 1) ?_ ?_ ?_
                  · show j2 - 1 < j2; omega
                  · exact ⟨by show j2 - 1 ≤ j; omega, hPi2j2.down qs3 (by omega)⟩
                  · simp only [go_sem, hs, hs2, hs3, hL, has3, Ret_eq Try.results169]
              · rw [decide_eq_false rs3] at hlss3
                have xs3 : l1.getD j2 0 ≤ p := by omega
                have hlt : l1.getD j2 0 ≤ p := xs3
                have ej : (j2 : Int) - 1 = ((j2 - 1 : Nat) : Int) := by omega
                have e5 : (l1.set i2 (l1.getD j2 0)).set j2 (l1.getD i2 0) = sw l1 i2 j2 := rfl
                have e6 : (l1.set i2 (l1.getD j2 0)).length = l1.length := List.length_set
                repeat' (first | simp only [go_sem, hs, hs2, hs3, hL, has3, ej, e5, List.length_set, Ret_eq Try.results169] | simp (disch := omega) only [arith, IntKind.bits, capMax, fill_len, elt_fill] | (refine awpI_draw2 (id := 5) (.one false 0 (.one false 1 (.one false 2 (.one false 3 (.one false 4 (.one false 5 (.one false 6 (.one false 7 (.one false 8 (.one false 9 (.one false 10 (.one false 11 (.only 12 (.one false 13 .done)))))))))))))) mixed (by decide +kernel) (by decide +kernel) ?_) | (refine awpI_draw2 (id := 8) (.one false 0 (.one false 1 (.one false 4 (.one false 5 (.one false 6 (.one false 7 (.one false 8 (.one false 9 (.one false 10 (.one false 11 (.one false 12 (.mv 2 (.mv 3 (.only 13 (.one false 14 (.only 15 .done)))))))))))))))) mixed (by decide +kernel) (by decide +kernel) ?_) | (refine opCallI_rd (by simp only [go_sem, hs, hs2, hs3, hL, has3, ej, e5, List.length_set, Ret_eq Try.results169]; first | done | rfl) (hlss3) (by rintro _ rfl; rfl) ?_; rintro _ rfl) | fail)
                all_goals
                  refine AgainW.to (i2 + 1, j2 - 1, sw l1 i2 j2) ?_ ?_ ?_
                  · show j2 - 1 + 1 - (i2 + 1) < j + 1 - i; omega
                  · exact ⟨.step i2 j2 hsw ⟨by omega, by omega⟩ ⟨by omega, by omega⟩ (by omega), hPi2j2.swap (by omega) (by omega) (by omega) (by omega)⟩
                  · simp only [go_sem, hs, hs2, hs3, Ret_eq Try.results169]
            · have w : j2 < i2 := by omega
              repeat' (first | simp only [go_sem, hs, hs2, hs3, hL, has3, Ret_eq Try.results169] | simp (disch := omega) only [arith, IntKind.bits, capMax, fill_len, elt_fill] | refine RetL_calc Try.results169 rfl ?_ | (refine awpI_draw2 (id := 5) (.one false 0 (.one false 1 (.one false 2 (.one false 3 (.one false 4 (.one false 5 (.one false 6 (.one false 7 (.one false 8 (.one false 9 (.one false 10 (.one false 11 (.only 12 (.one false 13 .done)))))))))))))) mixed (by decide +kernel) (by decide +kernel) ?_) | fail)
              all_goals exact ⟨i2, rfl, l1, rfl, hsw, hPi2j2.fin w⟩
      · have xs2 : j < i2 ∨ p < l1.getD i2 0 := .inl (by omega)
        repeat' (first | simp only [go_sem, hs, hs2, hL, has2, Ret_eq Try.results169] | simp (disch := omega) only [arith, IntKind.bits, capMax, fill_len, elt_fill] | (refine awpI_draw2 (id := 3) (.one false 0 (.one false 1 (.one false 2 (.one false 3 (.one false 4 (.one false 5 (.one false 6 (.one false 7 (.one false 8 (.one false 9 (.one false 10 (.one false 11 (.only 12 (.one false 13 (.one false 14 .done))))))))))))))) mixed (by decide +kernel) (by decide +kernel) ?_) | fail)
        refine awpI_while (σ := Nat) (fun x => x) (fun x => x ≤ j ∧ Pe a b i2 x p l1) (fun x => [(10, .v (.int .i64 x))]) (fun _ => []) [0, 1, 9, 100000] [0] j _ (Weak.refl _) ⟨Nat.le_refl _, hPi2⟩ ?_ ?_ ?_
        · simp only [go_sem, hs, hs2, Ret_eq Try.results169]
        · simp only [go_sem, hs, hs2, Ret_eq Try.results169]
        · rintro j2 s3 ⟨hges3, hPi2j2⟩ hs3
          simp only [go_sem, hs, hs2, Ret_eq Try.results169] at hs3
          have his3 := hPi2j2.hi
          have hjs3 := hPi2j2.hj
          have hijs3 := hPi2j2.hij
          have has3 := hPi2j2.ha
          have hlss3 := lessS64_fun p (l1.getD j2 0)
          by_cases qs3 : i2 ≤ j2
          · exact absurd qs3 (by omega)
          · have w : j2 < i2 := by omega
            repeat' (first | simp only [go_sem, hs, hs2, hs3, hL, has3, Ret_eq Try.results169] | simp (disch := omega) only [arith, IntKind.bits, capMax, fill_len, elt_fill] | refine RetL_calc Try.results169 rfl ?_ | (refine awpI_draw2 (id := 5) (.one false 0 (.one false 1 (.one false 2 (.one false 3 (.one false 4 (.one false 5 (.one false 6 (.one false 7 (.one false 8 (.one false 9 (.one false 10 (.one false 11 (.only 12 (.one false 13 .done)))))))))))))) mixed (by decide +kernel) (by decide +kernel) ?_) | fail)
            all_goals exact ⟨i2, rfl, l1, rfl, hsw, hPi2j2.fin w⟩
end Go.Proofs.Ytpkampecmlpfmaa.T

end
section
set_option linter.unusedSimpArgs false
set_option linter.unusedVariables false
/- Lists parted, walked. -/
namespace Go.Proofs.Ytpkampecmlpfmaa.T
open Go Go.VL Go.Proofs
set_option maxRecDepth 100000
set_option maxHeartbeats 8000000

theorem part64 (l : List Int) (a b v : Nat) (hv : a ≤ v ∧ v < b) (hb : b ≤ l.length) (hl : l.length ≤ 1000000) : FunL Try.prog 170 [.ref 0 l.length, .v (.int .i64 a), .v (.int .i64 b), .v (.int .i64 v)] [own64 l] fun r os =>
    ∃ (m : Nat) (t : Bool), r = .tup [.v (.int .i64 m), .v (.bool t)] ∧ ∃ l', os = [own64 l'] ∧ Sw a b l l' ∧ Parted a b m l' := by
  obtain ⟨p, hpe⟩ : ∃ p, l.getD v 0 = p := ⟨_, rfl⟩
  refine FunL.of_awpI [(100000, 0)] rfl Try.func170 rfl cal170 Try.ntmps170 (by simp) fun hwf hlw ls => ?_
  simp only [lentWf, D.wfs, D.wf, ints_length, ints_wfs, rows_length, rows_wfs, capMax, and_true, true_and] at hwf hlw
  have e2 : (l.set a (l.getD v 0)).set v (l.getD a 0) = sw l a v := rfl
  have e3 : (l.set a (l.getD v 0)).length = l.length := List.length_set
  have e4 := sw_length (l := l) (i := a) (j := v)
  have eb : (b : Int) - 1 = ((b - 1 : Nat) : Int) := by omega
  have hp : (sw l a v).getD a 0 = l.getD v 0 := by
    rw [sw_getD (by omega) (by omega)]
    by_cases q : a = v
    · rw [if_pos q, q]
    · rw [if_neg q, if_pos rfl]
  rw [hpe] at hp
  have hP : Pt a b (a + 1) (b - 1) p (sw l a v) := ⟨hp, fun k k1 k2 => by omega, fun k k1 k2 => by omega, by omega, by omega, by omega⟩
  have hsw0 : Sw a b l (sw l a v) := .step a v (.refl _) ⟨Nat.le_refl _, by omega⟩ hv hb
  repeat' (first | simp only [go_sem, e2, eb, List.length_set, Ret_eq Try.results170] | simp (disch := omega) only [arith, IntKind.bits, capMax, fill_len, elt_fill] | (refine awpI_draw2 (id := 1) (.one false 0 (.one false 1 (.one false 4 (.one false 5 (.one false 6 (.one false 7 (.one false 8 (.one false 9 (.one false 10 (.one false 11 (.one false 12 (.mv 2 (.mv 3 (.only 13 (.one false 14 (.only 15 .done)))))))))))))))) mixed (by decide +kernel) (by decide +kernel) ?_) | fail)
  clear e2 e3
  generalize sw l a v = l0 at *
  have hL := hsw0.length
  refine awpI_while (σ := Nat) (fun x => (b - 1) + 1 - x) (fun x => (a + 1) ≤ x ∧ Pt a b x (b - 1) p l0) (fun x => [(10, .v (.int .i64 x))]) (fun _ => []) [0, 1, 11, 100000] [0] (a + 1) _ (Weak.refl _) ⟨Nat.le_refl _, hP⟩ ?_ ?_ ?_
  · simp only [go_sem, Ret_eq Try.results170]
  · simp only [go_sem, Ret_eq Try.results170]
  · rintro i2 s2 ⟨hges2, hPi2⟩ hs2
    simp only [go_sem, Ret_eq Try.results170] at hs2
    have his2 := hPi2.hi
    have hjs2 := hPi2.hj
    have hijs2 := hPi2.hij
    have has2 := hPi2.ha
    have hlss2 := lessS64_fun (l0.getD i2 0) p
    by_cases qs2 : i2 ≤ (b - 1)
    · by_cases rs2 : l0.getD i2 0 < p
      · rw [decide_eq_true rs2] at hlss2
        repeat' (first | simp only [go_sem, hs2, hL, has2, Ret_eq Try.results170] | simp (disch := omega) only [arith, IntKind.bits, capMax, fill_len, elt_fill] | (refine awpI_draw2 (id := 3) (.one false 0 (.one false 1 (.one false 2 (.one false 3 (.one false 4 (.one false 5 (.one false 6 (.one false 7 (.one false 8 (.one false 9 (.one false 10 (.one false 11 (.only 12 (.one false 13 .done)))))))))))))) mixed (by decide +kernel) (by decide +kernel) ?_) | (refine opCallI_rd (by simp only [go_sem, hs2, hL, has2, Ret_eq Try.results170]; first | done | rfl) (hlss2) (by rintro _ rfl; rfl) ?_; rintro _ rfl) | fail)
        all_goals
          refine AgainW.to (i2 + 1) ?_ ?_ ?_
          · show (b - 1) + 1 - (i2 + 1) < (b - 1) + 1 - i2; omega
          · exact ⟨by show (a + 1) ≤ i2 + 1; omega, hPi2.up qs2 (by omega)⟩
          · simp only [go_sem, hs2, hL, has2, Ret_eq Try.results170]
      · rw [decide_eq_false rs2] at hlss2
        have xs2 : (b - 1) < i2 ∨ p ≤ l0.getD i2 0 := .inr (by omega)
        repeat' (first | simp only [go_sem, hs2, hL, has2, Ret_eq Try.results170] | simp (disch := omega) only [arith, IntKind.bits, capMax, fill_len, elt_fill] | (refine awpI_draw2 (id := 3) (.one false 0 (.one false 1 (.one false 2 (.one false 3 (.one false 4 (.one false 5 (.one false 6 (.one false 7 (.one false 8 (.one false 9 (.one false 10 (.one false 11 (.only 12 (.one false 13 .done)))))))))))))) mixed (by decide +kernel) (by decide +kernel) ?_) | (refine opCallI_rd (by simp only [go_sem, hs2, hL, has2, Ret_eq Try.results170]; first | done | rfl) (hlss2) (by rintro _ rfl; rfl) ?_; rintro _ rfl) | fail)
        refine awpI_while (σ := Nat) (fun x => x) (fun x => x ≤ (b - 1) ∧ Pt a b i2 x p l0) (fun x => [(11, .v (.int .i64 x))]) (fun _ => []) [0, 1, 10, 100000] [0] (b - 1) _ (Weak.refl _) ⟨Nat.le_refl _, hPi2⟩ ?_ ?_ ?_
        · simp only [go_sem, hs2, Ret_eq Try.results170]
        · simp only [go_sem, hs2, Ret_eq Try.results170]
        · rintro j2 s3 ⟨hges3, hPi2j2⟩ hs3
          simp only [go_sem, hs2, Ret_eq Try.results170] at hs3
          have his3 := hPi2j2.hi
          have hjs3 := hPi2j2.hj
          have hijs3 := hPi2j2.hij
          have has3 := hPi2j2.ha
          have hlss3 := lessS64_fun (l0.getD j2 0) p
          by_cases qs3 : i2 ≤ j2
          · have ejs3 : (j2 : Int) - 1 = ((j2 - 1 : Nat) : Int) := by omega
            by_cases rs3 : ¬ l0.getD j2 0 < p
            · rw [decide_eq_false rs3] at hlss3
              repeat' (first | simp only [go_sem, hs2, hs3, hL, has3, ejs3, Ret_eq Try.results170] | simp (disch := omega) only [arith, IntKind.bits, capMax, fill_len, elt_fill] | (refine awpI_draw2 (id := 5) (.one false 0 (.one false 1 (.one false 2 (.one false 3 (.one false 4 (.one false 5 (.one false 6 (.one false 7 (.one false 8 (.one false 9 (.one false 10 (.one false 11 (.only 12 (.one false 13 (.one false 14 .done))))))))))))))) mixed (by decide +kernel) (by decide +kernel) ?_) | (refine opCallI_rd (by simp only [go_sem, hs2, hs3, hL, has3, ejs3, Ret_eq Try.results170]; first | done | rfl) (hlss3) (by rintro _ rfl; rfl) ?_; rintro _ rfl) | fail)
              all_goals
                refine AgainW.to (j2 - 1) ?_ ?_ ?_
                · show j2 - 1 < j2; omega
                · exact ⟨by show j2 - 1 ≤ (b - 1); omega, hPi2j2.down qs3 (by omega)⟩
                · simp only [go_sem, hs2, hs3, hL, has3, Ret_eq Try.results170]
            · rw [decide_eq_true (Classical.not_not.1 rs3)] at hlss3
              have xs3 : l0.getD j2 0 < p := by omega
              have hlt : l0.getD j2 0 < p := xs3
              have ej : (j2 : Int) - 1 = ((j2 - 1 : Nat) : Int) := by omega
              have e5 : (l0.set i2 (l0.getD j2 0)).set j2 (l0.getD i2 0) = sw l0 i2 j2 := rfl
              have e6 : (l0.set i2 (l0.getD j2 0)).length = l0.length := List.length_set
              repeat' (first | simp only [go_sem, hs2, hs3, hL, has3, ej, e5, List.length_set, Ret_eq Try.results170] | simp (disch := omega) only [arith, IntKind.bits, capMax, fill_len, elt_fill] | (refine awpI_draw2 (id := 5) (.one false 0 (.one false 1 (.one false 2 (.one false 3 (.one false 4 (.one false 5 (.one false 6 (.one false 7 (.one false 8 (.one false 9 (.one false 10 (.one false 11 (.only 12 (.one false 13 (.one false 14 .done))))))))))))))) mixed (by decide +kernel) (by decide +kernel) ?_) | (refine awpI_draw2 (id := 10) (.one false 0 (.one false 1 (.one false 4 (.one false 5 (.one false 6 (.one false 7 (.one false 8 (.one false 9 (.one false 10 (.one false 11 (.one false 12 (.mv 2 (.mv 3 (.only 13 (.one false 14 (.only 15 .done)))))))))))))))) mixed (by decide +kernel) (by decide +kernel) ?_) | (refine opCallI_rd (by simp only [go_sem, hs2, hs3, hL, has3, ej, e5, List.length_set, Ret_eq Try.results170]; first | done | rfl) (hlss3) (by rintro _ rfl; rfl) ?_; rintro _ rfl) | fail)
              refine awpI_while (σ := Nat × Nat × List Int) (fun x => x.2.1 + 1 - x.1) (fun x => Sw a b l x.2.2 ∧ Pt a b x.1 x.2.1 p x.2.2) (fun x => [(10, .v (.int .i64 x.1)), (11, .v (.int .i64 x.2.1))]) (fun x => [(0, own64 x.2.2)]) [0, 1, 100000] [] (i2 + 1, j2 - 1, sw l0 i2 j2) _ (Weak.refl _) ⟨.step i2 j2 hsw0 ⟨by omega, by omega⟩ ⟨by omega, by omega⟩ (by omega), hPi2j2.swap (by omega) (by omega) (by omega) (by omega)⟩ ?_ ?_ ?_
              · simp only [go_sem, hs2, hs3, Ret_eq Try.results170]
              · simp only [go_sem, hs2, hs3, Ret_eq Try.results170]
              · rintro ⟨i3, j3, l3⟩ s4 ⟨hsw3, hPN⟩ hs4
                simp only [go_sem, hs2, hs3, Ret_eq Try.results170] at hs4
                dsimp only at hsw3 hPN
                clear e5 e6
                have hL := hsw3.length
                repeat' (first | simp only [go_sem, hs2, hs3, hs4, Ret_eq Try.results170] | fail)
                refine awpI_while (σ := Nat) (fun x => j3 + 1 - x) (fun x => i3 ≤ x ∧ Pt a b x j3 p l3) (fun x => [(10, .v (.int .i64 x))]) (fun _ => []) [0, 1, 11, 100000] [0] i3 _ (Weak.refl _) ⟨Nat.le_refl _, hPN⟩ ?_ ?_ ?_
                · simp only [go_sem, hs2, hs3, hs4, Ret_eq Try.results170]
                · simp only [go_sem, hs2, hs3, hs4, Ret_eq Try.results170]
                · rintro i4 s5 ⟨hges5, hPNi4⟩ hs5
                  simp only [go_sem, hs2, hs3, hs4, Ret_eq Try.results170] at hs5
                  have his5 := hPNi4.hi
                  have hjs5 := hPNi4.hj
                  have hijs5 := hPNi4.hij
                  have has5 := hPNi4.ha
                  have hlss5 := lessS64_fun (l3.getD i4 0) p
                  by_cases qs5 : i4 ≤ j3
                  · by_cases rs5 : l3.getD i4 0 < p
                    · rw [decide_eq_true rs5] at hlss5
                      repeat' (first | simp only [go_sem, hs2, hs3, hs4, hs5, hL, has5, Ret_eq Try.results170] | simp (disch := omega) only [arith, IntKind.bits, capMax, fill_len, elt_fill] | (refine awpI_draw2 (id := 13) (.one false 0 (.one false 1 (.one false 2 (.one false 3 (.one false 4 (.one false 5 (.one false 6 (.one false 7 (.one false 8 (.one false 9 (.one false 10 (.one false 11 (.only 12 (.one false 13 .done)))))))))))))) mixed (by decide +kernel) (by decide +kernel) ?_) | (refine opCallI_rd (by simp only [go_sem, hs2, hs3, hs4, hs5, hL, has5, Ret_eq Try.results170]; first | done | rfl) (hlss5) (by rintro _ rfl; rfl) ?_; rintro _ rfl) | fail)
                      all_goals
                        refine AgainW.to (i4 + 1) ?_ ?_ ?_
                        · show j3 + 1 - (i4 + 1) < j3 + 1 - i4; omega
                        · exact ⟨by show i3 ≤ i4 + 1; omega, hPNi4.up qs5 (by omega)⟩
                        · simp only [go_sem, hs2, hs3, hs4, hs5, hL, has5, Ret_eq Try.results170]
                    · rw [decide_eq_false rs5] at hlss5
                      have xs5 : j3 < i4 ∨ p ≤ l3.getD i4 0 := .inr (by omega)
                      repeat' (first | simp only [go_sem, hs2, hs3, hs4, hs5, hL, has5, Ret_eq Try.results170] | simp (disch := omega) only [arith, IntKind.bits, capMax, fill_len, elt_fill] | (refine awpI_draw2 (id := 13) (.one false 0 (.one false 1 (.one false 2 (.one false 3 (.one false 4 (.one false 5 (.one false 6 (.one false 7 (.one false 8 (.one false 9 (.one false 10 (.one false 11 (.only 12 (.one false 13 .done)))))))))))))) mixed (by decide +kernel) (by decide +kernel) ?_) | (refine opCallI_rd (by simp only [go_sem, hs2, hs3, hs4, hs5, hL, has5, Ret_eq Try.results170]; first | done | rfl) (hlss5) (by rintro _ rfl; rfl) ?_; rintro _ rfl) | fail)
                      refine awpI_while (σ := Nat) (fun x => x) (fun x => x ≤ j3 ∧ Pt a b i4 x p l3) (fun x => [(11, .v (.int .i64 x))]) (fun _ => []) [0, 1, 10, 100000] [0] j3 _ (Weak.refl _) ⟨Nat.le_refl _, hPNi4⟩ ?_ ?_ ?_
                      · simp only [go_sem, hs2, hs3, hs4, hs5, Ret_eq Try.results170]
                      · simp only [go_sem, hs2, hs3, hs4, hs5, Ret_eq Try.results170]
                      · rintro j4 s6 ⟨hges6, hPNi4j4⟩ hs6
                        simp only [go_sem, hs2, hs3, hs4, hs5, Ret_eq Try.results170] at hs6
                        have his6 := hPNi4j4.hi
                        have hjs6 := hPNi4j4.hj
                        have hijs6 := hPNi4j4.hij
                        have has6 := hPNi4j4.ha
                        have hlss6 := lessS64_fun (l3.getD j4 0) p
                        by_cases qs6 : i4 ≤ j4
                        · have ejs6 : (j4 : Int) - 1 = ((j4 - 1 : Nat) : Int) := by omega
                          by_cases rs6 : ¬ l3.getD j4 0 < p
                          · rw [decide_eq_false rs6] at hlss6
                            repeat' (first | simp only [go_sem, hs2, hs3, hs4, hs5, hs6, hL, has6, ejs6, Ret_eq Try.results170] | simp (disch := omega) only [arith, IntKind.bits, capMax, fill_len, elt_fill] | (refine awpI_draw2 (id := 15) (.one false 0 (.one false 1 (.one false 2 (.one false 3 (.one false 4 (.one false 5 (.one false 6 (.one false 7 (.one false 8 (.one false 9 (.one false 10 (.one false 11 (.only 12 (.one false 13 (.one false 14 .done))))))))))))))) mixed (by decide +kernel) (by decide +kernel) ?_) | (refine opCallI_rd (by simp only [go_sem, hs2, hs3, hs4, hs5, hs6, hL, has6, ejs6, Ret_eq Try.results170]; first | done | rfl) (hlss6) (by rintro _ rfl; rfl) ?_; rintro _ rfl) | fail)
                            all_goals
                              refine AgainW.to (j4 - 1) ?_ ?_ ?_
                              · show j4 - 1 < j4; omega
                              · exact ⟨by show j4 - 1 ≤ j3; omega, hPNi4j4.down qs6 (by omega)⟩
                              · simp only [go_sem, hs2, hs3, hs4, hs5, hs6, hL, has6, Ret_eq Try.results170]
                          · rw [decide_eq_true (Classical.not_not.1 rs6)] at hlss6
                            have xs6 : l3.getD j4 0 < p := by omega
                            have hlt : l3.getD j4 0 < p := xs6
                            have ej : (j4 : Int) - 1 = ((j4 - 1 : Nat) : Int) := by omega
                            have e5 : (l3.set i4 (l3.getD j4 0)).set j4 (l3.getD i4 0) = sw l3 i4 j4 := rfl
                            have e6 : (l3.set i4 (l3.getD j4 0)).length = l3.length := List.length_set
                            repeat' (first | simp only [go_sem, hs2, hs3, hs4, hs5, hs6, hL, has6, ej, e5, List.length_set, Ret_eq Try.results170] | simp (disch := omega) only [arith, IntKind.bits, capMax, fill_len, elt_fill] | (refine awpI_draw2 (id := 15) (.one false 0 (.one false 1 (.one false 2 (.one false 3 (.one false 4 (.one false 5 (.one false 6 (.one false 7 (.one false 8 (.one false 9 (.one false 10 (.one false 11 (.only 12 (.one false 13 (.one false 14 .done))))))))))))))) mixed (by decide +kernel) (by decide +kernel) ?_) | (refine awpI_draw2 (id := 18) (.one false 0 (.one false 1 (.one false 4 (.one false 5 (.one false 6 (.one false 7 (.one false 8 (.one false 9 (.one false 10 (.one false 11 (.one false 12 (.mv 2 (.mv 3 (.only 13 (.one false 14 (.only 15 .done)))))))))))))))) mixed (by decide +kernel) (by decide +kernel) ?_) | (refine opCallI_rd (by simp only [go_sem, hs2, hs3, hs4, hs5, hs6, hL, has6, ej, e5, List.length_set, Ret_eq Try.results170]; first | done | rfl) (hlss6) (by rintro _ rfl; rfl) ?_; rintro _ rfl) | fail)
                            all_goals
                              refine AgainW.to (i4 + 1, j4 - 1, sw l3 i4 j4) ?_ ?_ ?_
                              · show j4 - 1 + 1 - (i4 + 1) < j3 + 1 - i3; omega
                              · exact ⟨.step i4 j4 hsw3 ⟨by omega, by omega⟩ ⟨by omega, by omega⟩ (by omega), hPNi4j4.swap (by omega) (by omega) (by omega) (by omega)⟩
                              · simp only [go_sem, hs2, hs3, hs4, hs5, hs6, Ret_eq Try.results170]
                        · have w : j4 < i4 := by omega
                          have e5 : (l3.set j4 p).set a (l3.getD j4 0) = sw l3 j4 a := by unfold sw; rw [has6]
                          have e6 : (l3.set j4 p).length = l3.length := List.length_set
                          repeat' (first | simp only [go_sem, hs2, hs3, hs4, hs5, hs6, hL, has6, e5, List.length_set, Ret_eq Try.results170] | simp (disch := omega) only [arith, IntKind.bits, capMax, fill_len, elt_fill] | refine RetL_calc Try.results170 rfl ?_ | (refine awpI_draw2 (id := 15) (.one false 0 (.one false 1 (.one false 2 (.one false 3 (.one false 4 (.one false 5 (.one false 6 (.one false 7 (.one false 8 (.one false 9 (.one false 10 (.one false 11 (.only 12 (.one false 13 (.one false 14 .done))))))))))))))) mixed (by decide +kernel) (by decide +kernel) ?_) | (refine awpI_draw2 (id := 21) (.one false 0 (.one false 1 (.one false 4 (.one false 5 (.one false 6 (.one false 7 (.one false 8 (.one false 9 (.one false 10 (.one false 11 (.one false 12 (.mv 2 (.mv 3 (.only 13 (.one false 14 (.only 15 .done)))))))))))))))) mixed (by decide +kernel) (by decide +kernel) ?_) | fail)
                          all_goals exact ⟨j4, _, rfl, sw l3 j4 a, rfl, .step j4 a hsw3 ⟨by omega, by omega⟩ ⟨Nat.le_refl _, by omega⟩ (by omega), hPNi4j4.fin w (by omega)⟩
                  · have xs5 : j3 < i4 ∨ p ≤ l3.getD i4 0 := .inl (by omega)
                    repeat' (first | simp only [go_sem, hs2, hs3, hs4, hs5, hL, has5, Ret_eq Try.results170] | simp (disch := omega) only [arith, IntKind.bits, capMax, fill_len, elt_fill] | (refine awpI_draw2 (id := 13) (.one false 0 (.one false 1 (.one false 2 (.one false 3 (.one false 4 (.one false 5 (.one false 6 (.one false 7 (.one false 8 (.one false 9 (.one false 10 (.one false 11 (.only 12 (.one false 13 .done)))))))))))))) mixed (by decide +kernel) (by decide +kernel) ?_) | fail)
                    refine awpI_while (σ := Nat) (fun x => x) (fun x => x ≤ j3 ∧ Pt a b i4 x p l3) (fun x => [(11, .v (.int .i64 x))]) (fun _ => []) [0, 1, 10, 100000] [0] j3 _ (Weak.refl _) ⟨Nat.le_refl _, hPNi4⟩ ?_ ?_ ?_
                    · simp only [go_sem, hs2, hs3, hs4, hs5, Ret_eq Try.results170]
                    · simp only [go_sem, hs2, hs3, hs4, hs5, Ret_eq Try.results170]
                    · rintro j4 s6 ⟨hges6, hPNi4j4⟩ hs6
                      simp only [go_sem, hs2, hs3, hs4, hs5, Ret_eq Try.results170] at hs6
                      have his6 := hPNi4j4.hi
                      have hjs6 := hPNi4j4.hj
                      have hijs6 := hPNi4j4.hij
                      have has6 := hPNi4j4.ha
                      have hlss6 := lessS64_fun (l3.getD j4 0) p
                      by_cases qs6 : i4 ≤ j4
                      · exact absurd qs6 (by omega)
                      · have w : j4 < i4 := by omega
                        have e5 : (l3.set j4 p).set a (l3.getD j4 0) = sw l3 j4 a := by unfold sw; rw [has6]
                        have e6 : (l3.set j4 p).length = l3.length := List.length_set
                        repeat' (first | simp only [go_sem, hs2, hs3, hs4, hs5, hs6, hL, has6, e5, List.length_set, Ret_eq Try.results170] | simp (disch := omega) only [arith, IntKind.bits, capMax, fill_len, elt_fill] | refine RetL_calc Try.results170 rfl ?_ | (refine awpI_draw2 (id := 15) (.one false 0 (.one false 1 (.one false 2 (.one false 3 (.one false 4 (.one false 5 (.one false 6 (.one false 7 (.one false 8 (.one false 9 (.one false 10 (.one false 11 (.only 12 (.one false 13 (.one false 14 .done))))))))))))))) mixed (by decide +kernel) (by decide +kernel) ?_) | (refine awpI_draw2 (id := 21) (.one false 0 (.one false 1 (.one false 4 (.one false 5 (.one false 6 (.one false 7 (.one false 8 (.one false 9 (.one false 10 (.one false 11 (.one false 12 (.mv 2 (.mv 3 (.only 13 (.one false 14 (.only 15 .done)))))))))))))))) mixed (by decide +kernel) (by decide +kernel) ?_) | fail)
                        all_goals exact ⟨j4, _, rfl, sw l3 j4 a, rfl, .step j4 a hsw3 ⟨by omega, by omega⟩ ⟨Nat.le_refl _, by omega⟩ (by omega), hPNi4j4.fin w (by omega)⟩
          · have w : j2 < i2 := by omega
            have e5 : (l0.set j2 p).set a (l0.getD j2 0) = sw l0 j2 a := by unfold sw; rw [has3]
            have e6 : (l0.set j2 p).length = l0.length := List.length_set
            repeat' (first | simp only [go_sem, hs2, hs3, hL, has3, e5, List.length_set, Ret_eq Try.results170] | simp (disch := omega) only [arith, IntKind.bits, capMax, fill_len, elt_fill] | refine RetL_calc Try.results170 rfl ?_ | (refine awpI_draw2 (id := 5) (.one false 0 (.one false 1 (.one false 2 (.one false 3 (.one false 4 (.one false 5 (.one false 6 (.one false 7 (.one false 8 (.one false 9 (.one false 10 (.one false 11 (.only 12 (.one false 13 (.one false 14 .done))))))))))))))) mixed (by decide +kernel) (by decide +kernel) ?_) | (refine awpI_draw2 (id := 8) (.one false 0 (.one false 1 (.one false 4 (.one false 5 (.one false 6 (.one false 7 (.one false 8 (.one false 9 (.one false 10 (.one false 11 (.one false 12 (.mv 2 (.mv 3 (.only 13 (.one false 14 (.only 15 .done)))))))))))))))) mixed (by decide +kernel) (by decide +kernel) ?_) | fail)
            all_goals exact ⟨j2, _, rfl, sw l0 j2 a, rfl, .step j2 a hsw0 ⟨by omega, by omega⟩ ⟨Nat.le_refl _, by omega⟩ (by omega), hPi2j2.fin w (by omega)⟩
    · have xs2 : (b - 1) < i2 ∨ p ≤ l0.getD i2 0 := .inl (by omega)
      repeat' (first | simp only [go_sem, hs2, hL, has2, Ret_eq Try.results170] | simp (disch := omega) only [arith, IntKind.bits, capMax, fill_len, elt_fill] | (refine awpI_draw2 (id := 3) (.one false 0 (.one false 1 (.one false 2 (.one false 3 (.one false 4 (.one false 5 (.one false 6 (.one false 7 (.one false 8 (.one false 9 (.one false 10 (.one false 11 (.only 12 (.one false 13 .done)))))))))))))) mixed (by decide +kernel) (by decide +kernel) ?_) | fail)
      refine awpI_while (σ := Nat) (fun x => x) (fun x => x ≤ (b - 1) ∧ Pt a b i2 x p l0) (fun x => [(11, .v (.int .i64 x))]) (fun _ => []) [0, 1, 10, 100000] [0] (b - 1) _ (Weak.refl _) ⟨Nat.le_refl _, hPi2⟩ ?_ ?_ ?_
      · simp only [go_sem, hs2, Ret_eq Try.results170]
      · simp only [go_sem, hs2, Ret_eq Try.results170]
      · rintro j2 s3 ⟨hges3, hPi2j2⟩ hs3
        simp only [go_sem, hs2, Ret_eq Try.results170] at hs3
        have his3 := hPi2j2.hi
        have hjs3 := hPi2j2.hj
        have hijs3 := hPi2j2.hij
        have has3 := hPi2j2.ha
        have hlss3 := lessS64_fun (l0.getD j2 0) p
        by_cases qs3 : i2 ≤ j2
        · exact absurd qs3 (by omega)
        · have w : j2 < i2 := by omega
          have e5 : (l0.set j2 p).set a (l0.getD j2 0) = sw l0 j2 a := by unfold sw; rw [has3]
          have e6 : (l0.set j2 p).length = l0.length := List.length_set
          repeat' (first | simp only [go_sem, hs2, hs3, hL, has3, e5, List.length_set, Ret_eq Try.results170] | simp (disch := omega) only [arith, IntKind.bits, capMax, fill_len, elt_fill] | refine RetL_calc Try.results170 rfl ?_ | (refine awpI_draw2 (id := 5) (.one false 0 (.one false 1 (.one false 2 (.one false 3 (.one false 4 (.one false 5 (.one false 6 (.one false 7 (.one false 8 (.one false 9 (.one false 10 (.one false 11 (.only 12 (.one false 13 (.one false 14 .done))))))))))))))) mixed (by decide +kernel) (by decide +kernel) ?_) | (refine awpI_draw2 (id := 8) (.one false 0 (.one false 1 (.one false 4 (.one false 5 (.one false 6 (.one false 7 (.one false 8 (.one false 9 (.one false 10 (.one false 11 (.one false 12 (.mv 2 (.mv 3 (.only 13 (.one false 14 (.only 15 .done)))))))))))))))) mixed (by decide +kernel) (by decide +kernel) ?_) | fail)
          all_goals exact ⟨j2, _, rfl, sw l0 j2 a, rfl, .step j2 a hsw0 ⟨by omega, by omega⟩ ⟨Nat.le_refl _, by omega⟩ (by omega), hPi2j2.fin w (by omega)⟩
end Go.Proofs.Ytpkampecmlpfmaa.T

end
section
set_option linter.unusedSimpArgs false
set_option linter.unusedVariables false
/- How many bits a number has, and what comes of it; walked. -/
namespace Go.Proofs.Ytpkampecmlpfmaa.T
open Go Go.VL Go.Proofs
set_option maxRecDepth 100000
set_option maxHeartbeats 4000000
def len8 (k : Nat) : Nat := if k = 0 then 0 else Nat.log2 k + 1
theorem len8_lt (k : Nat) : k < 2 ^ len8 k := by
  unfold len8
  split
  · rename_i h; rw [h]; decide
  · exact Nat.lt_log2_self
theorem len8_le {k : Nat} (h : 1 ≤ k) : 2 ^ len8 k ≤ 2 * k := by
  unfold len8
  rw [if_neg (by omega), Nat.pow_succ]
  have := Nat.log2_self_le (show k ≠ 0 by omega)
  omega
theorem len64_raw (x : Int) (hx : 0 ≤ x ∧ x < 65536) (w : World) : Calls Try.prog 172 #[.int .u64 x] w fun e w' => (∃ n : Nat, e = .returned (.int .i64 n) ∧ n ≤ 16 ∧ x < 2 ^ n ∧ (1 ≤ x → (2 : Int) ^ n ≤ 2 * x)) ∧ w' = w := by
  go_enter Try.func172, Try.ntmps172
  go_wp2
  · go_ret
    refine ⟨⟨8 + len8 (x / 256).toNat, ?_, ?_⟩, rfl⟩
    · show Ending.returned (Value.int .i64 (RowKit.wrap64 (8 + RowKit.wrap64 (((_ : UInt8).toNat : Nat) : Int)))) = _
      rw [← getElem!_pos]
      have hk : (x / 256).toNat < 256 := by omega
      generalize (x / 256).toNat = k at *
      congr 2
      clear hx
      revert k
      decide +kernel
    · have h1 := len8_lt (x / 256).toNat
      have h2 := len8_le (k := (x / 256).toNat) (by omega)
      generalize hm : len8 (x / 256).toNat = m at *
      have h3 : m ≤ 8 := by
        refine Nat.not_lt.1 fun q => ?_
        have : 2 ^ 9 ≤ 2 ^ m := Nat.pow_le_pow_right (by decide) q
        omega
      have e : (2 : Int) ^ (8 + m) = 256 * ((2 ^ m : Nat) : Int) := by rw [Int.pow_add]; norm_cast
      rw [e]
      refine ⟨by omega, by omega, fun _ => by omega⟩
  · go_ret
    refine ⟨⟨len8 x.toNat, ?_, ?_⟩, rfl⟩
    · show Ending.returned (Value.int .i64 (RowKit.wrap64 (RowKit.wrap64 (((_ : UInt8).toNat : Nat) : Int)))) = _
      rw [← getElem!_pos]
      have hk : x.toNat < 256 := by omega
      generalize x.toNat = k at *
      congr 2
      clear hx
      revert k
      decide +kernel
    · have h1 := len8_lt x.toNat
      have h2 := len8_le (k := x.toNat)
      generalize hm : len8 x.toNat = m at *
      have e : (2 : Int) ^ m = ((2 ^ m : Nat) : Int) := by norm_cast
      rw [e]
      refine ⟨?_, by omega, fun q => by have := h2 (by omega); omega⟩
      by_cases z : 1 ≤ x.toNat
      · refine Nat.not_lt.1 fun q => ?_
        have : 2 ^ 17 ≤ 2 ^ m := Nat.pow_le_pow_right (by decide) q
        have := h2 z
        omega
      · have : x.toNat = 0 := by omega
        rw [← hm, this]; decide
theorem len64_fun (x : Int) (hx : 0 ≤ x ∧ x < 65536) : Fun Try.prog 172 [.v (.int .u64 x)] fun r => ∃ n : Nat, r = .v (.int .i64 n) ∧ n ≤ 16 ∧ x < 2 ^ n ∧ (1 ≤ x → (2 : Int) ^ n ≤ 2 * x) := by
  refine ⟨by decide +kernel, fun J w vs hJ hG hv => ?_⟩
  obtain ⟨v, vs', rfl, hv1, hv2⟩ := hv
  have hv2 : vs' = [] := hv2
  subst hv2
  obtain ⟨rfl, _⟩ := hv1
  refine (len64_raw x hx w).mono ?_
  rintro e w' ⟨⟨n, rfl, h⟩, rfl⟩
  exact ⟨_, .v (.int .i64 n), rfl, ⟨n, rfl, h⟩, RowKit.Below.refl _ _, ⟨rfl, rfl⟩⟩

theorem bitsLen_fun (x : Int) (hx : 0 ≤ x ∧ x < 65536) : Fun Try.prog 145 [.v (.int .u64 x)] fun r => ∃ n : Nat, r = .v (.int .i64 n) ∧ n ≤ 16 ∧ x < 2 ^ n ∧ (1 ≤ x → (2 : Int) ^ n ≤ 2 * x) := by
  refine Fun.of_awpI Try.func145 rfl cal145 Try.ntmps145 (by simp) fun hwf => ?_
  simp only [D.wfs, D.wf, ints_length, ints_wfs, rows_length, rows_wfs, capMax, and_true, true_and] at hwf
  repeat' (first | simp only [go_sem, Ret_eq Try.results145] | (refine opCallI_gv (by simp only [go_sem, Ret_eq Try.results145]; first | done | rfl) (len64_fun x hx) ?_; rintro _ ⟨n, rfl, hn⟩) | fail)
  exact ⟨n, rfl, hn⟩

theorem nextPow_fun (k : Nat) (hk : 1 ≤ k ∧ k < 65536) : Fun Try.prog 185 [.v (.int .i64 k)] fun r => ∃ n : Nat, r = .v (.int .u64 ((2 ^ n : Nat) : Int)) ∧ n ≤ 16 ∧ 2 ^ n ≤ 2 * k := by
  refine Fun.of_awpI Try.func185 rfl cal185 Try.ntmps185 (by simp) fun hwf => ?_
  simp only [D.wfs, D.wf, ints_length, ints_wfs, rows_length, rows_wfs, capMax, and_true, true_and] at hwf
  repeat' (first | simp only [go_sem, Ret_eq Try.results185] | simp (disch := omega) only [arith, IntKind.bits, capMax, fill_len, elt_fill] | (refine opCallI_gv (by simp only [go_sem, Ret_eq Try.results185]; first | done | rfl) (bitsLen_fun k (by omega)) ?_; rintro _ ⟨n, rfl, hn⟩) | fail)
  exact ⟨n, by rw [Int.one_mul]; norm_cast, hn.1, by have := hn.2.2 (by omega); exact_mod_cast this⟩
abbrev boxX (x : Int) : Own := ⟨197, 1, [.v (.int .u64 x)]⟩

theorem next_sh (x : Int) : FunL Try.prog 186 [.adr 0 0 0] [boxX x] fun r os => ∃ y : Int, r = .v (.int .u64 y) ∧ os = [boxX y] := by
  refine FunL.of_awpI [(100000, 0)] rfl Try.func186 rfl cal186 Try.ntmps186 (by simp) fun hwf hlw ls => ?_
  simp only [lentWf, D.wfs, D.wf, ints_length, ints_wfs, rows_length, rows_wfs, capMax, and_true, true_and] at hwf hlw
  repeat' (first | simp only [go_sem, Ret_eq Try.results186] | simp (disch := omega) only [arith, IntKind.bits, capMax, fill_len, elt_fill] | refine RetL_calc Try.results186 rfl ?_ | (refine awpI_draw2 (id := 1) (.one false 0 (.one false 1 (.one false 2 (.one false 3 (.one false 4 (.one false 5 (.one false 6 (.one false 7 (.one false 8 (.only 9 .done)))))))))) mixed (by decide +kernel) (by decide +kernel) ?_) | (refine awpI_draw2 (id := 2) (.one false 0 (.one false 1 (.one false 2 (.one false 3 (.one false 4 (.one false 5 (.one false 6 (.one false 7 (.one false 8 (.only 9 .done)))))))))) mixed (by decide +kernel) (by decide +kernel) ?_) | (refine awpI_draw2 (id := 3) (.one false 0 (.one false 1 (.one false 2 (.one false 3 (.one false 4 (.one false 5 (.one false 6 (.one false 7 (.one false 8 (.only 9 .done)))))))))) mixed (by decide +kernel) (by decide +kernel) ?_) | fail)
  exact ⟨_, rfl, rfl⟩
theorem and_low (y : Int) {n : Nat} (hn : n ≤ 16) : ∃ k : Nat, abits .and .u64 y (((2 ^ n : Nat) : Int) - 1) = k ∧ k < 2 ^ n := by
  have h1 : 2 ^ n ≤ 2 ^ 16 := Nat.pow_le_pow_right (by decide) hn
  have h0 : 1 ≤ 2 ^ n := Nat.one_le_two_pow
  have e : ((2 ^ n : Nat) : Int) - 1 = ((2 ^ n - 1 : Nat) : Int) := by omega
  rw [e]
  simp only [abits]
  have e2 : BitVec.ofInt IntKind.u64.bits ((2 ^ n - 1 : Nat) : Int) = BitVec.ofNat 64 (2 ^ n - 1) := by simp [IntKind.bits]
  rw [e2]
  show ∃ k : Nat, IntKind.u64.wrap ((BitVec.ofInt 64 y &&& BitVec.ofNat 64 (2 ^ n - 1)).toNat : Int) = k ∧ k < 2 ^ n
  have h2 : (BitVec.ofInt 64 y &&& BitVec.ofNat 64 (2 ^ n - 1)).toNat ≤ 2 ^ n - 1 := by
    rw [BitVec.toNat_and]
    refine Nat.le_trans Nat.and_le_right ?_
    rw [BitVec.toNat_ofNat]
    exact Nat.mod_le _ _
  generalize (BitVec.ofInt 64 y &&& BitVec.ofNat 64 (2 ^ n - 1)).toNat = B at *
  refine ⟨B, ?_, by omega⟩
  rw [IntKind.wrap_u64]; omega
end Go.Proofs.Ytpkampecmlpfmaa.T

end
section
set_option linter.unusedSimpArgs false
set_option linter.unusedVariables false
/- Patterns broken; walked. -/
namespace Go.Proofs.Ytpkampecmlpfmaa.T
open Go Go.VL Go.Proofs
set_option maxRecDepth 100000
set_option maxHeartbeats 8000000

theorem break64 (l : List Int) (a b : Nat) (hab : a ≤ b) (hb : b ≤ l.length) (hl : l.length ≤ 60000) : FunL Try.prog 164 [.ref 0 l.length, .v (.int .i64 a), .v (.int .i64 b)] [own64 l] fun r os =>
    r = .tup [] ∧ ∃ l', os = [own64 l'] ∧ Sw a b l l' := by
  refine FunL.of_awpI [(100000, 0)] rfl Try.func164 rfl cal164 Try.ntmps164 (by simp) fun hwf hlw ls => ?_
  simp only [lentWf, D.wfs, D.wf, ints_length, ints_wfs, rows_length, rows_wfs, capMax, and_true, true_and] at hwf hlw
  obtain ⟨m, rfl⟩ : ∃ m, b = a + m := ⟨b - a, by omega⟩
  have e0 : ((a + m : Nat) : Int) - (a : Int) = ((m : Nat) : Int) := by omega
  by_cases h8 : 8 ≤ m
  · have e1 : ((m : Nat) : Int).tdiv 4 = ((m / 4 : Nat) : Int) := by rw [Int.tdiv_eq_ediv_of_nonneg (by omega)]; omega
    have e2 : (a : Int) + ((m / 4 : Nat) : Int) * 2 = ((a + m / 4 * 2 : Nat) : Int) := by omega
    have e3 : ((a + m / 4 * 2 : Nat) : Int) - 1 = ((a + m / 4 * 2 - 1 : Nat) : Int) := by omega
    have hnp := nextPow_fun m (by omega)
    repeat' (first | simp only [go_sem, e0, e1, e2, e3, Ret_eq Try.results164] | simp (disch := omega) only [arith, IntKind.bits, capMax, fill_len, elt_fill] | (refine opCallI_gv (by simp only [go_sem, e0, e1, e2, e3, Ret_eq Try.results164]; first | done | rfl) (hnp) ?_; rintro _ ⟨n, rfl, hn⟩) | fail)
    obtain ⟨hn1, hn2⟩ := hn
    have hpow : 1 ≤ 2 ^ n := Nat.one_le_two_pow
    refine awpI_while (σ := Nat × Int × List Int) (fun x => a + m / 4 * 2 + 2 - x.1) (fun x => (a ≤ x.1 ∧ x.1 ≤ a + m / 4 * 2 + 2) ∧ Sw a (a + m) l x.2.2) (fun x => [(9, .v (.int .i64 x.1))]) (fun x => [(0, own64 x.2.2), (7, boxX x.2.1)]) [0, 1, 6, 7, 8, 100000] [] (a + m / 4 * 2 - 1, (m : Int), l) _ (Weak.refl _) ⟨⟨by show a ≤ a + m / 4 * 2 - 1; omega, by show a + m / 4 * 2 - 1 ≤ _; omega⟩, .refl _⟩ ?_ ?_ ?_
    · simp only [go_sem, Ret_eq Try.results164]
      all_goals omega
    · simp only [go_sem, Ret_eq Try.results164]
    · rintro ⟨i, x, l1⟩ s ⟨⟨hi1, hi2⟩, hsw⟩ hs
      simp only [go_sem, Ret_eq Try.results164] at hs
      dsimp only at hi1 hi2 hsw
      have hl1 := hsw.length
      have e4 : ((a + m / 4 * 2 : Nat) : Int) + 1 = ((a + m / 4 * 2 + 1 : Nat) : Int) := by omega
      by_cases hi : i ≤ a + m / 4 * 2 + 1
      · repeat' (first | simp only [go_sem, hs, e0, e1, e2, e4, Ret_eq Try.results164] | simp (disch := omega) only [arith, IntKind.bits, capMax, fill_len, elt_fill] | fail)
        refine opCallI_lend [7] (by simp only [go_sem, hs, Ret_eq Try.results164]; first | done | rfl) (by simp only [go_sem, hs, Ret_eq Try.results164]; first | done | rfl) (by decide) (by simp only [go_sem, hs, Ret_eq Try.results164]; first | done | decide) (by simp only [go_sem, hs, Ret_eq Try.results164]; first | done | decide) (next_sh x) ?_
        rintro _ _ ⟨y, rfl, rfl⟩
        obtain ⟨k, hk, hk2⟩ := and_low y hn1
        by_cases hkm : m ≤ k
        · have e6 : (k : Int) - (m : Int) = ((k - m : Nat) : Int) := by omega
          have e7 : (a : Int) + ((k - m : Nat) : Int) = ((a + (k - m) : Nat) : Int) := by omega
          have e8 : (l1.set i (l1.getD (a + (k - m)) 0)).set (a + (k - m)) (l1.getD i 0) = sw l1 i (a + (k - m)) := rfl
          have e9 : (l1.set i (l1.getD (a + (k - m)) 0)).length = l1.length := List.length_set
          repeat' (first | simp only [go_sem, hs, e0, e1, e2, e4, hk, e6, e7, e8, List.length_set, Ret_eq Try.results164] | simp (disch := omega) only [arith, IntKind.bits, capMax, fill_len, elt_fill] | (refine awpI_draw2 (id := 10) (.one false 0 (.one false 1 (.one false 6 (.one false 7 (.one false 8 (.one false 9 (.one false 10 (.one false 11 (.one false 12 (.one false 13 (.one false 14 (.one false 15 (.one false 16 (.mv 2 (.mv 3 (.mv 4 (.cal 5 [17] (.only 17 (.one false 18 (.only 19 .done)))))))))))))))))))) mixed (by decide +kernel) (by decide +kernel) ?_) | fail)
          all_goals
            refine AgainW.to (i + 1, y, sw l1 i (a + (k - m))) ?_ ?_ ?_
            · show a + m / 4 * 2 + 2 - (i + 1) < a + m / 4 * 2 + 2 - i; omega
            · exact ⟨⟨by show a ≤ i + 1; omega, by show i + 1 ≤ _; omega⟩, .step _ _ hsw ⟨by omega, by omega⟩ ⟨by omega, by omega⟩ (by omega)⟩
            · simp only [go_sem, hs, Ret_eq Try.results164]
        · have e7 : (a : Int) + (k : Int) = ((a + k : Nat) : Int) := by omega
          have e8 : (l1.set i (l1.getD (a + k) 0)).set (a + k) (l1.getD i 0) = sw l1 i (a + k) := rfl
          have e9 : (l1.set i (l1.getD (a + k) 0)).length = l1.length := List.length_set
          repeat' (first | simp only [go_sem, hs, e0, e1, e2, e4, hk, e7, e8, List.length_set, Ret_eq Try.results164] | simp (disch := omega) only [arith, IntKind.bits, capMax, fill_len, elt_fill] | (refine awpI_draw2 (id := 10) (.one false 0 (.one false 1 (.one false 6 (.one false 7 (.one false 8 (.one false 9 (.one false 10 (.one false 11 (.one false 12 (.one false 13 (.one false 14 (.one false 15 (.one false 16 (.mv 2 (.mv 3 (.mv 4 (.cal 5 [17] (.only 17 (.one false 18 (.only 19 .done)))))))))))))))))))) mixed (by decide +kernel) (by decide +kernel) ?_) | fail)
          all_goals
            refine AgainW.to (i + 1, y, sw l1 i (a + k)) ?_ ?_ ?_
            · show a + m / 4 * 2 + 2 - (i + 1) < a + m / 4 * 2 + 2 - i; omega
            · exact ⟨⟨by show a ≤ i + 1; omega, by show i + 1 ≤ _; omega⟩, .step _ _ hsw ⟨by omega, by omega⟩ ⟨by omega, by omega⟩ (by omega)⟩
            · simp only [go_sem, hs, Ret_eq Try.results164]
      · repeat' (first | simp only [go_sem, hs, e0, e1, e2, e4, Ret_eq Try.results164] | simp (disch := omega) only [arith, IntKind.bits, capMax, fill_len, elt_fill] | refine RetL_calc Try.results164 rfl ?_ | fail)
        all_goals exact ⟨rfl, l1, rfl, hsw⟩
  · repeat' (first | simp only [go_sem, e0, Ret_eq Try.results164] | simp (disch := omega) only [arith, IntKind.bits, capMax, fill_len, elt_fill] | refine RetL_calc Try.results164 rfl ?_ | fail)
    all_goals exact ⟨rfl, l, rfl, .refl _⟩
end Go.Proofs.Ytpkampecmlpfmaa.T

end
section
set_option linter.unusedSimpArgs false
set_option linter.unusedVariables false
/- By what a list is parted; walked. -/
namespace Go.Proofs.Ytpkampecmlpfmaa.T
open Go Go.VL Go.Proofs
set_option maxRecDepth 100000
set_option maxHeartbeats 8000000
abbrev boxN64 (c : Int) : Own := ⟨3, 1, [.v (.int .i64 c)]⟩

theorem order264 (l : List Int) (a b : Nat) (c : Int) (ha : a < l.length) (hb : b < l.length) (hl : l.length ≤ 60000) : FunL Try.prog 193 [.ref 0 l.length, .v (.int .i64 a), .v (.int .i64 b), .adr 1 0 0] [own64 l, boxN64 c] fun r os =>
    ∃ (x y : Nat) (d : Int), r = .tup [.v (.int .i64 x), .v (.int .i64 y)] ∧ os = [own64 l, boxN64 d] ∧ (x = a ∨ x = b) ∧ (y = a ∨ y = b) := by
  refine FunL.of_awpI [(100000, 0), (100001, 1)] rfl Try.func193 rfl cal193 Try.ntmps193 (by simp) fun hwf hlw ls => ?_
  simp only [lentWf, D.wfs, D.wf, ints_length, ints_wfs, rows_length, rows_wfs, capMax, and_true, true_and] at hwf hlw
  have hls := lessS64_fun (l.getD b 0) (l.getD a 0)
  by_cases h : l.getD b 0 < l.getD a 0
  · rw [decide_eq_true h] at hls
    repeat' (first | simp only [go_sem, Ret_eq Try.results193] | simp (disch := omega) only [arith, IntKind.bits, capMax, fill_len, elt_fill] | refine RetL_calc Try.results193 rfl ?_ | (refine awpI_draw2 (id := 1) (.one false 0 (.one false 1 (.one false 2 (.one false 3 (.one false 4 (.one false 5 (.one false 6 (.one false 7 (.only 8 .done))))))))) mixed (by decide +kernel) (by decide +kernel) ?_) | (refine opCallI_rd (by simp only [go_sem, Ret_eq Try.results193]; first | done | rfl) (hls) (by rintro _ rfl; rfl) ?_; rintro _ rfl) | fail)
    all_goals exact ⟨b, a, _, rfl, rfl, .inr rfl, .inl rfl⟩
  · rw [decide_eq_false h] at hls
    repeat' (first | simp only [go_sem, Ret_eq Try.results193] | simp (disch := omega) only [arith, IntKind.bits, capMax, fill_len, elt_fill] | refine RetL_calc Try.results193 rfl ?_ | (refine awpI_draw2 (id := 1) (.one false 0 (.one false 1 (.one false 2 (.one false 3 (.one false 4 (.one false 5 (.one false 6 (.one false 7 (.only 8 .done))))))))) mixed (by decide +kernel) (by decide +kernel) ?_) | (refine opCallI_rd (by simp only [go_sem, Ret_eq Try.results193]; first | done | rfl) (hls) (by rintro _ rfl; rfl) ?_; rintro _ rfl) | fail)
    all_goals exact ⟨a, b, _, rfl, rfl, .inl rfl, .inr rfl⟩

theorem median64 (l : List Int) (a b c : Nat) (n : Int) (ha : a < l.length) (hb : b < l.length) (hc : c < l.length) (hl : l.length ≤ 60000) : FunL Try.prog 188 [.ref 0 l.length, .v (.int .i64 a), .v (.int .i64 b), .v (.int .i64 c), .adr 1 0 0] [own64 l, boxN64 n] fun r os =>
    ∃ (x : Nat) (d : Int), r = .v (.int .i64 x) ∧ os = [own64 l, boxN64 d] ∧ (x = a ∨ x = b ∨ x = c) := by
  refine FunL.of_awpI [(100000, 0), (100001, 1)] rfl Try.func188 rfl cal188 Try.ntmps188 (by simp) fun hwf hlw ls => ?_
  simp only [lentWf, D.wfs, D.wf, ints_length, ints_wfs, rows_length, rows_wfs, capMax, and_true, true_and] at hwf hlw
  repeat' (first | simp only [go_sem, Ret_eq Try.results188] | (refine opCallI_lend [0,1] (by simp only [go_sem, Ret_eq Try.results188]; first | done | rfl) (by simp only [go_sem, Ret_eq Try.results188]; first | done | rfl) (by decide) (by simp only [go_sem, Ret_eq Try.results188]; first | done | decide) (by simp only [go_sem, Ret_eq Try.results188]; first | done | decide) (order264 l a b n ha hb hl) ?_; rintro _ _ ⟨x1, y1, d1, rfl, rfl, hx1, hy1⟩) | fail)
  have bx1 : x1 < l.length := by omega
  have by1 : y1 < l.length := by omega
  repeat' (first | simp only [go_sem, Ret_eq Try.results188] | (refine opCallI_lend [0,1] (by simp only [go_sem, Ret_eq Try.results188]; first | done | rfl) (by simp only [go_sem, Ret_eq Try.results188]; first | done | rfl) (by decide) (by simp only [go_sem, Ret_eq Try.results188]; first | done | decide) (by simp only [go_sem, Ret_eq Try.results188]; first | done | decide) (order264 l y1 c d1 by1 hc hl) ?_; rintro _ _ ⟨x2, y2, d2, rfl, rfl, hx2, hy2⟩) | fail)
  have bx2 : x2 < l.length := by omega
  repeat' (first | simp only [go_sem, Ret_eq Try.results188] | refine RetL_calc Try.results188 rfl ?_ | (refine opCallI_lend [0,1] (by simp only [go_sem, Ret_eq Try.results188]; first | done | rfl) (by simp only [go_sem, Ret_eq Try.results188]; first | done | rfl) (by decide) (by simp only [go_sem, Ret_eq Try.results188]; first | done | decide) (by simp only [go_sem, Ret_eq Try.results188]; first | done | decide) (order264 l x1 x2 d2 bx1 bx2 hl) ?_; rintro _ _ ⟨x3, y3, d3, rfl, rfl, hx3, hy3⟩) | fail)
  exact ⟨y3, d3, rfl, rfl, by omega⟩

theorem medAdj64 (l : List Int) (a : Nat) (n : Int) (h1 : 1 ≤ a) (ha : a + 1 < l.length) (hl : l.length ≤ 60000) : FunL Try.prog 187 [.ref 0 l.length, .v (.int .i64 a), .adr 1 0 0] [own64 l, boxN64 n] fun r os =>
    ∃ (x : Nat) (d : Int), r = .v (.int .i64 x) ∧ os = [own64 l, boxN64 d] ∧ (a ≤ x + 1 ∧ x ≤ a + 1) := by
  refine FunL.of_awpI [(100000, 0), (100001, 1)] rfl Try.func187 rfl cal187 Try.ntmps187 (by simp) fun hwf hlw ls => ?_
  simp only [lentWf, D.wfs, D.wf, ints_length, ints_wfs, rows_length, rows_wfs, capMax, and_true, true_and] at hwf hlw
  have e1 : (a : Int) - 1 = ((a - 1 : Nat) : Int) := by omega
  repeat' (first | simp only [go_sem, e1, Ret_eq Try.results187] | simp (disch := omega) only [arith, IntKind.bits, capMax, fill_len, elt_fill] | refine RetL_calc Try.results187 rfl ?_ | (refine opCallI_lend [0,1] (by simp only [go_sem, e1, Ret_eq Try.results187]; first | done | rfl) (by simp only [go_sem, e1, Ret_eq Try.results187]; first | done | rfl) (by decide) (by simp only [go_sem, e1, Ret_eq Try.results187]; first | done | decide) (by simp only [go_sem, e1, Ret_eq Try.results187]; first | done | decide) (median64 l (a - 1) a (a + 1) n (by omega) (by omega) ha hl) ?_; rintro _ _ ⟨x, d, rfl, rfl, hx⟩) | fail)
  exact ⟨x, d, rfl, rfl, by omega⟩

theorem choose64 (l : List Int) (a b : Nat) (hab : a + 8 ≤ b) (hb : b ≤ l.length) (hl : l.length ≤ 60000) : FunL Try.prog 165 [.ref 0 l.length, .v (.int .i64 a), .v (.int .i64 b)] [own64 l] fun r os =>
    ∃ (x : Nat) (h : Int), r = .tup [.v (.int .i64 x), .v (.int .i64 h)] ∧ os = [own64 l] ∧ a ≤ x ∧ x < b := by
  refine FunL.of_awpI [(100000, 0)] rfl Try.func165 rfl cal165 Try.ntmps165 (by simp) fun hwf hlw ls => ?_
  simp only [lentWf, D.wfs, D.wf, ints_length, ints_wfs, rows_length, rows_wfs, capMax, and_true, true_and] at hwf hlw
  obtain ⟨m, rfl⟩ : ∃ m, b = a + m := ⟨b - a, by omega⟩
  have e0 : ((a + m : Nat) : Int) - (a : Int) = ((m : Nat) : Int) := by omega
  have e1 : ((m : Nat) : Int).tdiv 4 = (m : Int) / 4 := Int.tdiv_eq_ediv_of_nonneg (by omega)
  have e2 : (a : Int) + (m : Int) / 4 * 1 = ((a + m / 4 : Nat) : Int) := by omega
  have e3 : (a : Int) + (m : Int) / 4 * 2 = ((a + m / 4 * 2 : Nat) : Int) := by omega
  have e4 : (a : Int) + (m : Int) / 4 * 3 = ((a + m / 4 * 3 : Nat) : Int) := by omega
  have key : ∀ (i j k : Nat) (d : Int), (a ≤ i ∧ i < a + m) → (a ≤ j ∧ j < a + m) → (a ≤ k ∧ k < a + m) → FunL Try.prog 188 [.ref 0 l.length, .v (.int .i64 i), .v (.int .i64 j), .v (.int .i64 k), .adr 1 0 0] [own64 l, boxN64 d] fun r os =>
      ∃ (x : Nat) (d : Int), r = .v (.int .i64 x) ∧ os = [own64 l, boxN64 d] ∧ (x = i ∨ x = j ∨ x = k) := fun i j k d h1 h2 h3 => median64 l i j k d (by omega) (by omega) (by omega) hl
  by_cases h50 : 50 ≤ m
  · repeat' (first | simp only [go_sem, e0, e1, e2, e3, e4, Ret_eq Try.results165] | simp (disch := omega) only [arith, IntKind.bits, capMax, fill_len, elt_fill] | (refine opCallI_lend [0,9] (by simp only [go_sem, e0, e1, e2, e3, e4, Ret_eq Try.results165]; first | done | rfl) (by simp only [go_sem, e0, e1, e2, e3, e4, Ret_eq Try.results165]; first | done | rfl) (by decide) (by simp only [go_sem, e0, e1, e2, e3, e4, Ret_eq Try.results165]; first | done | decide) (by simp only [go_sem, e0, e1, e2, e3, e4, Ret_eq Try.results165]; first | done | decide) (medAdj64 l (a + m / 4) 0 (by omega) (by omega) hl) ?_; rintro _ _ ⟨x1, d1, rfl, rfl, hx1⟩) | fail)
    repeat' (first | simp only [go_sem, e0, e1, e2, e3, e4, Ret_eq Try.results165] | (refine opCallI_lend [0,9] (by simp only [go_sem, e0, e1, e2, e3, e4, Ret_eq Try.results165]; first | done | rfl) (by simp only [go_sem, e0, e1, e2, e3, e4, Ret_eq Try.results165]; first | done | rfl) (by decide) (by simp only [go_sem, e0, e1, e2, e3, e4, Ret_eq Try.results165]; first | done | decide) (by simp only [go_sem, e0, e1, e2, e3, e4, Ret_eq Try.results165]; first | done | decide) (medAdj64 l (a + m / 4 * 2) d1 (by omega) (by omega) hl) ?_; rintro _ _ ⟨x2, d2, rfl, rfl, hx2⟩) | fail)
    repeat' (first | simp only [go_sem, e0, e1, e2, e3, e4, Ret_eq Try.results165] | (refine opCallI_lend [0,9] (by simp only [go_sem, e0, e1, e2, e3, e4, Ret_eq Try.results165]; first | done | rfl) (by simp only [go_sem, e0, e1, e2, e3, e4, Ret_eq Try.results165]; first | done | rfl) (by decide) (by simp only [go_sem, e0, e1, e2, e3, e4, Ret_eq Try.results165]; first | done | decide) (by simp only [go_sem, e0, e1, e2, e3, e4, Ret_eq Try.results165]; first | done | decide) (medAdj64 l (a + m / 4 * 3) d2 (by omega) (by omega) hl) ?_; rintro _ _ ⟨x3, d3, rfl, rfl, hx3⟩) | fail)
    repeat' (first | simp only [go_sem, e0, e1, e2, e3, e4, Ret_eq Try.results165] | (with_reducible refine condI_beq (fun hq hqb => ?_) (fun hq hqb => ?_) <;> simp only [KP_mk, hqb]) | refine RetL_calc Try.results165 rfl ?_ | (refine opCallI_lend [0,9] (by simp only [go_sem, e0, e1, e2, e3, e4, Ret_eq Try.results165]; first | done | rfl) (by simp only [go_sem, e0, e1, e2, e3, e4, Ret_eq Try.results165]; first | done | rfl) (by decide) (by simp only [go_sem, e0, e1, e2, e3, e4, Ret_eq Try.results165]; first | done | decide) (by simp only [go_sem, e0, e1, e2, e3, e4, Ret_eq Try.results165]; first | done | decide) (key x1 x2 x3 d3 (by omega) (by omega) (by omega)) ?_; rintro _ _ ⟨x, d, rfl, rfl, hx⟩) | fail)
    all_goals (refine ⟨x, _, rfl, ?_⟩; first | exact ⟨rfl, by omega, by omega⟩ | exact ⟨by omega, by omega⟩)
  · repeat' (first | simp only [go_sem, e0, e1, e2, e3, e4, Ret_eq Try.results165] | simp (disch := omega) only [arith, IntKind.bits, capMax, fill_len, elt_fill] | (with_reducible refine condI_beq (fun hq hqb => ?_) (fun hq hqb => ?_) <;> simp only [KP_mk, hqb]) | refine RetL_calc Try.results165 rfl ?_ | (refine opCallI_lend [0,9] (by simp only [go_sem, e0, e1, e2, e3, e4, Ret_eq Try.results165]; first | done | rfl) (by simp only [go_sem, e0, e1, e2, e3, e4, Ret_eq Try.results165]; first | done | rfl) (by decide) (by simp only [go_sem, e0, e1, e2, e3, e4, Ret_eq Try.results165]; first | done | decide) (by simp only [go_sem, e0, e1, e2, e3, e4, Ret_eq Try.results165]; first | done | decide) (key (a + m / 4) (a + m / 4 * 2) (a + m / 4 * 3) 0 (by omega) (by omega) (by omega)) ?_; rintro _ _ ⟨x, d, rfl, rfl, hx⟩) | fail)
    all_goals (refine ⟨x, _, rfl, ?_⟩; first | exact ⟨rfl, by omega, by omega⟩ | exact ⟨by omega, by omega⟩)
end Go.Proofs.Ytpkampecmlpfmaa.T

end
section
set_option linter.unusedSimpArgs false
set_option linter.unusedVariables false
/- Sorting a list that is nearly sorted, walked. -/
namespace Go.Proofs.Ytpkampecmlpfmaa.T
open Go Go.VL Go.Proofs
set_option maxRecDepth 100000
set_option maxHeartbeats 8000000

theorem partial64 (l : List Int) (a b : Nat) (hab : a + 8 ≤ b) (hb : b ≤ l.length) (hl : l.length ≤ 60000) (hA : Ahd a b l) : FunL Try.prog 167 [.ref 0 l.length, .v (.int .i64 a), .v (.int .i64 b)] [own64 l] fun r os =>
    ∃ t : Bool, r = .v (.bool t) ∧ ∃ l', os = [own64 l'] ∧ Sw a b l l' ∧ (t = true → Sd a b l') := by
  refine FunL.of_awpI [(100000, 0)] rfl Try.func167 rfl cal167 Try.ntmps167 (by simp) fun hwf hlw ls => ?_
  simp only [lentWf, D.wfs, D.wf, ints_length, ints_wfs, rows_length, rows_wfs, capMax, and_true, true_and] at hwf hlw
  have eba : (b : Int) - (a : Int) = ((b - a : Nat) : Int) := by omega
  repeat' (first | simp only [go_sem, Ret_eq Try.results167] | simp (disch := omega) only [arith, IntKind.bits, capMax, fill_len, elt_fill] | fail)
  refine awpI_while (σ := Nat × Nat × List Int) (fun x => 5 - x.1) (fun x => (a + 1 ≤ x.2.1 ∧ x.2.1 ≤ b) ∧ Sw a b l x.2.2 ∧ Sd a x.2.1 x.2.2) (fun x => [(7, .v (.int .i64 x.2.1)), (8, .v (.int .i64 x.1))]) (fun x => [(0, own64 x.2.2)]) [0, 1, 2, 100000] [] (0, a + 1, l) _ (Weak.refl _) ⟨⟨Nat.le_refl _, by show a + 1 ≤ b; omega⟩, .refl _, fun p q h1 h2 h3 => by have h3 : q < a + 1 := h3; omega⟩ ?_ ?_ ?_
  · simp only [go_sem, Ret_eq Try.results167]
    all_goals simp
  · simp only [go_sem, Ret_eq Try.results167]
  · rintro ⟨j, i, l1⟩ s ⟨⟨hi1, hi2⟩, hsw, hsd⟩ hs
    simp only [go_sem, Ret_eq Try.results167] at hs
    dsimp only at hi1 hi2 hsw hsd
    have hl1 := hsw.length
    by_cases hj : j < 5
    · repeat' (first | simp only [go_sem, hs, Ret_eq Try.results167] | simp (disch := omega) only [arith, IntKind.bits, capMax, fill_len, elt_fill] | fail)
      refine awpI_while (σ := Nat) (fun x => b - x) (fun x => (a + 1 ≤ x ∧ x ≤ b) ∧ Sd a x l1) (fun x => [(7, .v (.int .i64 x))]) (fun _ => []) [0, 1, 2, 8, 100000] [0] i _ (Weak.refl _) ⟨⟨hi1, hi2⟩, hsd⟩ ?_ ?_ ?_
      · simp only [go_sem, hs, Ret_eq Try.results167]
      · simp only [go_sem, hs, Ret_eq Try.results167]
      · rintro i2 s2 ⟨⟨hi3, hi4⟩, hsd2⟩ hs2
        simp only [go_sem, hs, Ret_eq Try.results167] at hs2
        have ei : (i2 : Int) - 1 = ((i2 - 1 : Nat) : Int) := by omega
        have eia : (i2 : Int) - (a : Int) = ((i2 - a : Nat) : Int) := by omega
        have ebi : (b : Int) - (i2 : Int) = ((b - i2 : Nat) : Int) := by omega
        by_cases hb2 : i2 < b
        · have hls := lessS64_fun (l1.getD i2 0) (l1.getD (i2 - 1) 0)
          by_cases hlt : l1.getD i2 0 < l1.getD (i2 - 1) 0
          · rw [decide_eq_true hlt] at hls
            have hbe : ((i2 : Int) == (b : Int)) = false := beq_eq_false_iff_ne.2 (by omega)
            by_cases h50 : b - a < 50
            · repeat' (first | simp only [go_sem, hs, hs2, hl1, ei, hbe, eba, Ret_eq Try.results167] | simp (disch := omega) only [arith, IntKind.bits, capMax, fill_len, elt_fill] | refine RetL_calc Try.results167 rfl ?_ | (refine awpI_draw2 (id := 5) (.one false 0 (.one false 1 (.one false 2 (.one false 3 (.one false 4 (.one false 5 (.one false 6 (.one false 7 (.one false 8 (.one false 9 (.one false 10 (.one false 11 (.one false 12 (.only 13 (.one false 14 (.one false 15 .done)))))))))))))))) mixed (by decide +kernel) (by decide +kernel) ?_) | (refine opCallI_rd (by simp only [go_sem, hs, hs2, hl1, ei, hbe, eba, Ret_eq Try.results167]; first | done | rfl) (hls) (by rintro _ rfl; rfl) ?_; rintro _ rfl) | fail)
              all_goals exact ⟨false, rfl, l1, rfl, hsw, fun q => by cases q⟩
            · have e5 : (l1.set i2 (l1.getD (i2 - 1) 0)).set (i2 - 1) (l1.getD i2 0) = sw l1 i2 (i2 - 1) := rfl
              have e6 : (l1.set i2 (l1.getD (i2 - 1) 0)).length = l1.length := List.length_set
              have hsw2 : Sw a b l (sw l1 i2 (i2 - 1)) := .step i2 (i2 - 1) hsw ⟨by omega, by omega⟩ ⟨by omega, by omega⟩ (by omega)
              have hins : Ins a (i2 - 1) (i2 - 1) (sw l1 i2 (i2 - 1)) := hsd2.swapped hi3 (by omega) hlt
              have hl2 := hsw2.length
              by_cases h2 : 2 ≤ i2 - a
              · repeat' (first | simp only [go_sem, hs, hs2, hl1, ei, eia, ebi, hbe, eba, e5, List.length_set, Ret_eq Try.results167] | simp (disch := omega) only [arith, IntKind.bits, capMax, fill_len, elt_fill] | (refine awpI_draw2 (id := 5) (.one false 0 (.one false 1 (.one false 2 (.one false 3 (.one false 4 (.one false 5 (.one false 6 (.one false 7 (.one false 8 (.one false 9 (.one false 10 (.one false 11 (.one false 12 (.only 13 (.one false 14 (.one false 15 .done)))))))))))))))) mixed (by decide +kernel) (by decide +kernel) ?_) | (refine awpI_draw2 (id := 11) (.one false 0 (.one false 1 (.one false 5 (.one false 6 (.one false 7 (.one false 8 (.one false 9 (.one false 10 (.one false 11 (.one false 12 (.one false 13 (.one false 14 (.mv 2 (.mv 3 (.cal 4 [15] (.only 15 (.one false 16 (.only 17 .done)))))))))))))))))) mixed (by decide +kernel) (by decide +kernel) ?_) | (refine opCallI_rd (by simp only [go_sem, hs, hs2, hl1, ei, eia, ebi, hbe, eba, e5, List.length_set, Ret_eq Try.results167]; first | done | rfl) (hls) (by rintro _ rfl; rfl) ?_; rintro _ rfl) | fail)
                refine awpI_while (σ := Nat × List Int) (fun x => x.1) (fun x => (a ≤ x.1 ∧ x.1 ≤ i2 - 1) ∧ Sw a b l x.2 ∧ Ins a x.1 (i2 - 1) x.2) (fun x => [(9, .v (.int .i64 x.1))]) (fun x => [(0, own64 x.2)]) [0, 1, 2, 7, 8, 100000] [] (i2 - 1, sw l1 i2 (i2 - 1)) _ (Weak.refl _) ⟨⟨by show a ≤ i2 - 1; omega, Nat.le_refl _⟩, hsw2, hins⟩ ?_ ?_ ?_
                · simp only [go_sem, hs, hs2, Ret_eq Try.results167]
                · simp only [go_sem, hs, hs2, Ret_eq Try.results167]
                · rintro ⟨u, l3⟩ s3 ⟨⟨hu1, hu2⟩, hsw3, hins3⟩ hs3
                  simp only [go_sem, hs, hs2, Ret_eq Try.results167] at hs3
                  dsimp only at hu1 hu2 hsw3 hins3
                  have hl3 := hsw3.length
                  have eu : (u : Int) - 1 = ((u - 1 : Nat) : Int) ∨ u = 0 := by omega
                  have hA3 := hA.sw hsw3
                  by_cases hu0 : 1 ≤ u
                  · have eu := eu.resolve_right (by omega)
                    have hls3 := lessS64_fun (l3.getD u 0) (l3.getD (u - 1) 0)
                    by_cases hlt3 : l3.getD u 0 < l3.getD (u - 1) 0
                    · rw [decide_eq_true hlt3] at hls3
                      have hau : a < u := by
                        refine Nat.lt_of_le_of_ne hu1 fun q => ?_
                        subst q
                        rcases hA3 with q | q
                        · omega
                        · have := q a (Nat.le_refl _) (by omega); omega
                      have e7 : (l3.set u (l3.getD (u - 1) 0)).set (u - 1) (l3.getD u 0) = sw l3 u (u - 1) := rfl
                      have e8 : (l3.set u (l3.getD (u - 1) 0)).length = l3.length := List.length_set
                      repeat' (first | simp only [go_sem, hs, hs2, hs3, hl3, eu, e7, List.length_set, Ret_eq Try.results167] | simp (disch := omega) only [arith, IntKind.bits, capMax, fill_len, elt_fill] | (refine awpI_draw2 (id := 16) (.one false 0 (.one false 1 (.one false 2 (.one false 3 (.one false 4 (.one false 5 (.one false 6 (.one false 7 (.one false 8 (.only 9 (.one false 10 .done))))))))))) mixed (by decide +kernel) (by decide +kernel) ?_) | (refine awpI_draw2 (id := 17) (.one false 0 (.one false 1 (.one false 5 (.one false 6 (.one false 7 (.one false 8 (.one false 9 (.one false 10 (.one false 11 (.one false 12 (.one false 13 (.one false 14 (.mv 2 (.mv 3 (.cal 4 [15] (.only 15 (.one false 16 (.only 17 .done)))))))))))))))))) mixed (by decide +kernel) (by decide +kernel) ?_) | (refine opCallI_rd (by simp only [go_sem, hs, hs2, hs3, hl3, eu, e7, List.length_set, Ret_eq Try.results167]; first | done | rfl) (hls3) (by rintro _ rfl; rfl) ?_; rintro _ rfl) | fail)
                      all_goals
                        refine AgainW.to (u - 1, sw l3 u (u - 1)) ?_ ?_ ?_
                        · show u - 1 < u; omega
                        · exact ⟨⟨by show a ≤ u - 1; omega, by show u - 1 ≤ i2 - 1; omega⟩, .step u (u - 1) hsw3 ⟨by omega, by omega⟩ ⟨by omega, by omega⟩ (by omega), hins3.step hau hu2 (by omega) hlt3⟩
                        · simp only [go_sem, hs, hs2, hs3, Ret_eq Try.results167]
                    · rw [decide_eq_false hlt3] at hls3
                      have hsd3 : Sd a i2 l3 := by
                        have := hins3.done (.inr (by omega))
                        rw [show i2 - 1 + 1 = i2 by omega] at this
                        exact this
                      by_cases h3 : 2 ≤ b - i2
                      · repeat' (first | simp only [go_sem, hs, hs2, hs3, hl3, eu, eia, ebi, Ret_eq Try.results167] | simp (disch := omega) only [arith, IntKind.bits, capMax, fill_len, elt_fill] | (refine awpI_draw2 (id := 16) (.one false 0 (.one false 1 (.one false 2 (.one false 3 (.one false 4 (.one false 5 (.one false 6 (.one false 7 (.one false 8 (.only 9 (.one false 10 .done))))))))))) mixed (by decide +kernel) (by decide +kernel) ?_) | (refine opCallI_rd (by simp only [go_sem, hs, hs2, hs3, hl3, eu, eia, ebi, Ret_eq Try.results167]; first | done | rfl) (hls3) (by rintro _ rfl; rfl) ?_; rintro _ rfl) | fail)
                        refine awpI_while (σ := Nat × List Int) (fun x => b - x.1) (fun x => (i2 + 1 ≤ x.1 ∧ x.1 ≤ b) ∧ Sw a b l x.2 ∧ Sd a i2 x.2) (fun x => [(10, .v (.int .i64 x.1))]) (fun x => [(0, own64 x.2)]) [0, 1, 2, 7, 8, 100000] [] (i2 + 1, l3) _ (Weak.refl _) ⟨⟨Nat.le_refl _, by show i2 + 1 ≤ b; omega⟩, hsw3, hsd3⟩ ?_ ?_ ?_
                        · simp only [go_sem, hs, hs2, hs3, Ret_eq Try.results167]
                        · simp only [go_sem, hs, hs2, hs3, Ret_eq Try.results167]
                        · rintro ⟨v, l4⟩ s4 ⟨⟨hv1, hv2⟩, hsw4, hsd4⟩ hs4
                          simp only [go_sem, hs, hs2, hs3, Ret_eq Try.results167] at hs4
                          dsimp only at hv1 hv2 hsw4 hsd4
                          have hl4 := hsw4.length
                          have ev : (v : Int) - 1 = ((v - 1 : Nat) : Int) := by omega
                          by_cases hvb : v < b
                          · have hls4 := lessS64_fun (l4.getD v 0) (l4.getD (v - 1) 0)
                            by_cases hlt4 : l4.getD v 0 < l4.getD (v - 1) 0
                            · rw [decide_eq_true hlt4] at hls4
                              have e7 : (l4.set v (l4.getD (v - 1) 0)).set (v - 1) (l4.getD v 0) = sw l4 v (v - 1) := rfl
                              have e8 : (l4.set v (l4.getD (v - 1) 0)).length = l4.length := List.length_set
                              repeat' (first | simp only [go_sem, hs, hs2, hs3, hs4, hl4, ev, e7, List.length_set, Ret_eq Try.results167] | simp (disch := omega) only [arith, IntKind.bits, capMax, fill_len, elt_fill] | (refine awpI_draw2 (id := 22) (.one false 0 (.one false 1 (.one false 2 (.one false 3 (.one false 4 (.one false 5 (.one false 6 (.one false 7 (.one false 8 (.only 9 (.one false 10 .done))))))))))) mixed (by decide +kernel) (by decide +kernel) ?_) | (refine awpI_draw2 (id := 23) (.one false 0 (.one false 1 (.one false 5 (.one false 6 (.one false 7 (.one false 8 (.one false 9 (.one false 10 (.one false 11 (.one false 12 (.one false 13 (.one false 14 (.mv 2 (.mv 3 (.cal 4 [15] (.only 15 (.one false 16 (.only 17 .done)))))))))))))))))) mixed (by decide +kernel) (by decide +kernel) ?_) | (refine opCallI_rd (by simp only [go_sem, hs, hs2, hs3, hs4, hl4, ev, e7, List.length_set, Ret_eq Try.results167]; first | done | rfl) (hls4) (by rintro _ rfl; rfl) ?_; rintro _ rfl) | fail)
                              all_goals
                                refine AgainW.to (v + 1, sw l4 v (v - 1)) ?_ ?_ ?_
                                · show b - (v + 1) < b - v; omega
                                · exact ⟨⟨by show i2 + 1 ≤ v + 1; omega, by show v + 1 ≤ b; omega⟩, .step v (v - 1) hsw4 ⟨by omega, by omega⟩ ⟨by omega, by omega⟩ (by omega), hsd4.out (by omega) (by omega) (by omega) (by omega)⟩
                                · simp only [go_sem, hs, hs2, hs3, hs4, Ret_eq Try.results167]
                            · rw [decide_eq_false hlt4] at hls4
                              repeat' (first | simp only [go_sem, hs, hs2, hs3, hs4, hl4, ev, Ret_eq Try.results167] | simp (disch := omega) only [arith, IntKind.bits, capMax, fill_len, elt_fill] | (refine awpI_draw2 (id := 22) (.one false 0 (.one false 1 (.one false 2 (.one false 3 (.one false 4 (.one false 5 (.one false 6 (.one false 7 (.one false 8 (.only 9 (.one false 10 .done))))))))))) mixed (by decide +kernel) (by decide +kernel) ?_) | (refine opCallI_rd (by simp only [go_sem, hs, hs2, hs3, hs4, hl4, ev, Ret_eq Try.results167]; first | done | rfl) (hls4) (by rintro _ rfl; rfl) ?_; rintro _ rfl) | fail)
                              all_goals
                                refine AgainW.to (j + 1, i2, l4) ?_ ?_ ?_
                                · show 5 - (j + 1) < 5 - j; omega
                                · exact ⟨⟨hi3, hi4⟩, hsw4, hsd4⟩
                                · simp only [go_sem, hs, hs2, hs3, hs4, Ret_eq Try.results167]
                          · repeat' (first | simp only [go_sem, hs, hs2, hs3, hs4, hl4, ev, Ret_eq Try.results167] | simp (disch := omega) only [arith, IntKind.bits, capMax, fill_len, elt_fill] | fail)
                            all_goals
                              refine AgainW.to (j + 1, i2, l4) ?_ ?_ ?_
                              · show 5 - (j + 1) < 5 - j; omega
                              · exact ⟨⟨hi3, hi4⟩, hsw4, hsd4⟩
                              · simp only [go_sem, hs, hs2, hs3, hs4, Ret_eq Try.results167]
                      · repeat' (first | simp only [go_sem, hs, hs2, hs3, hl3, eu, eia, ebi, Ret_eq Try.results167] | simp (disch := omega) only [arith, IntKind.bits, capMax, fill_len, elt_fill] | (refine awpI_draw2 (id := 16) (.one false 0 (.one false 1 (.one false 2 (.one false 3 (.one false 4 (.one false 5 (.one false 6 (.one false 7 (.one false 8 (.only 9 (.one false 10 .done))))))))))) mixed (by decide +kernel) (by decide +kernel) ?_) | (refine opCallI_rd (by simp only [go_sem, hs, hs2, hs3, hl3, eu, eia, ebi, Ret_eq Try.results167]; first | done | rfl) (hls3) (by rintro _ rfl; rfl) ?_; rintro _ rfl) | fail)
                        all_goals
                          refine AgainW.to (j + 1, i2, l3) ?_ ?_ ?_
                          · show 5 - (j + 1) < 5 - j; omega
                          · exact ⟨⟨hi3, hi4⟩, hsw3, hsd3⟩
                          · simp only [go_sem, hs, hs2, hs3, Ret_eq Try.results167]
                  · have hsd3 : Sd a i2 l3 := by
                      have := hins3.done (.inl (by omega))
                      rw [show i2 - 1 + 1 = i2 by omega] at this
                      exact this
                    obtain rfl : u = 0 := by omega
                    by_cases h3 : 2 ≤ b - i2
                    · repeat' (first | simp only [go_sem, hs, hs2, hs3, hl3, eia, ebi, Ret_eq Try.results167] | simp (disch := omega) only [arith, IntKind.bits, capMax, fill_len, elt_fill] | fail)
                      refine awpI_while (σ := Nat × List Int) (fun x => b - x.1) (fun x => (i2 + 1 ≤ x.1 ∧ x.1 ≤ b) ∧ Sw a b l x.2 ∧ Sd a i2 x.2) (fun x => [(10, .v (.int .i64 x.1))]) (fun x => [(0, own64 x.2)]) [0, 1, 2, 7, 8, 100000] [] (i2 + 1, l3) _ (Weak.refl _) ⟨⟨Nat.le_refl _, by show i2 + 1 ≤ b; omega⟩, hsw3, hsd3⟩ ?_ ?_ ?_
                      · simp only [go_sem, hs, hs2, hs3, Ret_eq Try.results167]
                      · simp only [go_sem, hs, hs2, hs3, Ret_eq Try.results167]
                      · rintro ⟨v, l4⟩ s4 ⟨⟨hv1, hv2⟩, hsw4, hsd4⟩ hs4
                        simp only [go_sem, hs, hs2, hs3, Ret_eq Try.results167] at hs4
                        dsimp only at hv1 hv2 hsw4 hsd4
                        have hl4 := hsw4.length
                        have ev : (v : Int) - 1 = ((v - 1 : Nat) : Int) := by omega
                        by_cases hvb : v < b
                        · have hls4 := lessS64_fun (l4.getD v 0) (l4.getD (v - 1) 0)
                          by_cases hlt4 : l4.getD v 0 < l4.getD (v - 1) 0
                          · rw [decide_eq_true hlt4] at hls4
                            have e7 : (l4.set v (l4.getD (v - 1) 0)).set (v - 1) (l4.getD v 0) = sw l4 v (v - 1) := rfl
                            have e8 : (l4.set v (l4.getD (v - 1) 0)).length = l4.length := List.length_set
                            repeat' (first | simp only [go_sem, hs, hs2, hs3, hs4, hl4, ev, e7, List.length_set, Ret_eq Try.results167] | simp (disch := omega) only [arith, IntKind.bits, capMax, fill_len, elt_fill] | (refine awpI_draw2 (id := 22) (.one false 0 (.one false 1 (.one false 2 (.one false 3 (.one false 4 (.one false 5 (.one false 6 (.one false 7 (.one false 8 (.only 9 (.one false 10 .done))))))))))) mixed (by decide +kernel) (by decide +kernel) ?_) | (refine awpI_draw2 (id := 23) (.one false 0 (.one false 1 (.one false 5 (.one false 6 (.one false 7 (.one false 8 (.one false 9 (.one false 10 (.one false 11 (.one false 12 (.one false 13 (.one false 14 (.mv 2 (.mv 3 (.cal 4 [15] (.only 15 (.one false 16 (.only 17 .done)))))))))))))))))) mixed (by decide +kernel) (by decide +kernel) ?_) | (refine opCallI_rd (by simp only [go_sem, hs, hs2, hs3, hs4, hl4, ev, e7, List.length_set, Ret_eq Try.results167]; first | done | rfl) (hls4) (by rintro _ rfl; rfl) ?_; rintro _ rfl) | fail)
                            all_goals
                              refine AgainW.to (v + 1, sw l4 v (v - 1)) ?_ ?_ ?_
                              · show b - (v + 1) < b - v; omega
                              · exact ⟨⟨by show i2 + 1 ≤ v + 1; omega, by show v + 1 ≤ b; omega⟩, .step v (v - 1) hsw4 ⟨by omega, by omega⟩ ⟨by omega, by omega⟩ (by omega), hsd4.out (by omega) (by omega) (by omega) (by omega)⟩
                              · simp only [go_sem, hs, hs2, hs3, hs4, Ret_eq Try.results167]
                          · rw [decide_eq_false hlt4] at hls4
                            repeat' (first | simp only [go_sem, hs, hs2, hs3, hs4, hl4, ev, Ret_eq Try.results167] | simp (disch := omega) only [arith, IntKind.bits, capMax, fill_len, elt_fill] | (refine awpI_draw2 (id := 22) (.one false 0 (.one false 1 (.one false 2 (.one false 3 (.one false 4 (.one false 5 (.one false 6 (.one false 7 (.one false 8 (.only 9 (.one false 10 .done))))))))))) mixed (by decide +kernel) (by decide +kernel) ?_) | (refine opCallI_rd (by simp only [go_sem, hs, hs2, hs3, hs4, hl4, ev, Ret_eq Try.results167]; first | done | rfl) (hls4) (by rintro _ rfl; rfl) ?_; rintro _ rfl) | fail)
                            all_goals
                              refine AgainW.to (j + 1, i2, l4) ?_ ?_ ?_
                              · show 5 - (j + 1) < 5 - j; omega
                              · exact ⟨⟨hi3, hi4⟩, hsw4, hsd4⟩
                              · simp only [go_sem, hs, hs2, hs3, hs4, Ret_eq Try.results167]
                        · repeat' (first | simp only [go_sem, hs, hs2, hs3, hs4, hl4, ev, Ret_eq Try.results167] | simp (disch := omega) only [arith, IntKind.bits, capMax, fill_len, elt_fill] | fail)
                          all_goals
                            refine AgainW.to (j + 1, i2, l4) ?_ ?_ ?_
                            · show 5 - (j + 1) < 5 - j; omega
                            · exact ⟨⟨hi3, hi4⟩, hsw4, hsd4⟩
                            · simp only [go_sem, hs, hs2, hs3, hs4, Ret_eq Try.results167]
                    · repeat' (first | simp only [go_sem, hs, hs2, hs3, hl3, eia, ebi, Ret_eq Try.results167] | simp (disch := omega) only [arith, IntKind.bits, capMax, fill_len, elt_fill] | fail)
                      all_goals
                        refine AgainW.to (j + 1, i2, l3) ?_ ?_ ?_
                        · show 5 - (j + 1) < 5 - j; omega
                        · exact ⟨⟨hi3, hi4⟩, hsw3, hsd3⟩
                        · simp only [go_sem, hs, hs2, hs3, Ret_eq Try.results167]
              · have hsd3 : Sd a i2 (sw l1 i2 (i2 - 1)) := fun p q p1 p2 p3 => by omega
                by_cases h3 : 2 ≤ b - i2
                · repeat' (first | simp only [go_sem, hs, hs2, hl1, ei, eia, ebi, hbe, eba, e5, List.length_set, Ret_eq Try.results167] | simp (disch := omega) only [arith, IntKind.bits, capMax, fill_len, elt_fill] | (refine awpI_draw2 (id := 5) (.one false 0 (.one false 1 (.one false 2 (.one false 3 (.one false 4 (.one false 5 (.one false 6 (.one false 7 (.one false 8 (.one false 9 (.one false 10 (.one false 11 (.one false 12 (.only 13 (.one false 14 (.one false 15 .done)))))))))))))))) mixed (by decide +kernel) (by decide +kernel) ?_) | (refine awpI_draw2 (id := 11) (.one false 0 (.one false 1 (.one false 5 (.one false 6 (.one false 7 (.one false 8 (.one false 9 (.one false 10 (.one false 11 (.one false 12 (.one false 13 (.one false 14 (.mv 2 (.mv 3 (.cal 4 [15] (.only 15 (.one false 16 (.only 17 .done)))))))))))))))))) mixed (by decide +kernel) (by decide +kernel) ?_) | (refine opCallI_rd (by simp only [go_sem, hs, hs2, hl1, ei, eia, ebi, hbe, eba, e5, List.length_set, Ret_eq Try.results167]; first | done | rfl) (hls) (by rintro _ rfl; rfl) ?_; rintro _ rfl) | fail)
                  refine awpI_while (σ := Nat × List Int) (fun x => b - x.1) (fun x => (i2 + 1 ≤ x.1 ∧ x.1 ≤ b) ∧ Sw a b l x.2 ∧ Sd a i2 x.2) (fun x => [(10, .v (.int .i64 x.1))]) (fun x => [(0, own64 x.2)]) [0, 1, 2, 7, 8, 100000] [] (i2 + 1, (sw l1 i2 (i2 - 1))) _ (Weak.refl _) ⟨⟨Nat.le_refl _, by show i2 + 1 ≤ b; omega⟩, hsw2, hsd3⟩ ?_ ?_ ?_
                  · simp only [go_sem, hs, hs2, Ret_eq Try.results167]
                  · simp only [go_sem, hs, hs2, Ret_eq Try.results167]
                  · rintro ⟨v, l4⟩ s4 ⟨⟨hv1, hv2⟩, hsw4, hsd4⟩ hs4
                    simp only [go_sem, hs, hs2, Ret_eq Try.results167] at hs4
                    dsimp only at hv1 hv2 hsw4 hsd4
                    have hl4 := hsw4.length
                    have ev : (v : Int) - 1 = ((v - 1 : Nat) : Int) := by omega
                    by_cases hvb : v < b
                    · have hls4 := lessS64_fun (l4.getD v 0) (l4.getD (v - 1) 0)
                      by_cases hlt4 : l4.getD v 0 < l4.getD (v - 1) 0
                      · rw [decide_eq_true hlt4] at hls4
                        have e7 : (l4.set v (l4.getD (v - 1) 0)).set (v - 1) (l4.getD v 0) = sw l4 v (v - 1) := rfl
                        have e8 : (l4.set v (l4.getD (v - 1) 0)).length = l4.length := List.length_set
                        repeat' (first | simp only [go_sem, hs, hs2, hs4, hl4, ev, e7, List.length_set, Ret_eq Try.results167] | simp (disch := omega) only [arith, IntKind.bits, capMax, fill_len, elt_fill] | (refine awpI_draw2 (id := 22) (.one false 0 (.one false 1 (.one false 2 (.one false 3 (.one false 4 (.one false 5 (.one false 6 (.one false 7 (.one false 8 (.only 9 (.one false 10 .done))))))))))) mixed (by decide +kernel) (by decide +kernel) ?_) | (refine awpI_draw2 (id := 23) (.one false 0 (.one false 1 (.one false 5 (.one false 6 (.one false 7 (.one false 8 (.one false 9 (.one false 10 (.one false 11 (.one false 12 (.one false 13 (.one false 14 (.mv 2 (.mv 3 (.cal 4 [15] (.only 15 (.one false 16 (.only 17 .done)))))))))))))))))) mixed (by decide +kernel) (by decide +kernel) ?_) | (refine opCallI_rd (by simp only [go_sem, hs, hs2, hs4, hl4, ev, e7, List.length_set, Ret_eq Try.results167]; first | done | rfl) (hls4) (by rintro _ rfl; rfl) ?_; rintro _ rfl) | fail)
                        all_goals
                          refine AgainW.to (v + 1, sw l4 v (v - 1)) ?_ ?_ ?_
                          · show b - (v + 1) < b - v; omega
                          · exact ⟨⟨by show i2 + 1 ≤ v + 1; omega, by show v + 1 ≤ b; omega⟩, .step v (v - 1) hsw4 ⟨by omega, by omega⟩ ⟨by omega, by omega⟩ (by omega), hsd4.out (by omega) (by omega) (by omega) (by omega)⟩
                          · simp only [go_sem, hs, hs2, hs4, Ret_eq Try.results167]
                      · rw [decide_eq_false hlt4] at hls4
                        repeat' (first | simp only [go_sem, hs, hs2, hs4, hl4, ev, Ret_eq Try.results167] | simp (disch := omega) only [arith, IntKind.bits, capMax, fill_len, elt_fill] | (refine awpI_draw2 (id := 22) (.one false 0 (.one false 1 (.one false 2 (.one false 3 (.one false 4 (.one false 5 (.one false 6 (.one false 7 (.one false 8 (.only 9 (.one false 10 .done))))))))))) mixed (by decide +kernel) (by decide +kernel) ?_) | (refine opCallI_rd (by simp only [go_sem, hs, hs2, hs4, hl4, ev, Ret_eq Try.results167]; first | done | rfl) (hls4) (by rintro _ rfl; rfl) ?_; rintro _ rfl) | fail)
                        all_goals
                          refine AgainW.to (j + 1, i2, l4) ?_ ?_ ?_
                          · show 5 - (j + 1) < 5 - j; omega
                          · exact ⟨⟨hi3, hi4⟩, hsw4, hsd4⟩
                          · simp only [go_sem, hs, hs2, hs4, Ret_eq Try.results167]
                    · repeat' (first | simp only [go_sem, hs, hs2, hs4, hl4, ev, Ret_eq Try.results167] | simp (disch := omega) only [arith, IntKind.bits, capMax, fill_len, elt_fill] | fail)
                      all_goals
                        refine AgainW.to (j + 1, i2, l4) ?_ ?_ ?_
                        · show 5 - (j + 1) < 5 - j; omega
                        · exact ⟨⟨hi3, hi4⟩, hsw4, hsd4⟩
                        · simp only [go_sem, hs, hs2, hs4, Ret_eq Try.results167]
                · exact absurd h3 (by omega)
          · rw [decide_eq_false hlt] at hls
            repeat' (first | simp only [go_sem, hs, hs2, hl1, ei, Ret_eq Try.results167] | simp (disch := omega) only [arith, IntKind.bits, capMax, fill_len, elt_fill] | (refine awpI_draw2 (id := 5) (.one false 0 (.one false 1 (.one false 2 (.one false 3 (.one false 4 (.one false 5 (.one false 6 (.one false 7 (.one false 8 (.one false 9 (.one false 10 (.one false 11 (.one false 12 (.only 13 (.one false 14 (.one false 15 .done)))))))))))))))) mixed (by decide +kernel) (by decide +kernel) ?_) | (refine opCallI_rd (by simp only [go_sem, hs, hs2, hl1, ei, Ret_eq Try.results167]; first | done | rfl) (hls) (by rintro _ rfl; rfl) ?_; rintro _ rfl) | fail)
            all_goals
              refine AgainW.to (i2 + 1) ?_ ?_ ?_
              · show b - (i2 + 1) < b - i2; omega
              · exact ⟨⟨by show a + 1 ≤ i2 + 1; omega, by show i2 + 1 ≤ b; omega⟩, hsd2.snoc hi3 (by omega)⟩
              · simp only [go_sem, hs, hs2, Ret_eq Try.results167]
        · obtain rfl : i2 = b := by omega
          repeat' (first | simp only [go_sem, hs, hs2, beq_self_eq_true, Ret_eq Try.results167] | simp (disch := omega) only [arith, IntKind.bits, capMax, fill_len, elt_fill] | refine RetL_calc Try.results167 rfl ?_ | (refine awpI_draw2 (id := 5) (.one false 0 (.one false 1 (.one false 2 (.one false 3 (.one false 4 (.one false 5 (.one false 6 (.one false 7 (.one false 8 (.one false 9 (.one false 10 (.one false 11 (.one false 12 (.only 13 (.one false 14 (.one false 15 .done)))))))))))))))) mixed (by decide +kernel) (by decide +kernel) ?_) | fail)
          all_goals exact ⟨true, rfl, l1, rfl, hsw, fun _ => hsd2⟩
    · repeat' (first | simp only [go_sem, hs, Ret_eq Try.results167] | simp (disch := omega) only [arith, IntKind.bits, capMax, fill_len, elt_fill] | refine RetL_calc Try.results167 rfl ?_ | fail)
      all_goals exact ⟨false, rfl, l1, rfl, hsw, fun q => by cases q⟩
end Go.Proofs.Ytpkampecmlpfmaa.T

end
