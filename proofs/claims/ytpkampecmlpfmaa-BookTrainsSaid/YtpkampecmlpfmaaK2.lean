import Derived.Test.YtpkampecmlpfmaaK1
import Derived.RangeFuncGives
import Derived.OwnWalkIn
import Derived.TacticsInMore
import Derived.LoopNIn
import Derived.LoopIn
import Derived.Maps.AppendAt
import Derived.Shelf.Abstract
set_option linter.unusedSimpArgs false
set_option linter.unusedVariables false
section
set_option linter.unusedSimpArgs false
set_option linter.unusedVariables false
/- book.Train, with the lists that it gives as one's own. -/
namespace Go.Proofs.Ytpkampecmlpfmaa.T
open Go Go.VL Go.Proofs
set_option maxRecDepth 100000
set_option maxHeartbeats 4000000
/-- A list of lists that are all owned. -/
def ownB (eo ei : TypeId) (n len : Nat) (C : List (List Int)) : Nat → Option Own := fun m => if m = 2000 then some ⟨eo, 1, (List.range n).map fun i => .ref (3000 + i) len⟩ else if 3000 ≤ m ∧ m < 3000 + n then some ⟨ei, 1, ints .i16 (C.getD (m - 3000) [])⟩ else none
/-- The first lists are there. -/
def refsN (n len m : Nat) : List D := ((List.range m).map fun i => .ref (3000 + i) len) ++ tab [] (n - m)
theorem refsN_zero {n len : Nat} : refsN n len 0 = tab [] n := by simp [refsN]
theorem refsN_length {n len m : Nat} (h : m ≤ n) : (refsN n len m).length = n := by simp [refsN, tab_length]; omega
theorem refsN_get {n len m : Nat} (h : m < n) : (refsN n len m)[m]? = some (.v (.slice none 0 0)) := by
  unfold refsN
  obtain ⟨q, hq⟩ : ∃ q, n - m = q + 1 := ⟨n - m - 1, by omega⟩
  rw [List.getElem?_append_right (by simp), List.length_map, List.length_range, Nat.sub_self, hq]
  exact tab_get (A := []) (m := q)
theorem refsN_kills {n len m id : Nat} (h : id < 3000) : D.kills id (refsN n len m) = refsN n len m := by
  rw [D.kills_eq_map, refsN, List.map_append, List.map_map, ← D.kills_eq_map, tab_kills]
  congr 1
  refine List.map_congr_left fun i _ => ?_
  simp only [Function.comp, D.kill]
  rw [if_neg (by omega)]
theorem refsN_set {n len m id : Nat} (h : m < n) : (refsN n len m).set m (.ref id len) = ((List.range m).map fun i => D.ref (3000 + i) len) ++ .ref id len :: tab [] (n - (m + 1)) := by
  have e : n - m = n - (m + 1) + 1 := by omega
  unfold refsN
  rw [List.set_append_right _ _ (by simp), e, List.length_map, List.length_range, Nat.sub_self]
  rfl
def ownsW (e : TypeId) (n : Nat) (C : List (List Int)) : List (Nat × Own) := (List.range n).map fun i => (3000 + i, ⟨e, 1, ints .i16 (C.getD i [])⟩)
theorem Heaps_ownsW {s : St} {e : TypeId} {n : Nat} {C : List (List Int)} : Heaps s (ownsW e n C) = ∀ i, i < n → s.H (3000 + i) = some ⟨e, 1, ints .i16 (C.getD i [])⟩ := by
  rw [ownsW, Heaps_range]
  simp only [List.mem_range]
theorem lsts_kills {id : Nat} {f : Nat → List D} : ∀ l : List Nat, D.kills id (l.map fun i => D.lst (f i)) = l.map fun i => D.lst (f i)
  | [] => rfl
  | i :: l => by
    show D.kill id (D.lst (f i)) :: D.kills id (l.map fun i => D.lst (f i)) = _
    rw [lsts_kills l]; rfl
theorem refsN_all {n len : Nat} : refsN n len n = (List.range n).map fun i => D.ref (3000 + i) len := by
  rw [refsN, Nat.sub_self, show tab [] 0 = [] from rfl, List.append_nil]
theorem base3_ne {i c : Nat} (h : c < 3000) : (3000 + i = c) = False := eq_false (by omega)
theorem base3_ne' {i c : Nat} (h : c < 3000) : (c = 3000 + i) = False := eq_false (by omega)
theorem okTos_lsts {base : Nat} {f : Nat → List D} : ∀ l : List Nat, okTos base (l.map fun i => D.lst (f i)) = true
  | [] => rfl
  | _ :: l => okTos_lsts l
theorem giveB {st : St} {n len ob : Nat} {C : List (List Int)} {eo ei eb : TypeId} {W : Int} (hob : ob < 2000) (hob6 : ob ≠ 6) (h6 : st.t 6 = .adr 6 0 0) (h7 : st.t 7 = .v (.int .i64 0)) (hb : st.H 6 = some ⟨eb, 2, [.agg [.v (.int .i64 W), .ref ob n]]⟩)
    (ho : st.H ob = some ⟨eo, 1, (List.range n).map fun i => .ref (3000 + i) len⟩) (hc : ∀ i, i < n → st.H (3000 + i) = some ⟨ei, 1, ints .i16 (C.getD i [])⟩) :
    Weak st ⟨pickT [(6, .adr 6 0 0), (7, .v (.int .i64 0))], fun m => if m = 6 then some ⟨eb, 2, [.agg [.v (.int .i64 W), .ref 2000 n]]⟩ else ownB eo ei n len C m, st.n⟩ := by
  refine Weak.move ob 2000 rfl (fun k => ?_) fun m o' hm => ?_
  · rcases pickT_of (st := st) (base := 2000) (k := k) (l := [(6, .adr 6 0 0), (7, .v (.int .i64 0))]) ⟨h6, h7, trivial⟩ rfl with q | ⟨q, q2⟩
    · show ToM _ _ _ (pickT _ k); rw [q]; exact ToM.any
    · show ToM _ _ _ (pickT _ k); rw [q]; exact okTo.toM (Nat.le_refl _) q2
  · simp only at hm
    by_cases h1 : m = 6
    · rw [if_pos h1] at hm; cases hm
      exact ⟨.inr (by omega), ⟨eb, 2, [.agg [.v (.int .i64 W), .ref ob n]]⟩, by rw [if_neg (by omega), h1]; exact hb, rfl, rfl, ⟨ToM.agg ⟨ToM.plain rfl, ToM.refTo, trivial⟩, trivial⟩⟩
    · rw [if_neg h1] at hm
      unfold ownB at hm
      by_cases h2 : m = 2000
      · rw [if_pos h2] at hm; cases hm
        exact ⟨.inl h2, _, by rw [if_pos h2]; exact ho, rfl, rfl, ToMs.range fun i _ => ToM.ref (by omega)⟩
      · rw [if_neg h2] at hm
        by_cases h3 : 3000 ≤ m ∧ m < 3000 + n
        · rw [if_pos h3] at hm; cases hm
          refine ⟨.inr (by omega), _, by rw [if_neg h2]; have := hc (m - 3000) (by omega); rw [show 3000 + (m - 3000) = m by omega] at this; exact this, rfl, rfl, ToMs.plain ints_noRefs⟩
        · rw [if_neg h3] at hm; cases hm

theorem bookTrain_ownT (hS : Sorted16) (w : Int) (cuts : List (List Int)) (way : Int) (sample : List (List Int)) (hI : I16r sample) (hE : trE w cuts way sample = 0) (h0 : sample ≠ []) : FunM Try.prog 67 [bookD w cuts, .v (.int .i64 way), .lst (rows .i16 sample)] fun r H =>
    r = .tup [.agg [.v (.int .i64 way), .ref 2000 cuts.length], .v (.int .i64 0)] ∧ H = ownB 22 23 cuts.length (manyOf cuts) (trCuts cuts.length (manyOf cuts + 1) way sample) := by
  have hce := quantCells_fun w cuts
  have hno := not_fun way
  have hcf := containsFuncV_fun sample (oddN cuts.length) 121 [.ptr (bookD w cuts)] rfl rfl rfl fun v _ => train1_fun v w cuts
  obtain ⟨hb, hw, hsok, hlong⟩ := trE_zero.1 hE
  rw [sampleOk_iff.2 hsok] at hcf
  have hcl := (bookErr_zero.1 hb).2.1
  have hrow := book_rows hb
  have hmany := book_many hb
  have hlen : 1 ≤ sample.length := by
    cases sample with
    | nil => exact absurd rfl h0
    | cons a l => simp
  refine FunM.of_awpI Try.func67 rfl cal67 Try.ntmps67 (by simp) fun hwf => ?_
  simp only [D.wfs, D.wf, ints_wfs, rows_wfs, ints_length, rows_length, and_true, true_and] at hwf
  obtain ⟨w1, w2⟩ := wayErr_zero hw
  have hTl : (turnedL way sample).length = sample.length := by simp [turnedL]
  have hc1 := (bookErr_zero.1 hb).1
  repeat' (first | simp only [go_sem, hb, hw, rows_nil, Ret_eq Try.results67] | simp (disch := omega) only [arith, IntKind.bits, capMax, fill_len, elt_fill] | (refine opCallI_rd (by simp only [go_sem, hb, hw, rows_nil, Ret_eq Try.results67]; first | done | rfl) (hce) (by rintro _ rfl; rfl) ?_; rintro _ rfl) | (refine opCallI_rd (by simp only [go_sem, hb, hw, rows_nil, Ret_eq Try.results67]; first | done | rfl) (hno) (by rintro _ rfl; rfl) ?_; rintro _ rfl) | (refine opCallI_rd (by simp only [go_sem, hb, hw, rows_nil, Ret_eq Try.results67]; first | done | rfl) (hcf) (by rintro _ rfl; rfl) ?_; rintro _ rfl) | fail)
  refine awpI_for sample.length (fun k => True) (fun k => [(83, .v (.int .i64 k))]) (fun k => (80, ⟨22, 1, refsL cuts.length fun _ => k⟩) :: colsW 23 cuts.length (turnedL way sample) fun _ => k) [1, 6, 8, 16, 81, 82] [6] _
    (Weak.adopts1 (ob := 80) (base := 1000) (n := cuts.length) (S := 1) (So := 1) (e := 23) (eo := 22) [(1, .v (.int .i64 way)), (6, .adr 6 0 0), (8, .v (.int .i64 ((manyOf cuts + 1 : Nat) : Int))), (16, .ref 80 cuts.length), (81, .lst (rows .i16 sample)), (82, .v (.int .i64 sample.length)), (83, .v (.int .i64 0))] [(6, ⟨73, 2, [.agg [.v (.int .i64 0), .v (.slice none 0 0)]]⟩)] (by decide) (by decide) (by simp only [go_sem, Ret_eq Try.results67]) (by rfl) (by simp only [go_sem, Ret_eq Try.results67]) (by rfl) (by simp only [go_sem, Ret_eq Try.results67])) trivial ?_ ?_ ?_
  · simp only [go_sem, Ret_eq Try.results67]
  · simp only [go_sem, Heaps_colsW, Ret_eq Try.results67]
    refine ⟨rfl, fun i hi => ?_⟩
    rw [if_neg (by omega), if_pos (by omega)]
    rfl
  · intro k s hk _ hs
    simp only [go_sem, Heaps_colsW, false_and, Ret_eq Try.results67] at hs
    have hco := hs.2.2.1.2
    by_cases hka : k < sample.length
    · have hvk := hsok _ (getD_mem (d := []) hka)
      have hgk : (turnedL way sample).getD k [] = turnL (sample.getD k []) way.toNat := by
        simp [turnedL, List.getD, hka]
      have hti := turnErr_iff.2 ⟨hvk.1, w1, w2⟩
      have htu := turn_fun (sample.getD k []) way (hI.getD k)
      rw [turnOut_ok ⟨hvk.1, w1, w2⟩, hti, ← hgk] at htu
      have htl : ((turnedL way sample).getD k []).length = cuts.length := by rw [hgk, turnL_length]; exact hvk.2
      have hsn := fun i => colOf_snoc (T := turnedL way sample) (i := i) (k := k) (by omega)
      have hcln := fun i => colOf_length (T := (turnedL way sample).take k) (i := i)
      have htk : ((turnedL way sample).take k).length = k := by rw [List.length_take]; omega
      clear hgk hti
      generalize (turnedL way sample).getD k [] = tv at *
      repeat' (first | simp only [go_sem, hs, Ret_eq Try.results67] | simp (disch := omega) only [arith, IntKind.bits, capMax, fill_len, elt_fill] | (refine opCallI_gv (by simp only [go_sem, hs, Ret_eq Try.results67]; first | done | rfl) (htu) ?_; rintro _ rfl) | fail)
      refine awpI_for cuts.length (fun j => True) (fun j => [(99, .v (.int .i64 j))]) (fun j => (80, ⟨22, 1, refsL cuts.length (cntC k j)⟩) :: colsW 23 cuts.length (turnedL way sample) (cntC k j)) [1, 6, 8, 16, 81, 82, 83, 97, 98] [6] _ (Weak.refl _) trivial ?_ ?_ ?_
      · simp only [go_sem, hs, Ret_eq Try.results67]
      · rw [cntC_zero]
        simp only [go_sem, hs, Heaps_colsW, Ret_eq Try.results67]
        exact hco
      · intro j s2 hj _ hs2
        simp only [go_sem, hs, Heaps_colsW, Ret_eq Try.results67] at hs2
        by_cases hjn : j < cuts.length
        · have g1 := refsL_get (c := cntC k j) hjn
          have g2 := refsL_kills (c := cntC k j) hjn
          have g3 := refsL_step (k := k) hjn
          have g4 : cntC k j j = k := if_neg (Nat.lt_irrefl _)
          rw [g4] at g1
          have gl := refsL_length (n := cuts.length) (c := cntC k j)
          have g5 : s2.H (1000 + j) = some ⟨23, 1, ints .i16 (colOf ((turnedL way sample).take k) j)⟩ := by
            have := hs2.2.2.1.2 j hjn
            rw [g4] at this
            exact this
          have g6 := refsL_any (c := cntC k j) hjn
          repeat' (first | simp only [go_sem, hs, hs2, base_ne, base_ne', anyT_width, setPartT_xr, false_and, g6, g1, g2, g3, g4, g5, gl, hjn, htl, hcln, htk, List.length_set, List.length_append, List.length_cons, List.length_nil, Ret_eq Try.results67] | simp (disch := omega) only [arith, IntKind.bits, capMax, fill_len, elt_fill] | (refine Again.up (by omega) ?_ ?_) | fail)
          rw [Heaps_colsW]
          intro i hi
          by_cases q : i = j
          · subst q
            have g7 : cntC k (i + 1) i = k + 1 := if_pos (by omega)
            simp only [go_sem, base_ne, base_ne', g7, hsn, Ret_eq Try.results67]
          · have g7 : cntC k (j + 1) i = cntC k j i := by
              unfold cntC
              by_cases z : i < j
              · rw [if_pos z, if_pos (by omega)]
              · rw [if_neg z, if_neg (by omega)]
            have g8 : (1000 + i = 1000 + j) = False := eq_false (by omega)
            have g9 := hs2.2.2.1.2 i hi
            simp only [go_sem, base_ne, base_ne', g7, g8, g9, Ret_eq Try.results67]
        · obtain rfl : j = cuts.length := by omega
          repeat' (first | simp only [go_sem, hs, hs2, false_and, Ret_eq Try.results67] | simp (disch := omega) only [arith, IntKind.bits, capMax, fill_len, elt_fill] | (refine Again.up (by omega) ?_ ?_) | fail)
          refine ⟨by rw [refsL_full], ?_⟩
          rw [Heaps_colsW]
          intro i hi
          have := hs2.2.2.1.2 i hi
          rw [cntC, if_pos hi] at this
          exact this
    · obtain rfl : k = sample.length := by omega
      have gl := refsL_length (n := cuts.length) (c := fun _ => sample.length)
      have hTa : (turnedL way sample).take sample.length = turnedL way sample := List.take_of_length_le (by omega)
      rw [hTa] at hco
      repeat' (first | simp only [go_sem, hs, gl, Ret_eq Try.results67] | simp (disch := omega) only [arith, IntKind.bits, capMax, fill_len, elt_fill] | fail)
      have hRz := refsN_zero (n := cuts.length) (len := manyOf cuts)
      refine awpI_for cuts.length (fun j => True) (fun j => [(123, .v (.int .i64 j))]) (fun j => (119, ⟨22, 1, refsN cuts.length (manyOf cuts) j⟩) :: ownsW 23 j (trCuts cuts.length (manyOf cuts + 1) way sample)) [6, 8, 23, 121, 122] [6, 23, 80] _
        (Weak.freezes1 (ob := 80) (base := 1000) (n := cuts.length) (S := 1) (So := 1) (e := 23) (eo := 22) (fun i => ints .i16 (colOf (turnedL way sample) i)) (fun _ => sample.length) [(6, .adr 6 0 0), (8, .v (.int .i64 ((manyOf cuts + 1 : Nat) : Int))), (23, .adr 23 0 0), (121, .ref 80 cuts.length), (122, .v (.int .i64 cuts.length)), (123, .v (.int .i64 0))]
          [(6, ⟨73, 2, [.agg [.v (.int .i64 0), .v (.slice none 0 0)]]⟩), (23, ⟨73, 2, [.agg [.v (.int .i64 way), .ref 119 cuts.length]]⟩), (119, ⟨22, 1, tab [] cuts.length⟩)] (by decide) (by simp only [go_sem, hs, gl, Ret_eq Try.results67]) (by rfl) (by simp only [go_sem, hs, tab_zero, Int.toNat_natCast, Ret_eq Try.results67]) (by simp only [List.all_cons, List.all_nil, okTo_tab]; rfl) (by simp only [go_sem, hs, refsL_kept, Ret_eq Try.results67]; rfl) (fun i hi => by simp only [go_sem, hs, base_ne, hTa, hi, Ret_eq Try.results67]) (fun i hi => ⟨ints_noRefs, ints_nrms, ints_width1, by rw [ints_length, colOf_length, hTl]⟩)) trivial ?_ ?_ ?_
      · simp only [go_sem, Ret_eq Try.results67]
      · simp only [go_sem, Heaps_ownsW, hRz, Ret_eq Try.results67]
        all_goals first | done | exact fun i hi => absurd hi (Nat.not_lt_zero i)
      · intro j s2 hj _ hs2
        simp only [go_sem, Heaps_ownsW, Ret_eq Try.results67] at hs2
        have hco2 := hs2.2.2.1.2
        have hCl := trCuts_length (n := cuts.length) (cells := manyOf cuts + 1) (way := way) (sample := sample)
        by_cases hjn : j < cuts.length
        · have hrz : rkE (colOf (turnedL way sample) j) ((manyOf cuts + 1 : Nat) : Int) = 0 := rkE_zero.2 ⟨by rw [colOf_length, hTl]; omega, by omega, col_ok hsok hI hjn, by rw [colOf_length, hTl]; omega⟩
          have hrk := rkCuts_own hS (colOf (turnedL way sample) j) (manyOf cuts + 1) (by rw [colOf_length, hTl]; omega) hrz
          rw [← trCuts_at hjn, Nat.add_sub_cancel] at hrk
          have hcg := colsT_get (T := turnedL way sample) hjn
          have m1 := refsN_length (n := cuts.length) (len := manyOf cuts) (m := j) (by omega)
          have m2 := refsN_get (len := manyOf cuts) hjn
          have m3 := refsN_set (len := manyOf cuts) (id := 134) hjn
          repeat' (first | simp only [go_sem, hs, hs2, hcg, m1, m2, m3, refsN_kills, List.length_map, List.length_range, Ret_eq Try.results67] | simp (disch := omega) only [arith, IntKind.bits, capMax, fill_len, elt_fill] | (refine awpI_draw2 (id := 35) (.one false 3 (.one false 4 (.cal 0 [5] (.cal 1 [5] (.cal 2 [5] (.only 5 (.one false 6 (.one false 7 (.one false 9 (.cal 8 [10] (.only 10 (.one false 11 .done)))))))))))) mixed (by decide +kernel) (by decide +kernel) ?_) | (refine opCallI_ownGv (by simp only [go_sem, hs, hs2, hcg, m1, m2, m3, refsN_kills, List.length_map, List.length_range, Ret_eq Try.results67]; first | done | rfl) (hrk) ?_; rintro _ _ ⟨rfl, rfl⟩) | fail)
          refine AgainW.weak (j + 1) (Weak.moveRef (ob := 119) (base := 3000) (m := j) (i0 := 134) (So := 1) (len := manyOf cuts) (eo := 22) (R := tab [] (cuts.length - (j + 1))) (fun i => ⟨23, 1, ints .i16 ((trCuts cuts.length (manyOf cuts + 1) way sample).getD i [])⟩) ⟨23, 1, ints .i16 ((trCuts cuts.length (manyOf cuts + 1) way sample).getD j [])⟩
            [(6, .adr 6 0 0), (8, .v (.int .i64 ((manyOf cuts + 1 : Nat) : Int))), (23, .adr 23 0 0), (121, .ref 80 cuts.length), (122, .v (.int .i64 cuts.length)), (123, .v (.int .i64 ((j + 1 : Nat) : Int)))]
            [(6, ⟨73, 2, [.agg [.v (.int .i64 0), .v (.slice none 0 0)]]⟩), (23, ⟨73, 2, [.agg [.v (.int .i64 way), .ref 119 cuts.length]]⟩), (80, ⟨22, 1, (List.range cuts.length).map fun i => .lst (ints .i16 (colOf (turnedL way sample) i))⟩)]
            (by decide) (by decide) (by simp only [go_sem, hs, hs2, Ret_eq Try.results67]) (by rfl) (by simp only [go_sem, hs, hs2, lsts_kills, Ret_eq Try.results67]) (by simp only [List.all_cons, List.all_nil, okTos_lsts]; rfl) (by rfl) (by decide) (by simp only [go_sem, hs, hs2, Ret_eq Try.results67]) tab_noRefs
            (fun i hi => by
              have := hco2 i hi
              simp only [go_sem, hs, hs2, base3_ne, this, hi, Ret_eq Try.results67]) (fun i _ => ints_noRefs) (by simp only [go_sem, hs, hs2, Ret_eq Try.results67]) ints_noRefs) (by show cuts.length - (j + 1) < cuts.length - j; omega) ⟨by omega, trivial⟩ ?_
          simp only [go_sem, Heaps_ownsW, hs, hs2, false_and, base3_ne', Ret_eq Try.results67]
          refine ⟨by rw [← List.range_succ]; rfl, fun i hi => ?_⟩
          rw [if_neg (by omega)]
          by_cases q : i < j
          · rw [if_pos (by omega), show 3000 + i - 3000 = i by omega]
          · rw [if_neg (by omega), if_pos (by omega), show i = j by omega]
        · obtain rfl : j = cuts.length := by omega
          repeat' (first | simp only [go_sem, hs, hs2, hCl, Ret_eq Try.results67] | simp (disch := omega) only [arith, IntKind.bits, capMax, fill_len, elt_fill] | fail)
          have hfin := hco2
          refine RetM_calc Try.results67 (giveB (ob := 119) (n := cuts.length) (len := manyOf cuts) (C := trCuts cuts.length (manyOf cuts + 1) way sample) (eo := 22) (ei := 23) (eb := 73) (W := way) (by decide) (by decide) (by simp only [go_sem, hs, hs2, Ret_eq Try.results67]) (by simp only [go_sem, hs, hs2, Ret_eq Try.results67]) (by simp only [go_sem, hs, hs2, Ret_eq Try.results67]) (by simp only [go_sem, hs, hs2, refsN_all, Ret_eq Try.results67]) (fun i hi => by
            have := hco2 i hi
            simp only [go_sem, hs, hs2, base3_ne, this, Ret_eq Try.results67])) (ownB 22 23 cuts.length (manyOf cuts) (trCuts cuts.length (manyOf cuts + 1) way sample)) (ds := [.agg [.v (.int .i64 way), .ref 2000 cuts.length], .v (.int .i64 0)]) ?_ ?_ ⟨rfl, rfl⟩
          · simp only [go_sem, resDs, resD, pickT, Ret_eq Try.results67]
            all_goals skip
          · exact fun i o h => by
              show (if i = 6 then _ else ownB 22 23 cuts.length (manyOf cuts) (trCuts cuts.length (manyOf cuts + 1) way sample) i) = some o
              rw [if_neg (by rintro rfl; unfold ownB at h; rw [if_neg (by decide), if_neg (by omega)] at h; cases h)]
              exact h
end Go.Proofs.Ytpkampecmlpfmaa.T

end
section
set_option linter.unusedSimpArgs false
set_option linter.unusedVariables false
/- book.Train of no sample, with the lists that it gives as one's own. -/
namespace Go.Proofs.Ytpkampecmlpfmaa.T
open Go Go.VL Go.Proofs
set_option maxRecDepth 100000
set_option maxHeartbeats 4000000

theorem cloneRow_own (l : List Int) (n : Nat) (hn : l.length = n) (hb : n ≤ 500) (h : 1 ≤ n) : FunO Try.prog 124 [.lst (ints .i16 l)] fun r o => r = .ref 0 n ∧ o = some ⟨23, 1, ints .i16 l⟩ := by
  subst hn
  refine FunO.of_awpI Try.func124 rfl cal124 Try.ntmps124 (by simp) fun hwf => ?_
  simp only [D.wfs, D.wf, ints_length, ints_wfs, rows_length, rows_wfs, capMax, and_true, true_and] at hwf
  simp only [go_sem, Ret_eq Try.results124]
  refine opBinI_isNil (by simp only [go_sem]) fun c hc => ?_
  rw [ints_isNil] at hc
  simp only [go_sem, Ret_eq Try.results124]
  refine condI_split (fun h => ?_) (fun h => ?_)
  · have hb := hc h
    subst hb
    simp at h
  · repeat' (first | simp only [go_sem, h, Ret_eq Try.results124] | simp (disch := omega) only [arith, IntKind.bits, capMax, fill_len, elt_fill] | refine RetO_calc Try.results124 ?_ | fail)
def refsC (n m : Nat) : List D := (List.range m).map fun i => .ref (3000 + i) n
theorem refsC_length {n m : Nat} : (refsC n m).length = m := by simp [refsC]
theorem refsC_kills {n m id : Nat} (h : id < 3000) : D.kills id (refsC n m) = refsC n m := by
  rw [D.kills_eq_map, refsC, List.map_map]
  refine List.map_congr_left fun i _ => ?_
  simp only [Function.comp, D.kill]
  rw [if_neg (by omega)]
theorem kills_app {id : Nat} {l m : List D} : D.kills id (l ++ m) = D.kills id l ++ D.kills id m := by
  rw [D.kills_eq_map, D.kills_eq_map, D.kills_eq_map, List.map_append]
theorem refsC_zero {n : Nat} : refsC n 0 = [] := rfl

theorem bookTrain_own0 (w : Int) (cuts : List (List Int)) (way : Int) (hE : trE w cuts way [] = 0) (hm : 1 ≤ manyOf cuts) : FunM Try.prog 67 [bookD w cuts, .v (.int .i64 way), .lst (rows .i16 [])] fun r H =>
    r = .tup [.agg [.v (.int .i64 w), .ref 2000 cuts.length], .v (.int .i64 0)] ∧ H = ownB 22 23 cuts.length (manyOf cuts) cuts := by
  have hce := quantCells_fun w cuts
  have hno := not_fun way
  have hcf := containsFuncV_fun [] (oddN cuts.length) 121 [.ptr (bookD w cuts)] rfl rfl rfl fun v _ => train1_fun v w cuts
  obtain ⟨hb, hw, hsok, hlong⟩ := trE_zero.1 hE
  rw [sampleOk_iff.2 hsok] at hcf
  have hcl := (bookErr_zero.1 hb).2.1
  have hc1 := (bookErr_zero.1 hb).1
  have hrow := book_rows hb
  have hmany := book_many hb
  refine FunM.of_awpS Try.func67 rfl cal67 Try.ntmps67 (by simp) fun hwf => ?_
  simp only [D.wfs, D.wf, ints_wfs, rows_wfs, ints_length, rows_length, and_true, true_and] at hwf
  repeat refine awpS_seq ?_
  refine awpS_last ?_
  repeat' (first | simp only [go_sem, hb, hw, rows_nil, Ret_eq Try.results67] | fail)
  repeat refine awpS_seq ?_
  refine awpS_last ?_
  repeat' (first | simp only [go_sem, hb, hw, rows_nil, Ret_eq Try.results67] | simp (disch := omega) only [arith, IntKind.bits, capMax, fill_len, elt_fill] | (refine opCallI_rd (by simp only [go_sem, hb, hw, rows_nil, Ret_eq Try.results67]; first | done | rfl) (hce) (by rintro _ rfl; rfl) ?_; rintro _ rfl) | fail)
  repeat refine awpS_seq ?_
  refine awpS_last ?_
  repeat' (first | simp only [go_sem, hb, hw, rows_nil, Ret_eq Try.results67] | (refine opCallI_rd (by simp only [go_sem, hb, hw, rows_nil, Ret_eq Try.results67]; first | done | rfl) (hno) (by rintro _ rfl; rfl) ?_; rintro _ rfl) | fail)
  repeat refine awpS_seq ?_
  refine awpS_last ?_
  repeat' (first | simp only [go_sem, hb, hw, rows_nil, Ret_eq Try.results67] | fail)
  repeat refine awpS_seq ?_
  refine awpS_last ?_
  repeat' (first | simp only [go_sem, hb, hw, rows_nil, Ret_eq Try.results67] | fail)
  repeat refine awpS_seq ?_
  refine awpS_last ?_
  repeat' (first | simp only [go_sem, hb, hw, rows_nil, Ret_eq Try.results67] | fail)
  repeat refine awpS_seq ?_
  refine awpS_block ?_
  repeat refine awpS_seq ?_
  refine awpS_last ?_
  repeat' (first | simp only [go_sem, hb, hw, rows_nil, Ret_eq Try.results67] | (refine opCallI_rd (by simp only [go_sem, hb, hw, rows_nil, Ret_eq Try.results67]; first | done | rfl) (hcf) (by rintro _ rfl; rfl) ?_; rintro _ rfl) | fail)
  repeat refine awpS_seq ?_
  refine awpS_cond false (by simp only [go_sem, Ret_eq Try.results67]) (fun h => by cases h) fun _ => ?_
  repeat refine awpS_seq ?_
  refine awpS_last ?_
  repeat' (first | simp only [go_sem, hb, hw, rows_nil, Ret_eq Try.results67] | fail)
  repeat refine awpS_seq ?_
  refine awpS_cond false (by simp only [go_sem, Ret_eq Try.results67]) (fun h => by cases h) fun _ => ?_
  repeat refine awpS_seq ?_
  refine awpS_last ?_
  repeat' (first | simp only [go_sem, hb, hw, rows_nil, Ret_eq Try.results67] | fail)
  repeat refine awpS_seq ?_
  refine awpS_cond true (by simp only [go_sem, Ret_eq Try.results67]) (fun _ => ?_) fun h => by cases h
  repeat refine awpS_seq ?_
  refine awpS_last ?_
  repeat' (first | simp only [go_sem, hb, hw, rows_nil, Ret_eq Try.results67] | fail)
  repeat refine awpS_seq ?_
  refine awpS_last ?_
  repeat' (first | simp only [go_sem, hb, hw, rows_nil, Ret_eq Try.results67] | fail)
  repeat refine awpS_seq ?_
  refine awpS_block ?_
  refine awpS_for cuts.length (fun k => True) (fun k => [(64, .v (.int .i64 k))]) (fun k => (13, ⟨73, 2, [.agg [.v (.int .i64 w), .ref 73 k]]⟩) :: (73, ⟨22, 1, refsC (manyOf cuts) k⟩) :: ownsW 23 k cuts) [6, 13, 62, 63] [6] _
    (Weak.adoptAgg (ob := 13) (id := 73) (S := 1) (e := 22) (So := 2) (eo := 73) [.v (.int .i64 w)] [] [(6, .adr 6 0 0), (13, .adr 13 0 0), (62, .lst (rows .i16 cuts)), (63, .v (.int .i64 cuts.length)), (64, .v (.int .i64 0))] [(6, ⟨73, 2, [.agg [.v (.int .i64 0), .v (.slice none 0 0)]]⟩)]
      (by decide) (by decide) (by simp only [go_sem, Ret_eq Try.results67]) (by rfl) (by simp only [go_sem, Ret_eq Try.results67]) (by rfl) (by simp only [go_sem, Ret_eq Try.results67]) rfl rfl) trivial ?_ ?_ ?_
  · simp only [go_sem, Ret_eq Try.results67]
  · simp only [go_sem, Heaps_ownsW, refsC_zero, Ret_eq Try.results67]
    exact fun i hi => absurd hi (Nat.not_lt_zero i)
  · intro k s hk _ hs
    simp only [go_sem, Heaps_ownsW, Ret_eq Try.results67] at hs
    have hco := hs.2.2.1.2.2
    repeat refine awpS_seq ?_
    by_cases hka : k < cuts.length
    · refine awpS_last ?_
      repeat' (first | simp only [go_sem, hs, Ret_eq Try.results67] | simp (disch := omega) only [arith, IntKind.bits, capMax, fill_len, elt_fill] | fail)
      repeat refine awpS_seq ?_
      refine awpS_last ?_
      repeat' (first | simp only [go_sem, hs, Ret_eq Try.results67] | fail)
      repeat refine awpS_seq ?_
      refine awpS_block ?_
      repeat refine awpS_seq ?_
      refine awpS_last ?_
      repeat' (first | simp only [go_sem, hs, Ret_eq Try.results67] | simp (disch := omega) only [arith, IntKind.bits, capMax, fill_len, elt_fill] | fail)
      have hcl2 := (hrow _ (getD_mem (d := []) hka)).1
      have hcn := cloneRow_own (cuts.getD k []) _ hcl2 (by omega) hm
      generalize hrk : cuts.getD k [] = row at *
      refine awpS_mono (N := fun s2 => s2.n = 144 ∧ Slots s2 [(6, .adr 6 0 0), (13, .adr 13 0 0), (62, .lst (rows .i16 cuts)), (63, .v (.int .i64 cuts.length)), (64, .v (.int .i64 k))] ∧ Heaps s2 ((6, ⟨73, 2, [.agg [.v (.int .i64 0), .v (.slice none 0 0)]]⟩) :: (13, ⟨73, 2, [.agg [.v (.int .i64 w), .ref 73 (k + 1)]]⟩) :: (73, ⟨22, 1, refsC (manyOf cuts) k ++ [.ref 71 (manyOf cuts)]⟩) :: (71, ⟨23, 1, ints .i16 row⟩) :: ownsW 23 k cuts)) ?_ fun s2 hs2 => ?_
      · refine awpS_draw (id := 15) (.one false 2 (.two 0 3 (.two 1 3 (.only 3 (.only 4 (.only 5 (.one false 6 (.only 7 .done))))) (.two 1 4 (.only 4 (.only 5 (.one false 6 (.only 7 .done)))) (.only 1 (.only 5 (.one false 6 (.only 7 .done)))))) (.two 0 4 (.two 1 4 (.only 4 (.only 5 (.one false 6 (.only 7 .done)))) (.only 1 (.only 5 (.one false 6 (.only 7 .done))))) (.only 0 (.only 1 (.only 5 (.one false 6 (.only 7 .done)))))))) mixed (by decide +kernel) (by decide +kernel) (by decide +kernel) ?_
        repeat' (first | simp only [go_sem, hs, refsC_length, refsC_kills, kills_app, List.length_append, List.length_cons, List.length_nil, Ret_eq Try.results67] | simp (disch := omega) only [arith, IntKind.bits, capMax, fill_len, elt_fill] | (refine schKI_two ?_ ?_) | (refine opCallI_ownGv (by simp only [go_sem, hs, refsC_length, refsC_kills, kills_app, List.length_append, List.length_cons, List.length_nil, Ret_eq Try.results67]; first | done | rfl) (hcn) ?_; rintro _ _ ⟨rfl, rfl⟩) | fail)
        all_goals
          rw [Heaps_ownsW]
          intro i hi
          have := hco i hi
          simp only [go_sem, hs, base3_ne, this, Ret_eq Try.results67]
      · simp only [go_sem, Heaps_ownsW, Ret_eq Try.results67] at hs2
        have hco2 := hs2.2.2.2.2.2.2
        refine awpS_last ?_
        repeat' (first | simp only [go_sem, hs2, Ret_eq Try.results67] | simp (disch := omega) only [arith, IntKind.bits, capMax, fill_len, elt_fill] | fail)
        refine AgainW.weak (k + 1) (Weak.moveRef (ob := 73) (base := 3000) (m := k) (i0 := 71) (So := 1) (len := manyOf cuts) (eo := 22) (R := []) (fun i => ⟨23, 1, ints .i16 (cuts.getD i [])⟩) ⟨23, 1, ints .i16 row⟩
          [(6, .adr 6 0 0), (13, .adr 13 0 0), (62, .lst (rows .i16 cuts)), (63, .v (.int .i64 cuts.length)), (64, .v (.int .i64 ((k + 1 : Nat) : Int)))]
          [(6, ⟨73, 2, [.agg [.v (.int .i64 0), .v (.slice none 0 0)]]⟩), (13, ⟨73, 2, [.agg [.v (.int .i64 w), .ref 73 (k + 1)]]⟩)]
          (by decide) (by decide) (by simp only [go_sem, hs2, Ret_eq Try.results67]) (by rfl) (by simp only [go_sem, hs2, Ret_eq Try.results67]) (by rfl) (by rfl) (by decide) (by simp only [go_sem, hs2, Ret_eq Try.results67]; rfl) rfl
          (fun i hi => by
            have := hco2 i hi
            simp only [go_sem, hs2, this, hi, Ret_eq Try.results67]) (fun i _ => ints_noRefs) (by simp only [go_sem, hs2, Ret_eq Try.results67]) ints_noRefs) (by show cuts.length - (k + 1) < cuts.length - k; omega) ⟨by omega, trivial⟩ ?_
        simp only [go_sem, Heaps_ownsW, hs, hs2, false_and, base3_ne', List.append_nil, Ret_eq Try.results67]
        refine ⟨by rw [← List.range_succ]; rfl, fun i hi => ?_⟩
        rw [if_neg (by omega)]
        by_cases q : i < k
        · rw [if_pos (by omega), show 3000 + i - 3000 = i by omega]
        · rw [if_neg (by omega), if_pos (by omega), show i = k by omega, hrk]
    · obtain rfl : k = cuts.length := by omega
      refine awpS_last ?_
      repeat' (first | simp only [go_sem, hs, Ret_eq Try.results67] | simp (disch := omega) only [arith, IntKind.bits, capMax, fill_len, elt_fill] | fail)
      repeat refine awpS_seq ?_
      refine awpS_last ?_
      repeat' (first | simp only [go_sem, hs, Ret_eq Try.results67] | fail)
      repeat refine awpS_seq ?_
      refine awpS_last ?_
      repeat' (first | simp only [go_sem, hs, Ret_eq Try.results67] | fail)
      refine awpS_last ?_
      repeat' (first | simp only [go_sem, hs, Ret_eq Try.results67] | fail)
      refine RetM_calc Try.results67 (giveB (ob := 73) (n := cuts.length) (len := manyOf cuts) (C := cuts) (eo := 22) (ei := 23) (eb := 73) (W := w) (by decide) (by decide) (by simp only [go_sem, hs, Ret_eq Try.results67]) (by simp only [go_sem, hs, Ret_eq Try.results67]) (by simp only [go_sem, hs, Ret_eq Try.results67]) (by simp only [go_sem, hs, Ret_eq Try.results67]; rfl) (fun i hi => by
        have := hco i hi
        simp only [go_sem, hs, base3_ne, this, Ret_eq Try.results67])) (ownB 22 23 cuts.length (manyOf cuts) cuts) (ds := [.agg [.v (.int .i64 w), .ref 2000 cuts.length], .v (.int .i64 0)]) ?_ ?_ ⟨rfl, rfl⟩
      · simp only [go_sem, resDs, resD, pickT, Ret_eq Try.results67]
      · exact fun i o h => by
          show (if i = 6 then _ else ownB 22 23 cuts.length (manyOf cuts) cuts i) = some o
          rw [if_neg (by rintro rfl; unfold ownB at h; rw [if_neg (by decide), if_neg (by omega)] at h; cases h)]
          exact h
end Go.Proofs.Ytpkampecmlpfmaa.T

end
section
set_option linter.unusedSimpArgs false
set_option linter.unusedVariables false
/- The number that stands at a place, in order, plainly. -/
namespace Go.Proofs.Ytpkampecmlpfmaa.T
open Go Go.VL Go.Proofs
theorem sortI_rises (l : List Int) : Rises (sortI l) := fun i hi => by
  rw [sortI_length] at hi
  exact sortI_mono (by omega) hi
def belowN (l : List Int) (x : Int) : Nat := l.countP fun y => decide (y < x)
def sameN (l : List Int) (x : Int) : Nat := l.countP fun y => decide (y = x)
theorem below_cell (l : List Int) (x : Int) : belowN l x = cellOf (sortI l) (x - 1) := by
  unfold belowN cellOf
  rw [(sortI_perm l).countP_eq]
  refine List.countP_congr fun y _ => ?_
  simp only [decide_eq_true_eq]
  omega
theorem same_cell (l : List Int) (x : Int) : belowN l x + sameN l x = cellOf (sortI l) x := by
  unfold belowN sameN cellOf
  rw [(sortI_perm l).countP_eq]
  induction l with
  | nil => rfl
  | cons y l ih =>
    simp only [List.countP_cons]
    by_cases h1 : y < x
    · have h2 : ¬ y = x := by omega
      have h3 : y ≤ x := by omega
      simp only [h1, h2, h3, decide_true, decide_false, if_true, Bool.false_eq_true, if_false]; omega
    · by_cases h2 : y = x
      · have h3 : y ≤ x := by omega
        simp only [h1, h2, h3, decide_true, decide_false, if_true, Bool.false_eq_true, if_false, Int.lt_irrefl, Int.le_refl] at *; omega
      · have h3 : ¬ y ≤ x := by omega
        simp only [h1, h2, h3, decide_true, decide_false, if_true, Bool.false_eq_true, if_false]; omega
def atOk (l : List Int) (p : Nat) (x : Int) : Prop := belowN l x ≤ p ∧ p < belowN l x + sameN l x
instance (l : List Int) (p : Nat) (x : Int) : Decidable (atOk l p x) := by unfold atOk; infer_instance
theorem at_eq {l : List Int} {p : Nat} {x : Int} (hp : p < l.length) (h : atOk l p x) : x = (sortI l).getD p 0 := by
  unfold atOk at h
  rw [same_cell, below_cell] at h
  have hl := sortI_length l
  have h1 := cellOf_spec (sortI_rises l) x p (by omega)
  have h2 := cellOf_spec (sortI_rises l) (x - 1) p (by omega)
  have h3 := h1.2 h.2
  have h4 : ¬ (sortI l).getD p 0 ≤ x - 1 := fun z => by have := h2.1 z; omega
  omega
theorem at_ok {l : List Int} {p : Nat} (hp : p < l.length) : (sortI l).getD p 0 ∈ l ∧ atOk l p ((sortI l).getD p 0) := by
  have hl := sortI_length l
  refine ⟨(sortI_perm l).mem_iff.1 (getD_mem (by omega)), ?_⟩
  unfold atOk
  rw [same_cell, below_cell]
  have h1 := cellOf_spec (sortI_rises l) ((sortI l).getD p 0) p (by omega)
  have h2 := cellOf_spec (sortI_rises l) ((sortI l).getD p 0 - 1) p (by omega)
  refine ⟨?_, h1.1 (Int.le_refl _)⟩
  have : ¬ p < cellOf (sortI l) ((sortI l).getD p 0 - 1) := fun z => by have := h2.2 z; omega
  omega
theorem belowN_snoc {l : List Int} {x : Int} {k : Nat} (h : k < l.length) : belowN (l.take (k + 1)) x = belowN (l.take k) x + if l.getD k 0 < x then 1 else 0 := by
  unfold belowN
  rw [take_snoc (d := (0 : Int)) h, List.countP_append]
  simp
theorem sameN_snoc {l : List Int} {x : Int} {k : Nat} (h : k < l.length) : sameN (l.take (k + 1)) x = sameN (l.take k) x + if l.getD k 0 = x then 1 else 0 := by
  unfold sameN
  rw [take_snoc (d := (0 : Int)) h, List.countP_append]
  simp
end Go.Proofs.Ytpkampecmlpfmaa.T

end
section
set_option linter.unusedSimpArgs false
set_option linter.unusedVariables false
/- The document's cuts, walked. -/
namespace Go.Proofs.Ytpkampecmlpfmaa.T
open Go Go.VL Go.Proofs
set_option maxRecDepth 100000
set_option maxHeartbeats 4000000

theorem refAt_fun (l : List Int) (p : Nat) (hp : p < l.length) (hl : l.length ≤ 60000) : Fun Try.prog 155 [.lst (ints .i16 l), .v (.int .i64 p)] fun r => r = .v (.int .i16 ((sortI l).getD p 0)) := by
  refine Fun.of_awpI Try.func155 rfl cal155 Try.ntmps155 (by simp) fun hwf => ?_
  simp only [D.wfs, D.wf, ints_length, ints_wfs, rows_length, rows_wfs, capMax, and_true, true_and] at hwf
  repeat' (first | simp only [go_sem, Ret_eq Try.results155] | fail)
  refine awpI_for l.length (fun k => ∀ i, i < k → ¬ atOk l p (l.getD i 0)) (fun k => [(13, .v (.int .i64 k))]) (fun _ => []) [0, 1, 11, 12] [] _ (Weak.refl _) (fun i hi => absurd hi (Nat.not_lt_zero i)) ?_ ?_ ?_
  · simp only [go_sem, Ret_eq Try.results155]
  · simp only [go_sem, Ret_eq Try.results155]
  · intro k s hk hQ hs
    simp only [go_sem, Ret_eq Try.results155] at hs
    by_cases hka : k < l.length
    · generalize hx : l.getD k 0 = x at *
      repeat' (first | simp only [go_sem, hs, hx, Ret_eq Try.results155] | simp (disch := omega) only [arith, IntKind.bits, capMax, fill_len, elt_fill] | fail)
      refine awpI_for l.length (fun j => True) (fun j => [(7, .v (.int .i64 (belowN (l.take j) x : Nat))), (8, .v (.int .i64 (sameN (l.take j) x : Nat))), (19, .v (.int .i64 j))]) (fun _ => []) [0, 1, 6, 11, 12, 13, 17, 18] [] _ (Weak.refl _) trivial ?_ ?_ ?_
      · simp only [go_sem, hs, List.take_zero, belowN, sameN, List.countP_nil, Ret_eq Try.results155]
        all_goals first | done | exact ⟨rfl, rfl⟩
      · simp only [go_sem, Ret_eq Try.results155]
      · intro j s2 hj _ hs2
        simp only [go_sem, hs, Ret_eq Try.results155] at hs2
        have hb1 : belowN (l.take j) x ≤ j := by
          have := List.countP_le_length (p := fun y => decide (y < x)) (l := l.take j)
          rw [List.length_take] at this; unfold belowN; omega
        have hb2 : sameN (l.take j) x ≤ j := by
          have := List.countP_le_length (p := fun y => decide (y = x)) (l := l.take j)
          rw [List.length_take] at this; unfold sameN; omega
        by_cases hja : j < l.length
        · have e1 := belowN_snoc (x := x) hja
          have e2 := sameN_snoc (x := x) hja
          by_cases q1 : l.getD j 0 < x
          · have q2 : ¬ l.getD j 0 = x := by omega
            rw [if_pos q1] at e1
            rw [if_neg q2] at e2
            repeat' (first | simp only [go_sem, hs, hs2, e1, e2, Nat.add_zero, Ret_eq Try.results155] | simp (disch := omega) only [arith, IntKind.bits, capMax, fill_len, elt_fill] | (refine Again.up (by omega) ?_ ?_) | fail)
            all_goals skip
          · by_cases q2 : l.getD j 0 = x
            · rw [if_neg q1] at e1
              rw [if_pos q2] at e2
              repeat' (first | simp only [go_sem, hs, hs2, e1, e2, Nat.add_zero, Ret_eq Try.results155] | simp (disch := omega) only [arith, IntKind.bits, capMax, fill_len, elt_fill] | (refine Again.up (by omega) ?_ ?_) | fail)
              all_goals skip
            · rw [if_neg q1] at e1
              rw [if_neg q2] at e2
              repeat' (first | simp only [go_sem, hs, hs2, e1, e2, Nat.add_zero, Ret_eq Try.results155] | simp (disch := omega) only [arith, IntKind.bits, capMax, fill_len, elt_fill] | (refine Again.up (by omega) ?_ ?_) | fail)
              all_goals skip
        · obtain rfl : j = l.length := by omega
          rw [List.take_length] at hs2 hb1 hb2
          by_cases ho : atOk l p x
          · have he := at_eq hp ho
            obtain ⟨o1, o2⟩ := ho
            repeat' (first | simp only [go_sem, hs, hs2, Ret_eq Try.results155] | simp (disch := omega) only [arith, IntKind.bits, capMax, fill_len, elt_fill] | fail)
            all_goals first | done | rw [← he] | omega
          · have hq : ∀ i, i < k + 1 → ¬ atOk l p (l.getD i 0) := fun i hi => by
              by_cases z : i = k
              · rw [z, hx]; exact ho
              · exact hQ i (by omega)
            unfold atOk at ho
            by_cases o1 : belowN l x ≤ p
            · have o2 : ¬ p < belowN l x + sameN l x := fun z => ho ⟨o1, z⟩
              repeat' (first | simp only [go_sem, hs, hs2, Ret_eq Try.results155] | simp (disch := omega) only [arith, IntKind.bits, capMax, fill_len, elt_fill] | (refine Again.up (by omega) ?_ ?_) | fail)
              all_goals first | done | exact hq | omega
            · repeat' (first | simp only [go_sem, hs, hs2, Ret_eq Try.results155] | simp (disch := omega) only [arith, IntKind.bits, capMax, fill_len, elt_fill] | (refine Again.up (by omega) ?_ ?_) | fail)
              all_goals first | done | exact hq | omega
    · obtain rfl : k = l.length := by omega
      obtain ⟨h1, h2⟩ := at_ok hp
      obtain ⟨i, hi, e⟩ := List.mem_iff_getElem.1 h1
      refine absurd ?_ (hQ i hi)
      rw [show l.getD i 0 = (sortI l).getD p 0 by rw [← e]; simp [List.getD, hi]]
      exact h2

theorem refRankCuts_fun (l : List Int) (cells : Int) (hI : I16s l) (hl : l.length ≤ 60000) : Fun Try.prog 127 [.lst (ints .i16 l), .v (.int .i64 cells)] fun r => r = .tup [.lst (ints .i16 (rkOut l cells)), .v (.int .i64 (rkE l cells))] := by
  by_cases g1 : l.length ≤ 4096
  · by_cases g2 : 1 ≤ cells
    · by_cases g3 : cells ≤ 16
      · obtain ⟨n, rfl⟩ := Int.eq_ofNat_of_zero_le (show 0 ≤ cells by omega)
        refine Fun.of_awpI Try.func127 rfl cal127 Try.ntmps127 (by simp) fun hwf => ?_
        simp only [D.wfs, D.wf, ints_length, ints_wfs, rows_length, rows_wfs, capMax, and_true, true_and] at hwf
        repeat' (first | simp only [go_sem, Ret_eq Try.results127] | simp (disch := omega) only [arith, IntKind.bits, capMax, fill_len, elt_fill] | fail)
        refine awpI_for l.length (fun k => (l.take k).any oddB = false) (fun k => [(21, .v (.int .i64 k))]) (fun _ => []) [0, 1, 19, 20] [] _ (Weak.refl _) (by simp) ?_ ?_ ?_
        · simp only [go_sem, Ret_eq Try.results127]
        · simp only [go_sem, Ret_eq Try.results127]
        · intro k s hk hQ hs
          simp only [go_sem, Ret_eq Try.results127] at hs
          by_cases hka : k < l.length
          · have hx := hI.getD k
            by_cases q : l.getD k 0 = -32768
            · have hE : rkE l (n : Int) = 1 := by
                have hany : l.any oddB = true := List.any_eq_true.2 ⟨_, getD_mem hka, by rw [q]; rfl⟩
                unfold rkE
                rw [if_neg (by omega), if_pos (.inr hany)]
              rw [hE, show rkOut l (n : Int) = [] from if_neg (by rw [hE]; decide)]
              repeat' (first | simp only [go_sem, hs, q, beq_self_eq_true, ints_nil, Ret_eq Try.results127] | simp (disch := omega) only [arith, IntKind.bits, capMax, fill_len, elt_fill] | fail)
              all_goals rfl
            · have qb : (l.getD k 0 == -32768) = false := beq_eq_false_iff_ne.2 q
              repeat' (first | simp only [go_sem, hs, qb, Ret_eq Try.results127] | simp (disch := omega) only [arith, IntKind.bits, capMax, fill_len, elt_fill] | (refine Again.up (by omega) ?_ ?_) | fail)
              rw [take_snoc (d := (0 : Int)) hka, List.any_append, hQ]
              simp [oddB]
              all_goals first | done | (simp only [List.getD] at *; omega)
          · obtain rfl : k = l.length := by omega
            rw [List.take_length] at hQ
            by_cases g4 : l.length = 0
            · have hE : rkE l (n : Int) = 5 := by
                unfold rkE
                rw [if_neg (by omega), if_neg (fun z => z.elim (fun y => y ⟨by omega, by omega⟩) (fun y => by rw [hQ] at y; cases y)), if_pos g4]
              rw [hE, show rkOut l (n : Int) = [] from if_neg (by rw [hE]; decide)]
              have g4b : ((l.length : Int) == 0) = true := beq_iff_eq.2 (by omega)
              repeat' (first | simp only [go_sem, hs, g4b, ints_nil, Ret_eq Try.results127] | simp (disch := omega) only [arith, IntKind.bits, capMax, fill_len, elt_fill] | fail)
              all_goals first | rfl | omega
            · have hE : rkE l (n : Int) = 0 := rkE_zero.2 ⟨g1, ⟨g2, g3⟩, hQ, by omega⟩
              rw [hE, show rkOut l (n : Int) = cutsL l n by unfold rkOut; rw [if_pos hE, Int.toNat_natCast]]
              have g4b : ((l.length : Int) == 0) = false := beq_eq_false_iff_ne.2 (by omega)
              have hcl := cutsL_length (l := l) (n := n)
              repeat' (first | simp only [go_sem, hs, g4b, Ret_eq Try.results127] | simp (disch := omega) only [arith, IntKind.bits, capMax, fill_len, elt_fill] | fail)
              refine awpI_for (n - 1) (fun j => True) (fun j => [(8, .ref 46 j), (9, .v (.int .i64 ((j + 1 : Nat) : Int)))]) (fun j => [(46, ⟨23, 1, ints .i16 ((cutsL l n).take j)⟩)]) [0, 1] [] _ (Weak.adopt (j := 8) 46 23 1 (by simp only [go_sem, hs, Ret_eq Try.results127]) (by simp only [go_sem, hs, Ret_eq Try.results127]) (by decide)) trivial ?_ ?_ ?_
              · simp only [go_sem, hs, Ret_eq Try.results127]
                all_goals first | done | rfl
              · simp only [go_sem, List.take_zero, ints_nil, Ret_eq Try.results127]
              · intro j s2 hj _ hs2
                simp only [go_sem, hs, Ret_eq Try.results127] at hs2
                by_cases hja : j < n - 1
                · have hid := cutsL_idx (l := l) hja (by omega)
                  have hat := refAt_fun l ((j + 1) * l.length / n) hid hl
                  rw [← cutsL_at hja] at hat
                  have em : ((j + 1 : Nat) : Int) * (l.length : Int) = (((j + 1) * l.length : Nat) : Int) := (Int.natCast_mul _ _).symm
                  have hjm : (j + 1) * l.length ≤ 16 * 4096 := Nat.mul_le_mul (by omega) g1
                  have hdv : (((j + 1) * l.length : Nat) : Int) / (n : Int) = (((j + 1) * l.length / n : Nat) : Int) := (Int.natCast_ediv _ _).symm
                  have hpp : (j + 1) * l.length / n ≤ (j + 1) * l.length := Nat.div_le_self _ _
                  have hwr : ∀ pp : Nat, pp ≤ 65536 → IntKind.i64.wrap (pp : Int) = (pp : Int) := fun pp _ => IntWalk.i64_in _ (by omega)
                  have hwr := hwr ((j + 1) * l.length / n) (by omega)
                  have e := take_snoc (a := cutsL l n) (d := (0 : Int)) (k := j) (by omega)
                  have htk : ((cutsL l n).take j).length = j := by rw [List.length_take]; omega
                  generalize (j + 1) * l.length / n = pp at *
                  generalize (j + 1) * l.length = mm at *
                  repeat' (first | simp only [go_sem, hs, hs2, em, hdv, hwr, e, htk, List.length_append, List.length_cons, List.length_nil, Ret_eq Try.results127] | simp (disch := omega) only [arith, IntKind.bits, capMax, fill_len, elt_fill] | (refine Again.up (by omega) ?_ ?_) | (refine opCallI_rd (by simp only [go_sem, hs, hs2, em, hdv, hwr, e, htk, List.length_append, List.length_cons, List.length_nil, Ret_eq Try.results127]; first | done | rfl) (hat) (by rintro _ rfl; rfl) ?_; rintro _ rfl) | fail)
                  all_goals skip
                · obtain rfl : j = n - 1 := by omega
                  have hta : (cutsL l n).take (n - 1) = cutsL l n := List.take_of_length_le (by omega)
                  repeat' (first | simp only [go_sem, hs, hs2, hta, hcl, Ret_eq Try.results127] | simp (disch := omega) only [arith, IntKind.bits, capMax, fill_len, elt_fill] | fail)
                  all_goals skip
      · have hE : rkE l cells = 1 := by unfold rkE; rw [if_neg (by omega), if_pos (.inl fun z => g3 z.2)]
        rw [hE, show rkOut l cells = [] from if_neg (by rw [hE]; decide)]
        refine Fun.of_awpI Try.func127 rfl cal127 Try.ntmps127 (by simp) fun hwf => ?_
        simp only [D.wfs, D.wf, ints_length, ints_wfs, rows_length, rows_wfs, capMax, and_true, true_and] at hwf
        repeat' (first | simp only [go_sem, ints_nil, Ret_eq Try.results127] | simp (disch := omega) only [arith, IntKind.bits, capMax, fill_len, elt_fill] | fail)
        all_goals rfl
    · have hE : rkE l cells = 1 := by unfold rkE; rw [if_neg (by omega), if_pos (.inl fun z => g2 z.1)]
      rw [hE, show rkOut l cells = [] from if_neg (by rw [hE]; decide)]
      refine Fun.of_awpI Try.func127 rfl cal127 Try.ntmps127 (by simp) fun hwf => ?_
      simp only [D.wfs, D.wf, ints_length, ints_wfs, rows_length, rows_wfs, capMax, and_true, true_and] at hwf
      repeat' (first | simp only [go_sem, ints_nil, Ret_eq Try.results127] | simp (disch := omega) only [arith, IntKind.bits, capMax, fill_len, elt_fill] | fail)
      all_goals rfl
  · have hE : rkE l cells = 3 := by unfold rkE; rw [if_pos (by omega)]
    rw [hE, show rkOut l cells = [] from if_neg (by rw [hE]; decide)]
    refine Fun.of_awpI Try.func127 rfl cal127 Try.ntmps127 (by simp) fun hwf => ?_
    simp only [D.wfs, D.wf, ints_length, ints_wfs, rows_length, rows_wfs, capMax, and_true, true_and] at hwf
    repeat' (first | simp only [go_sem, ints_nil, Ret_eq Try.results127] | simp (disch := omega) only [arith, IntKind.bits, capMax, fill_len, elt_fill] | fail)
    all_goals rfl
end Go.Proofs.Ytpkampecmlpfmaa.T

end
section
set_option linter.unusedSimpArgs false
set_option linter.unusedVariables false
/- Ways, plainly. -/
namespace Go.Proofs.Ytpkampecmlpfmaa.T
open Go Go.VL Go.Proofs
end Go.Proofs.Ytpkampecmlpfmaa.T

end
section
set_option linter.unusedSimpArgs false
set_option linter.unusedVariables false
/- Vectors turned, plainly. -/
namespace Go.Proofs.Ytpkampecmlpfmaa.T
open Go Go.VL Go.Proofs
-- how far apart
-- cut
end Go.Proofs.Ytpkampecmlpfmaa.T

end
section
set_option linter.unusedSimpArgs false
set_option linter.unusedVariables false
/- The document's ways and turned vectors, walked. -/
namespace Go.Proofs.Ytpkampecmlpfmaa.T
open Go Go.VL Go.Proofs
set_option maxRecDepth 100000
set_option maxHeartbeats 4000000
/-- A list of digits. -/
def dl (f : Nat → Nat) (n : Nat) : List Int := (List.range n).map fun i => (f i : Int)
theorem dl_length {f : Nat → Nat} {n : Nat} : (dl f n).length = n := by simp [dl]
theorem dl_succ {f : Nat → Nat} {n : Nat} : dl f n ++ [(f n : Int)] = dl f (n + 1) := by simp [dl, List.range_succ]
theorem dl_getD {f : Nat → Nat} {n i : Nat} (h : i < n) : (dl f n).getD i 0 = f i := getD_map_range h
theorem div_pow_succ (w k : Nat) : w / 4 ^ k / 4 = w / 4 ^ (k + 1) := by rw [Nat.div_div_eq_div_mul, Nat.pow_succ]

theorem may_fun (a : Int) : Fun Try.prog 125 [.v (.int .i64 a)] fun r => r = .v (.bool (decide (wayErr a = 0))) := by
  refine Fun.of_awpI Try.func125 rfl cal125 Try.ntmps125 (by simp) fun hwf => ?_
  simp only [D.wfs, D.wf, ints_length, ints_wfs, rows_length, rows_wfs, capMax, and_true, true_and] at hwf
  by_cases h : wayErr a = 0
  · obtain ⟨h1, h2⟩ := wayErr_zero h
    unfold maxTwist at h2
    repeat' (first | simp only [go_sem, h, Ret_eq Try.results125] | simp (disch := omega) only [arith, IntKind.bits, capMax, fill_len, elt_fill] | fail)
  · have h' : ¬ (0 ≤ a ∧ a ≤ maxTwist) := fun q => h (way_even q)
    unfold maxTwist at h'
    rw [decide_eq_false h]
    repeat' (first | simp only [go_sem, Ret_eq Try.results125] | (with_reducible refine condI_dec (fun hq hqb => ?_) (fun hq hqb => ?_) <;> simp only [KP_mk, hqb]) | fail)
    rw [decide_eq_false (by omega)]

theorem digits_fun (w : Nat) (hw : w < 2 ^ 62) : FunO Try.prog 154 [.v (.int .i64 w)] fun r o => r = .ref 0 31 ∧ o = some ⟨3, 1, ints .i64 (dl (dg w) 31)⟩ := by
  refine FunO.of_awpI Try.func154 rfl cal154 Try.ntmps154 (by simp) fun hwf => ?_
  simp only [D.wfs, D.wf, ints_length, ints_wfs, rows_length, rows_wfs, capMax, and_true, true_and] at hwf
  repeat' (first | simp only [go_sem, Ret_eq Try.results154] | fail)
  refine awpI_for 31 (fun k => True) (fun k => [(0, .v (.int .i64 ((w / 4 ^ k : Nat) : Int))), (3, .ref 10 k), (4, .v (.int .i64 k))]) (fun k => [(10, ⟨3, 1, ints .i64 (dl (dg w) k)⟩)]) [] [] _ (Weak.adopt (j := 3) 10 3 1 (by simp only [go_sem, Ret_eq Try.results154]) (by simp only [go_sem, Ret_eq Try.results154]) (by decide)) trivial ?_ ?_ ?_
  · simp only [go_sem, Ret_eq Try.results154]
    simp
  · simp only [go_sem, Ret_eq Try.results154]
    rfl
  · intro k s hk _ hs
    simp only [go_sem, Ret_eq Try.results154] at hs
    have hl := dl_length (f := dg w) (n := k)
    have hle : w / 4 ^ k ≤ w := Nat.div_le_self _ _
    have e1 : ((w / 4 ^ k : Nat) : Int) % 4 = (dg w k : Nat) := rfl
    have e2 : ((w / 4 ^ k : Nat) : Int) / 4 = ((w / 4 ^ (k + 1) : Nat) : Int) := by rw [← div_pow_succ]; rfl
    have e3 := dl_succ (f := dg w) (n := k)
    have hd := dg_lt w k
    have hl2 := dl_length (f := dg w) (n := k + 1)
    have hle2 : w / 4 ^ (k + 1) ≤ w := Nat.div_le_self _ _
    generalize w / 4 ^ k = u at *
    generalize hu' : w / 4 ^ (k + 1) = u' at *
    generalize dg w k = d at *
    by_cases hka : k < 31
    · repeat' (first | simp only [go_sem, hs, e1, e2, e3, hl, Ret_eq Try.results154] | simp (disch := omega) only [arith, IntKind.bits, capMax, fill_len, elt_fill] | (refine Again.up (by omega) ?_ ?_) | fail)
      exact ⟨by rw [hu'], by rw [hl2]⟩
    · obtain rfl : k = 31 := by omega
      repeat' (first | simp only [go_sem, hs, Ret_eq Try.results154] | refine RetO_calc Try.results154 ?_ | fail)
end Go.Proofs.Ytpkampecmlpfmaa.T

end
section
set_option linter.unusedSimpArgs false
set_option linter.unusedVariables false
/- A vector of its own. -/
namespace Go.Proofs.Ytpkampecmlpfmaa.T
open Go Go.VL Go.Proofs
set_option maxRecDepth 100000

theorem copy16_fun (v : List Int) (h : v.length ≤ 65536) : FunO Try.prog 105 [.lst (ints .i16 v)] fun r o => r = .ref 0 v.length ∧ o = some ⟨23, 1, ints .i16 v⟩ := by
  refine FunO.of_awpI Try.func105 rfl cal105 Try.ntmps105 (by simp) fun hwf => ?_
  simp only [D.wfs, D.wf, ints_length, ints_wfs, rows_length, rows_wfs, capMax, and_true, true_and] at hwf
  repeat' (first | simp only [go_sem, Ret_eq Try.results105] | simp (disch := omega) only [arith, IntKind.bits, capMax, fill_len, elt_fill] | refine RetO_calc Try.results105 ?_ | fail)
end Go.Proofs.Ytpkampecmlpfmaa.T

end
section
set_option linter.unusedSimpArgs false
set_option linter.unusedVariables false
/- The document's turned vectors, walked. -/
namespace Go.Proofs.Ytpkampecmlpfmaa.T
open Go Go.VL Go.Proofs
set_option maxRecDepth 100000
set_option maxHeartbeats 4000000
def rotS (L : List Int) (k : Nat) (p q : Int) : List Int := (L.set (2 * k) p).set (2 * k + 1) q
theorem rotS_length {L : List Int} {k : Nat} {p q : Int} : (rotS L k p q).length = L.length := by simp [rotS]
theorem rotS_x {L : List Int} {k : Nat} {p q : Int} (h : 2 * k + 1 < L.length) : (rotS L k p q).getD (2 * k) 0 = p := by
  unfold rotS; rw [getD_set (by simp; omega), if_neg (by omega), getD_set (by omega), if_pos rfl]
theorem rotS_y {L : List Int} {k : Nat} {p q : Int} (h : 2 * k + 1 < L.length) : (rotS L k p q).getD (2 * k + 1) 0 = q := by
  unfold rotS; rw [getD_set (by simp; omega), if_pos rfl]
theorem rotS_setx {L : List Int} {k : Nat} {p q p' : Int} : (rotS L k p q).set (2 * k) p' = rotS L k p' q := by
  unfold rotS; rw [List.set_comm _ _ (by omega : 2 * k + 1 ≠ 2 * k), List.set_set]
theorem rotS_sety {L : List Int} {k : Nat} {p q q' : Int} : (rotS L k p q).set (2 * k + 1) q' = rotS L k p q' := by
  unfold rotS; rw [List.set_set]
theorem rotS_same {v : List Int} {w k : Nat} (h : 2 * k + 1 < v.length) : rotS (outK v w k) k (v.getD (2 * k) 0) (v.getD (2 * k + 1) 0) = outK v w k := by
  refine ext_getD (d := 0) rotS_length fun i hi => ?_
  rw [rotS_length, outK_length] at hi
  unfold rotS
  obtain ⟨g1, g2⟩ := outK_here (w := w) h
  rw [getD_set (by simp [outK_length]; omega), getD_set (by rw [outK_length]; omega)]
  by_cases h1 : i = 2 * k + 1
  · subst h1; rw [if_pos rfl, g2]
  · rw [if_neg h1]
    by_cases h2 : i = 2 * k
    · subst h2; rw [if_pos rfl, g1]
    · rw [if_neg h2]
theorem rot_zero (x y : Int) : rx 0 x y = x ∧ ry 0 x y = y := by simp [rx, ry, cs, sn]
theorem rot_step {j : Nat} (h : j < 3) (x y : Int) : rx (j + 1) x y = - ry j x y ∧ ry (j + 1) x y = rx j x y := by
  have : j = 0 ∨ j = 1 ∨ j = 2 := by omega
  rcases this with rfl | rfl | rfl <;> simp [rx, ry, cs, sn]

theorem refTurn_own (v : List Int) (w : Int) (hv : I16s v) : FunO Try.prog 126 [.lst (ints .i16 v), .v (.int .i64 w)] fun r o =>
    (turnErr v w ≠ 0 ∧ r = .tup [.v (.slice none 0 0), .v (.int .i64 (turnErr v w))] ∧ o = none) ∨
    (turnErr v w = 0 ∧ r = .tup [.ref 0 v.length, .v (.int .i64 0)] ∧ o = some ⟨23, 1, ints .i16 (turnL v w.toNat)⟩) := by
  refine FunO.of_awpI Try.func126 rfl cal126 Try.ntmps126 (by simp) fun hwf => ?_
  simp only [D.wfs, D.wf, ints_length, ints_wfs, rows_length, rows_wfs, capMax, and_true, true_and] at hwf
  by_cases hok : vecErr v = 0 ∧ 0 ≤ w ∧ w ≤ maxTwist
  · obtain ⟨q0, q1, q2⟩ := hok
    obtain ⟨q3, q4, q5⟩ := vecOk_iff.1 (vecErr_zero.1 q0)
    have hE : turnErr v w = 0 := turnErr_iff.2 ⟨q0, q1, q2⟩
    have hW := way_even ⟨q1, q2⟩
    have hrange := vecOk_getD hv (vecErr_zero.1 q0)
    obtain ⟨w, rfl⟩ : ∃ n : Nat, w = n := ⟨w.toNat, by omega⟩
    have hw62 : w < 2 ^ 62 := by unfold maxTwist at q2; omega
    clear q5
    have hdl := dl_length (f := dg w) (n := 31)
    repeat' (first | simp only [go_sem, q0, hW, Ret_eq Try.results126] | (refine opCallI_rd (by simp only [go_sem, q0, hW, Ret_eq Try.results126]; first | done | rfl) (refVecCheck_fun v) (by rintro _ rfl; rfl) ?_; rintro _ rfl) | (refine opCallI_rd (by simp only [go_sem, q0, hW, Ret_eq Try.results126]; first | done | rfl) (may_fun w) (by rintro _ rfl; rfl) ?_; rintro _ rfl) | (refine opCallI_ownGv (by simp only [go_sem, q0, hW, Ret_eq Try.results126]; first | done | rfl) (copy16_fun v (by omega)) ?_; rintro _ _ ⟨rfl, rfl⟩) | (refine opCallI_ownGv (by simp only [go_sem, q0, hW, Ret_eq Try.results126]; first | done | rfl) (digits_fun w hw62) ?_; rintro _ _ ⟨rfl, rfl⟩) | fail)
    refine awpI_for 31 (fun k => True) (fun k => [(23, .v (.int .i64 k))]) (fun k => [(19, ⟨23, 1, ints .i16 (outK v w k)⟩)]) [0, 6, 21, 22] [21] _ (Weak.refl _) trivial ?_ ?_ ?_
    · simp only [go_sem, Ret_eq Try.results126]
    · simp only [go_sem, Ret_eq Try.results126]
      rw [outK_zero]
    · intro k s hk hQ hs
      simp only [go_sem, Ret_eq Try.results126] at hs
      by_cases hka : k < 31
      · have e1 := dl_getD (f := dg w) hka
        by_cases hkb : 2 * k + 1 < v.length
        · have hlen : (outK v w k).length = v.length := outK_length
          have hd := dg_lt w k
          have e5 : rotS (outK v w k) k (rx (dg w k) (v.getD (2 * k) 0) (v.getD (2 * k + 1) 0)) (ry (dg w k) (v.getD (2 * k) 0) (v.getD (2 * k + 1) 0)) = outK v w (k + 1) := outK_succ (w := w) hkb hka
          have t1 : (2 * (k : Int)).toNat = 2 * k := by omega
          have t2 : (2 * (k : Int) + 1).toNat = 2 * k + 1 := by omega
          have e6 := rotS_same (w := w) hkb
          have hrot := fun j (hj : j < 4) => rot_range hj (hrange (2 * k)) (hrange (2 * k + 1))
          generalize hL : outK v w k = L at *
          generalize dg w k = d at *
          generalize v.getD (2 * k) 0 = x at *
          generalize v.getD (2 * k + 1) 0 = y at *
          repeat' (first | simp only [go_sem, hs, e1, hdl, Ret_eq Try.results126] | simp (disch := omega) only [arith, IntKind.bits, capMax, fill_len, elt_fill] | fail)
          refine awpI_for d (fun k => True) (fun j => [(35, .v (.int .i64 j))]) (fun j => [(19, ⟨23, 1, ints .i16 (rotS L k (rx j x y) (ry j x y))⟩)]) [0, 6, 7, 21, 22, 23, 34] [21] _ (Weak.refl _) trivial ?_ ?_ ?_
          · simp only [go_sem, Ret_eq Try.results126]
          · have z1 := (rot_zero x y).1
            have z2 := (rot_zero x y).2
            simp only [go_sem, hs, z1, z2, e6, Ret_eq Try.results126]
          · intro j s2 hj _ hs2
            simp only [go_sem, hs, Ret_eq Try.results126] at hs2
            obtain ⟨r1, r2⟩ := hrot j (by omega)
            have hlj : (rotS L k (rx j x y) (ry j x y)).length = v.length := by rw [rotS_length, hlen]
            have gx : (rotS L k (rx j x y) (ry j x y)).getD (2 * k) 0 = rx j x y := rotS_x (by omega)
            have gy : (rotS L k (rx j x y) (ry j x y)).getD (2 * k + 1) 0 = ry j x y := rotS_y (by omega)
            by_cases hja : j < d
            · obtain ⟨n1, n2⟩ := rot_step (j := j) (by omega) x y
              have hlj2 : (rotS L k (-(ry j x y)) (ry j x y)).length = v.length := by rw [rotS_length, hlen]
              repeat' (first | simp only [go_sem, hs, hs2, gx, gy, rotS_setx, rotS_sety, t1, t2, n1, n2, Int.zero_sub, Ret_eq Try.results126] | simp (disch := omega) only [arith, IntKind.bits, capMax, fill_len, elt_fill] | (refine Again.up (by omega) ?_ ?_) | fail)
            · obtain rfl : j = d := by omega
              rw [e5] at hs2
              repeat' (first | simp only [go_sem, hs, hs2, Ret_eq Try.results126] | simp (disch := omega) only [arith, IntKind.bits, capMax, fill_len, elt_fill] | (refine Again.up (by omega) ?_ ?_) | fail)
        · repeat' (first | simp only [go_sem, hs, e1, hdl, Ret_eq Try.results126] | simp (disch := omega) only [arith, IntKind.bits, capMax, fill_len, elt_fill] | refine RetO_calc Try.results126 ?_ | fail)
          rw [outK_end (.inr hkb)]
          exact .inr ⟨hE, rfl⟩
      · obtain rfl : k = 31 := by omega
        rw [outK_end (.inl rfl)] at hs
        repeat' (first | simp only [go_sem, hs, Int.cast_ofNat_Int, Ret_eq Try.results126] | simp (disch := omega) only [arith, IntKind.bits, capMax, fill_len, elt_fill] | refine RetO_calc Try.results126 ?_ | fail)
        exact .inr hE
  · have hE := turnErr_bad hok
    rw [hE]
    by_cases hv0 : vecErr v = 0
    · have hw0 : wayErr w = 1 := way_odd (fun h => hok ⟨hv0, h⟩)
      repeat' (first | simp only [go_sem, hw0, Ret_eq Try.results126] | simp (disch := omega) only [arith, IntKind.bits, capMax, fill_len, elt_fill] | refine RetO_calc Try.results126 ?_ | (refine opCallI_rd (by simp only [go_sem, hw0, Ret_eq Try.results126]; first | done | rfl) (refVecCheck_fun v) (by rintro _ rfl; rfl) ?_; rintro _ rfl) | (refine opCallI_rd (by simp only [go_sem, hw0, Ret_eq Try.results126]; first | done | rfl) (may_fun w) (by rintro _ rfl; rfl) ?_; rintro _ rfl) | fail)
      exact .inl (by decide)
    · repeat' (first | simp only [go_sem, Ret_eq Try.results126] | simp (disch := omega) only [arith, IntKind.bits, capMax, fill_len, elt_fill] | refine RetO_calc Try.results126 ?_ | (refine opCallI_rd (by simp only [go_sem, Ret_eq Try.results126]; first | done | rfl) (refVecCheck_fun v) (by rintro _ rfl; rfl) ?_; rintro _ rfl) | fail)
      exact .inl (by decide)
theorem refTurn_fun (v : List Int) (w : Int) (hv : I16s v) : Fun Try.prog 126 [.lst (ints .i16 v), .v (.int .i64 w)] fun r => r = .tup [.lst (ints .i16 (turnOut v w)), .v (.int .i64 (turnErr v w))] := by
  refine (refTurn_own v w hv).toFun ?_
  rintro r o (⟨h1, rfl, rfl⟩ | ⟨h1, rfl, rfl⟩)
  · obtain ⟨e1, e2⟩ := turnErr_one h1
    rw [e1, e2]; rfl
  · rw [turnOut_ok (turnErr_iff.1 h1), h1]
    have hl := turnL_length (v := v) (w := w.toNat)
    have ht : (turnL v w.toNat).take v.length = turnL v w.toNat := List.take_of_length_le (by omega)
    simp only [ints_nrms, ints_width1, D.frz, D.frzs, D.noRef, D.noRefs, D.nrm, D.nrms, nilV, ints_length, Nat.le_refl, ints_take, ints_noRefs, Bool.and_self, Bool.false_eq_true, if_true, if_false, and_self, hl, ht]
end Go.Proofs.Ytpkampecmlpfmaa.T

end
section
set_option linter.unusedSimpArgs false
set_option linter.unusedVariables false
/- The document's codes and boxes, walked. -/
namespace Go.Proofs.Ytpkampecmlpfmaa.T
open Go Go.VL Go.Proofs
set_option maxRecDepth 100000
set_option maxHeartbeats 4000000
theorem cutsErr_bad {c : List Int} {k : Nat} (hk : k < c.length) (h : c.getD k 0 < -32767 ∨ (0 < k ∧ c.getD k 0 < c.getD (k - 1) 0)) : cutsErr c = 1 := by
  refine cutsErr_one fun ok => ?_
  have h1 := ok.2.1.le (i := 0) (j := k) (by omega) hk
  have h2 := ok.2.2 (by omega)
  rcases h with h | ⟨h3, h⟩
  · omega
  · have := ok.2.1.le (i := k - 1) (j := k) (by omega) hk
    omega
theorem cutsErr_all {c : List Int} (hl : c.length ≤ 15) (h : ∀ i, i < c.length → -32767 ≤ c.getD i 0 ∧ (0 < i → c.getD (i - 1) 0 ≤ c.getD i 0)) : cutsErr c = 0 :=
  cutsErr_zero.2 ⟨hl, fun i hi => (h (i + 1) hi).2 (by omega), fun h0 => (h 0 h0).1⟩

theorem refCutsCheck_fun (c : List Int) (hc : I16s c) : Fun Try.prog 149 [.lst (ints .i16 c)] fun r => r = .v (.int .i64 (cutsErr c)) := by
  refine Fun.of_awpI Try.func149 rfl cal149 Try.ntmps149 (by simp) fun hwf => ?_
  simp only [D.wfs, D.wf, ints_length, ints_wfs, rows_length, rows_wfs, capMax, and_true, true_and] at hwf
  by_cases hl : c.length ≤ 15
  · repeat' (first | simp only [go_sem, Ret_eq Try.results149] | simp (disch := omega) only [arith, IntKind.bits, capMax, fill_len, elt_fill] | fail)
    refine awpI_for c.length (fun k => ∀ i, i < k → -32767 ≤ c.getD i 0 ∧ (0 < i → c.getD (i - 1) 0 ≤ c.getD i 0)) (fun k => [(10, .v (.int .i64 k))]) (fun _ => []) [0, 8, 9] [] _ (Weak.refl _) (fun i hi => by omega) ?_ ?_ ?_
    · simp only [go_sem, Ret_eq Try.results149]
    · simp only [go_sem, Ret_eq Try.results149]
    · intro k s hk hQ hs
      simp only [go_sem, Ret_eq Try.results149] at hs
      by_cases hka : k < c.length
      · have b1 := hc.getD k
        have t1 : ((k : Int) - 1).toNat = k - 1 := by omega
        have bad := cutsErr_bad hka
        repeat' (first | simp only [go_sem, hs, t1, Ret_eq Try.results149] | simp (disch := omega) only [arith, IntKind.bits, capMax, fill_len, elt_fill] | (with_reducible refine condI_beq (fun hq hqb => ?_) (fun hq hqb => ?_) <;> simp only [KP_mk, hqb]) | (with_reducible refine condI_dec (fun hq hqb => ?_) (fun hq hqb => ?_) <;> simp only [KP_mk, hqb]) | (refine Again.up (by omega) ?_ ?_) | fail)
        all_goals first
          | (rw [bad (by omega)]; done)
          | (intro i hi
             by_cases hik : i = k
             · subst hik; omega
             · exact hQ i (by omega))
      · obtain rfl : k = c.length := by omega
        repeat' (first | simp only [go_sem, hs, Ret_eq Try.results149] | simp (disch := omega) only [arith, IntKind.bits, capMax, fill_len, elt_fill] | fail)
        rw [cutsErr_all hl hQ]
  · rw [cutsErr_one fun q => hl q.1]
    repeat' (first | simp only [go_sem, Ret_eq Try.results149] | simp (disch := omega) only [arith, IntKind.bits, capMax, fill_len, elt_fill] | fail)
end Go.Proofs.Ytpkampecmlpfmaa.T

end
section
set_option linter.unusedSimpArgs false
set_option linter.unusedVariables false
/- The document's books, codes and boxes, walked. -/
namespace Go.Proofs.Ytpkampecmlpfmaa.T
open Go Go.VL Go.Proofs
set_option maxRecDepth 100000
set_option maxHeartbeats 4000000
theorem book_any {w : Int} {cuts : List (List Int)} {k : Nat} (hk : k < cuts.length) (h : ¬ ((cuts.getD k []).length = manyOf cuts ∧ cutsErr (cuts.getD k []) = 0)) : bookErr w cuts = 1 := by
  refine bookErr_one fun ok => h ?_
  exact book_rows (bookErr_zero.2 ok) _ (getD_mem hk)
theorem book_all {w : Int} {cuts : List (List Int)} (h1 : 1 ≤ cuts.length) (h2 : cuts.length ≤ 64) (h3 : wayErr w = 0) (h : ∀ i, i < cuts.length → (cuts.getD i []).length = manyOf cuts ∧ cutsErr (cuts.getD i []) = 0) : bookErr w cuts = 0 := by
  refine bookErr_zero.2 ⟨h1, h2, h3, ?_⟩
  rw [List.any_eq_false]
  intro c hc
  obtain ⟨i, hi, rfl⟩ := List.mem_iff_getElem.1 hc
  have := h i hi
  rw [show cuts.getD i [] = cuts[i] by simp [List.getD, hi]] at this
  unfold oddCut
  simp [this.1, this.2]

theorem refBookCheck_fun (w : Int) (cuts : List (List Int)) (hr : I16r cuts) : Fun Try.prog 110 [.agg [.v (.int .i64 w), .lst (rows .i16 cuts)]] fun r => r = .v (.int .i64 (bookErr w cuts)) := by
  refine Fun.of_awpI Try.func110 rfl cal110 Try.ntmps110 (by simp) fun hwf => ?_
  simp only [D.wfs, D.wf, ints_length, ints_wfs, rows_length, rows_wfs, capMax, and_true, true_and] at hwf
  by_cases h3 : wayErr w = 0
  · by_cases h12 : 1 ≤ cuts.length ∧ cuts.length ≤ 64
    · obtain ⟨h1, h2⟩ := h12
      repeat' (first | simp only [go_sem, h3, Ret_eq Try.results110] | simp (disch := omega) only [arith, IntKind.bits, capMax, fill_len, elt_fill] | (refine opCallI_rd (by simp only [go_sem, h3, Ret_eq Try.results110]; first | done | rfl) (may_fun w) (by rintro _ rfl; rfl) ?_; rintro _ rfl) | fail)
      refine awpI_for cuts.length (fun k => ∀ i, i < k → (cuts.getD i []).length = manyOf cuts ∧ cutsErr (cuts.getD i []) = 0) (fun k => [(24, .v (.int .i64 k))]) (fun _ => []) [1, 22, 23] [1] _ (Weak.refl _) (fun i hi => by omega) ?_ ?_ ?_
      · simp only [go_sem, Ret_eq Try.results110]
      · simp only [go_sem, Ret_eq Try.results110]
      · intro k s hk hQ hs
        simp only [go_sem, Ret_eq Try.results110] at hs
        by_cases hka : k < cuts.length
        · have hm : (cuts.getD 0 []).length = manyOf cuts := rfl
          have bad := book_any (w := w) hka
          by_cases q1 : cutsErr (cuts.getD k []) = 0
          · by_cases q2 : (cuts.getD k []).length = manyOf cuts
            · repeat' (first | simp only [go_sem, hs, q1, hm, q2, Ret_eq Try.results110] | simp (disch := omega) only [arith, IntKind.bits, capMax, fill_len, elt_fill] | (refine Again.up (by omega) ?_ ?_) | (refine opCallI_rd (by simp only [go_sem, hs, q1, hm, q2, Ret_eq Try.results110]; first | done | rfl) (refCutsCheck_fun (cuts.getD k []) (hr.getD k)) (by rintro _ rfl; rfl) ?_; rintro _ rfl) | fail)
              all_goals (intro i hi
                         by_cases hik : i = k
                         · subst hik; exact ⟨q2, q1⟩
                         · exact hQ i (by omega))
            · rw [bad (fun q => q2 q.1)]
              repeat' (first | simp only [go_sem, hs, q1, hm, Ret_eq Try.results110] | simp (disch := omega) only [arith, IntKind.bits, capMax, fill_len, elt_fill] | (refine opCallI_rd (by simp only [go_sem, hs, q1, hm, Ret_eq Try.results110]; first | done | rfl) (refCutsCheck_fun (cuts.getD k []) (hr.getD k)) (by rintro _ rfl; rfl) ?_; rintro _ rfl) | fail)
          · rw [bad (fun q => q1 q.2)]
            repeat' (first | simp only [go_sem, hs, hm, Ret_eq Try.results110] | simp (disch := omega) only [arith, IntKind.bits, capMax, fill_len, elt_fill] | (refine opCallI_rd (by simp only [go_sem, hs, hm, Ret_eq Try.results110]; first | done | rfl) (refCutsCheck_fun (cuts.getD k []) (hr.getD k)) (by rintro _ rfl; rfl) ?_; rintro _ rfl) | fail)
        · obtain rfl : k = cuts.length := by omega
          repeat' (first | simp only [go_sem, hs, Ret_eq Try.results110] | simp (disch := omega) only [arith, IntKind.bits, capMax, fill_len, elt_fill] | fail)
          rw [book_all h1 h2 h3 hQ]
    · rw [bookErr_one (fun q => h12 ⟨q.1, q.2.1⟩)]
      repeat' (first | simp only [go_sem, h3, Ret_eq Try.results110] | simp (disch := omega) only [arith, IntKind.bits, capMax, fill_len, elt_fill] | (with_reducible refine condI_dec (fun hq hqb => ?_) (fun hq hqb => ?_) <;> simp only [KP_mk, hqb]) | (refine opCallI_rd (by simp only [go_sem, h3, Ret_eq Try.results110]; first | done | rfl) (may_fun w) (by rintro _ rfl; rfl) ?_; rintro _ rfl) | fail)
      all_goals (exfalso; omega)
  · rw [bookErr_one (fun q => h3 q.2.2.1)]
    have h4 := wayErr_one h3
    repeat' (first | simp only [go_sem, h4, Ret_eq Try.results110] | (refine opCallI_rd (by simp only [go_sem, h4, Ret_eq Try.results110]; first | done | rfl) (may_fun w) (by rintro _ rfl; rfl) ?_; rintro _ rfl) | fail)
end Go.Proofs.Ytpkampecmlpfmaa.T

end
section
set_option linter.unusedSimpArgs false
set_option linter.unusedVariables false
/- A book of its own. -/
namespace Go.Proofs.Ytpkampecmlpfmaa.T
open Go Go.VL Go.Proofs
set_option maxRecDepth 100000
set_option maxHeartbeats 4000000

theorem copyBook_fun (w : Int) (cuts : List (List Int)) (hl : cuts.length ≤ 100) (hc : ∀ c ∈ cuts, c.length ≤ 100) : Fun Try.prog 66 [.agg [.v (.int .i64 w), .lst (rows .i16 cuts)]] fun r => r = .agg [.v (.int .i64 w), .lst (rows .i16 cuts)] := by
  refine Fun.of_awpI Try.func66 rfl cal66 Try.ntmps66 (by simp) fun hwf => ?_
  simp only [D.wfs, D.wf, ints_length, ints_wfs, rows_length, rows_wfs, capMax, and_true, true_and] at hwf
  repeat' (first | simp only [go_sem, Ret_eq Try.results66] | fail)
  refine awpI_for cuts.length (fun k => True) (fun k => [(12, .v (.int .i64 k))]) (fun k => match k with | 0 => [(3, ⟨73, 2, [.agg [.v (.int .i64 w), .v (.slice none 0 0)]]⟩)] | k + 1 => [(3, ⟨73, 2, [.agg [.v (.int .i64 w), .ref 21 (k + 1)]]⟩), (21, ⟨22, 1, rows .i16 (cuts.take (k + 1))⟩)]) [2, 3, 10, 11] [2] _ (Weak.refl _) trivial ?_ ?_ ?_
  · simp only [go_sem, Ret_eq Try.results66]
  · simp only [go_sem, Ret_eq Try.results66]
  · intro k s hk _ hs
    by_cases hka : k < cuts.length
    · have e := take_snoc (a := cuts) (d := []) hka
      have hcl := hc _ (getD_mem (d := []) hka)
      cases k with
      | zero =>
        simp only [go_sem, Ret_eq Try.results66] at hs
        repeat' (first | simp only [go_sem, hs, Ret_eq Try.results66] | simp (disch := omega) only [arith, IntKind.bits, capMax, fill_len, elt_fill] | (refine awpI_draw2 (id := 5) (.one false 2 (.fam 0 [3, 4] [19, 20] [18] (.fam 1 [3, 4] [19, 20] [18] (.only 3 (.only 4 (.only 5 (.one false 6 (.only 7 .done)))))))) mixed (by decide +kernel) (by decide +kernel) ?_) | (refine Again.up (by omega) ?_ ?_) | fail)
        exact ⟨rfl, by rw [show List.take 1 cuts = _ from e]; rfl⟩
      | succ k =>
        simp only [go_sem, Ret_eq Try.results66] at hs
        have hlt : (cuts.take (k + 1)).length = k + 1 := by rw [List.length_take]; omega
        repeat' (first | simp only [go_sem, hs, e, hlt, List.length_append, Ret_eq Try.results66] | simp (disch := omega) only [arith, IntKind.bits, capMax, fill_len, elt_fill] | (refine awpI_draw2 (id := 5) (.one false 2 (.fam 0 [3, 4] [19, 20] [18] (.fam 1 [3, 4] [19, 20] [18] (.only 3 (.only 4 (.only 5 (.one false 6 (.only 7 .done)))))))) mixed (by decide +kernel) (by decide +kernel) ?_) | (refine Again.up (by omega) ?_ ?_) | fail)
    · obtain rfl : k = cuts.length := by omega
      cases hcu : cuts.length with
      | zero =>
        rw [hcu] at hs
        simp only [go_sem, Ret_eq Try.results66] at hs
        repeat' (first | simp only [go_sem, hs, Ret_eq Try.results66] | fail)
        rw [List.length_eq_zero_iff.1 hcu]; rfl
      | succ k =>
        rw [hcu] at hs
        simp only [go_sem, Ret_eq Try.results66] at hs
        have hta : cuts.take (k + 1) = cuts := List.take_of_length_le (by omega)
        repeat' (first | simp only [go_sem, hs, hta, hcu, Ret_eq Try.results66] | simp (disch := omega) only [arith, IntKind.bits, capMax, fill_len, elt_fill] | fail)
end Go.Proofs.Ytpkampecmlpfmaa.T

end
section
set_option linter.unusedSimpArgs false
set_option linter.unusedVariables false
/- The document's book of a sample, walked. -/
namespace Go.Proofs.Ytpkampecmlpfmaa.T
open Go Go.VL Go.Proofs
set_option maxRecDepth 100000
set_option maxHeartbeats 4000000

theorem refTrain_fun (w : Int) (cuts : List (List Int)) (way : Int) (sample : List (List Int)) (hI : I16r sample) (hc : I16r cuts) : Fun Try.prog 68 [bookD w cuts, .v (.int .i64 way), .lst (rows .i16 sample)] fun r => r = .tup [bookD (trW w cuts way sample) (trC w cuts way sample), .v (.int .i64 (trE w cuts way sample))] := by
  have hbc := refBookCheck_fun w cuts hc
  have hmy := may_fun way
  by_cases hb : bookErr w cuts = 0
  · by_cases hw : wayErr way = 0
    · rw [hb] at hbc
      rw [decide_eq_true hw] at hmy
      obtain ⟨b1, b2, b3, b4⟩ := bookErr_zero.1 hb
      have hrow := book_rows hb
      have hmany := book_many hb
      refine Fun.of_awpI Try.func68 rfl cal68 Try.ntmps68 (by simp) fun hwf => ?_
      simp only [D.wfs, D.wf, ints_length, ints_wfs, rows_length, rows_wfs, capMax, and_true, true_and] at hwf
      repeat' (first | simp only [go_sem, bne_self_eq_false, Ret_eq Try.results68] | (refine opCallI_rd (by simp only [go_sem, bne_self_eq_false, Ret_eq Try.results68]; first | done | rfl) (hbc) (by rintro _ rfl; rfl) ?_; rintro _ rfl) | (refine opCallI_rd (by simp only [go_sem, bne_self_eq_false, Ret_eq Try.results68]; first | done | rfl) (hmy) (by rintro _ rfl; rfl) ?_; rintro _ rfl) | fail)
      refine awpI_for sample.length (fun k => ∀ v ∈ sample.take k, vecErr v = 0 ∧ v.length = cuts.length) (fun k => [(34, .v (.int .i64 k))]) (fun _ => []) [1, 2, 3, 6, 8, 32, 33] [3, 6] _ (Weak.refl _) (by simp) ?_ ?_ ?_
      · simp only [go_sem, Ret_eq Try.results68]
      · simp only [go_sem, Ret_eq Try.results68]
      · intro k s hk hQ hs
        simp only [go_sem, Ret_eq Try.results68] at hs
        by_cases hka : k < sample.length
        · have hv := refVecCheck_fun (sample.getD k [])
          by_cases q1 : vecErr (sample.getD k []) = 0
          · by_cases q2 : (sample.getD k []).length = cuts.length
            · have q2b : (((sample.getD k []).length : Int) != (cuts.length : Int)) = false := by rw [q2]; exact bne_self_eq_false _
              rw [q1] at hv
              repeat' (first | simp only [go_sem, hs, q2b, bne_self_eq_false, Ret_eq Try.results68] | simp (disch := omega) only [arith, IntKind.bits, capMax, fill_len, elt_fill] | (refine Again.up (by omega) ?_ ?_) | (refine opCallI_rd (by simp only [go_sem, hs, q2b, bne_self_eq_false, Ret_eq Try.results68]; first | done | rfl) (hv) (by rintro _ rfl; rfl) ?_; rintro _ rfl) | fail)
              rw [take_snoc (d := ([] : List Int)) hka]
              intro v hvm
              rcases List.mem_append.1 hvm with z | z
              · exact hQ v z
              · rw [List.mem_singleton.1 z]; exact ⟨q1, q2⟩
            · have q2b : (((sample.getD k []).length : Int) != (cuts.length : Int)) = true := by rw [bne, beq_eq_false_iff_ne.2 (by omega)]; rfl
              have ha : sample.any (oddN cuts.length) = true := List.any_eq_true.2 ⟨_, getD_mem hka, by unfold oddN; exact decide_eq_true (.inr q2)⟩
              have hE : trE w cuts way sample = 1 := if_pos (.inr ha)
              rw [hE, show trW w cuts way sample = 0 from if_neg (by rw [hE]; decide), show trC w cuts way sample = [] from if_neg (by rw [hE]; decide)]
              rw [q1] at hv
              repeat' (first | simp only [go_sem, hs, q2b, bne_self_eq_false, rows_nil, Ret_eq Try.results68] | simp (disch := omega) only [arith, IntKind.bits, capMax, fill_len, elt_fill] | (refine opCallI_rd (by simp only [go_sem, hs, q2b, bne_self_eq_false, rows_nil, Ret_eq Try.results68]; first | done | rfl) (hv) (by rintro _ rfl; rfl) ?_; rintro _ rfl) | fail)
              all_goals rfl
          · have q1b : (vecErr (sample.getD k []) != 0) = true := by rw [bne, beq_eq_false_iff_ne.2 q1]; rfl
            have ha : sample.any (oddN cuts.length) = true := List.any_eq_true.2 ⟨_, getD_mem hka, by unfold oddN; exact decide_eq_true (.inl q1)⟩
            have hE : trE w cuts way sample = 1 := if_pos (.inr ha)
            rw [hE, show trW w cuts way sample = 0 from if_neg (by rw [hE]; decide), show trC w cuts way sample = [] from if_neg (by rw [hE]; decide)]
            repeat' (first | simp only [go_sem, hs, q1b, rows_nil, Ret_eq Try.results68] | simp (disch := omega) only [arith, IntKind.bits, capMax, fill_len, elt_fill] | (refine opCallI_rd (by simp only [go_sem, hs, q1b, rows_nil, Ret_eq Try.results68]; first | done | rfl) (hv) (by rintro _ rfl; rfl) ?_; rintro _ rfl) | fail)
            all_goals rfl
        · obtain rfl : k = sample.length := by omega
          rw [List.take_length] at hQ
          have hsok : sampleOk cuts.length sample := hQ
          by_cases hlong : 4096 < sample.length
          · have hE : trE w cuts way sample = 3 := by
              unfold trE
              rw [if_neg, if_pos hlong]
              rintro (q | q)
              · exact q ⟨hb, hw⟩
              · rw [sampleOk_iff.2 hsok] at q; cases q
            rw [hE, show trW w cuts way sample = 0 from if_neg (by rw [hE]; decide), show trC w cuts way sample = [] from if_neg (by rw [hE]; decide)]
            repeat' (first | simp only [go_sem, hs, rows_nil, Ret_eq Try.results68] | simp (disch := omega) only [arith, IntKind.bits, capMax, fill_len, elt_fill] | fail)
            all_goals rfl
          · have hE : trE w cuts way sample = 0 := trE_zero.2 ⟨hb, hw, hsok, by omega⟩
            rw [hE, show trW w cuts way sample = (if sample = [] then w else way) from if_pos hE, show trC w cuts way sample = (if sample = [] then cuts else trCuts cuts.length (manyOf cuts + 1) way sample) from if_pos hE]
            by_cases h0 : sample = []
            · subst h0
              have hcp := copyBook_fun w cuts (by omega) (fun c hc => by have := (hrow c hc).1; omega)
              rw [if_pos rfl, if_pos rfl]
              repeat' (first | simp only [go_sem, hs, Ret_eq Try.results68] | (refine opCallI_gv (by simp only [go_sem, hs, Ret_eq Try.results68]; first | done | rfl) (hcp) ?_; rintro _ rfl) | fail)
              all_goals first | done | rfl | (exfalso; rename ¬ _ => hq; exact hq rfl)
            · have hlen : 1 ≤ sample.length := by
                cases sample with
                | nil => exact absurd rfl h0
                | cons a l => simp
              have hl1b : ((sample.length : Int) == 0) = false := beq_eq_false_iff_ne.2 (by omega)
              rw [if_neg h0, if_neg h0]
              obtain ⟨w1, w2⟩ := wayErr_zero hw
              have hTl : (turnedL way sample).length = sample.length := by simp [turnedL]
              have hCl := trCuts_length (n := cuts.length) (cells := manyOf cuts + 1) (way := way) (sample := sample)
              repeat' (first | simp only [go_sem, hs, hl1b, Ret_eq Try.results68] | simp (disch := omega) only [arith, IntKind.bits, capMax, fill_len, elt_fill] | fail)
              refine awpI_for cuts.length (fun i => True) (fun i => [(61, .v (.int .i64 i))]) (fun i => match i with | 0 => [(11, ⟨73, 2, [.agg [.v (.int .i64 way), .v (.slice none 0 0)]]⟩)] | i + 1 => [(11, ⟨73, 2, [.agg [.v (.int .i64 way), .ref 99 (i + 1)]]⟩), (99, ⟨22, 1, rows .i16 ((trCuts cuts.length (manyOf cuts + 1) way sample).take (i + 1))⟩)]) [1, 2, 3, 6, 11, 60] [3, 6] _ (Weak.refl _) trivial ?_ ?_ ?_
              · simp only [go_sem, hs, Ret_eq Try.results68]
              · simp only [go_sem, hs, Ret_eq Try.results68]
              · intro i s2 hi0 _ hs2
                by_cases hin : i < cuts.length
                · have hll : (colOf (turnedL way sample) i).length = sample.length := by rw [colOf_length, hTl]
                  have hlk : ∀ k, k < sample.length → (colOf (turnedL way sample) i).getD k 0 = ((turnedL way sample).getD k []).getD i 0 := fun k hk => by
                    simp [colOf, List.getD, hTl, hk]
                  have hcI : I16s (colOf (turnedL way sample) i) := fun x hx => by
                    obtain ⟨u, hu, rfl⟩ := List.mem_map.1 hx
                    obtain ⟨v, hv, rfl⟩ := List.mem_map.1 hu
                    exact ((turnL_ok (hI v hv) (vecErr_zero.1 (hsok v hv).1) way.toNat).2).getD i
                  have hrz : rkE (colOf (turnedL way sample) i) ((manyOf cuts + 1 : Nat) : Int) = 0 := rkE_zero.2 ⟨by omega, by omega, col_ok hsok hI hin, by omega⟩
                  have hro : rkOut (colOf (turnedL way sample) i) ((manyOf cuts + 1 : Nat) : Int) = (trCuts cuts.length (manyOf cuts + 1) way sample).getD i [] := by
                    unfold rkOut; rw [if_pos hrz, Int.toNat_natCast, trCuts_at hin]
                  have hrk := refRankCuts_fun (colOf (turnedL way sample) i) ((manyOf cuts + 1 : Nat) : Int) hcI (by omega)
                  rw [hrz, hro] at hrk
                  have hm0 : (cuts.getD 0 []).length = manyOf cuts := rfl
                  have e := take_snoc (a := trCuts cuts.length (manyOf cuts + 1) way sample) (d := ([] : List Int)) (k := i) (by omega)
                  generalize hcol : colOf (turnedL way sample) i = l at *
                  cases i with
                  | zero =>
                    simp only [go_sem, hs, Ret_eq Try.results68] at hs2
                    repeat' (first | simp only [go_sem, hs, hs2, Ret_eq Try.results68] | simp (disch := omega) only [arith, IntKind.bits, capMax, fill_len, elt_fill] | fail)
                    refine awpI_for sample.length (fun k => True) (fun k => [(13, .ref 82 k), (66, .v (.int .i64 k))]) (fun k => [(82, ⟨23, 1, ints .i16 (l.take k)⟩)]) [1, 2, 3, 6, 11, 12, 60, 61, 64, 65] [3, 6, 11] _ (Weak.adopt (j := 13) 82 23 1 (by simp only [go_sem, hs, hs2, Ret_eq Try.results68]) (by simp only [go_sem, hs, hs2, Ret_eq Try.results68]) (by decide)) trivial ?_ ?_ ?_
                    · simp only [go_sem, hs, hs2, Ret_eq Try.results68]
                    · simp only [go_sem, hs, hs2, List.take_zero, ints_nil, Ret_eq Try.results68]
                    · intro k s3 hk _ hs3
                      simp only [go_sem, hs, hs2, Ret_eq Try.results68] at hs3
                      by_cases hkb : k < sample.length
                      · have hvk := hsok _ (getD_mem (d := []) hkb)
                        have htu := refTurn_fun (sample.getD k []) way (hI.getD k)
                        have hgk : (turnedL way sample).getD k [] = turnL (sample.getD k []) way.toNat := by
                          simp [turnedL, List.getD, hkb]
                        rw [turnOut_ok ⟨hvk.1, w1, w2⟩, turnErr_iff.2 ⟨hvk.1, w1, w2⟩, ← hgk] at htu
                        have htl : ((turnedL way sample).getD k []).length = cuts.length := by rw [hgk, turnL_length]; exact hvk.2
                        have hx := hlk k hkb
                        have e2 := take_snoc (a := l) (d := (0 : Int)) (k := k) (by omega)
                        rw [hx] at e2
                        have htk : (l.take k).length = k := by rw [List.length_take]; omega
                        have hIi : ((0 : Nat) : Int) < (cuts.length : Int) := by omega
                        repeat' (first | simp only [go_sem, hs, hs2, hs3, e2, htk, htl, List.length_append, List.length_cons, List.length_nil, Ret_eq Try.results68] | simp (disch := omega) only [arith, IntKind.bits, capMax, fill_len, elt_fill] | (refine Again.up (by omega) ?_ ?_) | (refine opCallI_gv (by simp only [go_sem, hs, hs2, hs3, e2, htk, htl, List.length_append, List.length_cons, List.length_nil, Ret_eq Try.results68]; first | done | rfl) (htu) ?_; rintro _ rfl) | fail)
                        all_goals skip
                      · obtain rfl : k = sample.length := by omega
                        have hlt2 : l.take sample.length = l := List.take_of_length_le (by omega)
                        rw [hlt2] at hs3
                        repeat' (first | simp only [go_sem, hs, hs2, hs3, hlt2, hll, hm0, e, List.length_append, List.length_cons, List.length_nil, Ret_eq Try.results68] | simp (disch := omega) only [arith, IntKind.bits, capMax, fill_len, elt_fill] | (refine Again.up (by omega) ?_ ?_) | (refine opCallI_gv (by simp only [go_sem, hs, hs2, hs3, hlt2, hll, hm0, e, List.length_append, List.length_cons, List.length_nil, Ret_eq Try.results68]; first | done | rfl) (hrk) ?_; rintro _ rfl) | fail)
                        all_goals first | done | rfl | exact ⟨rfl, rfl⟩
                  | succ i =>
                    simp only [go_sem, hs, Ret_eq Try.results68] at hs2
                    have hlt : ((trCuts cuts.length (manyOf cuts + 1) way sample).take (i + 1)).length = i + 1 := by rw [List.length_take]; omega
                    repeat' (first | simp only [go_sem, hs, hs2, Ret_eq Try.results68] | simp (disch := omega) only [arith, IntKind.bits, capMax, fill_len, elt_fill] | fail)
                    refine awpI_for sample.length (fun k => True) (fun k => [(13, .ref 82 k), (66, .v (.int .i64 k))]) (fun k => [(82, ⟨23, 1, ints .i16 (l.take k)⟩)]) [1, 2, 3, 6, 11, 12, 60, 61, 64, 65] [3, 6, 11, 99] _ (Weak.adopt (j := 13) 82 23 1 (by simp only [go_sem, hs, hs2, Ret_eq Try.results68]) (by simp only [go_sem, hs, hs2, Ret_eq Try.results68]) (by decide)) trivial ?_ ?_ ?_
                    · simp only [go_sem, hs, hs2, Ret_eq Try.results68]
                    · simp only [go_sem, hs, hs2, List.take_zero, ints_nil, Ret_eq Try.results68]
                    · intro k s3 hk _ hs3
                      simp only [go_sem, hs, hs2, Ret_eq Try.results68] at hs3
                      by_cases hkb : k < sample.length
                      · have hvk := hsok _ (getD_mem (d := []) hkb)
                        have htu := refTurn_fun (sample.getD k []) way (hI.getD k)
                        have hgk : (turnedL way sample).getD k [] = turnL (sample.getD k []) way.toNat := by
                          simp [turnedL, List.getD, hkb]
                        rw [turnOut_ok ⟨hvk.1, w1, w2⟩, turnErr_iff.2 ⟨hvk.1, w1, w2⟩, ← hgk] at htu
                        have htl : ((turnedL way sample).getD k []).length = cuts.length := by rw [hgk, turnL_length]; exact hvk.2
                        have hx := hlk k hkb
                        have e2 := take_snoc (a := l) (d := (0 : Int)) (k := k) (by omega)
                        rw [hx] at e2
                        have htk : (l.take k).length = k := by rw [List.length_take]; omega
                        have hIi : (((i + 1) : Nat) : Int) < (cuts.length : Int) := by omega
                        repeat' (first | simp only [go_sem, hs, hs2, hs3, e2, htk, htl, List.length_append, List.length_cons, List.length_nil, Ret_eq Try.results68] | simp (disch := omega) only [arith, IntKind.bits, capMax, fill_len, elt_fill] | (refine Again.up (by omega) ?_ ?_) | (refine opCallI_gv (by simp only [go_sem, hs, hs2, hs3, e2, htk, htl, List.length_append, List.length_cons, List.length_nil, Ret_eq Try.results68]; first | done | rfl) (htu) ?_; rintro _ rfl) | fail)
                        all_goals skip
                      · obtain rfl : k = sample.length := by omega
                        have hlt2 : l.take sample.length = l := List.take_of_length_le (by omega)
                        rw [hlt2] at hs3
                        repeat' (first | simp only [go_sem, hs, hs2, hs3, hlt2, hll, hm0, e, hlt, List.length_append, List.length_cons, List.length_nil, Ret_eq Try.results68] | simp (disch := omega) only [arith, IntKind.bits, capMax, fill_len, elt_fill] | (refine Again.up (by omega) ?_ ?_) | (refine opCallI_gv (by simp only [go_sem, hs, hs2, hs3, hlt2, hll, hm0, e, hlt, List.length_append, List.length_cons, List.length_nil, Ret_eq Try.results68]; first | done | rfl) (hrk) ?_; rintro _ rfl) | fail)
                        all_goals skip
                · obtain rfl : i = cuts.length := by omega
                  cases hcu : cuts.length with
                  | zero => omega
                  | succ m =>
                    rw [hcu] at hs2
                    simp only [go_sem, hs, Ret_eq Try.results68] at hs2
                    have hta : (trCuts (m + 1) (manyOf cuts + 1) way sample).take (m + 1) = trCuts (m + 1) (manyOf cuts + 1) way sample := List.take_of_length_le (by rw [hcu] at hCl; omega)
                    rw [hcu] at hCl
                    repeat' (first | simp only [go_sem, hs, hs2, hta, hcu, hCl, Ret_eq Try.results68] | simp (disch := omega) only [arith, IntKind.bits, capMax, fill_len, elt_fill] | fail)
                    all_goals skip
    · have hE : trE w cuts way sample = 1 := if_pos (.inl fun q => hw q.2)
      rw [hE, show trW w cuts way sample = 0 from if_neg (by rw [hE]; decide), show trC w cuts way sample = [] from if_neg (by rw [hE]; decide)]
      rw [decide_eq_false hw] at hmy
      rw [hb] at hbc
      refine Fun.of_awpI Try.func68 rfl cal68 Try.ntmps68 (by simp) fun hwf => ?_
      simp only [D.wfs, D.wf, ints_length, ints_wfs, rows_length, rows_wfs, capMax, and_true, true_and] at hwf
      repeat' (first | simp only [go_sem, bne_self_eq_false, rows_nil, Ret_eq Try.results68] | (refine opCallI_rd (by simp only [go_sem, bne_self_eq_false, rows_nil, Ret_eq Try.results68]; first | done | rfl) (hbc) (by rintro _ rfl; rfl) ?_; rintro _ rfl) | (refine opCallI_rd (by simp only [go_sem, bne_self_eq_false, rows_nil, Ret_eq Try.results68]; first | done | rfl) (hmy) (by rintro _ rfl; rfl) ?_; rintro _ rfl) | fail)
      all_goals rfl
  · have hE : trE w cuts way sample = 1 := if_pos (.inl fun q => hb q.1)
    rw [hE, show trW w cuts way sample = 0 from if_neg (by rw [hE]; decide), show trC w cuts way sample = [] from if_neg (by rw [hE]; decide)]
    have hbb : (bookErr w cuts != 0) = true := by rw [bne, beq_eq_false_iff_ne.2 hb]; rfl
    refine Fun.of_awpI Try.func68 rfl cal68 Try.ntmps68 (by simp) fun hwf => ?_
    simp only [D.wfs, D.wf, ints_length, ints_wfs, rows_length, rows_wfs, capMax, and_true, true_and] at hwf
    repeat' (first | simp only [go_sem, hbb, rows_nil, Ret_eq Try.results68] | (refine opCallI_rd (by simp only [go_sem, hbb, rows_nil, Ret_eq Try.results68]; first | done | rfl) (hbc) (by rintro _ rfl; rfl) ?_; rintro _ rfl) | fail)
    all_goals rfl
end Go.Proofs.Ytpkampecmlpfmaa.T

end
section
set_option linter.unusedSimpArgs false
set_option linter.unusedVariables false
/- Plain books, how long a text is, books told the same; walked. -/
namespace Go.Proofs.Ytpkampecmlpfmaa.T
open Go Go.VL Go.Proofs
set_option maxRecDepth 100000
set_option maxHeartbeats 8000000
theorem any_width : D.any.width = 1 := rfl
theorem setPart_xr {i n : Nat} : setPart .any 0 (.ref i n) = some (.ref i n) := (rfl)

theorem bwithin_fun (n m : Int) : Fun Try.prog 114 [.v (.int .i64 n), .v (.int .i64 m)] fun r => r = .v (.bool (decide (sizesOk n m))) := by
  refine Fun.of_awpI Try.func114 rfl cal114 Try.ntmps114 (by simp) fun hwf => ?_
  simp only [D.wfs, D.wf, ints_length, ints_wfs, rows_length, rows_wfs, capMax, and_true, true_and] at hwf
  by_cases h : sizesOk n m
  · rw [decide_eq_true h]
    obtain ⟨⟨h1, h2⟩, h3, h4⟩ := h
    by_cases q : m < n
    · have e : (if m < n then m else n) = m := if_pos q
      repeat' (first | simp only [go_sem, e, Ret_eq Try.results114] | simp (disch := omega) only [arith, IntKind.bits, capMax, fill_len, elt_fill] | fail)
    · have e : (if m < n then m else n) = n := if_neg q
      repeat' (first | simp only [go_sem, e, Ret_eq Try.results114] | simp (disch := omega) only [arith, IntKind.bits, capMax, fill_len, elt_fill] | fail)
  · rw [decide_eq_false h]
    by_cases q : m < n
    · have e : (if m < n then m else n) = m := if_pos q
      by_cases h1 : 1 ≤ m
      · by_cases h2 : n ≤ 64
        · have h3 : ¬ m ≤ 16 := fun r => h ⟨⟨by omega, h2⟩, h1, r⟩
          repeat' (first | simp only [go_sem, e, Ret_eq Try.results114] | simp (disch := omega) only [arith, IntKind.bits, capMax, fill_len, elt_fill] | fail)
        · repeat' (first | simp only [go_sem, e, Ret_eq Try.results114] | simp (disch := omega) only [arith, IntKind.bits, capMax, fill_len, elt_fill] | fail)
      · repeat' (first | simp only [go_sem, e, Ret_eq Try.results114] | simp (disch := omega) only [arith, IntKind.bits, capMax, fill_len, elt_fill] | fail)
    · have e : (if m < n then m else n) = n := if_neg q
      by_cases h1 : 1 ≤ n
      · by_cases h2 : n ≤ 64
        · have h3 : ¬ m ≤ 16 := fun r => h ⟨⟨h1, h2⟩, by omega, r⟩
          repeat' (first | simp only [go_sem, e, Ret_eq Try.results114] | simp (disch := omega) only [arith, IntKind.bits, capMax, fill_len, elt_fill] | fail)
        · repeat' (first | simp only [go_sem, e, Ret_eq Try.results114] | simp (disch := omega) only [arith, IntKind.bits, capMax, fill_len, elt_fill] | fail)
      · repeat' (first | simp only [go_sem, e, Ret_eq Try.results114] | simp (disch := omega) only [arith, IntKind.bits, capMax, fill_len, elt_fill] | fail)

theorem equalRow_fun (a b : List Int) : Fun Try.prog 117 [.lst (ints .i16 a), .lst (ints .i16 b)] fun r => r = .v (.bool (decide (a = b))) := by
  refine Fun.of_awpI Try.func117 rfl cal117 Try.ntmps117 (by simp) fun hwf => ?_
  simp only [D.wfs, D.wf, ints_length, ints_wfs, rows_length, rows_wfs, capMax, and_true, true_and] at hwf
  repeat' (first | simp only [go_sem, Ret_eq Try.results117] | (with_reducible refine condI_bne (fun hq hqb => ?_) (fun hq hqb => ?_) <;> simp only [KP_mk, hqb]) | fail)
  · rw [decide_eq_false]; rintro rfl; omega
  · have hl : a.length = b.length := by omega
    refine awpI_for a.length (fun k => a.take k = b.take k) (fun k => [(13, .v (.int .i64 k))]) (fun _ => []) [0, 1, 12] [] _ (Weak.refl _) (by simp) ?_ ?_ ?_
    · simp only [go_sem, Ret_eq Try.results117]
    · simp only [go_sem, Ret_eq Try.results117]
    · intro k s hk hQ hs
      simp only [go_sem, Ret_eq Try.results117] at hs
      by_cases hka : k < a.length
      · repeat' (first | simp only [go_sem, hs, Ret_eq Try.results117] | simp (disch := omega) only [arith, IntKind.bits, capMax, fill_len, elt_fill] | (with_reducible refine condI_bne (fun hq hqb => ?_) (fun hq hqb => ?_) <;> simp only [KP_mk, hqb]) | (refine awpI_draw2 (id := 6) (.one false 0 (.one false 1 (.one false 2 (.one false 3 (.one false 4 (.one false 5 (.one false 6 (.one false 7 (.one false 8 .done))))))))) mixed (by decide +kernel) (by decide +kernel) ?_) | (refine Again.up (by omega) ?_ ?_) | fail)
        · rw [decide_eq_false]; rintro rfl; simp_all
        · exact take_eq_snoc hka (by omega) hQ (by assumption)
      · obtain rfl : k = a.length := by omega
        rw [List.take_length, hl, List.take_length] at hQ
        subst hQ
        repeat' (first | simp only [go_sem, hs, Ret_eq Try.results117] | simp (disch := omega) only [arith, IntKind.bits, capMax, fill_len, elt_fill] | fail)

theorem equalRows_fun (a b : List (List Int)) : Fun Try.prog 116 [.lst (rows .i16 a), .lst (rows .i16 b), .clos (.func 117) []] fun r => r = .v (.bool (decide (a = b))) := by
  refine Fun.of_awpI Try.func116 rfl cal116 Try.ntmps116 (by simp) fun hwf => ?_
  simp only [D.wfs, D.wf, ints_length, ints_wfs, rows_length, rows_wfs, capMax, and_true, true_and] at hwf
  have hlb : b.length ≤ 9223372036854775807 := by have := hwf.2.1; exact this
  have hla : a.length ≤ 9223372036854775807 := by have := hwf.1.1; exact this
  by_cases hl : a.length = b.length
  · repeat' (first | simp only [go_sem, hl, Ret_eq Try.results116] | simp (disch := omega) only [arith, IntKind.bits, capMax, fill_len, elt_fill] | fail)
    refine awpI_for b.length (fun k => a.take k = b.take k) (fun k => [(17, .v (.int .i64 k))]) (fun _ => []) [1, 2, 15, 16] [] _ (Weak.refl _) (by simp) ?_ ?_ ?_
    · simp only [go_sem, Ret_eq Try.results116]
    · simp only [go_sem, Ret_eq Try.results116]
    · intro k s hk hQ hs
      simp only [go_sem, Ret_eq Try.results116] at hs
      by_cases hka : k < b.length
      · have e1 := take_snoc (a := a) (d := ([] : List Int)) (k := k) (by omega)
        have e2 := take_snoc (a := b) (d := ([] : List Int)) hka
        have hs1 := equalRow_fun (a.getD k []) (b.getD k [])
        by_cases hv : a.getD k [] = b.getD k []
        · rw [decide_eq_true hv] at hs1
          repeat' (first | simp only [go_sem, hs, Ret_eq Try.results116] | simp (disch := omega) only [arith, IntKind.bits, capMax, fill_len, elt_fill] | (refine Again.up (by omega) ?_ ?_) | (refine opCallI_rd (by simp only [go_sem, hs, Ret_eq Try.results116]; first | done | rfl) (hs1) (by rintro _ rfl; rfl) ?_; rintro _ rfl) | fail)
          rw [e1, e2, hQ, hv]
        · rw [decide_eq_false hv] at hs1
          have hne : a ≠ b := fun q => hv (by rw [q])
          repeat' (first | simp only [go_sem, hs, decide_eq_false hne, Ret_eq Try.results116] | simp (disch := omega) only [arith, IntKind.bits, capMax, fill_len, elt_fill] | (refine opCallI_rd (by simp only [go_sem, hs, decide_eq_false hne, Ret_eq Try.results116]; first | done | rfl) (hs1) (by rintro _ rfl; rfl) ?_; rintro _ rfl) | fail)
      · obtain rfl : k = b.length := by omega
        have hQ3 : a = b := by
          rw [List.take_length, ← hl, List.take_length] at hQ; exact hQ
        repeat' (first | simp only [go_sem, hs, decide_eq_true hQ3, Ret_eq Try.results116] | simp (disch := omega) only [arith, IntKind.bits, capMax, fill_len, elt_fill] | fail)
  · have hne : a ≠ b := fun q => hl (by rw [q])
    repeat' (first | simp only [go_sem, decide_eq_false hne, Ret_eq Try.results116] | simp (disch := omega) only [arith, IntKind.bits, capMax, fill_len, elt_fill] | fail)

theorem bookSame_fun (w : Int) (c : List (List Int)) (w2 : Int) (c2 : List (List Int)) : Fun Try.prog 62 [bookD w c, bookD w2 c2] fun r => r = .v (.bool (decide (w = w2 ∧ c = c2))) := by
  have h3 := equalRows_fun c c2
  refine Fun.of_awpI Try.func62 rfl cal62 Try.ntmps62 (by simp) fun hwf => ?_
  simp only [D.wfs, D.wf, ints_length, ints_wfs, rows_length, rows_wfs, capMax, and_true, true_and] at hwf
  by_cases g1 : w = w2
  · have b1 : (w == w2) = true := beq_iff_eq.2 g1
    have e : decide (w = w2 ∧ c = c2) = decide (c = c2) := by simp [g1]
    rw [e]
    repeat' (first | simp only [go_sem, b1, Ret_eq Try.results62] | (refine opCallI_rd (by simp only [go_sem, b1, Ret_eq Try.results62]; first | done | rfl) (h3) (by rintro _ rfl; rfl) ?_; rintro _ rfl) | fail)
  · have b1 : (w == w2) = false := beq_eq_false_iff_ne.2 g1
    rw [decide_eq_false (fun q => g1 q.1)]
    repeat' (first | simp only [go_sem, b1, Ret_eq Try.results62] | fail)

theorem plain1_fun (n : Nat) (h : 1 ≤ n ∧ n ≤ 64) : Fun Try.prog 56 [.v (.int .i64 n), .v (.int .i64 1)] fun r => r = .tup [bookD 0 (List.replicate n []), .v (.int .i64 0)] := by
  have hb := bwithin_fun n 1
  have hs0 : sizesOk n 1 := ⟨by omega, by omega⟩
  rw [decide_eq_true hs0] at hb
  refine Fun.of_awpI Try.func56 rfl cal56 Try.ntmps56 (by simp) fun hwf => ?_
  simp only [D.wfs, D.wf, ints_length, ints_wfs, rows_length, rows_wfs, capMax, and_true, true_and] at hwf
  repeat' (first | simp only [go_sem, Ret_eq Try.results56] | simp (disch := omega) only [arith, IntKind.bits, capMax, fill_len, elt_fill] | (refine opCallI_rd (by simp only [go_sem, Ret_eq Try.results56]; first | done | rfl) (hb) (by rintro _ rfl; rfl) ?_; rintro _ rfl) | fail)
  refine awpI_for n (fun k => True) (fun k => [(20, .v (.int .i64 k))]) (fun k => [(15, ⟨22, 1, tab [] n⟩)]) [1, 4, 6, 19] [4, 6] _ (Weak.refl _) trivial ?_ ?_ ?_
  · simp only [go_sem, Ret_eq Try.results56]
  · simp only [go_sem, Int.toNat_natCast, Ret_eq Try.results56]
  · intro k s hk _ hs
    simp only [go_sem, Ret_eq Try.results56] at hs
    by_cases hka : k < n
    · repeat' (first | simp only [go_sem, hs, Ret_eq Try.results56] | simp (disch := omega) only [arith, IntKind.bits, capMax, fill_len, elt_fill] | fail)
      refine awpI_for 0 (fun k => True) (fun j => [(8, .v (.int .i64 1))]) (fun j => []) [1, 4, 6, 7, 19, 20] [4, 6, 15] _ (Weak.refl _) trivial ?_ ?_ ?_
      · simp only [go_sem, hs, Ret_eq Try.results56]
      · simp only [go_sem, hs, Ret_eq Try.results56]
      · intro j s2 hj2 _ hs2
        simp only [go_sem, hs, Ret_eq Try.results56] at hs2
        repeat' (first | simp only [go_sem, hs, hs2, Ret_eq Try.results56] | simp (disch := omega) only [arith, IntKind.bits, capMax, fill_len, elt_fill] | (refine Again.up (by omega) ?_ ?_) | fail)
    · obtain rfl : k = n := by omega
      repeat' (first | simp only [go_sem, hs, List.nil_append, List.length_replicate, List.take_replicate, Nat.min_self, Ret_eq Try.results56] | simp (disch := omega) only [arith, IntKind.bits, capMax, fill_len, elt_fill] | fail)
      all_goals skip
theorem plain_fun (n : Nat) (m : Nat) (h : 1 ≤ n ∧ n ≤ 64) (hm : 2 ≤ m ∧ m ≤ 16) : Fun Try.prog 56 [.v (.int .i64 n), .v (.int .i64 m)] fun r => r = .tup [bookD 0 (List.replicate n (plainRow m)), .v (.int .i64 0)] := by
  have hb := bwithin_fun n m
  have hs0 : sizesOk n m := ⟨by omega, by omega⟩
  rw [decide_eq_true hs0] at hb
  have hrl : (plainRow m).length = m - 1 := by simp [plainRow]
  have hrg : ∀ j, j < m - 1 → (plainRow m).getD j 0 = plainCut m j := fun j hj => plainRow_getD (by omega)
  generalize plainRow m = row at *
  refine Fun.of_awpI Try.func56 rfl cal56 Try.ntmps56 (by simp) fun hwf => ?_
  simp only [D.wfs, D.wf, ints_length, ints_wfs, rows_length, rows_wfs, capMax, and_true, true_and] at hwf
  repeat' (first | simp only [go_sem, Ret_eq Try.results56] | simp (disch := omega) only [arith, IntKind.bits, capMax, fill_len, elt_fill] | (refine opCallI_rd (by simp only [go_sem, Ret_eq Try.results56]; first | done | rfl) (hb) (by rintro _ rfl; rfl) ?_; rintro _ rfl) | fail)
  refine awpI_for n (fun k => True) (fun k => [(20, .v (.int .i64 k))]) (fun k => [(15, ⟨22, 1, tab (List.replicate k row) (n - k)⟩)]) [1, 4, 6, 19] [4, 6] _ (Weak.refl _) trivial ?_ ?_ ?_
  · simp only [go_sem, Ret_eq Try.results56]
  · simp only [go_sem, Int.toNat_natCast, List.replicate_zero, Nat.sub_zero, Ret_eq Try.results56]
  · intro k s hk _ hs
    simp only [go_sem, Ret_eq Try.results56] at hs
    by_cases hka : k < n
    · obtain ⟨q, hq⟩ : ∃ q, n - k = q + 1 := ⟨n - k - 1, by omega⟩
      have hlk : (List.replicate k row).length = k := List.length_replicate
      rw [hq] at hs
      have htg0 := tab_get (A := List.replicate k row) (m := q)
      have hts := tab_set (A := List.replicate k row) (id := 43) (len := 1) (m := q)
      rw [hlk] at htg0 hts
      repeat' (first | simp only [go_sem, hs, Ret_eq Try.results56] | simp (disch := omega) only [arith, IntKind.bits, capMax, fill_len, elt_fill] | fail)
      refine awpI_for (m - 1) (fun j => True) (fun j => [(8, .v (.int .i64 ((j + 1 : Nat) : Int)))])
        (fun j => match j with | 0 => [(15, ⟨22, 1, tab (List.replicate k row) (q + 1)⟩)] | j + 1 => [(15, ⟨22, 1, tabR (List.replicate k row) 43 (j + 1) q⟩), (43, ⟨23, 1, ints .i16 (row.take (j + 1))⟩)]) [1, 4, 6, 7, 19, 20] [4, 6] _ (Weak.refl _) trivial ?_ ?_ ?_
      · simp only [go_sem, hs, Ret_eq Try.results56]
      · simp only [go_sem, hs, Ret_eq Try.results56]
      · intro j s2 hj2 _ hs2
        by_cases hja : j < m - 1
        · have et := take_snoc (a := row) (d := (0 : Int)) (k := j) (by omega)
          rw [hrg j hja] at et
          have hpr := plainCut_range (cells := m) (k := j) (by omega) (by omega)
          have ew : IntKind.i16.wrap (plainCut m j) = plainCut m j := IntWalk.i16_in _ (by omega)
          have hcut : ∀ y : Int, y = ((j : Int) + 1) * 65536 / (m : Int) → IntKind.i16.wrap (IntKind.i64.wrap (IntKind.i64.wrap y - 32768)) = plainCut m j := fun y hy => by
            have e0 : plainCut m j = y - 32768 := by rw [hy]; rfl
            rw [e0] at hpr ew ⊢
            rw [show IntKind.i64.wrap y = y from IntWalk.i64_in _ (by omega), show IntKind.i64.wrap (y - 32768) = y - 32768 from IntWalk.i64_in _ (by omega)]
            exact ew
          cases j with
          | zero =>
            simp only [go_sem, Ret_eq Try.results56] at hs2
            have hc0 := hcut (1 * 65536 / (m : Int)) (by simp)
            repeat' (first | simp only [go_sem, hs, hs2, htg0, hts, List.all_nil, List.all_cons, hc0, Ret_eq Try.results56] | simp (disch := omega) only [arith, IntKind.bits, capMax, fill_len, elt_fill] | (refine awpI_draw2 (id := 10) (.one false 8 (.one false 9 (.one false 10 (.one false 11 (.one false 12 (.one false 13 (.fam 3 [14] [42] [41] (.fam 4 [14] [42] [41] (.one true 2 (.one true 5 (.fam 6 [14] [42] [41] (.fam 7 [14] [42] [41] (.two 0 14 (.two 1 14 (.only 14 (.only 15 (.one false 16 (.only 17 .done)))) (.two 1 15 (.only 15 (.one false 16 (.only 17 .done))) (.one false 1 (.one false 16 (.only 17 .done))))) (.two 0 15 (.two 1 15 (.only 15 (.one false 16 (.only 17 .done))) (.one false 1 (.one false 16 (.only 17 .done)))) (.one false 0 (.one false 1 (.one false 16 (.only 17 .done)))))))))))))))))) mixed (by decide +kernel) (by decide +kernel) ?_) | (refine sch2I_two ?_ ?_) | (refine Again.up (by omega) ?_ ?_) | fail)
            all_goals (refine ⟨rfl, ?_⟩; rw [et]; rfl)
          | succ j =>
            simp only [go_sem, Ret_eq Try.results56] at hs2
            have hrg2 := tabR_get (A := List.replicate k row) (id := 43) (len := j + 1) (m := q)
            have hra := tabA_set (A := List.replicate k row) (id := 43) (len := j + 1 + 1) (m := q)
            have hag := tabA_get (A := List.replicate k row) (m := q)
            rw [hlk] at hrg2 hra hag
            have hc0 := hcut (((j + 1 + 1 : Nat) : Int) * 65536 / (m : Int)) (by push_cast; rfl)
            have htl : (row.take (j + 1)).length = j + 1 := by rw [List.length_take]; omega
            repeat' (first | simp only [go_sem, hs, hs2, hrg2, hra, hag, any_width, setPart_xr, List.all_nil, List.all_cons, hc0, et, htl, List.length_append, List.length_cons, List.length_nil, Ret_eq Try.results56] | simp (disch := omega) only [arith, IntKind.bits, capMax, fill_len, elt_fill] | (refine awpI_draw2 (id := 10) (.one false 8 (.one false 9 (.one false 10 (.one false 11 (.one false 12 (.one false 13 (.fam 3 [14] [42] [41] (.fam 4 [14] [42] [41] (.one true 2 (.one true 5 (.fam 6 [14] [42] [41] (.fam 7 [14] [42] [41] (.two 0 14 (.two 1 14 (.only 14 (.only 15 (.one false 16 (.only 17 .done)))) (.two 1 15 (.only 15 (.one false 16 (.only 17 .done))) (.one false 1 (.one false 16 (.only 17 .done))))) (.two 0 15 (.two 1 15 (.only 15 (.one false 16 (.only 17 .done))) (.one false 1 (.one false 16 (.only 17 .done)))) (.one false 0 (.one false 1 (.one false 16 (.only 17 .done)))))))))))))))))) mixed (by decide +kernel) (by decide +kernel) ?_) | (refine sch2I_two ?_ ?_) | (refine Again.up (by omega) ?_ ?_) | fail)
            all_goals skip
        · obtain rfl : j = m - 1 := by omega
          obtain ⟨p, hp⟩ : ∃ p, m - 1 = p + 1 := ⟨m - 2, by omega⟩
          rw [hp] at hs2
          simp only [go_sem, Ret_eq Try.results56] at hs2
          have htr : row.take (p + 1) = row := List.take_of_length_le (by omega)
          rw [htr] at hs2
          have hfz := tabR_frzs (A := List.replicate k row) (id := 43) (m := q) (l := row)
          rw [hrl, hp, ← List.replicate_succ'] at hfz
          repeat' (first | simp only [go_sem, hs, hs2, Ret_eq Try.results56] | simp (disch := omega) only [arith, IntKind.bits, capMax, fill_len, elt_fill] | fail)
          refine AgainB_frz 43 ⟨23, 1, ints .i16 row⟩ (by simp only [go_sem, hs, hs2, Ret_eq Try.results56]) (by simp only [go_sem, Ret_eq Try.results56]) (by simp only [go_sem, Ret_eq Try.results56]) hka trivial ?_
          have hm' : n - (k + 1) = q := by omega
          simp only [go_sem, hs, hs2, hfz, hm', Ret_eq Try.results56]
    · obtain rfl : k = n := by omega
      rw [Nat.sub_self] at hs
      repeat' (first | simp only [go_sem, hs, tab_end, List.length_replicate, List.take_replicate, Nat.min_self, Ret_eq Try.results56] | simp (disch := omega) only [arith, IntKind.bits, capMax, fill_len, elt_fill] | fail)
      all_goals skip
end Go.Proofs.Ytpkampecmlpfmaa.T

end
section
set_option linter.unusedSimpArgs false
set_option linter.unusedVariables false
/- The chapter's example, walked. -/
namespace Go.Proofs.Ytpkampecmlpfmaa.T
open Go Go.VL Go.Proofs
set_option maxRecDepth 100000
set_option maxHeartbeats 8000000
theorem plainAll_fun (n m : Int) (h : sizesOk n m) : Fun Try.prog 56 [.v (.int .i64 n), .v (.int .i64 m)] fun r => r = .tup [bookD 0 (plainC n m), .v (.int .i64 0)] := by
  obtain ⟨⟨h1, h2⟩, h3, h4⟩ := h
  have e : plainC n m = List.replicate n.toNat (plainRow m) := if_pos ⟨⟨h1, h2⟩, h3, h4⟩
  rw [e]
  obtain ⟨a, rfl⟩ := Int.eq_ofNat_of_zero_le (show 0 ≤ n by omega)
  obtain ⟨b, rfl⟩ := Int.eq_ofNat_of_zero_le (show 0 ≤ m by omega)
  by_cases q : b = 1
  · subst q
    exact plain1_fun a (by omega)
  · exact plain_fun a b (by omega) (by omega)

theorem sameCuts_fun (a b : List Int) : Fun Try.prog 26 [.lst (ints .i16 a), .lst (ints .i16 b)] fun r => r = .v (.bool (decide (a = b))) := by
  refine Fun.of_awpI Try.func26 rfl cal26 Try.ntmps26 (by simp) fun hwf => ?_
  simp only [D.wfs, D.wf, ints_length, ints_wfs, rows_length, rows_wfs, capMax, and_true, true_and] at hwf
  repeat' (first | simp only [go_sem, Ret_eq Try.results26] | (with_reducible refine condI_bne (fun hq hqb => ?_) (fun hq hqb => ?_) <;> simp only [KP_mk, hqb]) | fail)
  · rw [decide_eq_false]; rintro rfl; omega
  · have hl : a.length = b.length := by omega
    refine awpI_for a.length (fun k => a.take k = b.take k) (fun k => [(13, .v (.int .i64 k))]) (fun _ => []) [0, 1, 12] [] _ (Weak.refl _) (by simp) ?_ ?_ ?_
    · simp only [go_sem, Ret_eq Try.results26]
    · simp only [go_sem, Ret_eq Try.results26]
    · intro k s hk hQ hs
      simp only [go_sem, Ret_eq Try.results26] at hs
      by_cases hka : k < a.length
      · repeat' (first | simp only [go_sem, hs, Ret_eq Try.results26] | simp (disch := omega) only [arith, IntKind.bits, capMax, fill_len, elt_fill] | (with_reducible refine condI_bne (fun hq hqb => ?_) (fun hq hqb => ?_) <;> simp only [KP_mk, hqb]) | (refine awpI_draw2 (id := 6) (.one false 0 (.one false 1 (.one false 2 (.one false 3 (.one false 4 (.one false 5 (.one false 6 (.one false 7 (.one false 8 .done))))))))) mixed (by decide +kernel) (by decide +kernel) ?_) | (refine Again.up (by omega) ?_ ?_) | fail)
        · rw [decide_eq_false]; rintro rfl; simp_all
        · exact take_eq_snoc hka (by omega) hQ (by assumption)
      · obtain rfl : k = a.length := by omega
        rw [List.take_length, hl, List.take_length] at hQ
        subst hQ
        repeat' (first | simp only [go_sem, hs, Ret_eq Try.results26] | simp (disch := omega) only [arith, IntKind.bits, capMax, fill_len, elt_fill] | fail)

theorem bookLive_fun : Fun Try.prog 50 [] fun r => r = .v (.bool true) := by
  have h0 := plainAll_fun 1 2 (by decide +kernel)
  rw [show plainC 1 2 = [[0]] by decide +kernel] at h0
  have h1 := sameCuts_fun [0] [0]
  rw [decide_eq_true rfl] at h1
  have h2 := bookSame_fun 0 [[0]] 0 [[0]]
  rw [decide_eq_true ⟨rfl, rfl⟩] at h2
  simp only [bookD, rows_cons, rows_nil, ints_cons, ints_nil] at h0 h1 h2
  refine Fun.of_awpI Try.func50 rfl cal50 Try.ntmps50 (by simp) fun hwf => ?_
  simp only [D.wfs, D.wf, ints_length, ints_wfs, rows_length, rows_wfs, capMax, and_true, true_and] at hwf
  repeat' (first | simp only [go_sem, beq_self_eq_true, Ret_eq Try.results50] | (refine opCallI_gv (by simp only [go_sem, beq_self_eq_true, Ret_eq Try.results50]; first | done | rfl) (h0) ?_; rintro _ rfl) | (refine opCallI_rd (by simp only [go_sem, beq_self_eq_true, Ret_eq Try.results50]; first | done | rfl) (h1) (by rintro _ rfl; rfl) ?_; rintro _ rfl) | (refine opCallI_rd (by simp only [go_sem, beq_self_eq_true, Ret_eq Try.results50]; first | done | rfl) (h2) (by rintro _ rfl; rfl) ?_; rintro _ rfl) | fail)
end Go.Proofs.Ytpkampecmlpfmaa.T

end
section
set_option linter.unusedSimpArgs false
set_option linter.unusedVariables false
/- Books are the same, by the document. -/
namespace Go.Proofs.Ytpkampecmlpfmaa.T
open Go Go.VL Go.Proofs
set_option maxRecDepth 100000
set_option maxHeartbeats 4000000

theorem refBookSame_fun (w : Int) (c : List (List Int)) (w2 : Int) (c2 : List (List Int)) : Fun Try.prog 61 [bookD w c, bookD w2 c2] fun r => r = .v (.bool (decide (w = w2 ∧ c = c2))) := by
  refine Fun.of_awpI Try.func61 rfl cal61 Try.ntmps61 (by simp) fun hwf => ?_
  simp only [D.wfs, D.wf, ints_length, ints_wfs, rows_length, rows_wfs, capMax, and_true, true_and] at hwf
  by_cases g1 : w = w2
  · have b1 : (w == w2) = true := beq_iff_eq.2 g1
    by_cases hl : c.length = c2.length
    · repeat' (first | simp only [go_sem, b1, g1, hl, bne_self_eq_false, Ret_eq Try.results61] | fail)
      refine awpI_for c2.length (fun k => c.take k = c2.take k) (fun k => [(23, .v (.int .i64 k))]) (fun _ => []) [2, 3, 22] [2, 3] _ (Weak.refl _) (by simp) ?_ ?_ ?_
      · simp only [go_sem, Ret_eq Try.results61]
      · simp only [go_sem, Ret_eq Try.results61]
      · intro k s hk hQ hs
        simp only [go_sem, Ret_eq Try.results61] at hs
        by_cases hka : k < c2.length
        · have hka2 : k < c.length := by omega
          have e1 := take_snoc (a := c) (d := ([] : List Int)) hka2
          have e2 := take_snoc (a := c2) (d := ([] : List Int)) hka
          have hs1 := sameCuts_fun (c.getD k []) (c2.getD k [])
          by_cases hv : c.getD k [] = c2.getD k []
          · rw [decide_eq_true hv] at hs1
            repeat' (first | simp only [go_sem, hs, Ret_eq Try.results61] | simp (disch := omega) only [arith, IntKind.bits, capMax, fill_len, elt_fill] | (refine awpI_draw2 (id := 6) (.one false 0 (.one false 1 (.one false 2 (.one false 3 (.one false 4 (.one false 5 (.one false 6 (.one false 7 (.one false 8 (.one false 9 (.only 10 (.one false 11 .done)))))))))))) mixed (by decide +kernel) (by decide +kernel) ?_) | (refine Again.up (by omega) ?_ ?_) | (refine opCallI_rd (by simp only [go_sem, hs, Ret_eq Try.results61]; first | done | rfl) (hs1) (by rintro _ rfl; rfl) ?_; rintro _ rfl) | fail)
            rw [e1, e2, hQ, hv]
          · rw [decide_eq_false hv] at hs1
            have hne : ¬ (w2 = w2 ∧ c = c2) := fun q => hv (by rw [q.2])
            repeat' (first | simp only [go_sem, hs, decide_eq_false hne, Ret_eq Try.results61] | simp (disch := omega) only [arith, IntKind.bits, capMax, fill_len, elt_fill] | (refine awpI_draw2 (id := 6) (.one false 0 (.one false 1 (.one false 2 (.one false 3 (.one false 4 (.one false 5 (.one false 6 (.one false 7 (.one false 8 (.one false 9 (.only 10 (.one false 11 .done)))))))))))) mixed (by decide +kernel) (by decide +kernel) ?_) | (refine opCallI_rd (by simp only [go_sem, hs, decide_eq_false hne, Ret_eq Try.results61]; first | done | rfl) (hs1) (by rintro _ rfl; rfl) ?_; rintro _ rfl) | fail)
            symm; exact decide_eq_false fun q => hv (by rw [q.2])
        · obtain rfl : k = c2.length := by omega
          have hQ3 : c = c2 := by
            rw [List.take_length, ← hl, List.take_length] at hQ; exact hQ
          have hy : w2 = w2 ∧ c = c2 := ⟨rfl, hQ3⟩
          repeat' (first | simp only [go_sem, hs, decide_eq_true hy, Ret_eq Try.results61] | simp (disch := omega) only [arith, IntKind.bits, capMax, fill_len, elt_fill] | fail)
          symm; exact decide_eq_true ⟨g1, hQ3⟩
    · have hne : ¬ (w = w2 ∧ c = c2) := fun q => hl (by rw [q.2])
      have hb : ((c.length : Int) == (c2.length : Int)) = false := beq_eq_false_iff_ne.2 (by omega)
      rw [decide_eq_false hne]
      repeat' (first | simp only [go_sem, b1, hb, Ret_eq Try.results61] | simp (disch := omega) only [arith, IntKind.bits, capMax, fill_len, elt_fill] | fail)
  · have b1 : (w == w2) = false := beq_eq_false_iff_ne.2 g1
    rw [decide_eq_false (fun q => g1 q.1)]
    repeat' (first | simp only [go_sem, b1, Ret_eq Try.results61] | simp (disch := omega) only [arith, IntKind.bits, capMax, fill_len, elt_fill] | fail)
end Go.Proofs.Ytpkampecmlpfmaa.T

end
section
set_option linter.unusedSimpArgs false
set_option linter.unusedVariables false
/- Laws on books of samples: of one that is turned. -/
namespace Go.Proofs.Ytpkampecmlpfmaa.T
open Go Go.VL Go.Proofs
set_option maxRecDepth 100000
set_option maxHeartbeats 8000000
def fewS8 (sample : List (List Int)) : Prop := (∀ v ∈ sample, v.length ≤ 100) ∧ (sample.length ≤ 60 ∨ 4096 < sample.length ∧ sample.length ≤ 4100)
instance (sample : List (List Int)) : Decidable (fewS8 sample) := by unfold fewS8; infer_instance

theorem few8_fun (sample : List (List Int)) : Fun Try.prog 65 [.lst (rows .i16 sample)] fun r => r = .v (.bool (decide (fewS8 sample))) := by
  refine Fun.of_awpI Try.func65 rfl cal65 Try.ntmps65 (by simp) fun hwf => ?_
  simp only [D.wfs, D.wf, ints_length, ints_wfs, rows_length, rows_wfs, capMax, and_true, true_and] at hwf
  repeat' (first | simp only [go_sem, Ret_eq Try.results65] | fail)
  refine awpI_for sample.length (fun k => ∀ v ∈ sample.take k, v.length ≤ 100) (fun k => [(7, .v (.int .i64 k))]) (fun _ => []) [0, 5, 6] [] _ (Weak.refl _) (by simp) ?_ ?_ ?_
  · simp only [go_sem, Ret_eq Try.results65]
  · simp only [go_sem, Ret_eq Try.results65]
  · intro k s hk hQ hs
    simp only [go_sem, Ret_eq Try.results65] at hs
    by_cases hka : k < sample.length
    · by_cases q : (sample.getD k []).length ≤ 100
      · repeat' (first | simp only [go_sem, hs, Ret_eq Try.results65] | simp (disch := omega) only [arith, IntKind.bits, capMax, fill_len, elt_fill] | (refine Again.up (by omega) ?_ ?_) | fail)
        rw [take_snoc (d := ([] : List Int)) hka]
        intro v hv
        rcases List.mem_append.1 hv with z | z
        · exact hQ v z
        · rw [List.mem_singleton.1 z]; exact q
      · repeat' (first | simp only [go_sem, hs, Ret_eq Try.results65] | simp (disch := omega) only [arith, IntKind.bits, capMax, fill_len, elt_fill] | fail)
        rw [decide_eq_false]
        exact fun z => q (z.1 _ (getD_mem hka))
    · obtain rfl : k = sample.length := by omega
      rw [List.take_length] at hQ
      by_cases q1 : sample.length ≤ 60
      · repeat' (first | simp only [go_sem, hs, Ret_eq Try.results65] | simp (disch := omega) only [arith, IntKind.bits, capMax, fill_len, elt_fill] | fail)
        rw [decide_eq_true]
        exact ⟨hQ, .inl q1⟩
      · by_cases q2 : 4096 < sample.length
        · by_cases q3 : sample.length ≤ 4100
          · repeat' (first | simp only [go_sem, hs, Ret_eq Try.results65] | simp (disch := omega) only [arith, IntKind.bits, capMax, fill_len, elt_fill] | fail)
            rw [decide_eq_true]
            exact ⟨hQ, .inr ⟨q2, q3⟩⟩
          · repeat' (first | simp only [go_sem, hs, Ret_eq Try.results65] | simp (disch := omega) only [arith, IntKind.bits, capMax, fill_len, elt_fill] | fail)
            rw [decide_eq_false]
            exact fun z => by have := z.2; omega
        · repeat' (first | simp only [go_sem, hs, Ret_eq Try.results65] | simp (disch := omega) only [arith, IntKind.bits, capMax, fill_len, elt_fill] | fail)
          rw [decide_eq_false]
          exact fun z => by have := z.2; omega
theorem trC_some {w : Int} {cuts : List (List Int)} {way : Int} {sample : List (List Int)} (h : trE w cuts way sample = 0) (h0 : sample ≠ []) : trC w cuts way sample = trCuts cuts.length (manyOf cuts + 1) way sample := by unfold trC; rw [if_pos h, if_neg h0]
theorem trW_some {w : Int} {cuts : List (List Int)} {way : Int} {sample : List (List Int)} (h : trE w cuts way sample = 0) (h0 : sample ≠ []) : trW w cuts way sample = way := by unfold trW; rw [if_pos h, if_neg h0]
end Go.Proofs.Ytpkampecmlpfmaa.T

end
section
set_option linter.unusedSimpArgs false
set_option linter.unusedVariables false
/- A book of a sample may be; how often each number was met, plainly. -/
namespace Go.Proofs.Ytpkampecmlpfmaa.T
open Go Go.VL Go.Proofs
theorem train_ok {w : Int} {cuts : List (List Int)} {way : Int} {sample : List (List Int)} (h : trE w cuts way sample = 0) (h0 : sample ≠ []) (hI : I16r sample) :
    bookErr way (trCuts cuts.length (manyOf cuts + 1) way sample) = 0 ∧ manyOf (trCuts cuts.length (manyOf cuts + 1) way sample) = manyOf cuts ∧
      ∀ i, i < cuts.length → rkE (colOf (turnedL way sample) i) ((manyOf cuts + 1 : Nat) : Int) = 0 ∧ (trCuts cuts.length (manyOf cuts + 1) way sample).getD i [] = cutsL (colOf (turnedL way sample) i) (manyOf cuts + 1) := by
  obtain ⟨e1, e2, e3, e4⟩ := trE_zero.1 h
  obtain ⟨b1, b2, b3, b4⟩ := bookErr_zero.1 e1
  have hm := book_many e1
  have hl : 1 ≤ sample.length := by
    cases sample with
    | nil => exact absurd rfl h0
    | cons a l => simp
  have hTl : (turnedL way sample).length = sample.length := by simp [turnedL]
  have hr : ∀ i, i < cuts.length → rkE (colOf (turnedL way sample) i) ((manyOf cuts + 1 : Nat) : Int) = 0 := fun i hi =>
    rkE_zero.2 ⟨by rw [colOf_length, hTl]; omega, by omega, col_ok e3 hI hi, by rw [colOf_length, hTl]; omega⟩
  have hml : manyOf (trCuts cuts.length (manyOf cuts + 1) way sample) = manyOf cuts := by
    unfold manyOf
    rw [trCuts_at b1, cutsL_length]; rfl
  refine ⟨bookErr_zero.2 ⟨by rw [trCuts_length]; exact b1, by rw [trCuts_length]; exact b2, e2, ?_⟩, hml, fun i hi => ⟨hr i hi, trCuts_at hi⟩⟩
  rw [List.any_eq_false]
  intro c hc
  obtain ⟨i, hi, rfl⟩ := List.mem_map.1 hc
  have hi := List.mem_range.1 hi
  rw [hml]
  unfold oddCut
  have h1 := cutsOk_cutsL (l := colOf (turnedL way sample) i) (n := manyOf cuts + 1) (hr i hi)
  rw [h1, cutsL_length]
  simp
end Go.Proofs.Ytpkampecmlpfmaa.T

end
section
set_option linter.unusedSimpArgs false
set_option linter.unusedVariables false
/- Law on books: any book of any sample. -/
namespace Go.Proofs.Ytpkampecmlpfmaa.T
open Go Go.VL Go.Proofs
set_option maxRecDepth 100000
set_option maxHeartbeats 8000000
theorem bookTrain_own (hS : Sorted16) (w : Int) (cuts : List (List Int)) (way : Int) (sample : List (List Int)) (hI : I16r sample) (hE : trE w cuts way sample = 0) (h : sample ≠ [] ∨ 1 ≤ manyOf cuts) : FunM Try.prog 67 [bookD w cuts, .v (.int .i64 way), .lst (rows .i16 sample)] fun r H =>
    r = .tup [.agg [.v (.int .i64 (trW w cuts way sample)), .ref 2000 cuts.length], .v (.int .i64 0)] ∧ H = ownB 22 23 cuts.length (manyOf cuts) (trC w cuts way sample) := by
  by_cases h0 : sample = []
  · subst h0
    rw [show trC w cuts way [] = cuts by unfold trC; rw [if_pos hE, if_pos rfl], show trW w cuts way [] = w by unfold trW; rw [if_pos hE, if_pos rfl]]
    exact bookTrain_own0 w cuts way hE (h.resolve_left fun q => q rfl)
  · rw [trC_some hE h0, trW_some hE h0]
    exact bookTrain_ownT hS w cuts way sample hI hE h0
/-- What the book of a sample is. -/
theorem trC_ok {w : Int} {cuts : List (List Int)} {way : Int} {sample : List (List Int)} (hI : I16r sample) (hE : trE w cuts way sample = 0) : bookErr (trW w cuts way sample) (trC w cuts way sample) = 0 ∧ manyOf (trC w cuts way sample) = manyOf cuts ∧ (trC w cuts way sample).length = cuts.length := by
  by_cases h0 : sample = []
  · subst h0
    rw [show trC w cuts way [] = cuts by unfold trC; rw [if_pos hE, if_pos rfl], show trW w cuts way [] = w by unfold trW; rw [if_pos hE, if_pos rfl]]
    exact ⟨(trE_zero.1 hE).1, rfl, rfl⟩
  · rw [trC_some hE h0, trW_some hE h0]
    obtain ⟨k1, k2, _⟩ := train_ok hE h0 hI
    exact ⟨k1, k2, trCuts_length⟩
theorem ownB_ge {eo ei : TypeId} {n len : Nat} {C : List (List Int)} {W : Int} : geTo 2000 (.tup [.agg [.v (.int .i64 W), .ref 2000 n], .v (.int .i64 0)]) = true ∧ ∀ i o, ownB eo ei n len C i = some o → 2000 ≤ i ∧ geTos 2000 o.els = true := by
  refine ⟨rfl, fun i o h => ?_⟩
  unfold ownB at h
  by_cases h1 : i = 2000
  · rw [if_pos h1] at h; cases h
    refine ⟨by omega, ?_⟩
    have : ∀ l : List Nat, geTos 2000 (l.map fun i => D.ref (3000 + i) len) = true := fun l => by
      induction l with
      | nil => rfl
      | cons x l ih => show (decide (2000 ≤ 3000 + x) && geTos 2000 _) = true; rw [ih, decide_eq_true (by omega)]; rfl
    exact this _
  · rw [if_neg h1] at h
    by_cases h2 : 3000 ≤ i ∧ i < 3000 + n
    · rw [if_pos h2] at h; cases h
      refine ⟨by omega, ?_⟩
      have : ∀ l : List Int, geTos 2000 (ints .i16 l) = true := fun l => by
        induction l with
        | nil => rfl
        | cons x l ih => exact ih
      exact this _
    · rw [if_neg h2] at h; cases h
theorem mrefs_kills {n m id : Nat} (h : id < 3000) : D.kills id (List.map (fun i => D.ref (3000 + i) n) (List.range m)) = List.map (fun i => D.ref (3000 + i) n) (List.range m) := refsC_kills h
theorem mrefs_get {n m i : Nat} (h : i < m) : (List.map (fun i => D.ref (3000 + i) n) (List.range m))[i]? = some (.ref (3000 + i) n) := by
  rw [List.getElem?_map, List.getElem?_range h]; rfl
def incX (x : Int) : Int := IntKind.wrap .i16 (x + 1)
def rowsW (e : TypeId) (n : Nat) (f : Nat → List Int) : List (Nat × Own) := (List.range n).map fun i => (3000 + i, ⟨e, 1, ints .i16 (f i)⟩)
theorem Heaps_rowsW {s : St} {e : TypeId} {n : Nat} {f : Nat → List Int} : Heaps s (rowsW e n f) = ∀ i, i < n → s.H (3000 + i) = some ⟨e, 1, ints .i16 (f i)⟩ := by
  rw [rowsW, Heaps_range]
  simp only [List.mem_range]

theorem bookTrains_law (hS : Sorted16) (w : Int) (cuts : List (List Int)) (way : Int) (sample : List (List Int)) (hI : I16r sample) (hc : I16r cuts) : Fun Try.prog 15 [bookD w cuts, .v (.int .i64 way), .lst (rows .i16 sample)] fun r => r = .v (.bool true) := by
  have hf := few_fun w cuts
  have hf8 := few8_fun sample
  have hlv := bookLive_fun
  by_cases g1 : fewB cuts = true
  · rw [g1] at hf
    obtain ⟨f1, f2⟩ := few_all g1
    have hcp := copyBook_fun w cuts f1 f2
    by_cases g3 : fewS8 sample
    · rw [decide_eq_true g3] at hf8
      have htr := refTrain_fun w cuts way sample hI hc
      have hs0 := refBookSame_fun w cuts w cuts
      rw [decide_eq_true ⟨rfl, rfl⟩] at hs0
      have hs1 := refBookSame_fun (trW w cuts way sample) (trC w cuts way sample) (trW w cuts way sample) (trC w cuts way sample)
      rw [decide_eq_true ⟨rfl, rfl⟩] at hs1
      by_cases g5 : trE w cuts way sample = 0 ∧ (sample ≠ [] ∨ 1 ≤ manyOf cuts)
      · obtain ⟨hE, hne⟩ := g5
        have hto := bookTrain_own hS w cuts way sample hI hE hne
        obtain ⟨k1, k2, k3⟩ := trC_ok hI hE
        have hrow := book_rows k1
        have hmc := book_many k1
        have hln := (bookErr_zero.1 k1).2.1
        rw [hE] at htr
        rw [← k3, ← k2] at hto
        generalize hCe : trC w cuts way sample = C at *
        generalize trW w cuts way sample = w' at *
        refine Fun.of_awpS Try.func15 rfl cal15 Try.ntmps15 (by simp) fun hwf => ?_
        simp only [D.wfs, D.wf, ints_wfs, rows_wfs, ints_length, rows_length, and_true, true_and] at hwf
        repeat refine awpS_seq ?_
        refine awpS_last ?_
        repeat' (first | simp only [go_sem, bne_self_eq_false, Ret_eq Try.results15] | fail)
        repeat refine awpS_seq ?_
        refine awpS_last ?_
        repeat' (first | simp only [go_sem, bne_self_eq_false, Ret_eq Try.results15] | (refine opCallI_rd (by simp only [go_sem, bne_self_eq_false, Ret_eq Try.results15]; first | done | rfl) (hlv) (by rintro _ rfl; rfl) ?_; rintro _ rfl) | fail)
        repeat refine awpS_seq ?_
        refine awpS_last ?_
        repeat' (first | simp only [go_sem, bne_self_eq_false, Ret_eq Try.results15] | fail)
        repeat refine awpS_seq ?_
        refine awpS_last ?_
        repeat' (first | simp only [go_sem, bne_self_eq_false, Ret_eq Try.results15] | fail)
        repeat refine awpS_seq ?_
        refine awpS_last ?_
        repeat' (first | simp only [go_sem, bne_self_eq_false, Ret_eq Try.results15] | (refine opCallI_rd (by simp only [go_sem, bne_self_eq_false, Ret_eq Try.results15]; first | done | rfl) (hf) (by rintro _ rfl; rfl) ?_; rintro _ rfl) | (refine opCallI_rd (by simp only [go_sem, bne_self_eq_false, Ret_eq Try.results15]; first | done | rfl) (hf8) (by rintro _ rfl; rfl) ?_; rintro _ rfl) | fail)
        repeat refine awpS_seq ?_
        refine awpS_last ?_
        repeat' (first | simp only [go_sem, bne_self_eq_false, Ret_eq Try.results15] | fail)
        repeat refine awpS_seq ?_
        refine awpS_last ?_
        repeat' (first | simp only [go_sem, bne_self_eq_false, Ret_eq Try.results15] | (refine opCallI_gv (by simp only [go_sem, bne_self_eq_false, Ret_eq Try.results15]; first | done | rfl) (hcp) ?_; rintro _ rfl) | fail)
        repeat refine awpS_seq ?_
        refine awpS_nth 3 rfl rfl ?_
        repeat' (first | simp only [go_sem, Ret_eq Try.results15] | fail)
        refine opX_callM0 2000 [(1, .v (.int .i64 way)), (2, .lst (rows .i16 sample)), (3, .adr 3 0 0), (7, .v (.bool true)), (8, .adr 8 0 0)] [(3, ⟨73, 2, [bookD w cuts]⟩), (8, ⟨73, 2, [bookD w cuts]⟩)] rfl rfl rfl (by simp only [go_sem, Ret_eq Try.results15]) (by first | (simp only [go_sem, Ret_eq Try.results15]; rfl) | rfl) hto (by simp only [go_sem, Ret_eq Try.results15]) (by rfl) (by simp only [go_sem, Ret_eq Try.results15]) (by simp only [List.all_cons, List.all_nil]; rfl) ?_ ?_
        · rintro _ _ ⟨rfl, rfl⟩
          exact ownB_ge
        rintro _ _ ⟨rfl, rfl⟩
        repeat' (first | simp only [go_sem, Ret_eq Try.results15] | fail)
        repeat refine awpS_seq ?_
        refine awpS_last ?_
        repeat' (first | simp only [go_sem, hE, Ret_eq Try.results15] | (refine opCallI_gv (by simp only [go_sem, hE, Ret_eq Try.results15]; first | done | rfl) (htr) ?_; rintro _ rfl) | fail)
        repeat refine awpS_seq ?_
        refine awpS_nth 2 rfl rfl ?_
        repeat' (first | simp only [go_sem, Ret_eq Try.results15] | fail)
        have hCl : (List.range C.length).map (fun i => D.lst (ints .i16 (C.getD i []))) = rows .i16 C := by
          refine List.ext_getElem? fun i => ?_
          rw [List.getElem?_map]
          by_cases q : i < C.length
          · rw [List.getElem?_range q, rows_get q]; rfl
          · rw [List.getElem?_eq_none (by simp; omega), List.getElem?_eq_none (by rw [rows_length]; omega)]; rfl
        refine opX_look (Weak.freezes1 (ob := 2000) (base := 3000) (n := C.length) (S := 1) (So := 1) (e := 23) (eo := 22) (fun i => ints .i16 (C.getD i [])) (fun _ => manyOf C) [(44, .agg [.v (.int .i64 w'), .ref 2000 C.length]), (45, bookD w' C)] []
          (by decide) (by simp only [go_sem, Ret_eq Try.results15]) (by rfl) (by simp only [go_sem, Ret_eq Try.results15]) (by rfl) (by simp only [go_sem, ownB, mrefs_kills, Ret_eq Try.results15]) (fun i hi => by
            simp only [go_sem, ownB, base3_ne, Ret_eq Try.results15]
            rw [if_neg (by omega), if_pos (by omega), show 3000 + i - 3000 = i by omega]
            simp only [go_sem, Ret_eq Try.results15]) (fun i hi => ⟨ints_noRefs, ints_nrms, ints_width1, by rw [ints_length]; exact (hrow _ (getD_mem (by omega))).1⟩)) rfl rfl (by simp only [go_sem, hCl, Ret_eq Try.results15]; first | done | rfl) hs1 (by rintro _ rfl; rfl) ?_
        rintro _ rfl
        repeat' (first | simp only [go_sem, Ret_eq Try.results15] | fail)
        refine awpS_last ?_
        repeat' (first | simp only [go_sem, List.length_map, List.length_range, Ret_eq Try.results15] | fail)
        refine awpI_for C.length (fun _ => True) (fun i => [(55, .v (.int .i64 i))]) (fun i => rowsW 23 C.length fun j => if j < i then fill (fun t => incX ((C.getD j []).getD t 0)) (C.getD j []) (manyOf C) else C.getD j []) [3, 7, 8, 9, 13, 54] [3, 8, 9, 2000] _ (Weak.refl _) trivial ?_ ?_ ?_
        · simp only [go_sem, Ret_eq Try.results15]
        · rw [Heaps_rowsW]
          intro i hi
          simp only [go_sem, ownB, base3_ne, Ret_eq Try.results15]
          rw [if_neg (by omega), if_pos (by omega), show 3000 + i - 3000 = i by omega]
          simp only [go_sem, Ret_eq Try.results15]
          rw [if_neg (Nat.not_lt_zero i)]
        · intro i s hi _ hs
          simp only [go_sem, Heaps_rowsW, ownB, mrefs_kills, Ret_eq Try.results15] at hs
          have hco := hs.2.2.1
          by_cases hin : i < C.length
          · have mg := mrefs_get (n := manyOf C) hin
            have hci := hco i hin
            rw [if_neg (Nat.lt_irrefl i)] at hci
            have hl := (hrow _ (getD_mem (d := []) hin)).1
            repeat' (first | simp only [go_sem, hs, mg, hci, hl, base3_ne, List.length_map, List.length_range, Ret_eq Try.results15] | simp (disch := omega) only [arith, IntKind.bits, capMax, fill_len, elt_fill] | fail)
            refine awpI_for (manyOf C) (fun _ => True) (fun k => [(64, .v (.int .i64 k))]) (fun k => rowsW 23 C.length fun j => if j < i then fill (fun t => incX ((C.getD j []).getD t 0)) (C.getD j []) (manyOf C) else if j = i then fill (fun t => incX ((C.getD i []).getD t 0)) (C.getD i []) k else C.getD j []) [3, 7, 8, 9, 13, 14, 54, 55, 63] [3, 8, 9, 2000] _ (Weak.refl _) trivial ?_ ?_ ?_
            · simp only [go_sem, hs, Ret_eq Try.results15]
            · rw [Heaps_rowsW]
              intro j hj
              have := hco j hj
              simp only [go_sem, hs, base3_ne, this, fill_zero, Ret_eq Try.results15]
              by_cases q : j < i
              · rw [if_pos q, if_pos q]
              · rw [if_neg q, if_neg q]
                by_cases q2 : j = i
                · rw [if_pos q2, q2]
                · rw [if_neg q2]
            · intro k s2 hk _ hs2
              simp only [go_sem, hs, Heaps_rowsW, mrefs_kills, Ret_eq Try.results15] at hs2
              have hco2 := hs2.2.2.1
              by_cases hkm : k < manyOf C
              · have hc2 := hco2 i hin
                rw [if_neg (Nat.lt_irrefl i), if_pos rfl] at hc2
                have hfl : (fill (fun t => incX ((C.getD i []).getD t 0)) (C.getD i []) k).length = manyOf C := by rw [fill_len (by omega), hl]
                have hat : (fill (fun t => incX ((C.getD i []).getD t 0)) (C.getD i []) k).getD k 0 = (C.getD i []).getD k 0 := fill_at (by omega)
                have hst := fill_set (f := fun t => incX ((C.getD i []).getD t 0)) (a := C.getD i []) (k := k) (by omega)
                rw [show incX ((C.getD i []).getD k 0) = IntKind.wrap .i16 ((C.getD i []).getD k 0 + 1) from rfl] at hst
                repeat' (first | simp only [go_sem, hs, hs2, mg, hc2, hfl, hat, base3_ne, base3_ne', List.length_map, List.length_range, Ret_eq Try.results15] | simp (disch := omega) only [arith, IntKind.bits, capMax, fill_len, elt_fill] | (refine Again.up (by omega) ?_ ?_) | fail)
                rw [Heaps_rowsW]
                intro j hj
                have := hco2 j hj
                simp only [go_sem, hs2, base3_ne, this, Ret_eq Try.results15]
                by_cases q2 : j = i
                · subst q2
                  rw [if_pos rfl, if_neg (Nat.lt_irrefl j), if_pos rfl, hst]
                · rw [if_neg (by omega), if_neg q2, if_neg q2]
              · obtain rfl : k = manyOf C := by omega
                have hc2 := hco2 i hin
                rw [if_neg (Nat.lt_irrefl i), if_pos rfl] at hc2
                repeat' (first | simp only [go_sem, hs, hs2, mg, hc2, base3_ne, List.length_map, List.length_range, Ret_eq Try.results15] | simp (disch := omega) only [arith, IntKind.bits, capMax, fill_len, elt_fill] | (refine Again.up (by omega) ?_ ?_) | fail)
                refine ⟨?_, by simp only [go_sem, ownB, mrefs_kills, Ret_eq Try.results15]⟩
                rw [Heaps_rowsW]
                intro j hj
                have := hco2 j hj
                simp only [go_sem, hs2, base3_ne, this, Ret_eq Try.results15]
                by_cases q : j < i
                · rw [if_pos q, if_pos (by omega)]
                · rw [if_neg q]
                  by_cases q2 : j = i
                  · rw [if_pos q2, if_pos (by omega), q2]
                  · rw [if_neg q2, if_neg (by omega)]
          · obtain rfl : i = C.length := by omega
            repeat' (first | simp only [go_sem, hs, Ret_eq Try.results15] | simp (disch := omega) only [arith, IntKind.bits, capMax, fill_len, elt_fill] | (refine opCallI_rd (by simp only [go_sem, hs, Ret_eq Try.results15]; first | done | rfl) (hs0) (by rintro _ rfl; rfl) ?_; rintro _ rfl) | fail)
            all_goals skip
          all_goals skip
      · have htb := bookTrain_fun hS w cuts way sample hI
        have hz : ∀ c ∈ trC w cuts way sample, c.length = 0 := by
          by_cases hE : trE w cuts way sample = 0
          · intro c hc'
            have h0 : sample = [] ∧ manyOf cuts = 0 := ⟨by by_cases q : sample = []; exact q; exact absurd ⟨hE, .inl q⟩ g5, by by_cases q : 1 ≤ manyOf cuts; exact absurd ⟨hE, .inr q⟩ g5; omega⟩
            obtain ⟨k1, k2, k3⟩ := trC_ok hI hE
            have := (book_rows k1 c hc').1
            omega
          · intro c hc'
            rw [show trC w cuts way sample = [] from if_neg hE] at hc'
            cases hc'
        have hln : (trC w cuts way sample).length ≤ 64 := by
          by_cases hE : trE w cuts way sample = 0
          · exact (bookErr_zero.1 (trC_ok hI hE).1).2.1
          · rw [show trC w cuts way sample = [] from if_neg hE]; simp
        generalize trC w cuts way sample = C at *
        generalize trW w cuts way sample = w' at *
        generalize trE w cuts way sample = e at *
        refine Fun.of_awpI Try.func15 rfl cal15 Try.ntmps15 (by simp) fun hwf => ?_
        simp only [D.wfs, D.wf, ints_length, ints_wfs, rows_length, rows_wfs, capMax, and_true, true_and] at hwf
        repeat' (first | simp only [go_sem, beq_self_eq_true, bne_self_eq_false, Ret_eq Try.results15] | (refine opCallI_rd (by simp only [go_sem, beq_self_eq_true, bne_self_eq_false, Ret_eq Try.results15]; first | done | rfl) (hlv) (by rintro _ rfl; rfl) ?_; rintro _ rfl) | (refine opCallI_rd (by simp only [go_sem, beq_self_eq_true, bne_self_eq_false, Ret_eq Try.results15]; first | done | rfl) (hf) (by rintro _ rfl; rfl) ?_; rintro _ rfl) | (refine opCallI_rd (by simp only [go_sem, beq_self_eq_true, bne_self_eq_false, Ret_eq Try.results15]; first | done | rfl) (hf8) (by rintro _ rfl; rfl) ?_; rintro _ rfl) | (refine opCallI_gv (by simp only [go_sem, beq_self_eq_true, bne_self_eq_false, Ret_eq Try.results15]; first | done | rfl) (hcp) ?_; rintro _ rfl) | (refine opCallI_gv (by simp only [go_sem, beq_self_eq_true, bne_self_eq_false, Ret_eq Try.results15]; first | done | rfl) (htb) ?_; rintro _ rfl) | (refine opCallI_gv (by simp only [go_sem, beq_self_eq_true, bne_self_eq_false, Ret_eq Try.results15]; first | done | rfl) (htr) ?_; rintro _ rfl) | (refine opCallI_rd (by simp only [go_sem, beq_self_eq_true, bne_self_eq_false, Ret_eq Try.results15]; first | done | rfl) (hs1) (by rintro _ rfl; rfl) ?_; rintro _ rfl) | fail)
        refine awpI_for C.length (fun k => True) (fun k => [(55, .v (.int .i64 k))]) (fun _ => []) [3, 7, 8, 9, 13, 54] [3, 8, 9] _ (Weak.refl _) trivial ?_ ?_ ?_
        · simp only [go_sem, Ret_eq Try.results15]
        · simp only [go_sem, Ret_eq Try.results15]
        · intro k s hk _ hs
          simp only [go_sem, Ret_eq Try.results15] at hs
          by_cases hka : k < C.length
          · have hz0 := hz _ (getD_mem (d := []) hka)
            repeat' (first | simp only [go_sem, hs, hz0, Ret_eq Try.results15] | simp (disch := omega) only [arith, IntKind.bits, capMax, fill_len, elt_fill] | fail)
            refine awpI_for 0 (fun _ => True) (fun _ => [(64, .v (.int .i64 0))]) (fun _ => []) [3, 7, 8, 9, 13, 14, 54, 55, 63] [3, 8, 9] _ (Weak.refl _) trivial ?_ ?_ ?_
            · simp only [go_sem, hs, Ret_eq Try.results15]
            · simp only [go_sem, Ret_eq Try.results15]
            · intro k2 s2 hk2 _ hs2
              simp only [go_sem, hs, Ret_eq Try.results15] at hs2
              repeat' (first | simp only [go_sem, hs, hs2, Ret_eq Try.results15] | simp (disch := omega) only [arith, IntKind.bits, capMax, fill_len, elt_fill] | (refine Again.up (by omega) ?_ ?_) | fail)
          · obtain rfl : k = C.length := by omega
            repeat' (first | simp only [go_sem, hs, Ret_eq Try.results15] | simp (disch := omega) only [arith, IntKind.bits, capMax, fill_len, elt_fill] | (refine opCallI_rd (by simp only [go_sem, hs, Ret_eq Try.results15]; first | done | rfl) (hs0) (by rintro _ rfl; rfl) ?_; rintro _ rfl) | fail)
            all_goals skip
    · rw [decide_eq_false g3] at hf8
      refine Fun.of_awpI Try.func15 rfl cal15 Try.ntmps15 (by simp) fun hwf => ?_
      simp only [D.wfs, D.wf, ints_length, ints_wfs, rows_length, rows_wfs, capMax, and_true, true_and] at hwf
      repeat' (first | simp only [go_sem, Ret_eq Try.results15] | (refine opCallI_rd (by simp only [go_sem, Ret_eq Try.results15]; first | done | rfl) (hlv) (by rintro _ rfl; rfl) ?_; rintro _ rfl) | (refine opCallI_rd (by simp only [go_sem, Ret_eq Try.results15]; first | done | rfl) (hf) (by rintro _ rfl; rfl) ?_; rintro _ rfl) | (refine opCallI_rd (by simp only [go_sem, Ret_eq Try.results15]; first | done | rfl) (hf8) (by rintro _ rfl; rfl) ?_; rintro _ rfl) | fail)
  · rw [Bool.not_eq_true] at g1
    rw [g1] at hf
    refine Fun.of_awpI Try.func15 rfl cal15 Try.ntmps15 (by simp) fun hwf => ?_
    simp only [D.wfs, D.wf, ints_length, ints_wfs, rows_length, rows_wfs, capMax, and_true, true_and] at hwf
    repeat' (first | simp only [go_sem, Ret_eq Try.results15] | (refine opCallI_rd (by simp only [go_sem, Ret_eq Try.results15]; first | done | rfl) (hlv) (by rintro _ rfl; rfl) ?_; rintro _ rfl) | (refine opCallI_rd (by simp only [go_sem, Ret_eq Try.results15]; first | done | rfl) (hf) (by rintro _ rfl; rfl) ?_; rintro _ rfl) | fail)
end Go.Proofs.Ytpkampecmlpfmaa.T

end
section
set_option linter.unusedSimpArgs false
set_option linter.unusedVariables false
/- slices.AppendSeq, slices.Collect over slices.Values: a raw walk of a range over a function. -/
namespace Go.Proofs.Ytpkampecmlpfmaa.T
open Go Go.VL Go.Proofs Go.RowKit
set_option maxRecDepth 100000
set_option maxHeartbeats 4000000
attribute [local go_sem] Oper.semAt_some
theorem info16 : (Try.prog.info? 23).map (fun i => (i.zero, i.size, i.bytes)) = some (some (.int .i16 0), 1, 2) := by kernel_rfl
theorem values1_in (F : Fence) (n : Nat) (hf : F.fn 139) (hro : F.round = none) (hn : 1 ≤ n) (l Bs Bo b off cap n0 : Nat) (zs : List Int) (hreach : zs.length ≤ 60000) (hb : b < n0) (w0 : World) (J : List Int → World → Prop)
    (hJb : ∀ pre w, J pre w → Below n0 w0 w)
    (hY : ∀ pre x W, J pre W → pre.length < zs.length → YieldAt F (n - 1) Try.prog l #[.int .i16 x] W fun e W' => e = .returned (.bool true) ∧ J (pre ++ [x]) W' ∧ KeepsWalks W W')
    (hc : ∀ j, j < zs.length → w0.cell? ⟨b, off + j, none⟩ = some (.int .i16 (zs[j]?.getD 0))) (W : World) (hBs : W.cell? ⟨Bs, Bo, none⟩ = some (.slice (some ⟨b, off, none⟩) zs.length cap)) (h0 : J [] W) :
    CallsIn F n Try.prog 139 #[.func (.yield l) #[] #[], .pointer (some ⟨Bs, Bo, none⟩)] W fun e W' => (∃ v, e = .returned v) ∧ J zs W' := by
  refine callsIn_of_wp Try.func139 rfl hf ?_ hro
  simp only [Try.ntmps139, List.size_toArray, List.length_cons, List.length_nil, Nat.reduceAdd, Nat.reduceSub, Array.replicate_succ, Array.replicate_zero, List.push_toArray, List.append_toArray, List.nil_append, List.cons_append]
  gi_wp2
  gi_loopw [7] (fun i wr => ∃ k : Nat, k ≤ zs.length ∧ i = .int .i64 k ∧ J (zs.take k) wr)
    (fun i _ => zs.length - (intOf i).toNat)
  case atStart => exact ⟨0, Nat.zero_le _, rfl, h0⟩
  case round =>
    obtain ⟨k, hk, rfl, hJs⟩ := hrel
    have hcx : k < zs.length → wr.cell? ⟨b, off + k, none⟩ = some (.int .i16 (zs[k]?.getD 0)) := fun h => ((hJb _ _ hJs).cell (p := ⟨b, off + k, none⟩) hb).trans (hc k h)
    by_cases hlt : k < zs.length
    · obtain ⟨fn, tmps, assign, body, hy, hR⟩ := hY _ zs[k] wr hJs (by rw [List.length_take]; omega)
      have hcx' := hcx hlt
      rw [show zs[k]?.getD 0 = zs[k] by simp [List.getElem?_eq_getElem hlt]] at hcx'
      gi_wp2
      refine hR.mono ?_
      rintro e W3 ⟨rfl, hJ3, hk3⟩
      gi_wp2
      go_roundw
      case rel => exact ⟨k + 1, by omega, by simp, by rw [List.take_add_one]; simpa [List.getElem?_eq_getElem hlt] using hJ3⟩
      case measure => simp [intOf]; omega
    · obtain rfl : k = zs.length := by omega
      gi_wp2
      go_end0
      rw [List.take_length] at hJs
      exact ⟨⟨_, rfl⟩, hJs⟩
/-- An iterator that gives just xs, in whatever later world, whatever the rounds keep, so they keep what lay in w. -/
def SeqB (F : Fence) (n : Nat) (g : Nat) (lb : Array Value) (xs : List Int) (N : Nat) (w : World) : Prop :=
  ∀ (l : Nat) (J : List Int → World → Prop) (W : World), Below w.heap.size w W → (∀ pre w', J pre w' → Below w.heap.size w w') →
    (∀ pre x W1, J pre W1 → pre.length < N → YieldAt F (n - 1) Try.prog l #[.int .i16 x] W1 fun e W' => e = .returned (.bool true) ∧ J (pre ++ [x]) W' ∧ KeepsWalks W1 W') →
    J [] W →
    CallsIn F n Try.prog g (#[.func (.yield l) #[] #[]] ++ lb) W fun e W' => (∃ v, e = .returned v) ∧ J xs W'
def apAssign : Code := (Code.region 2 #[{ dst := some 5, op := Op.assign (Operand.tmp 7), type := 23, pos := "iter.go:51", after := #[], guard := none }] false)
def apBody : Code := (Code.block 1 (Code.region 3 #[{ dst := some 8, op := Op.load 22 (Operand.tmp 2), type := 22, pos := "iter.go:52", after := #[], guard := none }, { dst := some 9, op := Op.move (Operand.tmp 5), type := 23, pos := "iter.go:52", after := #[], guard := none }, { dst := some 10, op := Op.buildSlice 22 1 #[(0, Operand.tmp 9)], type := 22, pos := "iter.go:52", after := #[{ on := 1, ground := Ground.data }], guard := none }, { dst := some 11, op := Op.call { callee := Callee.builtin Builtin.append, args := #[Operand.tmp 8, Operand.tmp 10], argTypes := #[22, 22] }, type := 22, pos := "iter.go:52", after := #[{ on := 0, ground := Ground.data }, { on := 2, ground := Ground.data }], guard := none }, { dst := none, op := Op.store 22 (Operand.tmp 2) (Operand.tmp 11), type := 0, pos := "iter.go:52", after := #[{ on := 3, ground := Ground.data }, { on := 3, ground := Ground.chain }, { on := 0, ground := Ground.phase }, { on := 1, ground := Ground.phase }, { on := 2, ground := Ground.phase }, { on := 3, ground := Ground.phase }], guard := none }] false))
/-- The loop's record: AppendSeq's temporaries as they stood at the entering: 's' boxed in block Bs; sv: the iterator's value. -/
def apRec (fn : FuncId) (sv : Value) (Bs D : Nat) (st : LoopState) (pend : Option Code) : Loop :=
  { state := st, pending := pend, fn, tmps := #[.slice none 0 0, sv, .pointer (some ⟨Bs, 0, none⟩), undef, .slice none 0 0, undef, sv, undef, undef, undef, undef, undef, undef], params := #[7], assign := apAssign, body := apBody, defers := D }

/-- BETWEEN TWO ROUNDS: the box holds a slice that owns, in a block of the call's own, what has come so far; IT IS nil JUST AS LONG AS NOTHING HAS COME; nothing that lay before the call has turned. -/
structure ApAt (w0 : World) (fn : FuncId) (sv : Value) (Bs l D : Nat) (ss : List Int) (W : World) : Prop where
  box : ∃ v, W.heap[Bs]? = some (.cells #[v] 22 (0, 0)) ∧ W.ownsRow w0.heap.size 23 1 v ss.length (ss.map (Value.int .i16)) ∧ (v = .slice none 0 0 ↔ ss = [])
  L : W.heap[l]? = some (.loop (apRec fn sv Bs D .ready none))
  K : W.heap[D]? = some (.deferred (some []))
  below : Below w0.heap.size w0 W

theorem grownBy_putObj (W : World) (l : Nat) (o : Obj) : W.grownBy (W.putObj l o) (some l) :=
  ⟨rfl, rfl, rfl, by simp, fun k _ hk => World.putObj_heap_other (fun e => hk (by rw [e]))⟩
theorem grownBy_setCell0 (W : World) (b : Nat) (v : Value) : W.grownBy (W.setCell ⟨b, 0, none⟩ v) (some b) :=
  ⟨rfl, rfl, rfl, (KeepsWalks.setCell W _ v).size, fun k _ hk => Below.heap_setCell _ _ _ k (fun e => hk (by rw [e]))⟩
/-- A slice's own row is not a block that holds something else than cells of its element's type. -/
theorem ownsRow_ne {W : World} {base : Nat} {e : TypeId} {size : Nat} {v : Value} {k : Nat} {xs : List Value} (h : W.ownsRow base e size v k xs) {j : Nat} {o : Obj} (hj : W.heap[j]? = some o) (hno : ∀ cur, o ≠ .cells cur e (0, 0)) :
    v.ownBlock = none ∨ v.ownBlock ≠ some j := by
  rcases h.2 with ⟨rfl, _⟩ | ⟨g, cap, cur, rfl, _, hgb, _⟩
  · exact .inl rfl
  · refine .inr fun e' => ?_
    have : g = j := by simpa [Value.ownBlock] using e'
    subst this; rw [hgb] at hj; cases hj; exact hno cur rfl
theorem cell_of_box {W : World} {B : Nat} {v : Value} {t : TypeId} (h : W.heap[B]? = some (.cells #[v] t (0, 0))) : W.cell? ⟨B, 0, none⟩ = some v ∧ W.frozen? ⟨B, 0, none⟩ = false := by
  constructor <;> simp [World.cell?, World.frozen?, h]

theorem heap_setCell_box {W : World} {B : Nat} {v : Value} {t : TypeId} (v' : Value) (h : W.heap[B]? = some (.cells #[v] t (0, 0))) : (W.setCell ⟨B, 0, none⟩ v').heap[B]? = some (.cells #[v'] t (0, 0)) := by
  obtain ⟨hlt, hk⟩ := Array.getElem?_eq_some_iff.1 h
  show (W.heap.modify B _)[B]? = _
  rw [Array.getElem?_eq_getElem (by rw [Array.size_modify]; exact hlt), Array.getElem_modify_self, hk]
  rfl
theorem ownsRow_not_walk {W : World} {base : Nat} {e : TypeId} {size : Nat} {v : Value} {k : Nat} {xs : List Value} (h : W.ownsRow base e size v k xs) : ∀ (j : Nat) (o : Obj), v.ownBlock = some j → W.heap[j]? = some o → o.isWalk = false := by
  intro j o hj ho
  rcases h.2 with ⟨rfl, _⟩ | ⟨g, cap, cur, rfl, _, hgb, _⟩
  · simp [Value.ownBlock] at hj
  · have : g = j := by simpa [Value.ownBlock] using hj
    subst this; rw [hgb] at ho; cases ho; rfl


set_option maxRecDepth 100000 in
set_option maxHeartbeats 2000000 in
theorem apYield (F : Fence) (m : Nat) (w0 : World) (fn : FuncId) (hfn : F.fn fn) (sv : Value) (Bs l D : Nat) (hBl : Bs ≠ l) (hDl : D ≠ l) (hDB : D ≠ Bs) (h0B : w0.heap.size ≤ Bs) (h0l : w0.heap.size ≤ l)
    (N : Nat) (hN : N ≤ maxLen) (hNb : N * 16 ≤ 140737488355328) (ss : List Int) (x : Int) (W : World) (h : ApAt w0 fn sv Bs l D ss W) (hlen : ss.length < N) :
    YieldAt F m Try.prog l #[.int .i16 x] W fun e W' => e = .returned (.bool true) ∧ ApAt w0 fn sv Bs l D (ss ++ [x]) W' ∧ KeepsWalks W W' := by
  obtain ⟨i0, hi, hz0, hz1, hz2⟩ := info_parts info16
  obtain ⟨v, hv, hrow, _⟩ := h.box
  refine ⟨fn, #[.slice none 0 0, sv, .pointer (some ⟨Bs, 0, none⟩), undef, .slice none 0 0, undef, sv, .int .i16 x, undef, undef, undef, undef, undef], apAssign, apBody, by simpa [apRec] using run_yield (P := Try.prog) (args := #[.int .i16 x]) h.L rfl, roundIn_of_wpIn hfn ?_⟩
  have hl : l < W.heap.size := (Array.getElem?_eq_some_iff.1 h.L).1
  have hbr := run_beginRound (P := Try.prog) h.L rfl
  obtain ⟨W2, hW2⟩ : ∃ W2, W.putObj l (.loop { apRec fn sv Bs D .ready none with state := .busy }) = W2 := ⟨_, rfl⟩
  rw [hW2] at hbr
  have hg2 : W.grownBy W2 (some l) := by rw [← hW2]; exact grownBy_putObj _ _ _
  have hk2 : KeepsWalks W W2 := by rw [← hW2]; exact KeepsWalks.putObj _ h.L rfl
  have hv2 : W2.heap[Bs]? = some (.cells #[v] 22 (0, 0)) := by rw [← hW2]; exact (World.putObj_heap_other hBl).trans hv
  have hK2 : W2.heap[D]? = some (.deferred (some [])) := by rw [← hW2]; exact (World.putObj_heap_other hDl).trans h.K
  have hL2 : W2.heap[l]? = some (.loop { apRec fn sv Bs D .ready none with state := .busy }) := by rw [← hW2]; exact World.putObj_heap_same hl
  have hrow2 : W2.ownsRow w0.heap.size 23 1 v ss.length (ss.map (Value.int .i16)) := hrow.kept hg2 (ownsRow_ne hrow h.L (fun cur e => by cases e))
  have hb2 : Below w0.heap.size w0 W2 := h.below.grown hg2 h.below.size (fun k e => by cases e; exact h0l)
  obtain ⟨hc2, hf2⟩ := cell_of_box hv2
  have hBlt : Bs < W2.heap.size := (Array.getElem?_eq_some_iff.1 hv2).1
  have hl2 : l < W2.heap.size := (Array.getElem?_eq_some_iff.1 hL2).1
  have hDlt : D < W2.heap.size := (Array.getElem?_eq_some_iff.1 hK2).1
  have ne_of : ∀ {j : Nat} {o : Obj}, W2.heap[j]? = some o → (∀ cur, o ≠ .cells cur 23 (0, 0)) → some j ≠ v.ownBlock := fun hj hno => by
    rcases ownsRow_ne hrow2 hj hno with e | e
    · rw [e]; simp
    · exact fun e' => e e'.symm
  clear hW2
  unfold apAssign
  gi_wp2_with (rw [Oper.semAt_eq _ _ _ (fun c h => by cases h)]; go_simp; try go_bits)
  unfold apBody
  gi_wp2_with (first
    | (gi_at_builtin; refine wpListIn_append_own _ rfl _ _ 22 rfl w0.heap.size 23 i0 (.int .i16 0) 1 2 Try.underlying22 hi hz0 hz1 hz2 rfl (by decide) _ _ _ rfl (hrow2.alloc _) ⟨W2.heap.size, 0, none⟩ 1 1 [.int .i16 x] rfl rfl (cell_one_new _ _ _) (by simp [Value.oneCell']) (by omega) (by omega) (by have := hb2.size; simp; omega) ?_; intro v' w3 hown' hg3 hnil3
       have hv3 : w3.heap[Bs]? = some (.cells #[v] 22 (0, 0)) := (hg3.block Bs (by simp; omega) (ne_of hv2 (fun cur e => by cases e))).trans ((Below.heap_alloc _ _ Bs hBlt).trans hv2)
       obtain ⟨hc3, hf3⟩ := cell_of_box hv3
       obtain ⟨g', cap', cur', rfl, hbase', hgb', hr1, hr2, hr3, hr4⟩ : ∃ g' cap' cur', v' = .slice (some ⟨g', 0, none⟩) (ss.length + 1) cap' ∧ w0.heap.size ≤ g' ∧ w3.heap[g']? = some (.cells cur' 23 (0, 0)) ∧ ss.length + 1 ≤ cap' ∧ cap' ≤ maxLen ∧ cur'.size = cap' * 1 ∧ cur'.toList.take ((ss.length + 1) * 1) = ss.map (Value.int .i16) ++ [.int .i16 x] := by
         rcases hown'.2 with ⟨_, h0⟩ | h'
         · exact absurd h0 (by omega)
         · exact h'
       simp only [Act.put, List.setIfInBounds_toArray, List.set_cons_succ, List.set_cons_zero])
    | (rw [Oper.semAt_eq _ _ _ (fun c h => by cases h)]; go_simp; try go_bits))
  have hg3' : (W2.alloc (.cells #[.int .i16 x] 23)).grownBy w3 v.ownBlock := hg3
  have hL3 : w3.heap[l]? = some (.loop { apRec fn sv Bs D .ready none with state := .busy }) := (hg3'.block l (by simp; omega) (ne_of hL2 (fun cur e => by cases e))).trans ((Below.heap_alloc _ _ l hl2).trans hL2)
  have hK3 : w3.heap[D]? = some (.deferred (some [])) := (hg3'.block D (by simp; omega) (ne_of hK2 (fun cur e => by cases e))).trans ((Below.heap_alloc _ _ D hDlt).trans hK2)
  obtain ⟨w4, hw4⟩ : ∃ w4, w3.setCell ⟨Bs, 0, none⟩ (.slice (some ⟨g', 0, none⟩) (ss.length + 1) cap') = w4 := ⟨_, rfl⟩
  rw [hw4]
  have hg4 : w3.grownBy w4 (some Bs) := by rw [← hw4]; exact grownBy_setCell0 _ _ _
  have hv4 : w4.heap[Bs]? = some (.cells #[.slice (some ⟨g', 0, none⟩) (ss.length + 1) cap'] 22 (0, 0)) := by rw [← hw4]; exact heap_setCell_box _ hv3
  have hL4 : w4.heap[l]? = some (.loop { apRec fn sv Bs D .ready none with state := .busy }) := (hg4.block l (Array.getElem?_eq_some_iff.1 hL3).1 (fun e => hBl (by cases e; rfl))).trans hL3
  have hK4 : w4.heap[D]? = some (.deferred (some [])) := (hg4.block D (Array.getElem?_eq_some_iff.1 hK3).1 (fun e => hDB (by cases e; rfl))).trans hK3
  have hrow4 := hown'.kept hg4 (ownsRow_ne hown' hv3 (fun cur e => by cases e))
  have hl4 : l < w4.heap.size := (Array.getElem?_eq_some_iff.1 hL4).1
  have hb3 : Below w0.heap.size w0 w3 := (hb2.alloc hb2.size _).grown hg3' (by have := hb2.size; simp; omega) (fun k e => (hrow2.lt k e).1)
  have hb4 : Below w0.heap.size w0 w4 := hb3.grown hg4 hb3.size (fun k e => by cases e; exact h0B)
  have hk4 : KeepsWalks W w4 := ((hk2.trans (KeepsWalks.alloc _ _)).trans (KeepsWalks.of_grownBy hg3' (ownsRow_not_walk (hrow2.alloc _)))).trans (by rw [← hw4]; exact KeepsWalks.setCell _ _ _)
  clear hw4
  refine ⟨_, _, run_endRound none hL4, rfl, ⟨⟨_, (World.putObj_heap_other hBl).trans hv4, ?_, by simp⟩, World.putObj_heap_same hl4, (World.putObj_heap_other hDl).trans hK4, hb4.grown (grownBy_putObj _ _ _) hb4.size (fun k e => by cases e; exact h0l)⟩, hk4.trans (KeepsWalks.putObj _ hL4 rfl)⟩
  have := hrow4.kept (grownBy_putObj w4 l (.loop { { apRec fn sv Bs D .ready none with state := .busy } with state := if (none : Option Code).isNone then .ready else .done, pending := none })) (ownsRow_ne hrow4 hL4 (fun cur e => by cases e))
  simpa using this



theorem appendSeq_in (F : Fence) (n : Nat) (h11 : F.fn 159) (hro : F.round = none) (hn : 2 ≤ n) (g : Nat) (lb : Array Value) (hFg : F.fn g) (eg : ∀ args w, (callFunc g args).run Try.prog w = .ok (.enter g args) w)
    (N : Nat) (hN : N ≤ maxLen) (hNb : N * 16 ≤ 140737488355328) (w : World) (ss : List Int) (hseq : SeqB F (n - 1) g lb ss N w) :
    CallsIn F n Try.prog 159 #[.slice none 0 0, .func (.func g) #[] lb] w fun e w' => ∃ (v : Value), e = .returned v ∧ w'.ownsRow w.heap.size 23 1 v ss.length (ss.map (Value.int .i16)) ∧ (v = .slice none 0 0 ↔ ss = []) ∧ Below w.heap.size w w' := by
  have h1 : 1 ≤ n := by omega
  refine callsIn_of_wp_marks Try.func159 rfl h11 ?_ hro
  simp only [Try.ntmps159, List.size_toArray, List.length_cons, List.length_nil, Nat.reduceAdd, Nat.reduceSub, Array.replicate_succ, Array.replicate_zero, List.push_toArray, List.append_toArray, List.nil_append, List.cons_append]
  gi_wp2
  refine wpIn_rangeFunc ?_
  intro fn hfn
  rw [hro]
  obtain ⟨W0, hW0⟩ : ∃ W0, w.alloc (.cells #[.slice none 0 0] 22) = W0 := ⟨_, rfl⟩
  have hs0 : W0.heap.size = w.heap.size + 1 := by rw [← hW0]; simp
  have hv0 : W0.heap[w.heap.size]? = some (.cells #[.slice none 0 0] 22 (0, 0)) := by rw [← hW0]; exact World.alloc_heap_new w _
  have hb0 : Below w.heap.size w W0 := by rw [← hW0]; exact (Below.refl _ w).alloc (Nat.le_refl _) _
  rw [hW0]
  obtain ⟨W1, hW1⟩ : ∃ W1, (W0.alloc (.deferred (some []))).alloc (.loop (apRec fn (.func (.func g) #[] lb) w.heap.size W0.heap.size .ready none)) = W1 := ⟨_, rfl⟩
  have hold : ∀ k, k < W0.heap.size → W1.heap[k]? = W0.heap[k]? := fun k hk => by
    rw [← hW1]; exact (Below.heap_alloc _ _ k (by simp; omega)).trans (Below.heap_alloc _ _ k hk)
  have hb1 : Below w.heap.size w W1 := by rw [← hW1]; exact (hb0.alloc hb0.size _).alloc (by have := hb0.size; simp; omega) _
  have hs1 : W1.heap.size = W0.heap.size + 2 := by rw [← hW1]; simp
  have hM : ApAt w fn (.func (.func g) #[] lb) w.heap.size (W0.heap.size + 1) W0.heap.size [] W1 :=
    ⟨⟨_, (hold w.heap.size (by omega)).trans hv0, ⟨rfl, .inl ⟨rfl, rfl⟩⟩, by simp⟩,
     by rw [← hW1]; have := World.alloc_heap_new (W0.alloc (.deferred (some []))) (.loop (apRec fn (.func (.func g) #[] lb) w.heap.size W0.heap.size .ready none)); rwa [World.size_alloc] at this,
     by rw [← hW1]; exact (Below.heap_alloc _ _ _ (by simp)).trans (World.alloc_heap_new W0 _), hb1⟩
  refine ⟨W0.heap.size + 1, [{ target := .collected W0.heap.size, args := #[] }], W1, { target := .fn (.func g) lb, args := #[.func (.yield (W0.heap.size + 1)) #[] #[]] }, W1, g,
    #[.func (.yield (W0.heap.size + 1)) #[] #[]] ++ lb, W1, ?_, ?_, ?_, ?_, fun _ => h1, ?_⟩
  · rw [← hW1]; exact run_enterLoop_outer _ _ _ _ _
  · simp [resolve, go_sem]
  · intro f' hf'; simp [Target.leads] at hf'; subst hf'; exact hFg
  · simp [invoke, go_sem, eg]
  · refine (hseq (W0.heap.size + 1) (ApAt w fn (.func (.func g) #[] lb) w.heap.size (W0.heap.size + 1) W0.heap.size) W1 hb1 (fun pre w h => h.below)
      (fun pre x W hJ hl => apYield F (n - 1 - 1) w fn hfn _ w.heap.size (W0.heap.size + 1) W0.heap.size (by omega) (by omega) (by omega) (Nat.le_refl _) (by omega) N hN hNb pre x W hJ hl) hM).mono ?_
    rintro e W2 ⟨⟨v0, rfl⟩, h2⟩
    obtain ⟨v, hv, hrow, hnil⟩ := h2.box
    have hend := run_endLoop (P := Try.prog) h2.L (by simp [apRec])
    obtain ⟨W3, hW3⟩ : ∃ W3, W2.putObj (W0.heap.size + 1) (.loop { apRec fn (.func (.func g) #[] lb) w.heap.size W0.heap.size .ready none with state := .exhausted }) = W3 := ⟨_, rfl⟩
    rw [hW3] at hend
    have hg3 : W2.grownBy W3 (some (W0.heap.size + 1)) := by rw [← hW3]; exact grownBy_putObj _ _ _
    have hv3 : W3.heap[w.heap.size]? = some (.cells #[v] 22 (0, 0)) := by rw [← hW3]; exact (World.putObj_heap_other (by omega)).trans hv
    have hK3 : W3.heap[W0.heap.size]? = some (.deferred (some [])) := by rw [← hW3]; exact (World.putObj_heap_other (by omega)).trans h2.K
    have hrow3 := hrow.kept hg3 (ownsRow_ne hrow h2.L (fun cur e => by cases e))
    have hb3 : Below w.heap.size w W3 := h2.below.grown hg3 h2.below.size (fun k e => by cases e; omega)
    obtain ⟨hc3, hf3⟩ := cell_of_box hv3
    clear hW3
    refine ⟨none, W3, hend, ?_⟩
    gi_wp2
    rw [← hs0]
    refine ⟨by simp, .inl ⟨_, _, rfl, run_takeDeferred hK3, ?_⟩⟩
    exact ⟨_, results_tmp rfl _ _ _, v, rfl, hrow3.kept (grownBy_putObj _ _ _) (ownsRow_ne hrow3 hK3 (fun cur e => by cases e)), hnil, hb3.grown (grownBy_putObj _ _ _) hb3.size (fun k e => by cases e; omega)⟩


theorem values_seq (F : Fence) (n : Nat) (hf : F.fn 139) (hro : F.round = none) (hn : 1 ≤ n) (Bs Bo b off cap : Nat) (zs : List Int) (hreach : zs.length ≤ 60000) (w : World) (hb : b < w.heap.size) (hBl : Bs < w.heap.size)
    (hBs : w.cell? ⟨Bs, Bo, none⟩ = some (.slice (some ⟨b, off, none⟩) zs.length cap)) (hc : ∀ j, j < zs.length → w.cell? ⟨b, off + j, none⟩ = some (.int .i16 (zs[j]?.getD 0))) :
    SeqB F n 139 #[.pointer (some ⟨Bs, Bo, none⟩)] zs zs.length w := fun l J W hW hJb hY h0 =>
  values1_in F n hf hro hn l Bs Bo b off cap w.heap.size zs hreach hb w J hJb hY hc W ((hW.cell (p := ⟨Bs, Bo, none⟩) hBl).trans hBs) h0
theorem collect_in (F : Fence) (n : Nat) (h8 : F.fn 137) (h11 : F.fn 159) (hro : F.round = none) (hn : 3 ≤ n) (g : Nat) (lb : Array Value) (hFg : F.fn g) (eg : ∀ args w, (callFunc g args).run Try.prog w = .ok (.enter g args) w)
    (N : Nat) (hN : N ≤ maxLen) (hNb : N * 16 ≤ 140737488355328) (w : World) (ss : List Int) (hseq : SeqB F (n - 1 - 1) g lb ss N w) :
    CallsIn F n Try.prog 137 #[.func (.func g) #[] lb] w fun e w' => ∃ (v : Value), e = .returned v ∧ w'.ownsRow w.heap.size 23 1 v ss.length (ss.map (Value.int .i16)) ∧ (v = .slice none 0 0 ↔ ss = []) ∧ Below w.heap.size w w' := by
  have h1 : 1 ≤ n := by omega
  refine callsIn_of_wp Try.func137 rfl h8 ?_ hro
  simp only [Try.ntmps137, List.size_toArray, List.length_cons, List.length_nil, Nat.reduceAdd, Nat.reduceSub, Array.replicate_succ, Array.replicate_zero, List.push_toArray, List.append_toArray, List.nil_append, List.cons_append]
  gi_wp2_with (gi_at_call 159; refine (appendSeq_in F (n - 1) h11 hro (by omega) g lb hFg eg N hN hNb _ ss hseq).mono ?_; rintro e w' ⟨v, rfl, hrow, hnil, hb⟩)
  go_ret
  exact ⟨v, rfl, hrow, hnil, hb⟩
theorem RelPs_ints {J : Nat → Prop} {w : World} {k : IntKind} : ∀ {l : List Int} {vs : List Value}, RelPs J w (ints k l) vs → vs = l.map (Value.int k)
  | [], _, h => h
  | x :: l, _, ⟨y, ys, h1, h2, h3⟩ => by rw [h1, RelPs_ints h3, h2.1]; rfl
theorem RelPs_of_ints {J : Nat → Prop} {w : World} {k : IntKind} : ∀ (l : List Int), RelPs J w (ints k l) (l.map (Value.int k))
  | [] => rfl
  | x :: l => ⟨_, _, rfl, ⟨rfl, rfl⟩, RelPs_of_ints l⟩
theorem flat_ints (k : IntKind) (l : List Int) : ((l.map (Value.int k)).flatMap fun x => x.cells.toList) = l.map (Value.int k) := by
  induction l with
  | nil => rfl
  | cons x l ih => simp only [List.map_cons, List.flatMap_cons, ih]; rfl
theorem collect16_fun (l : List Int) (h1 : 1 ≤ l.length) (h2 : l.length ≤ 60000) : FunO Try.prog 137 [.clos (.func 139) [.ptr (.lst (ints .i16 l))]] fun r o => r = .ref 0 l.length ∧ o = some ⟨23, 1, ints .i16 l⟩ := by
  refine ⟨by kernel_rfl, fun J w vs hJ hG hv => ?_⟩
  obtain ⟨y, ys, rfl, hy, rfl⟩ := hv
  obtain ⟨ps, rfl, hps⟩ := hy
  obtain ⟨p, qs, rfl, hp, rfl⟩ := hps
  obtain ⟨Bs, Bo, x, rfl, hx, hw, hJB, hcell⟩ := hp
  obtain ⟨a, c, us, rfl, hc1, hc2, hc3, ha, hus, hrow⟩ := hx
  have hll : (ints .i16 l).length = l.length := by simp [ints]
  rw [hll] at hc1 hc3 hcell
  obtain rfl := RelPs_ints hus
  rw [flat_ints] at hrow
  have hne : l ≠ [] := fun e => by rw [e] at h1; simp at h1
  rcases hrow with hz | ⟨b, o, rfl, hJb, hcs⟩
  · exact absurd (List.map_eq_nil_iff.1 hz) hne
  have hBs : w.cell? ⟨Bs, Bo, none⟩ = some (.slice (some ⟨b, o, none⟩) l.length c) := hcell 0 _ rfl
  have hcj : ∀ j, j < l.length → w.cell? ⟨b, o + j, none⟩ = some (.int .i16 (l[j]?.getD 0)) := fun j hj => hcs j _ (by simp [List.getElem?_map, List.getElem?_eq_getElem hj])
  have hm : maxLen = 9223372036854775807 := rfl
  have hseq := values_seq Fence.wide (3 - 1 - 1) trivial rfl (by decide) Bs Bo b o c l h2 w (hJ b hJb) (hJ Bs hJB) hBs hcj
  have key := callsIn_wide.1 (collect_in Fence.wide 3 trivial trivial rfl (by decide) 139 #[.pointer (some ⟨Bs, Bo, none⟩)] trivial (enters_of Try.func139 (by kernel_rfl) rfl) l.length (by omega) (by omega) w l hseq)
  refine key.mono ?_
  rintro e w' ⟨v, rfl, hrow, hnil, hb⟩
  rcases hrow.2 with ⟨rfl, h0⟩ | ⟨g, cap, cur, rfl, hbase, hgb, r1, r2, r3, r4⟩
  · omega
  have hgl : g < w'.heap.size := (Array.getElem?_eq_some_iff.1 hgb).1
  refine ⟨_, .ref 0 l.length, some ⟨23, 1, ints .i16 l⟩, rfl, ⟨rfl, rfl⟩, hb, J, ⟨some ⟨g, 0, none⟩, cap, 1⟩, fun _ h => h, fun _ h => .inl h, rfl, by simp [D.ids], ints_noRefs, ?_, fun g' _ e => by cases e; exact hbase⟩
  refine .inl ⟨rfl, Nat.one_pos, by rw [hll]; exact r1, r2, by rw [hll]; exact hc3, l.map (Value.int .i16), RelPs_of_ints l, ?_, .inr ⟨Nat.lt_of_lt_of_le h1 r1, g, cur, rfl, fun hj => ?_, hgb, r3, by rw [hll, flat_ints]; exact r4⟩⟩
  · intro x hx
    obtain ⟨n, _, rfl⟩ := List.mem_map.1 hx
    exact ⟨rfl, fun c hc => by simp [Value.cells] at hc; subst hc; rfl⟩
  · have := hJ g hj; omega
end Go.Proofs.Ytpkampecmlpfmaa.T

end
section
set_option linter.unusedSimpArgs false
set_option linter.unusedVariables false
/- Sorting a list by insertion, walked. -/
namespace Go.Proofs.Ytpkampecmlpfmaa.T
open Go Go.VL Go.Proofs
set_option maxRecDepth 100000
set_option maxHeartbeats 4000000
abbrev own16 (l : List Int) : Own := ⟨23, 1, ints .i16 l⟩

theorem isNaNS16_fun (x : Int) : Fun Try.prog 161 [.v (.int .i16 x)] fun r => r = .v (.bool false) := by
  refine Fun.of_awpI Try.func161 rfl cal161 Try.ntmps161 (by simp) fun hwf => ?_
  simp only [D.wfs, D.wf, ints_length, ints_wfs, rows_length, rows_wfs, capMax, and_true, true_and] at hwf
  repeat' (first | simp only [go_sem, bne_self_eq_false, Ret_eq Try.results161] | fail)

theorem lessS16_fun (x y : Int) : Fun Try.prog 140 [.v (.int .i16 x), .v (.int .i16 y)] fun r => r = .v (.bool (decide (x < y))) := by
  refine Fun.of_awpI Try.func140 rfl cal140 Try.ntmps140 (by simp) fun hwf => ?_
  simp only [D.wfs, D.wf, ints_length, ints_wfs, rows_length, rows_wfs, capMax, and_true, true_and] at hwf
  repeat' (first | simp only [go_sem, Ret_eq Try.results140] | (refine opCallI_rd (by simp only [go_sem, Ret_eq Try.results140]; first | done | rfl) (isNaNS16_fun x) (by rintro _ rfl; rfl) ?_; rintro _ rfl) | fail)

theorem insertion16 (l : List Int) (a b : Nat) (hab : a ≤ b) (hb : b ≤ l.length) (hl : l.length ≤ 1000000) : FunL Try.prog 176 [.ref 0 l.length, .v (.int .i64 a), .v (.int .i64 b)] [own16 l] fun r os =>
    r = .tup [] ∧ ∃ l', os = [own16 l'] ∧ Sw a b l l' ∧ Sd a b l' := by
  refine FunL.of_awpI [(100000, 0)] rfl Try.func176 rfl cal176 Try.ntmps176 (by simp) fun hwf hlw ls => ?_
  simp only [lentWf, D.wfs, D.wf, ints_length, ints_wfs, rows_length, rows_wfs, capMax, and_true, true_and] at hwf hlw
  repeat' (first | simp only [go_sem, Ret_eq Try.results176] | simp (disch := omega) only [arith, IntKind.bits, capMax, fill_len, elt_fill] | fail)
  refine awpI_while (σ := Nat × List Int) (fun x => b - x.1) (fun x => a + 1 ≤ x.1 ∧ Sw a b l x.2 ∧ Sd a x.1 x.2) (fun x => [(6, .v (.int .i64 x.1))]) (fun x => [(0, own16 x.2)]) [0, 1, 2, 100000] [] (a + 1, l) _ (Weak.refl _) ⟨Nat.le_refl _, .refl _, fun p q h1 h2 h3 => by omega⟩ ?_ ?_ ?_
  · simp only [go_sem, Ret_eq Try.results176]
  · simp only [go_sem, Ret_eq Try.results176]
  · rintro ⟨i, l1⟩ s ⟨hi, hsw, hsd⟩ hs
    simp only [go_sem, Ret_eq Try.results176] at hs
    dsimp only at hi hsw hsd
    have hl1 := hsw.length
    by_cases hib : i < b
    · repeat' (first | simp only [go_sem, hs, Ret_eq Try.results176] | simp (disch := omega) only [arith, IntKind.bits, capMax, fill_len, elt_fill] | fail)
      refine awpI_while (σ := Nat × List Int) (fun x => x.1) (fun x => (a ≤ x.1 ∧ x.1 ≤ i) ∧ Sw a b l x.2 ∧ Ins a x.1 i x.2) (fun x => [(7, .v (.int .i64 x.1))]) (fun x => [(0, own16 x.2)]) [0, 1, 2, 6, 100000] [] (i, l1) _ (Weak.refl _) ⟨⟨by omega, Nat.le_refl _⟩, hsw, Ins.start hsd⟩ ?_ ?_ ?_
      · simp only [go_sem, hs, Ret_eq Try.results176]
      · simp only [go_sem, hs, Ret_eq Try.results176]
      · rintro ⟨j, l2⟩ s2 ⟨⟨hj1, hj2⟩, hsw2, hins⟩ hs2
        simp only [go_sem, hs, Ret_eq Try.results176] at hs2
        dsimp only at hj1 hj2 hsw2 hins
        have hl2 := hsw2.length
        by_cases hja : a < j
        · have hls := lessS16_fun (l2.getD j 0) (l2.getD (j - 1) 0)
          have ej : (j : Int) - 1 = ((j - 1 : Nat) : Int) := by omega
          by_cases hlt : l2.getD j 0 < l2.getD (j - 1) 0
          · rw [decide_eq_true hlt] at hls
            have e1 := sw_length (l := l2) (i := j) (j := j - 1)
            have e4 : (l2.set j (l2.getD (j - 1) 0)).length = l2.length := List.length_set
            have e2 : (l2.set j (l2.getD (j - 1) 0)).set (j - 1) (l2.getD j 0) = sw l2 j (j - 1) := rfl
            have e3 := sw_comm (l := l2) (i := j) (j := j - 1)
            repeat' (first | simp only [go_sem, hs, hs2, ej, hl2, e2, e3, List.length_set, Ret_eq Try.results176] | simp (disch := omega) only [arith, IntKind.bits, capMax, fill_len, elt_fill] | (refine awpI_draw2 (id := 4) (.one false 0 (.one false 1 (.one false 2 (.one false 3 (.one false 4 (.one false 5 (.one false 6 (.one false 7 (.one false 8 (.one false 9 (.one false 10 (.one false 11 (.one false 12 (.only 13 (.one false 14 .done))))))))))))))) mixed (by decide +kernel) (by decide +kernel) ?_) | (refine awpI_draw2 (id := 6) (.one false 0 (.one false 1 (.one false 5 (.one false 6 (.one false 7 (.one false 8 (.one false 9 (.one false 10 (.one false 11 (.one false 12 (.one false 13 (.one false 14 (.mv 2 (.mv 3 (.cal 4 [15] (.only 15 (.one false 16 (.only 17 .done)))))))))))))))))) mixed (by decide +kernel) (by decide +kernel) ?_) | (refine opCallI_rd (by simp only [go_sem, hs, hs2, ej, hl2, e2, e3, List.length_set, Ret_eq Try.results176]; first | done | rfl) (hls) (by rintro _ rfl; rfl) ?_; rintro _ rfl) | fail)
            all_goals
              refine AgainW.to (j - 1, sw l2 j (j - 1)) ?_ ?_ ?_
              · show j - 1 < j; omega
              · exact ⟨⟨by show a ≤ j - 1; omega, by show j - 1 ≤ i; omega⟩, .step j (j - 1) hsw2 ⟨by omega, by omega⟩ ⟨by omega, by omega⟩ (by omega), hins.step hja hj2 (by omega) hlt⟩
              · simp only [go_sem, hs, hs2, Ret_eq Try.results176]
          · rw [decide_eq_false hlt] at hls
            repeat' (first | simp only [go_sem, hs, hs2, ej, hl2, Ret_eq Try.results176] | simp (disch := omega) only [arith, IntKind.bits, capMax, fill_len, elt_fill] | (refine awpI_draw2 (id := 4) (.one false 0 (.one false 1 (.one false 2 (.one false 3 (.one false 4 (.one false 5 (.one false 6 (.one false 7 (.one false 8 (.one false 9 (.one false 10 (.one false 11 (.one false 12 (.only 13 (.one false 14 .done))))))))))))))) mixed (by decide +kernel) (by decide +kernel) ?_) | (refine opCallI_rd (by simp only [go_sem, hs, hs2, ej, hl2, Ret_eq Try.results176]; first | done | rfl) (hls) (by rintro _ rfl; rfl) ?_; rintro _ rfl) | fail)
            all_goals
              refine AgainW.to (i + 1, l2) ?_ ?_ ?_
              · show b - (i + 1) < b - i; omega
              · exact ⟨by show a + 1 ≤ i + 1; omega, hsw2, hins.done (.inr (by omega))⟩
              · simp only [go_sem, hs, hs2, Ret_eq Try.results176]
        · repeat' (first | simp only [go_sem, hs, hs2, Ret_eq Try.results176] | simp (disch := omega) only [arith, IntKind.bits, capMax, fill_len, elt_fill] | (refine awpI_draw2 (id := 4) (.one false 0 (.one false 1 (.one false 2 (.one false 3 (.one false 4 (.one false 5 (.one false 6 (.one false 7 (.one false 8 (.one false 9 (.one false 10 (.one false 11 (.one false 12 (.only 13 (.one false 14 .done))))))))))))))) mixed (by decide +kernel) (by decide +kernel) ?_) | fail)
          all_goals
            refine AgainW.to (i + 1, l2) ?_ ?_ ?_
            · show b - (i + 1) < b - i; omega
            · exact ⟨by show a + 1 ≤ i + 1; omega, hsw2, hins.done (.inl (by omega))⟩
            · simp only [go_sem, hs, hs2, Ret_eq Try.results176]
    · repeat' (first | simp only [go_sem, hs, Ret_eq Try.results176] | simp (disch := omega) only [arith, IntKind.bits, capMax, fill_len, elt_fill] | refine RetL_calc Try.results176 rfl ?_ | fail)
      all_goals exact ⟨rfl, l1, rfl, hsw, fun p q h1 h2 h3 => hsd p q h1 h2 (by omega)⟩
end Go.Proofs.Ytpkampecmlpfmaa.T

end
section
set_option linter.unusedSimpArgs false
set_option linter.unusedVariables false
/- Sorting a list as a heap; a span turned about; walked. -/
namespace Go.Proofs.Ytpkampecmlpfmaa.T
open Go Go.VL Go.Proofs
set_option maxRecDepth 100000
set_option maxHeartbeats 4000000

theorem reverse16 (l : List Int) (a b : Nat) (hab : a ≤ b) (hb : b ≤ l.length) (h1 : 1 ≤ b) (hl : l.length ≤ 1000000) : FunL Try.prog 180 [.ref 0 l.length, .v (.int .i64 a), .v (.int .i64 b)] [own16 l] fun r os =>
    r = .tup [] ∧ ∃ l', os = [own16 l'] ∧ Sw a b l l' := by
  refine FunL.of_awpI [(100000, 0)] rfl Try.func180 rfl cal180 Try.ntmps180 (by simp) fun hwf hlw ls => ?_
  simp only [lentWf, D.wfs, D.wf, ints_length, ints_wfs, rows_length, rows_wfs, capMax, and_true, true_and] at hwf hlw
  have e0 : (b : Int) - 1 = ((b - 1 : Nat) : Int) := by omega
  repeat' (first | simp only [go_sem, e0, Ret_eq Try.results180] | simp (disch := omega) only [arith, IntKind.bits, capMax, fill_len, elt_fill] | fail)
  refine awpI_while (σ := Nat × Nat × List Int) (fun x => x.2.1 - x.1) (fun x => a ≤ x.1 ∧ x.2.1 < b ∧ Sw a b l x.2.2) (fun x => [(6, .v (.int .i64 x.1)), (7, .v (.int .i64 x.2.1))]) (fun x => [(0, own16 x.2.2)]) [0, 100000] [] (a, b - 1, l) _ (Weak.refl _) ⟨Nat.le_refl _, by show b - 1 < b; omega, .refl _⟩ ?_ ?_ ?_
  · simp only [go_sem, Ret_eq Try.results180]
  · simp only [go_sem, Ret_eq Try.results180]
  · rintro ⟨i, j, l1⟩ s ⟨hi, hj, hsw⟩ hs
    simp only [go_sem, Ret_eq Try.results180] at hs
    dsimp only at hi hj hsw
    have hl1 := hsw.length
    by_cases hij : i < j
    · have ej : (j : Int) - 1 = ((j - 1 : Nat) : Int) := by omega
      have e2 : (l1.set i (l1.getD j 0)).set j (l1.getD i 0) = sw l1 i j := rfl
      have e4 : (l1.set i (l1.getD j 0)).length = l1.length := List.length_set
      repeat' (first | simp only [go_sem, hs, ej, hl1, e2, List.length_set, Ret_eq Try.results180] | simp (disch := omega) only [arith, IntKind.bits, capMax, fill_len, elt_fill] | (refine awpI_draw2 (id := 3) (.one false 0 (.one false 1 (.one false 4 (.one false 5 (.one false 6 (.one false 7 (.one false 8 (.one false 9 (.one false 10 (.one false 11 (.one false 12 (.mv 2 (.mv 3 (.only 13 (.one false 14 (.only 15 .done)))))))))))))))) mixed (by decide +kernel) (by decide +kernel) ?_) | fail)
      all_goals
        refine AgainW.to (i + 1, j - 1, sw l1 i j) ?_ ?_ ?_
        · show j - 1 - (i + 1) < j - i; omega
        · exact ⟨by show a ≤ i + 1; omega, by show j - 1 < b; omega, .step i j hsw ⟨hi, by omega⟩ ⟨by omega, hj⟩ (by omega)⟩
        · simp only [go_sem, hs, Ret_eq Try.results180]
    · repeat' (first | simp only [go_sem, hs, Ret_eq Try.results180] | simp (disch := omega) only [arith, IntKind.bits, capMax, fill_len, elt_fill] | refine RetL_calc Try.results180 rfl ?_ | fail)
      all_goals exact ⟨rfl, l1, rfl, hsw⟩

theorem sift16 (l : List Int) (lo hi f : Nat) (hh : Hp (lo + 1) hi f l) (hb : f + hi ≤ l.length) (hlo : lo ≤ hi) (hl : l.length ≤ 1000000) : FunL Try.prog 190 [.ref 0 l.length, .v (.int .i64 lo), .v (.int .i64 hi), .v (.int .i64 f)] [own16 l] fun r os =>
    r = .tup [] ∧ ∃ l', os = [own16 l'] ∧ Sw f (f + hi) l l' ∧ Hp lo hi f l' := by
  refine FunL.of_awpI [(100000, 0)] rfl Try.func190 rfl cal190 Try.ntmps190 (by simp) fun hwf hlw ls => ?_
  simp only [lentWf, D.wfs, D.wf, ints_length, ints_wfs, rows_length, rows_wfs, capMax, and_true, true_and] at hwf hlw
  repeat' (first | simp only [go_sem, Ret_eq Try.results190] | fail)
  refine awpI_while (σ := Nat × List Int) (fun x => hi - x.1) (fun x => (lo ≤ x.1 ∧ x.1 ≤ hi) ∧ Sw f (f + hi) l x.2 ∧ HpEx lo hi f x.1 x.2) (fun x => [(8, .v (.int .i64 x.1))]) (fun x => [(0, own16 x.2)]) [0, 2, 3, 100000] [] (lo, l) _ (Weak.refl _) ⟨⟨Nat.le_refl _, hlo⟩, .refl _, HpEx.start hh⟩ ?_ ?_ ?_
  · simp only [go_sem, Ret_eq Try.results190]
  · simp only [go_sem, Ret_eq Try.results190]
  · rintro ⟨r, l1⟩ s ⟨⟨hr1, hr2⟩, hsw, hex⟩ hs
    simp only [go_sem, Ret_eq Try.results190] at hs
    dsimp only at hr1 hr2 hsw hex
    have hl1 := hsw.length
    have er : (2 : Int) * (r : Int) + 1 = ((2 * r + 1 : Nat) : Int) := by omega
    have er1 : ((2 * r + 1 : Nat) : Int) + 1 = ((2 * r + 2 : Nat) : Int) := by omega
    have f0 : (f : Int) + (r : Int) = ((f + r : Nat) : Int) := by omega
    have f1 : (f : Int) + ((2 * r + 1 : Nat) : Int) = ((f + (2 * r + 1) : Nat) : Int) := by omega
    have f2 : (f : Int) + ((2 * r + 2 : Nat) : Int) = ((f + (2 * r + 2) : Nat) : Int) := by omega
    have f3 : ((f + (2 * r + 1) : Nat) : Int) + 1 = ((f + (2 * r + 2) : Nat) : Int) := by omega
    by_cases hc : 2 * r + 1 < hi
    · by_cases hc2 : 2 * r + 2 < hi ∧ l1.getD (f + (2 * r + 1)) 0 < l1.getD (f + (2 * r + 2)) 0
      · obtain ⟨hc2, hlt⟩ := hc2
        have hls := lessS16_fun (l1.getD (f + (2 * r + 1)) 0) (l1.getD (f + (2 * r + 2)) 0)
        rw [decide_eq_true hlt] at hls
        have hls2 := lessS16_fun (l1.getD (f + r) 0) (l1.getD (f + (2 * r + 2)) 0)
        have hd : ∀ d, (d = 2 * r + 1 ∨ d = 2 * r + 2) → d < hi → l1.getD (f + d) 0 ≤ l1.getD (f + (2 * r + 2)) 0 := fun d h1 h2 => by
          rcases h1 with rfl | rfl <;> omega
        by_cases hlt2 : l1.getD (f + r) 0 < l1.getD (f + (2 * r + 2)) 0
        · rw [decide_eq_true hlt2] at hls2
          have e2 : (l1.set (f + r) (l1.getD (f + (2 * r + 2)) 0)).set (f + (2 * r + 2)) (l1.getD (f + r) 0) = sw l1 (f + r) (f + (2 * r + 2)) := rfl
          have e4 : (l1.set (f + r) (l1.getD (f + (2 * r + 2)) 0)).length = l1.length := List.length_set
          repeat' (first | simp only [go_sem, hs, hl1, er, er1, f0, f1, f2, f3, e2, List.length_set, Ret_eq Try.results190] | simp (disch := omega) only [arith, IntKind.bits, capMax, fill_len, elt_fill] | (refine awpI_draw2 (id := 3) (.one false 0 (.one false 1 (.one false 2 (.one false 3 (.one false 4 (.one false 5 (.one false 6 (.one false 7 (.one false 8 (.one false 9 (.one false 10 (.one false 11 (.one false 12 (.one false 13 (.one false 14 (.one false 15 (.one false 16 (.one false 17 (.only 18 (.one false 19 .done)))))))))))))))))))) mixed (by decide +kernel) (by decide +kernel) ?_) | (refine awpI_draw2 (id := 5) (.one false 0 (.one false 1 (.one false 2 (.one false 3 (.one false 4 (.one false 5 (.one false 6 (.one false 7 (.one false 8 (.one false 9 (.one false 10 (.one false 11 (.only 12 (.one false 13 .done)))))))))))))) mixed (by decide +kernel) (by decide +kernel) ?_) | (refine awpI_draw2 (id := 6) (.one false 0 (.one false 1 (.one false 2 (.one false 3 (.one false 8 (.one false 9 (.one false 10 (.one false 11 (.one false 12 (.one false 13 (.one false 14 (.one false 15 (.one false 16 (.one false 17 (.one false 18 (.one false 19 (.one false 20 (.mv 4 (.mv 5 (.mv 6 (.cal 7 [21] (.only 21 (.one false 22 (.only 23 .done)))))))))))))))))))))))) mixed (by decide +kernel) (by decide +kernel) ?_) | (refine opCallI_rd (by simp only [go_sem, hs, hl1, er, er1, f0, f1, f2, f3, e2, List.length_set, Ret_eq Try.results190]; first | done | rfl) (hls) (by rintro _ rfl; rfl) ?_; rintro _ rfl) | (refine opCallI_rd (by simp only [go_sem, hs, hl1, er, er1, f0, f1, f2, f3, e2, List.length_set, Ret_eq Try.results190]; first | done | rfl) (hls2) (by rintro _ rfl; rfl) ?_; rintro _ rfl) | fail)
          all_goals
            refine AgainW.to (2 * r + 2, sw l1 (f + r) (f + (2 * r + 2))) ?_ ?_ ?_
            · show hi - (2 * r + 2) < hi - r; omega
            · exact ⟨⟨by show lo ≤ 2 * r + 2; omega, by show 2 * r + 2 ≤ hi; omega⟩, .step _ _ hsw ⟨by omega, by omega⟩ ⟨by omega, by omega⟩ (by omega), hex.step hr1 (.inr rfl) hc2 hd hlt2 (by omega)⟩
            · simp only [go_sem, hs, Ret_eq Try.results190]
        · rw [decide_eq_false hlt2] at hls2
          repeat' (first | simp only [go_sem, hs, hl1, er, er1, f0, f1, f2, f3, Ret_eq Try.results190] | simp (disch := omega) only [arith, IntKind.bits, capMax, fill_len, elt_fill] | refine RetL_calc Try.results190 rfl ?_ | (refine awpI_draw2 (id := 3) (.one false 0 (.one false 1 (.one false 2 (.one false 3 (.one false 4 (.one false 5 (.one false 6 (.one false 7 (.one false 8 (.one false 9 (.one false 10 (.one false 11 (.one false 12 (.one false 13 (.one false 14 (.one false 15 (.one false 16 (.one false 17 (.only 18 (.one false 19 .done)))))))))))))))))))) mixed (by decide +kernel) (by decide +kernel) ?_) | (refine awpI_draw2 (id := 5) (.one false 0 (.one false 1 (.one false 2 (.one false 3 (.one false 4 (.one false 5 (.one false 6 (.one false 7 (.one false 8 (.one false 9 (.one false 10 (.one false 11 (.only 12 (.one false 13 .done)))))))))))))) mixed (by decide +kernel) (by decide +kernel) ?_) | (refine opCallI_rd (by simp only [go_sem, hs, hl1, er, er1, f0, f1, f2, f3, Ret_eq Try.results190]; first | done | rfl) (hls) (by rintro _ rfl; rfl) ?_; rintro _ rfl) | (refine opCallI_rd (by simp only [go_sem, hs, hl1, er, er1, f0, f1, f2, f3, Ret_eq Try.results190]; first | done | rfl) (hls2) (by rintro _ rfl; rfl) ?_; rintro _ rfl) | fail)
          all_goals exact ⟨rfl, l1, rfl, hsw, hex.done fun d h1 h2 => by have := hd d h1 h2; omega⟩
      · have hls2 := lessS16_fun (l1.getD (f + r) 0) (l1.getD (f + (2 * r + 1)) 0)
        have hd : ∀ d, (d = 2 * r + 1 ∨ d = 2 * r + 2) → d < hi → l1.getD (f + d) 0 ≤ l1.getD (f + (2 * r + 1)) 0 := fun d h1 h2 => by
          rcases h1 with rfl | rfl
          · exact Int.le_refl _
          · refine Int.not_lt.1 fun q => hc2 ⟨h2, q⟩
        have hls := lessS16_fun (l1.getD (f + (2 * r + 1)) 0) (l1.getD (f + (2 * r + 2)) 0)
        by_cases hlt2 : l1.getD (f + r) 0 < l1.getD (f + (2 * r + 1)) 0
        · rw [decide_eq_true hlt2] at hls2
          have e2 : (l1.set (f + r) (l1.getD (f + (2 * r + 1)) 0)).set (f + (2 * r + 1)) (l1.getD (f + r) 0) = sw l1 (f + r) (f + (2 * r + 1)) := rfl
          have e4 : (l1.set (f + r) (l1.getD (f + (2 * r + 1)) 0)).length = l1.length := List.length_set
          by_cases hc3 : 2 * r + 2 < hi
          · rw [decide_eq_false (fun q => hc2 ⟨hc3, q⟩)] at hls
            repeat' (first | simp only [go_sem, hs, hl1, er, er1, f0, f1, f2, f3, e2, List.length_set, Ret_eq Try.results190] | simp (disch := omega) only [arith, IntKind.bits, capMax, fill_len, elt_fill] | (refine awpI_draw2 (id := 3) (.one false 0 (.one false 1 (.one false 2 (.one false 3 (.one false 4 (.one false 5 (.one false 6 (.one false 7 (.one false 8 (.one false 9 (.one false 10 (.one false 11 (.one false 12 (.one false 13 (.one false 14 (.one false 15 (.one false 16 (.one false 17 (.only 18 (.one false 19 .done)))))))))))))))))))) mixed (by decide +kernel) (by decide +kernel) ?_) | (refine awpI_draw2 (id := 5) (.one false 0 (.one false 1 (.one false 2 (.one false 3 (.one false 4 (.one false 5 (.one false 6 (.one false 7 (.one false 8 (.one false 9 (.one false 10 (.one false 11 (.only 12 (.one false 13 .done)))))))))))))) mixed (by decide +kernel) (by decide +kernel) ?_) | (refine awpI_draw2 (id := 6) (.one false 0 (.one false 1 (.one false 2 (.one false 3 (.one false 8 (.one false 9 (.one false 10 (.one false 11 (.one false 12 (.one false 13 (.one false 14 (.one false 15 (.one false 16 (.one false 17 (.one false 18 (.one false 19 (.one false 20 (.mv 4 (.mv 5 (.mv 6 (.cal 7 [21] (.only 21 (.one false 22 (.only 23 .done)))))))))))))))))))))))) mixed (by decide +kernel) (by decide +kernel) ?_) | (refine opCallI_rd (by simp only [go_sem, hs, hl1, er, er1, f0, f1, f2, f3, e2, List.length_set, Ret_eq Try.results190]; first | done | rfl) (hls) (by rintro _ rfl; rfl) ?_; rintro _ rfl) | (refine opCallI_rd (by simp only [go_sem, hs, hl1, er, er1, f0, f1, f2, f3, e2, List.length_set, Ret_eq Try.results190]; first | done | rfl) (hls2) (by rintro _ rfl; rfl) ?_; rintro _ rfl) | fail)
            all_goals
              refine AgainW.to (2 * r + 1, sw l1 (f + r) (f + (2 * r + 1))) ?_ ?_ ?_
              · show hi - (2 * r + 1) < hi - r; omega
              · exact ⟨⟨by show lo ≤ 2 * r + 1; omega, by show 2 * r + 1 ≤ hi; omega⟩, .step _ _ hsw ⟨by omega, by omega⟩ ⟨by omega, by omega⟩ (by omega), hex.step hr1 (.inl rfl) hc hd hlt2 (by omega)⟩
              · simp only [go_sem, hs, Ret_eq Try.results190]
          · repeat' (first | simp only [go_sem, hs, hl1, er, er1, f0, f1, f2, f3, e2, List.length_set, Ret_eq Try.results190] | simp (disch := omega) only [arith, IntKind.bits, capMax, fill_len, elt_fill] | (refine awpI_draw2 (id := 3) (.one false 0 (.one false 1 (.one false 2 (.one false 3 (.one false 4 (.one false 5 (.one false 6 (.one false 7 (.one false 8 (.one false 9 (.one false 10 (.one false 11 (.one false 12 (.one false 13 (.one false 14 (.one false 15 (.one false 16 (.one false 17 (.only 18 (.one false 19 .done)))))))))))))))))))) mixed (by decide +kernel) (by decide +kernel) ?_) | (refine awpI_draw2 (id := 5) (.one false 0 (.one false 1 (.one false 2 (.one false 3 (.one false 4 (.one false 5 (.one false 6 (.one false 7 (.one false 8 (.one false 9 (.one false 10 (.one false 11 (.only 12 (.one false 13 .done)))))))))))))) mixed (by decide +kernel) (by decide +kernel) ?_) | (refine awpI_draw2 (id := 6) (.one false 0 (.one false 1 (.one false 2 (.one false 3 (.one false 8 (.one false 9 (.one false 10 (.one false 11 (.one false 12 (.one false 13 (.one false 14 (.one false 15 (.one false 16 (.one false 17 (.one false 18 (.one false 19 (.one false 20 (.mv 4 (.mv 5 (.mv 6 (.cal 7 [21] (.only 21 (.one false 22 (.only 23 .done)))))))))))))))))))))))) mixed (by decide +kernel) (by decide +kernel) ?_) | (refine opCallI_rd (by simp only [go_sem, hs, hl1, er, er1, f0, f1, f2, f3, e2, List.length_set, Ret_eq Try.results190]; first | done | rfl) (hls2) (by rintro _ rfl; rfl) ?_; rintro _ rfl) | fail)
            all_goals
              refine AgainW.to (2 * r + 1, sw l1 (f + r) (f + (2 * r + 1))) ?_ ?_ ?_
              · show hi - (2 * r + 1) < hi - r; omega
              · exact ⟨⟨by show lo ≤ 2 * r + 1; omega, by show 2 * r + 1 ≤ hi; omega⟩, .step _ _ hsw ⟨by omega, by omega⟩ ⟨by omega, by omega⟩ (by omega), hex.step hr1 (.inl rfl) hc hd hlt2 (by omega)⟩
              · simp only [go_sem, hs, Ret_eq Try.results190]
        · rw [decide_eq_false hlt2] at hls2
          by_cases hc3 : 2 * r + 2 < hi
          · rw [decide_eq_false (fun q => hc2 ⟨hc3, q⟩)] at hls
            repeat' (first | simp only [go_sem, hs, hl1, er, er1, f0, f1, f2, f3, Ret_eq Try.results190] | simp (disch := omega) only [arith, IntKind.bits, capMax, fill_len, elt_fill] | refine RetL_calc Try.results190 rfl ?_ | (refine awpI_draw2 (id := 3) (.one false 0 (.one false 1 (.one false 2 (.one false 3 (.one false 4 (.one false 5 (.one false 6 (.one false 7 (.one false 8 (.one false 9 (.one false 10 (.one false 11 (.one false 12 (.one false 13 (.one false 14 (.one false 15 (.one false 16 (.one false 17 (.only 18 (.one false 19 .done)))))))))))))))))))) mixed (by decide +kernel) (by decide +kernel) ?_) | (refine awpI_draw2 (id := 5) (.one false 0 (.one false 1 (.one false 2 (.one false 3 (.one false 4 (.one false 5 (.one false 6 (.one false 7 (.one false 8 (.one false 9 (.one false 10 (.one false 11 (.only 12 (.one false 13 .done)))))))))))))) mixed (by decide +kernel) (by decide +kernel) ?_) | (refine opCallI_rd (by simp only [go_sem, hs, hl1, er, er1, f0, f1, f2, f3, Ret_eq Try.results190]; first | done | rfl) (hls) (by rintro _ rfl; rfl) ?_; rintro _ rfl) | (refine opCallI_rd (by simp only [go_sem, hs, hl1, er, er1, f0, f1, f2, f3, Ret_eq Try.results190]; first | done | rfl) (hls2) (by rintro _ rfl; rfl) ?_; rintro _ rfl) | fail)
            all_goals exact ⟨rfl, l1, rfl, hsw, hex.done fun d h1 h2 => by have := hd d h1 h2; omega⟩
          · repeat' (first | simp only [go_sem, hs, hl1, er, er1, f0, f1, f2, f3, Ret_eq Try.results190] | simp (disch := omega) only [arith, IntKind.bits, capMax, fill_len, elt_fill] | refine RetL_calc Try.results190 rfl ?_ | (refine awpI_draw2 (id := 3) (.one false 0 (.one false 1 (.one false 2 (.one false 3 (.one false 4 (.one false 5 (.one false 6 (.one false 7 (.one false 8 (.one false 9 (.one false 10 (.one false 11 (.one false 12 (.one false 13 (.one false 14 (.one false 15 (.one false 16 (.one false 17 (.only 18 (.one false 19 .done)))))))))))))))))))) mixed (by decide +kernel) (by decide +kernel) ?_) | (refine awpI_draw2 (id := 5) (.one false 0 (.one false 1 (.one false 2 (.one false 3 (.one false 4 (.one false 5 (.one false 6 (.one false 7 (.one false 8 (.one false 9 (.one false 10 (.one false 11 (.only 12 (.one false 13 .done)))))))))))))) mixed (by decide +kernel) (by decide +kernel) ?_) | (refine opCallI_rd (by simp only [go_sem, hs, hl1, er, er1, f0, f1, f2, f3, Ret_eq Try.results190]; first | done | rfl) (hls2) (by rintro _ rfl; rfl) ?_; rintro _ rfl) | fail)
            all_goals exact ⟨rfl, l1, rfl, hsw, hex.done fun d h1 h2 => by have := hd d h1 h2; omega⟩
    · repeat' (first | simp only [go_sem, hs, er, Ret_eq Try.results190] | simp (disch := omega) only [arith, IntKind.bits, capMax, fill_len, elt_fill] | refine RetL_calc Try.results190 rfl ?_ | fail)
      all_goals exact ⟨rfl, l1, rfl, hsw, hex.done fun d h1 h2 => by omega⟩
end Go.Proofs.Ytpkampecmlpfmaa.T

end
section
set_option linter.unusedSimpArgs false
set_option linter.unusedVariables false
/- Sorting a list as a heap, walked. -/
namespace Go.Proofs.Ytpkampecmlpfmaa.T
open Go Go.VL Go.Proofs
set_option maxRecDepth 100000
set_option maxHeartbeats 4000000

theorem heap16 (l : List Int) (a b : Nat) (hab : a < b) (hb : b ≤ l.length) (hl : l.length ≤ 1000000) : FunL Try.prog 177 [.ref 0 l.length, .v (.int .i64 a), .v (.int .i64 b)] [own16 l] fun r os =>
    r = .tup [] ∧ ∃ l', os = [own16 l'] ∧ Sw a b l l' ∧ Sd a b l' := by
  refine FunL.of_awpI [(100000, 0)] rfl Try.func177 rfl cal177 Try.ntmps177 (by simp) fun hwf hlw ls => ?_
  simp only [lentWf, D.wfs, D.wf, ints_length, ints_wfs, rows_length, rows_wfs, capMax, and_true, true_and] at hwf hlw
  obtain ⟨n, rfl⟩ : ∃ n, b = a + n := ⟨b - a, by omega⟩
  have e0 : ((a + n : Nat) : Int) - (a : Int) = ((n : Nat) : Int) := by omega
  have e1 : (n : Int) - 1 = ((n - 1 : Nat) : Int) := by omega
  have e2 : ((n - 1 : Nat) : Int).tdiv 2 = (((n - 1) / 2 : Nat) : Int) := by
    rw [Int.tdiv_eq_ediv_of_nonneg (by omega)]; omega
  repeat' (first | simp only [go_sem, e0, e1, e2, Ret_eq Try.results177] | simp (disch := omega) only [arith, IntKind.bits, capMax, fill_len, elt_fill] | fail)
  refine awpI_while (σ := Nat × List Int) (fun x => x.1) (fun x => x.1 ≤ (n - 1) / 2 + 1 ∧ Sw a (a + n) l x.2 ∧ Hp x.1 n a x.2) (fun x => [(9, .v (.int .i64 ((x.1 : Int) - 1)))]) (fun x => [(0, own16 x.2)]) [0, 6, 7, 8, 100000] [] ((n - 1) / 2 + 1, l) _ (Weak.refl _) ⟨Nat.le_refl _, .refl _, fun k c h1 h2 h3 => by omega⟩ ?_ ?_ ?_
  · simp only [go_sem, e2, Ret_eq Try.results177]
    all_goals omega
  · simp only [go_sem, Ret_eq Try.results177]
  · rintro ⟨k, l1⟩ s ⟨hk, hsw, hhp⟩ hs
    simp only [go_sem, Ret_eq Try.results177] at hs
    dsimp only at hk hsw hhp
    have hl1 := hsw.length
    by_cases hk0 : 1 ≤ k
    · obtain ⟨q, rfl⟩ : ∃ q, k = q + 1 := ⟨k - 1, by omega⟩
      have ek : ((q + 1 : Nat) : Int) - 1 = ((q : Nat) : Int) := by omega
      have hsf := sift16 l1 q n a hhp (by omega) (by omega) (by omega)
      rw [hl1] at hsf
      repeat' (first | simp only [go_sem, hs, ek, hl1, Ret_eq Try.results177] | simp (disch := omega) only [arith, IntKind.bits, capMax, fill_len, elt_fill] | (refine opCallI_lend [0] (by simp only [go_sem, hs, ek, hl1, Ret_eq Try.results177]; first | done | rfl) (by simp only [go_sem, hs, ek, hl1, Ret_eq Try.results177]; first | done | rfl) (by decide) (by simp only [go_sem, hs, ek, hl1, Ret_eq Try.results177]; first | done | decide) (by simp only [go_sem, hs, ek, hl1, Ret_eq Try.results177]; first | done | decide) (hsf) ?_; rintro _ _ ⟨rfl, l2, rfl, hs2, hp2⟩) | fail)
      all_goals
        refine AgainW.to (q, l2) ?_ ?_ ?_
        · show q < q + 1; omega
        · exact ⟨by show q ≤ _; omega, hsw.trans hs2, hp2⟩
        · simp only [go_sem, hs, Ret_eq Try.results177]
    · obtain rfl : k = 0 := by omega
      repeat' (first | simp only [go_sem, hs, e1, Ret_eq Try.results177] | simp (disch := omega) only [arith, IntKind.bits, capMax, fill_len, elt_fill] | fail)
      refine awpI_while (σ := Nat × List Int) (fun x => x.1) (fun x => x.1 ≤ n ∧ Sw a (a + n) l x.2 ∧ Hp 0 x.1 a x.2 ∧ Tl a x.1 n x.2) (fun x => [(10, .v (.int .i64 ((x.1 : Int) - 1)))]) (fun x => [(0, own16 x.2)]) [0, 6, 7, 100000] [] (n, l1) _ (Weak.refl _) ⟨Nat.le_refl _, hsw, hhp, ⟨fun p q h1 h2 h3 => by omega, fun p q h1 h2 h3 => by omega⟩⟩ ?_ ?_ ?_
      · simp only [go_sem, hs, e1, Ret_eq Try.results177]
      · simp only [go_sem, hs, Ret_eq Try.results177]
      · rintro ⟨k, l3⟩ s2 ⟨hk, hsw3, hhp3, htl⟩ hs2
        simp only [go_sem, hs, Ret_eq Try.results177] at hs2
        dsimp only at hk hsw3 hhp3 htl
        have hl3 := hsw3.length
        by_cases hk0 : 1 ≤ k
        · obtain ⟨q, rfl⟩ : ∃ q, k = q + 1 := ⟨k - 1, by omega⟩
          have ek : ((q + 1 : Nat) : Int) - 1 = ((q : Nat) : Int) := by omega
          have ea : (a : Int) + (q : Int) = ((a + q : Nat) : Int) := by omega
          have hslen := sw_length (l := l3) (i := a) (j := a + q)
          have hsf := sift16 (sw l3 a (a + q)) 0 q a (hhp3.swapped (by omega)) (by omega) (by omega) (by omega)
          have e00 : ((0 : Nat) : Int) = 0 := rfl
          rw [hslen, hl3, e00] at hsf
          have e5 : (l3.set a (l3.getD (a + q) 0)).set (a + q) (l3.getD a 0) = sw l3 a (a + q) := rfl
          have e6 : (l3.set a (l3.getD (a + q) 0)).length = l3.length := List.length_set
          repeat' (first | simp only [go_sem, hs, hs2, ek, ea, hl3, e5, List.length_set, Ret_eq Try.results177] | simp (disch := omega) only [arith, IntKind.bits, capMax, fill_len, elt_fill] | (refine awpI_draw2 (id := 10) (.one false 0 (.one false 1 (.one false 6 (.one false 7 (.one false 8 (.one false 9 (.one false 10 (.one false 11 (.one false 12 (.one false 13 (.one false 14 (.one false 15 (.one false 16 (.mv 2 (.mv 3 (.mv 4 (.cal 5 [17] (.only 17 (.one false 18 (.only 19 .done)))))))))))))))))))) mixed (by decide +kernel) (by decide +kernel) ?_) | (refine opCallI_lend [0] (by simp only [go_sem, hs, hs2, ek, ea, hl3, e5, List.length_set, Ret_eq Try.results177]; first | done | rfl) (by simp only [go_sem, hs, hs2, ek, ea, hl3, e5, List.length_set, Ret_eq Try.results177]; first | done | rfl) (by decide) (by simp only [go_sem, hs, hs2, ek, ea, hl3, e5, List.length_set, Ret_eq Try.results177]; first | done | decide) (by simp only [go_sem, hs, hs2, ek, ea, hl3, e5, List.length_set, Ret_eq Try.results177]; first | done | decide) (hsf) ?_; rintro _ _ ⟨rfl, l4, rfl, hs4, hp4⟩) | fail)
          all_goals
            refine AgainW.to (q, l4) ?_ ?_ ?_
            · show q < q + 1; omega
            · exact ⟨by show q ≤ n; omega, (Sw.step a (a + q) hsw3 ⟨by omega, by omega⟩ ⟨by omega, by omega⟩ (by omega)).trans (hs4.mono (by omega) (by omega) (by omega)), hp4, htl.step hhp3 (by omega) (by omega) hs4⟩
            · simp only [go_sem, hs, hs2, Ret_eq Try.results177]
        · obtain rfl : k = 0 := by omega
          repeat' (first | simp only [go_sem, hs, hs2, Ret_eq Try.results177] | simp (disch := omega) only [arith, IntKind.bits, capMax, fill_len, elt_fill] | refine RetL_calc Try.results177 rfl ?_ | fail)
          all_goals exact ⟨rfl, l3, rfl, hsw3, htl.t1⟩
end Go.Proofs.Ytpkampecmlpfmaa.T

end
section
set_option linter.unusedSimpArgs false
set_option linter.unusedVariables false
/- Lists parted, walked. -/
namespace Go.Proofs.Ytpkampecmlpfmaa.T
open Go Go.VL Go.Proofs
set_option maxRecDepth 100000
set_option maxHeartbeats 8000000

theorem partEq16 (l : List Int) (a b v : Nat) (hv : a ≤ v ∧ v < b) (hb : b ≤ l.length) (hl : l.length ≤ 1000000) : FunL Try.prog 182 [.ref 0 l.length, .v (.int .i64 a), .v (.int .i64 b), .v (.int .i64 v)] [own16 l] fun r os =>
    ∃ m : Nat, r = .v (.int .i64 m) ∧ ∃ l', os = [own16 l'] ∧ Sw a b l l' ∧ PartEq a b m (l.getD v 0) l' := by
  obtain ⟨p, hpe⟩ : ∃ p, l.getD v 0 = p := ⟨_, rfl⟩
  rw [hpe]
  refine FunL.of_awpI [(100000, 0)] rfl Try.func182 rfl cal182 Try.ntmps182 (by simp) fun hwf hlw ls => ?_
  simp only [lentWf, D.wfs, D.wf, ints_length, ints_wfs, rows_length, rows_wfs, capMax, and_true, true_and] at hwf hlw
  have e2 : (l.set a (l.getD v 0)).set v (l.getD a 0) = sw l a v := rfl
  have e3 : (l.set a (l.getD v 0)).length = l.length := List.length_set
  have e4 := sw_length (l := l) (i := a) (j := v)
  have eb : (b : Int) - 1 = ((b - 1 : Nat) : Int) := by omega
  have hp : (sw l a v).getD a 0 = l.getD v 0 := by
    rw [sw_getD (by omega) (by omega)]
    by_cases q : a = v
    · rw [if_pos q, q]
    · rw [if_neg q, if_pos rfl]
  rw [hpe] at hp
  have hP0 : Pe a b (a + 1) (b - 1) p (sw l a v) := by
    refine ⟨hp, fun k k1 k2 => ?_, fun k k1 k2 => by omega, by omega, by omega, by omega⟩
    obtain rfl : k = a := by omega
    exact Int.le_of_eq hp
  have hS0 : Sw a b l (sw l a v) := .step a v (.refl _) ⟨Nat.le_refl _, by omega⟩ hv hb
  repeat' (first | simp only [go_sem, e2, eb, List.length_set, Ret_eq Try.results182] | simp (disch := omega) only [arith, IntKind.bits, capMax, fill_len, elt_fill] | (refine awpI_draw2 (id := 1) (.one false 0 (.one false 1 (.one false 4 (.one false 5 (.one false 6 (.one false 7 (.one false 8 (.one false 9 (.one false 10 (.one false 11 (.one false 12 (.mv 2 (.mv 3 (.only 13 (.one false 14 (.only 15 .done)))))))))))))))) mixed (by decide +kernel) (by decide +kernel) ?_) | fail)
  refine awpI_while (σ := Nat × Nat × List Int) (fun x => x.2.1 + 1 - x.1) (fun x => Sw a b l x.2.2 ∧ Pe a b x.1 x.2.1 p x.2.2) (fun x => [(9, .v (.int .i64 x.1)), (10, .v (.int .i64 x.2.1))]) (fun x => [(0, own16 x.2.2)]) [0, 1, 100000] [] (a + 1, b - 1, sw l a v) _ (Weak.refl _) ⟨hS0, hP0⟩ ?_ ?_ ?_
  · simp only [go_sem, Ret_eq Try.results182]
  · simp only [go_sem, Ret_eq Try.results182]
  · rintro ⟨i, j, l1⟩ s ⟨hsw, hP⟩ hs
    simp only [go_sem, Ret_eq Try.results182] at hs
    dsimp only at hsw hP
    have hL := hsw.length
    repeat' (first | simp only [go_sem, hs, Ret_eq Try.results182] | fail)
    refine awpI_while (σ := Nat) (fun x => j + 1 - x) (fun x => i ≤ x ∧ Pe a b x j p l1) (fun x => [(9, .v (.int .i64 x))]) (fun _ => []) [0, 1, 10, 100000] [0] i _ (Weak.refl _) ⟨Nat.le_refl _, hP⟩ ?_ ?_ ?_
    · simp only [go_sem, hs, Ret_eq Try.results182]
    · simp only [go_sem, hs, Ret_eq Try.results182]
    · rintro i2 s2 ⟨hges2, hPi2⟩ hs2
      simp only [go_sem, hs, Ret_eq Try.results182] at hs2
      have his2 := hPi2.hi
      have hjs2 := hPi2.hj
      have hijs2 := hPi2.hij
      have has2 := hPi2.ha
      have hlss2 := lessS16_fun p (l1.getD i2 0)
      by_cases qs2 : i2 ≤ j
      · by_cases rs2 : ¬ p < l1.getD i2 0
        · rw [decide_eq_false rs2] at hlss2
          repeat' (first | simp only [go_sem, hs, hs2, hL, has2, Ret_eq Try.results182] | simp (disch := omega) only [arith, IntKind.bits, capMax, fill_len, elt_fill] | (refine awpI_draw2 (id := 3) (.one false 0 (.one false 1 (.one false 2 (.one false 3 (.one false 4 (.one false 5 (.one false 6 (.one false 7 (.one false 8 (.one false 9 (.one false 10 (.one false 11 (.only 12 (.one false 13 (.one false 14 .done))))))))))))))) mixed (by decide +kernel) (by decide +kernel) ?_) | (refine opCallI_rd (by simp only [go_sem, hs, hs2, hL, has2, Ret_eq Try.results182]; first | done | rfl) (hlss2) (by rintro _ rfl; rfl) ?_; rintro _ rfl) | fail)
          all_goals
            refine AgainW.to (i2 + 1) ?_ ?_ ?_
            · show j + 1 - (i2 + 1) < j + 1 - i2; omega
            · exact ⟨by show i ≤ i2 + 1; omega, hPi2.up qs2 (by omega)⟩
            · simp only [go_sem, hs, hs2, hL, has2, Ret_eq Try.results182]
        · rw [decide_eq_true (Classical.not_not.1 rs2)] at hlss2
          have xs2 : j < i2 ∨ p < l1.getD i2 0 := .inr (by omega)
          repeat' (first | simp only [go_sem, hs, hs2, hL, has2, Ret_eq Try.results182] | simp (disch := omega) only [arith, IntKind.bits, capMax, fill_len, elt_fill] | (refine awpI_draw2 (id := 3) (.one false 0 (.one false 1 (.one false 2 (.one false 3 (.one false 4 (.one false 5 (.one false 6 (.one false 7 (.one false 8 (.one false 9 (.one false 10 (.one false 11 (.only 12 (.one false 13 (.one false 14 .done))))))))))))))) mixed (by decide +kernel) (by decide +kernel) ?_) | (refine opCallI_rd (by simp only [go_sem, hs, hs2, hL, has2, Ret_eq Try.results182]; first | done | rfl) (hlss2) (by rintro _ rfl; rfl) ?_; rintro _ rfl) | fail)
          refine awpI_while (σ := Nat) (fun x => x) (fun x => x ≤ j ∧ Pe a b i2 x p l1) (fun x => [(10, .v (.int .i64 x))]) (fun _ => []) [0, 1, 9, 100000] [0] j _ (Weak.refl _) ⟨Nat.le_refl _, hPi2⟩ ?_ ?_ ?_
          · simp only [go_sem, hs, hs2, Ret_eq Try.results182]
          · simp only [go_sem, hs, hs2, Ret_eq Try.results182]
          · rintro j2 s3 ⟨hges3, hPi2j2⟩ hs3
            simp only [go_sem, hs, hs2, Ret_eq Try.results182] at hs3
            have his3 := hPi2j2.hi
            have hjs3 := hPi2j2.hj
            have hijs3 := hPi2j2.hij
            have has3 := hPi2j2.ha
            have hlss3 := lessS16_fun p (l1.getD j2 0)
            by_cases qs3 : i2 ≤ j2
            · have ejs3 : (j2 : Int) - 1 = ((j2 - 1 : Nat) : Int) := by omega
              by_cases rs3 : p < l1.getD j2 0
              · rw [decide_eq_true rs3] at hlss3
                repeat' (first | simp only [go_sem, hs, hs2, hs3, hL, has3, ejs3, Ret_eq Try.results182] | simp (disch := omega) only [arith, IntKind.bits, capMax, fill_len, elt_fill] | (refine awpI_draw2 (id := 5) (.one false 0 (.one false 1 (.one false 2 (.one false 3 (.one false 4 (.one false 5 (.one false 6 (.one false 7 (.one false 8 (.one false 9 (.one false 10 (.one false 11 (.only 12 (.one false 13 .done)))))))))))))) mixed (by decide +kernel) (by decide +kernel) ?_) | (refine opCallI_rd (by simp only [go_sem, hs, hs2, hs3, hL, has3, ejs3, Ret_eq Try.results182]; first | done | rfl) (hlss3) (by rintro _ rfl; rfl) ?_; rintro _ rfl) | fail)
                all_goals
                  refine AgainW.to (j2 - 1) ?_ ?_ ?_
                  · show j2 - 1 < j2; omega
                  · exact ⟨by show j2 - 1 ≤ j; omega, hPi2j2.down qs3 (by omega)⟩
                  · simp only [go_sem, hs, hs2, hs3, hL, has3, Ret_eq Try.results182]
              · rw [decide_eq_false rs3] at hlss3
                have xs3 : l1.getD j2 0 ≤ p := by omega
                have hlt : l1.getD j2 0 ≤ p := xs3
                have ej : (j2 : Int) - 1 = ((j2 - 1 : Nat) : Int) := by omega
                have e5 : (l1.set i2 (l1.getD j2 0)).set j2 (l1.getD i2 0) = sw l1 i2 j2 := rfl
                have e6 : (l1.set i2 (l1.getD j2 0)).length = l1.length := List.length_set
                repeat' (first | simp only [go_sem, hs, hs2, hs3, hL, has3, ej, e5, List.length_set, Ret_eq Try.results182] | simp (disch := omega) only [arith, IntKind.bits, capMax, fill_len, elt_fill] | (refine awpI_draw2 (id := 5) (.one false 0 (.one false 1 (.one false 2 (.one false 3 (.one false 4 (.one false 5 (.one false 6 (.one false 7 (.one false 8 (.one false 9 (.one false 10 (.one false 11 (.only 12 (.one false 13 .done)))))))))))))) mixed (by decide +kernel) (by decide +kernel) ?_) | (refine awpI_draw2 (id := 8) (.one false 0 (.one false 1 (.one false 4 (.one false 5 (.one false 6 (.one false 7 (.one false 8 (.one false 9 (.one false 10 (.one false 11 (.one false 12 (.mv 2 (.mv 3 (.only 13 (.one false 14 (.only 15 .done)))))))))))))))) mixed (by decide +kernel) (by decide +kernel) ?_) | (refine opCallI_rd (by simp only [go_sem, hs, hs2, hs3, hL, has3, ej, e5, List.length_set, Ret_eq Try.results182]; first | done | rfl) (hlss3) (by rintro _ rfl; rfl) ?_; rintro _ rfl) | fail)
                all_goals
                  refine AgainW.to (i2 + 1, j2 - 1, sw l1 i2 j2) ?_ ?_ ?_
                  · show j2 - 1 + 1 - (i2 + 1) < j + 1 - i; omega
                  · exact ⟨.step i2 j2 hsw ⟨by omega, by omega⟩ ⟨by omega, by omega⟩ (by omega), hPi2j2.swap (by omega) (by omega) (by omega) (by omega)⟩
                  · simp only [go_sem, hs, hs2, hs3, Ret_eq Try.results182]
            · have w : j2 < i2 := by omega
              repeat' (first | simp only [go_sem, hs, hs2, hs3, hL, has3, Ret_eq Try.results182] | simp (disch := omega) only [arith, IntKind.bits, capMax, fill_len, elt_fill] | refine RetL_calc Try.results182 rfl ?_ | (refine awpI_draw2 (id := 5) (.one false 0 (.one false 1 (.one false 2 (.one false 3 (.one false 4 (.one false 5 (.one false 6 (.one false 7 (.one false 8 (.one false 9 (.one false 10 (.one false 11 (.only 12 (.one false 13 .done)))))))))))))) mixed (by decide +kernel) (by decide +kernel) ?_) | fail)
              all_goals exact ⟨i2, rfl, l1, rfl, hsw, hPi2j2.fin w⟩
      · have xs2 : j < i2 ∨ p < l1.getD i2 0 := .inl (by omega)
        repeat' (first | simp only [go_sem, hs, hs2, hL, has2, Ret_eq Try.results182] | simp (disch := omega) only [arith, IntKind.bits, capMax, fill_len, elt_fill] | (refine awpI_draw2 (id := 3) (.one false 0 (.one false 1 (.one false 2 (.one false 3 (.one false 4 (.one false 5 (.one false 6 (.one false 7 (.one false 8 (.one false 9 (.one false 10 (.one false 11 (.only 12 (.one false 13 (.one false 14 .done))))))))))))))) mixed (by decide +kernel) (by decide +kernel) ?_) | fail)
        refine awpI_while (σ := Nat) (fun x => x) (fun x => x ≤ j ∧ Pe a b i2 x p l1) (fun x => [(10, .v (.int .i64 x))]) (fun _ => []) [0, 1, 9, 100000] [0] j _ (Weak.refl _) ⟨Nat.le_refl _, hPi2⟩ ?_ ?_ ?_
        · simp only [go_sem, hs, hs2, Ret_eq Try.results182]
        · simp only [go_sem, hs, hs2, Ret_eq Try.results182]
        · rintro j2 s3 ⟨hges3, hPi2j2⟩ hs3
          simp only [go_sem, hs, hs2, Ret_eq Try.results182] at hs3
          have his3 := hPi2j2.hi
          have hjs3 := hPi2j2.hj
          have hijs3 := hPi2j2.hij
          have has3 := hPi2j2.ha
          have hlss3 := lessS16_fun p (l1.getD j2 0)
          by_cases qs3 : i2 ≤ j2
          · exact absurd qs3 (by omega)
          · have w : j2 < i2 := by omega
            repeat' (first | simp only [go_sem, hs, hs2, hs3, hL, has3, Ret_eq Try.results182] | simp (disch := omega) only [arith, IntKind.bits, capMax, fill_len, elt_fill] | refine RetL_calc Try.results182 rfl ?_ | (refine awpI_draw2 (id := 5) (.one false 0 (.one false 1 (.one false 2 (.one false 3 (.one false 4 (.one false 5 (.one false 6 (.one false 7 (.one false 8 (.one false 9 (.one false 10 (.one false 11 (.only 12 (.one false 13 .done)))))))))))))) mixed (by decide +kernel) (by decide +kernel) ?_) | fail)
            all_goals exact ⟨i2, rfl, l1, rfl, hsw, hPi2j2.fin w⟩
end Go.Proofs.Ytpkampecmlpfmaa.T

end
