import Derived.Test.YtpkampecmlpfmaaK2
import Derived.RangeFuncGives
import Derived.OwnWalkIn
import Derived.TacticsInMore
import Derived.LoopNIn
import Derived.LoopIn
import Derived.Maps.AppendAt
import Derived.Shelf.Abstract
import Derived.Tactics2
section
set_option linter.unusedSimpArgs false
set_option linter.unusedVariables false
/- A book of a sample, walked. -/
namespace Go.Proofs.Ytpkampecmlpfmaa.T
open Go Go.VL Go.Proofs
set_option maxRecDepth 100000
set_option maxHeartbeats 4000000
theorem tab_setL {A : List (List Int)} {l : List Int} {m : Nat} : (tab A (m + 1)).set A.length (.lst (ints .i16 l)) = tab (A ++ [l]) m := by
  have : (rows .i16 A).length = A.length := by simp [rows]
  unfold tab
  rw [← this, List.set_append_right _ _ (Nat.le_refl _), Nat.sub_self]
  simp [nils, rows, List.replicate_succ]
theorem okTo_tab {base m : Nat} : ∀ {A : List (List Int)}, okTos base (tab A m) = true
  | [] => by
    induction m with
    | zero => rfl
    | succ m ih => exact ih
  | _ :: A => okTo_tab (A := A)

theorem train1_fun (v : List Int) (w : Int) (cuts : List (List Int)) : Fun Try.prog 121 [.lst (ints .i16 v), .ptr (bookD w cuts)] fun r => r = .v (.bool (oddN cuts.length v)) := by
  have hv := vecCheck_fun v
  refine Fun.of_awpI Try.func121 rfl cal121 Try.ntmps121 (by simp) fun hwf => ?_
  simp only [D.wfs, D.wf, ints_length, ints_wfs, rows_length, rows_wfs, capMax, and_true, true_and] at hwf
  unfold oddN
  by_cases h1 : vecErr v = 0
  · by_cases h2 : v.length = cuts.length
    · have h2b : ((v.length : Int) != (cuts.length : Int)) = false := by rw [h2]; exact bne_self_eq_false _
      repeat' (first | simp only [go_sem, h1, h2b, Ret_eq Try.results121] | (refine opCallI_rd (by simp only [go_sem, h1, h2b, Ret_eq Try.results121]; first | done | rfl) (hv) (by rintro _ rfl; rfl) ?_; rintro _ rfl) | fail)
      all_goals simp [h1, h2]
    · have h2b : ((v.length : Int) != (cuts.length : Int)) = true := by rw [bne, beq_eq_false_iff_ne.2 (by omega)]; rfl
      repeat' (first | simp only [go_sem, h1, h2b, Ret_eq Try.results121] | (refine opCallI_rd (by simp only [go_sem, h1, h2b, Ret_eq Try.results121]; first | done | rfl) (hv) (by rintro _ rfl; rfl) ?_; rintro _ rfl) | fail)
      all_goals simp [h1, h2]
  · have h1b : (vecErr v != 0) = true := by rw [bne, beq_eq_false_iff_ne.2 h1]; rfl
    repeat' (first | simp only [go_sem, h1b, Ret_eq Try.results121] | (refine opCallI_rd (by simp only [go_sem, h1b, Ret_eq Try.results121]; first | done | rfl) (hv) (by rintro _ rfl; rfl) ?_; rintro _ rfl) | fail)
    all_goals simp [h1]

theorem cloneRow_fun (v : List Int) (hb : v.length ≤ 500) : Fun Try.prog 124 [.lst (ints .i16 v)] fun r => r = .lst (ints .i16 v) := by
  by_cases h : 1 ≤ v.length
  · skip
    refine Fun.of_awpI Try.func124 rfl cal124 Try.ntmps124 (by simp) fun hwf => ?_
    simp only [D.wfs, D.wf, ints_length, ints_wfs, rows_length, rows_wfs, capMax, and_true, true_and] at hwf
    simp only [go_sem, Ret_eq Try.results124]
    refine opBinI_isNil (by simp only [go_sem]) fun c hc => ?_
    rw [ints_isNil] at hc
    simp only [go_sem, Ret_eq Try.results124]
    refine condI_split (fun h => ?_) (fun h => ?_)
    · have hb := hc h
      subst hb
      simp at h
    · repeat' (first | simp only [go_sem, h, Ret_eq Try.results124] | simp (disch := omega) only [arith, IntKind.bits, capMax, fill_len, elt_fill] | fail)
  · obtain rfl : v = [] := List.length_eq_zero_iff.1 (by omega)
    refine Fun.of_awpI Try.func124 rfl cal124 Try.ntmps124 (by simp) fun hwf => ?_
    simp only [D.wfs, D.wf, ints_length, ints_wfs, rows_length, rows_wfs, capMax, and_true, true_and] at hwf
    simp only [go_sem, Ret_eq Try.results124]
    refine opBinI_isNil (by simp only [go_sem]) fun c hc => ?_
    simp only [go_sem, Ret_eq Try.results124]
    refine condI_split (fun h => ?_) (fun h => ?_)
    · repeat' (first | simp only [go_sem, h, Ret_eq Try.results124] | fail)
    · repeat' (first | simp only [go_sem, h, frzStep, Ret_eq Try.results124] | fail)

theorem bookTrain_fun (hS : Sorted16) (w : Int) (cuts : List (List Int)) (way : Int) (sample : List (List Int)) (hI : I16r sample) : Fun Try.prog 67 [bookD w cuts, .v (.int .i64 way), .lst (rows .i16 sample)] fun r => r = .tup [bookD (trW w cuts way sample) (trC w cuts way sample), .v (.int .i64 (trE w cuts way sample))] := by
  have hce := quantCells_fun w cuts
  have hno := not_fun way
  have hcf := containsFuncV_fun sample (oddN cuts.length) 121 [.ptr (bookD w cuts)] rfl rfl rfl fun v _ => train1_fun v w cuts
  by_cases hb : bookErr w cuts = 0
  · by_cases hw : wayErr way = 0
    · cases ha : sample.any (oddN cuts.length) with
      | true =>
        have hE : trE w cuts way sample = 1 := if_pos (.inr ha)
        rw [hE, show trW w cuts way sample = 0 from if_neg (by rw [hE]; decide), show trC w cuts way sample = [] from if_neg (by rw [hE]; decide)]
        rw [ha] at hcf
        refine Fun.of_awpI Try.func67 rfl cal67 Try.ntmps67 (by simp) fun hwf => ?_
        simp only [D.wfs, D.wf, ints_length, ints_wfs, rows_length, rows_wfs, capMax, and_true, true_and] at hwf
        repeat' (first | simp only [go_sem, hb, hw, rows_nil, Ret_eq Try.results67] | simp (disch := omega) only [arith, IntKind.bits, capMax, fill_len, elt_fill] | (refine opCallI_rd (by simp only [go_sem, hb, hw, rows_nil, Ret_eq Try.results67]; first | done | rfl) (hce) (by rintro _ rfl; rfl) ?_; rintro _ rfl) | (refine opCallI_rd (by simp only [go_sem, hb, hw, rows_nil, Ret_eq Try.results67]; first | done | rfl) (hno) (by rintro _ rfl; rfl) ?_; rintro _ rfl) | (refine opCallI_rd (by simp only [go_sem, hb, hw, rows_nil, Ret_eq Try.results67]; first | done | rfl) (hcf) (by rintro _ rfl; rfl) ?_; rintro _ rfl) | fail)
        all_goals rfl
      | false =>
        by_cases hlong : 4096 < sample.length
        · have hE : trE w cuts way sample = 3 := by
            unfold trE
            rw [if_neg, if_pos hlong]
            rintro (q | q)
            · exact q ⟨hb, hw⟩
            · rw [ha] at q; cases q
          rw [hE, show trW w cuts way sample = 0 from if_neg (by rw [hE]; decide), show trC w cuts way sample = [] from if_neg (by rw [hE]; decide)]
          rw [ha] at hcf
          refine Fun.of_awpI Try.func67 rfl cal67 Try.ntmps67 (by simp) fun hwf => ?_
          simp only [D.wfs, D.wf, ints_length, ints_wfs, rows_length, rows_wfs, capMax, and_true, true_and] at hwf
          repeat' (first | simp only [go_sem, hb, hw, rows_nil, Ret_eq Try.results67] | simp (disch := omega) only [arith, IntKind.bits, capMax, fill_len, elt_fill] | (refine opCallI_rd (by simp only [go_sem, hb, hw, rows_nil, Ret_eq Try.results67]; first | done | rfl) (hce) (by rintro _ rfl; rfl) ?_; rintro _ rfl) | (refine opCallI_rd (by simp only [go_sem, hb, hw, rows_nil, Ret_eq Try.results67]; first | done | rfl) (hno) (by rintro _ rfl; rfl) ?_; rintro _ rfl) | (refine opCallI_rd (by simp only [go_sem, hb, hw, rows_nil, Ret_eq Try.results67]; first | done | rfl) (hcf) (by rintro _ rfl; rfl) ?_; rintro _ rfl) | fail)
          all_goals rfl
        · have hsok := sampleOk_iff.1 ha
          have hE : trE w cuts way sample = 0 := trE_zero.2 ⟨hb, hw, hsok, by omega⟩
          rw [hE, show trW w cuts way sample = (if sample = [] then w else way) from if_pos hE, show trC w cuts way sample = (if sample = [] then cuts else trCuts cuts.length (manyOf cuts + 1) way sample) from if_pos hE]
          rw [ha] at hcf
          clear ha
          have hcl := (bookErr_zero.1 hb).2.1
          have hrow := book_rows hb
          have hmany := book_many hb
          by_cases h0 : sample = []
          · subst h0
            rw [if_pos rfl, if_pos rfl]
            refine Fun.of_awpI Try.func67 rfl cal67 Try.ntmps67 (by simp) fun hwf => ?_
            simp only [D.wfs, D.wf, ints_length, ints_wfs, rows_length, rows_wfs, capMax, and_true, true_and] at hwf
            repeat' (first | simp only [go_sem, hb, hw, rows_nil, Ret_eq Try.results67] | simp (disch := omega) only [arith, IntKind.bits, capMax, fill_len, elt_fill] | (refine opCallI_rd (by simp only [go_sem, hb, hw, rows_nil, Ret_eq Try.results67]; first | done | rfl) (hce) (by rintro _ rfl; rfl) ?_; rintro _ rfl) | (refine opCallI_rd (by simp only [go_sem, hb, hw, rows_nil, Ret_eq Try.results67]; first | done | rfl) (hno) (by rintro _ rfl; rfl) ?_; rintro _ rfl) | (refine opCallI_rd (by simp only [go_sem, hb, hw, rows_nil, Ret_eq Try.results67]; first | done | rfl) (hcf) (by rintro _ rfl; rfl) ?_; rintro _ rfl) | fail)
            refine awpI_for cuts.length (fun k => True) (fun k => [(64, .v (.int .i64 k))]) (fun k => match k with | 0 => [(13, ⟨73, 2, [.agg [.v (.int .i64 w), .v (.slice none 0 0)]]⟩)] | k + 1 => [(13, ⟨73, 2, [.agg [.v (.int .i64 w), .ref 73 (k + 1)]]⟩), (73, ⟨22, 1, rows .i16 (cuts.take (k + 1))⟩)]) [6, 13, 62, 63] [6] _ (Weak.refl _) trivial ?_ ?_ ?_
            · simp only [go_sem, Ret_eq Try.results67]
            · simp only [go_sem, Ret_eq Try.results67]
            · intro k s hk _ hs
              by_cases hka : k < cuts.length
              · have e := take_snoc (a := cuts) (d := []) hka
                have hcl2 := (hrow _ (getD_mem (d := []) hka)).1
                have hcn := cloneRow_fun (cuts.getD k []) (by omega)
                cases k with
                | zero =>
                  simp only [go_sem, Ret_eq Try.results67] at hs
                  repeat' (first | simp only [go_sem, hs, Ret_eq Try.results67] | simp (disch := omega) only [arith, IntKind.bits, capMax, fill_len, elt_fill] | (refine awpI_draw2 (id := 15) (.one false 2 (.two 0 3 (.two 1 3 (.only 3 (.only 4 (.only 5 (.one false 6 (.only 7 .done))))) (.fam 1 [4] [72] [71] (.only 4 (.only 5 (.one false 6 (.only 7 .done)))))) (.fam 0 [4] [72] [71] (.fam 1 [4] [72] [71] (.only 4 (.only 5 (.one false 6 (.only 7 .done)))))))) mixed (by decide +kernel) (by decide +kernel) ?_) | (refine sch2I_two ?_ ?_) | (refine Again.up (by omega) ?_ ?_) | (refine opCallI_gv (by simp only [go_sem, hs, Ret_eq Try.results67]; first | done | rfl) (hcn) ?_; rintro _ rfl) | fail)
                  all_goals exact ⟨rfl, by rw [show List.take 1 cuts = _ from e]; rfl⟩
                | succ k =>
                  simp only [go_sem, Ret_eq Try.results67] at hs
                  have hlt : (cuts.take (k + 1)).length = k + 1 := by rw [List.length_take]; omega
                  repeat' (first | simp only [go_sem, hs, e, hlt, List.length_append, Ret_eq Try.results67] | simp (disch := omega) only [arith, IntKind.bits, capMax, fill_len, elt_fill] | (refine awpI_draw2 (id := 15) (.one false 2 (.two 0 3 (.two 1 3 (.only 3 (.only 4 (.only 5 (.one false 6 (.only 7 .done))))) (.fam 1 [4] [72] [71] (.only 4 (.only 5 (.one false 6 (.only 7 .done)))))) (.fam 0 [4] [72] [71] (.fam 1 [4] [72] [71] (.only 4 (.only 5 (.one false 6 (.only 7 .done)))))))) mixed (by decide +kernel) (by decide +kernel) ?_) | (refine sch2I_two ?_ ?_) | (refine Again.up (by omega) ?_ ?_) | (refine opCallI_gv (by simp only [go_sem, hs, e, hlt, List.length_append, Ret_eq Try.results67]; first | done | rfl) (hcn) ?_; rintro _ rfl) | fail)
              · obtain rfl : k = cuts.length := by omega
                have hc1 := (bookErr_zero.1 hb).1
                cases hcu : cuts.length with
                | zero => omega
                | succ k =>
                  rw [hcu] at hs
                  simp only [go_sem, Ret_eq Try.results67] at hs
                  have hta : cuts.take (k + 1) = cuts := List.take_of_length_le (by omega)
                  repeat' (first | simp only [go_sem, hs, hta, hcu, Ret_eq Try.results67] | simp (disch := omega) only [arith, IntKind.bits, capMax, fill_len, elt_fill] | fail)
                  all_goals skip
          · rw [if_neg h0, if_neg h0]
            have hlen : 1 ≤ sample.length := by
              cases sample with
              | nil => exact absurd rfl h0
              | cons a l => simp
            refine Fun.of_awpI Try.func67 rfl cal67 Try.ntmps67 (by simp) fun hwf => ?_
            simp only [D.wfs, D.wf, ints_length, ints_wfs, rows_length, rows_wfs, capMax, and_true, true_and] at hwf
            obtain ⟨w1, w2⟩ := wayErr_zero hw
            have hTl : (turnedL way sample).length = sample.length := by simp [turnedL]
            have hc1 := (bookErr_zero.1 hb).1
            repeat' (first | simp only [go_sem, hb, hw, rows_nil, Ret_eq Try.results67] | simp (disch := omega) only [arith, IntKind.bits, capMax, fill_len, elt_fill] | (refine opCallI_rd (by simp only [go_sem, hb, hw, rows_nil, Ret_eq Try.results67]; first | done | rfl) (hce) (by rintro _ rfl; rfl) ?_; rintro _ rfl) | (refine opCallI_rd (by simp only [go_sem, hb, hw, rows_nil, Ret_eq Try.results67]; first | done | rfl) (hno) (by rintro _ rfl; rfl) ?_; rintro _ rfl) | (refine opCallI_rd (by simp only [go_sem, hb, hw, rows_nil, Ret_eq Try.results67]; first | done | rfl) (hcf) (by rintro _ rfl; rfl) ?_; rintro _ rfl) | fail)
            refine awpI_for sample.length (fun k => True) (fun k => [(83, .v (.int .i64 k))]) (fun k => (80, ⟨22, 1, refsL cuts.length fun _ => k⟩) :: colsW 23 cuts.length (turnedL way sample) fun _ => k) [1, 6, 8, 16, 81, 82] [6] _
              (Weak.adopts1 (ob := 80) (base := 1000) (n := cuts.length) (S := 1) (So := 1) (e := 23) (eo := 22) [(1, .v (.int .i64 way)), (6, .adr 6 0 0), (8, .v (.int .i64 ((manyOf cuts + 1 : Nat) : Int))), (16, .ref 80 cuts.length), (81, .lst (rows .i16 sample)), (82, .v (.int .i64 sample.length)), (83, .v (.int .i64 0))] [(6, ⟨73, 2, [.agg [.v (.int .i64 0), .v (.slice none 0 0)]]⟩)] (by decide) (by decide) (by simp only [go_sem, Ret_eq Try.results67]) (by rfl) (by simp only [go_sem, Ret_eq Try.results67]) (by rfl) (by simp only [go_sem, Ret_eq Try.results67])) trivial ?_ ?_ ?_
            · simp only [go_sem, Ret_eq Try.results67]
            · simp only [go_sem, Heaps_colsW, Ret_eq Try.results67]
              refine ⟨rfl, fun i hi => ?_⟩
              rw [if_neg (by omega), if_pos (by omega)]
              rfl
            · intro k s hk _ hs
              simp only [go_sem, Heaps_colsW, false_and, Ret_eq Try.results67] at hs
              have hco := hs.2.2.1.2
              by_cases hka : k < sample.length
              · have hvk := hsok _ (getD_mem (d := []) hka)
                have hgk : (turnedL way sample).getD k [] = turnL (sample.getD k []) way.toNat := by
                  simp [turnedL, List.getD, hka]
                have hti := turnErr_iff.2 ⟨hvk.1, w1, w2⟩
                have htu := turn_fun (sample.getD k []) way (hI.getD k)
                rw [turnOut_ok ⟨hvk.1, w1, w2⟩, hti, ← hgk] at htu
                have htl : ((turnedL way sample).getD k []).length = cuts.length := by rw [hgk, turnL_length]; exact hvk.2
                have hsn := fun i => colOf_snoc (T := turnedL way sample) (i := i) (k := k) (by omega)
                have hcln := fun i => colOf_length (T := (turnedL way sample).take k) (i := i)
                have htk : ((turnedL way sample).take k).length = k := by rw [List.length_take]; omega
                clear hgk hti
                generalize (turnedL way sample).getD k [] = tv at *
                repeat' (first | simp only [go_sem, hs, Ret_eq Try.results67] | simp (disch := omega) only [arith, IntKind.bits, capMax, fill_len, elt_fill] | (refine opCallI_gv (by simp only [go_sem, hs, Ret_eq Try.results67]; first | done | rfl) (htu) ?_; rintro _ rfl) | fail)
                refine awpI_for cuts.length (fun j => True) (fun j => [(99, .v (.int .i64 j))]) (fun j => (80, ⟨22, 1, refsL cuts.length (cntC k j)⟩) :: colsW 23 cuts.length (turnedL way sample) (cntC k j)) [1, 6, 8, 16, 81, 82, 83, 97, 98] [6] _ (Weak.refl _) trivial ?_ ?_ ?_
                · simp only [go_sem, hs, Ret_eq Try.results67]
                · rw [cntC_zero]
                  simp only [go_sem, hs, Heaps_colsW, Ret_eq Try.results67]
                  exact hco
                · intro j s2 hj _ hs2
                  simp only [go_sem, hs, Heaps_colsW, Ret_eq Try.results67] at hs2
                  by_cases hjn : j < cuts.length
                  · have g1 := refsL_get (c := cntC k j) hjn
                    have g2 := refsL_kills (c := cntC k j) hjn
                    have g3 := refsL_step (k := k) hjn
                    have g4 : cntC k j j = k := if_neg (Nat.lt_irrefl _)
                    rw [g4] at g1
                    have gl := refsL_length (n := cuts.length) (c := cntC k j)
                    have g5 : s2.H (1000 + j) = some ⟨23, 1, ints .i16 (colOf ((turnedL way sample).take k) j)⟩ := by
                      have := hs2.2.2.1.2 j hjn
                      rw [g4] at this
                      exact this
                    have g6 := refsL_any (c := cntC k j) hjn
                    repeat' (first | simp only [go_sem, hs, hs2, base_ne, base_ne', anyT_width, setPartT_xr, false_and, g6, g1, g2, g3, g4, g5, gl, hjn, htl, hcln, htk, List.length_set, List.length_append, List.length_cons, List.length_nil, Ret_eq Try.results67] | simp (disch := omega) only [arith, IntKind.bits, capMax, fill_len, elt_fill] | (refine Again.up (by omega) ?_ ?_) | fail)
                    rw [Heaps_colsW]
                    intro i hi
                    by_cases q : i = j
                    · subst q
                      have g7 : cntC k (i + 1) i = k + 1 := if_pos (by omega)
                      simp only [go_sem, base_ne, base_ne', g7, hsn, Ret_eq Try.results67]
                    · have g7 : cntC k (j + 1) i = cntC k j i := by
                        unfold cntC
                        by_cases z : i < j
                        · rw [if_pos z, if_pos (by omega)]
                        · rw [if_neg z, if_neg (by omega)]
                      have g8 : (1000 + i = 1000 + j) = False := eq_false (by omega)
                      have g9 := hs2.2.2.1.2 i hi
                      simp only [go_sem, base_ne, base_ne', g7, g8, g9, Ret_eq Try.results67]
                  · obtain rfl : j = cuts.length := by omega
                    repeat' (first | simp only [go_sem, hs, hs2, false_and, Ret_eq Try.results67] | simp (disch := omega) only [arith, IntKind.bits, capMax, fill_len, elt_fill] | (refine Again.up (by omega) ?_ ?_) | fail)
                    refine ⟨by rw [refsL_full], ?_⟩
                    rw [Heaps_colsW]
                    intro i hi
                    have := hs2.2.2.1.2 i hi
                    rw [cntC, if_pos hi] at this
                    exact this
              · obtain rfl : k = sample.length := by omega
                have gl := refsL_length (n := cuts.length) (c := fun _ => sample.length)
                have hTa : (turnedL way sample).take sample.length = turnedL way sample := List.take_of_length_le (by omega)
                rw [hTa] at hco
                repeat' (first | simp only [go_sem, hs, gl, Ret_eq Try.results67] | simp (disch := omega) only [arith, IntKind.bits, capMax, fill_len, elt_fill] | fail)
                refine awpI_for cuts.length (fun j => True) (fun j => [(123, .v (.int .i64 j))]) (fun j => [(119, ⟨22, 1, tab ((trCuts cuts.length (manyOf cuts + 1) way sample).take j) (cuts.length - j)⟩)]) [6, 8, 23, 121, 122] [6, 23, 80] _
                  (Weak.freezes1 (ob := 80) (base := 1000) (n := cuts.length) (S := 1) (So := 1) (e := 23) (eo := 22) (fun i => ints .i16 (colOf (turnedL way sample) i)) (fun _ => sample.length) [(6, .adr 6 0 0), (8, .v (.int .i64 ((manyOf cuts + 1 : Nat) : Int))), (23, .adr 23 0 0), (121, .ref 80 cuts.length), (122, .v (.int .i64 cuts.length)), (123, .v (.int .i64 0))]
                    [(6, ⟨73, 2, [.agg [.v (.int .i64 0), .v (.slice none 0 0)]]⟩), (23, ⟨73, 2, [.agg [.v (.int .i64 way), .ref 119 cuts.length]]⟩), (119, ⟨22, 1, tab [] cuts.length⟩)] (by decide) (by simp only [go_sem, hs, gl, Ret_eq Try.results67]) (by rfl) (by simp only [go_sem, hs, tab_zero, Int.toNat_natCast, Ret_eq Try.results67]) (by simp only [List.all_cons, List.all_nil, okTo_tab]; rfl) (by simp only [go_sem, hs, refsL_kept, Ret_eq Try.results67]; rfl) (fun i hi => by simp only [go_sem, hs, base_ne, hTa, hi, Ret_eq Try.results67]) (fun i hi => ⟨ints_noRefs, ints_nrms, ints_width1, by rw [ints_length, colOf_length, hTl]⟩)) trivial ?_ ?_ ?_
                · simp only [go_sem, Ret_eq Try.results67]
                · simp only [go_sem, List.take_zero, Nat.sub_zero, Ret_eq Try.results67]
                · intro j s2 hj _ hs2
                  simp only [go_sem, Ret_eq Try.results67] at hs2
                  by_cases hjn : j < cuts.length
                  · have hrk := rkCuts_fun hS (colOf (turnedL way sample) j) ((manyOf cuts + 1 : Nat) : Int) (by rw [colOf_length, hTl]; omega)
                    have hrz : rkE (colOf (turnedL way sample) j) ((manyOf cuts + 1 : Nat) : Int) = 0 := rkE_zero.2 ⟨by rw [colOf_length, hTl]; omega, by omega, col_ok hsok hI hjn, by rw [colOf_length, hTl]; omega⟩
                    have hro : rkOut (colOf (turnedL way sample) j) ((manyOf cuts + 1 : Nat) : Int) = (trCuts cuts.length (manyOf cuts + 1) way sample).getD j [] := by
                      unfold rkOut; rw [if_pos hrz, Int.toNat_natCast, trCuts_at hjn]
                    rw [hrz, hro] at hrk
                    have hcg := colsT_get (T := turnedL way sample) hjn
                    have hCl := trCuts_length (n := cuts.length) (cells := manyOf cuts + 1) (way := way) (sample := sample)
                    have e := take_snoc (a := trCuts cuts.length (manyOf cuts + 1) way sample) (d := ([] : List Int)) (k := j) (by omega)
                    obtain ⟨q, hq⟩ : ∃ q, cuts.length - j = q + 1 := ⟨cuts.length - j - 1, by omega⟩
                    have hq2 : cuts.length - (j + 1) = q := by omega
                    have htj : ((trCuts cuts.length (manyOf cuts + 1) way sample).take j).length = j := by rw [List.length_take]; omega
                    have ht1 := tab_get (A := (trCuts cuts.length (manyOf cuts + 1) way sample).take j) (m := q)
                    have ht2 := tab_setL (A := (trCuts cuts.length (manyOf cuts + 1) way sample).take j) (m := q) (l := (trCuts cuts.length (manyOf cuts + 1) way sample).getD j [])
                    have ht3 := tab_length (A := (trCuts cuts.length (manyOf cuts + 1) way sample).take j) (m := q + 1)
                    rw [htj] at ht1 ht2 ht3
                    rw [← e] at ht2
                    rw [hq] at hs2
                    repeat' (first | simp only [go_sem, hs, hs2, hcg, ht1, ht2, ht3, hq2, List.length_map, List.length_range, Ret_eq Try.results67] | simp (disch := omega) only [arith, IntKind.bits, capMax, fill_len, elt_fill] | (refine awpI_draw2 (id := 35) (.one false 3 (.one false 4 (.cal 0 [5] (.cal 1 [5] (.cal 2 [5] (.only 5 (.one false 6 (.one false 7 (.one false 9 (.cal 8 [10] (.only 10 (.one false 11 .done)))))))))))) mixed (by decide +kernel) (by decide +kernel) ?_) | (refine Again.up (by omega) ?_ ?_) | (refine opCallI_gv (by simp only [go_sem, hs, hs2, hcg, ht1, ht2, ht3, hq2, List.length_map, List.length_range, Ret_eq Try.results67]; first | done | rfl) (hrk) ?_; rintro _ rfl) | fail)
                    all_goals skip
                  · obtain rfl : j = cuts.length := by omega
                    have hCl := trCuts_length (n := cuts.length) (cells := manyOf cuts + 1) (way := way) (sample := sample)
                    have htk : (trCuts cuts.length (manyOf cuts + 1) way sample).take cuts.length = trCuts cuts.length (manyOf cuts + 1) way sample := List.take_of_length_le (by omega)
                    rw [Nat.sub_self, htk, tab_end] at hs2
                    repeat' (first | simp only [go_sem, hs, hs2, hCl, htk, Ret_eq Try.results67] | simp (disch := omega) only [arith, IntKind.bits, capMax, fill_len, elt_fill] | fail)
    · have hE : trE w cuts way sample = 1 := if_pos (.inl fun q => hw q.2)
      rw [hE, show trW w cuts way sample = 0 from if_neg (by rw [hE]; decide), show trC w cuts way sample = [] from if_neg (by rw [hE]; decide)]
      have hwb : (wayErr way != 0) = true := by rw [bne, beq_eq_false_iff_ne.2 hw]; rfl
      refine Fun.of_awpI Try.func67 rfl cal67 Try.ntmps67 (by simp) fun hwf => ?_
      simp only [D.wfs, D.wf, ints_length, ints_wfs, rows_length, rows_wfs, capMax, and_true, true_and] at hwf
      repeat' (first | simp only [go_sem, hb, hwb, rows_nil, Ret_eq Try.results67] | simp (disch := omega) only [arith, IntKind.bits, capMax, fill_len, elt_fill] | (refine opCallI_rd (by simp only [go_sem, hb, hwb, rows_nil, Ret_eq Try.results67]; first | done | rfl) (hce) (by rintro _ rfl; rfl) ?_; rintro _ rfl) | (refine opCallI_rd (by simp only [go_sem, hb, hwb, rows_nil, Ret_eq Try.results67]; first | done | rfl) (hno) (by rintro _ rfl; rfl) ?_; rintro _ rfl) | fail)
      all_goals rfl
  · have hE : trE w cuts way sample = 1 := if_pos (.inl fun q => hb q.1)
    rw [hE, show trW w cuts way sample = 0 from if_neg (by rw [hE]; decide), show trC w cuts way sample = [] from if_neg (by rw [hE]; decide)]
    have hbb : (bookErr w cuts != 0) = true := by rw [bne, beq_eq_false_iff_ne.2 hb]; rfl
    refine Fun.of_awpI Try.func67 rfl cal67 Try.ntmps67 (by simp) fun hwf => ?_
    simp only [D.wfs, D.wf, ints_length, ints_wfs, rows_length, rows_wfs, capMax, and_true, true_and] at hwf
    repeat' (first | simp only [go_sem, hbb, rows_nil, Ret_eq Try.results67] | simp (disch := omega) only [arith, IntKind.bits, capMax, fill_len, elt_fill] | (refine opCallI_rd (by simp only [go_sem, hbb, rows_nil, Ret_eq Try.results67]; first | done | rfl) (hce) (by rintro _ rfl; rfl) ?_; rintro _ rfl) | (refine opCallI_rd (by simp only [go_sem, hbb, rows_nil, Ret_eq Try.results67]; first | done | rfl) (hno) (by rintro _ rfl; rfl) ?_; rintro _ rfl) | fail)
    all_goals rfl
end Go.Proofs.Ytpkampecmlpfmaa.T

end
section
set_option linter.unusedSimpArgs false
set_option linter.unusedVariables false
/- A book of what was gathered, walked. -/
namespace Go.Proofs.Ytpkampecmlpfmaa.T
open Go Go.VL Go.Proofs
set_option maxRecDepth 100000
set_option maxHeartbeats 4000000
def endE (x a : Int) (s : List (List Int)) (w : Int) (cuts : List (List Int)) : Int := if trainOk a s then trE w cuts (x / 4) s else 1
def endW (x a : Int) (s : List (List Int)) (w : Int) (cuts : List (List Int)) : Int := if trainOk a s then trW w cuts (x / 4) s else 0
def endC (x a : Int) (s : List (List Int)) (w : Int) (cuts : List (List Int)) : List (List Int) := if trainOk a s then trC w cuts (x / 4) s else []

theorem trainEnd_fun (hS : Sorted16) (x a : Int) (s : List (List Int)) (w : Int) (cuts : List (List Int)) (hx : 0 ≤ x ∧ x < 18446744073709551616) (hI : I16r s) : Fun Try.prog 78 [trainD x a s, bookD w cuts] fun r => r = .tup [bookD (endW x a s w cuts) (endC x a s w cuts), .v (.int .i64 (endE x a s w cuts))] := by
  have hc := trainCheck_fun x a s
  have ht := bookTrain_fun hS w cuts (x / 4) s hI
  have hw : IntKind.i64.wrap (x / 4) = x / 4 := IntWalk.i64_in _ (by omega)
  have hw2 : IntKind.u64.wrap (x / 4) = x / 4 := IntWalk.u64_in _ (by omega)
  have hfd : x.fdiv 4 = x / 4 := Int.fdiv_eq_ediv_of_nonneg _ (by decide)
  unfold endE endW endC
  by_cases h : trainOk a s
  · rw [if_pos h, if_pos h, if_pos h]
    rw [show trainE a s = 0 from if_pos h] at hc
    refine Fun.of_awpI Try.func78 rfl cal78 Try.ntmps78 (by simp) fun hwf => ?_
    simp only [D.wfs, D.wf, ints_length, ints_wfs, rows_length, rows_wfs, capMax, and_true, true_and] at hwf
    repeat' (first | simp only [go_sem, hfd, hw, hw2, Ret_eq Try.results78] | simp (disch := omega) only [arith, IntKind.bits, capMax, fill_len, elt_fill] | (refine opCallI_rd (by simp only [go_sem, hfd, hw, hw2, Ret_eq Try.results78]; first | done | rfl) (hc) (by rintro _ rfl; rfl) ?_; rintro _ rfl) | (refine opCallI_gv (by simp only [go_sem, hfd, hw, hw2, Ret_eq Try.results78]; first | done | rfl) (ht) ?_; rintro _ rfl) | fail)
    all_goals skip
  · rw [if_neg h, if_neg h, if_neg h]
    rw [show trainE a s = 1 from if_neg h] at hc
    refine Fun.of_awpI Try.func78 rfl cal78 Try.ntmps78 (by simp) fun hwf => ?_
    simp only [D.wfs, D.wf, ints_length, ints_wfs, rows_length, rows_wfs, capMax, and_true, true_and] at hwf
    repeat' (first | simp only [go_sem, rows_nil, Ret_eq Try.results78] | (refine opCallI_rd (by simp only [go_sem, rows_nil, Ret_eq Try.results78]; first | done | rfl) (hc) (by rintro _ rfl; rfl) ?_; rintro _ rfl) | fail)
    all_goals rfl

theorem trainNew_bad (n : Int) (h : n < 0) : Fun Try.prog 77 [.v (.int .i64 n)] fun r => r = .tup [trainD 0 0 [], .v (.int .i64 1)] := by
  refine Fun.of_awpI Try.func77 rfl cal77 Try.ntmps77 (by simp) fun hwf => ?_
  simp only [D.wfs, D.wf, ints_length, ints_wfs, rows_length, rows_wfs, capMax, and_true, true_and] at hwf
  repeat' (first | simp only [go_sem, rows_nil, Ret_eq Try.results77] | simp (disch := omega) only [arith, IntKind.bits, capMax, fill_len, elt_fill] | fail)
  all_goals rfl
end Go.Proofs.Ytpkampecmlpfmaa.T

end
section
set_option linter.unusedSimpArgs false
set_option linter.unusedVariables false
/- Plain books, how long a text is, books told the same; walked. -/
namespace Go.Proofs.Ytpkampecmlpfmaa.T
open Go Go.VL Go.Proofs
set_option maxRecDepth 100000
set_option maxHeartbeats 8000000
theorem any_width : D.any.width = 1 := rfl
theorem setPart_xr {i n : Nat} : setPart .any 0 (.ref i n) = some (.ref i n) := (rfl)

theorem bwithin_fun (n m : Int) : Fun Try.prog 114 [.v (.int .i64 n), .v (.int .i64 m)] fun r => r = .v (.bool (decide (sizesOk n m))) := by
  refine Fun.of_awpI Try.func114 rfl cal114 Try.ntmps114 (by simp) fun hwf => ?_
  simp only [D.wfs, D.wf, ints_length, ints_wfs, rows_length, rows_wfs, capMax, and_true, true_and] at hwf
  by_cases h : sizesOk n m
  · rw [decide_eq_true h]
    obtain ⟨⟨h1, h2⟩, h3, h4⟩ := h
    by_cases q : m < n
    · have e : (if m < n then m else n) = m := if_pos q
      repeat' (first | simp only [go_sem, e, Ret_eq Try.results114] | simp (disch := omega) only [arith, IntKind.bits, capMax, fill_len, elt_fill] | fail)
    · have e : (if m < n then m else n) = n := if_neg q
      repeat' (first | simp only [go_sem, e, Ret_eq Try.results114] | simp (disch := omega) only [arith, IntKind.bits, capMax, fill_len, elt_fill] | fail)
  · rw [decide_eq_false h]
    by_cases q : m < n
    · have e : (if m < n then m else n) = m := if_pos q
      by_cases h1 : 1 ≤ m
      · by_cases h2 : n ≤ 64
        · have h3 : ¬ m ≤ 16 := fun r => h ⟨⟨by omega, h2⟩, h1, r⟩
          repeat' (first | simp only [go_sem, e, Ret_eq Try.results114] | simp (disch := omega) only [arith, IntKind.bits, capMax, fill_len, elt_fill] | fail)
        · repeat' (first | simp only [go_sem, e, Ret_eq Try.results114] | simp (disch := omega) only [arith, IntKind.bits, capMax, fill_len, elt_fill] | fail)
      · repeat' (first | simp only [go_sem, e, Ret_eq Try.results114] | simp (disch := omega) only [arith, IntKind.bits, capMax, fill_len, elt_fill] | fail)
    · have e : (if m < n then m else n) = n := if_neg q
      by_cases h1 : 1 ≤ n
      · by_cases h2 : n ≤ 64
        · have h3 : ¬ m ≤ 16 := fun r => h ⟨⟨h1, h2⟩, by omega, r⟩
          repeat' (first | simp only [go_sem, e, Ret_eq Try.results114] | simp (disch := omega) only [arith, IntKind.bits, capMax, fill_len, elt_fill] | fail)
        · repeat' (first | simp only [go_sem, e, Ret_eq Try.results114] | simp (disch := omega) only [arith, IntKind.bits, capMax, fill_len, elt_fill] | fail)
      · repeat' (first | simp only [go_sem, e, Ret_eq Try.results114] | simp (disch := omega) only [arith, IntKind.bits, capMax, fill_len, elt_fill] | fail)

theorem size_fun (n m : Int) : Fun Try.prog 58 [.v (.int .i64 n), .v (.int .i64 m)] fun r => r = .tup [.v (.int .i64 (sizeV n m)), .v (.int .i64 (sizeE n m))] := by
  have hb := bwithin_fun n m
  unfold sizeV sizeE
  by_cases h : sizesOk n m
  · rw [decide_eq_true h] at hb
    rw [if_pos h, if_pos h]
    obtain ⟨⟨h1, h2⟩, h3, h4⟩ := h
    have e1 : 2 * n * (m - 1) ≤ 2 * 64 * 15 := Int.mul_le_mul (by omega) (by omega) (by omega) (by omega)
    have e2 : 0 ≤ 2 * n * (m - 1) := Int.mul_nonneg (by omega) (by omega)
    refine Fun.of_awpI Try.func58 rfl cal58 Try.ntmps58 (by simp) fun hwf => ?_
    simp only [D.wfs, D.wf, ints_length, ints_wfs, rows_length, rows_wfs, capMax, and_true, true_and] at hwf
    repeat' (first | simp only [go_sem, Ret_eq Try.results58] | simp (disch := omega) only [arith, IntKind.bits, capMax, fill_len, elt_fill] | (refine opCallI_rd (by simp only [go_sem, Ret_eq Try.results58]; first | done | rfl) (hb) (by rintro _ rfl; rfl) ?_; rintro _ rfl) | fail)
  · rw [decide_eq_false h] at hb
    rw [if_neg h, if_neg h]
    refine Fun.of_awpI Try.func58 rfl cal58 Try.ntmps58 (by simp) fun hwf => ?_
    simp only [D.wfs, D.wf, ints_length, ints_wfs, rows_length, rows_wfs, capMax, and_true, true_and] at hwf
    repeat' (first | simp only [go_sem, Ret_eq Try.results58] | (refine opCallI_rd (by simp only [go_sem, Ret_eq Try.results58]; first | done | rfl) (hb) (by rintro _ rfl; rfl) ?_; rintro _ rfl) | fail)

theorem equalRow_fun (a b : List Int) : Fun Try.prog 117 [.lst (ints .i16 a), .lst (ints .i16 b)] fun r => r = .v (.bool (decide (a = b))) := by
  refine Fun.of_awpI Try.func117 rfl cal117 Try.ntmps117 (by simp) fun hwf => ?_
  simp only [D.wfs, D.wf, ints_length, ints_wfs, rows_length, rows_wfs, capMax, and_true, true_and] at hwf
  repeat' (first | simp only [go_sem, Ret_eq Try.results117] | (with_reducible refine condI_bne (fun hq hqb => ?_) (fun hq hqb => ?_) <;> simp only [KP_mk, hqb]) | fail)
  · rw [decide_eq_false]; rintro rfl; omega
  · have hl : a.length = b.length := by omega
    refine awpI_for a.length (fun k => a.take k = b.take k) (fun k => [(13, .v (.int .i64 k))]) (fun _ => []) [0, 1, 12] [] _ (Weak.refl _) (by simp) ?_ ?_ ?_
    · simp only [go_sem, Ret_eq Try.results117]
    · simp only [go_sem, Ret_eq Try.results117]
    · intro k s hk hQ hs
      simp only [go_sem, Ret_eq Try.results117] at hs
      by_cases hka : k < a.length
      · repeat' (first | simp only [go_sem, hs, Ret_eq Try.results117] | simp (disch := omega) only [arith, IntKind.bits, capMax, fill_len, elt_fill] | (with_reducible refine condI_bne (fun hq hqb => ?_) (fun hq hqb => ?_) <;> simp only [KP_mk, hqb]) | (refine awpI_draw2 (id := 6) (.one false 0 (.one false 1 (.one false 2 (.one false 3 (.one false 4 (.one false 5 (.one false 6 (.one false 7 (.one false 8 .done))))))))) mixed (by decide +kernel) (by decide +kernel) ?_) | (refine Again.up (by omega) ?_ ?_) | fail)
        · rw [decide_eq_false]; rintro rfl; simp_all
        · exact take_eq_snoc hka (by omega) hQ (by assumption)
      · obtain rfl : k = a.length := by omega
        rw [List.take_length, hl, List.take_length] at hQ
        subst hQ
        repeat' (first | simp only [go_sem, hs, Ret_eq Try.results117] | simp (disch := omega) only [arith, IntKind.bits, capMax, fill_len, elt_fill] | fail)

theorem equalRows_fun (a b : List (List Int)) : Fun Try.prog 116 [.lst (rows .i16 a), .lst (rows .i16 b), .clos (.func 117) []] fun r => r = .v (.bool (decide (a = b))) := by
  refine Fun.of_awpI Try.func116 rfl cal116 Try.ntmps116 (by simp) fun hwf => ?_
  simp only [D.wfs, D.wf, ints_length, ints_wfs, rows_length, rows_wfs, capMax, and_true, true_and] at hwf
  have hlb : b.length ≤ 9223372036854775807 := by have := hwf.2.1; exact this
  have hla : a.length ≤ 9223372036854775807 := by have := hwf.1.1; exact this
  by_cases hl : a.length = b.length
  · repeat' (first | simp only [go_sem, hl, Ret_eq Try.results116] | simp (disch := omega) only [arith, IntKind.bits, capMax, fill_len, elt_fill] | fail)
    refine awpI_for b.length (fun k => a.take k = b.take k) (fun k => [(17, .v (.int .i64 k))]) (fun _ => []) [1, 2, 15, 16] [] _ (Weak.refl _) (by simp) ?_ ?_ ?_
    · simp only [go_sem, Ret_eq Try.results116]
    · simp only [go_sem, Ret_eq Try.results116]
    · intro k s hk hQ hs
      simp only [go_sem, Ret_eq Try.results116] at hs
      by_cases hka : k < b.length
      · have e1 := take_snoc (a := a) (d := ([] : List Int)) (k := k) (by omega)
        have e2 := take_snoc (a := b) (d := ([] : List Int)) hka
        have hs1 := equalRow_fun (a.getD k []) (b.getD k [])
        by_cases hv : a.getD k [] = b.getD k []
        · rw [decide_eq_true hv] at hs1
          repeat' (first | simp only [go_sem, hs, Ret_eq Try.results116] | simp (disch := omega) only [arith, IntKind.bits, capMax, fill_len, elt_fill] | (refine Again.up (by omega) ?_ ?_) | (refine opCallI_rd (by simp only [go_sem, hs, Ret_eq Try.results116]; first | done | rfl) (hs1) (by rintro _ rfl; rfl) ?_; rintro _ rfl) | fail)
          rw [e1, e2, hQ, hv]
        · rw [decide_eq_false hv] at hs1
          have hne : a ≠ b := fun q => hv (by rw [q])
          repeat' (first | simp only [go_sem, hs, decide_eq_false hne, Ret_eq Try.results116] | simp (disch := omega) only [arith, IntKind.bits, capMax, fill_len, elt_fill] | (refine opCallI_rd (by simp only [go_sem, hs, decide_eq_false hne, Ret_eq Try.results116]; first | done | rfl) (hs1) (by rintro _ rfl; rfl) ?_; rintro _ rfl) | fail)
      · obtain rfl : k = b.length := by omega
        have hQ3 : a = b := by
          rw [List.take_length, ← hl, List.take_length] at hQ; exact hQ
        repeat' (first | simp only [go_sem, hs, decide_eq_true hQ3, Ret_eq Try.results116] | simp (disch := omega) only [arith, IntKind.bits, capMax, fill_len, elt_fill] | fail)
  · have hne : a ≠ b := fun q => hl (by rw [q])
    repeat' (first | simp only [go_sem, decide_eq_false hne, Ret_eq Try.results116] | simp (disch := omega) only [arith, IntKind.bits, capMax, fill_len, elt_fill] | fail)

theorem bookSame_fun (w : Int) (c : List (List Int)) (w2 : Int) (c2 : List (List Int)) : Fun Try.prog 62 [bookD w c, bookD w2 c2] fun r => r = .v (.bool (decide (w = w2 ∧ c = c2))) := by
  have h3 := equalRows_fun c c2
  refine Fun.of_awpI Try.func62 rfl cal62 Try.ntmps62 (by simp) fun hwf => ?_
  simp only [D.wfs, D.wf, ints_length, ints_wfs, rows_length, rows_wfs, capMax, and_true, true_and] at hwf
  by_cases g1 : w = w2
  · have b1 : (w == w2) = true := beq_iff_eq.2 g1
    have e : decide (w = w2 ∧ c = c2) = decide (c = c2) := by simp [g1]
    rw [e]
    repeat' (first | simp only [go_sem, b1, Ret_eq Try.results62] | (refine opCallI_rd (by simp only [go_sem, b1, Ret_eq Try.results62]; first | done | rfl) (h3) (by rintro _ rfl; rfl) ?_; rintro _ rfl) | fail)
  · have b1 : (w == w2) = false := beq_eq_false_iff_ne.2 g1
    rw [decide_eq_false (fun q => g1 q.1)]
    repeat' (first | simp only [go_sem, b1, Ret_eq Try.results62] | fail)

theorem plain1_fun (n : Nat) (h : 1 ≤ n ∧ n ≤ 64) : Fun Try.prog 56 [.v (.int .i64 n), .v (.int .i64 1)] fun r => r = .tup [bookD 0 (List.replicate n []), .v (.int .i64 0)] := by
  have hb := bwithin_fun n 1
  have hs0 : sizesOk n 1 := ⟨by omega, by omega⟩
  rw [decide_eq_true hs0] at hb
  refine Fun.of_awpI Try.func56 rfl cal56 Try.ntmps56 (by simp) fun hwf => ?_
  simp only [D.wfs, D.wf, ints_length, ints_wfs, rows_length, rows_wfs, capMax, and_true, true_and] at hwf
  repeat' (first | simp only [go_sem, Ret_eq Try.results56] | simp (disch := omega) only [arith, IntKind.bits, capMax, fill_len, elt_fill] | (refine opCallI_rd (by simp only [go_sem, Ret_eq Try.results56]; first | done | rfl) (hb) (by rintro _ rfl; rfl) ?_; rintro _ rfl) | fail)
  refine awpI_for n (fun k => True) (fun k => [(20, .v (.int .i64 k))]) (fun k => [(15, ⟨22, 1, tab [] n⟩)]) [1, 4, 6, 19] [4, 6] _ (Weak.refl _) trivial ?_ ?_ ?_
  · simp only [go_sem, Ret_eq Try.results56]
  · simp only [go_sem, Int.toNat_natCast, Ret_eq Try.results56]
  · intro k s hk _ hs
    simp only [go_sem, Ret_eq Try.results56] at hs
    by_cases hka : k < n
    · repeat' (first | simp only [go_sem, hs, Ret_eq Try.results56] | simp (disch := omega) only [arith, IntKind.bits, capMax, fill_len, elt_fill] | fail)
      refine awpI_for 0 (fun k => True) (fun j => [(8, .v (.int .i64 1))]) (fun j => []) [1, 4, 6, 7, 19, 20] [4, 6, 15] _ (Weak.refl _) trivial ?_ ?_ ?_
      · simp only [go_sem, hs, Ret_eq Try.results56]
      · simp only [go_sem, hs, Ret_eq Try.results56]
      · intro j s2 hj2 _ hs2
        simp only [go_sem, hs, Ret_eq Try.results56] at hs2
        repeat' (first | simp only [go_sem, hs, hs2, Ret_eq Try.results56] | simp (disch := omega) only [arith, IntKind.bits, capMax, fill_len, elt_fill] | (refine Again.up (by omega) ?_ ?_) | fail)
    · obtain rfl : k = n := by omega
      repeat' (first | simp only [go_sem, hs, List.nil_append, List.length_replicate, List.take_replicate, Nat.min_self, Ret_eq Try.results56] | simp (disch := omega) only [arith, IntKind.bits, capMax, fill_len, elt_fill] | fail)
      all_goals skip
theorem plain_fun (n : Nat) (m : Nat) (h : 1 ≤ n ∧ n ≤ 64) (hm : 2 ≤ m ∧ m ≤ 16) : Fun Try.prog 56 [.v (.int .i64 n), .v (.int .i64 m)] fun r => r = .tup [bookD 0 (List.replicate n (plainRow m)), .v (.int .i64 0)] := by
  have hb := bwithin_fun n m
  have hs0 : sizesOk n m := ⟨by omega, by omega⟩
  rw [decide_eq_true hs0] at hb
  have hrl : (plainRow m).length = m - 1 := by simp [plainRow]
  have hrg : ∀ j, j < m - 1 → (plainRow m).getD j 0 = plainCut m j := fun j hj => plainRow_getD (by omega)
  generalize plainRow m = row at *
  refine Fun.of_awpI Try.func56 rfl cal56 Try.ntmps56 (by simp) fun hwf => ?_
  simp only [D.wfs, D.wf, ints_length, ints_wfs, rows_length, rows_wfs, capMax, and_true, true_and] at hwf
  repeat' (first | simp only [go_sem, Ret_eq Try.results56] | simp (disch := omega) only [arith, IntKind.bits, capMax, fill_len, elt_fill] | (refine opCallI_rd (by simp only [go_sem, Ret_eq Try.results56]; first | done | rfl) (hb) (by rintro _ rfl; rfl) ?_; rintro _ rfl) | fail)
  refine awpI_for n (fun k => True) (fun k => [(20, .v (.int .i64 k))]) (fun k => [(15, ⟨22, 1, tab (List.replicate k row) (n - k)⟩)]) [1, 4, 6, 19] [4, 6] _ (Weak.refl _) trivial ?_ ?_ ?_
  · simp only [go_sem, Ret_eq Try.results56]
  · simp only [go_sem, Int.toNat_natCast, List.replicate_zero, Nat.sub_zero, Ret_eq Try.results56]
  · intro k s hk _ hs
    simp only [go_sem, Ret_eq Try.results56] at hs
    by_cases hka : k < n
    · obtain ⟨q, hq⟩ : ∃ q, n - k = q + 1 := ⟨n - k - 1, by omega⟩
      have hlk : (List.replicate k row).length = k := List.length_replicate
      rw [hq] at hs
      have htg0 := tab_get (A := List.replicate k row) (m := q)
      have hts := tab_set (A := List.replicate k row) (id := 43) (len := 1) (m := q)
      rw [hlk] at htg0 hts
      repeat' (first | simp only [go_sem, hs, Ret_eq Try.results56] | simp (disch := omega) only [arith, IntKind.bits, capMax, fill_len, elt_fill] | fail)
      refine awpI_for (m - 1) (fun j => True) (fun j => [(8, .v (.int .i64 ((j + 1 : Nat) : Int)))])
        (fun j => match j with | 0 => [(15, ⟨22, 1, tab (List.replicate k row) (q + 1)⟩)] | j + 1 => [(15, ⟨22, 1, tabR (List.replicate k row) 43 (j + 1) q⟩), (43, ⟨23, 1, ints .i16 (row.take (j + 1))⟩)]) [1, 4, 6, 7, 19, 20] [4, 6] _ (Weak.refl _) trivial ?_ ?_ ?_
      · simp only [go_sem, hs, Ret_eq Try.results56]
      · simp only [go_sem, hs, Ret_eq Try.results56]
      · intro j s2 hj2 _ hs2
        by_cases hja : j < m - 1
        · have et := take_snoc (a := row) (d := (0 : Int)) (k := j) (by omega)
          rw [hrg j hja] at et
          have hpr := plainCut_range (cells := m) (k := j) (by omega) (by omega)
          have ew : IntKind.i16.wrap (plainCut m j) = plainCut m j := IntWalk.i16_in _ (by omega)
          have hcut : ∀ y : Int, y = ((j : Int) + 1) * 65536 / (m : Int) → IntKind.i16.wrap (IntKind.i64.wrap (IntKind.i64.wrap y - 32768)) = plainCut m j := fun y hy => by
            have e0 : plainCut m j = y - 32768 := by rw [hy]; rfl
            rw [e0] at hpr ew ⊢
            rw [show IntKind.i64.wrap y = y from IntWalk.i64_in _ (by omega), show IntKind.i64.wrap (y - 32768) = y - 32768 from IntWalk.i64_in _ (by omega)]
            exact ew
          cases j with
          | zero =>
            simp only [go_sem, Ret_eq Try.results56] at hs2
            have hc0 := hcut (1 * 65536 / (m : Int)) (by simp)
            repeat' (first | simp only [go_sem, hs, hs2, htg0, hts, List.all_nil, List.all_cons, hc0, Ret_eq Try.results56] | simp (disch := omega) only [arith, IntKind.bits, capMax, fill_len, elt_fill] | (refine awpI_draw2 (id := 10) (.one false 8 (.one false 9 (.one false 10 (.one false 11 (.one false 12 (.one false 13 (.fam 3 [14] [42] [41] (.fam 4 [14] [42] [41] (.one true 2 (.one true 5 (.fam 6 [14] [42] [41] (.fam 7 [14] [42] [41] (.two 0 14 (.two 1 14 (.only 14 (.only 15 (.one false 16 (.only 17 .done)))) (.two 1 15 (.only 15 (.one false 16 (.only 17 .done))) (.one false 1 (.one false 16 (.only 17 .done))))) (.two 0 15 (.two 1 15 (.only 15 (.one false 16 (.only 17 .done))) (.one false 1 (.one false 16 (.only 17 .done)))) (.one false 0 (.one false 1 (.one false 16 (.only 17 .done)))))))))))))))))) mixed (by decide +kernel) (by decide +kernel) ?_) | (refine sch2I_two ?_ ?_) | (refine Again.up (by omega) ?_ ?_) | fail)
            all_goals (refine ⟨rfl, ?_⟩; rw [et]; rfl)
          | succ j =>
            simp only [go_sem, Ret_eq Try.results56] at hs2
            have hrg2 := tabR_get (A := List.replicate k row) (id := 43) (len := j + 1) (m := q)
            have hra := tabA_set (A := List.replicate k row) (id := 43) (len := j + 1 + 1) (m := q)
            have hag := tabA_get (A := List.replicate k row) (m := q)
            rw [hlk] at hrg2 hra hag
            have hc0 := hcut (((j + 1 + 1 : Nat) : Int) * 65536 / (m : Int)) (by push_cast; rfl)
            have htl : (row.take (j + 1)).length = j + 1 := by rw [List.length_take]; omega
            repeat' (first | simp only [go_sem, hs, hs2, hrg2, hra, hag, any_width, setPart_xr, List.all_nil, List.all_cons, hc0, et, htl, List.length_append, List.length_cons, List.length_nil, Ret_eq Try.results56] | simp (disch := omega) only [arith, IntKind.bits, capMax, fill_len, elt_fill] | (refine awpI_draw2 (id := 10) (.one false 8 (.one false 9 (.one false 10 (.one false 11 (.one false 12 (.one false 13 (.fam 3 [14] [42] [41] (.fam 4 [14] [42] [41] (.one true 2 (.one true 5 (.fam 6 [14] [42] [41] (.fam 7 [14] [42] [41] (.two 0 14 (.two 1 14 (.only 14 (.only 15 (.one false 16 (.only 17 .done)))) (.two 1 15 (.only 15 (.one false 16 (.only 17 .done))) (.one false 1 (.one false 16 (.only 17 .done))))) (.two 0 15 (.two 1 15 (.only 15 (.one false 16 (.only 17 .done))) (.one false 1 (.one false 16 (.only 17 .done)))) (.one false 0 (.one false 1 (.one false 16 (.only 17 .done)))))))))))))))))) mixed (by decide +kernel) (by decide +kernel) ?_) | (refine sch2I_two ?_ ?_) | (refine Again.up (by omega) ?_ ?_) | fail)
            all_goals skip
        · obtain rfl : j = m - 1 := by omega
          obtain ⟨p, hp⟩ : ∃ p, m - 1 = p + 1 := ⟨m - 2, by omega⟩
          rw [hp] at hs2
          simp only [go_sem, Ret_eq Try.results56] at hs2
          have htr : row.take (p + 1) = row := List.take_of_length_le (by omega)
          rw [htr] at hs2
          have hfz := tabR_frzs (A := List.replicate k row) (id := 43) (m := q) (l := row)
          rw [hrl, hp, ← List.replicate_succ'] at hfz
          repeat' (first | simp only [go_sem, hs, hs2, Ret_eq Try.results56] | simp (disch := omega) only [arith, IntKind.bits, capMax, fill_len, elt_fill] | fail)
          refine AgainB_frz 43 ⟨23, 1, ints .i16 row⟩ (by simp only [go_sem, hs, hs2, Ret_eq Try.results56]) (by simp only [go_sem, Ret_eq Try.results56]) (by simp only [go_sem, Ret_eq Try.results56]) hka trivial ?_
          have hm' : n - (k + 1) = q := by omega
          simp only [go_sem, hs, hs2, hfz, hm', Ret_eq Try.results56]
    · obtain rfl : k = n := by omega
      rw [Nat.sub_self] at hs
      repeat' (first | simp only [go_sem, hs, tab_end, List.length_replicate, List.take_replicate, Nat.min_self, Ret_eq Try.results56] | simp (disch := omega) only [arith, IntKind.bits, capMax, fill_len, elt_fill] | fail)
      all_goals skip
theorem plain_bad (n m : Int) (h : ¬ sizesOk n m) : Fun Try.prog 56 [.v (.int .i64 n), .v (.int .i64 m)] fun r => r = .tup [bookD 0 [], .v (.int .i64 1)] := by
  have hb := bwithin_fun n m
  rw [decide_eq_false h] at hb
  refine Fun.of_awpI Try.func56 rfl cal56 Try.ntmps56 (by simp) fun hwf => ?_
  simp only [D.wfs, D.wf, ints_length, ints_wfs, rows_length, rows_wfs, capMax, and_true, true_and] at hwf
  repeat' (first | simp only [go_sem, rows_nil, Ret_eq Try.results56] | (refine opCallI_rd (by simp only [go_sem, rows_nil, Ret_eq Try.results56]; first | done | rfl) (hb) (by rintro _ rfl; rfl) ?_; rintro _ rfl) | fail)
  all_goals rfl
end Go.Proofs.Ytpkampecmlpfmaa.T

end
section
set_option linter.unusedSimpArgs false
set_option linter.unusedVariables false
/- Law: by whatever budgets a sample is gathered, it is the same. -/
namespace Go.Proofs.Ytpkampecmlpfmaa.T
open Go Go.VL Go.Proofs
set_option maxRecDepth 100000
set_option maxHeartbeats 8000000
/-- What is gathered in so many steps. -/
def budN (b all : Int) (k : Nat) : Nat := (min ((k : Int) * b) all).toNat
theorem bud_zero {b all : Int} (ha : 0 ≤ all) : budN b all 0 = 0 := by unfold budN; rw [Int.natCast_zero, Int.zero_mul]; omega
theorem bud_step {b all : Int} {k : Nat} (hb : 1 ≤ b) (ha : 0 ≤ all) : budN b all (k + 1) = budN b all k + stepN (budN b all k) b all := by
  unfold budN stepN
  have e : ((k + 1 : Nat) : Int) * b = (k : Int) * b + b := by rw [Int.natCast_succ, Int.add_mul, Int.one_mul]
  have h0 : 0 ≤ (k : Int) * b := Int.mul_nonneg (Int.natCast_nonneg _) (by omega)
  rw [e]
  generalize (k : Int) * b = z at *
  omega
theorem bud_le {b all : Int} {k : Nat} (ha : 0 ≤ all) : (budN b all k : Int) ≤ all := by unfold budN; omega
/-- How many steps there are. -/
def stepsN (b all : Int) : Int := (max (all - 0) 0 + b - 1) / b
theorem steps_bound {b all : Int} (hb : 1 ≤ b) (ha : 0 ≤ all) : 0 ≤ stepsN b all ∧ stepsN b all ≤ all ∧ (∀ k : Nat, (k : Int) < stepsN b all → (budN b all k : Int) < all) ∧ budN b all (stepsN b all).toNat = all.toNat := by
  unfold stepsN
  have e : max (all - 0) 0 = all := by omega
  rw [e]
  have h1 := Int.ediv_mul_add_emod (all + b - 1) b
  have h2 := Int.emod_nonneg (all + b - 1) (show b ≠ 0 by omega)
  have h3 := Int.emod_lt_of_pos (all + b - 1) (show 0 < b by omega)
  have h0 : 0 ≤ (all + b - 1) / b := Int.ediv_nonneg (by omega) (by omega)
  generalize (all + b - 1) / b = q at *
  generalize (all + b - 1) % b = r at *
  have hqb : all ≤ q * b := by omega
  refine ⟨h0, ?_, fun k hk => ?_, ?_⟩
  · refine Classical.byContradiction fun z => ?_
    have : (all + 1) * b ≤ q * b := Int.mul_le_mul_of_nonneg_right (by omega) (by omega)
    rw [Int.add_mul, Int.one_mul] at this
    have h5 : all * 1 ≤ all * b := Int.mul_le_mul_of_nonneg_left hb ha
    omega
  · have : ((k : Int) + 1) * b ≤ q * b := Int.mul_le_mul_of_nonneg_right (by omega) (by omega)
    rw [Int.add_mul, Int.one_mul] at this
    unfold budN
    have hz : 0 ≤ (k : Int) * b := Int.mul_nonneg (Int.natCast_nonneg _) (by omega)
    generalize (k : Int) * b = z at *
    omega
  · unfold budN
    rw [Int.toNat_of_nonneg h0]
    congr 1
    omega
theorem spread2 {dim x : Int} {ids : List Int} {vecs : List (List Int)} {n : Nat} (hs : slotsOk dim ids vecs) (h2 : fewSlots ids vecs) : ∀ c ∈ gathered x ids vecs n, c.length ≤ 500 := fun c hc => by
  obtain ⟨j, j1, _, j2, _⟩ := gathered_mem hs hc
  have := h2.1 _ (getD_mem (a := vecs) (d := []) (k := j) (by have := hs.2.2.1; omega))
  rw [← j2] at this; omega
/-- What is gathered after so many steps. -/
abbrev budD (x b all : Int) (ids : List Int) (vecs : List (List Int)) (k : Nat) : D := trainD (nx x (budN b all k)) (budN b all k : Int) (gathered x ids vecs (budN b all k))
theorem ofVal115 : D.ofVal (Value.agg #[.int .u64 0, .int .i64 0, .slice none 0 0, .int .u64 0, .int .i64 0, .slice none 0 0]) = .agg [.v (.int .u64 0), .v (.int .i64 0), .v (.slice none 0 0), .v (.int .u64 0), .v (.int .i64 0), .v (.slice none 0 0)] := (rfl)
attribute [go_sem] ofVal115
theorem gathered_i16 {dim x : Int} {ids : List Int} {vecs : List (List Int)} {n : Nat} (hs : slotsOk dim ids vecs) (hI : I16r vecs) : I16r (gathered x ids vecs n) := fun c hc => by
  obtain ⟨j, j1, _, j2, _⟩ := gathered_mem hs hc
  rw [j2]; exact hI.getD j

theorem trainBudgets_law (hS : Sorted16) (seed : Int) (dim : Int) (ids : List Int) (vecs : List (List Int)) (a b all : Int) (w : Int) (cuts : List (List Int)) (hsd : -9223372036854775808 ≤ seed ∧ seed ≤ 9223372036854775807) (hI : I16r vecs) : Fun Try.prog 23 [.v (.int .i64 seed), slotsD dim ids vecs, .v (.int .i64 a), .v (.int .i64 b), .v (.int .i64 all), bookD w cuts] fun r => r = .v (.bool true) := by
  have hf1 := fewSlots_fun dim ids vecs
  have hf2 := few_fun w cuts
  by_cases g1 : fewSlots ids vecs
  · rw [decide_eq_true g1] at hf1
    by_cases g2 : fewB cuts = true
    · rw [g2] at hf2
      by_cases g3 : all ≤ 100
      · by_cases q : 0 ≤ seed
        · have hnew := trainNew_fun seed ⟨q, hsd.2⟩
          simp only [trainD, rows_nil] at hnew
          refine Fun.of_awpI Try.func23 rfl cal23 Try.ntmps23 (by simp) fun hwf => ?_
          simp only [D.wfs, D.wf, ints_length, ints_wfs, rows_length, rows_wfs, capMax, and_true, true_and] at hwf
          repeat' (first | simp only [go_sem, Ret_eq Try.results23] | simp (disch := omega) only [arith, IntKind.bits, capMax, fill_len, elt_fill] | (refine opCallI_rd (by simp only [go_sem, Ret_eq Try.results23]; first | done | rfl) (trainLive_fun) (by rintro _ rfl; rfl) ?_; rintro _ rfl) | (refine opCallI_rd (by simp only [go_sem, Ret_eq Try.results23]; first | done | rfl) (hf1) (by rintro _ rfl; rfl) ?_; rintro _ rfl) | (refine opCallI_rd (by simp only [go_sem, Ret_eq Try.results23]; first | done | rfl) (hf2) (by rintro _ rfl; rfl) ?_; rintro _ rfl) | fail)
          refine awpI_for 2 (fun k => k = 2 → 0 ≤ all ∧ all ≤ 4096 ∧ (1 ≤ all → slotsOk dim ids vecs)) (fun k => [(49, .v (.int .i64 k))]) (fun k => match k with | 0 => [(14, ⟨115, 6, [.agg ([.v (.int .u64 0), .v (.int .i64 0), .v (.slice none 0 0)] ++ [.v (.int .u64 0), .v (.int .i64 0), .v (.slice none 0 0)])]⟩)] | 1 => [(14, ⟨115, 6, [.agg ([.v (.int .u64 (nx seed all.toNat)), .v (.int .i64 all), .lst (rows .i16 (gathered seed ids vecs all.toNat))] ++ [.v (.int .u64 0), .v (.int .i64 0), .v (.slice none 0 0)])]⟩)] | _ => [(14, ⟨115, 6, [.agg ([.v (.int .u64 (nx seed all.toNat)), .v (.int .i64 all), .lst (rows .i16 (gathered seed ids vecs all.toNat))] ++ [.v (.int .u64 (nx seed all.toNat)), .v (.int .i64 all), .lst (rows .i16 (gathered seed ids vecs all.toNat))])]⟩)]) [0, 4, 7, 11, 13, 14, 47, 48] [7, 11] _ (Weak.refl _) (fun h => by cases h) ?_ ?_ ?_
          · simp only [go_sem, Ret_eq Try.results23]
          · simp only [go_sem, Ret_eq Try.results23]
            all_goals rfl
          · intro i s hi0 hQ hs
            match i, hi0 with
            | 0, _ =>
              simp only [go_sem, Ret_eq Try.results23] at hs
              have hst0 := steps_fun seed 0 [] a all
              simp only [trainD, rows_nil] at hst0
              by_cases hck : chkOk 0 [] a all
              · rw [if_pos hck, show chkE 0 [] a all = 0 from if_pos hck] at hst0
                obtain ⟨_, ⟨c1, c2⟩, c3, c4⟩ := hck
                obtain ⟨s1, s2, s3, s4⟩ := steps_bound (b := a) (all := all) c1 c3
                rw [show (max (all - 0) 0 + a - 1) / a = stepsN a all from rfl] at hst0
                obtain ⟨nn, hnn⟩ := Int.eq_ofNat_of_zero_le s1
                rw [hnn] at hst0 s3 s4
                rw [hnn] at s2
                rw [Int.toNat_natCast] at s4
                have hd0 : (all == 0) = decide (all ≤ (budN a all 0 : Int)) := by
                  rw [bud_zero c3]
                  by_cases z : all = 0
                  · rw [beq_iff_eq.2 z, decide_eq_true (by omega)]
                  · rw [beq_eq_false_iff_ne.2 z, decide_eq_false (by omega)]
                have hb0 : D.agg [.v (.int .u64 seed), .v (.int .i64 0), .lst []] = budD seed a all ids vecs 0 := by
                  unfold budD; rw [bud_zero c3]; rfl
                repeat' (first | simp only [go_sem, hs, beq_self_eq_true, bne_self_eq_false, hd0, hb0, Ret_eq Try.results23] | (refine opCallI_gv (by simp only [go_sem, hs, beq_self_eq_true, bne_self_eq_false, hd0, hb0, Ret_eq Try.results23]; first | done | rfl) (hnew) ?_; rintro _ rfl) | (refine opCallI_rd (by simp only [go_sem, hs, beq_self_eq_true, bne_self_eq_false, hd0, hb0, Ret_eq Try.results23]; first | done | rfl) (hst0) (by rintro _ rfl; rfl) ?_; rintro _ rfl) | fail)
                refine awpI_for nn (fun k => 0 < k → slotsOk dim ids vecs) (fun k => [(76, .v (.int .i64 k)), (21, .v (.bool (decide (all ≤ (budN a all k : Int)))))]) (fun k => [(17, ⟨99, 3, [budD seed a all ids vecs k]⟩)]) [0, 4, 7, 11, 13, 14, 15, 16, 17, 47, 48, 49, 75] [7, 11, 14] _ (Weak.refl _) (fun z => absurd z (Nat.lt_irrefl 0)) ?_ ?_ ?_
                · simp only [go_sem, hs, hd0, Ret_eq Try.results23]
                · simp only [go_sem, hs, hb0, Ret_eq Try.results23]
                · intro k s5 hk hQ5 hs5
                  simp only [go_sem, hs, Ret_eq Try.results23] at hs5
                  by_cases hka : k < nn
                  · have hlt := s3 k (by omega)
                    have hdn : decide (all ≤ (budN a all k : Int)) = false := decide_eq_false (by omega)
                    by_cases hso : slotsOk dim ids vecs
                    · have hgl := gathered_length (x := seed) (ids := ids) (vecs := vecs) (n := budN a all k)
                      have hstep := step_fun (nx seed (budN a all k)) (budN a all k) (gathered seed ids vecs (budN a all k)) dim ids vecs a all ⟨⟨by omega, by omega, fun v hv => (gathered_mem hso hv).choose_spec.2.2.2⟩, ⟨c1, c2⟩, c3, c4⟩ hso (by omega) (spread2 hso g1) (fun v hv => by have := g1.1 v hv; omega)
                      have hbs := bud_step (b := a) (all := all) (k := k) c1 c3
                      have hbs2 : (budN a all k : Int) + (stepN (budN a all k) a all : Int) = (budN a all (k + 1) : Int) := by rw [hbs, Int.natCast_add]
                      rw [← nx_add, ← gathered_add, hbs2, ← hbs] at hstep
                      repeat' (first | simp only [go_sem, hs, hs5, hdn, bne_self_eq_false, Ret_eq Try.results23] | simp (disch := omega) only [arith, IntKind.bits, capMax, fill_len, elt_fill] | (refine Again.up (by omega) ?_ ?_) | (refine opCallI_gv (by simp only [go_sem, hs, hs5, hdn, bne_self_eq_false, Ret_eq Try.results23]; first | done | rfl) (hstep) ?_; rintro _ rfl) | fail)
                      all_goals exact fun _ => hso
                    · have hstep := step_bad (nx seed (budN a all k)) (budN a all k) (gathered seed ids vecs (budN a all k)) dim ids vecs a all (fun z => hso z.2)
                      simp only [trainD, rows_nil] at hstep
                      repeat' (first | simp only [go_sem, hs, hs5, hdn, bne_self_eq_false, beq_self_eq_true, Ret_eq Try.results23] | simp (disch := omega) only [arith, IntKind.bits, capMax, fill_len, elt_fill] | (refine opCallI_gv (by simp only [go_sem, hs, hs5, hdn, bne_self_eq_false, beq_self_eq_true, Ret_eq Try.results23]; first | done | rfl) (hstep) ?_; rintro _ rfl) | fail)
                      all_goals skip
                  · obtain rfl : k = nn := by omega
                    have hdn : decide (all ≤ (budN a all k : Int)) = true := decide_eq_true (by rw [s4]; omega)
                    have hat : (all.toNat : Int) = all := by omega
                    rw [s4] at hs5
                    have hsl : 1 ≤ all → slotsOk dim ids vecs := fun z => hQ5 (by
                      refine Nat.pos_of_ne_zero fun z2 => ?_
                      subst z2
                      rw [bud_zero c3] at s4
                      omega)
                    repeat' (first | simp only [go_sem, hs, hs5, hdn, hat, s4, Ret_eq Try.results23] | simp (disch := omega) only [arith, IntKind.bits, capMax, fill_len, elt_fill] | (refine Again.up (by omega) ?_ ?_) | fail)
                    all_goals first | rfl | exact fun _ => ⟨c3, c4, hsl⟩
              · rw [if_neg hck, show chkE 0 [] a all = 1 from if_neg hck] at hst0
                repeat' (first | simp only [go_sem, hs, beq_self_eq_true, bne_self_eq_false, Ret_eq Try.results23] | (refine opCallI_gv (by simp only [go_sem, hs, beq_self_eq_true, bne_self_eq_false, Ret_eq Try.results23]; first | done | rfl) (hnew) ?_; rintro _ rfl) | (refine opCallI_rd (by simp only [go_sem, hs, beq_self_eq_true, bne_self_eq_false, Ret_eq Try.results23]; first | done | rfl) (hst0) (by rintro _ rfl; rfl) ?_; rintro _ rfl) | fail)
                all_goals skip
            | 1, _ =>
              simp only [go_sem, Ret_eq Try.results23] at hs
              have hst0 := steps_fun seed 0 [] b all
              simp only [trainD, rows_nil] at hst0
              by_cases hck : chkOk 0 [] b all
              · rw [if_pos hck, show chkE 0 [] b all = 0 from if_pos hck] at hst0
                obtain ⟨_, ⟨c1, c2⟩, c3, c4⟩ := hck
                obtain ⟨s1, s2, s3, s4⟩ := steps_bound (b := b) (all := all) c1 c3
                rw [show (max (all - 0) 0 + b - 1) / b = stepsN b all from rfl] at hst0
                obtain ⟨nn, hnn⟩ := Int.eq_ofNat_of_zero_le s1
                rw [hnn] at hst0 s3 s4
                rw [hnn] at s2
                rw [Int.toNat_natCast] at s4
                have hd0 : (all == 0) = decide (all ≤ (budN b all 0 : Int)) := by
                  rw [bud_zero c3]
                  by_cases z : all = 0
                  · rw [beq_iff_eq.2 z, decide_eq_true (by omega)]
                  · rw [beq_eq_false_iff_ne.2 z, decide_eq_false (by omega)]
                have hb0 : D.agg [.v (.int .u64 seed), .v (.int .i64 0), .lst []] = budD seed b all ids vecs 0 := by
                  unfold budD; rw [bud_zero c3]; rfl
                repeat' (first | simp only [go_sem, hs, beq_self_eq_true, bne_self_eq_false, hd0, hb0, Ret_eq Try.results23] | (refine opCallI_gv (by simp only [go_sem, hs, beq_self_eq_true, bne_self_eq_false, hd0, hb0, Ret_eq Try.results23]; first | done | rfl) (hnew) ?_; rintro _ rfl) | (refine opCallI_rd (by simp only [go_sem, hs, beq_self_eq_true, bne_self_eq_false, hd0, hb0, Ret_eq Try.results23]; first | done | rfl) (hst0) (by rintro _ rfl; rfl) ?_; rintro _ rfl) | fail)
                refine awpI_for nn (fun k => 0 < k → slotsOk dim ids vecs) (fun k => [(76, .v (.int .i64 k)), (21, .v (.bool (decide (all ≤ (budN b all k : Int)))))]) (fun k => [(17, ⟨99, 3, [budD seed b all ids vecs k]⟩)]) [0, 4, 7, 11, 13, 14, 15, 16, 17, 47, 48, 49, 75] [7, 11, 14] _ (Weak.refl _) (fun z => absurd z (Nat.lt_irrefl 0)) ?_ ?_ ?_
                · simp only [go_sem, hs, hd0, Ret_eq Try.results23]
                · simp only [go_sem, hs, hb0, Ret_eq Try.results23]
                · intro k s5 hk hQ5 hs5
                  simp only [go_sem, hs, Ret_eq Try.results23] at hs5
                  by_cases hka : k < nn
                  · have hlt := s3 k (by omega)
                    have hdn : decide (all ≤ (budN b all k : Int)) = false := decide_eq_false (by omega)
                    by_cases hso : slotsOk dim ids vecs
                    · have hgl := gathered_length (x := seed) (ids := ids) (vecs := vecs) (n := budN b all k)
                      have hstep := step_fun (nx seed (budN b all k)) (budN b all k) (gathered seed ids vecs (budN b all k)) dim ids vecs b all ⟨⟨by omega, by omega, fun v hv => (gathered_mem hso hv).choose_spec.2.2.2⟩, ⟨c1, c2⟩, c3, c4⟩ hso (by omega) (spread2 hso g1) (fun v hv => by have := g1.1 v hv; omega)
                      have hbs := bud_step (b := b) (all := all) (k := k) c1 c3
                      have hbs2 : (budN b all k : Int) + (stepN (budN b all k) b all : Int) = (budN b all (k + 1) : Int) := by rw [hbs, Int.natCast_add]
                      rw [← nx_add, ← gathered_add, hbs2, ← hbs] at hstep
                      repeat' (first | simp only [go_sem, hs, hs5, hdn, bne_self_eq_false, Ret_eq Try.results23] | simp (disch := omega) only [arith, IntKind.bits, capMax, fill_len, elt_fill] | (refine Again.up (by omega) ?_ ?_) | (refine opCallI_gv (by simp only [go_sem, hs, hs5, hdn, bne_self_eq_false, Ret_eq Try.results23]; first | done | rfl) (hstep) ?_; rintro _ rfl) | fail)
                      all_goals exact fun _ => hso
                    · have hstep := step_bad (nx seed (budN b all k)) (budN b all k) (gathered seed ids vecs (budN b all k)) dim ids vecs b all (fun z => hso z.2)
                      simp only [trainD, rows_nil] at hstep
                      repeat' (first | simp only [go_sem, hs, hs5, hdn, bne_self_eq_false, beq_self_eq_true, Ret_eq Try.results23] | simp (disch := omega) only [arith, IntKind.bits, capMax, fill_len, elt_fill] | (refine opCallI_gv (by simp only [go_sem, hs, hs5, hdn, bne_self_eq_false, beq_self_eq_true, Ret_eq Try.results23]; first | done | rfl) (hstep) ?_; rintro _ rfl) | fail)
                      all_goals skip
                  · obtain rfl : k = nn := by omega
                    have hdn : decide (all ≤ (budN b all k : Int)) = true := decide_eq_true (by rw [s4]; omega)
                    have hat : (all.toNat : Int) = all := by omega
                    rw [s4] at hs5
                    have hsl : 1 ≤ all → slotsOk dim ids vecs := fun z => hQ5 (by
                      refine Nat.pos_of_ne_zero fun z2 => ?_
                      subst z2
                      rw [bud_zero c3] at s4
                      omega)
                    repeat' (first | simp only [go_sem, hs, hs5, hdn, hat, s4, Ret_eq Try.results23] | simp (disch := omega) only [arith, IntKind.bits, capMax, fill_len, elt_fill] | (refine Again.up (by omega) ?_ ?_) | fail)
                    all_goals first | rfl | exact fun _ => ⟨c3, c4, hsl⟩
              · rw [if_neg hck, show chkE 0 [] b all = 1 from if_neg hck] at hst0
                repeat' (first | simp only [go_sem, hs, beq_self_eq_true, bne_self_eq_false, Ret_eq Try.results23] | (refine opCallI_gv (by simp only [go_sem, hs, beq_self_eq_true, bne_self_eq_false, Ret_eq Try.results23]; first | done | rfl) (hnew) ?_; rintro _ rfl) | (refine opCallI_rd (by simp only [go_sem, hs, beq_self_eq_true, bne_self_eq_false, Ret_eq Try.results23]; first | done | rfl) (hst0) (by rintro _ rfl; rfl) ?_; rintro _ rfl) | fail)
                all_goals skip
            | 2, _ =>
              simp only [go_sem, Ret_eq Try.results23] at hs
              obtain ⟨c3, c4, hsl⟩ := hQ rfl
              have hG : I16r (gathered seed ids vecs all.toNat) := by
                by_cases z : 1 ≤ all
                · exact gathered_i16 (hsl z) hI
                · have : all.toNat = 0 := by omega
                  rw [this]
                  exact fun c hc => by cases hc
              have hend := trainEnd_fun hS (nx seed all.toNat) all (gathered seed ids vecs all.toNat) w cuts (nx_range (by omega) _) hG
              generalize endE (nx seed all.toNat) all (gathered seed ids vecs all.toNat) w cuts = E at *
              generalize endW (nx seed all.toNat) all (gathered seed ids vecs all.toNat) w cuts = W at *
              generalize endC (nx seed all.toNat) all (gathered seed ids vecs all.toNat) w cuts = C at *
              generalize gathered seed ids vecs all.toNat = G at *
              generalize nx seed all.toNat = X at *
              have hts := trainSame_fun X all G X all G
              rw [decide_eq_true ⟨rfl, rfl, rfl⟩] at hts
              have hsm := bookSame_fun W C W C
              rw [decide_eq_true ⟨rfl, rfl⟩] at hsm
              repeat' (first | simp only [go_sem, hs, beq_self_eq_true, Ret_eq Try.results23] | (refine opCallI_gv (by simp only [go_sem, hs, beq_self_eq_true, Ret_eq Try.results23]; first | done | rfl) (hend) ?_; rintro _ rfl) | (refine opCallI_rd (by simp only [go_sem, hs, beq_self_eq_true, Ret_eq Try.results23]; first | done | rfl) (hts) (by rintro _ rfl; rfl) ?_; rintro _ rfl) | (refine opCallI_rd (by simp only [go_sem, hs, beq_self_eq_true, Ret_eq Try.results23]; first | done | rfl) (hsm) (by rintro _ rfl; rfl) ?_; rintro _ rfl) | fail)
              all_goals skip
        · have hnew := trainNew_bad seed (by omega)
          simp only [trainD, rows_nil] at hnew
          refine Fun.of_awpI Try.func23 rfl cal23 Try.ntmps23 (by simp) fun hwf => ?_
          simp only [D.wfs, D.wf, ints_length, ints_wfs, rows_length, rows_wfs, capMax, and_true, true_and] at hwf
          repeat' (first | simp only [go_sem, Ret_eq Try.results23] | simp (disch := omega) only [arith, IntKind.bits, capMax, fill_len, elt_fill] | (refine opCallI_rd (by simp only [go_sem, Ret_eq Try.results23]; first | done | rfl) (trainLive_fun) (by rintro _ rfl; rfl) ?_; rintro _ rfl) | (refine opCallI_rd (by simp only [go_sem, Ret_eq Try.results23]; first | done | rfl) (hf1) (by rintro _ rfl; rfl) ?_; rintro _ rfl) | (refine opCallI_rd (by simp only [go_sem, Ret_eq Try.results23]; first | done | rfl) (hf2) (by rintro _ rfl; rfl) ?_; rintro _ rfl) | fail)
          refine awpI_for 2 (fun k => k = 0) (fun k => [(49, .v (.int .i64 k))]) (fun _ => []) [0, 4, 7, 11, 13, 14, 47, 48] [7, 11, 14] _ (Weak.refl _) rfl ?_ ?_ ?_
          · simp only [go_sem, Ret_eq Try.results23]
          · simp only [go_sem, Ret_eq Try.results23]
          · intro i s hi0 hQ hs
            subst hQ
            simp only [go_sem, Ret_eq Try.results23] at hs
            have hst0 := steps_fun 0 0 [] a all
            simp only [trainD, rows_nil] at hst0
            generalize chkE 0 [] a all = E at *
            repeat' (first | simp only [go_sem, hs, beq_self_eq_true, bne_self_eq_false, Ret_eq Try.results23] | (refine opCallI_gv (by simp only [go_sem, hs, beq_self_eq_true, bne_self_eq_false, Ret_eq Try.results23]; first | done | rfl) (hnew) ?_; rintro _ rfl) | (refine opCallI_rd (by simp only [go_sem, hs, beq_self_eq_true, bne_self_eq_false, Ret_eq Try.results23]; first | done | rfl) (hst0) (by rintro _ rfl; rfl) ?_; rintro _ rfl) | fail)
            all_goals skip
      · skip
        refine Fun.of_awpI Try.func23 rfl cal23 Try.ntmps23 (by simp) fun hwf => ?_
        simp only [D.wfs, D.wf, ints_length, ints_wfs, rows_length, rows_wfs, capMax, and_true, true_and] at hwf
        repeat' (first | simp only [go_sem, Ret_eq Try.results23] | simp (disch := omega) only [arith, IntKind.bits, capMax, fill_len, elt_fill] | (refine opCallI_rd (by simp only [go_sem, Ret_eq Try.results23]; first | done | rfl) (trainLive_fun) (by rintro _ rfl; rfl) ?_; rintro _ rfl) | (refine opCallI_rd (by simp only [go_sem, Ret_eq Try.results23]; first | done | rfl) (hf1) (by rintro _ rfl; rfl) ?_; rintro _ rfl) | (refine opCallI_rd (by simp only [go_sem, Ret_eq Try.results23]; first | done | rfl) (hf2) (by rintro _ rfl; rfl) ?_; rintro _ rfl) | fail)
    · rw [show fewB cuts = false by simpa using g2] at hf2
      refine Fun.of_awpI Try.func23 rfl cal23 Try.ntmps23 (by simp) fun hwf => ?_
      simp only [D.wfs, D.wf, ints_length, ints_wfs, rows_length, rows_wfs, capMax, and_true, true_and] at hwf
      repeat' (first | simp only [go_sem, Ret_eq Try.results23] | (refine opCallI_rd (by simp only [go_sem, Ret_eq Try.results23]; first | done | rfl) (trainLive_fun) (by rintro _ rfl; rfl) ?_; rintro _ rfl) | (refine opCallI_rd (by simp only [go_sem, Ret_eq Try.results23]; first | done | rfl) (hf1) (by rintro _ rfl; rfl) ?_; rintro _ rfl) | (refine opCallI_rd (by simp only [go_sem, Ret_eq Try.results23]; first | done | rfl) (hf2) (by rintro _ rfl; rfl) ?_; rintro _ rfl) | fail)
  · rw [decide_eq_false g1] at hf1
    refine Fun.of_awpI Try.func23 rfl cal23 Try.ntmps23 (by simp) fun hwf => ?_
    simp only [D.wfs, D.wf, ints_length, ints_wfs, rows_length, rows_wfs, capMax, and_true, true_and] at hwf
    repeat' (first | simp only [go_sem, Ret_eq Try.results23] | (refine opCallI_rd (by simp only [go_sem, Ret_eq Try.results23]; first | done | rfl) (trainLive_fun) (by rintro _ rfl; rfl) ?_; rintro _ rfl) | (refine opCallI_rd (by simp only [go_sem, Ret_eq Try.results23]; first | done | rfl) (hf1) (by rintro _ rfl; rfl) ?_; rintro _ rfl) | fail)
end Go.Proofs.Ytpkampecmlpfmaa.T

end
section
set_option linter.unusedSimpArgs false
set_option linter.unusedVariables false
/- slices.AppendSeq, slices.Collect over slices.Values: a raw walk of a range over a function. -/
namespace Go.Proofs.Ytpkampecmlpfmaa.T
open Go Go.VL Go.Proofs Go.RowKit
set_option maxRecDepth 100000
set_option maxHeartbeats 4000000
attribute [local go_sem] Oper.semAt_some
theorem info16 : (Try.prog.info? 23).map (fun i => (i.zero, i.size, i.bytes)) = some (some (.int .i16 0), 1, 2) := by kernel_rfl
theorem values1_in (F : Fence) (n : Nat) (hf : F.fn 139) (hro : F.round = none) (hn : 1 ≤ n) (l Bs Bo b off cap n0 : Nat) (zs : List Int) (hreach : zs.length ≤ 60000) (hb : b < n0) (w0 : World) (J : List Int → World → Prop)
    (hJb : ∀ pre w, J pre w → Below n0 w0 w)
    (hY : ∀ pre x W, J pre W → pre.length < zs.length → YieldAt F (n - 1) Try.prog l #[.int .i16 x] W fun e W' => e = .returned (.bool true) ∧ J (pre ++ [x]) W' ∧ KeepsWalks W W')
    (hc : ∀ j, j < zs.length → w0.cell? ⟨b, off + j, none⟩ = some (.int .i16 (zs[j]?.getD 0))) (W : World) (hBs : W.cell? ⟨Bs, Bo, none⟩ = some (.slice (some ⟨b, off, none⟩) zs.length cap)) (h0 : J [] W) :
    CallsIn F n Try.prog 139 #[.func (.yield l) #[] #[], .pointer (some ⟨Bs, Bo, none⟩)] W fun e W' => (∃ v, e = .returned v) ∧ J zs W' := by
  refine callsIn_of_wp Try.func139 rfl hf ?_ hro
  simp only [Try.ntmps139, List.size_toArray, List.length_cons, List.length_nil, Nat.reduceAdd, Nat.reduceSub, Array.replicate_succ, Array.replicate_zero, List.push_toArray, List.append_toArray, List.nil_append, List.cons_append]
  gi_wp2
  gi_loopw [7] (fun i wr => ∃ k : Nat, k ≤ zs.length ∧ i = .int .i64 k ∧ J (zs.take k) wr)
    (fun i _ => zs.length - (intOf i).toNat)
  case atStart => exact ⟨0, Nat.zero_le _, rfl, h0⟩
  case round =>
    obtain ⟨k, hk, rfl, hJs⟩ := hrel
    have hcx : k < zs.length → wr.cell? ⟨b, off + k, none⟩ = some (.int .i16 (zs[k]?.getD 0)) := fun h => ((hJb _ _ hJs).cell (p := ⟨b, off + k, none⟩) hb).trans (hc k h)
    by_cases hlt : k < zs.length
    · obtain ⟨fn, tmps, assign, body, hy, hR⟩ := hY _ zs[k] wr hJs (by rw [List.length_take]; omega)
      have hcx' := hcx hlt
      rw [show zs[k]?.getD 0 = zs[k] by simp [List.getElem?_eq_getElem hlt]] at hcx'
      gi_wp2
      refine hR.mono ?_
      rintro e W3 ⟨rfl, hJ3, hk3⟩
      gi_wp2
      go_roundw
      case rel => exact ⟨k + 1, by omega, by simp, by rw [List.take_add_one]; simpa [List.getElem?_eq_getElem hlt] using hJ3⟩
      case measure => simp [intOf]; omega
    · obtain rfl : k = zs.length := by omega
      gi_wp2
      go_end0
      rw [List.take_length] at hJs
      exact ⟨⟨_, rfl⟩, hJs⟩
/-- An iterator that gives just xs, in whatever later world, whatever the rounds keep, so they keep what lay in w. -/
def SeqB (F : Fence) (n : Nat) (g : Nat) (lb : Array Value) (xs : List Int) (N : Nat) (w : World) : Prop :=
  ∀ (l : Nat) (J : List Int → World → Prop) (W : World), Below w.heap.size w W → (∀ pre w', J pre w' → Below w.heap.size w w') →
    (∀ pre x W1, J pre W1 → pre.length < N → YieldAt F (n - 1) Try.prog l #[.int .i16 x] W1 fun e W' => e = .returned (.bool true) ∧ J (pre ++ [x]) W' ∧ KeepsWalks W1 W') →
    J [] W →
    CallsIn F n Try.prog g (#[.func (.yield l) #[] #[]] ++ lb) W fun e W' => (∃ v, e = .returned v) ∧ J xs W'
def apAssign : Code := (Code.region 2 #[{ dst := some 5, op := Op.assign (Operand.tmp 7), type := 23, pos := "iter.go:51", after := #[], guard := none }] false)
def apBody : Code := (Code.block 1 (Code.region 3 #[{ dst := some 8, op := Op.load 22 (Operand.tmp 2), type := 22, pos := "iter.go:52", after := #[], guard := none }, { dst := some 9, op := Op.move (Operand.tmp 5), type := 23, pos := "iter.go:52", after := #[], guard := none }, { dst := some 10, op := Op.buildSlice 22 1 #[(0, Operand.tmp 9)], type := 22, pos := "iter.go:52", after := #[{ on := 1, ground := Ground.data }], guard := none }, { dst := some 11, op := Op.call { callee := Callee.builtin Builtin.append, args := #[Operand.tmp 8, Operand.tmp 10], argTypes := #[22, 22] }, type := 22, pos := "iter.go:52", after := #[{ on := 0, ground := Ground.data }, { on := 2, ground := Ground.data }], guard := none }, { dst := none, op := Op.store 22 (Operand.tmp 2) (Operand.tmp 11), type := 0, pos := "iter.go:52", after := #[{ on := 3, ground := Ground.data }, { on := 3, ground := Ground.chain }, { on := 0, ground := Ground.phase }, { on := 1, ground := Ground.phase }, { on := 2, ground := Ground.phase }, { on := 3, ground := Ground.phase }], guard := none }] false))
/-- The loop's record: AppendSeq's temporaries as they stood at the entering: 's' boxed in block Bs; sv: the iterator's value. -/
def apRec (fn : FuncId) (sv : Value) (Bs D : Nat) (st : LoopState) (pend : Option Code) : Loop :=
  { state := st, pending := pend, fn, tmps := #[.slice none 0 0, sv, .pointer (some ⟨Bs, 0, none⟩), undef, .slice none 0 0, undef, sv, undef, undef, undef, undef, undef, undef], params := #[7], assign := apAssign, body := apBody, defers := D }

/-- BETWEEN TWO ROUNDS: the box holds a slice that owns, in a block of the call's own, what has come so far; IT IS nil JUST AS LONG AS NOTHING HAS COME; nothing that lay before the call has turned. -/
structure ApAt (w0 : World) (fn : FuncId) (sv : Value) (Bs l D : Nat) (ss : List Int) (W : World) : Prop where
  box : ∃ v, W.heap[Bs]? = some (.cells #[v] 22 (0, 0)) ∧ W.ownsRow w0.heap.size 23 1 v ss.length (ss.map (Value.int .i16)) ∧ (v = .slice none 0 0 ↔ ss = [])
  L : W.heap[l]? = some (.loop (apRec fn sv Bs D .ready none))
  K : W.heap[D]? = some (.deferred (some []))
  below : Below w0.heap.size w0 W

/-- A slice's own row is no walk's object: it abides an iterator's step. -/
theorem ownsRow_abides {W W' : World} {row : Option Nat} {base : Nat} {e : TypeId} {size : Nat} {v : Value} {k : Nat} {xs : List Value} (h : W.ownsRow base e size v k xs) (hg : W.grownBy W' row)
    (hrow : ∀ r, row = some r → ∃ o : Obj, W.heap[r]? = some o ∧ o.isWalk = true) : W'.ownsRow base e size v k xs := by
  refine h.kept hg ?_
  rcases h.2 with ⟨rfl, _⟩ | ⟨g, cap, cur, rfl, _, hgb, _⟩
  · exact .inl rfl
  · refine .inr fun e' => ?_
    obtain ⟨o, ho, hw⟩ := hrow g (by simpa [Value.ownBlock] using e'.symm)
    rw [hgb] at ho; cases ho; cases hw

theorem ap_abides (w0 : World) (fn : FuncId) (sv : Value) (Bs l D B : Nat) (hB : w0.heap.size ≤ B) : AbidesFrom B (ApAt w0 fn sv Bs l D) := fun s W W' row h hg hrow => by
  have hrow' : ∀ r, row = some r → ∃ o : Obj, W.heap[r]? = some o ∧ o.isWalk = true := fun r e => (hrow r e).2
  obtain ⟨v, hv, hr, hn⟩ := h.box
  exact ⟨⟨v, (grownBy_keeps hg hrow' hv rfl).trans hv, ownsRow_abides hr hg hrow', hn⟩, (grownBy_keeps hg hrow' h.L rfl).trans h.L, (grownBy_keeps hg hrow' h.K rfl).trans h.K,
    h.below.grown hg h.below.size (fun k e => Nat.le_trans hB (hrow k e).1)⟩

theorem grownBy_putObj (W : World) (l : Nat) (o : Obj) : W.grownBy (W.putObj l o) (some l) :=
  ⟨rfl, rfl, rfl, by simp, fun k _ hk => World.putObj_heap_other (fun e => hk (by rw [e]))⟩
theorem grownBy_setCell0 (W : World) (b : Nat) (v : Value) : W.grownBy (W.setCell ⟨b, 0, none⟩ v) (some b) :=
  ⟨rfl, rfl, rfl, (KeepsWalks.setCell W _ v).size, fun k _ hk => Below.heap_setCell _ _ _ k (fun e => hk (by rw [e]))⟩
/-- A slice's own row is not a block that holds something else than cells of its element's type. -/
theorem ownsRow_ne {W : World} {base : Nat} {e : TypeId} {size : Nat} {v : Value} {k : Nat} {xs : List Value} (h : W.ownsRow base e size v k xs) {j : Nat} {o : Obj} (hj : W.heap[j]? = some o) (hno : ∀ cur, o ≠ .cells cur e (0, 0)) :
    v.ownBlock = none ∨ v.ownBlock ≠ some j := by
  rcases h.2 with ⟨rfl, _⟩ | ⟨g, cap, cur, rfl, _, hgb, _⟩
  · exact .inl rfl
  · refine .inr fun e' => ?_
    have : g = j := by simpa [Value.ownBlock] using e'
    subst this; rw [hgb] at hj; cases hj; exact hno cur rfl
theorem cell_of_box {W : World} {B : Nat} {v : Value} {t : TypeId} (h : W.heap[B]? = some (.cells #[v] t (0, 0))) : W.cell? ⟨B, 0, none⟩ = some v ∧ W.frozen? ⟨B, 0, none⟩ = false := by
  constructor <;> simp [World.cell?, World.frozen?, h]

theorem heap_setCell_box {W : World} {B : Nat} {v : Value} {t : TypeId} (v' : Value) (h : W.heap[B]? = some (.cells #[v] t (0, 0))) : (W.setCell ⟨B, 0, none⟩ v').heap[B]? = some (.cells #[v'] t (0, 0)) := by
  obtain ⟨hlt, hk⟩ := Array.getElem?_eq_some_iff.1 h
  show (W.heap.modify B _)[B]? = _
  rw [Array.getElem?_eq_getElem (by rw [Array.size_modify]; exact hlt), Array.getElem_modify_self, hk]
  rfl
theorem ownsRow_not_walk {W : World} {base : Nat} {e : TypeId} {size : Nat} {v : Value} {k : Nat} {xs : List Value} (h : W.ownsRow base e size v k xs) : ∀ (j : Nat) (o : Obj), v.ownBlock = some j → W.heap[j]? = some o → o.isWalk = false := by
  intro j o hj ho
  rcases h.2 with ⟨rfl, _⟩ | ⟨g, cap, cur, rfl, _, hgb, _⟩
  · simp [Value.ownBlock] at hj
  · have : g = j := by simpa [Value.ownBlock] using hj
    subst this; rw [hgb] at ho; cases ho; rfl


set_option maxRecDepth 100000 in
set_option maxHeartbeats 2000000 in
theorem apYield (F : Fence) (m : Nat) (w0 : World) (fn : FuncId) (hfn : F.fn fn) (sv : Value) (Bs l D : Nat) (hBl : Bs ≠ l) (hDl : D ≠ l) (hDB : D ≠ Bs) (h0B : w0.heap.size ≤ Bs) (h0l : w0.heap.size ≤ l)
    (N : Nat) (hN : N ≤ maxLen) (hNb : N * 16 ≤ 140737488355328) (ss : List Int) (x : Int) (W : World) (h : ApAt w0 fn sv Bs l D ss W) (hlen : ss.length < N) :
    YieldAt F m Try.prog l #[.int .i16 x] W fun e W' => e = .returned (.bool true) ∧ ApAt w0 fn sv Bs l D (ss ++ [x]) W' ∧ KeepsWalks W W' := by
  obtain ⟨i0, hi, hz0, hz1, hz2⟩ := info_parts info16
  obtain ⟨v, hv, hrow, _⟩ := h.box
  refine ⟨fn, #[.slice none 0 0, sv, .pointer (some ⟨Bs, 0, none⟩), undef, .slice none 0 0, undef, sv, .int .i16 x, undef, undef, undef, undef, undef], apAssign, apBody, by simpa [apRec] using run_yield (P := Try.prog) (args := #[.int .i16 x]) h.L rfl, roundIn_of_wpIn hfn ?_⟩
  have hl : l < W.heap.size := (Array.getElem?_eq_some_iff.1 h.L).1
  have hbr := run_beginRound (P := Try.prog) h.L rfl
  obtain ⟨W2, hW2⟩ : ∃ W2, W.putObj l (.loop { apRec fn sv Bs D .ready none with state := .busy }) = W2 := ⟨_, rfl⟩
  rw [hW2] at hbr
  have hg2 : W.grownBy W2 (some l) := by rw [← hW2]; exact grownBy_putObj _ _ _
  have hk2 : KeepsWalks W W2 := by rw [← hW2]; exact KeepsWalks.putObj _ h.L rfl
  have hv2 : W2.heap[Bs]? = some (.cells #[v] 22 (0, 0)) := by rw [← hW2]; exact (World.putObj_heap_other hBl).trans hv
  have hK2 : W2.heap[D]? = some (.deferred (some [])) := by rw [← hW2]; exact (World.putObj_heap_other hDl).trans h.K
  have hL2 : W2.heap[l]? = some (.loop { apRec fn sv Bs D .ready none with state := .busy }) := by rw [← hW2]; exact World.putObj_heap_same hl
  have hrow2 : W2.ownsRow w0.heap.size 23 1 v ss.length (ss.map (Value.int .i16)) := hrow.kept hg2 (ownsRow_ne hrow h.L (fun cur e => by cases e))
  have hb2 : Below w0.heap.size w0 W2 := h.below.grown hg2 h.below.size (fun k e => by cases e; exact h0l)
  obtain ⟨hc2, hf2⟩ := cell_of_box hv2
  have hBlt : Bs < W2.heap.size := (Array.getElem?_eq_some_iff.1 hv2).1
  have hl2 : l < W2.heap.size := (Array.getElem?_eq_some_iff.1 hL2).1
  have hDlt : D < W2.heap.size := (Array.getElem?_eq_some_iff.1 hK2).1
  have ne_of : ∀ {j : Nat} {o : Obj}, W2.heap[j]? = some o → (∀ cur, o ≠ .cells cur 23 (0, 0)) → some j ≠ v.ownBlock := fun hj hno => by
    rcases ownsRow_ne hrow2 hj hno with e | e
    · rw [e]; simp
    · exact fun e' => e e'.symm
  clear hW2
  unfold apAssign
  gi_wp2_with (rw [Oper.semAt_eq _ _ _ (fun c h => by cases h)]; go_simp; try go_bits)
  unfold apBody
  gi_wp2_with (first
    | (gi_at_builtin; refine wpListIn_append_own _ rfl _ _ 22 rfl w0.heap.size 23 i0 (.int .i16 0) 1 2 Try.underlying22 hi hz0 hz1 hz2 rfl (by decide) _ _ _ rfl (hrow2.alloc _) ⟨W2.heap.size, 0, none⟩ 1 1 [.int .i16 x] rfl rfl (cell_one_new _ _ _) (by simp [Value.oneCell']) (by omega) (by omega) (by have := hb2.size; simp; omega) ?_; intro v' w3 hown' hg3 hnil3
       have hv3 : w3.heap[Bs]? = some (.cells #[v] 22 (0, 0)) := (hg3.block Bs (by simp; omega) (ne_of hv2 (fun cur e => by cases e))).trans ((Below.heap_alloc _ _ Bs hBlt).trans hv2)
       obtain ⟨hc3, hf3⟩ := cell_of_box hv3
       obtain ⟨g', cap', cur', rfl, hbase', hgb', hr1, hr2, hr3, hr4⟩ : ∃ g' cap' cur', v' = .slice (some ⟨g', 0, none⟩) (ss.length + 1) cap' ∧ w0.heap.size ≤ g' ∧ w3.heap[g']? = some (.cells cur' 23 (0, 0)) ∧ ss.length + 1 ≤ cap' ∧ cap' ≤ maxLen ∧ cur'.size = cap' * 1 ∧ cur'.toList.take ((ss.length + 1) * 1) = ss.map (Value.int .i16) ++ [.int .i16 x] := by
         rcases hown'.2 with ⟨_, h0⟩ | h'
         · exact absurd h0 (by omega)
         · exact h'
       simp only [Act.put, List.setIfInBounds_toArray, List.set_cons_succ, List.set_cons_zero])
    | (rw [Oper.semAt_eq _ _ _ (fun c h => by cases h)]; go_simp; try go_bits))
  have hg3' : (W2.alloc (.cells #[.int .i16 x] 23)).grownBy w3 v.ownBlock := hg3
  have hL3 : w3.heap[l]? = some (.loop { apRec fn sv Bs D .ready none with state := .busy }) := (hg3'.block l (by simp; omega) (ne_of hL2 (fun cur e => by cases e))).trans ((Below.heap_alloc _ _ l hl2).trans hL2)
  have hK3 : w3.heap[D]? = some (.deferred (some [])) := (hg3'.block D (by simp; omega) (ne_of hK2 (fun cur e => by cases e))).trans ((Below.heap_alloc _ _ D hDlt).trans hK2)
  obtain ⟨w4, hw4⟩ : ∃ w4, w3.setCell ⟨Bs, 0, none⟩ (.slice (some ⟨g', 0, none⟩) (ss.length + 1) cap') = w4 := ⟨_, rfl⟩
  rw [hw4]
  have hg4 : w3.grownBy w4 (some Bs) := by rw [← hw4]; exact grownBy_setCell0 _ _ _
  have hv4 : w4.heap[Bs]? = some (.cells #[.slice (some ⟨g', 0, none⟩) (ss.length + 1) cap'] 22 (0, 0)) := by rw [← hw4]; exact heap_setCell_box _ hv3
  have hL4 : w4.heap[l]? = some (.loop { apRec fn sv Bs D .ready none with state := .busy }) := (hg4.block l (Array.getElem?_eq_some_iff.1 hL3).1 (fun e => hBl (by cases e; rfl))).trans hL3
  have hK4 : w4.heap[D]? = some (.deferred (some [])) := (hg4.block D (Array.getElem?_eq_some_iff.1 hK3).1 (fun e => hDB (by cases e; rfl))).trans hK3
  have hrow4 := hown'.kept hg4 (ownsRow_ne hown' hv3 (fun cur e => by cases e))
  have hl4 : l < w4.heap.size := (Array.getElem?_eq_some_iff.1 hL4).1
  have hb3 : Below w0.heap.size w0 w3 := (hb2.alloc hb2.size _).grown hg3' (by have := hb2.size; simp; omega) (fun k e => (hrow2.lt k e).1)
  have hb4 : Below w0.heap.size w0 w4 := hb3.grown hg4 hb3.size (fun k e => by cases e; exact h0B)
  have hk4 : KeepsWalks W w4 := ((hk2.trans (KeepsWalks.alloc _ _)).trans (KeepsWalks.of_grownBy hg3' (ownsRow_not_walk (hrow2.alloc _)))).trans (by rw [← hw4]; exact KeepsWalks.setCell _ _ _)
  clear hw4
  refine ⟨_, _, run_endRound none hL4, rfl, ⟨⟨_, (World.putObj_heap_other hBl).trans hv4, ?_, by simp⟩, World.putObj_heap_same hl4, (World.putObj_heap_other hDl).trans hK4, hb4.grown (grownBy_putObj _ _ _) hb4.size (fun k e => by cases e; exact h0l)⟩, hk4.trans (KeepsWalks.putObj _ hL4 rfl)⟩
  have := hrow4.kept (grownBy_putObj w4 l (.loop { { apRec fn sv Bs D .ready none with state := .busy } with state := if (none : Option Code).isNone then .ready else .done, pending := none })) (ownsRow_ne hrow4 hL4 (fun cur e => by cases e))
  simpa using this



theorem appendSeq_in (F : Fence) (n : Nat) (h11 : F.fn 159) (hro : F.round = none) (hn : 2 ≤ n) (g : Nat) (lb : Array Value) (hFg : F.fn g) (eg : ∀ args w, (callFunc g args).run Try.prog w = .ok (.enter g args) w)
    (N : Nat) (hN : N ≤ maxLen) (hNb : N * 16 ≤ 140737488355328) (w : World) (ss : List Int) (hseq : SeqB F (n - 1) g lb ss N w) :
    CallsIn F n Try.prog 159 #[.slice none 0 0, .func (.func g) #[] lb] w fun e w' => ∃ (v : Value), e = .returned v ∧ w'.ownsRow w.heap.size 23 1 v ss.length (ss.map (Value.int .i16)) ∧ (v = .slice none 0 0 ↔ ss = []) ∧ Below w.heap.size w w' := by
  have h1 : 1 ≤ n := by omega
  refine callsIn_of_wp_marks Try.func159 rfl h11 ?_ hro
  simp only [Try.ntmps159, List.size_toArray, List.length_cons, List.length_nil, Nat.reduceAdd, Nat.reduceSub, Array.replicate_succ, Array.replicate_zero, List.push_toArray, List.append_toArray, List.nil_append, List.cons_append]
  gi_wp2
  refine wpIn_rangeFunc ?_
  intro fn hfn
  rw [hro]
  obtain ⟨W0, hW0⟩ : ∃ W0, w.alloc (.cells #[.slice none 0 0] 22) = W0 := ⟨_, rfl⟩
  have hs0 : W0.heap.size = w.heap.size + 1 := by rw [← hW0]; simp
  have hv0 : W0.heap[w.heap.size]? = some (.cells #[.slice none 0 0] 22 (0, 0)) := by rw [← hW0]; exact World.alloc_heap_new w _
  have hb0 : Below w.heap.size w W0 := by rw [← hW0]; exact (Below.refl _ w).alloc (Nat.le_refl _) _
  rw [hW0]
  obtain ⟨W1, hW1⟩ : ∃ W1, (W0.alloc (.deferred (some []))).alloc (.loop (apRec fn (.func (.func g) #[] lb) w.heap.size W0.heap.size .ready none)) = W1 := ⟨_, rfl⟩
  have hold : ∀ k, k < W0.heap.size → W1.heap[k]? = W0.heap[k]? := fun k hk => by
    rw [← hW1]; exact (Below.heap_alloc _ _ k (by simp; omega)).trans (Below.heap_alloc _ _ k hk)
  have hb1 : Below w.heap.size w W1 := by rw [← hW1]; exact (hb0.alloc hb0.size _).alloc (by have := hb0.size; simp; omega) _
  have hs1 : W1.heap.size = W0.heap.size + 2 := by rw [← hW1]; simp
  have hM : ApAt w fn (.func (.func g) #[] lb) w.heap.size (W0.heap.size + 1) W0.heap.size [] W1 :=
    ⟨⟨_, (hold w.heap.size (by omega)).trans hv0, ⟨rfl, .inl ⟨rfl, rfl⟩⟩, by simp⟩,
     by rw [← hW1]; have := World.alloc_heap_new (W0.alloc (.deferred (some []))) (.loop (apRec fn (.func (.func g) #[] lb) w.heap.size W0.heap.size .ready none)); rwa [World.size_alloc] at this,
     by rw [← hW1]; exact (Below.heap_alloc _ _ _ (by simp)).trans (World.alloc_heap_new W0 _), hb1⟩
  refine ⟨W0.heap.size + 1, [{ target := .collected W0.heap.size, args := #[] }], W1, { target := .fn (.func g) lb, args := #[.func (.yield (W0.heap.size + 1)) #[] #[]] }, W1, g,
    #[.func (.yield (W0.heap.size + 1)) #[] #[]] ++ lb, W1, ?_, ?_, ?_, ?_, fun _ => h1, ?_⟩
  · rw [← hW1]; exact run_enterLoop_outer _ _ _ _ _
  · simp [resolve, go_sem]
  · intro f' hf'; simp [Target.leads] at hf'; subst hf'; exact hFg
  · simp [invoke, go_sem, eg]
  · refine (hseq (W0.heap.size + 1) (ApAt w fn (.func (.func g) #[] lb) w.heap.size (W0.heap.size + 1) W0.heap.size) W1 hb1 (fun pre w h => h.below)
      (fun pre x W hJ hl => apYield F (n - 1 - 1) w fn hfn _ w.heap.size (W0.heap.size + 1) W0.heap.size (by omega) (by omega) (by omega) (Nat.le_refl _) (by omega) N hN hNb pre x W hJ hl) hM).mono ?_
    rintro e W2 ⟨⟨v0, rfl⟩, h2⟩
    obtain ⟨v, hv, hrow, hnil⟩ := h2.box
    have hend := run_endLoop (P := Try.prog) h2.L (by simp [apRec])
    obtain ⟨W3, hW3⟩ : ∃ W3, W2.putObj (W0.heap.size + 1) (.loop { apRec fn (.func (.func g) #[] lb) w.heap.size W0.heap.size .ready none with state := .exhausted }) = W3 := ⟨_, rfl⟩
    rw [hW3] at hend
    have hg3 : W2.grownBy W3 (some (W0.heap.size + 1)) := by rw [← hW3]; exact grownBy_putObj _ _ _
    have hv3 : W3.heap[w.heap.size]? = some (.cells #[v] 22 (0, 0)) := by rw [← hW3]; exact (World.putObj_heap_other (by omega)).trans hv
    have hK3 : W3.heap[W0.heap.size]? = some (.deferred (some [])) := by rw [← hW3]; exact (World.putObj_heap_other (by omega)).trans h2.K
    have hrow3 := hrow.kept hg3 (ownsRow_ne hrow h2.L (fun cur e => by cases e))
    have hb3 : Below w.heap.size w W3 := h2.below.grown hg3 h2.below.size (fun k e => by cases e; omega)
    obtain ⟨hc3, hf3⟩ := cell_of_box hv3
    clear hW3
    refine ⟨none, W3, hend, ?_⟩
    gi_wp2
    rw [← hs0]
    refine ⟨by simp, .inl ⟨_, _, rfl, run_takeDeferred hK3, ?_⟩⟩
    exact ⟨_, results_tmp rfl _ _ _, v, rfl, hrow3.kept (grownBy_putObj _ _ _) (ownsRow_ne hrow3 hK3 (fun cur e => by cases e)), hnil, hb3.grown (grownBy_putObj _ _ _) hb3.size (fun k e => by cases e; omega)⟩


theorem values_seq (F : Fence) (n : Nat) (hf : F.fn 139) (hro : F.round = none) (hn : 1 ≤ n) (Bs Bo b off cap : Nat) (zs : List Int) (hreach : zs.length ≤ 60000) (w : World) (hb : b < w.heap.size) (hBl : Bs < w.heap.size)
    (hBs : w.cell? ⟨Bs, Bo, none⟩ = some (.slice (some ⟨b, off, none⟩) zs.length cap)) (hc : ∀ j, j < zs.length → w.cell? ⟨b, off + j, none⟩ = some (.int .i16 (zs[j]?.getD 0))) :
    SeqB F n 139 #[.pointer (some ⟨Bs, Bo, none⟩)] zs zs.length w := fun l J W hW hJb hY h0 =>
  values1_in F n hf hro hn l Bs Bo b off cap w.heap.size zs hreach hb w J hJb hY hc W ((hW.cell (p := ⟨Bs, Bo, none⟩) hBl).trans hBs) h0
theorem collect_in (F : Fence) (n : Nat) (h8 : F.fn 137) (h11 : F.fn 159) (hro : F.round = none) (hn : 3 ≤ n) (g : Nat) (lb : Array Value) (hFg : F.fn g) (eg : ∀ args w, (callFunc g args).run Try.prog w = .ok (.enter g args) w)
    (N : Nat) (hN : N ≤ maxLen) (hNb : N * 16 ≤ 140737488355328) (w : World) (ss : List Int) (hseq : SeqB F (n - 1 - 1) g lb ss N w) :
    CallsIn F n Try.prog 137 #[.func (.func g) #[] lb] w fun e w' => ∃ (v : Value), e = .returned v ∧ w'.ownsRow w.heap.size 23 1 v ss.length (ss.map (Value.int .i16)) ∧ (v = .slice none 0 0 ↔ ss = []) ∧ Below w.heap.size w w' := by
  have h1 : 1 ≤ n := by omega
  refine callsIn_of_wp Try.func137 rfl h8 ?_ hro
  simp only [Try.ntmps137, List.size_toArray, List.length_cons, List.length_nil, Nat.reduceAdd, Nat.reduceSub, Array.replicate_succ, Array.replicate_zero, List.push_toArray, List.append_toArray, List.nil_append, List.cons_append]
  gi_wp2_with (gi_at_call 159; refine (appendSeq_in F (n - 1) h11 hro (by omega) g lb hFg eg N hN hNb _ ss hseq).mono ?_; rintro e w' ⟨v, rfl, hrow, hnil, hb⟩)
  go_ret
  exact ⟨v, rfl, hrow, hnil, hb⟩
theorem RelPs_ints {J : Nat → Prop} {w : World} {k : IntKind} : ∀ {l : List Int} {vs : List Value}, RelPs J w (ints k l) vs → vs = l.map (Value.int k)
  | [], _, h => h
  | x :: l, _, ⟨y, ys, h1, h2, h3⟩ => by rw [h1, RelPs_ints h3, h2.1]; rfl
theorem RelPs_of_ints {J : Nat → Prop} {w : World} {k : IntKind} : ∀ (l : List Int), RelPs J w (ints k l) (l.map (Value.int k))
  | [] => rfl
  | x :: l => ⟨_, _, rfl, ⟨rfl, rfl⟩, RelPs_of_ints l⟩
theorem flat_ints (k : IntKind) (l : List Int) : ((l.map (Value.int k)).flatMap fun x => x.cells.toList) = l.map (Value.int k) := by
  induction l with
  | nil => rfl
  | cons x l ih => simp only [List.map_cons, List.flatMap_cons, ih]; rfl
theorem collect16_fun (l : List Int) (h1 : 1 ≤ l.length) (h2 : l.length ≤ 60000) : FunO Try.prog 137 [.clos (.func 139) [.ptr (.lst (ints .i16 l))]] fun r o => r = .ref 0 l.length ∧ o = some ⟨23, 1, ints .i16 l⟩ := by
  refine ⟨by kernel_rfl, fun J w vs hJ hG hv => ?_⟩
  obtain ⟨y, ys, rfl, hy, rfl⟩ := hv
  obtain ⟨ps, rfl, hps⟩ := hy
  obtain ⟨p, qs, rfl, hp, rfl⟩ := hps
  obtain ⟨Bs, Bo, x, rfl, hx, hw, hJB, hcell⟩ := hp
  obtain ⟨a, c, us, rfl, hc1, hc2, hc3, ha, hus, hrow⟩ := hx
  have hll : (ints .i16 l).length = l.length := by simp [ints]
  rw [hll] at hc1 hc3 hcell
  obtain rfl := RelPs_ints hus
  rw [flat_ints] at hrow
  have hne : l ≠ [] := fun e => by rw [e] at h1; simp at h1
  rcases hrow with hz | ⟨b, o, rfl, hJb, hcs⟩
  · exact absurd (List.map_eq_nil_iff.1 hz) hne
  have hBs : w.cell? ⟨Bs, Bo, none⟩ = some (.slice (some ⟨b, o, none⟩) l.length c) := hcell 0 _ rfl
  have hcj : ∀ j, j < l.length → w.cell? ⟨b, o + j, none⟩ = some (.int .i16 (l[j]?.getD 0)) := fun j hj => hcs j _ (by simp [List.getElem?_map, List.getElem?_eq_getElem hj])
  have hm : maxLen = 9223372036854775807 := rfl
  have hseq := values_seq Fence.wide (3 - 1 - 1) trivial rfl (by decide) Bs Bo b o c l h2 w (hJ b hJb) (hJ Bs hJB) hBs hcj
  have key := callsIn_wide.1 (collect_in Fence.wide 3 trivial trivial rfl (by decide) 139 #[.pointer (some ⟨Bs, Bo, none⟩)] trivial (enters_of Try.func139 (by kernel_rfl) rfl) l.length (by omega) (by omega) w l hseq)
  refine key.mono ?_
  rintro e w' ⟨v, rfl, hrow, hnil, hb⟩
  rcases hrow.2 with ⟨rfl, h0⟩ | ⟨g, cap, cur, rfl, hbase, hgb, r1, r2, r3, r4⟩
  · omega
  have hgl : g < w'.heap.size := (Array.getElem?_eq_some_iff.1 hgb).1
  refine ⟨_, .ref 0 l.length, some ⟨23, 1, ints .i16 l⟩, rfl, ⟨rfl, rfl⟩, hb, J, ⟨some ⟨g, 0, none⟩, cap, 1⟩, fun _ h => h, fun _ h => .inl h, rfl, by simp [D.ids], ints_noRefs, ?_, fun g' _ e => by cases e; exact hbase⟩
  refine .inl ⟨rfl, Nat.one_pos, by rw [hll]; exact r1, r2, by rw [hll]; exact hc3, l.map (Value.int .i16), RelPs_of_ints l, ?_, .inr ⟨Nat.lt_of_lt_of_le h1 r1, g, cur, rfl, fun hj => ?_, hgb, r3, by rw [hll, flat_ints]; exact r4⟩⟩
  · intro x hx
    obtain ⟨n, _, rfl⟩ := List.mem_map.1 hx
    exact ⟨rfl, fun c hc => by simp [Value.cells] at hc; subst hc; rfl⟩
  · have := hJ g hj; omega
end Go.Proofs.Ytpkampecmlpfmaa.T

end
section
set_option linter.unusedSimpArgs false
set_option linter.unusedVariables false
/- Sorting a list by insertion, walked. -/
namespace Go.Proofs.Ytpkampecmlpfmaa.T
open Go Go.VL Go.Proofs
set_option maxRecDepth 100000
set_option maxHeartbeats 4000000
abbrev own16 (l : List Int) : Own := ⟨23, 1, ints .i16 l⟩

theorem isNaNS16_fun (x : Int) : Fun Try.prog 161 [.v (.int .i16 x)] fun r => r = .v (.bool false) := by
  refine Fun.of_awpI Try.func161 rfl cal161 Try.ntmps161 (by simp) fun hwf => ?_
  simp only [D.wfs, D.wf, ints_length, ints_wfs, rows_length, rows_wfs, capMax, and_true, true_and] at hwf
  repeat' (first | simp only [go_sem, bne_self_eq_false, Ret_eq Try.results161] | fail)

theorem lessS16_fun (x y : Int) : Fun Try.prog 140 [.v (.int .i16 x), .v (.int .i16 y)] fun r => r = .v (.bool (decide (x < y))) := by
  refine Fun.of_awpI Try.func140 rfl cal140 Try.ntmps140 (by simp) fun hwf => ?_
  simp only [D.wfs, D.wf, ints_length, ints_wfs, rows_length, rows_wfs, capMax, and_true, true_and] at hwf
  repeat' (first | simp only [go_sem, Ret_eq Try.results140] | (refine opCallI_rd (by simp only [go_sem, Ret_eq Try.results140]; first | done | rfl) (isNaNS16_fun x) (by rintro _ rfl; rfl) ?_; rintro _ rfl) | fail)

theorem insertion16 (l : List Int) (a b : Nat) (hab : a ≤ b) (hb : b ≤ l.length) (hl : l.length ≤ 1000000) : FunL Try.prog 176 [.ref 0 l.length, .v (.int .i64 a), .v (.int .i64 b)] [own16 l] fun r os =>
    r = .tup [] ∧ ∃ l', os = [own16 l'] ∧ Sw a b l l' ∧ Sd a b l' := by
  refine FunL.of_awpI [(100000, 0)] rfl Try.func176 rfl cal176 Try.ntmps176 (by simp) fun hwf hlw ls => ?_
  simp only [lentWf, D.wfs, D.wf, ints_length, ints_wfs, rows_length, rows_wfs, capMax, and_true, true_and] at hwf hlw
  repeat' (first | simp only [go_sem, Ret_eq Try.results176] | simp (disch := omega) only [arith, IntKind.bits, capMax, fill_len, elt_fill] | fail)
  refine awpI_while (σ := Nat × List Int) (fun x => b - x.1) (fun x => a + 1 ≤ x.1 ∧ Sw a b l x.2 ∧ Sd a x.1 x.2) (fun x => [(6, .v (.int .i64 x.1))]) (fun x => [(0, own16 x.2)]) [0, 1, 2, 100000] [] (a + 1, l) _ (Weak.refl _) ⟨Nat.le_refl _, .refl _, fun p q h1 h2 h3 => by omega⟩ ?_ ?_ ?_
  · simp only [go_sem, Ret_eq Try.results176]
  · simp only [go_sem, Ret_eq Try.results176]
  · rintro ⟨i, l1⟩ s ⟨hi, hsw, hsd⟩ hs
    simp only [go_sem, Ret_eq Try.results176] at hs
    dsimp only at hi hsw hsd
    have hl1 := hsw.length
    by_cases hib : i < b
    · repeat' (first | simp only [go_sem, hs, Ret_eq Try.results176] | simp (disch := omega) only [arith, IntKind.bits, capMax, fill_len, elt_fill] | fail)
      refine awpI_while (σ := Nat × List Int) (fun x => x.1) (fun x => (a ≤ x.1 ∧ x.1 ≤ i) ∧ Sw a b l x.2 ∧ Ins a x.1 i x.2) (fun x => [(7, .v (.int .i64 x.1))]) (fun x => [(0, own16 x.2)]) [0, 1, 2, 6, 100000] [] (i, l1) _ (Weak.refl _) ⟨⟨by omega, Nat.le_refl _⟩, hsw, Ins.start hsd⟩ ?_ ?_ ?_
      · simp only [go_sem, hs, Ret_eq Try.results176]
      · simp only [go_sem, hs, Ret_eq Try.results176]
      · rintro ⟨j, l2⟩ s2 ⟨⟨hj1, hj2⟩, hsw2, hins⟩ hs2
        simp only [go_sem, hs, Ret_eq Try.results176] at hs2
        dsimp only at hj1 hj2 hsw2 hins
        have hl2 := hsw2.length
        by_cases hja : a < j
        · have hls := lessS16_fun (l2.getD j 0) (l2.getD (j - 1) 0)
          have ej : (j : Int) - 1 = ((j - 1 : Nat) : Int) := by omega
          by_cases hlt : l2.getD j 0 < l2.getD (j - 1) 0
          · rw [decide_eq_true hlt] at hls
            have e1 := sw_length (l := l2) (i := j) (j := j - 1)
            have e4 : (l2.set j (l2.getD (j - 1) 0)).length = l2.length := List.length_set
            have e2 : (l2.set j (l2.getD (j - 1) 0)).set (j - 1) (l2.getD j 0) = sw l2 j (j - 1) := rfl
            have e3 := sw_comm (l := l2) (i := j) (j := j - 1)
            repeat' (first | simp only [go_sem, hs, hs2, ej, hl2, e2, e3, List.length_set, Ret_eq Try.results176] | simp (disch := omega) only [arith, IntKind.bits, capMax, fill_len, elt_fill] | (refine awpI_draw2 (id := 4) (.one false 0 (.one false 1 (.one false 2 (.one false 3 (.one false 4 (.one false 5 (.one false 6 (.one false 7 (.one false 8 (.one false 9 (.one false 10 (.one false 11 (.one false 12 (.only 13 (.one false 14 .done))))))))))))))) mixed (by decide +kernel) (by decide +kernel) ?_) | (refine awpI_draw2 (id := 6) (.one false 0 (.one false 1 (.one false 5 (.one false 6 (.one false 7 (.one false 8 (.one false 9 (.one false 10 (.one false 11 (.one false 12 (.one false 13 (.one false 14 (.mv 2 (.mv 3 (.cal 4 [15] (.only 15 (.one false 16 (.only 17 .done)))))))))))))))))) mixed (by decide +kernel) (by decide +kernel) ?_) | (refine opCallI_rd (by simp only [go_sem, hs, hs2, ej, hl2, e2, e3, List.length_set, Ret_eq Try.results176]; first | done | rfl) (hls) (by rintro _ rfl; rfl) ?_; rintro _ rfl) | fail)
            all_goals
              refine AgainW.to (j - 1, sw l2 j (j - 1)) ?_ ?_ ?_
              · show j - 1 < j; omega
              · exact ⟨⟨by show a ≤ j - 1; omega, by show j - 1 ≤ i; omega⟩, .step j (j - 1) hsw2 ⟨by omega, by omega⟩ ⟨by omega, by omega⟩ (by omega), hins.step hja hj2 (by omega) hlt⟩
              · simp only [go_sem, hs, hs2, Ret_eq Try.results176]
          · rw [decide_eq_false hlt] at hls
            repeat' (first | simp only [go_sem, hs, hs2, ej, hl2, Ret_eq Try.results176] | simp (disch := omega) only [arith, IntKind.bits, capMax, fill_len, elt_fill] | (refine awpI_draw2 (id := 4) (.one false 0 (.one false 1 (.one false 2 (.one false 3 (.one false 4 (.one false 5 (.one false 6 (.one false 7 (.one false 8 (.one false 9 (.one false 10 (.one false 11 (.one false 12 (.only 13 (.one false 14 .done))))))))))))))) mixed (by decide +kernel) (by decide +kernel) ?_) | (refine opCallI_rd (by simp only [go_sem, hs, hs2, ej, hl2, Ret_eq Try.results176]; first | done | rfl) (hls) (by rintro _ rfl; rfl) ?_; rintro _ rfl) | fail)
            all_goals
              refine AgainW.to (i + 1, l2) ?_ ?_ ?_
              · show b - (i + 1) < b - i; omega
              · exact ⟨by show a + 1 ≤ i + 1; omega, hsw2, hins.done (.inr (by omega))⟩
              · simp only [go_sem, hs, hs2, Ret_eq Try.results176]
        · repeat' (first | simp only [go_sem, hs, hs2, Ret_eq Try.results176] | simp (disch := omega) only [arith, IntKind.bits, capMax, fill_len, elt_fill] | (refine awpI_draw2 (id := 4) (.one false 0 (.one false 1 (.one false 2 (.one false 3 (.one false 4 (.one false 5 (.one false 6 (.one false 7 (.one false 8 (.one false 9 (.one false 10 (.one false 11 (.one false 12 (.only 13 (.one false 14 .done))))))))))))))) mixed (by decide +kernel) (by decide +kernel) ?_) | fail)
          all_goals
            refine AgainW.to (i + 1, l2) ?_ ?_ ?_
            · show b - (i + 1) < b - i; omega
            · exact ⟨by show a + 1 ≤ i + 1; omega, hsw2, hins.done (.inl (by omega))⟩
            · simp only [go_sem, hs, hs2, Ret_eq Try.results176]
    · repeat' (first | simp only [go_sem, hs, Ret_eq Try.results176] | simp (disch := omega) only [arith, IntKind.bits, capMax, fill_len, elt_fill] | refine RetL_calc Try.results176 rfl ?_ | fail)
      all_goals exact ⟨rfl, l1, rfl, hsw, fun p q h1 h2 h3 => hsd p q h1 h2 (by omega)⟩
end Go.Proofs.Ytpkampecmlpfmaa.T

end
section
set_option linter.unusedSimpArgs false
set_option linter.unusedVariables false
/- Sorting a list as a heap; a span turned about; walked. -/
namespace Go.Proofs.Ytpkampecmlpfmaa.T
open Go Go.VL Go.Proofs
set_option maxRecDepth 100000
set_option maxHeartbeats 4000000

theorem reverse16 (l : List Int) (a b : Nat) (hab : a ≤ b) (hb : b ≤ l.length) (h1 : 1 ≤ b) (hl : l.length ≤ 1000000) : FunL Try.prog 180 [.ref 0 l.length, .v (.int .i64 a), .v (.int .i64 b)] [own16 l] fun r os =>
    r = .tup [] ∧ ∃ l', os = [own16 l'] ∧ Sw a b l l' := by
  refine FunL.of_awpI [(100000, 0)] rfl Try.func180 rfl cal180 Try.ntmps180 (by simp) fun hwf hlw ls => ?_
  simp only [lentWf, D.wfs, D.wf, ints_length, ints_wfs, rows_length, rows_wfs, capMax, and_true, true_and] at hwf hlw
  have e0 : (b : Int) - 1 = ((b - 1 : Nat) : Int) := by omega
  repeat' (first | simp only [go_sem, e0, Ret_eq Try.results180] | simp (disch := omega) only [arith, IntKind.bits, capMax, fill_len, elt_fill] | fail)
  refine awpI_while (σ := Nat × Nat × List Int) (fun x => x.2.1 - x.1) (fun x => a ≤ x.1 ∧ x.2.1 < b ∧ Sw a b l x.2.2) (fun x => [(6, .v (.int .i64 x.1)), (7, .v (.int .i64 x.2.1))]) (fun x => [(0, own16 x.2.2)]) [0, 100000] [] (a, b - 1, l) _ (Weak.refl _) ⟨Nat.le_refl _, by show b - 1 < b; omega, .refl _⟩ ?_ ?_ ?_
  · simp only [go_sem, Ret_eq Try.results180]
  · simp only [go_sem, Ret_eq Try.results180]
  · rintro ⟨i, j, l1⟩ s ⟨hi, hj, hsw⟩ hs
    simp only [go_sem, Ret_eq Try.results180] at hs
    dsimp only at hi hj hsw
    have hl1 := hsw.length
    by_cases hij : i < j
    · have ej : (j : Int) - 1 = ((j - 1 : Nat) : Int) := by omega
      have e2 : (l1.set i (l1.getD j 0)).set j (l1.getD i 0) = sw l1 i j := rfl
      have e4 : (l1.set i (l1.getD j 0)).length = l1.length := List.length_set
      repeat' (first | simp only [go_sem, hs, ej, hl1, e2, List.length_set, Ret_eq Try.results180] | simp (disch := omega) only [arith, IntKind.bits, capMax, fill_len, elt_fill] | (refine awpI_draw2 (id := 3) (.one false 0 (.one false 1 (.one false 4 (.one false 5 (.one false 6 (.one false 7 (.one false 8 (.one false 9 (.one false 10 (.one false 11 (.one false 12 (.mv 2 (.mv 3 (.only 13 (.one false 14 (.only 15 .done)))))))))))))))) mixed (by decide +kernel) (by decide +kernel) ?_) | fail)
      all_goals
        refine AgainW.to (i + 1, j - 1, sw l1 i j) ?_ ?_ ?_
        · show j - 1 - (i + 1) < j - i; omega
        · exact ⟨by show a ≤ i + 1; omega, by show j - 1 < b; omega, .step i j hsw ⟨hi, by omega⟩ ⟨by omega, hj⟩ (by omega)⟩
        · simp only [go_sem, hs, Ret_eq Try.results180]
    · repeat' (first | simp only [go_sem, hs, Ret_eq Try.results180] | simp (disch := omega) only [arith, IntKind.bits, capMax, fill_len, elt_fill] | refine RetL_calc Try.results180 rfl ?_ | fail)
      all_goals exact ⟨rfl, l1, rfl, hsw⟩

theorem sift16 (l : List Int) (lo hi f : Nat) (hh : Hp (lo + 1) hi f l) (hb : f + hi ≤ l.length) (hlo : lo ≤ hi) (hl : l.length ≤ 1000000) : FunL Try.prog 190 [.ref 0 l.length, .v (.int .i64 lo), .v (.int .i64 hi), .v (.int .i64 f)] [own16 l] fun r os =>
    r = .tup [] ∧ ∃ l', os = [own16 l'] ∧ Sw f (f + hi) l l' ∧ Hp lo hi f l' := by
  refine FunL.of_awpI [(100000, 0)] rfl Try.func190 rfl cal190 Try.ntmps190 (by simp) fun hwf hlw ls => ?_
  simp only [lentWf, D.wfs, D.wf, ints_length, ints_wfs, rows_length, rows_wfs, capMax, and_true, true_and] at hwf hlw
  repeat' (first | simp only [go_sem, Ret_eq Try.results190] | fail)
  refine awpI_while (σ := Nat × List Int) (fun x => hi - x.1) (fun x => (lo ≤ x.1 ∧ x.1 ≤ hi) ∧ Sw f (f + hi) l x.2 ∧ HpEx lo hi f x.1 x.2) (fun x => [(8, .v (.int .i64 x.1))]) (fun x => [(0, own16 x.2)]) [0, 2, 3, 100000] [] (lo, l) _ (Weak.refl _) ⟨⟨Nat.le_refl _, hlo⟩, .refl _, HpEx.start hh⟩ ?_ ?_ ?_
  · simp only [go_sem, Ret_eq Try.results190]
  · simp only [go_sem, Ret_eq Try.results190]
  · rintro ⟨r, l1⟩ s ⟨⟨hr1, hr2⟩, hsw, hex⟩ hs
    simp only [go_sem, Ret_eq Try.results190] at hs
    dsimp only at hr1 hr2 hsw hex
    have hl1 := hsw.length
    have er : (2 : Int) * (r : Int) + 1 = ((2 * r + 1 : Nat) : Int) := by omega
    have er1 : ((2 * r + 1 : Nat) : Int) + 1 = ((2 * r + 2 : Nat) : Int) := by omega
    have f0 : (f : Int) + (r : Int) = ((f + r : Nat) : Int) := by omega
    have f1 : (f : Int) + ((2 * r + 1 : Nat) : Int) = ((f + (2 * r + 1) : Nat) : Int) := by omega
    have f2 : (f : Int) + ((2 * r + 2 : Nat) : Int) = ((f + (2 * r + 2) : Nat) : Int) := by omega
    have f3 : ((f + (2 * r + 1) : Nat) : Int) + 1 = ((f + (2 * r + 2) : Nat) : Int) := by omega
    by_cases hc : 2 * r + 1 < hi
    · by_cases hc2 : 2 * r + 2 < hi ∧ l1.getD (f + (2 * r + 1)) 0 < l1.getD (f + (2 * r + 2)) 0
      · obtain ⟨hc2, hlt⟩ := hc2
        have hls := lessS16_fun (l1.getD (f + (2 * r + 1)) 0) (l1.getD (f + (2 * r + 2)) 0)
        rw [decide_eq_true hlt] at hls
        have hls2 := lessS16_fun (l1.getD (f + r) 0) (l1.getD (f + (2 * r + 2)) 0)
        have hd : ∀ d, (d = 2 * r + 1 ∨ d = 2 * r + 2) → d < hi → l1.getD (f + d) 0 ≤ l1.getD (f + (2 * r + 2)) 0 := fun d h1 h2 => by
          rcases h1 with rfl | rfl <;> omega
        by_cases hlt2 : l1.getD (f + r) 0 < l1.getD (f + (2 * r + 2)) 0
        · rw [decide_eq_true hlt2] at hls2
          have e2 : (l1.set (f + r) (l1.getD (f + (2 * r + 2)) 0)).set (f + (2 * r + 2)) (l1.getD (f + r) 0) = sw l1 (f + r) (f + (2 * r + 2)) := rfl
          have e4 : (l1.set (f + r) (l1.getD (f + (2 * r + 2)) 0)).length = l1.length := List.length_set
          repeat' (first | simp only [go_sem, hs, hl1, er, er1, f0, f1, f2, f3, e2, List.length_set, Ret_eq Try.results190] | simp (disch := omega) only [arith, IntKind.bits, capMax, fill_len, elt_fill] | (refine awpI_draw2 (id := 3) (.one false 0 (.one false 1 (.one false 2 (.one false 3 (.one false 4 (.one false 5 (.one false 6 (.one false 7 (.one false 8 (.one false 9 (.one false 10 (.one false 11 (.one false 12 (.one false 13 (.one false 14 (.one false 15 (.one false 16 (.one false 17 (.only 18 (.one false 19 .done)))))))))))))))))))) mixed (by decide +kernel) (by decide +kernel) ?_) | (refine awpI_draw2 (id := 5) (.one false 0 (.one false 1 (.one false 2 (.one false 3 (.one false 4 (.one false 5 (.one false 6 (.one false 7 (.one false 8 (.one false 9 (.one false 10 (.one false 11 (.only 12 (.one false 13 .done)))))))))))))) mixed (by decide +kernel) (by decide +kernel) ?_) | (refine awpI_draw2 (id := 6) (.one false 0 (.one false 1 (.one false 2 (.one false 3 (.one false 8 (.one false 9 (.one false 10 (.one false 11 (.one false 12 (.one false 13 (.one false 14 (.one false 15 (.one false 16 (.one false 17 (.one false 18 (.one false 19 (.one false 20 (.mv 4 (.mv 5 (.mv 6 (.cal 7 [21] (.only 21 (.one false 22 (.only 23 .done)))))))))))))))))))))))) mixed (by decide +kernel) (by decide +kernel) ?_) | (refine opCallI_rd (by simp only [go_sem, hs, hl1, er, er1, f0, f1, f2, f3, e2, List.length_set, Ret_eq Try.results190]; first | done | rfl) (hls) (by rintro _ rfl; rfl) ?_; rintro _ rfl) | (refine opCallI_rd (by simp only [go_sem, hs, hl1, er, er1, f0, f1, f2, f3, e2, List.length_set, Ret_eq Try.results190]; first | done | rfl) (hls2) (by rintro _ rfl; rfl) ?_; rintro _ rfl) | fail)
          all_goals
            refine AgainW.to (2 * r + 2, sw l1 (f + r) (f + (2 * r + 2))) ?_ ?_ ?_
            · show hi - (2 * r + 2) < hi - r; omega
            · exact ⟨⟨by show lo ≤ 2 * r + 2; omega, by show 2 * r + 2 ≤ hi; omega⟩, .step _ _ hsw ⟨by omega, by omega⟩ ⟨by omega, by omega⟩ (by omega), hex.step hr1 (.inr rfl) hc2 hd hlt2 (by omega)⟩
            · simp only [go_sem, hs, Ret_eq Try.results190]
        · rw [decide_eq_false hlt2] at hls2
          repeat' (first | simp only [go_sem, hs, hl1, er, er1, f0, f1, f2, f3, Ret_eq Try.results190] | simp (disch := omega) only [arith, IntKind.bits, capMax, fill_len, elt_fill] | refine RetL_calc Try.results190 rfl ?_ | (refine awpI_draw2 (id := 3) (.one false 0 (.one false 1 (.one false 2 (.one false 3 (.one false 4 (.one false 5 (.one false 6 (.one false 7 (.one false 8 (.one false 9 (.one false 10 (.one false 11 (.one false 12 (.one false 13 (.one false 14 (.one false 15 (.one false 16 (.one false 17 (.only 18 (.one false 19 .done)))))))))))))))))))) mixed (by decide +kernel) (by decide +kernel) ?_) | (refine awpI_draw2 (id := 5) (.one false 0 (.one false 1 (.one false 2 (.one false 3 (.one false 4 (.one false 5 (.one false 6 (.one false 7 (.one false 8 (.one false 9 (.one false 10 (.one false 11 (.only 12 (.one false 13 .done)))))))))))))) mixed (by decide +kernel) (by decide +kernel) ?_) | (refine opCallI_rd (by simp only [go_sem, hs, hl1, er, er1, f0, f1, f2, f3, Ret_eq Try.results190]; first | done | rfl) (hls) (by rintro _ rfl; rfl) ?_; rintro _ rfl) | (refine opCallI_rd (by simp only [go_sem, hs, hl1, er, er1, f0, f1, f2, f3, Ret_eq Try.results190]; first | done | rfl) (hls2) (by rintro _ rfl; rfl) ?_; rintro _ rfl) | fail)
          all_goals exact ⟨rfl, l1, rfl, hsw, hex.done fun d h1 h2 => by have := hd d h1 h2; omega⟩
      · have hls2 := lessS16_fun (l1.getD (f + r) 0) (l1.getD (f + (2 * r + 1)) 0)
        have hd : ∀ d, (d = 2 * r + 1 ∨ d = 2 * r + 2) → d < hi → l1.getD (f + d) 0 ≤ l1.getD (f + (2 * r + 1)) 0 := fun d h1 h2 => by
          rcases h1 with rfl | rfl
          · exact Int.le_refl _
          · refine Int.not_lt.1 fun q => hc2 ⟨h2, q⟩
        have hls := lessS16_fun (l1.getD (f + (2 * r + 1)) 0) (l1.getD (f + (2 * r + 2)) 0)
        by_cases hlt2 : l1.getD (f + r) 0 < l1.getD (f + (2 * r + 1)) 0
        · rw [decide_eq_true hlt2] at hls2
          have e2 : (l1.set (f + r) (l1.getD (f + (2 * r + 1)) 0)).set (f + (2 * r + 1)) (l1.getD (f + r) 0) = sw l1 (f + r) (f + (2 * r + 1)) := rfl
          have e4 : (l1.set (f + r) (l1.getD (f + (2 * r + 1)) 0)).length = l1.length := List.length_set
          by_cases hc3 : 2 * r + 2 < hi
          · rw [decide_eq_false (fun q => hc2 ⟨hc3, q⟩)] at hls
            repeat' (first | simp only [go_sem, hs, hl1, er, er1, f0, f1, f2, f3, e2, List.length_set, Ret_eq Try.results190] | simp (disch := omega) only [arith, IntKind.bits, capMax, fill_len, elt_fill] | (refine awpI_draw2 (id := 3) (.one false 0 (.one false 1 (.one false 2 (.one false 3 (.one false 4 (.one false 5 (.one false 6 (.one false 7 (.one false 8 (.one false 9 (.one false 10 (.one false 11 (.one false 12 (.one false 13 (.one false 14 (.one false 15 (.one false 16 (.one false 17 (.only 18 (.one false 19 .done)))))))))))))))))))) mixed (by decide +kernel) (by decide +kernel) ?_) | (refine awpI_draw2 (id := 5) (.one false 0 (.one false 1 (.one false 2 (.one false 3 (.one false 4 (.one false 5 (.one false 6 (.one false 7 (.one false 8 (.one false 9 (.one false 10 (.one false 11 (.only 12 (.one false 13 .done)))))))))))))) mixed (by decide +kernel) (by decide +kernel) ?_) | (refine awpI_draw2 (id := 6) (.one false 0 (.one false 1 (.one false 2 (.one false 3 (.one false 8 (.one false 9 (.one false 10 (.one false 11 (.one false 12 (.one false 13 (.one false 14 (.one false 15 (.one false 16 (.one false 17 (.one false 18 (.one false 19 (.one false 20 (.mv 4 (.mv 5 (.mv 6 (.cal 7 [21] (.only 21 (.one false 22 (.only 23 .done)))))))))))))))))))))))) mixed (by decide +kernel) (by decide +kernel) ?_) | (refine opCallI_rd (by simp only [go_sem, hs, hl1, er, er1, f0, f1, f2, f3, e2, List.length_set, Ret_eq Try.results190]; first | done | rfl) (hls) (by rintro _ rfl; rfl) ?_; rintro _ rfl) | (refine opCallI_rd (by simp only [go_sem, hs, hl1, er, er1, f0, f1, f2, f3, e2, List.length_set, Ret_eq Try.results190]; first | done | rfl) (hls2) (by rintro _ rfl; rfl) ?_; rintro _ rfl) | fail)
            all_goals
              refine AgainW.to (2 * r + 1, sw l1 (f + r) (f + (2 * r + 1))) ?_ ?_ ?_
              · show hi - (2 * r + 1) < hi - r; omega
              · exact ⟨⟨by show lo ≤ 2 * r + 1; omega, by show 2 * r + 1 ≤ hi; omega⟩, .step _ _ hsw ⟨by omega, by omega⟩ ⟨by omega, by omega⟩ (by omega), hex.step hr1 (.inl rfl) hc hd hlt2 (by omega)⟩
              · simp only [go_sem, hs, Ret_eq Try.results190]
          · repeat' (first | simp only [go_sem, hs, hl1, er, er1, f0, f1, f2, f3, e2, List.length_set, Ret_eq Try.results190] | simp (disch := omega) only [arith, IntKind.bits, capMax, fill_len, elt_fill] | (refine awpI_draw2 (id := 3) (.one false 0 (.one false 1 (.one false 2 (.one false 3 (.one false 4 (.one false 5 (.one false 6 (.one false 7 (.one false 8 (.one false 9 (.one false 10 (.one false 11 (.one false 12 (.one false 13 (.one false 14 (.one false 15 (.one false 16 (.one false 17 (.only 18 (.one false 19 .done)))))))))))))))))))) mixed (by decide +kernel) (by decide +kernel) ?_) | (refine awpI_draw2 (id := 5) (.one false 0 (.one false 1 (.one false 2 (.one false 3 (.one false 4 (.one false 5 (.one false 6 (.one false 7 (.one false 8 (.one false 9 (.one false 10 (.one false 11 (.only 12 (.one false 13 .done)))))))))))))) mixed (by decide +kernel) (by decide +kernel) ?_) | (refine awpI_draw2 (id := 6) (.one false 0 (.one false 1 (.one false 2 (.one false 3 (.one false 8 (.one false 9 (.one false 10 (.one false 11 (.one false 12 (.one false 13 (.one false 14 (.one false 15 (.one false 16 (.one false 17 (.one false 18 (.one false 19 (.one false 20 (.mv 4 (.mv 5 (.mv 6 (.cal 7 [21] (.only 21 (.one false 22 (.only 23 .done)))))))))))))))))))))))) mixed (by decide +kernel) (by decide +kernel) ?_) | (refine opCallI_rd (by simp only [go_sem, hs, hl1, er, er1, f0, f1, f2, f3, e2, List.length_set, Ret_eq Try.results190]; first | done | rfl) (hls2) (by rintro _ rfl; rfl) ?_; rintro _ rfl) | fail)
            all_goals
              refine AgainW.to (2 * r + 1, sw l1 (f + r) (f + (2 * r + 1))) ?_ ?_ ?_
              · show hi - (2 * r + 1) < hi - r; omega
              · exact ⟨⟨by show lo ≤ 2 * r + 1; omega, by show 2 * r + 1 ≤ hi; omega⟩, .step _ _ hsw ⟨by omega, by omega⟩ ⟨by omega, by omega⟩ (by omega), hex.step hr1 (.inl rfl) hc hd hlt2 (by omega)⟩
              · simp only [go_sem, hs, Ret_eq Try.results190]
        · rw [decide_eq_false hlt2] at hls2
          by_cases hc3 : 2 * r + 2 < hi
          · rw [decide_eq_false (fun q => hc2 ⟨hc3, q⟩)] at hls
            repeat' (first | simp only [go_sem, hs, hl1, er, er1, f0, f1, f2, f3, Ret_eq Try.results190] | simp (disch := omega) only [arith, IntKind.bits, capMax, fill_len, elt_fill] | refine RetL_calc Try.results190 rfl ?_ | (refine awpI_draw2 (id := 3) (.one false 0 (.one false 1 (.one false 2 (.one false 3 (.one false 4 (.one false 5 (.one false 6 (.one false 7 (.one false 8 (.one false 9 (.one false 10 (.one false 11 (.one false 12 (.one false 13 (.one false 14 (.one false 15 (.one false 16 (.one false 17 (.only 18 (.one false 19 .done)))))))))))))))))))) mixed (by decide +kernel) (by decide +kernel) ?_) | (refine awpI_draw2 (id := 5) (.one false 0 (.one false 1 (.one false 2 (.one false 3 (.one false 4 (.one false 5 (.one false 6 (.one false 7 (.one false 8 (.one false 9 (.one false 10 (.one false 11 (.only 12 (.one false 13 .done)))))))))))))) mixed (by decide +kernel) (by decide +kernel) ?_) | (refine opCallI_rd (by simp only [go_sem, hs, hl1, er, er1, f0, f1, f2, f3, Ret_eq Try.results190]; first | done | rfl) (hls) (by rintro _ rfl; rfl) ?_; rintro _ rfl) | (refine opCallI_rd (by simp only [go_sem, hs, hl1, er, er1, f0, f1, f2, f3, Ret_eq Try.results190]; first | done | rfl) (hls2) (by rintro _ rfl; rfl) ?_; rintro _ rfl) | fail)
            all_goals exact ⟨rfl, l1, rfl, hsw, hex.done fun d h1 h2 => by have := hd d h1 h2; omega⟩
          · repeat' (first | simp only [go_sem, hs, hl1, er, er1, f0, f1, f2, f3, Ret_eq Try.results190] | simp (disch := omega) only [arith, IntKind.bits, capMax, fill_len, elt_fill] | refine RetL_calc Try.results190 rfl ?_ | (refine awpI_draw2 (id := 3) (.one false 0 (.one false 1 (.one false 2 (.one false 3 (.one false 4 (.one false 5 (.one false 6 (.one false 7 (.one false 8 (.one false 9 (.one false 10 (.one false 11 (.one false 12 (.one false 13 (.one false 14 (.one false 15 (.one false 16 (.one false 17 (.only 18 (.one false 19 .done)))))))))))))))))))) mixed (by decide +kernel) (by decide +kernel) ?_) | (refine awpI_draw2 (id := 5) (.one false 0 (.one false 1 (.one false 2 (.one false 3 (.one false 4 (.one false 5 (.one false 6 (.one false 7 (.one false 8 (.one false 9 (.one false 10 (.one false 11 (.only 12 (.one false 13 .done)))))))))))))) mixed (by decide +kernel) (by decide +kernel) ?_) | (refine opCallI_rd (by simp only [go_sem, hs, hl1, er, er1, f0, f1, f2, f3, Ret_eq Try.results190]; first | done | rfl) (hls2) (by rintro _ rfl; rfl) ?_; rintro _ rfl) | fail)
            all_goals exact ⟨rfl, l1, rfl, hsw, hex.done fun d h1 h2 => by have := hd d h1 h2; omega⟩
    · repeat' (first | simp only [go_sem, hs, er, Ret_eq Try.results190] | simp (disch := omega) only [arith, IntKind.bits, capMax, fill_len, elt_fill] | refine RetL_calc Try.results190 rfl ?_ | fail)
      all_goals exact ⟨rfl, l1, rfl, hsw, hex.done fun d h1 h2 => by omega⟩
end Go.Proofs.Ytpkampecmlpfmaa.T

end
section
set_option linter.unusedSimpArgs false
set_option linter.unusedVariables false
/- Sorting a list as a heap, walked. -/
namespace Go.Proofs.Ytpkampecmlpfmaa.T
open Go Go.VL Go.Proofs
set_option maxRecDepth 100000
set_option maxHeartbeats 4000000

theorem heap16 (l : List Int) (a b : Nat) (hab : a < b) (hb : b ≤ l.length) (hl : l.length ≤ 1000000) : FunL Try.prog 177 [.ref 0 l.length, .v (.int .i64 a), .v (.int .i64 b)] [own16 l] fun r os =>
    r = .tup [] ∧ ∃ l', os = [own16 l'] ∧ Sw a b l l' ∧ Sd a b l' := by
  refine FunL.of_awpI [(100000, 0)] rfl Try.func177 rfl cal177 Try.ntmps177 (by simp) fun hwf hlw ls => ?_
  simp only [lentWf, D.wfs, D.wf, ints_length, ints_wfs, rows_length, rows_wfs, capMax, and_true, true_and] at hwf hlw
  obtain ⟨n, rfl⟩ : ∃ n, b = a + n := ⟨b - a, by omega⟩
  have e0 : ((a + n : Nat) : Int) - (a : Int) = ((n : Nat) : Int) := by omega
  have e1 : (n : Int) - 1 = ((n - 1 : Nat) : Int) := by omega
  have e2 : ((n - 1 : Nat) : Int).tdiv 2 = (((n - 1) / 2 : Nat) : Int) := by
    rw [Int.tdiv_eq_ediv_of_nonneg (by omega)]; omega
  repeat' (first | simp only [go_sem, e0, e1, e2, Ret_eq Try.results177] | simp (disch := omega) only [arith, IntKind.bits, capMax, fill_len, elt_fill] | fail)
  refine awpI_while (σ := Nat × List Int) (fun x => x.1) (fun x => x.1 ≤ (n - 1) / 2 + 1 ∧ Sw a (a + n) l x.2 ∧ Hp x.1 n a x.2) (fun x => [(9, .v (.int .i64 ((x.1 : Int) - 1)))]) (fun x => [(0, own16 x.2)]) [0, 6, 7, 8, 100000] [] ((n - 1) / 2 + 1, l) _ (Weak.refl _) ⟨Nat.le_refl _, .refl _, fun k c h1 h2 h3 => by omega⟩ ?_ ?_ ?_
  · simp only [go_sem, e2, Ret_eq Try.results177]
    all_goals omega
  · simp only [go_sem, Ret_eq Try.results177]
  · rintro ⟨k, l1⟩ s ⟨hk, hsw, hhp⟩ hs
    simp only [go_sem, Ret_eq Try.results177] at hs
    dsimp only at hk hsw hhp
    have hl1 := hsw.length
    by_cases hk0 : 1 ≤ k
    · obtain ⟨q, rfl⟩ : ∃ q, k = q + 1 := ⟨k - 1, by omega⟩
      have ek : ((q + 1 : Nat) : Int) - 1 = ((q : Nat) : Int) := by omega
      have hsf := sift16 l1 q n a hhp (by omega) (by omega) (by omega)
      rw [hl1] at hsf
      repeat' (first | simp only [go_sem, hs, ek, hl1, Ret_eq Try.results177] | simp (disch := omega) only [arith, IntKind.bits, capMax, fill_len, elt_fill] | (refine opCallI_lend [0] (by simp only [go_sem, hs, ek, hl1, Ret_eq Try.results177]; first | done | rfl) (by simp only [go_sem, hs, ek, hl1, Ret_eq Try.results177]; first | done | rfl) (by decide) (by simp only [go_sem, hs, ek, hl1, Ret_eq Try.results177]; first | done | decide) (by simp only [go_sem, hs, ek, hl1, Ret_eq Try.results177]; first | done | decide) (hsf) ?_; rintro _ _ ⟨rfl, l2, rfl, hs2, hp2⟩) | fail)
      all_goals
        refine AgainW.to (q, l2) ?_ ?_ ?_
        · show q < q + 1; omega
        · exact ⟨by show q ≤ _; omega, hsw.trans hs2, hp2⟩
        · simp only [go_sem, hs, Ret_eq Try.results177]
    · obtain rfl : k = 0 := by omega
      repeat' (first | simp only [go_sem, hs, e1, Ret_eq Try.results177] | simp (disch := omega) only [arith, IntKind.bits, capMax, fill_len, elt_fill] | fail)
      refine awpI_while (σ := Nat × List Int) (fun x => x.1) (fun x => x.1 ≤ n ∧ Sw a (a + n) l x.2 ∧ Hp 0 x.1 a x.2 ∧ Tl a x.1 n x.2) (fun x => [(10, .v (.int .i64 ((x.1 : Int) - 1)))]) (fun x => [(0, own16 x.2)]) [0, 6, 7, 100000] [] (n, l1) _ (Weak.refl _) ⟨Nat.le_refl _, hsw, hhp, ⟨fun p q h1 h2 h3 => by omega, fun p q h1 h2 h3 => by omega⟩⟩ ?_ ?_ ?_
      · simp only [go_sem, hs, e1, Ret_eq Try.results177]
      · simp only [go_sem, hs, Ret_eq Try.results177]
      · rintro ⟨k, l3⟩ s2 ⟨hk, hsw3, hhp3, htl⟩ hs2
        simp only [go_sem, hs, Ret_eq Try.results177] at hs2
        dsimp only at hk hsw3 hhp3 htl
        have hl3 := hsw3.length
        by_cases hk0 : 1 ≤ k
        · obtain ⟨q, rfl⟩ : ∃ q, k = q + 1 := ⟨k - 1, by omega⟩
          have ek : ((q + 1 : Nat) : Int) - 1 = ((q : Nat) : Int) := by omega
          have ea : (a : Int) + (q : Int) = ((a + q : Nat) : Int) := by omega
          have hslen := sw_length (l := l3) (i := a) (j := a + q)
          have hsf := sift16 (sw l3 a (a + q)) 0 q a (hhp3.swapped (by omega)) (by omega) (by omega) (by omega)
          have e00 : ((0 : Nat) : Int) = 0 := rfl
          rw [hslen, hl3, e00] at hsf
          have e5 : (l3.set a (l3.getD (a + q) 0)).set (a + q) (l3.getD a 0) = sw l3 a (a + q) := rfl
          have e6 : (l3.set a (l3.getD (a + q) 0)).length = l3.length := List.length_set
          repeat' (first | simp only [go_sem, hs, hs2, ek, ea, hl3, e5, List.length_set, Ret_eq Try.results177] | simp (disch := omega) only [arith, IntKind.bits, capMax, fill_len, elt_fill] | (refine awpI_draw2 (id := 10) (.one false 0 (.one false 1 (.one false 6 (.one false 7 (.one false 8 (.one false 9 (.one false 10 (.one false 11 (.one false 12 (.one false 13 (.one false 14 (.one false 15 (.one false 16 (.mv 2 (.mv 3 (.mv 4 (.cal 5 [17] (.only 17 (.one false 18 (.only 19 .done)))))))))))))))))))) mixed (by decide +kernel) (by decide +kernel) ?_) | (refine opCallI_lend [0] (by simp only [go_sem, hs, hs2, ek, ea, hl3, e5, List.length_set, Ret_eq Try.results177]; first | done | rfl) (by simp only [go_sem, hs, hs2, ek, ea, hl3, e5, List.length_set, Ret_eq Try.results177]; first | done | rfl) (by decide) (by simp only [go_sem, hs, hs2, ek, ea, hl3, e5, List.length_set, Ret_eq Try.results177]; first | done | decide) (by simp only [go_sem, hs, hs2, ek, ea, hl3, e5, List.length_set, Ret_eq Try.results177]; first | done | decide) (hsf) ?_; rintro _ _ ⟨rfl, l4, rfl, hs4, hp4⟩) | fail)
          all_goals
            refine AgainW.to (q, l4) ?_ ?_ ?_
            · show q < q + 1; omega
            · exact ⟨by show q ≤ n; omega, (Sw.step a (a + q) hsw3 ⟨by omega, by omega⟩ ⟨by omega, by omega⟩ (by omega)).trans (hs4.mono (by omega) (by omega) (by omega)), hp4, htl.step hhp3 (by omega) (by omega) hs4⟩
            · simp only [go_sem, hs, hs2, Ret_eq Try.results177]
        · obtain rfl : k = 0 := by omega
          repeat' (first | simp only [go_sem, hs, hs2, Ret_eq Try.results177] | simp (disch := omega) only [arith, IntKind.bits, capMax, fill_len, elt_fill] | refine RetL_calc Try.results177 rfl ?_ | fail)
          all_goals exact ⟨rfl, l3, rfl, hsw3, htl.t1⟩
end Go.Proofs.Ytpkampecmlpfmaa.T

end
section
set_option linter.unusedSimpArgs false
set_option linter.unusedVariables false
/- Lists parted, walked. -/
namespace Go.Proofs.Ytpkampecmlpfmaa.T
open Go Go.VL Go.Proofs
set_option maxRecDepth 100000
set_option maxHeartbeats 8000000

theorem partEq16 (l : List Int) (a b v : Nat) (hv : a ≤ v ∧ v < b) (hb : b ≤ l.length) (hl : l.length ≤ 1000000) : FunL Try.prog 182 [.ref 0 l.length, .v (.int .i64 a), .v (.int .i64 b), .v (.int .i64 v)] [own16 l] fun r os =>
    ∃ m : Nat, r = .v (.int .i64 m) ∧ ∃ l', os = [own16 l'] ∧ Sw a b l l' ∧ PartEq a b m (l.getD v 0) l' := by
  obtain ⟨p, hpe⟩ : ∃ p, l.getD v 0 = p := ⟨_, rfl⟩
  rw [hpe]
  refine FunL.of_awpI [(100000, 0)] rfl Try.func182 rfl cal182 Try.ntmps182 (by simp) fun hwf hlw ls => ?_
  simp only [lentWf, D.wfs, D.wf, ints_length, ints_wfs, rows_length, rows_wfs, capMax, and_true, true_and] at hwf hlw
  have e2 : (l.set a (l.getD v 0)).set v (l.getD a 0) = sw l a v := rfl
  have e3 : (l.set a (l.getD v 0)).length = l.length := List.length_set
  have e4 := sw_length (l := l) (i := a) (j := v)
  have eb : (b : Int) - 1 = ((b - 1 : Nat) : Int) := by omega
  have hp : (sw l a v).getD a 0 = l.getD v 0 := by
    rw [sw_getD (by omega) (by omega)]
    by_cases q : a = v
    · rw [if_pos q, q]
    · rw [if_neg q, if_pos rfl]
  rw [hpe] at hp
  have hP0 : Pe a b (a + 1) (b - 1) p (sw l a v) := by
    refine ⟨hp, fun k k1 k2 => ?_, fun k k1 k2 => by omega, by omega, by omega, by omega⟩
    obtain rfl : k = a := by omega
    exact Int.le_of_eq hp
  have hS0 : Sw a b l (sw l a v) := .step a v (.refl _) ⟨Nat.le_refl _, by omega⟩ hv hb
  repeat' (first | simp only [go_sem, e2, eb, List.length_set, Ret_eq Try.results182] | simp (disch := omega) only [arith, IntKind.bits, capMax, fill_len, elt_fill] | (refine awpI_draw2 (id := 1) (.one false 0 (.one false 1 (.one false 4 (.one false 5 (.one false 6 (.one false 7 (.one false 8 (.one false 9 (.one false 10 (.one false 11 (.one false 12 (.mv 2 (.mv 3 (.only 13 (.one false 14 (.only 15 .done)))))))))))))))) mixed (by decide +kernel) (by decide +kernel) ?_) | fail)
  refine awpI_while (σ := Nat × Nat × List Int) (fun x => x.2.1 + 1 - x.1) (fun x => Sw a b l x.2.2 ∧ Pe a b x.1 x.2.1 p x.2.2) (fun x => [(9, .v (.int .i64 x.1)), (10, .v (.int .i64 x.2.1))]) (fun x => [(0, own16 x.2.2)]) [0, 1, 100000] [] (a + 1, b - 1, sw l a v) _ (Weak.refl _) ⟨hS0, hP0⟩ ?_ ?_ ?_
  · simp only [go_sem, Ret_eq Try.results182]
  · simp only [go_sem, Ret_eq Try.results182]
  · rintro ⟨i, j, l1⟩ s ⟨hsw, hP⟩ hs
    simp only [go_sem, Ret_eq Try.results182] at hs
    dsimp only at hsw hP
    have hL := hsw.length
    repeat' (first | simp only [go_sem, hs, Ret_eq Try.results182] | fail)
    refine awpI_while (σ := Nat) (fun x => j + 1 - x) (fun x => i ≤ x ∧ Pe a b x j p l1) (fun x => [(9, .v (.int .i64 x))]) (fun _ => []) [0, 1, 10, 100000] [0] i _ (Weak.refl _) ⟨Nat.le_refl _, hP⟩ ?_ ?_ ?_
    · simp only [go_sem, hs, Ret_eq Try.results182]
    · simp only [go_sem, hs, Ret_eq Try.results182]
    · rintro i2 s2 ⟨hges2, hPi2⟩ hs2
      simp only [go_sem, hs, Ret_eq Try.results182] at hs2
      have his2 := hPi2.hi
      have hjs2 := hPi2.hj
      have hijs2 := hPi2.hij
      have has2 := hPi2.ha
      have hlss2 := lessS16_fun p (l1.getD i2 0)
      by_cases qs2 : i2 ≤ j
      · by_cases rs2 : ¬ p < l1.getD i2 0
        · rw [decide_eq_false rs2] at hlss2
          repeat' (first | simp only [go_sem, hs, hs2, hL, has2, Ret_eq Try.results182] | simp (disch := omega) only [arith, IntKind.bits, capMax, fill_len, elt_fill] | (refine awpI_draw2 (id := 3) (.one false 0 (.one false 1 (.one false 2 (.one false 3 (.one false 4 (.one false 5 (.one false 6 (.one false 7 (.one false 8 (.one false 9 (.one false 10 (.one false 11 (.only 12 (.one false 13 (.one false 14 .done))))))))))))))) mixed (by decide +kernel) (by decide +kernel) ?_) | (refine opCallI_rd (by simp only [go_sem, hs, hs2, hL, has2, Ret_eq Try.results182]; first | done | rfl) (hlss2) (by rintro _ rfl; rfl) ?_; rintro _ rfl) | fail)
          all_goals
            refine AgainW.to (i2 + 1) ?_ ?_ ?_
            · show j + 1 - (i2 + 1) < j + 1 - i2; omega
            · exact ⟨by show i ≤ i2 + 1; omega, hPi2.up qs2 (by omega)⟩
            · simp only [go_sem, hs, hs2, hL, has2, Ret_eq Try.results182]
        · rw [decide_eq_true (Classical.not_not.1 rs2)] at hlss2
          have xs2 : j < i2 ∨ p < l1.getD i2 0 := .inr (by omega)
          repeat' (first | simp only [go_sem, hs, hs2, hL, has2, Ret_eq Try.results182] | simp (disch := omega) only [arith, IntKind.bits, capMax, fill_len, elt_fill] | (refine awpI_draw2 (id := 3) (.one false 0 (.one false 1 (.one false 2 (.one false 3 (.one false 4 (.one false 5 (.one false 6 (.one false 7 (.one false 8 (.one false 9 (.one false 10 (.one false 11 (.only 12 (.one false 13 (.one false 14 .done))))))))))))))) mixed (by decide +kernel) (by decide +kernel) ?_) | (refine opCallI_rd (by simp only [go_sem, hs, hs2, hL, has2, Ret_eq Try.results182]; first | done | rfl) (hlss2) (by rintro _ rfl; rfl) ?_; rintro _ rfl) | fail)
          refine awpI_while (σ := Nat) (fun x => x) (fun x => x ≤ j ∧ Pe a b i2 x p l1) (fun x => [(10, .v (.int .i64 x))]) (fun _ => []) [0, 1, 9, 100000] [0] j _ (Weak.refl _) ⟨Nat.le_refl _, hPi2⟩ ?_ ?_ ?_
          · simp only [go_sem, hs, hs2, Ret_eq Try.results182]
          · simp only [go_sem, hs, hs2, Ret_eq Try.results182]
          · rintro j2 s3 ⟨hges3, hPi2j2⟩ hs3
            simp only [go_sem, hs, hs2, Ret_eq Try.results182] at hs3
            have his3 := hPi2j2.hi
            have hjs3 := hPi2j2.hj
            have hijs3 := hPi2j2.hij
            have has3 := hPi2j2.ha
            have hlss3 := lessS16_fun p (l1.getD j2 0)
            by_cases qs3 : i2 ≤ j2
            · have ejs3 : (j2 : Int) - 1 = ((j2 - 1 : Nat) : Int) := by omega
              by_cases rs3 : p < l1.getD j2 0
              · rw [decide_eq_true rs3] at hlss3
                repeat' (first | simp only [go_sem, hs, hs2, hs3, hL, has3, ejs3, Ret_eq Try.results182] | simp (disch := omega) only [arith, IntKind.bits, capMax, fill_len, elt_fill] | (refine awpI_draw2 (id := 5) (.one false 0 (.one false 1 (.one false 2 (.one false 3 (.one false 4 (.one false 5 (.one false 6 (.one false 7 (.one false 8 (.one false 9 (.one false 10 (.one false 11 (.only 12 (.one false 13 .done)))))))))))))) mixed (by decide +kernel) (by decide +kernel) ?_) | (refine opCallI_rd (by simp only [go_sem, hs, hs2, hs3, hL, has3, ejs3, Ret_eq Try.results182]; first | done | rfl) (hlss3) (by rintro _ rfl; rfl) ?_; rintro _ rfl) | fail)
                all_goals
                  refine AgainW.to (j2 - 1) ?_ ?_ ?_
                  · show j2 - 1 < j2; omega
                  · exact ⟨by show j2 - 1 ≤ j; omega, hPi2j2.down qs3 (by omega)⟩
                  · simp only [go_sem, hs, hs2, hs3, hL, has3, Ret_eq Try.results182]
              · rw [decide_eq_false rs3] at hlss3
                have xs3 : l1.getD j2 0 ≤ p := by omega
                have hlt : l1.getD j2 0 ≤ p := xs3
                have ej : (j2 : Int) - 1 = ((j2 - 1 : Nat) : Int) := by omega
                have e5 : (l1.set i2 (l1.getD j2 0)).set j2 (l1.getD i2 0) = sw l1 i2 j2 := rfl
                have e6 : (l1.set i2 (l1.getD j2 0)).length = l1.length := List.length_set
                repeat' (first | simp only [go_sem, hs, hs2, hs3, hL, has3, ej, e5, List.length_set, Ret_eq Try.results182] | simp (disch := omega) only [arith, IntKind.bits, capMax, fill_len, elt_fill] | (refine awpI_draw2 (id := 5) (.one false 0 (.one false 1 (.one false 2 (.one false 3 (.one false 4 (.one false 5 (.one false 6 (.one false 7 (.one false 8 (.one false 9 (.one false 10 (.one false 11 (.only 12 (.one false 13 .done)))))))))))))) mixed (by decide +kernel) (by decide +kernel) ?_) | (refine awpI_draw2 (id := 8) (.one false 0 (.one false 1 (.one false 4 (.one false 5 (.one false 6 (.one false 7 (.one false 8 (.one false 9 (.one false 10 (.one false 11 (.one false 12 (.mv 2 (.mv 3 (.only 13 (.one false 14 (.only 15 .done)))))))))))))))) mixed (by decide +kernel) (by decide +kernel) ?_) | (refine opCallI_rd (by simp only [go_sem, hs, hs2, hs3, hL, has3, ej, e5, List.length_set, Ret_eq Try.results182]; first | done | rfl) (hlss3) (by rintro _ rfl; rfl) ?_; rintro _ rfl) | fail)
                all_goals
                  refine AgainW.to (i2 + 1, j2 - 1, sw l1 i2 j2) ?_ ?_ ?_
                  · show j2 - 1 + 1 - (i2 + 1) < j + 1 - i; omega
                  · exact ⟨.step i2 j2 hsw ⟨by omega, by omega⟩ ⟨by omega, by omega⟩ (by omega), hPi2j2.swap (by omega) (by omega) (by omega) (by omega)⟩
                  · simp only [go_sem, hs, hs2, hs3, Ret_eq Try.results182]
            · have w : j2 < i2 := by omega
              repeat' (first | simp only [go_sem, hs, hs2, hs3, hL, has3, Ret_eq Try.results182] | simp (disch := omega) only [arith, IntKind.bits, capMax, fill_len, elt_fill] | refine RetL_calc Try.results182 rfl ?_ | (refine awpI_draw2 (id := 5) (.one false 0 (.one false 1 (.one false 2 (.one false 3 (.one false 4 (.one false 5 (.one false 6 (.one false 7 (.one false 8 (.one false 9 (.one false 10 (.one false 11 (.only 12 (.one false 13 .done)))))))))))))) mixed (by decide +kernel) (by decide +kernel) ?_) | fail)
              all_goals exact ⟨i2, rfl, l1, rfl, hsw, hPi2j2.fin w⟩
      · have xs2 : j < i2 ∨ p < l1.getD i2 0 := .inl (by omega)
        repeat' (first | simp only [go_sem, hs, hs2, hL, has2, Ret_eq Try.results182] | simp (disch := omega) only [arith, IntKind.bits, capMax, fill_len, elt_fill] | (refine awpI_draw2 (id := 3) (.one false 0 (.one false 1 (.one false 2 (.one false 3 (.one false 4 (.one false 5 (.one false 6 (.one false 7 (.one false 8 (.one false 9 (.one false 10 (.one false 11 (.only 12 (.one false 13 (.one false 14 .done))))))))))))))) mixed (by decide +kernel) (by decide +kernel) ?_) | fail)
        refine awpI_while (σ := Nat) (fun x => x) (fun x => x ≤ j ∧ Pe a b i2 x p l1) (fun x => [(10, .v (.int .i64 x))]) (fun _ => []) [0, 1, 9, 100000] [0] j _ (Weak.refl _) ⟨Nat.le_refl _, hPi2⟩ ?_ ?_ ?_
        · simp only [go_sem, hs, hs2, Ret_eq Try.results182]
        · simp only [go_sem, hs, hs2, Ret_eq Try.results182]
        · rintro j2 s3 ⟨hges3, hPi2j2⟩ hs3
          simp only [go_sem, hs, hs2, Ret_eq Try.results182] at hs3
          have his3 := hPi2j2.hi
          have hjs3 := hPi2j2.hj
          have hijs3 := hPi2j2.hij
          have has3 := hPi2j2.ha
          have hlss3 := lessS16_fun p (l1.getD j2 0)
          by_cases qs3 : i2 ≤ j2
          · exact absurd qs3 (by omega)
          · have w : j2 < i2 := by omega
            repeat' (first | simp only [go_sem, hs, hs2, hs3, hL, has3, Ret_eq Try.results182] | simp (disch := omega) only [arith, IntKind.bits, capMax, fill_len, elt_fill] | refine RetL_calc Try.results182 rfl ?_ | (refine awpI_draw2 (id := 5) (.one false 0 (.one false 1 (.one false 2 (.one false 3 (.one false 4 (.one false 5 (.one false 6 (.one false 7 (.one false 8 (.one false 9 (.one false 10 (.one false 11 (.only 12 (.one false 13 .done)))))))))))))) mixed (by decide +kernel) (by decide +kernel) ?_) | fail)
            all_goals exact ⟨i2, rfl, l1, rfl, hsw, hPi2j2.fin w⟩
end Go.Proofs.Ytpkampecmlpfmaa.T

end
section
set_option linter.unusedSimpArgs false
set_option linter.unusedVariables false
/- Lists parted, walked. -/
namespace Go.Proofs.Ytpkampecmlpfmaa.T
open Go Go.VL Go.Proofs
set_option maxRecDepth 100000
set_option maxHeartbeats 8000000

theorem part16 (l : List Int) (a b v : Nat) (hv : a ≤ v ∧ v < b) (hb : b ≤ l.length) (hl : l.length ≤ 1000000) : FunL Try.prog 183 [.ref 0 l.length, .v (.int .i64 a), .v (.int .i64 b), .v (.int .i64 v)] [own16 l] fun r os =>
    ∃ (m : Nat) (t : Bool), r = .tup [.v (.int .i64 m), .v (.bool t)] ∧ ∃ l', os = [own16 l'] ∧ Sw a b l l' ∧ Parted a b m l' := by
  obtain ⟨p, hpe⟩ : ∃ p, l.getD v 0 = p := ⟨_, rfl⟩
  refine FunL.of_awpI [(100000, 0)] rfl Try.func183 rfl cal183 Try.ntmps183 (by simp) fun hwf hlw ls => ?_
  simp only [lentWf, D.wfs, D.wf, ints_length, ints_wfs, rows_length, rows_wfs, capMax, and_true, true_and] at hwf hlw
  have e2 : (l.set a (l.getD v 0)).set v (l.getD a 0) = sw l a v := rfl
  have e3 : (l.set a (l.getD v 0)).length = l.length := List.length_set
  have e4 := sw_length (l := l) (i := a) (j := v)
  have eb : (b : Int) - 1 = ((b - 1 : Nat) : Int) := by omega
  have hp : (sw l a v).getD a 0 = l.getD v 0 := by
    rw [sw_getD (by omega) (by omega)]
    by_cases q : a = v
    · rw [if_pos q, q]
    · rw [if_neg q, if_pos rfl]
  rw [hpe] at hp
  have hP : Pt a b (a + 1) (b - 1) p (sw l a v) := ⟨hp, fun k k1 k2 => by omega, fun k k1 k2 => by omega, by omega, by omega, by omega⟩
  have hsw0 : Sw a b l (sw l a v) := .step a v (.refl _) ⟨Nat.le_refl _, by omega⟩ hv hb
  repeat' (first | simp only [go_sem, e2, eb, List.length_set, Ret_eq Try.results183] | simp (disch := omega) only [arith, IntKind.bits, capMax, fill_len, elt_fill] | (refine awpI_draw2 (id := 1) (.one false 0 (.one false 1 (.one false 4 (.one false 5 (.one false 6 (.one false 7 (.one false 8 (.one false 9 (.one false 10 (.one false 11 (.one false 12 (.mv 2 (.mv 3 (.only 13 (.one false 14 (.only 15 .done)))))))))))))))) mixed (by decide +kernel) (by decide +kernel) ?_) | fail)
  clear e2 e3
  generalize sw l a v = l0 at *
  have hL := hsw0.length
  refine awpI_while (σ := Nat) (fun x => (b - 1) + 1 - x) (fun x => (a + 1) ≤ x ∧ Pt a b x (b - 1) p l0) (fun x => [(10, .v (.int .i64 x))]) (fun _ => []) [0, 1, 11, 100000] [0] (a + 1) _ (Weak.refl _) ⟨Nat.le_refl _, hP⟩ ?_ ?_ ?_
  · simp only [go_sem, Ret_eq Try.results183]
  · simp only [go_sem, Ret_eq Try.results183]
  · rintro i2 s2 ⟨hges2, hPi2⟩ hs2
    simp only [go_sem, Ret_eq Try.results183] at hs2
    have his2 := hPi2.hi
    have hjs2 := hPi2.hj
    have hijs2 := hPi2.hij
    have has2 := hPi2.ha
    have hlss2 := lessS16_fun (l0.getD i2 0) p
    by_cases qs2 : i2 ≤ (b - 1)
    · by_cases rs2 : l0.getD i2 0 < p
      · rw [decide_eq_true rs2] at hlss2
        repeat' (first | simp only [go_sem, hs2, hL, has2, Ret_eq Try.results183] | simp (disch := omega) only [arith, IntKind.bits, capMax, fill_len, elt_fill] | (refine awpI_draw2 (id := 3) (.one false 0 (.one false 1 (.one false 2 (.one false 3 (.one false 4 (.one false 5 (.one false 6 (.one false 7 (.one false 8 (.one false 9 (.one false 10 (.one false 11 (.only 12 (.one false 13 .done)))))))))))))) mixed (by decide +kernel) (by decide +kernel) ?_) | (refine opCallI_rd (by simp only [go_sem, hs2, hL, has2, Ret_eq Try.results183]; first | done | rfl) (hlss2) (by rintro _ rfl; rfl) ?_; rintro _ rfl) | fail)
        all_goals
          refine AgainW.to (i2 + 1) ?_ ?_ ?_
          · show (b - 1) + 1 - (i2 + 1) < (b - 1) + 1 - i2; omega
          · exact ⟨by show (a + 1) ≤ i2 + 1; omega, hPi2.up qs2 (by omega)⟩
          · simp only [go_sem, hs2, hL, has2, Ret_eq Try.results183]
      · rw [decide_eq_false rs2] at hlss2
        have xs2 : (b - 1) < i2 ∨ p ≤ l0.getD i2 0 := .inr (by omega)
        repeat' (first | simp only [go_sem, hs2, hL, has2, Ret_eq Try.results183] | simp (disch := omega) only [arith, IntKind.bits, capMax, fill_len, elt_fill] | (refine awpI_draw2 (id := 3) (.one false 0 (.one false 1 (.one false 2 (.one false 3 (.one false 4 (.one false 5 (.one false 6 (.one false 7 (.one false 8 (.one false 9 (.one false 10 (.one false 11 (.only 12 (.one false 13 .done)))))))))))))) mixed (by decide +kernel) (by decide +kernel) ?_) | (refine opCallI_rd (by simp only [go_sem, hs2, hL, has2, Ret_eq Try.results183]; first | done | rfl) (hlss2) (by rintro _ rfl; rfl) ?_; rintro _ rfl) | fail)
        refine awpI_while (σ := Nat) (fun x => x) (fun x => x ≤ (b - 1) ∧ Pt a b i2 x p l0) (fun x => [(11, .v (.int .i64 x))]) (fun _ => []) [0, 1, 10, 100000] [0] (b - 1) _ (Weak.refl _) ⟨Nat.le_refl _, hPi2⟩ ?_ ?_ ?_
        · simp only [go_sem, hs2, Ret_eq Try.results183]
        · simp only [go_sem, hs2, Ret_eq Try.results183]
        · rintro j2 s3 ⟨hges3, hPi2j2⟩ hs3
          simp only [go_sem, hs2, Ret_eq Try.results183] at hs3
          have his3 := hPi2j2.hi
          have hjs3 := hPi2j2.hj
          have hijs3 := hPi2j2.hij
          have has3 := hPi2j2.ha
          have hlss3 := lessS16_fun (l0.getD j2 0) p
          by_cases qs3 : i2 ≤ j2
          · have ejs3 : (j2 : Int) - 1 = ((j2 - 1 : Nat) : Int) := by omega
            by_cases rs3 : ¬ l0.getD j2 0 < p
            · rw [decide_eq_false rs3] at hlss3
              repeat' (first | simp only [go_sem, hs2, hs3, hL, has3, ejs3, Ret_eq Try.results183] | simp (disch := omega) only [arith, IntKind.bits, capMax, fill_len, elt_fill] | (refine awpI_draw2 (id := 5) (.one false 0 (.one false 1 (.one false 2 (.one false 3 (.one false 4 (.one false 5 (.one false 6 (.one false 7 (.one false 8 (.one false 9 (.one false 10 (.one false 11 (.only 12 (.one false 13 (.one false 14 .done))))))))))))))) mixed (by decide +kernel) (by decide +kernel) ?_) | (refine opCallI_rd (by simp only [go_sem, hs2, hs3, hL, has3, ejs3, Ret_eq Try.results183]; first | done | rfl) (hlss3) (by rintro _ rfl; rfl) ?_; rintro _ rfl) | fail)
              all_goals
                refine AgainW.to (j2 - 1) ?_ ?_ ?_
                · show j2 - 1 < j2; omega
                · exact ⟨by show j2 - 1 ≤ (b - 1); omega, hPi2j2.down qs3 (by omega)⟩
                · simp only [go_sem, hs2, hs3, hL, has3, Ret_eq Try.results183]
            · rw [decide_eq_true (Classical.not_not.1 rs3)] at hlss3
              have xs3 : l0.getD j2 0 < p := by omega
              have hlt : l0.getD j2 0 < p := xs3
              have ej : (j2 : Int) - 1 = ((j2 - 1 : Nat) : Int) := by omega
              have e5 : (l0.set i2 (l0.getD j2 0)).set j2 (l0.getD i2 0) = sw l0 i2 j2 := rfl
              have e6 : (l0.set i2 (l0.getD j2 0)).length = l0.length := List.length_set
              repeat' (first | simp only [go_sem, hs2, hs3, hL, has3, ej, e5, List.length_set, Ret_eq Try.results183] | simp (disch := omega) only [arith, IntKind.bits, capMax, fill_len, elt_fill] | (refine awpI_draw2 (id := 5) (.one false 0 (.one false 1 (.one false 2 (.one false 3 (.one false 4 (.one false 5 (.one false 6 (.one false 7 (.one false 8 (.one false 9 (.one false 10 (.one false 11 (.only 12 (.one false 13 (.one false 14 .done))))))))))))))) mixed (by decide +kernel) (by decide +kernel) ?_) | (refine awpI_draw2 (id := 10) (.one false 0 (.one false 1 (.one false 4 (.one false 5 (.one false 6 (.one false 7 (.one false 8 (.one false 9 (.one false 10 (.one false 11 (.one false 12 (.mv 2 (.mv 3 (.only 13 (.one false 14 (.only 15 .done)))))))))))))))) mixed (by decide +kernel) (by decide +kernel) ?_) | (refine opCallI_rd (by simp only [go_sem, hs2, hs3, hL, has3, ej, e5, List.length_set, Ret_eq Try.results183]; first | done | rfl) (hlss3) (by rintro _ rfl; rfl) ?_; rintro _ rfl) | fail)
              refine awpI_while (σ := Nat × Nat × List Int) (fun x => x.2.1 + 1 - x.1) (fun x => Sw a b l x.2.2 ∧ Pt a b x.1 x.2.1 p x.2.2) (fun x => [(10, .v (.int .i64 x.1)), (11, .v (.int .i64 x.2.1))]) (fun x => [(0, own16 x.2.2)]) [0, 1, 100000] [] (i2 + 1, j2 - 1, sw l0 i2 j2) _ (Weak.refl _) ⟨.step i2 j2 hsw0 ⟨by omega, by omega⟩ ⟨by omega, by omega⟩ (by omega), hPi2j2.swap (by omega) (by omega) (by omega) (by omega)⟩ ?_ ?_ ?_
              · simp only [go_sem, hs2, hs3, Ret_eq Try.results183]
              · simp only [go_sem, hs2, hs3, Ret_eq Try.results183]
              · rintro ⟨i3, j3, l3⟩ s4 ⟨hsw3, hPN⟩ hs4
                simp only [go_sem, hs2, hs3, Ret_eq Try.results183] at hs4
                dsimp only at hsw3 hPN
                clear e5 e6
                have hL := hsw3.length
                repeat' (first | simp only [go_sem, hs2, hs3, hs4, Ret_eq Try.results183] | fail)
                refine awpI_while (σ := Nat) (fun x => j3 + 1 - x) (fun x => i3 ≤ x ∧ Pt a b x j3 p l3) (fun x => [(10, .v (.int .i64 x))]) (fun _ => []) [0, 1, 11, 100000] [0] i3 _ (Weak.refl _) ⟨Nat.le_refl _, hPN⟩ ?_ ?_ ?_
                · simp only [go_sem, hs2, hs3, hs4, Ret_eq Try.results183]
                · simp only [go_sem, hs2, hs3, hs4, Ret_eq Try.results183]
                · rintro i4 s5 ⟨hges5, hPNi4⟩ hs5
                  simp only [go_sem, hs2, hs3, hs4, Ret_eq Try.results183] at hs5
                  have his5 := hPNi4.hi
                  have hjs5 := hPNi4.hj
                  have hijs5 := hPNi4.hij
                  have has5 := hPNi4.ha
                  have hlss5 := lessS16_fun (l3.getD i4 0) p
                  by_cases qs5 : i4 ≤ j3
                  · by_cases rs5 : l3.getD i4 0 < p
                    · rw [decide_eq_true rs5] at hlss5
                      repeat' (first | simp only [go_sem, hs2, hs3, hs4, hs5, hL, has5, Ret_eq Try.results183] | simp (disch := omega) only [arith, IntKind.bits, capMax, fill_len, elt_fill] | (refine awpI_draw2 (id := 13) (.one false 0 (.one false 1 (.one false 2 (.one false 3 (.one false 4 (.one false 5 (.one false 6 (.one false 7 (.one false 8 (.one false 9 (.one false 10 (.one false 11 (.only 12 (.one false 13 .done)))))))))))))) mixed (by decide +kernel) (by decide +kernel) ?_) | (refine opCallI_rd (by simp only [go_sem, hs2, hs3, hs4, hs5, hL, has5, Ret_eq Try.results183]; first | done | rfl) (hlss5) (by rintro _ rfl; rfl) ?_; rintro _ rfl) | fail)
                      all_goals
                        refine AgainW.to (i4 + 1) ?_ ?_ ?_
                        · show j3 + 1 - (i4 + 1) < j3 + 1 - i4; omega
                        · exact ⟨by show i3 ≤ i4 + 1; omega, hPNi4.up qs5 (by omega)⟩
                        · simp only [go_sem, hs2, hs3, hs4, hs5, hL, has5, Ret_eq Try.results183]
                    · rw [decide_eq_false rs5] at hlss5
                      have xs5 : j3 < i4 ∨ p ≤ l3.getD i4 0 := .inr (by omega)
                      repeat' (first | simp only [go_sem, hs2, hs3, hs4, hs5, hL, has5, Ret_eq Try.results183] | simp (disch := omega) only [arith, IntKind.bits, capMax, fill_len, elt_fill] | (refine awpI_draw2 (id := 13) (.one false 0 (.one false 1 (.one false 2 (.one false 3 (.one false 4 (.one false 5 (.one false 6 (.one false 7 (.one false 8 (.one false 9 (.one false 10 (.one false 11 (.only 12 (.one false 13 .done)))))))))))))) mixed (by decide +kernel) (by decide +kernel) ?_) | (refine opCallI_rd (by simp only [go_sem, hs2, hs3, hs4, hs5, hL, has5, Ret_eq Try.results183]; first | done | rfl) (hlss5) (by rintro _ rfl; rfl) ?_; rintro _ rfl) | fail)
                      refine awpI_while (σ := Nat) (fun x => x) (fun x => x ≤ j3 ∧ Pt a b i4 x p l3) (fun x => [(11, .v (.int .i64 x))]) (fun _ => []) [0, 1, 10, 100000] [0] j3 _ (Weak.refl _) ⟨Nat.le_refl _, hPNi4⟩ ?_ ?_ ?_
                      · simp only [go_sem, hs2, hs3, hs4, hs5, Ret_eq Try.results183]
                      · simp only [go_sem, hs2, hs3, hs4, hs5, Ret_eq Try.results183]
                      · rintro j4 s6 ⟨hges6, hPNi4j4⟩ hs6
                        simp only [go_sem, hs2, hs3, hs4, hs5, Ret_eq Try.results183] at hs6
                        have his6 := hPNi4j4.hi
                        have hjs6 := hPNi4j4.hj
                        have hijs6 := hPNi4j4.hij
                        have has6 := hPNi4j4.ha
                        have hlss6 := lessS16_fun (l3.getD j4 0) p
                        by_cases qs6 : i4 ≤ j4
                        · have ejs6 : (j4 : Int) - 1 = ((j4 - 1 : Nat) : Int) := by omega
                          by_cases rs6 : ¬ l3.getD j4 0 < p
                          · rw [decide_eq_false rs6] at hlss6
                            repeat' (first | simp only [go_sem, hs2, hs3, hs4, hs5, hs6, hL, has6, ejs6, Ret_eq Try.results183] | simp (disch := omega) only [arith, IntKind.bits, capMax, fill_len, elt_fill] | (refine awpI_draw2 (id := 15) (.one false 0 (.one false 1 (.one false 2 (.one false 3 (.one false 4 (.one false 5 (.one false 6 (.one false 7 (.one false 8 (.one false 9 (.one false 10 (.one false 11 (.only 12 (.one false 13 (.one false 14 .done))))))))))))))) mixed (by decide +kernel) (by decide +kernel) ?_) | (refine opCallI_rd (by simp only [go_sem, hs2, hs3, hs4, hs5, hs6, hL, has6, ejs6, Ret_eq Try.results183]; first | done | rfl) (hlss6) (by rintro _ rfl; rfl) ?_; rintro _ rfl) | fail)
                            all_goals
                              refine AgainW.to (j4 - 1) ?_ ?_ ?_
                              · show j4 - 1 < j4; omega
                              · exact ⟨by show j4 - 1 ≤ j3; omega, hPNi4j4.down qs6 (by omega)⟩
                              · simp only [go_sem, hs2, hs3, hs4, hs5, hs6, hL, has6, Ret_eq Try.results183]
                          · rw [decide_eq_true (Classical.not_not.1 rs6)] at hlss6
                            have xs6 : l3.getD j4 0 < p := by omega
                            have hlt : l3.getD j4 0 < p := xs6
                            have ej : (j4 : Int) - 1 = ((j4 - 1 : Nat) : Int) := by omega
                            have e5 : (l3.set i4 (l3.getD j4 0)).set j4 (l3.getD i4 0) = sw l3 i4 j4 := rfl
                            have e6 : (l3.set i4 (l3.getD j4 0)).length = l3.length := List.length_set
                            repeat' (first | simp only [go_sem, hs2, hs3, hs4, hs5, hs6, hL, has6, ej, e5, List.length_set, Ret_eq Try.results183] | simp (disch := omega) only [arith, IntKind.bits, capMax, fill_len, elt_fill] | (refine awpI_draw2 (id := 15) (.one false 0 (.one false 1 (.one false 2 (.one false 3 (.one false 4 (.one false 5 (.one false 6 (.one false 7 (.one false 8 (.one false 9 (.one false 10 (.one false 11 (.only 12 (.one false 13 (.one false 14 .done))))))))))))))) mixed (by decide +kernel) (by decide +kernel) ?_) | (refine awpI_draw2 (id := 18) (.one false 0 (.one false 1 (.one false 4 (.one false 5 (.one false 6 (.one false 7 (.one false 8 (.one false 9 (.one false 10 (.one false 11 (.one false 12 (.mv 2 (.mv 3 (.only 13 (.one false 14 (.only 15 .done)))))))))))))))) mixed (by decide +kernel) (by decide +kernel) ?_) | (refine opCallI_rd (by simp only [go_sem, hs2, hs3, hs4, hs5, hs6, hL, has6, ej, e5, List.length_set, Ret_eq Try.results183]; first | done | rfl) (hlss6) (by rintro _ rfl; rfl) ?_; rintro _ rfl) | fail)
                            all_goals
                              refine AgainW.to (i4 + 1, j4 - 1, sw l3 i4 j4) ?_ ?_ ?_
                              · show j4 - 1 + 1 - (i4 + 1) < j3 + 1 - i3; omega
                              · exact ⟨.step i4 j4 hsw3 ⟨by omega, by omega⟩ ⟨by omega, by omega⟩ (by omega), hPNi4j4.swap (by omega) (by omega) (by omega) (by omega)⟩
                              · simp only [go_sem, hs2, hs3, hs4, hs5, hs6, Ret_eq Try.results183]
                        · have w : j4 < i4 := by omega
                          have e5 : (l3.set j4 p).set a (l3.getD j4 0) = sw l3 j4 a := by unfold sw; rw [has6]
                          have e6 : (l3.set j4 p).length = l3.length := List.length_set
                          repeat' (first | simp only [go_sem, hs2, hs3, hs4, hs5, hs6, hL, has6, e5, List.length_set, Ret_eq Try.results183] | simp (disch := omega) only [arith, IntKind.bits, capMax, fill_len, elt_fill] | refine RetL_calc Try.results183 rfl ?_ | (refine awpI_draw2 (id := 15) (.one false 0 (.one false 1 (.one false 2 (.one false 3 (.one false 4 (.one false 5 (.one false 6 (.one false 7 (.one false 8 (.one false 9 (.one false 10 (.one false 11 (.only 12 (.one false 13 (.one false 14 .done))))))))))))))) mixed (by decide +kernel) (by decide +kernel) ?_) | (refine awpI_draw2 (id := 21) (.one false 0 (.one false 1 (.one false 4 (.one false 5 (.one false 6 (.one false 7 (.one false 8 (.one false 9 (.one false 10 (.one false 11 (.one false 12 (.mv 2 (.mv 3 (.only 13 (.one false 14 (.only 15 .done)))))))))))))))) mixed (by decide +kernel) (by decide +kernel) ?_) | fail)
                          all_goals exact ⟨j4, _, rfl, sw l3 j4 a, rfl, .step j4 a hsw3 ⟨by omega, by omega⟩ ⟨Nat.le_refl _, by omega⟩ (by omega), hPNi4j4.fin w (by omega)⟩
                  · have xs5 : j3 < i4 ∨ p ≤ l3.getD i4 0 := .inl (by omega)
                    repeat' (first | simp only [go_sem, hs2, hs3, hs4, hs5, hL, has5, Ret_eq Try.results183] | simp (disch := omega) only [arith, IntKind.bits, capMax, fill_len, elt_fill] | (refine awpI_draw2 (id := 13) (.one false 0 (.one false 1 (.one false 2 (.one false 3 (.one false 4 (.one false 5 (.one false 6 (.one false 7 (.one false 8 (.one false 9 (.one false 10 (.one false 11 (.only 12 (.one false 13 .done)))))))))))))) mixed (by decide +kernel) (by decide +kernel) ?_) | fail)
                    refine awpI_while (σ := Nat) (fun x => x) (fun x => x ≤ j3 ∧ Pt a b i4 x p l3) (fun x => [(11, .v (.int .i64 x))]) (fun _ => []) [0, 1, 10, 100000] [0] j3 _ (Weak.refl _) ⟨Nat.le_refl _, hPNi4⟩ ?_ ?_ ?_
                    · simp only [go_sem, hs2, hs3, hs4, hs5, Ret_eq Try.results183]
                    · simp only [go_sem, hs2, hs3, hs4, hs5, Ret_eq Try.results183]
                    · rintro j4 s6 ⟨hges6, hPNi4j4⟩ hs6
                      simp only [go_sem, hs2, hs3, hs4, hs5, Ret_eq Try.results183] at hs6
                      have his6 := hPNi4j4.hi
                      have hjs6 := hPNi4j4.hj
                      have hijs6 := hPNi4j4.hij
                      have has6 := hPNi4j4.ha
                      have hlss6 := lessS16_fun (l3.getD j4 0) p
                      by_cases qs6 : i4 ≤ j4
                      · exact absurd qs6 (by omega)
                      · have w : j4 < i4 := by omega
                        have e5 : (l3.set j4 p).set a (l3.getD j4 0) = sw l3 j4 a := by unfold sw; rw [has6]
                        have e6 : (l3.set j4 p).length = l3.length := List.length_set
                        repeat' (first | simp only [go_sem, hs2, hs3, hs4, hs5, hs6, hL, has6, e5, List.length_set, Ret_eq Try.results183] | simp (disch := omega) only [arith, IntKind.bits, capMax, fill_len, elt_fill] | refine RetL_calc Try.results183 rfl ?_ | (refine awpI_draw2 (id := 15) (.one false 0 (.one false 1 (.one false 2 (.one false 3 (.one false 4 (.one false 5 (.one false 6 (.one false 7 (.one false 8 (.one false 9 (.one false 10 (.one false 11 (.only 12 (.one false 13 (.one false 14 .done))))))))))))))) mixed (by decide +kernel) (by decide +kernel) ?_) | (refine awpI_draw2 (id := 21) (.one false 0 (.one false 1 (.one false 4 (.one false 5 (.one false 6 (.one false 7 (.one false 8 (.one false 9 (.one false 10 (.one false 11 (.one false 12 (.mv 2 (.mv 3 (.only 13 (.one false 14 (.only 15 .done)))))))))))))))) mixed (by decide +kernel) (by decide +kernel) ?_) | fail)
                        all_goals exact ⟨j4, _, rfl, sw l3 j4 a, rfl, .step j4 a hsw3 ⟨by omega, by omega⟩ ⟨Nat.le_refl _, by omega⟩ (by omega), hPNi4j4.fin w (by omega)⟩
          · have w : j2 < i2 := by omega
            have e5 : (l0.set j2 p).set a (l0.getD j2 0) = sw l0 j2 a := by unfold sw; rw [has3]
            have e6 : (l0.set j2 p).length = l0.length := List.length_set
            repeat' (first | simp only [go_sem, hs2, hs3, hL, has3, e5, List.length_set, Ret_eq Try.results183] | simp (disch := omega) only [arith, IntKind.bits, capMax, fill_len, elt_fill] | refine RetL_calc Try.results183 rfl ?_ | (refine awpI_draw2 (id := 5) (.one false 0 (.one false 1 (.one false 2 (.one false 3 (.one false 4 (.one false 5 (.one false 6 (.one false 7 (.one false 8 (.one false 9 (.one false 10 (.one false 11 (.only 12 (.one false 13 (.one false 14 .done))))))))))))))) mixed (by decide +kernel) (by decide +kernel) ?_) | (refine awpI_draw2 (id := 8) (.one false 0 (.one false 1 (.one false 4 (.one false 5 (.one false 6 (.one false 7 (.one false 8 (.one false 9 (.one false 10 (.one false 11 (.one false 12 (.mv 2 (.mv 3 (.only 13 (.one false 14 (.only 15 .done)))))))))))))))) mixed (by decide +kernel) (by decide +kernel) ?_) | fail)
            all_goals exact ⟨j2, _, rfl, sw l0 j2 a, rfl, .step j2 a hsw0 ⟨by omega, by omega⟩ ⟨Nat.le_refl _, by omega⟩ (by omega), hPi2j2.fin w (by omega)⟩
    · have xs2 : (b - 1) < i2 ∨ p ≤ l0.getD i2 0 := .inl (by omega)
      repeat' (first | simp only [go_sem, hs2, hL, has2, Ret_eq Try.results183] | simp (disch := omega) only [arith, IntKind.bits, capMax, fill_len, elt_fill] | (refine awpI_draw2 (id := 3) (.one false 0 (.one false 1 (.one false 2 (.one false 3 (.one false 4 (.one false 5 (.one false 6 (.one false 7 (.one false 8 (.one false 9 (.one false 10 (.one false 11 (.only 12 (.one false 13 .done)))))))))))))) mixed (by decide +kernel) (by decide +kernel) ?_) | fail)
      refine awpI_while (σ := Nat) (fun x => x) (fun x => x ≤ (b - 1) ∧ Pt a b i2 x p l0) (fun x => [(11, .v (.int .i64 x))]) (fun _ => []) [0, 1, 10, 100000] [0] (b - 1) _ (Weak.refl _) ⟨Nat.le_refl _, hPi2⟩ ?_ ?_ ?_
      · simp only [go_sem, hs2, Ret_eq Try.results183]
      · simp only [go_sem, hs2, Ret_eq Try.results183]
      · rintro j2 s3 ⟨hges3, hPi2j2⟩ hs3
        simp only [go_sem, hs2, Ret_eq Try.results183] at hs3
        have his3 := hPi2j2.hi
        have hjs3 := hPi2j2.hj
        have hijs3 := hPi2j2.hij
        have has3 := hPi2j2.ha
        have hlss3 := lessS16_fun (l0.getD j2 0) p
        by_cases qs3 : i2 ≤ j2
        · exact absurd qs3 (by omega)
        · have w : j2 < i2 := by omega
          have e5 : (l0.set j2 p).set a (l0.getD j2 0) = sw l0 j2 a := by unfold sw; rw [has3]
          have e6 : (l0.set j2 p).length = l0.length := List.length_set
          repeat' (first | simp only [go_sem, hs2, hs3, hL, has3, e5, List.length_set, Ret_eq Try.results183] | simp (disch := omega) only [arith, IntKind.bits, capMax, fill_len, elt_fill] | refine RetL_calc Try.results183 rfl ?_ | (refine awpI_draw2 (id := 5) (.one false 0 (.one false 1 (.one false 2 (.one false 3 (.one false 4 (.one false 5 (.one false 6 (.one false 7 (.one false 8 (.one false 9 (.one false 10 (.one false 11 (.only 12 (.one false 13 (.one false 14 .done))))))))))))))) mixed (by decide +kernel) (by decide +kernel) ?_) | (refine awpI_draw2 (id := 8) (.one false 0 (.one false 1 (.one false 4 (.one false 5 (.one false 6 (.one false 7 (.one false 8 (.one false 9 (.one false 10 (.one false 11 (.one false 12 (.mv 2 (.mv 3 (.only 13 (.one false 14 (.only 15 .done)))))))))))))))) mixed (by decide +kernel) (by decide +kernel) ?_) | fail)
          all_goals exact ⟨j2, _, rfl, sw l0 j2 a, rfl, .step j2 a hsw0 ⟨by omega, by omega⟩ ⟨Nat.le_refl _, by omega⟩ (by omega), hPi2j2.fin w (by omega)⟩
end Go.Proofs.Ytpkampecmlpfmaa.T

end
section
set_option linter.unusedSimpArgs false
set_option linter.unusedVariables false
/- How many bits a number has, and what comes of it; walked. -/
namespace Go.Proofs.Ytpkampecmlpfmaa.T
open Go Go.VL Go.Proofs
set_option maxRecDepth 100000
set_option maxHeartbeats 4000000
def len8 (k : Nat) : Nat := if k = 0 then 0 else Nat.log2 k + 1
theorem len8_lt (k : Nat) : k < 2 ^ len8 k := by
  unfold len8
  split
  · rename_i h; rw [h]; decide
  · exact Nat.lt_log2_self
theorem len8_le {k : Nat} (h : 1 ≤ k) : 2 ^ len8 k ≤ 2 * k := by
  unfold len8
  rw [if_neg (by omega), Nat.pow_succ]
  have := Nat.log2_self_le (show k ≠ 0 by omega)
  omega
theorem len64_raw (x : Int) (hx : 0 ≤ x ∧ x < 65536) (w : World) : Calls Try.prog 172 #[.int .u64 x] w fun e w' => (∃ n : Nat, e = .returned (.int .i64 n) ∧ n ≤ 16 ∧ x < 2 ^ n ∧ (1 ≤ x → (2 : Int) ^ n ≤ 2 * x)) ∧ w' = w := by
  go_enter Try.func172, Try.ntmps172
  go_wp2
  · go_ret
    refine ⟨⟨8 + len8 (x / 256).toNat, ?_, ?_⟩, rfl⟩
    · show Ending.returned (Value.int .i64 (RowKit.wrap64 (8 + RowKit.wrap64 (((_ : UInt8).toNat : Nat) : Int)))) = _
      rw [← getElem!_pos]
      have hk : (x / 256).toNat < 256 := by omega
      generalize (x / 256).toNat = k at *
      congr 2
      clear hx
      revert k
      decide +kernel
    · have h1 := len8_lt (x / 256).toNat
      have h2 := len8_le (k := (x / 256).toNat) (by omega)
      generalize hm : len8 (x / 256).toNat = m at *
      have h3 : m ≤ 8 := by
        refine Nat.not_lt.1 fun q => ?_
        have : 2 ^ 9 ≤ 2 ^ m := Nat.pow_le_pow_right (by decide) q
        omega
      have e : (2 : Int) ^ (8 + m) = 256 * ((2 ^ m : Nat) : Int) := by rw [Int.pow_add]; norm_cast
      rw [e]
      refine ⟨by omega, by omega, fun _ => by omega⟩
  · go_ret
    refine ⟨⟨len8 x.toNat, ?_, ?_⟩, rfl⟩
    · show Ending.returned (Value.int .i64 (RowKit.wrap64 (RowKit.wrap64 (((_ : UInt8).toNat : Nat) : Int)))) = _
      rw [← getElem!_pos]
      have hk : x.toNat < 256 := by omega
      generalize x.toNat = k at *
      congr 2
      clear hx
      revert k
      decide +kernel
    · have h1 := len8_lt x.toNat
      have h2 := len8_le (k := x.toNat)
      generalize hm : len8 x.toNat = m at *
      have e : (2 : Int) ^ m = ((2 ^ m : Nat) : Int) := by norm_cast
      rw [e]
      refine ⟨?_, by omega, fun q => by have := h2 (by omega); omega⟩
      by_cases z : 1 ≤ x.toNat
      · refine Nat.not_lt.1 fun q => ?_
        have : 2 ^ 17 ≤ 2 ^ m := Nat.pow_le_pow_right (by decide) q
        have := h2 z
        omega
      · have : x.toNat = 0 := by omega
        rw [← hm, this]; decide
theorem len64_fun (x : Int) (hx : 0 ≤ x ∧ x < 65536) : Fun Try.prog 172 [.v (.int .u64 x)] fun r => ∃ n : Nat, r = .v (.int .i64 n) ∧ n ≤ 16 ∧ x < 2 ^ n ∧ (1 ≤ x → (2 : Int) ^ n ≤ 2 * x) := by
  refine ⟨by decide +kernel, fun J w vs hJ hG hv => ?_⟩
  obtain ⟨v, vs', rfl, hv1, hv2⟩ := hv
  have hv2 : vs' = [] := hv2
  subst hv2
  obtain ⟨rfl, _⟩ := hv1
  refine (len64_raw x hx w).mono ?_
  rintro e w' ⟨⟨n, rfl, h⟩, rfl⟩
  exact ⟨_, .v (.int .i64 n), rfl, ⟨n, rfl, h⟩, RowKit.Below.refl _ _, ⟨rfl, rfl⟩⟩

theorem bitsLen_fun (x : Int) (hx : 0 ≤ x ∧ x < 65536) : Fun Try.prog 145 [.v (.int .u64 x)] fun r => ∃ n : Nat, r = .v (.int .i64 n) ∧ n ≤ 16 ∧ x < 2 ^ n ∧ (1 ≤ x → (2 : Int) ^ n ≤ 2 * x) := by
  refine Fun.of_awpI Try.func145 rfl cal145 Try.ntmps145 (by simp) fun hwf => ?_
  simp only [D.wfs, D.wf, ints_length, ints_wfs, rows_length, rows_wfs, capMax, and_true, true_and] at hwf
  repeat' (first | simp only [go_sem, Ret_eq Try.results145] | (refine opCallI_gv (by simp only [go_sem, Ret_eq Try.results145]; first | done | rfl) (len64_fun x hx) ?_; rintro _ ⟨n, rfl, hn⟩) | fail)
  exact ⟨n, rfl, hn⟩

theorem nextPow_fun (k : Nat) (hk : 1 ≤ k ∧ k < 65536) : Fun Try.prog 185 [.v (.int .i64 k)] fun r => ∃ n : Nat, r = .v (.int .u64 ((2 ^ n : Nat) : Int)) ∧ n ≤ 16 ∧ 2 ^ n ≤ 2 * k := by
  refine Fun.of_awpI Try.func185 rfl cal185 Try.ntmps185 (by simp) fun hwf => ?_
  simp only [D.wfs, D.wf, ints_length, ints_wfs, rows_length, rows_wfs, capMax, and_true, true_and] at hwf
  repeat' (first | simp only [go_sem, Ret_eq Try.results185] | simp (disch := omega) only [arith, IntKind.bits, capMax, fill_len, elt_fill] | (refine opCallI_gv (by simp only [go_sem, Ret_eq Try.results185]; first | done | rfl) (bitsLen_fun k (by omega)) ?_; rintro _ ⟨n, rfl, hn⟩) | fail)
  exact ⟨n, by rw [Int.one_mul]; norm_cast, hn.1, by have := hn.2.2 (by omega); exact_mod_cast this⟩
abbrev boxX (x : Int) : Own := ⟨197, 1, [.v (.int .u64 x)]⟩

theorem next_sh (x : Int) : FunL Try.prog 186 [.adr 0 0 0] [boxX x] fun r os => ∃ y : Int, r = .v (.int .u64 y) ∧ os = [boxX y] := by
  refine FunL.of_awpI [(100000, 0)] rfl Try.func186 rfl cal186 Try.ntmps186 (by simp) fun hwf hlw ls => ?_
  simp only [lentWf, D.wfs, D.wf, ints_length, ints_wfs, rows_length, rows_wfs, capMax, and_true, true_and] at hwf hlw
  repeat' (first | simp only [go_sem, Ret_eq Try.results186] | simp (disch := omega) only [arith, IntKind.bits, capMax, fill_len, elt_fill] | refine RetL_calc Try.results186 rfl ?_ | (refine awpI_draw2 (id := 1) (.one false 0 (.one false 1 (.one false 2 (.one false 3 (.one false 4 (.one false 5 (.one false 6 (.one false 7 (.one false 8 (.only 9 .done)))))))))) mixed (by decide +kernel) (by decide +kernel) ?_) | (refine awpI_draw2 (id := 2) (.one false 0 (.one false 1 (.one false 2 (.one false 3 (.one false 4 (.one false 5 (.one false 6 (.one false 7 (.one false 8 (.only 9 .done)))))))))) mixed (by decide +kernel) (by decide +kernel) ?_) | (refine awpI_draw2 (id := 3) (.one false 0 (.one false 1 (.one false 2 (.one false 3 (.one false 4 (.one false 5 (.one false 6 (.one false 7 (.one false 8 (.only 9 .done)))))))))) mixed (by decide +kernel) (by decide +kernel) ?_) | fail)
  exact ⟨_, rfl, rfl⟩
theorem and_low (y : Int) {n : Nat} (hn : n ≤ 16) : ∃ k : Nat, abits .and .u64 y (((2 ^ n : Nat) : Int) - 1) = k ∧ k < 2 ^ n := by
  have h1 : 2 ^ n ≤ 2 ^ 16 := Nat.pow_le_pow_right (by decide) hn
  have h0 : 1 ≤ 2 ^ n := Nat.one_le_two_pow
  have e : ((2 ^ n : Nat) : Int) - 1 = ((2 ^ n - 1 : Nat) : Int) := by omega
  rw [e]
  simp only [abits]
  have e2 : BitVec.ofInt IntKind.u64.bits ((2 ^ n - 1 : Nat) : Int) = BitVec.ofNat 64 (2 ^ n - 1) := by simp [IntKind.bits]
  rw [e2]
  show ∃ k : Nat, IntKind.u64.wrap ((BitVec.ofInt 64 y &&& BitVec.ofNat 64 (2 ^ n - 1)).toNat : Int) = k ∧ k < 2 ^ n
  have h2 : (BitVec.ofInt 64 y &&& BitVec.ofNat 64 (2 ^ n - 1)).toNat ≤ 2 ^ n - 1 := by
    rw [BitVec.toNat_and]
    refine Nat.le_trans Nat.and_le_right ?_
    rw [BitVec.toNat_ofNat]
    exact Nat.mod_le _ _
  generalize (BitVec.ofInt 64 y &&& BitVec.ofNat 64 (2 ^ n - 1)).toNat = B at *
  refine ⟨B, ?_, by omega⟩
  rw [IntKind.wrap_u64]; omega
end Go.Proofs.Ytpkampecmlpfmaa.T

end
section
set_option linter.unusedSimpArgs false
set_option linter.unusedVariables false
/- Patterns broken; walked. -/
namespace Go.Proofs.Ytpkampecmlpfmaa.T
open Go Go.VL Go.Proofs
set_option maxRecDepth 100000
set_option maxHeartbeats 8000000

theorem break16 (l : List Int) (a b : Nat) (hab : a ≤ b) (hb : b ≤ l.length) (hl : l.length ≤ 60000) : FunL Try.prog 178 [.ref 0 l.length, .v (.int .i64 a), .v (.int .i64 b)] [own16 l] fun r os =>
    r = .tup [] ∧ ∃ l', os = [own16 l'] ∧ Sw a b l l' := by
  refine FunL.of_awpI [(100000, 0)] rfl Try.func178 rfl cal178 Try.ntmps178 (by simp) fun hwf hlw ls => ?_
  simp only [lentWf, D.wfs, D.wf, ints_length, ints_wfs, rows_length, rows_wfs, capMax, and_true, true_and] at hwf hlw
  obtain ⟨m, rfl⟩ : ∃ m, b = a + m := ⟨b - a, by omega⟩
  have e0 : ((a + m : Nat) : Int) - (a : Int) = ((m : Nat) : Int) := by omega
  by_cases h8 : 8 ≤ m
  · have e1 : ((m : Nat) : Int).tdiv 4 = ((m / 4 : Nat) : Int) := by rw [Int.tdiv_eq_ediv_of_nonneg (by omega)]; omega
    have e2 : (a : Int) + ((m / 4 : Nat) : Int) * 2 = ((a + m / 4 * 2 : Nat) : Int) := by omega
    have e3 : ((a + m / 4 * 2 : Nat) : Int) - 1 = ((a + m / 4 * 2 - 1 : Nat) : Int) := by omega
    have hnp := nextPow_fun m (by omega)
    repeat' (first | simp only [go_sem, e0, e1, e2, e3, Ret_eq Try.results178] | simp (disch := omega) only [arith, IntKind.bits, capMax, fill_len, elt_fill] | (refine opCallI_gv (by simp only [go_sem, e0, e1, e2, e3, Ret_eq Try.results178]; first | done | rfl) (hnp) ?_; rintro _ ⟨n, rfl, hn⟩) | fail)
    obtain ⟨hn1, hn2⟩ := hn
    have hpow : 1 ≤ 2 ^ n := Nat.one_le_two_pow
    refine awpI_while (σ := Nat × Int × List Int) (fun x => a + m / 4 * 2 + 2 - x.1) (fun x => (a ≤ x.1 ∧ x.1 ≤ a + m / 4 * 2 + 2) ∧ Sw a (a + m) l x.2.2) (fun x => [(9, .v (.int .i64 x.1))]) (fun x => [(0, own16 x.2.2), (7, boxX x.2.1)]) [0, 1, 6, 7, 8, 100000] [] (a + m / 4 * 2 - 1, (m : Int), l) _ (Weak.refl _) ⟨⟨by show a ≤ a + m / 4 * 2 - 1; omega, by show a + m / 4 * 2 - 1 ≤ _; omega⟩, .refl _⟩ ?_ ?_ ?_
    · simp only [go_sem, Ret_eq Try.results178]
      all_goals omega
    · simp only [go_sem, Ret_eq Try.results178]
    · rintro ⟨i, x, l1⟩ s ⟨⟨hi1, hi2⟩, hsw⟩ hs
      simp only [go_sem, Ret_eq Try.results178] at hs
      dsimp only at hi1 hi2 hsw
      have hl1 := hsw.length
      have e4 : ((a + m / 4 * 2 : Nat) : Int) + 1 = ((a + m / 4 * 2 + 1 : Nat) : Int) := by omega
      by_cases hi : i ≤ a + m / 4 * 2 + 1
      · repeat' (first | simp only [go_sem, hs, e0, e1, e2, e4, Ret_eq Try.results178] | simp (disch := omega) only [arith, IntKind.bits, capMax, fill_len, elt_fill] | fail)
        refine opCallI_lend [7] (by simp only [go_sem, hs, Ret_eq Try.results178]; first | done | rfl) (by simp only [go_sem, hs, Ret_eq Try.results178]; first | done | rfl) (by decide) (by simp only [go_sem, hs, Ret_eq Try.results178]; first | done | decide) (by simp only [go_sem, hs, Ret_eq Try.results178]; first | done | decide) (next_sh x) ?_
        rintro _ _ ⟨y, rfl, rfl⟩
        obtain ⟨k, hk, hk2⟩ := and_low y hn1
        by_cases hkm : m ≤ k
        · have e6 : (k : Int) - (m : Int) = ((k - m : Nat) : Int) := by omega
          have e7 : (a : Int) + ((k - m : Nat) : Int) = ((a + (k - m) : Nat) : Int) := by omega
          have e8 : (l1.set i (l1.getD (a + (k - m)) 0)).set (a + (k - m)) (l1.getD i 0) = sw l1 i (a + (k - m)) := rfl
          have e9 : (l1.set i (l1.getD (a + (k - m)) 0)).length = l1.length := List.length_set
          repeat' (first | simp only [go_sem, hs, e0, e1, e2, e4, hk, e6, e7, e8, List.length_set, Ret_eq Try.results178] | simp (disch := omega) only [arith, IntKind.bits, capMax, fill_len, elt_fill] | (refine awpI_draw2 (id := 10) (.one false 0 (.one false 1 (.one false 6 (.one false 7 (.one false 8 (.one false 9 (.one false 10 (.one false 11 (.one false 12 (.one false 13 (.one false 14 (.one false 15 (.one false 16 (.mv 2 (.mv 3 (.mv 4 (.cal 5 [17] (.only 17 (.one false 18 (.only 19 .done)))))))))))))))))))) mixed (by decide +kernel) (by decide +kernel) ?_) | fail)
          all_goals
            refine AgainW.to (i + 1, y, sw l1 i (a + (k - m))) ?_ ?_ ?_
            · show a + m / 4 * 2 + 2 - (i + 1) < a + m / 4 * 2 + 2 - i; omega
            · exact ⟨⟨by show a ≤ i + 1; omega, by show i + 1 ≤ _; omega⟩, .step _ _ hsw ⟨by omega, by omega⟩ ⟨by omega, by omega⟩ (by omega)⟩
            · simp only [go_sem, hs, Ret_eq Try.results178]
        · have e7 : (a : Int) + (k : Int) = ((a + k : Nat) : Int) := by omega
          have e8 : (l1.set i (l1.getD (a + k) 0)).set (a + k) (l1.getD i 0) = sw l1 i (a + k) := rfl
          have e9 : (l1.set i (l1.getD (a + k) 0)).length = l1.length := List.length_set
          repeat' (first | simp only [go_sem, hs, e0, e1, e2, e4, hk, e7, e8, List.length_set, Ret_eq Try.results178] | simp (disch := omega) only [arith, IntKind.bits, capMax, fill_len, elt_fill] | (refine awpI_draw2 (id := 10) (.one false 0 (.one false 1 (.one false 6 (.one false 7 (.one false 8 (.one false 9 (.one false 10 (.one false 11 (.one false 12 (.one false 13 (.one false 14 (.one false 15 (.one false 16 (.mv 2 (.mv 3 (.mv 4 (.cal 5 [17] (.only 17 (.one false 18 (.only 19 .done)))))))))))))))))))) mixed (by decide +kernel) (by decide +kernel) ?_) | fail)
          all_goals
            refine AgainW.to (i + 1, y, sw l1 i (a + k)) ?_ ?_ ?_
            · show a + m / 4 * 2 + 2 - (i + 1) < a + m / 4 * 2 + 2 - i; omega
            · exact ⟨⟨by show a ≤ i + 1; omega, by show i + 1 ≤ _; omega⟩, .step _ _ hsw ⟨by omega, by omega⟩ ⟨by omega, by omega⟩ (by omega)⟩
            · simp only [go_sem, hs, Ret_eq Try.results178]
      · repeat' (first | simp only [go_sem, hs, e0, e1, e2, e4, Ret_eq Try.results178] | simp (disch := omega) only [arith, IntKind.bits, capMax, fill_len, elt_fill] | refine RetL_calc Try.results178 rfl ?_ | fail)
        all_goals exact ⟨rfl, l1, rfl, hsw⟩
  · repeat' (first | simp only [go_sem, e0, Ret_eq Try.results178] | simp (disch := omega) only [arith, IntKind.bits, capMax, fill_len, elt_fill] | refine RetL_calc Try.results178 rfl ?_ | fail)
    all_goals exact ⟨rfl, l, rfl, .refl _⟩
end Go.Proofs.Ytpkampecmlpfmaa.T

end
section
set_option linter.unusedSimpArgs false
set_option linter.unusedVariables false
/- By what a list is parted; walked. -/
namespace Go.Proofs.Ytpkampecmlpfmaa.T
open Go Go.VL Go.Proofs
set_option maxRecDepth 100000
set_option maxHeartbeats 8000000
abbrev boxN16 (c : Int) : Own := ⟨3, 1, [.v (.int .i64 c)]⟩

theorem order216 (l : List Int) (a b : Nat) (c : Int) (ha : a < l.length) (hb : b < l.length) (hl : l.length ≤ 60000) : FunL Try.prog 194 [.ref 0 l.length, .v (.int .i64 a), .v (.int .i64 b), .adr 1 0 0] [own16 l, boxN16 c] fun r os =>
    ∃ (x y : Nat) (d : Int), r = .tup [.v (.int .i64 x), .v (.int .i64 y)] ∧ os = [own16 l, boxN16 d] ∧ (x = a ∨ x = b) ∧ (y = a ∨ y = b) := by
  refine FunL.of_awpI [(100000, 0), (100001, 1)] rfl Try.func194 rfl cal194 Try.ntmps194 (by simp) fun hwf hlw ls => ?_
  simp only [lentWf, D.wfs, D.wf, ints_length, ints_wfs, rows_length, rows_wfs, capMax, and_true, true_and] at hwf hlw
  have hls := lessS16_fun (l.getD b 0) (l.getD a 0)
  by_cases h : l.getD b 0 < l.getD a 0
  · rw [decide_eq_true h] at hls
    repeat' (first | simp only [go_sem, Ret_eq Try.results194] | simp (disch := omega) only [arith, IntKind.bits, capMax, fill_len, elt_fill] | refine RetL_calc Try.results194 rfl ?_ | (refine awpI_draw2 (id := 1) (.one false 0 (.one false 1 (.one false 2 (.one false 3 (.one false 4 (.one false 5 (.one false 6 (.one false 7 (.only 8 .done))))))))) mixed (by decide +kernel) (by decide +kernel) ?_) | (refine opCallI_rd (by simp only [go_sem, Ret_eq Try.results194]; first | done | rfl) (hls) (by rintro _ rfl; rfl) ?_; rintro _ rfl) | fail)
    all_goals exact ⟨b, a, _, rfl, rfl, .inr rfl, .inl rfl⟩
  · rw [decide_eq_false h] at hls
    repeat' (first | simp only [go_sem, Ret_eq Try.results194] | simp (disch := omega) only [arith, IntKind.bits, capMax, fill_len, elt_fill] | refine RetL_calc Try.results194 rfl ?_ | (refine awpI_draw2 (id := 1) (.one false 0 (.one false 1 (.one false 2 (.one false 3 (.one false 4 (.one false 5 (.one false 6 (.one false 7 (.only 8 .done))))))))) mixed (by decide +kernel) (by decide +kernel) ?_) | (refine opCallI_rd (by simp only [go_sem, Ret_eq Try.results194]; first | done | rfl) (hls) (by rintro _ rfl; rfl) ?_; rintro _ rfl) | fail)
    all_goals exact ⟨a, b, _, rfl, rfl, .inl rfl, .inr rfl⟩

theorem median16 (l : List Int) (a b c : Nat) (n : Int) (ha : a < l.length) (hb : b < l.length) (hc : c < l.length) (hl : l.length ≤ 60000) : FunL Try.prog 192 [.ref 0 l.length, .v (.int .i64 a), .v (.int .i64 b), .v (.int .i64 c), .adr 1 0 0] [own16 l, boxN16 n] fun r os =>
    ∃ (x : Nat) (d : Int), r = .v (.int .i64 x) ∧ os = [own16 l, boxN16 d] ∧ (x = a ∨ x = b ∨ x = c) := by
  refine FunL.of_awpI [(100000, 0), (100001, 1)] rfl Try.func192 rfl cal192 Try.ntmps192 (by simp) fun hwf hlw ls => ?_
  simp only [lentWf, D.wfs, D.wf, ints_length, ints_wfs, rows_length, rows_wfs, capMax, and_true, true_and] at hwf hlw
  repeat' (first | simp only [go_sem, Ret_eq Try.results192] | (refine opCallI_lend [0,1] (by simp only [go_sem, Ret_eq Try.results192]; first | done | rfl) (by simp only [go_sem, Ret_eq Try.results192]; first | done | rfl) (by decide) (by simp only [go_sem, Ret_eq Try.results192]; first | done | decide) (by simp only [go_sem, Ret_eq Try.results192]; first | done | decide) (order216 l a b n ha hb hl) ?_; rintro _ _ ⟨x1, y1, d1, rfl, rfl, hx1, hy1⟩) | fail)
  have bx1 : x1 < l.length := by omega
  have by1 : y1 < l.length := by omega
  repeat' (first | simp only [go_sem, Ret_eq Try.results192] | (refine opCallI_lend [0,1] (by simp only [go_sem, Ret_eq Try.results192]; first | done | rfl) (by simp only [go_sem, Ret_eq Try.results192]; first | done | rfl) (by decide) (by simp only [go_sem, Ret_eq Try.results192]; first | done | decide) (by simp only [go_sem, Ret_eq Try.results192]; first | done | decide) (order216 l y1 c d1 by1 hc hl) ?_; rintro _ _ ⟨x2, y2, d2, rfl, rfl, hx2, hy2⟩) | fail)
  have bx2 : x2 < l.length := by omega
  repeat' (first | simp only [go_sem, Ret_eq Try.results192] | refine RetL_calc Try.results192 rfl ?_ | (refine opCallI_lend [0,1] (by simp only [go_sem, Ret_eq Try.results192]; first | done | rfl) (by simp only [go_sem, Ret_eq Try.results192]; first | done | rfl) (by decide) (by simp only [go_sem, Ret_eq Try.results192]; first | done | decide) (by simp only [go_sem, Ret_eq Try.results192]; first | done | decide) (order216 l x1 x2 d2 bx1 bx2 hl) ?_; rintro _ _ ⟨x3, y3, d3, rfl, rfl, hx3, hy3⟩) | fail)
  exact ⟨y3, d3, rfl, rfl, by omega⟩

theorem medAdj16 (l : List Int) (a : Nat) (n : Int) (h1 : 1 ≤ a) (ha : a + 1 < l.length) (hl : l.length ≤ 60000) : FunL Try.prog 191 [.ref 0 l.length, .v (.int .i64 a), .adr 1 0 0] [own16 l, boxN16 n] fun r os =>
    ∃ (x : Nat) (d : Int), r = .v (.int .i64 x) ∧ os = [own16 l, boxN16 d] ∧ (a ≤ x + 1 ∧ x ≤ a + 1) := by
  refine FunL.of_awpI [(100000, 0), (100001, 1)] rfl Try.func191 rfl cal191 Try.ntmps191 (by simp) fun hwf hlw ls => ?_
  simp only [lentWf, D.wfs, D.wf, ints_length, ints_wfs, rows_length, rows_wfs, capMax, and_true, true_and] at hwf hlw
  have e1 : (a : Int) - 1 = ((a - 1 : Nat) : Int) := by omega
  repeat' (first | simp only [go_sem, e1, Ret_eq Try.results191] | simp (disch := omega) only [arith, IntKind.bits, capMax, fill_len, elt_fill] | refine RetL_calc Try.results191 rfl ?_ | (refine opCallI_lend [0,1] (by simp only [go_sem, e1, Ret_eq Try.results191]; first | done | rfl) (by simp only [go_sem, e1, Ret_eq Try.results191]; first | done | rfl) (by decide) (by simp only [go_sem, e1, Ret_eq Try.results191]; first | done | decide) (by simp only [go_sem, e1, Ret_eq Try.results191]; first | done | decide) (median16 l (a - 1) a (a + 1) n (by omega) (by omega) ha hl) ?_; rintro _ _ ⟨x, d, rfl, rfl, hx⟩) | fail)
  exact ⟨x, d, rfl, rfl, by omega⟩

theorem choose16 (l : List Int) (a b : Nat) (hab : a + 8 ≤ b) (hb : b ≤ l.length) (hl : l.length ≤ 60000) : FunL Try.prog 179 [.ref 0 l.length, .v (.int .i64 a), .v (.int .i64 b)] [own16 l] fun r os =>
    ∃ (x : Nat) (h : Int), r = .tup [.v (.int .i64 x), .v (.int .i64 h)] ∧ os = [own16 l] ∧ a ≤ x ∧ x < b := by
  refine FunL.of_awpI [(100000, 0)] rfl Try.func179 rfl cal179 Try.ntmps179 (by simp) fun hwf hlw ls => ?_
  simp only [lentWf, D.wfs, D.wf, ints_length, ints_wfs, rows_length, rows_wfs, capMax, and_true, true_and] at hwf hlw
  obtain ⟨m, rfl⟩ : ∃ m, b = a + m := ⟨b - a, by omega⟩
  have e0 : ((a + m : Nat) : Int) - (a : Int) = ((m : Nat) : Int) := by omega
  have e1 : ((m : Nat) : Int).tdiv 4 = (m : Int) / 4 := Int.tdiv_eq_ediv_of_nonneg (by omega)
  have e2 : (a : Int) + (m : Int) / 4 * 1 = ((a + m / 4 : Nat) : Int) := by omega
  have e3 : (a : Int) + (m : Int) / 4 * 2 = ((a + m / 4 * 2 : Nat) : Int) := by omega
  have e4 : (a : Int) + (m : Int) / 4 * 3 = ((a + m / 4 * 3 : Nat) : Int) := by omega
  have key : ∀ (i j k : Nat) (d : Int), (a ≤ i ∧ i < a + m) → (a ≤ j ∧ j < a + m) → (a ≤ k ∧ k < a + m) → FunL Try.prog 192 [.ref 0 l.length, .v (.int .i64 i), .v (.int .i64 j), .v (.int .i64 k), .adr 1 0 0] [own16 l, boxN16 d] fun r os =>
      ∃ (x : Nat) (d : Int), r = .v (.int .i64 x) ∧ os = [own16 l, boxN16 d] ∧ (x = i ∨ x = j ∨ x = k) := fun i j k d h1 h2 h3 => median16 l i j k d (by omega) (by omega) (by omega) hl
  by_cases h50 : 50 ≤ m
  · repeat' (first | simp only [go_sem, e0, e1, e2, e3, e4, Ret_eq Try.results179] | simp (disch := omega) only [arith, IntKind.bits, capMax, fill_len, elt_fill] | (refine opCallI_lend [0,9] (by simp only [go_sem, e0, e1, e2, e3, e4, Ret_eq Try.results179]; first | done | rfl) (by simp only [go_sem, e0, e1, e2, e3, e4, Ret_eq Try.results179]; first | done | rfl) (by decide) (by simp only [go_sem, e0, e1, e2, e3, e4, Ret_eq Try.results179]; first | done | decide) (by simp only [go_sem, e0, e1, e2, e3, e4, Ret_eq Try.results179]; first | done | decide) (medAdj16 l (a + m / 4) 0 (by omega) (by omega) hl) ?_; rintro _ _ ⟨x1, d1, rfl, rfl, hx1⟩) | fail)
    repeat' (first | simp only [go_sem, e0, e1, e2, e3, e4, Ret_eq Try.results179] | (refine opCallI_lend [0,9] (by simp only [go_sem, e0, e1, e2, e3, e4, Ret_eq Try.results179]; first | done | rfl) (by simp only [go_sem, e0, e1, e2, e3, e4, Ret_eq Try.results179]; first | done | rfl) (by decide) (by simp only [go_sem, e0, e1, e2, e3, e4, Ret_eq Try.results179]; first | done | decide) (by simp only [go_sem, e0, e1, e2, e3, e4, Ret_eq Try.results179]; first | done | decide) (medAdj16 l (a + m / 4 * 2) d1 (by omega) (by omega) hl) ?_; rintro _ _ ⟨x2, d2, rfl, rfl, hx2⟩) | fail)
    repeat' (first | simp only [go_sem, e0, e1, e2, e3, e4, Ret_eq Try.results179] | (refine opCallI_lend [0,9] (by simp only [go_sem, e0, e1, e2, e3, e4, Ret_eq Try.results179]; first | done | rfl) (by simp only [go_sem, e0, e1, e2, e3, e4, Ret_eq Try.results179]; first | done | rfl) (by decide) (by simp only [go_sem, e0, e1, e2, e3, e4, Ret_eq Try.results179]; first | done | decide) (by simp only [go_sem, e0, e1, e2, e3, e4, Ret_eq Try.results179]; first | done | decide) (medAdj16 l (a + m / 4 * 3) d2 (by omega) (by omega) hl) ?_; rintro _ _ ⟨x3, d3, rfl, rfl, hx3⟩) | fail)
    repeat' (first | simp only [go_sem, e0, e1, e2, e3, e4, Ret_eq Try.results179] | (with_reducible refine condI_beq (fun hq hqb => ?_) (fun hq hqb => ?_) <;> simp only [KP_mk, hqb]) | refine RetL_calc Try.results179 rfl ?_ | (refine opCallI_lend [0,9] (by simp only [go_sem, e0, e1, e2, e3, e4, Ret_eq Try.results179]; first | done | rfl) (by simp only [go_sem, e0, e1, e2, e3, e4, Ret_eq Try.results179]; first | done | rfl) (by decide) (by simp only [go_sem, e0, e1, e2, e3, e4, Ret_eq Try.results179]; first | done | decide) (by simp only [go_sem, e0, e1, e2, e3, e4, Ret_eq Try.results179]; first | done | decide) (key x1 x2 x3 d3 (by omega) (by omega) (by omega)) ?_; rintro _ _ ⟨x, d, rfl, rfl, hx⟩) | fail)
    all_goals (refine ⟨x, _, rfl, ?_⟩; first | exact ⟨rfl, by omega, by omega⟩ | exact ⟨by omega, by omega⟩)
  · repeat' (first | simp only [go_sem, e0, e1, e2, e3, e4, Ret_eq Try.results179] | simp (disch := omega) only [arith, IntKind.bits, capMax, fill_len, elt_fill] | (with_reducible refine condI_beq (fun hq hqb => ?_) (fun hq hqb => ?_) <;> simp only [KP_mk, hqb]) | refine RetL_calc Try.results179 rfl ?_ | (refine opCallI_lend [0,9] (by simp only [go_sem, e0, e1, e2, e3, e4, Ret_eq Try.results179]; first | done | rfl) (by simp only [go_sem, e0, e1, e2, e3, e4, Ret_eq Try.results179]; first | done | rfl) (by decide) (by simp only [go_sem, e0, e1, e2, e3, e4, Ret_eq Try.results179]; first | done | decide) (by simp only [go_sem, e0, e1, e2, e3, e4, Ret_eq Try.results179]; first | done | decide) (key (a + m / 4) (a + m / 4 * 2) (a + m / 4 * 3) 0 (by omega) (by omega) (by omega)) ?_; rintro _ _ ⟨x, d, rfl, rfl, hx⟩) | fail)
    all_goals (refine ⟨x, _, rfl, ?_⟩; first | exact ⟨rfl, by omega, by omega⟩ | exact ⟨by omega, by omega⟩)
end Go.Proofs.Ytpkampecmlpfmaa.T

end
