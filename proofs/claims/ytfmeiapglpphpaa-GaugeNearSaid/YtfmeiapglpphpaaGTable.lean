import Derived.Test.YtfmeiapglpphpaaGRep
set_option linter.unusedSimpArgs false
set_option linter.unusedVariables false
/- The table, walked. -/
namespace Go.Proofs.Ytfmeiapglpphpaa.T
open Go Go.VL Go.Proofs
set_option maxRecDepth 100000
set_option maxHeartbeats 4000000
/-- The round's end, where an inner list is given up. -/
theorem Again.frz {n : Nat} {Q : Nat → Prop} {V : Nat → List (Nat × D)} {W : Nat → List (Nat × Own)} {keep hkeep : List Nat} {s0 : St} {k : Nat} {s : St} (id : Nat) (o : Own) (ho : s.H id = some o) (hn : D.noRefs o.els = true) (hw : o.els.all (fun d => d.width == o.S) = true) (h : k < n) (hQ : Q (k + 1))
    (hs : AtL V W keep hkeep s0 (k + 1) (s.frozen id (D.nrms o.els))) : @AgI s ⟨AgainW (fun k => n - k) (fun k => k ≤ n ∧ Q k) V W keep hkeep s0 k⟩ :=
  AgainW.weak (k + 1) (Weak.freeze ho hn hw) (by show n - (k + 1) < n - k; omega) ⟨h, hQ⟩ hs
def nils (m : Nat) : List D := List.replicate m (.v (.slice none 0 0))
def tab (A : List (List Int)) (m : Nat) : List D := rows .i64 A ++ nils m
def tabR (A : List (List Int)) (id len m : Nat) : List D := rows .i64 A ++ .ref id len :: nils m
theorem nils_length {m : Nat} : (nils m).length = m := by simp [nils]
theorem tab_zero {m : Nat} : List.replicate m (D.v (.slice none 0 0)) = tab [] m := by simp [tab, nils, rows]
theorem tab_length {A : List (List Int)} {m : Nat} : (tab A m).length = A.length + m := by simp [tab, nils, rows]
theorem tabR_length {A : List (List Int)} {id len m : Nat} : (tabR A id len m).length = A.length + (m + 1) := by simp [tabR, nils, rows]
theorem tab_get {A : List (List Int)} {m : Nat} : (tab A (m + 1))[A.length]? = some (.v (.slice none 0 0)) := by simp [tab, nils, rows, List.replicate_succ]
theorem tab_set {A : List (List Int)} {id len m : Nat} : (tab A (m + 1)).set A.length (.ref id len) = tabR A id len m := by
  have : (rows .i64 A).length = A.length := by simp [rows]
  unfold tab tabR
  rw [← this, List.set_append_right _ _ (Nat.le_refl _), Nat.sub_self]
  simp [nils, List.replicate_succ]
theorem tabR_get {A : List (List Int)} {id len m : Nat} : (tabR A id len m)[A.length]? = some (.ref id len) := by
  have : (rows .i64 A).length = A.length := by simp [rows]
  unfold tabR
  rw [← this, List.getElem?_append_right (Nat.le_refl _), Nat.sub_self]
  rfl
theorem tab_end {A : List (List Int)} : tab A 0 = rows .i64 A := by simp [tab, nils]
theorem nils_kills {m id : Nat} : D.kills id (nils m) = nils m := by simp [nils, D.kills_eq_map, D.kill]
theorem nils_frzs {m id : Nat} {els : List D} : D.frzs id els (nils m) = nils m := by simp [nils, D.frzs_eq, D.frz]
theorem tab_kills {A : List (List Int)} {m id : Nat} : D.kills id (tab A m) = tab A m := by
  unfold tab
  rw [D.kills_eq_map, List.map_append, ← D.kills_eq_map, ← D.kills_eq_map, nils_kills, rows_kills]
theorem tabR_frzs {A : List (List Int)} {id m : Nat} {l : List Int} : D.frzs id (ints .i64 l) (tabR A id l.length m) = tab (A ++ [l]) m := by
  unfold tab tabR
  rw [D.frzs_eq, List.map_append, ← D.frzs_eq, rows_frzs, List.map_cons, ← D.frzs_eq, nils_frzs]
  have : (D.ref id l.length).frz id (ints .i64 l) = .lst (ints .i64 l) := by
    simp only [D.frz, if_true]
    rw [if_pos (by simp [ints])]
    congr 1
    exact List.take_of_length_le (by simp [ints])
  rw [this]
  simp [rows]
attribute [go_sem] tab_zero tab_length tabR_length tab_kills
def tabCell (x : Int) (c : List Int) (i : Nat) : Int := if spanErr c i = 0 then far x (spanLow c i) (spanHigh c i) * far x (spanLow c i) (spanHigh c i) else -1
def tabRow (x : Int) (c : List Int) : List Int := (List.range (c.length + 1)).map (tabCell x c)
def tabL (u : List Int) (cuts : List (List Int)) : List (List Int) := (List.range u.length).map fun i => tabRow (u.getD i 0) (cuts.getD i [])
def tabOut (w : Int) (cuts : List (List Int)) (q : List Int) : List (List Int) := if codeErr w cuts q = 0 then tabL (turnL q w.toNat) cuts else []
theorem tabL_length {u : List Int} {cuts : List (List Int)} : (tabL u cuts).length = u.length := by simp [tabL]
theorem tabRow_length {x : Int} {c : List Int} : (tabRow x c).length = c.length + 1 := by simp [tabRow]
theorem tab_snoc {u : List Int} {cuts : List (List Int)} {k : Nat} (h : k < u.length) : (tabL u cuts).take (k + 1) = (tabL u cuts).take k ++ [tabRow (u.getD k 0) (cuts.getD k [])] := by
  rw [take_snoc (d := []) (by rw [tabL_length]; exact h)]
  congr 2
  unfold tabL
  exact getD_map_range h
theorem tabRow_fill {x : Int} {c : List Int} : fill (tabCell x c) (List.replicate (c.length + 1) (-1)) (c.length + 1) = tabRow x c := by
  have := fill_all (f := tabCell x c) (a := List.replicate (c.length + 1) (-1))
  rw [List.length_replicate] at this
  exact this
theorem set_same {l : List Int} {j : Nat} {d v : Int} (h : j < l.length) (h2 : l.getD j d = v) : l.set j v = l := by
  have : l[j] = v := by rw [← h2]; simp [List.getD, h]
  rw [← this]; exact List.set_getElem_self h
theorem span_range {c : List Int} {n : Nat} (hc : I16s c) (h : spanErr c n = 0) : (-32768 ≤ spanLow c n ∧ spanLow c n ≤ 32768) ∧ (-32768 ≤ spanHigh c n ∧ spanHigh c n ≤ 32768) := by
  have h0 : cutsErr c = 0 ∧ 0 ≤ (n : Int) ∧ (n : Int) ≤ c.length := by
    by_cases q : cutsErr c = 0 ∧ 0 ≤ (n : Int) ∧ (n : Int) ≤ c.length
    · exact q
    · rw [span_bad q] at h; cases h
  have h1 := span_ok h0.1 h0.2.1 h0.2.2
  rw [h, Int.toNat_natCast] at h1
  obtain ⟨r1, r2⟩ := spanOf_range h0.1 hc (n := n) (by omega)
  have e1 : spanLow c n = lowOf c n := by unfold spanLow; rw [if_pos h, Int.toNat_natCast]
  have e2 : spanHigh c n = highOf c n := by unfold spanHigh; rw [if_pos h, Int.toNat_natCast]
  rw [e1, e2]
  split at h1
  · cases h1
  · omega

theorem table_fun (w : Int) (cuts : List (List Int)) (q : List Int) (hq : I16s q) (hr : I16r cuts) : Fun Try.prog 95 [.agg [.v (.int .i64 w), .lst (rows .i16 cuts)], .lst (ints .i16 q)] fun r =>
    r = .tup [.lst (rows .i64 (tabOut w cuts q)), .v (.int .i64 (codeErr w cuts q))] := by
  refine Fun.of_awpI Try.func95 rfl cal95 Try.ntmps95 (by simp) fun hwf => ?_
  simp only [D.wfs, D.wf, ints_length, ints_wfs, rows_length, rows_wfs, capMax, and_true, true_and] at hwf
  unfold tabOut
  by_cases h : codeErr w cuts q = 0
  · rw [if_pos h]
    obtain ⟨b1, b2, b3⟩ := codeErr_zero.1 h
    have ht := turnErr_iff.2 ⟨b2, wayErr_zero (bookErr_zero.1 b1).2.2.1⟩
    have ho := turnOut_ok (turnErr_iff.1 ht)
    have hqt := turnOut_i16 (w := w) hq
    have hul := turnL_length (v := q) (w := w.toNat)
    rw [ho] at hqt
    have hq64 := (vecOk_iff.1 (vecErr_zero.1 b2)).2.1
    generalize turnL q w.toNat = u at *
    repeat' (first | simp only [go_sem, Nat.reduceEqDiff, Nat.reduceAdd, Nat.reduceLT, Nat.reduceMul, Nat.reduceSub, ↓reduceIte, reduceCtorEq, Nat.reduceLeDiff, Nat.reduceBEq, Int.reduceBEq, Int.reduceBNe, Int.reduceLT, Int.reduceLE, Int.reduceToNat, Int.reduceGT, Int.reduceGE, Int.reduceEq, Int.reducePow, Nat.reducePow, h, ht, ho, Ret_eq Try.results95] | simp (disch := omega) only [arith, IntKind.bits, capMax, fill_len, elt_fill] | (with_reducible refine condI_beq (fun hq hqb => ?_) (fun hq hqb => ?_) <;> simp only [KP_mk, hqb]) | (with_reducible refine condI_bne (fun hq hqb => ?_) (fun hq hqb => ?_) <;> simp only [KP_mk, hqb]) | (with_reducible refine condI_dec (fun hq hqb => ?_) (fun hq hqb => ?_) <;> simp only [KP_mk, hqb]) | (with_reducible refine condI_b (fun hqb => ?_) (fun hqb => ?_) <;> simp only [KP_mk, hqb]) | refine RetO_calc Try.results95 ?_ | (refine Again.up (by omega) ?_ ?_) | exact trivial | (refine opCallI_rd (by simp only [go_sem, Nat.reduceEqDiff, Nat.reduceAdd, Nat.reduceLT, Nat.reduceMul, Nat.reduceSub, ↓reduceIte, reduceCtorEq, Nat.reduceLeDiff, Nat.reduceBEq, Int.reduceBEq, Int.reduceBNe, Int.reduceLT, Int.reduceLE, Int.reduceToNat, Int.reduceGT, Int.reduceGE, Int.reduceEq, Int.reducePow, Nat.reducePow, h, ht, ho, Ret_eq Try.results95]; first | done | rfl) (code_fun w cuts q hq) (by rintro _ rfl; rfl) ?_; rintro _ rfl) | (refine opCallI_gv (by simp only [go_sem, Nat.reduceEqDiff, Nat.reduceAdd, Nat.reduceLT, Nat.reduceMul, Nat.reduceSub, ↓reduceIte, reduceCtorEq, Nat.reduceLeDiff, Nat.reduceBEq, Int.reduceBEq, Int.reduceBNe, Int.reduceLT, Int.reduceLE, Int.reduceToNat, Int.reduceGT, Int.reduceGE, Int.reduceEq, Int.reducePow, Nat.reducePow, h, ht, ho, Ret_eq Try.results95]; first | done | rfl) (code_fun w cuts q hq) ?_; rintro _ rfl) | (refine opCallI_rd (by simp only [go_sem, Nat.reduceEqDiff, Nat.reduceAdd, Nat.reduceLT, Nat.reduceMul, Nat.reduceSub, ↓reduceIte, reduceCtorEq, Nat.reduceLeDiff, Nat.reduceBEq, Int.reduceBEq, Int.reduceBNe, Int.reduceLT, Int.reduceLE, Int.reduceToNat, Int.reduceGT, Int.reduceGE, Int.reduceEq, Int.reducePow, Nat.reducePow, h, ht, ho, Ret_eq Try.results95]; first | done | rfl) (turn_fun q w hq) (by rintro _ rfl; rfl) ?_; rintro _ rfl) | (refine opCallI_gv (by simp only [go_sem, Nat.reduceEqDiff, Nat.reduceAdd, Nat.reduceLT, Nat.reduceMul, Nat.reduceSub, ↓reduceIte, reduceCtorEq, Nat.reduceLeDiff, Nat.reduceBEq, Int.reduceBEq, Int.reduceBNe, Int.reduceLT, Int.reduceLE, Int.reduceToNat, Int.reduceGT, Int.reduceGE, Int.reduceEq, Int.reducePow, Nat.reducePow, h, ht, ho, Ret_eq Try.results95]; first | done | rfl) (turn_fun q w hq) ?_; rintro _ rfl) | fail)
    refine awpI_for u.length (fun k => True) (fun k => [(42, .v (.int .i64 k))]) (fun k => [(39, ⟨23, 1, tab ((tabL u cuts).take k) (u.length - k)⟩)]) [2, 10, 40, 41] [2] _ (Weak.refl _) trivial ?_ ?_ ?_
    · simp only [go_sem, Nat.reduceEqDiff, Nat.reduceAdd, Nat.reduceLT, Nat.reduceMul, Nat.reduceSub, ↓reduceIte, reduceCtorEq, Nat.reduceLeDiff, Nat.reduceBEq, Int.reduceBEq, Int.reduceBNe, Int.reduceLT, Int.reduceLE, Int.reduceToNat, Int.reduceGT, Int.reduceGE, Int.reduceEq, Int.reducePow, Nat.reducePow, Ret_eq Try.results95]
    · simp only [go_sem, Nat.reduceEqDiff, Nat.reduceAdd, Nat.reduceLT, Nat.reduceMul, Nat.reduceSub, ↓reduceIte, reduceCtorEq, Nat.reduceLeDiff, Nat.reduceBEq, Int.reduceBEq, Int.reduceBNe, Int.reduceLT, Int.reduceLE, Int.reduceToNat, Int.reduceGT, Int.reduceGE, Int.reduceEq, Int.reducePow, Nat.reducePow, Int.toNat_natCast, List.take_zero, Nat.sub_zero, Ret_eq Try.results95]
    · intro k s hk _ hs
      simp only [go_sem, Nat.reduceEqDiff, Nat.reduceAdd, Nat.reduceLT, Nat.reduceMul, Nat.reduceSub, ↓reduceIte, reduceCtorEq, Nat.reduceLeDiff, Nat.reduceBEq, Int.reduceBEq, Int.reduceBNe, Int.reduceLT, Int.reduceLE, Int.reduceToNat, Int.reduceGT, Int.reduceGE, Int.reduceEq, Int.reducePow, Nat.reducePow, Ret_eq Try.results95] at hs
      by_cases hka : k < u.length
      · have hx := hqt.getD k
        generalize hxe : u.getD k 0 = x at *
        generalize hce : cuts.getD k [] = c at *
        have hkc : k < cuts.length := by omega
        have hci : I16s c := by rw [← hce]; exact hr.getD k
        have hsp := fun i => rankSpan_fun c i hci
        obtain ⟨m, hm⟩ : ∃ m, u.length - k = m + 1 := ⟨u.length - k - 1, by omega⟩
        have hlk : ((tabL u cuts).take k).length = k := by rw [List.length_take, tabL_length]; omega
        have e := tab_snoc (cuts := cuts) hka
        rw [hxe, hce] at e
        have hts := tab_set (A := (tabL u cuts).take k) (id := 57) (len := c.length + 1) (m := m)
        have htg := tabR_get (A := (tabL u cuts).take k) (id := 57) (len := c.length + 1) (m := m)
        have htg0 := tab_get (A := (tabL u cuts).take k) (m := m)
        rw [hlk] at hts htg htg0
        rw [hm] at hs
        have hce0 : cutsErr c = 0 := by
          have := (bookErr_zero.1 b1).2.2.2
          rw [List.any_eq_false] at this
          have := this c (by rw [← hce]; exact getD_mem hkc)
          unfold oddCut at this
          by_cases q0 : cutsErr c = 0
          · exact q0
          · exact absurd (by simp [q0]) this
        have hcl : c.length ≤ 255 := by
          have := (cutsErr_zero.1 hce0).1
          omega
        have hrp : FunO Try.prog 147 [.lst [.v (.int .i64 (-1))], .v (.int .i64 ((c.length + 1 : Nat) : Int))] _ := repeat64_fun (-1) (c.length + 1) (by omega)
        repeat' (first | simp only [go_sem, Nat.reduceEqDiff, Nat.reduceAdd, Nat.reduceLT, Nat.reduceMul, Nat.reduceSub, ↓reduceIte, reduceCtorEq, Nat.reduceLeDiff, Nat.reduceBEq, Int.reduceBEq, Int.reduceBNe, Int.reduceLT, Int.reduceLE, Int.reduceToNat, Int.reduceGT, Int.reduceGE, Int.reduceEq, Int.reducePow, Nat.reducePow, hs, hts, htg, htg0, hxe, hce, Ret_eq Try.results95] | simp (disch := omega) only [arith, IntKind.bits, capMax, fill_len, elt_fill] | (with_reducible refine condI_beq (fun hq hqb => ?_) (fun hq hqb => ?_) <;> simp only [KP_mk, hqb]) | (with_reducible refine condI_bne (fun hq hqb => ?_) (fun hq hqb => ?_) <;> simp only [KP_mk, hqb]) | (with_reducible refine condI_dec (fun hq hqb => ?_) (fun hq hqb => ?_) <;> simp only [KP_mk, hqb]) | (with_reducible refine condI_b (fun hqb => ?_) (fun hqb => ?_) <;> simp only [KP_mk, hqb]) | refine RetO_calc Try.results95 ?_ | (refine Again.up (by omega) ?_ ?_) | exact trivial | (refine opCallI_ownGv (by simp only [go_sem, Nat.reduceEqDiff, Nat.reduceAdd, Nat.reduceLT, Nat.reduceMul, Nat.reduceSub, ↓reduceIte, reduceCtorEq, Nat.reduceLeDiff, Nat.reduceBEq, Int.reduceBEq, Int.reduceBNe, Int.reduceLT, Int.reduceLE, Int.reduceToNat, Int.reduceGT, Int.reduceGE, Int.reduceEq, Int.reducePow, Nat.reducePow, hs, hts, htg, htg0, hxe, hce, Ret_eq Try.results95]; first | done | rfl) (hrp) ?_; rintro _ _ ⟨rfl, rfl⟩) | fail)
        refine awpI_for (c.length + 1) (fun k => True) (fun j => [(64, .v (.int .i64 j))]) (fun j => [(57, ⟨2, 1, ints .i64 (fill (tabCell x c) (List.replicate (c.length + 1) (-1)) j)⟩)]) [2, 10, 11, 12, 40, 41, 42, 63] [2, 39] _ (Weak.refl _) trivial ?_ ?_ ?_
        · simp only [go_sem, Nat.reduceEqDiff, Nat.reduceAdd, Nat.reduceLT, Nat.reduceMul, Nat.reduceSub, ↓reduceIte, reduceCtorEq, Nat.reduceLeDiff, Nat.reduceBEq, Int.reduceBEq, Int.reduceBNe, Int.reduceLT, Int.reduceLE, Int.reduceToNat, Int.reduceGT, Int.reduceGE, Int.reduceEq, Int.reducePow, Nat.reducePow, Ret_eq Try.results95]
        · simp only [go_sem, Nat.reduceEqDiff, Nat.reduceAdd, Nat.reduceLT, Nat.reduceMul, Nat.reduceSub, ↓reduceIte, reduceCtorEq, Nat.reduceLeDiff, Nat.reduceBEq, Int.reduceBEq, Int.reduceBNe, Int.reduceLT, Int.reduceLE, Int.reduceToNat, Int.reduceGT, Int.reduceGE, Int.reduceEq, Int.reducePow, Nat.reducePow, fill_zero, Ret_eq Try.results95]
        · intro j s2 hj _ hs2
          simp only [go_sem, Nat.reduceEqDiff, Nat.reduceAdd, Nat.reduceLT, Nat.reduceMul, Nat.reduceSub, ↓reduceIte, reduceCtorEq, Nat.reduceLeDiff, Nat.reduceBEq, Int.reduceBEq, Int.reduceBNe, Int.reduceLT, Int.reduceLE, Int.reduceToNat, Int.reduceGT, Int.reduceGE, Int.reduceEq, Int.reducePow, Nat.reducePow, hs, Ret_eq Try.results95] at hs2
          by_cases hja : j < c.length + 1
          · have e2 := fill_set (f := tabCell x c) (a := List.replicate (c.length + 1) (-1)) (k := j) (by simpa using hja)
            have el : (fill (tabCell x c) (List.replicate (c.length + 1) (-1)) j).length = c.length + 1 := by rw [fill_len (by simp; omega)]; simp
            have hspj := hsp j
            clear hsp
            by_cases hse : spanErr c j = 0
            · have hf : tabCell x c j = far x (spanLow c j) (spanHigh c j) * far x (spanLow c j) (spanHigh c j) := if_pos hse
              rw [hf] at e2
              have hsr : (-32768 ≤ spanLow c j ∧ spanLow c j ≤ 32768) ∧ (-32768 ≤ spanHigh c j ∧ spanHigh c j ≤ 32768) := span_range hci hse
              have hfr : 0 ≤ far x (spanLow c j) (spanHigh c j) ∧ far x (spanLow c j) (spanHigh c j) ≤ 65536 := by
                unfold far mx
                obtain ⟨⟨r1, r2⟩, r3, r4⟩ := hsr
                constructor <;> (repeat' split) <;> omega
              have hff := far_fun x (spanLow c j) (spanHigh c j) (by omega) hsr.1 hsr.2
              have h3 := Int.mul_nonneg hfr.1 hfr.1
              have h4 : far x (spanLow c j) (spanHigh c j) * far x (spanLow c j) (spanHigh c j) ≤ 65536 * 65536 := Int.mul_le_mul hfr.2 hfr.2 hfr.1 (by omega)
              generalize far x (spanLow c j) (spanHigh c j) = R at *
              generalize hRR : R * R = RR at *
              repeat' (first | simp only [go_sem, Nat.reduceEqDiff, Nat.reduceAdd, Nat.reduceLT, Nat.reduceMul, Nat.reduceSub, ↓reduceIte, reduceCtorEq, Nat.reduceLeDiff, Nat.reduceBEq, Int.reduceBEq, Int.reduceBNe, Int.reduceLT, Int.reduceLE, Int.reduceToNat, Int.reduceGT, Int.reduceGE, Int.reduceEq, Int.reducePow, Nat.reducePow, hs, hs2, hce, hse, htg, el, e2, hRR, Ret_eq Try.results95] | simp (disch := omega) only [arith, IntKind.bits, capMax, fill_len, elt_fill] | (with_reducible refine condI_beq (fun hq hqb => ?_) (fun hq hqb => ?_) <;> simp only [KP_mk, hqb]) | (with_reducible refine condI_bne (fun hq hqb => ?_) (fun hq hqb => ?_) <;> simp only [KP_mk, hqb]) | (with_reducible refine condI_dec (fun hq hqb => ?_) (fun hq hqb => ?_) <;> simp only [KP_mk, hqb]) | (with_reducible refine condI_b (fun hqb => ?_) (fun hqb => ?_) <;> simp only [KP_mk, hqb]) | refine RetO_calc Try.results95 ?_ | (refine Again.up (by omega) ?_ ?_) | exact trivial | (refine opCallI_rd (by simp only [go_sem, Nat.reduceEqDiff, Nat.reduceAdd, Nat.reduceLT, Nat.reduceMul, Nat.reduceSub, ↓reduceIte, reduceCtorEq, Nat.reduceLeDiff, Nat.reduceBEq, Int.reduceBEq, Int.reduceBNe, Int.reduceLT, Int.reduceLE, Int.reduceToNat, Int.reduceGT, Int.reduceGE, Int.reduceEq, Int.reducePow, Nat.reducePow, hs, hs2, hce, hse, htg, el, e2, hRR, Ret_eq Try.results95]; first | done | rfl) (hspj) (by rintro _ rfl; rfl) ?_; rintro _ rfl) | (refine opCallI_gv (by simp only [go_sem, Nat.reduceEqDiff, Nat.reduceAdd, Nat.reduceLT, Nat.reduceMul, Nat.reduceSub, ↓reduceIte, reduceCtorEq, Nat.reduceLeDiff, Nat.reduceBEq, Int.reduceBEq, Int.reduceBNe, Int.reduceLT, Int.reduceLE, Int.reduceToNat, Int.reduceGT, Int.reduceGE, Int.reduceEq, Int.reducePow, Nat.reducePow, hs, hs2, hce, hse, htg, el, e2, hRR, Ret_eq Try.results95]; first | done | rfl) (hspj) ?_; rintro _ rfl) | (refine opCallI_rd (by simp only [go_sem, Nat.reduceEqDiff, Nat.reduceAdd, Nat.reduceLT, Nat.reduceMul, Nat.reduceSub, ↓reduceIte, reduceCtorEq, Nat.reduceLeDiff, Nat.reduceBEq, Int.reduceBEq, Int.reduceBNe, Int.reduceLT, Int.reduceLE, Int.reduceToNat, Int.reduceGT, Int.reduceGE, Int.reduceEq, Int.reducePow, Nat.reducePow, hs, hs2, hce, hse, htg, el, e2, hRR, Ret_eq Try.results95]; first | done | rfl) (hff) (by rintro _ rfl; rfl) ?_; rintro _ rfl) | (refine opCallI_gv (by simp only [go_sem, Nat.reduceEqDiff, Nat.reduceAdd, Nat.reduceLT, Nat.reduceMul, Nat.reduceSub, ↓reduceIte, reduceCtorEq, Nat.reduceLeDiff, Nat.reduceBEq, Int.reduceBEq, Int.reduceBNe, Int.reduceLT, Int.reduceLE, Int.reduceToNat, Int.reduceGT, Int.reduceGE, Int.reduceEq, Int.reducePow, Nat.reducePow, hs, hs2, hce, hse, htg, el, e2, hRR, Ret_eq Try.results95]; first | done | rfl) (hff) ?_; rintro _ rfl) | fail)
            · have hf : tabCell x c j = -1 := if_neg hse
              rw [hf] at e2
              have e3 : fill (tabCell x c) (List.replicate (c.length + 1) (-1)) (j + 1) = fill (tabCell x c) (List.replicate (c.length + 1) (-1)) j := by
                rw [← e2]
                refine set_same (d := 0) (by omega) ?_
                rw [fill_at (by simpa using hja)]
                simp [List.getD, List.getElem?_replicate, hja]
              repeat' (first | simp only [go_sem, Nat.reduceEqDiff, Nat.reduceAdd, Nat.reduceLT, Nat.reduceMul, Nat.reduceSub, ↓reduceIte, reduceCtorEq, Nat.reduceLeDiff, Nat.reduceBEq, Int.reduceBEq, Int.reduceBNe, Int.reduceLT, Int.reduceLE, Int.reduceToNat, Int.reduceGT, Int.reduceGE, Int.reduceEq, Int.reducePow, Nat.reducePow, hs, hs2, hce, hse, e3, Ret_eq Try.results95] | simp (disch := omega) only [arith, IntKind.bits, capMax, fill_len, elt_fill] | (with_reducible refine condI_beq (fun hq hqb => ?_) (fun hq hqb => ?_) <;> simp only [KP_mk, hqb]) | (with_reducible refine condI_bne (fun hq hqb => ?_) (fun hq hqb => ?_) <;> simp only [KP_mk, hqb]) | (with_reducible refine condI_dec (fun hq hqb => ?_) (fun hq hqb => ?_) <;> simp only [KP_mk, hqb]) | (with_reducible refine condI_b (fun hqb => ?_) (fun hqb => ?_) <;> simp only [KP_mk, hqb]) | refine RetO_calc Try.results95 ?_ | (refine Again.up (by omega) ?_ ?_) | exact trivial | (refine opCallI_rd (by simp only [go_sem, Nat.reduceEqDiff, Nat.reduceAdd, Nat.reduceLT, Nat.reduceMul, Nat.reduceSub, ↓reduceIte, reduceCtorEq, Nat.reduceLeDiff, Nat.reduceBEq, Int.reduceBEq, Int.reduceBNe, Int.reduceLT, Int.reduceLE, Int.reduceToNat, Int.reduceGT, Int.reduceGE, Int.reduceEq, Int.reducePow, Nat.reducePow, hs, hs2, hce, hse, e3, Ret_eq Try.results95]; first | done | rfl) (hspj) (by rintro _ rfl; rfl) ?_; rintro _ rfl) | (refine opCallI_gv (by simp only [go_sem, Nat.reduceEqDiff, Nat.reduceAdd, Nat.reduceLT, Nat.reduceMul, Nat.reduceSub, ↓reduceIte, reduceCtorEq, Nat.reduceLeDiff, Nat.reduceBEq, Int.reduceBEq, Int.reduceBNe, Int.reduceLT, Int.reduceLE, Int.reduceToNat, Int.reduceGT, Int.reduceGE, Int.reduceEq, Int.reducePow, Nat.reducePow, hs, hs2, hce, hse, e3, Ret_eq Try.results95]; first | done | rfl) (hspj) ?_; rintro _ rfl) | fail)
          · obtain rfl : j = c.length + 1 := by omega
            rw [tabRow_fill] at hs2
            have hrl := tabRow_length (x := x) (c := c)
            have hfz := tabR_frzs (A := (tabL u cuts).take k) (id := 57) (m := m) (l := tabRow x c)
            rw [hrl, ← e] at hfz
            repeat' (first | simp only [go_sem, Nat.reduceEqDiff, Nat.reduceAdd, Nat.reduceLT, Nat.reduceMul, Nat.reduceSub, ↓reduceIte, reduceCtorEq, Nat.reduceLeDiff, Nat.reduceBEq, Int.reduceBEq, Int.reduceBNe, Int.reduceLT, Int.reduceLE, Int.reduceToNat, Int.reduceGT, Int.reduceGE, Int.reduceEq, Int.reducePow, Nat.reducePow, hs, hs2, Ret_eq Try.results95] | simp (disch := omega) only [arith, IntKind.bits, capMax, fill_len, elt_fill] | (with_reducible refine condI_beq (fun hq hqb => ?_) (fun hq hqb => ?_) <;> simp only [KP_mk, hqb]) | (with_reducible refine condI_bne (fun hq hqb => ?_) (fun hq hqb => ?_) <;> simp only [KP_mk, hqb]) | (with_reducible refine condI_dec (fun hq hqb => ?_) (fun hq hqb => ?_) <;> simp only [KP_mk, hqb]) | (with_reducible refine condI_b (fun hqb => ?_) (fun hqb => ?_) <;> simp only [KP_mk, hqb]) | refine RetO_calc Try.results95 ?_ | exact trivial | fail)
            refine Again.frz 57 ⟨2, 1, ints .i64 (tabRow x c)⟩ (by simp only [go_sem, Nat.reduceEqDiff, Nat.reduceAdd, Nat.reduceLT, Nat.reduceMul, Nat.reduceSub, ↓reduceIte, reduceCtorEq, Nat.reduceLeDiff, Nat.reduceBEq, Int.reduceBEq, Int.reduceBNe, Int.reduceLT, Int.reduceLE, Int.reduceToNat, Int.reduceGT, Int.reduceGE, Int.reduceEq, Int.reducePow, Nat.reducePow, hs, hs2, Ret_eq Try.results95]) (by simp only [go_sem, Nat.reduceEqDiff, Nat.reduceAdd, Nat.reduceLT, Nat.reduceMul, Nat.reduceSub, ↓reduceIte, reduceCtorEq, Nat.reduceLeDiff, Nat.reduceBEq, Int.reduceBEq, Int.reduceBNe, Int.reduceLT, Int.reduceLE, Int.reduceToNat, Int.reduceGT, Int.reduceGE, Int.reduceEq, Int.reducePow, Nat.reducePow, Ret_eq Try.results95]) (by simp only [go_sem, Nat.reduceEqDiff, Nat.reduceAdd, Nat.reduceLT, Nat.reduceMul, Nat.reduceSub, ↓reduceIte, reduceCtorEq, Nat.reduceLeDiff, Nat.reduceBEq, Int.reduceBEq, Int.reduceBNe, Int.reduceLT, Int.reduceLE, Int.reduceToNat, Int.reduceGT, Int.reduceGE, Int.reduceEq, Int.reducePow, Nat.reducePow, Ret_eq Try.results95]) hka trivial ?_
            have hm' : u.length - (k + 1) = m := by omega
            simp only [go_sem, Nat.reduceEqDiff, Nat.reduceAdd, Nat.reduceLT, Nat.reduceMul, Nat.reduceSub, ↓reduceIte, reduceCtorEq, Nat.reduceLeDiff, Nat.reduceBEq, Int.reduceBEq, Int.reduceBNe, Int.reduceLT, Int.reduceLE, Int.reduceToNat, Int.reduceGT, Int.reduceGE, Int.reduceEq, Int.reducePow, Nat.reducePow, hs, hs2, hfz, hm', Ret_eq Try.results95]
      · obtain rfl : k = u.length := by omega
        have hl := tabL_length (u := u) (cuts := cuts)
        have htk : (tabL u cuts).take u.length = tabL u cuts := List.take_of_length_le (by omega)
        rw [Nat.sub_self] at hs
        repeat' (first | simp only [go_sem, Nat.reduceEqDiff, Nat.reduceAdd, Nat.reduceLT, Nat.reduceMul, Nat.reduceSub, ↓reduceIte, reduceCtorEq, Nat.reduceLeDiff, Nat.reduceBEq, Int.reduceBEq, Int.reduceBNe, Int.reduceLT, Int.reduceLE, Int.reduceToNat, Int.reduceGT, Int.reduceGE, Int.reduceEq, Int.reducePow, Nat.reducePow, hs, hl, htk, tab_end, Ret_eq Try.results95] | simp (disch := omega) only [arith, IntKind.bits, capMax, fill_len, elt_fill] | (with_reducible refine condI_beq (fun hq hqb => ?_) (fun hq hqb => ?_) <;> simp only [KP_mk, hqb]) | (with_reducible refine condI_bne (fun hq hqb => ?_) (fun hq hqb => ?_) <;> simp only [KP_mk, hqb]) | (with_reducible refine condI_dec (fun hq hqb => ?_) (fun hq hqb => ?_) <;> simp only [KP_mk, hqb]) | (with_reducible refine condI_b (fun hqb => ?_) (fun hqb => ?_) <;> simp only [KP_mk, hqb]) | refine RetO_calc Try.results95 ?_ | (refine Again.up (by omega) ?_ ?_) | exact trivial | fail)
        rw [h]
  · rw [if_neg h]
    have he1 : codeErr w cuts q = 1 := codeErr_one fun q => h (codeErr_zero.2 q)
    repeat' (first | simp only [go_sem, Nat.reduceEqDiff, Nat.reduceAdd, Nat.reduceLT, Nat.reduceMul, Nat.reduceSub, ↓reduceIte, reduceCtorEq, Nat.reduceLeDiff, Nat.reduceBEq, Int.reduceBEq, Int.reduceBNe, Int.reduceLT, Int.reduceLE, Int.reduceToNat, Int.reduceGT, Int.reduceGE, Int.reduceEq, Int.reducePow, Nat.reducePow, he1, rows_nil, Ret_eq Try.results95] | simp (disch := omega) only [arith, IntKind.bits, capMax, fill_len, elt_fill] | (with_reducible refine condI_beq (fun hq hqb => ?_) (fun hq hqb => ?_) <;> simp only [KP_mk, hqb]) | (with_reducible refine condI_bne (fun hq hqb => ?_) (fun hq hqb => ?_) <;> simp only [KP_mk, hqb]) | (with_reducible refine condI_dec (fun hq hqb => ?_) (fun hq hqb => ?_) <;> simp only [KP_mk, hqb]) | (with_reducible refine condI_b (fun hqb => ?_) (fun hqb => ?_) <;> simp only [KP_mk, hqb]) | refine RetO_calc Try.results95 ?_ | (refine Again.up (by omega) ?_ ?_) | exact trivial | (refine opCallI_rd (by simp only [go_sem, Nat.reduceEqDiff, Nat.reduceAdd, Nat.reduceLT, Nat.reduceMul, Nat.reduceSub, ↓reduceIte, reduceCtorEq, Nat.reduceLeDiff, Nat.reduceBEq, Int.reduceBEq, Int.reduceBNe, Int.reduceLT, Int.reduceLE, Int.reduceToNat, Int.reduceGT, Int.reduceGE, Int.reduceEq, Int.reducePow, Nat.reducePow, he1, rows_nil, Ret_eq Try.results95]; first | done | rfl) (code_fun w cuts q hq) (by rintro _ rfl; rfl) ?_; rintro _ rfl) | (refine opCallI_gv (by simp only [go_sem, Nat.reduceEqDiff, Nat.reduceAdd, Nat.reduceLT, Nat.reduceMul, Nat.reduceSub, ↓reduceIte, reduceCtorEq, Nat.reduceLeDiff, Nat.reduceBEq, Int.reduceBEq, Int.reduceBNe, Int.reduceLT, Int.reduceLE, Int.reduceToNat, Int.reduceGT, Int.reduceGE, Int.reduceEq, Int.reducePow, Nat.reducePow, he1, rows_nil, Ret_eq Try.results95]; first | done | rfl) (code_fun w cuts q hq) ?_; rintro _ rfl) | fail)
end Go.Proofs.Ytfmeiapglpphpaa.T
