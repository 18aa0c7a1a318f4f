import Derived.Test.YtfmeiapglpphpaaGSq
set_option linter.unusedSimpArgs false
set_option linter.unusedVariables false
/- The nearest, walked. -/
namespace Go.Proofs.Ytfmeiapglpphpaa.T
open Go Go.VL Go.Proofs
set_option maxRecDepth 100000
set_option maxHeartbeats 4000000
def nearP (p : Place) : Int := near p.1 p.2.1 p.2.2
def nearL (l : List Place) : List Int := (List.range l.length).map fun i => nearP (l.getD i (0, 0, 0))
def nearErr (w : Int) (cuts : List (List Int)) (code q : List Int) : Int := if gaugeErr w cuts code q = 0 then turnErr (nearL (placesOut w cuts code q)) w else gaugeErr w cuts code q
def nearOut (w : Int) (cuts : List (List Int)) (code q : List Int) : List Int := if gaugeErr w cuts code q = 0 then backOut (nearL (placesOut w cuts code q)) w else []
theorem nearL_length {l : List Place} : (nearL l).length = l.length := by simp [nearL]
theorem near_range {p : Place} (h : PlaceOk p) : -32768 ≤ nearP p ∧ nearP p ≤ 32767 := by
  obtain ⟨h1, h2, h3⟩ := h
  unfold nearP near mn mx
  constructor <;> (repeat' split) <;> omega
theorem nearL_i16 {l : List Place} (h : ∀ p ∈ l, PlaceOk p) : I16s (nearL l) := by
  intro x hx
  obtain ⟨i, hi, rfl⟩ := List.mem_map.1 hx
  rw [List.mem_range] at hi
  exact near_range (h _ (getD_mem hi))
theorem near_fill {l : List Place} : fill (fun i => nearP (l.getD i (0, 0, 0))) (List.replicate l.length 0) l.length = nearL l := by
  have := fill_all (f := fun i => nearP (l.getD i (0, 0, 0))) (a := List.replicate l.length (0 : Int))
  rw [List.length_replicate] at this
  exact this

theorem nearVec_fun (w : Int) (cuts : List (List Int)) (code q : List Int) (hc : Octets code) (hq : I16s q) (hr : I16r cuts) : Fun Try.prog 93 [.agg [.v (.int .i64 w), .lst (rows .i16 cuts)], .lst (ints .u8 code), .lst (ints .i16 q)] fun r =>
    r = .tup [.lst (ints .i16 (nearOut w cuts code q)), .v (.int .i64 (nearErr w cuts code q))] := by
  refine Fun.of_awpI Try.func93 rfl cal93 Try.ntmps93 (by simp) fun hwf => ?_
  simp only [D.wfs, D.wf, ints_length, ints_wfs, rows_length, rows_wfs, capMax, and_true, true_and] at hwf
  obtain ⟨hl, hok⟩ := places_ok (w := w) hc hq hr
  have hpl := places_fun w cuts code q hc hq hr
  unfold nearOut nearErr
  by_cases h : gaugeErr w cuts code q = 0
  · rw [if_pos h, if_pos h]
    rw [h] at hpl
    have hbk := back_fun (nearL (placesOut w cuts code q)) w (nearL_i16 hok)
    generalize placesOut w cuts code q = l at *
    repeat' (first | simp only [go_sem, Nat.reduceEqDiff, Nat.reduceAdd, Nat.reduceLT, Nat.reduceMul, Nat.reduceSub, ↓reduceIte, reduceCtorEq, Nat.reduceLeDiff, Nat.reduceBEq, Int.reduceBEq, Int.reduceBNe, Int.reduceLT, Int.reduceLE, Int.reduceToNat, Int.reduceGT, Int.reduceGE, Int.reduceEq, Int.reducePow, Nat.reducePow, Ret_eq Try.results93] | simp (disch := omega) only [arith, IntKind.bits, capMax, fill_len, elt_fill] | (with_reducible refine condI_beq (fun hq hqb => ?_) (fun hq hqb => ?_) <;> simp only [KP_mk, hqb]) | (with_reducible refine condI_bne (fun hq hqb => ?_) (fun hq hqb => ?_) <;> simp only [KP_mk, hqb]) | (with_reducible refine condI_dec (fun hq hqb => ?_) (fun hq hqb => ?_) <;> simp only [KP_mk, hqb]) | (with_reducible refine condI_b (fun hqb => ?_) (fun hqb => ?_) <;> simp only [KP_mk, hqb]) | refine RetO_calc Try.results93 ?_ | (refine Again.up (by omega) ?_ ?_) | exact trivial | (refine opCallI_rd (by simp only [go_sem, Nat.reduceEqDiff, Nat.reduceAdd, Nat.reduceLT, Nat.reduceMul, Nat.reduceSub, ↓reduceIte, reduceCtorEq, Nat.reduceLeDiff, Nat.reduceBEq, Int.reduceBEq, Int.reduceBNe, Int.reduceLT, Int.reduceLE, Int.reduceToNat, Int.reduceGT, Int.reduceGE, Int.reduceEq, Int.reducePow, Nat.reducePow, Ret_eq Try.results93]; first | done | rfl) (hpl) (by rintro _ rfl; rfl) ?_; rintro _ rfl) | (refine opCallI_gv (by simp only [go_sem, Nat.reduceEqDiff, Nat.reduceAdd, Nat.reduceLT, Nat.reduceMul, Nat.reduceSub, ↓reduceIte, reduceCtorEq, Nat.reduceLeDiff, Nat.reduceBEq, Int.reduceBEq, Int.reduceBNe, Int.reduceLT, Int.reduceLE, Int.reduceToNat, Int.reduceGT, Int.reduceGE, Int.reduceEq, Int.reducePow, Nat.reducePow, Ret_eq Try.results93]; first | done | rfl) (hpl) ?_; rintro _ rfl) | fail)
    refine awpI_for l.length (fun k => True) (fun k => [(28, .v (.int .i64 k))]) (fun k => [(25, ⟨48, 1, ints .i16 (fill (fun i => nearP (l.getD i (0, 0, 0))) (List.replicate l.length 0) k)⟩)]) [3, 10, 26, 27] [3] _ (Weak.refl _) trivial ?_ ?_ ?_
    · simp only [go_sem, Nat.reduceEqDiff, Nat.reduceAdd, Nat.reduceLT, Nat.reduceMul, Nat.reduceSub, ↓reduceIte, reduceCtorEq, Nat.reduceLeDiff, Nat.reduceBEq, Int.reduceBEq, Int.reduceBNe, Int.reduceLT, Int.reduceLE, Int.reduceToNat, Int.reduceGT, Int.reduceGE, Int.reduceEq, Int.reducePow, Nat.reducePow, Ret_eq Try.results93]
    · simp only [go_sem, Nat.reduceEqDiff, Nat.reduceAdd, Nat.reduceLT, Nat.reduceMul, Nat.reduceSub, ↓reduceIte, reduceCtorEq, Nat.reduceLeDiff, Nat.reduceBEq, Int.reduceBEq, Int.reduceBNe, Int.reduceLT, Int.reduceLE, Int.reduceToNat, Int.reduceGT, Int.reduceGE, Int.reduceEq, Int.reducePow, Nat.reducePow, fill_zero, Int.toNat_natCast, Ret_eq Try.results93]
    · intro k s hk _ hs
      simp only [go_sem, Nat.reduceEqDiff, Nat.reduceAdd, Nat.reduceLT, Nat.reduceMul, Nat.reduceSub, ↓reduceIte, reduceCtorEq, Nat.reduceLeDiff, Nat.reduceBEq, Int.reduceBEq, Int.reduceBNe, Int.reduceLT, Int.reduceLE, Int.reduceToNat, Int.reduceGT, Int.reduceGE, Int.reduceEq, Int.reducePow, Nat.reducePow, Ret_eq Try.results93] at hs
      by_cases hka : k < l.length
      · have e := fill_set (f := fun i => nearP (l.getD i (0, 0, 0))) (a := List.replicate l.length 0) (k := k) (by simpa using hka)
        have el : (fill (fun i => nearP (l.getD i (0, 0, 0))) (List.replicate l.length 0) k).length = l.length := by rw [fill_len (by simp; omega)]; simp
        have hn := near_fun (l.getD k (0, 0, 0)).1 (l.getD k (0, 0, 0)).2.1 (l.getD k (0, 0, 0)).2.2
        rw [show near (l.getD k (0, 0, 0)).1 (l.getD k (0, 0, 0)).2.1 (l.getD k (0, 0, 0)).2.2 = nearP (l.getD k (0, 0, 0)) from rfl] at hn
        have hrg := near_range (hok _ (getD_mem (d := ((0, 0, 0) : Place)) hka))
        clear hok hpl hbk
        repeat' (first | simp only [go_sem, Nat.reduceEqDiff, Nat.reduceAdd, Nat.reduceLT, Nat.reduceMul, Nat.reduceSub, ↓reduceIte, reduceCtorEq, Nat.reduceLeDiff, Nat.reduceBEq, Int.reduceBEq, Int.reduceBNe, Int.reduceLT, Int.reduceLE, Int.reduceToNat, Int.reduceGT, Int.reduceGE, Int.reduceEq, Int.reducePow, Nat.reducePow, hs, el, e, Ret_eq Try.results93] | simp (disch := omega) only [arith, IntKind.bits, capMax, fill_len, elt_fill, place_get] | (with_reducible refine condI_beq (fun hq hqb => ?_) (fun hq hqb => ?_) <;> simp only [KP_mk, hqb]) | (with_reducible refine condI_bne (fun hq hqb => ?_) (fun hq hqb => ?_) <;> simp only [KP_mk, hqb]) | (with_reducible refine condI_dec (fun hq hqb => ?_) (fun hq hqb => ?_) <;> simp only [KP_mk, hqb]) | (with_reducible refine condI_b (fun hqb => ?_) (fun hqb => ?_) <;> simp only [KP_mk, hqb]) | refine RetO_calc Try.results93 ?_ | (refine Again.up (by omega) ?_ ?_) | exact trivial | (refine opCallI_rd (by simp only [go_sem, Nat.reduceEqDiff, Nat.reduceAdd, Nat.reduceLT, Nat.reduceMul, Nat.reduceSub, ↓reduceIte, reduceCtorEq, Nat.reduceLeDiff, Nat.reduceBEq, Int.reduceBEq, Int.reduceBNe, Int.reduceLT, Int.reduceLE, Int.reduceToNat, Int.reduceGT, Int.reduceGE, Int.reduceEq, Int.reducePow, Nat.reducePow, hs, el, e, Ret_eq Try.results93]; first | done | rfl) (hn) (by rintro _ rfl; rfl) ?_; rintro _ rfl) | (refine opCallI_gv (by simp only [go_sem, Nat.reduceEqDiff, Nat.reduceAdd, Nat.reduceLT, Nat.reduceMul, Nat.reduceSub, ↓reduceIte, reduceCtorEq, Nat.reduceLeDiff, Nat.reduceBEq, Int.reduceBEq, Int.reduceBNe, Int.reduceLT, Int.reduceLE, Int.reduceToNat, Int.reduceGT, Int.reduceGE, Int.reduceEq, Int.reducePow, Nat.reducePow, hs, el, e, Ret_eq Try.results93]; first | done | rfl) (hn) ?_; rintro _ rfl) | fail)
      · obtain rfl : k = l.length := by omega
        rw [near_fill] at hs
        have hl := nearL_length (l := l)
        have htk : (nearL l).take l.length = nearL l := List.take_of_length_le (by omega)
        clear hok hpl
        repeat' (first | simp only [go_sem, Nat.reduceEqDiff, Nat.reduceAdd, Nat.reduceLT, Nat.reduceMul, Nat.reduceSub, ↓reduceIte, reduceCtorEq, Nat.reduceLeDiff, Nat.reduceBEq, Int.reduceBEq, Int.reduceBNe, Int.reduceLT, Int.reduceLE, Int.reduceToNat, Int.reduceGT, Int.reduceGE, Int.reduceEq, Int.reducePow, Nat.reducePow, hs, hl, htk, Ret_eq Try.results93] | simp (disch := omega) only [arith, IntKind.bits, capMax, fill_len, elt_fill] | (with_reducible refine condI_beq (fun hq hqb => ?_) (fun hq hqb => ?_) <;> simp only [KP_mk, hqb]) | (with_reducible refine condI_bne (fun hq hqb => ?_) (fun hq hqb => ?_) <;> simp only [KP_mk, hqb]) | (with_reducible refine condI_dec (fun hq hqb => ?_) (fun hq hqb => ?_) <;> simp only [KP_mk, hqb]) | (with_reducible refine condI_b (fun hqb => ?_) (fun hqb => ?_) <;> simp only [KP_mk, hqb]) | refine RetO_calc Try.results93 ?_ | (refine Again.up (by omega) ?_ ?_) | exact trivial | (refine opCallI_rd (by simp only [go_sem, Nat.reduceEqDiff, Nat.reduceAdd, Nat.reduceLT, Nat.reduceMul, Nat.reduceSub, ↓reduceIte, reduceCtorEq, Nat.reduceLeDiff, Nat.reduceBEq, Int.reduceBEq, Int.reduceBNe, Int.reduceLT, Int.reduceLE, Int.reduceToNat, Int.reduceGT, Int.reduceGE, Int.reduceEq, Int.reducePow, Nat.reducePow, hs, hl, htk, Ret_eq Try.results93]; first | done | rfl) (hbk) (by rintro _ rfl; rfl) ?_; rintro _ rfl) | (refine opCallI_gv (by simp only [go_sem, Nat.reduceEqDiff, Nat.reduceAdd, Nat.reduceLT, Nat.reduceMul, Nat.reduceSub, ↓reduceIte, reduceCtorEq, Nat.reduceLeDiff, Nat.reduceBEq, Int.reduceBEq, Int.reduceBNe, Int.reduceLT, Int.reduceLE, Int.reduceToNat, Int.reduceGT, Int.reduceGE, Int.reduceEq, Int.reducePow, Nat.reducePow, hs, hl, htk, Ret_eq Try.results93]; first | done | rfl) (hbk) ?_; rintro _ rfl) | fail)
  · rw [if_neg h, if_neg h]
    have o : placesOut w cuts code q = [] := by unfold placesOut; rw [if_neg h]
    rw [o] at hpl
    repeat' (first | simp only [go_sem, Nat.reduceEqDiff, Nat.reduceAdd, Nat.reduceLT, Nat.reduceMul, Nat.reduceSub, ↓reduceIte, reduceCtorEq, Nat.reduceLeDiff, Nat.reduceBEq, Int.reduceBEq, Int.reduceBNe, Int.reduceLT, Int.reduceLE, Int.reduceToNat, Int.reduceGT, Int.reduceGE, Int.reduceEq, Int.reducePow, Nat.reducePow, h, Ret_eq Try.results93] | simp (disch := omega) only [arith, IntKind.bits, capMax, fill_len, elt_fill] | (with_reducible refine condI_beq (fun hq hqb => ?_) (fun hq hqb => ?_) <;> simp only [KP_mk, hqb]) | (with_reducible refine condI_bne (fun hq hqb => ?_) (fun hq hqb => ?_) <;> simp only [KP_mk, hqb]) | (with_reducible refine condI_dec (fun hq hqb => ?_) (fun hq hqb => ?_) <;> simp only [KP_mk, hqb]) | (with_reducible refine condI_b (fun hqb => ?_) (fun hqb => ?_) <;> simp only [KP_mk, hqb]) | refine RetO_calc Try.results93 ?_ | (refine Again.up (by omega) ?_ ?_) | exact trivial | (refine opCallI_rd (by simp only [go_sem, Nat.reduceEqDiff, Nat.reduceAdd, Nat.reduceLT, Nat.reduceMul, Nat.reduceSub, ↓reduceIte, reduceCtorEq, Nat.reduceLeDiff, Nat.reduceBEq, Int.reduceBEq, Int.reduceBNe, Int.reduceLT, Int.reduceLE, Int.reduceToNat, Int.reduceGT, Int.reduceGE, Int.reduceEq, Int.reducePow, Nat.reducePow, h, Ret_eq Try.results93]; first | done | rfl) (hpl) (by rintro _ rfl; rfl) ?_; rintro _ rfl) | (refine opCallI_gv (by simp only [go_sem, Nat.reduceEqDiff, Nat.reduceAdd, Nat.reduceLT, Nat.reduceMul, Nat.reduceSub, ↓reduceIte, reduceCtorEq, Nat.reduceLeDiff, Nat.reduceBEq, Int.reduceBEq, Int.reduceBNe, Int.reduceLT, Int.reduceLE, Int.reduceToNat, Int.reduceGT, Int.reduceGE, Int.reduceEq, Int.reducePow, Nat.reducePow, h, Ret_eq Try.results93]; first | done | rfl) (hpl) ?_; rintro _ rfl) | fail)
end Go.Proofs.Ytfmeiapglpphpaa.T
