import Derived.Test.YtpkampecmlpfmaaLE
import Derived.Test.YtpkampecmlpfmaaEQBook
set_option linter.unusedSimpArgs false
set_option linter.unusedVariables false
/- Codes and boxes, walked. -/
namespace Go.Proofs.Ytpkampecmlpfmaa.T
open Go Go.VL Go.Proofs
set_option maxRecDepth 100000
set_option maxHeartbeats 4000000
def codeErr (w : Int) (cuts : List (List Int)) (v : List Int) : Int := if bookErr w cuts = 0 ∧ vecErr v = 0 ∧ v.length = cuts.length then 0 else 1
def cellAt (cuts : List (List Int)) (u : List Int) (i : Nat) : Int := (cellOf (cuts.getD i []) (u.getD i 0) : Nat)
def codeL (cuts : List (List Int)) (u : List Int) : List Int := (List.range u.length).map (cellAt cuts u)
def codeOut (w : Int) (cuts : List (List Int)) (v : List Int) : List Int := if codeErr w cuts v = 0 then codeL cuts (turnL v w.toNat) else []
theorem codeErr_zero {w : Int} {cuts : List (List Int)} {v : List Int} : codeErr w cuts v = 0 ↔ bookErr w cuts = 0 ∧ vecErr v = 0 ∧ v.length = cuts.length := by
  unfold codeErr; split
  · exact ⟨fun _ => by assumption, fun _ => rfl⟩
  · exact ⟨fun h => absurd h (by decide), fun h => by contradiction⟩
theorem codeErr_one {w : Int} {cuts : List (List Int)} {v : List Int} (h : ¬ (bookErr w cuts = 0 ∧ vecErr v = 0 ∧ v.length = cuts.length)) : codeErr w cuts v = 1 := if_neg h
theorem codeL_length {cuts : List (List Int)} {u : List Int} : (codeL cuts u).length = u.length := by simp [codeL]
theorem codeL_getD {cuts : List (List Int)} {u : List Int} {i : Nat} (h : i < u.length) : (codeL cuts u).getD i 0 = cellAt cuts u i := getD_map_range h
theorem fill_codeL {cuts : List (List Int)} {u : List Int} : fill (cellAt cuts u) (List.replicate u.length 0) u.length = codeL cuts u := by
  have := fill_all (f := cellAt cuts u) (a := List.replicate u.length 0)
  rw [List.length_replicate] at this
  exact this
theorem codeOut_octets {w : Int} {cuts : List (List Int)} {v : List Int} : Octets (codeOut w cuts v) := by
  unfold codeOut
  split
  · rename_i h
    obtain ⟨h1, h2, h3⟩ := codeErr_zero.1 h
    intro x hx
    obtain ⟨i, hi, rfl⟩ := List.mem_map.1 hx
    rw [List.mem_range, turnL_length] at hi
    have hc := book_rows h1 _ (getD_mem (d := []) (show i < cuts.length by omega))
    have := (cutsErr_zero.1 hc.2).1
    have := cellOf_le (cuts.getD i []) ((turnL v w.toNat).getD i 0)
    unfold cellAt
    omega
  · intro x hx; cases hx

theorem code_fun (w : Int) (cuts : List (List Int)) (v : List Int) (hv : I16s v) : Fun Try.prog 70 [.agg [.v (.int .i64 w), .lst (rows .i16 cuts)], .lst (ints .i16 v)] fun r => r = .tup [.lst (ints .u8 (codeOut w cuts v)), .v (.int .i64 (codeErr w cuts v))] := by
  refine Fun.of_awpI Try.func70 rfl cal70 Try.ntmps70 (by simp) fun hwf => ?_
  simp only [D.wfs, D.wf, ints_length, ints_wfs, rows_length, rows_wfs, capMax, and_true, true_and] at hwf
  unfold codeOut
  by_cases h : bookErr w cuts = 0 ∧ vecErr v = 0 ∧ v.length = cuts.length
  · rw [if_pos (codeErr_zero.2 h), codeErr_zero.2 h]
    obtain ⟨h1, h2, h3⟩ := h
    obtain ⟨b1, b2, b3, _⟩ := bookErr_zero.1 h1
    have hrows := book_rows h1
    have hmany := book_many h1
    have ht := turnErr_iff.2 ⟨h2, wayErr_zero b3⟩
    have ho := turnOut_ok (turnErr_iff.1 ht)
    have hok := turnL_ok hv (vecErr_zero.1 h2) w.toNat
    have hul := turnL_length (v := v) (w := w.toNat)
    have hur := vecOk_getD hok.2 hok.1
    generalize turnL v w.toNat = u at *
    repeat' (first | simp only [go_sem, h1, h2, ht, ho, Ret_eq Try.results70] | simp (disch := omega) only [arith, IntKind.bits, capMax, fill_len, elt_fill] | (refine opCallI_rd (by simp only [go_sem, h1, h2, ht, ho, Ret_eq Try.results70]; first | done | rfl) (quantCheck_fun w cuts) (by rintro _ rfl; rfl) ?_; rintro _ rfl) | (refine opCallI_rd (by simp only [go_sem, h1, h2, ht, ho, Ret_eq Try.results70]; first | done | rfl) (vecCheck_fun v) (by rintro _ rfl; rfl) ?_; rintro _ rfl) | (refine opCallI_gv (by simp only [go_sem, h1, h2, ht, ho, Ret_eq Try.results70]; first | done | rfl) (turn_fun v w hv) ?_; rintro _ rfl) | fail)
    refine awpI_for u.length (fun k => True) (fun k => [(44, .v (.int .i64 k))]) (fun k => [(41, ⟨5, 1, ints .u8 (fill (cellAt cuts u) (List.replicate u.length 0) k)⟩)]) [2, 8, 42, 43] [2] _ (Weak.refl _) trivial ?_ ?_ ?_
    · simp only [go_sem, Ret_eq Try.results70]
    · simp only [go_sem, fill_zero, ints_replicate, Int.toNat_natCast, Ret_eq Try.results70]
    · intro k s hk _ hs
      simp only [go_sem, Ret_eq Try.results70] at hs
      by_cases hka : k < u.length
      · have hc := hrows _ (getD_mem (d := []) (show k < cuts.length by omega))
        obtain ⟨c1, c2⟩ := cell_ok hc.2 (hur k).1
        have hcl := cellOf_le (cuts.getD k []) (u.getD k 0)
        have hce : cellAt cuts u k = (cellOf (cuts.getD k []) (u.getD k 0) : Nat) := rfl
        have e := fill_set (f := cellAt cuts u) (a := List.replicate u.length 0) (k := k) (by simpa using hka)
        have e3 : (fill (cellAt cuts u) (List.replicate u.length 0) k).length = u.length := by rw [fill_len (by simp; omega)]; simp
        rw [hce] at e
        repeat' (first | simp only [go_sem, hs, c1, c2, e, e3, Ret_eq Try.results70] | simp (disch := omega) only [arith, IntKind.bits, capMax, fill_len, elt_fill] | (refine Again.up (by omega) ?_ ?_) | (refine opCallI_rd (by simp only [go_sem, hs, c1, c2, e, e3, Ret_eq Try.results70]; first | done | rfl) (rankCell_fun (cuts.getD k []) (u.getD k 0)) (by rintro _ rfl; rfl) ?_; rintro _ rfl) | fail)
      · obtain rfl : k = u.length := by omega
        rw [fill_codeL] at hs
        have hl := codeL_length (cuts := cuts) (u := u)
        have htk : (codeL cuts u).take u.length = codeL cuts u := List.take_of_length_le (by omega)
        repeat' (first | simp only [go_sem, hs, hl, htk, Ret_eq Try.results70] | simp (disch := omega) only [arith, IntKind.bits, capMax, fill_len, elt_fill] | fail)
  · rw [codeErr_one h]
    repeat' (first | simp only [go_sem, Ret_eq Try.results70] | simp (disch := omega) only [arith, IntKind.bits, capMax, fill_len, elt_fill] | (with_reducible refine condI_bne (fun hq hqb => ?_) (fun hq hqb => ?_) <;> simp only [KP_mk, hqb]) | (refine opCallI_rd (by simp only [go_sem, Ret_eq Try.results70]; first | done | rfl) (quantCheck_fun w cuts) (by rintro _ rfl; rfl) ?_; rintro _ rfl) | (refine opCallI_rd (by simp only [go_sem, Ret_eq Try.results70]; first | done | rfl) (vecCheck_fun v) (by rintro _ rfl; rfl) ?_; rintro _ rfl) | fail)
    all_goals first | rfl | exact absurd ⟨by assumption, by assumption, by omega⟩ h
def spans (cuts : List (List Int)) (code : List Int) (i : Nat) : Prop := spanErr (cuts.getD i []) (code.getD i 0) = 0
def boxErr (w : Int) (cuts : List (List Int)) (code : List Int) : Int :=
  if bookErr w cuts ≠ 0 then 1 else if ¬ formOk cuts code then 2 else if ∃ i, i < code.length ∧ spanErr (cuts.getD i []) (code.getD i 0) ≠ 0 then 5 else 0
end Go.Proofs.Ytpkampecmlpfmaa.T
