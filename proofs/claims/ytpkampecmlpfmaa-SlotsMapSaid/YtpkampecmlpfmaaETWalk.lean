import Derived.Test.YtpkampecmlpfmaaLE
import Derived.Test.YtpkampecmlpfmaaETSpec
import Derived.Test.YtpkampecmlpfmaaEVWalk
set_option linter.unusedSimpArgs false
set_option linter.unusedVariables false
/- Ways and turned vectors, walked. -/
namespace Go.Proofs.Ytpkampecmlpfmaa.T
open Go Go.VL Go.Proofs
set_option maxRecDepth 100000
set_option maxHeartbeats 4000000
theorem ofVal_cx {k : FloatKind} {a b : Nat} : D.ofVal (.complex k a b) = .v (.complex k a b) := (rfl)
theorem way_odd {a : Int} (h : ¬ (0 ≤ a ∧ a ≤ maxTwist)) : wayErr a = 1 := if_neg h
theorem way_even {a : Int} (h : 0 ≤ a ∧ a ≤ maxTwist) : wayErr a = 0 := if_pos h

theorem odd_fun (a : Int) : Fun Try.prog 128 [.v (.int .i64 a)] fun r => r = .v (.bool (decide (wayErr a ≠ 0))) := by
  refine Fun.of_awpI Try.func128 rfl cal128 Try.ntmps128 (by simp) fun hwf => ?_
  simp only [D.wfs, D.wf, ints_length, ints_wfs, rows_length, rows_wfs, capMax, and_true, true_and] at hwf
  repeat' (first | simp only [go_sem, Ret_eq Try.results128] | (with_reducible refine condI_dec (fun hq hqb => ?_) (fun hq hqb => ?_) <;> simp only [KP_mk, hqb]) | fail)
  all_goals
    unfold wayErr maxTwist
    first
    | (rw [if_pos (by omega)]; rfl)
    | (rw [if_neg (by omega)]; rfl)
    | (split <;> simp <;> omega)
def oneW : Nat := 4607182418800017408
def U : Nat → Nat × Nat
  | 0 => (oneW, 0)
  | k + 1 => (cmulB (U k).1 (U k).2 0 oneW).getD (0, 0)
theorem iv_one : IV oneW 1 := by
  have := IV.nearest (z := 1) (by decide)
  rwa [show FloatKind.f64.nearest 1 = oneW by decide +kernel] at this
theorem iv_zero : IV 0 0 := by
  have := IV.nearest (z := 0) (by decide)
  rwa [show FloatKind.f64.nearest 0 = 0 by decide +kernel] at this
theorem U_ok : ∀ k, k < 4 → IV (U k).1 (cs k) ∧ IV (U k).2 (sn k)
  | 0, _ => ⟨iv_one, iv_zero⟩
  | k + 1, h => by
    obtain ⟨h1, h2⟩ := U_ok k (by omega)
    have c1 : (cs k).natAbs ≤ 1000000 := by unfold cs; split <;> (try split) <;> decide
    have c2 : (sn k).natAbs ≤ 1000000 := by unfold sn; split <;> (try split) <;> decide
    obtain ⟨x, y, e, i1, i2⟩ := cmul_ok h1 h2 iv_zero iv_one c1 c2 (by decide) (by decide)
    have e1 : U (k + 1) = (x, y) := by show (cmulB _ _ _ _).getD _ = _; rw [e]; rfl
    rw [e1]
    have : k = 0 ∨ k = 1 ∨ k = 2 := by omega
    rcases this with rfl | rfl | rfl <;> exact ⟨i1, i2⟩
theorem U_step {k : Nat} (h : k < 4) : cmulB (U k).1 (U k).2 0 oneW = some (U (k + 1)) := by
  obtain ⟨h1, h2⟩ := U_ok k (by omega)
  have c1 : (cs k).natAbs ≤ 1000000 := by unfold cs; split <;> (try split) <;> decide
  have c2 : (sn k).natAbs ≤ 1000000 := by unfold sn; split <;> (try split) <;> decide
  obtain ⟨x, y, e, i1, i2⟩ := cmul_ok h1 h2 iv_zero iv_one c1 c2 (by decide) (by decide)
  have e1 : U (k + 1) = (x, y) := by show (cmulB _ _ _ _).getD _ = _; rw [e]; rfl
  rw [e1, e]

theorem unit_fun (d : Nat) (hd : d < 4) : Fun Try.prog 130 [.v (.int .i64 d)] fun r => r = .v (.complex .f64 (U d).1 (U d).2) := by
  refine Fun.of_awpI Try.func130 rfl cal130 Try.ntmps130 (by simp) fun hwf => ?_
  simp only [D.wfs, D.wf, ints_length, ints_wfs, rows_length, rows_wfs, capMax, and_true, true_and] at hwf
  repeat' (first | simp only [go_sem, ofVal_cx, Ret_eq Try.results130] | fail)
  refine awpI_for d (fun k => True) (fun k => [(3, .v (.complex .f64 (U k).1 (U k).2)), (5, .v (.int .i64 k))]) (fun _ => []) [4] [] _ (Weak.refl _) trivial ?_ ?_ ?_
  · simp only [go_sem, Ret_eq Try.results130]
    rfl
  · simp only [go_sem, Ret_eq Try.results130]
  · intro k s hk _ hs
    simp only [go_sem, Ret_eq Try.results130] at hs
    by_cases hka : k < d
    · have e := U_step (k := k) (by omega)
      unfold oneW at e
      repeat' (first | simp only [go_sem, hs, e, ofVal_cx, Ret_eq Try.results130] | simp (disch := omega) only [arith, IntKind.bits, capMax, fill_len, elt_fill] | (refine Again.up (by omega) ?_ ?_) | fail)
    · obtain rfl : k = d := by omega
      repeat' (first | simp only [go_sem, hs, ofVal_cx, Ret_eq Try.results130] | simp (disch := omega) only [arith, IntKind.bits, capMax, fill_len, elt_fill] | fail)
def bothErr (a b : Int) : Int := if wayErr a = 0 ∧ wayErr b = 0 then 0 else 1
def bothOut (a b : Int) : Int := if wayErr a = 0 ∧ wayErr b = 0 then bothW a b else 0
theorem both_ok {a b : Int} (h : wayErr a = 0) (h' : wayErr b = 0) : bothErr a b = 0 ∧ bothOut a b = bothW a b := by
  unfold bothErr bothOut; rw [if_pos ⟨h, h'⟩, if_pos ⟨h, h'⟩]; exact ⟨rfl, rfl⟩
theorem both_bad {a b : Int} (h : ¬ (wayErr a = 0 ∧ wayErr b = 0)) : bothErr a b = 1 ∧ bothOut a b = 0 := by
  unfold bothErr bothOut; rw [if_neg h, if_neg h]; exact ⟨rfl, rfl⟩
theorem wayErr_zero {a : Int} (h : wayErr a = 0) : 0 ≤ a ∧ a ≤ maxTwist := by
  unfold wayErr at h
  split at h
  · assumption
  · cases h
theorem wayErr_one {a : Int} (h : wayErr a ≠ 0) : wayErr a = 1 := way_odd fun h' => h (way_even h')
def notOut (a : Int) : Int := if wayErr a = 0 then notW a else 0
theorem notOut_ok {a : Int} (h : wayErr a = 0) : notOut a = notW a := if_pos h
theorem notOut_bad {a : Int} (h : wayErr a ≠ 0) : notOut a = 0 := if_neg h

theorem not_fun (a : Int) : Fun Try.prog 118 [.v (.int .i64 a)] fun r => r = .tup [.v (.int .i64 (notOut a)), .v (.int .i64 (wayErr a))] := by
  refine Fun.of_awpI Try.func118 rfl cal118 Try.ntmps118 (by simp) fun hwf => ?_
  simp only [D.wfs, D.wf, ints_length, ints_wfs, rows_length, rows_wfs, capMax, and_true, true_and] at hwf
  by_cases h : wayErr a = 0
  · have e := not_run (wayErr_zero h)
    rw [h, notOut_ok h]
    repeat' (first | simp only [go_sem, h, e, Ret_eq Try.results118] | simp (disch := omega) only [arith, IntKind.bits, capMax, fill_len, elt_fill] | (refine opCallI_rd (by simp only [go_sem, h, e, Ret_eq Try.results118]; first | done | rfl) (odd_fun a) (by rintro _ rfl; rfl) ?_; rintro _ rfl) | fail)
  · have h1 := wayErr_one h
    rw [h1, notOut_bad h]
    repeat' (first | simp only [go_sem, h1, Ret_eq Try.results118] | simp (disch := omega) only [arith, IntKind.bits, capMax, fill_len, elt_fill] | (refine opCallI_rd (by simp only [go_sem, h1, Ret_eq Try.results118]; first | done | rfl) (odd_fun a) (by rintro _ rfl; rfl) ?_; rintro _ rfl) | fail)
    all_goals rfl
end Go.Proofs.Ytpkampecmlpfmaa.T
