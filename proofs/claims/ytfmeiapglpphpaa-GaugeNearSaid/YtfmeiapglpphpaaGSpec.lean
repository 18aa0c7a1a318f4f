import Derived.Test.YtfmeiapglpphpaaQMath
import Derived.Test.YtfmeiapglpphpaaG1P
import Derived.Test.YtfmeiapglpphpaaLB
set_option linter.unusedSimpArgs false
set_option linter.unusedVariables false
/- How far a code may be: places, walked. -/
namespace Go.Proofs.Ytfmeiapglpphpaa.T
open Go Go.VL Go.Proofs
set_option maxRecDepth 100000
set_option maxHeartbeats 4000000
abbrev Place := Int × Int × Int
def placeD (p : Place) : D := .agg [.v (.int .i64 p.1), .v (.int .i64 p.2.1), .v (.int .i64 p.2.2)]
instance : PlainD placeD 3 := ⟨fun _ => rfl, fun _ => rfl, fun _ => rfl, fun _ => rfl⟩
theorem place_get {l : List Place} {i : Nat} (h : i < l.length) : (gl placeD l)[i]? = some (.agg [.v (.int .i64 (l.getD i (0, 0, 0)).1), .v (.int .i64 (l.getD i (0, 0, 0)).2.1), .v (.int .i64 (l.getD i (0, 0, 0)).2.2)]) := gl_get h
theorem place_set {l : List Place} {i : Nat} {a b c : Int} : (gl placeD l).set i (.agg [.v (.int .i64 a), .v (.int .i64 b), .v (.int .i64 c)]) = gl placeD (l.set i (a, b, c)) := gl_set (x := (a, b, c))
theorem place_replicate {n : Nat} {a b c : Int} : List.replicate n (D.agg [.v (.int .i64 a), .v (.int .i64 b), .v (.int .i64 c)]) = gl placeD (List.replicate n (a, b, c)) := gl_replicate (f := placeD) (x := (a, b, c))
def far (x lo hi : Int) : Int := mx (mx (lo - x) (x - hi)) 0
def most (x lo hi : Int) : Int := mx (mx (mx (x - lo) (hi - x)) (lo - x)) (x - hi)
def near (x lo hi : Int) : Int := mn (mx x lo) hi

theorem far_fun (x lo hi : Int) (h1 : -32768 ≤ x ∧ x ≤ 32768) (h2 : -32768 ≤ lo ∧ lo ≤ 32768) (h3 : -32768 ≤ hi ∧ hi ≤ 32768) : Fun Try.prog 137 [.agg [.v (.int .i64 x), .v (.int .i64 lo), .v (.int .i64 hi)]] fun r => r = .v (.int .i64 (far x lo hi)) := by
  refine Fun.of_awpI Try.func137 rfl cal137 Try.ntmps137 (by simp) fun hwf => ?_
  simp only [D.wfs, D.wf, ints_length, ints_wfs, rows_length, rows_wfs, capMax, and_true, true_and] at hwf
  repeat' (first | simp only [go_sem, Nat.reduceEqDiff, Nat.reduceAdd, Nat.reduceLT, Nat.reduceMul, Nat.reduceSub, ↓reduceIte, reduceCtorEq, Nat.reduceLeDiff, Nat.reduceBEq, Int.reduceBEq, Int.reduceBNe, Int.reduceLT, Int.reduceLE, Int.reduceToNat, Int.reduceGT, Int.reduceGE, Int.reduceEq, Int.reducePow, Nat.reducePow, Ret_eq Try.results137] | simp (disch := omega) only [arith, IntKind.bits, capMax, fill_len, elt_fill] | (with_reducible refine condI_beq (fun hq hqb => ?_) (fun hq hqb => ?_) <;> simp only [KP_mk, hqb]) | (with_reducible refine condI_bne (fun hq hqb => ?_) (fun hq hqb => ?_) <;> simp only [KP_mk, hqb]) | (with_reducible refine condI_dec (fun hq hqb => ?_) (fun hq hqb => ?_) <;> simp only [KP_mk, hqb]) | (with_reducible refine condI_b (fun hqb => ?_) (fun hqb => ?_) <;> simp only [KP_mk, hqb]) | refine RetO_calc Try.results137 ?_ | (refine Again.up (by omega) ?_ ?_) | exact trivial | fail)
  rfl

theorem most_fun (x lo hi : Int) (h1 : -32768 ≤ x ∧ x ≤ 32768) (h2 : -32768 ≤ lo ∧ lo ≤ 32768) (h3 : -32768 ≤ hi ∧ hi ≤ 32768) : Fun Try.prog 138 [.agg [.v (.int .i64 x), .v (.int .i64 lo), .v (.int .i64 hi)]] fun r => r = .v (.int .i64 (most x lo hi)) := by
  refine Fun.of_awpI Try.func138 rfl cal138 Try.ntmps138 (by simp) fun hwf => ?_
  simp only [D.wfs, D.wf, ints_length, ints_wfs, rows_length, rows_wfs, capMax, and_true, true_and] at hwf
  repeat' (first | simp only [go_sem, Nat.reduceEqDiff, Nat.reduceAdd, Nat.reduceLT, Nat.reduceMul, Nat.reduceSub, ↓reduceIte, reduceCtorEq, Nat.reduceLeDiff, Nat.reduceBEq, Int.reduceBEq, Int.reduceBNe, Int.reduceLT, Int.reduceLE, Int.reduceToNat, Int.reduceGT, Int.reduceGE, Int.reduceEq, Int.reducePow, Nat.reducePow, Ret_eq Try.results138] | simp (disch := omega) only [arith, IntKind.bits, capMax, fill_len, elt_fill] | (with_reducible refine condI_beq (fun hq hqb => ?_) (fun hq hqb => ?_) <;> simp only [KP_mk, hqb]) | (with_reducible refine condI_bne (fun hq hqb => ?_) (fun hq hqb => ?_) <;> simp only [KP_mk, hqb]) | (with_reducible refine condI_dec (fun hq hqb => ?_) (fun hq hqb => ?_) <;> simp only [KP_mk, hqb]) | (with_reducible refine condI_b (fun hqb => ?_) (fun hqb => ?_) <;> simp only [KP_mk, hqb]) | refine RetO_calc Try.results138 ?_ | (refine Again.up (by omega) ?_ ?_) | exact trivial | fail)
  rfl

theorem near_fun (x lo hi : Int) : Fun Try.prog 146 [.agg [.v (.int .i64 x), .v (.int .i64 lo), .v (.int .i64 hi)]] fun r => r = .v (.int .i64 (near x lo hi)) := by
  refine Fun.of_awpI Try.func146 rfl cal146 Try.ntmps146 (by simp) fun hwf => ?_
  simp only [D.wfs, D.wf, ints_length, ints_wfs, rows_length, rows_wfs, capMax, and_true, true_and] at hwf
  repeat' (first | simp only [go_sem, Nat.reduceEqDiff, Nat.reduceAdd, Nat.reduceLT, Nat.reduceMul, Nat.reduceSub, ↓reduceIte, reduceCtorEq, Nat.reduceLeDiff, Nat.reduceBEq, Int.reduceBEq, Int.reduceBNe, Int.reduceLT, Int.reduceLE, Int.reduceToNat, Int.reduceGT, Int.reduceGE, Int.reduceEq, Int.reducePow, Nat.reducePow, Ret_eq Try.results146] | simp (disch := omega) only [arith, IntKind.bits, capMax, fill_len, elt_fill] | (with_reducible refine condI_beq (fun hq hqb => ?_) (fun hq hqb => ?_) <;> simp only [KP_mk, hqb]) | (with_reducible refine condI_bne (fun hq hqb => ?_) (fun hq hqb => ?_) <;> simp only [KP_mk, hqb]) | (with_reducible refine condI_dec (fun hq hqb => ?_) (fun hq hqb => ?_) <;> simp only [KP_mk, hqb]) | (with_reducible refine condI_b (fun hqb => ?_) (fun hqb => ?_) <;> simp only [KP_mk, hqb]) | refine RetO_calc Try.results146 ?_ | (refine Again.up (by omega) ?_ ?_) | exact trivial | fail)
  rfl
end Go.Proofs.Ytfmeiapglpphpaa.T
