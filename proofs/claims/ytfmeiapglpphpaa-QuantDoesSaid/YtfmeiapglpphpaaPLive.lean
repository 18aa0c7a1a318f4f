import Derived.Test.YtfmeiapglpphpaaPTake
set_option linter.unusedSimpArgs false
set_option linter.unusedVariables false
/- The law's guard. -/
namespace Go.Proofs.Ytfmeiapglpphpaa.T
open Go Go.VL Go.Proofs
set_option maxRecDepth 100000
theorem Fun.cast {P : Program} {f : FuncId} {a b : List D} {R : D → Prop} (h : a = b) (hf : Fun P f b R) : Fun P f a R := h ▸ hf
def putRead (b : List Int) (w : Int) (l : List Int) : List Int := if putErr b w l = 0 then putOut b w l else []
theorem put_read (b : List Int) (width : Int) (l : List Int) : Fun Try.prog 37 [.lst (ints .u8 b), .v (.int .i64 width), .lst (ints .i64 l)] fun r =>
    r = .tup [.lst (ints .u8 (putRead b width l)), .v (.int .i64 (putErr b width l))] := by
  refine (put_fun b width l).toFun ?_
  rintro r o (⟨h1, rfl, rfl⟩ | ⟨h1, rfl, rfl⟩)
  · simp only [D.nrm, D.nrms, nilV, putRead, if_neg h1, ints_nil, if_true, Bool.false_eq_true, if_false]
  · simp only [putRead, h1, if_true, ints_nrms, ints_width1, D.frz, D.frzs, D.noRef, D.noRefs, D.nrm, D.nrms, nilV, ints_length, Nat.le_refl, ints_take, List.take_length, Bool.and_self, Bool.false_eq_true, if_false, and_self]

theorem live_fun : Fun Try.prog 36 [] fun r => r = .v (.bool true) := by
  refine Fun.of_awpI Try.func36 rfl cal36 Try.ntmps36 (by simp) fun hwf => ?_
  simp only [go_sem, Nat.reduceEqDiff, Nat.reduceAdd, Nat.reduceLT, Nat.reduceMul, Nat.reduceSub, ↓reduceIte, reduceCtorEq, Nat.reduceLeDiff, Nat.reduceBEq, Int.reduceBEq, Int.reduceBNe, Int.reduceLT, Int.reduceLE, Int.reduceToNat, Int.reduceGT, Int.reduceGE, Int.reduceEq, Int.reducePow, Nat.reducePow, Ret_eq Try.results36]
  refine opCallI_plain (by simp only [go_sem, Nat.reduceEqDiff, Nat.reduceAdd, Nat.reduceLT, Nat.reduceMul, Nat.reduceSub, ↓reduceIte, reduceCtorEq, Nat.reduceLeDiff, Nat.reduceBEq, Int.reduceBEq, Int.reduceBNe, Int.reduceLT, Int.reduceLE, Int.reduceToNat, Int.reduceGT, Int.reduceGE, Int.reduceEq, Int.reducePow, Nat.reducePow, Ret_eq Try.results36]) (by simp only [go_sem, Nat.reduceEqDiff, Nat.reduceAdd, Nat.reduceLT, Nat.reduceMul, Nat.reduceSub, ↓reduceIte, reduceCtorEq, Nat.reduceLeDiff, Nat.reduceBEq, Int.reduceBEq, Int.reduceBNe, Int.reduceLT, Int.reduceLE, Int.reduceToNat, Int.reduceGT, Int.reduceGE, Int.reduceEq, Int.reducePow, Nat.reducePow, Ret_eq Try.results36]) (Fun.cast (by simp only [go_sem, Nat.reduceEqDiff, Nat.reduceAdd, Nat.reduceLT, Nat.reduceMul, Nat.reduceSub, ↓reduceIte, reduceCtorEq, Nat.reduceLeDiff, Nat.reduceBEq, Int.reduceBEq, Int.reduceBNe, Int.reduceLT, Int.reduceLE, Int.reduceToNat, Int.reduceGT, Int.reduceGE, Int.reduceEq, Int.reducePow, Nat.reducePow, ints_cons, Ret_eq Try.results36]) (put_read [] 2 [-2])) ?_
  rintro _ rfl
  have p1 : putErr [] 2 [-2] = 0 := by decide +kernel
  have p2 : putRead [] 2 [-2] = [254, 255] := by decide +kernel
  have t1 : takeErr [254, 255] 2 1 = 0 := by decide +kernel
  have t2 : takeOut [254, 255] 2 1 = [-2] := by decide +kernel
  have t3 : takeRest [254, 255] 2 1 = [] := by decide +kernel
  simp only [go_sem, Nat.reduceEqDiff, Nat.reduceAdd, Nat.reduceLT, Nat.reduceMul, Nat.reduceSub, ↓reduceIte, reduceCtorEq, Nat.reduceLeDiff, Nat.reduceBEq, Int.reduceBEq, Int.reduceBNe, Int.reduceLT, Int.reduceLE, Int.reduceToNat, Int.reduceGT, Int.reduceGE, Int.reduceEq, Int.reducePow, Nat.reducePow, p1, p2, ints_cons, Ret_eq Try.results36]
  refine opCallI_plain (by simp only [go_sem, Nat.reduceEqDiff, Nat.reduceAdd, Nat.reduceLT, Nat.reduceMul, Nat.reduceSub, ↓reduceIte, reduceCtorEq, Nat.reduceLeDiff, Nat.reduceBEq, Int.reduceBEq, Int.reduceBNe, Int.reduceLT, Int.reduceLE, Int.reduceToNat, Int.reduceGT, Int.reduceGE, Int.reduceEq, Int.reducePow, Nat.reducePow, Ret_eq Try.results36]) (by simp only [go_sem, Nat.reduceEqDiff, Nat.reduceAdd, Nat.reduceLT, Nat.reduceMul, Nat.reduceSub, ↓reduceIte, reduceCtorEq, Nat.reduceLeDiff, Nat.reduceBEq, Int.reduceBEq, Int.reduceBNe, Int.reduceLT, Int.reduceLE, Int.reduceToNat, Int.reduceGT, Int.reduceGE, Int.reduceEq, Int.reducePow, Nat.reducePow, Ret_eq Try.results36]) (Fun.cast (by simp only [go_sem, Nat.reduceEqDiff, Nat.reduceAdd, Nat.reduceLT, Nat.reduceMul, Nat.reduceSub, ↓reduceIte, reduceCtorEq, Nat.reduceLeDiff, Nat.reduceBEq, Int.reduceBEq, Int.reduceBNe, Int.reduceLT, Int.reduceLE, Int.reduceToNat, Int.reduceGT, Int.reduceGE, Int.reduceEq, Int.reducePow, Nat.reducePow, ints_cons, Ret_eq Try.results36]) (take_fun [254, 255] 2 1 (by decide))) ?_
  rintro _ rfl
  simp only [go_sem, Nat.reduceEqDiff, Nat.reduceAdd, Nat.reduceLT, Nat.reduceMul, Nat.reduceSub, ↓reduceIte, reduceCtorEq, Nat.reduceLeDiff, Nat.reduceBEq, Int.reduceBEq, Int.reduceBNe, Int.reduceLT, Int.reduceLE, Int.reduceToNat, Int.reduceGT, Int.reduceGE, Int.reduceEq, Int.reducePow, Nat.reducePow, t1, t2, t3, ints_cons, Ret_eq Try.results36]
end Go.Proofs.Ytfmeiapglpphpaa.T
