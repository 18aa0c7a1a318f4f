import Derived.Test.YtfmeiapglpphpaaCFew
set_option linter.unusedSimpArgs false
set_option linter.unusedVariables false
/- All codes; alive; walked. -/
namespace Go.Proofs.Ytfmeiapglpphpaa.T
open Go Go.VL Go.Proofs
set_option maxRecDepth 100000
set_option maxHeartbeats 4000000
def zeroCode : D := .agg [.v (.bool false), .v (.slice none 0 0)]
theorem ofVal_code : D.ofVal (.agg #[.bool false, .slice none 0 0]) = zeroCode := (rfl)
def zCodes (n : Nat) : List D := List.replicate n zeroCode
theorem zCodes_rep {n : Nat} : List.replicate n (D.agg [.v (.bool false), .v (.slice none 0 0)]) = zCodes n := (rfl)
theorem zCodes_nrms {n : Nat} : D.nrms (zCodes n) = gl codeD (List.replicate n (false, [])) := by
  rw [D.nrms_eq]
  unfold zCodes gl
  rw [List.map_replicate, List.map_replicate]
  rfl
theorem zCodes_noRefs {n : Nat} : D.noRefs (zCodes n) = true := by
  rw [D.noRefs_eq, List.all_eq_true]
  intro d hd
  rw [(List.mem_replicate.1 hd).2]; rfl
theorem zCodes_width {n : Nat} : (zCodes n).all (fun d => d.width == 2) = true := by
  rw [List.all_eq_true]
  intro d hd
  rw [(List.mem_replicate.1 hd).2]; rfl
theorem zCodes_length {n : Nat} : (zCodes n).length = n := by simp [zCodes]
theorem zCodes_kills {n id : Nat} : D.kills id (zCodes n) = zCodes n := D.noRef_kill id zCodes_noRefs
theorem zeroCode_ok : zeroCode.storable = true ∧ zeroCode.width = 2 := ⟨rfl, rfl⟩
attribute [go_sem] ofVal_code zCodes_rep zCodes_nrms zCodes_noRefs zCodes_width zCodes_length zCodes_kills zeroCode_ok
def allC (dim : Int) (ids : List Int) (vecs : List (List Int)) (w0 : Int) (c0 : List (List Int)) (w1 : Int) (c1 : List (List Int)) (cur : Int) : Coder := ⟨dim, ids, vecs, w0, c0, w1, c1, cur⟩

theorem all_fun (dim : Int) (ids : List Int) (vecs : List (List Int)) (w0 : Int) (c0 : List (List Int)) (w1 : Int) (c1 : List (List Int)) (cur : Int) (hr : I16r vecs) (hl : ids.length ≤ 257) :
    Fun Try.prog 104 [slotsD dim ids vecs, .agg [.v (.int .i64 w0), .lst (rows .i16 c0)], .agg [.v (.int .i64 w1), .lst (rows .i16 c1)], .v (.int .i64 cur)] fun r =>
    r = .tup [.lst (gl codeD (writeOut (allC dim ids vecs w0 c0 w1 c1 cur) (List.replicate ids.length (false, [])) 0 ids.length)), .v (.int .i64 (writeErr (allC dim ids vecs w0 c0 w1 c1 cur) (List.replicate ids.length (false, [])) 0 ids.length))] := by
  have hw := write_fun (allC dim ids vecs w0 c0 w1 c1 cur) (List.replicate ids.length (false, [])) 0 ids.length hr (fun x hx => by rw [(List.mem_replicate.1 hx).2]; simp)
  unfold coderD at hw
  generalize writeOut (allC dim ids vecs w0 c0 w1 c1 cur) (List.replicate ids.length (false, [])) 0 ids.length = O at *
  generalize writeErr (allC dim ids vecs w0 c0 w1 c1 cur) (List.replicate ids.length (false, [])) 0 ids.length = E at *
  simp only [allC] at hw
  refine Fun.of_awpI Try.func104 rfl cal104 Try.ntmps104 (by simp) fun hwf => ?_
  simp only [D.wfs, D.wf, ints_length, ints_wfs, rows_length, rows_wfs, capMax, and_true, true_and] at hwf
  repeat' (first | simp only [go_sem, Nat.reduceEqDiff, Nat.reduceAdd, Nat.reduceLT, Nat.reduceMul, Nat.reduceSub, ↓reduceIte, reduceCtorEq, Nat.reduceLeDiff, Nat.reduceBEq, Int.reduceBEq, Int.reduceBNe, Int.reduceLT, Int.reduceLE, Int.reduceToNat, Int.reduceGT, Int.reduceGE, Int.reduceEq, Int.reducePow, Nat.reducePow, Int.toNat_natCast, List.take_replicate, Nat.min_self, List.length_replicate, Ret_eq Try.results104] | simp (disch := omega) only [arith, IntKind.bits, capMax, fill_len, elt_fill] | (with_reducible refine condI_beq (fun hq hqb => ?_) (fun hq hqb => ?_) <;> simp only [KP_mk, hqb]) | (with_reducible refine condI_bne (fun hq hqb => ?_) (fun hq hqb => ?_) <;> simp only [KP_mk, hqb]) | (with_reducible refine condI_dec (fun hq hqb => ?_) (fun hq hqb => ?_) <;> simp only [KP_mk, hqb]) | (with_reducible refine condI_b (fun hqb => ?_) (fun hqb => ?_) <;> simp only [KP_mk, hqb]) | refine RetO_calc Try.results104 ?_ | refine RetL_calc Try.results104 rfl ?_ | (refine awpI_draw2 (id := 2) (.one false 5 (.cal 0 [6] (.cal 1 [6] (.cal 2 [6] (.cal 3 [6] (.cal 4 [6] (.cal 7 [6] (.only 6 (.only 8 (.one false 9 (.one false 10 (.one false 11 (.one false 12 .done))))))))))))) mixed (by decide +kernel) (by decide +kernel) ?_) | (refine Again.up (by omega) ?_ ?_) | exact trivial | (refine opCallI_rd (by simp only [go_sem, Nat.reduceEqDiff, Nat.reduceAdd, Nat.reduceLT, Nat.reduceMul, Nat.reduceSub, ↓reduceIte, reduceCtorEq, Nat.reduceLeDiff, Nat.reduceBEq, Int.reduceBEq, Int.reduceBNe, Int.reduceLT, Int.reduceLE, Int.reduceToNat, Int.reduceGT, Int.reduceGE, Int.reduceEq, Int.reducePow, Nat.reducePow, Int.toNat_natCast, List.take_replicate, Nat.min_self, List.length_replicate, Ret_eq Try.results104]; first | done | rfl) (hw) (by rintro _ rfl; rfl) ?_; rintro _ rfl) | (refine opCallI_gv (by simp only [go_sem, Nat.reduceEqDiff, Nat.reduceAdd, Nat.reduceLT, Nat.reduceMul, Nat.reduceSub, ↓reduceIte, reduceCtorEq, Nat.reduceLeDiff, Nat.reduceBEq, Int.reduceBEq, Int.reduceBNe, Int.reduceLT, Int.reduceLE, Int.reduceToNat, Int.reduceGT, Int.reduceGE, Int.reduceEq, Int.reducePow, Nat.reducePow, Int.toNat_natCast, List.take_replicate, Nat.min_self, List.length_replicate, Ret_eq Try.results104]; first | done | rfl) (hw) ?_; rintro _ rfl) | fail)
end Go.Proofs.Ytfmeiapglpphpaa.T
