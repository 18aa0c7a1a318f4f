import Derived.Test.YtfmeiapglpphpaaDoorDAWrite
import Derived.Test.YtfmeiapglpphpaaDoorDPTakeO
set_option linter.unusedSimpArgs false
set_option linter.unusedVariables false
/- Numbers read out of what is asked, one by one, walked. -/
namespace Go.Proofs.YtfmeiapglpphpaaDoor.T
open Go Go.VL Go.Proofs
set_option maxRecDepth 100000
set_option maxHeartbeats 4000000

theorem numbers18_fun (b : List Int) (w n : Int) (hb : b.length ≤ 140737488355328) : Fun Tryd.prog 24 [.lst (ints .u8 b), .v (.int .i64 w), .v (.int .i64 n)] fun r =>
    r = .tup [.lst (ints .i64 (takeOut b w n)), .lst (ints .u8 (takeRest b w n)), .v (.bool (decide (takeErr b w n = 0)))] := by
  have ht := take_fun b w n hb
  by_cases h : takeErr b w n = 0
  · rw [decide_eq_true h]
    rw [h] at ht
    refine Fun.of_awpI Tryd.func24 rfl cal24 Tryd.ntmps24 (by simp) fun hwf => ?_
    simp only [D.wfs, D.wf, ints_length, ints_wfs, rows_length, rows_wfs, capMax, and_true, true_and] at hwf
    repeat' (first | simp only [go_sem, beq_self_eq_true, Ret_eq Tryd.results24] | simp (disch := omega) only [arith, IntKind.bits, capMax, fill_len, elt_fill] | (with_reducible refine condI_beq (fun hq hqb => ?_) (fun hq hqb => ?_) <;> simp only [KP_mk, hqb]) | (with_reducible refine condI_bne (fun hq hqb => ?_) (fun hq hqb => ?_) <;> simp only [KP_mk, hqb]) | (with_reducible refine condI_dec (fun hq hqb => ?_) (fun hq hqb => ?_) <;> simp only [KP_mk, hqb]) | (with_reducible refine condI_b (fun hqb => ?_) (fun hqb => ?_) <;> simp only [KP_mk, hqb]) | refine RetO_calc Tryd.results24 ?_ | refine RetL_calc Tryd.results24 rfl ?_ | (refine Again.up (by omega) ?_ ?_) | exact trivial | (refine opCallI_rd (by simp only [go_sem, beq_self_eq_true, Ret_eq Tryd.results24]; first | done | rfl) (ht) (by rintro _ rfl; rfl) ?_; rintro _ rfl) | (refine opCallI_gv (by simp only [go_sem, beq_self_eq_true, Ret_eq Tryd.results24]; first | done | rfl) (ht) ?_; rintro _ rfl) | fail)
  · rw [decide_eq_false h]
    have hbe : (takeErr b w n == 0) = false := beq_eq_false_iff_ne.2 h
    refine Fun.of_awpI Tryd.func24 rfl cal24 Tryd.ntmps24 (by simp) fun hwf => ?_
    simp only [D.wfs, D.wf, ints_length, ints_wfs, rows_length, rows_wfs, capMax, and_true, true_and] at hwf
    repeat' (first | simp only [go_sem, hbe, Ret_eq Tryd.results24] | simp (disch := omega) only [arith, IntKind.bits, capMax, fill_len, elt_fill] | (with_reducible refine condI_beq (fun hq hqb => ?_) (fun hq hqb => ?_) <;> simp only [KP_mk, hqb]) | (with_reducible refine condI_bne (fun hq hqb => ?_) (fun hq hqb => ?_) <;> simp only [KP_mk, hqb]) | (with_reducible refine condI_dec (fun hq hqb => ?_) (fun hq hqb => ?_) <;> simp only [KP_mk, hqb]) | (with_reducible refine condI_b (fun hqb => ?_) (fun hqb => ?_) <;> simp only [KP_mk, hqb]) | refine RetO_calc Tryd.results24 ?_ | refine RetL_calc Tryd.results24 rfl ?_ | (refine Again.up (by omega) ?_ ?_) | exact trivial | (refine opCallI_rd (by simp only [go_sem, hbe, Ret_eq Tryd.results24]; first | done | rfl) (ht) (by rintro _ rfl; rfl) ?_; rintro _ rfl) | (refine opCallI_gv (by simp only [go_sem, hbe, Ret_eq Tryd.results24]; first | done | rfl) (ht) ?_; rintro _ rfl) | fail)
abbrev boxB (x : Bool) : Own := ⟨4, 1, [.v (.bool x)]⟩
abbrev boxL (l : List Int) : Own := ⟨27, 1, [.lst (ints .u8 l)]⟩

theorem read1_skip (w : Int) (fine : Bool) (b : List Int) (h : w = 0 ∨ fine = false) : FunL Tryd.prog 23 [.v (.int .i64 w), .adr 0 0 0, .adr 1 0 0] [boxB fine, boxL b] fun r os => r = .v (.int .i64 0) ∧ os = [boxB fine, boxL b] := by
  refine FunL.of_awpI [(100000, 0), (100001, 1)] rfl Tryd.func23 rfl cal23 Tryd.ntmps23 (by simp) fun hwf hlw ls => ?_
  simp only [lentWf, D.wfs, D.wf, ints_length, ints_wfs, rows_length, rows_wfs, capMax, and_true, true_and] at hwf hlw
  by_cases hw : w = 0
  · repeat' (first | simp only [go_sem, hw, beq_self_eq_true, Ret_eq Tryd.results23] | simp (disch := omega) only [arith, IntKind.bits, capMax, fill_len, elt_fill] | (with_reducible refine condI_beq (fun hq hqb => ?_) (fun hq hqb => ?_) <;> simp only [KP_mk, hqb]) | (with_reducible refine condI_bne (fun hq hqb => ?_) (fun hq hqb => ?_) <;> simp only [KP_mk, hqb]) | (with_reducible refine condI_dec (fun hq hqb => ?_) (fun hq hqb => ?_) <;> simp only [KP_mk, hqb]) | (with_reducible refine condI_b (fun hqb => ?_) (fun hqb => ?_) <;> simp only [KP_mk, hqb]) | refine RetO_calc Tryd.results23 ?_ | refine RetL_calc Tryd.results23 rfl ?_ | (refine Again.up (by omega) ?_ ?_) | exact trivial | fail)
  · have hbe : (w == 0) = false := beq_eq_false_iff_ne.2 hw
    obtain rfl := h.resolve_left hw
    repeat' (first | simp only [go_sem, hbe, Ret_eq Tryd.results23] | simp (disch := omega) only [arith, IntKind.bits, capMax, fill_len, elt_fill] | (with_reducible refine condI_beq (fun hq hqb => ?_) (fun hq hqb => ?_) <;> simp only [KP_mk, hqb]) | (with_reducible refine condI_bne (fun hq hqb => ?_) (fun hq hqb => ?_) <;> simp only [KP_mk, hqb]) | (with_reducible refine condI_dec (fun hq hqb => ?_) (fun hq hqb => ?_) <;> simp only [KP_mk, hqb]) | (with_reducible refine condI_b (fun hqb => ?_) (fun hqb => ?_) <;> simp only [KP_mk, hqb]) | refine RetO_calc Tryd.results23 ?_ | refine RetL_calc Tryd.results23 rfl ?_ | (refine Again.up (by omega) ?_ ?_) | exact trivial | fail)

theorem read1_bad (w : Int) (b : List Int) (hw : w ≠ 0) (hb : b.length ≤ 140737488355328) (h : takeErr b w 1 ≠ 0) : FunL Tryd.prog 23 [.v (.int .i64 w), .adr 0 0 0, .adr 1 0 0] [boxB true, boxL b] fun r os => r = .v (.int .i64 0) ∧ os = [boxB false, boxL b] := by
  have hn := numbers18_fun b w 1 hb
  rw [decide_eq_false h] at hn
  have hbe : (w == 0) = false := beq_eq_false_iff_ne.2 hw
  refine FunL.of_awpI [(100000, 0), (100001, 1)] rfl Tryd.func23 rfl cal23 Tryd.ntmps23 (by simp) fun hwf hlw ls => ?_
  simp only [lentWf, D.wfs, D.wf, ints_length, ints_wfs, rows_length, rows_wfs, capMax, and_true, true_and] at hwf hlw
  repeat' (first | simp only [go_sem, hbe, Ret_eq Tryd.results23] | simp (disch := omega) only [arith, IntKind.bits, capMax, fill_len, elt_fill] | (with_reducible refine condI_beq (fun hq hqb => ?_) (fun hq hqb => ?_) <;> simp only [KP_mk, hqb]) | (with_reducible refine condI_bne (fun hq hqb => ?_) (fun hq hqb => ?_) <;> simp only [KP_mk, hqb]) | (with_reducible refine condI_dec (fun hq hqb => ?_) (fun hq hqb => ?_) <;> simp only [KP_mk, hqb]) | (with_reducible refine condI_b (fun hqb => ?_) (fun hqb => ?_) <;> simp only [KP_mk, hqb]) | refine RetO_calc Tryd.results23 ?_ | refine RetL_calc Tryd.results23 rfl ?_ | (refine Again.up (by omega) ?_ ?_) | exact trivial | (refine opCallI_rd (by simp only [go_sem, hbe, Ret_eq Tryd.results23]; first | done | rfl) (hn) (by rintro _ rfl; rfl) ?_; rintro _ rfl) | (refine opCallI_gv (by simp only [go_sem, hbe, Ret_eq Tryd.results23]; first | done | rfl) (hn) ?_; rintro _ rfl) | fail)

theorem read1_ok (w : Int) (b : List Int) (hw : w ≠ 0) (hb : b.length ≤ 140737488355328) (h : takeErr b w 1 = 0) : FunL Tryd.prog 23 [.v (.int .i64 w), .adr 0 0 0, .adr 1 0 0] [boxB true, boxL b] fun r os => r = .v (.int .i64 (takeNum w b)) ∧ os = [boxB true, boxL (b.drop w.toNat)] := by
  have hn := numbers18_fun b w 1 hb
  have e1 : takeOut b w 1 = [takeNum w b] := by unfold takeOut; rw [if_pos h]; rfl
  have e2 : takeRest b w 1 = b.drop w.toNat := by unfold takeRest; rw [if_pos h]; simp
  rw [decide_eq_true h, e1, e2] at hn
  have hbe : (w == 0) = false := beq_eq_false_iff_ne.2 hw
  refine FunL.of_awpI [(100000, 0), (100001, 1)] rfl Tryd.func23 rfl cal23 Tryd.ntmps23 (by simp) fun hwf hlw ls => ?_
  simp only [lentWf, D.wfs, D.wf, ints_length, ints_wfs, rows_length, rows_wfs, capMax, and_true, true_and] at hwf hlw
  repeat' (first | simp only [go_sem, hbe, ints_cons, ints_nil, Ret_eq Tryd.results23] | simp (disch := omega) only [arith, IntKind.bits, capMax, fill_len, elt_fill] | (with_reducible refine condI_beq (fun hq hqb => ?_) (fun hq hqb => ?_) <;> simp only [KP_mk, hqb]) | (with_reducible refine condI_bne (fun hq hqb => ?_) (fun hq hqb => ?_) <;> simp only [KP_mk, hqb]) | (with_reducible refine condI_dec (fun hq hqb => ?_) (fun hq hqb => ?_) <;> simp only [KP_mk, hqb]) | (with_reducible refine condI_b (fun hqb => ?_) (fun hqb => ?_) <;> simp only [KP_mk, hqb]) | refine RetO_calc Tryd.results23 ?_ | refine RetL_calc Tryd.results23 rfl ?_ | (refine Again.up (by omega) ?_ ?_) | exact trivial | (refine opCallI_rd (by simp only [go_sem, hbe, ints_cons, ints_nil, Ret_eq Tryd.results23]; first | done | rfl) (hn) (by rintro _ rfl; rfl) ?_; rintro _ rfl) | (refine opCallI_gv (by simp only [go_sem, hbe, ints_cons, ints_nil, Ret_eq Tryd.results23]; first | done | rfl) (hn) ?_; rintro _ rfl) | fail)
end Go.Proofs.YtfmeiapglpphpaaDoor.T
