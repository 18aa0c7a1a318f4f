import Derived.Test.YtfmeiapglpphpaaDoorDARead1
import Derived.Test.YtfmeiapglpphpaaDoorDAReadM
set_option linter.unusedSimpArgs false
set_option linter.unusedVariables false
/- What is asked, read, walked. -/
namespace Go.Proofs.YtfmeiapglpphpaaDoor.T
open Go Go.VL Go.Proofs
set_option maxRecDepth 100000
set_option maxHeartbeats 8000000
abbrev zeroAsk : D := .agg [.v (.int .i64 0), .v (.int .i64 0), .v (.int .i64 0), .v (.int .i64 0), .v (.slice none 0 0)]
def ReadR (b : List Int) (dim slots : Int) (r : D) (o : Option Own) : Prop :=
  (readErr b dim slots ≠ 0 ∧ r = .tup [zeroAsk, .v (.int .i64 (readErr b dim slots))] ∧ o = none) ∨
  (readErr b dim slots = 0 ∧ (rV b).length = 0 ∧ r = .tup [.agg [.v (.int .i64 (b.getD 0 0)), .v (.int .i64 (rId b)), .v (.int .i64 (rK b)), .v (.int .i64 (rSeed b)), .v (.slice none 0 0)], .v (.int .i64 0)] ∧ o = none) ∨
  (readErr b dim slots = 0 ∧ 0 < (rV b).length ∧ r = .tup [.agg [.v (.int .i64 (b.getD 0 0)), .v (.int .i64 (rId b)), .v (.int .i64 (rK b)), .v (.int .i64 (rSeed b)), .ref 0 (rV b).length], .v (.int .i64 0)] ∧ o = some ⟨38, 1, ints .i16 (rV b)⟩)
theorem ReadR.bad {b : List Int} {dim slots e : Int} (h : readErr b dim slots = e) (he : e ≠ 0) : ReadR b dim slots (.tup [zeroAsk, .v (.int .i64 e)]) none := .inl ⟨by rw [h]; exact he, by rw [h], rfl⟩
theorem ReadR.own {b : List Int} {dim slots i n s : Int} {v : List Int} (h : readErr b dim slots = 0) (e0 : rId b = i) (e1 : rK b = n) (e2 : rSeed b = s) (ev : rV b = v) (hv : 0 < v.length) :
    ReadR b dim slots (.tup [.agg [.v (.int .i64 (b.getD 0 0)), .v (.int .i64 i), .v (.int .i64 n), .v (.int .i64 s), .ref 0 v.length], .v (.int .i64 0)]) (some ⟨38, 1, ints .i16 v⟩) := by
  subst e0 e1 e2 ev; exact .inr (.inr ⟨h, hv, rfl, rfl⟩)
theorem ReadR.none {b : List Int} {dim slots i n s : Int} {v : List Int} (h : readErr b dim slots = 0) (e0 : rId b = i) (e1 : rK b = n) (e2 : rSeed b = s) (ev : rV b = v) (hv : v.length = 0) :
    ReadR b dim slots (.tup [.agg [.v (.int .i64 (b.getD 0 0)), .v (.int .i64 i), .v (.int .i64 n), .v (.int .i64 s), .v (.slice none 0 0)], .v (.int .i64 0)]) none := by
  subst e0 e1 e2 ev; exact .inr (.inl ⟨h, hv, rfl, rfl⟩)

theorem read18_sizes (b : List Int) (dim slots : Int) (h : ¬ sizesOk dim slots) : FunO Tryd.prog 9 [.lst (ints .u8 b), .v (.int .i64 dim), .v (.int .i64 slots)] (ReadR b dim slots) := by
  have sz := sizes18_fun dim slots
  rw [decide_eq_false h] at sz
  have he : readErr b dim slots = 1 := if_pos h
  refine FunO.of_awpI Tryd.func9 rfl cal9 Tryd.ntmps9 (by simp) fun hwf => ?_
  simp only [D.wfs, D.wf, ints_length, ints_wfs, rows_length, rows_wfs, capMax, and_true, true_and] at hwf
  repeat' (first | simp only [go_sem, Ret_eq Tryd.results9] | simp (disch := omega) only [arith, IntKind.bits, capMax, fill_len, elt_fill] | (with_reducible refine condI_beq (fun hq hqb => ?_) (fun hq hqb => ?_) <;> simp only [KP_mk, hqb]) | (with_reducible refine condI_bne (fun hq hqb => ?_) (fun hq hqb => ?_) <;> simp only [KP_mk, hqb]) | (with_reducible refine condI_dec (fun hq hqb => ?_) (fun hq hqb => ?_) <;> simp only [KP_mk, hqb]) | (with_reducible refine condI_b (fun hqb => ?_) (fun hqb => ?_) <;> simp only [KP_mk, hqb]) | refine RetO_calc Tryd.results9 ?_ | refine RetL_calc Tryd.results9 rfl ?_ | (refine awpI_draw2 (id := 5) (.cal 0 [10, 11] (.cal 1 [10, 11] (.cal 2 [10, 11] (.cal 3 [10, 11] (.cal 4 [10, 11] (.fam 5 [10, 11, 12] [0, 8, 9] [39] (.one true 6 (.one true 7 (.one true 8 (.one true 9 (.two 10 11 (.only 11 (.only 12 (.only 13 .done))) (.only 10 (.only 12 (.only 13 .done)))))))))))))) mixed (by decide +kernel) (by decide +kernel) ?_) | (refine awpI_draw2 (id := 9) (.one false 0 (.one false 1 (.one false 2 (.mv 4 (.mv 8 (.fam 5 [3] [3, 10, 51] [48, 50] (.fam 6 [3] [3, 10, 51] [48, 50] (.fam 9 [3, 7] [3, 10, 51, 55] [48, 50, 52, 54] (.fam 10 [3, 7] [3, 10, 51, 55] [48, 50, 52, 54] (.only 3 (.fam 12 [7, 11] [3, 10, 55, 59] [52, 54, 56, 58] (.only 7 (.only 11 (.only 13 (.one false 14 (.only 15 (.one false 16 (.only 17 .done)))))))))))))))))) mixed (by decide +kernel) (by decide +kernel) ?_) | (refine sch2I_two ?_ ?_) | (refine Again.up (by omega) ?_ ?_) | exact trivial | (refine opCallI_rd (by simp only [go_sem, Ret_eq Tryd.results9]; first | done | rfl) (sz) (by rintro _ rfl; rfl) ?_; rintro _ rfl) | (refine opCallI_gv (by simp only [go_sem, Ret_eq Tryd.results9]; first | done | rfl) (sz) ?_; rintro _ rfl) | fail)
  exact ReadR.bad he (by decide)
theorem read18_head (b : List Int) (dim slots : Int) (ho : Octets b) (h : sizesOk dim slots) (hf : ¬ (1 ≤ b.length ∧ kindOk (b.getD 0 0))) : FunO Tryd.prog 9 [.lst (ints .u8 b), .v (.int .i64 dim), .v (.int .i64 slots)] (ReadR b dim slots) := by
  have sz := sizes18_fun dim slots
  rw [decide_eq_true h] at sz
  have he : readErr b dim slots = 2 := by unfold readErr; rw [if_neg (fun q => q h), if_pos (fun q => hf ⟨q.1, q.2.1⟩)]
  by_cases h0 : b.length = 0
  · skip
    refine FunO.of_awpI Tryd.func9 rfl cal9 Tryd.ntmps9 (by simp) fun hwf => ?_
    simp only [D.wfs, D.wf, ints_length, ints_wfs, rows_length, rows_wfs, capMax, and_true, true_and] at hwf
    repeat' (first | simp only [go_sem, h0, beq_self_eq_true, Ret_eq Tryd.results9] | simp (disch := omega) only [arith, IntKind.bits, capMax, fill_len, elt_fill] | (with_reducible refine condI_beq (fun hq hqb => ?_) (fun hq hqb => ?_) <;> simp only [KP_mk, hqb]) | (with_reducible refine condI_bne (fun hq hqb => ?_) (fun hq hqb => ?_) <;> simp only [KP_mk, hqb]) | (with_reducible refine condI_dec (fun hq hqb => ?_) (fun hq hqb => ?_) <;> simp only [KP_mk, hqb]) | (with_reducible refine condI_b (fun hqb => ?_) (fun hqb => ?_) <;> simp only [KP_mk, hqb]) | refine RetO_calc Tryd.results9 ?_ | refine RetL_calc Tryd.results9 rfl ?_ | (refine awpI_draw2 (id := 5) (.cal 0 [10, 11] (.cal 1 [10, 11] (.cal 2 [10, 11] (.cal 3 [10, 11] (.cal 4 [10, 11] (.fam 5 [10, 11, 12] [0, 8, 9] [39] (.one true 6 (.one true 7 (.one true 8 (.one true 9 (.two 10 11 (.only 11 (.only 12 (.only 13 .done))) (.only 10 (.only 12 (.only 13 .done)))))))))))))) mixed (by decide +kernel) (by decide +kernel) ?_) | (refine awpI_draw2 (id := 9) (.one false 0 (.one false 1 (.one false 2 (.mv 4 (.mv 8 (.fam 5 [3] [3, 10, 51] [48, 50] (.fam 6 [3] [3, 10, 51] [48, 50] (.fam 9 [3, 7] [3, 10, 51, 55] [48, 50, 52, 54] (.fam 10 [3, 7] [3, 10, 51, 55] [48, 50, 52, 54] (.only 3 (.fam 12 [7, 11] [3, 10, 55, 59] [52, 54, 56, 58] (.only 7 (.only 11 (.only 13 (.one false 14 (.only 15 (.one false 16 (.only 17 .done)))))))))))))))))) mixed (by decide +kernel) (by decide +kernel) ?_) | (refine sch2I_two ?_ ?_) | (refine Again.up (by omega) ?_ ?_) | exact trivial | (refine opCallI_rd (by simp only [go_sem, h0, beq_self_eq_true, Ret_eq Tryd.results9]; first | done | rfl) (sz) (by rintro _ rfl; rfl) ?_; rintro _ rfl) | (refine opCallI_gv (by simp only [go_sem, h0, beq_self_eq_true, Ret_eq Tryd.results9]; first | done | rfl) (sz) ?_; rintro _ rfl) | fail)
    exact ReadR.bad he (by decide)
  · have hb : ((b.length : Int) == 0) = false := beq_eq_false_iff_ne.2 (by omega)
    have h8 := ho _ (getD_mem (d := 0) (show 0 < b.length by omega))
    have hk : ¬ (1 ≤ b.getD 0 0 ∧ b.getD 0 0 ≤ 8) := fun q => hf ⟨by omega, q⟩
    have wk := within18_fun (b.getD 0 0) 1 8
    rw [decide_eq_false hk] at wk
    refine FunO.of_awpI Tryd.func9 rfl cal9 Tryd.ntmps9 (by simp) fun hwf => ?_
    simp only [D.wfs, D.wf, ints_length, ints_wfs, rows_length, rows_wfs, capMax, and_true, true_and] at hwf
    repeat' (first | simp only [go_sem, hb, Ret_eq Tryd.results9] | simp (disch := omega) only [arith, IntKind.bits, capMax, fill_len, elt_fill] | (with_reducible refine condI_beq (fun hq hqb => ?_) (fun hq hqb => ?_) <;> simp only [KP_mk, hqb]) | (with_reducible refine condI_bne (fun hq hqb => ?_) (fun hq hqb => ?_) <;> simp only [KP_mk, hqb]) | (with_reducible refine condI_dec (fun hq hqb => ?_) (fun hq hqb => ?_) <;> simp only [KP_mk, hqb]) | (with_reducible refine condI_b (fun hqb => ?_) (fun hqb => ?_) <;> simp only [KP_mk, hqb]) | refine RetO_calc Tryd.results9 ?_ | refine RetL_calc Tryd.results9 rfl ?_ | (refine awpI_draw2 (id := 5) (.cal 0 [10, 11] (.cal 1 [10, 11] (.cal 2 [10, 11] (.cal 3 [10, 11] (.cal 4 [10, 11] (.fam 5 [10, 11, 12] [0, 8, 9] [39] (.one true 6 (.one true 7 (.one true 8 (.one true 9 (.two 10 11 (.only 11 (.only 12 (.only 13 .done))) (.only 10 (.only 12 (.only 13 .done)))))))))))))) mixed (by decide +kernel) (by decide +kernel) ?_) | (refine awpI_draw2 (id := 9) (.one false 0 (.one false 1 (.one false 2 (.mv 4 (.mv 8 (.fam 5 [3] [3, 10, 51] [48, 50] (.fam 6 [3] [3, 10, 51] [48, 50] (.fam 9 [3, 7] [3, 10, 51, 55] [48, 50, 52, 54] (.fam 10 [3, 7] [3, 10, 51, 55] [48, 50, 52, 54] (.only 3 (.fam 12 [7, 11] [3, 10, 55, 59] [52, 54, 56, 58] (.only 7 (.only 11 (.only 13 (.one false 14 (.only 15 (.one false 16 (.only 17 .done)))))))))))))))))) mixed (by decide +kernel) (by decide +kernel) ?_) | (refine sch2I_two ?_ ?_) | (refine Again.up (by omega) ?_ ?_) | exact trivial | (refine opCallI_rd (by simp only [go_sem, hb, Ret_eq Tryd.results9]; first | done | rfl) (sz) (by rintro _ rfl; rfl) ?_; rintro _ rfl) | (refine opCallI_gv (by simp only [go_sem, hb, Ret_eq Tryd.results9]; first | done | rfl) (sz) ?_; rintro _ rfl) | (refine opCallI_rd (by simp only [go_sem, hb, Ret_eq Tryd.results9]; first | done | rfl) (wk) (by rintro _ rfl; rfl) ?_; rintro _ rfl) | (refine opCallI_gv (by simp only [go_sem, hb, Ret_eq Tryd.results9]; first | done | rfl) (wk) ?_; rintro _ rfl) | fail)
    exact ReadR.bad he (by decide)
end Go.Proofs.YtfmeiapglpphpaaDoor.T
