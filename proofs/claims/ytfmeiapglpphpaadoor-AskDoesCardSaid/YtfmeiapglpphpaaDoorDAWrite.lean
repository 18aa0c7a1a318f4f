import Derived.Test.YtfmeiapglpphpaaDoorDACheck
import Derived.Test.YtfmeiapglpphpaaDoorDAText
import Derived.Test.YtfmeiapglpphpaaDoorDPPut
import Derived.Test.YtfmeiapglpphpaaDoorDVText
set_option linter.unusedSimpArgs false
set_option linter.unusedVariables false
/- What is asked, written, walked. -/
namespace Go.Proofs.YtfmeiapglpphpaaDoor.T
open Go Go.VL Go.Proofs
set_option maxRecDepth 100000
set_option maxHeartbeats 4000000
theorem FunO.mono {P : Program} {f : FuncId} {args : List D} {R R' : D → Option Own → Prop} (h : FunO P f args R) (hr : ∀ r o, R r o → R' r o) : FunO P f args R' :=
  ⟨h.1, fun J w vs hJ hG hv => (h.2 J w vs hJ hG hv).mono fun e w' ⟨y, r, o, h1, h2, h3⟩ => ⟨y, r, o, h1, hr r o h2, h3⟩⟩
theorem put1_fun (k w x : Int) (h : putErr [k] w [x] = 0) : FunO Tryd.prog 19 [.lst [.v (.int .u8 k)], .v (.int .i64 w), .lst [.v (.int .i64 x)]] fun r o =>
    r = .tup [.ref 0 (putOut [k] w [x]).length, .v (.int .i64 0)] ∧ o = some ⟨5, 1, ints .u8 (putOut [k] w [x])⟩ := by
  refine FunO.mono (put_fun [k] w [x]) ?_
  rintro r o (⟨q, _⟩ | ⟨_, h2, h3⟩)
  · exact absurd h q
  · exact ⟨h2, h3⟩
theorem kind_u8 {k : Int} (h : kindOk k) : IntKind.u8.wrap k = k := by
  obtain ⟨h1, h2⟩ := h
  have : k = 1 ∨ k = 2 ∨ k = 3 ∨ k = 4 ∨ k = 5 ∨ k = 6 ∨ k = 7 ∨ k = 8 := by omega
  rcases this with rfl | rfl | rfl | rfl | rfl | rfl | rfl | rfl <;> decide

theorem write18_bad (k id n seed : Int) (v : List Int) (dim slots : Int) (h : askErr k id n seed v dim slots ≠ 0) :
    Fun Tryd.prog 8 [askD k id n seed v, .v (.int .i64 dim), .v (.int .i64 slots)] fun r => r = .tup [.lst [], .v (.int .i64 (askErr k id n seed v dim slots))] := by
  have hc := check18_fun k id n seed v dim slots
  rw [askErr_bad h] at hc ⊢
  refine Fun.of_awpI Tryd.func8 rfl cal8 Tryd.ntmps8 (by simp) fun hwf => ?_
  simp only [D.wfs, D.wf, ints_length, ints_wfs, rows_length, rows_wfs, capMax, and_true, true_and] at hwf
  repeat' (first | simp only [go_sem, Ret_eq Tryd.results8] | simp (disch := omega) only [arith, IntKind.bits, capMax, fill_len, elt_fill] | (with_reducible refine condI_beq (fun hq hqb => ?_) (fun hq hqb => ?_) <;> simp only [KP_mk, hqb]) | (with_reducible refine condI_bne (fun hq hqb => ?_) (fun hq hqb => ?_) <;> simp only [KP_mk, hqb]) | (with_reducible refine condI_dec (fun hq hqb => ?_) (fun hq hqb => ?_) <;> simp only [KP_mk, hqb]) | (with_reducible refine condI_b (fun hqb => ?_) (fun hqb => ?_) <;> simp only [KP_mk, hqb]) | refine RetO_calc Tryd.results8 ?_ | refine RetL_calc Tryd.results8 rfl ?_ | (refine Again.up (by omega) ?_ ?_) | exact trivial | (refine opCallI_rd (by simp only [go_sem, Ret_eq Tryd.results8]; first | done | rfl) (hc) (by rintro _ rfl; rfl) ?_; rintro _ rfl) | (refine opCallI_gv (by simp only [go_sem, Ret_eq Tryd.results8]; first | done | rfl) (hc) ?_; rintro _ rfl) | fail)

theorem write18_ok (k id n seed : Int) (v : List Int) (dim slots : Int) (h : askErr k id n seed v dim slots = 0) (hv : I16s v) :
    Fun Tryd.prog 8 [askD k id n seed v, .v (.int .i64 dim), .v (.int .i64 slots)] fun r => r = .tup [.lst (ints .u8 (askText k id n seed v)), .v (.int .i64 0)] := by
  have hc := check18_fun k id n seed v dim slots
  rw [h] at hc
  obtain ⟨hz, hk, h1, h2, h3, h4⟩ := askErr_ok h
  have hps := part_shapes hk
  have hku := kind_u8 hk
  have hku1 : 1 ≤ k ∧ k ≤ 8 := hk
  unfold askText askHead
  rcases shapes_five hk with ⟨e1, e2, e3, e4⟩ | ⟨e1, e2, e3, e4⟩ | ⟨e1, e2, e3, e4⟩ | ⟨e1, e2, e3, e4⟩ | ⟨e1, e2, e3, e4⟩
  · have hp := put1_fun k 4 id (fit_id e1 h1)
    have hl := put1_len (k := k) (w := 4) (x := id) (by decide)
    unfold vOk at h4
    simp only [e1, e2, e3, e4, if_true, if_false, Bool.false_eq_true, Int.reduceEq, List.append_nil] at hps h4 ⊢
    have hbl : (v.flatMap (octs 2)).length = 2 * v.length := flat_octs_length
    have hve := h4.2
    have hvl := (vecOk_iff.1 (vecErr_zero.1 hve)).2.1
    have hvb := vecBytes_fun v hv
    rw [hve, vecBytes, if_pos hve] at hvb
    generalize v.flatMap (octs 2) = B at *
    generalize putOut [k] 4 [id] = T at *
    refine Fun.of_awpI Tryd.func8 rfl cal8 Tryd.ntmps8 (by simp) fun hwf => ?_
    simp only [D.wfs, D.wf, ints_length, ints_wfs, rows_length, rows_wfs, capMax, and_true, true_and] at hwf
    repeat' (first | simp only [go_sem, hps, shapes_width, hku, Ret_eq Tryd.results8] | simp (disch := omega) only [arith, IntKind.bits, capMax, fill_len, elt_fill] | (with_reducible refine condI_beq (fun hq hqb => ?_) (fun hq hqb => ?_) <;> simp only [KP_mk, hqb]) | (with_reducible refine condI_bne (fun hq hqb => ?_) (fun hq hqb => ?_) <;> simp only [KP_mk, hqb]) | (with_reducible refine condI_dec (fun hq hqb => ?_) (fun hq hqb => ?_) <;> simp only [KP_mk, hqb]) | (with_reducible refine condI_b (fun hqb => ?_) (fun hqb => ?_) <;> simp only [KP_mk, hqb]) | refine RetO_calc Tryd.results8 ?_ | refine RetL_calc Tryd.results8 rfl ?_ | (refine Again.up (by omega) ?_ ?_) | exact trivial | (refine opCallI_rd (by simp only [go_sem, hps, shapes_width, hku, Ret_eq Tryd.results8]; first | done | rfl) (hc) (by rintro _ rfl; rfl) ?_; rintro _ rfl) | (refine opCallI_gv (by simp only [go_sem, hps, shapes_width, hku, Ret_eq Tryd.results8]; first | done | rfl) (hc) ?_; rintro _ rfl) | fail)
    refine awpI_for 3 (fun k => True) (fun j => (48, .v (.int .i64 j)) :: if j ≤ 0 then [(10, .lst [.v (.int .u8 k)])] else [(10, .ref 62 T.length)]) (fun j => if j ≤ 0 then [] else [(62, ⟨5, 1, ints .u8 T⟩)]) [3, 9, 46, 47] [3, 9] _ (Weak.refl _) trivial ?_ ?_ ?_
    · simp only [go_sem, Ret_eq Tryd.results8]
    · simp only [go_sem, Ret_eq Tryd.results8]
    · intro j s hj _ hs
      have : j = 0 ∨ j = 1 ∨ j = 2 ∨ j = 3 := by omega
      rcases this with rfl | rfl | rfl | rfl
      · simp only [go_sem, Ret_eq Tryd.results8] at hs
        repeat' (first | simp only [go_sem, hs, hl, Ret_eq Tryd.results8] | simp (disch := omega) only [arith, IntKind.bits, capMax, fill_len, elt_fill] | (with_reducible refine condI_beq (fun hq hqb => ?_) (fun hq hqb => ?_) <;> simp only [KP_mk, hqb]) | (with_reducible refine condI_bne (fun hq hqb => ?_) (fun hq hqb => ?_) <;> simp only [KP_mk, hqb]) | (with_reducible refine condI_dec (fun hq hqb => ?_) (fun hq hqb => ?_) <;> simp only [KP_mk, hqb]) | (with_reducible refine condI_b (fun hqb => ?_) (fun hqb => ?_) <;> simp only [KP_mk, hqb]) | refine RetO_calc Tryd.results8 ?_ | refine RetL_calc Tryd.results8 rfl ?_ | (refine Again.up (by omega) ?_ ?_) | exact trivial | (refine opCallI_ownGv (by simp only [go_sem, hs, hl, Ret_eq Tryd.results8]; first | done | rfl) (hp) ?_; rintro _ _ ⟨rfl, rfl⟩) | fail)
        all_goals rfl
      · simp only [go_sem, Ret_eq Tryd.results8] at hs
        repeat' (first | simp only [go_sem, hs, hl, Ret_eq Tryd.results8] | simp (disch := omega) only [arith, IntKind.bits, capMax, fill_len, elt_fill] | (with_reducible refine condI_beq (fun hq hqb => ?_) (fun hq hqb => ?_) <;> simp only [KP_mk, hqb]) | (with_reducible refine condI_bne (fun hq hqb => ?_) (fun hq hqb => ?_) <;> simp only [KP_mk, hqb]) | (with_reducible refine condI_dec (fun hq hqb => ?_) (fun hq hqb => ?_) <;> simp only [KP_mk, hqb]) | (with_reducible refine condI_b (fun hqb => ?_) (fun hqb => ?_) <;> simp only [KP_mk, hqb]) | refine RetO_calc Tryd.results8 ?_ | refine RetL_calc Tryd.results8 rfl ?_ | (refine Again.up (by omega) ?_ ?_) | exact trivial | (refine opCallI_ownGv (by simp only [go_sem, hs, hl, Ret_eq Tryd.results8]; first | done | rfl) (hp) ?_; rintro _ _ ⟨rfl, rfl⟩) | fail)
        all_goals rfl
      · simp only [go_sem, Ret_eq Tryd.results8] at hs
        repeat' (first | simp only [go_sem, hs, hl, Ret_eq Tryd.results8] | simp (disch := omega) only [arith, IntKind.bits, capMax, fill_len, elt_fill] | (with_reducible refine condI_beq (fun hq hqb => ?_) (fun hq hqb => ?_) <;> simp only [KP_mk, hqb]) | (with_reducible refine condI_bne (fun hq hqb => ?_) (fun hq hqb => ?_) <;> simp only [KP_mk, hqb]) | (with_reducible refine condI_dec (fun hq hqb => ?_) (fun hq hqb => ?_) <;> simp only [KP_mk, hqb]) | (with_reducible refine condI_b (fun hqb => ?_) (fun hqb => ?_) <;> simp only [KP_mk, hqb]) | refine RetO_calc Tryd.results8 ?_ | refine RetL_calc Tryd.results8 rfl ?_ | (refine Again.up (by omega) ?_ ?_) | exact trivial | (refine opCallI_ownGv (by simp only [go_sem, hs, hl, Ret_eq Tryd.results8]; first | done | rfl) (hp) ?_; rintro _ _ ⟨rfl, rfl⟩) | fail)
        all_goals rfl
      · simp only [go_sem, Ret_eq Tryd.results8] at hs
        repeat' (first | simp only [go_sem, hs, hl, List.length_append, hbl, Ret_eq Tryd.results8] | simp (disch := omega) only [arith, IntKind.bits, capMax, fill_len, elt_fill] | (with_reducible refine condI_beq (fun hq hqb => ?_) (fun hq hqb => ?_) <;> simp only [KP_mk, hqb]) | (with_reducible refine condI_bne (fun hq hqb => ?_) (fun hq hqb => ?_) <;> simp only [KP_mk, hqb]) | (with_reducible refine condI_dec (fun hq hqb => ?_) (fun hq hqb => ?_) <;> simp only [KP_mk, hqb]) | (with_reducible refine condI_b (fun hqb => ?_) (fun hqb => ?_) <;> simp only [KP_mk, hqb]) | refine RetO_calc Tryd.results8 ?_ | refine RetL_calc Tryd.results8 rfl ?_ | (refine Again.up (by omega) ?_ ?_) | exact trivial | (refine opCallI_rd (by simp only [go_sem, hs, hl, List.length_append, hbl, Ret_eq Tryd.results8]; first | done | rfl) (hvb) (by rintro _ rfl; rfl) ?_; rintro _ rfl) | (refine opCallI_gv (by simp only [go_sem, hs, hl, List.length_append, hbl, Ret_eq Tryd.results8]; first | done | rfl) (hvb) ?_; rintro _ rfl) | fail)
        all_goals first | rfl | (rw [List.take_of_length_le (by (try rw [List.length_append]); omega)])
  · have hp := put1_fun k 4 id (fit_id e1 h1)
    have hl := put1_len (k := k) (w := 4) (x := id) (by decide)
    unfold vOk at h4
    simp only [e1, e2, e3, e4, if_true, if_false, Bool.false_eq_true, Int.reduceEq, List.append_nil] at hps h4 ⊢
    have hbl : (v.flatMap (octs 2)).length = 2 * v.length := flat_octs_length
    generalize putOut [k] 4 [id] = T at *
    refine Fun.of_awpI Tryd.func8 rfl cal8 Tryd.ntmps8 (by simp) fun hwf => ?_
    simp only [D.wfs, D.wf, ints_length, ints_wfs, rows_length, rows_wfs, capMax, and_true, true_and] at hwf
    repeat' (first | simp only [go_sem, hps, shapes_width, hku, Ret_eq Tryd.results8] | simp (disch := omega) only [arith, IntKind.bits, capMax, fill_len, elt_fill] | (with_reducible refine condI_beq (fun hq hqb => ?_) (fun hq hqb => ?_) <;> simp only [KP_mk, hqb]) | (with_reducible refine condI_bne (fun hq hqb => ?_) (fun hq hqb => ?_) <;> simp only [KP_mk, hqb]) | (with_reducible refine condI_dec (fun hq hqb => ?_) (fun hq hqb => ?_) <;> simp only [KP_mk, hqb]) | (with_reducible refine condI_b (fun hqb => ?_) (fun hqb => ?_) <;> simp only [KP_mk, hqb]) | refine RetO_calc Tryd.results8 ?_ | refine RetL_calc Tryd.results8 rfl ?_ | (refine Again.up (by omega) ?_ ?_) | exact trivial | (refine opCallI_rd (by simp only [go_sem, hps, shapes_width, hku, Ret_eq Tryd.results8]; first | done | rfl) (hc) (by rintro _ rfl; rfl) ?_; rintro _ rfl) | (refine opCallI_gv (by simp only [go_sem, hps, shapes_width, hku, Ret_eq Tryd.results8]; first | done | rfl) (hc) ?_; rintro _ rfl) | fail)
    refine awpI_for 3 (fun k => True) (fun j => (48, .v (.int .i64 j)) :: if j ≤ 0 then [(10, .lst [.v (.int .u8 k)])] else [(10, .ref 62 T.length)]) (fun j => if j ≤ 0 then [] else [(62, ⟨5, 1, ints .u8 T⟩)]) [3, 9, 46, 47] [3, 9] _ (Weak.refl _) trivial ?_ ?_ ?_
    · simp only [go_sem, Ret_eq Tryd.results8]
    · simp only [go_sem, Ret_eq Tryd.results8]
    · intro j s hj _ hs
      have : j = 0 ∨ j = 1 ∨ j = 2 ∨ j = 3 := by omega
      rcases this with rfl | rfl | rfl | rfl
      · simp only [go_sem, Ret_eq Tryd.results8] at hs
        repeat' (first | simp only [go_sem, hs, hl, Ret_eq Tryd.results8] | simp (disch := omega) only [arith, IntKind.bits, capMax, fill_len, elt_fill] | (with_reducible refine condI_beq (fun hq hqb => ?_) (fun hq hqb => ?_) <;> simp only [KP_mk, hqb]) | (with_reducible refine condI_bne (fun hq hqb => ?_) (fun hq hqb => ?_) <;> simp only [KP_mk, hqb]) | (with_reducible refine condI_dec (fun hq hqb => ?_) (fun hq hqb => ?_) <;> simp only [KP_mk, hqb]) | (with_reducible refine condI_b (fun hqb => ?_) (fun hqb => ?_) <;> simp only [KP_mk, hqb]) | refine RetO_calc Tryd.results8 ?_ | refine RetL_calc Tryd.results8 rfl ?_ | (refine Again.up (by omega) ?_ ?_) | exact trivial | (refine opCallI_ownGv (by simp only [go_sem, hs, hl, Ret_eq Tryd.results8]; first | done | rfl) (hp) ?_; rintro _ _ ⟨rfl, rfl⟩) | fail)
        all_goals rfl
      · simp only [go_sem, Ret_eq Tryd.results8] at hs
        repeat' (first | simp only [go_sem, hs, hl, Ret_eq Tryd.results8] | simp (disch := omega) only [arith, IntKind.bits, capMax, fill_len, elt_fill] | (with_reducible refine condI_beq (fun hq hqb => ?_) (fun hq hqb => ?_) <;> simp only [KP_mk, hqb]) | (with_reducible refine condI_bne (fun hq hqb => ?_) (fun hq hqb => ?_) <;> simp only [KP_mk, hqb]) | (with_reducible refine condI_dec (fun hq hqb => ?_) (fun hq hqb => ?_) <;> simp only [KP_mk, hqb]) | (with_reducible refine condI_b (fun hqb => ?_) (fun hqb => ?_) <;> simp only [KP_mk, hqb]) | refine RetO_calc Tryd.results8 ?_ | refine RetL_calc Tryd.results8 rfl ?_ | (refine Again.up (by omega) ?_ ?_) | exact trivial | (refine opCallI_ownGv (by simp only [go_sem, hs, hl, Ret_eq Tryd.results8]; first | done | rfl) (hp) ?_; rintro _ _ ⟨rfl, rfl⟩) | fail)
        all_goals rfl
      · simp only [go_sem, Ret_eq Tryd.results8] at hs
        repeat' (first | simp only [go_sem, hs, hl, Ret_eq Tryd.results8] | simp (disch := omega) only [arith, IntKind.bits, capMax, fill_len, elt_fill] | (with_reducible refine condI_beq (fun hq hqb => ?_) (fun hq hqb => ?_) <;> simp only [KP_mk, hqb]) | (with_reducible refine condI_bne (fun hq hqb => ?_) (fun hq hqb => ?_) <;> simp only [KP_mk, hqb]) | (with_reducible refine condI_dec (fun hq hqb => ?_) (fun hq hqb => ?_) <;> simp only [KP_mk, hqb]) | (with_reducible refine condI_b (fun hqb => ?_) (fun hqb => ?_) <;> simp only [KP_mk, hqb]) | refine RetO_calc Tryd.results8 ?_ | refine RetL_calc Tryd.results8 rfl ?_ | (refine Again.up (by omega) ?_ ?_) | exact trivial | (refine opCallI_ownGv (by simp only [go_sem, hs, hl, Ret_eq Tryd.results8]; first | done | rfl) (hp) ?_; rintro _ _ ⟨rfl, rfl⟩) | fail)
        all_goals rfl
      · simp only [go_sem, Ret_eq Tryd.results8] at hs
        repeat' (first | simp only [go_sem, hs, hl, List.length_append, hbl, Ret_eq Tryd.results8] | simp (disch := omega) only [arith, IntKind.bits, capMax, fill_len, elt_fill] | (with_reducible refine condI_beq (fun hq hqb => ?_) (fun hq hqb => ?_) <;> simp only [KP_mk, hqb]) | (with_reducible refine condI_bne (fun hq hqb => ?_) (fun hq hqb => ?_) <;> simp only [KP_mk, hqb]) | (with_reducible refine condI_dec (fun hq hqb => ?_) (fun hq hqb => ?_) <;> simp only [KP_mk, hqb]) | (with_reducible refine condI_b (fun hqb => ?_) (fun hqb => ?_) <;> simp only [KP_mk, hqb]) | refine RetO_calc Tryd.results8 ?_ | refine RetL_calc Tryd.results8 rfl ?_ | (refine Again.up (by omega) ?_ ?_) | exact trivial | fail)
        all_goals first | rfl | (rw [List.take_of_length_le (by (try rw [List.length_append]); omega)])
  · have hp := put1_fun k 2 n (fit_n e2 h2 hz.2.2)
    have hl := put1_len (k := k) (w := 2) (x := n) (by decide)
    unfold vOk at h4
    simp only [e1, e2, e3, e4, if_true, if_false, Bool.false_eq_true, Int.reduceEq, List.append_nil] at hps h4 ⊢
    have hbl : (v.flatMap (octs 2)).length = 2 * v.length := flat_octs_length
    have hve := h4.2
    have hvl := (vecOk_iff.1 (vecErr_zero.1 hve)).2.1
    have hvb := vecBytes_fun v hv
    rw [hve, vecBytes, if_pos hve] at hvb
    generalize v.flatMap (octs 2) = B at *
    generalize putOut [k] 2 [n] = T at *
    refine Fun.of_awpI Tryd.func8 rfl cal8 Tryd.ntmps8 (by simp) fun hwf => ?_
    simp only [D.wfs, D.wf, ints_length, ints_wfs, rows_length, rows_wfs, capMax, and_true, true_and] at hwf
    repeat' (first | simp only [go_sem, hps, shapes_width, hku, Ret_eq Tryd.results8] | simp (disch := omega) only [arith, IntKind.bits, capMax, fill_len, elt_fill] | (with_reducible refine condI_beq (fun hq hqb => ?_) (fun hq hqb => ?_) <;> simp only [KP_mk, hqb]) | (with_reducible refine condI_bne (fun hq hqb => ?_) (fun hq hqb => ?_) <;> simp only [KP_mk, hqb]) | (with_reducible refine condI_dec (fun hq hqb => ?_) (fun hq hqb => ?_) <;> simp only [KP_mk, hqb]) | (with_reducible refine condI_b (fun hqb => ?_) (fun hqb => ?_) <;> simp only [KP_mk, hqb]) | refine RetO_calc Tryd.results8 ?_ | refine RetL_calc Tryd.results8 rfl ?_ | (refine Again.up (by omega) ?_ ?_) | exact trivial | (refine opCallI_rd (by simp only [go_sem, hps, shapes_width, hku, Ret_eq Tryd.results8]; first | done | rfl) (hc) (by rintro _ rfl; rfl) ?_; rintro _ rfl) | (refine opCallI_gv (by simp only [go_sem, hps, shapes_width, hku, Ret_eq Tryd.results8]; first | done | rfl) (hc) ?_; rintro _ rfl) | fail)
    refine awpI_for 3 (fun k => True) (fun j => (48, .v (.int .i64 j)) :: if j ≤ 1 then [(10, .lst [.v (.int .u8 k)])] else [(10, .ref 62 T.length)]) (fun j => if j ≤ 1 then [] else [(62, ⟨5, 1, ints .u8 T⟩)]) [3, 9, 46, 47] [3, 9] _ (Weak.refl _) trivial ?_ ?_ ?_
    · simp only [go_sem, Ret_eq Tryd.results8]
    · simp only [go_sem, Ret_eq Tryd.results8]
    · intro j s hj _ hs
      have : j = 0 ∨ j = 1 ∨ j = 2 ∨ j = 3 := by omega
      rcases this with rfl | rfl | rfl | rfl
      · simp only [go_sem, Ret_eq Tryd.results8] at hs
        repeat' (first | simp only [go_sem, hs, hl, Ret_eq Tryd.results8] | simp (disch := omega) only [arith, IntKind.bits, capMax, fill_len, elt_fill] | (with_reducible refine condI_beq (fun hq hqb => ?_) (fun hq hqb => ?_) <;> simp only [KP_mk, hqb]) | (with_reducible refine condI_bne (fun hq hqb => ?_) (fun hq hqb => ?_) <;> simp only [KP_mk, hqb]) | (with_reducible refine condI_dec (fun hq hqb => ?_) (fun hq hqb => ?_) <;> simp only [KP_mk, hqb]) | (with_reducible refine condI_b (fun hqb => ?_) (fun hqb => ?_) <;> simp only [KP_mk, hqb]) | refine RetO_calc Tryd.results8 ?_ | refine RetL_calc Tryd.results8 rfl ?_ | (refine Again.up (by omega) ?_ ?_) | exact trivial | (refine opCallI_ownGv (by simp only [go_sem, hs, hl, Ret_eq Tryd.results8]; first | done | rfl) (hp) ?_; rintro _ _ ⟨rfl, rfl⟩) | fail)
        all_goals rfl
      · simp only [go_sem, Ret_eq Tryd.results8] at hs
        repeat' (first | simp only [go_sem, hs, hl, Ret_eq Tryd.results8] | simp (disch := omega) only [arith, IntKind.bits, capMax, fill_len, elt_fill] | (with_reducible refine condI_beq (fun hq hqb => ?_) (fun hq hqb => ?_) <;> simp only [KP_mk, hqb]) | (with_reducible refine condI_bne (fun hq hqb => ?_) (fun hq hqb => ?_) <;> simp only [KP_mk, hqb]) | (with_reducible refine condI_dec (fun hq hqb => ?_) (fun hq hqb => ?_) <;> simp only [KP_mk, hqb]) | (with_reducible refine condI_b (fun hqb => ?_) (fun hqb => ?_) <;> simp only [KP_mk, hqb]) | refine RetO_calc Tryd.results8 ?_ | refine RetL_calc Tryd.results8 rfl ?_ | (refine Again.up (by omega) ?_ ?_) | exact trivial | (refine opCallI_ownGv (by simp only [go_sem, hs, hl, Ret_eq Tryd.results8]; first | done | rfl) (hp) ?_; rintro _ _ ⟨rfl, rfl⟩) | fail)
        all_goals rfl
      · simp only [go_sem, Ret_eq Tryd.results8] at hs
        repeat' (first | simp only [go_sem, hs, hl, Ret_eq Tryd.results8] | simp (disch := omega) only [arith, IntKind.bits, capMax, fill_len, elt_fill] | (with_reducible refine condI_beq (fun hq hqb => ?_) (fun hq hqb => ?_) <;> simp only [KP_mk, hqb]) | (with_reducible refine condI_bne (fun hq hqb => ?_) (fun hq hqb => ?_) <;> simp only [KP_mk, hqb]) | (with_reducible refine condI_dec (fun hq hqb => ?_) (fun hq hqb => ?_) <;> simp only [KP_mk, hqb]) | (with_reducible refine condI_b (fun hqb => ?_) (fun hqb => ?_) <;> simp only [KP_mk, hqb]) | refine RetO_calc Tryd.results8 ?_ | refine RetL_calc Tryd.results8 rfl ?_ | (refine Again.up (by omega) ?_ ?_) | exact trivial | (refine opCallI_ownGv (by simp only [go_sem, hs, hl, Ret_eq Tryd.results8]; first | done | rfl) (hp) ?_; rintro _ _ ⟨rfl, rfl⟩) | fail)
        all_goals rfl
      · simp only [go_sem, Ret_eq Tryd.results8] at hs
        repeat' (first | simp only [go_sem, hs, hl, List.length_append, hbl, Ret_eq Tryd.results8] | simp (disch := omega) only [arith, IntKind.bits, capMax, fill_len, elt_fill] | (with_reducible refine condI_beq (fun hq hqb => ?_) (fun hq hqb => ?_) <;> simp only [KP_mk, hqb]) | (with_reducible refine condI_bne (fun hq hqb => ?_) (fun hq hqb => ?_) <;> simp only [KP_mk, hqb]) | (with_reducible refine condI_dec (fun hq hqb => ?_) (fun hq hqb => ?_) <;> simp only [KP_mk, hqb]) | (with_reducible refine condI_b (fun hqb => ?_) (fun hqb => ?_) <;> simp only [KP_mk, hqb]) | refine RetO_calc Tryd.results8 ?_ | refine RetL_calc Tryd.results8 rfl ?_ | (refine Again.up (by omega) ?_ ?_) | exact trivial | (refine opCallI_rd (by simp only [go_sem, hs, hl, List.length_append, hbl, Ret_eq Tryd.results8]; first | done | rfl) (hvb) (by rintro _ rfl; rfl) ?_; rintro _ rfl) | (refine opCallI_gv (by simp only [go_sem, hs, hl, List.length_append, hbl, Ret_eq Tryd.results8]; first | done | rfl) (hvb) ?_; rintro _ rfl) | fail)
        all_goals first | rfl | (rw [List.take_of_length_le (by (try rw [List.length_append]); omega)])
  · unfold vOk at h4
    simp only [e1, e2, e3, e4, if_true, if_false, Bool.false_eq_true, Int.reduceEq, List.append_nil] at hps h4 ⊢
    have hbl : (v.flatMap (octs 2)).length = 2 * v.length := flat_octs_length
    refine Fun.of_awpI Tryd.func8 rfl cal8 Tryd.ntmps8 (by simp) fun hwf => ?_
    simp only [D.wfs, D.wf, ints_length, ints_wfs, rows_length, rows_wfs, capMax, and_true, true_and] at hwf
    repeat' (first | simp only [go_sem, hps, shapes_width, hku, Ret_eq Tryd.results8] | simp (disch := omega) only [arith, IntKind.bits, capMax, fill_len, elt_fill] | (with_reducible refine condI_beq (fun hq hqb => ?_) (fun hq hqb => ?_) <;> simp only [KP_mk, hqb]) | (with_reducible refine condI_bne (fun hq hqb => ?_) (fun hq hqb => ?_) <;> simp only [KP_mk, hqb]) | (with_reducible refine condI_dec (fun hq hqb => ?_) (fun hq hqb => ?_) <;> simp only [KP_mk, hqb]) | (with_reducible refine condI_b (fun hqb => ?_) (fun hqb => ?_) <;> simp only [KP_mk, hqb]) | refine RetO_calc Tryd.results8 ?_ | refine RetL_calc Tryd.results8 rfl ?_ | (refine Again.up (by omega) ?_ ?_) | exact trivial | (refine opCallI_rd (by simp only [go_sem, hps, shapes_width, hku, Ret_eq Tryd.results8]; first | done | rfl) (hc) (by rintro _ rfl; rfl) ?_; rintro _ rfl) | (refine opCallI_gv (by simp only [go_sem, hps, shapes_width, hku, Ret_eq Tryd.results8]; first | done | rfl) (hc) ?_; rintro _ rfl) | fail)
    refine awpI_for 3 (fun k => True) (fun j => (48, .v (.int .i64 j)) :: if j ≤ 3 then [(10, .lst [.v (.int .u8 k)])] else [(10, .ref 62 0)]) (fun j => if j ≤ 3 then [] else [(62, ⟨5, 1, ints .u8 []⟩)]) [3, 9, 46, 47] [3, 9] _ (Weak.refl _) trivial ?_ ?_ ?_
    · simp only [go_sem, Ret_eq Tryd.results8]
    · simp only [go_sem, Ret_eq Tryd.results8]
    · intro j s hj _ hs
      have : j = 0 ∨ j = 1 ∨ j = 2 ∨ j = 3 := by omega
      rcases this with rfl | rfl | rfl | rfl
      · simp only [go_sem, Ret_eq Tryd.results8] at hs
        repeat' (first | simp only [go_sem, hs, Nat.add_zero, Ret_eq Tryd.results8] | simp (disch := omega) only [arith, IntKind.bits, capMax, fill_len, elt_fill] | (with_reducible refine condI_beq (fun hq hqb => ?_) (fun hq hqb => ?_) <;> simp only [KP_mk, hqb]) | (with_reducible refine condI_bne (fun hq hqb => ?_) (fun hq hqb => ?_) <;> simp only [KP_mk, hqb]) | (with_reducible refine condI_dec (fun hq hqb => ?_) (fun hq hqb => ?_) <;> simp only [KP_mk, hqb]) | (with_reducible refine condI_b (fun hqb => ?_) (fun hqb => ?_) <;> simp only [KP_mk, hqb]) | refine RetO_calc Tryd.results8 ?_ | refine RetL_calc Tryd.results8 rfl ?_ | (refine Again.up (by omega) ?_ ?_) | exact trivial | fail)
        all_goals rfl
      · simp only [go_sem, Ret_eq Tryd.results8] at hs
        repeat' (first | simp only [go_sem, hs, Nat.add_zero, Ret_eq Tryd.results8] | simp (disch := omega) only [arith, IntKind.bits, capMax, fill_len, elt_fill] | (with_reducible refine condI_beq (fun hq hqb => ?_) (fun hq hqb => ?_) <;> simp only [KP_mk, hqb]) | (with_reducible refine condI_bne (fun hq hqb => ?_) (fun hq hqb => ?_) <;> simp only [KP_mk, hqb]) | (with_reducible refine condI_dec (fun hq hqb => ?_) (fun hq hqb => ?_) <;> simp only [KP_mk, hqb]) | (with_reducible refine condI_b (fun hqb => ?_) (fun hqb => ?_) <;> simp only [KP_mk, hqb]) | refine RetO_calc Tryd.results8 ?_ | refine RetL_calc Tryd.results8 rfl ?_ | (refine Again.up (by omega) ?_ ?_) | exact trivial | fail)
        all_goals rfl
      · simp only [go_sem, Ret_eq Tryd.results8] at hs
        repeat' (first | simp only [go_sem, hs, Nat.add_zero, Ret_eq Tryd.results8] | simp (disch := omega) only [arith, IntKind.bits, capMax, fill_len, elt_fill] | (with_reducible refine condI_beq (fun hq hqb => ?_) (fun hq hqb => ?_) <;> simp only [KP_mk, hqb]) | (with_reducible refine condI_bne (fun hq hqb => ?_) (fun hq hqb => ?_) <;> simp only [KP_mk, hqb]) | (with_reducible refine condI_dec (fun hq hqb => ?_) (fun hq hqb => ?_) <;> simp only [KP_mk, hqb]) | (with_reducible refine condI_b (fun hqb => ?_) (fun hqb => ?_) <;> simp only [KP_mk, hqb]) | refine RetO_calc Tryd.results8 ?_ | refine RetL_calc Tryd.results8 rfl ?_ | (refine Again.up (by omega) ?_ ?_) | exact trivial | fail)
        all_goals rfl
      · simp only [go_sem, Ret_eq Tryd.results8] at hs
        repeat' (first | simp only [go_sem, hs, Nat.add_zero, List.length_append, hbl, Ret_eq Tryd.results8] | simp (disch := omega) only [arith, IntKind.bits, capMax, fill_len, elt_fill] | (with_reducible refine condI_beq (fun hq hqb => ?_) (fun hq hqb => ?_) <;> simp only [KP_mk, hqb]) | (with_reducible refine condI_bne (fun hq hqb => ?_) (fun hq hqb => ?_) <;> simp only [KP_mk, hqb]) | (with_reducible refine condI_dec (fun hq hqb => ?_) (fun hq hqb => ?_) <;> simp only [KP_mk, hqb]) | (with_reducible refine condI_b (fun hqb => ?_) (fun hqb => ?_) <;> simp only [KP_mk, hqb]) | refine RetO_calc Tryd.results8 ?_ | refine RetL_calc Tryd.results8 rfl ?_ | (refine Again.up (by omega) ?_ ?_) | exact trivial | fail)
        all_goals first | rfl | (rw [List.take_of_length_le (by (try rw [List.length_append]); omega)])
  · have hp := put1_fun k 8 seed (fit_seed e3 h3)
    have hl := put1_len (k := k) (w := 8) (x := seed) (by decide)
    unfold vOk at h4
    simp only [e1, e2, e3, e4, if_true, if_false, Bool.false_eq_true, Int.reduceEq, List.append_nil] at hps h4 ⊢
    have hbl : (v.flatMap (octs 2)).length = 2 * v.length := flat_octs_length
    generalize putOut [k] 8 [seed] = T at *
    refine Fun.of_awpI Tryd.func8 rfl cal8 Tryd.ntmps8 (by simp) fun hwf => ?_
    simp only [D.wfs, D.wf, ints_length, ints_wfs, rows_length, rows_wfs, capMax, and_true, true_and] at hwf
    repeat' (first | simp only [go_sem, hps, shapes_width, hku, Ret_eq Tryd.results8] | simp (disch := omega) only [arith, IntKind.bits, capMax, fill_len, elt_fill] | (with_reducible refine condI_beq (fun hq hqb => ?_) (fun hq hqb => ?_) <;> simp only [KP_mk, hqb]) | (with_reducible refine condI_bne (fun hq hqb => ?_) (fun hq hqb => ?_) <;> simp only [KP_mk, hqb]) | (with_reducible refine condI_dec (fun hq hqb => ?_) (fun hq hqb => ?_) <;> simp only [KP_mk, hqb]) | (with_reducible refine condI_b (fun hqb => ?_) (fun hqb => ?_) <;> simp only [KP_mk, hqb]) | refine RetO_calc Tryd.results8 ?_ | refine RetL_calc Tryd.results8 rfl ?_ | (refine Again.up (by omega) ?_ ?_) | exact trivial | (refine opCallI_rd (by simp only [go_sem, hps, shapes_width, hku, Ret_eq Tryd.results8]; first | done | rfl) (hc) (by rintro _ rfl; rfl) ?_; rintro _ rfl) | (refine opCallI_gv (by simp only [go_sem, hps, shapes_width, hku, Ret_eq Tryd.results8]; first | done | rfl) (hc) ?_; rintro _ rfl) | fail)
    refine awpI_for 3 (fun k => True) (fun j => (48, .v (.int .i64 j)) :: if j ≤ 2 then [(10, .lst [.v (.int .u8 k)])] else [(10, .ref 62 T.length)]) (fun j => if j ≤ 2 then [] else [(62, ⟨5, 1, ints .u8 T⟩)]) [3, 9, 46, 47] [3, 9] _ (Weak.refl _) trivial ?_ ?_ ?_
    · simp only [go_sem, Ret_eq Tryd.results8]
    · simp only [go_sem, Ret_eq Tryd.results8]
    · intro j s hj _ hs
      have : j = 0 ∨ j = 1 ∨ j = 2 ∨ j = 3 := by omega
      rcases this with rfl | rfl | rfl | rfl
      · simp only [go_sem, Ret_eq Tryd.results8] at hs
        repeat' (first | simp only [go_sem, hs, hl, Ret_eq Tryd.results8] | simp (disch := omega) only [arith, IntKind.bits, capMax, fill_len, elt_fill] | (with_reducible refine condI_beq (fun hq hqb => ?_) (fun hq hqb => ?_) <;> simp only [KP_mk, hqb]) | (with_reducible refine condI_bne (fun hq hqb => ?_) (fun hq hqb => ?_) <;> simp only [KP_mk, hqb]) | (with_reducible refine condI_dec (fun hq hqb => ?_) (fun hq hqb => ?_) <;> simp only [KP_mk, hqb]) | (with_reducible refine condI_b (fun hqb => ?_) (fun hqb => ?_) <;> simp only [KP_mk, hqb]) | refine RetO_calc Tryd.results8 ?_ | refine RetL_calc Tryd.results8 rfl ?_ | (refine Again.up (by omega) ?_ ?_) | exact trivial | (refine opCallI_ownGv (by simp only [go_sem, hs, hl, Ret_eq Tryd.results8]; first | done | rfl) (hp) ?_; rintro _ _ ⟨rfl, rfl⟩) | fail)
        all_goals rfl
      · simp only [go_sem, Ret_eq Tryd.results8] at hs
        repeat' (first | simp only [go_sem, hs, hl, Ret_eq Tryd.results8] | simp (disch := omega) only [arith, IntKind.bits, capMax, fill_len, elt_fill] | (with_reducible refine condI_beq (fun hq hqb => ?_) (fun hq hqb => ?_) <;> simp only [KP_mk, hqb]) | (with_reducible refine condI_bne (fun hq hqb => ?_) (fun hq hqb => ?_) <;> simp only [KP_mk, hqb]) | (with_reducible refine condI_dec (fun hq hqb => ?_) (fun hq hqb => ?_) <;> simp only [KP_mk, hqb]) | (with_reducible refine condI_b (fun hqb => ?_) (fun hqb => ?_) <;> simp only [KP_mk, hqb]) | refine RetO_calc Tryd.results8 ?_ | refine RetL_calc Tryd.results8 rfl ?_ | (refine Again.up (by omega) ?_ ?_) | exact trivial | (refine opCallI_ownGv (by simp only [go_sem, hs, hl, Ret_eq Tryd.results8]; first | done | rfl) (hp) ?_; rintro _ _ ⟨rfl, rfl⟩) | fail)
        all_goals rfl
      · simp only [go_sem, Ret_eq Tryd.results8] at hs
        repeat' (first | simp only [go_sem, hs, hl, Ret_eq Tryd.results8] | simp (disch := omega) only [arith, IntKind.bits, capMax, fill_len, elt_fill] | (with_reducible refine condI_beq (fun hq hqb => ?_) (fun hq hqb => ?_) <;> simp only [KP_mk, hqb]) | (with_reducible refine condI_bne (fun hq hqb => ?_) (fun hq hqb => ?_) <;> simp only [KP_mk, hqb]) | (with_reducible refine condI_dec (fun hq hqb => ?_) (fun hq hqb => ?_) <;> simp only [KP_mk, hqb]) | (with_reducible refine condI_b (fun hqb => ?_) (fun hqb => ?_) <;> simp only [KP_mk, hqb]) | refine RetO_calc Tryd.results8 ?_ | refine RetL_calc Tryd.results8 rfl ?_ | (refine Again.up (by omega) ?_ ?_) | exact trivial | (refine opCallI_ownGv (by simp only [go_sem, hs, hl, Ret_eq Tryd.results8]; first | done | rfl) (hp) ?_; rintro _ _ ⟨rfl, rfl⟩) | fail)
        all_goals rfl
      · simp only [go_sem, Ret_eq Tryd.results8] at hs
        repeat' (first | simp only [go_sem, hs, hl, List.length_append, hbl, Ret_eq Tryd.results8] | simp (disch := omega) only [arith, IntKind.bits, capMax, fill_len, elt_fill] | (with_reducible refine condI_beq (fun hq hqb => ?_) (fun hq hqb => ?_) <;> simp only [KP_mk, hqb]) | (with_reducible refine condI_bne (fun hq hqb => ?_) (fun hq hqb => ?_) <;> simp only [KP_mk, hqb]) | (with_reducible refine condI_dec (fun hq hqb => ?_) (fun hq hqb => ?_) <;> simp only [KP_mk, hqb]) | (with_reducible refine condI_b (fun hqb => ?_) (fun hqb => ?_) <;> simp only [KP_mk, hqb]) | refine RetO_calc Tryd.results8 ?_ | refine RetL_calc Tryd.results8 rfl ?_ | (refine Again.up (by omega) ?_ ?_) | exact trivial | fail)
        all_goals first | rfl | (rw [List.take_of_length_le (by (try rw [List.length_append]); omega)])
end Go.Proofs.YtfmeiapglpphpaaDoor.T
