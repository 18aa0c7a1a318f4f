import Derived.Test.YtfmeiapglpphpaaDoorDVWalk
import Derived.Test.YtfmeiapglpphpaaDoorDPRefL
set_option linter.unusedSimpArgs false
set_option linter.unusedVariables false
/- Vectors' texts, walked. -/
namespace Go.Proofs.YtfmeiapglpphpaaDoor.T
open Go Go.VL Go.Proofs
set_option maxRecDepth 100000
set_option maxHeartbeats 4000000
def vecBytes (v : List Int) : List Int := if vecErr v = 0 then v.flatMap (octs 2) else []
theorem fit16 {n : Int} (h : -32768 ≤ n ∧ n ≤ 32767) : putFit 2 n = true := (putFit_iff (w := 2) (by omega) (by omega)).2 (by simp; omega)
theorem vec_fit {v : List Int} (hv : I16s v) : v.all (putFit 2) = true := by
  rw [List.all_eq_true]
  intro x hx
  have := hv x hx
  exact (putFit_iff (w := 2) (by omega) (by omega)).2 (by simp; omega)
theorem vec_put {v : List Int} (hv : I16s v) (h : v.length ≤ 64) : putErr [] 2 v = 0 ∧ putRead [] 2 v = v.flatMap (octs 2) := by
  have e : putErr [] 2 v = 0 := putErr_fine (by omega) (vec_fit hv) (by simp; omega)
  exact ⟨e, by rw [putRead_fine e]; rfl⟩

theorem vecBytes_fun (v : List Int) (hv : I16s v) : Fun Tryd.prog 20 [.lst (ints .i16 v)] fun r => r = .tup [.lst (ints .u8 (vecBytes v)), .v (.int .i64 (vecErr v))] := by
  refine Fun.of_awpI Tryd.func20 rfl cal20 Tryd.ntmps20 (by simp) fun hwf => ?_
  simp only [D.wfs, D.wf, ints_length, ints_wfs, rows_length, rows_wfs, capMax, and_true, true_and] at hwf
  repeat' (first | simp only [go_sem, Nat.reduceEqDiff, Nat.reduceAdd, Nat.reduceLT, Nat.reduceMul, Nat.reduceSub, ↓reduceIte, reduceCtorEq, Nat.reduceLeDiff, Nat.reduceBEq, Int.reduceBEq, Int.reduceBNe, Int.reduceLT, Int.reduceLE, Int.reduceToNat, Int.reduceGT, Int.reduceGE, Int.reduceEq, Int.reducePow, Nat.reducePow, Ret_eq Tryd.results20] | simp (disch := omega) only [arith, IntKind.bits, capMax, fill_len, elt_fill] | (with_reducible refine condI_beq (fun hq hqb => ?_) (fun hq hqb => ?_) <;> simp only [KP_mk, hqb]) | (with_reducible refine condI_bne (fun hq hqb => ?_) (fun hq hqb => ?_) <;> simp only [KP_mk, hqb]) | (with_reducible refine condI_dec (fun hq hqb => ?_) (fun hq hqb => ?_) <;> simp only [KP_mk, hqb]) | (with_reducible refine condI_b (fun hqb => ?_) (fun hqb => ?_) <;> simp only [KP_mk, hqb]) | refine RetO_calc Tryd.results20 ?_ | refine RetL_calc Tryd.results20 rfl ?_ | (refine Again.up (by omega) ?_ ?_) | exact trivial | (refine opCallI_rd (by simp only [go_sem, Nat.reduceEqDiff, Nat.reduceAdd, Nat.reduceLT, Nat.reduceMul, Nat.reduceSub, ↓reduceIte, reduceCtorEq, Nat.reduceLeDiff, Nat.reduceBEq, Int.reduceBEq, Int.reduceBNe, Int.reduceLT, Int.reduceLE, Int.reduceToNat, Int.reduceGT, Int.reduceGE, Int.reduceEq, Int.reducePow, Nat.reducePow, Ret_eq Tryd.results20]; first | done | rfl) (vecCheck_fun v) (by rintro _ rfl; rfl) ?_; rintro _ rfl) | (refine opCallI_gv (by simp only [go_sem, Nat.reduceEqDiff, Nat.reduceAdd, Nat.reduceLT, Nat.reduceMul, Nat.reduceSub, ↓reduceIte, reduceCtorEq, Nat.reduceLeDiff, Nat.reduceBEq, Int.reduceBEq, Int.reduceBNe, Int.reduceLT, Int.reduceLE, Int.reduceToNat, Int.reduceGT, Int.reduceGE, Int.reduceEq, Int.reducePow, Nat.reducePow, Ret_eq Tryd.results20]; first | done | rfl) (vecCheck_fun v) ?_; rintro _ rfl) | fail)
  · rw [vecBytes, if_neg (by assumption)]; rfl
  · have h0 : vecErr v = 0 := by assumption
    have hlen : v.length ≤ 64 := (vecOk_iff.1 (vecErr_zero.1 h0)).2.1
    obtain ⟨e1, e2⟩ := vec_put hv hlen
    repeat' (first | simp only [go_sem, Nat.reduceEqDiff, Nat.reduceAdd, Nat.reduceLT, Nat.reduceMul, Nat.reduceSub, ↓reduceIte, reduceCtorEq, Nat.reduceLeDiff, Nat.reduceBEq, Int.reduceBEq, Int.reduceBNe, Int.reduceLT, Int.reduceLE, Int.reduceToNat, Int.reduceGT, Int.reduceGE, Int.reduceEq, Int.reducePow, Nat.reducePow, Ret_eq Tryd.results20] | simp (disch := omega) only [arith, IntKind.bits, capMax, fill_len, elt_fill] | (with_reducible refine condI_beq (fun hq hqb => ?_) (fun hq hqb => ?_) <;> simp only [KP_mk, hqb]) | (with_reducible refine condI_bne (fun hq hqb => ?_) (fun hq hqb => ?_) <;> simp only [KP_mk, hqb]) | (with_reducible refine condI_dec (fun hq hqb => ?_) (fun hq hqb => ?_) <;> simp only [KP_mk, hqb]) | (with_reducible refine condI_b (fun hqb => ?_) (fun hqb => ?_) <;> simp only [KP_mk, hqb]) | refine RetO_calc Tryd.results20 ?_ | refine RetL_calc Tryd.results20 rfl ?_ | (refine Again.up (by omega) ?_ ?_) | exact trivial | fail)
    refine awpI_for v.length (fun k => True) (fun k => [(18, .v (.int .i64 k))]) (fun k => [(15, ⟨2, 1, ints .i64 (fill (fun i => v.getD i 0) (List.replicate v.length 0) k)⟩)]) [5, 16, 17] [] _ (Weak.refl _) trivial ?_ ?_ ?_
    · simp only [go_sem, Nat.reduceEqDiff, Nat.reduceAdd, Nat.reduceLT, Nat.reduceMul, Nat.reduceSub, ↓reduceIte, reduceCtorEq, Nat.reduceLeDiff, Nat.reduceBEq, Int.reduceBEq, Int.reduceBNe, Int.reduceLT, Int.reduceLE, Int.reduceToNat, Int.reduceGT, Int.reduceGE, Int.reduceEq, Int.reducePow, Nat.reducePow, Ret_eq Tryd.results20]
    · simp only [go_sem, Nat.reduceEqDiff, Nat.reduceAdd, Nat.reduceLT, Nat.reduceMul, Nat.reduceSub, ↓reduceIte, reduceCtorEq, Nat.reduceLeDiff, Nat.reduceBEq, Int.reduceBEq, Int.reduceBNe, Int.reduceLT, Int.reduceLE, Int.reduceToNat, Int.reduceGT, Int.reduceGE, Int.reduceEq, Int.reducePow, Nat.reducePow, fill_zero, ints_replicate, Ret_eq Tryd.results20]
    · intro k s hk _ hs
      simp only [go_sem, Nat.reduceEqDiff, Nat.reduceAdd, Nat.reduceLT, Nat.reduceMul, Nat.reduceSub, ↓reduceIte, reduceCtorEq, Nat.reduceLeDiff, Nat.reduceBEq, Int.reduceBEq, Int.reduceBNe, Int.reduceLT, Int.reduceLE, Int.reduceToNat, Int.reduceGT, Int.reduceGE, Int.reduceEq, Int.reducePow, Nat.reducePow, Ret_eq Tryd.results20] at hs
      have hx := hv.getD k
      by_cases hka : k < v.length
      · have e := fill_set (f := fun i => v.getD i 0) (a := List.replicate v.length 0) (k := k) (by simpa using hka)
        have e3 : (fill (fun i => v.getD i 0) (List.replicate v.length 0) k).length = v.length := by rw [fill_len (by simp; omega)]; simp
        repeat' (first | simp only [go_sem, Nat.reduceEqDiff, Nat.reduceAdd, Nat.reduceLT, Nat.reduceMul, Nat.reduceSub, ↓reduceIte, reduceCtorEq, Nat.reduceLeDiff, Nat.reduceBEq, Int.reduceBEq, Int.reduceBNe, Int.reduceLT, Int.reduceLE, Int.reduceToNat, Int.reduceGT, Int.reduceGE, Int.reduceEq, Int.reducePow, Nat.reducePow, hs, e, e3, Ret_eq Tryd.results20] | simp (disch := omega) only [arith, IntKind.bits, capMax, fill_len, elt_fill] | (with_reducible refine condI_beq (fun hq hqb => ?_) (fun hq hqb => ?_) <;> simp only [KP_mk, hqb]) | (with_reducible refine condI_bne (fun hq hqb => ?_) (fun hq hqb => ?_) <;> simp only [KP_mk, hqb]) | (with_reducible refine condI_dec (fun hq hqb => ?_) (fun hq hqb => ?_) <;> simp only [KP_mk, hqb]) | (with_reducible refine condI_b (fun hqb => ?_) (fun hqb => ?_) <;> simp only [KP_mk, hqb]) | refine RetO_calc Tryd.results20 ?_ | refine RetL_calc Tryd.results20 rfl ?_ | (refine Again.up (by omega) ?_ ?_) | exact trivial | fail)
      · obtain rfl : k = v.length := by omega
        rw [fill_copy (by simp)] at hs
        repeat' (first | simp only [go_sem, Nat.reduceEqDiff, Nat.reduceAdd, Nat.reduceLT, Nat.reduceMul, Nat.reduceSub, ↓reduceIte, reduceCtorEq, Nat.reduceLeDiff, Nat.reduceBEq, Int.reduceBEq, Int.reduceBNe, Int.reduceLT, Int.reduceLE, Int.reduceToNat, Int.reduceGT, Int.reduceGE, Int.reduceEq, Int.reducePow, Nat.reducePow, hs, e1, e2, List.take_length, Ret_eq Tryd.results20] | simp (disch := omega) only [arith, IntKind.bits, capMax, fill_len, elt_fill] | (with_reducible refine condI_beq (fun hq hqb => ?_) (fun hq hqb => ?_) <;> simp only [KP_mk, hqb]) | (with_reducible refine condI_bne (fun hq hqb => ?_) (fun hq hqb => ?_) <;> simp only [KP_mk, hqb]) | (with_reducible refine condI_dec (fun hq hqb => ?_) (fun hq hqb => ?_) <;> simp only [KP_mk, hqb]) | (with_reducible refine condI_b (fun hqb => ?_) (fun hqb => ?_) <;> simp only [KP_mk, hqb]) | refine RetO_calc Tryd.results20 ?_ | refine RetL_calc Tryd.results20 rfl ?_ | (refine Again.up (by omega) ?_ ?_) | exact trivial | (refine opCallI_rd (by simp only [go_sem, Nat.reduceEqDiff, Nat.reduceAdd, Nat.reduceLT, Nat.reduceMul, Nat.reduceSub, ↓reduceIte, reduceCtorEq, Nat.reduceLeDiff, Nat.reduceBEq, Int.reduceBEq, Int.reduceBNe, Int.reduceLT, Int.reduceLE, Int.reduceToNat, Int.reduceGT, Int.reduceGE, Int.reduceEq, Int.reducePow, Nat.reducePow, hs, e1, e2, List.take_length, Ret_eq Tryd.results20]; first | done | rfl) (put_read [] 2 v) (by rintro _ rfl; rfl) ?_; rintro _ rfl) | (refine opCallI_gv (by simp only [go_sem, Nat.reduceEqDiff, Nat.reduceAdd, Nat.reduceLT, Nat.reduceMul, Nat.reduceSub, ↓reduceIte, reduceCtorEq, Nat.reduceLeDiff, Nat.reduceBEq, Int.reduceBEq, Int.reduceBNe, Int.reduceLT, Int.reduceLE, Int.reduceToNat, Int.reduceGT, Int.reduceGE, Int.reduceEq, Int.reducePow, Nat.reducePow, hs, e1, e2, List.take_length, Ret_eq Tryd.results20]; first | done | rfl) (put_read [] 2 v) ?_; rintro _ rfl) | fail)
        rw [vecBytes, if_pos h0, h0]

theorem takeNum_i16 {b : List Int} (ho : Octets b) (h : 2 ≤ b.length) : -32768 ≤ takeNum ((2 : Nat) : Int) b ∧ takeNum ((2 : Nat) : Int) b ≤ 32767 := by
  have hr := val_range (ho.take 2)
  have hl : (b.take 2).length = 2 := by simp; omega
  rw [hl] at hr
  have := sgn_range (w := 2) (by omega) hr
  rw [takeNum_eq (by omega) ho h]
  simp at this
  omega
theorem takeNums_i16 : ∀ (m : Nat) {b : List Int}, Octets b → 2 * m ≤ b.length → I16s (takeNums 2 m b)
  | 0, b, _, _ => by intro x hx; cases hx
  | m + 1, b, ho, h => by
    intro x hx
    rw [takeNums] at hx
    rcases List.mem_cons.1 hx with rfl | hx
    · exact takeNum_i16 ho (by omega)
    · exact takeNums_i16 m (ho.drop _) (by simp; omega) x hx
def fromErr (b : List Int) : Int := if b.length % 2 = 0 ∧ b.length ≤ 128 ∧ vecOk (takeNums 2 (b.length / 2) b) = true then 0 else 2
def vecFrom (b : List Int) : List Int := if fromErr b = 0 then takeNums 2 (b.length / 2) b else []
theorem take_half {b : List Int} (h : b.length ≤ 131072) : takeErr b 2 ((b.length : Int) / 2) = 0 ∧ takeOut b 2 ((b.length : Int) / 2) = takeNums 2 (b.length / 2) b ∧ takeRest b 2 ((b.length : Int) / 2) = b.drop (2 * (b.length / 2)) := by
  have e : takeErr b 2 ((b.length : Int) / 2) = 0 := by unfold takeErr; rw [if_neg (by omega), if_neg (by omega)]
  have e2 : ((b.length : Int) / 2).toNat = b.length / 2 := by omega
  exact ⟨e, by unfold takeOut; rw [if_pos e, e2], by unfold takeRest; rw [if_pos e, e2]; rfl⟩
end Go.Proofs.YtfmeiapglpphpaaDoor.T
