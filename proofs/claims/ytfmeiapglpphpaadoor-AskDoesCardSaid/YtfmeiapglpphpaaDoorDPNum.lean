import Derived.Test.YtfmeiapglpphpaaDoorDPTakeO
import Derived.Test.YtfmeiapglpphpaaDoorDPRef
set_option linter.unusedSimpArgs false
set_option linter.unusedVariables false
/- The law on numbers: what is put and taken is what the document says. -/
namespace Go.Proofs.YtfmeiapglpphpaaDoor.T
open Go Go.VL Go.Proofs
set_option maxRecDepth 100000
set_option maxHeartbeats 4000000

theorem sameBytes_fun (a b : List Int) (ha : Octets a) (hb : Octets b) : Fun Tryd.prog 12 [.lst (ints .u8 a), .lst (ints .u8 b)] fun r => r = .v (.bool (decide (a = b))) := by
  refine Fun.of_awpI Tryd.func12 rfl cal12 Tryd.ntmps12 (by simp) fun hwf => ?_
  simp only [D.wfs, D.wf, ints_length, ints_wfs, rows_length, rows_wfs, capMax, and_true, true_and] at hwf
  repeat' (first | simp only [go_sem, Nat.reduceEqDiff, Nat.reduceAdd, Nat.reduceLT, Nat.reduceMul, Nat.reduceSub, ↓reduceIte, reduceCtorEq, Nat.reduceLeDiff, Nat.reduceBEq, Int.reduceBEq, Int.reduceBNe, Int.reduceLT, Int.reduceLE, Int.reduceToNat, Int.reduceGT, Int.reduceGE, Int.reduceEq, Int.reducePow, Nat.reducePow, Ret_eq Tryd.results12] | simp (disch := omega) only [arith, IntKind.bits, capMax, fill_len, elt_fill] | (with_reducible refine condI_beq (fun hq hqb => ?_) (fun hq hqb => ?_) <;> simp only [KP_mk, hqb]) | (with_reducible refine condI_bne (fun hq hqb => ?_) (fun hq hqb => ?_) <;> simp only [KP_mk, hqb]) | (with_reducible refine condI_dec (fun hq hqb => ?_) (fun hq hqb => ?_) <;> simp only [KP_mk, hqb]) | (with_reducible refine condI_b (fun hqb => ?_) (fun hqb => ?_) <;> simp only [KP_mk, hqb]) | refine RetO_calc Tryd.results12 ?_ | refine RetL_calc Tryd.results12 rfl ?_ | (refine Again.up (by omega) ?_ ?_) | exact trivial | fail)
  exact strOfNums_inj ha hb
theorem putRead_octets {b : List Int} {w : Int} {l : List Int} (hb : Octets b) : Octets (putRead b w l) := by
  unfold putRead putOut
  split
  · exact hb.append (octs_all_octets _ _)
  · intro c h; cases h
theorem putRead_len {b : List Int} {w : Int} {l : List Int} : (putRead b w l).length ≤ 65536 := by
  by_cases h : putErr b w l = 0
  · rw [putRead_fine h, List.length_append, flat_octs_length]
    unfold putErr at h
    split at h
    · cases h
    · rename_i hw
      have hw : 1 ≤ w ∧ w ≤ 8 := by simpa using hw
      split at h
      · cases h
      · split at h
        · cases h
        · have : ((w.toNat * l.length : Nat) : Int) = w * l.length := by rw [Int.natCast_mul, Int.toNat_of_nonneg (by omega)]
          omega
  · rw [putRead_err h]; exact Nat.zero_le _
theorem takeRest_len {b : List Int} {w n : Int} : (takeRest b w n).length ≤ b.length := by
  unfold takeRest; split <;> simp
theorem takeRest_octets {b : List Int} {w n : Int} (hb : Octets b) : Octets (takeRest b w n) := by
  unfold takeRest
  split
  · exact hb.drop _
  · intro c h; cases h
theorem put_uni (b : List Int) (w : Int) (l : List Int) : FunO Tryd.prog 19 [.lst (ints .u8 b), .v (.int .i64 w), .lst (ints .i64 l)] fun r o =>
    r = .tup [.ref 0 (putRead b w l).length, .v (.int .i64 (putErr b w l))] ∧ o = some ⟨5, 1, ints .u8 (putRead b w l)⟩ := by
  refine (put_fun b w l).uni 0 5 (S := 1) (by decide) ?_
  rintro r o (⟨h1, rfl, rfl⟩ | ⟨h1, rfl, rfl⟩)
  · refine .inl ⟨_, rfl, rfl, rfl, ?_, ?_⟩
    · rw [putRead_err h1]; rfl
    · rw [putRead_err h1]; rfl
  · refine .inr ⟨?_, ?_⟩
    · rw [h1]; simp only [putRead, h1, if_true]
    · simp only [putRead, h1, if_true]
theorem take_uni (b : List Int) (w n : Int) (hb : b.length ≤ 140737488355328) : FunO Tryd.prog 39 [.lst (ints .u8 b), .v (.int .i64 w), .v (.int .i64 n)] fun r o =>
    r = .tup [.lst (ints .i64 (takeOut b w n)), .ref 0 (takeRest b w n).length, .v (.int .i64 (takeErr b w n))] ∧ o = some ⟨5, 1, ints .u8 (takeRest b w n)⟩ := by
  refine (take_own b w n hb).uni 1 5 (S := 1) (by decide) ?_
  rintro r o (⟨h1, rfl, rfl⟩ | ⟨h1, rfl, rfl⟩)
  · refine .inl ⟨_, rfl, rfl, rfl, ?_, ?_⟩
    · simp only [takeRest, takeOut, if_neg h1]; rfl
    · simp only [takeRest, if_neg h1]; rfl
  · exact .inr ⟨by rw [h1], rfl⟩
end Go.Proofs.YtfmeiapglpphpaaDoor.T
