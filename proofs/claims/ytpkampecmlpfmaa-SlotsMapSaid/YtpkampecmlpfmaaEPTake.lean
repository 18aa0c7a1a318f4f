import Derived.Test.YtpkampecmlpfmaaLE
import Derived.Test.YtpkampecmlpfmaaEPClone
import Derived.Test.YtpkampecmlpfmaaEPPut
set_option linter.unusedSimpArgs false
set_option linter.unusedVariables false
/- Numbers taken. -/
namespace Go.Proofs.Ytpkampecmlpfmaa.T
open Go Go.VL Go.Proofs
set_option maxRecDepth 100000
set_option maxHeartbeats 4000000

theorem take_own (b : List Int) (width n : Int) (hb : b.length ≤ 140737488355328) : FunO Try.prog 112 [.lst (ints .u8 b), .v (.int .i64 width), .v (.int .i64 n)] fun r o =>
    (takeErr b width n ≠ 0 ∧ r = .tup [.v (.slice none 0 0), .v (.slice none 0 0), .v (.int .i64 (takeErr b width n))] ∧ o = none) ∨
    (takeErr b width n = 0 ∧ r = .tup [.lst (ints .i64 (takeOut b width n)), .ref 0 (takeRest b width n).length, .v (.int .i64 0)] ∧ o = some ⟨5, 1, ints .u8 (takeRest b width n)⟩) := by
  refine FunO.of_awpI Try.func112 rfl cal112 Try.ntmps112 (by simp) fun hwf => ?_
  simp only [D.wfs, D.wf, ints_length, ints_wfs, rows_length, rows_wfs, capMax, and_true, true_and] at hwf
  by_cases hw : 1 ≤ width ∧ width ≤ 8
  · by_cases hn : 0 ≤ n ∧ n ≤ 65536
    · have hub : n * width ≤ 65536 * 8 := Int.mul_le_mul hn.2 hw.2 (by omega) (by omega)
      have hlb : 0 ≤ n * width := Int.mul_nonneg hn.1 (by omega)
      have hwd := decide_eq_true hw
      by_cases h3 : (b.length : Int) < n * width
      · have he : takeErr b width n = 2 := by unfold takeErr; rw [if_neg (by omega), if_pos h3]
        rw [he]
        repeat' (first | simp only [go_sem, hwd, Ret_eq Try.results112] | simp (disch := omega) only [arith, IntKind.bits, capMax, fill_len, elt_fill] | refine RetO_calc Try.results112 ?_ | (refine opCallI_rd (by simp only [go_sem, hwd, Ret_eq Try.results112]; first | done | rfl) (wide_fun width) (by rintro _ rfl; rfl) ?_; rintro _ rfl) | fail)
        exact .inl (by decide)
      · have he : takeErr b width n = 0 := by unfold takeErr; rw [if_neg (by omega), if_neg h3]
        have hto : takeOut b width n = takeNums width n.toNat b := by unfold takeOut; rw [if_pos he]
        have htr : takeRest b width n = b.drop (width.toNat * n.toNat) := by unfold takeRest; rw [if_pos he]
        rw [hto, htr]
        obtain ⟨w, rfl⟩ : ∃ w : Nat, width = w := ⟨width.toNat, by omega⟩
        obtain ⟨m, rfl⟩ : ∃ m : Nat, n = m := ⟨n.toNat, by omega⟩
        have hmw : m * w ≤ b.length := by exact_mod_cast (show (m : Int) * w ≤ b.length by omega)
        repeat' (first | simp only [go_sem, hwd, Ret_eq Try.results112] | simp (disch := omega) only [arith, IntKind.bits, capMax, fill_len, elt_fill] | (refine opCallI_rd (by simp only [go_sem, hwd, Ret_eq Try.results112]; first | done | rfl) (wide_fun w) (by rintro _ rfl; rfl) ?_; rintro _ rfl) | fail)
        refine awpI_for m (fun k => True) (fun k => [(0, .lst (ints .u8 (b.drop (w * k)))), (6, .ref 62 k), (36, .v (.int .i64 k))]) (fun k => [(62, ⟨2, 1, ints .i64 (takeNums w k b)⟩)]) [1, 9, 35] [] _ (Weak.adopt (j := 6) 62 2 1 (by simp only [go_sem, Ret_eq Try.results112]) (by simp only [go_sem, Ret_eq Try.results112]) (by decide)) trivial ?_ ?_ ?_
        · simp only [go_sem, Nat.mul_zero, Ret_eq Try.results112]
        · simp only [go_sem, takeNums, Ret_eq Try.results112]
        · intro k s hk _ hs
          simp only [go_sem, Ret_eq Try.results112] at hs
          by_cases hka : k < m
          · have hlen : w * k + w ≤ b.length := by
              have : (k + 1) * w ≤ m * w := Nat.mul_le_mul_right _ hka
              rw [Nat.succ_mul, Nat.mul_comm k w] at this
              omega
            have hl1 : w ≤ (b.drop (w * k)).length := by simp; omega
            have hsn : takeNums (w : Int) k b ++ [(takeAcc (w : Int) (b.drop (w * k)) w).fdiv (2 ^ (64 - 8 * (w : Int)).toNat)] = takeNums (w : Int) (k + 1) b := by
              rw [takeNums_snoc, Int.toNat_natCast]; rfl
            have hdr : List.drop w (b.drop (w * k)) = b.drop (w * (k + 1)) := by rw [List.drop_drop, Nat.mul_succ]
            have hlt : (takeNums (w : Int) k b).length = k := takeNums_length _ _ _
            have hbw : ((b.drop (w * k)).take w).length = w := by rw [List.length_take]; omega
            have hget : ∀ j, j < w → ((b.drop (w * k)).take w).getD j 0 = (b.drop (w * k)).getD j 0 := fun j hj => by simp [List.getD, List.getElem?_take, hj]
            have hbl : (b.drop (w * k)).length ≤ 140737488355328 := by simp; omega
            generalize hbs : b.drop (w * k) = bs at *
            generalize hbt : bs.take w = bt at *
            have htd : bs.take bs.length = bs := List.take_length
            repeat' (first | simp only [go_sem, hs, hbt, Ret_eq Try.results112] | simp (disch := omega) only [arith, IntKind.bits, capMax, fill_len, elt_fill] | fail)
            refine awpI_for w (fun j => True) (fun j => [(10, .v (.int .i64 (takeAcc w bs j))), (42, .v (.int .i64 j))]) (fun j => [(62, ⟨2, 1, ints .i64 (takeNums w k b)⟩)]) [0, 1, 6, 9, 35, 36, 40, 41] [] _ (Weak.refl _) trivial ?_ ?_ ?_
            · simp only [go_sem, takeAcc, Ret_eq Try.results112]
            · simp only [go_sem, hs, Ret_eq Try.results112]
            · intro j s2 hj _ hs2
              simp only [go_sem, hs, Ret_eq Try.results112] at hs2
              by_cases hja : j < w
              · have h0 : (0 : Int) ≤ 64 - 8 * w + 8 * j := by omega
                have hm : min (64 - 8 * (w : Int) + 8 * j).toNat IntKind.i64.bits = (64 - 8 * (w : Int)).toNat + 8 * j := by simp [IntKind.bits]; omega
                have hg := hget j hja
                clear hget
                have hacc : takeAcc (w : Int) bs (j + 1) = abits .or .i64 (takeAcc w bs j) (IntKind.i64.wrap (IntKind.i64.wrap (bs.getD j 0) * 2 ^ ((64 - 8 * (w : Int)).toNat + 8 * j))) := rfl
                have hm2 : (64 - 8 * (w : Int) + 8 * j).toNat = (64 - 8 * (w : Int)).toNat + 8 * j := by omega
                repeat' (first | simp only [go_sem, hs, hs2, hg, hm, hm2, h0, hacc, Ret_eq Try.results112] | simp (disch := omega) only [arith, IntKind.bits, capMax, fill_len, elt_fill] | (refine Again.up (by omega) ?_ ?_) | fail)
              · obtain rfl : j = w := by omega
                clear hget
                have h0 : (0 : Int) ≤ 64 - 8 * j := by omega
                have hm : min (64 - 8 * (j : Int)).toNat IntKind.i64.bits = (64 - 8 * (j : Int)).toNat := by simp [IntKind.bits]; omega
                have hlt2 : (takeNums (j : Int) (k + 1) b).length = k + 1 := takeNums_length _ _ _
                have hmt : min (64 - 8 * (j : Int)).toNat 64 = (64 - 8 * (j : Int)).toNat := by omega
                repeat' (first | simp only [go_sem, hs, hs2, hm, hmt, h0, hsn, hdr, hlt, hlt2, Ret_eq Try.results112] | simp (disch := omega) only [arith, IntKind.bits, capMax, fill_len, elt_fill] | (refine awpI_draw2 (id := 14) (.one false 1 (.one false 2 (.one false 3 (.fam 0 [4] [61] [60] (.one true 6 (.one true 7 (.one true 8 (.only 4 (.only 5 (.one false 9 (.one false 10 .done))))))))))) mixed (by decide +kernel) (by decide +kernel) ?_) | (refine Again.up (by omega) ?_ ?_) | fail)
          · obtain rfl : k = m := by omega
            have htk : (takeNums w k b).take k = takeNums w k b := List.take_of_length_le (by rw [takeNums_length]; exact Nat.le_refl _)
            repeat' (first | simp only [go_sem, hs, takeNums_length, htk, Ret_eq Try.results112] | simp (disch := omega) only [arith, IntKind.bits, capMax, fill_len, elt_fill] | (refine opCallI_ownGv (by simp only [go_sem, hs, takeNums_length, htk, Ret_eq Try.results112]; first | done | rfl) (clone_fun (b.drop (w * k)) (by simp; omega)) ?_; rintro _ _ ⟨rfl, rfl⟩) | fail)
            exact RetO_own Try.results112 (ds := [.ref 62 k, .ref 69 (b.drop (w * k)).length, .v (.int .i64 0)]) (by simp only [go_sem, hs, Ret_eq Try.results112]) 69 ⟨5, 1, ints .u8 (b.drop (w * k))⟩ (by simp only [go_sem, hs, Ret_eq Try.results112]) (by simp only [go_sem, Ret_eq Try.results112]) [62] _ (by simp only [go_sem, hs, takeNums_length, htk, Ret_eq Try.results112]; rfl) (by simp only [go_sem, hs, Ret_eq Try.results112]) (by intro i hi; simpa [D.idss, D.ids] using hi) (.inr ⟨he, by simp only [Int.toNat_natCast]; rfl, by simp only [Int.toNat_natCast]⟩)
    · have he : takeErr b width n = 1 := by unfold takeErr; rw [if_pos (by omega)]
      have hwd := decide_eq_true hw
      rw [he]
      repeat' (first | simp only [go_sem, hwd, Ret_eq Try.results112] | simp (disch := omega) only [arith, IntKind.bits, capMax, fill_len, elt_fill] | (with_reducible refine condI_dec (fun hq hqb => ?_) (fun hq hqb => ?_) <;> simp only [KP_mk, hqb]) | refine RetO_calc Try.results112 ?_ | (refine opCallI_rd (by simp only [go_sem, hwd, Ret_eq Try.results112]; first | done | rfl) (wide_fun width) (by rintro _ rfl; rfl) ?_; rintro _ rfl) | fail)
      all_goals exact .inl (by decide)
  · have he : takeErr b width n = 1 := by unfold takeErr; rw [if_pos (.inl hw)]
    have hwd := decide_eq_false hw
    rw [he]
    repeat' (first | simp only [go_sem, hwd, Ret_eq Try.results112] | refine RetO_calc Try.results112 ?_ | (refine opCallI_rd (by simp only [go_sem, hwd, Ret_eq Try.results112]; first | done | rfl) (wide_fun width) (by rintro _ rfl; rfl) ?_; rintro _ rfl) | fail)
    exact .inl (by decide)
theorem take_fun (b : List Int) (width n : Int) (hb : b.length ≤ 140737488355328) : Fun Try.prog 112 [.lst (ints .u8 b), .v (.int .i64 width), .v (.int .i64 n)] fun r =>
    r = .tup [.lst (ints .i64 (takeOut b width n)), .lst (ints .u8 (takeRest b width n)), .v (.int .i64 (takeErr b width n))] := by
  refine (take_own b width n hb).toFun ?_
  rintro r o (⟨h1, rfl, rfl⟩ | ⟨h1, rfl, rfl⟩)
  · have e1 : takeOut b width n = [] := by unfold takeOut; rw [if_neg h1]
    have e2 : takeRest b width n = [] := by unfold takeRest; rw [if_neg h1]
    rw [e1, e2]; rfl
  · rw [h1]
    simp only [ints_nrms, ints_width1, D.frz, D.frzs, D.noRef, D.noRefs, D.nrm, D.nrms, nilV, ints_length, Nat.le_refl, ints_take, ints_noRefs, Bool.and_self, Bool.false_eq_true, if_true, if_false, and_self, List.take_length]
end Go.Proofs.Ytpkampecmlpfmaa.T
