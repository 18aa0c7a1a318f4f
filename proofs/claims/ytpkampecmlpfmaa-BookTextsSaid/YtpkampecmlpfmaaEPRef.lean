import Derived.Test.YtpkampecmlpfmaaLE
import Derived.Test.YtpkampecmlpfmaaEPSame
import Derived.Test.YtpkampecmlpfmaaEPMath
set_option linter.unusedSimpArgs false
set_option linter.unusedVariables false
/- The document's numbers, put and taken. -/
namespace Go.Proofs.Ytpkampecmlpfmaa.T
open Go Go.VL Go.Proofs
set_option maxRecDepth 100000
def I64s (l : List Int) : Prop := ∀ n ∈ l, -9223372036854775808 ≤ n ∧ n ≤ 9223372036854775807
theorem I64s.getD {l : List Int} (h : I64s l) (k : Nat) : -9223372036854775808 ≤ l.getD k 0 ∧ l.getD k 0 ≤ 9223372036854775807 := by
  by_cases hk : k < l.length
  · exact h _ (getD_mem hk)
  · rw [show l.getD k 0 = 0 by simp [List.getD, List.getElem?_eq_none (show l.length ≤ k by omega)]]; omega
theorem pow2_le {m n : Nat} (h : m ≤ n) : (2 : Int) ^ m ≤ 2 ^ n := by exact_mod_cast Nat.pow_le_pow_right (by decide) h
theorem pow2_pos (m : Nat) : (1 : Int) ≤ 2 ^ m := by have := pow2_le (Nat.zero_le m); simpa using this

theorem fits_fun (n : Int) (w : Int) (hn : -9223372036854775808 ≤ n ∧ n ≤ 9223372036854775807) (hw : 1 ≤ w ∧ w ≤ 8) : Fun Try.prog 150 [.v (.int .i64 n), .v (.int .i64 w)] fun r => r = .v (.bool (putFit w n)) := by
  refine Fun.of_awpI Try.func150 rfl cal150 Try.ntmps150 (by simp) fun hwf => ?_
  simp only [D.wfs, D.wf, ints_length, ints_wfs, rows_length, rows_wfs, capMax, and_true, true_and] at hwf
  have hfit := putFit_iff (w := w.toNat) hn (by omega)
  rw [Int.toNat_of_nonneg (by omega)] at hfit
  repeat' (first | simp only [go_sem, Ret_eq Try.results150] | simp (disch := omega) only [arith, IntKind.bits, capMax, fill_len, elt_fill] | (with_reducible refine condI_beq (fun hq hqb => ?_) (fun hq hqb => ?_) <;> simp only [KP_mk, hqb]) | (with_reducible refine condI_bne (fun hq hqb => ?_) (fun hq hqb => ?_) <;> simp only [KP_mk, hqb]) | (with_reducible refine condI_dec (fun hq hqb => ?_) (fun hq hqb => ?_) <;> simp only [KP_mk, hqb]) | (with_reducible refine condI_b (fun hqb => ?_) (fun hqb => ?_) <;> simp only [KP_mk, hqb]) | refine RetO_calc Try.results150 ?_ | refine RetL_calc Try.results150 rfl ?_ | (refine Again.up (by omega) ?_ ?_) | exact trivial | fail)
  · subst_vars
    have : putFit 8 n = true := hfit.2 (by simp; omega)
    rw [this]
  · have hb := pow2_le (m := 8 * w.toNat - 1) (n := 55) (by omega)
    refine awpI_for (8 * w.toNat - 1) (fun k => True) (fun k => [(5, .v (.int .i64 (2 ^ k))), (11, .v (.int .i64 k))]) (fun _ => []) [0, 10] [] _ (Weak.refl _) trivial ?_ ?_ ?_
    · simp only [go_sem, Ret_eq Try.results150]
    · simp only [go_sem, Ret_eq Try.results150]
    · intro k s hk _ hs
      simp only [go_sem, Ret_eq Try.results150] at hs
      have b1 := pow2_pos k
      have b2 := pow2_le (m := k) (n := 55) (by omega)
      have e : (2 : Int) * 2 ^ k = 2 ^ (k + 1) := by rw [Int.pow_succ, Int.mul_comm]
      by_cases hka : k < 8 * w.toNat - 1
      · have b3 := pow2_le (m := k + 1) (n := 55) (by omega)
        repeat' (first | simp only [go_sem, hs, e, Ret_eq Try.results150] | simp (disch := omega) only [arith, IntKind.bits, capMax, fill_len, elt_fill] | (with_reducible refine condI_beq (fun hq hqb => ?_) (fun hq hqb => ?_) <;> simp only [KP_mk, hqb]) | (with_reducible refine condI_bne (fun hq hqb => ?_) (fun hq hqb => ?_) <;> simp only [KP_mk, hqb]) | (with_reducible refine condI_dec (fun hq hqb => ?_) (fun hq hqb => ?_) <;> simp only [KP_mk, hqb]) | (with_reducible refine condI_b (fun hqb => ?_) (fun hqb => ?_) <;> simp only [KP_mk, hqb]) | refine RetO_calc Try.results150 ?_ | refine RetL_calc Try.results150 rfl ?_ | (refine Again.up (by omega) ?_ ?_) | exact trivial | fail)
      · obtain rfl : k = 8 * w.toNat - 1 := by omega
        repeat' (first | simp only [go_sem, hs, Ret_eq Try.results150] | simp (disch := omega) only [arith, IntKind.bits, capMax, fill_len, elt_fill] | (with_reducible refine condI_beq (fun hq hqb => ?_) (fun hq hqb => ?_) <;> simp only [KP_mk, hqb]) | (with_reducible refine condI_bne (fun hq hqb => ?_) (fun hq hqb => ?_) <;> simp only [KP_mk, hqb]) | (with_reducible refine condI_dec (fun hq hqb => ?_) (fun hq hqb => ?_) <;> simp only [KP_mk, hqb]) | (with_reducible refine condI_b (fun hqb => ?_) (fun hqb => ?_) <;> simp only [KP_mk, hqb]) | refine RetO_calc Try.results150 ?_ | refine RetL_calc Try.results150 rfl ?_ | (refine Again.up (by omega) ?_ ?_) | exact trivial | fail)
        · rw [Bool.eq_iff_iff, hfit, decide_eq_true_eq]; omega
        · have : putFit w n = false := by rw [← Bool.not_eq_true, hfit]; omega
          rw [this]
theorem u64_oct {n : Int} {j : Nat} (hj : j < 8) : n % 18446744073709551616 / 256 ^ j % 256 = oct n j := by
  rw [oct_eq]
  have h1 : j = 0 ∨ j = 1 ∨ j = 2 ∨ j = 3 ∨ j = 4 ∨ j = 5 ∨ j = 6 ∨ j = 7 := by omega
  rcases h1 with rfl | rfl | rfl | rfl | rfl | rfl | rfl | rfl <;> simp <;> omega
theorem oct_bound (n : Int) (j : Nat) : 0 ≤ oct n j ∧ oct n j ≤ 255 := by rw [oct_eq]; omega
theorem octs_zero {n : Int} : octs 0 n = [] := rfl
theorem putErr_w {b l : List Int} {w : Int} (h : ¬ (1 ≤ w ∧ w ≤ 8)) : putErr b w l = 1 := by unfold putErr; rw [if_pos h]
theorem putErr_large {b l : List Int} {w : Int} (h : 1 ≤ w ∧ w ≤ 8) (h2 : l.all (putFit w) = false) : putErr b w l = 4 := by unfold putErr; rw [if_neg (by simpa using h), if_pos h2]
theorem putErr_long {b l : List Int} {w : Int} (h : 1 ≤ w ∧ w ≤ 8) (h2 : l.all (putFit w) = true) (h3 : 65536 < b.length + w * l.length) : putErr b w l = 3 := by
  have h4 : (l.length : Int) ≤ w * l.length := by have := Int.mul_le_mul_of_nonneg_right h.1 (Int.natCast_nonneg l.length); omega
  unfold putErr
  rw [if_neg (by simpa using h), if_neg (by simp [h2]), if_pos (by omega)]
theorem putErr_fine {b l : List Int} {w : Int} (h : 1 ≤ w ∧ w ≤ 8) (h2 : l.all (putFit w) = true) (h3 : b.length + w * l.length ≤ 65536) : putErr b w l = 0 := by
  have h4 : (l.length : Int) ≤ w * l.length := by have := Int.mul_le_mul_of_nonneg_right h.1 (Int.natCast_nonneg l.length); omega
  unfold putErr
  rw [if_neg (by simpa using h), if_neg (by simp [h2]), if_neg (by omega)]
theorem putRead_err {b l : List Int} {w : Int} (h : putErr b w l ≠ 0) : putRead b w l = [] := by unfold putRead; rw [if_neg h]
theorem putRead_fine {b l : List Int} {w : Int} (h : putErr b w l = 0) : putRead b w l = b ++ l.flatMap (octs w.toNat) := by unfold putRead; rw [if_pos h]; rfl

theorem refPut_fun (b : List Int) (w : Int) (l : List Int) (hl : I64s l) (hll : l.length ≤ 140737488355328) (hb : b.length ≤ 140737488355328) : Fun Try.prog 111 [.lst (ints .u8 b), .v (.int .i64 w), .lst (ints .i64 l)] fun r =>
    r = .tup [.lst (ints .u8 (putRead b w l)), .v (.int .i64 (putErr b w l))] := by
  refine Fun.of_awpI Try.func111 rfl cal111 Try.ntmps111 (by simp) fun hwf => ?_
  simp only [D.wfs, D.wf, ints_length, ints_wfs, rows_length, rows_wfs, capMax, and_true, true_and] at hwf
  repeat' (first | simp only [go_sem, Ret_eq Try.results111] | simp (disch := omega) only [arith, IntKind.bits, capMax, fill_len, elt_fill] | (with_reducible refine condI_beq (fun hq hqb => ?_) (fun hq hqb => ?_) <;> simp only [KP_mk, hqb]) | (with_reducible refine condI_bne (fun hq hqb => ?_) (fun hq hqb => ?_) <;> simp only [KP_mk, hqb]) | (with_reducible refine condI_dec (fun hq hqb => ?_) (fun hq hqb => ?_) <;> simp only [KP_mk, hqb]) | (with_reducible refine condI_b (fun hqb => ?_) (fun hqb => ?_) <;> simp only [KP_mk, hqb]) | refine RetO_calc Try.results111 ?_ | refine RetL_calc Try.results111 rfl ?_ | (refine Again.up (by omega) ?_ ?_) | exact trivial | fail)
  · have he := putErr_w (b := b) (l := l) (w := w) (by omega)
    rw [putRead_err (by omega), he]; rfl
  · have he := putErr_w (b := b) (l := l) (w := w) (by omega)
    rw [putRead_err (by omega), he]; rfl
  · have hw : 1 ≤ w ∧ w ≤ 8 := by omega
    refine awpI_for l.length (fun k => (l.take k).all (putFit w) = true) (fun k => [(22, .v (.int .i64 k))]) (fun _ => []) [0, 1, 2, 20, 21] [] _ (Weak.refl _) (by simp) ?_ ?_ ?_
    · simp only [go_sem, Ret_eq Try.results111]
    · simp only [go_sem, Ret_eq Try.results111]
    · intro k s hk hQ hs
      simp only [go_sem, Ret_eq Try.results111] at hs
      by_cases hka : k < l.length
      · repeat' (first | simp only [go_sem, hs, Ret_eq Try.results111] | simp (disch := omega) only [arith, IntKind.bits, capMax, fill_len, elt_fill] | (with_reducible refine condI_beq (fun hq hqb => ?_) (fun hq hqb => ?_) <;> simp only [KP_mk, hqb]) | (with_reducible refine condI_bne (fun hq hqb => ?_) (fun hq hqb => ?_) <;> simp only [KP_mk, hqb]) | (with_reducible refine condI_dec (fun hq hqb => ?_) (fun hq hqb => ?_) <;> simp only [KP_mk, hqb]) | (with_reducible refine condI_b (fun hqb => ?_) (fun hqb => ?_) <;> simp only [KP_mk, hqb]) | refine RetO_calc Try.results111 ?_ | refine RetL_calc Try.results111 rfl ?_ | (refine Again.up (by omega) ?_ ?_) | exact trivial | (refine opCallI_rd (by simp only [go_sem, hs, Ret_eq Try.results111]; first | done | rfl) (fits_fun _ _ (hl.getD k) hw) (by rintro _ rfl; rfl) ?_; rintro _ rfl) | (refine opCallI_gv (by simp only [go_sem, hs, Ret_eq Try.results111]; first | done | rfl) (fits_fun _ _ (hl.getD k) hw) ?_; rintro _ rfl) | fail)
        · rw [all_take_snoc (d := 0) hka, hQ, (by assumption : putFit w (l.getD k 0) = true)]; rfl
        · have he := putErr_large (b := b) hw (all_false_at (d := 0) hka (by assumption))
          rw [putRead_err (by omega), he]; rfl
      · obtain rfl : k = l.length := by omega
        rw [List.take_length] at hQ
        have h4 : (l.length : Int) ≤ w * l.length := by have := Int.mul_le_mul_of_nonneg_right hw.1 (Int.natCast_nonneg l.length); omega
        have h5 : w * l.length ≤ 8 * l.length := Int.mul_le_mul_of_nonneg_right hw.2 (by omega)
        repeat' (first | simp only [go_sem, hs, Ret_eq Try.results111] | simp (disch := omega) only [arith, IntKind.bits, capMax, fill_len, elt_fill] | (with_reducible refine condI_beq (fun hq hqb => ?_) (fun hq hqb => ?_) <;> simp only [KP_mk, hqb]) | (with_reducible refine condI_bne (fun hq hqb => ?_) (fun hq hqb => ?_) <;> simp only [KP_mk, hqb]) | (with_reducible refine condI_dec (fun hq hqb => ?_) (fun hq hqb => ?_) <;> simp only [KP_mk, hqb]) | (with_reducible refine condI_b (fun hqb => ?_) (fun hqb => ?_) <;> simp only [KP_mk, hqb]) | refine RetO_calc Try.results111 ?_ | refine RetL_calc Try.results111 rfl ?_ | (refine Again.up (by omega) ?_ ?_) | exact trivial | fail)
        · have he := putErr_long (b := b) hw hQ (by omega)
          rw [putRead_err (by omega), he]; rfl
        · have he := putErr_fine (b := b) hw hQ (by omega)
          have hlen : (b ++ l.flatMap (octs w.toNat)).length ≤ 65536 := by
            rw [List.length_append, flat_octs_length]
            have : ((w.toNat * l.length : Nat) : Int) = w * l.length := by rw [Int.natCast_mul, Int.toNat_of_nonneg (by omega)]
            omega
          refine awpI_for l.length (fun k => True) (fun k => [(10, .ref 40 (b ++ (l.take k).flatMap (octs w.toNat)).length), (43, .v (.int .i64 k))]) (fun k => [(40, ⟨5, 1, ints .u8 (b ++ (l.take k).flatMap (octs w.toNat))⟩)]) [1, 41, 42] [] _ (Weak.refl _) trivial ?_ ?_ ?_
          · simp only [go_sem, List.flatMap_nil, Ret_eq Try.results111]
          · simp only [go_sem, List.flatMap_nil, Ret_eq Try.results111]
          · intro k s2 hk2 _ hs2
            simp only [go_sem, hs, Ret_eq Try.results111] at hs2
            by_cases hkb : k < l.length
            · have hacc : (b ++ (l.take k).flatMap (octs w.toNat)).length + w.toNat ≤ 65536 := by
                rw [List.length_append, flat_octs_length, List.length_take, Nat.min_eq_left hk2]
                rw [List.length_append, flat_octs_length] at hlen
                have : w.toNat * (k + 1) ≤ w.toNat * l.length := Nat.mul_le_mul_left _ hkb
                rw [Nat.mul_succ] at this
                omega
              have hfm := flatMap_take_snoc (g := octs w.toNat) (d := 0) hkb
              generalize hae : b ++ (l.take k).flatMap (octs w.toNat) = acc at *
              have hn := hl.getD k
              generalize hne : l.getD k 0 = n at *
              have h256 : ∀ j : Nat, 0 ≤ n % 18446744073709551616 / 256 ^ j ∧ n % 18446744073709551616 / 256 ^ j ≤ 18446744073709551615 := by
                intro j
                have h0 : 0 ≤ n % 18446744073709551616 := Int.emod_nonneg _ (by decide)
                have hp : (0 : Int) ≤ 256 ^ j := Int.le_of_lt (Int.pow_pos (by decide))
                have h1 := Int.ediv_nonneg h0 hp
                have h2 := Int.ediv_le_self (256 ^ j) h0
                omega
              have hu : IntKind.u64.wrap n = n % 18446744073709551616 / 256 ^ 0 := by rw [IntKind.wrap_u64]; simp
              repeat' (first | simp only [go_sem, hs2, hne, hu, Ret_eq Try.results111] | simp (disch := omega) only [arith, IntKind.bits, capMax, fill_len, elt_fill] | (with_reducible refine condI_beq (fun hq hqb => ?_) (fun hq hqb => ?_) <;> simp only [KP_mk, hqb]) | (with_reducible refine condI_bne (fun hq hqb => ?_) (fun hq hqb => ?_) <;> simp only [KP_mk, hqb]) | (with_reducible refine condI_dec (fun hq hqb => ?_) (fun hq hqb => ?_) <;> simp only [KP_mk, hqb]) | (with_reducible refine condI_b (fun hqb => ?_) (fun hqb => ?_) <;> simp only [KP_mk, hqb]) | refine RetO_calc Try.results111 ?_ | refine RetL_calc Try.results111 rfl ?_ | (refine Again.up (by omega) ?_ ?_) | exact trivial | fail)
              refine awpI_for w.toNat (fun j => True) (fun j => [(10, .ref 40 (acc ++ octs j n).length), (13, .v (.int .u64 (n % 18446744073709551616 / 256 ^ j))), (50, .v (.int .i64 j))]) (fun j => [(40, ⟨5, 1, ints .u8 (acc ++ octs j n)⟩)]) [1, 41, 42, 43, 49] [] _ (Weak.refl _) trivial ?_ ?_ ?_
              · simp only [go_sem, hs2, hne, hu, octs_zero, Ret_eq Try.results111]
              · simp only [go_sem, hs2, octs_zero, Ret_eq Try.results111]
              · intro j s3 hj _ hs3
                simp only [go_sem, hs2, Ret_eq Try.results111] at hs3
                have b1 := h256 j
                by_cases hjw : j < w.toNat
                · have e1 := u64_oct (n := n) (j := j) (by omega)
                  have e2 := octs_succ (j := j) (n := n)
                  have e3 : (n % 18446744073709551616 / 256 ^ j) / 256 = n % 18446744073709551616 / 256 ^ (j + 1) := by
                    have hp : (0 : Int) ≤ 256 ^ j := Int.le_of_lt (Int.pow_pos (by decide))
                    rw [Int.ediv_ediv_of_nonneg hp, ← Int.pow_succ]
                  have e4 : (acc ++ (octs j n ++ [oct n j])).length ≤ 65536 := by rw [← e2, List.length_append, octs_length]; omega
                  have b2 := oct_bound n j
                  have b3 := h256 (j + 1)
                  clear h256
                  repeat' (first | simp only [go_sem, hs3, hs2, hs, e1, e2, e3, Ret_eq Try.results111] | simp (disch := omega) only [arith, IntKind.bits, capMax, fill_len, elt_fill, e1, e3] | (with_reducible refine condI_beq (fun hq hqb => ?_) (fun hq hqb => ?_) <;> simp only [KP_mk, hqb]) | (with_reducible refine condI_bne (fun hq hqb => ?_) (fun hq hqb => ?_) <;> simp only [KP_mk, hqb]) | (with_reducible refine condI_dec (fun hq hqb => ?_) (fun hq hqb => ?_) <;> simp only [KP_mk, hqb]) | (with_reducible refine condI_b (fun hqb => ?_) (fun hqb => ?_) <;> simp only [KP_mk, hqb]) | refine RetO_calc Try.results111 ?_ | refine RetL_calc Try.results111 rfl ?_ | (refine Again.up (by omega) ?_ ?_) | exact trivial | fail)
                · obtain rfl : j = w.toNat := by omega
                  clear h256
                  repeat' (first | simp only [go_sem, hs3, hs2, hs, hfm, Ret_eq Try.results111] | simp (disch := omega) only [arith, IntKind.bits, capMax, fill_len, elt_fill] | (with_reducible refine condI_beq (fun hq hqb => ?_) (fun hq hqb => ?_) <;> simp only [KP_mk, hqb]) | (with_reducible refine condI_bne (fun hq hqb => ?_) (fun hq hqb => ?_) <;> simp only [KP_mk, hqb]) | (with_reducible refine condI_dec (fun hq hqb => ?_) (fun hq hqb => ?_) <;> simp only [KP_mk, hqb]) | (with_reducible refine condI_b (fun hqb => ?_) (fun hqb => ?_) <;> simp only [KP_mk, hqb]) | refine RetO_calc Try.results111 ?_ | refine RetL_calc Try.results111 rfl ?_ | (refine Again.up (by omega) ?_ ?_) | exact trivial | fail)
                  subst hae
                  simp only [List.append_assoc, and_self]
            · obtain rfl : k = l.length := by omega
              rw [List.take_length] at hs2
              repeat' (first | simp only [go_sem, hs2, Ret_eq Try.results111] | simp (disch := omega) only [arith, IntKind.bits, capMax, fill_len, elt_fill] | (with_reducible refine condI_beq (fun hq hqb => ?_) (fun hq hqb => ?_) <;> simp only [KP_mk, hqb]) | (with_reducible refine condI_bne (fun hq hqb => ?_) (fun hq hqb => ?_) <;> simp only [KP_mk, hqb]) | (with_reducible refine condI_dec (fun hq hqb => ?_) (fun hq hqb => ?_) <;> simp only [KP_mk, hqb]) | (with_reducible refine condI_b (fun hqb => ?_) (fun hqb => ?_) <;> simp only [KP_mk, hqb]) | refine RetO_calc Try.results111 ?_ | refine RetL_calc Try.results111 rfl ?_ | (refine Again.up (by omega) ?_ ?_) | exact trivial | fail)
              rw [putRead_fine he, he]
def refAcc (w : Nat) (seg : List Int) (u0 : Int) : Nat → Int
  | 0 => u0
  | j + 1 => IntKind.u64.wrap (IntKind.u64.wrap (256 * refAcc w seg u0 j) + IntKind.u64.wrap (seg.getD (w - 1 - j) 0))
theorem val_cons_drop {seg : List Int} {i : Nat} (h : i < seg.length) : val (seg.drop i) = seg.getD i 0 + 256 * val (seg.drop (i + 1)) := by
  rw [List.drop_eq_getElem_cons h, val]; simp [List.getD, h]
theorem refAcc_mod {w : Nat} {seg : List Int} (hs : seg.length = w) (u0 : Int) : ∀ j, j ≤ w → refAcc w seg u0 j % 18446744073709551616 = (256 ^ j * u0 + val (seg.drop (w - j))) % 18446744073709551616
  | 0, _ => by rw [refAcc, Nat.sub_zero, List.drop_of_length_le (by omega)]; simp [val]
  | j + 1, hj => by
    have ih := refAcc_mod hs u0 j (by omega)
    have hv := val_cons_drop (seg := seg) (i := w - 1 - j) (by omega)
    rw [show w - (j + 1) = w - 1 - j by omega, hv, show w - 1 - j + 1 = w - j by omega, refAcc, IntKind.wrap_u64, IntKind.wrap_u64, IntKind.wrap_u64, Int.pow_succ]
    generalize refAcc w seg u0 j = R at *
    generalize seg.getD (w - 1 - j) 0 = c at *
    generalize val (seg.drop (w - j)) = V at *
    have e : (256 : Int) ^ j * 256 * u0 = 256 * (256 ^ j * u0) := by grind
    rw [e]
    generalize (256 : Int) ^ j * u0 = X at *
    omega
theorem top_val {w : Nat} {seg : List Int} (hw : 1 ≤ w) (hs : seg.length = w) (ho : Octets seg) : (val seg < 2 ^ (8 * w - 1)) ↔ seg.getD (w - 1) 0 < 128 := by
  have e : seg = seg.take (w - 1) ++ [seg.getD (w - 1) 0] := by
    rw [← take_snoc (by omega), show w - 1 + 1 = w by omega, ← hs, List.take_length]
  have hv := val_snoc (seg.take (w - 1)) (seg.getD (w - 1) 0)
  rw [← e] at hv
  have hr := val_range (ho.take (w - 1))
  have hl : (seg.take (w - 1)).length = w - 1 := by simp; omega
  rw [hl] at hr hv
  have hp : (2 : Int) ^ (8 * w - 1) = 128 * 256 ^ (w - 1) := by
    rw [show (256 : Int) = 2 ^ 8 by decide, ← Int.pow_mul, show (128 : Int) = 2 ^ 7 by decide, ← Int.pow_add]
    congr 1
    omega
  rw [hv, hp]
  have hc := ho _ (getD_mem (d := 0) (show w - 1 < seg.length by omega))
  generalize seg.getD (w - 1) 0 = c at *
  generalize val (seg.take (w - 1)) = V at *
  have hM : (0 : Int) < 256 ^ (w - 1) := Int.pow_pos (by decide)
  generalize (256 : Int) ^ (w - 1) = M at *
  constructor
  · intro h
    refine Int.not_le.1 fun h128 => ?_
    have : M * 128 ≤ M * c := Int.mul_le_mul_of_nonneg_left h128 (by omega)
    omega
  · intro h
    have : M * c ≤ M * 127 := Int.mul_le_mul_of_nonneg_left (by omega) (by omega)
    omega
theorem refNum {w : Nat} {bs : List Int} (hw : 1 ≤ w ∧ w ≤ 8) (ho : Octets bs) (hl : w ≤ bs.length) (u0 : Int) (hu : u0 = if 128 ≤ (bs.take w).getD (w - 1) 0 then 18446744073709551615 else 0) : IntKind.i64.wrap (refAcc w (bs.take w) u0 w) = takeNum w bs := by
  have hs : (bs.take w).length = w := by simp; omega
  have hm := refAcc_mod hs u0 w (Nat.le_refl _)
  have ht := top_val hw.1 hs (ho.take w)
  have hr := val_range (ho.take w)
  rw [hs] at hr
  rw [Nat.sub_self, List.drop_zero] at hm
  rw [takeNum_eq hw ho hl]
  unfold sgn
  have e2 : (2 : Int) ^ (8 * w) = 256 ^ w := by rw [Int.pow_mul]; rfl
  rw [e2]
  generalize val (bs.take w) = V at *
  generalize refAcc w (bs.take w) u0 w = R at *
  have hp : (256 : Int) ^ w ≤ 256 ^ 8 := by exact_mod_cast Nat.pow_le_pow_right (by decide) hw.2
  have hp8 : (256 : Int) ^ 8 = 18446744073709551616 := by decide
  have hh : (256 : Int) ^ w = 2 * 2 ^ (8 * w - 1) := by
    rw [show (256 : Int) = 2 ^ 8 by decide, ← Int.pow_mul, ← Int.pow_succ']
    congr 1
    omega
  rw [IntKind.wrap_i64]
  split
  · rename_i hlt
    rw [if_neg (by have := ht.1 hlt; omega)] at hu
    subst hu
    rw [Int.mul_zero] at hm
    omega
  · rename_i hge
    rw [if_pos (by refine Int.not_lt.1 fun h => hge (ht.2 h))] at hu
    subst hu
    have e3 : (256 : Int) ^ w * 18446744073709551615 = 256 ^ w * 18446744073709551616 - 256 ^ w := by grind
    rw [e3] at hm
    generalize (256 : Int) ^ w = M at *
    have : (M * 18446744073709551616 - M + V) % 18446744073709551616 = (V - M) % 18446744073709551616 := by omega
    omega

theorem refTake_fun (b : List Int) (w n : Int) (hb : b.length ≤ 140737488355328) (ho : Octets b) : Fun Try.prog 113 [.lst (ints .u8 b), .v (.int .i64 w), .v (.int .i64 n)] fun r =>
    r = .tup [.lst (ints .i64 (takeOut b w n)), .lst (ints .u8 (takeRest b w n)), .v (.int .i64 (takeErr b w n))] := by
  refine Fun.of_awpI Try.func113 rfl cal113 Try.ntmps113 (by simp) fun hwf => ?_
  simp only [D.wfs, D.wf, ints_length, ints_wfs, rows_length, rows_wfs, capMax, and_true, true_and] at hwf
  have bad : ∀ c : Int, takeErr b w n = c → c ≠ 0 → takeOut b w n = [] ∧ takeRest b w n = [] := by
    rintro c rfl hc
    simp [takeOut, takeRest, hc]
  by_cases hok : (1 ≤ w ∧ w ≤ 8) ∧ 0 ≤ n ∧ n ≤ 65536
  · obtain ⟨hw, hn⟩ := hok
    have hub : n * w ≤ 65536 * 8 := Int.mul_le_mul hn.2 hw.2 (by omega) (by omega)
    have hlb : 0 ≤ n * w := Int.mul_nonneg hn.1 (by omega)
    by_cases hl : n * w ≤ b.length
    · obtain ⟨w, rfl⟩ : ∃ v : Nat, w = v := ⟨w.toNat, by omega⟩
      obtain ⟨m, rfl⟩ : ∃ v : Nat, n = v := ⟨n.toNat, by omega⟩
      have he : takeErr b w m = 0 := by unfold takeErr; rw [if_neg (by omega), if_neg (by omega)]
      have hmw : m * w ≤ b.length := by exact_mod_cast hl
      repeat' (first | simp only [go_sem, Ret_eq Try.results113] | simp (disch := omega) only [arith, IntKind.bits, capMax, fill_len, elt_fill] | (with_reducible refine condI_beq (fun hq hqb => ?_) (fun hq hqb => ?_) <;> simp only [KP_mk, hqb]) | (with_reducible refine condI_bne (fun hq hqb => ?_) (fun hq hqb => ?_) <;> simp only [KP_mk, hqb]) | (with_reducible refine condI_dec (fun hq hqb => ?_) (fun hq hqb => ?_) <;> simp only [KP_mk, hqb]) | (with_reducible refine condI_b (fun hqb => ?_) (fun hqb => ?_) <;> simp only [KP_mk, hqb]) | refine RetO_calc Try.results113 ?_ | refine RetL_calc Try.results113 rfl ?_ | (refine Again.up (by omega) ?_ ?_) | exact trivial | fail)
      refine awpI_for m (fun k => True) (fun k => [(9, .ref 69 k), (34, .v (.int .i64 k))]) (fun k => [(69, ⟨2, 1, ints .i64 (takeNums w k b)⟩)]) [0, 1, 2, 33] [] _ (Weak.adopt (j := 9) 69 2 1 (by simp only [go_sem, Ret_eq Try.results113]) (by simp only [go_sem, Ret_eq Try.results113]) (by decide)) trivial ?_ ?_ ?_
      · simp only [go_sem, Ret_eq Try.results113]
      · simp only [go_sem, takeNums, Ret_eq Try.results113]
      · intro k s hk _ hs
        simp only [go_sem, Ret_eq Try.results113] at hs
        by_cases hka : k < m
        · have hkw : k * w + w ≤ b.length := by
            have : (k + 1) * w ≤ m * w := Nat.mul_le_mul_right _ hka
            rw [Nat.succ_mul] at this
            omega
          have hkw' : ((k * w : Nat) : Int) = (k : Int) * w := Int.natCast_mul k w
          have hbl : w ≤ (b.drop (w * k)).length := by simp; rw [Nat.mul_comm]; omega
          have hseg : ∀ i, i < w → b.getD (k * w + i) 0 = ((b.drop (w * k)).take w).getD i 0 := by
            intro i hi
            simp [List.getD, List.getElem?_take, hi, Nat.mul_comm]
          have e1 : b.getD ((k : Int) * w + w - 1).toNat 0 = ((b.drop (w * k)).take w).getD (w - 1) 0 := by
            rw [← hseg (w - 1) (by omega)]; congr 1; omega
          have hsn := takeNums_snoc (w : Int) k b
          rw [Int.toNat_natCast] at hsn
          have hnum := fun u0 hu => refNum (w := w) (bs := b.drop (w * k)) (by omega) (ho.drop _) hbl u0 hu
          generalize hsg : (b.drop (w * k)).take w = seg at *
          repeat' (first | simp only [go_sem, hs, e1, Ret_eq Try.results113] | simp (disch := omega) only [arith, IntKind.bits, capMax, fill_len, elt_fill] | (with_reducible refine condI_beq (fun hq hqb => ?_) (fun hq hqb => ?_) <;> simp only [KP_mk, hqb]) | (with_reducible refine condI_bne (fun hq hqb => ?_) (fun hq hqb => ?_) <;> simp only [KP_mk, hqb]) | (with_reducible refine condI_dec (fun hq hqb => ?_) (fun hq hqb => ?_) <;> simp only [KP_mk, hqb]) | (with_reducible refine condI_b (fun hqb => ?_) (fun hqb => ?_) <;> simp only [KP_mk, hqb]) | refine RetO_calc Try.results113 ?_ | refine RetL_calc Try.results113 rfl ?_ | (refine Again.up (by omega) ?_ ?_) | exact trivial | fail)
          · have hN := hnum 18446744073709551615 (by rw [if_pos (by omega)])
            refine awpI_for w (fun j => True) (fun j => [(11, .v (.int .u64 (refAcc w seg 18446744073709551615 j))), (12, .v (.int .i64 ((w : Int) - 1 - j)))]) (fun j => [(69, ⟨2, 1, ints .i64 (takeNums w k b)⟩)]) [0, 1, 2, 9, 10, 33, 34] [] _ (Weak.refl _) trivial ?_ ?_ ?_
            · simp only [go_sem, hs, refAcc, Ret_eq Try.results113]
              simp
            · simp only [go_sem, hs, Ret_eq Try.results113]
            · intro j s3 hj _ hs3
              simp only [go_sem, hs, Ret_eq Try.results113] at hs3
              by_cases hjw : j < w
              · have e2 : b.getD ((k : Int) * w + (w - 1 - j)).toNat 0 = seg.getD (w - 1 - j) 0 := by
                  rw [← hseg (w - 1 - j) (by omega)]; congr 1; omega
                repeat' (first | simp only [go_sem, hs3, hs, e2, refAcc, Ret_eq Try.results113] | simp (disch := omega) only [arith, IntKind.bits, capMax, fill_len, elt_fill] | (with_reducible refine condI_beq (fun hq hqb => ?_) (fun hq hqb => ?_) <;> simp only [KP_mk, hqb]) | (with_reducible refine condI_bne (fun hq hqb => ?_) (fun hq hqb => ?_) <;> simp only [KP_mk, hqb]) | (with_reducible refine condI_dec (fun hq hqb => ?_) (fun hq hqb => ?_) <;> simp only [KP_mk, hqb]) | (with_reducible refine condI_b (fun hqb => ?_) (fun hqb => ?_) <;> simp only [KP_mk, hqb]) | refine RetO_calc Try.results113 ?_ | refine RetL_calc Try.results113 rfl ?_ | (refine Again.up (by omega) ?_ ?_) | exact trivial | fail)
                omega
              · obtain rfl : j = w := by omega
                repeat' (first | simp only [go_sem, hs3, hs, hN, ← hsn, takeNums_length, Ret_eq Try.results113] | simp (disch := omega) only [arith, IntKind.bits, capMax, fill_len, elt_fill] | (with_reducible refine condI_beq (fun hq hqb => ?_) (fun hq hqb => ?_) <;> simp only [KP_mk, hqb]) | (with_reducible refine condI_bne (fun hq hqb => ?_) (fun hq hqb => ?_) <;> simp only [KP_mk, hqb]) | (with_reducible refine condI_dec (fun hq hqb => ?_) (fun hq hqb => ?_) <;> simp only [KP_mk, hqb]) | (with_reducible refine condI_b (fun hqb => ?_) (fun hqb => ?_) <;> simp only [KP_mk, hqb]) | refine RetO_calc Try.results113 ?_ | refine RetL_calc Try.results113 rfl ?_ | (refine Again.up (by omega) ?_ ?_) | exact trivial | fail)
          · have hN := hnum 0 (by rw [if_neg (by omega)])
            refine awpI_for w (fun j => True) (fun j => [(11, .v (.int .u64 (refAcc w seg 0 j))), (12, .v (.int .i64 ((w : Int) - 1 - j)))]) (fun j => [(69, ⟨2, 1, ints .i64 (takeNums w k b)⟩)]) [0, 1, 2, 9, 10, 33, 34] [] _ (Weak.refl _) trivial ?_ ?_ ?_
            · simp only [go_sem, hs, refAcc, Ret_eq Try.results113]
              simp
            · simp only [go_sem, hs, Ret_eq Try.results113]
            · intro j s3 hj _ hs3
              simp only [go_sem, hs, Ret_eq Try.results113] at hs3
              by_cases hjw : j < w
              · have e2 : b.getD ((k : Int) * w + (w - 1 - j)).toNat 0 = seg.getD (w - 1 - j) 0 := by
                  rw [← hseg (w - 1 - j) (by omega)]; congr 1; omega
                repeat' (first | simp only [go_sem, hs3, hs, e2, refAcc, Ret_eq Try.results113] | simp (disch := omega) only [arith, IntKind.bits, capMax, fill_len, elt_fill] | (with_reducible refine condI_beq (fun hq hqb => ?_) (fun hq hqb => ?_) <;> simp only [KP_mk, hqb]) | (with_reducible refine condI_bne (fun hq hqb => ?_) (fun hq hqb => ?_) <;> simp only [KP_mk, hqb]) | (with_reducible refine condI_dec (fun hq hqb => ?_) (fun hq hqb => ?_) <;> simp only [KP_mk, hqb]) | (with_reducible refine condI_b (fun hqb => ?_) (fun hqb => ?_) <;> simp only [KP_mk, hqb]) | refine RetO_calc Try.results113 ?_ | refine RetL_calc Try.results113 rfl ?_ | (refine Again.up (by omega) ?_ ?_) | exact trivial | fail)
                omega
              · obtain rfl : j = w := by omega
                repeat' (first | simp only [go_sem, hs3, hs, hN, ← hsn, takeNums_length, Ret_eq Try.results113] | simp (disch := omega) only [arith, IntKind.bits, capMax, fill_len, elt_fill] | (with_reducible refine condI_beq (fun hq hqb => ?_) (fun hq hqb => ?_) <;> simp only [KP_mk, hqb]) | (with_reducible refine condI_bne (fun hq hqb => ?_) (fun hq hqb => ?_) <;> simp only [KP_mk, hqb]) | (with_reducible refine condI_dec (fun hq hqb => ?_) (fun hq hqb => ?_) <;> simp only [KP_mk, hqb]) | (with_reducible refine condI_b (fun hqb => ?_) (fun hqb => ?_) <;> simp only [KP_mk, hqb]) | refine RetO_calc Try.results113 ?_ | refine RetL_calc Try.results113 rfl ?_ | (refine Again.up (by omega) ?_ ?_) | exact trivial | fail)
        · obtain rfl : k = m := by omega
          have hdr : b.drop ((k : Int) * w).toNat = b.drop (w * k) := by
            congr 1
            have : ((k * w : Nat) : Int) = (k : Int) * w := Int.natCast_mul k w
            rw [Nat.mul_comm]; omega
          have htk : (takeNums w k b).take k = takeNums w k b := by rw [List.take_of_length_le (by rw [takeNums_length]; exact Nat.le_refl _)]
          have hdl : (b.drop (w * k)).length ≤ 140737488355328 := by simp; omega
          repeat' (first | simp only [go_sem, hs, hdr, takeNums_length, htk, Ret_eq Try.results113] | simp (disch := omega) only [arith, IntKind.bits, capMax, fill_len, elt_fill] | (with_reducible refine condI_beq (fun hq hqb => ?_) (fun hq hqb => ?_) <;> simp only [KP_mk, hqb]) | (with_reducible refine condI_bne (fun hq hqb => ?_) (fun hq hqb => ?_) <;> simp only [KP_mk, hqb]) | (with_reducible refine condI_dec (fun hq hqb => ?_) (fun hq hqb => ?_) <;> simp only [KP_mk, hqb]) | (with_reducible refine condI_b (fun hqb => ?_) (fun hqb => ?_) <;> simp only [KP_mk, hqb]) | refine RetO_calc Try.results113 ?_ | refine RetL_calc Try.results113 rfl ?_ | (refine Again.up (by omega) ?_ ?_) | exact trivial | fail)
          rw [he]
          simp only [takeOut, takeRest, he, if_true, Int.toNat_natCast]
    · have he : takeErr b w n = 2 := by unfold takeErr; rw [if_neg (by omega), if_pos (by omega)]
      obtain ⟨q1, q2⟩ := bad 2 he (by decide)
      repeat' (first | simp only [go_sem, Ret_eq Try.results113] | simp (disch := omega) only [arith, IntKind.bits, capMax, fill_len, elt_fill] | (with_reducible refine condI_beq (fun hq hqb => ?_) (fun hq hqb => ?_) <;> simp only [KP_mk, hqb]) | (with_reducible refine condI_bne (fun hq hqb => ?_) (fun hq hqb => ?_) <;> simp only [KP_mk, hqb]) | (with_reducible refine condI_dec (fun hq hqb => ?_) (fun hq hqb => ?_) <;> simp only [KP_mk, hqb]) | (with_reducible refine condI_b (fun hqb => ?_) (fun hqb => ?_) <;> simp only [KP_mk, hqb]) | refine RetO_calc Try.results113 ?_ | refine RetL_calc Try.results113 rfl ?_ | (refine Again.up (by omega) ?_ ?_) | exact trivial | fail)
      rw [he, q1, q2]; rfl
  · have he : takeErr b w n = 1 := by unfold takeErr; rw [if_pos (by omega)]
    obtain ⟨q1, q2⟩ := bad 1 he (by decide)
    repeat' (first | simp only [go_sem, he, q1, q2, ints_nil, Ret_eq Try.results113] | simp (disch := omega) only [arith, IntKind.bits, capMax, fill_len, elt_fill] | (with_reducible refine condI_beq (fun hq hqb => ?_) (fun hq hqb => ?_) <;> simp only [KP_mk, hqb]) | (with_reducible refine condI_bne (fun hq hqb => ?_) (fun hq hqb => ?_) <;> simp only [KP_mk, hqb]) | (with_reducible refine condI_dec (fun hq hqb => ?_) (fun hq hqb => ?_) <;> simp only [KP_mk, hqb]) | (with_reducible refine condI_b (fun hqb => ?_) (fun hqb => ?_) <;> simp only [KP_mk, hqb]) | refine RetO_calc Try.results113 ?_ | refine RetL_calc Try.results113 rfl ?_ | (refine Again.up (by omega) ?_ ?_) | exact trivial | fail)
end Go.Proofs.Ytpkampecmlpfmaa.T
