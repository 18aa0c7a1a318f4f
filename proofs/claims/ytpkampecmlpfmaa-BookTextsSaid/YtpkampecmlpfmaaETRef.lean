import Derived.Test.YtpkampecmlpfmaaLE
import Derived.Test.YtpkampecmlpfmaaETurnM
set_option linter.unusedSimpArgs false
set_option linter.unusedVariables false
/- The document's ways and turned vectors, walked. -/
namespace Go.Proofs.Ytpkampecmlpfmaa.T
open Go Go.VL Go.Proofs
set_option maxRecDepth 100000
set_option maxHeartbeats 4000000
/-- A list of digits. -/
def dl (f : Nat → Nat) (n : Nat) : List Int := (List.range n).map fun i => (f i : Int)
theorem dl_length {f : Nat → Nat} {n : Nat} : (dl f n).length = n := by simp [dl]
theorem dl_succ {f : Nat → Nat} {n : Nat} : dl f n ++ [(f n : Int)] = dl f (n + 1) := by simp [dl, List.range_succ]
theorem dl_getD {f : Nat → Nat} {n i : Nat} (h : i < n) : (dl f n).getD i 0 = f i := getD_map_range h
theorem dl_take {f : Nat → Nat} : (dl f 31).take 31 = dl f 31 := List.take_of_length_le (by rw [dl_length]; exact Nat.le_refl _)
def suf (f : Nat → Nat) (n : Nat) : Nat → Nat
  | 0 => 0
  | k + 1 => 4 * suf f n k + f (n - 1 - k)
theorem suf_lt {f : Nat → Nat} (hf : ∀ i, f i < 4) {n : Nat} : ∀ k, suf f n k < 4 ^ k
  | 0 => by simp [suf]
  | k + 1 => by have := suf_lt hf (n := n) k; have := hf (n - 1 - k); rw [suf, Nat.pow_succ]; omega
theorem dg_suf {f : Nat → Nat} (hf : ∀ i, f i < 4) {n : Nat} : ∀ k j, j < k → k ≤ n → dg (suf f n k) j = f (n - k + j)
  | 0, _, h, _ => by omega
  | k + 1, 0, _, h => by
    have := hf (n - 1 - k)
    rw [suf, dg_zero, show n - (k + 1) + 0 = n - 1 - k by omega]; omega
  | k + 1, j + 1, h1, h2 => by
    have := hf (n - 1 - k)
    rw [suf, dg_succ, show (4 * suf f n k + f (n - 1 - k)) / 4 = suf f n k by omega, dg_suf hf k j (by omega) (by omega)]
    congr 1; omega
theorem suf_eq {f : Nat → Nat} (hf : ∀ i, f i < 4) {w : Nat} (hw : w < 4 ^ 31) (h : ∀ i, i < 31 → dg w i = f i) : suf f 31 31 = w :=
  dg_ext 31 (suf_lt hf 31) hw fun i hi => by rw [dg_suf hf 31 i hi (by omega), h i hi]; congr 1; omega
theorem div_pow_succ (w k : Nat) : w / 4 ^ k / 4 = w / 4 ^ (k + 1) := by rw [Nat.div_div_eq_div_mul, Nat.pow_succ]

theorem may_fun (a : Int) : Fun Try.prog 125 [.v (.int .i64 a)] fun r => r = .v (.bool (decide (wayErr a = 0))) := by
  refine Fun.of_awpI Try.func125 rfl cal125 Try.ntmps125 (by simp) fun hwf => ?_
  simp only [D.wfs, D.wf, ints_length, ints_wfs, rows_length, rows_wfs, capMax, and_true, true_and] at hwf
  by_cases h : wayErr a = 0
  · obtain ⟨h1, h2⟩ := wayErr_zero h
    unfold maxTwist at h2
    repeat' (first | simp only [go_sem, h, Ret_eq Try.results125] | simp (disch := omega) only [arith, IntKind.bits, capMax, fill_len, elt_fill] | (with_reducible refine condI_beq (fun hq hqb => ?_) (fun hq hqb => ?_) <;> simp only [KP_mk, hqb]) | (with_reducible refine condI_bne (fun hq hqb => ?_) (fun hq hqb => ?_) <;> simp only [KP_mk, hqb]) | (with_reducible refine condI_dec (fun hq hqb => ?_) (fun hq hqb => ?_) <;> simp only [KP_mk, hqb]) | (with_reducible refine condI_b (fun hqb => ?_) (fun hqb => ?_) <;> simp only [KP_mk, hqb]) | refine RetO_calc Try.results125 ?_ | refine RetL_calc Try.results125 rfl ?_ | (refine Again.up (by omega) ?_ ?_) | exact trivial | fail)
  · have h' : ¬ (0 ≤ a ∧ a ≤ maxTwist) := fun q => h (way_even q)
    unfold maxTwist at h'
    rw [decide_eq_false h]
    repeat' (first | simp only [go_sem, Ret_eq Try.results125] | simp (disch := omega) only [arith, IntKind.bits, capMax, fill_len, elt_fill] | (with_reducible refine condI_beq (fun hq hqb => ?_) (fun hq hqb => ?_) <;> simp only [KP_mk, hqb]) | (with_reducible refine condI_bne (fun hq hqb => ?_) (fun hq hqb => ?_) <;> simp only [KP_mk, hqb]) | (with_reducible refine condI_dec (fun hq hqb => ?_) (fun hq hqb => ?_) <;> simp only [KP_mk, hqb]) | (with_reducible refine condI_b (fun hqb => ?_) (fun hqb => ?_) <;> simp only [KP_mk, hqb]) | refine RetO_calc Try.results125 ?_ | refine RetL_calc Try.results125 rfl ?_ | (refine Again.up (by omega) ?_ ?_) | exact trivial | fail)
    rw [decide_eq_false (by omega)]

theorem digits_fun (w : Nat) (hw : w < 2 ^ 62) : FunO Try.prog 154 [.v (.int .i64 w)] fun r o => r = .ref 0 31 ∧ o = some ⟨3, 1, ints .i64 (dl (dg w) 31)⟩ := by
  refine FunO.of_awpI Try.func154 rfl cal154 Try.ntmps154 (by simp) fun hwf => ?_
  simp only [D.wfs, D.wf, ints_length, ints_wfs, rows_length, rows_wfs, capMax, and_true, true_and] at hwf
  repeat' (first | simp only [go_sem, Ret_eq Try.results154] | simp (disch := omega) only [arith, IntKind.bits, capMax, fill_len, elt_fill] | (with_reducible refine condI_beq (fun hq hqb => ?_) (fun hq hqb => ?_) <;> simp only [KP_mk, hqb]) | (with_reducible refine condI_bne (fun hq hqb => ?_) (fun hq hqb => ?_) <;> simp only [KP_mk, hqb]) | (with_reducible refine condI_dec (fun hq hqb => ?_) (fun hq hqb => ?_) <;> simp only [KP_mk, hqb]) | (with_reducible refine condI_b (fun hqb => ?_) (fun hqb => ?_) <;> simp only [KP_mk, hqb]) | refine RetO_calc Try.results154 ?_ | refine RetL_calc Try.results154 rfl ?_ | (refine Again.up (by omega) ?_ ?_) | exact trivial | fail)
  refine awpI_for 31 (fun k => True) (fun k => [(0, .v (.int .i64 ((w / 4 ^ k : Nat) : Int))), (3, .ref 10 k), (4, .v (.int .i64 k))]) (fun k => [(10, ⟨3, 1, ints .i64 (dl (dg w) k)⟩)]) [] [] _ (Weak.adopt (j := 3) 10 3 1 (by simp only [go_sem, Ret_eq Try.results154]) (by simp only [go_sem, Ret_eq Try.results154]) (by decide)) trivial ?_ ?_ ?_
  · simp only [go_sem, Ret_eq Try.results154]
    simp
  · simp only [go_sem, Ret_eq Try.results154]
    rfl
  · intro k s hk _ hs
    simp only [go_sem, Ret_eq Try.results154] at hs
    have hl := dl_length (f := dg w) (n := k)
    have hle : w / 4 ^ k ≤ w := Nat.div_le_self _ _
    have e1 : ((w / 4 ^ k : Nat) : Int) % 4 = (dg w k : Nat) := rfl
    have e2 : ((w / 4 ^ k : Nat) : Int) / 4 = ((w / 4 ^ (k + 1) : Nat) : Int) := by rw [← div_pow_succ]; rfl
    have e3 := dl_succ (f := dg w) (n := k)
    have hd := dg_lt w k
    have hl2 := dl_length (f := dg w) (n := k + 1)
    have hle2 : w / 4 ^ (k + 1) ≤ w := Nat.div_le_self _ _
    generalize w / 4 ^ k = u at *
    generalize hu' : w / 4 ^ (k + 1) = u' at *
    generalize dg w k = d at *
    by_cases hka : k < 31
    · repeat' (first | simp only [go_sem, hs, e1, e2, e3, hl, Ret_eq Try.results154] | simp (disch := omega) only [arith, IntKind.bits, capMax, fill_len, elt_fill] | (with_reducible refine condI_beq (fun hq hqb => ?_) (fun hq hqb => ?_) <;> simp only [KP_mk, hqb]) | (with_reducible refine condI_bne (fun hq hqb => ?_) (fun hq hqb => ?_) <;> simp only [KP_mk, hqb]) | (with_reducible refine condI_dec (fun hq hqb => ?_) (fun hq hqb => ?_) <;> simp only [KP_mk, hqb]) | (with_reducible refine condI_b (fun hqb => ?_) (fun hqb => ?_) <;> simp only [KP_mk, hqb]) | refine RetO_calc Try.results154 ?_ | refine RetL_calc Try.results154 rfl ?_ | (refine Again.up (by omega) ?_ ?_) | exact trivial | fail)
      exact ⟨by rw [hu'], by rw [hl2]⟩
    · obtain rfl : k = 31 := by omega
      repeat' (first | simp only [go_sem, hs, Ret_eq Try.results154] | simp (disch := omega) only [arith, IntKind.bits, capMax, fill_len, elt_fill] | (with_reducible refine condI_beq (fun hq hqb => ?_) (fun hq hqb => ?_) <;> simp only [KP_mk, hqb]) | (with_reducible refine condI_bne (fun hq hqb => ?_) (fun hq hqb => ?_) <;> simp only [KP_mk, hqb]) | (with_reducible refine condI_dec (fun hq hqb => ?_) (fun hq hqb => ?_) <;> simp only [KP_mk, hqb]) | (with_reducible refine condI_b (fun hqb => ?_) (fun hqb => ?_) <;> simp only [KP_mk, hqb]) | refine RetO_calc Try.results154 ?_ | refine RetL_calc Try.results154 rfl ?_ | (refine Again.up (by omega) ?_ ?_) | exact trivial | fail)
theorem whole_both {a b : Nat} {f : Nat → Nat} (hf : ∀ i, f i = (dg a i + dg b i) % 4) : suf f 31 31 = mapW add4 31 a b :=
  suf_eq (fun i => by rw [hf]; omega) (mapW_lt _ _ _ _) fun i hi => by rw [dg_mapW _ _ _ _ _ hi, hf]; rfl
theorem whole_not {a : Nat} {f : Nat → Nat} (hf : ∀ i, f i = (4 - dg a i) % 4) : suf f 31 31 = mapW neg4 31 a 0 :=
  suf_eq (fun i => by rw [hf]; omega) (mapW_lt _ _ _ _) fun i hi => by rw [dg_mapW _ _ _ _ _ hi, hf]; rfl
/-- The first k digits are g's, the others f's. -/
def dlK (f g : Nat → Nat) (n k : Nat) : List Int := dl (fun i => if i < k then g i else f i) n
theorem dlK_zero {f g : Nat → Nat} {n : Nat} : dlK f g n 0 = dl f n := by unfold dlK; congr 1
theorem dlK_end {f g : Nat → Nat} {n : Nat} : dlK f g n n = dl g n := by
  unfold dlK dl
  exact List.map_congr_left fun i hi => by show ((if i < n then g i else f i : Nat) : Int) = _; rw [if_pos (by simpa using hi)]
theorem dlK_length {f g : Nat → Nat} {n k : Nat} : (dlK f g n k).length = n := dl_length
theorem dlK_getD {f g : Nat → Nat} {n k : Nat} (h : k < n) : (dlK f g n k).getD k 0 = f k := by unfold dlK; rw [dl_getD h, if_neg (by omega)]
theorem dlK_set {f g : Nat → Nat} {n k : Nat} (h : k < n) : (dlK f g n k).set k (g k : Int) = dlK f g n (k + 1) := by
  refine ext_getD (d := 0) (by rw [List.length_set, dlK_length, dlK_length]) fun i hi => ?_
  rw [List.length_set, dlK_length] at hi
  rw [getD_set (by rw [dlK_length]; exact hi)]
  unfold dlK
  rw [dl_getD hi, dl_getD hi]
  by_cases h1 : i = k
  · subst h1; rw [if_pos rfl, if_pos (by omega)]
  · rw [if_neg h1]
    by_cases h2 : i < k
    · rw [if_pos h2, if_pos (by omega)]
    · rw [if_neg h2, if_neg (by omega)]
end Go.Proofs.Ytpkampecmlpfmaa.T
