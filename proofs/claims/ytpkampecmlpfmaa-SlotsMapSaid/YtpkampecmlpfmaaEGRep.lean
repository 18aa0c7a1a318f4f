import Derived.Test.YtpkampecmlpfmaaLE
import Derived.Test.YtpkampecmlpfmaaEGSq
set_option linter.unusedSimpArgs false
set_option linter.unusedVariables false
/- slices.Repeat, of one number, walked. -/
namespace Go.Proofs.Ytpkampecmlpfmaa.T
open Go Go.VL Go.Proofs
set_option maxRecDepth 100000
set_option maxHeartbeats 4000000
theorem and32 {y : Int} (h : 0 ≤ y ∧ y < 18446744073709551616) : abits .and .u64 y 4294967295 = y % 4294967296 := by
  obtain ⟨n, rfl⟩ := Int.eq_ofNat_of_zero_le h.1
  have hn : n < 18446744073709551616 := by omega
  simp only [abits]
  have e1 : BitVec.ofInt IntKind.u64.bits (n : Int) = BitVec.ofNat 64 n := by simp [IntKind.bits]
  have e2 : BitVec.ofInt IntKind.u64.bits 4294967295 = BitVec.ofNat 64 4294967295 := by rfl
  rw [e1, e2]
  show IntKind.u64.wrap ((BitVec.ofNat 64 n &&& BitVec.ofNat 64 4294967295).toNat : Int) = _
  rw [BitVec.toNat_and, BitVec.toNat_ofNat, BitVec.toNat_ofNat, Nat.mod_eq_of_lt (by omega)]
  have : n &&& (4294967295 % 2 ^ 64) = n % 4294967296 := by
    have := Nat.and_two_pow_sub_one_eq_mod n 32
    simpa using this
  rw [this]
  have : n % 4294967296 < 4294967296 := Nat.mod_lt _ (by decide)
  rw [IntKind.wrap_u64]
  omega

theorem mul64_fun (x y : Int) (hx : 0 ≤ x ∧ x < 2147483648) (hy : 0 ≤ y ∧ y < 2147483648) : Fun Try.prog 174 [.v (.int .u64 x), .v (.int .u64 y)] fun r => r = .tup [.v (.int .u64 0), .v (.int .u64 (x * y))] := by
  refine Fun.of_awpI Try.func174 rfl cal174 Try.ntmps174 (by simp) fun hwf => ?_
  simp only [D.wfs, D.wf, ints_length, ints_wfs, rows_length, rows_wfs, capMax, and_true, true_and] at hwf
  have h1 : 0 ≤ x * y := Int.mul_nonneg hx.1 hy.1
  have h2 : x * y ≤ 2147483648 * 2147483648 := Int.mul_le_mul (by omega) (by omega) hy.1 (by omega)
  have ax := and32 (y := x) (by omega)
  have ay := and32 (y := y) (by omega)
  have mx : x % 4294967296 = x := by omega
  have my : y % 4294967296 = y := by omega
  have sx : x.fdiv 4294967296 = 0 := by rw [Int.fdiv_eq_ediv_of_nonneg _ (by decide)]; omega
  have sy : y.fdiv 4294967296 = 0 := by rw [Int.fdiv_eq_ediv_of_nonneg _ (by decide)]; omega
  have hp : 0 ≤ (x * y).fdiv 4294967296 ∧ (x * y).fdiv 4294967296 < 2147483648 := by rw [Int.fdiv_eq_ediv_of_nonneg _ (by decide)]; omega
  have az := and32 (y := (x * y).fdiv 4294967296) (by omega)
  have mz : (x * y).fdiv 4294967296 % 4294967296 = (x * y).fdiv 4294967296 := by omega
  have sz : ((x * y).fdiv 4294967296).fdiv 4294967296 = 0 := by rw [Int.fdiv_eq_ediv_of_nonneg _ (by decide)]; omega
  repeat' (first | simp only [go_sem, ax, ay, mx, my, sx, sy, az, mz, sz, Int.zero_mul, Int.mul_zero, Int.zero_add, Int.add_zero, Ret_eq Try.results174] | simp (disch := omega) only [arith, IntKind.bits, capMax, fill_len, elt_fill] | fail)

theorem mul_fun (x y : Int) (hx : 0 ≤ x ∧ x < 2147483648) (hy : 0 ≤ y ∧ y < 2147483648) : Fun Try.prog 146 [.v (.int .u64 x), .v (.int .u64 y)] fun r => r = .tup [.v (.int .u64 0), .v (.int .u64 (x * y))] := by
  refine Fun.of_awpI Try.func146 rfl cal146 Try.ntmps146 (by simp) fun hwf => ?_
  simp only [D.wfs, D.wf, ints_length, ints_wfs, rows_length, rows_wfs, capMax, and_true, true_and] at hwf
  repeat' (first | simp only [go_sem, Ret_eq Try.results146] | (refine opCallI_rd (by simp only [go_sem, Ret_eq Try.results146]; first | done | rfl) (mul64_fun x y hx hy) (by rintro _ rfl; rfl) ?_; rintro _ rfl) | fail)
def gr (n k : Nat) : Nat := Nat.min (2 ^ k) n
def rep (a : Int) (n m : Nat) : List Int := List.replicate m a ++ List.replicate (n - m) 0
theorem gr_zero {n : Nat} (h : 1 ≤ n) : gr n 0 = 1 := by unfold gr; exact Nat.min_eq_left (by simpa using h)
theorem gr_le {n k : Nat} : gr n k ≤ n := Nat.min_le_right _ _
theorem gr_pos {n k : Nat} (h : 1 ≤ n) : 1 ≤ gr n k := by
  have := Nat.one_le_two_pow (n := k)
  unfold gr
  rw [show Nat.min (2 ^ k) n = min (2 ^ k) n from rfl]
  omega
theorem gr_lt {n k : Nat} (h : gr n k < n) : k < n := by
  unfold gr at h
  rw [show Nat.min (2 ^ k) n = min (2 ^ k) n from rfl] at h
  have := Nat.lt_two_pow_self (n := k)
  omega
theorem gr_succ {n k : Nat} : gr n (k + 1) = gr n k + Nat.min (gr n k) (n - gr n k) := by
  unfold gr
  simp only [show ∀ a b : Nat, Nat.min a b = min a b from fun _ _ => rfl, Nat.pow_succ]
  omega
theorem rep_length {a : Int} {n m : Nat} (h : m ≤ n) : (rep a n m).length = n := by simp [rep]; omega
theorem rep_take {a : Int} {n m : Nat} : (rep a n m).take m = List.replicate m a := by simp [rep]
theorem rep_all {a : Int} {n : Nat} : rep a n n = List.replicate n a := by simp [rep]
theorem rep_step {a : Int} {n m : Nat} (h : m ≤ n) : List.replicate m a ++ (List.replicate m a).take (n - m) ++ (rep a n m).drop (m + Nat.min m (n - m)) = rep a n (m + Nat.min m (n - m)) := by
  simp only [show ∀ a b : Nat, Nat.min a b = min a b from fun _ _ => rfl]
  unfold rep
  apply List.ext_getElem?
  intro i
  simp only [List.getElem?_append, List.getElem?_take, List.getElem?_drop, List.length_append, List.length_take, List.length_replicate, List.getElem?_replicate]
  grind
theorem rep_first {a : Int} {n : Nat} (h : 1 ≤ n) : a :: (List.replicate n (0 : Int)).drop 1 = rep a n 1 := by
  obtain ⟨m, rfl⟩ : ∃ m, n = m + 1 := ⟨n - 1, by omega⟩
  simp [rep, List.replicate_succ]

theorem repeat64_fun (a : Int) (n : Nat) (h : 1 ≤ n ∧ n ≤ 65536) : FunO Try.prog 104 [.lst (ints .i64 [a]), .v (.int .i64 n)] fun r o => r = .ref 0 n ∧ o = some ⟨2, 1, ints .i64 (List.replicate n a)⟩ := by
  refine FunO.of_awpI Try.func104 rfl cal104 Try.ntmps104 (by simp) fun hwf => ?_
  simp only [D.wfs, D.wf, ints_length, ints_wfs, rows_length, rows_wfs, capMax, and_true, true_and] at hwf
  have h1n : Nat.min 1 n = 1 := Nat.min_eq_left h.1
  have ht1 : [a].take n = [a] := List.take_of_length_le (by simpa using h.1)
  have hf := rep_first (a := a) h.1
  have hg1 := gr_zero h.1
  repeat' (first | simp only [go_sem, Int.one_mul, Int.toNat_natCast, List.length_replicate, Ret_eq Try.results104] | simp (disch := omega) only [arith, IntKind.bits, capMax, fill_len, elt_fill] | (refine opCallI_rd (by simp only [go_sem, Int.one_mul, Int.toNat_natCast, List.length_replicate, Ret_eq Try.results104]; first | done | rfl) (mul_fun 1 n (by omega) (by omega)) (by rintro _ rfl; rfl) ?_; rintro _ rfl) | fail)
  refine awpI_for n (fun k => True) (fun k => [(8, .v (.int .i64 (gr n k)))]) (fun k => [(30, ⟨2, 1, ints .i64 (rep a n (gr n k))⟩)]) [7] [] _ (Weak.refl _) trivial ?_ ?_ ?_
  · simp only [go_sem, hg1, h1n, Ret_eq Try.results104]
  · simp only [go_sem, hg1, ht1, List.length_replicate, List.singleton_append, hf, Ret_eq Try.results104]
  · intro k s hk _ hs
    simp only [go_sem, Ret_eq Try.results104] at hs
    have g1 := gr_le (n := n) (k := k)
    have g2 := gr_pos (k := k) h.1
    have g3 := gr_lt (n := n) (k := k)
    have g4 := gr_succ (n := n) (k := k)
    generalize hm : gr n k = m at *
    have e1 := rep_length (a := a) g1
    have e2 := rep_take (a := a) (n := n) (m := m)
    have e3 := rep_step (a := a) g1
    by_cases hka : m < n
    · have g5 : (n : Int) - m = ((n - m : Nat) : Int) := by omega
      repeat' (first | simp only [go_sem, hs, g1, g5, e1, e2, e3, List.length_replicate, List.length_take, List.drop_zero, Int.toNat_natCast, Ret_eq Try.results104] | simp (disch := omega) only [arith, IntKind.bits, capMax, fill_len, elt_fill] | (refine awpI_draw2 (id := 9) (.one false 1 (.one false 2 (.one false 3 (.one false 4 (.one false 5 (.one false 6 (.one true 0 (.only 7 (.one false 8 (.one false 9 .done)))))))))) mixed (by decide +kernel) (by decide +kernel) ?_) | (refine Again.up (by omega) ?_ ?_) | fail)
      have g6 : Nat.min m (n - m) ≤ m := Nat.min_le_left _ _
      refine ⟨?_, ?_⟩
      · rw [g4, IntKind.wrap_i64, Int.natCast_add]; omega
      · rw [g4, ← e3, List.append_assoc, show min (n - m) m = Nat.min m (n - m) from Nat.min_comm _ _]
    · obtain rfl : m = n := by omega
      repeat' (first | simp only [go_sem, hs, rep_all, Ret_eq Try.results104] | simp (disch := omega) only [arith, IntKind.bits, capMax, fill_len, elt_fill] | refine RetO_calc Try.results104 ?_ | fail)
end Go.Proofs.Ytpkampecmlpfmaa.T
