import Derived.Test.YtpkampecmlpfmaaLE
import Derived.Test.YtpkampecmlpfmaaEM
import Derived.Test.YtpkampecmlpfmaaEG1F
import Derived.Tactics2
import Derived.Test.YtpkampecmlpfmaaEA64
section
set_option linter.unusedSimpArgs false
set_option linter.unusedVariables false
/- How many bits a number has, and what comes of it; walked. -/
namespace Go.Proofs.Ytpkampecmlpfmaa.T
open Go Go.VL Go.Proofs
set_option maxRecDepth 100000
set_option maxHeartbeats 4000000
def len8 (k : Nat) : Nat := if k = 0 then 0 else Nat.log2 k + 1
theorem len8_lt (k : Nat) : k < 2 ^ len8 k := by
  unfold len8
  split
  · rename_i h; rw [h]; decide
  · exact Nat.lt_log2_self
theorem len8_le {k : Nat} (h : 1 ≤ k) : 2 ^ len8 k ≤ 2 * k := by
  unfold len8
  rw [if_neg (by omega), Nat.pow_succ]
  have := Nat.log2_self_le (show k ≠ 0 by omega)
  omega
theorem len64_raw (x : Int) (hx : 0 ≤ x ∧ x < 65536) (w : World) : Calls Try.prog 172 #[.int .u64 x] w fun e w' => (∃ n : Nat, e = .returned (.int .i64 n) ∧ n ≤ 16 ∧ x < 2 ^ n ∧ (1 ≤ x → (2 : Int) ^ n ≤ 2 * x)) ∧ w' = w := by
  go_enter Try.func172, Try.ntmps172
  go_wp2
  · go_ret
    refine ⟨⟨8 + len8 (x / 256).toNat, ?_, ?_⟩, rfl⟩
    · show Ending.returned (Value.int .i64 (RowKit.wrap64 (8 + RowKit.wrap64 (((_ : UInt8).toNat : Nat) : Int)))) = _
      rw [← getElem!_pos]
      have hk : (x / 256).toNat < 256 := by omega
      generalize (x / 256).toNat = k at *
      congr 2
      clear hx
      revert k
      decide +kernel
    · have h1 := len8_lt (x / 256).toNat
      have h2 := len8_le (k := (x / 256).toNat) (by omega)
      generalize hm : len8 (x / 256).toNat = m at *
      have h3 : m ≤ 8 := by
        refine Nat.not_lt.1 fun q => ?_
        have : 2 ^ 9 ≤ 2 ^ m := Nat.pow_le_pow_right (by decide) q
        omega
      have e : (2 : Int) ^ (8 + m) = 256 * ((2 ^ m : Nat) : Int) := by rw [Int.pow_add]; norm_cast
      rw [e]
      refine ⟨by omega, by omega, fun _ => by omega⟩
  · go_ret
    refine ⟨⟨len8 x.toNat, ?_, ?_⟩, rfl⟩
    · show Ending.returned (Value.int .i64 (RowKit.wrap64 (RowKit.wrap64 (((_ : UInt8).toNat : Nat) : Int)))) = _
      rw [← getElem!_pos]
      have hk : x.toNat < 256 := by omega
      generalize x.toNat = k at *
      congr 2
      clear hx
      revert k
      decide +kernel
    · have h1 := len8_lt x.toNat
      have h2 := len8_le (k := x.toNat)
      generalize hm : len8 x.toNat = m at *
      have e : (2 : Int) ^ m = ((2 ^ m : Nat) : Int) := by norm_cast
      rw [e]
      refine ⟨?_, by omega, fun q => by have := h2 (by omega); omega⟩
      by_cases z : 1 ≤ x.toNat
      · refine Nat.not_lt.1 fun q => ?_
        have : 2 ^ 17 ≤ 2 ^ m := Nat.pow_le_pow_right (by decide) q
        have := h2 z
        omega
      · have : x.toNat = 0 := by omega
        rw [← hm, this]; decide
theorem len64_fun (x : Int) (hx : 0 ≤ x ∧ x < 65536) : Fun Try.prog 172 [.v (.int .u64 x)] fun r => ∃ n : Nat, r = .v (.int .i64 n) ∧ n ≤ 16 ∧ x < 2 ^ n ∧ (1 ≤ x → (2 : Int) ^ n ≤ 2 * x) := by
  refine ⟨by decide +kernel, fun J w vs hJ hG hv => ?_⟩
  obtain ⟨v, vs', rfl, hv1, hv2⟩ := hv
  have hv2 : vs' = [] := hv2
  subst hv2
  obtain ⟨rfl, _⟩ := hv1
  refine (len64_raw x hx w).mono ?_
  rintro e w' ⟨⟨n, rfl, h⟩, rfl⟩
  exact ⟨_, .v (.int .i64 n), rfl, ⟨n, rfl, h⟩, RowKit.Below.refl _ _, ⟨rfl, rfl⟩⟩

theorem bitsLen_fun (x : Int) (hx : 0 ≤ x ∧ x < 65536) : Fun Try.prog 145 [.v (.int .u64 x)] fun r => ∃ n : Nat, r = .v (.int .i64 n) ∧ n ≤ 16 ∧ x < 2 ^ n ∧ (1 ≤ x → (2 : Int) ^ n ≤ 2 * x) := by
  refine Fun.of_awpI Try.func145 rfl cal145 Try.ntmps145 (by simp) fun hwf => ?_
  simp only [D.wfs, D.wf, ints_length, ints_wfs, rows_length, rows_wfs, capMax, and_true, true_and] at hwf
  repeat' (first | simp only [go_sem, Ret_eq Try.results145] | (refine opCallI_gv (by simp only [go_sem, Ret_eq Try.results145]; first | done | rfl) (len64_fun x hx) ?_; rintro _ ⟨n, rfl, hn⟩) | fail)
  exact ⟨n, rfl, hn⟩

theorem nextPow_fun (k : Nat) (hk : 1 ≤ k ∧ k < 65536) : Fun Try.prog 185 [.v (.int .i64 k)] fun r => ∃ n : Nat, r = .v (.int .u64 ((2 ^ n : Nat) : Int)) ∧ n ≤ 16 ∧ 2 ^ n ≤ 2 * k := by
  refine Fun.of_awpI Try.func185 rfl cal185 Try.ntmps185 (by simp) fun hwf => ?_
  simp only [D.wfs, D.wf, ints_length, ints_wfs, rows_length, rows_wfs, capMax, and_true, true_and] at hwf
  repeat' (first | simp only [go_sem, Ret_eq Try.results185] | simp (disch := omega) only [arith, IntKind.bits, capMax, fill_len, elt_fill] | (refine opCallI_gv (by simp only [go_sem, Ret_eq Try.results185]; first | done | rfl) (bitsLen_fun k (by omega)) ?_; rintro _ ⟨n, rfl, hn⟩) | fail)
  exact ⟨n, by rw [Int.one_mul]; norm_cast, hn.1, by have := hn.2.2 (by omega); exact_mod_cast this⟩
abbrev boxX (x : Int) : Own := ⟨197, 1, [.v (.int .u64 x)]⟩

theorem next_sh (x : Int) : FunL Try.prog 186 [.adr 0 0 0] [boxX x] fun r os => ∃ y : Int, r = .v (.int .u64 y) ∧ os = [boxX y] := by
  refine FunL.of_awpI [(100000, 0)] rfl Try.func186 rfl cal186 Try.ntmps186 (by simp) fun hwf hlw ls => ?_
  simp only [lentWf, D.wfs, D.wf, ints_length, ints_wfs, rows_length, rows_wfs, capMax, and_true, true_and] at hwf hlw
  repeat' (first | simp only [go_sem, Ret_eq Try.results186] | simp (disch := omega) only [arith, IntKind.bits, capMax, fill_len, elt_fill] | refine RetL_calc Try.results186 rfl ?_ | (refine awpI_draw2 (id := 1) (.one false 0 (.one false 1 (.one false 2 (.one false 3 (.one false 4 (.one false 5 (.one false 6 (.one false 7 (.one false 8 (.only 9 .done)))))))))) mixed (by decide +kernel) (by decide +kernel) ?_) | (refine awpI_draw2 (id := 2) (.one false 0 (.one false 1 (.one false 2 (.one false 3 (.one false 4 (.one false 5 (.one false 6 (.one false 7 (.one false 8 (.only 9 .done)))))))))) mixed (by decide +kernel) (by decide +kernel) ?_) | (refine awpI_draw2 (id := 3) (.one false 0 (.one false 1 (.one false 2 (.one false 3 (.one false 4 (.one false 5 (.one false 6 (.one false 7 (.one false 8 (.only 9 .done)))))))))) mixed (by decide +kernel) (by decide +kernel) ?_) | fail)
  exact ⟨_, rfl, rfl⟩
theorem and_low (y : Int) {n : Nat} (hn : n ≤ 16) : ∃ k : Nat, abits .and .u64 y (((2 ^ n : Nat) : Int) - 1) = k ∧ k < 2 ^ n := by
  have h1 : 2 ^ n ≤ 2 ^ 16 := Nat.pow_le_pow_right (by decide) hn
  have h0 : 1 ≤ 2 ^ n := Nat.one_le_two_pow
  have e : ((2 ^ n : Nat) : Int) - 1 = ((2 ^ n - 1 : Nat) : Int) := by omega
  rw [e]
  simp only [abits]
  have e2 : BitVec.ofInt IntKind.u64.bits ((2 ^ n - 1 : Nat) : Int) = BitVec.ofNat 64 (2 ^ n - 1) := by simp [IntKind.bits]
  rw [e2]
  show ∃ k : Nat, IntKind.u64.wrap ((BitVec.ofInt 64 y &&& BitVec.ofNat 64 (2 ^ n - 1)).toNat : Int) = k ∧ k < 2 ^ n
  have h2 : (BitVec.ofInt 64 y &&& BitVec.ofNat 64 (2 ^ n - 1)).toNat ≤ 2 ^ n - 1 := by
    rw [BitVec.toNat_and]
    refine Nat.le_trans Nat.and_le_right ?_
    rw [BitVec.toNat_ofNat]
    exact Nat.mod_le _ _
  generalize (BitVec.ofInt 64 y &&& BitVec.ofNat 64 (2 ^ n - 1)).toNat = B at *
  refine ⟨B, ?_, by omega⟩
  rw [IntKind.wrap_u64]; omega
end Go.Proofs.Ytpkampecmlpfmaa.T

end
section
set_option linter.unusedSimpArgs false
set_option linter.unusedVariables false
/- Patterns broken; walked. -/
namespace Go.Proofs.Ytpkampecmlpfmaa.T
open Go Go.VL Go.Proofs
set_option maxRecDepth 100000
set_option maxHeartbeats 8000000

theorem break64 (l : List Int) (a b : Nat) (hab : a ≤ b) (hb : b ≤ l.length) (hl : l.length ≤ 60000) : FunL Try.prog 164 [.ref 0 l.length, .v (.int .i64 a), .v (.int .i64 b)] [own64 l] fun r os =>
    r = .tup [] ∧ ∃ l', os = [own64 l'] ∧ Sw a b l l' := by
  refine FunL.of_awpI [(100000, 0)] rfl Try.func164 rfl cal164 Try.ntmps164 (by simp) fun hwf hlw ls => ?_
  simp only [lentWf, D.wfs, D.wf, ints_length, ints_wfs, rows_length, rows_wfs, capMax, and_true, true_and] at hwf hlw
  obtain ⟨m, rfl⟩ : ∃ m, b = a + m := ⟨b - a, by omega⟩
  have e0 : ((a + m : Nat) : Int) - (a : Int) = ((m : Nat) : Int) := by omega
  by_cases h8 : 8 ≤ m
  · have e1 : ((m : Nat) : Int).tdiv 4 = ((m / 4 : Nat) : Int) := by rw [Int.tdiv_eq_ediv_of_nonneg (by omega)]; omega
    have e2 : (a : Int) + ((m / 4 : Nat) : Int) * 2 = ((a + m / 4 * 2 : Nat) : Int) := by omega
    have e3 : ((a + m / 4 * 2 : Nat) : Int) - 1 = ((a + m / 4 * 2 - 1 : Nat) : Int) := by omega
    have hnp := nextPow_fun m (by omega)
    repeat' (first | simp only [go_sem, e0, e1, e2, e3, Ret_eq Try.results164] | simp (disch := omega) only [arith, IntKind.bits, capMax, fill_len, elt_fill] | (refine opCallI_gv (by simp only [go_sem, e0, e1, e2, e3, Ret_eq Try.results164]; first | done | rfl) (hnp) ?_; rintro _ ⟨n, rfl, hn⟩) | fail)
    obtain ⟨hn1, hn2⟩ := hn
    have hpow : 1 ≤ 2 ^ n := Nat.one_le_two_pow
    refine awpI_while (σ := Nat × Int × List Int) (fun x => a + m / 4 * 2 + 2 - x.1) (fun x => (a ≤ x.1 ∧ x.1 ≤ a + m / 4 * 2 + 2) ∧ Sw a (a + m) l x.2.2) (fun x => [(9, .v (.int .i64 x.1))]) (fun x => [(0, own64 x.2.2), (7, boxX x.2.1)]) [0, 1, 6, 7, 8, 100000] [] (a + m / 4 * 2 - 1, (m : Int), l) _ (Weak.refl _) ⟨⟨by show a ≤ a + m / 4 * 2 - 1; omega, by show a + m / 4 * 2 - 1 ≤ _; omega⟩, .refl _⟩ ?_ ?_ ?_
    · simp only [go_sem, Ret_eq Try.results164]
      all_goals omega
    · simp only [go_sem, Ret_eq Try.results164]
    · rintro ⟨i, x, l1⟩ s ⟨⟨hi1, hi2⟩, hsw⟩ hs
      simp only [go_sem, Ret_eq Try.results164] at hs
      dsimp only at hi1 hi2 hsw
      have hl1 := hsw.length
      have e4 : ((a + m / 4 * 2 : Nat) : Int) + 1 = ((a + m / 4 * 2 + 1 : Nat) : Int) := by omega
      by_cases hi : i ≤ a + m / 4 * 2 + 1
      · repeat' (first | simp only [go_sem, hs, e0, e1, e2, e4, Ret_eq Try.results164] | simp (disch := omega) only [arith, IntKind.bits, capMax, fill_len, elt_fill] | fail)
        refine opCallI_lend [7] (by simp only [go_sem, hs, Ret_eq Try.results164]; first | done | rfl) (by simp only [go_sem, hs, Ret_eq Try.results164]; first | done | rfl) (by decide) (by simp only [go_sem, hs, Ret_eq Try.results164]; first | done | decide) (by simp only [go_sem, hs, Ret_eq Try.results164]; first | done | decide) (next_sh x) ?_
        rintro _ _ ⟨y, rfl, rfl⟩
        obtain ⟨k, hk, hk2⟩ := and_low y hn1
        by_cases hkm : m ≤ k
        · have e6 : (k : Int) - (m : Int) = ((k - m : Nat) : Int) := by omega
          have e7 : (a : Int) + ((k - m : Nat) : Int) = ((a + (k - m) : Nat) : Int) := by omega
          have e8 : (l1.set i (l1.getD (a + (k - m)) 0)).set (a + (k - m)) (l1.getD i 0) = sw l1 i (a + (k - m)) := rfl
          have e9 : (l1.set i (l1.getD (a + (k - m)) 0)).length = l1.length := List.length_set
          repeat' (first | simp only [go_sem, hs, e0, e1, e2, e4, hk, e6, e7, e8, List.length_set, Ret_eq Try.results164] | simp (disch := omega) only [arith, IntKind.bits, capMax, fill_len, elt_fill] | (refine awpI_draw2 (id := 10) (.one false 0 (.one false 1 (.one false 6 (.one false 7 (.one false 8 (.one false 9 (.one false 10 (.one false 11 (.one false 12 (.one false 13 (.one false 14 (.one false 15 (.one false 16 (.mv 2 (.mv 3 (.mv 4 (.cal 5 [17] (.only 17 (.one false 18 (.only 19 .done)))))))))))))))))))) mixed (by decide +kernel) (by decide +kernel) ?_) | fail)
          all_goals
            refine AgainW.to (i + 1, y, sw l1 i (a + (k - m))) ?_ ?_ ?_
            · show a + m / 4 * 2 + 2 - (i + 1) < a + m / 4 * 2 + 2 - i; omega
            · exact ⟨⟨by show a ≤ i + 1; omega, by show i + 1 ≤ _; omega⟩, .step _ _ hsw ⟨by omega, by omega⟩ ⟨by omega, by omega⟩ (by omega)⟩
            · simp only [go_sem, hs, Ret_eq Try.results164]
        · have e7 : (a : Int) + (k : Int) = ((a + k : Nat) : Int) := by omega
          have e8 : (l1.set i (l1.getD (a + k) 0)).set (a + k) (l1.getD i 0) = sw l1 i (a + k) := rfl
          have e9 : (l1.set i (l1.getD (a + k) 0)).length = l1.length := List.length_set
          repeat' (first | simp only [go_sem, hs, e0, e1, e2, e4, hk, e7, e8, List.length_set, Ret_eq Try.results164] | simp (disch := omega) only [arith, IntKind.bits, capMax, fill_len, elt_fill] | (refine awpI_draw2 (id := 10) (.one false 0 (.one false 1 (.one false 6 (.one false 7 (.one false 8 (.one false 9 (.one false 10 (.one false 11 (.one false 12 (.one false 13 (.one false 14 (.one false 15 (.one false 16 (.mv 2 (.mv 3 (.mv 4 (.cal 5 [17] (.only 17 (.one false 18 (.only 19 .done)))))))))))))))))))) mixed (by decide +kernel) (by decide +kernel) ?_) | fail)
          all_goals
            refine AgainW.to (i + 1, y, sw l1 i (a + k)) ?_ ?_ ?_
            · show a + m / 4 * 2 + 2 - (i + 1) < a + m / 4 * 2 + 2 - i; omega
            · exact ⟨⟨by show a ≤ i + 1; omega, by show i + 1 ≤ _; omega⟩, .step _ _ hsw ⟨by omega, by omega⟩ ⟨by omega, by omega⟩ (by omega)⟩
            · simp only [go_sem, hs, Ret_eq Try.results164]
      · repeat' (first | simp only [go_sem, hs, e0, e1, e2, e4, Ret_eq Try.results164] | simp (disch := omega) only [arith, IntKind.bits, capMax, fill_len, elt_fill] | refine RetL_calc Try.results164 rfl ?_ | fail)
        all_goals exact ⟨rfl, l1, rfl, hsw⟩
  · repeat' (first | simp only [go_sem, e0, Ret_eq Try.results164] | simp (disch := omega) only [arith, IntKind.bits, capMax, fill_len, elt_fill] | refine RetL_calc Try.results164 rfl ?_ | fail)
    all_goals exact ⟨rfl, l, rfl, .refl _⟩
end Go.Proofs.Ytpkampecmlpfmaa.T

end
section
set_option linter.unusedSimpArgs false
set_option linter.unusedVariables false
/- A list sorted; walked. -/
namespace Go.Proofs.Ytpkampecmlpfmaa.T
open Go Go.VL Go.Proofs
set_option maxRecDepth 100000
set_option maxHeartbeats 16000000
def SortsL64 (f : FuncId) (l : List Int) (a b lim : Nat) : Prop := FunL Try.prog f [.ref 0 l.length, .v (.int .i64 a), .v (.int .i64 b), .v (.int .i64 lim)] [own64 l] fun r os =>
    r = .tup [] ∧ ∃ l', os = [own64 l'] ∧ Sw a b l l' ∧ Sd a b l'

theorem pdq64 (n : Nat) : ∀ (l : List Int) (a b lim : Nat), b - a ≤ n → a ≤ b → b ≤ l.length → l.length ≤ 60000 → lim ≤ 60000 → Ahd a b l → SortsL64 144 l a b lim := by
  induction n using Nat.strongRecOn with
  | _ n ih =>
  intro l a b lim0 hn hab hb hl hli hA
  unfold SortsL64
  refine FunL.of_awpI [(100000, 0)] rfl Try.func144 rfl cal144 Try.ntmps144 (by simp) fun hwf hlw ls => ?_
  simp only [lentWf, D.wfs, D.wf, ints_length, ints_wfs, rows_length, rows_wfs, capMax, and_true, true_and] at hwf hlw
  repeat' (first | simp only [go_sem, Ret_eq Try.results144] | fail)
  refine awpI_while (σ := Nat × Nat × Nat × Bool × Bool × List Int) (fun x => x.2.1 - x.1) (fun x => Rest a b l x.1 x.2.1 x.2.2.2.2.2 ∧ x.2.2.1 ≤ 60000) (fun x => [(1, .v (.int .i64 x.1)), (2, .v (.int .i64 x.2.1)), (3, .v (.int .i64 x.2.2.1)), (8, .v (.bool x.2.2.2.1)), (9, .v (.bool x.2.2.2.2.1))]) (fun x => [(0, own64 x.2.2.2.2.2)]) [0, 100000] [] (a, b, lim0, true, true, l) _ (Weak.refl _) ⟨Rest.start hab hb hA, hli⟩ ?_ ?_ ?_
  · simp only [go_sem, Ret_eq Try.results144]
  · simp only [go_sem, Ret_eq Try.results144]
  · rintro ⟨a1, b1, lim, wb, wp, l1⟩ s ⟨hR, hlim⟩ hs
    simp only [go_sem, Ret_eq Try.results144] at hs
    dsimp only at hR hlim
    have hl1 := hR.rs.length
    have r1 := hR.ra
    have r2 := hR.rab
    have r3 := hR.rb
    have ebl : (b1 : Int) - (a1 : Int) = ((b1 - a1 : Nat) : Int) := by omega
    by_cases h12 : b1 - a1 ≤ 12
    · have hin := insertion64 l1 a1 b1 r2 (by omega) (by omega)
      rw [hl1] at hin
      repeat' (first | simp only [go_sem, hs, ebl, Ret_eq Try.results144] | simp (disch := omega) only [arith, IntKind.bits, capMax, fill_len, elt_fill] | refine RetL_calc Try.results144 rfl ?_ | (refine opCallI_lend [0] (by simp only [go_sem, hs, ebl, Ret_eq Try.results144]; first | done | rfl) (by simp only [go_sem, hs, ebl, Ret_eq Try.results144]; first | done | rfl) (by decide) (by simp only [go_sem, hs, ebl, Ret_eq Try.results144]; first | done | decide) (by simp only [go_sem, hs, ebl, Ret_eq Try.results144]; first | done | decide) (hin) ?_; rintro _ _ ⟨rfl, l2, rfl, s2, d2⟩) | fail)
      all_goals exact ⟨rfl, l2, rfl, hR.done s2 d2⟩
    · by_cases hlim0 : lim = 0
      · subst hlim0
        have hin := heap64 l1 a1 b1 (by omega) (by omega) (by omega)
        rw [hl1] at hin
        repeat' (first | simp only [go_sem, hs, ebl, beq_self_eq_true, Ret_eq Try.results144] | simp (disch := omega) only [arith, IntKind.bits, capMax, fill_len, elt_fill] | refine RetL_calc Try.results144 rfl ?_ | (refine opCallI_lend [0] (by simp only [go_sem, hs, ebl, beq_self_eq_true, Ret_eq Try.results144]; first | done | rfl) (by simp only [go_sem, hs, ebl, beq_self_eq_true, Ret_eq Try.results144]; first | done | rfl) (by decide) (by simp only [go_sem, hs, ebl, beq_self_eq_true, Ret_eq Try.results144]; first | done | decide) (by simp only [go_sem, hs, ebl, beq_self_eq_true, Ret_eq Try.results144]; first | done | decide) (hin) ?_; rintro _ _ ⟨rfl, l2, rfl, s2, d2⟩) | fail)
        all_goals exact ⟨rfl, l2, rfl, hR.done s2 d2⟩
      · have hlb : ((lim : Int) == 0) = false := beq_eq_false_iff_ne.2 (by omega)
        have elim : (lim : Int) - 1 = ((lim - 1 : Nat) : Int) := by omega
        cases wb with
        | false =>
          have hbr := break64 l1 a1 b1 r2 (by omega) (by omega)
          rw [hl1] at hbr
          repeat' (first | simp only [go_sem, hs, ebl, hlb, elim, Ret_eq Try.results144] | simp (disch := omega) only [arith, IntKind.bits, capMax, fill_len, elt_fill] | (refine opCallI_lend [0] (by simp only [go_sem, hs, ebl, hlb, elim, Ret_eq Try.results144]; first | done | rfl) (by simp only [go_sem, hs, ebl, hlb, elim, Ret_eq Try.results144]; first | done | rfl) (by decide) (by simp only [go_sem, hs, ebl, hlb, elim, Ret_eq Try.results144]; first | done | decide) (by simp only [go_sem, hs, ebl, hlb, elim, Ret_eq Try.results144]; first | done | decide) (hbr) ?_; rintro _ _ ⟨rfl, l2, rfl, s2⟩) | fail)
          have hR2 := hR.sw s2
          have hl2 := hR2.rs.length
          have hch := choose64 l2 a1 b1 (by omega) (by omega) (by omega)
          rw [hl2] at hch
          refine opCallI_lend [0] (by simp only [go_sem, hs, ebl, hlb, elim, Ret_eq Try.results144]; first | done | rfl) (by simp only [go_sem, hs, ebl, hlb, elim, Ret_eq Try.results144]; first | done | rfl) (by decide) (by simp only [go_sem, hs, ebl, hlb, elim, Ret_eq Try.results144]; first | done | decide) (by simp only [go_sem, hs, ebl, hlb, elim, Ret_eq Try.results144]; first | done | decide) (hch) ?_
          rintro _ _ ⟨x, h, rfl, rfl, hx1, hx2⟩
          by_cases hh : h = 2
          · subst hh
            have hrv := reverse64 l2 a1 b1 r2 (by omega) (by omega) (by omega)
            rw [hl2] at hrv
            repeat' (first | simp only [go_sem, hs, ebl, hlb, elim, beq_self_eq_true, Ret_eq Try.results144] | fail)
            refine opCallI_lend [0] (by simp only [go_sem, hs, ebl, hlb, elim, Ret_eq Try.results144]; first | done | rfl) (by simp only [go_sem, hs, ebl, hlb, elim, Ret_eq Try.results144]; first | done | rfl) (by decide) (by simp only [go_sem, hs, ebl, hlb, elim, Ret_eq Try.results144]; first | done | decide) (by simp only [go_sem, hs, ebl, hlb, elim, Ret_eq Try.results144]; first | done | decide) (hrv) ?_
            rintro _ _ ⟨rfl, l3, rfl, s3⟩
            have hR3 := hR2.sw s3
            have ev : (b1 : Int) - 1 - ((x : Int) - (a1 : Int)) = ((b1 - 1 - (x - a1) : Nat) : Int) := by omega
            have hv : a1 ≤ b1 - 1 - (x - a1) ∧ b1 - 1 - (x - a1) < b1 := by omega
            generalize b1 - 1 - (x - a1) = v at *
            have hL : l3.length = l.length := hR3.rs.length
            by_cases ha : 0 < a1
            · have ea : (a1 : Int) - 1 = ((a1 - 1 : Nat) : Int) := by omega
              have hls := lessS64_fun (l3.getD (a1 - 1) 0) (l3.getD v 0)
              by_cases hlt : l3.getD (a1 - 1) 0 < l3.getD v 0
              · rw [decide_eq_true hlt] at hls
                repeat' (first | simp only [go_sem, hs, ebl, hlb, elim, ev, ea, hL, Ret_eq Try.results144] | simp (disch := omega) only [arith, IntKind.bits, capMax, fill_len, elt_fill] | (refine awpI_draw2 (id := 17) (.one false 0 (.one false 1 (.one false 2 (.one false 3 (.one false 4 (.one false 5 (.one false 6 (.one false 7 (.one false 8 (.one false 9 (.one false 10 (.one false 11 (.only 12 (.one false 13 (.one false 14 .done))))))))))))))) mixed (by decide +kernel) (by decide +kernel) ?_) | (refine opCallI_rd (by simp only [go_sem, hs, ebl, hlb, elim, ev, ea, hL, Ret_eq Try.results144]; first | done | rfl) (hls) (by rintro _ rfl; rfl) ?_; rintro _ rfl) | fail)
                have hpt := part64 l3 a1 b1 v hv (by omega) (by omega)
                rw [hL] at hpt
                refine opCallI_lend [0] (by simp only [go_sem, hs, ebl, hlb, elim, ev, ea, Ret_eq Try.results144]; first | done | rfl) (by simp only [go_sem, hs, ebl, hlb, elim, ev, ea, Ret_eq Try.results144]; first | done | rfl) (by decide) (by simp only [go_sem, hs, ebl, hlb, elim, ev, ea, Ret_eq Try.results144]; first | done | decide) (by simp only [go_sem, hs, ebl, hlb, elim, ev, ea, Ret_eq Try.results144]; first | done | decide) (hpt) ?_
                rintro _ _ ⟨m, t, rfl, l5, rfl, s5, p5⟩
                have hR5 := hR3.sw s5
                have hl5 := hR5.rs.length
                have q1 := p5.h1
                have q2 := p5.h2
                have em1 : (m : Int) - (a1 : Int) = ((m - a1 : Nat) : Int) := by omega
                have em2 : (b1 : Int) - (m : Int) = ((b1 - m : Nat) : Int) := by omega
                have em3 : ((b1 - a1 : Nat) : Int).tdiv 8 = ((b1 - a1 : Nat) : Int) / 8 := Int.tdiv_eq_ediv_of_nonneg (by omega)
                have hA5 := hR5.rh
                have hAl : Ahd a1 m l5 := by
                  rcases hA5 with z | z
                  · exact .inl z
                  · exact .inr fun k k1 k2 => z k k1 (by omega)
                have hAr : Ahd (m + 1) b1 l5 := .inr fun k k1 k2 => by
                  rw [show m + 1 - 1 = m by omega]
                  exact p5.h4 k (by omega) k2
                by_cases hsm : m - a1 < b1 - m
                · have hrec : SortsL64 _ l5 a1 m (lim - 1) := ih (m - a1) (by omega) l5 a1 m (lim - 1) (Nat.le_refl _) q1 (by omega) (by omega) (by omega) hAl
                  unfold SortsL64 at hrec
                  rw [hl5] at hrec
                  repeat' (first | simp only [go_sem, hs, ebl, hlb, elim, ev, ea, em1, em2, em3, Ret_eq Try.results144] | simp (disch := omega) only [arith, IntKind.bits, capMax, fill_len, elt_fill] | fail)
                  refine opCallI_lend [0] (by simp only [go_sem, hs, ebl, hlb, elim, ev, ea, em1, em2, em3, Ret_eq Try.results144]; first | done | rfl) (by simp only [go_sem, hs, ebl, hlb, elim, ev, ea, em1, em2, em3, Ret_eq Try.results144]; first | done | rfl) (by decide) (by simp only [go_sem, hs, ebl, hlb, elim, ev, ea, em1, em2, em3, Ret_eq Try.results144]; first | done | decide) (by simp only [go_sem, hs, ebl, hlb, elim, ev, ea, em1, em2, em3, Ret_eq Try.results144]; first | done | decide) (hrec) ?_
                  rintro _ _ ⟨rfl, l6, rfl, s6, d6⟩
                  repeat' (first | simp only [go_sem, hs, ebl, hlb, elim, ev, ea, em1, em2, em3, Ret_eq Try.results144] | simp (disch := omega) only [arith, IntKind.bits, capMax, fill_len, elt_fill] | fail)
                  refine AgainW.to (m + 1, b1, (lim - 1), decide (((b1 - a1 : Nat) : Int) / 8 ≤ ((m - a1 : Nat) : Int)), t, l6) ?_ ?_ ?_
                  · show b1 - (m + 1) < b1 - a1; omega
                  · exact ⟨hR5.left p5 s6 d6, by show (lim - 1) ≤ 60000; omega⟩
                  · simp only [go_sem, hs, ebl, hlb, elim, ev, ea, em1, em2, em3, Ret_eq Try.results144]
                · have hrec : SortsL64 _ l5 (m + 1) b1 (lim - 1) := ih (b1 - (m + 1)) (by omega) l5 (m + 1) b1 (lim - 1) (Nat.le_refl _) (by omega) (by omega) (by omega) (by omega) hAr
                  unfold SortsL64 at hrec
                  rw [hl5] at hrec
                  repeat' (first | simp only [go_sem, hs, ebl, hlb, elim, ev, ea, em1, em2, em3, Ret_eq Try.results144] | simp (disch := omega) only [arith, IntKind.bits, capMax, fill_len, elt_fill] | fail)
                  refine opCallI_lend [0] (by simp only [go_sem, hs, ebl, hlb, elim, ev, ea, em1, em2, em3, Ret_eq Try.results144]; first | done | rfl) (by simp only [go_sem, hs, ebl, hlb, elim, ev, ea, em1, em2, em3, Ret_eq Try.results144]; first | done | rfl) (by decide) (by simp only [go_sem, hs, ebl, hlb, elim, ev, ea, em1, em2, em3, Ret_eq Try.results144]; first | done | decide) (by simp only [go_sem, hs, ebl, hlb, elim, ev, ea, em1, em2, em3, Ret_eq Try.results144]; first | done | decide) (hrec) ?_
                  rintro _ _ ⟨rfl, l6, rfl, s6, d6⟩
                  repeat' (first | simp only [go_sem, hs, ebl, hlb, elim, ev, ea, em1, em2, em3, Ret_eq Try.results144] | fail)
                  refine AgainW.to (a1, m, (lim - 1), decide (((b1 - a1 : Nat) : Int) / 8 ≤ ((b1 - m : Nat) : Int)), t, l6) ?_ ?_ ?_
                  · show m - a1 < b1 - a1; omega
                  · exact ⟨hR5.right p5 s6 d6, by show (lim - 1) ≤ 60000; omega⟩
                  · simp only [go_sem, hs, ebl, hlb, elim, ev, ea, em1, em2, em3, Ret_eq Try.results144]
              · rw [decide_eq_false hlt] at hls
                repeat' (first | simp only [go_sem, hs, ebl, hlb, elim, ev, ea, hL, Ret_eq Try.results144] | simp (disch := omega) only [arith, IntKind.bits, capMax, fill_len, elt_fill] | (refine awpI_draw2 (id := 17) (.one false 0 (.one false 1 (.one false 2 (.one false 3 (.one false 4 (.one false 5 (.one false 6 (.one false 7 (.one false 8 (.one false 9 (.one false 10 (.one false 11 (.only 12 (.one false 13 (.one false 14 .done))))))))))))))) mixed (by decide +kernel) (by decide +kernel) ?_) | (refine opCallI_rd (by simp only [go_sem, hs, ebl, hlb, elim, ev, ea, hL, Ret_eq Try.results144]; first | done | rfl) (hls) (by rintro _ rfl; rfl) ?_; rintro _ rfl) | fail)
                have hpe := partEq64 l3 a1 b1 v hv (by omega) (by omega)
                rw [hL] at hpe
                refine opCallI_lend [0] (by simp only [go_sem, hs, ebl, hlb, elim, ev, ea, Ret_eq Try.results144]; first | done | rfl) (by simp only [go_sem, hs, ebl, hlb, elim, ev, ea, Ret_eq Try.results144]; first | done | rfl) (by decide) (by simp only [go_sem, hs, ebl, hlb, elim, ev, ea, Ret_eq Try.results144]; first | done | decide) (by simp only [go_sem, hs, ebl, hlb, elim, ev, ea, Ret_eq Try.results144]; first | done | decide) (hpe) ?_
                rintro _ _ ⟨m, rfl, l5, rfl, s5, p5⟩
                repeat' (first | simp only [go_sem, hs, ebl, hlb, elim, ev, ea, Ret_eq Try.results144] | fail)
                refine AgainW.to (m, b1, (lim - 1), false, wp, l5) ?_ ?_ ?_
                · show b1 - m < b1 - a1; have := p5.h1; have := p5.h2; omega
                · exact ⟨(hR3.sw s5).eqPart p5 (s5.all (P := fun z => _ ≤ z) (hR3.ahead ha hv (by omega))), by show (lim - 1) ≤ 60000; omega⟩
                · simp only [go_sem, hs, ebl, hlb, elim, ev, ea, Ret_eq Try.results144]
            · repeat' (first | simp only [go_sem, hs, ebl, hlb, elim, ev, Ret_eq Try.results144] | simp (disch := omega) only [arith, IntKind.bits, capMax, fill_len, elt_fill] | (refine awpI_draw2 (id := 17) (.one false 0 (.one false 1 (.one false 2 (.one false 3 (.one false 4 (.one false 5 (.one false 6 (.one false 7 (.one false 8 (.one false 9 (.one false 10 (.one false 11 (.only 12 (.one false 13 (.one false 14 .done))))))))))))))) mixed (by decide +kernel) (by decide +kernel) ?_) | fail)
              have hpt := part64 l3 a1 b1 v hv (by omega) (by omega)
              rw [hL] at hpt
              refine opCallI_lend [0] (by simp only [go_sem, hs, ebl, hlb, elim, ev, Ret_eq Try.results144]; first | done | rfl) (by simp only [go_sem, hs, ebl, hlb, elim, ev, Ret_eq Try.results144]; first | done | rfl) (by decide) (by simp only [go_sem, hs, ebl, hlb, elim, ev, Ret_eq Try.results144]; first | done | decide) (by simp only [go_sem, hs, ebl, hlb, elim, ev, Ret_eq Try.results144]; first | done | decide) (hpt) ?_
              rintro _ _ ⟨m, t, rfl, l5, rfl, s5, p5⟩
              have hR5 := hR3.sw s5
              have hl5 := hR5.rs.length
              have q1 := p5.h1
              have q2 := p5.h2
              have em1 : (m : Int) - (a1 : Int) = ((m - a1 : Nat) : Int) := by omega
              have em2 : (b1 : Int) - (m : Int) = ((b1 - m : Nat) : Int) := by omega
              have em3 : ((b1 - a1 : Nat) : Int).tdiv 8 = ((b1 - a1 : Nat) : Int) / 8 := Int.tdiv_eq_ediv_of_nonneg (by omega)
              have hA5 := hR5.rh
              have hAl : Ahd a1 m l5 := by
                rcases hA5 with z | z
                · exact .inl z
                · exact .inr fun k k1 k2 => z k k1 (by omega)
              have hAr : Ahd (m + 1) b1 l5 := .inr fun k k1 k2 => by
                rw [show m + 1 - 1 = m by omega]
                exact p5.h4 k (by omega) k2
              by_cases hsm : m - a1 < b1 - m
              · have hrec : SortsL64 _ l5 a1 m (lim - 1) := ih (m - a1) (by omega) l5 a1 m (lim - 1) (Nat.le_refl _) q1 (by omega) (by omega) (by omega) hAl
                unfold SortsL64 at hrec
                rw [hl5] at hrec
                repeat' (first | simp only [go_sem, hs, ebl, hlb, elim, ev, em1, em2, em3, Ret_eq Try.results144] | simp (disch := omega) only [arith, IntKind.bits, capMax, fill_len, elt_fill] | fail)
                refine opCallI_lend [0] (by simp only [go_sem, hs, ebl, hlb, elim, ev, em1, em2, em3, Ret_eq Try.results144]; first | done | rfl) (by simp only [go_sem, hs, ebl, hlb, elim, ev, em1, em2, em3, Ret_eq Try.results144]; first | done | rfl) (by decide) (by simp only [go_sem, hs, ebl, hlb, elim, ev, em1, em2, em3, Ret_eq Try.results144]; first | done | decide) (by simp only [go_sem, hs, ebl, hlb, elim, ev, em1, em2, em3, Ret_eq Try.results144]; first | done | decide) (hrec) ?_
                rintro _ _ ⟨rfl, l6, rfl, s6, d6⟩
                repeat' (first | simp only [go_sem, hs, ebl, hlb, elim, ev, em1, em2, em3, Ret_eq Try.results144] | simp (disch := omega) only [arith, IntKind.bits, capMax, fill_len, elt_fill] | fail)
                refine AgainW.to (m + 1, b1, (lim - 1), decide (((b1 - a1 : Nat) : Int) / 8 ≤ ((m - a1 : Nat) : Int)), t, l6) ?_ ?_ ?_
                · show b1 - (m + 1) < b1 - a1; omega
                · exact ⟨hR5.left p5 s6 d6, by show (lim - 1) ≤ 60000; omega⟩
                · simp only [go_sem, hs, ebl, hlb, elim, ev, em1, em2, em3, Ret_eq Try.results144]
              · have hrec : SortsL64 _ l5 (m + 1) b1 (lim - 1) := ih (b1 - (m + 1)) (by omega) l5 (m + 1) b1 (lim - 1) (Nat.le_refl _) (by omega) (by omega) (by omega) (by omega) hAr
                unfold SortsL64 at hrec
                rw [hl5] at hrec
                repeat' (first | simp only [go_sem, hs, ebl, hlb, elim, ev, em1, em2, em3, Ret_eq Try.results144] | simp (disch := omega) only [arith, IntKind.bits, capMax, fill_len, elt_fill] | fail)
                refine opCallI_lend [0] (by simp only [go_sem, hs, ebl, hlb, elim, ev, em1, em2, em3, Ret_eq Try.results144]; first | done | rfl) (by simp only [go_sem, hs, ebl, hlb, elim, ev, em1, em2, em3, Ret_eq Try.results144]; first | done | rfl) (by decide) (by simp only [go_sem, hs, ebl, hlb, elim, ev, em1, em2, em3, Ret_eq Try.results144]; first | done | decide) (by simp only [go_sem, hs, ebl, hlb, elim, ev, em1, em2, em3, Ret_eq Try.results144]; first | done | decide) (hrec) ?_
                rintro _ _ ⟨rfl, l6, rfl, s6, d6⟩
                repeat' (first | simp only [go_sem, hs, ebl, hlb, elim, ev, em1, em2, em3, Ret_eq Try.results144] | fail)
                refine AgainW.to (a1, m, (lim - 1), decide (((b1 - a1 : Nat) : Int) / 8 ≤ ((b1 - m : Nat) : Int)), t, l6) ?_ ?_ ?_
                · show m - a1 < b1 - a1; omega
                · exact ⟨hR5.right p5 s6 d6, by show (lim - 1) ≤ 60000; omega⟩
                · simp only [go_sem, hs, ebl, hlb, elim, ev, em1, em2, em3, Ret_eq Try.results144]
          · have hhb : (h == 2) = false := beq_eq_false_iff_ne.2 hh
            have hv : a1 ≤ x ∧ x < b1 := ⟨hx1, hx2⟩
            have hL : l2.length = l.length := hR2.rs.length
            by_cases ha : 0 < a1
            · have ea : (a1 : Int) - 1 = ((a1 - 1 : Nat) : Int) := by omega
              have hls := lessS64_fun (l2.getD (a1 - 1) 0) (l2.getD x 0)
              by_cases hlt : l2.getD (a1 - 1) 0 < l2.getD x 0
              · rw [decide_eq_true hlt] at hls
                repeat' (first | simp only [go_sem, hs, ebl, hlb, elim, hhb, ea, hL, Ret_eq Try.results144] | simp (disch := omega) only [arith, IntKind.bits, capMax, fill_len, elt_fill] | (refine awpI_draw2 (id := 17) (.one false 0 (.one false 1 (.one false 2 (.one false 3 (.one false 4 (.one false 5 (.one false 6 (.one false 7 (.one false 8 (.one false 9 (.one false 10 (.one false 11 (.only 12 (.one false 13 (.one false 14 .done))))))))))))))) mixed (by decide +kernel) (by decide +kernel) ?_) | (refine opCallI_rd (by simp only [go_sem, hs, ebl, hlb, elim, hhb, ea, hL, Ret_eq Try.results144]; first | done | rfl) (hls) (by rintro _ rfl; rfl) ?_; rintro _ rfl) | fail)
                have hpt := part64 l2 a1 b1 x hv (by omega) (by omega)
                rw [hL] at hpt
                refine opCallI_lend [0] (by simp only [go_sem, hs, ebl, hlb, elim, hhb, ea, Ret_eq Try.results144]; first | done | rfl) (by simp only [go_sem, hs, ebl, hlb, elim, hhb, ea, Ret_eq Try.results144]; first | done | rfl) (by decide) (by simp only [go_sem, hs, ebl, hlb, elim, hhb, ea, Ret_eq Try.results144]; first | done | decide) (by simp only [go_sem, hs, ebl, hlb, elim, hhb, ea, Ret_eq Try.results144]; first | done | decide) (hpt) ?_
                rintro _ _ ⟨m, t, rfl, l5, rfl, s5, p5⟩
                have hR5 := hR2.sw s5
                have hl5 := hR5.rs.length
                have q1 := p5.h1
                have q2 := p5.h2
                have em1 : (m : Int) - (a1 : Int) = ((m - a1 : Nat) : Int) := by omega
                have em2 : (b1 : Int) - (m : Int) = ((b1 - m : Nat) : Int) := by omega
                have em3 : ((b1 - a1 : Nat) : Int).tdiv 8 = ((b1 - a1 : Nat) : Int) / 8 := Int.tdiv_eq_ediv_of_nonneg (by omega)
                have hA5 := hR5.rh
                have hAl : Ahd a1 m l5 := by
                  rcases hA5 with z | z
                  · exact .inl z
                  · exact .inr fun k k1 k2 => z k k1 (by omega)
                have hAr : Ahd (m + 1) b1 l5 := .inr fun k k1 k2 => by
                  rw [show m + 1 - 1 = m by omega]
                  exact p5.h4 k (by omega) k2
                by_cases hsm : m - a1 < b1 - m
                · have hrec : SortsL64 _ l5 a1 m (lim - 1) := ih (m - a1) (by omega) l5 a1 m (lim - 1) (Nat.le_refl _) q1 (by omega) (by omega) (by omega) hAl
                  unfold SortsL64 at hrec
                  rw [hl5] at hrec
                  repeat' (first | simp only [go_sem, hs, ebl, hlb, elim, hhb, ea, em1, em2, em3, Ret_eq Try.results144] | simp (disch := omega) only [arith, IntKind.bits, capMax, fill_len, elt_fill] | fail)
                  refine opCallI_lend [0] (by simp only [go_sem, hs, ebl, hlb, elim, hhb, ea, em1, em2, em3, Ret_eq Try.results144]; first | done | rfl) (by simp only [go_sem, hs, ebl, hlb, elim, hhb, ea, em1, em2, em3, Ret_eq Try.results144]; first | done | rfl) (by decide) (by simp only [go_sem, hs, ebl, hlb, elim, hhb, ea, em1, em2, em3, Ret_eq Try.results144]; first | done | decide) (by simp only [go_sem, hs, ebl, hlb, elim, hhb, ea, em1, em2, em3, Ret_eq Try.results144]; first | done | decide) (hrec) ?_
                  rintro _ _ ⟨rfl, l6, rfl, s6, d6⟩
                  repeat' (first | simp only [go_sem, hs, ebl, hlb, elim, hhb, ea, em1, em2, em3, Ret_eq Try.results144] | simp (disch := omega) only [arith, IntKind.bits, capMax, fill_len, elt_fill] | fail)
                  refine AgainW.to (m + 1, b1, (lim - 1), decide (((b1 - a1 : Nat) : Int) / 8 ≤ ((m - a1 : Nat) : Int)), t, l6) ?_ ?_ ?_
                  · show b1 - (m + 1) < b1 - a1; omega
                  · exact ⟨hR5.left p5 s6 d6, by show (lim - 1) ≤ 60000; omega⟩
                  · simp only [go_sem, hs, ebl, hlb, elim, hhb, ea, em1, em2, em3, Ret_eq Try.results144]
                · have hrec : SortsL64 _ l5 (m + 1) b1 (lim - 1) := ih (b1 - (m + 1)) (by omega) l5 (m + 1) b1 (lim - 1) (Nat.le_refl _) (by omega) (by omega) (by omega) (by omega) hAr
                  unfold SortsL64 at hrec
                  rw [hl5] at hrec
                  repeat' (first | simp only [go_sem, hs, ebl, hlb, elim, hhb, ea, em1, em2, em3, Ret_eq Try.results144] | simp (disch := omega) only [arith, IntKind.bits, capMax, fill_len, elt_fill] | fail)
                  refine opCallI_lend [0] (by simp only [go_sem, hs, ebl, hlb, elim, hhb, ea, em1, em2, em3, Ret_eq Try.results144]; first | done | rfl) (by simp only [go_sem, hs, ebl, hlb, elim, hhb, ea, em1, em2, em3, Ret_eq Try.results144]; first | done | rfl) (by decide) (by simp only [go_sem, hs, ebl, hlb, elim, hhb, ea, em1, em2, em3, Ret_eq Try.results144]; first | done | decide) (by simp only [go_sem, hs, ebl, hlb, elim, hhb, ea, em1, em2, em3, Ret_eq Try.results144]; first | done | decide) (hrec) ?_
                  rintro _ _ ⟨rfl, l6, rfl, s6, d6⟩
                  repeat' (first | simp only [go_sem, hs, ebl, hlb, elim, hhb, ea, em1, em2, em3, Ret_eq Try.results144] | fail)
                  refine AgainW.to (a1, m, (lim - 1), decide (((b1 - a1 : Nat) : Int) / 8 ≤ ((b1 - m : Nat) : Int)), t, l6) ?_ ?_ ?_
                  · show m - a1 < b1 - a1; omega
                  · exact ⟨hR5.right p5 s6 d6, by show (lim - 1) ≤ 60000; omega⟩
                  · simp only [go_sem, hs, ebl, hlb, elim, hhb, ea, em1, em2, em3, Ret_eq Try.results144]
              · rw [decide_eq_false hlt] at hls
                repeat' (first | simp only [go_sem, hs, ebl, hlb, elim, hhb, ea, hL, Ret_eq Try.results144] | simp (disch := omega) only [arith, IntKind.bits, capMax, fill_len, elt_fill] | (refine awpI_draw2 (id := 17) (.one false 0 (.one false 1 (.one false 2 (.one false 3 (.one false 4 (.one false 5 (.one false 6 (.one false 7 (.one false 8 (.one false 9 (.one false 10 (.one false 11 (.only 12 (.one false 13 (.one false 14 .done))))))))))))))) mixed (by decide +kernel) (by decide +kernel) ?_) | (refine opCallI_rd (by simp only [go_sem, hs, ebl, hlb, elim, hhb, ea, hL, Ret_eq Try.results144]; first | done | rfl) (hls) (by rintro _ rfl; rfl) ?_; rintro _ rfl) | fail)
                have hpe := partEq64 l2 a1 b1 x hv (by omega) (by omega)
                rw [hL] at hpe
                refine opCallI_lend [0] (by simp only [go_sem, hs, ebl, hlb, elim, hhb, ea, Ret_eq Try.results144]; first | done | rfl) (by simp only [go_sem, hs, ebl, hlb, elim, hhb, ea, Ret_eq Try.results144]; first | done | rfl) (by decide) (by simp only [go_sem, hs, ebl, hlb, elim, hhb, ea, Ret_eq Try.results144]; first | done | decide) (by simp only [go_sem, hs, ebl, hlb, elim, hhb, ea, Ret_eq Try.results144]; first | done | decide) (hpe) ?_
                rintro _ _ ⟨m, rfl, l5, rfl, s5, p5⟩
                repeat' (first | simp only [go_sem, hs, ebl, hlb, elim, hhb, ea, Ret_eq Try.results144] | fail)
                refine AgainW.to (m, b1, (lim - 1), false, wp, l5) ?_ ?_ ?_
                · show b1 - m < b1 - a1; have := p5.h1; have := p5.h2; omega
                · exact ⟨(hR2.sw s5).eqPart p5 (s5.all (P := fun z => _ ≤ z) (hR2.ahead ha hv (by omega))), by show (lim - 1) ≤ 60000; omega⟩
                · simp only [go_sem, hs, ebl, hlb, elim, hhb, ea, Ret_eq Try.results144]
            · repeat' (first | simp only [go_sem, hs, ebl, hlb, elim, hhb, Ret_eq Try.results144] | simp (disch := omega) only [arith, IntKind.bits, capMax, fill_len, elt_fill] | (refine awpI_draw2 (id := 17) (.one false 0 (.one false 1 (.one false 2 (.one false 3 (.one false 4 (.one false 5 (.one false 6 (.one false 7 (.one false 8 (.one false 9 (.one false 10 (.one false 11 (.only 12 (.one false 13 (.one false 14 .done))))))))))))))) mixed (by decide +kernel) (by decide +kernel) ?_) | fail)
              have hpt := part64 l2 a1 b1 x hv (by omega) (by omega)
              rw [hL] at hpt
              refine opCallI_lend [0] (by simp only [go_sem, hs, ebl, hlb, elim, hhb, Ret_eq Try.results144]; first | done | rfl) (by simp only [go_sem, hs, ebl, hlb, elim, hhb, Ret_eq Try.results144]; first | done | rfl) (by decide) (by simp only [go_sem, hs, ebl, hlb, elim, hhb, Ret_eq Try.results144]; first | done | decide) (by simp only [go_sem, hs, ebl, hlb, elim, hhb, Ret_eq Try.results144]; first | done | decide) (hpt) ?_
              rintro _ _ ⟨m, t, rfl, l5, rfl, s5, p5⟩
              have hR5 := hR2.sw s5
              have hl5 := hR5.rs.length
              have q1 := p5.h1
              have q2 := p5.h2
              have em1 : (m : Int) - (a1 : Int) = ((m - a1 : Nat) : Int) := by omega
              have em2 : (b1 : Int) - (m : Int) = ((b1 - m : Nat) : Int) := by omega
              have em3 : ((b1 - a1 : Nat) : Int).tdiv 8 = ((b1 - a1 : Nat) : Int) / 8 := Int.tdiv_eq_ediv_of_nonneg (by omega)
              have hA5 := hR5.rh
              have hAl : Ahd a1 m l5 := by
                rcases hA5 with z | z
                · exact .inl z
                · exact .inr fun k k1 k2 => z k k1 (by omega)
              have hAr : Ahd (m + 1) b1 l5 := .inr fun k k1 k2 => by
                rw [show m + 1 - 1 = m by omega]
                exact p5.h4 k (by omega) k2
              by_cases hsm : m - a1 < b1 - m
              · have hrec : SortsL64 _ l5 a1 m (lim - 1) := ih (m - a1) (by omega) l5 a1 m (lim - 1) (Nat.le_refl _) q1 (by omega) (by omega) (by omega) hAl
                unfold SortsL64 at hrec
                rw [hl5] at hrec
                repeat' (first | simp only [go_sem, hs, ebl, hlb, elim, hhb, em1, em2, em3, Ret_eq Try.results144] | simp (disch := omega) only [arith, IntKind.bits, capMax, fill_len, elt_fill] | fail)
                refine opCallI_lend [0] (by simp only [go_sem, hs, ebl, hlb, elim, hhb, em1, em2, em3, Ret_eq Try.results144]; first | done | rfl) (by simp only [go_sem, hs, ebl, hlb, elim, hhb, em1, em2, em3, Ret_eq Try.results144]; first | done | rfl) (by decide) (by simp only [go_sem, hs, ebl, hlb, elim, hhb, em1, em2, em3, Ret_eq Try.results144]; first | done | decide) (by simp only [go_sem, hs, ebl, hlb, elim, hhb, em1, em2, em3, Ret_eq Try.results144]; first | done | decide) (hrec) ?_
                rintro _ _ ⟨rfl, l6, rfl, s6, d6⟩
                repeat' (first | simp only [go_sem, hs, ebl, hlb, elim, hhb, em1, em2, em3, Ret_eq Try.results144] | simp (disch := omega) only [arith, IntKind.bits, capMax, fill_len, elt_fill] | fail)
                refine AgainW.to (m + 1, b1, (lim - 1), decide (((b1 - a1 : Nat) : Int) / 8 ≤ ((m - a1 : Nat) : Int)), t, l6) ?_ ?_ ?_
                · show b1 - (m + 1) < b1 - a1; omega
                · exact ⟨hR5.left p5 s6 d6, by show (lim - 1) ≤ 60000; omega⟩
                · simp only [go_sem, hs, ebl, hlb, elim, hhb, em1, em2, em3, Ret_eq Try.results144]
              · have hrec : SortsL64 _ l5 (m + 1) b1 (lim - 1) := ih (b1 - (m + 1)) (by omega) l5 (m + 1) b1 (lim - 1) (Nat.le_refl _) (by omega) (by omega) (by omega) (by omega) hAr
                unfold SortsL64 at hrec
                rw [hl5] at hrec
                repeat' (first | simp only [go_sem, hs, ebl, hlb, elim, hhb, em1, em2, em3, Ret_eq Try.results144] | simp (disch := omega) only [arith, IntKind.bits, capMax, fill_len, elt_fill] | fail)
                refine opCallI_lend [0] (by simp only [go_sem, hs, ebl, hlb, elim, hhb, em1, em2, em3, Ret_eq Try.results144]; first | done | rfl) (by simp only [go_sem, hs, ebl, hlb, elim, hhb, em1, em2, em3, Ret_eq Try.results144]; first | done | rfl) (by decide) (by simp only [go_sem, hs, ebl, hlb, elim, hhb, em1, em2, em3, Ret_eq Try.results144]; first | done | decide) (by simp only [go_sem, hs, ebl, hlb, elim, hhb, em1, em2, em3, Ret_eq Try.results144]; first | done | decide) (hrec) ?_
                rintro _ _ ⟨rfl, l6, rfl, s6, d6⟩
                repeat' (first | simp only [go_sem, hs, ebl, hlb, elim, hhb, em1, em2, em3, Ret_eq Try.results144] | fail)
                refine AgainW.to (a1, m, (lim - 1), decide (((b1 - a1 : Nat) : Int) / 8 ≤ ((b1 - m : Nat) : Int)), t, l6) ?_ ?_ ?_
                · show m - a1 < b1 - a1; omega
                · exact ⟨hR5.right p5 s6 d6, by show (lim - 1) ≤ 60000; omega⟩
                · simp only [go_sem, hs, ebl, hlb, elim, hhb, em1, em2, em3, Ret_eq Try.results144]
        | true =>
          have hR2 := hR
          have hl2 := hl1
          have hch := choose64 l1 a1 b1 (by omega) (by omega) (by omega)
          rw [hl1] at hch
          repeat' (first | simp only [go_sem, hs, ebl, hlb, elim, Ret_eq Try.results144] | simp (disch := omega) only [arith, IntKind.bits, capMax, fill_len, elt_fill] | fail)
          refine opCallI_lend [0] (by simp only [go_sem, hs, ebl, hlb, elim, Ret_eq Try.results144]; first | done | rfl) (by simp only [go_sem, hs, ebl, hlb, elim, Ret_eq Try.results144]; first | done | rfl) (by decide) (by simp only [go_sem, hs, ebl, hlb, elim, Ret_eq Try.results144]; first | done | decide) (by simp only [go_sem, hs, ebl, hlb, elim, Ret_eq Try.results144]; first | done | decide) (hch) ?_
          rintro _ _ ⟨x, h, rfl, rfl, hx1, hx2⟩
          by_cases hh : h = 2
          · subst hh
            have hrv := reverse64 l1 a1 b1 r2 (by omega) (by omega) (by omega)
            rw [hl2] at hrv
            repeat' (first | simp only [go_sem, hs, ebl, hlb, elim, beq_self_eq_true, Ret_eq Try.results144] | fail)
            refine opCallI_lend [0] (by simp only [go_sem, hs, ebl, hlb, elim, Ret_eq Try.results144]; first | done | rfl) (by simp only [go_sem, hs, ebl, hlb, elim, Ret_eq Try.results144]; first | done | rfl) (by decide) (by simp only [go_sem, hs, ebl, hlb, elim, Ret_eq Try.results144]; first | done | decide) (by simp only [go_sem, hs, ebl, hlb, elim, Ret_eq Try.results144]; first | done | decide) (hrv) ?_
            rintro _ _ ⟨rfl, l3, rfl, s3⟩
            have hR3 := hR2.sw s3
            have ev : (b1 : Int) - 1 - ((x : Int) - (a1 : Int)) = ((b1 - 1 - (x - a1) : Nat) : Int) := by omega
            have hv : a1 ≤ b1 - 1 - (x - a1) ∧ b1 - 1 - (x - a1) < b1 := by omega
            generalize b1 - 1 - (x - a1) = v at *
            cases wp with
            | true =>
              have hL : l3.length = l.length := hR3.rs.length
              have hpa := partial64 l3 a1 b1 (by omega) (by omega) (by omega) hR3.rh
              rw [hL] at hpa
              repeat' (first | simp only [go_sem, hs, ebl, hlb, elim, ev, beq_self_eq_true, Ret_eq Try.results144] | simp (disch := omega) only [arith, IntKind.bits, capMax, fill_len, elt_fill] | fail)
              refine opCallI_lend [0] (by simp only [go_sem, hs, ebl, hlb, elim, ev, Ret_eq Try.results144]; first | done | rfl) (by simp only [go_sem, hs, ebl, hlb, elim, ev, Ret_eq Try.results144]; first | done | rfl) (by decide) (by simp only [go_sem, hs, ebl, hlb, elim, ev, Ret_eq Try.results144]; first | done | decide) (by simp only [go_sem, hs, ebl, hlb, elim, ev, Ret_eq Try.results144]; first | done | decide) (hpa) ?_
              rintro _ _ ⟨t0, rfl, l4, rfl, s4, d4⟩
              have hR4 := hR3.sw s4
              cases t0 with
              | true =>
                repeat' (first | simp only [go_sem, hs, ebl, hlb, elim, ev, Ret_eq Try.results144] | refine RetL_calc Try.results144 rfl ?_ | fail)
                all_goals exact ⟨rfl, l4, rfl, hR3.done s4 (d4 rfl)⟩
              | false =>
                have hL : l4.length = l.length := hR4.rs.length
                by_cases ha : 0 < a1
                · have ea : (a1 : Int) - 1 = ((a1 - 1 : Nat) : Int) := by omega
                  have hls := lessS64_fun (l4.getD (a1 - 1) 0) (l4.getD v 0)
                  by_cases hlt : l4.getD (a1 - 1) 0 < l4.getD v 0
                  · rw [decide_eq_true hlt] at hls
                    repeat' (first | simp only [go_sem, hs, ebl, hlb, elim, ev, ea, hL, Ret_eq Try.results144] | simp (disch := omega) only [arith, IntKind.bits, capMax, fill_len, elt_fill] | (refine awpI_draw2 (id := 17) (.one false 0 (.one false 1 (.one false 2 (.one false 3 (.one false 4 (.one false 5 (.one false 6 (.one false 7 (.one false 8 (.one false 9 (.one false 10 (.one false 11 (.only 12 (.one false 13 (.one false 14 .done))))))))))))))) mixed (by decide +kernel) (by decide +kernel) ?_) | (refine opCallI_rd (by simp only [go_sem, hs, ebl, hlb, elim, ev, ea, hL, Ret_eq Try.results144]; first | done | rfl) (hls) (by rintro _ rfl; rfl) ?_; rintro _ rfl) | fail)
                    have hpt := part64 l4 a1 b1 v hv (by omega) (by omega)
                    rw [hL] at hpt
                    refine opCallI_lend [0] (by simp only [go_sem, hs, ebl, hlb, elim, ev, ea, Ret_eq Try.results144]; first | done | rfl) (by simp only [go_sem, hs, ebl, hlb, elim, ev, ea, Ret_eq Try.results144]; first | done | rfl) (by decide) (by simp only [go_sem, hs, ebl, hlb, elim, ev, ea, Ret_eq Try.results144]; first | done | decide) (by simp only [go_sem, hs, ebl, hlb, elim, ev, ea, Ret_eq Try.results144]; first | done | decide) (hpt) ?_
                    rintro _ _ ⟨m, t, rfl, l5, rfl, s5, p5⟩
                    have hR5 := hR4.sw s5
                    have hl5 := hR5.rs.length
                    have q1 := p5.h1
                    have q2 := p5.h2
                    have em1 : (m : Int) - (a1 : Int) = ((m - a1 : Nat) : Int) := by omega
                    have em2 : (b1 : Int) - (m : Int) = ((b1 - m : Nat) : Int) := by omega
                    have em3 : ((b1 - a1 : Nat) : Int).tdiv 8 = ((b1 - a1 : Nat) : Int) / 8 := Int.tdiv_eq_ediv_of_nonneg (by omega)
                    have hA5 := hR5.rh
                    have hAl : Ahd a1 m l5 := by
                      rcases hA5 with z | z
                      · exact .inl z
                      · exact .inr fun k k1 k2 => z k k1 (by omega)
                    have hAr : Ahd (m + 1) b1 l5 := .inr fun k k1 k2 => by
                      rw [show m + 1 - 1 = m by omega]
                      exact p5.h4 k (by omega) k2
                    by_cases hsm : m - a1 < b1 - m
                    · have hrec : SortsL64 _ l5 a1 m lim := ih (m - a1) (by omega) l5 a1 m lim (Nat.le_refl _) q1 (by omega) (by omega) (by omega) hAl
                      unfold SortsL64 at hrec
                      rw [hl5] at hrec
                      repeat' (first | simp only [go_sem, hs, ebl, hlb, elim, ev, ea, em1, em2, em3, Ret_eq Try.results144] | simp (disch := omega) only [arith, IntKind.bits, capMax, fill_len, elt_fill] | fail)
                      refine opCallI_lend [0] (by simp only [go_sem, hs, ebl, hlb, elim, ev, ea, em1, em2, em3, Ret_eq Try.results144]; first | done | rfl) (by simp only [go_sem, hs, ebl, hlb, elim, ev, ea, em1, em2, em3, Ret_eq Try.results144]; first | done | rfl) (by decide) (by simp only [go_sem, hs, ebl, hlb, elim, ev, ea, em1, em2, em3, Ret_eq Try.results144]; first | done | decide) (by simp only [go_sem, hs, ebl, hlb, elim, ev, ea, em1, em2, em3, Ret_eq Try.results144]; first | done | decide) (hrec) ?_
                      rintro _ _ ⟨rfl, l6, rfl, s6, d6⟩
                      repeat' (first | simp only [go_sem, hs, ebl, hlb, elim, ev, ea, em1, em2, em3, Ret_eq Try.results144] | simp (disch := omega) only [arith, IntKind.bits, capMax, fill_len, elt_fill] | fail)
                      refine AgainW.to (m + 1, b1, lim, decide (((b1 - a1 : Nat) : Int) / 8 ≤ ((m - a1 : Nat) : Int)), t, l6) ?_ ?_ ?_
                      · show b1 - (m + 1) < b1 - a1; omega
                      · exact ⟨hR5.left p5 s6 d6, by show lim ≤ 60000; omega⟩
                      · simp only [go_sem, hs, ebl, hlb, elim, ev, ea, em1, em2, em3, Ret_eq Try.results144]
                    · have hrec : SortsL64 _ l5 (m + 1) b1 lim := ih (b1 - (m + 1)) (by omega) l5 (m + 1) b1 lim (Nat.le_refl _) (by omega) (by omega) (by omega) (by omega) hAr
                      unfold SortsL64 at hrec
                      rw [hl5] at hrec
                      repeat' (first | simp only [go_sem, hs, ebl, hlb, elim, ev, ea, em1, em2, em3, Ret_eq Try.results144] | simp (disch := omega) only [arith, IntKind.bits, capMax, fill_len, elt_fill] | fail)
                      refine opCallI_lend [0] (by simp only [go_sem, hs, ebl, hlb, elim, ev, ea, em1, em2, em3, Ret_eq Try.results144]; first | done | rfl) (by simp only [go_sem, hs, ebl, hlb, elim, ev, ea, em1, em2, em3, Ret_eq Try.results144]; first | done | rfl) (by decide) (by simp only [go_sem, hs, ebl, hlb, elim, ev, ea, em1, em2, em3, Ret_eq Try.results144]; first | done | decide) (by simp only [go_sem, hs, ebl, hlb, elim, ev, ea, em1, em2, em3, Ret_eq Try.results144]; first | done | decide) (hrec) ?_
                      rintro _ _ ⟨rfl, l6, rfl, s6, d6⟩
                      repeat' (first | simp only [go_sem, hs, ebl, hlb, elim, ev, ea, em1, em2, em3, Ret_eq Try.results144] | fail)
                      refine AgainW.to (a1, m, lim, decide (((b1 - a1 : Nat) : Int) / 8 ≤ ((b1 - m : Nat) : Int)), t, l6) ?_ ?_ ?_
                      · show m - a1 < b1 - a1; omega
                      · exact ⟨hR5.right p5 s6 d6, by show lim ≤ 60000; omega⟩
                      · simp only [go_sem, hs, ebl, hlb, elim, ev, ea, em1, em2, em3, Ret_eq Try.results144]
                  · rw [decide_eq_false hlt] at hls
                    repeat' (first | simp only [go_sem, hs, ebl, hlb, elim, ev, ea, hL, Ret_eq Try.results144] | simp (disch := omega) only [arith, IntKind.bits, capMax, fill_len, elt_fill] | (refine awpI_draw2 (id := 17) (.one false 0 (.one false 1 (.one false 2 (.one false 3 (.one false 4 (.one false 5 (.one false 6 (.one false 7 (.one false 8 (.one false 9 (.one false 10 (.one false 11 (.only 12 (.one false 13 (.one false 14 .done))))))))))))))) mixed (by decide +kernel) (by decide +kernel) ?_) | (refine opCallI_rd (by simp only [go_sem, hs, ebl, hlb, elim, ev, ea, hL, Ret_eq Try.results144]; first | done | rfl) (hls) (by rintro _ rfl; rfl) ?_; rintro _ rfl) | fail)
                    have hpe := partEq64 l4 a1 b1 v hv (by omega) (by omega)
                    rw [hL] at hpe
                    refine opCallI_lend [0] (by simp only [go_sem, hs, ebl, hlb, elim, ev, ea, Ret_eq Try.results144]; first | done | rfl) (by simp only [go_sem, hs, ebl, hlb, elim, ev, ea, Ret_eq Try.results144]; first | done | rfl) (by decide) (by simp only [go_sem, hs, ebl, hlb, elim, ev, ea, Ret_eq Try.results144]; first | done | decide) (by simp only [go_sem, hs, ebl, hlb, elim, ev, ea, Ret_eq Try.results144]; first | done | decide) (hpe) ?_
                    rintro _ _ ⟨m, rfl, l5, rfl, s5, p5⟩
                    repeat' (first | simp only [go_sem, hs, ebl, hlb, elim, ev, ea, Ret_eq Try.results144] | fail)
                    refine AgainW.to (m, b1, lim, true, true, l5) ?_ ?_ ?_
                    · show b1 - m < b1 - a1; have := p5.h1; have := p5.h2; omega
                    · exact ⟨(hR4.sw s5).eqPart p5 (s5.all (P := fun z => _ ≤ z) (hR4.ahead ha hv (by omega))), by show lim ≤ 60000; omega⟩
                    · simp only [go_sem, hs, ebl, hlb, elim, ev, ea, Ret_eq Try.results144]
                · repeat' (first | simp only [go_sem, hs, ebl, hlb, elim, ev, Ret_eq Try.results144] | simp (disch := omega) only [arith, IntKind.bits, capMax, fill_len, elt_fill] | (refine awpI_draw2 (id := 17) (.one false 0 (.one false 1 (.one false 2 (.one false 3 (.one false 4 (.one false 5 (.one false 6 (.one false 7 (.one false 8 (.one false 9 (.one false 10 (.one false 11 (.only 12 (.one false 13 (.one false 14 .done))))))))))))))) mixed (by decide +kernel) (by decide +kernel) ?_) | fail)
                  have hpt := part64 l4 a1 b1 v hv (by omega) (by omega)
                  rw [hL] at hpt
                  refine opCallI_lend [0] (by simp only [go_sem, hs, ebl, hlb, elim, ev, Ret_eq Try.results144]; first | done | rfl) (by simp only [go_sem, hs, ebl, hlb, elim, ev, Ret_eq Try.results144]; first | done | rfl) (by decide) (by simp only [go_sem, hs, ebl, hlb, elim, ev, Ret_eq Try.results144]; first | done | decide) (by simp only [go_sem, hs, ebl, hlb, elim, ev, Ret_eq Try.results144]; first | done | decide) (hpt) ?_
                  rintro _ _ ⟨m, t, rfl, l5, rfl, s5, p5⟩
                  have hR5 := hR4.sw s5
                  have hl5 := hR5.rs.length
                  have q1 := p5.h1
                  have q2 := p5.h2
                  have em1 : (m : Int) - (a1 : Int) = ((m - a1 : Nat) : Int) := by omega
                  have em2 : (b1 : Int) - (m : Int) = ((b1 - m : Nat) : Int) := by omega
                  have em3 : ((b1 - a1 : Nat) : Int).tdiv 8 = ((b1 - a1 : Nat) : Int) / 8 := Int.tdiv_eq_ediv_of_nonneg (by omega)
                  have hA5 := hR5.rh
                  have hAl : Ahd a1 m l5 := by
                    rcases hA5 with z | z
                    · exact .inl z
                    · exact .inr fun k k1 k2 => z k k1 (by omega)
                  have hAr : Ahd (m + 1) b1 l5 := .inr fun k k1 k2 => by
                    rw [show m + 1 - 1 = m by omega]
                    exact p5.h4 k (by omega) k2
                  by_cases hsm : m - a1 < b1 - m
                  · have hrec : SortsL64 _ l5 a1 m lim := ih (m - a1) (by omega) l5 a1 m lim (Nat.le_refl _) q1 (by omega) (by omega) (by omega) hAl
                    unfold SortsL64 at hrec
                    rw [hl5] at hrec
                    repeat' (first | simp only [go_sem, hs, ebl, hlb, elim, ev, em1, em2, em3, Ret_eq Try.results144] | simp (disch := omega) only [arith, IntKind.bits, capMax, fill_len, elt_fill] | fail)
                    refine opCallI_lend [0] (by simp only [go_sem, hs, ebl, hlb, elim, ev, em1, em2, em3, Ret_eq Try.results144]; first | done | rfl) (by simp only [go_sem, hs, ebl, hlb, elim, ev, em1, em2, em3, Ret_eq Try.results144]; first | done | rfl) (by decide) (by simp only [go_sem, hs, ebl, hlb, elim, ev, em1, em2, em3, Ret_eq Try.results144]; first | done | decide) (by simp only [go_sem, hs, ebl, hlb, elim, ev, em1, em2, em3, Ret_eq Try.results144]; first | done | decide) (hrec) ?_
                    rintro _ _ ⟨rfl, l6, rfl, s6, d6⟩
                    repeat' (first | simp only [go_sem, hs, ebl, hlb, elim, ev, em1, em2, em3, Ret_eq Try.results144] | simp (disch := omega) only [arith, IntKind.bits, capMax, fill_len, elt_fill] | fail)
                    refine AgainW.to (m + 1, b1, lim, decide (((b1 - a1 : Nat) : Int) / 8 ≤ ((m - a1 : Nat) : Int)), t, l6) ?_ ?_ ?_
                    · show b1 - (m + 1) < b1 - a1; omega
                    · exact ⟨hR5.left p5 s6 d6, by show lim ≤ 60000; omega⟩
                    · simp only [go_sem, hs, ebl, hlb, elim, ev, em1, em2, em3, Ret_eq Try.results144]
                  · have hrec : SortsL64 _ l5 (m + 1) b1 lim := ih (b1 - (m + 1)) (by omega) l5 (m + 1) b1 lim (Nat.le_refl _) (by omega) (by omega) (by omega) (by omega) hAr
                    unfold SortsL64 at hrec
                    rw [hl5] at hrec
                    repeat' (first | simp only [go_sem, hs, ebl, hlb, elim, ev, em1, em2, em3, Ret_eq Try.results144] | simp (disch := omega) only [arith, IntKind.bits, capMax, fill_len, elt_fill] | fail)
                    refine opCallI_lend [0] (by simp only [go_sem, hs, ebl, hlb, elim, ev, em1, em2, em3, Ret_eq Try.results144]; first | done | rfl) (by simp only [go_sem, hs, ebl, hlb, elim, ev, em1, em2, em3, Ret_eq Try.results144]; first | done | rfl) (by decide) (by simp only [go_sem, hs, ebl, hlb, elim, ev, em1, em2, em3, Ret_eq Try.results144]; first | done | decide) (by simp only [go_sem, hs, ebl, hlb, elim, ev, em1, em2, em3, Ret_eq Try.results144]; first | done | decide) (hrec) ?_
                    rintro _ _ ⟨rfl, l6, rfl, s6, d6⟩
                    repeat' (first | simp only [go_sem, hs, ebl, hlb, elim, ev, em1, em2, em3, Ret_eq Try.results144] | fail)
                    refine AgainW.to (a1, m, lim, decide (((b1 - a1 : Nat) : Int) / 8 ≤ ((b1 - m : Nat) : Int)), t, l6) ?_ ?_ ?_
                    · show m - a1 < b1 - a1; omega
                    · exact ⟨hR5.right p5 s6 d6, by show lim ≤ 60000; omega⟩
                    · simp only [go_sem, hs, ebl, hlb, elim, ev, em1, em2, em3, Ret_eq Try.results144]
            | false =>
              have hL : l3.length = l.length := hR3.rs.length
              by_cases ha : 0 < a1
              · have ea : (a1 : Int) - 1 = ((a1 - 1 : Nat) : Int) := by omega
                have hls := lessS64_fun (l3.getD (a1 - 1) 0) (l3.getD v 0)
                by_cases hlt : l3.getD (a1 - 1) 0 < l3.getD v 0
                · rw [decide_eq_true hlt] at hls
                  repeat' (first | simp only [go_sem, hs, ebl, hlb, elim, ev, beq_self_eq_true, ea, hL, Ret_eq Try.results144] | simp (disch := omega) only [arith, IntKind.bits, capMax, fill_len, elt_fill] | (refine awpI_draw2 (id := 17) (.one false 0 (.one false 1 (.one false 2 (.one false 3 (.one false 4 (.one false 5 (.one false 6 (.one false 7 (.one false 8 (.one false 9 (.one false 10 (.one false 11 (.only 12 (.one false 13 (.one false 14 .done))))))))))))))) mixed (by decide +kernel) (by decide +kernel) ?_) | (refine opCallI_rd (by simp only [go_sem, hs, ebl, hlb, elim, ev, beq_self_eq_true, ea, hL, Ret_eq Try.results144]; first | done | rfl) (hls) (by rintro _ rfl; rfl) ?_; rintro _ rfl) | fail)
                  have hpt := part64 l3 a1 b1 v hv (by omega) (by omega)
                  rw [hL] at hpt
                  refine opCallI_lend [0] (by simp only [go_sem, hs, ebl, hlb, elim, ev, beq_self_eq_true, ea, Ret_eq Try.results144]; first | done | rfl) (by simp only [go_sem, hs, ebl, hlb, elim, ev, beq_self_eq_true, ea, Ret_eq Try.results144]; first | done | rfl) (by decide) (by simp only [go_sem, hs, ebl, hlb, elim, ev, beq_self_eq_true, ea, Ret_eq Try.results144]; first | done | decide) (by simp only [go_sem, hs, ebl, hlb, elim, ev, beq_self_eq_true, ea, Ret_eq Try.results144]; first | done | decide) (hpt) ?_
                  rintro _ _ ⟨m, t, rfl, l5, rfl, s5, p5⟩
                  have hR5 := hR3.sw s5
                  have hl5 := hR5.rs.length
                  have q1 := p5.h1
                  have q2 := p5.h2
                  have em1 : (m : Int) - (a1 : Int) = ((m - a1 : Nat) : Int) := by omega
                  have em2 : (b1 : Int) - (m : Int) = ((b1 - m : Nat) : Int) := by omega
                  have em3 : ((b1 - a1 : Nat) : Int).tdiv 8 = ((b1 - a1 : Nat) : Int) / 8 := Int.tdiv_eq_ediv_of_nonneg (by omega)
                  have hA5 := hR5.rh
                  have hAl : Ahd a1 m l5 := by
                    rcases hA5 with z | z
                    · exact .inl z
                    · exact .inr fun k k1 k2 => z k k1 (by omega)
                  have hAr : Ahd (m + 1) b1 l5 := .inr fun k k1 k2 => by
                    rw [show m + 1 - 1 = m by omega]
                    exact p5.h4 k (by omega) k2
                  by_cases hsm : m - a1 < b1 - m
                  · have hrec : SortsL64 _ l5 a1 m lim := ih (m - a1) (by omega) l5 a1 m lim (Nat.le_refl _) q1 (by omega) (by omega) (by omega) hAl
                    unfold SortsL64 at hrec
                    rw [hl5] at hrec
                    repeat' (first | simp only [go_sem, hs, ebl, hlb, elim, ev, beq_self_eq_true, ea, em1, em2, em3, Ret_eq Try.results144] | simp (disch := omega) only [arith, IntKind.bits, capMax, fill_len, elt_fill] | fail)
                    refine opCallI_lend [0] (by simp only [go_sem, hs, ebl, hlb, elim, ev, beq_self_eq_true, ea, em1, em2, em3, Ret_eq Try.results144]; first | done | rfl) (by simp only [go_sem, hs, ebl, hlb, elim, ev, beq_self_eq_true, ea, em1, em2, em3, Ret_eq Try.results144]; first | done | rfl) (by decide) (by simp only [go_sem, hs, ebl, hlb, elim, ev, beq_self_eq_true, ea, em1, em2, em3, Ret_eq Try.results144]; first | done | decide) (by simp only [go_sem, hs, ebl, hlb, elim, ev, beq_self_eq_true, ea, em1, em2, em3, Ret_eq Try.results144]; first | done | decide) (hrec) ?_
                    rintro _ _ ⟨rfl, l6, rfl, s6, d6⟩
                    repeat' (first | simp only [go_sem, hs, ebl, hlb, elim, ev, beq_self_eq_true, ea, em1, em2, em3, Ret_eq Try.results144] | simp (disch := omega) only [arith, IntKind.bits, capMax, fill_len, elt_fill] | fail)
                    refine AgainW.to (m + 1, b1, lim, decide (((b1 - a1 : Nat) : Int) / 8 ≤ ((m - a1 : Nat) : Int)), t, l6) ?_ ?_ ?_
                    · show b1 - (m + 1) < b1 - a1; omega
                    · exact ⟨hR5.left p5 s6 d6, by show lim ≤ 60000; omega⟩
                    · simp only [go_sem, hs, ebl, hlb, elim, ev, beq_self_eq_true, ea, em1, em2, em3, Ret_eq Try.results144]
                  · have hrec : SortsL64 _ l5 (m + 1) b1 lim := ih (b1 - (m + 1)) (by omega) l5 (m + 1) b1 lim (Nat.le_refl _) (by omega) (by omega) (by omega) (by omega) hAr
                    unfold SortsL64 at hrec
                    rw [hl5] at hrec
                    repeat' (first | simp only [go_sem, hs, ebl, hlb, elim, ev, beq_self_eq_true, ea, em1, em2, em3, Ret_eq Try.results144] | simp (disch := omega) only [arith, IntKind.bits, capMax, fill_len, elt_fill] | fail)
                    refine opCallI_lend [0] (by simp only [go_sem, hs, ebl, hlb, elim, ev, beq_self_eq_true, ea, em1, em2, em3, Ret_eq Try.results144]; first | done | rfl) (by simp only [go_sem, hs, ebl, hlb, elim, ev, beq_self_eq_true, ea, em1, em2, em3, Ret_eq Try.results144]; first | done | rfl) (by decide) (by simp only [go_sem, hs, ebl, hlb, elim, ev, beq_self_eq_true, ea, em1, em2, em3, Ret_eq Try.results144]; first | done | decide) (by simp only [go_sem, hs, ebl, hlb, elim, ev, beq_self_eq_true, ea, em1, em2, em3, Ret_eq Try.results144]; first | done | decide) (hrec) ?_
                    rintro _ _ ⟨rfl, l6, rfl, s6, d6⟩
                    repeat' (first | simp only [go_sem, hs, ebl, hlb, elim, ev, beq_self_eq_true, ea, em1, em2, em3, Ret_eq Try.results144] | fail)
                    refine AgainW.to (a1, m, lim, decide (((b1 - a1 : Nat) : Int) / 8 ≤ ((b1 - m : Nat) : Int)), t, l6) ?_ ?_ ?_
                    · show m - a1 < b1 - a1; omega
                    · exact ⟨hR5.right p5 s6 d6, by show lim ≤ 60000; omega⟩
                    · simp only [go_sem, hs, ebl, hlb, elim, ev, beq_self_eq_true, ea, em1, em2, em3, Ret_eq Try.results144]
                · rw [decide_eq_false hlt] at hls
                  repeat' (first | simp only [go_sem, hs, ebl, hlb, elim, ev, beq_self_eq_true, ea, hL, Ret_eq Try.results144] | simp (disch := omega) only [arith, IntKind.bits, capMax, fill_len, elt_fill] | (refine awpI_draw2 (id := 17) (.one false 0 (.one false 1 (.one false 2 (.one false 3 (.one false 4 (.one false 5 (.one false 6 (.one false 7 (.one false 8 (.one false 9 (.one false 10 (.one false 11 (.only 12 (.one false 13 (.one false 14 .done))))))))))))))) mixed (by decide +kernel) (by decide +kernel) ?_) | (refine opCallI_rd (by simp only [go_sem, hs, ebl, hlb, elim, ev, beq_self_eq_true, ea, hL, Ret_eq Try.results144]; first | done | rfl) (hls) (by rintro _ rfl; rfl) ?_; rintro _ rfl) | fail)
                  have hpe := partEq64 l3 a1 b1 v hv (by omega) (by omega)
                  rw [hL] at hpe
                  refine opCallI_lend [0] (by simp only [go_sem, hs, ebl, hlb, elim, ev, beq_self_eq_true, ea, Ret_eq Try.results144]; first | done | rfl) (by simp only [go_sem, hs, ebl, hlb, elim, ev, beq_self_eq_true, ea, Ret_eq Try.results144]; first | done | rfl) (by decide) (by simp only [go_sem, hs, ebl, hlb, elim, ev, beq_self_eq_true, ea, Ret_eq Try.results144]; first | done | decide) (by simp only [go_sem, hs, ebl, hlb, elim, ev, beq_self_eq_true, ea, Ret_eq Try.results144]; first | done | decide) (hpe) ?_
                  rintro _ _ ⟨m, rfl, l5, rfl, s5, p5⟩
                  repeat' (first | simp only [go_sem, hs, ebl, hlb, elim, ev, beq_self_eq_true, ea, Ret_eq Try.results144] | fail)
                  refine AgainW.to (m, b1, lim, true, false, l5) ?_ ?_ ?_
                  · show b1 - m < b1 - a1; have := p5.h1; have := p5.h2; omega
                  · exact ⟨(hR3.sw s5).eqPart p5 (s5.all (P := fun z => _ ≤ z) (hR3.ahead ha hv (by omega))), by show lim ≤ 60000; omega⟩
                  · simp only [go_sem, hs, ebl, hlb, elim, ev, beq_self_eq_true, ea, Ret_eq Try.results144]
              · repeat' (first | simp only [go_sem, hs, ebl, hlb, elim, ev, beq_self_eq_true, Ret_eq Try.results144] | simp (disch := omega) only [arith, IntKind.bits, capMax, fill_len, elt_fill] | (refine awpI_draw2 (id := 17) (.one false 0 (.one false 1 (.one false 2 (.one false 3 (.one false 4 (.one false 5 (.one false 6 (.one false 7 (.one false 8 (.one false 9 (.one false 10 (.one false 11 (.only 12 (.one false 13 (.one false 14 .done))))))))))))))) mixed (by decide +kernel) (by decide +kernel) ?_) | fail)
                have hpt := part64 l3 a1 b1 v hv (by omega) (by omega)
                rw [hL] at hpt
                refine opCallI_lend [0] (by simp only [go_sem, hs, ebl, hlb, elim, ev, beq_self_eq_true, Ret_eq Try.results144]; first | done | rfl) (by simp only [go_sem, hs, ebl, hlb, elim, ev, beq_self_eq_true, Ret_eq Try.results144]; first | done | rfl) (by decide) (by simp only [go_sem, hs, ebl, hlb, elim, ev, beq_self_eq_true, Ret_eq Try.results144]; first | done | decide) (by simp only [go_sem, hs, ebl, hlb, elim, ev, beq_self_eq_true, Ret_eq Try.results144]; first | done | decide) (hpt) ?_
                rintro _ _ ⟨m, t, rfl, l5, rfl, s5, p5⟩
                have hR5 := hR3.sw s5
                have hl5 := hR5.rs.length
                have q1 := p5.h1
                have q2 := p5.h2
                have em1 : (m : Int) - (a1 : Int) = ((m - a1 : Nat) : Int) := by omega
                have em2 : (b1 : Int) - (m : Int) = ((b1 - m : Nat) : Int) := by omega
                have em3 : ((b1 - a1 : Nat) : Int).tdiv 8 = ((b1 - a1 : Nat) : Int) / 8 := Int.tdiv_eq_ediv_of_nonneg (by omega)
                have hA5 := hR5.rh
                have hAl : Ahd a1 m l5 := by
                  rcases hA5 with z | z
                  · exact .inl z
                  · exact .inr fun k k1 k2 => z k k1 (by omega)
                have hAr : Ahd (m + 1) b1 l5 := .inr fun k k1 k2 => by
                  rw [show m + 1 - 1 = m by omega]
                  exact p5.h4 k (by omega) k2
                by_cases hsm : m - a1 < b1 - m
                · have hrec : SortsL64 _ l5 a1 m lim := ih (m - a1) (by omega) l5 a1 m lim (Nat.le_refl _) q1 (by omega) (by omega) (by omega) hAl
                  unfold SortsL64 at hrec
                  rw [hl5] at hrec
                  repeat' (first | simp only [go_sem, hs, ebl, hlb, elim, ev, beq_self_eq_true, em1, em2, em3, Ret_eq Try.results144] | simp (disch := omega) only [arith, IntKind.bits, capMax, fill_len, elt_fill] | fail)
                  refine opCallI_lend [0] (by simp only [go_sem, hs, ebl, hlb, elim, ev, beq_self_eq_true, em1, em2, em3, Ret_eq Try.results144]; first | done | rfl) (by simp only [go_sem, hs, ebl, hlb, elim, ev, beq_self_eq_true, em1, em2, em3, Ret_eq Try.results144]; first | done | rfl) (by decide) (by simp only [go_sem, hs, ebl, hlb, elim, ev, beq_self_eq_true, em1, em2, em3, Ret_eq Try.results144]; first | done | decide) (by simp only [go_sem, hs, ebl, hlb, elim, ev, beq_self_eq_true, em1, em2, em3, Ret_eq Try.results144]; first | done | decide) (hrec) ?_
                  rintro _ _ ⟨rfl, l6, rfl, s6, d6⟩
                  repeat' (first | simp only [go_sem, hs, ebl, hlb, elim, ev, beq_self_eq_true, em1, em2, em3, Ret_eq Try.results144] | simp (disch := omega) only [arith, IntKind.bits, capMax, fill_len, elt_fill] | fail)
                  refine AgainW.to (m + 1, b1, lim, decide (((b1 - a1 : Nat) : Int) / 8 ≤ ((m - a1 : Nat) : Int)), t, l6) ?_ ?_ ?_
                  · show b1 - (m + 1) < b1 - a1; omega
                  · exact ⟨hR5.left p5 s6 d6, by show lim ≤ 60000; omega⟩
                  · simp only [go_sem, hs, ebl, hlb, elim, ev, beq_self_eq_true, em1, em2, em3, Ret_eq Try.results144]
                · have hrec : SortsL64 _ l5 (m + 1) b1 lim := ih (b1 - (m + 1)) (by omega) l5 (m + 1) b1 lim (Nat.le_refl _) (by omega) (by omega) (by omega) (by omega) hAr
                  unfold SortsL64 at hrec
                  rw [hl5] at hrec
                  repeat' (first | simp only [go_sem, hs, ebl, hlb, elim, ev, beq_self_eq_true, em1, em2, em3, Ret_eq Try.results144] | simp (disch := omega) only [arith, IntKind.bits, capMax, fill_len, elt_fill] | fail)
                  refine opCallI_lend [0] (by simp only [go_sem, hs, ebl, hlb, elim, ev, beq_self_eq_true, em1, em2, em3, Ret_eq Try.results144]; first | done | rfl) (by simp only [go_sem, hs, ebl, hlb, elim, ev, beq_self_eq_true, em1, em2, em3, Ret_eq Try.results144]; first | done | rfl) (by decide) (by simp only [go_sem, hs, ebl, hlb, elim, ev, beq_self_eq_true, em1, em2, em3, Ret_eq Try.results144]; first | done | decide) (by simp only [go_sem, hs, ebl, hlb, elim, ev, beq_self_eq_true, em1, em2, em3, Ret_eq Try.results144]; first | done | decide) (hrec) ?_
                  rintro _ _ ⟨rfl, l6, rfl, s6, d6⟩
                  repeat' (first | simp only [go_sem, hs, ebl, hlb, elim, ev, beq_self_eq_true, em1, em2, em3, Ret_eq Try.results144] | fail)
                  refine AgainW.to (a1, m, lim, decide (((b1 - a1 : Nat) : Int) / 8 ≤ ((b1 - m : Nat) : Int)), t, l6) ?_ ?_ ?_
                  · show m - a1 < b1 - a1; omega
                  · exact ⟨hR5.right p5 s6 d6, by show lim ≤ 60000; omega⟩
                  · simp only [go_sem, hs, ebl, hlb, elim, ev, beq_self_eq_true, em1, em2, em3, Ret_eq Try.results144]
          · have hhb : (h == 2) = false := beq_eq_false_iff_ne.2 hh
            have hv : a1 ≤ x ∧ x < b1 := ⟨hx1, hx2⟩
            by_cases h1 : h = 1
            · subst h1
              cases wp with
              | true =>
                have hL : l1.length = l.length := hR2.rs.length
                have hpa := partial64 l1 a1 b1 (by omega) (by omega) (by omega) hR2.rh
                rw [hL] at hpa
                repeat' (first | simp only [go_sem, hs, ebl, hlb, elim, hhb, beq_self_eq_true, Ret_eq Try.results144] | fail)
                refine opCallI_lend [0] (by simp only [go_sem, hs, ebl, hlb, elim, hhb, Ret_eq Try.results144]; first | done | rfl) (by simp only [go_sem, hs, ebl, hlb, elim, hhb, Ret_eq Try.results144]; first | done | rfl) (by decide) (by simp only [go_sem, hs, ebl, hlb, elim, hhb, Ret_eq Try.results144]; first | done | decide) (by simp only [go_sem, hs, ebl, hlb, elim, hhb, Ret_eq Try.results144]; first | done | decide) (hpa) ?_
                rintro _ _ ⟨t0, rfl, l4, rfl, s4, d4⟩
                have hR4 := hR2.sw s4
                cases t0 with
                | true =>
                  repeat' (first | simp only [go_sem, hs, ebl, hlb, elim, hhb, Ret_eq Try.results144] | refine RetL_calc Try.results144 rfl ?_ | fail)
                  all_goals exact ⟨rfl, l4, rfl, hR2.done s4 (d4 rfl)⟩
                | false =>
                  have hL : l4.length = l.length := hR4.rs.length
                  by_cases ha : 0 < a1
                  · have ea : (a1 : Int) - 1 = ((a1 - 1 : Nat) : Int) := by omega
                    have hls := lessS64_fun (l4.getD (a1 - 1) 0) (l4.getD x 0)
                    by_cases hlt : l4.getD (a1 - 1) 0 < l4.getD x 0
                    · rw [decide_eq_true hlt] at hls
                      repeat' (first | simp only [go_sem, hs, ebl, hlb, elim, hhb, ea, hL, Ret_eq Try.results144] | simp (disch := omega) only [arith, IntKind.bits, capMax, fill_len, elt_fill] | (refine awpI_draw2 (id := 17) (.one false 0 (.one false 1 (.one false 2 (.one false 3 (.one false 4 (.one false 5 (.one false 6 (.one false 7 (.one false 8 (.one false 9 (.one false 10 (.one false 11 (.only 12 (.one false 13 (.one false 14 .done))))))))))))))) mixed (by decide +kernel) (by decide +kernel) ?_) | (refine opCallI_rd (by simp only [go_sem, hs, ebl, hlb, elim, hhb, ea, hL, Ret_eq Try.results144]; first | done | rfl) (hls) (by rintro _ rfl; rfl) ?_; rintro _ rfl) | fail)
                      have hpt := part64 l4 a1 b1 x hv (by omega) (by omega)
                      rw [hL] at hpt
                      refine opCallI_lend [0] (by simp only [go_sem, hs, ebl, hlb, elim, hhb, ea, Ret_eq Try.results144]; first | done | rfl) (by simp only [go_sem, hs, ebl, hlb, elim, hhb, ea, Ret_eq Try.results144]; first | done | rfl) (by decide) (by simp only [go_sem, hs, ebl, hlb, elim, hhb, ea, Ret_eq Try.results144]; first | done | decide) (by simp only [go_sem, hs, ebl, hlb, elim, hhb, ea, Ret_eq Try.results144]; first | done | decide) (hpt) ?_
                      rintro _ _ ⟨m, t, rfl, l5, rfl, s5, p5⟩
                      have hR5 := hR4.sw s5
                      have hl5 := hR5.rs.length
                      have q1 := p5.h1
                      have q2 := p5.h2
                      have em1 : (m : Int) - (a1 : Int) = ((m - a1 : Nat) : Int) := by omega
                      have em2 : (b1 : Int) - (m : Int) = ((b1 - m : Nat) : Int) := by omega
                      have em3 : ((b1 - a1 : Nat) : Int).tdiv 8 = ((b1 - a1 : Nat) : Int) / 8 := Int.tdiv_eq_ediv_of_nonneg (by omega)
                      have hA5 := hR5.rh
                      have hAl : Ahd a1 m l5 := by
                        rcases hA5 with z | z
                        · exact .inl z
                        · exact .inr fun k k1 k2 => z k k1 (by omega)
                      have hAr : Ahd (m + 1) b1 l5 := .inr fun k k1 k2 => by
                        rw [show m + 1 - 1 = m by omega]
                        exact p5.h4 k (by omega) k2
                      by_cases hsm : m - a1 < b1 - m
                      · have hrec : SortsL64 _ l5 a1 m lim := ih (m - a1) (by omega) l5 a1 m lim (Nat.le_refl _) q1 (by omega) (by omega) (by omega) hAl
                        unfold SortsL64 at hrec
                        rw [hl5] at hrec
                        repeat' (first | simp only [go_sem, hs, ebl, hlb, elim, hhb, ea, em1, em2, em3, Ret_eq Try.results144] | simp (disch := omega) only [arith, IntKind.bits, capMax, fill_len, elt_fill] | fail)
                        refine opCallI_lend [0] (by simp only [go_sem, hs, ebl, hlb, elim, hhb, ea, em1, em2, em3, Ret_eq Try.results144]; first | done | rfl) (by simp only [go_sem, hs, ebl, hlb, elim, hhb, ea, em1, em2, em3, Ret_eq Try.results144]; first | done | rfl) (by decide) (by simp only [go_sem, hs, ebl, hlb, elim, hhb, ea, em1, em2, em3, Ret_eq Try.results144]; first | done | decide) (by simp only [go_sem, hs, ebl, hlb, elim, hhb, ea, em1, em2, em3, Ret_eq Try.results144]; first | done | decide) (hrec) ?_
                        rintro _ _ ⟨rfl, l6, rfl, s6, d6⟩
                        repeat' (first | simp only [go_sem, hs, ebl, hlb, elim, hhb, ea, em1, em2, em3, Ret_eq Try.results144] | simp (disch := omega) only [arith, IntKind.bits, capMax, fill_len, elt_fill] | fail)
                        refine AgainW.to (m + 1, b1, lim, decide (((b1 - a1 : Nat) : Int) / 8 ≤ ((m - a1 : Nat) : Int)), t, l6) ?_ ?_ ?_
                        · show b1 - (m + 1) < b1 - a1; omega
                        · exact ⟨hR5.left p5 s6 d6, by show lim ≤ 60000; omega⟩
                        · simp only [go_sem, hs, ebl, hlb, elim, hhb, ea, em1, em2, em3, Ret_eq Try.results144]
                      · have hrec : SortsL64 _ l5 (m + 1) b1 lim := ih (b1 - (m + 1)) (by omega) l5 (m + 1) b1 lim (Nat.le_refl _) (by omega) (by omega) (by omega) (by omega) hAr
                        unfold SortsL64 at hrec
                        rw [hl5] at hrec
                        repeat' (first | simp only [go_sem, hs, ebl, hlb, elim, hhb, ea, em1, em2, em3, Ret_eq Try.results144] | simp (disch := omega) only [arith, IntKind.bits, capMax, fill_len, elt_fill] | fail)
                        refine opCallI_lend [0] (by simp only [go_sem, hs, ebl, hlb, elim, hhb, ea, em1, em2, em3, Ret_eq Try.results144]; first | done | rfl) (by simp only [go_sem, hs, ebl, hlb, elim, hhb, ea, em1, em2, em3, Ret_eq Try.results144]; first | done | rfl) (by decide) (by simp only [go_sem, hs, ebl, hlb, elim, hhb, ea, em1, em2, em3, Ret_eq Try.results144]; first | done | decide) (by simp only [go_sem, hs, ebl, hlb, elim, hhb, ea, em1, em2, em3, Ret_eq Try.results144]; first | done | decide) (hrec) ?_
                        rintro _ _ ⟨rfl, l6, rfl, s6, d6⟩
                        repeat' (first | simp only [go_sem, hs, ebl, hlb, elim, hhb, ea, em1, em2, em3, Ret_eq Try.results144] | fail)
                        refine AgainW.to (a1, m, lim, decide (((b1 - a1 : Nat) : Int) / 8 ≤ ((b1 - m : Nat) : Int)), t, l6) ?_ ?_ ?_
                        · show m - a1 < b1 - a1; omega
                        · exact ⟨hR5.right p5 s6 d6, by show lim ≤ 60000; omega⟩
                        · simp only [go_sem, hs, ebl, hlb, elim, hhb, ea, em1, em2, em3, Ret_eq Try.results144]
                    · rw [decide_eq_false hlt] at hls
                      repeat' (first | simp only [go_sem, hs, ebl, hlb, elim, hhb, ea, hL, Ret_eq Try.results144] | simp (disch := omega) only [arith, IntKind.bits, capMax, fill_len, elt_fill] | (refine awpI_draw2 (id := 17) (.one false 0 (.one false 1 (.one false 2 (.one false 3 (.one false 4 (.one false 5 (.one false 6 (.one false 7 (.one false 8 (.one false 9 (.one false 10 (.one false 11 (.only 12 (.one false 13 (.one false 14 .done))))))))))))))) mixed (by decide +kernel) (by decide +kernel) ?_) | (refine opCallI_rd (by simp only [go_sem, hs, ebl, hlb, elim, hhb, ea, hL, Ret_eq Try.results144]; first | done | rfl) (hls) (by rintro _ rfl; rfl) ?_; rintro _ rfl) | fail)
                      have hpe := partEq64 l4 a1 b1 x hv (by omega) (by omega)
                      rw [hL] at hpe
                      refine opCallI_lend [0] (by simp only [go_sem, hs, ebl, hlb, elim, hhb, ea, Ret_eq Try.results144]; first | done | rfl) (by simp only [go_sem, hs, ebl, hlb, elim, hhb, ea, Ret_eq Try.results144]; first | done | rfl) (by decide) (by simp only [go_sem, hs, ebl, hlb, elim, hhb, ea, Ret_eq Try.results144]; first | done | decide) (by simp only [go_sem, hs, ebl, hlb, elim, hhb, ea, Ret_eq Try.results144]; first | done | decide) (hpe) ?_
                      rintro _ _ ⟨m, rfl, l5, rfl, s5, p5⟩
                      repeat' (first | simp only [go_sem, hs, ebl, hlb, elim, hhb, ea, Ret_eq Try.results144] | fail)
                      refine AgainW.to (m, b1, lim, true, true, l5) ?_ ?_ ?_
                      · show b1 - m < b1 - a1; have := p5.h1; have := p5.h2; omega
                      · exact ⟨(hR4.sw s5).eqPart p5 (s5.all (P := fun z => _ ≤ z) (hR4.ahead ha hv (by omega))), by show lim ≤ 60000; omega⟩
                      · simp only [go_sem, hs, ebl, hlb, elim, hhb, ea, Ret_eq Try.results144]
                  · repeat' (first | simp only [go_sem, hs, ebl, hlb, elim, hhb, Ret_eq Try.results144] | simp (disch := omega) only [arith, IntKind.bits, capMax, fill_len, elt_fill] | (refine awpI_draw2 (id := 17) (.one false 0 (.one false 1 (.one false 2 (.one false 3 (.one false 4 (.one false 5 (.one false 6 (.one false 7 (.one false 8 (.one false 9 (.one false 10 (.one false 11 (.only 12 (.one false 13 (.one false 14 .done))))))))))))))) mixed (by decide +kernel) (by decide +kernel) ?_) | fail)
                    have hpt := part64 l4 a1 b1 x hv (by omega) (by omega)
                    rw [hL] at hpt
                    refine opCallI_lend [0] (by simp only [go_sem, hs, ebl, hlb, elim, hhb, Ret_eq Try.results144]; first | done | rfl) (by simp only [go_sem, hs, ebl, hlb, elim, hhb, Ret_eq Try.results144]; first | done | rfl) (by decide) (by simp only [go_sem, hs, ebl, hlb, elim, hhb, Ret_eq Try.results144]; first | done | decide) (by simp only [go_sem, hs, ebl, hlb, elim, hhb, Ret_eq Try.results144]; first | done | decide) (hpt) ?_
                    rintro _ _ ⟨m, t, rfl, l5, rfl, s5, p5⟩
                    have hR5 := hR4.sw s5
                    have hl5 := hR5.rs.length
                    have q1 := p5.h1
                    have q2 := p5.h2
                    have em1 : (m : Int) - (a1 : Int) = ((m - a1 : Nat) : Int) := by omega
                    have em2 : (b1 : Int) - (m : Int) = ((b1 - m : Nat) : Int) := by omega
                    have em3 : ((b1 - a1 : Nat) : Int).tdiv 8 = ((b1 - a1 : Nat) : Int) / 8 := Int.tdiv_eq_ediv_of_nonneg (by omega)
                    have hA5 := hR5.rh
                    have hAl : Ahd a1 m l5 := by
                      rcases hA5 with z | z
                      · exact .inl z
                      · exact .inr fun k k1 k2 => z k k1 (by omega)
                    have hAr : Ahd (m + 1) b1 l5 := .inr fun k k1 k2 => by
                      rw [show m + 1 - 1 = m by omega]
                      exact p5.h4 k (by omega) k2
                    by_cases hsm : m - a1 < b1 - m
                    · have hrec : SortsL64 _ l5 a1 m lim := ih (m - a1) (by omega) l5 a1 m lim (Nat.le_refl _) q1 (by omega) (by omega) (by omega) hAl
                      unfold SortsL64 at hrec
                      rw [hl5] at hrec
                      repeat' (first | simp only [go_sem, hs, ebl, hlb, elim, hhb, em1, em2, em3, Ret_eq Try.results144] | simp (disch := omega) only [arith, IntKind.bits, capMax, fill_len, elt_fill] | fail)
                      refine opCallI_lend [0] (by simp only [go_sem, hs, ebl, hlb, elim, hhb, em1, em2, em3, Ret_eq Try.results144]; first | done | rfl) (by simp only [go_sem, hs, ebl, hlb, elim, hhb, em1, em2, em3, Ret_eq Try.results144]; first | done | rfl) (by decide) (by simp only [go_sem, hs, ebl, hlb, elim, hhb, em1, em2, em3, Ret_eq Try.results144]; first | done | decide) (by simp only [go_sem, hs, ebl, hlb, elim, hhb, em1, em2, em3, Ret_eq Try.results144]; first | done | decide) (hrec) ?_
                      rintro _ _ ⟨rfl, l6, rfl, s6, d6⟩
                      repeat' (first | simp only [go_sem, hs, ebl, hlb, elim, hhb, em1, em2, em3, Ret_eq Try.results144] | simp (disch := omega) only [arith, IntKind.bits, capMax, fill_len, elt_fill] | fail)
                      refine AgainW.to (m + 1, b1, lim, decide (((b1 - a1 : Nat) : Int) / 8 ≤ ((m - a1 : Nat) : Int)), t, l6) ?_ ?_ ?_
                      · show b1 - (m + 1) < b1 - a1; omega
                      · exact ⟨hR5.left p5 s6 d6, by show lim ≤ 60000; omega⟩
                      · simp only [go_sem, hs, ebl, hlb, elim, hhb, em1, em2, em3, Ret_eq Try.results144]
                    · have hrec : SortsL64 _ l5 (m + 1) b1 lim := ih (b1 - (m + 1)) (by omega) l5 (m + 1) b1 lim (Nat.le_refl _) (by omega) (by omega) (by omega) (by omega) hAr
                      unfold SortsL64 at hrec
                      rw [hl5] at hrec
                      repeat' (first | simp only [go_sem, hs, ebl, hlb, elim, hhb, em1, em2, em3, Ret_eq Try.results144] | simp (disch := omega) only [arith, IntKind.bits, capMax, fill_len, elt_fill] | fail)
                      refine opCallI_lend [0] (by simp only [go_sem, hs, ebl, hlb, elim, hhb, em1, em2, em3, Ret_eq Try.results144]; first | done | rfl) (by simp only [go_sem, hs, ebl, hlb, elim, hhb, em1, em2, em3, Ret_eq Try.results144]; first | done | rfl) (by decide) (by simp only [go_sem, hs, ebl, hlb, elim, hhb, em1, em2, em3, Ret_eq Try.results144]; first | done | decide) (by simp only [go_sem, hs, ebl, hlb, elim, hhb, em1, em2, em3, Ret_eq Try.results144]; first | done | decide) (hrec) ?_
                      rintro _ _ ⟨rfl, l6, rfl, s6, d6⟩
                      repeat' (first | simp only [go_sem, hs, ebl, hlb, elim, hhb, em1, em2, em3, Ret_eq Try.results144] | fail)
                      refine AgainW.to (a1, m, lim, decide (((b1 - a1 : Nat) : Int) / 8 ≤ ((b1 - m : Nat) : Int)), t, l6) ?_ ?_ ?_
                      · show m - a1 < b1 - a1; omega
                      · exact ⟨hR5.right p5 s6 d6, by show lim ≤ 60000; omega⟩
                      · simp only [go_sem, hs, ebl, hlb, elim, hhb, em1, em2, em3, Ret_eq Try.results144]
              | false =>
                have hL : l1.length = l.length := hR2.rs.length
                by_cases ha : 0 < a1
                · have ea : (a1 : Int) - 1 = ((a1 - 1 : Nat) : Int) := by omega
                  have hls := lessS64_fun (l1.getD (a1 - 1) 0) (l1.getD x 0)
                  by_cases hlt : l1.getD (a1 - 1) 0 < l1.getD x 0
                  · rw [decide_eq_true hlt] at hls
                    repeat' (first | simp only [go_sem, hs, ebl, hlb, elim, hhb, beq_self_eq_true, ea, hL, Ret_eq Try.results144] | simp (disch := omega) only [arith, IntKind.bits, capMax, fill_len, elt_fill] | (refine awpI_draw2 (id := 17) (.one false 0 (.one false 1 (.one false 2 (.one false 3 (.one false 4 (.one false 5 (.one false 6 (.one false 7 (.one false 8 (.one false 9 (.one false 10 (.one false 11 (.only 12 (.one false 13 (.one false 14 .done))))))))))))))) mixed (by decide +kernel) (by decide +kernel) ?_) | (refine opCallI_rd (by simp only [go_sem, hs, ebl, hlb, elim, hhb, beq_self_eq_true, ea, hL, Ret_eq Try.results144]; first | done | rfl) (hls) (by rintro _ rfl; rfl) ?_; rintro _ rfl) | fail)
                    have hpt := part64 l1 a1 b1 x hv (by omega) (by omega)
                    rw [hL] at hpt
                    refine opCallI_lend [0] (by simp only [go_sem, hs, ebl, hlb, elim, hhb, beq_self_eq_true, ea, Ret_eq Try.results144]; first | done | rfl) (by simp only [go_sem, hs, ebl, hlb, elim, hhb, beq_self_eq_true, ea, Ret_eq Try.results144]; first | done | rfl) (by decide) (by simp only [go_sem, hs, ebl, hlb, elim, hhb, beq_self_eq_true, ea, Ret_eq Try.results144]; first | done | decide) (by simp only [go_sem, hs, ebl, hlb, elim, hhb, beq_self_eq_true, ea, Ret_eq Try.results144]; first | done | decide) (hpt) ?_
                    rintro _ _ ⟨m, t, rfl, l5, rfl, s5, p5⟩
                    have hR5 := hR2.sw s5
                    have hl5 := hR5.rs.length
                    have q1 := p5.h1
                    have q2 := p5.h2
                    have em1 : (m : Int) - (a1 : Int) = ((m - a1 : Nat) : Int) := by omega
                    have em2 : (b1 : Int) - (m : Int) = ((b1 - m : Nat) : Int) := by omega
                    have em3 : ((b1 - a1 : Nat) : Int).tdiv 8 = ((b1 - a1 : Nat) : Int) / 8 := Int.tdiv_eq_ediv_of_nonneg (by omega)
                    have hA5 := hR5.rh
                    have hAl : Ahd a1 m l5 := by
                      rcases hA5 with z | z
                      · exact .inl z
                      · exact .inr fun k k1 k2 => z k k1 (by omega)
                    have hAr : Ahd (m + 1) b1 l5 := .inr fun k k1 k2 => by
                      rw [show m + 1 - 1 = m by omega]
                      exact p5.h4 k (by omega) k2
                    by_cases hsm : m - a1 < b1 - m
                    · have hrec : SortsL64 _ l5 a1 m lim := ih (m - a1) (by omega) l5 a1 m lim (Nat.le_refl _) q1 (by omega) (by omega) (by omega) hAl
                      unfold SortsL64 at hrec
                      rw [hl5] at hrec
                      repeat' (first | simp only [go_sem, hs, ebl, hlb, elim, hhb, beq_self_eq_true, ea, em1, em2, em3, Ret_eq Try.results144] | simp (disch := omega) only [arith, IntKind.bits, capMax, fill_len, elt_fill] | fail)
                      refine opCallI_lend [0] (by simp only [go_sem, hs, ebl, hlb, elim, hhb, beq_self_eq_true, ea, em1, em2, em3, Ret_eq Try.results144]; first | done | rfl) (by simp only [go_sem, hs, ebl, hlb, elim, hhb, beq_self_eq_true, ea, em1, em2, em3, Ret_eq Try.results144]; first | done | rfl) (by decide) (by simp only [go_sem, hs, ebl, hlb, elim, hhb, beq_self_eq_true, ea, em1, em2, em3, Ret_eq Try.results144]; first | done | decide) (by simp only [go_sem, hs, ebl, hlb, elim, hhb, beq_self_eq_true, ea, em1, em2, em3, Ret_eq Try.results144]; first | done | decide) (hrec) ?_
                      rintro _ _ ⟨rfl, l6, rfl, s6, d6⟩
                      repeat' (first | simp only [go_sem, hs, ebl, hlb, elim, hhb, beq_self_eq_true, ea, em1, em2, em3, Ret_eq Try.results144] | simp (disch := omega) only [arith, IntKind.bits, capMax, fill_len, elt_fill] | fail)
                      refine AgainW.to (m + 1, b1, lim, decide (((b1 - a1 : Nat) : Int) / 8 ≤ ((m - a1 : Nat) : Int)), t, l6) ?_ ?_ ?_
                      · show b1 - (m + 1) < b1 - a1; omega
                      · exact ⟨hR5.left p5 s6 d6, by show lim ≤ 60000; omega⟩
                      · simp only [go_sem, hs, ebl, hlb, elim, hhb, beq_self_eq_true, ea, em1, em2, em3, Ret_eq Try.results144]
                    · have hrec : SortsL64 _ l5 (m + 1) b1 lim := ih (b1 - (m + 1)) (by omega) l5 (m + 1) b1 lim (Nat.le_refl _) (by omega) (by omega) (by omega) (by omega) hAr
                      unfold SortsL64 at hrec
                      rw [hl5] at hrec
                      repeat' (first | simp only [go_sem, hs, ebl, hlb, elim, hhb, beq_self_eq_true, ea, em1, em2, em3, Ret_eq Try.results144] | simp (disch := omega) only [arith, IntKind.bits, capMax, fill_len, elt_fill] | fail)
                      refine opCallI_lend [0] (by simp only [go_sem, hs, ebl, hlb, elim, hhb, beq_self_eq_true, ea, em1, em2, em3, Ret_eq Try.results144]; first | done | rfl) (by simp only [go_sem, hs, ebl, hlb, elim, hhb, beq_self_eq_true, ea, em1, em2, em3, Ret_eq Try.results144]; first | done | rfl) (by decide) (by simp only [go_sem, hs, ebl, hlb, elim, hhb, beq_self_eq_true, ea, em1, em2, em3, Ret_eq Try.results144]; first | done | decide) (by simp only [go_sem, hs, ebl, hlb, elim, hhb, beq_self_eq_true, ea, em1, em2, em3, Ret_eq Try.results144]; first | done | decide) (hrec) ?_
                      rintro _ _ ⟨rfl, l6, rfl, s6, d6⟩
                      repeat' (first | simp only [go_sem, hs, ebl, hlb, elim, hhb, beq_self_eq_true, ea, em1, em2, em3, Ret_eq Try.results144] | fail)
                      refine AgainW.to (a1, m, lim, decide (((b1 - a1 : Nat) : Int) / 8 ≤ ((b1 - m : Nat) : Int)), t, l6) ?_ ?_ ?_
                      · show m - a1 < b1 - a1; omega
                      · exact ⟨hR5.right p5 s6 d6, by show lim ≤ 60000; omega⟩
                      · simp only [go_sem, hs, ebl, hlb, elim, hhb, beq_self_eq_true, ea, em1, em2, em3, Ret_eq Try.results144]
                  · rw [decide_eq_false hlt] at hls
                    repeat' (first | simp only [go_sem, hs, ebl, hlb, elim, hhb, beq_self_eq_true, ea, hL, Ret_eq Try.results144] | simp (disch := omega) only [arith, IntKind.bits, capMax, fill_len, elt_fill] | (refine awpI_draw2 (id := 17) (.one false 0 (.one false 1 (.one false 2 (.one false 3 (.one false 4 (.one false 5 (.one false 6 (.one false 7 (.one false 8 (.one false 9 (.one false 10 (.one false 11 (.only 12 (.one false 13 (.one false 14 .done))))))))))))))) mixed (by decide +kernel) (by decide +kernel) ?_) | (refine opCallI_rd (by simp only [go_sem, hs, ebl, hlb, elim, hhb, beq_self_eq_true, ea, hL, Ret_eq Try.results144]; first | done | rfl) (hls) (by rintro _ rfl; rfl) ?_; rintro _ rfl) | fail)
                    have hpe := partEq64 l1 a1 b1 x hv (by omega) (by omega)
                    rw [hL] at hpe
                    refine opCallI_lend [0] (by simp only [go_sem, hs, ebl, hlb, elim, hhb, beq_self_eq_true, ea, Ret_eq Try.results144]; first | done | rfl) (by simp only [go_sem, hs, ebl, hlb, elim, hhb, beq_self_eq_true, ea, Ret_eq Try.results144]; first | done | rfl) (by decide) (by simp only [go_sem, hs, ebl, hlb, elim, hhb, beq_self_eq_true, ea, Ret_eq Try.results144]; first | done | decide) (by simp only [go_sem, hs, ebl, hlb, elim, hhb, beq_self_eq_true, ea, Ret_eq Try.results144]; first | done | decide) (hpe) ?_
                    rintro _ _ ⟨m, rfl, l5, rfl, s5, p5⟩
                    repeat' (first | simp only [go_sem, hs, ebl, hlb, elim, hhb, beq_self_eq_true, ea, Ret_eq Try.results144] | fail)
                    refine AgainW.to (m, b1, lim, true, false, l5) ?_ ?_ ?_
                    · show b1 - m < b1 - a1; have := p5.h1; have := p5.h2; omega
                    · exact ⟨(hR2.sw s5).eqPart p5 (s5.all (P := fun z => _ ≤ z) (hR2.ahead ha hv (by omega))), by show lim ≤ 60000; omega⟩
                    · simp only [go_sem, hs, ebl, hlb, elim, hhb, beq_self_eq_true, ea, Ret_eq Try.results144]
                · repeat' (first | simp only [go_sem, hs, ebl, hlb, elim, hhb, beq_self_eq_true, Ret_eq Try.results144] | simp (disch := omega) only [arith, IntKind.bits, capMax, fill_len, elt_fill] | (refine awpI_draw2 (id := 17) (.one false 0 (.one false 1 (.one false 2 (.one false 3 (.one false 4 (.one false 5 (.one false 6 (.one false 7 (.one false 8 (.one false 9 (.one false 10 (.one false 11 (.only 12 (.one false 13 (.one false 14 .done))))))))))))))) mixed (by decide +kernel) (by decide +kernel) ?_) | fail)
                  have hpt := part64 l1 a1 b1 x hv (by omega) (by omega)
                  rw [hL] at hpt
                  refine opCallI_lend [0] (by simp only [go_sem, hs, ebl, hlb, elim, hhb, beq_self_eq_true, Ret_eq Try.results144]; first | done | rfl) (by simp only [go_sem, hs, ebl, hlb, elim, hhb, beq_self_eq_true, Ret_eq Try.results144]; first | done | rfl) (by decide) (by simp only [go_sem, hs, ebl, hlb, elim, hhb, beq_self_eq_true, Ret_eq Try.results144]; first | done | decide) (by simp only [go_sem, hs, ebl, hlb, elim, hhb, beq_self_eq_true, Ret_eq Try.results144]; first | done | decide) (hpt) ?_
                  rintro _ _ ⟨m, t, rfl, l5, rfl, s5, p5⟩
                  have hR5 := hR2.sw s5
                  have hl5 := hR5.rs.length
                  have q1 := p5.h1
                  have q2 := p5.h2
                  have em1 : (m : Int) - (a1 : Int) = ((m - a1 : Nat) : Int) := by omega
                  have em2 : (b1 : Int) - (m : Int) = ((b1 - m : Nat) : Int) := by omega
                  have em3 : ((b1 - a1 : Nat) : Int).tdiv 8 = ((b1 - a1 : Nat) : Int) / 8 := Int.tdiv_eq_ediv_of_nonneg (by omega)
                  have hA5 := hR5.rh
                  have hAl : Ahd a1 m l5 := by
                    rcases hA5 with z | z
                    · exact .inl z
                    · exact .inr fun k k1 k2 => z k k1 (by omega)
                  have hAr : Ahd (m + 1) b1 l5 := .inr fun k k1 k2 => by
                    rw [show m + 1 - 1 = m by omega]
                    exact p5.h4 k (by omega) k2
                  by_cases hsm : m - a1 < b1 - m
                  · have hrec : SortsL64 _ l5 a1 m lim := ih (m - a1) (by omega) l5 a1 m lim (Nat.le_refl _) q1 (by omega) (by omega) (by omega) hAl
                    unfold SortsL64 at hrec
                    rw [hl5] at hrec
                    repeat' (first | simp only [go_sem, hs, ebl, hlb, elim, hhb, beq_self_eq_true, em1, em2, em3, Ret_eq Try.results144] | simp (disch := omega) only [arith, IntKind.bits, capMax, fill_len, elt_fill] | fail)
                    refine opCallI_lend [0] (by simp only [go_sem, hs, ebl, hlb, elim, hhb, beq_self_eq_true, em1, em2, em3, Ret_eq Try.results144]; first | done | rfl) (by simp only [go_sem, hs, ebl, hlb, elim, hhb, beq_self_eq_true, em1, em2, em3, Ret_eq Try.results144]; first | done | rfl) (by decide) (by simp only [go_sem, hs, ebl, hlb, elim, hhb, beq_self_eq_true, em1, em2, em3, Ret_eq Try.results144]; first | done | decide) (by simp only [go_sem, hs, ebl, hlb, elim, hhb, beq_self_eq_true, em1, em2, em3, Ret_eq Try.results144]; first | done | decide) (hrec) ?_
                    rintro _ _ ⟨rfl, l6, rfl, s6, d6⟩
                    repeat' (first | simp only [go_sem, hs, ebl, hlb, elim, hhb, beq_self_eq_true, em1, em2, em3, Ret_eq Try.results144] | simp (disch := omega) only [arith, IntKind.bits, capMax, fill_len, elt_fill] | fail)
                    refine AgainW.to (m + 1, b1, lim, decide (((b1 - a1 : Nat) : Int) / 8 ≤ ((m - a1 : Nat) : Int)), t, l6) ?_ ?_ ?_
                    · show b1 - (m + 1) < b1 - a1; omega
                    · exact ⟨hR5.left p5 s6 d6, by show lim ≤ 60000; omega⟩
                    · simp only [go_sem, hs, ebl, hlb, elim, hhb, beq_self_eq_true, em1, em2, em3, Ret_eq Try.results144]
                  · have hrec : SortsL64 _ l5 (m + 1) b1 lim := ih (b1 - (m + 1)) (by omega) l5 (m + 1) b1 lim (Nat.le_refl _) (by omega) (by omega) (by omega) (by omega) hAr
                    unfold SortsL64 at hrec
                    rw [hl5] at hrec
                    repeat' (first | simp only [go_sem, hs, ebl, hlb, elim, hhb, beq_self_eq_true, em1, em2, em3, Ret_eq Try.results144] | simp (disch := omega) only [arith, IntKind.bits, capMax, fill_len, elt_fill] | fail)
                    refine opCallI_lend [0] (by simp only [go_sem, hs, ebl, hlb, elim, hhb, beq_self_eq_true, em1, em2, em3, Ret_eq Try.results144]; first | done | rfl) (by simp only [go_sem, hs, ebl, hlb, elim, hhb, beq_self_eq_true, em1, em2, em3, Ret_eq Try.results144]; first | done | rfl) (by decide) (by simp only [go_sem, hs, ebl, hlb, elim, hhb, beq_self_eq_true, em1, em2, em3, Ret_eq Try.results144]; first | done | decide) (by simp only [go_sem, hs, ebl, hlb, elim, hhb, beq_self_eq_true, em1, em2, em3, Ret_eq Try.results144]; first | done | decide) (hrec) ?_
                    rintro _ _ ⟨rfl, l6, rfl, s6, d6⟩
                    repeat' (first | simp only [go_sem, hs, ebl, hlb, elim, hhb, beq_self_eq_true, em1, em2, em3, Ret_eq Try.results144] | fail)
                    refine AgainW.to (a1, m, lim, decide (((b1 - a1 : Nat) : Int) / 8 ≤ ((b1 - m : Nat) : Int)), t, l6) ?_ ?_ ?_
                    · show m - a1 < b1 - a1; omega
                    · exact ⟨hR5.right p5 s6 d6, by show lim ≤ 60000; omega⟩
                    · simp only [go_sem, hs, ebl, hlb, elim, hhb, beq_self_eq_true, em1, em2, em3, Ret_eq Try.results144]
            · have h1b : (h == 1) = false := beq_eq_false_iff_ne.2 h1
              cases wp with
              | true =>
                have hL : l1.length = l.length := hR2.rs.length
                by_cases ha : 0 < a1
                · have ea : (a1 : Int) - 1 = ((a1 - 1 : Nat) : Int) := by omega
                  have hls := lessS64_fun (l1.getD (a1 - 1) 0) (l1.getD x 0)
                  by_cases hlt : l1.getD (a1 - 1) 0 < l1.getD x 0
                  · rw [decide_eq_true hlt] at hls
                    repeat' (first | simp only [go_sem, hs, ebl, hlb, elim, hhb, h1b, ea, hL, Ret_eq Try.results144] | simp (disch := omega) only [arith, IntKind.bits, capMax, fill_len, elt_fill] | (refine awpI_draw2 (id := 17) (.one false 0 (.one false 1 (.one false 2 (.one false 3 (.one false 4 (.one false 5 (.one false 6 (.one false 7 (.one false 8 (.one false 9 (.one false 10 (.one false 11 (.only 12 (.one false 13 (.one false 14 .done))))))))))))))) mixed (by decide +kernel) (by decide +kernel) ?_) | (refine opCallI_rd (by simp only [go_sem, hs, ebl, hlb, elim, hhb, h1b, ea, hL, Ret_eq Try.results144]; first | done | rfl) (hls) (by rintro _ rfl; rfl) ?_; rintro _ rfl) | fail)
                    have hpt := part64 l1 a1 b1 x hv (by omega) (by omega)
                    rw [hL] at hpt
                    refine opCallI_lend [0] (by simp only [go_sem, hs, ebl, hlb, elim, hhb, h1b, ea, Ret_eq Try.results144]; first | done | rfl) (by simp only [go_sem, hs, ebl, hlb, elim, hhb, h1b, ea, Ret_eq Try.results144]; first | done | rfl) (by decide) (by simp only [go_sem, hs, ebl, hlb, elim, hhb, h1b, ea, Ret_eq Try.results144]; first | done | decide) (by simp only [go_sem, hs, ebl, hlb, elim, hhb, h1b, ea, Ret_eq Try.results144]; first | done | decide) (hpt) ?_
                    rintro _ _ ⟨m, t, rfl, l5, rfl, s5, p5⟩
                    have hR5 := hR2.sw s5
                    have hl5 := hR5.rs.length
                    have q1 := p5.h1
                    have q2 := p5.h2
                    have em1 : (m : Int) - (a1 : Int) = ((m - a1 : Nat) : Int) := by omega
                    have em2 : (b1 : Int) - (m : Int) = ((b1 - m : Nat) : Int) := by omega
                    have em3 : ((b1 - a1 : Nat) : Int).tdiv 8 = ((b1 - a1 : Nat) : Int) / 8 := Int.tdiv_eq_ediv_of_nonneg (by omega)
                    have hA5 := hR5.rh
                    have hAl : Ahd a1 m l5 := by
                      rcases hA5 with z | z
                      · exact .inl z
                      · exact .inr fun k k1 k2 => z k k1 (by omega)
                    have hAr : Ahd (m + 1) b1 l5 := .inr fun k k1 k2 => by
                      rw [show m + 1 - 1 = m by omega]
                      exact p5.h4 k (by omega) k2
                    by_cases hsm : m - a1 < b1 - m
                    · have hrec : SortsL64 _ l5 a1 m lim := ih (m - a1) (by omega) l5 a1 m lim (Nat.le_refl _) q1 (by omega) (by omega) (by omega) hAl
                      unfold SortsL64 at hrec
                      rw [hl5] at hrec
                      repeat' (first | simp only [go_sem, hs, ebl, hlb, elim, hhb, h1b, ea, em1, em2, em3, Ret_eq Try.results144] | simp (disch := omega) only [arith, IntKind.bits, capMax, fill_len, elt_fill] | fail)
                      refine opCallI_lend [0] (by simp only [go_sem, hs, ebl, hlb, elim, hhb, h1b, ea, em1, em2, em3, Ret_eq Try.results144]; first | done | rfl) (by simp only [go_sem, hs, ebl, hlb, elim, hhb, h1b, ea, em1, em2, em3, Ret_eq Try.results144]; first | done | rfl) (by decide) (by simp only [go_sem, hs, ebl, hlb, elim, hhb, h1b, ea, em1, em2, em3, Ret_eq Try.results144]; first | done | decide) (by simp only [go_sem, hs, ebl, hlb, elim, hhb, h1b, ea, em1, em2, em3, Ret_eq Try.results144]; first | done | decide) (hrec) ?_
                      rintro _ _ ⟨rfl, l6, rfl, s6, d6⟩
                      repeat' (first | simp only [go_sem, hs, ebl, hlb, elim, hhb, h1b, ea, em1, em2, em3, Ret_eq Try.results144] | simp (disch := omega) only [arith, IntKind.bits, capMax, fill_len, elt_fill] | fail)
                      refine AgainW.to (m + 1, b1, lim, decide (((b1 - a1 : Nat) : Int) / 8 ≤ ((m - a1 : Nat) : Int)), t, l6) ?_ ?_ ?_
                      · show b1 - (m + 1) < b1 - a1; omega
                      · exact ⟨hR5.left p5 s6 d6, by show lim ≤ 60000; omega⟩
                      · simp only [go_sem, hs, ebl, hlb, elim, hhb, h1b, ea, em1, em2, em3, Ret_eq Try.results144]
                    · have hrec : SortsL64 _ l5 (m + 1) b1 lim := ih (b1 - (m + 1)) (by omega) l5 (m + 1) b1 lim (Nat.le_refl _) (by omega) (by omega) (by omega) (by omega) hAr
                      unfold SortsL64 at hrec
                      rw [hl5] at hrec
                      repeat' (first | simp only [go_sem, hs, ebl, hlb, elim, hhb, h1b, ea, em1, em2, em3, Ret_eq Try.results144] | simp (disch := omega) only [arith, IntKind.bits, capMax, fill_len, elt_fill] | fail)
                      refine opCallI_lend [0] (by simp only [go_sem, hs, ebl, hlb, elim, hhb, h1b, ea, em1, em2, em3, Ret_eq Try.results144]; first | done | rfl) (by simp only [go_sem, hs, ebl, hlb, elim, hhb, h1b, ea, em1, em2, em3, Ret_eq Try.results144]; first | done | rfl) (by decide) (by simp only [go_sem, hs, ebl, hlb, elim, hhb, h1b, ea, em1, em2, em3, Ret_eq Try.results144]; first | done | decide) (by simp only [go_sem, hs, ebl, hlb, elim, hhb, h1b, ea, em1, em2, em3, Ret_eq Try.results144]; first | done | decide) (hrec) ?_
                      rintro _ _ ⟨rfl, l6, rfl, s6, d6⟩
                      repeat' (first | simp only [go_sem, hs, ebl, hlb, elim, hhb, h1b, ea, em1, em2, em3, Ret_eq Try.results144] | fail)
                      refine AgainW.to (a1, m, lim, decide (((b1 - a1 : Nat) : Int) / 8 ≤ ((b1 - m : Nat) : Int)), t, l6) ?_ ?_ ?_
                      · show m - a1 < b1 - a1; omega
                      · exact ⟨hR5.right p5 s6 d6, by show lim ≤ 60000; omega⟩
                      · simp only [go_sem, hs, ebl, hlb, elim, hhb, h1b, ea, em1, em2, em3, Ret_eq Try.results144]
                  · rw [decide_eq_false hlt] at hls
                    repeat' (first | simp only [go_sem, hs, ebl, hlb, elim, hhb, h1b, ea, hL, Ret_eq Try.results144] | simp (disch := omega) only [arith, IntKind.bits, capMax, fill_len, elt_fill] | (refine awpI_draw2 (id := 17) (.one false 0 (.one false 1 (.one false 2 (.one false 3 (.one false 4 (.one false 5 (.one false 6 (.one false 7 (.one false 8 (.one false 9 (.one false 10 (.one false 11 (.only 12 (.one false 13 (.one false 14 .done))))))))))))))) mixed (by decide +kernel) (by decide +kernel) ?_) | (refine opCallI_rd (by simp only [go_sem, hs, ebl, hlb, elim, hhb, h1b, ea, hL, Ret_eq Try.results144]; first | done | rfl) (hls) (by rintro _ rfl; rfl) ?_; rintro _ rfl) | fail)
                    have hpe := partEq64 l1 a1 b1 x hv (by omega) (by omega)
                    rw [hL] at hpe
                    refine opCallI_lend [0] (by simp only [go_sem, hs, ebl, hlb, elim, hhb, h1b, ea, Ret_eq Try.results144]; first | done | rfl) (by simp only [go_sem, hs, ebl, hlb, elim, hhb, h1b, ea, Ret_eq Try.results144]; first | done | rfl) (by decide) (by simp only [go_sem, hs, ebl, hlb, elim, hhb, h1b, ea, Ret_eq Try.results144]; first | done | decide) (by simp only [go_sem, hs, ebl, hlb, elim, hhb, h1b, ea, Ret_eq Try.results144]; first | done | decide) (hpe) ?_
                    rintro _ _ ⟨m, rfl, l5, rfl, s5, p5⟩
                    repeat' (first | simp only [go_sem, hs, ebl, hlb, elim, hhb, h1b, ea, Ret_eq Try.results144] | fail)
                    refine AgainW.to (m, b1, lim, true, true, l5) ?_ ?_ ?_
                    · show b1 - m < b1 - a1; have := p5.h1; have := p5.h2; omega
                    · exact ⟨(hR2.sw s5).eqPart p5 (s5.all (P := fun z => _ ≤ z) (hR2.ahead ha hv (by omega))), by show lim ≤ 60000; omega⟩
                    · simp only [go_sem, hs, ebl, hlb, elim, hhb, h1b, ea, Ret_eq Try.results144]
                · repeat' (first | simp only [go_sem, hs, ebl, hlb, elim, hhb, h1b, Ret_eq Try.results144] | simp (disch := omega) only [arith, IntKind.bits, capMax, fill_len, elt_fill] | (refine awpI_draw2 (id := 17) (.one false 0 (.one false 1 (.one false 2 (.one false 3 (.one false 4 (.one false 5 (.one false 6 (.one false 7 (.one false 8 (.one false 9 (.one false 10 (.one false 11 (.only 12 (.one false 13 (.one false 14 .done))))))))))))))) mixed (by decide +kernel) (by decide +kernel) ?_) | fail)
                  have hpt := part64 l1 a1 b1 x hv (by omega) (by omega)
                  rw [hL] at hpt
                  refine opCallI_lend [0] (by simp only [go_sem, hs, ebl, hlb, elim, hhb, h1b, Ret_eq Try.results144]; first | done | rfl) (by simp only [go_sem, hs, ebl, hlb, elim, hhb, h1b, Ret_eq Try.results144]; first | done | rfl) (by decide) (by simp only [go_sem, hs, ebl, hlb, elim, hhb, h1b, Ret_eq Try.results144]; first | done | decide) (by simp only [go_sem, hs, ebl, hlb, elim, hhb, h1b, Ret_eq Try.results144]; first | done | decide) (hpt) ?_
                  rintro _ _ ⟨m, t, rfl, l5, rfl, s5, p5⟩
                  have hR5 := hR2.sw s5
                  have hl5 := hR5.rs.length
                  have q1 := p5.h1
                  have q2 := p5.h2
                  have em1 : (m : Int) - (a1 : Int) = ((m - a1 : Nat) : Int) := by omega
                  have em2 : (b1 : Int) - (m : Int) = ((b1 - m : Nat) : Int) := by omega
                  have em3 : ((b1 - a1 : Nat) : Int).tdiv 8 = ((b1 - a1 : Nat) : Int) / 8 := Int.tdiv_eq_ediv_of_nonneg (by omega)
                  have hA5 := hR5.rh
                  have hAl : Ahd a1 m l5 := by
                    rcases hA5 with z | z
                    · exact .inl z
                    · exact .inr fun k k1 k2 => z k k1 (by omega)
                  have hAr : Ahd (m + 1) b1 l5 := .inr fun k k1 k2 => by
                    rw [show m + 1 - 1 = m by omega]
                    exact p5.h4 k (by omega) k2
                  by_cases hsm : m - a1 < b1 - m
                  · have hrec : SortsL64 _ l5 a1 m lim := ih (m - a1) (by omega) l5 a1 m lim (Nat.le_refl _) q1 (by omega) (by omega) (by omega) hAl
                    unfold SortsL64 at hrec
                    rw [hl5] at hrec
                    repeat' (first | simp only [go_sem, hs, ebl, hlb, elim, hhb, h1b, em1, em2, em3, Ret_eq Try.results144] | simp (disch := omega) only [arith, IntKind.bits, capMax, fill_len, elt_fill] | fail)
                    refine opCallI_lend [0] (by simp only [go_sem, hs, ebl, hlb, elim, hhb, h1b, em1, em2, em3, Ret_eq Try.results144]; first | done | rfl) (by simp only [go_sem, hs, ebl, hlb, elim, hhb, h1b, em1, em2, em3, Ret_eq Try.results144]; first | done | rfl) (by decide) (by simp only [go_sem, hs, ebl, hlb, elim, hhb, h1b, em1, em2, em3, Ret_eq Try.results144]; first | done | decide) (by simp only [go_sem, hs, ebl, hlb, elim, hhb, h1b, em1, em2, em3, Ret_eq Try.results144]; first | done | decide) (hrec) ?_
                    rintro _ _ ⟨rfl, l6, rfl, s6, d6⟩
                    repeat' (first | simp only [go_sem, hs, ebl, hlb, elim, hhb, h1b, em1, em2, em3, Ret_eq Try.results144] | simp (disch := omega) only [arith, IntKind.bits, capMax, fill_len, elt_fill] | fail)
                    refine AgainW.to (m + 1, b1, lim, decide (((b1 - a1 : Nat) : Int) / 8 ≤ ((m - a1 : Nat) : Int)), t, l6) ?_ ?_ ?_
                    · show b1 - (m + 1) < b1 - a1; omega
                    · exact ⟨hR5.left p5 s6 d6, by show lim ≤ 60000; omega⟩
                    · simp only [go_sem, hs, ebl, hlb, elim, hhb, h1b, em1, em2, em3, Ret_eq Try.results144]
                  · have hrec : SortsL64 _ l5 (m + 1) b1 lim := ih (b1 - (m + 1)) (by omega) l5 (m + 1) b1 lim (Nat.le_refl _) (by omega) (by omega) (by omega) (by omega) hAr
                    unfold SortsL64 at hrec
                    rw [hl5] at hrec
                    repeat' (first | simp only [go_sem, hs, ebl, hlb, elim, hhb, h1b, em1, em2, em3, Ret_eq Try.results144] | simp (disch := omega) only [arith, IntKind.bits, capMax, fill_len, elt_fill] | fail)
                    refine opCallI_lend [0] (by simp only [go_sem, hs, ebl, hlb, elim, hhb, h1b, em1, em2, em3, Ret_eq Try.results144]; first | done | rfl) (by simp only [go_sem, hs, ebl, hlb, elim, hhb, h1b, em1, em2, em3, Ret_eq Try.results144]; first | done | rfl) (by decide) (by simp only [go_sem, hs, ebl, hlb, elim, hhb, h1b, em1, em2, em3, Ret_eq Try.results144]; first | done | decide) (by simp only [go_sem, hs, ebl, hlb, elim, hhb, h1b, em1, em2, em3, Ret_eq Try.results144]; first | done | decide) (hrec) ?_
                    rintro _ _ ⟨rfl, l6, rfl, s6, d6⟩
                    repeat' (first | simp only [go_sem, hs, ebl, hlb, elim, hhb, h1b, em1, em2, em3, Ret_eq Try.results144] | fail)
                    refine AgainW.to (a1, m, lim, decide (((b1 - a1 : Nat) : Int) / 8 ≤ ((b1 - m : Nat) : Int)), t, l6) ?_ ?_ ?_
                    · show m - a1 < b1 - a1; omega
                    · exact ⟨hR5.right p5 s6 d6, by show lim ≤ 60000; omega⟩
                    · simp only [go_sem, hs, ebl, hlb, elim, hhb, h1b, em1, em2, em3, Ret_eq Try.results144]
              | false =>
                have hL : l1.length = l.length := hR2.rs.length
                by_cases ha : 0 < a1
                · have ea : (a1 : Int) - 1 = ((a1 - 1 : Nat) : Int) := by omega
                  have hls := lessS64_fun (l1.getD (a1 - 1) 0) (l1.getD x 0)
                  by_cases hlt : l1.getD (a1 - 1) 0 < l1.getD x 0
                  · rw [decide_eq_true hlt] at hls
                    repeat' (first | simp only [go_sem, hs, ebl, hlb, elim, hhb, h1b, ea, hL, Ret_eq Try.results144] | simp (disch := omega) only [arith, IntKind.bits, capMax, fill_len, elt_fill] | (refine awpI_draw2 (id := 17) (.one false 0 (.one false 1 (.one false 2 (.one false 3 (.one false 4 (.one false 5 (.one false 6 (.one false 7 (.one false 8 (.one false 9 (.one false 10 (.one false 11 (.only 12 (.one false 13 (.one false 14 .done))))))))))))))) mixed (by decide +kernel) (by decide +kernel) ?_) | (refine opCallI_rd (by simp only [go_sem, hs, ebl, hlb, elim, hhb, h1b, ea, hL, Ret_eq Try.results144]; first | done | rfl) (hls) (by rintro _ rfl; rfl) ?_; rintro _ rfl) | fail)
                    have hpt := part64 l1 a1 b1 x hv (by omega) (by omega)
                    rw [hL] at hpt
                    refine opCallI_lend [0] (by simp only [go_sem, hs, ebl, hlb, elim, hhb, h1b, ea, Ret_eq Try.results144]; first | done | rfl) (by simp only [go_sem, hs, ebl, hlb, elim, hhb, h1b, ea, Ret_eq Try.results144]; first | done | rfl) (by decide) (by simp only [go_sem, hs, ebl, hlb, elim, hhb, h1b, ea, Ret_eq Try.results144]; first | done | decide) (by simp only [go_sem, hs, ebl, hlb, elim, hhb, h1b, ea, Ret_eq Try.results144]; first | done | decide) (hpt) ?_
                    rintro _ _ ⟨m, t, rfl, l5, rfl, s5, p5⟩
                    have hR5 := hR2.sw s5
                    have hl5 := hR5.rs.length
                    have q1 := p5.h1
                    have q2 := p5.h2
                    have em1 : (m : Int) - (a1 : Int) = ((m - a1 : Nat) : Int) := by omega
                    have em2 : (b1 : Int) - (m : Int) = ((b1 - m : Nat) : Int) := by omega
                    have em3 : ((b1 - a1 : Nat) : Int).tdiv 8 = ((b1 - a1 : Nat) : Int) / 8 := Int.tdiv_eq_ediv_of_nonneg (by omega)
                    have hA5 := hR5.rh
                    have hAl : Ahd a1 m l5 := by
                      rcases hA5 with z | z
                      · exact .inl z
                      · exact .inr fun k k1 k2 => z k k1 (by omega)
                    have hAr : Ahd (m + 1) b1 l5 := .inr fun k k1 k2 => by
                      rw [show m + 1 - 1 = m by omega]
                      exact p5.h4 k (by omega) k2
                    by_cases hsm : m - a1 < b1 - m
                    · have hrec : SortsL64 _ l5 a1 m lim := ih (m - a1) (by omega) l5 a1 m lim (Nat.le_refl _) q1 (by omega) (by omega) (by omega) hAl
                      unfold SortsL64 at hrec
                      rw [hl5] at hrec
                      repeat' (first | simp only [go_sem, hs, ebl, hlb, elim, hhb, h1b, ea, em1, em2, em3, Ret_eq Try.results144] | simp (disch := omega) only [arith, IntKind.bits, capMax, fill_len, elt_fill] | fail)
                      refine opCallI_lend [0] (by simp only [go_sem, hs, ebl, hlb, elim, hhb, h1b, ea, em1, em2, em3, Ret_eq Try.results144]; first | done | rfl) (by simp only [go_sem, hs, ebl, hlb, elim, hhb, h1b, ea, em1, em2, em3, Ret_eq Try.results144]; first | done | rfl) (by decide) (by simp only [go_sem, hs, ebl, hlb, elim, hhb, h1b, ea, em1, em2, em3, Ret_eq Try.results144]; first | done | decide) (by simp only [go_sem, hs, ebl, hlb, elim, hhb, h1b, ea, em1, em2, em3, Ret_eq Try.results144]; first | done | decide) (hrec) ?_
                      rintro _ _ ⟨rfl, l6, rfl, s6, d6⟩
                      repeat' (first | simp only [go_sem, hs, ebl, hlb, elim, hhb, h1b, ea, em1, em2, em3, Ret_eq Try.results144] | simp (disch := omega) only [arith, IntKind.bits, capMax, fill_len, elt_fill] | fail)
                      refine AgainW.to (m + 1, b1, lim, decide (((b1 - a1 : Nat) : Int) / 8 ≤ ((m - a1 : Nat) : Int)), t, l6) ?_ ?_ ?_
                      · show b1 - (m + 1) < b1 - a1; omega
                      · exact ⟨hR5.left p5 s6 d6, by show lim ≤ 60000; omega⟩
                      · simp only [go_sem, hs, ebl, hlb, elim, hhb, h1b, ea, em1, em2, em3, Ret_eq Try.results144]
                    · have hrec : SortsL64 _ l5 (m + 1) b1 lim := ih (b1 - (m + 1)) (by omega) l5 (m + 1) b1 lim (Nat.le_refl _) (by omega) (by omega) (by omega) (by omega) hAr
                      unfold SortsL64 at hrec
                      rw [hl5] at hrec
                      repeat' (first | simp only [go_sem, hs, ebl, hlb, elim, hhb, h1b, ea, em1, em2, em3, Ret_eq Try.results144] | simp (disch := omega) only [arith, IntKind.bits, capMax, fill_len, elt_fill] | fail)
                      refine opCallI_lend [0] (by simp only [go_sem, hs, ebl, hlb, elim, hhb, h1b, ea, em1, em2, em3, Ret_eq Try.results144]; first | done | rfl) (by simp only [go_sem, hs, ebl, hlb, elim, hhb, h1b, ea, em1, em2, em3, Ret_eq Try.results144]; first | done | rfl) (by decide) (by simp only [go_sem, hs, ebl, hlb, elim, hhb, h1b, ea, em1, em2, em3, Ret_eq Try.results144]; first | done | decide) (by simp only [go_sem, hs, ebl, hlb, elim, hhb, h1b, ea, em1, em2, em3, Ret_eq Try.results144]; first | done | decide) (hrec) ?_
                      rintro _ _ ⟨rfl, l6, rfl, s6, d6⟩
                      repeat' (first | simp only [go_sem, hs, ebl, hlb, elim, hhb, h1b, ea, em1, em2, em3, Ret_eq Try.results144] | fail)
                      refine AgainW.to (a1, m, lim, decide (((b1 - a1 : Nat) : Int) / 8 ≤ ((b1 - m : Nat) : Int)), t, l6) ?_ ?_ ?_
                      · show m - a1 < b1 - a1; omega
                      · exact ⟨hR5.right p5 s6 d6, by show lim ≤ 60000; omega⟩
                      · simp only [go_sem, hs, ebl, hlb, elim, hhb, h1b, ea, em1, em2, em3, Ret_eq Try.results144]
                  · rw [decide_eq_false hlt] at hls
                    repeat' (first | simp only [go_sem, hs, ebl, hlb, elim, hhb, h1b, ea, hL, Ret_eq Try.results144] | simp (disch := omega) only [arith, IntKind.bits, capMax, fill_len, elt_fill] | (refine awpI_draw2 (id := 17) (.one false 0 (.one false 1 (.one false 2 (.one false 3 (.one false 4 (.one false 5 (.one false 6 (.one false 7 (.one false 8 (.one false 9 (.one false 10 (.one false 11 (.only 12 (.one false 13 (.one false 14 .done))))))))))))))) mixed (by decide +kernel) (by decide +kernel) ?_) | (refine opCallI_rd (by simp only [go_sem, hs, ebl, hlb, elim, hhb, h1b, ea, hL, Ret_eq Try.results144]; first | done | rfl) (hls) (by rintro _ rfl; rfl) ?_; rintro _ rfl) | fail)
                    have hpe := partEq64 l1 a1 b1 x hv (by omega) (by omega)
                    rw [hL] at hpe
                    refine opCallI_lend [0] (by simp only [go_sem, hs, ebl, hlb, elim, hhb, h1b, ea, Ret_eq Try.results144]; first | done | rfl) (by simp only [go_sem, hs, ebl, hlb, elim, hhb, h1b, ea, Ret_eq Try.results144]; first | done | rfl) (by decide) (by simp only [go_sem, hs, ebl, hlb, elim, hhb, h1b, ea, Ret_eq Try.results144]; first | done | decide) (by simp only [go_sem, hs, ebl, hlb, elim, hhb, h1b, ea, Ret_eq Try.results144]; first | done | decide) (hpe) ?_
                    rintro _ _ ⟨m, rfl, l5, rfl, s5, p5⟩
                    repeat' (first | simp only [go_sem, hs, ebl, hlb, elim, hhb, h1b, ea, Ret_eq Try.results144] | fail)
                    refine AgainW.to (m, b1, lim, true, false, l5) ?_ ?_ ?_
                    · show b1 - m < b1 - a1; have := p5.h1; have := p5.h2; omega
                    · exact ⟨(hR2.sw s5).eqPart p5 (s5.all (P := fun z => _ ≤ z) (hR2.ahead ha hv (by omega))), by show lim ≤ 60000; omega⟩
                    · simp only [go_sem, hs, ebl, hlb, elim, hhb, h1b, ea, Ret_eq Try.results144]
                · repeat' (first | simp only [go_sem, hs, ebl, hlb, elim, hhb, h1b, Ret_eq Try.results144] | simp (disch := omega) only [arith, IntKind.bits, capMax, fill_len, elt_fill] | (refine awpI_draw2 (id := 17) (.one false 0 (.one false 1 (.one false 2 (.one false 3 (.one false 4 (.one false 5 (.one false 6 (.one false 7 (.one false 8 (.one false 9 (.one false 10 (.one false 11 (.only 12 (.one false 13 (.one false 14 .done))))))))))))))) mixed (by decide +kernel) (by decide +kernel) ?_) | fail)
                  have hpt := part64 l1 a1 b1 x hv (by omega) (by omega)
                  rw [hL] at hpt
                  refine opCallI_lend [0] (by simp only [go_sem, hs, ebl, hlb, elim, hhb, h1b, Ret_eq Try.results144]; first | done | rfl) (by simp only [go_sem, hs, ebl, hlb, elim, hhb, h1b, Ret_eq Try.results144]; first | done | rfl) (by decide) (by simp only [go_sem, hs, ebl, hlb, elim, hhb, h1b, Ret_eq Try.results144]; first | done | decide) (by simp only [go_sem, hs, ebl, hlb, elim, hhb, h1b, Ret_eq Try.results144]; first | done | decide) (hpt) ?_
                  rintro _ _ ⟨m, t, rfl, l5, rfl, s5, p5⟩
                  have hR5 := hR2.sw s5
                  have hl5 := hR5.rs.length
                  have q1 := p5.h1
                  have q2 := p5.h2
                  have em1 : (m : Int) - (a1 : Int) = ((m - a1 : Nat) : Int) := by omega
                  have em2 : (b1 : Int) - (m : Int) = ((b1 - m : Nat) : Int) := by omega
                  have em3 : ((b1 - a1 : Nat) : Int).tdiv 8 = ((b1 - a1 : Nat) : Int) / 8 := Int.tdiv_eq_ediv_of_nonneg (by omega)
                  have hA5 := hR5.rh
                  have hAl : Ahd a1 m l5 := by
                    rcases hA5 with z | z
                    · exact .inl z
                    · exact .inr fun k k1 k2 => z k k1 (by omega)
                  have hAr : Ahd (m + 1) b1 l5 := .inr fun k k1 k2 => by
                    rw [show m + 1 - 1 = m by omega]
                    exact p5.h4 k (by omega) k2
                  by_cases hsm : m - a1 < b1 - m
                  · have hrec : SortsL64 _ l5 a1 m lim := ih (m - a1) (by omega) l5 a1 m lim (Nat.le_refl _) q1 (by omega) (by omega) (by omega) hAl
                    unfold SortsL64 at hrec
                    rw [hl5] at hrec
                    repeat' (first | simp only [go_sem, hs, ebl, hlb, elim, hhb, h1b, em1, em2, em3, Ret_eq Try.results144] | simp (disch := omega) only [arith, IntKind.bits, capMax, fill_len, elt_fill] | fail)
                    refine opCallI_lend [0] (by simp only [go_sem, hs, ebl, hlb, elim, hhb, h1b, em1, em2, em3, Ret_eq Try.results144]; first | done | rfl) (by simp only [go_sem, hs, ebl, hlb, elim, hhb, h1b, em1, em2, em3, Ret_eq Try.results144]; first | done | rfl) (by decide) (by simp only [go_sem, hs, ebl, hlb, elim, hhb, h1b, em1, em2, em3, Ret_eq Try.results144]; first | done | decide) (by simp only [go_sem, hs, ebl, hlb, elim, hhb, h1b, em1, em2, em3, Ret_eq Try.results144]; first | done | decide) (hrec) ?_
                    rintro _ _ ⟨rfl, l6, rfl, s6, d6⟩
                    repeat' (first | simp only [go_sem, hs, ebl, hlb, elim, hhb, h1b, em1, em2, em3, Ret_eq Try.results144] | simp (disch := omega) only [arith, IntKind.bits, capMax, fill_len, elt_fill] | fail)
                    refine AgainW.to (m + 1, b1, lim, decide (((b1 - a1 : Nat) : Int) / 8 ≤ ((m - a1 : Nat) : Int)), t, l6) ?_ ?_ ?_
                    · show b1 - (m + 1) < b1 - a1; omega
                    · exact ⟨hR5.left p5 s6 d6, by show lim ≤ 60000; omega⟩
                    · simp only [go_sem, hs, ebl, hlb, elim, hhb, h1b, em1, em2, em3, Ret_eq Try.results144]
                  · have hrec : SortsL64 _ l5 (m + 1) b1 lim := ih (b1 - (m + 1)) (by omega) l5 (m + 1) b1 lim (Nat.le_refl _) (by omega) (by omega) (by omega) (by omega) hAr
                    unfold SortsL64 at hrec
                    rw [hl5] at hrec
                    repeat' (first | simp only [go_sem, hs, ebl, hlb, elim, hhb, h1b, em1, em2, em3, Ret_eq Try.results144] | simp (disch := omega) only [arith, IntKind.bits, capMax, fill_len, elt_fill] | fail)
                    refine opCallI_lend [0] (by simp only [go_sem, hs, ebl, hlb, elim, hhb, h1b, em1, em2, em3, Ret_eq Try.results144]; first | done | rfl) (by simp only [go_sem, hs, ebl, hlb, elim, hhb, h1b, em1, em2, em3, Ret_eq Try.results144]; first | done | rfl) (by decide) (by simp only [go_sem, hs, ebl, hlb, elim, hhb, h1b, em1, em2, em3, Ret_eq Try.results144]; first | done | decide) (by simp only [go_sem, hs, ebl, hlb, elim, hhb, h1b, em1, em2, em3, Ret_eq Try.results144]; first | done | decide) (hrec) ?_
                    rintro _ _ ⟨rfl, l6, rfl, s6, d6⟩
                    repeat' (first | simp only [go_sem, hs, ebl, hlb, elim, hhb, h1b, em1, em2, em3, Ret_eq Try.results144] | fail)
                    refine AgainW.to (a1, m, lim, decide (((b1 - a1 : Nat) : Int) / 8 ≤ ((b1 - m : Nat) : Int)), t, l6) ?_ ?_ ?_
                    · show m - a1 < b1 - a1; omega
                    · exact ⟨hR5.right p5 s6 d6, by show lim ≤ 60000; omega⟩
                    · simp only [go_sem, hs, ebl, hlb, elim, hhb, h1b, em1, em2, em3, Ret_eq Try.results144]
end Go.Proofs.Ytpkampecmlpfmaa.T

end
section
set_option linter.unusedSimpArgs false
set_option linter.unusedVariables false
/- slices.Sort, walked. -/
namespace Go.Proofs.Ytpkampecmlpfmaa.T
open Go Go.VL Go.Proofs
set_option maxRecDepth 100000
set_option maxHeartbeats 8000000

theorem sort64 (l : List Int) (hl : l.length ≤ 60000) : FunL Try.prog 102 [.ref 0 l.length] [own64 l] fun r os => r = .tup [] ∧ os = [own64 (sortI l)] := by
  refine FunL.of_awpI [(100000, 0)] rfl Try.func102 rfl cal102 Try.ntmps102 (by simp) fun hwf hlw ls => ?_
  simp only [lentWf, D.wfs, D.wf, ints_length, ints_wfs, rows_length, rows_wfs, capMax, and_true, true_and] at hwf hlw
  have hbl := bitsLen_fun l.length (by omega)
  repeat' (first | simp only [go_sem, Ret_eq Try.results102] | simp (disch := omega) only [arith, IntKind.bits, capMax, fill_len, elt_fill] | (refine opCallI_gv (by simp only [go_sem, Ret_eq Try.results102]; first | done | rfl) (hbl) ?_; rintro _ ⟨n, rfl, hn⟩) | fail)
  have hp : SortsL64 _ l 0 l.length n := pdq64 l.length l 0 l.length n (by omega) (Nat.zero_le _) (Nat.le_refl _) hl (by have := hn.1; omega) (.inl rfl)
  unfold SortsL64 at hp
  rw [show ((0 : Nat) : Int) = 0 from rfl] at hp
  refine opCallI_lend [0] (by simp only [go_sem, Ret_eq Try.results102]; first | done | rfl) (by simp only [go_sem, Ret_eq Try.results102]; first | done | rfl) (by decide) (by simp only [go_sem, Ret_eq Try.results102]; first | done | decide) (by simp only [go_sem, Ret_eq Try.results102]; first | done | decide) hp ?_
  rintro _ _ ⟨rfl, l2, rfl, s2, d2⟩
  have e := sortI_of s2 d2
  subst e
  repeat' (first | simp only [go_sem, Ret_eq Try.results102] | refine RetL_calc Try.results102 rfl ?_ | fail)
  all_goals first | exact ⟨rfl, rfl⟩ | rfl
end Go.Proofs.Ytpkampecmlpfmaa.T

end
