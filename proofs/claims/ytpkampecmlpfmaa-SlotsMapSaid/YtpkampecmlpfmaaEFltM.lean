import Derived.Test.YtpkampecmlpfmaaLE
import Derived.Laws.FloatArith
/- Whole numbers as floats: no bit is lost. -/
namespace Go.VL
open Go Ieee
/-- The word b stands for the whole number m with its sign. -/
def Stands (b : Nat) (s : Bool) (m : Nat) : Prop := m < 2 ^ 53 ∧ ∃ k : Nat, double.read b = .number s (m * 2 ^ k) (-(k : Int))
def iv (s : Bool) (m : Nat) : Int := if s then -(m : Int) else m

theorem sw : double.signWeight = 2 ^ 63 := rfl
theorem bi : double.binade = 2 ^ 52 := rfl
theorem lp : double.leastPlace = -1074 := by decide
theorem ir : double.infRung = 2047 * 2 ^ 52 := by decide

theorem read_word {s : Bool} {rung : Nat} (h : rung < 2 ^ 63) : double.word s rung / double.signWeight % 2 = s.toNat ∧ double.word s rung % double.signWeight = rung := by
  rw [sw]
  unfold Format.word
  rw [sw]
  cases s
  · simp only [Bool.false_eq_true, if_false, Bool.toNat_false]; omega
  · simp only [if_true, Bool.toNat_true]; omega

theorem cut_none (s : Bool) (n d : Nat) (hd : d ≤ (n * 2 ^ d).log2 + 2) : Toward.even.cut s (n * 2 ^ d) d = n := by
  unfold Toward.cut
  have hp : 0 < 2 ^ d := Nat.pow_pos (by decide)
  rw [Nat.min_eq_left hd, Nat.shiftLeft_eq, Nat.one_mul]
  simp only [Nat.mul_mod_left, Nat.mul_div_cancel _ hp, Nat.mul_zero]
  have h1 : decide (2 ^ d < 0) = false := by simp
  have h2 : (2 ^ d == 0) = false := by simp
  rw [h1, h2]
  rfl
theorem log2_shift {m j : Nat} (h : m ≠ 0) : (m * 2 ^ j).log2 = m.log2 + j := by
  have hp : 0 < 2 ^ j := Nat.pow_pos (by decide)
  have hN : m * 2 ^ j ≠ 0 := Nat.mul_ne_zero h (Nat.ne_of_gt hp)
  rw [Nat.log2_eq_iff hN]
  obtain ⟨h1, h2⟩ := (Nat.log2_eq_iff h).1 rfl
  constructor
  · rw [Nat.pow_add]; exact Nat.mul_le_mul_right _ h1
  · rw [show m.log2 + j + 1 = (m.log2 + 1) + j by omega, Nat.pow_add]
    exact Nat.mul_lt_mul_of_pos_right h2 hp

/-- Rounding keeps a whole number. -/
theorem write_stands (s : Bool) (m j : Nat) (hm : m < 2 ^ 53) : Stands (double.write (.number s (m * 2 ^ j) (-(j : Int)))) s m := by
  refine ⟨hm, ?_⟩
  show ∃ k : Nat, double.read (double.nearest s (m * 2 ^ j) (-(j : Int))) = _
  unfold Format.nearest
  by_cases h0 : m = 0
  · subst h0
    rw [if_pos (by simp)]
    obtain ⟨K, hK⟩ : ∃ K : Nat, K = 1074 := ⟨_, rfl⟩
    refine ⟨K, ?_⟩
    obtain ⟨h1, h2⟩ := read_word (s := s) (rung := 0) (by decide)
    unfold Format.read
    simp only [h1, h2]
    rw [if_pos (by decide), lp, Nat.zero_mul, hK]
    cases s <;> rfl
  · have hN : m * 2 ^ j ≠ 0 := Nat.mul_ne_zero h0 (Nat.ne_of_gt (Nat.pow_pos (by decide)))
    rw [if_neg hN]
    have hlog := log2_shift (j := j) h0
    obtain ⟨g1, g2⟩ := (Nat.log2_eq_iff h0).1 rfl
    have hl52 : m.log2 ≤ 52 := by
      have := (Nat.log2_lt h0).2 hm
      omega
    obtain ⟨K, hK⟩ : ∃ K, m.log2 = 52 - K ∧ K ≤ 52 := ⟨52 - m.log2, by omega, by omega⟩
    have hlast : max (-(j : Int) + ((m * 2 ^ j).log2 : Int) - (double.fractionBits : Int)) double.leastPlace = -(K : Int) := by
      rw [hlog, lp, show (double.fractionBits : Int) = 52 from rfl]
      omega
    have hM1 : 2 ^ 52 ≤ m * 2 ^ K := by
      have : 2 ^ (52 - K) * 2 ^ K ≤ m * 2 ^ K := Nat.mul_le_mul_right _ (hK.1 ▸ g1)
      rwa [← Nat.pow_add, show 52 - K + K = 52 by omega] at this
    have hM2 : m * 2 ^ K < 2 ^ 53 := by
      have : m * 2 ^ K < 2 ^ (52 - K + 1) * 2 ^ K := Nat.mul_lt_mul_of_pos_right (hK.1 ▸ g2) (Nat.pow_pos (by decide))
      rwa [← Nat.pow_add, show 52 - K + 1 + K = 53 by omega] at this
    have hkept : Toward.even.cut s ((m * 2 ^ j) <<< (-(j : Int) - -(K : Int)).toNat) (-(K : Int) - -(j : Int)).toNat = m * 2 ^ K := by
      rcases Nat.le_total j K with hjk | hjk
      · rw [show (-(j : Int) - -(K : Int)).toNat = K - j by omega, show (-(K : Int) - -(j : Int)).toNat = 0 by omega, Nat.shiftLeft_eq, Nat.mul_assoc, ← Nat.pow_add, show j + (K - j) = K by omega]
        have := cut_none s (m * 2 ^ K) 0 (by omega)
        rwa [Nat.pow_zero, Nat.mul_one] at this
      · rw [show (-(j : Int) - -(K : Int)).toNat = 0 by omega, show (-(K : Int) - -(j : Int)).toNat = j - K by omega, Nat.shiftLeft_eq, Nat.pow_zero, Nat.mul_one]
        have e : m * 2 ^ j = m * 2 ^ K * 2 ^ (j - K) := by rw [Nat.mul_assoc, ← Nat.pow_add, show K + (j - K) = j by omega]
        rw [e]
        refine cut_none s (m * 2 ^ K) (j - K) ?_
        rw [← e, hlog]
        omega
    simp only [hlast, hkept]
    refine ⟨K, ?_⟩
    generalize m * 2 ^ K = M at *
    have hrung : (-(K : Int) - double.leastPlace).toNat = 1074 - K := by rw [lp]; omega
    rw [hrung, bi, ir]
    have hbig : (1074 - K) * 2 ^ 52 + M ≤ 2047 * 2 ^ 52 := by omega
    rw [Nat.min_eq_left hbig]
    obtain ⟨h1, h2⟩ := read_word (s := s) (rung := (1074 - K) * 2 ^ 52 + M) (by omega)
    unfold Format.read
    simp only [h1, h2, bi, ir, lp]
    rw [if_neg (by omega), if_pos (by omega)]
    have e1 : 2 ^ 52 + ((1074 - K) * 2 ^ 52 + M) % 2 ^ 52 = M := by omega
    have e2 : ((1074 - K) * 2 ^ 52 + M) / 2 ^ 52 - 1 = 1074 - K := by omega
    rw [e1, e2]
    have e3 : (-1074 : Int) + ((1074 - K : Nat) : Int) = -(K : Int) := by omega
    rw [e3]
    cases s <;> rfl
theorem signed_iv (s : Bool) (m k : Nat) : signed s m k = iv s m * 2 ^ k := by
  unfold signed iv
  rw [Nat.shiftLeft_eq]
  cases s <;> simp [Int.neg_mul]
theorem mul_stands {x y m n : Nat} {s t : Bool} (hx : Stands x s m) (hy : Stands y t n) (h : m * n < 2 ^ 53) : ∃ r, double.mul x y = some r ∧ Stands r (s ^^ t) (m * n) := by
  obtain ⟨_, k, hk⟩ := hx
  obtain ⟨_, l, hl⟩ := hy
  unfold Format.mul
  rw [hk, hl]
  refine ⟨_, rfl, ?_⟩
  have := write_stands (s ^^ t) (m * n) (k + l) h
  have e1 : m * 2 ^ k * (n * 2 ^ l) = m * n * 2 ^ (k + l) := by rw [Nat.pow_add]; ac_rfl
  have e2 : -(k : Int) + -(l : Int) = -((k + l : Nat) : Int) := by omega
  rw [e1, e2]
  exact this
theorem sum_stands {x m n : Nat} {s t : Bool} {k l : Nat} (hx : double.read x = .number s (m * 2 ^ k) (-(k : Int))) {d : Datum} (hd : d = .number t (n * 2 ^ l) (-(l : Int))) (h : (iv s m + iv t n).natAbs < 2 ^ 53) :
    ∃ r u q, (((double.read x).sum d).map double.write) = some r ∧ Stands r u q ∧ iv u q = iv s m + iv t n := by
  rw [hx, hd]
  have hp : (0 : Int) < 2 ^ max k l := Int.pow_pos (by decide)
  have hb : min (-(k : Int)) (-(l : Int)) = -((max k l : Nat) : Int) := by omega
  have t1 : signed s (m * 2 ^ k) (-(k : Int) - -((max k l : Nat) : Int)).toNat = iv s m * 2 ^ max k l := by
    rw [signed_iv, show (-(k : Int) - -((max k l : Nat) : Int)).toNat = max k l - k by omega]
    have e : (2 : Int) ^ max k l = 2 ^ k * 2 ^ (max k l - k) := by rw [← Int.pow_add]; congr 1; omega
    rw [e]
    unfold iv
    cases s <;> simp [Int.mul_assoc, Int.neg_mul]
  have t2 : signed t (n * 2 ^ l) (-(l : Int) - -((max k l : Nat) : Int)).toNat = iv t n * 2 ^ max k l := by
    rw [signed_iv, show (-(l : Int) - -((max k l : Nat) : Int)).toNat = max k l - l by omega]
    have e : (2 : Int) ^ max k l = 2 ^ l * 2 ^ (max k l - l) := by rw [← Int.pow_add]; congr 1; omega
    rw [e]
    unfold iv
    cases t <;> simp [Int.mul_assoc, Int.neg_mul]
  simp only [Datum.sum, hb, t1, t2]
  rw [← Int.add_mul]
  generalize hz : iv s m + iv t n = z at *
  have e3 : (z * 2 ^ max k l).natAbs = z.natAbs * 2 ^ max k l := by rw [Int.natAbs_mul, Int.natAbs_pow]; rfl
  rw [e3]
  refine ⟨_, _, z.natAbs, rfl, write_stands _ z.natAbs (max k l) h, ?_⟩
  by_cases h0 : z = 0
  · subst h0
    unfold iv
    split <;> simp
  · have hne : z * 2 ^ max k l ≠ 0 := Int.mul_ne_zero h0 (Int.ne_of_gt hp)
    rw [if_neg hne]
    unfold iv
    by_cases hneg : z < 0
    · rw [decide_eq_true (Int.mul_neg_of_neg_of_pos hneg hp), if_pos rfl]; omega
    · have : ¬ z * 2 ^ max k l < 0 := by
        have := Int.mul_nonneg (show 0 ≤ z by omega) (Int.le_of_lt hp)
        omega
      rw [decide_eq_false this, if_neg (by decide)]; omega

/-- The word b stands for the whole number z. -/
def IV (b : Nat) (z : Int) : Prop := ∃ s m, Stands b s m ∧ iv s m = z
theorem iv_abs (s : Bool) (m : Nat) : (iv s m).natAbs = m := by unfold iv; cases s <;> simp
theorem iv_mul (s t : Bool) (m n : Nat) : iv (s ^^ t) (m * n) = iv s m * iv t n := by unfold iv; cases s <;> cases t <;> simp [Int.neg_mul, Int.mul_neg]
theorem iv_neg (s : Bool) (m : Nat) : iv (!s) m = - iv s m := by unfold iv; cases s <;> simp
theorem IV.nearest {z : Int} (h : z.natAbs < 2 ^ 53) : IV (FloatKind.f64.nearest z) z := by
  refine ⟨decide (z < 0), z.natAbs, ?_, ?_⟩
  · have := write_stands (decide (z < 0)) z.natAbs 0 h
    show Stands (double.write (.number (decide (z < 0)) z.natAbs 0)) _ _
    simpa using this
  · unfold iv
    by_cases hz : z < 0
    · rw [decide_eq_true hz, if_pos rfl]; omega
    · rw [decide_eq_false hz, if_neg (by decide)]; omega
theorem IV.mul {x y : Nat} {a b : Int} (hx : IV x a) (hy : IV y b) (h : (a * b).natAbs < 2 ^ 53) : ∃ r, double.mul x y = some r ∧ IV r (a * b) := by
  obtain ⟨s, m, h1, rfl⟩ := hx
  obtain ⟨t, n, h2, rfl⟩ := hy
  obtain ⟨r, h3, h4⟩ := mul_stands h1 h2 (by rwa [Int.natAbs_mul, iv_abs, iv_abs] at h)
  exact ⟨r, h3, _, _, h4, iv_mul s t m n⟩
theorem IV.add {x y : Nat} {a b : Int} (hx : IV x a) (hy : IV y b) (h : (a + b).natAbs < 2 ^ 53) : ∃ r, double.add x y = some r ∧ IV r (a + b) := by
  obtain ⟨s, m, ⟨_, k, h1⟩, rfl⟩ := hx
  obtain ⟨t, n, ⟨_, l, h2⟩, rfl⟩ := hy
  obtain ⟨r, u, q, h3, h4, h5⟩ := sum_stands h1 h2 h
  exact ⟨r, h3, u, q, h4, h5⟩
theorem IV.sub {x y : Nat} {a b : Int} (hx : IV x a) (hy : IV y b) (h : (a - b).natAbs < 2 ^ 53) : ∃ r, double.sub x y = some r ∧ IV r (a - b) := by
  obtain ⟨s, m, ⟨_, k, h1⟩, rfl⟩ := hx
  obtain ⟨t, n, ⟨_, l, h2⟩, rfl⟩ := hy
  have h2' : (double.read y).opposite = .number (!t) (n * 2 ^ l) (-(l : Int)) := by rw [h2]; rfl
  obtain ⟨r, u, q, h3, h4, h5⟩ := sum_stands h1 h2' (by rw [iv_neg]; exact h)
  exact ⟨r, h3, u, q, h4, by rw [h5, iv_neg]; rfl⟩
theorem IV.toInt {x : Nat} {z : Int} (hx : IV x z) {k : IntKind} (hk : k.min ≤ z ∧ z ≤ k.max) : floatToIntVal .f64 x k = some z := by
  obtain ⟨s, m, ⟨_, l, h1⟩, rfl⟩ := hx
  have key : (FloatKind.f64.decode x).toInt .zero = some (iv s m) := by
    show (double.read x).toInt .zero = _
    rw [h1]
    unfold Datum.toInt Datum.integral
    have e0 : ((-(l : Int)).toNat) = 0 := by omega
    have e1 : (- -(l : Int)).toNat = l := by omega
    simp only [e0, e1, Nat.shiftLeft_zero]
    have hc : Toward.zero.cut s (m * 2 ^ l) l = m := by
      unfold Toward.cut
      by_cases hm : m = 0
      · subst hm; simp
      · have hle : l ≤ (m * 2 ^ l).log2 + 2 := by rw [log2_shift hm]; omega
        rw [Nat.min_eq_left hle, Nat.shiftLeft_eq, Nat.one_mul]
        simp only [Nat.mul_div_cancel _ (Nat.pow_pos (by decide : 0 < 2)), Bool.toNat_false, Nat.add_zero]
    rw [hc, signed_iv]
    simp
  unfold floatToIntVal
  rw [key]
  simp only
  rw [if_pos hk]
/-- The product of two complex numbers of whole parts. -/
theorem cmul_ok {a b c d : Nat} {p q r s : Int} (ha : IV a p) (hb : IV b q) (hc : IV c r) (hd : IV d s) (hp : p.natAbs ≤ 1000000) (hq : q.natAbs ≤ 1000000) (hr : r.natAbs ≤ 1) (hs : s.natAbs ≤ 1) :
    ∃ x y, cmulB a b c d = some (x, y) ∧ IV x (p * r - q * s) ∧ IV y (p * s + q * r) := by
  have hpow : (2 : Nat) ^ 53 = 9007199254740992 := by decide
  have small : ∀ u v : Int, u.natAbs ≤ 1000000 → v.natAbs ≤ 1 → (u * v).natAbs ≤ 1000000 := by
    intro u v hu hv
    rw [Int.natAbs_mul]
    exact Nat.le_trans (Nat.mul_le_mul hu hv) (by decide)
  have s1 := small p r hp hr
  have s2 := small q s hq hs
  have s3 := small p s hp hs
  have s4 := small q r hq hr
  obtain ⟨x1, e1, i1⟩ := IV.mul ha hc (by omega)
  obtain ⟨x2, e2, i2⟩ := IV.mul hb hd (by omega)
  obtain ⟨x3, e3, i3⟩ := IV.sub i1 i2 (by omega)
  obtain ⟨x4, e4, i4⟩ := IV.mul ha hd (by omega)
  obtain ⟨x5, e5, i5⟩ := IV.mul hb hc (by omega)
  obtain ⟨x6, e6, i6⟩ := IV.add i4 i5 (by omega)
  exact ⟨x3, x6, by unfold cmulB; rw [e1]; simp only [Option.bind_some]; rw [e2]; simp only [Option.bind_some]; rw [e3]; simp only [Option.bind_some]; rw [e4]; simp only [Option.bind_some]; rw [e5]; simp only [Option.bind_some]; rw [e6]; rfl, i3, i6⟩
end Go.VL
