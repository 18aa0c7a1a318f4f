import Derived.Test.YtpkampecmlpfmaaEVSpec
import Derived.Test.YtpkampecmlpfmaaEFltM
/- Ways, and vectors turned, plainly. -/
namespace Go.Proofs.Ytpkampecmlpfmaa.T
open Go Go.VL Go.Proofs
def maxTwist : Int := 4611686018427387903
def dg (a i : Nat) : Nat := a / 4 ^ i % 4
theorem dg_zero (a : Nat) : dg a 0 = a % 4 := by simp [dg]
theorem dg_succ (a i : Nat) : dg a (i + 1) = dg (a / 4) i := by unfold dg; rw [Nat.pow_succ, Nat.mul_comm, Nat.div_div_eq_div_mul]
theorem dg_lt (a i : Nat) : dg a i < 4 := Nat.mod_lt _ (by decide)
theorem dg_ext : ∀ (n : Nat) {a b : Nat}, a < 4 ^ n → b < 4 ^ n → (∀ i, i < n → dg a i = dg b i) → a = b
  | 0, a, b, ha, hb, _ => by simp at ha hb; omega
  | n + 1, a, b, ha, hb, h => by
    rw [Nat.pow_succ] at ha hb
    have h0 := h 0 (by omega)
    rw [dg_zero, dg_zero] at h0
    have := dg_ext n (a := a / 4) (b := b / 4) (by omega) (by omega) (fun i hi => by rw [← dg_succ, ← dg_succ]; exact h (i + 1) (by omega))
    omega
/-- Digit by digit. -/
def mapW (f : Nat → Nat → Nat) : Nat → Nat → Nat → Nat
  | 0, _, _ => 0
  | n + 1, a, b => 4 * mapW f n (a / 4) (b / 4) + f (a % 4) (b % 4) % 4
theorem mapW_lt (f : Nat → Nat → Nat) : ∀ (n a b : Nat), mapW f n a b < 4 ^ n
  | 0, _, _ => by simp [mapW]
  | n + 1, a, b => by have := mapW_lt f n (a / 4) (b / 4); rw [mapW, Nat.pow_succ]; omega
theorem dg_mapW (f : Nat → Nat → Nat) : ∀ (n a b i : Nat), i < n → dg (mapW f n a b) i = f (dg a i) (dg b i) % 4
  | 0, _, _, _, h => by omega
  | n + 1, a, b, 0, _ => by rw [mapW, dg_zero, dg_zero, dg_zero]; omega
  | n + 1, a, b, i + 1, h => by
    rw [mapW, dg_succ, dg_succ, dg_succ]
    rw [show (4 * mapW f n (a / 4) (b / 4) + f (a % 4) (b % 4) % 4) / 4 = mapW f n (a / 4) (b / 4) by omega]
    exact dg_mapW f n _ _ i (by omega)
def lowN : Nat → Nat
  | 0 => 0
  | n + 1 => 4 * lowN n + 1
theorem xor4 (a d b e : Nat) (hd : d < 4) (he : e < 4) : (4 * a + d) ^^^ (4 * b + e) = 4 * (a ^^^ b) + (d ^^^ e) := by
  have hde : d ^^^ e < 2 ^ 2 := Nat.xor_lt_two_pow (by omega) (by omega)
  apply Nat.eq_of_testBit_eq
  intro i
  have key : ∀ x y, y < 4 → ∀ i, (4 * x + y).testBit i = if i < 2 then y.testBit i else x.testBit (i - 2) := by
    intro x y hy i
    have := Nat.testBit_two_pow_mul_add x (i := 2) (b := y) (by omega) i
    simpa using this
  rw [Nat.testBit_xor, key a d hd, key b e he, key _ _ (by omega)]
  split <;> simp [Nat.testBit_xor]
theorem and4 (a d b e : Nat) (hd : d < 4) (he : e < 4) : (4 * a + d) &&& (4 * b + e) = 4 * (a &&& b) + (d &&& e) := by
  have hde : d &&& e < 2 ^ 2 := Nat.and_lt_two_pow _ (by omega)
  apply Nat.eq_of_testBit_eq
  intro i
  have key : ∀ x y, y < 4 → ∀ i, (4 * x + y).testBit i = if i < 2 then y.testBit i else x.testBit (i - 2) := by
    intro x y hy i
    have := Nat.testBit_two_pow_mul_add x (i := 2) (b := y) (by omega) i
    simpa using this
  rw [Nat.testBit_and, key a d hd, key b e he, key _ _ (by omega)]
  split <;> simp [Nat.testBit_and]
def neg4 (d _e : Nat) : Nat := 4 - d
def add4 (d e : Nat) : Nat := d + e
theorem not_bits : ∀ (n a : Nat), a < 4 ^ n → a ^^^ ((a &&& lowN n) * 2) = mapW neg4 n a 0
  | 0, a, h => by simp at h; subst h; rfl
  | n + 1, a, h => by
    rw [Nat.pow_succ] at h
    have ih := not_bits n (a / 4) (by omega)
    have ea : a = 4 * (a / 4) + a % 4 := by omega
    have hd : a % 4 < 4 := by omega
    generalize a / 4 = b at *
    generalize a % 4 = d at *
    subst ea
    rw [lowN, and4 b d (lowN n) 1 hd (by omega)]
    have h1 : d &&& 1 = d % 2 := Nat.and_one_is_mod d
    rw [h1, show (4 * (b &&& lowN n) + d % 2) * 2 = 4 * ((b &&& lowN n) * 2) + (d % 2) * 2 by omega, xor4 b d _ _ hd (by omega), ih]
    rw [mapW, show (4 * b + d) / 4 = b by omega, show (4 * b + d) % 4 = d by omega]
    congr 1
    have : d = 0 ∨ d = 1 ∨ d = 2 ∨ d = 3 := by omega
    rcases this with rfl | rfl | rfl | rfl <;> rfl
theorem both_bits : ∀ (n a b : Nat), a < 4 ^ n → b < 4 ^ n → a ^^^ b ^^^ ((a &&& b &&& lowN n) * 2) = mapW add4 n a b
  | 0, a, b, h, h' => by simp at h h'; subst h h'; rfl
  | n + 1, a, b, h, h' => by
    rw [Nat.pow_succ] at h h'
    have ih := both_bits n (a / 4) (b / 4) (by omega) (by omega)
    have ea : a = 4 * (a / 4) + a % 4 := by omega
    have eb : b = 4 * (b / 4) + b % 4 := by omega
    have hd : a % 4 < 4 := by omega
    have he : b % 4 < 4 := by omega
    generalize a / 4 = x at *
    generalize a % 4 = d at *
    generalize b / 4 = y at *
    generalize b % 4 = e at *
    subst ea eb
    have hde : d &&& e < 4 := by have := Nat.and_lt_two_pow d (show e < 2 ^ 2 by omega); omega
    have hxe : d ^^^ e < 4 := by have := Nat.xor_lt_two_pow (show d < 2 ^ 2 by omega) (show e < 2 ^ 2 by omega); omega
    rw [lowN, and4 x d y e hd he, and4 _ _ (lowN n) 1 hde (by omega), xor4 x d y e hd he]
    have h1 : d &&& e &&& 1 = (d &&& e) % 2 := Nat.and_one_is_mod _
    rw [h1, show (4 * (x &&& y &&& lowN n) + (d &&& e) % 2) * 2 = 4 * ((x &&& y &&& lowN n) * 2) + ((d &&& e) % 2) * 2 by omega, xor4 _ _ _ _ hxe (by omega), ih]
    rw [mapW, show (4 * x + d) / 4 = x by omega, show (4 * x + d) % 4 = d by omega, show (4 * y + e) / 4 = y by omega, show (4 * y + e) % 4 = e by omega]
    congr 1
    have h1 : d = 0 ∨ d = 1 ∨ d = 2 ∨ d = 3 := by omega
    have h2 : e = 0 ∨ e = 1 ∨ e = 2 ∨ e = 3 := by omega
    rcases h1 with rfl | rfl | rfl | rfl <;> rcases h2 with rfl | rfl | rfl | rfl <;> rfl
theorem low31 : lowN 31 = 1537228672809129301 := by decide
theorem abits_i64_xor {x y : Nat} (hx : x < 2 ^ 62) (hy : y < 2 ^ 62) : abits .xor .i64 x y = ((x ^^^ y : Nat) : Int) := by
  have hlt : x ^^^ y < 2 ^ 62 := Nat.xor_lt_two_pow hx hy
  show IntKind.i64.wrap (((BitVec.ofInt 64 (x : Int)) ^^^ (BitVec.ofInt 64 (y : Int)) : BitVec 64).toNat : Int) = _
  rw [BitVec.ofInt_natCast, BitVec.ofInt_natCast, BitVec.toNat_xor, BitVec.toNat_ofNat, BitVec.toNat_ofNat, Nat.mod_eq_of_lt (by omega), Nat.mod_eq_of_lt (by omega)]
  exact IntWalk.i64_in _ (by omega)
theorem abits_i64_and {x y : Nat} (hx : x < 2 ^ 62) (hy : y < 2 ^ 62) : abits .and .i64 x y = ((x &&& y : Nat) : Int) := by
  have hlt : x &&& y < 2 ^ 62 := Nat.and_lt_two_pow _ hy
  show IntKind.i64.wrap (((BitVec.ofInt 64 (x : Int)) &&& (BitVec.ofInt 64 (y : Int)) : BitVec 64).toNat : Int) = _
  rw [BitVec.ofInt_natCast, BitVec.ofInt_natCast, BitVec.toNat_and, BitVec.toNat_ofNat, BitVec.toNat_ofNat, Nat.mod_eq_of_lt (by omega), Nat.mod_eq_of_lt (by omega)]
  exact IntWalk.i64_in _ (by omega)
def wayErr (a : Int) : Int := if 0 ≤ a ∧ a ≤ maxTwist then 0 else 1
def notW (a : Int) : Int := (mapW neg4 31 a.toNat 0 : Nat)
def bothW (a b : Int) : Int := (mapW add4 31 a.toNat b.toNat : Nat)
theorem pow31 : (4 : Nat) ^ 31 = 2 ^ 62 := by decide
theorem and_small {x y : Nat} (hx : x < 2 ^ 62) : (x &&& y) < 2 ^ 62 := Nat.lt_of_le_of_lt Nat.and_le_left hx
theorem low_double {x : Nat} : (x &&& 1537228672809129301) * 2 < 2 ^ 62 := by
  have : x &&& 1537228672809129301 ≤ 1537228672809129301 := Nat.and_le_right
  omega
theorem not_run {a : Int} (h : 0 ≤ a ∧ a ≤ maxTwist) : abits .xor .i64 a (IntKind.i64.wrap (abits .and .i64 a 1537228672809129301 * 2)) = notW a := by
  unfold maxTwist at h
  obtain ⟨n, rfl⟩ : ∃ n : Nat, a = n := ⟨a.toNat, by omega⟩
  have hn : n < 2 ^ 62 := by omega
  have e : (1537228672809129301 : Int) = ((1537228672809129301 : Nat) : Int) := rfl
  rw [e, abits_i64_and hn (by omega)]
  have h2 := low_double (x := n)
  have e2 : IntKind.i64.wrap (((n &&& 1537228672809129301 : Nat) : Int) * 2) = (((n &&& 1537228672809129301) * 2 : Nat) : Int) := by
    rw [IntWalk.i64_in _ (by omega)]; rfl
  rw [e2, abits_i64_xor hn h2, ← low31, not_bits 31 n (by rw [pow31]; exact hn)]
  rfl
theorem both_run {a b : Int} (h : 0 ≤ a ∧ a ≤ maxTwist) (h' : 0 ≤ b ∧ b ≤ maxTwist) : abits .xor .i64 (abits .xor .i64 a b) (IntKind.i64.wrap (abits .and .i64 (abits .and .i64 a b) 1537228672809129301 * 2)) = bothW a b := by
  unfold maxTwist at h h'
  obtain ⟨n, rfl⟩ : ∃ n : Nat, a = n := ⟨a.toNat, by omega⟩
  obtain ⟨m, rfl⟩ : ∃ n : Nat, b = n := ⟨b.toNat, by omega⟩
  have hn : n < 2 ^ 62 := by omega
  have hm : m < 2 ^ 62 := by omega
  have e : (1537228672809129301 : Int) = ((1537228672809129301 : Nat) : Int) := rfl
  rw [e, abits_i64_and hn hm, abits_i64_and (and_small hn) (by omega), abits_i64_xor hn hm]
  have h2 := low_double (x := n &&& m)
  have e2 : IntKind.i64.wrap (((n &&& m &&& 1537228672809129301 : Nat) : Int) * 2) = (((n &&& m &&& 1537228672809129301) * 2 : Nat) : Int) := by
    rw [IntWalk.i64_in _ (by omega)]; rfl
  rw [e2, abits_i64_xor (Nat.xor_lt_two_pow hn hm) h2, ← low31, both_bits 31 n m (by rw [pow31]; exact hn) (by rw [pow31]; exact hm)]
  rfl
theorem notW_range (a : Int) : 0 ≤ notW a ∧ notW a ≤ maxTwist := by
  have := mapW_lt neg4 31 a.toNat 0
  rw [pow31] at this
  unfold notW maxTwist
  omega
theorem bothW_range (a b : Int) : 0 ≤ bothW a b ∧ bothW a b ≤ maxTwist := by
  have := mapW_lt add4 31 a.toNat b.toNat
  rw [pow31] at this
  unfold bothW maxTwist
  omega
-- turning
def cs (d : Nat) : Int := if d = 0 then 1 else if d = 2 then -1 else 0
def sn (d : Nat) : Int := if d = 1 then 1 else if d = 3 then -1 else 0
def rx (d : Nat) (x y : Int) : Int := x * cs d - y * sn d
def ry (d : Nat) (x y : Int) : Int := x * sn d + y * cs d
def turnAt (v : List Int) (w i : Nat) : Int :=
  if i < 62 ∧ i / 2 * 2 + 1 < v.length then
    (if i % 2 = 0 then rx (dg w (i / 2)) (v.getD i 0) (v.getD (i + 1) 0) else ry (dg w (i / 2)) (v.getD (i - 1) 0) (v.getD i 0))
  else v.getD i 0
def turnL (v : List Int) (w : Nat) : List Int := (List.range v.length).map (turnAt v w)
def turnErr (v : List Int) (w : Int) : Int := if vecErr v = 0 ∧ 0 ≤ w ∧ w ≤ maxTwist then 0 else 1
def turnOut (v : List Int) (w : Int) : List Int := if turnErr v w = 0 then turnL v w.toNat else []
theorem turnL_length {v : List Int} {w : Nat} : (turnL v w).length = v.length := by simp [turnL]
theorem turnL_getD {v : List Int} {w i : Nat} (h : i < v.length) : (turnL v w).getD i 0 = turnAt v w i := getD_map_range h
theorem rot_cases {d : Nat} (hd : d < 4) (x y : Int) : (d = 0 ∧ rx d x y = x ∧ ry d x y = y) ∨ (d = 1 ∧ rx d x y = -y ∧ ry d x y = x) ∨ (d = 2 ∧ rx d x y = -x ∧ ry d x y = -y) ∨ (d = 3 ∧ rx d x y = y ∧ ry d x y = -x) := by
  have : d = 0 ∨ d = 1 ∨ d = 2 ∨ d = 3 := by omega
  rcases this with rfl | rfl | rfl | rfl <;> simp [rx, ry, cs, sn]
theorem rot_range {d : Nat} (hd : d < 4) {x y : Int} (hx : -32767 ≤ x ∧ x ≤ 32767) (hy : -32767 ≤ y ∧ y ≤ 32767) : (-32767 ≤ rx d x y ∧ rx d x y ≤ 32767) ∧ (-32767 ≤ ry d x y ∧ ry d x y ≤ 32767) := by
  rcases rot_cases hd x y with ⟨_, h1, h2⟩ | ⟨_, h1, h2⟩ | ⟨_, h1, h2⟩ | ⟨_, h1, h2⟩ <;> omega
theorem turnAt_range {v : List Int} (h : ∀ i, -32767 ≤ v.getD i 0 ∧ v.getD i 0 ≤ 32767) (w i : Nat) : -32767 ≤ turnAt v w i ∧ turnAt v w i ≤ 32767 := by
  unfold turnAt
  split
  · split
    · exact (rot_range (dg_lt _ _) (h _) (h _)).1
    · exact (rot_range (dg_lt _ _) (h _) (h _)).2
  · exact h i
theorem vecOk_getD {v : List Int} (hv : I16s v) (h : vecOk v = true) (i : Nat) : -32767 ≤ v.getD i 0 ∧ v.getD i 0 ≤ 32767 := by
  obtain ⟨_, _, h3⟩ := vecOk_iff.1 h
  have h1 := hv.getD i
  by_cases hi : i < v.length
  · have := h3 _ (getD_mem (d := 0) hi); omega
  · rw [show v.getD i 0 = 0 by simp [List.getD, List.getElem?_eq_none (show v.length ≤ i by omega)]]; omega
theorem turnL_ok {v : List Int} (hv : I16s v) (h : vecOk v = true) (w : Nat) : vecOk (turnL v w) = true ∧ I16s (turnL v w) := by
  obtain ⟨h1, h2, _⟩ := vecOk_iff.1 h
  have hr := turnAt_range (vecOk_getD hv h) w
  constructor
  · rw [vecOk_iff, turnL_length]
    refine ⟨h1, h2, fun x hx => ?_⟩
    obtain ⟨i, _, rfl⟩ := List.mem_map.1 hx
    exact (hr i).1
  · intro x hx
    obtain ⟨i, _, rfl⟩ := List.mem_map.1 hx
    have := hr i
    omega
end Go.Proofs.Ytpkampecmlpfmaa.T
