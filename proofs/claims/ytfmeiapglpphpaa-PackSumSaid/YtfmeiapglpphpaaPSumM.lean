import Derived.Test.YtfmeiapglpphpaaPMath
/- Check sums, plainly: a step keeps exclusive or. -/
namespace Go.Proofs.Ytfmeiapglpphpaa.T
open Go Go.VL Go.Proofs
def crcBit (r : BitVec 32) : BitVec 32 := (r >>> 1) ^^^ (if r.getLsbD 0 then 0xedb88320#32 else 0#32)
theorem crcBit_xor (x y : BitVec 32) : crcBit (x ^^^ y) = crcBit x ^^^ crcBit y := by
  unfold crcBit
  rw [BitVec.ushiftRight_xor_distrib, BitVec.getLsbD_xor]
  cases x.getLsbD 0 <;> cases y.getLsbD 0 <;> simp only [Bool.xor_false, Bool.xor_true, Bool.not_true, Bool.not_false, if_true, if_false, Bool.false_eq_true, BitVec.xor_zero]
  · ac_rfl
  · ac_rfl
  · have : 3988292384#32 ^^^ 3988292384#32 = 0#32 := by decide
    rw [show x >>> 1 ^^^ 3988292384#32 ^^^ (y >>> 1 ^^^ 3988292384#32) = x >>> 1 ^^^ y >>> 1 ^^^ (3988292384#32 ^^^ 3988292384#32) from by ac_rfl, this, BitVec.xor_zero]
def crcBits : Nat → BitVec 32 → BitVec 32
  | 0, r => r
  | n + 1, r => crcBit (crcBits n r)
theorem crcBits_xor (n : Nat) (x y : BitVec 32) : crcBits n (x ^^^ y) = crcBits n x ^^^ crcBits n y := by
  induction n with
  | zero => rfl
  | succ n ih => simp only [crcBits, ih, crcBit_xor]
def crcOct (r c : BitVec 32) : BitVec 32 := crcBits 8 (r ^^^ c)
theorem crcOct_xor (x y z a b c : BitVec 32) : crcOct (x ^^^ y ^^^ z) (a ^^^ b ^^^ c) = crcOct x a ^^^ crcOct y b ^^^ crcOct z c := by
  unfold crcOct
  rw [← crcBits_xor, ← crcBits_xor]
  congr 1
  ac_rfl
def w32 (n : Int) : BitVec 32 := BitVec.ofInt 32 n
def crcAll (l : List Int) (r : BitVec 32) : BitVec 32 := l.foldl (fun r c => crcOct r (w32 c)) r
def crcSum (l : List Int) : BitVec 32 := ~~~ (crcAll l (BitVec.allOnes 32))
def xor3 (x y z : Int) : Int := abits .xor .u8 (abits .xor .u8 x y) z
theorem crcAll_xor : ∀ (a b c d : List Int) (x y z : BitVec 32), b.length = a.length → c.length = a.length → d.length = a.length →
    (∀ i, i < a.length → w32 (d.getD i 0) = w32 (a.getD i 0) ^^^ w32 (b.getD i 0) ^^^ w32 (c.getD i 0)) →
    crcAll d (x ^^^ y ^^^ z) = crcAll a x ^^^ crcAll b y ^^^ crcAll c z
  | [], [], [], [], x, y, z, _, _, _, _ => rfl
  | p :: a, q :: b, r :: c, s :: d, x, y, z, h1, h2, h3, h => by
    have h0 := h 0 (by simp)
    simp only [List.getD_cons_zero] at h0
    simp only [crcAll, List.foldl_cons]
    rw [h0, crcOct_xor]
    exact crcAll_xor a b c d _ _ _ (by simpa using h1) (by simpa using h2) (by simpa using h3) (fun i hi => by simpa using h (i + 1) (by simpa using hi))
  | [], _ :: _, _, _, _, _, _, h, _, _, _ => by simp at h
  | [], [], _ :: _, _, _, _, _, _, h, _, _ => by simp at h
  | [], [], [], _ :: _, _, _, _, _, _, h, _ => by simp at h
  | _ :: _, [], _, _, _, _, _, h, _, _, _ => by simp at h
  | _ :: _, _ :: _, [], _, _, _, _, _, h, _, _ => by simp at h
  | _ :: _, _ :: _, _ :: _, [], _, _, _, _, _, h, _ => by simp at h
theorem crcSum_xor {a b c d : List Int} (h1 : b.length = a.length) (h2 : c.length = a.length) (h3 : d.length = a.length)
    (h : ∀ i, i < a.length → w32 (d.getD i 0) = w32 (a.getD i 0) ^^^ w32 (b.getD i 0) ^^^ w32 (c.getD i 0)) : crcSum d = crcSum a ^^^ crcSum b ^^^ crcSum c := by
  have key := crcAll_xor a b c d (BitVec.allOnes 32) (BitVec.allOnes 32) (BitVec.allOnes 32) h1 h2 h3 h
  have e : BitVec.allOnes 32 ^^^ BitVec.allOnes 32 ^^^ BitVec.allOnes 32 = BitVec.allOnes 32 := by decide
  rw [e] at key
  unfold crcSum
  rw [key]
  have hn : ∀ x : BitVec 32, ~~~x = x ^^^ BitVec.allOnes 32 := by intro x; rw [BitVec.xor_allOnes]
  rw [hn, hn, hn, hn]
  have e2 : ∀ x y z o : BitVec 32, (x ^^^ o) ^^^ (y ^^^ o) ^^^ (z ^^^ o) = x ^^^ y ^^^ z ^^^ (o ^^^ o ^^^ o) := by intro x y z o; ac_rfl
  rw [e2, e]
/-- What the machine's numbers do. -/
theorem ofInt_nat (x : BitVec 32) : BitVec.ofInt 32 (x.toNat : Int) = x := by simp
theorem abits_u32_and (x y : BitVec 32) : abits .and .u32 x.toNat y.toNat = ((x &&& y).toNat : Int) := by
  unfold abits
  simp only [IntKind.bits, ofInt_nat]
  exact IntWalk.u32_in _ (by have := (x &&& y).isLt; omega)
theorem abits_u32_xor (x y : BitVec 32) : abits .xor .u32 x.toNat y.toNat = ((x ^^^ y).toNat : Int) := by
  unfold abits
  simp only [IntKind.bits, ofInt_nat]
  exact IntWalk.u32_in _ (by have := (x ^^^ y).isLt; omega)
theorem u32_neg_nat (x : BitVec 32) : IntKind.u32.wrap (0 - (x.toNat : Int)) = ((-x).toNat : Int) := by
  rw [IntKind.wrap_u32, BitVec.toNat_neg]
  have := x.isLt
  omega
theorem u32_shr1 (x : BitVec 32) : (x.toNat : Int).fdiv 2 = ((x >>> 1).toNat : Int) := by
  rw [Int.fdiv_eq_ediv_of_nonneg _ (by decide), BitVec.toNat_ushiftRight, Nat.shiftRight_eq_div_pow]
  rfl
theorem crcBit_int (x : BitVec 32) : abits .xor .u32 ((x.toNat : Int).fdiv 2) (abits .and .u32 3988292384 (IntKind.u32.wrap (0 - abits .and .u32 x.toNat 1))) = ((crcBit x).toNat : Int) := by
  have h1 : (1 : Int) = ((1#32).toNat : Int) := rfl
  have h2 : (3988292384 : Int) = ((0xedb88320#32).toNat : Int) := rfl
  rw [h1, h2, abits_u32_and, u32_neg_nat, abits_u32_and, u32_shr1, abits_u32_xor]
  congr 2
  unfold crcBit
  congr 1
  have h : x &&& 1#32 = if x.getLsbD 0 then 1#32 else 0#32 := by
    apply BitVec.eq_of_getLsbD_eq
    intro i hi
    rw [BitVec.getLsbD_and]
    rcases Nat.eq_zero_or_pos i with rfl | h0
    · cases x.getLsbD 0 <;> rfl
    · have : (1#32).getLsbD i = false := by rw [BitVec.getLsbD_one]; simp; omega
      rw [this, Bool.and_false]
      split
      · rw [this]
      · simp
  rw [h]
  split <;> decide
theorem w32_nat (c : Int) : IntKind.u32.wrap c = ((w32 c).toNat : Int) := by
  rw [IntKind.wrap_u32]
  unfold w32
  rw [BitVec.toNat_ofInt]
  omega
theorem crc_in (x : BitVec 32) (c : Int) : abits .xor .u32 x.toNat (IntKind.u32.wrap c) = ((x ^^^ w32 c).toNat : Int) := by rw [w32_nat, abits_u32_xor]
theorem crc_out (x : BitVec 32) : abits .xor .u32 (if IntKind.u32.signed = true then -1 else IntKind.u32.max) x.toNat = ((~~~x).toNat : Int) := by
  have h : (if IntKind.u32.signed = true then (-1 : Int) else IntKind.u32.max) = ((BitVec.allOnes 32).toNat : Int) := rfl
  rw [h, abits_u32_xor, BitVec.xor_comm, BitVec.xor_allOnes]
theorem crcAll_succ {b : List Int} {k : Nat} (hk : k < b.length) (o : BitVec 32) : crcAll (b.take (k + 1)) o = crcOct (crcAll (b.take k) o) (w32 (b.getD k 0)) := by
  unfold crcAll
  rw [List.take_succ_eq_append_getElem hk, List.foldl_append]
  simp [List.getD, hk]
theorem xor3_octet (x y z : Int) : 0 ≤ xor3 x y z ∧ xor3 x y z ≤ 255 := by
  unfold xor3 abits
  simp only
  rw [IntKind.wrap_u8]
  omega
theorem w32_xor3 {x y z : Int} (hx : 0 ≤ x ∧ x ≤ 255) (hy : 0 ≤ y ∧ y ≤ 255) (hz : 0 ≤ z ∧ z ≤ 255) : w32 (xor3 x y z) = w32 x ^^^ w32 y ^^^ w32 z := by
  obtain ⟨a, rfl⟩ : ∃ a : Nat, x = a := ⟨x.toNat, by omega⟩
  obtain ⟨b, rfl⟩ : ∃ a : Nat, y = a := ⟨y.toNat, by omega⟩
  obtain ⟨c, rfl⟩ : ∃ a : Nat, z = a := ⟨z.toNat, by omega⟩
  have h8 : ∀ p q : Nat, p < 256 → q < 256 → abits .xor .u8 p q = ((p ^^^ q : Nat) : Int) ∧ p ^^^ q < 256 := by
    intro p q hp hq
    have hlt : p ^^^ q < 2 ^ 8 := Nat.xor_lt_two_pow (by omega) (by omega)
    refine ⟨?_, hlt⟩
    show IntKind.u8.wrap (((BitVec.ofInt 8 (p : Int)) ^^^ (BitVec.ofInt 8 (q : Int)) : BitVec 8).toNat : Int) = _
    rw [BitVec.ofInt_natCast, BitVec.ofInt_natCast, BitVec.toNat_xor, BitVec.toNat_ofNat, BitVec.toNat_ofNat, Nat.mod_eq_of_lt (by omega), Nat.mod_eq_of_lt (by omega)]
    exact IntWalk.u8_in _ (by omega)
  unfold xor3
  obtain ⟨h1, h2⟩ := h8 a b (by omega) (by omega)
  rw [h1]
  obtain ⟨h3, h4⟩ := h8 (a ^^^ b) c h2 (by omega)
  rw [h3]
  unfold w32
  simp only [BitVec.ofInt_natCast]
  apply BitVec.eq_of_toNat_eq
  simp only [BitVec.toNat_ofNat, BitVec.toNat_xor]
  rw [Nat.mod_eq_of_lt (by omega), Nat.mod_eq_of_lt (by omega), Nat.mod_eq_of_lt (by omega), Nat.mod_eq_of_lt (by omega)]
end Go.Proofs.Ytfmeiapglpphpaa.T
