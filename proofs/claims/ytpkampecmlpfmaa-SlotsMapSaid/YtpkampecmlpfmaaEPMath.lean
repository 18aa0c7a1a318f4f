import Derived.Test.YtpkampecmlpfmaaEPSpec
set_option linter.unusedSimpArgs false
set_option linter.unusedVariables false
/- Octets of a number, and the number of octets. -/
namespace Go.Proofs.Ytpkampecmlpfmaa.T
open Go Go.VL Go.Proofs
def digs : Nat → Int → List Int
  | 0, _ => []
  | w + 1, n => n % 256 :: digs w (n / 256)
def val : List Int → Int
  | [] => 0
  | c :: cs => c + 256 * val cs
def Octets (l : List Int) : Prop := ∀ c ∈ l, 0 ≤ c ∧ c ≤ 255
theorem digs_length : ∀ (w : Nat) (n : Int), (digs w n).length = w
  | 0, _ => rfl
  | w + 1, n => by rw [digs, List.length_cons, digs_length w]
theorem digs_octets : ∀ (w : Nat) (n : Int), Octets (digs w n)
  | 0, _ => by intro c h; cases h
  | w + 1, n => by
    intro c h
    rw [digs] at h
    rcases List.mem_cons.1 h with rfl | h
    · omega
    · exact digs_octets w _ c h
theorem oct_eq (n : Int) (i : Nat) : oct n i = n / 256 ^ i % 256 := by
  unfold oct
  rw [IntKind.wrap_u8, Int.fdiv_eq_ediv_of_nonneg _ (Int.pow_nonneg (by decide)), Int.pow_mul]
  rfl
theorem octs_eq : ∀ (w : Nat) (n : Int), octs w n = digs w n
  | 0, _ => rfl
  | w + 1, n => by
    rw [digs, ← octs_eq w]
    unfold octs
    rw [List.range_succ_eq_map, List.map_cons, List.map_map]
    congr 1
    · rw [oct_eq]; simp
    · apply List.map_congr_left
      intro i _
      simp only [Function.comp]
      rw [oct_eq, oct_eq, Nat.succ_eq_add_one, Int.pow_succ, Int.mul_comm, ← Int.ediv_ediv_of_nonneg (by decide)]
theorem val_range : ∀ {l : List Int}, Octets l → 0 ≤ val l ∧ val l < 256 ^ l.length
  | [], _ => by simp [val]
  | c :: l, h => by
    have h1 := val_range (l := l) fun x hx => h x (by simp [hx])
    have h2 := h c (by simp)
    rw [val, List.length_cons, Int.pow_succ]
    omega
theorem digs_val : ∀ {l : List Int}, Octets l → digs l.length (val l) = l
  | [], _ => rfl
  | c :: l, h => by
    have h2 := h c (by simp)
    rw [List.length_cons, digs, val]
    rw [show (c + 256 * val l) % 256 = c by omega, show (c + 256 * val l) / 256 = val l by omega, digs_val fun x hx => h x (by simp [hx])]
theorem digs_mod : ∀ (w : Nat) (n k : Int), digs w (n + k * 256 ^ w) = digs w n
  | 0, _, _ => rfl
  | w + 1, n, k => by
    rw [digs, digs, Int.pow_succ]
    have e : n + k * (256 ^ w * 256) = n + (k * 256 ^ w) * 256 := by rw [Int.mul_assoc]
    rw [e, Int.add_mul_emod_self_right, Int.add_mul_ediv_right _ _ (by decide), digs_mod w]
theorem val_digs : ∀ (w : Nat) (n : Int), val (digs w n) = n % 256 ^ w
  | 0, n => by simp [digs, val, Int.emod_one]
  | w + 1, n => by
    rw [digs, val, val_digs w, Int.pow_succ, Int.mul_comm (256 ^ w)]
    have hM : (0 : Int) < 256 ^ w := Int.pow_pos (by decide)
    generalize (256 : Int) ^ w = M at *
    have h1 := Int.emod_nonneg (n / 256) (Int.ne_of_gt hM)
    have h2 := Int.emod_lt_of_pos (n / 256) hM
    have h3 : n = (n % 256 + 256 * (n / 256 % M)) + (256 * M) * (n / 256 / M) := by
      have e1 := Int.emod_add_mul_ediv n 256
      have e2 := Int.emod_add_mul_ediv (n / 256) M
      rw [Int.mul_assoc]
      generalize n / 256 / M = k at *
      generalize M * k = z at *
      omega
    have h4 := Int.add_mul_emod_self_left (n % 256 + 256 * (n / 256 % M)) (256 * M) (n / 256 / M)
    rw [← h3] at h4
    rw [h4]
    exact (Int.emod_eq_of_lt (by omega) (by omega)).symm
theorem val_snoc : ∀ (l : List Int) (c : Int), val (l ++ [c]) = val l + 256 ^ l.length * c
  | [], c => by simp [val]
  | d :: l, c => by
    rw [List.cons_append, val, val_snoc l, val, List.length_cons, Int.pow_succ]
    rw [Int.mul_add, Int.add_assoc, ← Int.mul_assoc, Int.mul_comm 256 (256 ^ l.length)]

/-- The number, signed, of so many octets. -/
def sgn (w : Nat) (v : Int) : Int := if v < 2 ^ (8 * w - 1) then v else v - 2 ^ (8 * w)
theorem sgn_digs {w : Nat} {n : Int} (hn : -9223372036854775808 ≤ n ∧ n ≤ 9223372036854775807) (hw : 1 ≤ w ∧ w ≤ 8) (h : -(2 ^ (8 * w - 1)) ≤ n ∧ n < 2 ^ (8 * w - 1)) : sgn w (val (digs w n)) = n := by
  rw [val_digs]
  have h1 : w = 1 ∨ w = 2 ∨ w = 3 ∨ w = 4 ∨ w = 5 ∨ w = 6 ∨ w = 7 ∨ w = 8 := by omega
  unfold sgn
  rcases h1 with rfl | rfl | rfl | rfl | rfl | rfl | rfl | rfl
  all_goals
    simp at h ⊢
    split <;> omega
theorem digs_sgn {l : List Int} (h : Octets l) : digs l.length (sgn l.length (val l)) = l := by
  unfold sgn
  split
  · exact digs_val h
  · have : val l - 2 ^ (8 * l.length) = val l + (-1) * 256 ^ l.length := by rw [Int.pow_mul, show ((2 : Int) ^ 8) = 256 by decide]; omega
    rw [this, digs_mod, digs_val h]
theorem sgn_range {w : Nat} {v : Int} (hw : 1 ≤ w) (h : 0 ≤ v ∧ v < 256 ^ w) : -(2 ^ (8 * w - 1)) ≤ sgn w v ∧ sgn w v < 2 ^ (8 * w - 1) := by
  have e : (256 : Int) ^ w = 2 * 2 ^ (8 * w - 1) := by
    rw [show (256 : Int) = 2 ^ 8 by decide, ← Int.pow_mul, ← Int.pow_succ']
    congr 1
    omega
  have e2 : (2 : Int) ^ (8 * w) = 256 ^ w := by rw [Int.pow_mul]; rfl
  unfold sgn
  rw [e2]
  split <;> omega

theorem bits_of_wrap {X : Nat} (h : X < 2 ^ 64) : (BitVec.ofInt 64 (IntKind.i64.wrap (X : Int))).toNat = X := by
  rw [BitVec.toNat_ofInt, IntKind.wrap_i64]
  simp at h ⊢
  omega
theorem or_add {X c i : Nat} (hX : X < 2 ^ i) (hX2 : X < 2 ^ 64) (hc : c * 2 ^ i < 2 ^ 64) : abits .or .i64 (IntKind.i64.wrap (X : Int)) (IntKind.i64.wrap ((c * 2 ^ i : Nat) : Int)) = IntKind.i64.wrap ((X + c * 2 ^ i : Nat) : Int) := by
  show IntKind.i64.wrap ((BitVec.ofInt 64 _ ||| BitVec.ofInt 64 _).toNat : Int) = _
  rw [BitVec.toNat_or, bits_of_wrap hX2, bits_of_wrap hc, Nat.or_comm, ← Nat.shiftLeft_eq, ← Nat.shiftLeft_add_eq_or_of_lt hX, Nat.add_comm]
/-- What is read of octets, ahead of the shift back. -/
theorem takeAcc_eq {w : Nat} {bs : List Int} (hw : 1 ≤ w ∧ w ≤ 8) (ho : Octets bs) : ∀ (j : Nat), j ≤ w → j ≤ bs.length → takeAcc w bs j = IntKind.i64.wrap (2 ^ (64 - 8 * w) * val (bs.take j))
  | 0, _, _ => by simp [takeAcc, val]; decide
  | j + 1, hj, hl => by
    have ih := takeAcc_eq hw ho j (by omega) (by omega)
    have hc : 0 ≤ bs.getD j 0 ∧ bs.getD j 0 ≤ 255 := by
      have : bs.getD j 0 = bs[j] := by simp [List.getD, show j < bs.length by omega]
      rw [this]; exact ho _ (List.getElem_mem _)
    have hv : val (bs.take (j + 1)) = val (bs.take j) + 256 ^ j * bs.getD j 0 := by
      rw [List.take_succ_eq_append_getElem (by omega), val_snoc, List.length_take, Nat.min_eq_left (by omega)]
      simp [List.getD, show j < bs.length by omega]
    have hr := val_range (l := bs.take j) (fun c h => ho c (List.mem_of_mem_take h))
    rw [List.length_take, Nat.min_eq_left (by omega)] at hr
    rw [takeAcc, ih, hv]
    obtain ⟨V, hV⟩ : ∃ V : Nat, val (bs.take j) = V := ⟨(val (bs.take j)).toNat, by omega⟩
    obtain ⟨c, hcc⟩ : ∃ c : Nat, bs.getD j 0 = c := ⟨(bs.getD j 0).toNat, by omega⟩
    rw [hV] at hr ⊢
    rw [hcc] at hc ⊢
    have e0 : (64 - 8 * (w : Int)).toNat = 64 - 8 * w := by omega
    have e1 : IntKind.i64.wrap (c : Int) = c := IntWalk.i64_in _ (by omega)
    have hVj : V < 256 ^ j := by have h := hr.2; rw [show (256 : Int) ^ j = ((256 ^ j : Nat) : Int) from (Int.natCast_pow 256 j).symm] at h; exact Int.ofNat_lt.1 h
    have hp : 2 ^ (64 - 8 * w) * 256 ^ j = 2 ^ (64 - 8 * w + 8 * j) := by rw [Nat.pow_add, Nat.pow_mul]
    have hX : 2 ^ (64 - 8 * w) * V < 2 ^ (64 - 8 * w + 8 * j) := by
      rw [← hp]; exact Nat.mul_lt_mul_of_pos_left hVj (Nat.pow_pos (by decide))
    have hle : 2 ^ (64 - 8 * w + 8 * j) * 2 ^ 8 ≤ 2 ^ 64 := by
      rw [← Nat.pow_add]; exact Nat.pow_le_pow_right (by decide) (by omega)
    have hcm : c * 2 ^ (64 - 8 * w + 8 * j) < 2 ^ 64 := by
      refine Nat.lt_of_lt_of_le ?_ hle
      rw [Nat.mul_comm]
      exact Nat.mul_lt_mul_of_pos_left (by omega) (Nat.pow_pos (by decide))
    have hX2 : 2 ^ (64 - 8 * w) * V < 2 ^ 64 := by
      exact Nat.lt_of_lt_of_le hX (Nat.le_trans (Nat.le_mul_of_pos_right _ (by decide)) hle)
    have := or_add hX hX2 hcm
    rw [e0, e1]
    have p2 : ∀ q : Nat, ((2 ^ q : Nat) : Int) = (2 : Int) ^ q := fun q => Int.natCast_pow 2 q
    have p3 : ((256 ^ j : Nat) : Int) = (256 : Int) ^ j := Int.natCast_pow 256 j
    rw [Int.natCast_mul, Int.natCast_mul, p2, p2] at this
    rw [this]
    congr 1
    rw [← hp, Int.natCast_add, Int.natCast_mul, Int.natCast_mul, Int.natCast_mul, p2, p3, Int.mul_add, Int.mul_comm (c : Int), Int.mul_assoc]

theorem takeNum_eq {w : Nat} {bs : List Int} (hw : 1 ≤ w ∧ w ≤ 8) (ho : Octets bs) (hl : w ≤ bs.length) : takeNum w bs = sgn w (val (bs.take w)) := by
  have hr := val_range (l := bs.take w) (fun c h => ho c (List.mem_of_mem_take h))
  rw [List.length_take, Nat.min_eq_left hl] at hr
  unfold takeNum sgn
  rw [Int.toNat_natCast, takeAcc_eq hw ho w (Nat.le_refl _) hl, IntKind.wrap_i64, Int.fdiv_eq_ediv_of_nonneg _ (Int.pow_nonneg (by decide))]
  generalize val (bs.take w) = V at *
  have h1 : w = 1 ∨ w = 2 ∨ w = 3 ∨ w = 4 ∨ w = 5 ∨ w = 6 ∨ w = 7 ∨ w = 8 := by omega
  rcases h1 with rfl | rfl | rfl | rfl | rfl | rfl | rfl | rfl
  all_goals
    simp at hr ⊢
    split <;> omega
theorem putFit_iff {w : Nat} {n : Int} (hn : -9223372036854775808 ≤ n ∧ n ≤ 9223372036854775807) (hw : 1 ≤ w ∧ w ≤ 8) : putFit w n = true ↔ -(2 ^ (8 * w - 1)) ≤ n ∧ n < 2 ^ (8 * w - 1) := by
  have h : w = 1 ∨ w = 2 ∨ w = 3 ∨ w = 4 ∨ w = 5 ∨ w = 6 ∨ w = 7 ∨ w = 8 := by omega
  unfold putFit
  rw [IntKind.wrap_i64, beq_iff_eq, Int.fdiv_eq_ediv_of_nonneg _ (Int.pow_nonneg (by decide))]
  rcases h with rfl | rfl | rfl | rfl | rfl | rfl | rfl | rfl
  all_goals
    simp
    omega
theorem octs_octets (w : Nat) (n : Int) : Octets (octs w n) := by rw [octs_eq]; exact digs_octets w n
theorem Octets.append {a b : List Int} (ha : Octets a) (hb : Octets b) : Octets (a ++ b) := fun c h => (List.mem_append.1 h).elim (ha c) (hb c)
theorem Octets.drop {a : List Int} (ha : Octets a) (n : Nat) : Octets (a.drop n) := fun c h => ha c (List.mem_of_mem_drop h)
theorem Octets.take {a : List Int} (ha : Octets a) (n : Nat) : Octets (a.take n) := fun c h => ha c (List.mem_of_mem_take h)
theorem octs_all_octets (w : Nat) (l : List Int) : Octets (l.flatMap (octs w)) := by
  intro c h
  obtain ⟨n, _, h2⟩ := List.mem_flatMap.1 h
  exact octs_octets w n c h2
/-- What is put is taken. -/
theorem takeNum_octs {w : Nat} {n : Int} {r : List Int} (hn : -9223372036854775808 ≤ n ∧ n ≤ 9223372036854775807) (hw : 1 ≤ w ∧ w ≤ 8) (hf : putFit w n = true) (hr : Octets r) : takeNum w (octs w n ++ r) = n := by
  rw [takeNum_eq hw ((octs_octets w n).append hr) (by simp [octs_length]), List.take_left' octs_length, octs_eq]
  exact sgn_digs hn hw ((putFit_iff hn hw).1 hf)
theorem takeNums_octs {w : Nat} (hw : 1 ≤ w ∧ w ≤ 8) {r : List Int} (hr : Octets r) : ∀ {l : List Int}, (∀ n ∈ l, -9223372036854775808 ≤ n ∧ n ≤ 9223372036854775807) → l.all (putFit w) = true → takeNums w l.length (l.flatMap (octs w) ++ r) = l
  | [], _, _ => rfl
  | n :: l, hn, hf => by
    rw [List.all_cons, Bool.and_eq_true] at hf
    rw [List.length_cons, takeNums, List.flatMap_cons, List.append_assoc, takeNum_octs (hn n (by simp)) hw hf.1 ((octs_all_octets w l).append hr), Int.toNat_natCast, List.drop_left' octs_length,
      takeNums_octs hw hr (fun x hx => hn x (by simp [hx])) hf.2]
/-- What is taken is put. -/
theorem octs_takeNum {w : Nat} {bs : List Int} (hw : 1 ≤ w ∧ w ≤ 8) (ho : Octets bs) (hl : w ≤ bs.length) : octs w (takeNum w bs) = bs.take w ∧ putFit w (takeNum w bs) = true ∧ (-9223372036854775808 ≤ takeNum w bs ∧ takeNum w bs ≤ 9223372036854775807) := by
  have hlen : (bs.take w).length = w := by simp; omega
  have hr := val_range (ho.take w)
  rw [hlen] at hr
  have hs := sgn_range hw.1 hr
  have hp : (2 : Int) ^ (8 * w - 1) ≤ 2 ^ 63 := by exact_mod_cast Nat.pow_le_pow_right (by decide : 0 < 2) (by omega : 8 * w - 1 ≤ 63)
  have hp' : (2 : Int) ^ 63 = 9223372036854775808 := by decide
  rw [takeNum_eq hw ho hl]
  refine ⟨?_, (putFit_iff (by omega) hw).2 hs, by omega⟩
  have := digs_sgn (ho.take w)
  rw [hlen] at this
  rw [octs_eq, this]
theorem flat_takeNums {w : Nat} (hw : 1 ≤ w ∧ w ≤ 8) : ∀ (k : Nat) {bs : List Int}, Octets bs → w * k ≤ bs.length → (takeNums w k bs).flatMap (octs w) = bs.take (w * k) ∧ (takeNums w k bs).all (putFit w) = true
  | 0, bs, _, _ => by simp [takeNums]
  | k + 1, bs, ho, hl => by
    rw [Nat.mul_succ] at hl
    obtain ⟨h1, h2, _⟩ := octs_takeNum hw ho (by omega)
    obtain ⟨h3, h4⟩ := flat_takeNums hw k (ho.drop w) (by simp; omega)
    rw [takeNums, List.flatMap_cons, h1, Int.toNat_natCast, h3, List.all_cons, h2, h4, Nat.mul_succ, Nat.add_comm, List.take_add]
    exact ⟨rfl, rfl⟩
theorem strOfNums_inj : ∀ {a b : List Int}, Octets a → Octets b → ((strOfNums a).toList == (strOfNums b).toList) = decide (a = b) := by
  intro a b ha hb
  have key : ∀ {a b : List Int}, Octets a → Octets b → (a.map fun n => UInt8.ofNat n.toNat) = (b.map fun n => UInt8.ofNat n.toNat) → a = b := by
    intro a
    induction a with
    | nil => intro b _ _ h; cases b with
      | nil => rfl
      | cons y b => simp at h
    | cons x a ih =>
      intro b ha hb h
      cases b with
      | nil => simp at h
      | cons y b =>
        simp only [List.map_cons, List.cons.injEq] at h
        have h1 := ha x (by simp)
        have h2 := hb y (by simp)
        have h3 : x = y := by
          have := congrArg UInt8.toNat h.1
          simp at this
          omega
        rw [h3, ih (fun c hc => ha c (by simp [hc])) (fun c hc => hb c (by simp [hc])) h.2]
  have hto : ∀ l : List Int, (strOfNums l).toList = l.map fun n => UInt8.ofNat n.toNat := by
    intro l
    show (strOfNums l).toList = _
    have : ∀ x : ByteArray, x.toList = x.data.toList := by intro x; exact ByteArray.toList_eq x
    rw [this]; rfl
  rw [hto, hto, Bool.eq_iff_iff, beq_iff_eq, decide_eq_true_eq]
  exact ⟨key ha hb, fun h => by rw [h]⟩
end Go.Proofs.Ytpkampecmlpfmaa.T
