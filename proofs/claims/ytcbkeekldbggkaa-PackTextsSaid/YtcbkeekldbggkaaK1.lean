import Derived.Test.YtcbkeekldbggkaaLE
import Derived.IntWalk
import Derived.Test.YtcbkeekldbggkaaProg
import Derived.OwnWalkIn
import Derived.TacticsInMore
import Derived.LoopNIn
import Derived.LoopIn
import Derived.BigRegionIn
import Derived.Stop.RegionWithIn
set_option linter.unusedSimpArgs false
set_option linter.unusedVariables false
section
/- What the pack functions compute. -/
namespace Go.Proofs.Ytcbkeekldbggkaa.T
open Go Go.VL Go.Proofs
def putFit (w n : Int) : Bool := (IntKind.i64.wrap (n * 2 ^ (64 - 8 * w).toNat)).fdiv (2 ^ (64 - 8 * w).toNat) == n
def oct (n : Int) (i : Nat) : Int := IntKind.u8.wrap (n.fdiv (2 ^ (8 * i)))
def octs (w : Nat) (n : Int) : List Int := (List.range w).map (oct n)
def putOut (b : List Int) (w : Int) (l : List Int) : List Int := b ++ l.flatMap (octs w.toNat)
def putErr (b : List Int) (w : Int) (l : List Int) : Int :=
  if ¬ (1 ≤ w ∧ w ≤ 8) then 1 else if l.all (putFit w) = false then 4 else if 65536 < l.length ∨ 65536 - w * l.length < b.length then 3 else 0
theorem all_take_succ {α : Type} {p : α → Bool} {l : List α} {k : Nat} (hk : k < l.length) : (l.take (k + 1)).all p = ((l.take k).all p && p (l[k])) := by
  rw [List.take_succ_eq_append_getElem hk, List.all_append]; simp
theorem all_of_fail {α : Type} {p : α → Bool} {l : List α} {k : Nat} (hk : k < l.length) (h : p (l[k]) = false) : l.all p = false := by
  rw [List.all_eq_false]; exact ⟨l[k], List.getElem_mem hk, by simp [h]⟩
theorem flatMap_take_succ {α β : Type} {f : α → List β} {l : List α} {k : Nat} (hk : k < l.length) : (l.take (k + 1)).flatMap f = (l.take k).flatMap f ++ f (l[k]) := by
  rw [List.take_succ_eq_append_getElem hk, List.flatMap_append]; simp
theorem octs_succ {j : Nat} {n : Int} : octs (j + 1) n = octs j n ++ [oct n j] := by simp [octs, List.range_succ]
theorem octs_length {j : Nat} {n : Int} : (octs j n).length = j := by simp [octs]
theorem flat_octs_length {w : Nat} {l : List Int} : (l.flatMap (octs w)).length = w * l.length := by
  induction l with
  | nil => simp
  | cons x l ih => simp [ih, octs_length, Nat.mul_succ]; omega
theorem idx_ints {K : IntKind} {l : List Int} {k : Nat} (hk : k < l.length) : (ints K l)[(k : Int).toNat]? = some (.v (.int K l[k])) := by simp [ints, hk]
theorem idx_in {l : List Int} {k : Nat} (hk : k < l.length) : (0 : Int) ≤ k ∧ (k : Int) < l.length := by omega

def takeAcc (w : Int) (bs : List Int) : Nat → Int
  | 0 => 0
  | j + 1 => abits .or .i64 (takeAcc w bs j) (IntKind.i64.wrap (IntKind.i64.wrap (bs.getD j 0) * 2 ^ ((64 - 8 * w).toNat + 8 * j)))
def takeNum (w : Int) (bs : List Int) : Int := (takeAcc w bs w.toNat).fdiv (2 ^ (64 - 8 * w).toNat)
def takeNums (w : Int) : Nat → List Int → List Int
  | 0, _ => []
  | n + 1, bs => takeNum w bs :: takeNums w n (bs.drop w.toNat)
def takeErr (b : List Int) (w n : Int) : Int := if ¬ (1 ≤ w ∧ w ≤ 8) ∨ n < 0 ∨ 65536 < n then 1 else if (b.length : Int) < n * w then 2 else 0
def takeOut (b : List Int) (w n : Int) : List Int := if takeErr b w n = 0 then takeNums w n.toNat b else []
def takeRest (b : List Int) (w n : Int) : List Int := if takeErr b w n = 0 then b.drop (w.toNat * n.toNat) else []
theorem takeNums_snoc (w : Int) : ∀ (k : Nat) (b : List Int), takeNums w (k + 1) b = takeNums w k b ++ [takeNum w (b.drop (w.toNat * k))]
  | 0, b => by simp [takeNums]
  | k + 1, b => by
    rw [takeNums, takeNums_snoc w k, takeNums, List.drop_drop, Nat.mul_succ, Nat.add_comm (w.toNat * k)]; rfl
theorem takeNums_length (w : Int) : ∀ (k : Nat) (b : List Int), (takeNums w k b).length = k
  | 0, b => rfl
  | k + 1, b => by rw [takeNums, List.length_cons, takeNums_length w k]
end Go.Proofs.Ytcbkeekldbggkaa.T

end
section
/- Texts behind one another, plainly. -/
namespace Go.Proofs.Ytcbkeekldbggkaa.T
open Go Go.VL Go.Proofs
/-- The next text, and what is behind it; none: it is not one. -/
def cutStep (c : List Int) : Option (List Int × List Int) :=
  if c.length < 4 ∨ takeNum 4 c < 0 ∨ ((c.drop 4).length : Int) < takeNum 4 c then none else some ((c.drop 4).take (takeNum 4 c).toNat, (c.drop 4).drop (takeNum 4 c).toNat)
def cutL : Nat → List Int → List (List Int)
  | 0, _ => []
  | n + 1, c => if c = [] then [] else match cutStep c with | none => [] | some p => p.1 :: cutL n p.2
def cutOk : Nat → List Int → Bool
  | 0, _ => true
  | n + 1, c => if c = [] then true else match cutStep c with | none => false | some p => cutOk n p.2
/-- What is handed over, one after another. -/
def cutXs : Nat → List Int → List (List D)
  | 0, _ => []
  | n + 1, c => if c = [] then [] else match cutStep c with | none => [[.v (.slice none 0 0), .v (.bool false)]] | some p => [.lst (ints .u8 p.1), .v (.bool true)] :: cutXs n p.2
theorem cutStep_len {c x r : List Int} (h : cutStep c = some (x, r)) : r.length + 4 ≤ c.length ∧ x.length ≤ c.length := by
  unfold cutStep at h
  split at h
  · cases h
  · rename_i hn
    simp only [Option.some.injEq, Prod.mk.injEq] at h
    obtain ⟨rfl, rfl⟩ := h
    simp only [List.length_drop, List.length_take]
    omega
theorem cutXs_get : ∀ {n : Nat} {b : List Int} {k : Nat} {x : List D}, (cutXs n b)[k]? = some x → (x = [.v (.slice none 0 0), .v (.bool false)] ∧ cutOk n b = false) ∨ (∃ t, (cutL n b)[k]? = some t ∧ x = [.lst (ints .u8 t), .v (.bool true)])
  | 0, b, k, x, h => by simp [cutXs] at h
  | n + 1, b, k, x, h => by
    unfold cutXs at h
    split at h
    · simp at h
    · rename_i hb
      cases hs : cutStep b with
      | none =>
        simp only [hs] at h
        cases k with
        | zero => simp at h; exact .inl ⟨h.symm, by simp [cutOk, hb, hs]⟩
        | succ k => simp at h
      | some p =>
        simp only [hs] at h
        cases k with
        | zero => simp at h; exact .inr ⟨p.1, by simp [cutL, hb, hs], h.symm⟩
        | succ k =>
          rw [List.getElem?_cons_succ] at h
          rcases cutXs_get h with ⟨h1, h2⟩ | ⟨t, h1, h2⟩
          · exact .inl ⟨h1, by simp [cutOk, hb, hs, h2]⟩
          · exact .inr ⟨t, by simp [cutL, hb, hs, h1], h2⟩
theorem cutXs_len : ∀ (n : Nat) (b : List Int), (cutXs n b).length = (cutL n b).length + (if cutOk n b then 0 else 1)
  | 0, b => rfl
  | n + 1, b => by
    unfold cutXs cutL cutOk
    split
    · rfl
    · cases hs : cutStep b with
      | none => simp [hs]
      | some p => simp only [hs, List.length_cons, cutXs_len n p.2]; omega
theorem cutL_len : ∀ (n : Nat) (b : List Int), 4 * (cutL n b).length ≤ b.length
  | 0, b => by simp [cutL]
  | n + 1, b => by
    unfold cutL
    split
    · simp
    · cases hs : cutStep b with
      | none => simp [hs]
      | some p =>
        have h1 := (cutStep_len (x := p.1) (r := p.2) hs).1
        have := cutL_len n p.2
        simp only [hs, List.length_cons]; omega
def cutErr (b : List Int) : Int := if 65536 < b.length then 3 else if cutOk b.length b then 0 else 2
def cutOut (b : List Int) : List (List Int) := if cutErr b = 0 then cutL b.length b else []
/-- A text, its length ahead. -/
def textOf (x : List Int) : List Int := octs 4 x.length ++ x
def listAll (l : List (List Int)) : List Int := l.flatMap textOf
def listErr (l : List (List Int)) : Int := if 65536 < (listAll l).length then 3 else 0
def listOut (l : List (List Int)) : List Int := if listErr l = 0 then listAll l else []
end Go.Proofs.Ytcbkeekldbggkaa.T

end
section
set_option linter.unusedSimpArgs false
set_option linter.unusedVariables false
/- Octets of a number, and the number of octets. -/
namespace Go.Proofs.Ytcbkeekldbggkaa.T
open Go Go.VL Go.Proofs
def digs : Nat → Int → List Int
  | 0, _ => []
  | w + 1, n => n % 256 :: digs w (n / 256)
def val : List Int → Int
  | [] => 0
  | c :: cs => c + 256 * val cs
def Octets (l : List Int) : Prop := ∀ c ∈ l, 0 ≤ c ∧ c ≤ 255
theorem digs_octets : ∀ (w : Nat) (n : Int), Octets (digs w n)
  | 0, _ => by intro c h; cases h
  | w + 1, n => by
    intro c h
    rw [digs] at h
    rcases List.mem_cons.1 h with rfl | h
    · omega
    · exact digs_octets w _ c h
theorem oct_eq (n : Int) (i : Nat) : oct n i = n / 256 ^ i % 256 := by
  unfold oct
  rw [IntKind.wrap_u8, Int.fdiv_eq_ediv_of_nonneg _ (Int.pow_nonneg (by decide)), Int.pow_mul]
  rfl
theorem octs_eq : ∀ (w : Nat) (n : Int), octs w n = digs w n
  | 0, _ => rfl
  | w + 1, n => by
    rw [digs, ← octs_eq w]
    unfold octs
    rw [List.range_succ_eq_map, List.map_cons, List.map_map]
    congr 1
    · rw [oct_eq]; simp
    · apply List.map_congr_left
      intro i _
      simp only [Function.comp]
      rw [oct_eq, oct_eq, Nat.succ_eq_add_one, Int.pow_succ, Int.mul_comm, ← Int.ediv_ediv_of_nonneg (by decide)]
theorem val_range : ∀ {l : List Int}, Octets l → 0 ≤ val l ∧ val l < 256 ^ l.length
  | [], _ => by simp [val]
  | c :: l, h => by
    have h1 := val_range (l := l) fun x hx => h x (by simp [hx])
    have h2 := h c (by simp)
    rw [val, List.length_cons, Int.pow_succ]
    omega
theorem digs_val : ∀ {l : List Int}, Octets l → digs l.length (val l) = l
  | [], _ => rfl
  | c :: l, h => by
    have h2 := h c (by simp)
    rw [List.length_cons, digs, val]
    rw [show (c + 256 * val l) % 256 = c by omega, show (c + 256 * val l) / 256 = val l by omega, digs_val fun x hx => h x (by simp [hx])]
theorem digs_mod : ∀ (w : Nat) (n k : Int), digs w (n + k * 256 ^ w) = digs w n
  | 0, _, _ => rfl
  | w + 1, n, k => by
    rw [digs, digs, Int.pow_succ]
    have e : n + k * (256 ^ w * 256) = n + (k * 256 ^ w) * 256 := by rw [Int.mul_assoc]
    rw [e, Int.add_mul_emod_self_right, Int.add_mul_ediv_right _ _ (by decide), digs_mod w]
theorem val_snoc : ∀ (l : List Int) (c : Int), val (l ++ [c]) = val l + 256 ^ l.length * c
  | [], c => by simp [val]
  | d :: l, c => by
    rw [List.cons_append, val, val_snoc l, val, List.length_cons, Int.pow_succ]
    rw [Int.mul_add, Int.add_assoc, ← Int.mul_assoc, Int.mul_comm 256 (256 ^ l.length)]

/-- The number, signed, of so many octets. -/
def sgn (w : Nat) (v : Int) : Int := if v < 2 ^ (8 * w - 1) then v else v - 2 ^ (8 * w)
theorem digs_sgn {l : List Int} (h : Octets l) : digs l.length (sgn l.length (val l)) = l := by
  unfold sgn
  split
  · exact digs_val h
  · have : val l - 2 ^ (8 * l.length) = val l + (-1) * 256 ^ l.length := by rw [Int.pow_mul, show ((2 : Int) ^ 8) = 256 by decide]; omega
    rw [this, digs_mod, digs_val h]
theorem sgn_range {w : Nat} {v : Int} (hw : 1 ≤ w) (h : 0 ≤ v ∧ v < 256 ^ w) : -(2 ^ (8 * w - 1)) ≤ sgn w v ∧ sgn w v < 2 ^ (8 * w - 1) := by
  have e : (256 : Int) ^ w = 2 * 2 ^ (8 * w - 1) := by
    rw [show (256 : Int) = 2 ^ 8 by decide, ← Int.pow_mul, ← Int.pow_succ']
    congr 1
    omega
  have e2 : (2 : Int) ^ (8 * w) = 256 ^ w := by rw [Int.pow_mul]; rfl
  unfold sgn
  rw [e2]
  split <;> omega

theorem bits_of_wrap {X : Nat} (h : X < 2 ^ 64) : (BitVec.ofInt 64 (IntKind.i64.wrap (X : Int))).toNat = X := by
  rw [BitVec.toNat_ofInt, IntKind.wrap_i64]
  simp at h ⊢
  omega
theorem or_add {X c i : Nat} (hX : X < 2 ^ i) (hX2 : X < 2 ^ 64) (hc : c * 2 ^ i < 2 ^ 64) : abits .or .i64 (IntKind.i64.wrap (X : Int)) (IntKind.i64.wrap ((c * 2 ^ i : Nat) : Int)) = IntKind.i64.wrap ((X + c * 2 ^ i : Nat) : Int) := by
  show IntKind.i64.wrap ((BitVec.ofInt 64 _ ||| BitVec.ofInt 64 _).toNat : Int) = _
  rw [BitVec.toNat_or, bits_of_wrap hX2, bits_of_wrap hc, Nat.or_comm, ← Nat.shiftLeft_eq, ← Nat.shiftLeft_add_eq_or_of_lt hX, Nat.add_comm]
/-- What is read of octets, ahead of the shift back. -/
theorem takeAcc_eq {w : Nat} {bs : List Int} (hw : 1 ≤ w ∧ w ≤ 8) (ho : Octets bs) : ∀ (j : Nat), j ≤ w → j ≤ bs.length → takeAcc w bs j = IntKind.i64.wrap (2 ^ (64 - 8 * w) * val (bs.take j))
  | 0, _, _ => by simp [takeAcc, val]; decide
  | j + 1, hj, hl => by
    have ih := takeAcc_eq hw ho j (by omega) (by omega)
    have hc : 0 ≤ bs.getD j 0 ∧ bs.getD j 0 ≤ 255 := by
      have : bs.getD j 0 = bs[j] := by simp [List.getD, show j < bs.length by omega]
      rw [this]; exact ho _ (List.getElem_mem _)
    have hv : val (bs.take (j + 1)) = val (bs.take j) + 256 ^ j * bs.getD j 0 := by
      rw [List.take_succ_eq_append_getElem (by omega), val_snoc, List.length_take, Nat.min_eq_left (by omega)]
      simp [List.getD, show j < bs.length by omega]
    have hr := val_range (l := bs.take j) (fun c h => ho c (List.mem_of_mem_take h))
    rw [List.length_take, Nat.min_eq_left (by omega)] at hr
    rw [takeAcc, ih, hv]
    obtain ⟨V, hV⟩ : ∃ V : Nat, val (bs.take j) = V := ⟨(val (bs.take j)).toNat, by omega⟩
    obtain ⟨c, hcc⟩ : ∃ c : Nat, bs.getD j 0 = c := ⟨(bs.getD j 0).toNat, by omega⟩
    rw [hV] at hr ⊢
    rw [hcc] at hc ⊢
    have e0 : (64 - 8 * (w : Int)).toNat = 64 - 8 * w := by omega
    have e1 : IntKind.i64.wrap (c : Int) = c := IntWalk.i64_in _ (by omega)
    have hVj : V < 256 ^ j := by have h := hr.2; rw [show (256 : Int) ^ j = ((256 ^ j : Nat) : Int) from (Int.natCast_pow 256 j).symm] at h; exact Int.ofNat_lt.1 h
    have hp : 2 ^ (64 - 8 * w) * 256 ^ j = 2 ^ (64 - 8 * w + 8 * j) := by rw [Nat.pow_add, Nat.pow_mul]
    have hX : 2 ^ (64 - 8 * w) * V < 2 ^ (64 - 8 * w + 8 * j) := by
      rw [← hp]; exact Nat.mul_lt_mul_of_pos_left hVj (Nat.pow_pos (by decide))
    have hle : 2 ^ (64 - 8 * w + 8 * j) * 2 ^ 8 ≤ 2 ^ 64 := by
      rw [← Nat.pow_add]; exact Nat.pow_le_pow_right (by decide) (by omega)
    have hcm : c * 2 ^ (64 - 8 * w + 8 * j) < 2 ^ 64 := by
      refine Nat.lt_of_lt_of_le ?_ hle
      rw [Nat.mul_comm]
      exact Nat.mul_lt_mul_of_pos_left (by omega) (Nat.pow_pos (by decide))
    have hX2 : 2 ^ (64 - 8 * w) * V < 2 ^ 64 := by
      exact Nat.lt_of_lt_of_le hX (Nat.le_trans (Nat.le_mul_of_pos_right _ (by decide)) hle)
    have := or_add hX hX2 hcm
    rw [e0, e1]
    have p2 : ∀ q : Nat, ((2 ^ q : Nat) : Int) = (2 : Int) ^ q := fun q => Int.natCast_pow 2 q
    have p3 : ((256 ^ j : Nat) : Int) = (256 : Int) ^ j := Int.natCast_pow 256 j
    rw [Int.natCast_mul, Int.natCast_mul, p2, p2] at this
    rw [this]
    congr 1
    rw [← hp, Int.natCast_add, Int.natCast_mul, Int.natCast_mul, Int.natCast_mul, p2, p3, Int.mul_add, Int.mul_comm (c : Int), Int.mul_assoc]

theorem takeNum_eq {w : Nat} {bs : List Int} (hw : 1 ≤ w ∧ w ≤ 8) (ho : Octets bs) (hl : w ≤ bs.length) : takeNum w bs = sgn w (val (bs.take w)) := by
  have hr := val_range (l := bs.take w) (fun c h => ho c (List.mem_of_mem_take h))
  rw [List.length_take, Nat.min_eq_left hl] at hr
  unfold takeNum sgn
  rw [Int.toNat_natCast, takeAcc_eq hw ho w (Nat.le_refl _) hl, IntKind.wrap_i64, Int.fdiv_eq_ediv_of_nonneg _ (Int.pow_nonneg (by decide))]
  generalize val (bs.take w) = V at *
  have h1 : w = 1 ∨ w = 2 ∨ w = 3 ∨ w = 4 ∨ w = 5 ∨ w = 6 ∨ w = 7 ∨ w = 8 := by omega
  rcases h1 with rfl | rfl | rfl | rfl | rfl | rfl | rfl | rfl
  all_goals
    simp at hr ⊢
    split <;> omega
theorem putFit_iff {w : Nat} {n : Int} (hn : -9223372036854775808 ≤ n ∧ n ≤ 9223372036854775807) (hw : 1 ≤ w ∧ w ≤ 8) : putFit w n = true ↔ -(2 ^ (8 * w - 1)) ≤ n ∧ n < 2 ^ (8 * w - 1) := by
  have h : w = 1 ∨ w = 2 ∨ w = 3 ∨ w = 4 ∨ w = 5 ∨ w = 6 ∨ w = 7 ∨ w = 8 := by omega
  unfold putFit
  rw [IntKind.wrap_i64, beq_iff_eq, Int.fdiv_eq_ediv_of_nonneg _ (Int.pow_nonneg (by decide))]
  rcases h with rfl | rfl | rfl | rfl | rfl | rfl | rfl | rfl
  all_goals
    simp
    omega
theorem octs_octets (w : Nat) (n : Int) : Octets (octs w n) := by rw [octs_eq]; exact digs_octets w n
theorem Octets.append {a b : List Int} (ha : Octets a) (hb : Octets b) : Octets (a ++ b) := fun c h => (List.mem_append.1 h).elim (ha c) (hb c)
theorem Octets.drop {a : List Int} (ha : Octets a) (n : Nat) : Octets (a.drop n) := fun c h => ha c (List.mem_of_mem_drop h)
theorem Octets.take {a : List Int} (ha : Octets a) (n : Nat) : Octets (a.take n) := fun c h => ha c (List.mem_of_mem_take h)
/-- What is taken is put. -/
theorem octs_takeNum {w : Nat} {bs : List Int} (hw : 1 ≤ w ∧ w ≤ 8) (ho : Octets bs) (hl : w ≤ bs.length) : octs w (takeNum w bs) = bs.take w ∧ putFit w (takeNum w bs) = true ∧ (-9223372036854775808 ≤ takeNum w bs ∧ takeNum w bs ≤ 9223372036854775807) := by
  have hlen : (bs.take w).length = w := by simp; omega
  have hr := val_range (ho.take w)
  rw [hlen] at hr
  have hs := sgn_range hw.1 hr
  have hp : (2 : Int) ^ (8 * w - 1) ≤ 2 ^ 63 := by exact_mod_cast Nat.pow_le_pow_right (by decide : 0 < 2) (by omega : 8 * w - 1 ≤ 63)
  have hp' : (2 : Int) ^ 63 = 9223372036854775808 := by decide
  rw [takeNum_eq hw ho hl]
  refine ⟨?_, (putFit_iff (by omega) hw).2 hs, by omega⟩
  have := digs_sgn (ho.take w)
  rw [hlen] at this
  rw [octs_eq, this]
theorem strOfNums_inj : ∀ {a b : List Int}, Octets a → Octets b → ((strOfNums a).toList == (strOfNums b).toList) = decide (a = b) := by
  intro a b ha hb
  have key : ∀ {a b : List Int}, Octets a → Octets b → (a.map fun n => UInt8.ofNat n.toNat) = (b.map fun n => UInt8.ofNat n.toNat) → a = b := by
    intro a
    induction a with
    | nil => intro b _ _ h; cases b with
      | nil => rfl
      | cons y b => simp at h
    | cons x a ih =>
      intro b ha hb h
      cases b with
      | nil => simp at h
      | cons y b =>
        simp only [List.map_cons, List.cons.injEq] at h
        have h1 := ha x (by simp)
        have h2 := hb y (by simp)
        have h3 : x = y := by
          have := congrArg UInt8.toNat h.1
          simp at this
          omega
        rw [h3, ih (fun c hc => ha c (by simp [hc])) (fun c hc => hb c (by simp [hc])) h.2]
  have hto : ∀ l : List Int, (strOfNums l).toList = l.map fun n => UInt8.ofNat n.toNat := by
    intro l
    show (strOfNums l).toList = _
    have : ∀ x : ByteArray, x.toList = x.data.toList := by intro x; exact ByteArray.toList_eq x
    rw [this]; rfl
  rw [hto, hto, Bool.eq_iff_iff, beq_iff_eq, decide_eq_true_eq]
  exact ⟨key ha hb, fun h => by rw [h]⟩
end Go.Proofs.Ytcbkeekldbggkaa.T

end
section
/- What is cut is listed, and the other way about. -/
namespace Go.Proofs.Ytcbkeekldbggkaa.T
open Go Go.VL Go.Proofs
theorem textOf_octets {x : List Int} (h : Octets x) : Octets (textOf x) := Octets.append (octs_octets 4 _) h
theorem listAll_octets {l : List (List Int)} (h : ∀ x ∈ l, Octets x) : Octets (listAll l) := by
  intro c hc
  obtain ⟨x, hx, hc⟩ := List.mem_flatMap.1 hc
  exact textOf_octets (h x hx) c hc
theorem cutStep_some {c x r : List Int} (ho : Octets c) (h : cutStep c = some (x, r)) : c = textOf x ++ r ∧ Octets x ∧ Octets r := by
  unfold cutStep at h
  split at h
  · cases h
  · rename_i hn
    simp only [Option.some.injEq, Prod.mk.injEq] at h
    obtain ⟨rfl, rfl⟩ := h
    obtain ⟨h1, _⟩ := octs_takeNum (w := 4) (by decide) ho (by omega)
    have h1 : octs 4 (takeNum 4 c) = c.take 4 := h1
    refine ⟨?_, (ho.drop 4).take _, (ho.drop 4).drop _⟩
    have hl : ((((c.drop 4).take (takeNum 4 c).toNat).length : Nat) : Int) = takeNum 4 c := by rw [List.length_take]; omega
    unfold textOf
    rw [hl, h1, List.append_assoc, List.take_append_drop, List.take_append_drop]
theorem cutL_octets : ∀ (n : Nat) (b : List Int), Octets b → ∀ x ∈ cutL n b, Octets x
  | 0, b, _, x, hx => by simp [cutL] at hx
  | n + 1, b, ho, x, hx => by
    unfold cutL at hx
    split at hx
    · simp at hx
    · cases hs : cutStep b with
      | none => simp [hs] at hx
      | some p =>
        obtain ⟨y, r⟩ := p
        obtain ⟨h1, h2, h3⟩ := cutStep_some ho hs
        simp only [hs, List.mem_cons] at hx
        rcases hx with rfl | hx
        · exact h2
        · exact cutL_octets n r h3 x hx
end Go.Proofs.Ytcbkeekldbggkaa.T

end
section
/- What is left to cut, step by step. -/
namespace Go.Proofs.Ytcbkeekldbggkaa.T
open Go Go.VL Go.Proofs
theorem cutL_succ {m : Nat} {c : List Int} : cutL (m + 1) c = if c = [] then [] else match cutStep c with | none => [] | some p => p.1 :: cutL m p.2 := rfl
theorem cutOk_succ {m : Nat} {c : List Int} : cutOk (m + 1) c = if c = [] then true else match cutStep c with | none => false | some p => cutOk m p.2 := rfl
def cutRest : Nat → List Int → List Int
  | 0, c => c
  | k + 1, c => match cutStep (cutRest k c) with | none => [] | some p => p.2
theorem cutRest_len (b : List Int) : ∀ k, (cutRest k b).length ≤ b.length
  | 0 => Nat.le_refl _
  | k + 1 => by
    unfold cutRest
    have := cutRest_len b k
    cases hs : cutStep (cutRest k b) with
    | none => simp
    | some p => have := (cutStep_len (x := p.1) (r := p.2) hs).1; simp only; omega
theorem cutRest_octets {b : List Int} (ho : Octets b) : ∀ k, Octets (cutRest k b)
  | 0 => ho
  | k + 1 => by
    unfold cutRest
    cases hs : cutStep (cutRest k b) with
    | none => intro c hc; simp at hc
    | some p => exact (cutStep_some (x := p.1) (r := p.2) (cutRest_octets ho k) hs).2.2
theorem cutRest_inv {n : Nat} {b : List Int} (hb : b.length ≤ n) : ∀ k, k ≤ (cutL n b).length → ∃ m, (cutRest k b).length ≤ m ∧ (cutL n b).drop k = cutL m (cutRest k b) ∧ cutOk n b = cutOk m (cutRest k b)
  | 0, _ => ⟨n, hb, rfl, rfl⟩
  | k + 1, hk => by
    obtain ⟨m, h1, h2, h3⟩ := cutRest_inv hb k (by omega)
    have hne : cutL m (cutRest k b) ≠ [] := fun q => by
      have := congrArg List.length (h2.trans q); rw [List.length_drop, List.length_nil] at this; omega
    have hr : cutRest (k + 1) b = match cutStep (cutRest k b) with | none => [] | some p => p.2 := rfl
    rw [hr]
    generalize cutRest k b = c at *
    cases m with
    | zero => exact absurd rfl hne
    | succ m =>
      rw [cutL_succ] at hne h2
      rw [cutOk_succ] at h3
      by_cases hc : c = []
      · rw [if_pos hc] at hne; exact absurd rfl hne
      · rw [if_neg hc] at hne h2 h3
        cases hs : cutStep c with
        | none => rw [hs] at hne; exact absurd rfl hne
        | some p =>
          simp only [hs] at h2 h3 ⊢
          refine ⟨m, by have := (cutStep_len (x := p.1) (r := p.2) hs).1; omega, ?_, h3⟩
          rw [← List.drop_drop, h2]; rfl
theorem cutAt {n : Nat} {b : List Int} (hb : b.length ≤ n) {k : Nat} (hk : k ≤ (cutL n b).length) :
    (cutRest k b = [] ∧ k = (cutL n b).length ∧ cutOk n b = true) ∨ (cutRest k b ≠ [] ∧ cutStep (cutRest k b) = none ∧ k = (cutL n b).length ∧ cutOk n b = false) ∨
    (∃ x r, cutRest k b ≠ [] ∧ cutStep (cutRest k b) = some (x, r) ∧ k < (cutL n b).length ∧ (cutL n b).take (k + 1) = (cutL n b).take k ++ [x] ∧ cutRest (k + 1) b = r) := by
  obtain ⟨m, h1, h2, h3⟩ := cutRest_inv hb k hk
  have hlen := congrArg List.length h2
  rw [List.length_drop] at hlen
  by_cases hc : cutRest k b = []
  · left
    rw [hc] at hlen h3
    refine ⟨hc, ?_, ?_⟩
    · have : (cutL m []).length = 0 := by cases m <;> rfl
      omega
    · rw [h3]; cases m <;> rfl
  · right
    cases m with
    | zero => exact absurd (List.length_eq_zero_iff.1 (by omega)) hc
    | succ m =>
      rw [cutL_succ] at hlen h2
      rw [cutOk_succ] at h3
      rw [if_neg hc] at hlen h2 h3
      cases hs : cutStep (cutRest k b) with
      | none =>
        simp only [hs, List.length_nil] at hlen h3
        exact .inl ⟨hc, rfl, by omega, h3⟩
      | some p =>
        simp only [hs, List.length_cons] at hlen h2
        have hk2 : k < (cutL n b).length := by omega
        refine .inr ⟨p.1, p.2, hc, rfl, hk2, ?_, ?_⟩
        · have := congrArg (fun l => l[0]?) h2
          simp only [List.getElem?_drop, Nat.add_zero, List.getElem?_cons_zero] at this
          rw [List.take_add_one, this]; rfl
        · show (match cutStep (cutRest k b) with | none => [] | some p => p.2) = p.2
          rw [hs]
end Go.Proofs.Ytcbkeekldbggkaa.T

end
section
/- Check sums, plainly: a step keeps exclusive or. -/
namespace Go.Proofs.Ytcbkeekldbggkaa.T
open Go Go.VL Go.Proofs
def crcBit (r : BitVec 32) : BitVec 32 := (r >>> 1) ^^^ (if r.getLsbD 0 then 0xedb88320#32 else 0#32)
def crcBits : Nat → BitVec 32 → BitVec 32
  | 0, r => r
  | n + 1, r => crcBit (crcBits n r)
def crcOct (r c : BitVec 32) : BitVec 32 := crcBits 8 (r ^^^ c)
def w32 (n : Int) : BitVec 32 := BitVec.ofInt 32 n
def crcAll (l : List Int) (r : BitVec 32) : BitVec 32 := l.foldl (fun r c => crcOct r (w32 c)) r
def crcSum (l : List Int) : BitVec 32 := ~~~ (crcAll l (BitVec.allOnes 32))
/-- What the machine's numbers do. -/
theorem ofInt_nat (x : BitVec 32) : BitVec.ofInt 32 (x.toNat : Int) = x := by simp
theorem abits_u32_and (x y : BitVec 32) : abits .and .u32 x.toNat y.toNat = ((x &&& y).toNat : Int) := by
  unfold abits
  simp only [IntKind.bits, ofInt_nat]
  exact IntWalk.u32_in _ (by have := (x &&& y).isLt; omega)
theorem abits_u32_xor (x y : BitVec 32) : abits .xor .u32 x.toNat y.toNat = ((x ^^^ y).toNat : Int) := by
  unfold abits
  simp only [IntKind.bits, ofInt_nat]
  exact IntWalk.u32_in _ (by have := (x ^^^ y).isLt; omega)
theorem u32_neg_nat (x : BitVec 32) : IntKind.u32.wrap (0 - (x.toNat : Int)) = ((-x).toNat : Int) := by
  rw [IntKind.wrap_u32, BitVec.toNat_neg]
  have := x.isLt
  omega
theorem u32_shr1 (x : BitVec 32) : (x.toNat : Int).fdiv 2 = ((x >>> 1).toNat : Int) := by
  rw [Int.fdiv_eq_ediv_of_nonneg _ (by decide), BitVec.toNat_ushiftRight, Nat.shiftRight_eq_div_pow]
  rfl
theorem crcBit_int (x : BitVec 32) : abits .xor .u32 ((x.toNat : Int).fdiv 2) (abits .and .u32 3988292384 (IntKind.u32.wrap (0 - abits .and .u32 x.toNat 1))) = ((crcBit x).toNat : Int) := by
  have h1 : (1 : Int) = ((1#32).toNat : Int) := rfl
  have h2 : (3988292384 : Int) = ((0xedb88320#32).toNat : Int) := rfl
  rw [h1, h2, abits_u32_and, u32_neg_nat, abits_u32_and, u32_shr1, abits_u32_xor]
  congr 2
  unfold crcBit
  congr 1
  have h : x &&& 1#32 = if x.getLsbD 0 then 1#32 else 0#32 := by
    apply BitVec.eq_of_getLsbD_eq
    intro i hi
    rw [BitVec.getLsbD_and]
    rcases Nat.eq_zero_or_pos i with rfl | h0
    · cases x.getLsbD 0 <;> rfl
    · have : (1#32).getLsbD i = false := by rw [BitVec.getLsbD_one]; simp; omega
      rw [this, Bool.and_false]
      split
      · rw [this]
      · simp
  rw [h]
  split <;> decide
theorem w32_nat (c : Int) : IntKind.u32.wrap c = ((w32 c).toNat : Int) := by
  rw [IntKind.wrap_u32]
  unfold w32
  rw [BitVec.toNat_ofInt]
  omega
theorem crc_in (x : BitVec 32) (c : Int) : abits .xor .u32 x.toNat (IntKind.u32.wrap c) = ((x ^^^ w32 c).toNat : Int) := by rw [w32_nat, abits_u32_xor]
theorem crc_out (x : BitVec 32) : abits .xor .u32 (if IntKind.u32.signed = true then -1 else IntKind.u32.max) x.toNat = ((~~~x).toNat : Int) := by
  have h : (if IntKind.u32.signed = true then (-1 : Int) else IntKind.u32.max) = ((BitVec.allOnes 32).toNat : Int) := rfl
  rw [h, abits_u32_xor, BitVec.xor_comm, BitVec.xor_allOnes]
theorem crcAll_succ {b : List Int} {k : Nat} (hk : k < b.length) (o : BitVec 32) : crcAll (b.take (k + 1)) o = crcOct (crcAll (b.take k) o) (w32 (b.getD k 0)) := by
  unfold crcAll
  rw [List.take_succ_eq_append_getElem hk, List.foldl_append]
  simp [List.getD, hk]
end Go.Proofs.Ytcbkeekldbggkaa.T

end
section
/- The document's check sum, bit by bit. -/
namespace Go.Proofs.Ytcbkeekldbggkaa.T
open Go Go.VL Go.Proofs
def docR (c : BitVec 32) (i : Nat) (r : BitVec 32) : BitVec 32 := crcBits i (r ^^^ c) ^^^ (c >>> i)
theorem docR_zero (c r : BitVec 32) : docR c 0 r = r := by
  unfold docR crcBits
  rw [BitVec.xor_assoc]; simp
theorem docR_succ (c r : BitVec 32) (i : Nat) : docR c (i + 1) r = (docR c i r >>> 1) ^^^ (if (docR c i r).getLsbD 0 != (c >>> i).getLsbD 0 then 0xedb88320#32 else 0#32) := by
  unfold docR
  simp only [crcBits]
  generalize crcBits i (r ^^^ c) = y
  generalize hd : c >>> i = d
  have h1 : c >>> (i + 1) = d >>> 1 := by rw [← hd]; apply BitVec.eq_of_toNat_eq; simp [Nat.shiftRight_add]
  rw [h1]
  unfold crcBit
  rw [BitVec.getLsbD_xor, BitVec.ushiftRight_xor_distrib]
  have hb : (Bool.xor (y.getLsbD 0) (d.getLsbD 0) != d.getLsbD 0) = y.getLsbD 0 := by cases y.getLsbD 0 <;> cases d.getLsbD 0 <;> rfl
  rw [hb]
  ac_rfl
theorem w32_shr8 {c : Int} (h : 0 ≤ c ∧ c ≤ 255) : w32 c >>> 8 = 0#32 := by
  obtain ⟨n, rfl⟩ : ∃ n : Nat, c = n := ⟨c.toNat, by omega⟩
  apply BitVec.eq_of_toNat_eq
  simp [w32, Nat.shiftRight_eq_div_pow]
  omega
theorem docR_8 {c : Int} (h : 0 ≤ c ∧ c ≤ 255) (r : BitVec 32) : docR (w32 c) 8 r = crcOct r (w32 c) := by
  unfold docR crcOct
  rw [w32_shr8 h, BitVec.xor_zero]
theorem lsb_mod (x : BitVec 32) : (x.toNat : Int) % 2 = if x.getLsbD 0 then 1 else 0 := by
  have : x.getLsbD 0 = decide (x.toNat % 2 = 1) := by
    rw [BitVec.getLsbD, Nat.testBit_zero]
  rw [this]
  by_cases h : x.toNat % 2 = 1
  · simp [h]; omega
  · simp [h]; omega
theorem w32_bit {c : Int} (h : 0 ≤ c ∧ c ≤ 255) (i : Nat) : c / 2 ^ i = ((w32 c >>> i).toNat : Int) := by
  obtain ⟨n, rfl⟩ : ∃ n : Nat, c = n := ⟨c.toNat, by omega⟩
  simp only [w32, BitVec.toNat_ushiftRight, BitVec.ofInt_natCast, BitVec.toNat_ofNat, Nat.shiftRight_eq_div_pow]
  rw [Nat.mod_eq_of_lt (by omega)]
  simp
theorem doc_bit {c : Int} (h : 0 ≤ c ∧ c ≤ 255) (j : Nat) : (IntKind.u32.wrap (c.fdiv (2 ^ j))).tmod 2 = ((w32 c >>> j).toNat : Int) % 2 := by
  rw [Int.fdiv_eq_ediv_of_nonneg _ (Int.le_of_lt (Int.pow_pos (by decide))), w32_bit h, w32_nat]
  rw [show w32 (((w32 c >>> j).toNat : Nat) : Int) = w32 c >>> j from ofInt_nat _]
  exact Int.tmod_eq_emod_of_nonneg (by omega)
theorem half_nat (x : BitVec 32) : (x.toNat : Int) / (2 : Int) = ((x >>> 1).toNat : Int) := by
  rw [← u32_shr1, Int.fdiv_eq_ediv_of_nonneg _ (by decide)]
theorem doc_yes {c : Int} (h : 0 ≤ c ∧ c ≤ 255) {j : Nat} {r : BitVec 32} (hq : ((docR (w32 c) j r).toNat : Int) % 2 ≠ (IntKind.u32.wrap (c.fdiv (2 ^ j))).tmod 2) :
    abits .xor .u32 (((docR (w32 c) j r).toNat : Int) / 2) 3988292384 = ((docR (w32 c) (j + 1) r).toNat : Int) := by
  rw [doc_bit h, lsb_mod, lsb_mod] at hq
  have hb : ((docR (w32 c) j r).getLsbD 0 != (w32 c >>> j).getLsbD 0) = true := by
    cases h1 : (docR (w32 c) j r).getLsbD 0 <;> cases h2 : (w32 c >>> j).getLsbD 0 <;> simp_all
  rw [docR_succ, hb, if_pos rfl, half_nat]
  exact abits_u32_xor _ (0xedb88320#32)
theorem doc_no {c : Int} (h : 0 ≤ c ∧ c ≤ 255) {j : Nat} {r : BitVec 32} (hq : ((docR (w32 c) j r).toNat : Int) % 2 = (IntKind.u32.wrap (c.fdiv (2 ^ j))).tmod 2) :
    ((docR (w32 c) j r).toNat : Int) / 2 = ((docR (w32 c) (j + 1) r).toNat : Int) := by
  rw [doc_bit h, lsb_mod, lsb_mod] at hq
  have hb : ((docR (w32 c) j r).getLsbD 0 != (w32 c >>> j).getLsbD 0) = false := by
    cases h1 : (docR (w32 c) j r).getLsbD 0 <;> cases h2 : (w32 c >>> j).getLsbD 0 <;> simp_all
  rw [docR_succ, hb, if_neg (by decide), BitVec.xor_zero, half_nat]
theorem doc_end (b : List Int) : 4294967295 - ((crcAll b (BitVec.allOnes 32)).toNat : Int) = ((crcSum b).toNat : Int) := by
  unfold crcSum
  have := (crcAll b (BitVec.allOnes 32)).isLt
  rw [BitVec.toNat_not]; omega
end Go.Proofs.Ytcbkeekldbggkaa.T

end
section
set_option linter.defProp false
namespace Go.Proofs.Ytcbkeekldbggkaa.T
open Go Go.VL Go.Proofs
theorem fact_ok2 : okT Try.prog 2 = true := by kernel_rfl
theorem fact_cells2 : Program.cellsOf Try.prog 2 = 1 := by kernel_rfl
theorem fact_bytes2 : Program.bytesOf Try.prog 2 = 8 := by kernel_rfl
theorem fact_agg2 : aggT Try.prog 2 = false := by kernel_rfl
theorem fact_und2 : (Program.underlying Try.prog 2).isSome = true := by kernel_rfl
theorem fact_int2 : intT Try.prog 2 = some .i64 := by kernel_rfl
theorem fact_zok2 : zeroOK Try.prog 2 = true := by kernel_rfl
theorem fact_zero2 : zeroT Try.prog 2 = some (.int .i64 0) := by kernel_rfl
theorem fact_ok3 : okT Try.prog 3 = true := by kernel_rfl
theorem fact_cells3 : Program.cellsOf Try.prog 3 = 1 := by kernel_rfl
theorem fact_bytes3 : Program.bytesOf Try.prog 3 = 8 := by kernel_rfl
theorem fact_agg3 : aggT Try.prog 3 = false := by kernel_rfl
theorem fact_und3 : (Program.underlying Try.prog 3).isSome = true := by kernel_rfl
theorem fact_int3 : intT Try.prog 3 = some .i64 := by kernel_rfl
theorem fact_zok3 : zeroOK Try.prog 3 = true := by kernel_rfl
theorem fact_zero3 : zeroT Try.prog 3 = some (.int .i64 0) := by kernel_rfl
theorem fact_ok4 : okT Try.prog 4 = true := by kernel_rfl
theorem fact_cells4 : Program.cellsOf Try.prog 4 = 1 := by kernel_rfl
theorem fact_bytes4 : Program.bytesOf Try.prog 4 = 1 := by kernel_rfl
theorem fact_agg4 : aggT Try.prog 4 = false := by kernel_rfl
theorem fact_und4 : (Program.underlying Try.prog 4).isSome = true := by kernel_rfl
theorem fact_int4 : intT Try.prog 4 = none := by kernel_rfl
theorem fact_bool4 : isBoolT Try.prog 4 = true := by kernel_rfl
theorem fact_zok4 : zeroOK Try.prog 4 = true := by kernel_rfl
theorem fact_zero4 : zeroT Try.prog 4 = some (.bool false) := by kernel_rfl
theorem fact_ok5 : okT Try.prog 5 = true := by kernel_rfl
theorem fact_cells5 : Program.cellsOf Try.prog 5 = 1 := by kernel_rfl
theorem fact_bytes5 : Program.bytesOf Try.prog 5 = 1 := by kernel_rfl
theorem fact_agg5 : aggT Try.prog 5 = false := by kernel_rfl
theorem fact_und5 : (Program.underlying Try.prog 5).isSome = true := by kernel_rfl
theorem fact_int5 : intT Try.prog 5 = some .u8 := by kernel_rfl
theorem fact_zok5 : zeroOK Try.prog 5 = true := by kernel_rfl
theorem fact_zero5 : zeroT Try.prog 5 = some (.int .u8 0) := by kernel_rfl
theorem fact_ok9 : okT Try.prog 9 = true := by kernel_rfl
theorem fact_cells9 : Program.cellsOf Try.prog 9 = 1 := by kernel_rfl
theorem fact_bytes9 : Program.bytesOf Try.prog 9 = 16 := by kernel_rfl
theorem fact_agg9 : aggT Try.prog 9 = false := by kernel_rfl
theorem fact_und9 : (Program.underlying Try.prog 9).isSome = true := by kernel_rfl
theorem fact_int9 : intT Try.prog 9 = none := by kernel_rfl
theorem fact_str9 : strT Try.prog 9 = true := by kernel_rfl
theorem fact_zok9 : zeroOK Try.prog 9 = true := by kernel_rfl
theorem fact_zero9 : zeroT Try.prog 9 = some (.string ⟨#[]⟩) := by kernel_rfl
theorem fact_ok12 : okT Try.prog 12 = true := by kernel_rfl
theorem fact_cells12 : Program.cellsOf Try.prog 12 = 1 := by kernel_rfl
theorem fact_bytes12 : Program.bytesOf Try.prog 12 = 8 := by kernel_rfl
theorem fact_agg12 : aggT Try.prog 12 = false := by kernel_rfl
theorem fact_und12 : (Program.underlying Try.prog 12).isSome = true := by kernel_rfl
theorem fact_int12 : intT Try.prog 12 = some .u64 := by kernel_rfl
theorem fact_zok12 : zeroOK Try.prog 12 = true := by kernel_rfl
theorem fact_zero12 : zeroT Try.prog 12 = some (.int .u64 0) := by kernel_rfl
theorem fact_ok21 : okT Try.prog 21 = true := by kernel_rfl
theorem fact_cells21 : Program.cellsOf Try.prog 21 = 1 := by kernel_rfl
theorem fact_bytes21 : Program.bytesOf Try.prog 21 = 4 := by kernel_rfl
theorem fact_agg21 : aggT Try.prog 21 = false := by kernel_rfl
theorem fact_und21 : (Program.underlying Try.prog 21).isSome = true := by kernel_rfl
theorem fact_int21 : intT Try.prog 21 = some .i32 := by kernel_rfl
theorem fact_zok21 : zeroOK Try.prog 21 = true := by kernel_rfl
theorem fact_zero21 : zeroT Try.prog 21 = some (.int .i32 0) := by kernel_rfl
theorem fact_ok22 : okT Try.prog 22 = true := by kernel_rfl
theorem fact_cells22 : Program.cellsOf Try.prog 22 = 1 := by kernel_rfl
theorem fact_bytes22 : Program.bytesOf Try.prog 22 = 24 := by kernel_rfl
theorem fact_agg22 : aggT Try.prog 22 = false := by kernel_rfl
theorem fact_und22 : (Program.underlying Try.prog 22).isSome = true := by kernel_rfl
theorem fact_int22 : intT Try.prog 22 = none := by kernel_rfl
theorem fact_el22 : elT Try.prog 22 = some 23 := by kernel_rfl
theorem fact_sl22 : sliceT Try.prog 22 = true := by kernel_rfl
theorem fact_zok22 : zeroOK Try.prog 22 = true := by kernel_rfl
theorem fact_zero22 : zeroT Try.prog 22 = some (.slice none 0 0) := by kernel_rfl
theorem fact_ok23 : okT Try.prog 23 = true := by kernel_rfl
theorem fact_cells23 : Program.cellsOf Try.prog 23 = 1 := by kernel_rfl
theorem fact_bytes23 : Program.bytesOf Try.prog 23 = 24 := by kernel_rfl
theorem fact_agg23 : aggT Try.prog 23 = false := by kernel_rfl
theorem fact_und23 : (Program.underlying Try.prog 23).isSome = true := by kernel_rfl
theorem fact_int23 : intT Try.prog 23 = none := by kernel_rfl
theorem fact_el23 : elT Try.prog 23 = some 5 := by kernel_rfl
theorem fact_sl23 : sliceT Try.prog 23 = true := by kernel_rfl
theorem fact_zok23 : zeroOK Try.prog 23 = true := by kernel_rfl
theorem fact_zero23 : zeroT Try.prog 23 = some (.slice none 0 0) := by kernel_rfl
theorem fact_ok25 : okT Try.prog 25 = true := by kernel_rfl
theorem fact_cells25 : Program.cellsOf Try.prog 25 = 1 := by kernel_rfl
theorem fact_bytes25 : Program.bytesOf Try.prog 25 = 8 := by kernel_rfl
theorem fact_agg25 : aggT Try.prog 25 = false := by kernel_rfl
theorem fact_und25 : (Program.underlying Try.prog 25).isSome = true := by kernel_rfl
theorem fact_int25 : intT Try.prog 25 = some .i64 := by kernel_rfl
theorem fact_zok25 : zeroOK Try.prog 25 = true := by kernel_rfl
theorem fact_zero25 : zeroT Try.prog 25 = some (.int .i64 0) := by kernel_rfl
theorem fact_ok32 : okT Try.prog 32 = true := by kernel_rfl
theorem fact_cells32 : Program.cellsOf Try.prog 32 = 1 := by kernel_rfl
theorem fact_bytes32 : Program.bytesOf Try.prog 32 = 4 := by kernel_rfl
theorem fact_agg32 : aggT Try.prog 32 = false := by kernel_rfl
theorem fact_und32 : (Program.underlying Try.prog 32).isSome = true := by kernel_rfl
theorem fact_int32 : intT Try.prog 32 = some .u32 := by kernel_rfl
theorem fact_zok32 : zeroOK Try.prog 32 = true := by kernel_rfl
theorem fact_zero32 : zeroT Try.prog 32 = some (.int .u32 0) := by kernel_rfl
theorem fact_ok37 : okT Try.prog 37 = true := by kernel_rfl
theorem fact_cells37 : Program.cellsOf Try.prog 37 = 1 := by kernel_rfl
theorem fact_bytes37 : Program.bytesOf Try.prog 37 = 24 := by kernel_rfl
theorem fact_agg37 : aggT Try.prog 37 = false := by kernel_rfl
theorem fact_und37 : (Program.underlying Try.prog 37).isSome = true := by kernel_rfl
theorem fact_int37 : intT Try.prog 37 = none := by kernel_rfl
theorem fact_el37 : elT Try.prog 37 = some 2 := by kernel_rfl
theorem fact_sl37 : sliceT Try.prog 37 = true := by kernel_rfl
theorem fact_zok37 : zeroOK Try.prog 37 = true := by kernel_rfl
theorem fact_zero37 : zeroT Try.prog 37 = some (.slice none 0 0) := by kernel_rfl
theorem fact_ok43 : okT Try.prog 43 = true := by kernel_rfl
theorem fact_cells43 : Program.cellsOf Try.prog 43 = 1 := by kernel_rfl
theorem fact_bytes43 : Program.bytesOf Try.prog 43 = 8 := by kernel_rfl
theorem fact_agg43 : aggT Try.prog 43 = false := by kernel_rfl
theorem fact_und43 : (Program.underlying Try.prog 43).isSome = true := by kernel_rfl
theorem fact_int43 : intT Try.prog 43 = some .u64 := by kernel_rfl
theorem fact_zok43 : zeroOK Try.prog 43 = true := by kernel_rfl
theorem fact_zero43 : zeroT Try.prog 43 = some (.int .u64 0) := by kernel_rfl
theorem fact_ok48 : okT Try.prog 48 = true := by kernel_rfl
theorem fact_cells48 : Program.cellsOf Try.prog 48 = 1 := by kernel_rfl
theorem fact_bytes48 : Program.bytesOf Try.prog 48 = 8 := by kernel_rfl
theorem fact_agg48 : aggT Try.prog 48 = false := by kernel_rfl
theorem fact_und48 : (Program.underlying Try.prog 48).isSome = true := by kernel_rfl
theorem fact_int48 : intT Try.prog 48 = some .u64 := by kernel_rfl
theorem fact_zok48 : zeroOK Try.prog 48 = true := by kernel_rfl
theorem fact_zero48 : zeroT Try.prog 48 = some (.int .u64 0) := by kernel_rfl
theorem cal4 : callable Try.prog 4 = true := by kernel_rfl
theorem cal5 : callable Try.prog 5 = true := by kernel_rfl
theorem cal6 : callable Try.prog 6 = true := by kernel_rfl
theorem cal7 : callable Try.prog 7 = true := by kernel_rfl
theorem cal8 : callable Try.prog 8 = true := by kernel_rfl
theorem cal9 : callable Try.prog 9 = true := by kernel_rfl
theorem cal10 : callable Try.prog 10 = true := by kernel_rfl
theorem cal11 : callable Try.prog 11 = true := by kernel_rfl
theorem cal12 : callable Try.prog 12 = true := by kernel_rfl
theorem cal13 : callable Try.prog 13 = true := by kernel_rfl
theorem cal14 : callable Try.prog 14 = true := by kernel_rfl
theorem cal15 : callable Try.prog 15 = true := by kernel_rfl
theorem cal16 : callable Try.prog 16 = true := by kernel_rfl
theorem cal17 : callable Try.prog 17 = true := by kernel_rfl
theorem cal18 : callable Try.prog 18 = true := by kernel_rfl
theorem cal19 : callable Try.prog 19 = true := by kernel_rfl
theorem cal20 : callable Try.prog 20 = true := by kernel_rfl
theorem cal22 : callable Try.prog 22 = true := by kernel_rfl
theorem mixed : Try.prog.follows .mixedOrders = true := by kernel_rfl
def factsT2 := (And.intro (And.intro (And.intro fact_ok2 fact_cells2) (And.intro fact_bytes2 fact_agg2)) (And.intro (And.intro fact_und2 fact_int2) (And.intro fact_zok2 fact_zero2)))
def factsT3 := (And.intro (And.intro (And.intro fact_ok3 fact_cells3) (And.intro fact_bytes3 fact_agg3)) (And.intro (And.intro fact_und3 fact_int3) (And.intro fact_zok3 fact_zero3)))
def factsT4 := (And.intro (And.intro (And.intro fact_ok4 fact_cells4) (And.intro fact_bytes4 fact_agg4)) (And.intro (And.intro fact_und4 fact_int4) (And.intro fact_bool4 (And.intro fact_zok4 fact_zero4))))
def factsT5 := (And.intro (And.intro (And.intro fact_ok5 fact_cells5) (And.intro fact_bytes5 fact_agg5)) (And.intro (And.intro fact_und5 fact_int5) (And.intro fact_zok5 fact_zero5)))
def factsT9 := (And.intro (And.intro (And.intro fact_ok9 fact_cells9) (And.intro fact_bytes9 fact_agg9)) (And.intro (And.intro fact_und9 fact_int9) (And.intro fact_str9 (And.intro fact_zok9 fact_zero9))))
def factsT12 := (And.intro (And.intro (And.intro fact_ok12 fact_cells12) (And.intro fact_bytes12 fact_agg12)) (And.intro (And.intro fact_und12 fact_int12) (And.intro fact_zok12 fact_zero12)))
def factsT21 := (And.intro (And.intro (And.intro fact_ok21 fact_cells21) (And.intro fact_bytes21 fact_agg21)) (And.intro (And.intro fact_und21 fact_int21) (And.intro fact_zok21 fact_zero21)))
def factsT22 := (And.intro (And.intro (And.intro fact_ok22 fact_cells22) (And.intro fact_bytes22 (And.intro fact_agg22 fact_und22))) (And.intro (And.intro fact_int22 fact_el22) (And.intro fact_sl22 (And.intro fact_zok22 fact_zero22))))
def factsT23 := (And.intro (And.intro (And.intro fact_ok23 fact_cells23) (And.intro fact_bytes23 (And.intro fact_agg23 fact_und23))) (And.intro (And.intro fact_int23 fact_el23) (And.intro fact_sl23 (And.intro fact_zok23 fact_zero23))))
def factsT25 := (And.intro (And.intro (And.intro fact_ok25 fact_cells25) (And.intro fact_bytes25 fact_agg25)) (And.intro (And.intro fact_und25 fact_int25) (And.intro fact_zok25 fact_zero25)))
def factsT32 := (And.intro (And.intro (And.intro fact_ok32 fact_cells32) (And.intro fact_bytes32 fact_agg32)) (And.intro (And.intro fact_und32 fact_int32) (And.intro fact_zok32 fact_zero32)))
def factsT37 := (And.intro (And.intro (And.intro fact_ok37 fact_cells37) (And.intro fact_bytes37 (And.intro fact_agg37 fact_und37))) (And.intro (And.intro fact_int37 fact_el37) (And.intro fact_sl37 (And.intro fact_zok37 fact_zero37))))
def factsT43 := (And.intro (And.intro (And.intro fact_ok43 fact_cells43) (And.intro fact_bytes43 fact_agg43)) (And.intro (And.intro fact_und43 fact_int43) (And.intro fact_zok43 fact_zero43)))
def factsT48 := (And.intro (And.intro (And.intro fact_ok48 fact_cells48) (And.intro fact_bytes48 fact_agg48)) (And.intro (And.intro fact_und48 fact_int48) (And.intro fact_zok48 fact_zero48)))
attribute [go_sem] factsT2 factsT3 factsT4 factsT5 factsT9 factsT12 factsT21 factsT22 factsT23 factsT25 factsT32 factsT37 factsT43 factsT48
end Go.Proofs.Ytcbkeekldbggkaa.T

end
section
set_option linter.unusedSimpArgs false
set_option linter.unusedVariables false
/- Octets copied. -/
namespace Go.Proofs.Ytcbkeekldbggkaa.T
open Go Go.VL Go.Proofs
set_option maxRecDepth 100000

theorem clone_fun (b : List Int) (hb : b.length ≤ 140737488355328) : FunO Try.prog 20 [.lst (ints .u8 b)] fun r o => r = .ref 0 b.length ∧ o = some ⟨5, 1, ints .u8 b⟩ := by
  refine FunO.of_awpI Try.func20 rfl cal20 Try.ntmps20 (by simp) fun hwf => ?_
  simp only [D.wfs, D.wf, ints_length, ints_wfs, capMax, and_true] at hwf
  simp only [go_sem, Ret_eq Try.results20]
  refine opBinI_isNil fact_sl22 fun c hc => ?_
  rw [ints_isNil] at hc
  simp only [go_sem, Ret_eq Try.results20]
  refine condI_split (fun h => ?_) (fun h => ?_)
  · simp only [go_sem, h, Ret_eq Try.results20]
    have hb := hc h
    subst hb
    refine RetO.weak (Weak.adopt (j := 2) 2 5 1 (by simp only [go_sem, Ret_eq Try.results20]) (by simp only [go_sem, Ret_eq Try.results20]) (by decide)) ?_
    exact RetO_own Try.results20 (ds := [.ref 2 0]) (by simp only [go_sem, Ret_eq Try.results20]) 2 ⟨5, 1, []⟩ (by simp only [go_sem, Ret_eq Try.results20]) (by simp only [go_sem, Ret_eq Try.results20]) [] _ rfl (by simp only [go_sem, Ret_eq Try.results20]) (by intro i hi; simpa [D.idss, D.ids] using hi) ⟨rfl, rfl⟩
  · simp only [go_sem, h, Ret_eq Try.results20]
    refine reqI_of (by simp only [capMax]; omega) ?_
    simp only [go_sem, Ret_eq Try.results20]
    exact RetO_own Try.results20 (ds := [.ref 5 b.length]) (by simp only [go_sem, Ret_eq Try.results20]) 5 ⟨5, 1, ints .u8 b⟩ (by simp only [go_sem, Ret_eq Try.results20]) (by simp only [go_sem, Ret_eq Try.results20]) [] _ rfl (by simp only [go_sem, Ret_eq Try.results20]) (by intro i hi; simpa [D.idss, D.ids] using hi) ⟨rfl, rfl⟩
end Go.Proofs.Ytcbkeekldbggkaa.T

end
section
set_option linter.unusedSimpArgs false
set_option linter.unusedVariables false
/- Numbers put. -/
namespace Go.Proofs.Ytcbkeekldbggkaa.T
open Go Go.VL Go.Proofs
set_option maxRecDepth 100000

theorem wide_fun (n : Int) : Fun Try.prog 19 [.v (.int .i64 n)] fun r => r = .v (.bool (decide (1 ≤ n ∧ n ≤ 8))) := by
  refine Fun.of_awpI Try.func19 rfl cal19 Try.ntmps19 (by simp) fun hwf => ?_
  simp only [go_sem, Ret_eq Try.results19]
  refine condI_split (fun h => ?_) (fun h => ?_)
  · simp only [go_sem, h, Ret_eq Try.results19]
    simp at h ⊢; simp [h]
  · simp only [go_sem, h, Ret_eq Try.results19]
    simp at h ⊢; omega

theorem put_fun (b : List Int) (width : Int) (l : List Int) : FunO Try.prog 14 [.lst (ints .u8 b), .v (.int .i64 width), .lst (ints .i64 l)] fun r o =>
    (putErr b width l ≠ 0 ∧ r = .tup [.v (.slice none 0 0), .v (.int .i64 (putErr b width l))] ∧ o = none) ∨
    (putErr b width l = 0 ∧ r = .tup [.ref 0 (putOut b width l).length, .v (.int .i64 0)] ∧ o = some ⟨5, 1, ints .u8 (putOut b width l)⟩) := by
  refine FunO.of_awpI Try.func14 rfl cal14 Try.ntmps14 (by simp) fun hwf => ?_
  simp only [D.wfs, D.wf, ints_length, ints_wfs, capMax, and_true] at hwf
  obtain ⟨hwb, -, hwl⟩ := hwf
  simp only [go_sem, Ret_eq Try.results14]
  refine opCallI_plain (by simp only [go_sem, Ret_eq Try.results14]) (by simp only [go_sem, Ret_eq Try.results14]) (wide_fun width) ?_
  rintro _ rfl
  simp only [go_sem, Ret_eq Try.results14]
  by_cases hw : 1 ≤ width ∧ width ≤ 8
  · have e1 : IntKind.i64.wrap (8 * width) = 8 * width := IntWalk.i64_in _ (by omega)
    have e2 : IntKind.i64.wrap (64 - 8 * width) = 64 - 8 * width := IntWalk.i64_in _ (by omega)
    simp only [go_sem, hw, e1, e2, Ret_eq Try.results14]
    refine awpI_count l.length (fun k s => (l.take k).all (putFit width) = true ∧ At s 71 [(0, .lst (ints .u8 b)), (1, .v (.int .i64 width)), (2, .lst (ints .i64 l)), (8, .v (.int .i64 (64 - 8 * width))), (21, .lst (ints .i64 l)), (22, .v (.int .i64 l.length)), (23, .v (.int .i64 k))] []) _ (Weak.refl _) ?_ ?_
    · refine ⟨by simp, ?_⟩
      simp only [go_sem, Ret_eq Try.results14]
      try simp
    · rintro k s hk ⟨hp, hs⟩
      simp only [At, Slots_cons, Slots_nil, Heaps_nil, and_true] at hs
      simp only [go_sem, hs, Ret_eq Try.results14]
      refine condI_split (fun h => ?_) (fun h => ?_)
      · have hk' : k < l.length := by simp at h; omega
        have h0 : (0 : Int) ≤ 64 - 8 * width := by omega
        have hm : min (64 - 8 * width).toNat 64 = (64 - 8 * width).toNat := by omega
        simp only [go_sem, hs, idx_ints hk', idx_in hk', h0, hm, Ret_eq Try.results14]
        refine condI_split (fun hf => ?_) (fun hf => ?_)
        · simp only [go_sem, hs, Ret_eq Try.results14]
          have he : putErr b width l = 4 := by
            unfold putErr
            rw [if_neg (by simpa using hw), if_pos (all_of_fail hk' (by unfold putFit; simpa using hf))]
          exact RetO_plain Try.results14 (ds := [.v (.slice none 0 0), .v (.int .i64 4)]) (by simp only [go_sem, Ret_eq Try.results14]) _ rfl (by simp only [go_sem, Ret_eq Try.results14]) (.inl ⟨by rw [he]; decide, by rw [he]; rfl, rfl⟩)
        · have e3 : IntKind.i64.wrap ((k : Int) + 1) = ((k + 1 : Nat) : Int) := by rw [IntWalk.i64_in _ (by omega)]; rfl
          simp only [go_sem, hs, e3, Ret_eq Try.results14]
          refine Next.to hk' ⟨?_, ?_⟩
          · rw [all_take_succ hk', hp]
            unfold putFit
            simpa using hf
          · simp only [go_sem, hs, Ret_eq Try.results14]
      · have hkl : k = l.length := by simp at h; omega
        subst hkl
        rw [List.take_length] at hp
        simp only [go_sem, hs, Ret_eq Try.results14]
        have e4 : IntKind.i64.wrap (width * l.length) = width * l.length ∨ 65536 < l.length := by
          rcases Nat.lt_or_ge 65536 l.length with h | h
          · exact .inr h
          · left
            have : width * l.length ≤ 8 * l.length := Int.mul_le_mul_of_nonneg_right hw.2 (by omega)
            have : 0 ≤ width * l.length := Int.mul_nonneg (by omega) (by omega)
            exact IntWalk.i64_in _ (by omega)
        refine condI_split (fun h1 => ?_) (fun h1 => ?_)
        · simp only [go_sem, hs, h1, Ret_eq Try.results14]
          have he : putErr b width l = 3 := by
            unfold putErr
            rw [if_neg (by simpa using hw), if_neg (by simp [hp]), if_pos (.inl (by simp at h1; omega))]
          exact RetO_plain Try.results14 (ds := [.v (.slice none 0 0), .v (.int .i64 3)]) (by simp only [go_sem, Ret_eq Try.results14]) _ rfl (by simp only [go_sem, Ret_eq Try.results14]) (.inl ⟨by rw [he]; decide, by rw [he]; rfl, rfl⟩)
        · have h1' : l.length ≤ 65536 := by simp at h1; omega
          have e4 := e4.resolve_right (by omega)
          have hub : width * l.length ≤ 8 * l.length := Int.mul_le_mul_of_nonneg_right hw.2 (by omega)
          have hlb : 0 ≤ width * l.length := Int.mul_nonneg (by omega) (by omega)
          have e5 : IntKind.i64.wrap (65536 - width * l.length) = 65536 - width * l.length := IntWalk.i64_in _ (by omega)
          simp only [go_sem, hs, e4, e5, h1, Ret_eq Try.results14]
          refine condI_split (fun h2 => ?_) (fun h2 => ?_)
          · simp only [go_sem, hs, h2, Ret_eq Try.results14]
            have he : putErr b width l = 3 := by
              unfold putErr
              rw [if_neg (by simpa using hw), if_neg (by simp [hp]), if_pos (.inr (by simp at h2; omega))]
            exact RetO_plain Try.results14 (ds := [.v (.slice none 0 0), .v (.int .i64 3)]) (by simp only [go_sem, Ret_eq Try.results14]) _ rfl (by simp only [go_sem, Ret_eq Try.results14]) (.inl ⟨by rw [he]; decide, by rw [he]; rfl, rfl⟩)
          · have h2' : (b.length : Int) ≤ 65536 - width * l.length := by simp at h2; omega
            have he : putErr b width l = 0 := by
              unfold putErr
              rw [if_neg (by simpa using hw), if_neg (by simp [hp]), if_neg (by omega)]
            simp only [go_sem, hs, h2, Ret_eq Try.results14]
            refine opCallI_own_plain (by simp only [go_sem, Ret_eq Try.results14]) (by simp only [go_sem, Ret_eq Try.results14]) (clone_fun b (by omega)) ?_
            rintro _ _ ⟨rfl, rfl⟩
            simp only [go_sem, hs, Ret_eq Try.results14]
            have hub2 : width.toNat * l.length ≤ 65536 ∧ b.length + width.toNat * l.length ≤ 65536 := by
              have : ((width.toNat * l.length : Nat) : Int) = width * l.length := by
                rw [Int.natCast_mul, Int.toNat_of_nonneg (by omega)]
              omega
            refine awpI_count l.length (fun k s => At s 71 [(1, .v (.int .i64 width)), (50, .lst (ints .i64 l)), (51, .v (.int .i64 l.length)), (52, .v (.int .i64 k)), (11, .ref 49 (b ++ (l.take k).flatMap (octs width.toNat)).length)]
              [(49, ⟨5, 1, ints .u8 (b ++ (l.take k).flatMap (octs width.toNat))⟩)]) _ (Weak.refl _) ?_ ?_
            · simp only [go_sem, hs, List.take_zero, List.flatMap_nil, Ret_eq Try.results14]
              try simp
            · clear hs s
              rintro k s hk hs
              simp only [At, Slots_cons, Slots_nil, Heaps_cons, Heaps_nil, and_true] at hs
              simp only [go_sem, hs, Ret_eq Try.results14]
              refine condI_split (fun h3 => ?_) (fun h3 => ?_)
              · have hk' : k < l.length := by simp at h3; omega
                have hlk : (b ++ (l.take k).flatMap (octs width.toNat)).length + width.toNat ≤ 65536 := by
                  rw [List.length_append, flat_octs_length, List.length_take, Nat.min_eq_left hk]
                  have : width.toNat * (k + 1) ≤ width.toNat * l.length := Nat.mul_le_mul_left _ hk'
                  rw [Nat.mul_succ] at this
                  omega
                generalize hacc : b ++ (l.take k).flatMap (octs width.toNat) = acc at *
                simp only [go_sem, hs, idx_ints hk', idx_in hk', Ret_eq Try.results14]
                refine awpI_count width.toNat (fun j s => At s 71 [(1, .v (.int .i64 width)), (13, .v (.int .i64 l[k])), (50, .lst (ints .i64 l)), (51, .v (.int .i64 l.length)), (52, .v (.int .i64 k)), (56, .v (.int .i64 width)), (57, .v (.int .i64 j)), (11, .ref 49 (acc ++ octs j l[k]).length)]
                  [(49, ⟨5, 1, ints .u8 (acc ++ octs j l[k])⟩)]) _ (Weak.refl _) ?_ ?_
                · simp only [go_sem, hs, Ret_eq Try.results14]
                  simp [octs]
                · clear hs s
                  rintro j s hj hs
                  simp only [At, Slots_cons, Slots_nil, Heaps_cons, Heaps_nil, and_true] at hs
                  simp only [go_sem, hs, Ret_eq Try.results14]
                  refine condI_split (fun h4 => ?_) (fun h4 => ?_)
                  · have hj' : j < width.toNat := by simp at h4; omega
                    have e6 : IntKind.i64.wrap (8 * (j : Int)) = ((8 * j : Nat) : Int) := by rw [IntWalk.i64_in _ (by omega)]; rfl
                    have h0 : (0 : Int) ≤ ((8 * j : Nat) : Int) := by omega
                    have hm : min ((8 * j : Nat) : Int).toNat 64 = 8 * j := by omega
                    have e7 : IntKind.i64.wrap ((j : Int) + 1) = ((j + 1 : Nat) : Int) := by rw [IntWalk.i64_in _ (by omega)]; rfl
                    simp only [go_sem, hs, e6, h0, hm, Ret_eq Try.results14]
                    have ho : acc ++ (octs j l[k] ++ [IntKind.u8.wrap (l[k].fdiv (2 ^ (8 * j)))]) = acc ++ octs (j + 1) l[k] := by rw [octs_succ]; rfl
                    rw [ho]
                    refine reqI_of (by simp only [List.length_append, octs_length, capMax]; omega) ?_
                    simp only [go_sem, hs, e7, Ret_eq Try.results14]
                    refine Next.to hj' ?_
                    simp only [go_sem, hs, Ret_eq Try.results14]
                    simp only [ho, and_self]
                  · have hjw : j = width.toNat := by simp at h4; omega
                    subst hjw
                    have e8 : IntKind.i64.wrap ((k : Int) + 1) = ((k + 1 : Nat) : Int) := by rw [IntWalk.i64_in _ (by omega)]; rfl
                    simp only [go_sem, hs, e8, Ret_eq Try.results14]
                    refine Next.to hk' ?_
                    rw [flatMap_take_succ hk', ← List.append_assoc, hacc]
                    simp only [go_sem, hs, Ret_eq Try.results14]
              · have hkl : k = l.length := by simp at h3; omega
                subst hkl
                rw [List.take_length] at hs
                simp only [go_sem, hs, Ret_eq Try.results14]
                exact RetO_own Try.results14 (ds := [.ref 49 (putOut b width l).length, .v (.int .i64 0)]) (by simp only [go_sem, hs, Ret_eq Try.results14]; rfl) 49 ⟨5, 1, ints .u8 (putOut b width l)⟩ (by simp only [go_sem, hs, Ret_eq Try.results14]; rfl) (by simp only [go_sem, Ret_eq Try.results14]) [] _ rfl (by simp only [go_sem, hs, Ret_eq Try.results14]; rfl) (by intro i hi; simpa [D.idss, D.ids] using hi) (.inr ⟨he, rfl, rfl⟩)
  · simp only [go_sem, hw, Ret_eq Try.results14]
    have he : putErr b width l = 1 := by simp [putErr, hw]
    exact RetO_plain Try.results14 (ds := [.v (.slice none 0 0), .v (.int .i64 1)]) (by simp only [go_sem, Ret_eq Try.results14]) _ rfl (by simp only [go_sem, Ret_eq Try.results14]) (.inl ⟨by rw [he]; decide, by rw [he]; rfl, rfl⟩)
end Go.Proofs.Ytcbkeekldbggkaa.T

end
section
set_option linter.unusedSimpArgs false
set_option linter.unusedVariables false
/- Numbers taken. -/
namespace Go.Proofs.Ytcbkeekldbggkaa.T
open Go Go.VL Go.Proofs
set_option maxRecDepth 100000
set_option maxHeartbeats 4000000

theorem take_own (b : List Int) (width n : Int) (hb : b.length ≤ 140737488355328) : FunO Try.prog 15 [.lst (ints .u8 b), .v (.int .i64 width), .v (.int .i64 n)] fun r o =>
    (takeErr b width n ≠ 0 ∧ r = .tup [.v (.slice none 0 0), .v (.slice none 0 0), .v (.int .i64 (takeErr b width n))] ∧ o = none) ∨
    (takeErr b width n = 0 ∧ r = .tup [.lst (ints .i64 (takeOut b width n)), .ref 0 (takeRest b width n).length, .v (.int .i64 0)] ∧ o = some ⟨5, 1, ints .u8 (takeRest b width n)⟩) := by
  refine FunO.of_awpI Try.func15 rfl cal15 Try.ntmps15 (by simp) fun hwf => ?_
  simp only [D.wfs, D.wf, ints_length, ints_wfs, rows_length, rows_wfs, capMax, and_true, true_and] at hwf
  by_cases hw : 1 ≤ width ∧ width ≤ 8
  · by_cases hn : 0 ≤ n ∧ n ≤ 65536
    · have hub : n * width ≤ 65536 * 8 := Int.mul_le_mul hn.2 hw.2 (by omega) (by omega)
      have hlb : 0 ≤ n * width := Int.mul_nonneg hn.1 (by omega)
      have hwd := decide_eq_true hw
      by_cases h3 : (b.length : Int) < n * width
      · have he : takeErr b width n = 2 := by unfold takeErr; rw [if_neg (by omega), if_pos h3]
        rw [he]
        repeat' (first | simp only [go_sem, hwd, Ret_eq Try.results15] | simp (disch := omega) only [arith, IntKind.bits, capMax, fill_len, elt_fill] | refine RetO_calc Try.results15 ?_ | (refine opCallI_rd (by simp only [go_sem, hwd, Ret_eq Try.results15]; first | done | rfl) (wide_fun width) (by rintro _ rfl; rfl) ?_; rintro _ rfl) | fail)
        exact .inl (by decide)
      · have he : takeErr b width n = 0 := by unfold takeErr; rw [if_neg (by omega), if_neg h3]
        have hto : takeOut b width n = takeNums width n.toNat b := by unfold takeOut; rw [if_pos he]
        have htr : takeRest b width n = b.drop (width.toNat * n.toNat) := by unfold takeRest; rw [if_pos he]
        rw [hto, htr]
        obtain ⟨w, rfl⟩ : ∃ w : Nat, width = w := ⟨width.toNat, by omega⟩
        obtain ⟨m, rfl⟩ : ∃ m : Nat, n = m := ⟨n.toNat, by omega⟩
        have hmw : m * w ≤ b.length := by exact_mod_cast (show (m : Int) * w ≤ b.length by omega)
        repeat' (first | simp only [go_sem, hwd, Ret_eq Try.results15] | simp (disch := omega) only [arith, IntKind.bits, capMax, fill_len, elt_fill] | (refine opCallI_rd (by simp only [go_sem, hwd, Ret_eq Try.results15]; first | done | rfl) (wide_fun w) (by rintro _ rfl; rfl) ?_; rintro _ rfl) | fail)
        refine awpI_for m (fun k => True) (fun k => [(0, .lst (ints .u8 (b.drop (w * k)))), (6, .ref 62 k), (36, .v (.int .i64 k))]) (fun k => [(62, ⟨2, 1, ints .i64 (takeNums w k b)⟩)]) [1, 9, 35] [] _ (Weak.adopt (j := 6) 62 2 1 (by simp only [go_sem, Ret_eq Try.results15]) (by simp only [go_sem, Ret_eq Try.results15]) (by decide)) trivial ?_ ?_ ?_
        · simp only [go_sem, Nat.mul_zero, Ret_eq Try.results15]
        · simp only [go_sem, takeNums, Ret_eq Try.results15]
        · intro k s hk _ hs
          simp only [go_sem, Ret_eq Try.results15] at hs
          by_cases hka : k < m
          · have hlen : w * k + w ≤ b.length := by
              have : (k + 1) * w ≤ m * w := Nat.mul_le_mul_right _ hka
              rw [Nat.succ_mul, Nat.mul_comm k w] at this
              omega
            have hl1 : w ≤ (b.drop (w * k)).length := by simp; omega
            have hsn : takeNums (w : Int) k b ++ [(takeAcc (w : Int) (b.drop (w * k)) w).fdiv (2 ^ (64 - 8 * (w : Int)).toNat)] = takeNums (w : Int) (k + 1) b := by
              rw [takeNums_snoc, Int.toNat_natCast]; rfl
            have hdr : List.drop w (b.drop (w * k)) = b.drop (w * (k + 1)) := by rw [List.drop_drop, Nat.mul_succ]
            have hlt : (takeNums (w : Int) k b).length = k := takeNums_length _ _ _
            have hbw : ((b.drop (w * k)).take w).length = w := by rw [List.length_take]; omega
            have hget : ∀ j, j < w → ((b.drop (w * k)).take w).getD j 0 = (b.drop (w * k)).getD j 0 := fun j hj => by simp [List.getD, List.getElem?_take, hj]
            have hbl : (b.drop (w * k)).length ≤ 140737488355328 := by simp; omega
            generalize hbs : b.drop (w * k) = bs at *
            generalize hbt : bs.take w = bt at *
            have htd : bs.take bs.length = bs := List.take_length
            repeat' (first | simp only [go_sem, hs, hbt, Ret_eq Try.results15] | simp (disch := omega) only [arith, IntKind.bits, capMax, fill_len, elt_fill] | fail)
            refine awpI_for w (fun j => True) (fun j => [(10, .v (.int .i64 (takeAcc w bs j))), (42, .v (.int .i64 j))]) (fun j => [(62, ⟨2, 1, ints .i64 (takeNums w k b)⟩)]) [0, 1, 6, 9, 35, 36, 40, 41] [] _ (Weak.refl _) trivial ?_ ?_ ?_
            · simp only [go_sem, takeAcc, Ret_eq Try.results15]
            · simp only [go_sem, hs, Ret_eq Try.results15]
            · intro j s2 hj _ hs2
              simp only [go_sem, hs, Ret_eq Try.results15] at hs2
              by_cases hja : j < w
              · have h0 : (0 : Int) ≤ 64 - 8 * w + 8 * j := by omega
                have hm : min (64 - 8 * (w : Int) + 8 * j).toNat IntKind.i64.bits = (64 - 8 * (w : Int)).toNat + 8 * j := by simp [IntKind.bits]; omega
                have hg := hget j hja
                clear hget
                have hacc : takeAcc (w : Int) bs (j + 1) = abits .or .i64 (takeAcc w bs j) (IntKind.i64.wrap (IntKind.i64.wrap (bs.getD j 0) * 2 ^ ((64 - 8 * (w : Int)).toNat + 8 * j))) := rfl
                have hm2 : (64 - 8 * (w : Int) + 8 * j).toNat = (64 - 8 * (w : Int)).toNat + 8 * j := by omega
                repeat' (first | simp only [go_sem, hs, hs2, hg, hm, hm2, h0, hacc, Ret_eq Try.results15] | simp (disch := omega) only [arith, IntKind.bits, capMax, fill_len, elt_fill] | (refine Again.up (by omega) ?_ ?_) | fail)
              · obtain rfl : j = w := by omega
                clear hget
                have h0 : (0 : Int) ≤ 64 - 8 * j := by omega
                have hm : min (64 - 8 * (j : Int)).toNat IntKind.i64.bits = (64 - 8 * (j : Int)).toNat := by simp [IntKind.bits]; omega
                have hlt2 : (takeNums (j : Int) (k + 1) b).length = k + 1 := takeNums_length _ _ _
                have hmt : min (64 - 8 * (j : Int)).toNat 64 = (64 - 8 * (j : Int)).toNat := by omega
                repeat' (first | simp only [go_sem, hs, hs2, hm, hmt, h0, hsn, hdr, hlt, hlt2, Ret_eq Try.results15] | simp (disch := omega) only [arith, IntKind.bits, capMax, fill_len, elt_fill] | (refine awpI_draw2 (id := 14) (.one false 1 (.one false 2 (.one false 3 (.fam 0 [4] [61] [60] (.one true 6 (.one true 7 (.one true 8 (.only 4 (.only 5 (.one false 9 (.one false 10 .done))))))))))) mixed (by decide +kernel) (by decide +kernel) ?_) | (refine Again.up (by omega) ?_ ?_) | fail)
          · obtain rfl : k = m := by omega
            have htk : (takeNums w k b).take k = takeNums w k b := List.take_of_length_le (by rw [takeNums_length]; exact Nat.le_refl _)
            repeat' (first | simp only [go_sem, hs, takeNums_length, htk, Ret_eq Try.results15] | simp (disch := omega) only [arith, IntKind.bits, capMax, fill_len, elt_fill] | (refine opCallI_ownGv (by simp only [go_sem, hs, takeNums_length, htk, Ret_eq Try.results15]; first | done | rfl) (clone_fun (b.drop (w * k)) (by simp; omega)) ?_; rintro _ _ ⟨rfl, rfl⟩) | fail)
            exact RetO_own Try.results15 (ds := [.ref 62 k, .ref 69 (b.drop (w * k)).length, .v (.int .i64 0)]) (by simp only [go_sem, hs, Ret_eq Try.results15]) 69 ⟨5, 1, ints .u8 (b.drop (w * k))⟩ (by simp only [go_sem, hs, Ret_eq Try.results15]) (by simp only [go_sem, Ret_eq Try.results15]) [62] _ (by simp only [go_sem, hs, takeNums_length, htk, Ret_eq Try.results15]; rfl) (by simp only [go_sem, hs, Ret_eq Try.results15]) (by intro i hi; simpa [D.idss, D.ids] using hi) (.inr ⟨he, by simp only [Int.toNat_natCast]; rfl, by simp only [Int.toNat_natCast]⟩)
    · have he : takeErr b width n = 1 := by unfold takeErr; rw [if_pos (by omega)]
      have hwd := decide_eq_true hw
      rw [he]
      repeat' (first | simp only [go_sem, hwd, Ret_eq Try.results15] | simp (disch := omega) only [arith, IntKind.bits, capMax, fill_len, elt_fill] | (with_reducible refine condI_dec (fun hq hqb => ?_) (fun hq hqb => ?_) <;> simp only [KP_mk, hqb]) | refine RetO_calc Try.results15 ?_ | (refine opCallI_rd (by simp only [go_sem, hwd, Ret_eq Try.results15]; first | done | rfl) (wide_fun width) (by rintro _ rfl; rfl) ?_; rintro _ rfl) | fail)
      all_goals exact .inl (by decide)
  · have he : takeErr b width n = 1 := by unfold takeErr; rw [if_pos (.inl hw)]
    have hwd := decide_eq_false hw
    rw [he]
    repeat' (first | simp only [go_sem, hwd, Ret_eq Try.results15] | refine RetO_calc Try.results15 ?_ | (refine opCallI_rd (by simp only [go_sem, hwd, Ret_eq Try.results15]; first | done | rfl) (wide_fun width) (by rintro _ rfl; rfl) ?_; rintro _ rfl) | fail)
    exact .inl (by decide)
theorem take_fun (b : List Int) (width n : Int) (hb : b.length ≤ 140737488355328) : Fun Try.prog 15 [.lst (ints .u8 b), .v (.int .i64 width), .v (.int .i64 n)] fun r =>
    r = .tup [.lst (ints .i64 (takeOut b width n)), .lst (ints .u8 (takeRest b width n)), .v (.int .i64 (takeErr b width n))] := by
  refine (take_own b width n hb).toFun ?_
  rintro r o (⟨h1, rfl, rfl⟩ | ⟨h1, rfl, rfl⟩)
  · have e1 : takeOut b width n = [] := by unfold takeOut; rw [if_neg h1]
    have e2 : takeRest b width n = [] := by unfold takeRest; rw [if_neg h1]
    rw [e1, e2]; rfl
  · rw [h1]
    simp only [ints_nrms, ints_width1, D.frz, D.frzs, D.noRef, D.noRefs, D.nrm, D.nrms, nilV, ints_length, Nat.le_refl, ints_take, ints_noRefs, Bool.and_self, Bool.false_eq_true, if_true, if_false, and_self, List.take_length]
end Go.Proofs.Ytcbkeekldbggkaa.T

end
section
set_option linter.unusedSimpArgs false
set_option linter.unusedVariables false
/- pack.texts: what it hands over, one after another; a raw walk. -/
namespace Go.Proofs.Ytcbkeekldbggkaa.T
open Go Go.VL Go.Proofs Go.RowKit
set_option maxRecDepth 100000
set_option maxHeartbeats 4000000
def boxLen (Bs : Nat) (w : World) : Nat := match w.cell? ⟨Bs, 0, none⟩ with
  | some (.slice _ n _) => n
  | _ => 0
def BoxAt (W : World) (B : Nat) (v : Value) : Prop := ∃ cur, W.heap[B]? = some (.cells cur 23 (0, 0)) ∧ cur[0]? = some v
theorem BoxAt.same {W W' : World} {B : Nat} {v : Value} (h : BoxAt W B v) (e : W'.heap[B]? = W.heap[B]?) : BoxAt W' B v := by
  obtain ⟨cur, h1, h2⟩ := h
  exact ⟨cur, e.trans h1, h2⟩
theorem BoxAt.lt {W : World} {B : Nat} {v : Value} (h : BoxAt W B v) : B < W.heap.size := by
  obtain ⟨cur, h1, h2⟩ := h
  exact (Array.getElem?_eq_some_iff.1 h1).1
theorem cell_of_box {W : World} {B : Nat} {v : Value} (h : BoxAt W B v) : W.cell? ⟨B, 0, none⟩ = some v ∧ W.frozen? ⟨B, 0, none⟩ = false := by
  obtain ⟨cur, h, h2⟩ := h
  constructor
  · simp [World.cell?, h, h2]
  · simp [World.frozen?, h]
theorem heap_setCell_box {W : World} {B : Nat} {v : Value} (v' : Value) (h : BoxAt W B v) : BoxAt (W.setCell ⟨B, 0, none⟩ v') B v' := by
  obtain ⟨cur, h, h2⟩ := h
  obtain ⟨hlt, hk⟩ := Array.getElem?_eq_some_iff.1 h
  have h0 : 0 < cur.size := (Array.getElem?_eq_some_iff.1 h2).1
  refine ⟨cur.setIfInBounds 0 v', ?_, by simp [Array.getElem?_setIfInBounds, h0]⟩
  show (W.heap.modify B _)[B]? = _
  rw [Array.getElem?_eq_getElem (by rw [Array.size_modify]; exact hlt), Array.getElem_modify_self, hk]
  rfl
theorem belowM_of {T : Nat → Prop} {w w' : World} (h : Below w.heap.size w w') : BelowM ⟨w.heap.size, T⟩ w w' := ⟨h.os, h.tape, h.output, h.size, fun k hk _ => h.block k hk⟩
theorem get_of_drop {l : List (List D)} {k : Nat} {x : List D} {r : List (List D)} (h : l.drop k = x :: r) : l[k]? = some x := by
  have := congrArg (fun l => l[0]?) h
  simpa using this
theorem one_at {J : Nat → Prop} {w : World} {x : Int} {vs : List Value} {a : Option Addr} (h : RelPs J w (ints .i64 [x]) vs) (hr : RowAt J w a (vs.flatMap fun x => x.cells.toList)) : ∃ b o, a = some ⟨b, o, none⟩ ∧ w.cell? ⟨b, o, none⟩ = some (.int .i64 x) ∧ J b := by
  obtain ⟨y, ys, rfl, ⟨rfl, h2⟩, rfl⟩ := h
  rcases hr with hr | ⟨b, o, rfl, hj, hc⟩
  · simp [Value.cells] at hr
  · exact ⟨b, o, rfl, hc 0 _ (by simp [Value.cells]), hj⟩
theorem ints_takeR {J : Nat → Prop} {w : World} {l : List Int} {vs : List Value} (h : RelPs J w (ints .u8 l) vs) (j : Nat) : RelPs J w (ints .u8 (l.take j)) (vs.take j) ∧ RelPs J w (ints .u8 (l.drop j)) (vs.drop j) := by
  induction l generalizing vs j with
  | nil =>
    have h : vs = [] := h
    subst h; simp [ints, RelPs]
  | cons x l ih =>
    obtain ⟨y, ys, rfl, h1, h2⟩ := h
    cases j with
    | zero => exact ⟨rfl, y, ys, rfl, h1, h2⟩
    | succ j =>
      obtain ⟨p, q⟩ := ih h2 j
      exact ⟨⟨y, ys.take j, rfl, h1, p⟩, q⟩
theorem flat1 {J : Nat → Prop} {w : World} {l : List Int} {vs : List Value} (h : RelPs J w (ints .u8 l) vs) : (vs.flatMap fun x => x.cells.toList) = vs := by
  induction l generalizing vs with
  | nil => have h : vs = [] := h; subst h; rfl
  | cons x l ih =>
    obtain ⟨y, ys, rfl, h1, h2⟩ := h
    have h1 : y = .int .u8 x ∧ _ := h1
    rw [List.flatMap_cons, ih h2, h1.1]; rfl
theorem sub_take {J : Nat → Prop} {w : World} {r : List Int} {a : Option Addr} {c j : Nat} (h : RelP J w (.lst (ints .u8 r)) (.slice a r.length c)) (hj : j ≤ r.length) : RelP J w (.lst (ints .u8 (r.take j))) (.slice a j j) := by
  obtain ⟨a', c', vs, e, h1, h2, h3, h4, h5, h6⟩ := h
  rw [ints_length] at e
  cases e
  have hl : (ints .u8 (r.take j)).length = j := by rw [ints_length, List.length_take]; omega
  rw [ints_length] at h1 h3
  refine ⟨a, j, vs.take j, by rw [hl], by rw [hl]; exact Nat.le_refl _, by omega, by rw [hl]; omega, fun e => ?_, (ints_takeR h5 j).1, ?_⟩
  · have := h4 e
    have hr : r = [] := by cases r with
      | nil => rfl
      | cons x r => simp [ints] at this
    subst hr; simp [ints]
  · rw [flat1 (ints_takeR h5 j).1]
    rw [flat1 h5] at h6
    rcases h6 with h6 | ⟨b, o, ha, hb, hc⟩
    · left; rw [h6]; simp
    · refine .inr ⟨b, o, ha, hb, fun k u hu => hc k u ?_⟩
      rw [List.getElem?_take] at hu
      split at hu
      · exact hu
      · cases hu
theorem sub_drop {J : Nat → Prop} {w : World} {r : List Int} {a ad : Option Addr} {c j : Nat} (h : RelP J w (.lst (ints .u8 r)) (.slice a r.length c)) (hj : j ≤ r.length) (had : j < c → ad = a.map (·.add j)) : RelP J w (.lst (ints .u8 (r.drop j))) (.slice ad (r.length - j) (c - j)) := by
  obtain ⟨a', c', vs, e, h1, h2, h3, h4, h5, h6⟩ := h
  rw [ints_length] at e
  cases e
  have hl : (ints .u8 (r.drop j)).length = r.length - j := by rw [ints_length, List.length_drop]
  rw [ints_length] at h1 h3
  have hvl : vs.length = r.length := by have := (RelPs_get _ _ h5).1; rw [ints_length] at this; omega
  refine ⟨ad, c - j, vs.drop j, by rw [hl], by rw [hl]; omega, by omega, by rw [hl]; omega, fun e => ?_, (ints_takeR h5 j).2, ?_⟩
  · by_cases q : j < c
    · rw [had q] at e
      have := h4 (by simpa using e)
      have hr : r = [] := by cases r with
        | nil => rfl
        | cons x r => simp [ints] at this
      subst hr; simp [ints]
    · rw [List.drop_eq_nil_of_le (by omega)]; rfl
  · rw [flat1 (ints_takeR h5 j).2]
    rw [flat1 h5] at h6
    by_cases q : j < r.length
    · rcases h6 with h6 | ⟨b, o, ha, hb, hc⟩
      · rw [h6] at hvl; simp at hvl; omega
      · refine .inr ⟨b, o + j, by rw [had (by omega), ha]; simp [Addr.add], hb, fun k u hu => ?_⟩
        rw [List.getElem?_drop] at hu
        have := hc (j + k) u hu
        rw [show o + j + k = o + (j + k) by omega]; exact this
    · left; exact List.drop_eq_nil_of_le (by omega)
theorem two_ways {e : Ending} {A B : Prop} (h : (e = .returned (.bool true) ∧ A) ∨ (e = .returned (.bool false) ∧ B)) : ∃ t : Bool, e = .returned (.bool t) ∧ ((t = true ∧ A) ∨ (t = false ∧ B)) := by
  rcases h with ⟨h1, h2⟩ | ⟨h1, h2⟩
  · exact ⟨true, h1, .inl ⟨rfl, h2⟩⟩
  · exact ⟨false, h1, .inr ⟨rfl, h2⟩⟩
theorem texts_iter (J T : Nat → Prop) (w : World) (Bs n : Nat) (b : List Int) (v : Value) (hJ : ∀ b, J b → b < w.heap.size) (hB : BoxAt w Bs v) (hv : RelP J w (.lst (ints .u8 b)) v) (hT : ∀ x, T x ↔ x = Bs) (hn : b.length ≤ n) (hl : b.length ≤ 65536) :
    IterC Try.prog 21 #[.pointer (some ⟨Bs, 0, none⟩)] T J w (cutXs n b) := by
  intro l Inv Q W hsz hkeep hji hst hround h0
  refine callsIn_of_wp Try.func21 rfl trivial ?_ rfl
  simp only [Try.ntmps21, List.size_toArray, List.length_cons, List.length_nil, Nat.reduceAdd, Nat.reduceSub, Array.replicate_succ, Array.replicate_zero, List.push_toArray, List.append_toArray, List.nil_append, List.cons_append]
  gi_wp2
  gi_loopw [] (fun wr => ∃ k c m JI v, (cutXs n b).drop k = cutXs m c ∧ k + (cutXs m c).length = (cutXs n b).length ∧ c.length ≤ m ∧ c.length ≤ 65536 ∧ Inv k JI wr ∧ BoxAt wr Bs v ∧ RelP JI wr (.lst (ints .u8 c)) v) (fun wr => boxLen Bs wr)
  case atStart =>
    exact ⟨0, b, n, J, v, by simp, by simp, hn, hl, h0, hB.same (hkeep Bs (.inr ((hT Bs).2 rfl))), RelP.mono (fun _ q => q) (fun x q => hkeep x (.inl q)) _ _ hv⟩
  case round =>
    obtain ⟨k, c, m, JI, v, hd, hkm, hcm, h64, hi, hB, hv⟩ := hrel
    have hv0 := hv
    obtain ⟨a, cap, vs, rfl, h1, h2, h3, h4, h5, h6⟩ := hv
    rw [ints_length] at h1 h3
    simp only [ints_length] at hB hv0 ⊢
    obtain ⟨hcell, hfr⟩ := cell_of_box hB
    by_cases hc : c = []
    · subst hc
      simp only [List.length_nil] at hcell
      gi_wp2
      go_end0
      have hz : (cutXs n b).length = k := by
        cases m <;> simpa [cutXs] using hkm.symm
      exact ⟨⟨_, rfl⟩, .inl ⟨JI, by rw [hz]; exact hi⟩⟩
    · have hcl : 0 < c.length := by cases c with
        | nil => exact absurd rfl hc
        | cons a l => simp
      have hTake := (take_fun c 4 1 (by omega)).2 JI wr [.slice a c.length cap, .int .i64 4, .int .i64 1] (fun x q => (hji k JI wr hi x q).1) (fun p hp => by cases hp) ⟨_, _, rfl, hv0, _, _, rfl, ⟨rfl, rfl⟩, _, _, rfl, ⟨rfl, rfl⟩, rfl⟩
      by_cases h4c : c.length < 4
      · have hE : takeErr c 4 1 = 2 := by unfold takeErr; rw [if_neg (by omega), if_pos (by omega)]
        have hO : takeOut c 4 1 = [] := by unfold takeOut; rw [if_neg (by rw [hE]; decide)]
        have hR : takeRest c 4 1 = [] := by unfold takeRest; rw [if_neg (by rw [hE]; decide)]
        rw [hE, hO, hR] at hTake
        have hx : cutXs m c = [[.v (.slice none 0 0), .v (.bool false)]] := by
          cases m with
          | zero => omega
          | succ m => simp only [cutXs, if_neg hc, cutStep, if_pos (show c.length < 4 ∨ _ from .inl h4c)]
        gi_wp2
        refine ⟨trivial, ?_⟩
        refine (callsIn_wide.2 hTake).mono ?_
        rintro e W2 ⟨y, r, rfl, rfl, hb, hrel⟩
        obtain ⟨ys, rfl, y1, ys1, rfl, hy1, y2, ys2, rfl, hy2, y3, ys3, rfl, hy3, rfl⟩ := hrel
        obtain ⟨a1, c1, vs1, rfl, _⟩ := hy1
        obtain ⟨a2, c2, vs2, rfl, _⟩ := hy2
        obtain ⟨rfl, _⟩ := hy3
        have hi2 := hst k JI (fun b => JI b ∨ (wr.heap.size ≤ b ∧ b < W2.heap.size)) wr W2 hi (belowM_of hb) (fun _ q => .inl q) (fun _ q => q)
        obtain ⟨fn, tm, asg, bd, hy, hRd⟩ := hround k _ W2 [.slice none 0 0, .bool false] [.v (.slice none 0 0), .v (.bool false)] (get_of_drop (hd.trans hx)) hi2 ⟨_, _, rfl, ⟨rfl, rfl⟩, _, _, rfl, ⟨rfl, rfl⟩, rfl⟩
        simp only [ints_length, List.length_nil]
        gi_wp2
        refine hRd.mono ?_
        rintro e W3 ⟨hk3, hsz3, ⟨rfl, hI3⟩ | ⟨rfl, hQ3⟩⟩
        · gi_wp2
          refine bodyPost_ret (results_none rfl _ _ _) rfl ⟨⟨_, rfl⟩, .inl ⟨(fun b => JI b ∨ (wr.heap.size ≤ b ∧ b < W2.heap.size)), ?_⟩⟩
          have : (cutXs n b).length = k + 1 := by rw [← hkm, hx]; rfl
          rw [this]; exact hI3
        · gi_wp2
          exact bodyPost_ret (results_none rfl _ _ _) rfl ⟨⟨_, rfl⟩, .inr hQ3⟩
      · have hE : takeErr c 4 1 = 0 := by unfold takeErr; rw [if_neg (by omega), if_neg (by omega)]
        have hO : takeOut c 4 1 = [takeNum 4 c] := by unfold takeOut; rw [if_pos hE]; rfl
        have hR : takeRest c 4 1 = c.drop 4 := by unfold takeRest; rw [if_pos hE]; rfl
        rw [hE, hO, hR] at hTake
        have hld : (c.drop 4).length = c.length - 4 := List.length_drop
        by_cases hbad : takeNum 4 c < 0 ∨ ((c.drop 4).length : Int) < takeNum 4 c
        · have hx : cutXs m c = [[.v (.slice none 0 0), .v (.bool false)]] := by
            cases m with
            | zero => omega
            | succ m => simp only [cutXs, if_neg hc, cutStep, if_pos (show c.length < 4 ∨ _ from .inr hbad)]
          generalize hl0 : takeNum 4 c = l0 at *
          generalize hre : c.drop 4 = rst at *
          gi_wp2
          refine ⟨trivial, ?_⟩
          refine (callsIn_wide.2 hTake).mono ?_
          rintro e W2 ⟨y, r, rfl, rfl, hb, hrel⟩
          obtain ⟨ys, rfl, y1, ys1, rfl, hy1, y2, ys2, rfl, hy2, y3, ys3, rfl, hy3, rfl⟩ := hrel
          obtain ⟨a1, c1, vs1, rfl, hk1, hk2, _, _, hvs1, hrow1⟩ := hy1
          have hy20 := hy2
          obtain ⟨a2, c2, vs2, rfl, hk3, hk4, _⟩ := hy2
          obtain ⟨rfl, _⟩ := hy3
          obtain ⟨b1, o1, rfl, hc1, hjb1⟩ := one_at hvs1 hrow1
          have hi2 := hst k JI (fun b => JI b ∨ (wr.heap.size ≤ b ∧ b < W2.heap.size)) wr W2 hi (belowM_of hb) (fun _ q => .inl q) (fun _ q => q)
          simp only [ints_length, List.length_cons, List.length_nil, Nat.zero_add] at hk1 hk3 hy20 ⊢
          obtain ⟨fn, tm, asg, bd, hy, hRd⟩ := hround k _ W2 [.slice none 0 0, .bool false] [.v (.slice none 0 0), .v (.bool false)] (get_of_drop (hd.trans hx)) hi2 ⟨_, _, rfl, ⟨rfl, rfl⟩, _, _, rfl, ⟨rfl, rfl⟩, rfl⟩
          by_cases hneg : l0 < 0
          · gi_wp2
            refine hRd.mono ?_
            rintro e W3 ⟨hk3, hsz3, ⟨rfl, hI3⟩ | ⟨rfl, hQ3⟩⟩
            · gi_wp2
              refine bodyPost_ret (results_none rfl _ _ _) rfl ⟨⟨_, rfl⟩, .inl ⟨(fun b => JI b ∨ (wr.heap.size ≤ b ∧ b < W2.heap.size)), ?_⟩⟩
              have : (cutXs n b).length = k + 1 := by rw [← hkm, hx]; rfl
              rw [this]; exact hI3
            · gi_wp2
              exact bodyPost_ret (results_none rfl _ _ _) rfl ⟨⟨_, rfl⟩, .inr hQ3⟩
          · have hbig : (rst.length : Int) < l0 := hbad.resolve_left hneg
            gi_wp2
            refine hRd.mono ?_
            rintro e W3 ⟨hk3, hsz3, ⟨rfl, hI3⟩ | ⟨rfl, hQ3⟩⟩
            · gi_wp2
              refine bodyPost_ret (results_none rfl _ _ _) rfl ⟨⟨_, rfl⟩, .inl ⟨(fun b => JI b ∨ (wr.heap.size ≤ b ∧ b < W2.heap.size)), ?_⟩⟩
              have : (cutXs n b).length = k + 1 := by rw [← hkm, hx]; rfl
              rw [this]; exact hI3
            · gi_wp2
              exact bodyPost_ret (results_none rfl _ _ _) rfl ⟨⟨_, rfl⟩, .inr hQ3⟩
        · have hx : cutXs m c = [.lst (ints .u8 ((c.drop 4).take (takeNum 4 c).toNat)), .v (.bool true)] :: cutXs (m - 1) ((c.drop 4).drop (takeNum 4 c).toNat) := by
            cases m with
            | zero => omega
            | succ m => simp only [cutXs, if_neg hc, cutStep, if_neg (show ¬ (c.length < 4 ∨ _) from fun q => q.elim h4c hbad), Nat.succ_sub_one]
          have hlo : 0 ≤ takeNum 4 c ∧ takeNum 4 c ≤ ((c.drop 4).length : Int) := by omega
          obtain ⟨j, hj⟩ : ∃ j : Nat, takeNum 4 c = j := ⟨(takeNum 4 c).toNat, by omega⟩
          rw [hj] at hTake hlo hbad hx
          rw [Int.toNat_natCast] at hx
          generalize hre : c.drop 4 = rst at *
          gi_wp2
          refine ⟨trivial, ?_⟩
          refine (callsIn_wide.2 hTake).mono ?_
          rintro e W2 ⟨y, r, rfl, rfl, hb, hrel⟩
          obtain ⟨ys, rfl, y1, ys1, rfl, hy1, y2, ys2, rfl, hy2, y3, ys3, rfl, hy3, rfl⟩ := hrel
          obtain ⟨a1, c1, vs1, rfl, hk1, hk2, _, _, hvs1, hrow1⟩ := hy1
          have hy20 := hy2
          obtain ⟨a2, c2, vs2, rfl, hk3, hk4, _⟩ := hy2
          obtain ⟨rfl, _⟩ := hy3
          obtain ⟨b1, o1, rfl, hc1, hjb1⟩ := one_at hvs1 hrow1
          have hi2 := hst k JI (fun b => JI b ∨ (wr.heap.size ≤ b ∧ b < W2.heap.size)) wr W2 hi (belowM_of hb) (fun _ q => .inl q) (fun _ q => q)
          simp only [ints_length, List.length_cons, List.length_nil, Nat.zero_add] at hk1 hk3 hy20 ⊢
          have hjl : j ≤ rst.length := by omega
          have hxr := sub_take (j := j) hy20 hjl
          have hi3 := hst k JI (fun b => JI b ∨ (wr.heap.size ≤ b ∧ b < W2.heap.size)) wr W2.drew hi (belowM_of hb.drew) (fun _ q => .inl q) (fun _ q => q)
          obtain ⟨fn, tm, asg, bd, hy, hRd⟩ := hround k _ W2.drew [.slice a2 j j, .bool true] [.lst (ints .u8 (rst.take j)), .v (.bool true)] (get_of_drop (hd.trans hx)) hi3 ⟨_, _, rfl, RelP.mono (w := W2) (w' := W2.drew) (fun _ q => q) (fun _ _ => rfl) _ _ hxr, _, _, rfl, ⟨rfl, rfl⟩, rfl⟩
          have hj0 : ¬ (j : Int) < 0 := by omega
          have hj1 : ¬ (rst.length : Int) < (j : Int) := by omega
          clear hld
          gi_wp2
          have hBlt : Bs < wr.heap.size := hB.lt
          gi_region_with (refine hRd.mono ?_; rintro e W3 ⟨hk3', hsz3, hor⟩; obtain ⟨tt, rfl, hor2⟩ := two_ways hor; have hc13 := (World.cell?_of_block (a := ⟨b1, o1, none⟩) (hk3' b1 (.inl hjb1))).trans hc1; have hB3 := hB.same ((hk3' Bs (.inr ((hT Bs).2 rfl))).trans (hb.block Bs hBlt)); obtain ⟨hcell3, hfr3⟩ := cell_of_box hB3)
          all_goals
            cases tt
            · gi_wp2
              have Q := (hor2.resolve_left (fun q => absurd q.1 (by decide))).2
              exact bodyPost_ret (results_none rfl _ _ _) rfl ⟨⟨_, rfl⟩, .inr Q⟩
            · gi_wp2
              have hI3 := (hor2.resolve_right (fun q => absurd q.1 (by decide))).2
              go_roundw
              case rel =>
                obtain ⟨nv, hnv⟩ : ∃ nv, Value.slice (if c2 = j then a2 else Option.map (fun x => x.add j) a2) (rst.length - j) (c2 - j) = nv := ⟨_, rfl⟩
                have hnr := sub_drop (j := j) (ad := if c2 = j then a2 else Option.map (fun x => x.add j) a2) hy20 hjl (fun q => by rw [if_neg (by omega)])
                rw [hnv] at hnr ⊢
                have hbx := heap_setCell_box nv hB3
                have hne : ∀ b, (JI b ∨ (wr.heap.size ≤ b ∧ b < W2.heap.size)) → (W3.setCell ⟨Bs, 0, none⟩ nv).heap[b]? = W3.heap[b]? := fun b q => Below.heap_setCell _ _ _ b (fun e => (hji _ _ _ hI3 b q).2 (by rw [e]; exact (hT Bs).2 rfl))
                have hlen : (cutXs m c).length = (cutXs (m - 1) (rst.drop j)).length + 1 := by rw [hx]; rfl
                have hrl : rst.length = c.length - 4 := by rw [← hre, List.length_drop]
                refine ⟨k + 1, rst.drop j, m - 1, (fun b => JI b ∨ (wr.heap.size ≤ b ∧ b < W2.heap.size)), nv, ?_, by omega, by rw [List.length_drop]; omega, by rw [List.length_drop]; omega, ?_, hbx, ?_⟩
                · rw [← List.drop_drop, hd, hx]; rfl
                · exact hst _ _ _ W3 _ hI3 ⟨rfl, rfl, rfl, by simp, fun k hk hnT => Below.heap_setCell _ _ _ k (fun e => hnT ((hT k).2 e))⟩ (fun _ q => q) (fun _ q => .inl q)
                · exact RelP.mono (w := W2) (fun _ q => q) (fun b q => (hne b q).trans (hk3' b (.inl q))) _ _ hnr
              case measure =>
                have hrl : rst.length = c.length - 4 := by rw [← hre, List.length_drop]
                have hbx := (cell_of_box (heap_setCell_box (Value.slice (if c2 = j then a2 else Option.map (fun x => x.add j) a2) (rst.length - j) (c2 - j)) hB3)).1
                simp only [boxLen, hbx, hcell]
                omega
end Go.Proofs.Ytcbkeekldbggkaa.T

end
section
set_option linter.unusedSimpArgs false
set_option linter.unusedVariables false
/- pack.texts, pack.Cut, walked. -/
namespace Go.Proofs.Ytcbkeekldbggkaa.T
open Go Go.VL Go.Proofs
set_option maxRecDepth 100000
set_option maxHeartbeats 4000000

theorem texts_own (b : List Int) : FunO Try.prog 16 [.lst (ints .u8 b)] fun r o => r = .clos (.func 21) [.adr 0 0 0] ∧ o = some ⟨23, 1, [.lst (ints .u8 b)]⟩ := by
  refine FunO.of_awpI Try.func16 rfl cal16 Try.ntmps16 (by simp) fun hwf => ?_
  simp only [D.wfs, D.wf, ints_length, ints_wfs, rows_length, rows_wfs, capMax, and_true, true_and] at hwf
  repeat' (first | simp only [go_sem, Ret_eq Try.results16] | refine RetO_calc Try.results16 ?_ | fail)
theorem cells_box {ρ : Nat → VL.Loc} {J : Nat → Prop} {w : World} {id : Nat} {l : List D} (h : ObjAt ρ J w id ⟨23, 1, [.lst l]⟩) : ∃ g v, (ρ id).a = some ⟨g, 0, none⟩ ∧ 0 < (ρ id).cap ∧ BoxAt w g v ∧ RelP J w (.lst l) v := by
  obtain ⟨h1, h2, h3, h4, h5, vs, h6, h7, h8⟩ := h.cells Nat.one_pos
  obtain ⟨v, vs, rfl, hv, rfl⟩ := h6
  have hv : RelP J w (.lst l) v := hv
  rcases h8 with ⟨h8, _⟩ | ⟨h8, g, cur, h9, h10, h11, h12, h13⟩
  · simp at h3; omega
  · refine ⟨g, v, h9, h8, ⟨cur, h11, ?_⟩, hv⟩
    obtain ⟨a, c, vs', rfl, _⟩ := hv
    have := congrArg (fun l => l[0]?) h13
    simpa [List.getElem?_take, Value.cells] using this

abbrev cutLh (l : List (List Int)) (k : Nat) : List (Nat × Own) := if k = 0 then [(2, ⟨22, 1, [.v (.slice none 0 0)]⟩), (3, ⟨25, 1, [.v (.int .i64 0)]⟩)] else [(2, ⟨22, 1, [.ref 18 k]⟩), (3, ⟨25, 1, [.v (.int .i64 0)]⟩), (18, ⟨23, 1, rows .u8 (l.take k)⟩)]
theorem setPart_rv {j m : Nat} {a : Value} : setPart (.ref j m) 0 (.v a) = some (.v a) := rfl
theorem setPart_yr {j m : Nat} : setPart .any 0 (.ref j m) = some (.ref j m) := rfl
theorem any_width : D.any.width = 1 := rfl
theorem cutLh_0 {l : List (List Int)} : cutLh l 0 = [(2, ⟨22, 1, [.v (.slice none 0 0)]⟩), (3, ⟨25, 1, [.v (.int .i64 0)]⟩)] := rfl
theorem cutLh_s {l : List (List Int)} {k : Nat} : cutLh l (k + 1) = [(2, ⟨22, 1, [.ref 18 (k + 1)]⟩), (3, ⟨25, 1, [.v (.int .i64 0)]⟩), (18, ⟨23, 1, rows .u8 (l.take (k + 1))⟩)] := rfl
theorem cut_fun (b : List Int) : Fun Try.prog 6 [.lst (ints .u8 b)] fun r => r = .tup [.lst (rows .u8 (cutOut b)), .v (.int .i64 (cutErr b))] := by
  refine Fun.of_awpM Try.func6 rfl cal6 Try.ntmps6 (by simp) fun hwf => ?_
  refine awpM_then ?_
  repeat' (first | simp only [go_sem, Ret_eq Try.results6] | fail)
  refine awpM_then ?_
  by_cases h : 65536 < b.length
  · have he : cutErr b = 3 := by unfold cutErr; rw [if_pos h]
    have ho : cutOut b = [] := by unfold cutOut; rw [if_neg (by rw [he]; decide)]
    rw [he, ho]
    repeat' (first | simp only [go_sem, Ret_eq Try.results6] | simp (disch := omega) only [arith, IntKind.bits, capMax, fill_len, elt_fill] | fail)
    rfl
  · repeat' (first | simp only [go_sem, Ret_eq Try.results6] | simp (disch := omega) only [arith, IntKind.bits, capMax, fill_len, elt_fill] | fail)
    refine awpM_range (fun s => s.n = 20 ∧ s.t 10 = .clos (.func 21) [.adr 10 0 0] ∧ Slots s [(2, .adr 2 0 0), (3, .adr 3 0 0)] ∧ Heaps s ((10, ⟨23, 1, [.lst (ints .u8 b)]⟩) :: cutLh (cutL b.length b) 0)) ?_ ?_
    · repeat' (first | simp only [go_sem, Ret_eq Try.results6] | (refine opCallI_ownGv (by simp only [go_sem, Ret_eq Try.results6]; first | done | rfl) (texts_own b) ?_; rintro _ _ ⟨rfl, rfl⟩) | fail)
      show Heaps _ [(2, ⟨22, 1, [.v (.slice none 0 0)]⟩), (3, ⟨25, 1, [.v (.int .i64 0)]⟩)]
      simp only [go_sem, Ret_eq Try.results6]
    · rintro s ⟨hn, h10, hsl, hhp⟩
      refine RangeOK.of (ps := [11, 12]) (g := 21) (caps := [.adr 10 0 0]) (by rw [ev_tmp]; exact h10) (by decide +kernel) [10] (by intro id hid; rw [List.mem_singleton.1 hid]; exact ⟨_, hhp.1⟩) (n := 20) [(2, .adr 2 0 0), (3, .adr 3 0 0)] [2, 3] (cutLh (cutL b.length b)) (fun k => k ≤ (cutL b.length b).length)
        (fun h' => cutOk b.length b = false ∧ h' = [(2, ⟨22, 1, [.v (.slice none 0 0)]⟩), (3, ⟨25, 1, [.v (.int .i64 2)]⟩)]) (cutXs b.length b) (Nat.zero_le _) hn hsl (by decide) (by decide) hhp.2 rfl ?_ (by decide) ?_ (by decide +kernel) (by decide +kernel) (by decide +kernel) ?_ ?_ ?_
      · rintro ρ J w cs hlt hg ⟨v, vs, rfl, hv, rfl⟩ hob
        obtain ⟨g, v', h1, h2, h3, h4⟩ := cells_box (hob 10 (by simp) _ hhp.1)
        obtain ⟨g', h5, rfl⟩ := hv
        rw [h1] at h5; cases h5
        have := texts_iter J (fun b => ∃ id ∈ [10], 0 < (ρ id).cap ∧ (ρ id).a = some ⟨b, 0, none⟩) w g b.length b v' hlt h3 h4 (fun x => ?_) (Nat.le_refl _) (by omega)
        · simpa using this
        · simp [h1, h2, eq_comm]
      · intro x hx
        obtain ⟨k, hk⟩ := List.mem_iff_getElem?.1 hx
        rcases cutXs_get hk with ⟨rfl, _⟩ | ⟨t, _, rfl⟩ <;> rfl
      · intro L k x hk
        rcases cutXs_get hk with ⟨rfl, hbad⟩ | ⟨t, ht, rfl⟩
        · cases k with
          | zero =>
            rw [cutLh_0]
            repeat' (first | simp only [go_sem, pickT, pickH, reduceCtorEq, Ret_eq Try.results6] | fail)
            exact ⟨_, ⟨hbad, rfl⟩, by simp only [go_sem, pickT, pickH, Ret_eq Try.results6]⟩
          | succ k =>
            rw [cutLh_s]
            repeat' (first | simp only [go_sem, pickT, pickH, reduceCtorEq, setPart_rv, Ret_eq Try.results6] | fail)
            exact ⟨_, ⟨hbad, rfl⟩, by simp only [go_sem, pickT, pickH, Ret_eq Try.results6]⟩
        · have hk1 := (List.getElem?_eq_some_iff.1 ht).1
          have hk2 := cutL_len b.length b
          have hsn : (cutL b.length b).take (k + 1) = (cutL b.length b).take k ++ [t] := by
            rw [List.take_succ_eq_append_getElem hk1]; congr 1; rw [List.getElem?_eq_getElem hk1] at ht; simpa using ht
          cases k with
          | zero =>
            rw [cutLh_0, cutLh_s, hsn]
            repeat' (first | simp only [go_sem, pickT, pickH, reduceCtorEq, Ret_eq Try.results6] | simp (disch := omega) only [arith, IntKind.bits, capMax, fill_len, elt_fill] | fail)
            exact ⟨_, ⟨rfl, hk1⟩, by simp only [go_sem, pickT, pickH, Ret_eq Try.results6]; rfl⟩
          | succ k =>
            have hlk : ((cutL b.length b).take (k + 1)).length = k + 1 := by rw [List.length_take]; omega
            rw [cutLh_s, cutLh_s, hsn]
            have hl2 : ((cutL b.length b).take (k + 1) ++ [t]).length = k + 1 + 1 := by rw [List.length_append, hlk]; rfl
            have hq : (k + 1 + 1) * 24 ≤ 140737488355328 ∧ k + 1 + 1 ≤ 9223372036854775807 := by omega
            repeat' (first | simp only [go_sem, pickT, pickH, reduceCtorEq, hlk, hl2, hq, any_width, setPart_rv, setPart_yr, Ret_eq Try.results6] | simp (disch := omega) only [arith, IntKind.bits, capMax, fill_len, elt_fill] | fail)
            exact ⟨_, ⟨rfl, hk1⟩, by simp only [go_sem, pickT, pickH, Ret_eq Try.results6]⟩
      · intro hok
        have hlen := cutXs_len b.length b
        have hk2 := cutL_len b.length b
        by_cases hg : cutOk b.length b = true
        · rw [if_pos hg, Nat.add_zero] at hlen
          have he : cutErr b = 0 := by unfold cutErr; rw [if_neg h, if_pos hg]
          have ho : cutOut b = cutL b.length b := by unfold cutOut; rw [if_pos he]
          rw [he, ho, hlen]
          cases hl : (cutL b.length b).length with
          | zero =>
            have hnil : cutL b.length b = [] := List.length_eq_zero_iff.1 hl
            rw [cutLh_0, hnil]
            repeat' (first | simp only [go_sem, pickT, pickH, reduceCtorEq, Ret_eq Try.results6] | fail)
            rfl
          | succ k =>
            have htk : (cutL b.length b).take (k + 1) = cutL b.length b := by rw [← hl, List.take_length]
            rw [cutLh_s, htk]
            repeat' (first | simp only [go_sem, pickT, pickH, reduceCtorEq, hl, setPart_rv, Ret_eq Try.results6] | fail)
            rw [htk]
        · rw [if_neg hg] at hlen; omega
      · rintro h' ⟨hbad, rfl⟩
        have he : cutErr b = 2 := by unfold cutErr; rw [if_neg h, if_neg (by rw [hbad]; decide)]
        have ho : cutOut b = [] := by unfold cutOut; rw [if_neg (by rw [he]; decide)]
        rw [he, ho]
        repeat' (first | simp only [go_sem, pickT, pickH, reduceCtorEq, Ret_eq Try.results6] | fail)
        rfl
end Go.Proofs.Ytcbkeekldbggkaa.T

end
section
set_option linter.unusedSimpArgs false
set_option linter.unusedVariables false
/- pack.List, walked. -/
namespace Go.Proofs.Ytcbkeekldbggkaa.T
open Go Go.VL Go.Proofs
set_option maxRecDepth 100000
set_option maxHeartbeats 4000000
theorem takeR_snoc {α : Type} {a : List α} {k : Nat} {d : α} (h : k < a.length) : a.take (k + 1) = a.take k ++ [a.getD k d] := by
  rw [List.take_succ_eq_append_getElem h]; simp [List.getD, h]
theorem textOf_len (x : List Int) : (textOf x).length = 4 + x.length := by unfold textOf; rw [List.length_append, octs_length]
theorem listAll_snoc {l : List (List Int)} {k : Nat} (h : k < l.length) : listAll (l.take (k + 1)) = listAll (l.take k) ++ textOf (l.getD k []) := by
  rw [takeR_snoc (d := []) h]; simp [listAll]
theorem listAll_le {l : List (List Int)} (k : Nat) : (listAll (l.take k)).length ≤ (listAll l).length := by
  have : listAll l = listAll (l.take k) ++ listAll (l.drop k) := by
    unfold listAll; rw [← List.flatMap_append, List.take_append_drop]
  rw [this, List.length_append]; omega

theorem list_fun (l : List (List Int)) : Fun Try.prog 7 [.lst (rows .u8 l)] fun r => r = .tup [.lst (ints .u8 (listOut l)), .v (.int .i64 (listErr l))] := by
  refine Fun.of_awpI Try.func7 rfl cal7 Try.ntmps7 (by simp) fun hwf => ?_
  simp only [D.wfs, D.wf, ints_length, ints_wfs, rows_length, rows_wfs, capMax, and_true, true_and] at hwf
  have hll : l.length ≤ 9223372036854775807 := by have := hwf.1; exact this
  repeat' (first | simp only [go_sem, Ret_eq Try.results7] | fail)
  refine awpI_for l.length (fun k => (listAll (l.take k)).length ≤ 65536) (fun k => [(4, .ref 31 (listAll (l.take k)).length), (10, .v (.int .i64 k))]) (fun k => [(31, ⟨5, 1, ints .u8 (listAll (l.take k))⟩)]) [8, 9] [] _ (Weak.adopt (j := 4) 31 5 1 (by simp only [go_sem, Ret_eq Try.results7]) (by simp only [go_sem, Ret_eq Try.results7]) (by decide)) (by simp [listAll]) ?_ ?_ ?_
  · simp only [go_sem, listAll, List.take_zero, List.flatMap_nil, Ret_eq Try.results7]
  · simp only [go_sem, listAll, List.take_zero, List.flatMap_nil, Ret_eq Try.results7]
  · intro k s hk hQ hs
    simp only [go_sem, Ret_eq Try.results7] at hs
    by_cases hka : k < l.length
    · have e1 := listAll_snoc hka
      have hle := listAll_le (l := l) (k + 1)
      have htx := textOf_len (l.getD k [])
      have hbx : (l.getD k []).length ≤ 9223372036854775807 := by
        rw [show l.getD k [] = l[k] by simp [List.getD, hka]]; exact hwf.2 _ (List.getElem_mem hka)
      generalize hx : l.getD k [] = x at *
      generalize hacc : listAll (l.take k) = acc at *
      have htd : acc.take acc.length = acc := List.take_length
      by_cases hbig : 65532 - (acc.length : Int) < x.length
      · have he : listErr l = 3 := by
          unfold listErr; rw [if_pos]; rw [e1, List.length_append, htx] at hle; omega
        have ho : listOut l = [] := by unfold listOut; rw [if_neg (by rw [he]; decide)]
        rw [he, ho]
        repeat' (first | simp only [go_sem, hs, hx, Ret_eq Try.results7] | simp (disch := omega) only [arith, IntKind.bits, capMax, fill_len, elt_fill] | fail)
      · repeat' (first | simp only [go_sem, hs, hx, Ret_eq Try.results7] | simp (disch := omega) only [arith, IntKind.bits, capMax, fill_len, elt_fill] | fail)
        refine awpI_for 4 (fun _ => True) (fun j => [(4, .ref 31 (acc ++ octs j x.length).length), (20, .v (.int .i64 j))]) (fun j => [(31, ⟨5, 1, ints .u8 (acc ++ octs j x.length)⟩)]) [6, 8, 9, 10] [] _ (Weak.refl _) trivial ?_ ?_ ?_
        · simp only [go_sem, hs, octs, List.range_zero, List.map_nil, Ret_eq Try.results7]
        · simp only [go_sem, hs, octs, List.range_zero, List.map_nil, Ret_eq Try.results7]
        · intro j s2 hj _ hs2
          simp only [go_sem, hs, Ret_eq Try.results7] at hs2
          by_cases hja : j < 4
          · have h0 : (0 : Int) ≤ 8 * j := by omega
            have hm : min (8 * (j : Int)).toNat IntKind.i64.bits = 8 * j := by simp [IntKind.bits]; omega
            have ho : acc ++ (octs j x.length ++ [IntKind.u8.wrap ((x.length : Int).fdiv (2 ^ (8 * j)))]) = acc ++ octs (j + 1) x.length := by rw [octs_succ]; rfl
            have hm2 : (8 * (j : Int)).toNat = 8 * j := by omega
            have hq : (acc ++ octs (j + 1) x.length).length * 1 ≤ 140737488355328 ∧ (acc ++ octs (j + 1) x.length).length ≤ 9223372036854775807 := by rw [List.length_append, octs_length]; omega
            repeat' (first | simp only [go_sem, hs, hs2, hm, hm2, h0, ho, hq, Ret_eq Try.results7] | simp (disch := omega) only [arith, IntKind.bits, capMax, fill_len, elt_fill] | (refine Again.up (by omega) ?_ ?_) | fail)
          · obtain rfl : j = 4 := by omega
            have ho : acc ++ octs 4 x.length ++ x = acc ++ textOf x := by unfold textOf; rw [List.append_assoc]
            have ho2 : acc ++ (octs 4 x.length ++ x) = acc ++ textOf x := rfl
            have hq : (acc ++ textOf x).length * 1 ≤ 140737488355328 ∧ (acc ++ textOf x).length ≤ 9223372036854775807 := by rw [List.length_append, htx]; omega
            have hq2 : (acc ++ textOf x).length ≤ 65536 := by rw [List.length_append, htx]; omega
            repeat' (first | simp only [go_sem, hs, hs2, ho, ho2, e1, hq, hq2, Ret_eq Try.results7] | simp (disch := omega) only [arith, IntKind.bits, capMax, fill_len, elt_fill] | (refine Again.up (by omega) ?_ ?_) | fail)
    · obtain rfl : k = l.length := by omega
      rw [List.take_length] at *
      have he : listErr l = 0 := by unfold listErr; rw [if_neg (by omega)]
      have ho : listOut l = listAll l := by unfold listOut; rw [if_pos he]
      rw [he, ho]
      repeat' (first | simp only [go_sem, hs, Ret_eq Try.results7] | simp (disch := omega) only [arith, IntKind.bits, capMax, fill_len, elt_fill] | fail)
end Go.Proofs.Ytcbkeekldbggkaa.T

end
section
set_option linter.unusedSimpArgs false
set_option linter.unusedVariables false
/- The law's guard. -/
namespace Go.Proofs.Ytcbkeekldbggkaa.T
open Go Go.VL Go.Proofs
set_option maxRecDepth 100000
theorem Fun.cast {P : Program} {f : FuncId} {a b : List D} {R : D → Prop} (h : a = b) (hf : Fun P f b R) : Fun P f a R := h ▸ hf
def putRead (b : List Int) (w : Int) (l : List Int) : List Int := if putErr b w l = 0 then putOut b w l else []
theorem put_read (b : List Int) (width : Int) (l : List Int) : Fun Try.prog 14 [.lst (ints .u8 b), .v (.int .i64 width), .lst (ints .i64 l)] fun r =>
    r = .tup [.lst (ints .u8 (putRead b width l)), .v (.int .i64 (putErr b width l))] := by
  refine (put_fun b width l).toFun ?_
  rintro r o (⟨h1, rfl, rfl⟩ | ⟨h1, rfl, rfl⟩)
  · simp only [D.nrm, D.nrms, nilV, putRead, if_neg h1, ints_nil, if_true, Bool.false_eq_true, if_false]
  · simp only [putRead, h1, if_true, ints_nrms, ints_width1, D.frz, D.frzs, D.noRef, D.noRefs, D.nrm, D.nrms, nilV, ints_length, Nat.le_refl, ints_take, List.take_length, Bool.and_self, Bool.false_eq_true, if_false, and_self]

theorem live_fun : Fun Try.prog 5 [] fun r => r = .v (.bool true) := by
  refine Fun.of_awpI Try.func5 rfl cal5 Try.ntmps5 (by simp) fun hwf => ?_
  simp only [go_sem, Ret_eq Try.results5]
  refine opCallI_plain (by simp only [go_sem, Ret_eq Try.results5]) (by simp only [go_sem, Ret_eq Try.results5]) (Fun.cast (by simp only [go_sem, ints_cons, Ret_eq Try.results5]) (put_read [] 2 [-2])) ?_
  rintro _ rfl
  have p1 : putErr [] 2 [-2] = 0 := by decide +kernel
  have p2 : putRead [] 2 [-2] = [254, 255] := by decide +kernel
  have t1 : takeErr [254, 255] 2 1 = 0 := by decide +kernel
  have t2 : takeOut [254, 255] 2 1 = [-2] := by decide +kernel
  have t3 : takeRest [254, 255] 2 1 = [] := by decide +kernel
  simp only [go_sem, p1, p2, ints_cons, Ret_eq Try.results5]
  refine opCallI_plain (by simp only [go_sem, Ret_eq Try.results5]) (by simp only [go_sem, Ret_eq Try.results5]) (Fun.cast (by simp only [go_sem, ints_cons, Ret_eq Try.results5]) (take_fun [254, 255] 2 1 (by decide))) ?_
  rintro _ rfl
  simp only [go_sem, t1, t2, t3, ints_cons, Ret_eq Try.results5]
end Go.Proofs.Ytcbkeekldbggkaa.T

end
section
set_option linter.unusedSimpArgs false
set_option linter.unusedVariables false
/- Two texts compared. -/
namespace Go.Proofs.Ytcbkeekldbggkaa.T
open Go Go.VL Go.Proofs
set_option maxRecDepth 100000

theorem sameOctets_fun (a b : List Int) (ha : Octets a) (hb : Octets b) : Fun Try.prog 13 [.lst (ints .u8 a), .lst (ints .u8 b)] fun r => r = .v (.bool (decide (a = b))) := by
  refine Fun.of_awpI Try.func13 rfl cal13 Try.ntmps13 (by simp) fun hwf => ?_
  simp only [D.wfs, D.wf, ints_length, ints_wfs, rows_length, rows_wfs, capMax, and_true, true_and] at hwf
  repeat' (first | simp only [go_sem, Ret_eq Try.results13] | fail)
  exact strOfNums_inj ha hb
end Go.Proofs.Ytcbkeekldbggkaa.T

end
section
set_option linter.unusedSimpArgs false
set_option linter.unusedVariables false
/- Lists of texts compared. -/
namespace Go.Proofs.Ytcbkeekldbggkaa.T
open Go Go.VL Go.Proofs
set_option maxRecDepth 100000
set_option maxHeartbeats 4000000

theorem sameTexts_fun (a b : List (List Int)) (ha : ∀ x ∈ a, Octets x) (hb : ∀ x ∈ b, Octets x) : Fun Try.prog 8 [.lst (rows .u8 a), .lst (rows .u8 b)] fun r => r = .v (.bool (decide (a = b))) := by
  refine Fun.of_awpI Try.func8 rfl cal8 Try.ntmps8 (by simp) fun hwf => ?_
  simp only [D.wfs, D.wf, ints_length, ints_wfs, rows_length, rows_wfs, capMax, and_true, true_and] at hwf
  have hlb : b.length ≤ 9223372036854775807 := by have := hwf.2.1; exact this
  have hla : a.length ≤ 9223372036854775807 := by have := hwf.1.1; exact this
  by_cases hl : a.length = b.length
  · repeat' (first | simp only [go_sem, hl, Ret_eq Try.results8] | simp (disch := omega) only [arith, IntKind.bits, capMax, fill_len, elt_fill] | fail)
    refine awpI_for b.length (fun k => a.take k = b.take k) (fun k => [(13, .v (.int .i64 k))]) (fun _ => []) [0, 1, 12] [] _ (Weak.refl _) (by simp) ?_ ?_ ?_
    · simp only [go_sem, Ret_eq Try.results8]
    · simp only [go_sem, Ret_eq Try.results8]
    · intro k s hk hQ hs
      simp only [go_sem, Ret_eq Try.results8] at hs
      by_cases hka : k < b.length
      · have e1 := takeR_snoc (a := a) (d := ([] : List Int)) (k := k) (by omega)
        have e2 := takeR_snoc (a := b) (d := ([] : List Int)) hka
        have hs1 := strOfNums_inj (a := a.getD k []) (b := b.getD k []) (ha _ (by rw [show a.getD k [] = a[k] by simp [List.getD, hl, hka]]; exact List.getElem_mem _)) (hb _ (by rw [show b.getD k [] = b[k] by simp [List.getD, hka]]; exact List.getElem_mem _))
        by_cases hv : a.getD k [] = b.getD k []
        · rw [decide_eq_true hv] at hs1
          repeat' (first | simp only [go_sem, hs, hs1, Ret_eq Try.results8] | simp (disch := omega) only [arith, IntKind.bits, capMax, fill_len, elt_fill] | (refine awpI_draw2 (id := 6) (.one false 0 (.one false 1 (.one false 2 (.one false 3 (.one false 4 (.one false 5 (.one false 6 (.one false 7 (.one false 8 (.one false 9 (.one false 10 .done))))))))))) mixed (by decide +kernel) (by decide +kernel) ?_) | (refine Again.up (by omega) ?_ ?_) | fail)
          rw [e1, e2, hQ, hv]
        · rw [decide_eq_false hv] at hs1
          have hne : a ≠ b := fun q => hv (by rw [q])
          repeat' (first | simp only [go_sem, hs, hs1, decide_eq_false hne, Ret_eq Try.results8] | simp (disch := omega) only [arith, IntKind.bits, capMax, fill_len, elt_fill] | (refine awpI_draw2 (id := 6) (.one false 0 (.one false 1 (.one false 2 (.one false 3 (.one false 4 (.one false 5 (.one false 6 (.one false 7 (.one false 8 (.one false 9 (.one false 10 .done))))))))))) mixed (by decide +kernel) (by decide +kernel) ?_) | fail)
      · obtain rfl : k = b.length := by omega
        have hQ3 : a = b := by
          rw [List.take_length, ← hl, List.take_length] at hQ; exact hQ
        repeat' (first | simp only [go_sem, hs, decide_eq_true hQ3, Ret_eq Try.results8] | simp (disch := omega) only [arith, IntKind.bits, capMax, fill_len, elt_fill] | fail)
  · have hne : a ≠ b := fun q => hl (by rw [q])
    repeat' (first | simp only [go_sem, decide_eq_false hne, Ret_eq Try.results8] | simp (disch := omega) only [arith, IntKind.bits, capMax, fill_len, elt_fill] | fail)
end Go.Proofs.Ytcbkeekldbggkaa.T

end
section
set_option linter.unusedSimpArgs false
set_option linter.unusedVariables false
/- Lists of numbers compared. -/
namespace Go.Proofs.Ytcbkeekldbggkaa.T
open Go Go.VL Go.Proofs
set_option maxRecDepth 100000
end Go.Proofs.Ytcbkeekldbggkaa.T

end
section
set_option linter.unusedSimpArgs false
set_option linter.unusedVariables false
/- The document's numbers, put and taken. -/
namespace Go.Proofs.Ytcbkeekldbggkaa.T
open Go Go.VL Go.Proofs
set_option maxRecDepth 100000
def I64s (l : List Int) : Prop := ∀ n ∈ l, -9223372036854775808 ≤ n ∧ n ≤ 9223372036854775807
theorem I64s.getD {l : List Int} (h : I64s l) (k : Nat) : -9223372036854775808 ≤ l.getD k 0 ∧ l.getD k 0 ≤ 9223372036854775807 := by
  by_cases hk : k < l.length
  · exact h _ (getD_mem hk)
  · rw [show l.getD k 0 = 0 by simp [List.getD, List.getElem?_eq_none (show l.length ≤ k by omega)]]; omega
theorem pow2_le {m n : Nat} (h : m ≤ n) : (2 : Int) ^ m ≤ 2 ^ n := by exact_mod_cast Nat.pow_le_pow_right (by decide) h
theorem pow2_pos (m : Nat) : (1 : Int) ≤ 2 ^ m := by have := pow2_le (Nat.zero_le m); simpa using this

theorem fits_fun (n : Int) (w : Int) (hn : -9223372036854775808 ≤ n ∧ n ≤ 9223372036854775807) (hw : 1 ≤ w ∧ w ≤ 8) : Fun Try.prog 22 [.v (.int .i64 n), .v (.int .i64 w)] fun r => r = .v (.bool (putFit w n)) := by
  refine Fun.of_awpI Try.func22 rfl cal22 Try.ntmps22 (by simp) fun hwf => ?_
  simp only [D.wfs, D.wf, ints_length, ints_wfs, rows_length, rows_wfs, capMax, and_true, true_and] at hwf
  have hfit := putFit_iff (w := w.toNat) hn (by omega)
  rw [Int.toNat_of_nonneg (by omega)] at hfit
  repeat' (first | simp only [go_sem, Ret_eq Try.results22] | simp (disch := omega) only [arith, IntKind.bits, capMax, fill_len, elt_fill] | (with_reducible refine condI_beq (fun hq hqb => ?_) (fun hq hqb => ?_) <;> simp only [KP_mk, hqb]) | fail)
  · subst_vars
    have : putFit 8 n = true := hfit.2 (by simp; omega)
    rw [this]
  · have hb := pow2_le (m := 8 * w.toNat - 1) (n := 55) (by omega)
    refine awpI_for (8 * w.toNat - 1) (fun k => True) (fun k => [(5, .v (.int .i64 (2 ^ k))), (11, .v (.int .i64 k))]) (fun _ => []) [0, 10] [] _ (Weak.refl _) trivial ?_ ?_ ?_
    · simp only [go_sem, Ret_eq Try.results22]
    · simp only [go_sem, Ret_eq Try.results22]
    · intro k s hk _ hs
      simp only [go_sem, Ret_eq Try.results22] at hs
      have b1 := pow2_pos k
      have b2 := pow2_le (m := k) (n := 55) (by omega)
      have e : (2 : Int) * 2 ^ k = 2 ^ (k + 1) := by rw [Int.pow_succ, Int.mul_comm]
      by_cases hka : k < 8 * w.toNat - 1
      · have b3 := pow2_le (m := k + 1) (n := 55) (by omega)
        repeat' (first | simp only [go_sem, hs, e, Ret_eq Try.results22] | simp (disch := omega) only [arith, IntKind.bits, capMax, fill_len, elt_fill] | (refine Again.up (by omega) ?_ ?_) | fail)
      · obtain rfl : k = 8 * w.toNat - 1 := by omega
        repeat' (first | simp only [go_sem, hs, Ret_eq Try.results22] | simp (disch := omega) only [arith, IntKind.bits, capMax, fill_len, elt_fill] | (with_reducible refine condI_dec (fun hq hqb => ?_) (fun hq hqb => ?_) <;> simp only [KP_mk, hqb]) | fail)
        · rw [Bool.eq_iff_iff, hfit, decide_eq_true_eq]; omega
        · have : putFit w n = false := by rw [← Bool.not_eq_true, hfit]; omega
          rw [this]
theorem u64_oct {n : Int} {j : Nat} (hj : j < 8) : n % 18446744073709551616 / 256 ^ j % 256 = oct n j := by
  rw [oct_eq]
  have h1 : j = 0 ∨ j = 1 ∨ j = 2 ∨ j = 3 ∨ j = 4 ∨ j = 5 ∨ j = 6 ∨ j = 7 := by omega
  rcases h1 with rfl | rfl | rfl | rfl | rfl | rfl | rfl | rfl <;> simp <;> omega
theorem oct_bound (n : Int) (j : Nat) : 0 ≤ oct n j ∧ oct n j ≤ 255 := by rw [oct_eq]; omega
theorem octs_zero {n : Int} : octs 0 n = [] := rfl
theorem putErr_w {b l : List Int} {w : Int} (h : ¬ (1 ≤ w ∧ w ≤ 8)) : putErr b w l = 1 := by unfold putErr; rw [if_pos h]
theorem putErr_large {b l : List Int} {w : Int} (h : 1 ≤ w ∧ w ≤ 8) (h2 : l.all (putFit w) = false) : putErr b w l = 4 := by unfold putErr; rw [if_neg (by simpa using h), if_pos h2]
theorem putErr_long {b l : List Int} {w : Int} (h : 1 ≤ w ∧ w ≤ 8) (h2 : l.all (putFit w) = true) (h3 : 65536 < b.length + w * l.length) : putErr b w l = 3 := by
  have h4 : (l.length : Int) ≤ w * l.length := by have := Int.mul_le_mul_of_nonneg_right h.1 (Int.natCast_nonneg l.length); omega
  unfold putErr
  rw [if_neg (by simpa using h), if_neg (by simp [h2]), if_pos (by omega)]
theorem putErr_fine {b l : List Int} {w : Int} (h : 1 ≤ w ∧ w ≤ 8) (h2 : l.all (putFit w) = true) (h3 : b.length + w * l.length ≤ 65536) : putErr b w l = 0 := by
  have h4 : (l.length : Int) ≤ w * l.length := by have := Int.mul_le_mul_of_nonneg_right h.1 (Int.natCast_nonneg l.length); omega
  unfold putErr
  rw [if_neg (by simpa using h), if_neg (by simp [h2]), if_neg (by omega)]
theorem putRead_err {b l : List Int} {w : Int} (h : putErr b w l ≠ 0) : putRead b w l = [] := by unfold putRead; rw [if_neg h]
theorem putRead_fine {b l : List Int} {w : Int} (h : putErr b w l = 0) : putRead b w l = b ++ l.flatMap (octs w.toNat) := by unfold putRead; rw [if_pos h]; rfl

theorem refPut_fun (b : List Int) (w : Int) (l : List Int) (hl : I64s l) (hll : l.length ≤ 140737488355328) (hb : b.length ≤ 140737488355328) : Fun Try.prog 17 [.lst (ints .u8 b), .v (.int .i64 w), .lst (ints .i64 l)] fun r =>
    r = .tup [.lst (ints .u8 (putRead b w l)), .v (.int .i64 (putErr b w l))] := by
  refine Fun.of_awpI Try.func17 rfl cal17 Try.ntmps17 (by simp) fun hwf => ?_
  simp only [D.wfs, D.wf, ints_length, ints_wfs, rows_length, rows_wfs, capMax, and_true, true_and] at hwf
  repeat' (first | simp only [go_sem, Ret_eq Try.results17] | (with_reducible refine condI_dec (fun hq hqb => ?_) (fun hq hqb => ?_) <;> simp only [KP_mk, hqb]) | fail)
  · have he := putErr_w (b := b) (l := l) (w := w) (by omega)
    rw [putRead_err (by omega), he]; rfl
  · have he := putErr_w (b := b) (l := l) (w := w) (by omega)
    rw [putRead_err (by omega), he]; rfl
  · have hw : 1 ≤ w ∧ w ≤ 8 := by omega
    refine awpI_for l.length (fun k => (l.take k).all (putFit w) = true) (fun k => [(22, .v (.int .i64 k))]) (fun _ => []) [0, 1, 2, 20, 21] [] _ (Weak.refl _) (by simp) ?_ ?_ ?_
    · simp only [go_sem, Ret_eq Try.results17]
    · simp only [go_sem, Ret_eq Try.results17]
    · intro k s hk hQ hs
      simp only [go_sem, Ret_eq Try.results17] at hs
      by_cases hka : k < l.length
      · repeat' (first | simp only [go_sem, hs, Ret_eq Try.results17] | simp (disch := omega) only [arith, IntKind.bits, capMax, fill_len, elt_fill] | (with_reducible refine condI_b (fun hqb => ?_) (fun hqb => ?_) <;> simp only [KP_mk, hqb]) | (refine Again.up (by omega) ?_ ?_) | (refine opCallI_rd (by simp only [go_sem, hs, Ret_eq Try.results17]; first | done | rfl) (fits_fun _ _ (hl.getD k) hw) (by rintro _ rfl; rfl) ?_; rintro _ rfl) | fail)
        · rw [all_take_snoc (d := 0) hka, hQ, (by assumption : putFit w (l.getD k 0) = true)]; rfl
        · have he := putErr_large (b := b) hw (all_false_at (d := 0) hka (by assumption))
          rw [putRead_err (by omega), he]; rfl
      · obtain rfl : k = l.length := by omega
        rw [List.take_length] at hQ
        have h4 : (l.length : Int) ≤ w * l.length := by have := Int.mul_le_mul_of_nonneg_right hw.1 (Int.natCast_nonneg l.length); omega
        have h5 : w * l.length ≤ 8 * l.length := Int.mul_le_mul_of_nonneg_right hw.2 (by omega)
        repeat' (first | simp only [go_sem, hs, Ret_eq Try.results17] | simp (disch := omega) only [arith, IntKind.bits, capMax, fill_len, elt_fill] | (with_reducible refine condI_dec (fun hq hqb => ?_) (fun hq hqb => ?_) <;> simp only [KP_mk, hqb]) | fail)
        · have he := putErr_long (b := b) hw hQ (by omega)
          rw [putRead_err (by omega), he]; rfl
        · have he := putErr_fine (b := b) hw hQ (by omega)
          have hlen : (b ++ l.flatMap (octs w.toNat)).length ≤ 65536 := by
            rw [List.length_append, flat_octs_length]
            have : ((w.toNat * l.length : Nat) : Int) = w * l.length := by rw [Int.natCast_mul, Int.toNat_of_nonneg (by omega)]
            omega
          refine awpI_for l.length (fun k => True) (fun k => [(10, .ref 40 (b ++ (l.take k).flatMap (octs w.toNat)).length), (43, .v (.int .i64 k))]) (fun k => [(40, ⟨5, 1, ints .u8 (b ++ (l.take k).flatMap (octs w.toNat))⟩)]) [1, 41, 42] [] _ (Weak.refl _) trivial ?_ ?_ ?_
          · simp only [go_sem, List.flatMap_nil, Ret_eq Try.results17]
          · simp only [go_sem, List.flatMap_nil, Ret_eq Try.results17]
          · intro k s2 hk2 _ hs2
            simp only [go_sem, hs, Ret_eq Try.results17] at hs2
            by_cases hkb : k < l.length
            · have hacc : (b ++ (l.take k).flatMap (octs w.toNat)).length + w.toNat ≤ 65536 := by
                rw [List.length_append, flat_octs_length, List.length_take, Nat.min_eq_left hk2]
                rw [List.length_append, flat_octs_length] at hlen
                have : w.toNat * (k + 1) ≤ w.toNat * l.length := Nat.mul_le_mul_left _ hkb
                rw [Nat.mul_succ] at this
                omega
              have hfm := flatMap_take_snoc (g := octs w.toNat) (d := 0) hkb
              generalize hae : b ++ (l.take k).flatMap (octs w.toNat) = acc at *
              have hn := hl.getD k
              generalize hne : l.getD k 0 = n at *
              have h256 : ∀ j : Nat, 0 ≤ n % 18446744073709551616 / 256 ^ j ∧ n % 18446744073709551616 / 256 ^ j ≤ 18446744073709551615 := by
                intro j
                have h0 : 0 ≤ n % 18446744073709551616 := Int.emod_nonneg _ (by decide)
                have hp : (0 : Int) ≤ 256 ^ j := Int.le_of_lt (Int.pow_pos (by decide))
                have h1 := Int.ediv_nonneg h0 hp
                have h2 := Int.ediv_le_self (256 ^ j) h0
                omega
              have hu : IntKind.u64.wrap n = n % 18446744073709551616 / 256 ^ 0 := by rw [IntKind.wrap_u64]; simp
              repeat' (first | simp only [go_sem, hs2, hne, hu, Ret_eq Try.results17] | simp (disch := omega) only [arith, IntKind.bits, capMax, fill_len, elt_fill] | fail)
              refine awpI_for w.toNat (fun j => True) (fun j => [(10, .ref 40 (acc ++ octs j n).length), (13, .v (.int .u64 (n % 18446744073709551616 / 256 ^ j))), (50, .v (.int .i64 j))]) (fun j => [(40, ⟨5, 1, ints .u8 (acc ++ octs j n)⟩)]) [1, 41, 42, 43, 49] [] _ (Weak.refl _) trivial ?_ ?_ ?_
              · simp only [go_sem, hs2, hne, hu, octs_zero, Ret_eq Try.results17]
              · simp only [go_sem, hs2, octs_zero, Ret_eq Try.results17]
              · intro j s3 hj _ hs3
                simp only [go_sem, hs2, Ret_eq Try.results17] at hs3
                have b1 := h256 j
                by_cases hjw : j < w.toNat
                · have e1 := u64_oct (n := n) (j := j) (by omega)
                  have e2 := octs_succ (j := j) (n := n)
                  have e3 : (n % 18446744073709551616 / 256 ^ j) / 256 = n % 18446744073709551616 / 256 ^ (j + 1) := by
                    have hp : (0 : Int) ≤ 256 ^ j := Int.le_of_lt (Int.pow_pos (by decide))
                    rw [Int.ediv_ediv_of_nonneg hp, ← Int.pow_succ]
                  have e4 : (acc ++ (octs j n ++ [oct n j])).length ≤ 65536 := by rw [← e2, List.length_append, octs_length]; omega
                  have b2 := oct_bound n j
                  have b3 := h256 (j + 1)
                  clear h256
                  repeat' (first | simp only [go_sem, hs3, hs2, hs, e1, e2, e3, Ret_eq Try.results17] | simp (disch := omega) only [arith, IntKind.bits, capMax, fill_len, elt_fill, e1, e3] | (refine Again.up (by omega) ?_ ?_) | fail)
                · obtain rfl : j = w.toNat := by omega
                  clear h256
                  repeat' (first | simp only [go_sem, hs3, hs2, hs, hfm, Ret_eq Try.results17] | simp (disch := omega) only [arith, IntKind.bits, capMax, fill_len, elt_fill] | (refine Again.up (by omega) ?_ ?_) | fail)
                  subst hae
                  simp only [List.append_assoc, and_self]
            · obtain rfl : k = l.length := by omega
              rw [List.take_length] at hs2
              repeat' (first | simp only [go_sem, hs2, Ret_eq Try.results17] | simp (disch := omega) only [arith, IntKind.bits, capMax, fill_len, elt_fill] | fail)
              rw [putRead_fine he, he]
def refAcc (w : Nat) (seg : List Int) (u0 : Int) : Nat → Int
  | 0 => u0
  | j + 1 => IntKind.u64.wrap (IntKind.u64.wrap (256 * refAcc w seg u0 j) + IntKind.u64.wrap (seg.getD (w - 1 - j) 0))
theorem val_cons_drop {seg : List Int} {i : Nat} (h : i < seg.length) : val (seg.drop i) = seg.getD i 0 + 256 * val (seg.drop (i + 1)) := by
  rw [List.drop_eq_getElem_cons h, val]; simp [List.getD, h]
theorem refAcc_mod {w : Nat} {seg : List Int} (hs : seg.length = w) (u0 : Int) : ∀ j, j ≤ w → refAcc w seg u0 j % 18446744073709551616 = (256 ^ j * u0 + val (seg.drop (w - j))) % 18446744073709551616
  | 0, _ => by rw [refAcc, Nat.sub_zero, List.drop_of_length_le (by omega)]; simp [val]
  | j + 1, hj => by
    have ih := refAcc_mod hs u0 j (by omega)
    have hv := val_cons_drop (seg := seg) (i := w - 1 - j) (by omega)
    rw [show w - (j + 1) = w - 1 - j by omega, hv, show w - 1 - j + 1 = w - j by omega, refAcc, IntKind.wrap_u64, IntKind.wrap_u64, IntKind.wrap_u64, Int.pow_succ]
    generalize refAcc w seg u0 j = R at *
    generalize seg.getD (w - 1 - j) 0 = c at *
    generalize val (seg.drop (w - j)) = V at *
    have e : (256 : Int) ^ j * 256 * u0 = 256 * (256 ^ j * u0) := by grind
    rw [e]
    generalize (256 : Int) ^ j * u0 = X at *
    omega
theorem top_val {w : Nat} {seg : List Int} (hw : 1 ≤ w) (hs : seg.length = w) (ho : Octets seg) : (val seg < 2 ^ (8 * w - 1)) ↔ seg.getD (w - 1) 0 < 128 := by
  have e : seg = seg.take (w - 1) ++ [seg.getD (w - 1) 0] := by
    rw [← take_snoc (by omega), show w - 1 + 1 = w by omega, ← hs, List.take_length]
  have hv := val_snoc (seg.take (w - 1)) (seg.getD (w - 1) 0)
  rw [← e] at hv
  have hr := val_range (ho.take (w - 1))
  have hl : (seg.take (w - 1)).length = w - 1 := by simp; omega
  rw [hl] at hr hv
  have hp : (2 : Int) ^ (8 * w - 1) = 128 * 256 ^ (w - 1) := by
    rw [show (256 : Int) = 2 ^ 8 by decide, ← Int.pow_mul, show (128 : Int) = 2 ^ 7 by decide, ← Int.pow_add]
    congr 1
    omega
  rw [hv, hp]
  have hc := ho _ (getD_mem (d := 0) (show w - 1 < seg.length by omega))
  generalize seg.getD (w - 1) 0 = c at *
  generalize val (seg.take (w - 1)) = V at *
  have hM : (0 : Int) < 256 ^ (w - 1) := Int.pow_pos (by decide)
  generalize (256 : Int) ^ (w - 1) = M at *
  constructor
  · intro h
    refine Int.not_le.1 fun h128 => ?_
    have : M * 128 ≤ M * c := Int.mul_le_mul_of_nonneg_left h128 (by omega)
    omega
  · intro h
    have : M * c ≤ M * 127 := Int.mul_le_mul_of_nonneg_left (by omega) (by omega)
    omega
theorem refNum {w : Nat} {bs : List Int} (hw : 1 ≤ w ∧ w ≤ 8) (ho : Octets bs) (hl : w ≤ bs.length) (u0 : Int) (hu : u0 = if 128 ≤ (bs.take w).getD (w - 1) 0 then 18446744073709551615 else 0) : IntKind.i64.wrap (refAcc w (bs.take w) u0 w) = takeNum w bs := by
  have hs : (bs.take w).length = w := by simp; omega
  have hm := refAcc_mod hs u0 w (Nat.le_refl _)
  have ht := top_val hw.1 hs (ho.take w)
  have hr := val_range (ho.take w)
  rw [hs] at hr
  rw [Nat.sub_self, List.drop_zero] at hm
  rw [takeNum_eq hw ho hl]
  unfold sgn
  have e2 : (2 : Int) ^ (8 * w) = 256 ^ w := by rw [Int.pow_mul]; rfl
  rw [e2]
  generalize val (bs.take w) = V at *
  generalize refAcc w (bs.take w) u0 w = R at *
  have hp : (256 : Int) ^ w ≤ 256 ^ 8 := by exact_mod_cast Nat.pow_le_pow_right (by decide) hw.2
  have hp8 : (256 : Int) ^ 8 = 18446744073709551616 := by decide
  have hh : (256 : Int) ^ w = 2 * 2 ^ (8 * w - 1) := by
    rw [show (256 : Int) = 2 ^ 8 by decide, ← Int.pow_mul, ← Int.pow_succ']
    congr 1
    omega
  rw [IntKind.wrap_i64]
  split
  · rename_i hlt
    rw [if_neg (by have := ht.1 hlt; omega)] at hu
    subst hu
    rw [Int.mul_zero] at hm
    omega
  · rename_i hge
    rw [if_pos (by refine Int.not_lt.1 fun h => hge (ht.2 h))] at hu
    subst hu
    have e3 : (256 : Int) ^ w * 18446744073709551615 = 256 ^ w * 18446744073709551616 - 256 ^ w := by grind
    rw [e3] at hm
    generalize (256 : Int) ^ w = M at *
    have : (M * 18446744073709551616 - M + V) % 18446744073709551616 = (V - M) % 18446744073709551616 := by omega
    omega

theorem refTake_fun (b : List Int) (w n : Int) (hb : b.length ≤ 140737488355328) (ho : Octets b) : Fun Try.prog 18 [.lst (ints .u8 b), .v (.int .i64 w), .v (.int .i64 n)] fun r =>
    r = .tup [.lst (ints .i64 (takeOut b w n)), .lst (ints .u8 (takeRest b w n)), .v (.int .i64 (takeErr b w n))] := by
  refine Fun.of_awpI Try.func18 rfl cal18 Try.ntmps18 (by simp) fun hwf => ?_
  simp only [D.wfs, D.wf, ints_length, ints_wfs, rows_length, rows_wfs, capMax, and_true, true_and] at hwf
  have bad : ∀ c : Int, takeErr b w n = c → c ≠ 0 → takeOut b w n = [] ∧ takeRest b w n = [] := by
    rintro c rfl hc
    simp [takeOut, takeRest, hc]
  by_cases hok : (1 ≤ w ∧ w ≤ 8) ∧ 0 ≤ n ∧ n ≤ 65536
  · obtain ⟨hw, hn⟩ := hok
    have hub : n * w ≤ 65536 * 8 := Int.mul_le_mul hn.2 hw.2 (by omega) (by omega)
    have hlb : 0 ≤ n * w := Int.mul_nonneg hn.1 (by omega)
    by_cases hl : n * w ≤ b.length
    · obtain ⟨w, rfl⟩ : ∃ v : Nat, w = v := ⟨w.toNat, by omega⟩
      obtain ⟨m, rfl⟩ : ∃ v : Nat, n = v := ⟨n.toNat, by omega⟩
      have he : takeErr b w m = 0 := by unfold takeErr; rw [if_neg (by omega), if_neg (by omega)]
      have hmw : m * w ≤ b.length := by exact_mod_cast hl
      repeat' (first | simp only [go_sem, Ret_eq Try.results18] | simp (disch := omega) only [arith, IntKind.bits, capMax, fill_len, elt_fill] | fail)
      refine awpI_for m (fun k => True) (fun k => [(9, .ref 69 k), (34, .v (.int .i64 k))]) (fun k => [(69, ⟨2, 1, ints .i64 (takeNums w k b)⟩)]) [0, 1, 2, 33] [] _ (Weak.adopt (j := 9) 69 2 1 (by simp only [go_sem, Ret_eq Try.results18]) (by simp only [go_sem, Ret_eq Try.results18]) (by decide)) trivial ?_ ?_ ?_
      · simp only [go_sem, Ret_eq Try.results18]
      · simp only [go_sem, takeNums, Ret_eq Try.results18]
      · intro k s hk _ hs
        simp only [go_sem, Ret_eq Try.results18] at hs
        by_cases hka : k < m
        · have hkw : k * w + w ≤ b.length := by
            have : (k + 1) * w ≤ m * w := Nat.mul_le_mul_right _ hka
            rw [Nat.succ_mul] at this
            omega
          have hkw' : ((k * w : Nat) : Int) = (k : Int) * w := Int.natCast_mul k w
          have hbl : w ≤ (b.drop (w * k)).length := by simp; rw [Nat.mul_comm]; omega
          have hseg : ∀ i, i < w → b.getD (k * w + i) 0 = ((b.drop (w * k)).take w).getD i 0 := by
            intro i hi
            simp [List.getD, List.getElem?_take, hi, Nat.mul_comm]
          have e1 : b.getD ((k : Int) * w + w - 1).toNat 0 = ((b.drop (w * k)).take w).getD (w - 1) 0 := by
            rw [← hseg (w - 1) (by omega)]; congr 1; omega
          have hsn := takeNums_snoc (w : Int) k b
          rw [Int.toNat_natCast] at hsn
          have hnum := fun u0 hu => refNum (w := w) (bs := b.drop (w * k)) (by omega) (ho.drop _) hbl u0 hu
          generalize hsg : (b.drop (w * k)).take w = seg at *
          repeat' (first | simp only [go_sem, hs, e1, Ret_eq Try.results18] | simp (disch := omega) only [arith, IntKind.bits, capMax, fill_len, elt_fill] | (with_reducible refine condI_dec (fun hq hqb => ?_) (fun hq hqb => ?_) <;> simp only [KP_mk, hqb]) | fail)
          · have hN := hnum 18446744073709551615 (by rw [if_pos (by omega)])
            refine awpI_for w (fun j => True) (fun j => [(11, .v (.int .u64 (refAcc w seg 18446744073709551615 j))), (12, .v (.int .i64 ((w : Int) - 1 - j)))]) (fun j => [(69, ⟨2, 1, ints .i64 (takeNums w k b)⟩)]) [0, 1, 2, 9, 10, 33, 34] [] _ (Weak.refl _) trivial ?_ ?_ ?_
            · simp only [go_sem, hs, refAcc, Ret_eq Try.results18]
              simp
            · simp only [go_sem, hs, Ret_eq Try.results18]
            · intro j s3 hj _ hs3
              simp only [go_sem, hs, Ret_eq Try.results18] at hs3
              by_cases hjw : j < w
              · have e2 : b.getD ((k : Int) * w + (w - 1 - j)).toNat 0 = seg.getD (w - 1 - j) 0 := by
                  rw [← hseg (w - 1 - j) (by omega)]; congr 1; omega
                repeat' (first | simp only [go_sem, hs3, hs, e2, refAcc, Ret_eq Try.results18] | simp (disch := omega) only [arith, IntKind.bits, capMax, fill_len, elt_fill] | (refine Again.up (by omega) ?_ ?_) | fail)
                omega
              · obtain rfl : j = w := by omega
                repeat' (first | simp only [go_sem, hs3, hs, hN, ← hsn, takeNums_length, Ret_eq Try.results18] | simp (disch := omega) only [arith, IntKind.bits, capMax, fill_len, elt_fill] | (refine Again.up (by omega) ?_ ?_) | fail)
          · have hN := hnum 0 (by rw [if_neg (by omega)])
            refine awpI_for w (fun j => True) (fun j => [(11, .v (.int .u64 (refAcc w seg 0 j))), (12, .v (.int .i64 ((w : Int) - 1 - j)))]) (fun j => [(69, ⟨2, 1, ints .i64 (takeNums w k b)⟩)]) [0, 1, 2, 9, 10, 33, 34] [] _ (Weak.refl _) trivial ?_ ?_ ?_
            · simp only [go_sem, hs, refAcc, Ret_eq Try.results18]
              simp
            · simp only [go_sem, hs, Ret_eq Try.results18]
            · intro j s3 hj _ hs3
              simp only [go_sem, hs, Ret_eq Try.results18] at hs3
              by_cases hjw : j < w
              · have e2 : b.getD ((k : Int) * w + (w - 1 - j)).toNat 0 = seg.getD (w - 1 - j) 0 := by
                  rw [← hseg (w - 1 - j) (by omega)]; congr 1; omega
                repeat' (first | simp only [go_sem, hs3, hs, e2, refAcc, Ret_eq Try.results18] | simp (disch := omega) only [arith, IntKind.bits, capMax, fill_len, elt_fill] | (refine Again.up (by omega) ?_ ?_) | fail)
                omega
              · obtain rfl : j = w := by omega
                repeat' (first | simp only [go_sem, hs3, hs, hN, ← hsn, takeNums_length, Ret_eq Try.results18] | simp (disch := omega) only [arith, IntKind.bits, capMax, fill_len, elt_fill] | (refine Again.up (by omega) ?_ ?_) | fail)
        · obtain rfl : k = m := by omega
          have hdr : b.drop ((k : Int) * w).toNat = b.drop (w * k) := by
            congr 1
            have : ((k * w : Nat) : Int) = (k : Int) * w := Int.natCast_mul k w
            rw [Nat.mul_comm]; omega
          have htk : (takeNums w k b).take k = takeNums w k b := by rw [List.take_of_length_le (by rw [takeNums_length]; exact Nat.le_refl _)]
          have hdl : (b.drop (w * k)).length ≤ 140737488355328 := by simp; omega
          repeat' (first | simp only [go_sem, hs, hdr, takeNums_length, htk, Ret_eq Try.results18] | simp (disch := omega) only [arith, IntKind.bits, capMax, fill_len, elt_fill] | fail)
          rw [he]
          simp only [takeOut, takeRest, he, if_true, Int.toNat_natCast]
    · have he : takeErr b w n = 2 := by unfold takeErr; rw [if_neg (by omega), if_pos (by omega)]
      obtain ⟨q1, q2⟩ := bad 2 he (by decide)
      repeat' (first | simp only [go_sem, Ret_eq Try.results18] | simp (disch := omega) only [arith, IntKind.bits, capMax, fill_len, elt_fill] | fail)
      rw [he, q1, q2]; rfl
  · have he : takeErr b w n = 1 := by unfold takeErr; rw [if_pos (by omega)]
    obtain ⟨q1, q2⟩ := bad 1 he (by decide)
    repeat' (first | simp only [go_sem, he, q1, q2, ints_nil, Ret_eq Try.results18] | simp (disch := omega) only [arith, IntKind.bits, capMax, fill_len, elt_fill] | (with_reducible refine condI_dec (fun hq hqb => ?_) (fun hq hqb => ?_) <;> simp only [KP_mk, hqb]) | fail)
end Go.Proofs.Ytcbkeekldbggkaa.T

end
section
set_option linter.unusedSimpArgs false
set_option linter.unusedVariables false
/- The document's lists of texts, walked. -/
namespace Go.Proofs.Ytcbkeekldbggkaa.T
open Go Go.VL Go.Proofs
set_option maxRecDepth 100000
set_option maxHeartbeats 4000000
theorem put4 {n : Nat} (hn : n ≤ 65536) : putErr [] 4 [(n : Int)] = 0 ∧ putRead [] 4 [(n : Int)] = octs 4 n := by
  have hf : putFit (4 : Nat) (n : Int) = true := (putFit_iff (w := 4) (by omega) (by decide)).2 (by constructor <;> simp <;> omega)
  have hf : putFit 4 (n : Int) = true := hf
  have e : putErr [] 4 [(n : Int)] = 0 := putErr_fine (by decide) (by simp [hf]) (by simp)
  exact ⟨e, by rw [putRead_fine e]; simp⟩

theorem refList_fun (l : List (List Int)) (h7 : ∀ x ∈ l, x.length ≤ 70000) (hll : l.length ≤ 300) : Fun Try.prog 9 [.lst (rows .u8 l)] fun r => r = .tup [.lst (ints .u8 (listOut l)), .v (.int .i64 (listErr l))] := by
  refine Fun.of_awpI Try.func9 rfl cal9 Try.ntmps9 (by simp) fun hwf => ?_
  simp only [D.wfs, D.wf, ints_length, ints_wfs, rows_length, rows_wfs, capMax, and_true, true_and] at hwf
  have h7k : ∀ k, (l.getD k []).length ≤ 70000 := fun k => by
    by_cases hk : k < l.length
    · rw [show l.getD k [] = l[k] by simp [List.getD, hk]]; exact h7 _ (List.getElem_mem hk)
    · simp [List.getD, List.getElem?_eq_none (show l.length ≤ k by omega)]
  repeat' (first | simp only [go_sem, Ret_eq Try.results9] | fail)
  refine awpI_for l.length (fun k => (listAll (l.take k)).length ≤ 65536) (fun k => [(4, .v (.int .i64 (listAll (l.take k)).length)), (14, .v (.int .i64 k))]) (fun _ => []) [0, 12, 13] [] _ (Weak.refl _) (by simp [listAll]) ?_ ?_ ?_
  · simp only [go_sem, listAll, List.take_zero, List.flatMap_nil, Ret_eq Try.results9]
  · simp only [go_sem, Ret_eq Try.results9]
  · intro k s hk hQ hs
    simp only [go_sem, Ret_eq Try.results9] at hs
    by_cases hka : k < l.length
    · have e1 := listAll_snoc hka
      have hle := listAll_le (l := l) (k + 1)
      have htx := textOf_len (l.getD k [])
      have hbx := h7k k
      have e2 : (listAll (l.take (k + 1))).length = (listAll (l.take k)).length + (4 + (l.getD k []).length) := by rw [e1, List.length_append, htx]
      have hmin : min ((l.getD k []).length : Int) 70000 = (l.getD k []).length := by omega
      by_cases hbig : 65536 < (listAll (l.take k)).length + (4 + (l.getD k []).length)
      · have he : listErr l = 3 := by
          unfold listErr; rw [if_pos (by omega)]
        have ho : listOut l = [] := by unfold listOut; rw [if_neg (by rw [he]; decide)]
        rw [he, ho]
        have hmi : ¬ (70000 < ((l.getD k []).length : Int)) := by omega
        have hbi : (65536 < ((listAll (l.take k)).length : Int) + (4 + ((l.getD k []).length : Int))) := by omega
        repeat' (first | simp only [go_sem, hs, hmi, hbi, if_neg hmi, Ret_eq Try.results9] | simp (disch := omega) only [arith, IntKind.bits, capMax, fill_len, elt_fill] | fail)
      · have hmi : ¬ (70000 < ((l.getD k []).length : Int)) := by omega
        repeat' (first | simp only [go_sem, hs, hmi, if_neg hmi, e2, Ret_eq Try.results9] | simp (disch := omega) only [arith, IntKind.bits, capMax, fill_len, elt_fill] | (refine Again.up (by omega) ?_ ?_) | fail)
        all_goals omega
    · obtain rfl : k = l.length := by omega
      rw [List.take_length] at *
      have he : listErr l = 0 := by unfold listErr; rw [if_neg (by omega)]
      have ho : listOut l = listAll l := by unfold listOut; rw [if_pos he]
      rw [he, ho]
      repeat' (first | simp only [go_sem, hs, Ret_eq Try.results9] | simp (disch := omega) only [arith, IntKind.bits, capMax, fill_len, elt_fill] | fail)
      refine awpI_for l.length (fun k => True) (fun k => [(7, .ref 42 (listAll (l.take k)).length), (29, .v (.int .i64 k))]) (fun k => [(42, ⟨5, 1, ints .u8 (listAll (l.take k))⟩)]) [27, 28] [] _ (Weak.adopt (j := 7) 42 5 1 (by simp only [go_sem, hs, Ret_eq Try.results9]) (by simp only [go_sem, hs, Ret_eq Try.results9]) (by decide)) trivial ?_ ?_ ?_
      · simp only [go_sem, listAll, List.take_zero, List.flatMap_nil, Ret_eq Try.results9]
      · simp only [go_sem, hs, listAll, List.take_zero, List.flatMap_nil, Ret_eq Try.results9]
      · intro k s2 hk2 _ hs2
        simp only [go_sem, hs, Ret_eq Try.results9] at hs2
        by_cases hkb : k < l.length
        · have e1 := listAll_snoc hkb
          have hle := listAll_le (l := l) (k + 1)
          have htx := textOf_len (l.getD k [])
          generalize hx : l.getD k [] = x at *
          generalize hacc : listAll (l.take k) = acc at *
          have hle2 : acc.length + (4 + x.length) ≤ 65536 := by rw [e1, List.length_append, htx] at hle; omega
          obtain ⟨p1, p2⟩ := put4 (n := x.length) (by omega)
          have hp := refPut_fun [] 4 [(x.length : Int)] (by intro n hn; rw [List.mem_singleton.1 hn]; omega) (by simp) (by simp)
          rw [p1, p2] at hp
          have hp' : Fun Try.prog 17 [.lst [], .v (.int .i64 4), .lst [.v (.int .i64 x.length)]] fun r => r = .tup [.lst (ints .u8 (octs 4 x.length)), .v (.int .i64 0)] := hp
          have ho : acc ++ octs 4 x.length ++ x = acc ++ textOf x := by unfold textOf; rw [List.append_assoc]
          have ho2 : acc ++ (octs 4 x.length ++ x) = acc ++ textOf x := rfl
          have hq : (acc ++ textOf x).length * 1 ≤ 140737488355328 ∧ (acc ++ textOf x).length ≤ 9223372036854775807 := by rw [List.length_append, htx]; omega
          have hq1 : (acc ++ octs 4 x.length).length * 1 ≤ 140737488355328 ∧ (acc ++ octs 4 x.length).length ≤ 9223372036854775807 := by rw [List.length_append, octs_length]; omega
          repeat' (first | simp only [go_sem, hs2, hx, ho, ho2, e1, hq, hq1, Ret_eq Try.results9] | simp (disch := omega) only [arith, IntKind.bits, capMax, fill_len, elt_fill] | (refine Again.up (by omega) ?_ ?_) | (refine opCallI_gv (by simp only [go_sem, hs2, hx, ho, ho2, e1, hq, hq1, Ret_eq Try.results9]; first | done | rfl) (hp') ?_; rintro _ rfl) | fail)
          all_goals exact hs.1.symm
        · obtain rfl : k = l.length := by omega
          rw [List.take_length] at *
          repeat' (first | simp only [go_sem, hs2, Ret_eq Try.results9] | simp (disch := omega) only [arith, IntKind.bits, capMax, fill_len, elt_fill] | fail)
end Go.Proofs.Ytcbkeekldbggkaa.T

end
section
set_option linter.unusedSimpArgs false
set_option linter.unusedVariables false
/- Check sums, walked. -/
namespace Go.Proofs.Ytcbkeekldbggkaa.T
open Go Go.VL Go.Proofs
set_option maxRecDepth 100000

theorem sum_fun (b : List Int) (ho : Octets b) : Fun Try.prog 11 [.lst (ints .u8 b)] fun r => r = .v (.int .u32 (crcSum b).toNat) := by
  refine Fun.of_awpI Try.func11 rfl cal11 Try.ntmps11 (by simp) fun hwf => ?_
  simp only [D.wfs, D.wf, ints_length, ints_wfs, capMax, and_true] at hwf
  repeat' (first | simp only [go_sem, Ret_eq Try.results11] | fail)
  refine awpI_for b.length (fun k => True) (fun k => [(3, .v (.int .u32 (crcAll (b.take k) (BitVec.allOnes 32)).toNat)), (8, .v (.int .i64 k))]) (fun _ => []) [6, 7] [] _ (Weak.refl _) trivial ?_ ?_ ?_
  · simp only [go_sem, Ret_eq Try.results11]
    simp [crcAll]
  · simp only [go_sem, Ret_eq Try.results11]
  · intro k s hk _ hs
    simp only [go_sem, Ret_eq Try.results11] at hs
    repeat' (first | simp only [go_sem, hs, crc_in, Ret_eq Try.results11] | simp (disch := omega) only [arith, IntKind.bits, capMax, fill_len, elt_fill] | (with_reducible refine condI_dec (fun hq hqb => ?_) (fun hq hqb => ?_) <;> simp only [KP_mk, hqb]) | fail)
    · refine awpI_for 8 (fun k => True) (fun j => [(3, .v (.int .u32 (crcBits j (crcAll (b.take k) (BitVec.allOnes 32) ^^^ w32 (b.getD k 0))).toNat)), (16, .v (.int .i64 j))]) (fun _ => []) [6, 7, 8] [] _ (Weak.refl _) trivial ?_ ?_ ?_
      · simp only [go_sem, hs, crcBits, crc_in, Ret_eq Try.results11]
      · simp only [go_sem, Ret_eq Try.results11]
      · intro j s2 hj _ hs2
        simp only [go_sem, hs, Ret_eq Try.results11] at hs2
        repeat' (first | simp only [go_sem, hs2, hs, crcBit_int, crcBits, Ret_eq Try.results11] | simp (disch := omega) only [arith, IntKind.bits, capMax, fill_len, elt_fill] | (with_reducible refine condI_dec (fun hq hqb => ?_) (fun hq hqb => ?_) <;> simp only [KP_mk, hqb]) | (refine Again.up (by omega) ?_ ?_) | fail)
        have : j = 8 := by omega
        rw [this, crcAll_succ (by omega)]; rfl
    · rw [crc_out]
      have : k = b.length := by omega
      rw [this, List.take_length]; rfl
end Go.Proofs.Ytcbkeekldbggkaa.T

end
section
set_option linter.unusedSimpArgs false
set_option linter.unusedVariables false
/- The document's check sum, walked. -/
namespace Go.Proofs.Ytcbkeekldbggkaa.T
open Go Go.VL Go.Proofs
set_option maxRecDepth 100000
set_option maxHeartbeats 4000000

theorem refSum_fun (b : List Int) (ho : Octets b) : Fun Try.prog 12 [.lst (ints .u8 b)] fun r => r = .v (.int .u32 (crcSum b).toNat) := by
  refine Fun.of_awpI Try.func12 rfl cal12 Try.ntmps12 (by simp) fun hwf => ?_
  simp only [D.wfs, D.wf, ints_length, ints_wfs, rows_length, rows_wfs, capMax, and_true, true_and] at hwf
  repeat' (first | simp only [go_sem, Ret_eq Try.results12] | fail)
  refine awpI_for b.length (fun k => True) (fun k => [(3, .v (.int .u32 (crcAll (b.take k) (BitVec.allOnes 32)).toNat)), (10, .v (.int .i64 k))]) (fun _ => []) [8, 9] [] _ (Weak.refl _) trivial ?_ ?_ ?_
  · simp only [go_sem, Ret_eq Try.results12]
    simp [crcAll]
  · simp only [go_sem, Ret_eq Try.results12]
  · intro k s hk _ hs
    simp only [go_sem, Ret_eq Try.results12] at hs
    by_cases hka : k < b.length
    · have hoct : 0 ≤ b.getD k 0 ∧ b.getD k 0 ≤ 255 := ho _ (getD_mem hka)
      generalize hc : b.getD k 0 = c at *
      generalize hr : crcAll (b.take k) (BitVec.allOnes 32) = r at *
      have hnext : crcAll (b.take (k + 1)) (BitVec.allOnes 32) = docR (w32 c) 8 r := by rw [crcAll_succ hka, hc, hr, docR_8 hoct]
      repeat' (first | simp only [go_sem, hs, hc, Ret_eq Try.results12] | simp (disch := omega) only [arith, IntKind.bits, capMax, fill_len, elt_fill] | fail)
      refine awpI_for 8 (fun j => True) (fun j => [(3, .v (.int .u32 (docR (w32 c) j r).toNat)), (14, .v (.int .i64 j))]) (fun _ => []) [5, 8, 9, 10] [] _ (Weak.refl _) trivial ?_ ?_ ?_
      · simp only [go_sem, hs, docR_zero, Ret_eq Try.results12]
      · simp only [go_sem, hs, Ret_eq Try.results12]
      · intro j s2 hj _ hs2
        simp only [go_sem, hs, Ret_eq Try.results12] at hs2
        by_cases hja : j < 8
        · repeat' (first | simp only [go_sem, hs2, Ret_eq Try.results12] | simp (disch := omega) only [arith, IntKind.bits, capMax, fill_len, elt_fill] | (with_reducible refine condI_bne (fun hq hqb => ?_) (fun hq hqb => ?_) <;> simp only [KP_mk, hqb]) | (refine Again.up (by omega) ?_ ?_) | fail)
          · exact ⟨hs.1.symm, doc_yes hoct hq, hs.2.2.1.symm, hs.2.2.2.symm, hs.2.1.2.symm⟩
          · exact ⟨hs.1.symm, doc_no hoct hq, hs.2.2.1.symm, hs.2.2.2.symm, hs.2.1.2.symm⟩
        · obtain rfl : j = 8 := by omega
          repeat' (first | simp only [go_sem, hs2, hnext, Ret_eq Try.results12] | simp (disch := omega) only [arith, IntKind.bits, capMax, fill_len, elt_fill] | (refine Again.up (by omega) ?_ ?_) | fail)
    · obtain rfl : k = b.length := by omega
      rw [List.take_length] at *
      repeat' (first | simp only [go_sem, hs, Ret_eq Try.results12] | simp (disch := omega) only [arith, IntKind.bits, capMax, fill_len, elt_fill] | fail)
      exact doc_end b
end Go.Proofs.Ytcbkeekldbggkaa.T

end
section
set_option linter.unusedSimpArgs false
set_option linter.unusedVariables false
/- The document's cutting, walked. -/
namespace Go.Proofs.Ytcbkeekldbggkaa.T
open Go Go.VL Go.Proofs
set_option maxRecDepth 100000
set_option maxHeartbeats 4000000

theorem refCut_fun (b : List Int) (ho : Octets b) : Fun Try.prog 10 [.lst (ints .u8 b)] fun r => r = .tup [.lst (rows .u8 (cutOut b)), .v (.int .i64 (cutErr b))] := by
  refine Fun.of_awpI Try.func10 rfl cal10 Try.ntmps10 (by simp) fun hwf => ?_
  simp only [D.wfs, D.wf, ints_length, ints_wfs, rows_length, rows_wfs, capMax, and_true, true_and] at hwf
  by_cases h : 65536 < b.length
  · have he : cutErr b = 3 := by unfold cutErr; rw [if_pos h]
    have hout : cutOut b = [] := by unfold cutOut; rw [if_neg (by rw [he]; decide)]
    rw [he, hout]
    repeat' (first | simp only [go_sem, Ret_eq Try.results10] | simp (disch := omega) only [arith, IntKind.bits, capMax, fill_len, elt_fill] | fail)
    all_goals rfl
  · repeat' (first | simp only [go_sem, Ret_eq Try.results10] | simp (disch := omega) only [arith, IntKind.bits, capMax, fill_len, elt_fill] | fail)
    have hk2 := cutL_len b.length b
    refine awpI_for (cutL b.length b).length (fun _ => True) (fun k => [(0, .lst (ints .u8 (cutRest k b))), (4, .ref 46 k)]) (fun k => [(46, ⟨23, 1, rows .u8 ((cutL b.length b).take k)⟩)]) [] [] _ (Weak.adopt (j := 4) 46 23 1 (by simp only [go_sem, Ret_eq Try.results10]) (by simp only [go_sem, Ret_eq Try.results10]) (by decide)) trivial ?_ ?_ ?_
    · simp only [go_sem, cutRest, Ret_eq Try.results10]
    · simp only [go_sem, cutRest, List.take_zero, Ret_eq Try.results10]
      rfl
    · intro k s hk _ hs
      simp only [go_sem, Ret_eq Try.results10] at hs
      have hcl := cutRest_len b k
      have hco := cutRest_octets ho k
      have hlk : ((cutL b.length b).take k).length = k := by rw [List.length_take]; omega
      have hT := refTake_fun (cutRest k b) 4 1 (by omega) hco
      rcases cutAt (Nat.le_refl b.length) hk with ⟨c1, rfl, c3⟩ | ⟨c1, c2, rfl, c4⟩ | ⟨x, r, c1, c2, c3, c4, c5⟩
      · rw [c1] at hs
        rw [List.take_length] at hs
        have he : cutErr b = 0 := by unfold cutErr; rw [if_neg h, if_pos c3]
        have hout : cutOut b = cutL b.length b := by unfold cutOut; rw [if_pos he]
        rw [he, hout]
        clear hT
        have htl : (cutL b.length b).take (cutL b.length b).length = cutL b.length b := List.take_length
        repeat' (first | simp only [go_sem, hs, htl, Ret_eq Try.results10] | fail)
        all_goals rfl
      · have he : cutErr b = 2 := by unfold cutErr; rw [if_neg h, if_neg (by rw [c4]; decide)]
        have hout : cutOut b = [] := by unfold cutOut; rw [if_neg (by rw [he]; decide)]
        rw [he, hout]
        have hpos : 0 < (cutRest (cutL b.length b).length b).length := by
          cases hq : cutRest (cutL b.length b).length b with
          | nil => exact absurd hq c1
          | cons y l => simp
        generalize cutRest (cutL b.length b).length b = c at *
        by_cases h4c : c.length < 4
        · have hE : takeErr c 4 1 = 2 := by unfold takeErr; rw [if_neg (by omega), if_pos (by omega)]
          have hO : takeOut c 4 1 = [] := by unfold takeOut; rw [if_neg (by rw [hE]; decide)]
          have hR : takeRest c 4 1 = [] := by unfold takeRest; rw [if_neg (by rw [hE]; decide)]
          rw [hE, hO, hR] at hT
          repeat' (first | simp only [go_sem, hs, Ret_eq Try.results10] | simp (disch := omega) only [arith, IntKind.bits, capMax, fill_len, elt_fill] | (refine opCallI_gv (by simp only [go_sem, hs, Ret_eq Try.results10]; first | done | rfl) (hT) ?_; rintro _ rfl) | fail)
          all_goals rfl
        · have hE : takeErr c 4 1 = 0 := by unfold takeErr; rw [if_neg (by omega), if_neg (by omega)]
          have hO : takeOut c 4 1 = [takeNum 4 c] := by unfold takeOut; rw [if_pos hE]; rfl
          have hR : takeRest c 4 1 = c.drop 4 := by unfold takeRest; rw [if_pos hE]; rfl
          rw [hE, hO, hR] at hT
          have hbad : takeNum 4 c < 0 ∨ ((c.drop 4).length : Int) < takeNum 4 c := by
            unfold cutStep at c2
            split at c2
            · rename_i q; exact q.resolve_left h4c
            · cases c2
          have hT' : Fun Try.prog 18 [.lst (ints .u8 c), .v (.int .i64 4), .v (.int .i64 1)] fun r => r = .tup [.lst [.v (.int .i64 (takeNum 4 c))], .lst (ints .u8 (c.drop 4)), .v (.int .i64 0)] := hT
          generalize c.drop 4 = rst at *
          generalize takeNum 4 c = l0 at *
          repeat' (first | simp only [go_sem, hs, Ret_eq Try.results10] | simp (disch := omega) only [arith, IntKind.bits, capMax, fill_len, elt_fill] | (with_reducible refine condI_dec (fun hq hqb => ?_) (fun hq hqb => ?_) <;> simp only [KP_mk, hqb]) | (refine opCallI_gv (by simp only [go_sem, hs, Ret_eq Try.results10]; first | done | rfl) (hT') ?_; rintro _ rfl) | fail)
          all_goals rfl
      · have hpos : 0 < (cutRest k b).length := by
          cases hq : cutRest k b with
          | nil => exact absurd hq c1
          | cons y l => simp
        generalize hcc : cutRest k b = c at *
        unfold cutStep at c2
        split at c2
        · cases c2
        · rename_i hn
          have hE : takeErr c 4 1 = 0 := by unfold takeErr; rw [if_neg (by omega), if_neg (by omega)]
          have hO : takeOut c 4 1 = [takeNum 4 c] := by unfold takeOut; rw [if_pos hE]; rfl
          have hR : takeRest c 4 1 = c.drop 4 := by unfold takeRest; rw [if_pos hE]; rfl
          rw [hE, hO, hR] at hT
          simp only [Option.some.injEq, Prod.mk.injEq] at c2
          obtain ⟨d1, d2⟩ := c2
          have hT' : Fun Try.prog 18 [.lst (ints .u8 c), .v (.int .i64 4), .v (.int .i64 1)] fun r => r = .tup [.lst [.v (.int .i64 (takeNum 4 c))], .lst (ints .u8 (c.drop 4)), .v (.int .i64 0)] := hT
          have hrl : (c.drop 4).length ≤ 65536 := by rw [List.length_drop]; omega
          obtain ⟨j, hj⟩ : ∃ j : Nat, takeNum 4 c = j := ⟨(takeNum 4 c).toNat, by omega⟩
          rw [hj] at hT' hn d1 d2
          rw [Int.toNat_natCast] at d1 d2
          generalize c.drop 4 = rst at *
          have hjl : j ≤ rst.length := by omega
          have hxl : x.length = j := by rw [← d1, List.length_take]; omega
          have hl2 : ((cutL b.length b).take k ++ [x]).length = k + 1 := by rw [List.length_append, hlk]; rfl
          have hq : (k + 1) * 24 ≤ 140737488355328 ∧ k + 1 ≤ 9223372036854775807 := by omega
          repeat' (first | simp only [go_sem, hs, hlk, d1, d2, c4, c5, hl2, hq, Ret_eq Try.results10] | simp (disch := omega) only [arith, IntKind.bits, capMax, fill_len, elt_fill] | (refine Again.up (by omega) ?_ ?_) | (refine opCallI_gv (by simp only [go_sem, hs, hlk, d1, d2, c4, c5, hl2, hq, Ret_eq Try.results10]; first | done | rfl) (hT') ?_; rintro _ rfl) | fail)
end Go.Proofs.Ytcbkeekldbggkaa.T

end
section
set_option linter.unusedSimpArgs false
set_option linter.unusedVariables false
/- PackTexts. -/
namespace Go.Proofs.Ytcbkeekldbggkaa.T
open Go Go.VL Go.Proofs
set_option maxRecDepth 100000
set_option maxHeartbeats 4000000
theorem listOut_octets {l : List (List Int)} (h : ∀ x ∈ l, Octets x) : Octets (listOut l) := by
  unfold listOut; split
  · exact listAll_octets h
  · intro c hc; simp at hc
theorem cutOut_octets {b : List Int} (h : Octets b) : ∀ x ∈ cutOut b, Octets x := by
  unfold cutOut; split
  · exact cutL_octets _ _ h
  · intro c hc; simp at hc

theorem packTexts_law (l : List (List Int)) (b : List Int) (hl : ∀ x ∈ l, Octets x) (hb : Octets b) :
    Fun Try.prog 4 [.lst (rows .u8 l), .lst (ints .u8 b)] fun r => r = .v (.bool true) := by
  refine Fun.of_awpI Try.func4 rfl cal4 Try.ntmps4 (by simp) fun hwf => ?_
  simp only [D.wfs, D.wf, ints_length, ints_wfs, rows_length, rows_wfs, capMax, and_true, true_and] at hwf
  by_cases g1 : l.length ≤ 300
  · by_cases g2 : b.length ≤ 70000
    · repeat' (first | simp only [go_sem, Ret_eq Try.results4] | simp (disch := omega) only [arith, IntKind.bits, capMax, fill_len, elt_fill] | (refine opCallI_rd (by simp only [go_sem, Ret_eq Try.results4]; first | done | rfl) (live_fun) (by rintro _ rfl; rfl) ?_; rintro _ rfl) | fail)
      refine awpI_for l.length (fun k => ∀ i, i < k → (l.getD i []).length ≤ 70000) (fun k => [(31, .v (.int .i64 k))]) (fun _ => []) [0, 1, 5, 29, 30] [] _ (Weak.refl _) (by intro i hi; omega) ?_ ?_ ?_
      · simp only [go_sem, Ret_eq Try.results4]
      · simp only [go_sem, Ret_eq Try.results4]
      · intro k s hk hQ hs
        simp only [go_sem, Ret_eq Try.results4] at hs
        by_cases hka : k < l.length
        · have hlen : (l.getD k []).length ≤ 9223372036854775807 := by
            rw [show l.getD k [] = l[k] by simp [List.getD, hka]]; exact hwf.1.2 _ (List.getElem_mem hka)
          repeat' (first | simp only [go_sem, hs, Ret_eq Try.results4] | simp (disch := omega) only [arith, IntKind.bits, capMax, fill_len, elt_fill] | (with_reducible refine condI_dec (fun hq hqb => ?_) (fun hq hqb => ?_) <;> simp only [KP_mk, hqb]) | (refine Again.up (by omega) ?_ ?_) | fail)
          intro i hi
          rcases Nat.lt_or_ge i k with h | h
          · exact hQ i h
          · obtain rfl : i = k := by omega
            omega
        · obtain rfl : k = l.length := by omega
          have h7 : ∀ x ∈ l, x.length ≤ 70000 := by
            intro x hx
            obtain ⟨i, hi, rfl⟩ := List.mem_iff_getElem.1 hx
            have := hQ i hi
            rwa [show l.getD i [] = l[i] by simp [List.getD, hi]] at this
          have c1 := list_fun l
          have c2 := refList_fun l h7 g1
          have c3 := cut_fun b
          have c4 := refCut_fun b hb
          have c5 := sum_fun b hb
          have c6 := refSum_fun b hb
          have c7 := sameOctets_fun (listOut l) (listOut l) (listOut_octets hl) (listOut_octets hl)
          have c8 := sameTexts_fun (cutOut b) (cutOut b) (cutOut_octets hb) (cutOut_octets hb)
          rw [decide_eq_true rfl] at c7 c8
          have q1 : (listErr l == listErr l) = true := beq_self_eq_true _
          have q2 : (cutErr b == cutErr b) = true := beq_self_eq_true _
          have q3 : (((crcSum b).toNat : Int) == ((crcSum b).toNat : Int)) = true := beq_self_eq_true _
          repeat' (first | simp only [go_sem, hs, q1, q2, q3, Ret_eq Try.results4] | simp (disch := omega) only [arith, IntKind.bits, capMax, fill_len, elt_fill] | (with_reducible refine condI_dec (fun hq hqb => ?_) (fun hq hqb => ?_) <;> simp only [KP_mk, hqb]) | (refine opCallI_gv (by simp only [go_sem, hs, q1, q2, q3, Ret_eq Try.results4]; first | done | rfl) (c1) ?_; rintro _ rfl) | (refine opCallI_gv (by simp only [go_sem, hs, q1, q2, q3, Ret_eq Try.results4]; first | done | rfl) (c2) ?_; rintro _ rfl) | (refine opCallI_gv (by simp only [go_sem, hs, q1, q2, q3, Ret_eq Try.results4]; first | done | rfl) (c3) ?_; rintro _ rfl) | (refine opCallI_gv (by simp only [go_sem, hs, q1, q2, q3, Ret_eq Try.results4]; first | done | rfl) (c4) ?_; rintro _ rfl) | (refine opCallI_rd (by simp only [go_sem, hs, q1, q2, q3, Ret_eq Try.results4]; first | done | rfl) (c5) (by rintro _ rfl; rfl) ?_; rintro _ rfl) | (refine opCallI_rd (by simp only [go_sem, hs, q1, q2, q3, Ret_eq Try.results4]; first | done | rfl) (c6) (by rintro _ rfl; rfl) ?_; rintro _ rfl) | (refine opCallI_rd (by simp only [go_sem, hs, q1, q2, q3, Ret_eq Try.results4]; first | done | rfl) (c7) (by rintro _ rfl; rfl) ?_; rintro _ rfl) | (refine opCallI_rd (by simp only [go_sem, hs, q1, q2, q3, Ret_eq Try.results4]; first | done | rfl) (c8) (by rintro _ rfl; rfl) ?_; rintro _ rfl) | fail)
    · repeat' (first | simp only [go_sem, Ret_eq Try.results4] | simp (disch := omega) only [arith, IntKind.bits, capMax, fill_len, elt_fill] | (refine opCallI_rd (by simp only [go_sem, Ret_eq Try.results4]; first | done | rfl) (live_fun) (by rintro _ rfl; rfl) ?_; rintro _ rfl) | fail)
  · repeat' (first | simp only [go_sem, Ret_eq Try.results4] | simp (disch := omega) only [arith, IntKind.bits, capMax, fill_len, elt_fill] | (refine opCallI_rd (by simp only [go_sem, Ret_eq Try.results4]; first | done | rfl) (live_fun) (by rintro _ rfl; rfl) ?_; rintro _ rfl) | fail)
end Go.Proofs.Ytcbkeekldbggkaa.T

end
