import Derived.Test.YtpkampecmlpfmaaLB
import Derived.IntWalk
/- What the pack functions compute. -/
namespace Go.Proofs.Ytpkampecmlpfmaa.T
open Go Go.VL Go.Proofs
def putFit (w n : Int) : Bool := (IntKind.i64.wrap (n * 2 ^ (64 - 8 * w).toNat)).fdiv (2 ^ (64 - 8 * w).toNat) == n
def oct (n : Int) (i : Nat) : Int := IntKind.u8.wrap (n.fdiv (2 ^ (8 * i)))
def octs (w : Nat) (n : Int) : List Int := (List.range w).map (oct n)
def putOut (b : List Int) (w : Int) (l : List Int) : List Int := b ++ l.flatMap (octs w.toNat)
def putErr (b : List Int) (w : Int) (l : List Int) : Int :=
  if ¬ (1 ≤ w ∧ w ≤ 8) then 1 else if l.all (putFit w) = false then 4 else if 65536 < l.length ∨ 65536 - w * l.length < b.length then 3 else 0
theorem all_take_succ {α : Type} {p : α → Bool} {l : List α} {k : Nat} (hk : k < l.length) : (l.take (k + 1)).all p = ((l.take k).all p && p (l[k])) := by
  rw [List.take_succ_eq_append_getElem hk, List.all_append]; simp
theorem all_of_fail {α : Type} {p : α → Bool} {l : List α} {k : Nat} (hk : k < l.length) (h : p (l[k]) = false) : l.all p = false := by
  rw [List.all_eq_false]; exact ⟨l[k], List.getElem_mem hk, by simp [h]⟩
theorem flatMap_take_succ {α β : Type} {f : α → List β} {l : List α} {k : Nat} (hk : k < l.length) : (l.take (k + 1)).flatMap f = (l.take k).flatMap f ++ f (l[k]) := by
  rw [List.take_succ_eq_append_getElem hk, List.flatMap_append]; simp
theorem octs_succ {j : Nat} {n : Int} : octs (j + 1) n = octs j n ++ [oct n j] := by simp [octs, List.range_succ]
theorem octs_length {j : Nat} {n : Int} : (octs j n).length = j := by simp [octs]
theorem flat_octs_length {w : Nat} {l : List Int} : (l.flatMap (octs w)).length = w * l.length := by
  induction l with
  | nil => simp
  | cons x l ih => simp [ih, octs_length, Nat.mul_succ]; omega
theorem idx_ints {K : IntKind} {l : List Int} {k : Nat} (hk : k < l.length) : (ints K l)[(k : Int).toNat]? = some (.v (.int K l[k])) := by simp [ints, hk]
theorem idx_in {l : List Int} {k : Nat} (hk : k < l.length) : (0 : Int) ≤ k ∧ (k : Int) < l.length := by omega

def takeAcc (w : Int) (bs : List Int) : Nat → Int
  | 0 => 0
  | j + 1 => abits .or .i64 (takeAcc w bs j) (IntKind.i64.wrap (IntKind.i64.wrap (bs.getD j 0) * 2 ^ ((64 - 8 * w).toNat + 8 * j)))
def takeNum (w : Int) (bs : List Int) : Int := (takeAcc w bs w.toNat).fdiv (2 ^ (64 - 8 * w).toNat)
def takeNums (w : Int) : Nat → List Int → List Int
  | 0, _ => []
  | n + 1, bs => takeNum w bs :: takeNums w n (bs.drop w.toNat)
def takeErr (b : List Int) (w n : Int) : Int := if ¬ (1 ≤ w ∧ w ≤ 8) ∨ n < 0 ∨ 65536 < n then 1 else if (b.length : Int) < n * w then 2 else 0
def takeOut (b : List Int) (w n : Int) : List Int := if takeErr b w n = 0 then takeNums w n.toNat b else []
def takeRest (b : List Int) (w n : Int) : List Int := if takeErr b w n = 0 then b.drop (w.toNat * n.toNat) else []
theorem takeNums_snoc (w : Int) : ∀ (k : Nat) (b : List Int), takeNums w (k + 1) b = takeNums w k b ++ [takeNum w (b.drop (w.toNat * k))]
  | 0, b => by simp [takeNums]
  | k + 1, b => by
    rw [takeNums, takeNums_snoc w k, takeNums, List.drop_drop, Nat.mul_succ, Nat.add_comm (w.toNat * k)]; rfl
theorem takeNums_length (w : Int) : ∀ (k : Nat) (b : List Int), (takeNums w k b).length = k
  | 0, b => rfl
  | k + 1, b => by rw [takeNums, List.length_cons, takeNums_length w k]
end Go.Proofs.Ytpkampecmlpfmaa.T
