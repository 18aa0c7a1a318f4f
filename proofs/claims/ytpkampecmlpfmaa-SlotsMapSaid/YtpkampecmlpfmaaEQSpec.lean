import Derived.Test.YtpkampecmlpfmaaEVSpec
/- Cuts, cells and spans, plainly. -/
namespace Go.Proofs.Ytpkampecmlpfmaa.T
open Go Go.VL Go.Proofs
def Rises (c : List Int) : Prop := ∀ i, i + 1 < c.length → c.getD i 0 ≤ c.getD (i + 1) 0
instance (c : List Int) : Decidable (Rises c) := by
  unfold Rises
  exact decidable_of_iff (∀ i, i < c.length - 1 → c.getD i 0 ≤ c.getD (i + 1) 0) ⟨fun h i hi => h i (by omega), fun h i hi => h i (by omega)⟩
def cutsOk (c : List Int) : Prop := c.length ≤ 15 ∧ Rises c ∧ (0 < c.length → -32767 ≤ c.getD 0 0)
instance (c : List Int) : Decidable (cutsOk c) := by unfold cutsOk; infer_instance
def cutsErr (c : List Int) : Int := if cutsOk c then 0 else 1
theorem cutsErr_zero {c : List Int} : cutsErr c = 0 ↔ cutsOk c := by
  unfold cutsErr; split
  · exact ⟨fun _ => by assumption, fun _ => rfl⟩
  · exact ⟨fun h => absurd h (by decide), fun h => by contradiction⟩
theorem cutsErr_one {c : List Int} (h : ¬ cutsOk c) : cutsErr c = 1 := if_neg h
theorem Rises.le {c : List Int} (h : Rises c) : ∀ {i j : Nat}, i ≤ j → j < c.length → c.getD i 0 ≤ c.getD j 0 := by
  intro i j hij hj
  induction j with
  | zero => obtain rfl : i = 0 := by omega
            exact Int.le_refl _
  | succ j ih =>
    by_cases h1 : i = j + 1
    · subst h1; exact Int.le_refl _
    · exact Int.le_trans (ih (by omega) (by omega)) (h j hj)
/-- In which cell a number is. -/
def cellOf (c : List Int) (x : Int) : Nat := c.countP fun y => decide (y ≤ x)
theorem cellOf_le (c : List Int) (x : Int) : cellOf c x ≤ c.length := List.countP_le_length
theorem cellOf_spec : ∀ {c : List Int}, Rises c → ∀ (x : Int) (i : Nat), i < c.length → (c.getD i 0 ≤ x ↔ i < cellOf c x)
  | [], _, _, _, h => by simp at h
  | a :: c, hr, x, i, hi => by
    have hr' : Rises c := fun j hj => by simpa using hr (j + 1) (by simpa using hj)
    have hc : cellOf (a :: c) x = cellOf c x + if a ≤ x then 1 else 0 := by unfold cellOf; rw [List.countP_cons]; simp
    have hz : ¬ a ≤ x → cellOf c x = 0 := by
      intro ha
      unfold cellOf
      rw [List.countP_eq_zero]
      intro y hy hyx
      obtain ⟨j, hj, rfl⟩ := List.mem_iff_getElem.1 hy
      have := hr.le (i := 0) (j := j + 1) (by omega) (by simpa using hj)
      simp [List.getD, hj] at this
      simp at hyx
      omega
    rw [hc]
    cases i with
    | zero =>
      simp only [List.getD_cons_zero]
      by_cases ha : a ≤ x
      · rw [if_pos ha]; exact ⟨fun _ => by omega, fun _ => ha⟩
      · rw [if_neg ha, hz ha]; exact ⟨fun h => absurd h ha, fun h => by omega⟩
    | succ i =>
      have hi' : i < c.length := by simpa using hi
      rw [show (a :: c).getD (i + 1) 0 = c.getD i 0 by simp [List.getD]]
      have ih := cellOf_spec hr' x i hi'
      rw [ih]
      by_cases ha : a ≤ x
      · rw [if_pos ha]; omega
      · rw [if_neg ha, hz ha]; omega
def lowOf (c : List Int) (n : Nat) : Int := if 0 < n then c.getD (n - 1) 0 else -32767
def highOf (c : List Int) (n : Nat) : Int := if n < c.length then c.getD n 0 - 1 else 32767
/-- Between which numbers a cell lies: low, high and what is wrong. -/
def spanErr (c : List Int) (n : Int) : Int := if ¬ cutsOk c ∨ n < 0 ∨ (c.length : Int) < n then 1 else if highOf c n.toNat < lowOf c n.toNat then 5 else 0
def spanLow (c : List Int) (n : Int) : Int := if spanErr c n = 0 then lowOf c n.toNat else 0
def spanHigh (c : List Int) (n : Int) : Int := if spanErr c n = 0 then highOf c n.toNat else 0
def cellErr (c : List Int) (x : Int) : Int := if cutsErr c = 0 ∧ -32767 ≤ x then 0 else 1
def cellVal (c : List Int) (x : Int) : Nat := if cutsErr c = 0 ∧ -32767 ≤ x then cellOf c x else 0
theorem cell_ok {c : List Int} {x : Int} (h : cutsErr c = 0) (hx : -32767 ≤ x) : cellErr c x = 0 ∧ cellVal c x = cellOf c x := ⟨if_pos ⟨h, hx⟩, if_pos ⟨h, hx⟩⟩
theorem cell_bad {c : List Int} {x : Int} (h : ¬ (cutsErr c = 0 ∧ -32767 ≤ x)) : cellErr c x = 1 ∧ cellVal c x = 0 := ⟨if_neg h, if_neg h⟩
theorem span_ok {c : List Int} {n : Int} (h : cutsErr c = 0) (h1 : 0 ≤ n) (h2 : n ≤ c.length) : spanErr c n = if highOf c n.toNat < lowOf c n.toNat then 5 else 0 := by
  unfold spanErr
  rw [if_neg]
  rintro (q | q | q)
  · exact q (cutsErr_zero.1 h)
  · omega
  · omega
theorem span_bad {c : List Int} {n : Int} (h : ¬ (cutsErr c = 0 ∧ 0 ≤ n ∧ n ≤ c.length)) : spanErr c n = 1 := by
  unfold spanErr
  rw [if_pos]
  by_cases hc : cutsOk c
  · have := cutsErr_zero.2 hc
    exact .inr (by omega)
  · exact .inl hc
def I16r (l : List (List Int)) : Prop := ∀ c ∈ l, I16s c
theorem I16r.getD {l : List (List Int)} (h : I16r l) (i : Nat) : I16s (l.getD i []) := by
  by_cases hi : i < l.length
  · exact h _ (getD_mem hi)
  · rw [show l.getD i [] = [] by simp [List.getD, List.getElem?_eq_none (show l.length ≤ i by omega)]]
    intro x hx; cases hx
end Go.Proofs.Ytpkampecmlpfmaa.T
