import Derived.Test.YtpkampecmlpfmaaESoM3
set_option linter.unusedSimpArgs false
set_option linter.unusedVariables false
/- Sorted beginnings, plainly. -/
namespace Go.Proofs.Ytpkampecmlpfmaa.T
open Go Go.VL Go.Proofs
theorem Sd.snoc {a i : Nat} {l : List Int} (h : Sd a i l) (ha : a + 1 ≤ i) (hle : l.getD (i - 1) 0 ≤ l.getD i 0) : Sd a (i + 1) l := fun p q h1 h2 h3 => by
  by_cases e : q = i
  · subst e
    by_cases e2 : p = q - 1
    · rw [e2]; exact hle
    · have := h p (q - 1) h1 (by omega) (by omega)
      omega
  · exact h p q h1 h2 (by omega)
theorem Sd.out {a i x y : Nat} {l : List Int} (h : Sd a i l) (hx : i ≤ x) (hy : i ≤ y) (h1 : x < l.length) (h2 : y < l.length) : Sd a i (sw l x y) := fun p q p1 p2 p3 => by
  rw [sw_getD h1 h2, sw_getD h1 h2, if_neg (by omega), if_neg (by omega), if_neg (by omega), if_neg (by omega)]
  exact h p q p1 p2 p3
theorem Sd.swapped {a i : Nat} {l : List Int} (h : Sd a i l) (ha : a + 1 ≤ i) (hi : i < l.length) (hlt : l.getD i 0 < l.getD (i - 1) 0) : Ins a (i - 1) (i - 1) (sw l i (i - 1)) := fun p q p1 p2 p3 p4 => by
  have e : ∀ k, (sw l i (i - 1)).getD k 0 = if k = i - 1 then l.getD i 0 else if k = i then l.getD (i - 1) 0 else l.getD k 0 := fun k => sw_getD (by omega) (by omega)
  rw [e, e, if_neg (by omega), if_neg (by omega), if_neg (by omega), if_neg (by omega)]
  exact h p q p1 p2 (by omega)
/-- What is ahead is no greater. -/
def Ahd (a b : Nat) (l : List Int) : Prop := a = 0 ∨ ∀ k, a ≤ k → k < b → l.getD (a - 1) 0 ≤ l.getD k 0
theorem Ahd.sw {a b : Nat} {l l' : List Int} (h : Ahd a b l) (hs : Sw a b l l') : Ahd a b l' := by
  by_cases e : a = 0
  · exact .inl e
  · right
    rcases h with h | h
    · exact absurd h e
    · have := hs.all (P := fun x => l.getD (a - 1) 0 ≤ x) h
      intro k k1 k2
      rw [hs.out (k := a - 1) (by omega)]
      exact this k k1 k2
end Go.Proofs.Ytpkampecmlpfmaa.T
