import Derived.Test.YtpkampecmlpfmaaESoM2
set_option linter.unusedSimpArgs false
set_option linter.unusedVariables false
/- Lists that are parted, plainly. -/
namespace Go.Proofs.Ytpkampecmlpfmaa.T
open Go Go.VL Go.Proofs
structure Pt (a b i j : Nat) (p : Int) (l : List Int) : Prop where
  ha : l.getD a 0 = p
  h1 : ∀ k, a < k → k < i → l.getD k 0 < p
  h2 : ∀ k, j < k → k < b → p ≤ l.getD k 0
  hi : a < i
  hij : i ≤ j + 1
  hj : j < b
theorem Pt.up {a b i j : Nat} {p : Int} {l : List Int} (h : Pt a b i j p l) (hij : i ≤ j) (hlt : l.getD i 0 < p) : Pt a b (i + 1) j p l :=
  ⟨h.ha, fun k k1 k2 => by
    by_cases e : k = i
    · subst e; exact hlt
    · exact h.h1 k k1 (by omega), h.h2, by have := h.hi; omega, by omega, h.hj⟩
theorem Pt.down {a b i j : Nat} {p : Int} {l : List Int} (h : Pt a b i j p l) (hij : i ≤ j) (hge : p ≤ l.getD j 0) : Pt a b i (j - 1) p l :=
  ⟨h.ha, h.h1, fun k k1 k2 => by
    by_cases e : k = j
    · subst e; exact hge
    · exact h.h2 k (by omega) k2, h.hi, by omega, by have := h.hj; omega⟩
theorem Pt.swap {a b i j : Nat} {p : Int} {l : List Int} (h : Pt a b i j p l) (hij : i ≤ j) (hge : p ≤ l.getD i 0) (hlt : l.getD j 0 < p) (hl : b ≤ l.length) : Pt a b (i + 1) (j - 1) p (sw l i j) := by
  have h3 := h.hi
  have h4 := h.hj
  have hne : i ≠ j := fun q => by subst q; omega
  have e : ∀ k, (sw l i j).getD k 0 = if k = j then l.getD i 0 else if k = i then l.getD j 0 else l.getD k 0 := fun k => sw_getD (by omega) (by omega)
  refine ⟨?_, fun k k1 k2 => ?_, fun k k1 k2 => ?_, by omega, by omega, by omega⟩
  · rw [e, if_neg (by omega), if_neg (by omega)]; exact h.ha
  · rw [e, if_neg (by omega)]
    split
    · exact hlt
    · exact h.h1 k k1 (by omega)
  · rw [e]
    split
    · exact hge
    · rw [if_neg (by omega)]
      exact h.h2 k (by omega) k2
structure Parted (a b m : Nat) (l : List Int) : Prop where
  h1 : a ≤ m
  h2 : m < b
  h3 : ∀ k, a ≤ k → k < m → l.getD k 0 ≤ l.getD m 0
  h4 : ∀ k, m < k → k < b → l.getD m 0 ≤ l.getD k 0
theorem Pt.fin {a b i j : Nat} {p : Int} {l : List Int} (h : Pt a b i j p l) (hij : j < i) (hl : b ≤ l.length) : Parted a b j (sw l j a) := by
  have h3 := h.hi
  have h4 := h.hj
  have h5 := h.hij
  have e : ∀ k, (sw l j a).getD k 0 = if k = a then l.getD j 0 else if k = j then l.getD a 0 else l.getD k 0 := fun k => sw_getD (by omega) (by omega)
  have ej : (sw l j a).getD j 0 = p := by
    rw [e]
    by_cases q : j = a
    · rw [if_pos q, q]; exact h.ha
    · rw [if_neg q, if_pos rfl]; exact h.ha
  refine ⟨by omega, h4, fun k k1 k2 => ?_, fun k k1 k2 => ?_⟩
  · rw [ej, e]
    split
    · have := h.h1 j (by omega) (by omega)
      omega
    · rw [if_neg (by omega)]
      have := h.h1 k (by omega) (by omega)
      omega
  · rw [ej, e, if_neg (by omega), if_neg (by omega)]
    exact h.h2 k k1 k2
structure Pe (a b i j : Nat) (p : Int) (l : List Int) : Prop where
  ha : l.getD a 0 = p
  h1 : ∀ k, a ≤ k → k < i → l.getD k 0 ≤ p
  h2 : ∀ k, j < k → k < b → p < l.getD k 0
  hi : a < i
  hij : i ≤ j + 1
  hj : j < b
theorem Pe.up {a b i j : Nat} {p : Int} {l : List Int} (h : Pe a b i j p l) (hij : i ≤ j) (hlt : l.getD i 0 ≤ p) : Pe a b (i + 1) j p l :=
  ⟨h.ha, fun k k1 k2 => by
    by_cases e : k = i
    · subst e; exact hlt
    · exact h.h1 k k1 (by omega), h.h2, by have := h.hi; omega, by omega, h.hj⟩
theorem Pe.down {a b i j : Nat} {p : Int} {l : List Int} (h : Pe a b i j p l) (hij : i ≤ j) (hge : p < l.getD j 0) : Pe a b i (j - 1) p l :=
  ⟨h.ha, h.h1, fun k k1 k2 => by
    by_cases e : k = j
    · subst e; exact hge
    · exact h.h2 k (by omega) k2, h.hi, by omega, by have := h.hj; omega⟩
theorem Pe.swap {a b i j : Nat} {p : Int} {l : List Int} (h : Pe a b i j p l) (hij : i ≤ j) (hge : p < l.getD i 0) (hlt : l.getD j 0 ≤ p) (hl : b ≤ l.length) : Pe a b (i + 1) (j - 1) p (sw l i j) := by
  have h3 := h.hi
  have h4 := h.hj
  have hne : i ≠ j := fun q => by subst q; omega
  have e : ∀ k, (sw l i j).getD k 0 = if k = j then l.getD i 0 else if k = i then l.getD j 0 else l.getD k 0 := fun k => sw_getD (by omega) (by omega)
  refine ⟨?_, fun k k1 k2 => ?_, fun k k1 k2 => ?_, by omega, by omega, by omega⟩
  · rw [e, if_neg (by omega), if_neg (by omega)]; exact h.ha
  · rw [e, if_neg (by omega)]
    split
    · exact hlt
    · exact h.h1 k k1 (by omega)
  · rw [e]
    split
    · exact hge
    · rw [if_neg (by omega)]
      exact h.h2 k (by omega) k2
structure PartEq (a b m : Nat) (p : Int) (l : List Int) : Prop where
  h1 : a < m
  h2 : m ≤ b
  h3 : ∀ k, a ≤ k → k < m → l.getD k 0 ≤ p
  h4 : ∀ k, m ≤ k → k < b → p < l.getD k 0
theorem Pe.fin {a b i j : Nat} {p : Int} {l : List Int} (h : Pe a b i j p l) (hij : j < i) : PartEq a b i p l := by
  have h3 := h.hi
  have h4 := h.hj
  have h5 := h.hij
  exact ⟨h3, by omega, h.h1, fun k k1 k2 => h.h2 k (by omega) k2⟩
end Go.Proofs.Ytpkampecmlpfmaa.T
