import Derived.Test.YtpkampecmlpfmaaESoM5
set_option linter.unusedSimpArgs false
/- The list, sorted, plainly. -/
namespace Go.Proofs.Ytpkampecmlpfmaa.T
open Go Go.VL Go.Proofs
/-- The list, sorted. -/
def sortI (l : List Int) : List Int := l.mergeSort fun x y => decide (x ≤ y)
theorem sortI_perm (l : List Int) : (sortI l).Perm l := List.mergeSort_perm _ _
theorem sortI_sorted (l : List Int) : (sortI l).Pairwise (· ≤ ·) := by
  have := List.pairwise_mergeSort (le := fun x y : Int => decide (x ≤ y)) (fun a b c h1 h2 => by simp at *; omega) (fun a b => by simp; omega) l
  exact this.imp fun h => by simpa using h
theorem sorted_unique {l l' : List Int} (hp : l.Perm l') (h : l.Pairwise (· ≤ ·)) (h' : l'.Pairwise (· ≤ ·)) : l = l' :=
  hp.eq_of_pairwise (fun a b _ _ h1 h2 => by omega) h h'
theorem Sd.pairwise {l : List Int} (h : Sd 0 l.length l) : l.Pairwise (· ≤ ·) := by
  rw [List.pairwise_iff_getElem]
  intro i j hi hj hij
  have := h i j (Nat.zero_le _) hij hj
  simpa [List.getD, hi, hj] using this
theorem sortI_of {l l' : List Int} (h : Sw 0 l.length l l') (hd : Sd 0 l.length l') : l' = sortI l := by
  have hl := h.length
  rw [← hl] at hd
  exact sorted_unique (h.perm.trans (sortI_perm l).symm) hd.pairwise (sortI_sorted l)
end Go.Proofs.Ytpkampecmlpfmaa.T
