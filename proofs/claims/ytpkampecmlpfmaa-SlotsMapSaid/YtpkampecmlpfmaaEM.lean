import Derived.Test.YtpkampecmlpfmaaLE
section
set_option linter.unusedSimpArgs false
set_option linter.unusedVariables false
/- Swaps within a span; what is sorted; plainly. -/
namespace Go.Proofs.Ytpkampecmlpfmaa.T
open Go Go.VL Go.Proofs
abbrev at0 (l : List Int) (i : Nat) : Int := l.getD i 0
def sw (l : List Int) (i j : Nat) : List Int := (l.set i (l.getD j 0)).set j (l.getD i 0)
theorem sw_length {l : List Int} {i j : Nat} : (sw l i j).length = l.length := by simp [sw]
theorem set_getD {l : List Int} {i k : Nat} {x : Int} (h : i < l.length) : (l.set i x).getD k 0 = if k = i then x else l.getD k 0 := by
  simp only [List.getD, List.getElem?_set]
  by_cases e : i = k
  · subst e; simp [h]
  · rw [if_neg e, if_neg (fun q => e q.symm)]
theorem sw_getD {l : List Int} {i j k : Nat} (hi : i < l.length) (hj : j < l.length) : (sw l i j).getD k 0 = if k = j then l.getD i 0 else if k = i then l.getD j 0 else l.getD k 0 := by
  unfold sw
  rw [set_getD (by simpa using hj), set_getD hi]
theorem sw_comm {l : List Int} {i j : Nat} : (l.set j (l.getD i 0)).set i (l.getD j 0) = sw l i j := by
  unfold sw
  by_cases e : i = j
  · subst e; rfl
  · exact List.set_comm _ _ (fun q => e q.symm)
theorem sw_perm {l : List Int} {i j : Nat} (hi : i < l.length) (hj : j < l.length) : (sw l i j).Perm l := by
  rw [List.perm_iff_count]
  intro x
  unfold sw
  rw [List.count_set (by simpa using hj), List.count_set hi]
  have ei : l.getD i 0 = l[i] := by simp [List.getD, hi]
  have ej : l.getD j 0 = l[j] := by simp [List.getD, hj]
  have e3 : (l.set i (l.getD j 0))[j]'(by simpa using hj) = l[j] := by
    rw [List.getElem_set]; split
    · rw [ej]
    · rfl
  rw [e3, ei, ej]
  have hc : ∀ k (hk : k < l.length), (if (l[k] == x) = true then 1 else 0) ≤ l.count x := fun k hk => by
    split
    · rename_i q
      exact List.count_pos_iff.2 (by rw [← beq_iff_eq.1 q]; exact List.getElem_mem hk)
    · omega
  have h1 := hc i hi
  have h2 := hc j hj
  by_cases q1 : (l[i] == x) = true <;> by_cases q2 : (l[j] == x) = true <;> simp only [q1, q2, if_true, if_false, Bool.false_eq_true] at * <;> omega
/-- What comes of a list by swaps within a span. -/
inductive Sw (a b : Nat) : List Int → List Int → Prop
  | refl (l : List Int) : Sw a b l l
  | step {l l' : List Int} (i j : Nat) (h : Sw a b l l') (h1 : a ≤ i ∧ i < b) (h2 : a ≤ j ∧ j < b) (h3 : b ≤ l'.length) : Sw a b l (sw l' i j)
theorem Sw.length {a b : Nat} {l l' : List Int} (h : Sw a b l l') : l'.length = l.length := by
  induction h with
  | refl => rfl
  | step i j _ _ _ _ ih => rw [sw_length, ih]
theorem Sw.trans {a b : Nat} {l l' l'' : List Int} (h : Sw a b l l') (h' : Sw a b l' l'') : Sw a b l l'' := by
  induction h' with
  | refl => exact h
  | step i j _ h1 h2 h3 ih => exact .step i j ih h1 h2 h3
theorem Sw.mono {a b c d : Nat} {l l' : List Int} (h : Sw a b l l') (h1 : c ≤ a) (h2 : b ≤ d) (h3 : d ≤ l.length) : Sw c d l l' := by
  induction h with
  | refl => exact .refl _
  | step i j hs q1 q2 q3 ih => exact .step i j ih ⟨by omega, by omega⟩ ⟨by omega, by omega⟩ (by rw [hs.length]; exact h3)
theorem Sw.out {a b : Nat} {l l' : List Int} (h : Sw a b l l') {k : Nat} (hk : k < a ∨ b ≤ k) : l'.getD k 0 = l.getD k 0 := by
  induction h with
  | refl => rfl
  | step i j hs h1 h2 h3 ih => rw [sw_getD (by omega) (by omega), if_neg (by omega), if_neg (by omega), ih]
theorem Sw.all {a b : Nat} {l l' : List Int} (h : Sw a b l l') {P : Int → Prop} (hP : ∀ k, a ≤ k → k < b → P (l.getD k 0)) : ∀ k, a ≤ k → k < b → P (l'.getD k 0) := by
  induction h with
  | refl => exact hP
  | step i j hs h1 h2 h3 ih =>
    intro k k1 k2
    rw [sw_getD (by omega) (by omega)]
    split
    · exact ih i h1.1 h1.2
    · split
      · exact ih j h2.1 h2.2
      · exact ih k k1 k2
theorem Sw.perm {a b : Nat} {l l' : List Int} (h : Sw a b l l') : l'.Perm l := by
  induction h with
  | refl => exact .refl _
  | step i j hs h1 h2 h3 ih => exact (sw_perm (by omega) (by omega)).trans ih
def Sd (a b : Nat) (l : List Int) : Prop := ∀ p q, a ≤ p → p < q → q < b → l.getD p 0 ≤ l.getD q 0
/-- All are in order, but for those before j. -/
def Ins (a j i : Nat) (l : List Int) : Prop := ∀ p q, a ≤ p → p < q → q ≤ i → q ≠ j → l.getD p 0 ≤ l.getD q 0
theorem Ins.start {a i : Nat} {l : List Int} (h : Sd a i l) : Ins a i i l := fun p q h1 h2 h3 h4 => h p q h1 h2 (by omega)
theorem Ins.done {a j i : Nat} {l : List Int} (h : Ins a j i l) (hj : j ≤ a ∨ l.getD (j - 1) 0 ≤ l.getD j 0) : Sd a (i + 1) l := fun p q h1 h2 h3 => by
  by_cases e : q = j
  · subst e
    rcases hj with g | g
    · omega
    · by_cases e2 : p = q - 1
      · rw [e2]; exact g
      · have := h p (q - 1) h1 (by omega) (by omega) (by omega)
        omega
  · exact h p q h1 h2 (by omega) e
theorem Ins.step {a j i : Nat} {l : List Int} (h : Ins a j i l) (hj : a < j) (hji : j ≤ i) (hi : i < l.length) (hlt : l.getD j 0 < l.getD (j - 1) 0) : Ins a (j - 1) i (sw l j (j - 1)) := fun p q h1 h2 h3 h4 => by
  have e : ∀ k, (sw l j (j - 1)).getD k 0 = if k = j - 1 then l.getD j 0 else if k = j then l.getD (j - 1) 0 else l.getD k 0 := fun k => sw_getD (by omega) (by omega)
  rw [e p, e q]
  have a1 := h p q h1 h2 h3
  have a2 := h p (j - 1)
  have a3 := h j q
  have a4 := h (j - 1) q
  grind
end Go.Proofs.Ytpkampecmlpfmaa.T

end
section
set_option linter.unusedSimpArgs false
set_option linter.unusedVariables false
/- Heaps, plainly. -/
namespace Go.Proofs.Ytpkampecmlpfmaa.T
open Go Go.VL Go.Proofs
def Hp (lo hi f : Nat) (l : List Int) : Prop := ∀ k c, lo ≤ k → (c = 2 * k + 1 ∨ c = 2 * k + 2) → c < hi → l.getD (f + c) 0 ≤ l.getD (f + k) 0
structure HpEx (lo hi f r : Nat) (l : List Int) : Prop where
  h1 : ∀ k c, lo ≤ k → k ≠ r → (c = 2 * k + 1 ∨ c = 2 * k + 2) → c < hi → l.getD (f + c) 0 ≤ l.getD (f + k) 0
  h2 : ∀ g c, lo ≤ g → (r = 2 * g + 1 ∨ r = 2 * g + 2) → (c = 2 * r + 1 ∨ c = 2 * r + 2) → c < hi → l.getD (f + c) 0 ≤ l.getD (f + g) 0
theorem HpEx.start {lo hi f : Nat} {l : List Int} (h : Hp (lo + 1) hi f l) : HpEx lo hi f lo l :=
  ⟨fun k c h1 h2 h3 h4 => h k c (by omega) h3 h4, fun g c h1 h2 h3 h4 => by omega⟩
theorem HpEx.done {lo hi f r : Nat} {l : List Int} (h : HpEx lo hi f r l) (hc : ∀ c, (c = 2 * r + 1 ∨ c = 2 * r + 2) → c < hi → l.getD (f + c) 0 ≤ l.getD (f + r) 0) : Hp lo hi f l := fun k c k1 k2 k3 => by
  by_cases e : k = r
  · subst e; exact hc c k2 k3
  · exact h.h1 k c k1 e k2 k3
theorem HpEx.step {lo hi f r c : Nat} {l : List Int} (h : HpEx lo hi f r l) (hr : lo ≤ r) (hc : c = 2 * r + 1 ∨ c = 2 * r + 2) (hch : c < hi) (hd : ∀ d, (d = 2 * r + 1 ∨ d = 2 * r + 2) → d < hi → l.getD (f + d) 0 ≤ l.getD (f + c) 0)
    (hlt : l.getD (f + r) 0 < l.getD (f + c) 0) (hl : f + hi ≤ l.length) : HpEx lo hi f c (sw l (f + r) (f + c)) := by
  have e : ∀ k, (sw l (f + r) (f + c)).getD k 0 = if k = f + c then l.getD (f + r) 0 else if k = f + r then l.getD (f + c) 0 else l.getD k 0 := fun k => sw_getD (by omega) (by omega)
  constructor
  · intro k d k1 k2 k3 k4
    rw [e, e]
    rw [if_neg (show ¬ f + k = f + c by omega)]
    by_cases kr : k = r
    · subst kr
      rw [if_pos rfl]
      by_cases dc : d = c
      · subst dc; rw [if_pos rfl]; omega
      · rw [if_neg (by omega), if_neg (by omega)]
        exact hd d k3 k4
    · rw [if_neg (show ¬ f + k = f + r by omega), if_neg (show ¬ f + d = f + c by omega)]
      by_cases dr : d = r
      · subst dr
        rw [if_pos rfl]
        exact h.h2 k c k1 k3 hc hch
      · rw [if_neg (by omega)]
        exact h.h1 k d k1 kr k3 k4
  · intro g d g1 g2 g3 g4
    obtain rfl : g = r := by omega
    rw [e, e, if_neg (show ¬ f + d = f + c by omega), if_neg (show ¬ f + d = f + g by omega), if_neg (show ¬ f + g = f + c by omega), if_pos rfl]
    exact h.h1 c d (by omega) (by omega) g3 g4
theorem Hp.max {hi f : Nat} {l : List Int} (h : Hp 0 hi f l) : ∀ k, k < hi → l.getD (f + k) 0 ≤ l.getD f 0 := by
  intro k
  induction k using Nat.strongRecOn with
  | _ k ih =>
    intro hk
    by_cases e : k = 0
    · subst e; exact Int.le_refl _
    · have h1 := ih ((k - 1) / 2) (by omega) (by omega)
      have h2 := h ((k - 1) / 2) k (by omega) (by omega) hk
      omega
structure Tl (f i n : Nat) (l : List Int) : Prop where
  t1 : Sd (f + i) (f + n) l
  t2 : ∀ p q, p < i → i ≤ q → q < n → l.getD (f + p) 0 ≤ l.getD (f + q) 0
theorem Tl.step {f i n : Nat} {l l' : List Int} (h : Tl f (i + 1) n l) (hp : Hp 0 (i + 1) f l) (hn : i + 1 ≤ n) (hl : f + n ≤ l.length) (hs : Sw f (f + i) (sw l f (f + i)) l') : Tl f i n l' := by
  have e : ∀ k, (sw l f (f + i)).getD k 0 = if k = f + i then l.getD f 0 else if k = f then l.getD (f + i) 0 else l.getD k 0 := fun k => sw_getD (by omega) (by omega)
  have hm := hp.max
  have ho : ∀ k, f + i ≤ k → l'.getD k 0 = if k = f + i then l.getD f 0 else l.getD k 0 := fun k hk => by
    rw [hs.out (.inr hk), e]
    by_cases q : k = f + i
    · rw [if_pos q, if_pos q]
    · rw [if_neg q, if_neg q, if_neg (by omega)]
  have ha : ∀ q, i ≤ q → q < n → ∀ k, f ≤ k → k < f + i → l'.getD k 0 ≤ (if f + q = f + i then l.getD f 0 else l.getD (f + q) 0) := fun q q1 q2 => by
    refine hs.all (P := fun x => x ≤ _) fun k k1 k2 => ?_
    obtain ⟨k, rfl⟩ : ∃ j, k = f + j := ⟨k - f, by omega⟩
    rw [e, if_neg (by omega)]
    by_cases q3 : f + q = f + i
    · rw [if_pos q3]
      split
      · exact hm i (by omega)
      · exact hm k (by omega)
    · rw [if_neg q3]
      split
      · exact h.t2 i q (by omega) (by omega) q2
      · exact h.t2 k q (by omega) (by omega) q2
  constructor
  · intro p q p1 p2 p3
    rw [ho p p1, ho q (by omega), if_neg (show ¬ q = f + i by omega)]
    split
    · have := h.t2 0 (q - f) (by omega) (by omega) (by omega)
      rw [show f + 0 = f from rfl, show f + (q - f) = q by omega] at this
      exact this
    · exact h.t1 p q (by omega) p2 p3
  · intro p q p1 p2 p3
    rw [ho (f + q) (by omega)]
    exact ha q p2 p3 (f + p) (by omega) (by omega)
theorem Hp.swapped {i f : Nat} {l : List Int} (h : Hp 0 (i + 1) f l) (hl : f + i < l.length) : Hp 1 i f (sw l f (f + i)) := fun k c k1 k2 k3 => by
  rw [sw_getD (by omega) hl, sw_getD (by omega) hl, if_neg (by omega), if_neg (by omega), if_neg (by omega), if_neg (by omega)]
  exact h k c (by omega) k2 (by omega)
end Go.Proofs.Ytpkampecmlpfmaa.T

end
section
set_option linter.unusedSimpArgs false
set_option linter.unusedVariables false
/- Lists that are parted, plainly. -/
namespace Go.Proofs.Ytpkampecmlpfmaa.T
open Go Go.VL Go.Proofs
structure Pt (a b i j : Nat) (p : Int) (l : List Int) : Prop where
  ha : l.getD a 0 = p
  h1 : ∀ k, a < k → k < i → l.getD k 0 < p
  h2 : ∀ k, j < k → k < b → p ≤ l.getD k 0
  hi : a < i
  hij : i ≤ j + 1
  hj : j < b
theorem Pt.up {a b i j : Nat} {p : Int} {l : List Int} (h : Pt a b i j p l) (hij : i ≤ j) (hlt : l.getD i 0 < p) : Pt a b (i + 1) j p l :=
  ⟨h.ha, fun k k1 k2 => by
    by_cases e : k = i
    · subst e; exact hlt
    · exact h.h1 k k1 (by omega), h.h2, by have := h.hi; omega, by omega, h.hj⟩
theorem Pt.down {a b i j : Nat} {p : Int} {l : List Int} (h : Pt a b i j p l) (hij : i ≤ j) (hge : p ≤ l.getD j 0) : Pt a b i (j - 1) p l :=
  ⟨h.ha, h.h1, fun k k1 k2 => by
    by_cases e : k = j
    · subst e; exact hge
    · exact h.h2 k (by omega) k2, h.hi, by omega, by have := h.hj; omega⟩
theorem Pt.swap {a b i j : Nat} {p : Int} {l : List Int} (h : Pt a b i j p l) (hij : i ≤ j) (hge : p ≤ l.getD i 0) (hlt : l.getD j 0 < p) (hl : b ≤ l.length) : Pt a b (i + 1) (j - 1) p (sw l i j) := by
  have h3 := h.hi
  have h4 := h.hj
  have hne : i ≠ j := fun q => by subst q; omega
  have e : ∀ k, (sw l i j).getD k 0 = if k = j then l.getD i 0 else if k = i then l.getD j 0 else l.getD k 0 := fun k => sw_getD (by omega) (by omega)
  refine ⟨?_, fun k k1 k2 => ?_, fun k k1 k2 => ?_, by omega, by omega, by omega⟩
  · rw [e, if_neg (by omega), if_neg (by omega)]; exact h.ha
  · rw [e, if_neg (by omega)]
    split
    · exact hlt
    · exact h.h1 k k1 (by omega)
  · rw [e]
    split
    · exact hge
    · rw [if_neg (by omega)]
      exact h.h2 k (by omega) k2
structure Parted (a b m : Nat) (l : List Int) : Prop where
  h1 : a ≤ m
  h2 : m < b
  h3 : ∀ k, a ≤ k → k < m → l.getD k 0 ≤ l.getD m 0
  h4 : ∀ k, m < k → k < b → l.getD m 0 ≤ l.getD k 0
theorem Pt.fin {a b i j : Nat} {p : Int} {l : List Int} (h : Pt a b i j p l) (hij : j < i) (hl : b ≤ l.length) : Parted a b j (sw l j a) := by
  have h3 := h.hi
  have h4 := h.hj
  have h5 := h.hij
  have e : ∀ k, (sw l j a).getD k 0 = if k = a then l.getD j 0 else if k = j then l.getD a 0 else l.getD k 0 := fun k => sw_getD (by omega) (by omega)
  have ej : (sw l j a).getD j 0 = p := by
    rw [e]
    by_cases q : j = a
    · rw [if_pos q, q]; exact h.ha
    · rw [if_neg q, if_pos rfl]; exact h.ha
  refine ⟨by omega, h4, fun k k1 k2 => ?_, fun k k1 k2 => ?_⟩
  · rw [ej, e]
    split
    · have := h.h1 j (by omega) (by omega)
      omega
    · rw [if_neg (by omega)]
      have := h.h1 k (by omega) (by omega)
      omega
  · rw [ej, e, if_neg (by omega), if_neg (by omega)]
    exact h.h2 k k1 k2
structure Pe (a b i j : Nat) (p : Int) (l : List Int) : Prop where
  ha : l.getD a 0 = p
  h1 : ∀ k, a ≤ k → k < i → l.getD k 0 ≤ p
  h2 : ∀ k, j < k → k < b → p < l.getD k 0
  hi : a < i
  hij : i ≤ j + 1
  hj : j < b
theorem Pe.up {a b i j : Nat} {p : Int} {l : List Int} (h : Pe a b i j p l) (hij : i ≤ j) (hlt : l.getD i 0 ≤ p) : Pe a b (i + 1) j p l :=
  ⟨h.ha, fun k k1 k2 => by
    by_cases e : k = i
    · subst e; exact hlt
    · exact h.h1 k k1 (by omega), h.h2, by have := h.hi; omega, by omega, h.hj⟩
theorem Pe.down {a b i j : Nat} {p : Int} {l : List Int} (h : Pe a b i j p l) (hij : i ≤ j) (hge : p < l.getD j 0) : Pe a b i (j - 1) p l :=
  ⟨h.ha, h.h1, fun k k1 k2 => by
    by_cases e : k = j
    · subst e; exact hge
    · exact h.h2 k (by omega) k2, h.hi, by omega, by have := h.hj; omega⟩
theorem Pe.swap {a b i j : Nat} {p : Int} {l : List Int} (h : Pe a b i j p l) (hij : i ≤ j) (hge : p < l.getD i 0) (hlt : l.getD j 0 ≤ p) (hl : b ≤ l.length) : Pe a b (i + 1) (j - 1) p (sw l i j) := by
  have h3 := h.hi
  have h4 := h.hj
  have hne : i ≠ j := fun q => by subst q; omega
  have e : ∀ k, (sw l i j).getD k 0 = if k = j then l.getD i 0 else if k = i then l.getD j 0 else l.getD k 0 := fun k => sw_getD (by omega) (by omega)
  refine ⟨?_, fun k k1 k2 => ?_, fun k k1 k2 => ?_, by omega, by omega, by omega⟩
  · rw [e, if_neg (by omega), if_neg (by omega)]; exact h.ha
  · rw [e, if_neg (by omega)]
    split
    · exact hlt
    · exact h.h1 k k1 (by omega)
  · rw [e]
    split
    · exact hge
    · rw [if_neg (by omega)]
      exact h.h2 k (by omega) k2
structure PartEq (a b m : Nat) (p : Int) (l : List Int) : Prop where
  h1 : a < m
  h2 : m ≤ b
  h3 : ∀ k, a ≤ k → k < m → l.getD k 0 ≤ p
  h4 : ∀ k, m ≤ k → k < b → p < l.getD k 0
theorem Pe.fin {a b i j : Nat} {p : Int} {l : List Int} (h : Pe a b i j p l) (hij : j < i) : PartEq a b i p l := by
  have h3 := h.hi
  have h4 := h.hj
  have h5 := h.hij
  exact ⟨h3, by omega, h.h1, fun k k1 k2 => h.h2 k (by omega) k2⟩
end Go.Proofs.Ytpkampecmlpfmaa.T

end
section
set_option linter.unusedSimpArgs false
set_option linter.unusedVariables false
/- Sorted beginnings, plainly. -/
namespace Go.Proofs.Ytpkampecmlpfmaa.T
open Go Go.VL Go.Proofs
theorem Sd.snoc {a i : Nat} {l : List Int} (h : Sd a i l) (ha : a + 1 ≤ i) (hle : l.getD (i - 1) 0 ≤ l.getD i 0) : Sd a (i + 1) l := fun p q h1 h2 h3 => by
  by_cases e : q = i
  · subst e
    by_cases e2 : p = q - 1
    · rw [e2]; exact hle
    · have := h p (q - 1) h1 (by omega) (by omega)
      omega
  · exact h p q h1 h2 (by omega)
theorem Sd.out {a i x y : Nat} {l : List Int} (h : Sd a i l) (hx : i ≤ x) (hy : i ≤ y) (h1 : x < l.length) (h2 : y < l.length) : Sd a i (sw l x y) := fun p q p1 p2 p3 => by
  rw [sw_getD h1 h2, sw_getD h1 h2, if_neg (by omega), if_neg (by omega), if_neg (by omega), if_neg (by omega)]
  exact h p q p1 p2 p3
theorem Sd.swapped {a i : Nat} {l : List Int} (h : Sd a i l) (ha : a + 1 ≤ i) (hi : i < l.length) (hlt : l.getD i 0 < l.getD (i - 1) 0) : Ins a (i - 1) (i - 1) (sw l i (i - 1)) := fun p q p1 p2 p3 p4 => by
  have e : ∀ k, (sw l i (i - 1)).getD k 0 = if k = i - 1 then l.getD i 0 else if k = i then l.getD (i - 1) 0 else l.getD k 0 := fun k => sw_getD (by omega) (by omega)
  rw [e, e, if_neg (by omega), if_neg (by omega), if_neg (by omega), if_neg (by omega)]
  exact h p q p1 p2 (by omega)
/-- What is ahead is no greater. -/
def Ahd (a b : Nat) (l : List Int) : Prop := a = 0 ∨ ∀ k, a ≤ k → k < b → l.getD (a - 1) 0 ≤ l.getD k 0
theorem Ahd.sw {a b : Nat} {l l' : List Int} (h : Ahd a b l) (hs : Sw a b l l') : Ahd a b l' := by
  by_cases e : a = 0
  · exact .inl e
  · right
    rcases h with h | h
    · exact absurd h e
    · have := hs.all (P := fun x => l.getD (a - 1) 0 ≤ x) h
      intro k k1 k2
      rw [hs.out (k := a - 1) (by omega)]
      exact this k k1 k2
end Go.Proofs.Ytpkampecmlpfmaa.T

end
section
set_option linter.unusedSimpArgs false
set_option linter.unusedVariables false
/- What is left to be sorted, plainly. -/
namespace Go.Proofs.Ytpkampecmlpfmaa.T
open Go Go.VL Go.Proofs
/-- Once [a, b) is sorted, all of [a0, b0) is. -/
structure Rest (a0 b0 : Nat) (l0 : List Int) (a b : Nat) (l : List Int) : Prop where
  ra : a0 ≤ a
  rab : a ≤ b
  rb : b ≤ b0
  rl : b0 ≤ l0.length
  rs : Sw a0 b0 l0 l
  rd : ∀ l', Sw a b l l' → Sd a b l' → Sd a0 b0 l'
  rh : Ahd a b l
theorem Rest.start {a b : Nat} {l : List Int} (h : a ≤ b) (hb : b ≤ l.length) (hA : Ahd a b l) : Rest a b l a b l :=
  ⟨Nat.le_refl _, h, Nat.le_refl _, hb, .refl _, fun _ _ h => h, hA⟩
theorem Rest.sw {a0 b0 a b : Nat} {l0 l l' : List Int} (h : Rest a0 b0 l0 a b l) (hs : Sw a b l l') : Rest a0 b0 l0 a b l' :=
  ⟨h.ra, h.rab, h.rb, h.rl, h.rs.trans (hs.mono h.ra h.rb (by rw [h.rs.length]; exact h.rl)), fun l'' h1 h2 => h.rd l'' (hs.trans h1) h2, h.rh.sw hs⟩
theorem Rest.done {a0 b0 a b : Nat} {l0 l l' : List Int} (h : Rest a0 b0 l0 a b l) (hs : Sw a b l l') (hd : Sd a b l') : Sw a0 b0 l0 l' ∧ Sd a0 b0 l' :=
  ⟨(h.sw hs).rs, h.rd l' hs hd⟩
/-- The beginning is of the least numbers alone. -/
theorem Rest.eqPart {a0 b0 a b m : Nat} {l0 l : List Int} {p : Int} (h : Rest a0 b0 l0 a b l) (hp : PartEq a b m p l) (hge : ∀ k, a ≤ k → k < b → p ≤ l.getD k 0) : Rest a0 b0 l0 m b l := by
  have h1 := hp.h1
  have h2 := hp.h2
  refine ⟨by have := h.ra; omega, h2, h.rb, h.rl, h.rs, fun l' s1 s2 => ?_, .inr fun k k1 k2 => ?_⟩
  · have hl : b ≤ l.length := by have := h.rb; have := h.rl; rw [h.rs.length]; omega
    refine h.rd l' (s1.mono (by omega) (Nat.le_refl _) hl) fun x y x1 x2 x3 => ?_
    have hlo : ∀ k, a ≤ k → k < m → l'.getD k 0 = p := fun k k1 k2 => by
      rw [s1.out (.inl k2)]
      have := hp.h3 k k1 k2
      have := hge k k1 (by omega)
      omega
    have hhi : ∀ k, m ≤ k → k < b → p < l'.getD k 0 := s1.all (P := fun x => p < x) hp.h4
    by_cases xm : x < m
    · rw [hlo x x1 xm]
      by_cases ym : y < m
      · rw [hlo y (by omega) ym]; exact Int.le_refl _
      · have := hhi y (by omega) x3; omega
    · exact s2 x y (by omega) x2 x3
  · have e1 := hp.h3 (m - 1) (by omega) (by omega)
    have e2 := hp.h4 k k1 k2
    omega
/-- Parted, and the left part sorted. -/
theorem Rest.left {a0 b0 a b m : Nat} {l0 l l' : List Int} (h : Rest a0 b0 l0 a b l) (hp : Parted a b m l) (hs : Sw a m l l') (hd : Sd a m l') : Rest a0 b0 l0 (m + 1) b l' := by
  have h1 := hp.h1
  have h2 := hp.h2
  have hl : b ≤ l.length := by have := h.rb; have := h.rl; rw [h.rs.length]; omega
  have hl2 := hs.length
  have hsb : Sw a b l l' := hs.mono (Nat.le_refl _) (by omega) hl
  have h' := h.sw hsb
  have em : l'.getD m 0 = l.getD m 0 := hs.out (.inr (Nat.le_refl _))
  have hlo : ∀ k, a ≤ k → k < m → l'.getD k 0 ≤ l.getD m 0 := hs.all (P := fun x => x ≤ _) hp.h3
  have hhi : ∀ k, m < k → k < b → l.getD m 0 ≤ l'.getD k 0 := fun k k1 k2 => by rw [hs.out (.inr (by omega))]; exact hp.h4 k k1 k2
  refine ⟨by have := h.ra; omega, by omega, h.rb, h.rl, h'.rs, fun l'' s1 s2 => ?_, .inr fun k k1 k2 => ?_⟩
  · refine h'.rd l'' (s1.mono (by omega) (Nat.le_refl _) (by omega)) fun x y x1 x2 x3 => ?_
    have hlo2 : ∀ k, k ≤ m → l''.getD k 0 = l'.getD k 0 := fun k k1 => s1.out (.inl (by omega))
    have hhi2 : ∀ k, m + 1 ≤ k → k < b → l.getD m 0 ≤ l''.getD k 0 := s1.all (P := fun x => _ ≤ x) fun k k1 k2 => hhi k (by omega) k2
    by_cases xm : x ≤ m
    · rw [hlo2 x xm]
      have hxm : l'.getD x 0 ≤ l.getD m 0 := by
        by_cases e : x = m
        · rw [e, em]; exact Int.le_refl _
        · exact hlo x x1 (by omega)
      by_cases ym : y ≤ m
      · rw [hlo2 y ym]
        by_cases e : y = m
        · rw [e, em]; exact hxm
        · exact hd x y x1 x2 (by omega)
      · have := hhi2 y (by omega) x3; omega
    · exact s2 x y (by omega) x2 x3
  · rw [show m + 1 - 1 = m by omega, em]
    exact hhi k (by omega) k2
/-- Parted, and the right part sorted. -/
theorem Rest.right {a0 b0 a b m : Nat} {l0 l l' : List Int} (h : Rest a0 b0 l0 a b l) (hp : Parted a b m l) (hs : Sw (m + 1) b l l') (hd : Sd (m + 1) b l') : Rest a0 b0 l0 a m l' := by
  have h1 := hp.h1
  have h2 := hp.h2
  have hl : b ≤ l.length := by have := h.rb; have := h.rl; rw [h.rs.length]; omega
  have hl2 := hs.length
  have hsb : Sw a b l l' := hs.mono (by omega) (Nat.le_refl _) hl
  have h' := h.sw hsb
  have em : l'.getD m 0 = l.getD m 0 := hs.out (.inl (by omega))
  have hhi : ∀ k, m + 1 ≤ k → k < b → l.getD m 0 ≤ l'.getD k 0 := hs.all (P := fun x => _ ≤ x) fun k k1 k2 => hp.h4 k (by omega) k2
  have hlo : ∀ k, a ≤ k → k < m → l'.getD k 0 ≤ l.getD m 0 := fun k k1 k2 => by rw [hs.out (.inl (by omega))]; exact hp.h3 k k1 k2
  refine ⟨h.ra, h1, by have := h.rb; omega, h.rl, h'.rs, fun l'' s1 s2 => ?_, ?_⟩
  · refine h'.rd l'' (s1.mono (Nat.le_refl _) (by omega) (by omega)) fun x y x1 x2 x3 => ?_
    have hhi2 : ∀ k, m ≤ k → l''.getD k 0 = l'.getD k 0 := fun k k1 => s1.out (.inr k1)
    have hlo2 : ∀ k, a ≤ k → k < m → l''.getD k 0 ≤ l.getD m 0 := s1.all (P := fun x => x ≤ _) hlo
    have hge : ∀ k, m ≤ k → k < b → l.getD m 0 ≤ l''.getD k 0 := fun k k1 k2 => by
      rw [hhi2 k k1]
      by_cases e : k = m
      · rw [e, em]; exact Int.le_refl _
      · exact hhi k (by omega) k2
    by_cases ym : y < m
    · exact s2 x y x1 x2 ym
    · by_cases xm : x < m
      · have := hlo2 x x1 xm
        have := hge y (by omega) x3
        omega
      · by_cases e : x = m
        · subst e
          rw [hhi2 x (Nat.le_refl _), em]
          exact hge y (by omega) x3
        · rw [hhi2 x (by omega), hhi2 y (by omega)]
          exact hd x y (by omega) x2 x3
  · rcases h'.rh with q | q
    · exact .inl q
    · exact .inr fun k k1 k2 => q k k1 (by omega)
theorem Rest.ahead {a0 b0 a b : Nat} {l0 l : List Int} (h : Rest a0 b0 l0 a b l) (ha : 0 < a) {v : Nat} (hv : a ≤ v ∧ v < b) (hle : l.getD v 0 ≤ l.getD (a - 1) 0) : ∀ k, a ≤ k → k < b → l.getD v 0 ≤ l.getD k 0 := fun k k1 k2 => by
  rcases h.rh with q | q
  · omega
  · have := q k k1 k2; omega
end Go.Proofs.Ytpkampecmlpfmaa.T

end
section
set_option linter.unusedSimpArgs false
/- The list, sorted, plainly. -/
namespace Go.Proofs.Ytpkampecmlpfmaa.T
open Go Go.VL Go.Proofs
/-- The list, sorted. -/
def sortI (l : List Int) : List Int := l.mergeSort fun x y => decide (x ≤ y)
theorem sortI_perm (l : List Int) : (sortI l).Perm l := List.mergeSort_perm _ _
theorem sortI_sorted (l : List Int) : (sortI l).Pairwise (· ≤ ·) := by
  have := List.pairwise_mergeSort (le := fun x y : Int => decide (x ≤ y)) (fun a b c h1 h2 => by simp at *; omega) (fun a b => by simp; omega) l
  exact this.imp fun h => by simpa using h
theorem sorted_unique {l l' : List Int} (hp : l.Perm l') (h : l.Pairwise (· ≤ ·)) (h' : l'.Pairwise (· ≤ ·)) : l = l' :=
  hp.eq_of_pairwise (fun a b _ _ h1 h2 => by omega) h h'
theorem Sd.pairwise {l : List Int} (h : Sd 0 l.length l) : l.Pairwise (· ≤ ·) := by
  rw [List.pairwise_iff_getElem]
  intro i j hi hj hij
  have := h i j (Nat.zero_le _) hij hj
  simpa [List.getD, hi, hj] using this
theorem sortI_of {l l' : List Int} (h : Sw 0 l.length l l') (hd : Sd 0 l.length l') : l' = sortI l := by
  have hl := h.length
  rw [← hl] at hd
  exact sorted_unique (h.perm.trans (sortI_perm l).symm) hd.pairwise (sortI_sorted l)
end Go.Proofs.Ytpkampecmlpfmaa.T

end
