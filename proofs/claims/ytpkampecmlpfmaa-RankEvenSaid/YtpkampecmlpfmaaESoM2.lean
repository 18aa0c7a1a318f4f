import Derived.Test.YtpkampecmlpfmaaESoM
set_option linter.unusedSimpArgs false
set_option linter.unusedVariables false
/- Heaps, plainly. -/
namespace Go.Proofs.Ytpkampecmlpfmaa.T
open Go Go.VL Go.Proofs
def Hp (lo hi f : Nat) (l : List Int) : Prop := ∀ k c, lo ≤ k → (c = 2 * k + 1 ∨ c = 2 * k + 2) → c < hi → l.getD (f + c) 0 ≤ l.getD (f + k) 0
structure HpEx (lo hi f r : Nat) (l : List Int) : Prop where
  h1 : ∀ k c, lo ≤ k → k ≠ r → (c = 2 * k + 1 ∨ c = 2 * k + 2) → c < hi → l.getD (f + c) 0 ≤ l.getD (f + k) 0
  h2 : ∀ g c, lo ≤ g → (r = 2 * g + 1 ∨ r = 2 * g + 2) → (c = 2 * r + 1 ∨ c = 2 * r + 2) → c < hi → l.getD (f + c) 0 ≤ l.getD (f + g) 0
theorem HpEx.start {lo hi f : Nat} {l : List Int} (h : Hp (lo + 1) hi f l) : HpEx lo hi f lo l :=
  ⟨fun k c h1 h2 h3 h4 => h k c (by omega) h3 h4, fun g c h1 h2 h3 h4 => by omega⟩
theorem HpEx.done {lo hi f r : Nat} {l : List Int} (h : HpEx lo hi f r l) (hc : ∀ c, (c = 2 * r + 1 ∨ c = 2 * r + 2) → c < hi → l.getD (f + c) 0 ≤ l.getD (f + r) 0) : Hp lo hi f l := fun k c k1 k2 k3 => by
  by_cases e : k = r
  · subst e; exact hc c k2 k3
  · exact h.h1 k c k1 e k2 k3
theorem HpEx.step {lo hi f r c : Nat} {l : List Int} (h : HpEx lo hi f r l) (hr : lo ≤ r) (hc : c = 2 * r + 1 ∨ c = 2 * r + 2) (hch : c < hi) (hd : ∀ d, (d = 2 * r + 1 ∨ d = 2 * r + 2) → d < hi → l.getD (f + d) 0 ≤ l.getD (f + c) 0)
    (hlt : l.getD (f + r) 0 < l.getD (f + c) 0) (hl : f + hi ≤ l.length) : HpEx lo hi f c (sw l (f + r) (f + c)) := by
  have e : ∀ k, (sw l (f + r) (f + c)).getD k 0 = if k = f + c then l.getD (f + r) 0 else if k = f + r then l.getD (f + c) 0 else l.getD k 0 := fun k => sw_getD (by omega) (by omega)
  constructor
  · intro k d k1 k2 k3 k4
    rw [e, e]
    rw [if_neg (show ¬ f + k = f + c by omega)]
    by_cases kr : k = r
    · subst kr
      rw [if_pos rfl]
      by_cases dc : d = c
      · subst dc; rw [if_pos rfl]; omega
      · rw [if_neg (by omega), if_neg (by omega)]
        exact hd d k3 k4
    · rw [if_neg (show ¬ f + k = f + r by omega), if_neg (show ¬ f + d = f + c by omega)]
      by_cases dr : d = r
      · subst dr
        rw [if_pos rfl]
        exact h.h2 k c k1 k3 hc hch
      · rw [if_neg (by omega)]
        exact h.h1 k d k1 kr k3 k4
  · intro g d g1 g2 g3 g4
    obtain rfl : g = r := by omega
    rw [e, e, if_neg (show ¬ f + d = f + c by omega), if_neg (show ¬ f + d = f + g by omega), if_neg (show ¬ f + g = f + c by omega), if_pos rfl]
    exact h.h1 c d (by omega) (by omega) g3 g4
theorem Hp.max {hi f : Nat} {l : List Int} (h : Hp 0 hi f l) : ∀ k, k < hi → l.getD (f + k) 0 ≤ l.getD f 0 := by
  intro k
  induction k using Nat.strongRecOn with
  | _ k ih =>
    intro hk
    by_cases e : k = 0
    · subst e; exact Int.le_refl _
    · have h1 := ih ((k - 1) / 2) (by omega) (by omega)
      have h2 := h ((k - 1) / 2) k (by omega) (by omega) hk
      omega
structure Tl (f i n : Nat) (l : List Int) : Prop where
  t1 : Sd (f + i) (f + n) l
  t2 : ∀ p q, p < i → i ≤ q → q < n → l.getD (f + p) 0 ≤ l.getD (f + q) 0
theorem Tl.step {f i n : Nat} {l l' : List Int} (h : Tl f (i + 1) n l) (hp : Hp 0 (i + 1) f l) (hn : i + 1 ≤ n) (hl : f + n ≤ l.length) (hs : Sw f (f + i) (sw l f (f + i)) l') : Tl f i n l' := by
  have e : ∀ k, (sw l f (f + i)).getD k 0 = if k = f + i then l.getD f 0 else if k = f then l.getD (f + i) 0 else l.getD k 0 := fun k => sw_getD (by omega) (by omega)
  have hm := hp.max
  have ho : ∀ k, f + i ≤ k → l'.getD k 0 = if k = f + i then l.getD f 0 else l.getD k 0 := fun k hk => by
    rw [hs.out (.inr hk), e]
    by_cases q : k = f + i
    · rw [if_pos q, if_pos q]
    · rw [if_neg q, if_neg q, if_neg (by omega)]
  have ha : ∀ q, i ≤ q → q < n → ∀ k, f ≤ k → k < f + i → l'.getD k 0 ≤ (if f + q = f + i then l.getD f 0 else l.getD (f + q) 0) := fun q q1 q2 => by
    refine hs.all (P := fun x => x ≤ _) fun k k1 k2 => ?_
    obtain ⟨k, rfl⟩ : ∃ j, k = f + j := ⟨k - f, by omega⟩
    rw [e, if_neg (by omega)]
    by_cases q3 : f + q = f + i
    · rw [if_pos q3]
      split
      · exact hm i (by omega)
      · exact hm k (by omega)
    · rw [if_neg q3]
      split
      · exact h.t2 i q (by omega) (by omega) q2
      · exact h.t2 k q (by omega) (by omega) q2
  constructor
  · intro p q p1 p2 p3
    rw [ho p p1, ho q (by omega), if_neg (show ¬ q = f + i by omega)]
    split
    · have := h.t2 0 (q - f) (by omega) (by omega) (by omega)
      rw [show f + 0 = f from rfl, show f + (q - f) = q by omega] at this
      exact this
    · exact h.t1 p q (by omega) p2 p3
  · intro p q p1 p2 p3
    rw [ho (f + q) (by omega)]
    exact ha q p2 p3 (f + p) (by omega) (by omega)
theorem Hp.swapped {i f : Nat} {l : List Int} (h : Hp 0 (i + 1) f l) (hl : f + i < l.length) : Hp 1 i f (sw l f (f + i)) := fun k c k1 k2 k3 => by
  rw [sw_getD (by omega) hl, sw_getD (by omega) hl, if_neg (by omega), if_neg (by omega), if_neg (by omega), if_neg (by omega)]
  exact h k c (by omega) k2 (by omega)
end Go.Proofs.Ytpkampecmlpfmaa.T
