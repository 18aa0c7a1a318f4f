import Derived.Test.YtpkampecmlpfmaaESoM4
set_option linter.unusedSimpArgs false
set_option linter.unusedVariables false
/- What is left to be sorted, plainly. -/
namespace Go.Proofs.Ytpkampecmlpfmaa.T
open Go Go.VL Go.Proofs
/-- Once [a, b) is sorted, all of [a0, b0) is. -/
structure Rest (a0 b0 : Nat) (l0 : List Int) (a b : Nat) (l : List Int) : Prop where
  ra : a0 ≤ a
  rab : a ≤ b
  rb : b ≤ b0
  rl : b0 ≤ l0.length
  rs : Sw a0 b0 l0 l
  rd : ∀ l', Sw a b l l' → Sd a b l' → Sd a0 b0 l'
  rh : Ahd a b l
theorem Rest.start {a b : Nat} {l : List Int} (h : a ≤ b) (hb : b ≤ l.length) (hA : Ahd a b l) : Rest a b l a b l :=
  ⟨Nat.le_refl _, h, Nat.le_refl _, hb, .refl _, fun _ _ h => h, hA⟩
theorem Rest.sw {a0 b0 a b : Nat} {l0 l l' : List Int} (h : Rest a0 b0 l0 a b l) (hs : Sw a b l l') : Rest a0 b0 l0 a b l' :=
  ⟨h.ra, h.rab, h.rb, h.rl, h.rs.trans (hs.mono h.ra h.rb (by rw [h.rs.length]; exact h.rl)), fun l'' h1 h2 => h.rd l'' (hs.trans h1) h2, h.rh.sw hs⟩
theorem Rest.done {a0 b0 a b : Nat} {l0 l l' : List Int} (h : Rest a0 b0 l0 a b l) (hs : Sw a b l l') (hd : Sd a b l') : Sw a0 b0 l0 l' ∧ Sd a0 b0 l' :=
  ⟨(h.sw hs).rs, h.rd l' hs hd⟩
/-- The beginning is of the least numbers alone. -/
theorem Rest.eqPart {a0 b0 a b m : Nat} {l0 l : List Int} {p : Int} (h : Rest a0 b0 l0 a b l) (hp : PartEq a b m p l) (hge : ∀ k, a ≤ k → k < b → p ≤ l.getD k 0) : Rest a0 b0 l0 m b l := by
  have h1 := hp.h1
  have h2 := hp.h2
  refine ⟨by have := h.ra; omega, h2, h.rb, h.rl, h.rs, fun l' s1 s2 => ?_, .inr fun k k1 k2 => ?_⟩
  · have hl : b ≤ l.length := by have := h.rb; have := h.rl; rw [h.rs.length]; omega
    refine h.rd l' (s1.mono (by omega) (Nat.le_refl _) hl) fun x y x1 x2 x3 => ?_
    have hlo : ∀ k, a ≤ k → k < m → l'.getD k 0 = p := fun k k1 k2 => by
      rw [s1.out (.inl k2)]
      have := hp.h3 k k1 k2
      have := hge k k1 (by omega)
      omega
    have hhi : ∀ k, m ≤ k → k < b → p < l'.getD k 0 := s1.all (P := fun x => p < x) hp.h4
    by_cases xm : x < m
    · rw [hlo x x1 xm]
      by_cases ym : y < m
      · rw [hlo y (by omega) ym]; exact Int.le_refl _
      · have := hhi y (by omega) x3; omega
    · exact s2 x y (by omega) x2 x3
  · have e1 := hp.h3 (m - 1) (by omega) (by omega)
    have e2 := hp.h4 k k1 k2
    omega
/-- Parted, and the left part sorted. -/
theorem Rest.left {a0 b0 a b m : Nat} {l0 l l' : List Int} (h : Rest a0 b0 l0 a b l) (hp : Parted a b m l) (hs : Sw a m l l') (hd : Sd a m l') : Rest a0 b0 l0 (m + 1) b l' := by
  have h1 := hp.h1
  have h2 := hp.h2
  have hl : b ≤ l.length := by have := h.rb; have := h.rl; rw [h.rs.length]; omega
  have hl2 := hs.length
  have hsb : Sw a b l l' := hs.mono (Nat.le_refl _) (by omega) hl
  have h' := h.sw hsb
  have em : l'.getD m 0 = l.getD m 0 := hs.out (.inr (Nat.le_refl _))
  have hlo : ∀ k, a ≤ k → k < m → l'.getD k 0 ≤ l.getD m 0 := hs.all (P := fun x => x ≤ _) hp.h3
  have hhi : ∀ k, m < k → k < b → l.getD m 0 ≤ l'.getD k 0 := fun k k1 k2 => by rw [hs.out (.inr (by omega))]; exact hp.h4 k k1 k2
  refine ⟨by have := h.ra; omega, by omega, h.rb, h.rl, h'.rs, fun l'' s1 s2 => ?_, .inr fun k k1 k2 => ?_⟩
  · refine h'.rd l'' (s1.mono (by omega) (Nat.le_refl _) (by omega)) fun x y x1 x2 x3 => ?_
    have hlo2 : ∀ k, k ≤ m → l''.getD k 0 = l'.getD k 0 := fun k k1 => s1.out (.inl (by omega))
    have hhi2 : ∀ k, m + 1 ≤ k → k < b → l.getD m 0 ≤ l''.getD k 0 := s1.all (P := fun x => _ ≤ x) fun k k1 k2 => hhi k (by omega) k2
    by_cases xm : x ≤ m
    · rw [hlo2 x xm]
      have hxm : l'.getD x 0 ≤ l.getD m 0 := by
        by_cases e : x = m
        · rw [e, em]; exact Int.le_refl _
        · exact hlo x x1 (by omega)
      by_cases ym : y ≤ m
      · rw [hlo2 y ym]
        by_cases e : y = m
        · rw [e, em]; exact hxm
        · exact hd x y x1 x2 (by omega)
      · have := hhi2 y (by omega) x3; omega
    · exact s2 x y (by omega) x2 x3
  · rw [show m + 1 - 1 = m by omega, em]
    exact hhi k (by omega) k2
/-- Parted, and the right part sorted. -/
theorem Rest.right {a0 b0 a b m : Nat} {l0 l l' : List Int} (h : Rest a0 b0 l0 a b l) (hp : Parted a b m l) (hs : Sw (m + 1) b l l') (hd : Sd (m + 1) b l') : Rest a0 b0 l0 a m l' := by
  have h1 := hp.h1
  have h2 := hp.h2
  have hl : b ≤ l.length := by have := h.rb; have := h.rl; rw [h.rs.length]; omega
  have hl2 := hs.length
  have hsb : Sw a b l l' := hs.mono (by omega) (Nat.le_refl _) hl
  have h' := h.sw hsb
  have em : l'.getD m 0 = l.getD m 0 := hs.out (.inl (by omega))
  have hhi : ∀ k, m + 1 ≤ k → k < b → l.getD m 0 ≤ l'.getD k 0 := hs.all (P := fun x => _ ≤ x) fun k k1 k2 => hp.h4 k (by omega) k2
  have hlo : ∀ k, a ≤ k → k < m → l'.getD k 0 ≤ l.getD m 0 := fun k k1 k2 => by rw [hs.out (.inl (by omega))]; exact hp.h3 k k1 k2
  refine ⟨h.ra, h1, by have := h.rb; omega, h.rl, h'.rs, fun l'' s1 s2 => ?_, ?_⟩
  · refine h'.rd l'' (s1.mono (Nat.le_refl _) (by omega) (by omega)) fun x y x1 x2 x3 => ?_
    have hhi2 : ∀ k, m ≤ k → l''.getD k 0 = l'.getD k 0 := fun k k1 => s1.out (.inr k1)
    have hlo2 : ∀ k, a ≤ k → k < m → l''.getD k 0 ≤ l.getD m 0 := s1.all (P := fun x => x ≤ _) hlo
    have hge : ∀ k, m ≤ k → k < b → l.getD m 0 ≤ l''.getD k 0 := fun k k1 k2 => by
      rw [hhi2 k k1]
      by_cases e : k = m
      · rw [e, em]; exact Int.le_refl _
      · exact hhi k (by omega) k2
    by_cases ym : y < m
    · exact s2 x y x1 x2 ym
    · by_cases xm : x < m
      · have := hlo2 x x1 xm
        have := hge y (by omega) x3
        omega
      · by_cases e : x = m
        · subst e
          rw [hhi2 x (Nat.le_refl _), em]
          exact hge y (by omega) x3
        · rw [hhi2 x (by omega), hhi2 y (by omega)]
          exact hd x y (by omega) x2 x3
  · rcases h'.rh with q | q
    · exact .inl q
    · exact .inr fun k k1 k2 => q k k1 (by omega)
theorem Rest.ahead {a0 b0 a b : Nat} {l0 l : List Int} (h : Rest a0 b0 l0 a b l) (ha : 0 < a) {v : Nat} (hv : a ≤ v ∧ v < b) (hle : l.getD v 0 ≤ l.getD (a - 1) 0) : ∀ k, a ≤ k → k < b → l.getD v 0 ≤ l.getD k 0 := fun k k1 k2 => by
  rcases h.rh with q | q
  · omega
  · have := q k k1 k2; omega
end Go.Proofs.Ytpkampecmlpfmaa.T
