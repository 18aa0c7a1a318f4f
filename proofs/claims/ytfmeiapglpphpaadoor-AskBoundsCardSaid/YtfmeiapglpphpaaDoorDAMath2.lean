import Derived.Test.YtfmeiapglpphpaaDoorDAMath
/- Bounds and lengths of what is asked, plainly. -/
namespace Go.Proofs.YtfmeiapglpphpaaDoor.T
open Go Go.VL Go.Proofs
def longOf (k dim : Int) : Int := if k = 1 ∨ k = 2 then 5 + 2 * dim else if k = 3 ∨ k = 4 then 5 else if k = 5 then 3 + 2 * dim else if k = 7 then 9 else 1
theorem text_long {k id n s : Int} {v : List Int} {dim slots : Int} (h : askErr k id n s v dim slots = 0) (g : Good k id n s v) : ((askText k id n s v).length : Int) = longOf k dim := by
  have h4 := (askErr_ok h).2.2.2.2.2
  unfold vOk at h4
  rw [text_len g]
  obtain ⟨k1, k2⟩ := g.kind
  have : k = 1 ∨ k = 2 ∨ k = 3 ∨ k = 4 ∨ k = 5 ∨ k = 6 ∨ k = 7 ∨ k = 8 := by omega
  rcases this with rfl | rfl | rfl | rfl | rfl | rfl | rfl | rfl <;> simp [readW, shI, shK, shS, shV, longOf] at h4 ⊢ <;> omega
theorem text_inj {k id n s k2 id2 n2 s2 : Int} {v v2 : List Int} (g : Good k id n s v) (g2 : Good k2 id2 n2 s2 v2) : askText k id n s v = askText k2 id2 n2 s2 v2 ↔ (k = k2 ∧ id = id2 ∧ n = n2 ∧ s = s2 ∧ v = v2) := by
  constructor
  · intro h
    have h1 := text_head g
    have h2 := text_id g
    have h3 := text_k g
    have h4 := text_seed g
    have h5 := text_v g
    rw [h, text_head g2] at h1
    rw [h, text_id g2] at h2
    rw [h, text_k g2] at h3
    rw [h, text_seed g2] at h4
    rw [h, text_v g2] at h5
    exact ⟨h1.symm, h2.symm, h3.symm, h4.symm, h5.symm⟩
  · rintro ⟨rfl, rfl, rfl, rfl, rfl⟩; rfl
theorem other_err {k id n s : Int} {v : List Int} {dim slots other : Int} (h : askErr k id n s v dim slots = 0) (g : Good k id n s v) (ho : 1 ≤ other ∧ other ≤ 64) (hne : other ≠ dim) :
    readErr (askText k id n s v) other slots = if shV k then 1 else 0 := by
  obtain ⟨hz, hk, h1, h2, h3, h4⟩ := askErr_ok h
  rw [text_read g ⟨ho, hz.2⟩]
  unfold askErr
  unfold vOk at h4
  cases hV : shV k with
  | true =>
    rw [hV] at h4
    simp only [if_true] at h4 ⊢
    refine if_neg fun q => ?_
    have h5 := q.2.2.2.2.2
    unfold vOk at h5
    rw [hV] at h5
    exact hne (h5.1.symm.trans h4.1)
  | false =>
    rw [hV] at h4
    simp only [Bool.false_eq_true, if_false] at h4 ⊢
    exact if_pos ⟨⟨ho, hz.2⟩, hk, h1, h2, h3, by unfold vOk; rw [hV]; exact h4⟩
theorem query_good {id n s : Int} {v : List Int} (g : Good 5 id n s v) {kk : Int} (hk : 0 ≤ kk ∧ kk ≤ 30000) : Good 5 0 kk 0 v :=
  ⟨g.kind, by have : numIn 5 0 kk 0 = kk := rfl; rw [this]; omega, fun _ => by
      have e1 : numIn 5 0 kk 0 = kk := rfl
      have e2 : readW 5 = ((2 : Nat) : Int) := rfl
      rw [e1, e2]
      exact (putFit_iff (w := 2) (by omega) (by omega)).2 (by simp; omega), fun _ => rfl, fun q => absurd rfl q, fun _ => rfl, g.i16, g.vec, g.no⟩
theorem query_err {id n s : Int} {v : List Int} {dim slots : Int} (h : askErr 5 id n s v dim slots = 0) (g : Good 5 id n s v) {kk : Int} (hk : 0 ≤ kk ∧ kk ≤ 30000) :
    readErr (askText 5 0 kk 0 v) dim slots = if 1 ≤ kk ∧ kk ≤ slots then 0 else 1 := by
  obtain ⟨hz, hkk, h1, h2, h3, h4⟩ := askErr_ok h
  rw [text_read (query_good g hk) hz]
  unfold askErr
  have e : namedP kk (shK 5) 1 slots ↔ (1 ≤ kk ∧ kk ≤ slots) := by unfold namedP; rw [if_neg (by decide)]
  by_cases q : 1 ≤ kk ∧ kk ≤ slots
  · rw [if_pos q]
    exact if_pos ⟨hz, hkk, by unfold namedP; rw [if_pos (by decide)], e.2 q, by unfold namedP; rw [if_pos (by decide)], h4⟩
  · rw [if_neg q]
    exact if_neg fun r => q (e.1 r.2.2.2.1)
theorem query_set {id n s : Int} {v : List Int} (g : Good 5 id n s v) {kk : Int} (hk : 0 ≤ kk ∧ kk ≤ 30000) : ((askText 5 id n s v).set 1 (kk % 256)).set 2 (kk / 256) = askText 5 0 kk 0 v := by
  rw [text_shape g.kind, text_shape g.kind]
  have e1 : numIn 5 0 kk 0 = kk := rfl
  have e2 : (readW 5).toNat = 2 := rfl
  have o2 : ∀ x : Int, octs 2 x = [oct x 0, oct x 1] := fun x => rfl
  rw [e1, e2, o2, o2]
  have f0 : oct kk 0 = kk % 256 := by rw [oct_eq]; simp
  have f1 : oct kk 1 = kk / 256 := by rw [oct_eq]; simp; omega
  rw [f0, f1]
  rfl
theorem text_take {k id n s : Int} {v : List Int} (g : Good k id n s v) {dim slots : Int} (hz : sizesOk dim slots) {c : Nat} (hc : c < (askText k id n s v).length) (hn : ¬ (shV k = true ∧ ((askText k id n s v).length - c) % 2 = 0)) :
    readErr ((askText k id n s v).take c) dim slots = 2 := by
  refine read_bad hz ?_
  rintro ⟨f1, f2, f3, f4, f5, f6⟩
  have hl := text_len g
  have h0 : ((askText k id n s v).take c).getD 0 0 = k := by
    have hh := text_head g
    cases hc0 : c with
    | zero => rw [hc0] at f1; simp at f1
    | succ c' =>
      cases ht : askText k id n s v with
      | nil => rw [ht] at hc; simp at hc
      | cons x l => rw [ht] at hh; exact hh
  rw [h0] at f3
  have hlt : ((askText k id n s v).take c).length = c := by rw [List.length_take]; omega
  have htl : (tailOf ((askText k id n s v).take c)).length = c - 1 - (readW k).toNat := by unfold tailOf; rw [h0, List.length_drop, List.length_drop, hlt]
  rw [List.length_drop, hlt] at f3
  rw [htl] at f4
  cases hV : shV k with
  | true =>
    rw [hV, if_pos rfl] at hl
    exact hn ⟨hV, by omega⟩
  | false =>
    rw [hV] at hl
    simp only [Bool.false_eq_true, if_false] at hl
    omega
theorem text_more {k id n s : Int} {v : List Int} (g : Good k id n s v) {dim slots : Int} (hz : sizesOk dim slots) : readErr (askText k id n s v ++ [0]) dim slots = 2 := by
  refine read_bad hz ?_
  rintro ⟨f1, f2, f3, f4, f5, f6⟩
  have hl := text_len g
  have h0 : (askText k id n s v ++ [0]).getD 0 0 = k := by
    have hh := text_head g
    cases ht : askText k id n s v with
    | nil => rw [ht] at hl; simp at hl; omega
    | cons x l => rw [ht] at hh; exact hh
  have htl : (tailOf (askText k id n s v ++ [0])).length = (askText k id n s v).length + 1 - 1 - (readW k).toNat := by unfold tailOf; rw [h0, List.length_drop, List.length_drop, List.length_append]; rfl
  rw [htl, hl] at f4
  split at f4 <;> omega
end Go.Proofs.YtfmeiapglpphpaaDoor.T
