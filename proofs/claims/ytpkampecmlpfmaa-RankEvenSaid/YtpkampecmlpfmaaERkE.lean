import Derived.Test.YtpkampecmlpfmaaERkL
set_option linter.unusedSimpArgs false
set_option linter.unusedVariables false
/- A list's own cuts: they may be, and their cells hold as many, plainly. -/
namespace Go.Proofs.Ytpkampecmlpfmaa.T
open Go Go.VL Go.Proofs
theorem sortI_mono {l : List Int} {i j : Nat} (h : i ≤ j) (hj : j < l.length) : (sortI l).getD i 0 ≤ (sortI l).getD j 0 := by
  have hs := sortI_length l
  have hp := List.pairwise_iff_getElem.1 (sortI_sorted l)
  by_cases e : i = j
  · subst e; exact Int.le_refl _
  · have := hp i j (by omega) (by omega) (by omega)
    simpa [List.getD, hs, hj, show i < l.length by omega] using this
theorem sortI_strict {l : List Int} (hn : l.Nodup) {i j : Nat} (h : i < j) (hj : j < l.length) : (sortI l).getD i 0 < (sortI l).getD j 0 := by
  have hs := sortI_length l
  have h1 := sortI_mono (l := l) (Nat.le_of_lt h) hj
  have h2 : (sortI l).Nodup := (sortI_perm l).nodup_iff.2 hn
  have h3 : (sortI l).getD i 0 ≠ (sortI l).getD j 0 := by
    have := List.pairwise_iff_getElem.1 h2 i j (by omega) (by omega) h
    simpa [List.getD, hs, hj, show i < l.length by omega] using this
  omega
theorem cutsOk_cutsL {l : List Int} {n : Nat} (h : rkE l n = 0) : cutsErr (cutsL l n) = 0 := by
  obtain ⟨_, ⟨c1, c2⟩, c3, c4⟩ := rkE_zero.1 h
  have hl := cutsL_length (l := l) (n := n)
  refine cutsErr_zero.2 ⟨by omega, fun i hi => ?_, fun hi => ?_⟩
  · rw [hl] at hi
    rw [cutsL_at (by omega), cutsL_at (by omega)]
    exact sortI_mono (Nat.div_le_div_right (Nat.mul_le_mul_right _ (by omega))) (cutsL_idx (by omega) c4)
  · rw [hl] at hi
    rw [cutsL_at hi]
    have hm := getD_mem (a := sortI l) (d := (0 : Int)) (k := (0 + 1) * l.length / n) (by rw [sortI_length]; exact cutsL_idx hi c4)
    have hx := (sortI_perm l).mem_iff.1 hm
    have := (List.any_eq_false.1 c3) _ hx
    rw [oddB, decide_eq_true_eq] at this
    omega
theorem cutsL_mem {l : List Int} {n i : Nat} (h : i < n - 1) (hl : 1 ≤ l.length) : (cutsL l n).getD i 0 ∈ l := by
  rw [cutsL_at h]
  exact (sortI_perm l).mem_iff.1 (getD_mem (by rw [sortI_length]; exact cutsL_idx h hl))
theorem countP_first {α : Type} {p : α → Bool} {s : List α} {m : Nat} (hm : m ≤ s.length) (h : ∀ i (hi : i < s.length), p s[i] = true ↔ i < m) : s.countP p = m := by
  have e : s.countP p = (s.take m).countP p + (s.drop m).countP p := by rw [← List.countP_append, List.take_append_drop]
  rw [e, List.countP_eq_length.2, List.countP_eq_zero.2, List.length_take]
  · omega
  · intro a ha
    obtain ⟨i, hi, rfl⟩ := List.mem_iff_getElem.1 ha
    rw [List.length_drop] at hi
    rw [List.getElem_drop]
    intro q
    have := (h (m + i) (by omega)).1 q
    omega
  · intro a ha
    obtain ⟨i, hi, rfl⟩ := List.mem_iff_getElem.1 ha
    rw [List.length_take] at hi
    rw [List.getElem_take]
    exact (h i (by omega)).2 (by omega)
theorem sumTo_even {l : List Int} {n : Nat} (h : rkE l n = 0) (hn : l.Nodup) : ∀ k, k ≤ n → sumTo (cntL (cutsL l n) l) k = ((k * l.length / n : Nat) : Int) := by
  intro k hk
  obtain ⟨_, ⟨c1, c2⟩, c3, c4⟩ := rkE_zero.1 h
  have hl := cutsL_length (l := l) (n := n)
  have hR := (cutsErr_zero.1 (cutsOk_cutsL h)).2.1
  rw [sumTo_cnt l k (by omega)]
  congr 1
  rw [← (sortI_perm l).countP_eq]
  have hs := sortI_length l
  refine countP_first ?_ fun p hp => ?_
  · rw [hs]
    exact Nat.div_le_of_le_mul (Nat.mul_le_mul_right _ hk)
  · rw [decide_eq_true_eq]
    have hx : (sortI l)[p] = (sortI l).getD p 0 := by simp [List.getD, hp]
    rw [hx]
    by_cases k0 : k = 0
    · subst k0; simp
    · by_cases kn : k = n
      · subst kn
        rw [Nat.mul_div_cancel_left _ (by omega)]
        have := cellOf_le (cutsL l k) ((sortI l).getD p 0)
        omega
      · have hc := cellOf_spec hR ((sortI l).getD p 0) (k - 1) (by omega)
        rw [cutsL_at (by omega), show k - 1 + 1 = k by omega] at hc
        have hi := cutsL_idx (l := l) (n := n) (i := k - 1) (by omega) c4
        rw [show k - 1 + 1 = k by omega] at hi
        generalize hB : k * l.length / n = B at *
        constructor
        · intro q
          refine Classical.byContradiction fun z => ?_
          have := hc.1 (sortI_mono (by omega) (by omega))
          omega
        · intro q
          have := sortI_strict hn q (by omega)
          refine Classical.byContradiction fun z => ?_
          have := hc.2 (by omega)
          omega
theorem div_between (L n i : Nat) (hn : 1 ≤ n) : L / n ≤ (i + 1) * L / n - i * L / n ∧ (i + 1) * L / n - i * L / n ≤ (L + n - 1) / n := by
  have e : (i + 1) * L = i * L + L := by rw [Nat.add_mul, Nat.one_mul]
  rw [e]
  generalize i * L = A
  have hA := Nat.div_add_mod A n
  have hL := Nat.div_add_mod L n
  have hAL := Nat.div_add_mod (A + L) n
  have hU := Nat.div_add_mod (L + n - 1) n
  have a1 := Nat.mod_lt A (y := n) (by omega)
  have a2 := Nat.mod_lt L (y := n) (by omega)
  have a3 := Nat.mod_lt (A + L) (y := n) (by omega)
  have a4 := Nat.mod_lt (L + n - 1) (y := n) (by omega)
  generalize A / n = qa at *
  generalize L / n = ql at *
  generalize (A + L) / n = qs at *
  generalize (L + n - 1) / n = qu at *
  constructor
  · have : qa + ql ≤ qs := by
      refine Classical.byContradiction fun z => ?_
      have h1 : n * (qs + 1) ≤ n * (qa + ql) := Nat.mul_le_mul_left _ (by omega)
      rw [Nat.mul_add, Nat.mul_add, Nat.mul_one] at h1
      omega
    omega
  · have : qs ≤ qa + qu := by
      refine Classical.byContradiction fun z => ?_
      have h1 : n * (qa + qu + 1) ≤ n * qs := Nat.mul_le_mul_left _ (by omega)
      rw [Nat.mul_add, Nat.mul_add, Nat.mul_one] at h1
      omega
    omega
theorem cnt_even {l : List Int} {n : Nat} (h : rkE l n = 0) (hn : l.Nodup) {i : Nat} (hi : i < n) : ((l.length / n : Nat) : Int) ≤ (cntL (cutsL l n) l).getD i 0 ∧ (cntL (cutsL l n) l).getD i 0 ≤ (((l.length + n - 1) / n : Nat) : Int) := by
  have h1 := sumTo_even h hn i (by omega)
  have h2 := sumTo_even h hn (i + 1) (by omega)
  have h3 := div_between l.length n i (by omega)
  have h4 : i * l.length / n ≤ (i + 1) * l.length / n := Nat.div_le_div_right (Nat.mul_le_mul_right _ (by omega))
  rw [sumTo] at h2
  generalize i * l.length / n = a at *
  generalize (i + 1) * l.length / n = b at *
  omega
/-- The keys of a list, each once, as they came. -/
def keysOf : List Int → Nat → List Int
  | _, 0 => []
  | l, k + 1 => if l.getD k 0 ∈ keysOf l k then keysOf l k else keysOf l k ++ [l.getD k 0]
theorem keysOf_mem {l : List Int} {x : Int} : ∀ k, x ∈ keysOf l k ↔ ∃ j, j < k ∧ l.getD j 0 = x
  | 0 => by simp [keysOf]
  | k + 1 => by
    have ih := keysOf_mem (l := l) (x := x) k
    rw [keysOf]
    split
    · rename_i h
      rw [ih]
      constructor
      · rintro ⟨j, hj, e⟩; exact ⟨j, by omega, e⟩
      · rintro ⟨j, hj, e⟩
        by_cases q : j = k
        · subst q; rw [← e]; exact ih.1 (by rw [← e]; exact h)|> fun ⟨i, hi, e2⟩ => ⟨i, hi, e2.trans e.symm⟩
        · exact ⟨j, by omega, e⟩
    · rw [List.mem_append, ih, List.mem_singleton]
      constructor
      · rintro (⟨j, hj, e⟩ | e)
        · exact ⟨j, by omega, e⟩
        · exact ⟨k, by omega, e.symm⟩
      · rintro ⟨j, hj, e⟩
        by_cases q : j = k
        · subst q; exact .inr e.symm
        · exact .inl ⟨j, by omega, e⟩
theorem keysOf_length {l : List Int} : ∀ k, (keysOf l k).length ≤ k
  | 0 => Nat.le_refl _
  | k + 1 => by
    have := keysOf_length (l := l) k
    rw [keysOf]; split
    · omega
    · rw [List.length_append, List.length_singleton]; omega
theorem keysOf_all {l : List Int} : ∀ k, (keysOf l k).length = k → k ≤ l.length → (l.take k).Nodup
  | 0 => fun _ _ => by simp
  | k + 1 => fun h hk => by
    have h1 := keysOf_length (l := l) k
    rw [keysOf] at h
    split at h
    · omega
    · rename_i hne
      rw [List.length_append, List.length_singleton] at h
      have ih := keysOf_all (l := l) k (by omega) (by omega)
      rw [take_snoc (d := (0 : Int)) (by omega), List.nodup_append]
      refine ⟨ih, by simp, fun a ha b hb => ?_⟩
      rw [List.mem_singleton] at hb
      subst hb
      rintro rfl
      refine hne ((keysOf_mem k).2 ?_)
      obtain ⟨j, hj, e⟩ := List.mem_iff_getElem.1 ha
      rw [List.length_take] at hj
      exact ⟨j, by omega, by rw [← e, List.getElem_take]; simp [List.getD, show j < l.length by omega]⟩
/-- The map of keys that are all true. -/
def kvT (l : List Int) : List D := kvD .i16 (l.map fun x => (x, D.v (.bool true)))
theorem kvT_nil : kvT [] = [] := (rfl)
theorem kvT_of (l : List Int) : kvOf .i16 (kvT l) = some (l.map fun x => (x, D.v (.bool true))) := kvOf_kvD _
theorem kvT_noRefs (l : List Int) : D.noRefs (kvT l) = true := by
  induction l with
  | nil => rfl
  | cons x l ih => simpa [kvT, kvD, D.noRefs, D.noRef] using ih
theorem kvT_find (a : Int) : ∀ l : List Int, kvFind a (l.map fun x => (x, D.v (.bool true))) = if a ∈ l then some (.v (.bool true)) else none
  | [] => by simp [kvFind]
  | b :: r => by
    have := kvT_find a r
    rw [List.map_cons, kvFind]
    by_cases h : a = b
    · rw [if_pos h, if_pos (by simp [h])]
    · rw [if_neg h, this]
      by_cases h2 : a ∈ r
      · rw [if_pos h2, if_pos (List.mem_cons_of_mem _ h2)]
      · rw [if_neg h2, if_neg (by simp [h, h2])]
theorem kvT_set (a : Int) : ∀ l : List Int, kvD .i16 (kvSet a (.v (.bool true)) (l.map fun x => (x, D.v (.bool true)))) = kvT (if a ∈ l then l else l ++ [a])
  | [] => by simp [kvSet, kvT]
  | b :: r => by
    have ih := kvT_set a r
    rw [List.map_cons, kvSet]
    by_cases h : a = b
    · rw [if_pos h, if_pos (by simp [h]), h]; rfl
    · rw [if_neg h, kvD, List.map_cons]
      rw [kvD] at ih
      rw [ih]
      by_cases h2 : a ∈ r
      · rw [if_pos h2, if_pos (List.mem_cons_of_mem _ h2)]; rfl
      · rw [if_neg h2, if_neg (by simp [h, h2])]; rfl
theorem kvT_step (l : List Int) (k : Nat) : kvD .i16 (kvSet (l.getD k 0) (.v (.bool true)) ((keysOf l k).map fun x => (x, D.v (.bool true)))) = kvT (keysOf l (k + 1)) := kvT_set _ _
end Go.Proofs.Ytpkampecmlpfmaa.T
