import Derived.Test.YtpkampecmlpfmaaECSlots
set_option linter.unusedSimpArgs false
set_option linter.unusedVariables false
/- Slots with one put or taken out, plainly. -/
namespace Go.Proofs.Ytpkampecmlpfmaa.T
open Go Go.VL Go.Proofs
theorem getDset {α : Type} {l : List α} {i j : Nat} {x d : α} (h : i < l.length) : (l.set j x).getD i d = if i = j then x else l.getD i d := by
  by_cases e : i = j
  · subst e; rw [if_pos rfl]; simp [List.getD, h]
  · rw [if_neg e]; simp only [List.getD]; rw [List.getElem?_set_ne (fun q => e q.symm)]
theorem look_set {a b d : Int} : ∀ l, lookN a (setN b d l) = if a = b then some d else lookN a l
  | [] => by simp only [setN, lookN]
  | (c, e) :: r => by
    have ih := look_set (a := a) (b := b) (d := d) r
    simp only [setN]
    by_cases h : b = c
    · rw [if_pos h]; simp only [lookN]; subst h; split <;> rfl
    · rw [if_neg h]; simp only [lookN]; rw [ih]
      by_cases h1 : a = c
      · rw [if_pos h1, if_pos h1, if_neg (fun q => h (by rw [← q, h1]))]
      · rw [if_neg h1, if_neg h1]
theorem dir_none {ids : List Int} {a : Int} : ∀ k, lookN a (dirN ids k) = none ↔ ∀ j, j < k → ids.getD j 0 = a → a = -1
  | 0 => ⟨fun _ j hj => absurd hj (Nat.not_lt_zero _), fun _ => rfl⟩
  | k + 1 => by
    have ih := dir_none (ids := ids) (a := a) k
    rw [dirN]
    by_cases h : ids.getD k 0 = -1
    · rw [if_pos h, ih]
      constructor
      · intro q j hj e
        by_cases hk : j < k
        · exact q j hk e
        · obtain rfl : j = k := by omega
          rw [← e, h]
      · exact fun q j hj => q j (by omega)
    · rw [if_neg h, look_set]
      by_cases h2 : a = ids.getD k 0
      · rw [if_pos h2]
        constructor
        · intro q; cases q
        · intro q; exact absurd (q k (by omega) h2.symm) (by rw [h2]; exact h)
      · rw [if_neg h2, ih]
        constructor
        · intro q j hj e
          by_cases hk : j < k
          · exact q j hk e
          · obtain rfl : j = k := by omega
            exact absurd e.symm h2
        · exact fun q j hj => q j (by omega)
theorem dir_some {ids : List Int} {a x : Int} : ∀ k, lookN a (dirN ids k) = some x → ∃ j : Nat, j < k ∧ x = j ∧ ids.getD j 0 = a ∧ a ≠ -1
  | 0 => fun h => by simp [dirN, lookN] at h
  | k + 1 => by
    have ih := dir_some (ids := ids) (a := a) (x := x) k
    rw [dirN]
    by_cases h : ids.getD k 0 = -1
    · rw [if_pos h]
      intro q
      obtain ⟨j, h1, h2⟩ := ih q
      exact ⟨j, by omega, h2⟩
    · rw [if_neg h, look_set]
      by_cases h2 : a = ids.getD k 0
      · rw [if_pos h2]
        intro q
        cases q
        exact ⟨k, by omega, rfl, h2.symm, by rw [h2]; exact h⟩
      · rw [if_neg h2]
        intro q
        obtain ⟨j, h1, h2⟩ := ih q
        exact ⟨j, by omega, h2⟩
theorem slots_set {dim : Int} {ids : List Int} {vecs : List (List Int)} {i : Nat} {id : Int} {v : List Int} (h : slotsOk dim ids vecs) (hi : i < ids.length)
    (hne : ∀ j, j < ids.length → j ≠ i → ids.getD j 0 = id → id = -1)
    (hn : (id = -1 ∧ v = []) ∨ ((0 ≤ id ∧ id ≤ 2147483647) ∧ vecErr v = 0 ∧ (v.length : Int) = dim)) : slotsOk dim (ids.set i id) (vecs.set i v) := by
  obtain ⟨h1, h2, h3, h4⟩ := h
  refine ⟨h1, by rw [List.length_set]; exact h2, by rw [List.length_set, List.length_set]; exact h3, ?_⟩
  intro k hk
  rw [List.length_set] at hk
  unfold slotOk
  have ev : (vecs.set i v).getD k [] = if k = i then v else vecs.getD k [] := getDset (by omega)
  have ei : (ids.set i id).getD k 0 = if k = i then id else ids.getD k 0 := getDset hk
  rw [ev, ei]
  by_cases hki : k = i
  · subst hki
    rw [if_pos rfl, if_pos rfl]
    rcases hn with ⟨n1, n2⟩ | ⟨n1, n2, n3⟩
    · exact .inl ⟨n1, by rw [n2]; rfl⟩
    · refine .inr ⟨(dir_none k).2 fun j hj e => ?_, n1, n2, n3⟩
      rw [getDset (by omega), if_neg (by omega)] at e
      exact hne j (by omega) (by omega) e
  · rw [if_neg hki, if_neg hki]
    rcases h4 k hk with q | ⟨q1, q2, q3, q4⟩
    · exact .inl q
    · refine .inr ⟨(dir_none k).2 fun j hj e => ?_, q2, q3, q4⟩
      rw [getDset (by omega)] at e
      by_cases hji : j = i
      · rw [if_pos hji] at e
        have := hne k hk hki e.symm
        omega
      · rw [if_neg hji] at e
        exact (dir_none k).1 q1 j hj e
theorem slots_ids {dim : Int} {ids : List Int} {vecs : List (List Int)} (h : slotsOk dim ids vecs) {i j : Nat} (hij : i < j) (hj : j < ids.length) (e : ids.getD i 0 = ids.getD j 0) : ids.getD j 0 = -1 := by
  rcases h.2.2.2 j hj with ⟨q, _⟩ | ⟨q, _⟩
  · exact q
  · exact (dir_none j).1 q i hij e
/-- The first place of a number; -1: none. -/
def idxI (l : List Int) (a : Int) : Int := match l.findIdx? (· == a) with | some i => i | none => -1
theorem idx_hit {l : List Int} {a : Int} {k : Nat} (hk : k < l.length) (h : l.getD k 0 = a) (hn : ∀ j, j < k → l.getD j 0 ≠ a) : idxI l a = k := by
  have : l.findIdx? (· == a) = some k := by
    rw [List.findIdx?_eq_some_iff_getElem]
    refine ⟨hk, ?_, fun j hj => ?_⟩
    · rw [← h]; simp [List.getD, hk]
    · have := hn j hj
      simp only [List.getD, List.getElem?_eq_getElem (show j < l.length by omega), Option.getD_some] at this
      simpa using this
  unfold idxI; rw [this]
theorem idx_miss {l : List Int} {a : Int} (hn : ∀ j, j < l.length → l.getD j 0 ≠ a) : idxI l a = -1 := by
  have : l.findIdx? (· == a) = none := by
    rw [List.findIdx?_eq_none_iff]
    intro x hx
    obtain ⟨j, hj, rfl⟩ := List.mem_iff_getElem.1 hx
    have := hn j hj
    simp only [List.getD, List.getElem?_eq_getElem hj, Option.getD_some] at this
    simpa using this
  unfold idxI; rw [this]
theorem idx_cases (l : List Int) (a : Int) : (∃ k : Nat, k < l.length ∧ idxI l a = k ∧ l.getD k 0 = a ∧ ∀ j, j < k → l.getD j 0 ≠ a) ∨ (idxI l a = -1 ∧ ∀ j, j < l.length → l.getD j 0 ≠ a) := by
  by_cases h : ∃ k, k < l.length ∧ l.getD k 0 = a
  · left
    have : ∃ k, (k < l.length ∧ l.getD k 0 = a) ∧ ∀ j, j < k → ¬ (j < l.length ∧ l.getD j 0 = a) := by
      obtain ⟨k, hk⟩ := h
      induction k using Nat.strongRecOn with
      | _ k ih =>
        by_cases q : ∃ j, j < k ∧ (j < l.length ∧ l.getD j 0 = a)
        · obtain ⟨j, hj, hj2⟩ := q
          exact ih j hj hj2
        · exact ⟨k, hk, fun j hj e => q ⟨j, hj, e⟩⟩
    obtain ⟨k, ⟨h1, h2⟩, h3⟩ := this
    have h4 : ∀ j, j < k → l.getD j 0 ≠ a := fun j hj e => h3 j hj ⟨by omega, e⟩
    exact ⟨k, h1, idx_hit h1 h2 h4, h2, h4⟩
  · right
    have h4 : ∀ j, j < l.length → l.getD j 0 ≠ a := fun j hj e => h ⟨j, hj, e⟩
    exact ⟨idx_miss h4, h4⟩
def idOk (id : Int) : Prop := 0 ≤ id ∧ id ≤ 2147483647
instance (id : Int) : Decidable (idOk id) := by unfold idOk; infer_instance
def dirAt (ids : List Int) (id : Int) : Option Int := lookN id (dirN ids ids.length)
def findE (dim : Int) (ids : List Int) (vecs : List (List Int)) (id : Int) : Int := if slotsOk dim ids vecs ∧ idOk id then (if (dirAt ids id).isSome then 0 else 5) else 1
def findI (dim : Int) (ids : List Int) (vecs : List (List Int)) (id : Int) : Int := if slotsOk dim ids vecs ∧ idOk id then (dirAt ids id).getD 0 else 0
def putE (dim : Int) (ids : List Int) (vecs : List (List Int)) (id : Int) (v : List Int) : Int :=
  if findE dim ids vecs id = 1 ∨ ¬ (vecErr v = 0 ∧ (v.length : Int) = dim) then 1 else if findE dim ids vecs id = 5 ∧ idxI ids (-1) < 0 then 7 else 0
def putI (dim : Int) (ids : List Int) (vecs : List (List Int)) (id : Int) (v : List Int) : Int :=
  if putE dim ids vecs id v = 0 then (if findE dim ids vecs id = 5 then idxI ids (-1) else findI dim ids vecs id) else 0
theorem find_zero {dim : Int} {ids : List Int} {vecs : List (List Int)} {id : Int} (h : findE dim ids vecs id = 0) :
    slotsOk dim ids vecs ∧ idOk id ∧ ∃ j : Nat, j < ids.length ∧ findI dim ids vecs id = j ∧ ids.getD j 0 = id := by
  unfold findE at h
  split at h
  · rename_i ok
    split at h
    · rename_i s
      obtain ⟨x, hx⟩ := Option.isSome_iff_exists.1 s
      obtain ⟨j, h1, h2, h3, _⟩ := dir_some _ hx
      refine ⟨ok.1, ok.2, j, h1, ?_, h3⟩
      unfold findI
      rw [if_pos ok, hx, ← h2]; rfl
    · cases h
  · cases h
theorem find_five {dim : Int} {ids : List Int} {vecs : List (List Int)} {id : Int} (h : findE dim ids vecs id = 5) :
    slotsOk dim ids vecs ∧ idOk id ∧ ∀ j, j < ids.length → ids.getD j 0 ≠ id := by
  unfold findE at h
  split at h
  · rename_i ok
    split at h
    · cases h
    · rename_i s
      have hn : dirAt ids id = none := by
        cases e : dirAt ids id with
        | none => rfl
        | some x => rw [e] at s; exact absurd rfl s
      refine ⟨ok.1, ok.2, fun j hj e => ?_⟩
      have := (dir_none _).1 hn j hj e
      have := ok.2.1
      omega
  · cases h
theorem find_cases (dim : Int) (ids : List Int) (vecs : List (List Int)) (id : Int) : findE dim ids vecs id = 0 ∨ findE dim ids vecs id = 1 ∨ findE dim ids vecs id = 5 := by
  unfold findE; split
  · split
    · exact .inl rfl
    · exact .inr (.inr rfl)
  · exact .inr (.inl rfl)
/-- What is put comes into a slot, and the slots may be. -/
theorem put_zero {dim : Int} {ids : List Int} {vecs : List (List Int)} {id : Int} {v : List Int} (h : putE dim ids vecs id v = 0) :
    slotsOk dim ids vecs ∧ idOk id ∧ ∃ i : Nat, i < ids.length ∧ putI dim ids vecs id v = i ∧ slotsOk dim (ids.set i id) (vecs.set i v) ∧ (ids.getD i 0 = id ∨ ids.getD i 0 = -1 ∧ ∀ j, j < ids.length → ids.getD j 0 ≠ id) := by
  have h0 := h
  unfold putE at h
  split at h
  · cases h
  · rename_i n1
    split at h
    · cases h
    · rename_i n2
      have hv : vecErr v = 0 ∧ (v.length : Int) = dim := by
        by_cases q : vecErr v = 0 ∧ (v.length : Int) = dim
        · exact q
        · exact absurd (.inr q) n1
      rcases find_cases dim ids vecs id with f | f | f
      · obtain ⟨s1, s2, j, j1, j2, j3⟩ := find_zero f
        refine ⟨s1, s2, j, j1, ?_, slots_set s1 j1 (fun k hk hkj e => ?_) (.inr ⟨s2, hv⟩), .inl j3⟩
        · unfold putI; rw [if_pos h0, if_neg (by rw [f]; decide), j2]
        · by_cases q : k < j
          · rw [← j3]; exact slots_ids s1 q j1 (by rw [e, j3])
          · rw [← e]; exact slots_ids s1 (show j < k by omega) hk (by rw [e, j3])
      · exact absurd (.inl f) n1
      · obtain ⟨s1, s2, s3⟩ := find_five f
        rcases idx_cases ids (-1) with ⟨k, k1, k2, k3, k4⟩ | ⟨k1, k2⟩
        · refine ⟨s1, s2, k, k1, ?_, slots_set s1 k1 (fun j hj _ e => absurd e (s3 j hj)) (.inr ⟨s2, hv⟩), .inr ⟨k3, s3⟩⟩
          unfold putI; rw [if_pos h0, if_pos f, k2]
        · exact absurd ⟨f, by rw [k1]; decide⟩ n2
theorem del_zero {dim : Int} {ids : List Int} {vecs : List (List Int)} {id : Int} (h : findE dim ids vecs id = 0) :
    ∃ i : Nat, i < ids.length ∧ findI dim ids vecs id = i ∧ ids.getD i 0 = id ∧ slotsOk dim (ids.set i (-1)) (vecs.set i []) := by
  obtain ⟨s1, s2, j, j1, j2, j3⟩ := find_zero h
  exact ⟨j, j1, j2, j3, slots_set s1 j1 (fun k hk hkj e => rfl) (.inl ⟨rfl, rfl⟩)⟩
theorem find_at {dim : Int} {ids : List Int} {vecs : List (List Int)} {i : Nat} {id : Int} (hs : slotsOk dim ids vecs) (hid : idOk id) (hi : i < ids.length) (e : ids.getD i 0 = id) : findE dim ids vecs id = 0 ∧ findI dim ids vecs id = i := by
  unfold findE findI
  have ok : slotsOk dim ids vecs ∧ idOk id := ⟨hs, hid⟩
  rw [if_pos ok, if_pos ok]
  cases hd : dirAt ids id with
  | none =>
    have := (dir_none _).1 hd i hi e
    have := hid.1
    omega
  | some x =>
    obtain ⟨j, h1, h2, h3, h4⟩ := dir_some _ hd
    refine ⟨rfl, ?_⟩
    show x = i
    rw [h2]
    by_cases q : i < j
    · exact absurd (slots_ids hs q h1 (by rw [e, h3])) (by rw [h3]; exact h4)
    · by_cases q2 : j < i
      · exact absurd (slots_ids hs q2 hi (by rw [e, h3])) (by rw [e]; exact h4)
      · have : i = j := by omega
        rw [this]
theorem put_find {dim : Int} {ids : List Int} {vecs : List (List Int)} {id : Int} {v : List Int} (h : putE dim ids vecs id v = 0) :
    ∃ i : Nat, i < ids.length ∧ putI dim ids vecs id v = i ∧ findE dim (ids.set i id) (vecs.set i v) id = 0 ∧ findI dim (ids.set i id) (vecs.set i v) id = i := by
  obtain ⟨s1, s2, i, i1, i2, i3, _⟩ := put_zero h
  exact ⟨i, i1, i2, find_at i3 s2 (by simpa using i1) (by rw [getDset i1, if_pos rfl])⟩
/-- The first slot from so many behind on in which nobody is. -/
def firstF (ids : List Int) : Nat → Int
  | 0 => -1
  | k + 1 => if ids.getD (ids.length - 1 - k) 0 = -1 then ((ids.length - 1 - k : Nat) : Int) else firstF ids k
theorem firstF_spec {ids : List Int} : ∀ k, k ≤ ids.length → (firstF ids k = -1 ∧ ∀ j, ids.length - k ≤ j → j < ids.length → ids.getD j 0 ≠ -1) ∨
    (∃ i : Nat, firstF ids k = i ∧ ids.length - k ≤ i ∧ i < ids.length ∧ ids.getD i 0 = -1 ∧ ∀ j, ids.length - k ≤ j → j < i → ids.getD j 0 ≠ -1)
  | 0, _ => .inl ⟨rfl, fun j h1 h2 => by omega⟩
  | k + 1, h => by
    by_cases q : ids.getD (ids.length - 1 - k) 0 = -1
    · exact .inr ⟨ids.length - 1 - k, if_pos q, by omega, by omega, q, fun j h1 h2 => by omega⟩
    · have e : firstF ids (k + 1) = firstF ids k := if_neg q
      rw [e]
      rcases firstF_spec (ids := ids) k (by omega) with ⟨h1, h2⟩ | ⟨i, h1, h2, h3, h4, h5⟩
      · refine .inl ⟨h1, fun j j1 j2 => ?_⟩
        by_cases r : j = ids.length - 1 - k
        · rw [r]; exact q
        · exact h2 j (by omega) j2
      · refine .inr ⟨i, h1, by omega, h3, h4, fun j j1 j2 => ?_⟩
        by_cases r : j = ids.length - 1 - k
        · rw [r]; exact q
        · exact h5 j (by omega) j2
theorem firstF_all {ids : List Int} : firstF ids ids.length = idxI ids (-1) := by
  rcases firstF_spec (ids := ids) ids.length (Nat.le_refl _) with ⟨h1, h2⟩ | ⟨i, h1, _, h3, h4, h5⟩
  · rw [h1, idx_miss fun j hj => h2 j (by omega) hj]
  · rw [h1, idx_hit h3 h4 fun j hj => h5 j (by omega) hj]
/-- What is put of its own changes nothing. -/
theorem put_own {dim : Int} {ids : List Int} {vecs : List (List Int)} {id : Int} (h : findE dim ids vecs id = 0) :
    ∃ i : Nat, i < ids.length ∧ vecs.length = ids.length ∧ findI dim ids vecs id = i ∧ putE dim ids vecs id (vecs.getD i []) = 0 ∧ putI dim ids vecs id (vecs.getD i []) = i ∧ ids.set i id = ids ∧ vecs.set i (vecs.getD i []) = vecs := by
  obtain ⟨s1, s2, i, i1, i2, i3⟩ := find_zero h
  have hv : vecErr (vecs.getD i []) = 0 ∧ ((vecs.getD i []).length : Int) = dim := by
    rcases s1.2.2.2 i i1 with ⟨q, _⟩ | ⟨_, _, q1, q2⟩
    · have := s2.1; omega
    · exact ⟨q1, q2⟩
  have hE : putE dim ids vecs id (vecs.getD i []) = 0 := by
    unfold putE
    rw [if_neg (fun q => q.elim (fun q => by rw [h] at q; cases q) (fun q => q hv)), if_neg (fun q => by rw [h] at q; cases q.1)]
  refine ⟨i, i1, s1.2.2.1, i2, hE, ?_, ?_, ?_⟩
  · unfold putI; rw [if_pos hE, if_neg (by rw [h]; decide), i2]
  · rw [← i3]
    have : ids.getD i 0 = ids[i] := by simp [List.getD, i1]
    rw [this]; exact List.set_getElem_self i1
  · have h2 : i < vecs.length := by rw [s1.2.2.1]; exact i1
    have : vecs.getD i [] = vecs[i] := by simp [List.getD, h2]
    rw [this]; exact List.set_getElem_self h2
/-- What is put anew, and taken out, is as it was. -/
theorem put_del {dim : Int} {ids : List Int} {vecs : List (List Int)} {id : Int} {v : List Int} (h : putE dim ids vecs id v = 0) (hf : findE dim ids vecs id ≠ 0) :
    ∃ i : Nat, i < ids.length ∧ putI dim ids vecs id v = i ∧ findE dim ids vecs id = 5 ∧ findE dim (ids.set i id) (vecs.set i v) id = 0 ∧ findI dim (ids.set i id) (vecs.set i v) id = i ∧ (ids.set i id).set i (-1) = ids ∧ (vecs.set i v).set i [] = vecs := by
  obtain ⟨s1, s2, i, i1, i2, i3, i4⟩ := put_zero h
  have h5 : findE dim ids vecs id = 5 := by
    rcases find_cases dim ids vecs id with q | q | q
    · exact absurd q hf
    · unfold putE at h; rw [if_pos (.inl q)] at h; cases h
    · exact q
  have hn : ids.getD i 0 = -1 := by
    rcases i4 with q | ⟨q, _⟩
    · exact absurd q ((find_five h5).2.2 i i1)
    · exact q
  have hz : vecs.getD i [] = [] := by
    rcases s1.2.2.2 i i1 with ⟨_, q⟩ | ⟨_, ⟨q, _⟩, _⟩
    · exact List.length_eq_zero_iff.1 q
    · omega
  obtain ⟨f1, f2⟩ := find_at i3 s2 (by simpa using i1) (by rw [getDset i1, if_pos rfl])
  have h2 : i < vecs.length := by rw [s1.2.2.1]; exact i1
  refine ⟨i, i1, i2, h5, f1, f2, ?_, ?_⟩
  · rw [List.set_set, ← hn]
    have : ids.getD i 0 = ids[i] := by simp [List.getD, i1]
    rw [this]; exact List.set_getElem_self i1
  · rw [List.set_set]
    have : vecs.getD i [] = vecs[i] := by simp [List.getD, h2]
    rw [this] at hz
    rw [← hz]; exact List.set_getElem_self h2
end Go.Proofs.Ytpkampecmlpfmaa.T
