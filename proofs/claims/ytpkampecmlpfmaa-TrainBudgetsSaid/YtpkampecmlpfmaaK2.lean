import Derived.Test.YtpkampecmlpfmaaK1
section
set_option linter.unusedSimpArgs false
set_option linter.unusedVariables false
/- Slots with one put or taken out, plainly. -/
namespace Go.Proofs.Ytpkampecmlpfmaa.T
open Go Go.VL Go.Proofs
theorem getDset {α : Type} {l : List α} {i j : Nat} {x d : α} (h : i < l.length) : (l.set j x).getD i d = if i = j then x else l.getD i d := by
  by_cases e : i = j
  · subst e; rw [if_pos rfl]; simp [List.getD, h]
  · rw [if_neg e]; simp only [List.getD]; rw [List.getElem?_set_ne (fun q => e q.symm)]
theorem look_set {a b d : Int} : ∀ l, lookN a (setN b d l) = if a = b then some d else lookN a l
  | [] => by simp only [setN, lookN]
  | (c, e) :: r => by
    have ih := look_set (a := a) (b := b) (d := d) r
    simp only [setN]
    by_cases h : b = c
    · rw [if_pos h]; simp only [lookN]; subst h; split <;> rfl
    · rw [if_neg h]; simp only [lookN]; rw [ih]
      by_cases h1 : a = c
      · rw [if_pos h1, if_pos h1, if_neg (fun q => h (by rw [← q, h1]))]
      · rw [if_neg h1, if_neg h1]
theorem dir_none {ids : List Int} {a : Int} : ∀ k, lookN a (dirN ids k) = none ↔ ∀ j, j < k → ids.getD j 0 = a → a = -1
  | 0 => ⟨fun _ j hj => absurd hj (Nat.not_lt_zero _), fun _ => rfl⟩
  | k + 1 => by
    have ih := dir_none (ids := ids) (a := a) k
    rw [dirN]
    by_cases h : ids.getD k 0 = -1
    · rw [if_pos h, ih]
      constructor
      · intro q j hj e
        by_cases hk : j < k
        · exact q j hk e
        · obtain rfl : j = k := by omega
          rw [← e, h]
      · exact fun q j hj => q j (by omega)
    · rw [if_neg h, look_set]
      by_cases h2 : a = ids.getD k 0
      · rw [if_pos h2]
        constructor
        · intro q; cases q
        · intro q; exact absurd (q k (by omega) h2.symm) (by rw [h2]; exact h)
      · rw [if_neg h2, ih]
        constructor
        · intro q j hj e
          by_cases hk : j < k
          · exact q j hk e
          · obtain rfl : j = k := by omega
            exact absurd e.symm h2
        · exact fun q j hj => q j (by omega)
theorem dir_some {ids : List Int} {a x : Int} : ∀ k, lookN a (dirN ids k) = some x → ∃ j : Nat, j < k ∧ x = j ∧ ids.getD j 0 = a ∧ a ≠ -1
  | 0 => fun h => by simp [dirN, lookN] at h
  | k + 1 => by
    have ih := dir_some (ids := ids) (a := a) (x := x) k
    rw [dirN]
    by_cases h : ids.getD k 0 = -1
    · rw [if_pos h]
      intro q
      obtain ⟨j, h1, h2⟩ := ih q
      exact ⟨j, by omega, h2⟩
    · rw [if_neg h, look_set]
      by_cases h2 : a = ids.getD k 0
      · rw [if_pos h2]
        intro q
        cases q
        exact ⟨k, by omega, rfl, h2.symm, by rw [h2]; exact h⟩
      · rw [if_neg h2]
        intro q
        obtain ⟨j, h1, h2⟩ := ih q
        exact ⟨j, by omega, h2⟩
theorem slots_set {dim : Int} {ids : List Int} {vecs : List (List Int)} {i : Nat} {id : Int} {v : List Int} (h : slotsOk dim ids vecs) (hi : i < ids.length)
    (hne : ∀ j, j < ids.length → j ≠ i → ids.getD j 0 = id → id = -1)
    (hn : (id = -1 ∧ v = []) ∨ ((0 ≤ id ∧ id ≤ 2147483647) ∧ vecErr v = 0 ∧ (v.length : Int) = dim)) : slotsOk dim (ids.set i id) (vecs.set i v) := by
  obtain ⟨h1, h2, h3, h4⟩ := h
  refine ⟨h1, by rw [List.length_set]; exact h2, by rw [List.length_set, List.length_set]; exact h3, ?_⟩
  intro k hk
  rw [List.length_set] at hk
  unfold slotOk
  have ev : (vecs.set i v).getD k [] = if k = i then v else vecs.getD k [] := getDset (by omega)
  have ei : (ids.set i id).getD k 0 = if k = i then id else ids.getD k 0 := getDset hk
  rw [ev, ei]
  by_cases hki : k = i
  · subst hki
    rw [if_pos rfl, if_pos rfl]
    rcases hn with ⟨n1, n2⟩ | ⟨n1, n2, n3⟩
    · exact .inl ⟨n1, by rw [n2]; rfl⟩
    · refine .inr ⟨(dir_none k).2 fun j hj e => ?_, n1, n2, n3⟩
      rw [getDset (by omega), if_neg (by omega)] at e
      exact hne j (by omega) (by omega) e
  · rw [if_neg hki, if_neg hki]
    rcases h4 k hk with q | ⟨q1, q2, q3, q4⟩
    · exact .inl q
    · refine .inr ⟨(dir_none k).2 fun j hj e => ?_, q2, q3, q4⟩
      rw [getDset (by omega)] at e
      by_cases hji : j = i
      · rw [if_pos hji] at e
        have := hne k hk hki e.symm
        omega
      · rw [if_neg hji] at e
        exact (dir_none k).1 q1 j hj e
theorem slots_ids {dim : Int} {ids : List Int} {vecs : List (List Int)} (h : slotsOk dim ids vecs) {i j : Nat} (hij : i < j) (hj : j < ids.length) (e : ids.getD i 0 = ids.getD j 0) : ids.getD j 0 = -1 := by
  rcases h.2.2.2 j hj with ⟨q, _⟩ | ⟨q, _⟩
  · exact q
  · exact (dir_none j).1 q i hij e
/-- The first place of a number; -1: none. -/
def idxI (l : List Int) (a : Int) : Int := match l.findIdx? (· == a) with | some i => i | none => -1
theorem idx_hit {l : List Int} {a : Int} {k : Nat} (hk : k < l.length) (h : l.getD k 0 = a) (hn : ∀ j, j < k → l.getD j 0 ≠ a) : idxI l a = k := by
  have : l.findIdx? (· == a) = some k := by
    rw [List.findIdx?_eq_some_iff_getElem]
    refine ⟨hk, ?_, fun j hj => ?_⟩
    · rw [← h]; simp [List.getD, hk]
    · have := hn j hj
      simp only [List.getD, List.getElem?_eq_getElem (show j < l.length by omega), Option.getD_some] at this
      simpa using this
  unfold idxI; rw [this]
theorem idx_miss {l : List Int} {a : Int} (hn : ∀ j, j < l.length → l.getD j 0 ≠ a) : idxI l a = -1 := by
  have : l.findIdx? (· == a) = none := by
    rw [List.findIdx?_eq_none_iff]
    intro x hx
    obtain ⟨j, hj, rfl⟩ := List.mem_iff_getElem.1 hx
    have := hn j hj
    simp only [List.getD, List.getElem?_eq_getElem hj, Option.getD_some] at this
    simpa using this
  unfold idxI; rw [this]
theorem idx_cases (l : List Int) (a : Int) : (∃ k : Nat, k < l.length ∧ idxI l a = k ∧ l.getD k 0 = a ∧ ∀ j, j < k → l.getD j 0 ≠ a) ∨ (idxI l a = -1 ∧ ∀ j, j < l.length → l.getD j 0 ≠ a) := by
  by_cases h : ∃ k, k < l.length ∧ l.getD k 0 = a
  · left
    have : ∃ k, (k < l.length ∧ l.getD k 0 = a) ∧ ∀ j, j < k → ¬ (j < l.length ∧ l.getD j 0 = a) := by
      obtain ⟨k, hk⟩ := h
      induction k using Nat.strongRecOn with
      | _ k ih =>
        by_cases q : ∃ j, j < k ∧ (j < l.length ∧ l.getD j 0 = a)
        · obtain ⟨j, hj, hj2⟩ := q
          exact ih j hj hj2
        · exact ⟨k, hk, fun j hj e => q ⟨j, hj, e⟩⟩
    obtain ⟨k, ⟨h1, h2⟩, h3⟩ := this
    have h4 : ∀ j, j < k → l.getD j 0 ≠ a := fun j hj e => h3 j hj ⟨by omega, e⟩
    exact ⟨k, h1, idx_hit h1 h2 h4, h2, h4⟩
  · right
    have h4 : ∀ j, j < l.length → l.getD j 0 ≠ a := fun j hj e => h ⟨j, hj, e⟩
    exact ⟨idx_miss h4, h4⟩
def idOk (id : Int) : Prop := 0 ≤ id ∧ id ≤ 2147483647
instance (id : Int) : Decidable (idOk id) := by unfold idOk; infer_instance
def dirAt (ids : List Int) (id : Int) : Option Int := lookN id (dirN ids ids.length)
def findE (dim : Int) (ids : List Int) (vecs : List (List Int)) (id : Int) : Int := if slotsOk dim ids vecs ∧ idOk id then (if (dirAt ids id).isSome then 0 else 5) else 1
def findI (dim : Int) (ids : List Int) (vecs : List (List Int)) (id : Int) : Int := if slotsOk dim ids vecs ∧ idOk id then (dirAt ids id).getD 0 else 0
def putE (dim : Int) (ids : List Int) (vecs : List (List Int)) (id : Int) (v : List Int) : Int :=
  if findE dim ids vecs id = 1 ∨ ¬ (vecErr v = 0 ∧ (v.length : Int) = dim) then 1 else if findE dim ids vecs id = 5 ∧ idxI ids (-1) < 0 then 7 else 0
def putI (dim : Int) (ids : List Int) (vecs : List (List Int)) (id : Int) (v : List Int) : Int :=
  if putE dim ids vecs id v = 0 then (if findE dim ids vecs id = 5 then idxI ids (-1) else findI dim ids vecs id) else 0
theorem find_zero {dim : Int} {ids : List Int} {vecs : List (List Int)} {id : Int} (h : findE dim ids vecs id = 0) :
    slotsOk dim ids vecs ∧ idOk id ∧ ∃ j : Nat, j < ids.length ∧ findI dim ids vecs id = j ∧ ids.getD j 0 = id := by
  unfold findE at h
  split at h
  · rename_i ok
    split at h
    · rename_i s
      obtain ⟨x, hx⟩ := Option.isSome_iff_exists.1 s
      obtain ⟨j, h1, h2, h3, _⟩ := dir_some _ hx
      refine ⟨ok.1, ok.2, j, h1, ?_, h3⟩
      unfold findI
      rw [if_pos ok, hx, ← h2]; rfl
    · cases h
  · cases h
theorem find_five {dim : Int} {ids : List Int} {vecs : List (List Int)} {id : Int} (h : findE dim ids vecs id = 5) :
    slotsOk dim ids vecs ∧ idOk id ∧ ∀ j, j < ids.length → ids.getD j 0 ≠ id := by
  unfold findE at h
  split at h
  · rename_i ok
    split at h
    · cases h
    · rename_i s
      have hn : dirAt ids id = none := by
        cases e : dirAt ids id with
        | none => rfl
        | some x => rw [e] at s; exact absurd rfl s
      refine ⟨ok.1, ok.2, fun j hj e => ?_⟩
      have := (dir_none _).1 hn j hj e
      have := ok.2.1
      omega
  · cases h
theorem find_cases (dim : Int) (ids : List Int) (vecs : List (List Int)) (id : Int) : findE dim ids vecs id = 0 ∨ findE dim ids vecs id = 1 ∨ findE dim ids vecs id = 5 := by
  unfold findE; split
  · split
    · exact .inl rfl
    · exact .inr (.inr rfl)
  · exact .inr (.inl rfl)
/-- What is put comes into a slot, and the slots may be. -/
theorem put_zero {dim : Int} {ids : List Int} {vecs : List (List Int)} {id : Int} {v : List Int} (h : putE dim ids vecs id v = 0) :
    slotsOk dim ids vecs ∧ idOk id ∧ ∃ i : Nat, i < ids.length ∧ putI dim ids vecs id v = i ∧ slotsOk dim (ids.set i id) (vecs.set i v) ∧ (ids.getD i 0 = id ∨ ids.getD i 0 = -1 ∧ ∀ j, j < ids.length → ids.getD j 0 ≠ id) := by
  have h0 := h
  unfold putE at h
  split at h
  · cases h
  · rename_i n1
    split at h
    · cases h
    · rename_i n2
      have hv : vecErr v = 0 ∧ (v.length : Int) = dim := by
        by_cases q : vecErr v = 0 ∧ (v.length : Int) = dim
        · exact q
        · exact absurd (.inr q) n1
      rcases find_cases dim ids vecs id with f | f | f
      · obtain ⟨s1, s2, j, j1, j2, j3⟩ := find_zero f
        refine ⟨s1, s2, j, j1, ?_, slots_set s1 j1 (fun k hk hkj e => ?_) (.inr ⟨s2, hv⟩), .inl j3⟩
        · unfold putI; rw [if_pos h0, if_neg (by rw [f]; decide), j2]
        · by_cases q : k < j
          · rw [← j3]; exact slots_ids s1 q j1 (by rw [e, j3])
          · rw [← e]; exact slots_ids s1 (show j < k by omega) hk (by rw [e, j3])
      · exact absurd (.inl f) n1
      · obtain ⟨s1, s2, s3⟩ := find_five f
        rcases idx_cases ids (-1) with ⟨k, k1, k2, k3, k4⟩ | ⟨k1, k2⟩
        · refine ⟨s1, s2, k, k1, ?_, slots_set s1 k1 (fun j hj _ e => absurd e (s3 j hj)) (.inr ⟨s2, hv⟩), .inr ⟨k3, s3⟩⟩
          unfold putI; rw [if_pos h0, if_pos f, k2]
        · exact absurd ⟨f, by rw [k1]; decide⟩ n2
theorem del_zero {dim : Int} {ids : List Int} {vecs : List (List Int)} {id : Int} (h : findE dim ids vecs id = 0) :
    ∃ i : Nat, i < ids.length ∧ findI dim ids vecs id = i ∧ ids.getD i 0 = id ∧ slotsOk dim (ids.set i (-1)) (vecs.set i []) := by
  obtain ⟨s1, s2, j, j1, j2, j3⟩ := find_zero h
  exact ⟨j, j1, j2, j3, slots_set s1 j1 (fun k hk hkj e => rfl) (.inl ⟨rfl, rfl⟩)⟩
theorem find_at {dim : Int} {ids : List Int} {vecs : List (List Int)} {i : Nat} {id : Int} (hs : slotsOk dim ids vecs) (hid : idOk id) (hi : i < ids.length) (e : ids.getD i 0 = id) : findE dim ids vecs id = 0 ∧ findI dim ids vecs id = i := by
  unfold findE findI
  have ok : slotsOk dim ids vecs ∧ idOk id := ⟨hs, hid⟩
  rw [if_pos ok, if_pos ok]
  cases hd : dirAt ids id with
  | none =>
    have := (dir_none _).1 hd i hi e
    have := hid.1
    omega
  | some x =>
    obtain ⟨j, h1, h2, h3, h4⟩ := dir_some _ hd
    refine ⟨rfl, ?_⟩
    show x = i
    rw [h2]
    by_cases q : i < j
    · exact absurd (slots_ids hs q h1 (by rw [e, h3])) (by rw [h3]; exact h4)
    · by_cases q2 : j < i
      · exact absurd (slots_ids hs q2 hi (by rw [e, h3])) (by rw [e]; exact h4)
      · have : i = j := by omega
        rw [this]
theorem put_find {dim : Int} {ids : List Int} {vecs : List (List Int)} {id : Int} {v : List Int} (h : putE dim ids vecs id v = 0) :
    ∃ i : Nat, i < ids.length ∧ putI dim ids vecs id v = i ∧ findE dim (ids.set i id) (vecs.set i v) id = 0 ∧ findI dim (ids.set i id) (vecs.set i v) id = i := by
  obtain ⟨s1, s2, i, i1, i2, i3, _⟩ := put_zero h
  exact ⟨i, i1, i2, find_at i3 s2 (by simpa using i1) (by rw [getDset i1, if_pos rfl])⟩
/-- The first slot from so many behind on in which nobody is. -/
def firstF (ids : List Int) : Nat → Int
  | 0 => -1
  | k + 1 => if ids.getD (ids.length - 1 - k) 0 = -1 then ((ids.length - 1 - k : Nat) : Int) else firstF ids k
theorem firstF_spec {ids : List Int} : ∀ k, k ≤ ids.length → (firstF ids k = -1 ∧ ∀ j, ids.length - k ≤ j → j < ids.length → ids.getD j 0 ≠ -1) ∨
    (∃ i : Nat, firstF ids k = i ∧ ids.length - k ≤ i ∧ i < ids.length ∧ ids.getD i 0 = -1 ∧ ∀ j, ids.length - k ≤ j → j < i → ids.getD j 0 ≠ -1)
  | 0, _ => .inl ⟨rfl, fun j h1 h2 => by omega⟩
  | k + 1, h => by
    by_cases q : ids.getD (ids.length - 1 - k) 0 = -1
    · exact .inr ⟨ids.length - 1 - k, if_pos q, by omega, by omega, q, fun j h1 h2 => by omega⟩
    · have e : firstF ids (k + 1) = firstF ids k := if_neg q
      rw [e]
      rcases firstF_spec (ids := ids) k (by omega) with ⟨h1, h2⟩ | ⟨i, h1, h2, h3, h4, h5⟩
      · refine .inl ⟨h1, fun j j1 j2 => ?_⟩
        by_cases r : j = ids.length - 1 - k
        · rw [r]; exact q
        · exact h2 j (by omega) j2
      · refine .inr ⟨i, h1, by omega, h3, h4, fun j j1 j2 => ?_⟩
        by_cases r : j = ids.length - 1 - k
        · rw [r]; exact q
        · exact h5 j (by omega) j2
theorem firstF_all {ids : List Int} : firstF ids ids.length = idxI ids (-1) := by
  rcases firstF_spec (ids := ids) ids.length (Nat.le_refl _) with ⟨h1, h2⟩ | ⟨i, h1, _, h3, h4, h5⟩
  · rw [h1, idx_miss fun j hj => h2 j (by omega) hj]
  · rw [h1, idx_hit h3 h4 fun j hj => h5 j (by omega) hj]
/-- What is put of its own changes nothing. -/
theorem put_own {dim : Int} {ids : List Int} {vecs : List (List Int)} {id : Int} (h : findE dim ids vecs id = 0) :
    ∃ i : Nat, i < ids.length ∧ vecs.length = ids.length ∧ findI dim ids vecs id = i ∧ putE dim ids vecs id (vecs.getD i []) = 0 ∧ putI dim ids vecs id (vecs.getD i []) = i ∧ ids.set i id = ids ∧ vecs.set i (vecs.getD i []) = vecs := by
  obtain ⟨s1, s2, i, i1, i2, i3⟩ := find_zero h
  have hv : vecErr (vecs.getD i []) = 0 ∧ ((vecs.getD i []).length : Int) = dim := by
    rcases s1.2.2.2 i i1 with ⟨q, _⟩ | ⟨_, _, q1, q2⟩
    · have := s2.1; omega
    · exact ⟨q1, q2⟩
  have hE : putE dim ids vecs id (vecs.getD i []) = 0 := by
    unfold putE
    rw [if_neg (fun q => q.elim (fun q => by rw [h] at q; cases q) (fun q => q hv)), if_neg (fun q => by rw [h] at q; cases q.1)]
  refine ⟨i, i1, s1.2.2.1, i2, hE, ?_, ?_, ?_⟩
  · unfold putI; rw [if_pos hE, if_neg (by rw [h]; decide), i2]
  · rw [← i3]
    have : ids.getD i 0 = ids[i] := by simp [List.getD, i1]
    rw [this]; exact List.set_getElem_self i1
  · have h2 : i < vecs.length := by rw [s1.2.2.1]; exact i1
    have : vecs.getD i [] = vecs[i] := by simp [List.getD, h2]
    rw [this]; exact List.set_getElem_self h2
/-- What is put anew, and taken out, is as it was. -/
theorem put_del {dim : Int} {ids : List Int} {vecs : List (List Int)} {id : Int} {v : List Int} (h : putE dim ids vecs id v = 0) (hf : findE dim ids vecs id ≠ 0) :
    ∃ i : Nat, i < ids.length ∧ putI dim ids vecs id v = i ∧ findE dim ids vecs id = 5 ∧ findE dim (ids.set i id) (vecs.set i v) id = 0 ∧ findI dim (ids.set i id) (vecs.set i v) id = i ∧ (ids.set i id).set i (-1) = ids ∧ (vecs.set i v).set i [] = vecs := by
  obtain ⟨s1, s2, i, i1, i2, i3, i4⟩ := put_zero h
  have h5 : findE dim ids vecs id = 5 := by
    rcases find_cases dim ids vecs id with q | q | q
    · exact absurd q hf
    · unfold putE at h; rw [if_pos (.inl q)] at h; cases h
    · exact q
  have hn : ids.getD i 0 = -1 := by
    rcases i4 with q | ⟨q, _⟩
    · exact absurd q ((find_five h5).2.2 i i1)
    · exact q
  have hz : vecs.getD i [] = [] := by
    rcases s1.2.2.2 i i1 with ⟨_, q⟩ | ⟨_, ⟨q, _⟩, _⟩
    · exact List.length_eq_zero_iff.1 q
    · omega
  obtain ⟨f1, f2⟩ := find_at i3 s2 (by simpa using i1) (by rw [getDset i1, if_pos rfl])
  have h2 : i < vecs.length := by rw [s1.2.2.1]; exact i1
  refine ⟨i, i1, i2, h5, f1, f2, ?_, ?_⟩
  · rw [List.set_set, ← hn]
    have : ids.getD i 0 = ids[i] := by simp [List.getD, i1]
    rw [this]; exact List.set_getElem_self i1
  · rw [List.set_set]
    have : vecs.getD i [] = vecs[i] := by simp [List.getD, h2]
    rw [this] at hz
    rw [← hz]; exact List.set_getElem_self h2
end Go.Proofs.Ytpkampecmlpfmaa.T

end
section
set_option linter.unusedSimpArgs false
set_option linter.unusedVariables false
/- Slots with one put or taken out, walked. -/
namespace Go.Proofs.Ytpkampecmlpfmaa.T
open Go Go.VL Go.Proofs
set_option maxRecDepth 100000
set_option maxHeartbeats 4000000

theorem clone16p_fun (v : List Int) (hb : v.length ≤ 500) : Fun Try.prog 129 [.lst (ints .i16 v)] fun r => r = .lst (ints .i16 v) := by
  by_cases h : 1 ≤ v.length
  · refine (clone16_fun v hb h).toFun ?_
    rintro _ _ ⟨rfl, rfl⟩
    refine ⟨by simp only [go_sem, Ret_eq Try.results129], by simp only [go_sem, Ret_eq Try.results129], ?_⟩
    simp only [go_sem, Ret_eq Try.results129]
  · obtain rfl : v = [] := List.length_eq_zero_iff.1 (by omega)
    refine Fun.of_awpI Try.func129 rfl cal129 Try.ntmps129 (by simp) fun hwf => ?_
    simp only [D.wfs, D.wf, ints_length, ints_wfs, rows_length, rows_wfs, capMax, and_true, true_and] at hwf
    simp only [go_sem, Ret_eq Try.results129]
    refine opBinI_isNil (by simp only [factsT46]) fun c hc => ?_
    simp only [go_sem, Ret_eq Try.results129]
    refine condI_split (fun h => ?_) (fun h => ?_)
    · repeat' (first | simp only [go_sem, h, Ret_eq Try.results129] | fail)
    · repeat' (first | simp only [go_sem, h, frzStep, Ret_eq Try.results129] | fail)

theorem clone64_fun (l : List Int) (hb : l.length ≤ 500) (h : 1 ≤ l.length) : FunO Try.prog 141 [.lst (ints .i64 l)] fun r o => r = .ref 0 l.length ∧ o = some ⟨2, 1, ints .i64 l⟩ := by
  refine FunO.of_awpI Try.func141 rfl cal141 Try.ntmps141 (by simp) fun hwf => ?_
  simp only [D.wfs, D.wf, ints_length, ints_wfs, rows_length, rows_wfs, capMax, and_true, true_and] at hwf
  simp only [go_sem, Ret_eq Try.results141]
  refine opBinI_isNil (by simp only [go_sem]) fun c hc => ?_
  rw [ints_isNil] at hc
  simp only [go_sem, Ret_eq Try.results141]
  refine condI_split (fun h => ?_) (fun h => ?_)
  · have hb := hc h
    subst hb
    simp at h
  · repeat' (first | simp only [go_sem, h, Ret_eq Try.results141] | simp (disch := omega) only [arith, IntKind.bits, capMax, fill_len, elt_fill] | refine RetO_calc Try.results141 ?_ | fail)

theorem cloneVecs_fun (l : List (List Int)) (hb : l.length ≤ 500) (h : 1 ≤ l.length) : FunO Try.prog 142 [.lst (rows .i16 l)] fun r o => r = .ref 0 l.length ∧ o = some ⟨46, 1, rows .i16 l⟩ := by
  refine FunO.of_awpI Try.func142 rfl cal142 Try.ntmps142 (by simp) fun hwf => ?_
  simp only [D.wfs, D.wf, ints_length, ints_wfs, rows_length, rows_wfs, capMax, and_true, true_and] at hwf
  simp only [go_sem, Ret_eq Try.results142]
  refine opBinI_isNil (by simp only [go_sem]) fun c hc => ?_
  rw [rows_isNil] at hc
  simp only [go_sem, Ret_eq Try.results142]
  refine condI_split (fun h => ?_) (fun h => ?_)
  · have hb := hc h
    subst hb
    simp at h
  · repeat' (first | simp only [go_sem, h, Ret_eq Try.results142] | simp (disch := omega) only [arith, IntKind.bits, capMax, fill_len, elt_fill] | refine RetO_calc Try.results142 ?_ | fail)

theorem index64_fun (l : List Int) (a : Int) : Fun Try.prog 97 [.lst (ints .i64 l), .v (.int .i64 a)] fun r => r = .v (.int .i64 (idxI l a)) := by
  refine Fun.of_awpI Try.func97 rfl cal97 Try.ntmps97 (by simp) fun hwf => ?_
  simp only [D.wfs, D.wf, ints_length, ints_wfs, rows_length, rows_wfs, capMax, and_true, true_and] at hwf
  repeat' (first | simp only [go_sem, Ret_eq Try.results97] | fail)
  refine awpI_for l.length (fun k => ∀ i, i < k → l.getD i 0 ≠ a) (fun k => [(8, .v (.int .i64 k))]) (fun _ => []) [0, 1, 7] [] _ (Weak.refl _) (fun i hi => absurd hi (Nat.not_lt_zero _)) ?_ ?_ ?_
  · simp only [go_sem, Ret_eq Try.results97]
  · simp only [go_sem, Ret_eq Try.results97]
  · intro k s hk hQ hs
    simp only [go_sem, Ret_eq Try.results97] at hs
    by_cases hka : k < l.length
    · by_cases q : l.getD k 0 = a
      · rw [idx_hit hka q hQ]
        have hb : (a == l.getD k 0) = true := by rw [q]; exact beq_self_eq_true a
        repeat' (first | simp only [go_sem, hs, hb, q, beq_self_eq_true, Ret_eq Try.results97] | simp (disch := omega) only [arith, IntKind.bits, capMax, fill_len, elt_fill] | fail)
      · have hb : (a == l.getD k 0) = false := beq_eq_false_iff_ne.2 (Ne.symm q)
        have hb2 : (l.getD k 0 == a) = false := beq_eq_false_iff_ne.2 q
        repeat' (first | simp only [go_sem, hs, hb, hb2, Ret_eq Try.results97] | simp (disch := omega) only [arith, IntKind.bits, capMax, fill_len, elt_fill] | (refine Again.up (by omega) ?_ ?_) | fail)
        intro i hi
        by_cases e : i < k
        · exact hQ i e
        · obtain rfl : i = k := by omega
          exact q
    · obtain rfl : k = l.length := by omega
      rw [idx_miss hQ]
      repeat' (first | simp only [go_sem, hs, Ret_eq Try.results97] | simp (disch := omega) only [arith, IntKind.bits, capMax, fill_len, elt_fill] | fail)
theorem row_same {l : List (List Int)} {i : Nat} (h : i < l.length) : l.set i (l.getD i []) = l := by
  have : l.getD i [] = l[i] := by simp [List.getD, h]
  rw [this]; exact List.set_getElem_self h

theorem with_fun (dim : Int) (ids : List Int) (vecs : List (List Int)) (i : Nat) (id : Int) (v : List Int) (h1 : 1 ≤ ids.length) (hl : ids.length ≤ 500) (h2 : vecs.length = ids.length) (hv : ∀ x ∈ vecs, x.length ≤ 500) (hv2 : v.length ≤ 500) (hi : i < ids.length) :
    Fun Try.prog 98 [slotsD dim ids vecs, .v (.int .i64 i), .v (.int .i64 id), .lst (ints .i16 v)] fun r => r = slotsD dim (ids.set i id) (vecs.set i v) := by
  refine Fun.of_awpI Try.func98 rfl cal98 Try.ntmps98 (by simp) fun hwf => ?_
  simp only [D.wfs, D.wf, ints_length, ints_wfs, rows_length, rows_wfs, capMax, and_true, true_and] at hwf
  have c1 := clone64_fun ids hl h1
  have c2 := cloneVecs_fun vecs (by omega) (by omega)
  have c3 := clone16p_fun v hv2
  repeat' (first | simp only [go_sem, Ret_eq Try.results98] | (refine awpI_draw2 (id := 1) (.one false 0 (.one false 1 (.cal 3 [2] (.cal 4 [2] (.only 2 (.cal 6 [5] (.only 5 (.only 7 (.one false 8 (.only 9 .done)))))))))) mixed (by decide +kernel) (by decide +kernel) ?_) | (refine opCallI_ownGv (by simp only [go_sem, Ret_eq Try.results98]; first | done | rfl) (c1) ?_; rintro _ _ ⟨rfl, rfl⟩) | (refine opCallI_ownGv (by simp only [go_sem, Ret_eq Try.results98]; first | done | rfl) (c2) ?_; rintro _ _ ⟨rfl, rfl⟩) | fail)
  refine awpI_for vecs.length (fun k => True) (fun k => [(22, .v (.int .i64 k))]) (fun k => [(16, ⟨46, 1, rows .i16 vecs⟩)]) [1, 2, 3, 4, 8, 20, 21] [4, 13, 8] _ (Weak.refl _) trivial ?_ ?_ ?_
  · simp only [go_sem, Ret_eq Try.results98]
  · simp only [go_sem, Ret_eq Try.results98]
  · intro k s hk _ hs
    simp only [go_sem, Ret_eq Try.results98] at hs
    by_cases hka : k < vecs.length
    · have c4 := clone16p_fun (vecs.getD k []) (hv _ (getD_mem (d := []) hka))
      have hsm := row_same (l := vecs) hka
      repeat' (first | simp only [go_sem, hs, hsm, Ret_eq Try.results98] | simp (disch := omega) only [arith, IntKind.bits, capMax, fill_len, elt_fill] | (refine awpI_draw2 (id := 5) (.one false 3 (.cal 0 [4] (.cal 1 [4] (.cal 2 [4] (.only 4 (.one false 5 (.only 6 .done))))))) mixed (by decide +kernel) (by decide +kernel) ?_) | (refine Again.up (by omega) ?_ ?_) | (refine opCallI_gv (by simp only [go_sem, hs, hsm, Ret_eq Try.results98]; first | done | rfl) (c4) ?_; rintro _ rfl) | fail)
    · obtain rfl : k = vecs.length := by omega
      have tk1 : (ids.set i id).take ids.length = ids.set i id := List.take_of_length_le (by simp)
      have tk2 : (vecs.set i v).take vecs.length = vecs.set i v := List.take_of_length_le (by simp)
      repeat' (first | simp only [go_sem, hs, List.length_set, tk1, tk2, Ret_eq Try.results98] | simp (disch := omega) only [arith, IntKind.bits, capMax, fill_len, elt_fill] | (refine awpI_draw2 (id := 7) (.one false 7 (.cal 0 [8] (.cal 1 [8] (.cal 2 [8] (.cal 6 [8] (.one true 5 (.two 3 8 (.two 4 8 (.only 8 (.one false 9 (.only 10 (.one false 11 (.only 12 .done))))) (.one false 9 (.cal 4 [10] (.only 10 (.one false 11 (.only 12 .done)))))) (.one false 9 (.cal 3 [10] (.cal 4 [10] (.only 10 (.one false 11 (.only 12 .done))))))))))))) mixed (by decide +kernel) (by decide +kernel) ?_) | (refine sch2I_two ?_ ?_) | (refine opCallI_gv (by simp only [go_sem, hs, List.length_set, tk1, tk2, Ret_eq Try.results98]; first | done | rfl) (c3) ?_; rintro _ rfl) | fail)

theorem find_fun (dim : Int) (ids : List Int) (vecs : List (List Int)) (id : Int) : Fun Try.prog 33 [slotsD dim ids vecs, .v (.int .i64 id)] fun r => r = .tup [.v (.int .i64 (findI dim ids vecs id)), .v (.int .i64 (findE dim ids vecs id))] := by
  refine Fun.of_awpI Try.func33 rfl cal33 Try.ntmps33 (by simp) fun hwf => ?_
  simp only [D.wfs, D.wf, ints_length, ints_wfs, rows_length, rows_wfs, capMax, and_true, true_and] at hwf
  have hi := isId_fun id
  by_cases h : slotsOk dim ids vecs
  · have hd := dir_ok dim ids vecs h
    by_cases h2 : idOk id
    · have h2' : 0 ≤ id ∧ id ≤ 2147483647 := h2
      rw [decide_eq_true h2'] at hi
      unfold findI findE
      rw [if_pos ⟨h, h2⟩, if_pos ⟨h, h2⟩]
      unfold dirAt
      cases hlk : lookN id (dirN ids ids.length) with
      | none =>
        repeat' (first | simp only [go_sem, hlk, Ret_eq Try.results33] | (refine opCallI_ownGv (by simp only [go_sem, hlk, Ret_eq Try.results33]; first | done | rfl) (hd) ?_; rintro _ _ ⟨rfl, rfl⟩) | (refine opCallI_rd (by simp only [go_sem, hlk, Ret_eq Try.results33]; first | done | rfl) (hi) (by rintro _ rfl; rfl) ?_; rintro _ rfl) | fail)
        all_goals simp
      | some x =>
        repeat' (first | simp only [go_sem, hlk, Ret_eq Try.results33] | (refine opCallI_ownGv (by simp only [go_sem, hlk, Ret_eq Try.results33]; first | done | rfl) (hd) ?_; rintro _ _ ⟨rfl, rfl⟩) | (refine opCallI_rd (by simp only [go_sem, hlk, Ret_eq Try.results33]; first | done | rfl) (hi) (by rintro _ rfl; rfl) ?_; rintro _ rfl) | fail)
        all_goals simp
    · have h2' : ¬ (0 ≤ id ∧ id ≤ 2147483647) := h2
      rw [decide_eq_false h2'] at hi
      unfold findI findE
      rw [if_neg (fun q => h2 q.2), if_neg (fun q => h2 q.2)]
      repeat' (first | simp only [go_sem, Ret_eq Try.results33] | (refine opCallI_ownGv (by simp only [go_sem, Ret_eq Try.results33]; first | done | rfl) (hd) ?_; rintro _ _ ⟨rfl, rfl⟩) | (refine opCallI_rd (by simp only [go_sem, Ret_eq Try.results33]; first | done | rfl) (hi) (by rintro _ rfl; rfl) ?_; rintro _ rfl) | fail)
  · have hd := dir_bad dim ids vecs h
    unfold findI findE
    rw [if_neg (fun q => h q.1), if_neg (fun q => h q.1)]
    repeat' (first | simp only [go_sem, Ret_eq Try.results33] | (refine opCallI_ownGv (by simp only [go_sem, Ret_eq Try.results33]; first | done | rfl) (hd) ?_; rintro _ _ ⟨rfl, rfl⟩) | fail)
theorem put_one {dim : Int} {ids : List Int} {vecs : List (List Int)} {id : Int} {v : List Int} (h : putE dim ids vecs id v ≠ 0) (hf : findE dim ids vecs id ≠ 1) (hv : vecErr v = 0 ∧ (v.length : Int) = dim) : putE dim ids vecs id v = 7 ∧ findE dim ids vecs id = 5 ∧ idxI ids (-1) < 0 := by
  unfold putE at *
  rw [if_neg (fun q => q.elim hf (fun q => q hv))] at h ⊢
  by_cases q : findE dim ids vecs id = 5 ∧ idxI ids (-1) < 0
  · rw [if_pos q]; exact ⟨rfl, q⟩
  · rw [if_neg q] at h; exact absurd rfl h

theorem slotsPut_fun (dim : Int) (ids : List Int) (vecs : List (List Int)) (id : Int) (v : List Int) (hv : ∀ x ∈ vecs, x.length ≤ 500) (hv2 : v.length ≤ 500) :
    Fun Try.prog 34 [slotsD dim ids vecs, .v (.int .i64 id), .lst (ints .i16 v)] fun r => r = .tup [.v (.int .i64 (putI dim ids vecs id v)),
      (if putE dim ids vecs id v = 0 then slotsD dim (ids.set (putI dim ids vecs id v).toNat id) (vecs.set (putI dim ids vecs id v).toNat v) else slotsD 0 [] []), .v (.int .i64 (putE dim ids vecs id v))] := by
  have hf := find_fun dim ids vecs id
  have hfi := fits_slot_fun dim ids vecs v
  by_cases h : putE dim ids vecs id v = 0
  · obtain ⟨s1, s2, i, i1, i2, i3, i4⟩ := put_zero h
    have hvo : vecErr v = 0 ∧ (v.length : Int) = dim := by
      by_cases q : vecErr v = 0 ∧ (v.length : Int) = dim
      · exact q
      · unfold putE at h; rw [if_pos (.inr q)] at h; cases h
    rw [decide_eq_true hvo] at hfi
    rw [h, if_pos rfl]
    have hw := with_fun dim ids vecs i id v (by omega) (by have := s1.2.1; omega) s1.2.2.1 hv hv2 i1
    rcases find_cases dim ids vecs id with f | f | f
    · have e : putI dim ids vecs id v = findI dim ids vecs id := by unfold putI; rw [if_pos h, if_neg (by rw [f]; decide)]
      rw [f] at hf
      rw [e] at i2 ⊢
      rw [i2] at hf ⊢
      rw [Int.toNat_natCast]
      refine Fun.of_awpI Try.func34 rfl cal34 Try.ntmps34 (by simp) fun hwf => ?_
      simp only [D.wfs, D.wf, ints_length, ints_wfs, rows_length, rows_wfs, capMax, and_true, true_and] at hwf
      repeat' (first | simp only [go_sem, Ret_eq Try.results34] | (refine opCallI_rd (by simp only [go_sem, Ret_eq Try.results34]; first | done | rfl) (hf) (by rintro _ rfl; rfl) ?_; rintro _ rfl) | (refine opCallI_rd (by simp only [go_sem, Ret_eq Try.results34]; first | done | rfl) (hfi) (by rintro _ rfl; rfl) ?_; rintro _ rfl) | (refine opCallI_gv (by simp only [go_sem, Ret_eq Try.results34]; first | done | rfl) (hw) ?_; rintro _ rfl) | fail)
    · unfold putE at h; rw [if_pos (.inl f)] at h; cases h
    · have e : putI dim ids vecs id v = idxI ids (-1) := by unfold putI; rw [if_pos h, if_pos f]
      have hx := index64_fun ids (-1)
      rw [f] at hf
      rw [e] at i2 ⊢
      rw [i2] at hx ⊢
      rw [Int.toNat_natCast]
      refine Fun.of_awpI Try.func34 rfl cal34 Try.ntmps34 (by simp) fun hwf => ?_
      simp only [D.wfs, D.wf, ints_length, ints_wfs, rows_length, rows_wfs, capMax, and_true, true_and] at hwf
      repeat' (first | simp only [go_sem, Ret_eq Try.results34] | simp (disch := omega) only [arith, IntKind.bits, capMax, fill_len, elt_fill] | (refine opCallI_rd (by simp only [go_sem, Ret_eq Try.results34]; first | done | rfl) (hf) (by rintro _ rfl; rfl) ?_; rintro _ rfl) | (refine opCallI_rd (by simp only [go_sem, Ret_eq Try.results34]; first | done | rfl) (hfi) (by rintro _ rfl; rfl) ?_; rintro _ rfl) | (refine opCallI_rd (by simp only [go_sem, Ret_eq Try.results34]; first | done | rfl) (hx) (by rintro _ rfl; rfl) ?_; rintro _ rfl) | (refine opCallI_gv (by simp only [go_sem, Ret_eq Try.results34]; first | done | rfl) (hw) ?_; rintro _ rfl) | fail)
  · rw [if_neg h]
    have e0 : putI dim ids vecs id v = 0 := if_neg h
    rw [e0]
    by_cases f : findE dim ids vecs id = 1
    · have e1 : putE dim ids vecs id v = 1 := if_pos (.inl f)
      rw [e1]
      rw [f] at hf
      refine Fun.of_awpI Try.func34 rfl cal34 Try.ntmps34 (by simp) fun hwf => ?_
      simp only [D.wfs, D.wf, ints_length, ints_wfs, rows_length, rows_wfs, capMax, and_true, true_and] at hwf
      repeat' (first | simp only [go_sem, ints_nil, rows_nil, Ret_eq Try.results34] | (refine opCallI_rd (by simp only [go_sem, ints_nil, rows_nil, Ret_eq Try.results34]; first | done | rfl) (hf) (by rintro _ rfl; rfl) ?_; rintro _ rfl) | fail)
      all_goals rfl
    · have hfb : (findE dim ids vecs id == 1) = false := beq_eq_false_iff_ne.2 f
      by_cases hvo : vecErr v = 0 ∧ (v.length : Int) = dim
      · obtain ⟨g1, g2, g3⟩ := put_one h f hvo
        rw [decide_eq_true hvo] at hfi
        rw [g1]
        rw [g2] at hf
        have hx := index64_fun ids (-1)
        refine Fun.of_awpI Try.func34 rfl cal34 Try.ntmps34 (by simp) fun hwf => ?_
        simp only [D.wfs, D.wf, ints_length, ints_wfs, rows_length, rows_wfs, capMax, and_true, true_and] at hwf
        repeat' (first | simp only [go_sem, ints_nil, rows_nil, Ret_eq Try.results34] | simp (disch := omega) only [arith, IntKind.bits, capMax, fill_len, elt_fill] | (refine opCallI_rd (by simp only [go_sem, ints_nil, rows_nil, Ret_eq Try.results34]; first | done | rfl) (hf) (by rintro _ rfl; rfl) ?_; rintro _ rfl) | (refine opCallI_rd (by simp only [go_sem, ints_nil, rows_nil, Ret_eq Try.results34]; first | done | rfl) (hfi) (by rintro _ rfl; rfl) ?_; rintro _ rfl) | (refine opCallI_rd (by simp only [go_sem, ints_nil, rows_nil, Ret_eq Try.results34]; first | done | rfl) (hx) (by rintro _ rfl; rfl) ?_; rintro _ rfl) | fail)
        all_goals rfl
      · rw [decide_eq_false hvo] at hfi
        have e1 : putE dim ids vecs id v = 1 := if_pos (.inr hvo)
        rw [e1]
        refine Fun.of_awpI Try.func34 rfl cal34 Try.ntmps34 (by simp) fun hwf => ?_
        simp only [D.wfs, D.wf, ints_length, ints_wfs, rows_length, rows_wfs, capMax, and_true, true_and] at hwf
        repeat' (first | simp only [go_sem, hfb, ints_nil, rows_nil, Ret_eq Try.results34] | (refine opCallI_rd (by simp only [go_sem, hfb, ints_nil, rows_nil, Ret_eq Try.results34]; first | done | rfl) (hf) (by rintro _ rfl; rfl) ?_; rintro _ rfl) | (refine opCallI_rd (by simp only [go_sem, hfb, ints_nil, rows_nil, Ret_eq Try.results34]; first | done | rfl) (hfi) (by rintro _ rfl; rfl) ?_; rintro _ rfl) | fail)
        all_goals rfl

theorem slotsDel_fun (dim : Int) (ids : List Int) (vecs : List (List Int)) (id : Int) (hv : ∀ x ∈ vecs, x.length ≤ 500) :
    Fun Try.prog 37 [slotsD dim ids vecs, .v (.int .i64 id)] fun r => r = .tup [.v (.int .i64 (findI dim ids vecs id)),
      (if findE dim ids vecs id = 0 then slotsD dim (ids.set (findI dim ids vecs id).toNat (-1)) (vecs.set (findI dim ids vecs id).toNat []) else slotsD 0 [] []), .v (.int .i64 (findE dim ids vecs id))] := by
  have hf := find_fun dim ids vecs id
  by_cases h : findE dim ids vecs id = 0
  · obtain ⟨s1, s2, i, i1, i2, i3⟩ := find_zero h
    rw [h] at hf
    rw [i2] at hf
    rw [h, i2, if_pos rfl, Int.toNat_natCast]
    have hw : Fun Try.prog 98 [slotsD dim ids vecs, .v (.int .i64 i), .v (.int .i64 (-1)), .lst []] _ := with_fun dim ids vecs i (-1) [] (by omega) (by have := s1.2.1; omega) s1.2.2.1 hv (by decide) i1
    refine Fun.of_awpI Try.func37 rfl cal37 Try.ntmps37 (by simp) fun hwf => ?_
    simp only [D.wfs, D.wf, ints_length, ints_wfs, rows_length, rows_wfs, capMax, and_true, true_and] at hwf
    repeat' (first | simp only [go_sem, beq_self_eq_true, Ret_eq Try.results37] | (refine opCallI_rd (by simp only [go_sem, beq_self_eq_true, Ret_eq Try.results37]; first | done | rfl) (hf) (by rintro _ rfl; rfl) ?_; rintro _ rfl) | (refine opCallI_gv (by simp only [go_sem, beq_self_eq_true, Ret_eq Try.results37]; first | done | rfl) (hw) ?_; rintro _ rfl) | fail)
  · rw [if_neg h]
    have hfb : (findE dim ids vecs id == 0) = false := beq_eq_false_iff_ne.2 h
    have e0 : findI dim ids vecs id = 0 := by
      unfold findI
      by_cases q : slotsOk dim ids vecs ∧ idOk id
      · unfold findE at h
        rw [if_pos q] at h ⊢
        cases e : dirAt ids id with
        | none => rfl
        | some x => rw [e] at h; exact absurd rfl h
      · rw [if_neg q]
    rw [e0] at hf ⊢
    refine Fun.of_awpI Try.func37 rfl cal37 Try.ntmps37 (by simp) fun hwf => ?_
    simp only [D.wfs, D.wf, ints_length, ints_wfs, rows_length, rows_wfs, capMax, and_true, true_and] at hwf
    repeat' (first | simp only [go_sem, hfb, ints_nil, rows_nil, Ret_eq Try.results37] | simp (disch := omega) only [arith, IntKind.bits, capMax, fill_len, elt_fill] | (refine opCallI_rd (by simp only [go_sem, hfb, ints_nil, rows_nil, Ret_eq Try.results37]; first | done | rfl) (hf) (by rintro _ rfl; rfl) ?_; rintro _ rfl) | fail)
    all_goals rfl
end Go.Proofs.Ytpkampecmlpfmaa.T

end
section
set_option linter.unusedSimpArgs false
set_option linter.unusedVariables false
/- Slots, and lists of vectors, the same, walked. -/
namespace Go.Proofs.Ytpkampecmlpfmaa.T
open Go Go.VL Go.Proofs
set_option maxRecDepth 100000
set_option maxHeartbeats 4000000

theorem equal64_fun (a b : List Int) : Fun Try.prog 99 [.lst (ints .i64 a), .lst (ints .i64 b)] fun r => r = .v (.bool (decide (a = b))) := by
  refine Fun.of_awpI Try.func99 rfl cal99 Try.ntmps99 (by simp) fun hwf => ?_
  simp only [D.wfs, D.wf, ints_length, ints_wfs, rows_length, rows_wfs, capMax, and_true, true_and] at hwf
  repeat' (first | simp only [go_sem, Ret_eq Try.results99] | (with_reducible refine condI_bne (fun hq hqb => ?_) (fun hq hqb => ?_) <;> simp only [KP_mk, hqb]) | fail)
  · rw [decide_eq_false]; rintro rfl; omega
  · have hl : a.length = b.length := by omega
    refine awpI_for a.length (fun k => a.take k = b.take k) (fun k => [(13, .v (.int .i64 k))]) (fun _ => []) [0, 1, 12] [] _ (Weak.refl _) (by simp) ?_ ?_ ?_
    · simp only [go_sem, Ret_eq Try.results99]
    · simp only [go_sem, Ret_eq Try.results99]
    · intro k s hk hQ hs
      simp only [go_sem, Ret_eq Try.results99] at hs
      by_cases hka : k < a.length
      · repeat' (first | simp only [go_sem, hs, Ret_eq Try.results99] | simp (disch := omega) only [arith, IntKind.bits, capMax, fill_len, elt_fill] | (with_reducible refine condI_bne (fun hq hqb => ?_) (fun hq hqb => ?_) <;> simp only [KP_mk, hqb]) | (refine awpI_draw2 (id := 6) (.one false 0 (.one false 1 (.one false 2 (.one false 3 (.one false 4 (.one false 5 (.one false 6 (.one false 7 (.one false 8 .done))))))))) mixed (by decide +kernel) (by decide +kernel) ?_) | (refine Again.up (by omega) ?_ ?_) | fail)
        · rw [decide_eq_false]; rintro rfl; simp_all
        · exact take_eq_snoc hka (by omega) hQ (by assumption)
      · obtain rfl : k = a.length := by omega
        rw [List.take_length, hl, List.take_length] at hQ
        subst hQ
        repeat' (first | simp only [go_sem, hs, Ret_eq Try.results99] | simp (disch := omega) only [arith, IntKind.bits, capMax, fill_len, elt_fill] | fail)

theorem equalVecs_fun (a b : List (List Int)) : Fun Try.prog 100 [.lst (rows .i16 a), .lst (rows .i16 b), .clos (.func 101) []] fun r => r = .v (.bool (decide (a = b))) := by
  refine Fun.of_awpI Try.func100 rfl cal100 Try.ntmps100 (by simp) fun hwf => ?_
  simp only [D.wfs, D.wf, ints_length, ints_wfs, rows_length, rows_wfs, capMax, and_true, true_and] at hwf
  have hlb : b.length ≤ 9223372036854775807 := by have := hwf.2.1; exact this
  have hla : a.length ≤ 9223372036854775807 := by have := hwf.1.1; exact this
  by_cases hl : a.length = b.length
  · repeat' (first | simp only [go_sem, hl, Ret_eq Try.results100] | simp (disch := omega) only [arith, IntKind.bits, capMax, fill_len, elt_fill] | fail)
    refine awpI_for b.length (fun k => a.take k = b.take k) (fun k => [(17, .v (.int .i64 k))]) (fun _ => []) [1, 2, 15, 16] [] _ (Weak.refl _) (by simp) ?_ ?_ ?_
    · simp only [go_sem, Ret_eq Try.results100]
    · simp only [go_sem, Ret_eq Try.results100]
    · intro k s hk hQ hs
      simp only [go_sem, Ret_eq Try.results100] at hs
      by_cases hka : k < b.length
      · have e1 := take_snoc (a := a) (d := ([] : List Int)) (k := k) (by omega)
        have e2 := take_snoc (a := b) (d := ([] : List Int)) hka
        have hs1 := vecSame_fun (a.getD k []) (b.getD k [])
        by_cases hv : a.getD k [] = b.getD k []
        · rw [decide_eq_true hv] at hs1
          repeat' (first | simp only [go_sem, hs, Ret_eq Try.results100] | simp (disch := omega) only [arith, IntKind.bits, capMax, fill_len, elt_fill] | (refine Again.up (by omega) ?_ ?_) | (refine opCallI_rd (by simp only [go_sem, hs, Ret_eq Try.results100]; first | done | rfl) (hs1) (by rintro _ rfl; rfl) ?_; rintro _ rfl) | fail)
          rw [e1, e2, hQ, hv]
        · rw [decide_eq_false hv] at hs1
          have hne : a ≠ b := fun q => hv (by rw [q])
          repeat' (first | simp only [go_sem, hs, decide_eq_false hne, Ret_eq Try.results100] | simp (disch := omega) only [arith, IntKind.bits, capMax, fill_len, elt_fill] | (refine opCallI_rd (by simp only [go_sem, hs, decide_eq_false hne, Ret_eq Try.results100]; first | done | rfl) (hs1) (by rintro _ rfl; rfl) ?_; rintro _ rfl) | fail)
      · obtain rfl : k = b.length := by omega
        have hQ3 : a = b := by
          rw [List.take_length, ← hl, List.take_length] at hQ; exact hQ
        repeat' (first | simp only [go_sem, hs, decide_eq_true hQ3, Ret_eq Try.results100] | simp (disch := omega) only [arith, IntKind.bits, capMax, fill_len, elt_fill] | fail)
  · have hne : a ≠ b := fun q => hl (by rw [q])
    repeat' (first | simp only [go_sem, decide_eq_false hne, Ret_eq Try.results100] | simp (disch := omega) only [arith, IntKind.bits, capMax, fill_len, elt_fill] | fail)

theorem slotsSame_fun (d : Int) (a : List Int) (v : List (List Int)) (d2 : Int) (a2 : List Int) (v2 : List (List Int)) : Fun Try.prog 36 [slotsD d a v, slotsD d2 a2 v2] fun r => r = .v (.bool (decide (d = d2 ∧ a = a2 ∧ v = v2))) := by
  have h2 := equal64_fun a a2
  have h3 := equalVecs_fun v v2
  refine Fun.of_awpI Try.func36 rfl cal36 Try.ntmps36 (by simp) fun hwf => ?_
  simp only [D.wfs, D.wf, ints_length, ints_wfs, rows_length, rows_wfs, capMax, and_true, true_and] at hwf
  by_cases g1 : d = d2
  · have b1 : (d == d2) = true := beq_iff_eq.2 g1
    by_cases g2 : a = a2
    · rw [decide_eq_true g2] at h2
      have e : decide (d = d2 ∧ a = a2 ∧ v = v2) = decide (v = v2) := by simp [g1, g2]
      rw [e]
      repeat' (first | simp only [go_sem, b1, Ret_eq Try.results36] | (refine opCallI_rd (by simp only [go_sem, b1, Ret_eq Try.results36]; first | done | rfl) (h2) (by rintro _ rfl; rfl) ?_; rintro _ rfl) | (refine opCallI_rd (by simp only [go_sem, b1, Ret_eq Try.results36]; first | done | rfl) (h3) (by rintro _ rfl; rfl) ?_; rintro _ rfl) | fail)
    · rw [decide_eq_false g2] at h2
      rw [decide_eq_false (fun q => g2 q.2.1)]
      repeat' (first | simp only [go_sem, b1, Ret_eq Try.results36] | (refine opCallI_rd (by simp only [go_sem, b1, Ret_eq Try.results36]; first | done | rfl) (h2) (by rintro _ rfl; rfl) ?_; rintro _ rfl) | fail)
  · have b1 : (d == d2) = false := beq_eq_false_iff_ne.2 g1
    rw [decide_eq_false (fun q => g1 q.1)]
    repeat' (first | simp only [go_sem, b1, Ret_eq Try.results36] | fail)
end Go.Proofs.Ytpkampecmlpfmaa.T

end
section
set_option linter.unusedSimpArgs false
set_option linter.unusedVariables false
/- Lots, and what is checked ahead of a step, walked. -/
namespace Go.Proofs.Ytpkampecmlpfmaa.T
open Go Go.VL Go.Proofs
set_option maxRecDepth 100000
set_option maxHeartbeats 4000000

theorem next_fun (x : Int) : Fun Try.prog 175 [.v (.int .u64 x)] fun r => r = .v (.int .u64 (nxt x)) := by
  refine Fun.of_awpI Try.func175 rfl cal175 Try.ntmps175 (by simp) fun hwf => ?_
  simp only [D.wfs, D.wf, ints_length, ints_wfs, rows_length, rows_wfs, capMax, and_true, true_and] at hwf
  repeat' (first | simp only [go_sem, Ret_eq Try.results175] | fail)
  rw [IntKind.wrap_u64, IntKind.wrap_u64]
  unfold nxt
  omega

theorem bound_fun (n : Int) : Fun Try.prog 156 [.v (.int .i64 n)] fun r => r = .v (.bool (decide (1 ≤ n ∧ n ≤ 2147483648))) := by
  refine Fun.of_awpI Try.func156 rfl cal156 Try.ntmps156 (by simp) fun hwf => ?_
  simp only [D.wfs, D.wf, ints_length, ints_wfs, rows_length, rows_wfs, capMax, and_true, true_and] at hwf
  by_cases h : 1 ≤ n ∧ n ≤ 2147483648
  · rw [decide_eq_true h]
    repeat' (first | simp only [go_sem, Ret_eq Try.results156] | simp (disch := omega) only [arith, IntKind.bits, capMax, fill_len, elt_fill] | fail)
  · rw [decide_eq_false h]
    by_cases h1 : 1 ≤ n
    · repeat' (first | simp only [go_sem, Ret_eq Try.results156] | simp (disch := omega) only [arith, IntKind.bits, capMax, fill_len, elt_fill] | fail)
    · repeat' (first | simp only [go_sem, Ret_eq Try.results156] | simp (disch := omega) only [arith, IntKind.bits, capMax, fill_len, elt_fill] | fail)

theorem lot_fun (x b : Int) (h : 1 ≤ b ∧ b ≤ 2147483648) : Fun Try.prog 157 [.v (.int .u64 x), .v (.int .i64 b)] fun r => r = .tup [.v (.int .i64 (lotOf (nxt x) b)), .v (.int .u64 (nxt x)), .v (.int .i64 0)] := by
  have hb := bound_fun b
  rw [decide_eq_true h] at hb
  have hr := nxt_range x
  have hl := lotOf_range (x := nxt x) h.1
  have hn := next_fun x
  unfold lotOf at hl
  show Fun Try.prog 157 [.v (.int .u64 x), .v (.int .i64 b)] fun r => r = .tup [.v (.int .i64 (nxt x / 8589934592 % b)), .v (.int .u64 (nxt x)), .v (.int .i64 0)]
  generalize nxt x = y at *
  have e1 : y.fdiv 8589934592 = y / 8589934592 := Int.fdiv_eq_ediv_of_nonneg _ (by decide)
  have e2 : (y / 8589934592).tmod b = y / 8589934592 % b := Int.tmod_eq_emod_of_nonneg (by omega)
  have e3 : IntKind.i64.wrap (y / 8589934592 % b) = y / 8589934592 % b := IntWalk.i64_in _ (by omega)
  refine Fun.of_awpI Try.func157 rfl cal157 Try.ntmps157 (by simp) fun hwf => ?_
  simp only [D.wfs, D.wf, ints_length, ints_wfs, rows_length, rows_wfs, capMax, and_true, true_and] at hwf
  repeat' (first | simp only [go_sem, e1, e2, e3, Ret_eq Try.results157] | simp (disch := omega) only [arith, IntKind.bits, capMax, fill_len, elt_fill] | (refine opCallI_rd (by simp only [go_sem, e1, e2, e3, Ret_eq Try.results157]; first | done | rfl) (hb) (by rintro _ rfl; rfl) ?_; rintro _ rfl) | (refine opCallI_rd (by simp only [go_sem, e1, e2, e3, Ret_eq Try.results157]; first | done | rfl) (hn) (by rintro _ rfl; rfl) ?_; rintro _ rfl) | fail)

theorem lots_own (x b : Int) (n : Nat) (h : 1 ≤ b ∧ b ≤ 2147483648) (hn : n ≤ 4096) : FunO Try.prog 132 [.v (.int .u64 x), .v (.int .i64 n), .v (.int .i64 b)] fun r o => r = .tup [.ref 0 n, .v (.int .u64 (nx x n)), .v (.int .i64 0)] ∧ o = some ⟨3, 1, ints .i64 (lotsL x b n)⟩ := by
  have hb := bound_fun b
  rw [decide_eq_true h] at hb
  refine FunO.of_awpI Try.func132 rfl cal132 Try.ntmps132 (by simp) fun hwf => ?_
  simp only [D.wfs, D.wf, ints_length, ints_wfs, rows_length, rows_wfs, capMax, and_true, true_and] at hwf
  repeat' (first | simp only [go_sem, Ret_eq Try.results132] | simp (disch := omega) only [arith, IntKind.bits, capMax, fill_len, elt_fill] | (refine opCallI_rd (by simp only [go_sem, Ret_eq Try.results132]; first | done | rfl) (hb) (by rintro _ rfl; rfl) ?_; rintro _ rfl) | fail)
  refine awpI_for n (fun k => True) (fun k => [(0, .v (.int .u64 (nx x k))), (6, .ref 39 k), (24, .v (.int .i64 k))]) (fun k => [(39, ⟨3, 1, ints .i64 (lotsL x b k)⟩)]) [2, 23] [] _ (Weak.adopt (j := 6) 39 3 1 (by simp only [go_sem, Ret_eq Try.results132]) (by simp only [go_sem, Ret_eq Try.results132]) (by decide)) trivial ?_ ?_ ?_
  · simp only [go_sem, nx, Ret_eq Try.results132]
  · simp only [go_sem, lotsL, ints_nil, Ret_eq Try.results132]
  · intro k s hk _ hs
    simp only [go_sem, Ret_eq Try.results132] at hs
    by_cases hka : k < n
    · have hl := lot_fun (nx x k) b h
      have e1 : lotsL x b (k + 1) = lotsL x b k ++ [lotOf (nxt (nx x k)) b] := rfl
      have e2 : nx x (k + 1) = nxt (nx x k) := rfl
      have hle := lotsL_length x b k
      repeat' (first | simp only [go_sem, hs, e1, e2, hle, List.length_append, Ret_eq Try.results132] | simp (disch := omega) only [arith, IntKind.bits, capMax, fill_len, elt_fill] | (refine Again.up (by omega) ?_ ?_) | (refine opCallI_rd (by simp only [go_sem, hs, e1, e2, hle, List.length_append, Ret_eq Try.results132]; first | done | rfl) (hl) (by rintro _ rfl; rfl) ?_; rintro _ rfl) | fail)
    · obtain rfl : k = n := by omega
      have hle := lotsL_length x b k
      repeat' (first | simp only [go_sem, hs, hle, Ret_eq Try.results132] | simp (disch := omega) only [arith, IntKind.bits, capMax, fill_len, elt_fill] | refine RetO_calc Try.results132 ?_ | fail)
theorem lots_fun (x b : Int) (n : Nat) (h : 1 ≤ b ∧ b ≤ 2147483648) (hn : n ≤ 4096) : Fun Try.prog 132 [.v (.int .u64 x), .v (.int .i64 n), .v (.int .i64 b)] fun r => r = .tup [.lst (ints .i64 (lotsL x b n)), .v (.int .u64 (nx x n)), .v (.int .i64 0)] := by
  refine (lots_own x b n h hn).toFun ?_
  rintro r o ⟨rfl, rfl⟩
  have hle := lotsL_length x b n
  have ht : (lotsL x b n).take n = lotsL x b n := List.take_of_length_le (by omega)
  refine ⟨by simp only [go_sem, hle, ht, Ret_eq Try.results132], by simp only [go_sem, hle, ht, Ret_eq Try.results132], ?_⟩
  simp only [go_sem, hle, ht, Ret_eq Try.results132]
end Go.Proofs.Ytpkampecmlpfmaa.T

end
section
set_option linter.unusedSimpArgs false
set_option linter.unusedVariables false
/- Whether one of many vectors is odd, walked. -/
namespace Go.Proofs.Ytpkampecmlpfmaa.T
open Go Go.VL Go.Proofs
set_option maxRecDepth 100000
set_option maxHeartbeats 4000000
theorem anyv_take_snoc {p : List Int → Bool} {l : List (List Int)} {k : Nat} (h : k < l.length) : (l.take (k + 1)).any p = ((l.take k).any p || p (l.getD k [])) := by
  rw [take_snoc (d := []) h, List.any_append]; simp
theorem anyv_of_take {p : List Int → Bool} {l : List (List Int)} {k : Nat} (h : k < l.length) (hp : p (l.getD k []) = true) : l.any p = true := by
  rw [List.any_eq_true]
  exact ⟨_, getD_mem h, hp⟩

theorem indexFuncV_fun (l : List (List Int)) (p : List Int → Bool) (g : FuncId) (caps : List D) (hc1 : D.idss caps = []) (hc2 : D.noRefs caps = true) (hc3 : D.nrms caps = caps)
    (hg : ∀ c ∈ l, Fun Try.prog g (.lst (ints .i16 c) :: caps) fun r => r = .v (.bool (p c))) :
    Fun Try.prog 153 [.lst (rows .i16 l), .clos (.func g) caps] fun r => ∃ z : Int, r = .v (.int .i64 z) ∧ (0 ≤ z ↔ l.any p = true) := by
  refine Fun.of_awpI Try.func153 rfl cal153 Try.ntmps153 (by simp) fun hwf => ?_
  simp only [D.wfs, D.wf, ints_length, ints_wfs, rows_length, rows_wfs, capMax, and_true, true_and] at hwf
  repeat' (first | simp only [go_sem, Ret_eq Try.results153] | fail)
  refine awpI_for l.length (fun k => (l.take k).any p = false) (fun k => [(8, .v (.int .i64 k))]) (fun _ => []) [0, 1, 7] [] _ (Weak.refl _) (by simp) ?_ ?_ ?_
  · simp only [go_sem, Ret_eq Try.results153]
  · simp only [go_sem, Ret_eq Try.results153]
  · intro k s hk hQ hs
    simp only [go_sem, Ret_eq Try.results153] at hs
    by_cases hka : k < l.length
    · have hgk := hg _ (getD_mem (d := []) hka)
      have e := anyv_take_snoc (p := p) hka
      rw [hQ, Bool.false_or] at e
      have e2 := anyv_of_take (p := p) hka
      generalize p (l.getD k []) = b at *
      cases b
      · repeat' (first | simp only [go_sem, hs, hc1, hc2, hc3, Ret_eq Try.results153] | simp (disch := omega) only [arith, IntKind.bits, capMax, fill_len, elt_fill] | (refine Again.up (by omega) ?_ ?_) | (refine opCallI_rd (by simp only [go_sem, hs, hc1, hc2, hc3, Ret_eq Try.results153]; first | done | rfl) (hgk) (by rintro _ rfl; rfl) ?_; rintro _ rfl) | fail)
        exact e
      · repeat' (first | simp only [go_sem, hs, hc1, hc2, hc3, Ret_eq Try.results153] | simp (disch := omega) only [arith, IntKind.bits, capMax, fill_len, elt_fill] | (refine opCallI_rd (by simp only [go_sem, hs, hc1, hc2, hc3, Ret_eq Try.results153]; first | done | rfl) (hgk) (by rintro _ rfl; rfl) ?_; rintro _ rfl) | fail)
        exact ⟨_, rfl, fun _ => e2 rfl, fun _ => by omega⟩
    · obtain rfl : k = l.length := by omega
      rw [List.take_length] at hQ
      repeat' (first | simp only [go_sem, hs, Ret_eq Try.results153] | simp (disch := omega) only [arith, IntKind.bits, capMax, fill_len, elt_fill] | fail)
      exact ⟨_, rfl, fun h => absurd h (by decide), fun h => by rw [hQ] at h; cases h⟩

theorem containsFuncV_fun (l : List (List Int)) (p : List Int → Bool) (g : FuncId) (caps : List D) (hc1 : D.idss caps = []) (hc2 : D.noRefs caps = true) (hc3 : D.nrms caps = caps)
    (hg : ∀ c ∈ l, Fun Try.prog g (.lst (ints .i16 c) :: caps) fun r => r = .v (.bool (p c))) :
    Fun Try.prog 123 [.lst (rows .i16 l), .clos (.func g) caps] fun r => r = .v (.bool (l.any p)) := by
  refine Fun.of_awpI Try.func123 rfl cal123 Try.ntmps123 (by simp) fun hwf => ?_
  simp only [D.wfs, D.wf, ints_length, ints_wfs, rows_length, rows_wfs, capMax, and_true, true_and] at hwf
  repeat' (first | simp only [go_sem, hc1, hc2, hc3, Ret_eq Try.results123] | (refine opCallI_gv (by simp only [go_sem, hc1, hc2, hc3, Ret_eq Try.results123]; first | done | rfl) (indexFuncV_fun l p g caps hc1 hc2 hc3 hg) ?_; rintro _ ⟨z, rfl, hz⟩) | fail)
  rw [Bool.eq_iff_iff, decide_eq_true_eq]
  omega
end Go.Proofs.Ytpkampecmlpfmaa.T

end
section
set_option linter.unusedSimpArgs false
set_option linter.unusedVariables false
/- Few slots, walked. -/
namespace Go.Proofs.Ytpkampecmlpfmaa.T
open Go Go.VL Go.Proofs
set_option maxRecDepth 100000
set_option maxHeartbeats 4000000
def fewSlots (ids : List Int) (vecs : List (List Int)) : Prop := (∀ v ∈ vecs, v.length ≤ 100) ∧ ((ids.length ≤ 60 ∧ vecs.length ≤ 60) ∨ (ids.length = 257 ∧ vecs.length = 257))
instance (ids : List Int) (vecs : List (List Int)) : Decidable (fewSlots ids vecs) := by unfold fewSlots; infer_instance

theorem fewSlots_fun (dim : Int) (ids : List Int) (vecs : List (List Int)) : Fun Try.prog 32 [slotsD dim ids vecs] fun r => r = .v (.bool (decide (fewSlots ids vecs))) := by
  refine Fun.of_awpI Try.func32 rfl cal32 Try.ntmps32 (by simp) fun hwf => ?_
  simp only [D.wfs, D.wf, ints_length, ints_wfs, rows_length, rows_wfs, capMax, and_true, true_and] at hwf
  repeat' (first | simp only [go_sem, Ret_eq Try.results32] | fail)
  refine awpI_for vecs.length (fun k => ∀ i, i < k → (vecs.getD i []).length ≤ 100) (fun k => [(8, .v (.int .i64 k))]) (fun _ => []) [1, 6, 7] [1] _ (Weak.refl _) (fun i hi => absurd hi (Nat.not_lt_zero _)) ?_ ?_ ?_
  · simp only [go_sem, Ret_eq Try.results32]
  · simp only [go_sem, Ret_eq Try.results32]
  · intro k s hk hQ hs
    simp only [go_sem, Ret_eq Try.results32] at hs
    by_cases hka : k < vecs.length
    · by_cases q : (vecs.getD k []).length ≤ 100
      · repeat' (first | simp only [go_sem, hs, Ret_eq Try.results32] | simp (disch := omega) only [arith, IntKind.bits, capMax, fill_len, elt_fill] | (refine Again.up (by omega) ?_ ?_) | fail)
        intro i hi
        by_cases e : i < k
        · exact hQ i e
        · obtain rfl : i = k := by omega
          exact q
      · have hne : ¬ fewSlots ids vecs := fun r => q (r.1 _ (getD_mem (d := []) hka))
        rw [decide_eq_false hne]
        repeat' (first | simp only [go_sem, hs, Ret_eq Try.results32] | simp (disch := omega) only [arith, IntKind.bits, capMax, fill_len, elt_fill] | fail)
    · obtain rfl : k = vecs.length := by omega
      have hall : ∀ v ∈ vecs, v.length ≤ 100 := by
        intro v hv
        obtain ⟨i, hi, rfl⟩ := List.mem_iff_getElem.1 hv
        have := hQ i hi
        simpa [List.getD, hi] using this
      by_cases a : ids.length ≤ 60 ∧ vecs.length ≤ 60
      · rw [decide_eq_true ⟨hall, .inl a⟩]
        repeat' (first | simp only [go_sem, hs, Ret_eq Try.results32] | simp (disch := omega) only [arith, IntKind.bits, capMax, fill_len, elt_fill] | fail)
      · by_cases b : ids.length = 257 ∧ vecs.length = 257
        · rw [decide_eq_true ⟨hall, .inr b⟩]
          obtain ⟨b1, b2⟩ := b
          repeat' (first | simp only [go_sem, hs, b1, b2, Ret_eq Try.results32] | fail)
        · have hne : ¬ fewSlots ids vecs := fun r => r.2.elim a b
          rw [decide_eq_false hne]
          by_cases c1 : ids.length = 257
          · have hbe : ((vecs.length : Int) == 257) = false := beq_eq_false_iff_ne.2 (by omega)
            repeat' (first | simp only [go_sem, hs, c1, hbe, Ret_eq Try.results32] | simp (disch := omega) only [arith, IntKind.bits, capMax, fill_len, elt_fill] | fail)
          · have hbe : ((ids.length : Int) == 257) = false := beq_eq_false_iff_ne.2 (by omega)
            by_cases c2 : ids.length ≤ 60
            · repeat' (first | simp only [go_sem, hs, hbe, Ret_eq Try.results32] | simp (disch := omega) only [arith, IntKind.bits, capMax, fill_len, elt_fill] | fail)
            · repeat' (first | simp only [go_sem, hs, hbe, Ret_eq Try.results32] | simp (disch := omega) only [arith, IntKind.bits, capMax, fill_len, elt_fill] | fail)
end Go.Proofs.Ytpkampecmlpfmaa.T

end
section
set_option linter.unusedSimpArgs false
set_option linter.unusedVariables false
/- What gathers a sample: checked, told the same, new, few; walked. -/
namespace Go.Proofs.Ytpkampecmlpfmaa.T
open Go Go.VL Go.Proofs
set_option maxRecDepth 100000
set_option maxHeartbeats 4000000
def oddV (v : List Int) : Bool := decide (vecErr v ≠ 0)
theorem oddV_none {s : List (List Int)} : s.any oddV = false ↔ ∀ v ∈ s, vecErr v = 0 := by
  rw [List.any_eq_false]
  constructor
  · intro h v hv
    have := h v hv
    unfold oddV at this
    simpa using this
  · intro h v hv
    unfold oddV
    simp [h v hv]

theorem trainOdd_fun (v : List Int) : Fun Try.prog 133 [.lst (ints .i16 v)] fun r => r = .v (.bool (oddV v)) := by
  refine Fun.of_awpI Try.func133 rfl cal133 Try.ntmps133 (by simp) fun hwf => ?_
  simp only [D.wfs, D.wf, ints_length, ints_wfs, rows_length, rows_wfs, capMax, and_true, true_and] at hwf
  unfold oddV
  by_cases h : vecErr v = 0
  · repeat' (first | simp only [go_sem, h, Ret_eq Try.results133] | (refine opCallI_rd (by simp only [go_sem, h, Ret_eq Try.results133]; first | done | rfl) (vecCheck_fun v) (by rintro _ rfl; rfl) ?_; rintro _ rfl) | fail)
    all_goals simp
  · have hb : (vecErr v == 0) = false := beq_eq_false_iff_ne.2 h
    repeat' (first | simp only [go_sem, hb, Ret_eq Try.results133] | (refine opCallI_rd (by simp only [go_sem, hb, Ret_eq Try.results133]; first | done | rfl) (vecCheck_fun v) (by rintro _ rfl; rfl) ?_; rintro _ rfl) | fail)
    all_goals simp [h]
def trainE (a : Int) (s : List (List Int)) : Int := if trainOk a s then 0 else 1

theorem trainCheck_fun (x a : Int) (s : List (List Int)) : Fun Try.prog 75 [trainD x a s] fun r => r = .v (.int .i64 (trainE a s)) := by
  have hc := containsFuncV_fun s oddV 133 [] rfl rfl rfl (fun c _ => trainOdd_fun c)
  refine Fun.of_awpI Try.func75 rfl cal75 Try.ntmps75 (by simp) fun hwf => ?_
  simp only [D.wfs, D.wf, ints_length, ints_wfs, rows_length, rows_wfs, capMax, and_true, true_and] at hwf
  unfold trainE
  by_cases h1 : (s.length : Int) ≤ a
  · by_cases h2 : a ≤ 4096
    · by_cases h3 : s.any oddV = false
      · rw [if_pos ⟨h1, h2, oddV_none.1 h3⟩]
        rw [h3] at hc
        repeat' (first | simp only [go_sem, Ret_eq Try.results75] | simp (disch := omega) only [arith, IntKind.bits, capMax, fill_len, elt_fill] | (refine opCallI_rd (by simp only [go_sem, Ret_eq Try.results75]; first | done | rfl) (hc) (by rintro _ rfl; rfl) ?_; rintro _ rfl) | fail)
      · rw [if_neg (fun q => h3 (oddV_none.2 q.2.2))]
        have h4 : s.any oddV = true := by simpa using h3
        rw [h4] at hc
        repeat' (first | simp only [go_sem, Ret_eq Try.results75] | simp (disch := omega) only [arith, IntKind.bits, capMax, fill_len, elt_fill] | (refine opCallI_rd (by simp only [go_sem, Ret_eq Try.results75]; first | done | rfl) (hc) (by rintro _ rfl; rfl) ?_; rintro _ rfl) | fail)
    · rw [if_neg (fun q => h2 q.2.1)]
      repeat' (first | simp only [go_sem, Ret_eq Try.results75] | simp (disch := omega) only [arith, IntKind.bits, capMax, fill_len, elt_fill] | fail)
  · rw [if_neg (fun q => h1 q.1)]
    repeat' (first | simp only [go_sem, Ret_eq Try.results75] | simp (disch := omega) only [arith, IntKind.bits, capMax, fill_len, elt_fill] | fail)
def chkE (a : Int) (s : List (List Int)) (budget all : Int) : Int := if chkOk a s budget all then 0 else 1

theorem chk_fun (x a : Int) (s : List (List Int)) (budget all : Int) : Fun Try.prog 131 [trainD x a s, .v (.int .i64 budget), .v (.int .i64 all)] fun r => r = .v (.int .i64 (chkE a s budget all)) := by
  have hc := trainCheck_fun x a s
  refine Fun.of_awpI Try.func131 rfl cal131 Try.ntmps131 (by simp) fun hwf => ?_
  simp only [D.wfs, D.wf, ints_length, ints_wfs, rows_length, rows_wfs, capMax, and_true, true_and] at hwf
  unfold chkE
  by_cases h1 : trainOk a s
  · have e1 : trainE a s = 0 := if_pos h1
    rw [e1] at hc
    by_cases h2 : 1 ≤ budget
    · by_cases h3 : budget ≤ 1024
      · by_cases h4 : 0 ≤ all
        · by_cases h5 : all ≤ 4096
          · rw [if_pos ⟨h1, ⟨h2, h3⟩, h4, h5⟩]
            repeat' (first | simp only [go_sem, Ret_eq Try.results131] | simp (disch := omega) only [arith, IntKind.bits, capMax, fill_len, elt_fill] | (refine opCallI_rd (by simp only [go_sem, Ret_eq Try.results131]; first | done | rfl) (hc) (by rintro _ rfl; rfl) ?_; rintro _ rfl) | fail)
          · rw [if_neg (fun q => h5 q.2.2.2)]
            repeat' (first | simp only [go_sem, Ret_eq Try.results131] | simp (disch := omega) only [arith, IntKind.bits, capMax, fill_len, elt_fill] | (refine opCallI_rd (by simp only [go_sem, Ret_eq Try.results131]; first | done | rfl) (hc) (by rintro _ rfl; rfl) ?_; rintro _ rfl) | fail)
        · rw [if_neg (fun q => h4 q.2.2.1)]
          repeat' (first | simp only [go_sem, Ret_eq Try.results131] | simp (disch := omega) only [arith, IntKind.bits, capMax, fill_len, elt_fill] | (refine opCallI_rd (by simp only [go_sem, Ret_eq Try.results131]; first | done | rfl) (hc) (by rintro _ rfl; rfl) ?_; rintro _ rfl) | fail)
      · rw [if_neg (fun q => h3 q.2.1.2)]
        repeat' (first | simp only [go_sem, Ret_eq Try.results131] | simp (disch := omega) only [arith, IntKind.bits, capMax, fill_len, elt_fill] | (refine opCallI_rd (by simp only [go_sem, Ret_eq Try.results131]; first | done | rfl) (hc) (by rintro _ rfl; rfl) ?_; rintro _ rfl) | fail)
    · rw [if_neg (fun q => h2 q.2.1.1)]
      repeat' (first | simp only [go_sem, Ret_eq Try.results131] | simp (disch := omega) only [arith, IntKind.bits, capMax, fill_len, elt_fill] | (refine opCallI_rd (by simp only [go_sem, Ret_eq Try.results131]; first | done | rfl) (hc) (by rintro _ rfl; rfl) ?_; rintro _ rfl) | fail)
  · have e1 : trainE a s = 1 := if_neg h1
    rw [e1] at hc
    rw [if_neg (fun q => h1 q.1)]
    repeat' (first | simp only [go_sem, Ret_eq Try.results131] | (refine opCallI_rd (by simp only [go_sem, Ret_eq Try.results131]; first | done | rfl) (hc) (by rintro _ rfl; rfl) ?_; rintro _ rfl) | fail)

theorem trainSame_fun (x a : Int) (s : List (List Int)) (x2 a2 : Int) (s2 : List (List Int)) : Fun Try.prog 76 [trainD x a s, trainD x2 a2 s2] fun r => r = .v (.bool (decide (x = x2 ∧ a = a2 ∧ s = s2))) := by
  have h3 := equalVecs_fun s s2
  refine Fun.of_awpI Try.func76 rfl cal76 Try.ntmps76 (by simp) fun hwf => ?_
  simp only [D.wfs, D.wf, ints_length, ints_wfs, rows_length, rows_wfs, capMax, and_true, true_and] at hwf
  by_cases g1 : x = x2
  · have b1 : (x == x2) = true := beq_iff_eq.2 g1
    by_cases g2 : a = a2
    · have b2 : (a == a2) = true := beq_iff_eq.2 g2
      have e : decide (x = x2 ∧ a = a2 ∧ s = s2) = decide (s = s2) := by simp [g1, g2]
      rw [e]
      repeat' (first | simp only [go_sem, b1, b2, Ret_eq Try.results76] | (refine opCallI_rd (by simp only [go_sem, b1, b2, Ret_eq Try.results76]; first | done | rfl) (h3) (by rintro _ rfl; rfl) ?_; rintro _ rfl) | fail)
    · have b2 : (a == a2) = false := beq_eq_false_iff_ne.2 g2
      rw [decide_eq_false (fun q => g2 q.2.1)]
      repeat' (first | simp only [go_sem, b1, b2, Ret_eq Try.results76] | fail)
  · have b1 : (x == x2) = false := beq_eq_false_iff_ne.2 g1
    rw [decide_eq_false (fun q => g1 q.1)]
    repeat' (first | simp only [go_sem, b1, Ret_eq Try.results76] | fail)

theorem trainNew_fun (n : Int) (h : 0 ≤ n ∧ n ≤ 9223372036854775807) : Fun Try.prog 77 [.v (.int .i64 n)] fun r => r = .tup [trainD n 0 [], .v (.int .i64 0)] := by
  refine Fun.of_awpI Try.func77 rfl cal77 Try.ntmps77 (by simp) fun hwf => ?_
  simp only [D.wfs, D.wf, ints_length, ints_wfs, rows_length, rows_wfs, capMax, and_true, true_and] at hwf
  repeat' (first | simp only [go_sem, rows_nil, Ret_eq Try.results77] | simp (disch := omega) only [arith, IntKind.bits, capMax, fill_len, elt_fill] | fail)
  all_goals rfl

theorem steps_fun (x a : Int) (s : List (List Int)) (budget all : Int) : Fun Try.prog 82 [trainD x a s, .v (.int .i64 budget), .v (.int .i64 all)] fun r => r = .tup [.v (.int .i64 (if chkOk a s budget all then (max (all - a) 0 + budget - 1) / budget else 0)), .v (.int .i64 (chkE a s budget all))] := by
  have hc := chk_fun x a s budget all
  refine Fun.of_awpI Try.func82 rfl cal82 Try.ntmps82 (by simp) fun hwf => ?_
  simp only [D.wfs, D.wf, ints_length, ints_wfs, rows_length, rows_wfs, capMax, and_true, true_and] at hwf
  by_cases h : chkOk a s budget all
  · have e1 : chkE a s budget all = 0 := if_pos h
    rw [e1] at hc ⊢
    rw [if_pos h]
    obtain ⟨⟨h1, h2, h3⟩, h4, h5⟩ := h
    have e2 : (max (all - a) 0 + budget - 1).tdiv budget = (max (all - a) 0 + budget - 1) / budget := Int.tdiv_eq_ediv_of_nonneg (by omega)
    have e3 : 0 ≤ (max (all - a) 0 + budget - 1) / budget := Int.ediv_nonneg (by omega) (by omega)
    have e4 : (max (all - a) 0 + budget - 1) / budget ≤ max (all - a) 0 + budget - 1 := Int.ediv_le_self _ (by omega)
    have eM : (if 0 > all - a then (0 : Int) else all - a) = max (all - a) 0 := by split <;> omega
    repeat' (first | simp only [go_sem, e2, Ret_eq Try.results82] | simp (disch := omega) only [arith, IntKind.bits, capMax, fill_len, elt_fill] | (refine opCallI_rd (by simp only [go_sem, e2, Ret_eq Try.results82]; first | done | rfl) (hc) (by rintro _ rfl; rfl) ?_; rintro _ rfl) | fail)
    rw [eM, show IntKind.i64.wrap ((max (all - a) 0 + budget - 1) / budget) = (max (all - a) 0 + budget - 1) / budget from IntWalk.i64_in _ (by omega)]
  · have e1 : chkE a s budget all = 1 := if_neg h
    rw [e1] at hc ⊢
    rw [if_neg h]
    repeat' (first | simp only [go_sem, Ret_eq Try.results82] | (refine opCallI_rd (by simp only [go_sem, Ret_eq Try.results82]; first | done | rfl) (hc) (by rintro _ rfl; rfl) ?_; rintro _ rfl) | fail)

theorem trainLive_fun : Fun Try.prog 71 [] fun r => r = .v (.bool true) := by
  have h0 := trainNew_fun 5 (by decide)
  have h1 := steps_fun 5 0 [] 3 7
  rw [if_pos (by decide +kernel), show chkE 0 [] 3 7 = 0 by decide +kernel] at h1
  simp only [trainD, rows_nil] at h0 h1
  refine Fun.of_awpI Try.func71 rfl cal71 Try.ntmps71 (by simp) fun hwf => ?_
  simp only [D.wfs, D.wf, ints_length, ints_wfs, rows_length, rows_wfs, capMax, and_true, true_and] at hwf
  repeat' (first | simp only [go_sem, Ret_eq Try.results71] | simp (disch := omega) only [arith, IntKind.bits, capMax, fill_len, elt_fill] | (refine opCallI_gv (by simp only [go_sem, Ret_eq Try.results71]; first | done | rfl) (h0) ?_; rintro _ rfl) | (refine opCallI_rd (by simp only [go_sem, Ret_eq Try.results71]; first | done | rfl) (h1) (by rintro _ rfl; rfl) ?_; rintro _ rfl) | fail)
def fewT (s : List (List Int)) : Prop := (∀ v ∈ s, v.length ≤ 100) ∧ s.length ≤ 100
instance (s : List (List Int)) : Decidable (fewT s) := by unfold fewT; infer_instance

theorem fewT_fun (x a : Int) (s : List (List Int)) : Fun Try.prog 72 [trainD x a s] fun r => r = .v (.bool (decide (fewT s))) := by
  refine Fun.of_awpI Try.func72 rfl cal72 Try.ntmps72 (by simp) fun hwf => ?_
  simp only [D.wfs, D.wf, ints_length, ints_wfs, rows_length, rows_wfs, capMax, and_true, true_and] at hwf
  repeat' (first | simp only [go_sem, Ret_eq Try.results72] | fail)
  refine awpI_for s.length (fun k => ∀ i, i < k → (s.getD i []).length ≤ 100) (fun k => [(8, .v (.int .i64 k))]) (fun _ => []) [1, 6, 7] [1] _ (Weak.refl _) (fun i hi => absurd hi (Nat.not_lt_zero _)) ?_ ?_ ?_
  · simp only [go_sem, Ret_eq Try.results72]
  · simp only [go_sem, Ret_eq Try.results72]
  · intro k st hk hQ hs
    simp only [go_sem, Ret_eq Try.results72] at hs
    by_cases hka : k < s.length
    · by_cases q : (s.getD k []).length ≤ 100
      · repeat' (first | simp only [go_sem, hs, Ret_eq Try.results72] | simp (disch := omega) only [arith, IntKind.bits, capMax, fill_len, elt_fill] | (refine Again.up (by omega) ?_ ?_) | fail)
        intro i hi
        by_cases e : i < k
        · exact hQ i e
        · obtain rfl : i = k := by omega
          exact q
      · have hne : ¬ fewT s := fun r => q (r.1 _ (getD_mem (d := []) hka))
        rw [decide_eq_false hne]
        repeat' (first | simp only [go_sem, hs, Ret_eq Try.results72] | simp (disch := omega) only [arith, IntKind.bits, capMax, fill_len, elt_fill] | fail)
    · obtain rfl : k = s.length := by omega
      have hall : ∀ v ∈ s, v.length ≤ 100 := by
        intro v hv
        obtain ⟨i, hi, rfl⟩ := List.mem_iff_getElem.1 hv
        have := hQ i hi
        simpa [List.getD, hi] using this
      by_cases a : s.length ≤ 100
      · rw [decide_eq_true ⟨hall, a⟩]
        repeat' (first | simp only [go_sem, hs, Ret_eq Try.results72] | simp (disch := omega) only [arith, IntKind.bits, capMax, fill_len, elt_fill] | fail)
        exact decide_eq_true (by omega)
      · rw [decide_eq_false (fun q => a q.2)]
        repeat' (first | simp only [go_sem, hs, Ret_eq Try.results72] | simp (disch := omega) only [arith, IntKind.bits, capMax, fill_len, elt_fill] | fail)
        exact decide_eq_false (by omega)

theorem sameVecs_fun (a b : List (List Int)) : Fun Try.prog 74 [.lst (rows .i16 a), .lst (rows .i16 b)] fun r => r = .v (.bool (decide (a = b))) := by
  refine Fun.of_awpI Try.func74 rfl cal74 Try.ntmps74 (by simp) fun hwf => ?_
  simp only [D.wfs, D.wf, ints_length, ints_wfs, rows_length, rows_wfs, capMax, and_true, true_and] at hwf
  by_cases hl : a.length = b.length
  · repeat' (first | simp only [go_sem, hl, bne_self_eq_false, Ret_eq Try.results74] | fail)
    refine awpI_for b.length (fun k => a.take k = b.take k) (fun k => [(13, .v (.int .i64 k))]) (fun _ => []) [0, 1, 12] [] _ (Weak.refl _) (by simp) ?_ ?_ ?_
    · simp only [go_sem, Ret_eq Try.results74]
    · simp only [go_sem, Ret_eq Try.results74]
    · intro k s hk hQ hs
      simp only [go_sem, Ret_eq Try.results74] at hs
      by_cases hka : k < b.length
      · have hka2 : k < a.length := by omega
        have e1 := take_snoc (a := a) (d := ([] : List Int)) hka2
        have e2 := take_snoc (a := b) (d := ([] : List Int)) hka
        have hs1 := refSame16_fun (a.getD k []) (b.getD k [])
        by_cases hv : a.getD k [] = b.getD k []
        · rw [decide_eq_true hv] at hs1
          repeat' (first | simp only [go_sem, hs, Ret_eq Try.results74] | simp (disch := omega) only [arith, IntKind.bits, capMax, fill_len, elt_fill] | (refine awpI_draw2 (id := 6) (.one false 0 (.one false 1 (.one false 2 (.one false 3 (.one false 4 (.one false 5 (.one false 6 (.one false 7 (.only 8 (.one false 9 .done)))))))))) mixed (by decide +kernel) (by decide +kernel) ?_) | (refine Again.up (by omega) ?_ ?_) | (refine opCallI_rd (by simp only [go_sem, hs, Ret_eq Try.results74]; first | done | rfl) (hs1) (by rintro _ rfl; rfl) ?_; rintro _ rfl) | fail)
          rw [e1, e2, hQ, hv]
        · rw [decide_eq_false hv] at hs1
          have hne : a ≠ b := fun q => hv (by rw [q])
          repeat' (first | simp only [go_sem, hs, decide_eq_false hne, Ret_eq Try.results74] | simp (disch := omega) only [arith, IntKind.bits, capMax, fill_len, elt_fill] | (refine awpI_draw2 (id := 6) (.one false 0 (.one false 1 (.one false 2 (.one false 3 (.one false 4 (.one false 5 (.one false 6 (.one false 7 (.only 8 (.one false 9 .done)))))))))) mixed (by decide +kernel) (by decide +kernel) ?_) | (refine opCallI_rd (by simp only [go_sem, hs, decide_eq_false hne, Ret_eq Try.results74]; first | done | rfl) (hs1) (by rintro _ rfl; rfl) ?_; rintro _ rfl) | fail)
      · obtain rfl : k = b.length := by omega
        have hQ3 : a = b := by
          rw [List.take_length, ← hl, List.take_length] at hQ; exact hQ
        repeat' (first | simp only [go_sem, hs, decide_eq_true hQ3, Ret_eq Try.results74] | simp (disch := omega) only [arith, IntKind.bits, capMax, fill_len, elt_fill] | fail)
  · have hne : a ≠ b := fun q => hl (by rw [q])
    have hb : ((a.length : Int) == (b.length : Int)) = false := beq_eq_false_iff_ne.2 (by omega)
    repeat' (first | simp only [go_sem, decide_eq_false hne, hb, Ret_eq Try.results74] | simp (disch := omega) only [arith, IntKind.bits, capMax, fill_len, elt_fill] | fail)
end Go.Proofs.Ytpkampecmlpfmaa.T

end
section
set_option linter.unusedSimpArgs false
set_option linter.unusedVariables false
/- A step, walked. -/
namespace Go.Proofs.Ytpkampecmlpfmaa.T
open Go Go.VL Go.Proofs
set_option maxRecDepth 100000
set_option maxHeartbeats 8000000
/-- What is gathered so far, as it lies in memory: nothing, what stood ahead, or what came behind. -/
def trObj (x a : Int) (s g : List (List Int)) : List (Nat × Own) :=
  match s, g with
  | [], [] => [(14, ⟨99, 3, [.agg [.v (.int .u64 x), .v (.int .i64 a), .v (.slice none 0 0)]]⟩)]
  | [], c :: r => [(14, ⟨99, 3, [.agg [.v (.int .u64 x), .v (.int .i64 a), .ref 94 (c :: r).length]]⟩), (94, ⟨46, 1, rows .i16 (c :: r)⟩)]
  | c :: r, g => [(14, ⟨99, 3, [.agg [.v (.int .u64 x), .v (.int .i64 a), .ref 70 (c :: (r ++ g)).length]]⟩), (70, ⟨46, 1, rows .i16 (c :: (r ++ g))⟩)]

theorem step_fun (x a : Int) (s : List (List Int)) (dim : Int) (ids : List Int) (vecs : List (List Int)) (budget all : Int) (hk : chkOk a s budget all) (ho : slotsOk dim ids vecs) (hl : s.length ≤ 4096)
    (hv1 : ∀ c ∈ s, c.length ≤ 500) (hv2 : ∀ c ∈ vecs, c.length ≤ 500) :
    Fun Try.prog 73 [trainD x a s, slotsD dim ids vecs, .v (.int .i64 budget), .v (.int .i64 all)] fun r =>
      r = .tup [trainD (nx x (stepN a budget all)) (a + stepN a budget all) (s ++ gathered x ids vecs (stepN a budget all)), .v (.bool (decide (all ≤ a + stepN a budget all))), .v (.int .i64 0)] := by
  have hc1 := chk_fun x a s budget all
  rw [show chkE a s budget all = 0 from if_pos hk] at hc1
  have hc2 := slotsCheck_fun dim ids vecs
  rw [show slotsErr dim ids vecs = 0 from if_pos ho] at hc2
  obtain ⟨⟨k1, k2, k3⟩, k4, k5⟩ := hk
  have o1 := ho.2.1
  have o2 := ho.2.2.1
  have eN : ((stepN a budget all : Nat) : Int) = min budget (max (all - a) 0) := by unfold stepN; omega
  have eM : (if 0 > all - a then (0 : Int) else all - a) = max (all - a) 0 := by split <;> omega
  have eM2 : (if max (all - a) 0 < budget then max (all - a) 0 else budget) = min budget (max (all - a) 0) := by split <;> omega
  have hlo := lots_fun x ids.length (stepN a budget all) (by omega) (by omega)
  have hle := lotsL_length x ids.length (stepN a budget all)
  have hmem := lotsL_mem (x := x) (b := ids.length) (by omega) (stepN a budget all)
  rw [eN] at hlo
  unfold gathered
  generalize hL : lotsL x ids.length (stepN a budget all) = L at *
  generalize nx x (stepN a budget all) = y at *
  generalize hm : stepN a budget all = m at *
  refine Fun.of_awpI Try.func73 rfl cal73 Try.ntmps73 (by simp) fun hwf => ?_
  simp only [D.wfs, D.wf, ints_length, ints_wfs, rows_length, rows_wfs, capMax, and_true, true_and] at hwf
  have hgl := gat_length (ids := ids) (vecs := vecs) L
  repeat' (first | simp only [go_sem, hle, eM, eM2, Ret_eq Try.results73] | simp (disch := omega) only [arith, IntKind.bits, capMax, fill_len, elt_fill] | (refine opCallI_rd (by simp only [go_sem, hle, eM, eM2, Ret_eq Try.results73]; first | done | rfl) (hc1) (by rintro _ rfl; rfl) ?_; rintro _ rfl) | (refine opCallI_rd (by simp only [go_sem, hle, eM, eM2, Ret_eq Try.results73]; first | done | rfl) (hc2) (by rintro _ rfl; rfl) ?_; rintro _ rfl) | (refine opCallI_gv (by simp only [go_sem, hle, eM, eM2, Ret_eq Try.results73]; first | done | rfl) (hlo) ?_; rintro _ rfl) | fail)
  refine awpI_for s.length (fun k => True) (fun k => [(61, .v (.int .i64 k))]) (fun k => trObj y (a + m) (s.take k) []) [3, 5, 8, 11, 14, 59, 60] [5, 8] _ (Weak.refl _) trivial ?_ ?_ ?_
  · simp only [go_sem, Ret_eq Try.results73]
  · simp only [go_sem, List.take_zero, trObj, Ret_eq Try.results73]
  · intro k st hk _ hs
    by_cases hka : k < s.length
    · have e := take_snoc (a := s) (d := ([] : List Int)) hka
      have hcl := clone16p_fun (s.getD k []) (hv1 _ (getD_mem (d := []) hka))
      have hlt : (s.take k).length = k := by rw [List.length_take]; omega
      cases hc : s.take k with
      | nil =>
        rw [hc] at hlt e
        simp only [go_sem, hc, trObj, List.append_nil, Ret_eq Try.results73] at hs
        have hk0 : k = 0 := by rw [← hlt]; rfl
        subst hk0
        repeat' (first | simp only [go_sem, hs, e, trObj, List.nil_append, List.append_nil, List.length_cons, List.length_nil, Ret_eq Try.results73] | simp (disch := omega) only [arith, IntKind.bits, capMax, fill_len, elt_fill] | (refine awpI_draw2 (id := 10) (.one false 2 (.two 0 3 (.two 1 3 (.only 3 (.only 4 (.only 5 (.one false 6 (.only 7 .done))))) (.fam 1 [4] [69] [68] (.only 4 (.only 5 (.one false 6 (.only 7 .done)))))) (.fam 0 [4] [69] [68] (.fam 1 [4] [69] [68] (.only 4 (.only 5 (.one false 6 (.only 7 .done)))))))) mixed (by decide +kernel) (by decide +kernel) ?_) | (refine sch2I_two ?_ ?_) | (refine Again.up (by omega) ?_ ?_) | (refine opCallI_gv (by simp only [go_sem, hs, e, trObj, List.nil_append, List.append_nil, List.length_cons, List.length_nil, Ret_eq Try.results73]; first | done | rfl) (hcl) ?_; rintro _ rfl) | fail)
        all_goals exact ⟨rfl, rfl⟩
      | cons b r =>
        rw [hc] at hlt e
        simp only [go_sem, hc, trObj, List.append_nil, Ret_eq Try.results73] at hs
        have hrl : r.length ≤ 4096 := by have : (b :: r).length = r.length + 1 := rfl; omega
        repeat' (first | simp only [go_sem, hs, e, trObj, List.append_nil, List.cons_append, List.length_cons, List.length_append, List.length_nil, Ret_eq Try.results73] | simp (disch := omega) only [arith, IntKind.bits, capMax, fill_len, elt_fill] | (refine awpI_draw2 (id := 10) (.one false 2 (.two 0 3 (.two 1 3 (.only 3 (.only 4 (.only 5 (.one false 6 (.only 7 .done))))) (.fam 1 [4] [69] [68] (.only 4 (.only 5 (.one false 6 (.only 7 .done)))))) (.fam 0 [4] [69] [68] (.fam 1 [4] [69] [68] (.only 4 (.only 5 (.one false 6 (.only 7 .done)))))))) mixed (by decide +kernel) (by decide +kernel) ?_) | (refine sch2I_two ?_ ?_) | (refine Again.up (by omega) ?_ ?_) | (refine opCallI_gv (by simp only [go_sem, hs, e, trObj, List.append_nil, List.cons_append, List.length_cons, List.length_append, List.length_nil, Ret_eq Try.results73]; first | done | rfl) (hcl) ?_; rintro _ rfl) | fail)
    · obtain rfl : k = s.length := by omega
      have ht0 : s.take s.length = s := List.take_length
      cases s with
      | nil =>
        simp only [go_sem, trObj, List.take_nil, Ret_eq Try.results73] at hs
        repeat' (first | simp only [go_sem, hs, hle, Ret_eq Try.results73] | fail)
        refine awpI_for m (fun k => True) (fun k => [(75, .v (.int .i64 k))]) (fun k => trObj y (a + m) [] (gat ids vecs (L.take k))) [3, 5, 8, 14, 73, 74] [5, 8] _ (Weak.refl _) trivial ?_ ?_ ?_
        · simp only [go_sem, hs, Ret_eq Try.results73]
        · simp only [go_sem, hs, List.take_zero, gat, trObj, List.append_nil, Ret_eq Try.results73]
        · intro k st2 hk2 _ hs2
          by_cases hka : k < m
          · obtain ⟨m1, m2⟩ := hmem _ (getD_mem (a := L) (d := 0) (k := k) (by omega))
            have e2 := take_snoc (a := L) (d := (0 : Int)) (k := k) (by omega)
            have hgk := gat_length (ids := ids) (vecs := vecs) (L.take k)
            rw [List.length_take] at hgk
            have e3 : gat ids vecs (L.take (k + 1)) = gat ids vecs (L.take k) ++ gat ids vecs [L.getD k 0] := by rw [e2, gat_append]
            have ej : L.getD k 0 = (((L.getD k 0).toNat : Nat) : Int) := by omega
            have e4 : gat ids vecs [L.getD k 0] = if ids.getD (L.getD k 0).toNat 0 = -1 then [] else [vecs.getD (L.getD k 0).toNat []] := rfl
            have hj : (L.getD k 0).toNat < ids.length := by omega
            generalize (L.getD k 0).toNat = j at *
            by_cases q : ids.getD j 0 = -1
            · rw [e4, if_pos q, List.append_nil] at e3
              cases hg : gat ids vecs (L.take k) with
              | nil =>
                rw [hg] at e3
                simp only [go_sem, hs, hg, trObj, List.append_nil, Ret_eq Try.results73] at hs2
                repeat' (first | simp only [go_sem, hs, hs2, ej, q, e3, trObj, List.append_nil, beq_self_eq_true, Ret_eq Try.results73] | simp (disch := omega) only [arith, IntKind.bits, capMax, fill_len, elt_fill] | (refine Again.up (by omega) ?_ ?_) | fail)
              | cons b r =>
                rw [hg] at e3
                simp only [go_sem, hs, hg, trObj, List.append_nil, Ret_eq Try.results73] at hs2
                repeat' (first | simp only [go_sem, hs, hs2, ej, q, e3, trObj, List.append_nil, beq_self_eq_true, Ret_eq Try.results73] | simp (disch := omega) only [arith, IntKind.bits, capMax, fill_len, elt_fill] | (refine Again.up (by omega) ?_ ?_) | fail)
            · rw [e4, if_neg q] at e3
              have qb : (ids.getD j 0 == -1) = false := beq_eq_false_iff_ne.2 q
              have hcl := clone16p_fun (vecs.getD j []) (hv2 _ (getD_mem (d := []) (by omega)))
              cases hg : gat ids vecs (L.take k) with
              | nil =>
                rw [hg] at e3
                simp only [go_sem, hs, hg, trObj, List.append_nil, Ret_eq Try.results73] at hs2
                repeat' (first | simp only [go_sem, hs, hs2, ej, qb, e3, trObj, List.nil_append, List.append_nil, List.cons_append, List.length_cons, List.length_append, List.length_nil, Ret_eq Try.results73] | simp (disch := omega) only [arith, IntKind.bits, capMax, fill_len, elt_fill] | (refine awpI_draw2 (id := 16) (.one false 2 (.one false 3 (.one false 4 (.one false 5 (.one false 6 (.two 0 7 (.two 1 7 (.only 7 (.only 8 (.only 9 (.one false 10 (.only 11 .done))))) (.fam 1 [8] [93] [92] (.only 8 (.only 9 (.one false 10 (.only 11 .done)))))) (.fam 0 [8] [93] [92] (.fam 1 [8] [93] [92] (.only 8 (.only 9 (.one false 10 (.only 11 .done)))))))))))) mixed (by decide +kernel) (by decide +kernel) ?_) | (refine sch2I_two ?_ ?_) | (refine Again.up (by omega) ?_ ?_) | (refine opCallI_gv (by simp only [go_sem, hs, hs2, ej, qb, e3, trObj, List.nil_append, List.append_nil, List.cons_append, List.length_cons, List.length_append, List.length_nil, Ret_eq Try.results73]; first | done | rfl) (hcl) ?_; rintro _ rfl) | fail)
                all_goals rfl
              | cons b r =>
                rw [hg] at e3 hgk
                have hrl : r.length ≤ 4096 := by have : (b :: r).length = r.length + 1 := rfl; omega
                simp only [go_sem, hs, hg, trObj, List.append_nil, Ret_eq Try.results73] at hs2
                repeat' (first | simp only [go_sem, hs, hs2, ej, qb, e3, trObj, List.nil_append, List.append_nil, List.cons_append, List.length_cons, List.length_append, List.length_nil, Ret_eq Try.results73] | simp (disch := omega) only [arith, IntKind.bits, capMax, fill_len, elt_fill] | (refine awpI_draw2 (id := 16) (.one false 2 (.one false 3 (.one false 4 (.one false 5 (.one false 6 (.two 0 7 (.two 1 7 (.only 7 (.only 8 (.only 9 (.one false 10 (.only 11 .done))))) (.fam 1 [8] [93] [92] (.only 8 (.only 9 (.one false 10 (.only 11 .done)))))) (.fam 0 [8] [93] [92] (.fam 1 [8] [93] [92] (.only 8 (.only 9 (.one false 10 (.only 11 .done)))))))))))) mixed (by decide +kernel) (by decide +kernel) ?_) | (refine sch2I_two ?_ ?_) | (refine Again.up (by omega) ?_ ?_) | (refine opCallI_gv (by simp only [go_sem, hs, hs2, ej, qb, e3, trObj, List.nil_append, List.append_nil, List.cons_append, List.length_cons, List.length_append, List.length_nil, Ret_eq Try.results73]; first | done | rfl) (hcl) ?_; rintro _ rfl) | fail)
                all_goals rfl
          · obtain rfl : k = m := by omega
            have ht : L.take k = L := List.take_of_length_le (by omega)
            rw [hle] at hgl
            cases hg : gat ids vecs L with
            | nil =>
              rw [hg] at hgl
              simp only [go_sem, hs, ht, hg, trObj, List.append_nil, Ret_eq Try.results73] at hs2
              repeat' (first | simp only [go_sem, hs, hs2, List.append_nil, Ret_eq Try.results73] | simp (disch := omega) only [arith, IntKind.bits, capMax, fill_len, elt_fill] | (refine awpI_draw2 (id := 18) (.one false 0 (.cal 1 [5] (.cal 2 [5] (.cal 3 [5] (.cal 4 [5] (.only 5 (.one false 6 (.one false 7 .done)))))))) mixed (by decide +kernel) (by decide +kernel) ?_) | fail)
              all_goals first | rfl | skip
            | cons b r =>
              rw [hg] at hgl
              have hrl : r.length ≤ 4096 := by have : (b :: r).length = r.length + 1 := rfl; omega
              simp only [go_sem, hs, ht, hg, trObj, List.append_nil, Ret_eq Try.results73] at hs2
              repeat' (first | simp only [go_sem, hs, hs2, List.nil_append, List.cons_append, List.length_cons, List.length_append, List.length_nil, Ret_eq Try.results73] | simp (disch := omega) only [arith, IntKind.bits, capMax, fill_len, elt_fill] | (refine awpI_draw2 (id := 18) (.one false 0 (.cal 1 [5] (.cal 2 [5] (.cal 3 [5] (.cal 4 [5] (.only 5 (.one false 6 (.one false 7 .done)))))))) mixed (by decide +kernel) (by decide +kernel) ?_) | fail)
      | cons c0 r0 =>
        have hl0 : r0.length ≤ 4096 := by have : (c0 :: r0).length = r0.length + 1 := rfl; omega
        simp only [go_sem, ht0, trObj, List.append_nil, Ret_eq Try.results73] at hs
        repeat' (first | simp only [go_sem, hs, hle, Ret_eq Try.results73] | simp (disch := omega) only [arith, IntKind.bits, capMax, fill_len, elt_fill] | fail)
        refine awpI_for m (fun k => True) (fun k => [(75, .v (.int .i64 k))]) (fun k => trObj y (a + m) (c0 :: r0) (gat ids vecs (L.take k))) [3, 5, 8, 14, 73, 74] [5, 8] _ (Weak.refl _) trivial ?_ ?_ ?_
        · simp only [go_sem, hs, Ret_eq Try.results73]
        · simp only [go_sem, hs, List.take_zero, gat, trObj, List.append_nil, Ret_eq Try.results73]
        · intro k st2 hk2 _ hs2
          by_cases hka : k < m
          · obtain ⟨m1, m2⟩ := hmem _ (getD_mem (a := L) (d := 0) (k := k) (by omega))
            have e2 := take_snoc (a := L) (d := (0 : Int)) (k := k) (by omega)
            have hgk := gat_length (ids := ids) (vecs := vecs) (L.take k)
            rw [List.length_take] at hgk
            have e3 : gat ids vecs (L.take (k + 1)) = gat ids vecs (L.take k) ++ gat ids vecs [L.getD k 0] := by rw [e2, gat_append]
            have ej : L.getD k 0 = (((L.getD k 0).toNat : Nat) : Int) := by omega
            have e4 : gat ids vecs [L.getD k 0] = if ids.getD (L.getD k 0).toNat 0 = -1 then [] else [vecs.getD (L.getD k 0).toNat []] := rfl
            have hj : (L.getD k 0).toNat < ids.length := by omega
            generalize (L.getD k 0).toNat = j at *
            by_cases q : ids.getD j 0 = -1
            · rw [e4, if_pos q, List.append_nil] at e3
              cases hg : gat ids vecs (L.take k) with
              | nil =>
                rw [hg] at e3
                simp only [go_sem, hs, hg, trObj, List.append_nil, Ret_eq Try.results73] at hs2
                repeat' (first | simp only [go_sem, hs, hs2, ej, q, e3, trObj, List.append_nil, beq_self_eq_true, Ret_eq Try.results73] | simp (disch := omega) only [arith, IntKind.bits, capMax, fill_len, elt_fill] | (refine Again.up (by omega) ?_ ?_) | fail)
              | cons b r =>
                rw [hg] at e3
                simp only [go_sem, hs, hg, trObj, List.append_nil, Ret_eq Try.results73] at hs2
                repeat' (first | simp only [go_sem, hs, hs2, ej, q, e3, trObj, List.append_nil, beq_self_eq_true, Ret_eq Try.results73] | simp (disch := omega) only [arith, IntKind.bits, capMax, fill_len, elt_fill] | (refine Again.up (by omega) ?_ ?_) | fail)
            · rw [e4, if_neg q] at e3
              have qb : (ids.getD j 0 == -1) = false := beq_eq_false_iff_ne.2 q
              have hcl := clone16p_fun (vecs.getD j []) (hv2 _ (getD_mem (d := []) (by omega)))
              cases hg : gat ids vecs (L.take k) with
              | nil =>
                rw [hg] at e3
                simp only [go_sem, hs, hg, trObj, List.append_nil, Ret_eq Try.results73] at hs2
                repeat' (first | simp only [go_sem, hs, hs2, ej, qb, e3, trObj, List.nil_append, List.append_nil, List.cons_append, List.length_cons, List.length_append, List.length_nil, Ret_eq Try.results73] | simp (disch := omega) only [arith, IntKind.bits, capMax, fill_len, elt_fill] | (refine awpI_draw2 (id := 16) (.one false 2 (.one false 3 (.one false 4 (.one false 5 (.one false 6 (.two 0 7 (.two 1 7 (.only 7 (.only 8 (.only 9 (.one false 10 (.only 11 .done))))) (.fam 1 [8] [93] [92] (.only 8 (.only 9 (.one false 10 (.only 11 .done)))))) (.fam 0 [8] [93] [92] (.fam 1 [8] [93] [92] (.only 8 (.only 9 (.one false 10 (.only 11 .done)))))))))))) mixed (by decide +kernel) (by decide +kernel) ?_) | (refine sch2I_two ?_ ?_) | (refine Again.up (by omega) ?_ ?_) | (refine opCallI_gv (by simp only [go_sem, hs, hs2, ej, qb, e3, trObj, List.nil_append, List.append_nil, List.cons_append, List.length_cons, List.length_append, List.length_nil, Ret_eq Try.results73]; first | done | rfl) (hcl) ?_; rintro _ rfl) | fail)
                all_goals rfl
              | cons b r =>
                rw [hg] at e3 hgk
                have hrl : r.length ≤ 4096 := by have : (b :: r).length = r.length + 1 := rfl; omega
                simp only [go_sem, hs, hg, trObj, List.append_nil, Ret_eq Try.results73] at hs2
                repeat' (first | simp only [go_sem, hs, hs2, ej, qb, e3, trObj, List.nil_append, List.append_nil, List.cons_append, List.length_cons, List.length_append, List.length_nil, Ret_eq Try.results73] | simp (disch := omega) only [arith, IntKind.bits, capMax, fill_len, elt_fill] | (refine awpI_draw2 (id := 16) (.one false 2 (.one false 3 (.one false 4 (.one false 5 (.one false 6 (.two 0 7 (.two 1 7 (.only 7 (.only 8 (.only 9 (.one false 10 (.only 11 .done))))) (.fam 1 [8] [93] [92] (.only 8 (.only 9 (.one false 10 (.only 11 .done)))))) (.fam 0 [8] [93] [92] (.fam 1 [8] [93] [92] (.only 8 (.only 9 (.one false 10 (.only 11 .done)))))))))))) mixed (by decide +kernel) (by decide +kernel) ?_) | (refine sch2I_two ?_ ?_) | (refine Again.up (by omega) ?_ ?_) | (refine opCallI_gv (by simp only [go_sem, hs, hs2, ej, qb, e3, trObj, List.nil_append, List.append_nil, List.cons_append, List.length_cons, List.length_append, List.length_nil, Ret_eq Try.results73]; first | done | rfl) (hcl) ?_; rintro _ rfl) | fail)
                all_goals rfl
          · obtain rfl : k = m := by omega
            have ht : L.take k = L := List.take_of_length_le (by omega)
            rw [hle] at hgl
            cases hg : gat ids vecs L with
            | nil =>
              rw [hg] at hgl
              simp only [go_sem, hs, ht, hg, trObj, List.append_nil, Ret_eq Try.results73] at hs2
              repeat' (first | simp only [go_sem, hs, hs2, List.append_nil, Ret_eq Try.results73] | simp (disch := omega) only [arith, IntKind.bits, capMax, fill_len, elt_fill] | (refine awpI_draw2 (id := 18) (.one false 0 (.cal 1 [5] (.cal 2 [5] (.cal 3 [5] (.cal 4 [5] (.only 5 (.one false 6 (.one false 7 .done)))))))) mixed (by decide +kernel) (by decide +kernel) ?_) | fail)
              all_goals first | rfl | skip
            | cons b r =>
              rw [hg] at hgl
              have hrl : r.length ≤ 4096 := by have : (b :: r).length = r.length + 1 := rfl; omega
              simp only [go_sem, hs, ht, hg, trObj, List.append_nil, Ret_eq Try.results73] at hs2
              repeat' (first | simp only [go_sem, hs, hs2, List.nil_append, List.cons_append, List.length_cons, List.length_append, List.length_nil, Ret_eq Try.results73] | simp (disch := omega) only [arith, IntKind.bits, capMax, fill_len, elt_fill] | (refine awpI_draw2 (id := 18) (.one false 0 (.cal 1 [5] (.cal 2 [5] (.cal 3 [5] (.cal 4 [5] (.only 5 (.one false 6 (.one false 7 .done)))))))) mixed (by decide +kernel) (by decide +kernel) ?_) | fail)
              rw [List.take_of_length_le (by simp only [List.length_append, List.length_cons]; omega)]

theorem step_bad (x a : Int) (s : List (List Int)) (dim : Int) (ids : List Int) (vecs : List (List Int)) (budget all : Int) (h : ¬ (chkOk a s budget all ∧ slotsOk dim ids vecs)) :
    Fun Try.prog 73 [trainD x a s, slotsD dim ids vecs, .v (.int .i64 budget), .v (.int .i64 all)] fun r => r = .tup [trainD 0 0 [], .v (.bool false), .v (.int .i64 1)] := by
  have hc1 := chk_fun x a s budget all
  have hc2 := slotsCheck_fun dim ids vecs
  by_cases hk : chkOk a s budget all
  · rw [show chkE a s budget all = 0 from if_pos hk] at hc1
    rw [show slotsErr dim ids vecs = 1 from if_neg (fun q => h ⟨hk, q⟩)] at hc2
    refine Fun.of_awpI Try.func73 rfl cal73 Try.ntmps73 (by simp) fun hwf => ?_
    simp only [D.wfs, D.wf, ints_length, ints_wfs, rows_length, rows_wfs, capMax, and_true, true_and] at hwf
    repeat' (first | simp only [go_sem, rows_nil, Ret_eq Try.results73] | (refine opCallI_rd (by simp only [go_sem, rows_nil, Ret_eq Try.results73]; first | done | rfl) (hc1) (by rintro _ rfl; rfl) ?_; rintro _ rfl) | (refine opCallI_rd (by simp only [go_sem, rows_nil, Ret_eq Try.results73]; first | done | rfl) (hc2) (by rintro _ rfl; rfl) ?_; rintro _ rfl) | fail)
    all_goals rfl
  · rw [show chkE a s budget all = 1 from if_neg hk] at hc1
    refine Fun.of_awpI Try.func73 rfl cal73 Try.ntmps73 (by simp) fun hwf => ?_
    simp only [D.wfs, D.wf, ints_length, ints_wfs, rows_length, rows_wfs, capMax, and_true, true_and] at hwf
    repeat' (first | simp only [go_sem, rows_nil, Ret_eq Try.results73] | (refine opCallI_rd (by simp only [go_sem, rows_nil, Ret_eq Try.results73]; first | done | rfl) (hc1) (by rintro _ rfl; rfl) ?_; rintro _ rfl) | fail)
    all_goals rfl
end Go.Proofs.Ytpkampecmlpfmaa.T

end
section
set_option linter.unusedSimpArgs false
set_option linter.unusedVariables false
/- A book's text, plainly. -/
namespace Go.Proofs.Ytpkampecmlpfmaa.T
open Go Go.VL Go.Proofs
abbrev bookD (w : Int) (cuts : List (List Int)) : D := .agg [.v (.int .i64 w), .lst (rows .i16 cuts)]
def bookTxt (w : Int) (cuts : List (List Int)) : List Int := octs 8 w ++ [(cuts.length : Int), (manyOf cuts : Int)] ++ cuts.flatten.flatMap (octs 2)
def bytesB (w : Int) (cuts : List (List Int)) : List Int := if bookErr w cuts = 0 then bookTxt w cuts else []
def wayT (t : List Int) : Int := takeNum 8 t
def dimT (t : List Int) : Nat := (t.getD 8 0).toNat
def mnyT (t : List Int) : Nat := (t.getD 9 0).toNat
def numsT (t : List Int) : List Int := takeNums 2 (dimT t * mnyT t) (t.drop 10)
def cutT (l : List Int) (m : Nat) (i : Nat) : List Int := (List.range m).map fun k => l.getD (i * m + k) 0
def cutsT (t : List Int) : List (List Int) := (List.range (dimT t)).map (cutT (numsT t) (mnyT t))
def fromOk (t : List Int) : Prop := 10 ≤ t.length ∧ t.length = 10 + 2 * (dimT t * mnyT t) ∧ bookErr (wayT t) (cutsT t) = 0
instance (t : List Int) : Decidable (fromOk t) := by unfold fromOk; infer_instance
def fromE (t : List Int) : Int := if fromOk t then 0 else 2
def fromW (t : List Int) : Int := if fromOk t then wayT t else 0
def fromC (t : List Int) : List (List Int) := if fromOk t then cutsT t else []
def sizesOk (dim cells : Int) : Prop := (1 ≤ dim ∧ dim ≤ 64) ∧ 1 ≤ cells ∧ cells ≤ 16
instance (dim cells : Int) : Decidable (sizesOk dim cells) := by unfold sizesOk; infer_instance
def sizeE (dim cells : Int) : Int := if sizesOk dim cells then 0 else 1
def sizeV (dim cells : Int) : Int := if sizesOk dim cells then 10 + 2 * dim * (cells - 1) else 0
def plainCut (cells : Int) (k : Nat) : Int := ((k : Int) + 1) * 65536 / cells - 32768
def plainRow (cells : Int) : List Int := (List.range (cells - 1).toNat).map (plainCut cells)
def plainC (dim cells : Int) : List (List Int) := if sizesOk dim cells then List.replicate dim.toNat (plainRow cells) else []
theorem cutT_length {l : List Int} {m i : Nat} : (cutT l m i).length = m := by simp [cutT]
theorem cutsT_length {t : List Int} : (cutsT t).length = dimT t := by simp [cutsT]
theorem flat_cuts (l : List Int) (m : Nat) : ∀ d, ((List.range d).map (cutT l m)).flatten = (List.range (d * m)).map fun k => l.getD k 0
  | 0 => by simp
  | d + 1 => by
    rw [List.range_succ, List.map_append, List.flatten_append, flat_cuts l m d, Nat.succ_mul, List.range_add, List.map_append]
    simp only [List.map_cons, List.map_nil, List.flatten_cons, List.flatten_nil, List.append_nil, List.map_map]
    rfl
theorem range_getD (l : List Int) : ((List.range l.length).map fun k => l.getD k 0) = l := by
  apply List.ext_getElem
  · simp
  · intro i h1 h2
    simp [List.getD, h2]
theorem cutsT_flat {t : List Int} : (cutsT t).flatten = numsT t := by
  unfold cutsT
  rw [flat_cuts]
  have h : (numsT t).length = dimT t * mnyT t := takeNums_length _ _ _
  rw [← h]; exact range_getD _
theorem flat_length {m : Nat} : ∀ {c : List (List Int)}, (∀ x ∈ c, x.length = m) → c.flatten.length = c.length * m
  | [], _ => by simp
  | x :: c, h => by
    rw [List.flatten_cons, List.length_append, h x List.mem_cons_self, flat_length fun y hy => h y (List.mem_cons_of_mem _ hy), List.length_cons, Nat.succ_mul, Nat.add_comm]
theorem range_map_row {m : Nat} {x : List Int} (h : x.length = m) (l r : List Int) : ((List.range m).map fun k => (l ++ x ++ r).getD (l.length + k) 0) = x := by
  apply List.ext_getElem
  · simp [h]
  · intro i h1 h2
    simp only [List.getElem_map, List.getElem_range, List.getD]
    rw [List.append_assoc, List.getElem?_append_right (by omega), show l.length + i - l.length = i by omega, List.getElem?_append_left h2, List.getElem?_eq_getElem h2]
    rfl
theorem cuts_of_flat {m : Nat} : ∀ (c : List (List Int)) (l : List Int) (n : Nat), (∀ x ∈ c, x.length = m) → l.length = n * m → ((List.range c.length).map fun i => cutT (l ++ c.flatten) m (n + i)) = c
  | [], _, _, _, _ => rfl
  | x :: c, l, n, h, hl => by
    have hx := h x List.mem_cons_self
    rw [List.length_cons, List.range_succ_eq_map, List.map_cons, List.map_map, List.flatten_cons]
    congr 1
    · unfold cutT
      rw [show n + 0 = n from rfl, ← hl, ← List.append_assoc]
      exact range_map_row hx l c.flatten
    · have := cuts_of_flat c (l ++ x) (n + 1) (fun y hy => h y (List.mem_cons_of_mem _ hy)) (by rw [List.length_append, hx, hl, Nat.succ_mul])
      rw [List.append_assoc] at this
      rw [← this]
      rw [this]
      refine Eq.trans ?_ this
      apply List.map_congr_left
      intro i hi
      show cutT _ m (n + (i + 1)) = cutT _ m (n + 1 + i)
      rw [show n + (i + 1) = n + 1 + i by omega]
end Go.Proofs.Ytpkampecmlpfmaa.T

end
section
set_option linter.unusedSimpArgs false
set_option linter.unusedVariables false
/- Swaps within a span; what is sorted; plainly. -/
namespace Go.Proofs.Ytpkampecmlpfmaa.T
open Go Go.VL Go.Proofs
abbrev at0 (l : List Int) (i : Nat) : Int := l.getD i 0
def sw (l : List Int) (i j : Nat) : List Int := (l.set i (l.getD j 0)).set j (l.getD i 0)
theorem sw_length {l : List Int} {i j : Nat} : (sw l i j).length = l.length := by simp [sw]
theorem set_getD {l : List Int} {i k : Nat} {x : Int} (h : i < l.length) : (l.set i x).getD k 0 = if k = i then x else l.getD k 0 := by
  simp only [List.getD, List.getElem?_set]
  by_cases e : i = k
  · subst e; simp [h]
  · rw [if_neg e, if_neg (fun q => e q.symm)]
theorem sw_getD {l : List Int} {i j k : Nat} (hi : i < l.length) (hj : j < l.length) : (sw l i j).getD k 0 = if k = j then l.getD i 0 else if k = i then l.getD j 0 else l.getD k 0 := by
  unfold sw
  rw [set_getD (by simpa using hj), set_getD hi]
theorem sw_comm {l : List Int} {i j : Nat} : (l.set j (l.getD i 0)).set i (l.getD j 0) = sw l i j := by
  unfold sw
  by_cases e : i = j
  · subst e; rfl
  · exact List.set_comm _ _ (fun q => e q.symm)
theorem sw_perm {l : List Int} {i j : Nat} (hi : i < l.length) (hj : j < l.length) : (sw l i j).Perm l := by
  rw [List.perm_iff_count]
  intro x
  unfold sw
  rw [List.count_set (by simpa using hj), List.count_set hi]
  have ei : l.getD i 0 = l[i] := by simp [List.getD, hi]
  have ej : l.getD j 0 = l[j] := by simp [List.getD, hj]
  have e3 : (l.set i (l.getD j 0))[j]'(by simpa using hj) = l[j] := by
    rw [List.getElem_set]; split
    · rw [ej]
    · rfl
  rw [e3, ei, ej]
  have hc : ∀ k (hk : k < l.length), (if (l[k] == x) = true then 1 else 0) ≤ l.count x := fun k hk => by
    split
    · rename_i q
      exact List.count_pos_iff.2 (by rw [← beq_iff_eq.1 q]; exact List.getElem_mem hk)
    · omega
  have h1 := hc i hi
  have h2 := hc j hj
  by_cases q1 : (l[i] == x) = true <;> by_cases q2 : (l[j] == x) = true <;> simp only [q1, q2, if_true, if_false, Bool.false_eq_true] at * <;> omega
/-- What comes of a list by swaps within a span. -/
inductive Sw (a b : Nat) : List Int → List Int → Prop
  | refl (l : List Int) : Sw a b l l
  | step {l l' : List Int} (i j : Nat) (h : Sw a b l l') (h1 : a ≤ i ∧ i < b) (h2 : a ≤ j ∧ j < b) (h3 : b ≤ l'.length) : Sw a b l (sw l' i j)
theorem Sw.length {a b : Nat} {l l' : List Int} (h : Sw a b l l') : l'.length = l.length := by
  induction h with
  | refl => rfl
  | step i j _ _ _ _ ih => rw [sw_length, ih]
theorem Sw.trans {a b : Nat} {l l' l'' : List Int} (h : Sw a b l l') (h' : Sw a b l' l'') : Sw a b l l'' := by
  induction h' with
  | refl => exact h
  | step i j _ h1 h2 h3 ih => exact .step i j ih h1 h2 h3
theorem Sw.mono {a b c d : Nat} {l l' : List Int} (h : Sw a b l l') (h1 : c ≤ a) (h2 : b ≤ d) (h3 : d ≤ l.length) : Sw c d l l' := by
  induction h with
  | refl => exact .refl _
  | step i j hs q1 q2 q3 ih => exact .step i j ih ⟨by omega, by omega⟩ ⟨by omega, by omega⟩ (by rw [hs.length]; exact h3)
theorem Sw.out {a b : Nat} {l l' : List Int} (h : Sw a b l l') {k : Nat} (hk : k < a ∨ b ≤ k) : l'.getD k 0 = l.getD k 0 := by
  induction h with
  | refl => rfl
  | step i j hs h1 h2 h3 ih => rw [sw_getD (by omega) (by omega), if_neg (by omega), if_neg (by omega), ih]
theorem Sw.all {a b : Nat} {l l' : List Int} (h : Sw a b l l') {P : Int → Prop} (hP : ∀ k, a ≤ k → k < b → P (l.getD k 0)) : ∀ k, a ≤ k → k < b → P (l'.getD k 0) := by
  induction h with
  | refl => exact hP
  | step i j hs h1 h2 h3 ih =>
    intro k k1 k2
    rw [sw_getD (by omega) (by omega)]
    split
    · exact ih i h1.1 h1.2
    · split
      · exact ih j h2.1 h2.2
      · exact ih k k1 k2
theorem Sw.perm {a b : Nat} {l l' : List Int} (h : Sw a b l l') : l'.Perm l := by
  induction h with
  | refl => exact .refl _
  | step i j hs h1 h2 h3 ih => exact (sw_perm (by omega) (by omega)).trans ih
def Sd (a b : Nat) (l : List Int) : Prop := ∀ p q, a ≤ p → p < q → q < b → l.getD p 0 ≤ l.getD q 0
/-- All are in order, but for those before j. -/
def Ins (a j i : Nat) (l : List Int) : Prop := ∀ p q, a ≤ p → p < q → q ≤ i → q ≠ j → l.getD p 0 ≤ l.getD q 0
theorem Ins.start {a i : Nat} {l : List Int} (h : Sd a i l) : Ins a i i l := fun p q h1 h2 h3 h4 => h p q h1 h2 (by omega)
theorem Ins.done {a j i : Nat} {l : List Int} (h : Ins a j i l) (hj : j ≤ a ∨ l.getD (j - 1) 0 ≤ l.getD j 0) : Sd a (i + 1) l := fun p q h1 h2 h3 => by
  by_cases e : q = j
  · subst e
    rcases hj with g | g
    · omega
    · by_cases e2 : p = q - 1
      · rw [e2]; exact g
      · have := h p (q - 1) h1 (by omega) (by omega) (by omega)
        omega
  · exact h p q h1 h2 (by omega) e
theorem Ins.step {a j i : Nat} {l : List Int} (h : Ins a j i l) (hj : a < j) (hji : j ≤ i) (hi : i < l.length) (hlt : l.getD j 0 < l.getD (j - 1) 0) : Ins a (j - 1) i (sw l j (j - 1)) := fun p q h1 h2 h3 h4 => by
  have e : ∀ k, (sw l j (j - 1)).getD k 0 = if k = j - 1 then l.getD j 0 else if k = j then l.getD (j - 1) 0 else l.getD k 0 := fun k => sw_getD (by omega) (by omega)
  rw [e p, e q]
  have a1 := h p q h1 h2 h3
  have a2 := h p (j - 1)
  have a3 := h j q
  have a4 := h (j - 1) q
  grind
end Go.Proofs.Ytpkampecmlpfmaa.T

end
section
set_option linter.unusedSimpArgs false
set_option linter.unusedVariables false
/- Heaps, plainly. -/
namespace Go.Proofs.Ytpkampecmlpfmaa.T
open Go Go.VL Go.Proofs
def Hp (lo hi f : Nat) (l : List Int) : Prop := ∀ k c, lo ≤ k → (c = 2 * k + 1 ∨ c = 2 * k + 2) → c < hi → l.getD (f + c) 0 ≤ l.getD (f + k) 0
structure HpEx (lo hi f r : Nat) (l : List Int) : Prop where
  h1 : ∀ k c, lo ≤ k → k ≠ r → (c = 2 * k + 1 ∨ c = 2 * k + 2) → c < hi → l.getD (f + c) 0 ≤ l.getD (f + k) 0
  h2 : ∀ g c, lo ≤ g → (r = 2 * g + 1 ∨ r = 2 * g + 2) → (c = 2 * r + 1 ∨ c = 2 * r + 2) → c < hi → l.getD (f + c) 0 ≤ l.getD (f + g) 0
theorem HpEx.start {lo hi f : Nat} {l : List Int} (h : Hp (lo + 1) hi f l) : HpEx lo hi f lo l :=
  ⟨fun k c h1 h2 h3 h4 => h k c (by omega) h3 h4, fun g c h1 h2 h3 h4 => by omega⟩
theorem HpEx.done {lo hi f r : Nat} {l : List Int} (h : HpEx lo hi f r l) (hc : ∀ c, (c = 2 * r + 1 ∨ c = 2 * r + 2) → c < hi → l.getD (f + c) 0 ≤ l.getD (f + r) 0) : Hp lo hi f l := fun k c k1 k2 k3 => by
  by_cases e : k = r
  · subst e; exact hc c k2 k3
  · exact h.h1 k c k1 e k2 k3
theorem HpEx.step {lo hi f r c : Nat} {l : List Int} (h : HpEx lo hi f r l) (hr : lo ≤ r) (hc : c = 2 * r + 1 ∨ c = 2 * r + 2) (hch : c < hi) (hd : ∀ d, (d = 2 * r + 1 ∨ d = 2 * r + 2) → d < hi → l.getD (f + d) 0 ≤ l.getD (f + c) 0)
    (hlt : l.getD (f + r) 0 < l.getD (f + c) 0) (hl : f + hi ≤ l.length) : HpEx lo hi f c (sw l (f + r) (f + c)) := by
  have e : ∀ k, (sw l (f + r) (f + c)).getD k 0 = if k = f + c then l.getD (f + r) 0 else if k = f + r then l.getD (f + c) 0 else l.getD k 0 := fun k => sw_getD (by omega) (by omega)
  constructor
  · intro k d k1 k2 k3 k4
    rw [e, e]
    rw [if_neg (show ¬ f + k = f + c by omega)]
    by_cases kr : k = r
    · subst kr
      rw [if_pos rfl]
      by_cases dc : d = c
      · subst dc; rw [if_pos rfl]; omega
      · rw [if_neg (by omega), if_neg (by omega)]
        exact hd d k3 k4
    · rw [if_neg (show ¬ f + k = f + r by omega), if_neg (show ¬ f + d = f + c by omega)]
      by_cases dr : d = r
      · subst dr
        rw [if_pos rfl]
        exact h.h2 k c k1 k3 hc hch
      · rw [if_neg (by omega)]
        exact h.h1 k d k1 kr k3 k4
  · intro g d g1 g2 g3 g4
    obtain rfl : g = r := by omega
    rw [e, e, if_neg (show ¬ f + d = f + c by omega), if_neg (show ¬ f + d = f + g by omega), if_neg (show ¬ f + g = f + c by omega), if_pos rfl]
    exact h.h1 c d (by omega) (by omega) g3 g4
theorem Hp.max {hi f : Nat} {l : List Int} (h : Hp 0 hi f l) : ∀ k, k < hi → l.getD (f + k) 0 ≤ l.getD f 0 := by
  intro k
  induction k using Nat.strongRecOn with
  | _ k ih =>
    intro hk
    by_cases e : k = 0
    · subst e; exact Int.le_refl _
    · have h1 := ih ((k - 1) / 2) (by omega) (by omega)
      have h2 := h ((k - 1) / 2) k (by omega) (by omega) hk
      omega
structure Tl (f i n : Nat) (l : List Int) : Prop where
  t1 : Sd (f + i) (f + n) l
  t2 : ∀ p q, p < i → i ≤ q → q < n → l.getD (f + p) 0 ≤ l.getD (f + q) 0
theorem Tl.step {f i n : Nat} {l l' : List Int} (h : Tl f (i + 1) n l) (hp : Hp 0 (i + 1) f l) (hn : i + 1 ≤ n) (hl : f + n ≤ l.length) (hs : Sw f (f + i) (sw l f (f + i)) l') : Tl f i n l' := by
  have e : ∀ k, (sw l f (f + i)).getD k 0 = if k = f + i then l.getD f 0 else if k = f then l.getD (f + i) 0 else l.getD k 0 := fun k => sw_getD (by omega) (by omega)
  have hm := hp.max
  have ho : ∀ k, f + i ≤ k → l'.getD k 0 = if k = f + i then l.getD f 0 else l.getD k 0 := fun k hk => by
    rw [hs.out (.inr hk), e]
    by_cases q : k = f + i
    · rw [if_pos q, if_pos q]
    · rw [if_neg q, if_neg q, if_neg (by omega)]
  have ha : ∀ q, i ≤ q → q < n → ∀ k, f ≤ k → k < f + i → l'.getD k 0 ≤ (if f + q = f + i then l.getD f 0 else l.getD (f + q) 0) := fun q q1 q2 => by
    refine hs.all (P := fun x => x ≤ _) fun k k1 k2 => ?_
    obtain ⟨k, rfl⟩ : ∃ j, k = f + j := ⟨k - f, by omega⟩
    rw [e, if_neg (by omega)]
    by_cases q3 : f + q = f + i
    · rw [if_pos q3]
      split
      · exact hm i (by omega)
      · exact hm k (by omega)
    · rw [if_neg q3]
      split
      · exact h.t2 i q (by omega) (by omega) q2
      · exact h.t2 k q (by omega) (by omega) q2
  constructor
  · intro p q p1 p2 p3
    rw [ho p p1, ho q (by omega), if_neg (show ¬ q = f + i by omega)]
    split
    · have := h.t2 0 (q - f) (by omega) (by omega) (by omega)
      rw [show f + 0 = f from rfl, show f + (q - f) = q by omega] at this
      exact this
    · exact h.t1 p q (by omega) p2 p3
  · intro p q p1 p2 p3
    rw [ho (f + q) (by omega)]
    exact ha q p2 p3 (f + p) (by omega) (by omega)
theorem Hp.swapped {i f : Nat} {l : List Int} (h : Hp 0 (i + 1) f l) (hl : f + i < l.length) : Hp 1 i f (sw l f (f + i)) := fun k c k1 k2 k3 => by
  rw [sw_getD (by omega) hl, sw_getD (by omega) hl, if_neg (by omega), if_neg (by omega), if_neg (by omega), if_neg (by omega)]
  exact h k c (by omega) k2 (by omega)
end Go.Proofs.Ytpkampecmlpfmaa.T

end
section
set_option linter.unusedSimpArgs false
set_option linter.unusedVariables false
/- Lists that are parted, plainly. -/
namespace Go.Proofs.Ytpkampecmlpfmaa.T
open Go Go.VL Go.Proofs
structure Pt (a b i j : Nat) (p : Int) (l : List Int) : Prop where
  ha : l.getD a 0 = p
  h1 : ∀ k, a < k → k < i → l.getD k 0 < p
  h2 : ∀ k, j < k → k < b → p ≤ l.getD k 0
  hi : a < i
  hij : i ≤ j + 1
  hj : j < b
theorem Pt.up {a b i j : Nat} {p : Int} {l : List Int} (h : Pt a b i j p l) (hij : i ≤ j) (hlt : l.getD i 0 < p) : Pt a b (i + 1) j p l :=
  ⟨h.ha, fun k k1 k2 => by
    by_cases e : k = i
    · subst e; exact hlt
    · exact h.h1 k k1 (by omega), h.h2, by have := h.hi; omega, by omega, h.hj⟩
theorem Pt.down {a b i j : Nat} {p : Int} {l : List Int} (h : Pt a b i j p l) (hij : i ≤ j) (hge : p ≤ l.getD j 0) : Pt a b i (j - 1) p l :=
  ⟨h.ha, h.h1, fun k k1 k2 => by
    by_cases e : k = j
    · subst e; exact hge
    · exact h.h2 k (by omega) k2, h.hi, by omega, by have := h.hj; omega⟩
theorem Pt.swap {a b i j : Nat} {p : Int} {l : List Int} (h : Pt a b i j p l) (hij : i ≤ j) (hge : p ≤ l.getD i 0) (hlt : l.getD j 0 < p) (hl : b ≤ l.length) : Pt a b (i + 1) (j - 1) p (sw l i j) := by
  have h3 := h.hi
  have h4 := h.hj
  have hne : i ≠ j := fun q => by subst q; omega
  have e : ∀ k, (sw l i j).getD k 0 = if k = j then l.getD i 0 else if k = i then l.getD j 0 else l.getD k 0 := fun k => sw_getD (by omega) (by omega)
  refine ⟨?_, fun k k1 k2 => ?_, fun k k1 k2 => ?_, by omega, by omega, by omega⟩
  · rw [e, if_neg (by omega), if_neg (by omega)]; exact h.ha
  · rw [e, if_neg (by omega)]
    split
    · exact hlt
    · exact h.h1 k k1 (by omega)
  · rw [e]
    split
    · exact hge
    · rw [if_neg (by omega)]
      exact h.h2 k (by omega) k2
structure Parted (a b m : Nat) (l : List Int) : Prop where
  h1 : a ≤ m
  h2 : m < b
  h3 : ∀ k, a ≤ k → k < m → l.getD k 0 ≤ l.getD m 0
  h4 : ∀ k, m < k → k < b → l.getD m 0 ≤ l.getD k 0
theorem Pt.fin {a b i j : Nat} {p : Int} {l : List Int} (h : Pt a b i j p l) (hij : j < i) (hl : b ≤ l.length) : Parted a b j (sw l j a) := by
  have h3 := h.hi
  have h4 := h.hj
  have h5 := h.hij
  have e : ∀ k, (sw l j a).getD k 0 = if k = a then l.getD j 0 else if k = j then l.getD a 0 else l.getD k 0 := fun k => sw_getD (by omega) (by omega)
  have ej : (sw l j a).getD j 0 = p := by
    rw [e]
    by_cases q : j = a
    · rw [if_pos q, q]; exact h.ha
    · rw [if_neg q, if_pos rfl]; exact h.ha
  refine ⟨by omega, h4, fun k k1 k2 => ?_, fun k k1 k2 => ?_⟩
  · rw [ej, e]
    split
    · have := h.h1 j (by omega) (by omega)
      omega
    · rw [if_neg (by omega)]
      have := h.h1 k (by omega) (by omega)
      omega
  · rw [ej, e, if_neg (by omega), if_neg (by omega)]
    exact h.h2 k k1 k2
structure Pe (a b i j : Nat) (p : Int) (l : List Int) : Prop where
  ha : l.getD a 0 = p
  h1 : ∀ k, a ≤ k → k < i → l.getD k 0 ≤ p
  h2 : ∀ k, j < k → k < b → p < l.getD k 0
  hi : a < i
  hij : i ≤ j + 1
  hj : j < b
theorem Pe.up {a b i j : Nat} {p : Int} {l : List Int} (h : Pe a b i j p l) (hij : i ≤ j) (hlt : l.getD i 0 ≤ p) : Pe a b (i + 1) j p l :=
  ⟨h.ha, fun k k1 k2 => by
    by_cases e : k = i
    · subst e; exact hlt
    · exact h.h1 k k1 (by omega), h.h2, by have := h.hi; omega, by omega, h.hj⟩
theorem Pe.down {a b i j : Nat} {p : Int} {l : List Int} (h : Pe a b i j p l) (hij : i ≤ j) (hge : p < l.getD j 0) : Pe a b i (j - 1) p l :=
  ⟨h.ha, h.h1, fun k k1 k2 => by
    by_cases e : k = j
    · subst e; exact hge
    · exact h.h2 k (by omega) k2, h.hi, by omega, by have := h.hj; omega⟩
theorem Pe.swap {a b i j : Nat} {p : Int} {l : List Int} (h : Pe a b i j p l) (hij : i ≤ j) (hge : p < l.getD i 0) (hlt : l.getD j 0 ≤ p) (hl : b ≤ l.length) : Pe a b (i + 1) (j - 1) p (sw l i j) := by
  have h3 := h.hi
  have h4 := h.hj
  have hne : i ≠ j := fun q => by subst q; omega
  have e : ∀ k, (sw l i j).getD k 0 = if k = j then l.getD i 0 else if k = i then l.getD j 0 else l.getD k 0 := fun k => sw_getD (by omega) (by omega)
  refine ⟨?_, fun k k1 k2 => ?_, fun k k1 k2 => ?_, by omega, by omega, by omega⟩
  · rw [e, if_neg (by omega), if_neg (by omega)]; exact h.ha
  · rw [e, if_neg (by omega)]
    split
    · exact hlt
    · exact h.h1 k k1 (by omega)
  · rw [e]
    split
    · exact hge
    · rw [if_neg (by omega)]
      exact h.h2 k (by omega) k2
structure PartEq (a b m : Nat) (p : Int) (l : List Int) : Prop where
  h1 : a < m
  h2 : m ≤ b
  h3 : ∀ k, a ≤ k → k < m → l.getD k 0 ≤ p
  h4 : ∀ k, m ≤ k → k < b → p < l.getD k 0
theorem Pe.fin {a b i j : Nat} {p : Int} {l : List Int} (h : Pe a b i j p l) (hij : j < i) : PartEq a b i p l := by
  have h3 := h.hi
  have h4 := h.hj
  have h5 := h.hij
  exact ⟨h3, by omega, h.h1, fun k k1 k2 => h.h2 k (by omega) k2⟩
end Go.Proofs.Ytpkampecmlpfmaa.T

end
section
set_option linter.unusedSimpArgs false
set_option linter.unusedVariables false
/- Sorted beginnings, plainly. -/
namespace Go.Proofs.Ytpkampecmlpfmaa.T
open Go Go.VL Go.Proofs
theorem Sd.snoc {a i : Nat} {l : List Int} (h : Sd a i l) (ha : a + 1 ≤ i) (hle : l.getD (i - 1) 0 ≤ l.getD i 0) : Sd a (i + 1) l := fun p q h1 h2 h3 => by
  by_cases e : q = i
  · subst e
    by_cases e2 : p = q - 1
    · rw [e2]; exact hle
    · have := h p (q - 1) h1 (by omega) (by omega)
      omega
  · exact h p q h1 h2 (by omega)
theorem Sd.out {a i x y : Nat} {l : List Int} (h : Sd a i l) (hx : i ≤ x) (hy : i ≤ y) (h1 : x < l.length) (h2 : y < l.length) : Sd a i (sw l x y) := fun p q p1 p2 p3 => by
  rw [sw_getD h1 h2, sw_getD h1 h2, if_neg (by omega), if_neg (by omega), if_neg (by omega), if_neg (by omega)]
  exact h p q p1 p2 p3
theorem Sd.swapped {a i : Nat} {l : List Int} (h : Sd a i l) (ha : a + 1 ≤ i) (hi : i < l.length) (hlt : l.getD i 0 < l.getD (i - 1) 0) : Ins a (i - 1) (i - 1) (sw l i (i - 1)) := fun p q p1 p2 p3 p4 => by
  have e : ∀ k, (sw l i (i - 1)).getD k 0 = if k = i - 1 then l.getD i 0 else if k = i then l.getD (i - 1) 0 else l.getD k 0 := fun k => sw_getD (by omega) (by omega)
  rw [e, e, if_neg (by omega), if_neg (by omega), if_neg (by omega), if_neg (by omega)]
  exact h p q p1 p2 (by omega)
/-- What is ahead is no greater. -/
def Ahd (a b : Nat) (l : List Int) : Prop := a = 0 ∨ ∀ k, a ≤ k → k < b → l.getD (a - 1) 0 ≤ l.getD k 0
theorem Ahd.sw {a b : Nat} {l l' : List Int} (h : Ahd a b l) (hs : Sw a b l l') : Ahd a b l' := by
  by_cases e : a = 0
  · exact .inl e
  · right
    rcases h with h | h
    · exact absurd h e
    · have := hs.all (P := fun x => l.getD (a - 1) 0 ≤ x) h
      intro k k1 k2
      rw [hs.out (k := a - 1) (by omega)]
      exact this k k1 k2
end Go.Proofs.Ytpkampecmlpfmaa.T

end
section
set_option linter.unusedSimpArgs false
set_option linter.unusedVariables false
/- What is left to be sorted, plainly. -/
namespace Go.Proofs.Ytpkampecmlpfmaa.T
open Go Go.VL Go.Proofs
/-- Once [a, b) is sorted, all of [a0, b0) is. -/
structure Rest (a0 b0 : Nat) (l0 : List Int) (a b : Nat) (l : List Int) : Prop where
  ra : a0 ≤ a
  rab : a ≤ b
  rb : b ≤ b0
  rl : b0 ≤ l0.length
  rs : Sw a0 b0 l0 l
  rd : ∀ l', Sw a b l l' → Sd a b l' → Sd a0 b0 l'
  rh : Ahd a b l
theorem Rest.start {a b : Nat} {l : List Int} (h : a ≤ b) (hb : b ≤ l.length) (hA : Ahd a b l) : Rest a b l a b l :=
  ⟨Nat.le_refl _, h, Nat.le_refl _, hb, .refl _, fun _ _ h => h, hA⟩
theorem Rest.sw {a0 b0 a b : Nat} {l0 l l' : List Int} (h : Rest a0 b0 l0 a b l) (hs : Sw a b l l') : Rest a0 b0 l0 a b l' :=
  ⟨h.ra, h.rab, h.rb, h.rl, h.rs.trans (hs.mono h.ra h.rb (by rw [h.rs.length]; exact h.rl)), fun l'' h1 h2 => h.rd l'' (hs.trans h1) h2, h.rh.sw hs⟩
theorem Rest.done {a0 b0 a b : Nat} {l0 l l' : List Int} (h : Rest a0 b0 l0 a b l) (hs : Sw a b l l') (hd : Sd a b l') : Sw a0 b0 l0 l' ∧ Sd a0 b0 l' :=
  ⟨(h.sw hs).rs, h.rd l' hs hd⟩
/-- The beginning is of the least numbers alone. -/
theorem Rest.eqPart {a0 b0 a b m : Nat} {l0 l : List Int} {p : Int} (h : Rest a0 b0 l0 a b l) (hp : PartEq a b m p l) (hge : ∀ k, a ≤ k → k < b → p ≤ l.getD k 0) : Rest a0 b0 l0 m b l := by
  have h1 := hp.h1
  have h2 := hp.h2
  refine ⟨by have := h.ra; omega, h2, h.rb, h.rl, h.rs, fun l' s1 s2 => ?_, .inr fun k k1 k2 => ?_⟩
  · have hl : b ≤ l.length := by have := h.rb; have := h.rl; rw [h.rs.length]; omega
    refine h.rd l' (s1.mono (by omega) (Nat.le_refl _) hl) fun x y x1 x2 x3 => ?_
    have hlo : ∀ k, a ≤ k → k < m → l'.getD k 0 = p := fun k k1 k2 => by
      rw [s1.out (.inl k2)]
      have := hp.h3 k k1 k2
      have := hge k k1 (by omega)
      omega
    have hhi : ∀ k, m ≤ k → k < b → p < l'.getD k 0 := s1.all (P := fun x => p < x) hp.h4
    by_cases xm : x < m
    · rw [hlo x x1 xm]
      by_cases ym : y < m
      · rw [hlo y (by omega) ym]; exact Int.le_refl _
      · have := hhi y (by omega) x3; omega
    · exact s2 x y (by omega) x2 x3
  · have e1 := hp.h3 (m - 1) (by omega) (by omega)
    have e2 := hp.h4 k k1 k2
    omega
/-- Parted, and the left part sorted. -/
theorem Rest.left {a0 b0 a b m : Nat} {l0 l l' : List Int} (h : Rest a0 b0 l0 a b l) (hp : Parted a b m l) (hs : Sw a m l l') (hd : Sd a m l') : Rest a0 b0 l0 (m + 1) b l' := by
  have h1 := hp.h1
  have h2 := hp.h2
  have hl : b ≤ l.length := by have := h.rb; have := h.rl; rw [h.rs.length]; omega
  have hl2 := hs.length
  have hsb : Sw a b l l' := hs.mono (Nat.le_refl _) (by omega) hl
  have h' := h.sw hsb
  have em : l'.getD m 0 = l.getD m 0 := hs.out (.inr (Nat.le_refl _))
  have hlo : ∀ k, a ≤ k → k < m → l'.getD k 0 ≤ l.getD m 0 := hs.all (P := fun x => x ≤ _) hp.h3
  have hhi : ∀ k, m < k → k < b → l.getD m 0 ≤ l'.getD k 0 := fun k k1 k2 => by rw [hs.out (.inr (by omega))]; exact hp.h4 k k1 k2
  refine ⟨by have := h.ra; omega, by omega, h.rb, h.rl, h'.rs, fun l'' s1 s2 => ?_, .inr fun k k1 k2 => ?_⟩
  · refine h'.rd l'' (s1.mono (by omega) (Nat.le_refl _) (by omega)) fun x y x1 x2 x3 => ?_
    have hlo2 : ∀ k, k ≤ m → l''.getD k 0 = l'.getD k 0 := fun k k1 => s1.out (.inl (by omega))
    have hhi2 : ∀ k, m + 1 ≤ k → k < b → l.getD m 0 ≤ l''.getD k 0 := s1.all (P := fun x => _ ≤ x) fun k k1 k2 => hhi k (by omega) k2
    by_cases xm : x ≤ m
    · rw [hlo2 x xm]
      have hxm : l'.getD x 0 ≤ l.getD m 0 := by
        by_cases e : x = m
        · rw [e, em]; exact Int.le_refl _
        · exact hlo x x1 (by omega)
      by_cases ym : y ≤ m
      · rw [hlo2 y ym]
        by_cases e : y = m
        · rw [e, em]; exact hxm
        · exact hd x y x1 x2 (by omega)
      · have := hhi2 y (by omega) x3; omega
    · exact s2 x y (by omega) x2 x3
  · rw [show m + 1 - 1 = m by omega, em]
    exact hhi k (by omega) k2
/-- Parted, and the right part sorted. -/
theorem Rest.right {a0 b0 a b m : Nat} {l0 l l' : List Int} (h : Rest a0 b0 l0 a b l) (hp : Parted a b m l) (hs : Sw (m + 1) b l l') (hd : Sd (m + 1) b l') : Rest a0 b0 l0 a m l' := by
  have h1 := hp.h1
  have h2 := hp.h2
  have hl : b ≤ l.length := by have := h.rb; have := h.rl; rw [h.rs.length]; omega
  have hl2 := hs.length
  have hsb : Sw a b l l' := hs.mono (by omega) (Nat.le_refl _) hl
  have h' := h.sw hsb
  have em : l'.getD m 0 = l.getD m 0 := hs.out (.inl (by omega))
  have hhi : ∀ k, m + 1 ≤ k → k < b → l.getD m 0 ≤ l'.getD k 0 := hs.all (P := fun x => _ ≤ x) fun k k1 k2 => hp.h4 k (by omega) k2
  have hlo : ∀ k, a ≤ k → k < m → l'.getD k 0 ≤ l.getD m 0 := fun k k1 k2 => by rw [hs.out (.inl (by omega))]; exact hp.h3 k k1 k2
  refine ⟨h.ra, h1, by have := h.rb; omega, h.rl, h'.rs, fun l'' s1 s2 => ?_, ?_⟩
  · refine h'.rd l'' (s1.mono (Nat.le_refl _) (by omega) (by omega)) fun x y x1 x2 x3 => ?_
    have hhi2 : ∀ k, m ≤ k → l''.getD k 0 = l'.getD k 0 := fun k k1 => s1.out (.inr k1)
    have hlo2 : ∀ k, a ≤ k → k < m → l''.getD k 0 ≤ l.getD m 0 := s1.all (P := fun x => x ≤ _) hlo
    have hge : ∀ k, m ≤ k → k < b → l.getD m 0 ≤ l''.getD k 0 := fun k k1 k2 => by
      rw [hhi2 k k1]
      by_cases e : k = m
      · rw [e, em]; exact Int.le_refl _
      · exact hhi k (by omega) k2
    by_cases ym : y < m
    · exact s2 x y x1 x2 ym
    · by_cases xm : x < m
      · have := hlo2 x x1 xm
        have := hge y (by omega) x3
        omega
      · by_cases e : x = m
        · subst e
          rw [hhi2 x (Nat.le_refl _), em]
          exact hge y (by omega) x3
        · rw [hhi2 x (by omega), hhi2 y (by omega)]
          exact hd x y (by omega) x2 x3
  · rcases h'.rh with q | q
    · exact .inl q
    · exact .inr fun k k1 k2 => q k k1 (by omega)
theorem Rest.ahead {a0 b0 a b : Nat} {l0 l : List Int} (h : Rest a0 b0 l0 a b l) (ha : 0 < a) {v : Nat} (hv : a ≤ v ∧ v < b) (hle : l.getD v 0 ≤ l.getD (a - 1) 0) : ∀ k, a ≤ k → k < b → l.getD v 0 ≤ l.getD k 0 := fun k k1 k2 => by
  rcases h.rh with q | q
  · omega
  · have := q k k1 k2; omega
end Go.Proofs.Ytpkampecmlpfmaa.T

end
section
set_option linter.unusedSimpArgs false
/- The list, sorted, plainly. -/
namespace Go.Proofs.Ytpkampecmlpfmaa.T
open Go Go.VL Go.Proofs
/-- The list, sorted. -/
def sortI (l : List Int) : List Int := l.mergeSort fun x y => decide (x ≤ y)
theorem sortI_perm (l : List Int) : (sortI l).Perm l := List.mergeSort_perm _ _
theorem sortI_sorted (l : List Int) : (sortI l).Pairwise (· ≤ ·) := by
  have := List.pairwise_mergeSort (le := fun x y : Int => decide (x ≤ y)) (fun a b c h1 h2 => by simp at *; omega) (fun a b => by simp; omega) l
  exact this.imp fun h => by simpa using h
theorem sorted_unique {l l' : List Int} (hp : l.Perm l') (h : l.Pairwise (· ≤ ·)) (h' : l'.Pairwise (· ≤ ·)) : l = l' :=
  hp.eq_of_pairwise (fun a b _ _ h1 h2 => by omega) h h'
theorem Sd.pairwise {l : List Int} (h : Sd 0 l.length l) : l.Pairwise (· ≤ ·) := by
  rw [List.pairwise_iff_getElem]
  intro i j hi hj hij
  have := h i j (Nat.zero_le _) hij hj
  simpa [List.getD, hi, hj] using this
theorem sortI_of {l l' : List Int} (h : Sw 0 l.length l l') (hd : Sd 0 l.length l') : l' = sortI l := by
  have hl := h.length
  rw [← hl] at hd
  exact sorted_unique (h.perm.trans (sortI_perm l).symm) hd.pairwise (sortI_sorted l)
end Go.Proofs.Ytpkampecmlpfmaa.T

end
section
set_option linter.unusedSimpArgs false
set_option linter.unusedVariables false
/- Where a list is cut, and how many are in each cell, plainly. -/
namespace Go.Proofs.Ytpkampecmlpfmaa.T
open Go Go.VL Go.Proofs
def oddB (x : Int) : Bool := decide (x < -32767)
def cutsL (l : List Int) (cells : Nat) : List Int := (List.range (cells - 1)).map fun i => (sortI l).getD ((i + 1) * l.length / cells) 0
def rkE (l : List Int) (cells : Int) : Int := if 4096 < l.length then 3 else if ¬ (1 ≤ cells ∧ cells ≤ 16) ∨ l.any oddB = true then 1 else if l.length = 0 then 5 else 0
def rkOut (l : List Int) (cells : Int) : List Int := if rkE l cells = 0 then cutsL l cells.toNat else []
theorem rkE_zero {l : List Int} {cells : Int} : rkE l cells = 0 ↔ l.length ≤ 4096 ∧ (1 ≤ cells ∧ cells ≤ 16) ∧ l.any oddB = false ∧ 1 ≤ l.length := by
  unfold rkE
  by_cases h1 : 4096 < l.length
  · rw [if_pos h1]; constructor
    · intro q; cases q
    · intro q; omega
  · rw [if_neg h1]
    by_cases h2 : ¬ (1 ≤ cells ∧ cells ≤ 16) ∨ l.any oddB = true
    · rw [if_pos h2]; constructor
      · intro q; cases q
      · rintro ⟨_, q1, q2, _⟩
        rcases h2 with h2 | h2
        · exact absurd q1 h2
        · rw [q2] at h2; cases h2
    · rw [if_neg h2]
      have h3 : (1 ≤ cells ∧ cells ≤ 16) ∧ l.any oddB = false := ⟨Classical.byContradiction fun q => h2 (.inl q), by
        cases e : l.any oddB with
        | false => rfl
        | true => exact absurd (.inr e) h2⟩
      by_cases h4 : l.length = 0
      · rw [if_pos h4]; constructor
        · intro q; cases q
        · intro q; omega
      · rw [if_neg h4]; exact ⟨fun _ => ⟨by omega, h3.1, h3.2, by omega⟩, fun _ => rfl⟩
theorem sortI_length (l : List Int) : (sortI l).length = l.length := (sortI_perm l).length_eq
theorem cutsL_length {l : List Int} {n : Nat} : (cutsL l n).length = n - 1 := by simp [cutsL]
theorem cutsL_at {l : List Int} {n i : Nat} (h : i < n - 1) : (cutsL l n).getD i 0 = (sortI l).getD ((i + 1) * l.length / n) 0 := by
  simp [cutsL, List.getD, h]
theorem cutsL_idx {l : List Int} {n i : Nat} (h : i < n - 1) (hl : 1 ≤ l.length) : (i + 1) * l.length / n < l.length := by
  rw [Nat.div_lt_iff_lt_mul (by omega), Nat.mul_comm]
  exact Nat.mul_lt_mul_of_pos_left (by omega) (by omega)
/-- How many are in each cell. -/
def cntL (c l : List Int) : List Int := (List.range (c.length + 1)).map fun i => ((l.countP fun x => cellOf c x == i : Nat) : Int)
theorem cntL_length {c l : List Int} : (cntL c l).length = c.length + 1 := by simp [cntL]
theorem cntL_at {c l : List Int} {i : Nat} (h : i < c.length + 1) : (cntL c l).getD i 0 = ((l.countP fun x => cellOf c x == i : Nat) : Int) := by simp [cntL, List.getD, h]
theorem cntL_nil {c : List Int} : cntL c [] = List.replicate (c.length + 1) 0 := by
  apply List.ext_getElem
  · simp [cntL]
  · intro i h1 h2; simp [cntL]
theorem cntL_snoc {c l : List Int} {x : Int} : (cntL c l).set (cellOf c x) ((cntL c l).getD (cellOf c x) 0 + 1) = cntL c (l ++ [x]) := by
  have hc := cellOf_le c x
  apply List.ext_getElem
  · simp [cntL]
  · intro i h1 h2
    have hi : i < c.length + 1 := by simpa [cntL] using h2
    rw [List.getElem_set]
    by_cases e : cellOf c x = i
    · rw [if_pos e, e, cntL_at hi]
      simp [cntL, List.countP_append, List.countP_cons, e]
    · rw [if_neg e]
      simp [cntL, List.countP_append, List.countP_cons, e]
def cntE (c l : List Int) : Int := if 4096 < l.length then 3 else if cutsErr c ≠ 0 ∨ l.any oddB = true then 1 else 0
def cntOut (c l : List Int) : List Int := if cntE c l = 0 then cntL c l else []
end Go.Proofs.Ytpkampecmlpfmaa.T

end
section
set_option linter.unusedSimpArgs false
set_option linter.unusedVariables false
/- Laws on cuts and counts, plainly. -/
namespace Go.Proofs.Ytpkampecmlpfmaa.T
open Go Go.VL Go.Proofs
theorem in_span2 {c : List Int} {n : Nat} {x : Int} (h : cutsErr c = 0) (hn : n ≤ c.length) (hx : -32767 ≤ x ∧ x ≤ 32767) : (lowOf c n ≤ x ∧ x ≤ highOf c n) ↔ cellOf c x = n := by
  have hs := fun i hi => cellOf_spec (cutsErr_zero.1 h).2.1 x i hi
  have hle := cellOf_le c x
  unfold lowOf highOf
  constructor
  · rintro ⟨h1, h2⟩
    by_cases a : 0 < n
    · rw [if_pos a] at h1
      have := (hs (n - 1) (by omega)).1 h1
      by_cases b : n < c.length
      · rw [if_pos b] at h2
        have : ¬ n < cellOf c x := fun q => by have := (hs n b).2 q; omega
        omega
      · omega
    · by_cases b : n < c.length
      · rw [if_pos b] at h2
        have : ¬ n < cellOf c x := fun q => by have := (hs n b).2 q; omega
        omega
      · omega
  · intro e
    constructor
    · split
      · exact (hs (n - 1) (by omega)).2 (by omega)
      · omega
    · split
      · have : ¬ c.getD n 0 ≤ x := fun q => by have := (hs n (by omega)).1 q; omega
        omega
      · omega
theorem cntL_add {c l m : List Int} {i : Nat} (h : i < c.length + 1) : (cntL c (l ++ m)).getD i 0 = (cntL c l).getD i 0 + (cntL c m).getD i 0 := by
  rw [cntL_at h, cntL_at h, cntL_at h, List.countP_append]; omega
def sumTo (l : List Int) : Nat → Int
  | 0 => 0
  | k + 1 => sumTo l k + l.getD k 0
theorem sumTo_cnt {c : List Int} : ∀ (l : List Int), ∀ k, k ≤ c.length + 1 → sumTo (cntL c l) k = ((l.countP fun x => decide (cellOf c x < k) : Nat) : Int) := by
  intro l k
  induction k with
  | zero => intro _; simp [sumTo]
  | succ k ih =>
    intro hk
    rw [sumTo, ih (by omega), cntL_at (by omega)]
    clear ih
    induction l with
    | nil => simp
    | cons x l ih =>
      simp only [List.countP_cons]
      by_cases h1 : cellOf c x < k
      · have h2 : cellOf c x < k + 1 := by omega
        have h3 : (cellOf c x == k) = false := beq_eq_false_iff_ne.2 (by omega)
        simp only [h1, h2, h3, decide_true, if_true, Bool.false_eq_true, if_false]
        omega
      · by_cases h2 : cellOf c x = k
        · have h3 : cellOf c x < k + 1 := by omega
          have h4 : (cellOf c x == k) = true := beq_iff_eq.2 h2
          simp only [h1, h3, h4, decide_true, decide_false, if_true, Bool.false_eq_true, if_false]
          omega
        · have h3 : ¬ cellOf c x < k + 1 := by omega
          have h4 : (cellOf c x == k) = false := beq_eq_false_iff_ne.2 h2
          simp only [h1, h3, h4, decide_false, if_false, Bool.false_eq_true]
          omega
theorem sumTo_all {c l : List Int} : sumTo (cntL c l) (c.length + 1) = l.length := by
  rw [sumTo_cnt l _ (Nat.le_refl _)]
  congr 1
  rw [List.countP_eq_length]
  intro x _
  have := cellOf_le c x
  simp; omega
theorem sumTo_bound {c l : List Int} {k : Nat} (h : k ≤ c.length + 1) : 0 ≤ sumTo (cntL c l) k ∧ sumTo (cntL c l) k ≤ l.length := by
  rw [sumTo_cnt l _ h]
  have := List.countP_le_length (p := fun x => decide (cellOf c x < k)) (l := l)
  omega
theorem cntE_append {c l m : List Int} (hl : l.length ≤ 600) (hm : m.length ≤ 600) : cntE c (l ++ m) = 0 ↔ cntE c l = 0 ∧ cntE c m = 0 := by
  have e : ∀ z : List Int, z.length ≤ 1200 → (cntE c z = 0 ↔ cutsErr c = 0 ∧ z.any oddB = false) := fun z hz => by
    unfold cntE
    rw [if_neg (by omega)]
    by_cases h : cutsErr c ≠ 0 ∨ z.any oddB = true
    · rw [if_pos h]
      constructor
      · intro q; cases q
      · rintro ⟨q1, q2⟩
        rcases h with h | h
        · exact absurd q1 h
        · rw [q2] at h; cases h
    · rw [if_neg h]
      refine ⟨fun _ => ⟨Classical.byContradiction fun q => h (.inl q), ?_⟩, fun _ => rfl⟩
      cases q : z.any oddB with
      | false => rfl
      | true => exact absurd (.inr q) h
  rw [e _ (by rw [List.length_append]; omega), e l (by omega), e m (by omega), List.any_append, Bool.or_eq_false_iff]
  constructor
  · rintro ⟨a, b, c⟩; exact ⟨⟨a, b⟩, a, c⟩
  · rintro ⟨⟨a, b⟩, _, c⟩; exact ⟨a, b, c⟩
theorem rkE_twice {l : List Int} {n : Int} (hn : 1 ≤ n ∧ n ≤ 8) : rkE l (2 * n) = rkE l n := by
  unfold rkE
  have e : (¬ (1 ≤ 2 * n ∧ 2 * n ≤ 16) ∨ l.any oddB = true) ↔ (¬ (1 ≤ n ∧ n ≤ 16) ∨ l.any oddB = true) := by
    constructor <;> rintro (h | h) <;> first | exact .inr h | (exfalso; omega)
  by_cases h : ¬ (1 ≤ n ∧ n ≤ 16) ∨ l.any oddB = true
  · rw [if_pos h, if_pos (e.2 h)]
  · rw [if_neg h, if_neg (fun q => h (e.1 q))]
theorem cutsL_twice {l : List Int} {n i : Nat} (h : i < n - 1) : (cutsL l (2 * n)).getD (2 * i + 1) 0 = (cutsL l n).getD i 0 := by
  rw [cutsL_at (by omega), cutsL_at h]
  congr 1
  rw [show 2 * i + 1 + 1 = 2 * (i + 1) by omega, Nat.mul_assoc, Nat.mul_div_mul_left _ _ (by decide)]
theorem cell_mono {c : List Int} {x y : Int} (h : x ≤ y) : cellOf c x ≤ cellOf c y := by
  unfold cellOf
  refine List.countP_mono_left fun z _ hz => ?_
  simp only [decide_eq_true_eq] at *
  omega
end Go.Proofs.Ytpkampecmlpfmaa.T

end
section
set_option linter.unusedSimpArgs false
set_option linter.unusedVariables false
/- A list's own cuts: they may be, and their cells hold as many, plainly. -/
namespace Go.Proofs.Ytpkampecmlpfmaa.T
open Go Go.VL Go.Proofs
theorem sortI_mono {l : List Int} {i j : Nat} (h : i ≤ j) (hj : j < l.length) : (sortI l).getD i 0 ≤ (sortI l).getD j 0 := by
  have hs := sortI_length l
  have hp := List.pairwise_iff_getElem.1 (sortI_sorted l)
  by_cases e : i = j
  · subst e; exact Int.le_refl _
  · have := hp i j (by omega) (by omega) (by omega)
    simpa [List.getD, hs, hj, show i < l.length by omega] using this
theorem sortI_strict {l : List Int} (hn : l.Nodup) {i j : Nat} (h : i < j) (hj : j < l.length) : (sortI l).getD i 0 < (sortI l).getD j 0 := by
  have hs := sortI_length l
  have h1 := sortI_mono (l := l) (Nat.le_of_lt h) hj
  have h2 : (sortI l).Nodup := (sortI_perm l).nodup_iff.2 hn
  have h3 : (sortI l).getD i 0 ≠ (sortI l).getD j 0 := by
    have := List.pairwise_iff_getElem.1 h2 i j (by omega) (by omega) h
    simpa [List.getD, hs, hj, show i < l.length by omega] using this
  omega
theorem cutsOk_cutsL {l : List Int} {n : Nat} (h : rkE l n = 0) : cutsErr (cutsL l n) = 0 := by
  obtain ⟨_, ⟨c1, c2⟩, c3, c4⟩ := rkE_zero.1 h
  have hl := cutsL_length (l := l) (n := n)
  refine cutsErr_zero.2 ⟨by omega, fun i hi => ?_, fun hi => ?_⟩
  · rw [hl] at hi
    rw [cutsL_at (by omega), cutsL_at (by omega)]
    exact sortI_mono (Nat.div_le_div_right (Nat.mul_le_mul_right _ (by omega))) (cutsL_idx (by omega) c4)
  · rw [hl] at hi
    rw [cutsL_at hi]
    have hm := getD_mem (a := sortI l) (d := (0 : Int)) (k := (0 + 1) * l.length / n) (by rw [sortI_length]; exact cutsL_idx hi c4)
    have hx := (sortI_perm l).mem_iff.1 hm
    have := (List.any_eq_false.1 c3) _ hx
    rw [oddB, decide_eq_true_eq] at this
    omega
theorem cutsL_mem {l : List Int} {n i : Nat} (h : i < n - 1) (hl : 1 ≤ l.length) : (cutsL l n).getD i 0 ∈ l := by
  rw [cutsL_at h]
  exact (sortI_perm l).mem_iff.1 (getD_mem (by rw [sortI_length]; exact cutsL_idx h hl))
theorem countP_first {α : Type} {p : α → Bool} {s : List α} {m : Nat} (hm : m ≤ s.length) (h : ∀ i (hi : i < s.length), p s[i] = true ↔ i < m) : s.countP p = m := by
  have e : s.countP p = (s.take m).countP p + (s.drop m).countP p := by rw [← List.countP_append, List.take_append_drop]
  rw [e, List.countP_eq_length.2, List.countP_eq_zero.2, List.length_take]
  · omega
  · intro a ha
    obtain ⟨i, hi, rfl⟩ := List.mem_iff_getElem.1 ha
    rw [List.length_drop] at hi
    rw [List.getElem_drop]
    intro q
    have := (h (m + i) (by omega)).1 q
    omega
  · intro a ha
    obtain ⟨i, hi, rfl⟩ := List.mem_iff_getElem.1 ha
    rw [List.length_take] at hi
    rw [List.getElem_take]
    exact (h i (by omega)).2 (by omega)
theorem sumTo_even {l : List Int} {n : Nat} (h : rkE l n = 0) (hn : l.Nodup) : ∀ k, k ≤ n → sumTo (cntL (cutsL l n) l) k = ((k * l.length / n : Nat) : Int) := by
  intro k hk
  obtain ⟨_, ⟨c1, c2⟩, c3, c4⟩ := rkE_zero.1 h
  have hl := cutsL_length (l := l) (n := n)
  have hR := (cutsErr_zero.1 (cutsOk_cutsL h)).2.1
  rw [sumTo_cnt l k (by omega)]
  congr 1
  rw [← (sortI_perm l).countP_eq]
  have hs := sortI_length l
  refine countP_first ?_ fun p hp => ?_
  · rw [hs]
    exact Nat.div_le_of_le_mul (Nat.mul_le_mul_right _ hk)
  · rw [decide_eq_true_eq]
    have hx : (sortI l)[p] = (sortI l).getD p 0 := by simp [List.getD, hp]
    rw [hx]
    by_cases k0 : k = 0
    · subst k0; simp
    · by_cases kn : k = n
      · subst kn
        rw [Nat.mul_div_cancel_left _ (by omega)]
        have := cellOf_le (cutsL l k) ((sortI l).getD p 0)
        omega
      · have hc := cellOf_spec hR ((sortI l).getD p 0) (k - 1) (by omega)
        rw [cutsL_at (by omega), show k - 1 + 1 = k by omega] at hc
        have hi := cutsL_idx (l := l) (n := n) (i := k - 1) (by omega) c4
        rw [show k - 1 + 1 = k by omega] at hi
        generalize hB : k * l.length / n = B at *
        constructor
        · intro q
          refine Classical.byContradiction fun z => ?_
          have := hc.1 (sortI_mono (by omega) (by omega))
          omega
        · intro q
          have := sortI_strict hn q (by omega)
          refine Classical.byContradiction fun z => ?_
          have := hc.2 (by omega)
          omega
theorem div_between (L n i : Nat) (hn : 1 ≤ n) : L / n ≤ (i + 1) * L / n - i * L / n ∧ (i + 1) * L / n - i * L / n ≤ (L + n - 1) / n := by
  have e : (i + 1) * L = i * L + L := by rw [Nat.add_mul, Nat.one_mul]
  rw [e]
  generalize i * L = A
  have hA := Nat.div_add_mod A n
  have hL := Nat.div_add_mod L n
  have hAL := Nat.div_add_mod (A + L) n
  have hU := Nat.div_add_mod (L + n - 1) n
  have a1 := Nat.mod_lt A (y := n) (by omega)
  have a2 := Nat.mod_lt L (y := n) (by omega)
  have a3 := Nat.mod_lt (A + L) (y := n) (by omega)
  have a4 := Nat.mod_lt (L + n - 1) (y := n) (by omega)
  generalize A / n = qa at *
  generalize L / n = ql at *
  generalize (A + L) / n = qs at *
  generalize (L + n - 1) / n = qu at *
  constructor
  · have : qa + ql ≤ qs := by
      refine Classical.byContradiction fun z => ?_
      have h1 : n * (qs + 1) ≤ n * (qa + ql) := Nat.mul_le_mul_left _ (by omega)
      rw [Nat.mul_add, Nat.mul_add, Nat.mul_one] at h1
      omega
    omega
  · have : qs ≤ qa + qu := by
      refine Classical.byContradiction fun z => ?_
      have h1 : n * (qa + qu + 1) ≤ n * qs := Nat.mul_le_mul_left _ (by omega)
      rw [Nat.mul_add, Nat.mul_add, Nat.mul_one] at h1
      omega
    omega
theorem cnt_even {l : List Int} {n : Nat} (h : rkE l n = 0) (hn : l.Nodup) {i : Nat} (hi : i < n) : ((l.length / n : Nat) : Int) ≤ (cntL (cutsL l n) l).getD i 0 ∧ (cntL (cutsL l n) l).getD i 0 ≤ (((l.length + n - 1) / n : Nat) : Int) := by
  have h1 := sumTo_even h hn i (by omega)
  have h2 := sumTo_even h hn (i + 1) (by omega)
  have h3 := div_between l.length n i (by omega)
  have h4 : i * l.length / n ≤ (i + 1) * l.length / n := Nat.div_le_div_right (Nat.mul_le_mul_right _ (by omega))
  rw [sumTo] at h2
  generalize i * l.length / n = a at *
  generalize (i + 1) * l.length / n = b at *
  omega
/-- The keys of a list, each once, as they came. -/
def keysOf : List Int → Nat → List Int
  | _, 0 => []
  | l, k + 1 => if l.getD k 0 ∈ keysOf l k then keysOf l k else keysOf l k ++ [l.getD k 0]
theorem keysOf_mem {l : List Int} {x : Int} : ∀ k, x ∈ keysOf l k ↔ ∃ j, j < k ∧ l.getD j 0 = x
  | 0 => by simp [keysOf]
  | k + 1 => by
    have ih := keysOf_mem (l := l) (x := x) k
    rw [keysOf]
    split
    · rename_i h
      rw [ih]
      constructor
      · rintro ⟨j, hj, e⟩; exact ⟨j, by omega, e⟩
      · rintro ⟨j, hj, e⟩
        by_cases q : j = k
        · subst q; rw [← e]; exact ih.1 (by rw [← e]; exact h)|> fun ⟨i, hi, e2⟩ => ⟨i, hi, e2.trans e.symm⟩
        · exact ⟨j, by omega, e⟩
    · rw [List.mem_append, ih, List.mem_singleton]
      constructor
      · rintro (⟨j, hj, e⟩ | e)
        · exact ⟨j, by omega, e⟩
        · exact ⟨k, by omega, e.symm⟩
      · rintro ⟨j, hj, e⟩
        by_cases q : j = k
        · subst q; exact .inr e.symm
        · exact .inl ⟨j, by omega, e⟩
theorem keysOf_length {l : List Int} : ∀ k, (keysOf l k).length ≤ k
  | 0 => Nat.le_refl _
  | k + 1 => by
    have := keysOf_length (l := l) k
    rw [keysOf]; split
    · omega
    · rw [List.length_append, List.length_singleton]; omega
theorem keysOf_all {l : List Int} : ∀ k, (keysOf l k).length = k → k ≤ l.length → (l.take k).Nodup
  | 0 => fun _ _ => by simp
  | k + 1 => fun h hk => by
    have h1 := keysOf_length (l := l) k
    rw [keysOf] at h
    split at h
    · omega
    · rename_i hne
      rw [List.length_append, List.length_singleton] at h
      have ih := keysOf_all (l := l) k (by omega) (by omega)
      rw [take_snoc (d := (0 : Int)) (by omega), List.nodup_append]
      refine ⟨ih, by simp, fun a ha b hb => ?_⟩
      rw [List.mem_singleton] at hb
      subst hb
      rintro rfl
      refine hne ((keysOf_mem k).2 ?_)
      obtain ⟨j, hj, e⟩ := List.mem_iff_getElem.1 ha
      rw [List.length_take] at hj
      exact ⟨j, by omega, by rw [← e, List.getElem_take]; simp [List.getD, show j < l.length by omega]⟩
/-- The map of keys that are all true. -/
def kvT (l : List Int) : List D := kvD .i16 (l.map fun x => (x, D.v (.bool true)))
theorem kvT_nil : kvT [] = [] := (rfl)
theorem kvT_of (l : List Int) : kvOf .i16 (kvT l) = some (l.map fun x => (x, D.v (.bool true))) := kvOf_kvD _
theorem kvT_noRefs (l : List Int) : D.noRefs (kvT l) = true := by
  induction l with
  | nil => rfl
  | cons x l ih => simpa [kvT, kvD, D.noRefs, D.noRef] using ih
theorem kvT_find (a : Int) : ∀ l : List Int, kvFind a (l.map fun x => (x, D.v (.bool true))) = if a ∈ l then some (.v (.bool true)) else none
  | [] => by simp [kvFind]
  | b :: r => by
    have := kvT_find a r
    rw [List.map_cons, kvFind]
    by_cases h : a = b
    · rw [if_pos h, if_pos (by simp [h])]
    · rw [if_neg h, this]
      by_cases h2 : a ∈ r
      · rw [if_pos h2, if_pos (List.mem_cons_of_mem _ h2)]
      · rw [if_neg h2, if_neg (by simp [h, h2])]
theorem kvT_set (a : Int) : ∀ l : List Int, kvD .i16 (kvSet a (.v (.bool true)) (l.map fun x => (x, D.v (.bool true)))) = kvT (if a ∈ l then l else l ++ [a])
  | [] => by simp [kvSet, kvT]
  | b :: r => by
    have ih := kvT_set a r
    rw [List.map_cons, kvSet]
    by_cases h : a = b
    · rw [if_pos h, if_pos (by simp [h]), h]; rfl
    · rw [if_neg h, kvD, List.map_cons]
      rw [kvD] at ih
      rw [ih]
      by_cases h2 : a ∈ r
      · rw [if_pos h2, if_pos (List.mem_cons_of_mem _ h2)]; rfl
      · rw [if_neg h2, if_neg (by simp [h, h2])]; rfl
theorem kvT_step (l : List Int) (k : Nat) : kvD .i16 (kvSet (l.getD k 0) (.v (.bool true)) ((keysOf l k).map fun x => (x, D.v (.bool true)))) = kvT (keysOf l (k + 1)) := kvT_set _ _
end Go.Proofs.Ytpkampecmlpfmaa.T

end
section
set_option linter.unusedSimpArgs false
set_option linter.unusedVariables false
/- A book of a sample, plainly. -/
namespace Go.Proofs.Ytpkampecmlpfmaa.T
open Go Go.VL Go.Proofs
/-- A sample, turned. -/
def turnedL (way : Int) (sample : List (List Int)) : List (List Int) := sample.map fun v => turnL v way.toNat
/-- The numbers that stand at one place. -/
def colOf (T : List (List Int)) (i : Nat) : List Int := T.map fun v => v.getD i 0
theorem colOf_length {T : List (List Int)} {i : Nat} : (colOf T i).length = T.length := by simp [colOf]
theorem colOf_snoc {T : List (List Int)} {i k : Nat} (h : k < T.length) : colOf (T.take (k + 1)) i = colOf (T.take k) i ++ [(T.getD k []).getD i 0] := by
  rw [take_snoc (d := ([] : List Int)) h]
  simp [colOf]
def oddN (n : Nat) (v : List Int) : Bool := decide (vecErr v ≠ 0 ∨ v.length ≠ n)
def sampleOk (n : Nat) (sample : List (List Int)) : Prop := ∀ v ∈ sample, vecErr v = 0 ∧ v.length = n
theorem sampleOk_iff {n : Nat} {sample : List (List Int)} : sample.any (oddN n) = false ↔ sampleOk n sample := by
  rw [List.any_eq_false]
  constructor
  · intro h v hv
    have := h v hv
    unfold oddN at this
    simp at this
    exact this
  · intro h v hv
    unfold oddN
    simp [h v hv]
def trE (w : Int) (cuts : List (List Int)) (way : Int) (sample : List (List Int)) : Int :=
  if ¬ (bookErr w cuts = 0 ∧ wayErr way = 0) ∨ sample.any (oddN cuts.length) = true then 1 else if 4096 < sample.length then 3 else 0
def trCuts (n cells : Nat) (way : Int) (sample : List (List Int)) : List (List Int) := (List.range n).map fun i => cutsL (colOf (turnedL way sample) i) cells
def trW (w : Int) (cuts : List (List Int)) (way : Int) (sample : List (List Int)) : Int := if trE w cuts way sample = 0 then (if sample = [] then w else way) else 0
def trC (w : Int) (cuts : List (List Int)) (way : Int) (sample : List (List Int)) : List (List Int) := if trE w cuts way sample = 0 then (if sample = [] then cuts else trCuts cuts.length (manyOf cuts + 1) way sample) else []
theorem trE_zero {w : Int} {cuts : List (List Int)} {way : Int} {sample : List (List Int)} : trE w cuts way sample = 0 ↔ bookErr w cuts = 0 ∧ wayErr way = 0 ∧ sampleOk cuts.length sample ∧ sample.length ≤ 4096 := by
  unfold trE
  by_cases h1 : ¬ (bookErr w cuts = 0 ∧ wayErr way = 0) ∨ sample.any (oddN cuts.length) = true
  · rw [if_pos h1]
    constructor
    · intro q; cases q
    · rintro ⟨a, b, c, _⟩
      rcases h1 with h1 | h1
      · exact absurd ⟨a, b⟩ h1
      · rw [sampleOk_iff.2 c] at h1; cases h1
  · rw [if_neg h1]
    have h2 : bookErr w cuts = 0 ∧ wayErr way = 0 := Classical.byContradiction fun q => h1 (.inl q)
    have h3 : sampleOk cuts.length sample := sampleOk_iff.1 (by cases q : sample.any (oddN cuts.length) with
      | false => rfl
      | true => exact absurd (.inr q) h1)
    by_cases h4 : 4096 < sample.length
    · rw [if_pos h4]
      constructor
      · intro q; cases q
      · rintro ⟨_, _, _, q⟩; omega
    · rw [if_neg h4]
      exact ⟨fun _ => ⟨h2.1, h2.2, h3, by omega⟩, fun _ => rfl⟩
theorem col_ok {n : Nat} {way : Int} {sample : List (List Int)} (hs : sampleOk n sample) (hI : I16r sample) {i : Nat} (hi : i < n) : (colOf (turnedL way sample) i).any oddB = false := by
  rw [List.any_eq_false]
  intro x hx
  simp only [colOf, turnedL, List.map_map, List.mem_map, Function.comp] at hx
  obtain ⟨v, hv, rfl⟩ := hx
  have h1 := hs v hv
  have h2 := vecOk_iff.1 (vecErr_zero.1 h1.1)
  have h3 := (vecOk_iff.1 (turnL_ok (hI v hv) (vecErr_zero.1 h1.1) way.toNat).1).2.2 _ (getD_mem (a := turnL v way.toNat) (d := (0 : Int)) (k := i) (by rw [turnL_length]; omega))
  rw [oddB, decide_eq_true_eq]
  omega
/-- The ways to the columns, so long each. -/
def refsL (n : Nat) (c : Nat → Nat) : List D := (List.range n).map fun i => .ref (1000 + i) (c i)
def cntC (k j : Nat) : Nat → Nat := fun i => if i < j then k + 1 else k
theorem cntC_zero (k : Nat) : cntC k 0 = fun _ => k := by funext i; exact if_neg (Nat.not_lt_zero _)
theorem refsL_length {n : Nat} {c : Nat → Nat} : (refsL n c).length = n := by simp [refsL]
theorem refsL_get {n j : Nat} {c : Nat → Nat} (h : j < n) : (refsL n c)[j]? = some (.ref (1000 + j) (c j)) := by simp [refsL, h]
theorem refsL_full {n k : Nat} : refsL n (cntC k n) = refsL n fun _ => k + 1 := List.map_congr_left fun i hi => by rw [cntC, if_pos (List.mem_range.1 hi)]
theorem refsL_kills {n j : Nat} {c : Nat → Nat} (h : j < n) : D.kills (1000 + j) (refsL n c) = (refsL n c).set j .any := by
  rw [D.kills_eq_map]
  apply List.ext_getElem
  · simp [refsL]
  · intro i h1 h2
    rw [List.getElem_set]
    simp only [refsL, List.getElem_map, List.getElem_range, D.kill]
    by_cases q : j = i
    · rw [if_pos q, if_pos (by omega)]
    · rw [if_neg q, if_neg (by omega)]
theorem refsL_step {n j k : Nat} (h : j < n) : ((refsL n (cntC k j)).set j .any).set j (.ref (1000 + j) (k + 1)) = refsL n (cntC k (j + 1)) := by
  rw [List.set_set]
  apply List.ext_getElem
  · simp [refsL]
  · intro i h1 h2
    rw [List.getElem_set]
    simp only [refsL, List.getElem_map, List.getElem_range, cntC]
    by_cases q : j = i
    · subst q; rw [if_pos rfl, if_pos (by omega)]
    · rw [if_neg q]
      by_cases z : i < j
      · rw [if_pos z, if_pos (by omega)]
      · rw [if_neg z, if_neg (by omega)]
def colsW (e : TypeId) (n : Nat) (T : List (List Int)) (c : Nat → Nat) : List (Nat × Own) := (List.range n).map fun i => (1000 + i, ⟨e, 1, ints .i16 (colOf (T.take (c i)) i)⟩)
theorem Heaps_colsW {s : St} {e : TypeId} {n : Nat} {T : List (List Int)} {c : Nat → Nat} : Heaps s (colsW e n T c) = ∀ i, i < n → s.H (1000 + i) = some ⟨e, 1, ints .i16 (colOf (T.take (c i)) i)⟩ := by
  rw [colsW, Heaps_range]
  simp only [List.mem_range]
theorem base_ne {i c : Nat} (h : c < 1000) : (1000 + i = c) = False := eq_false (by omega)
theorem base_ne' {i c : Nat} (h : c < 1000) : (c = 1000 + i) = False := eq_false (by omega)
theorem refsL_kept {n id : Nat} {c : Nat → Nat} (h : id < 1000) : D.kills id (refsL n c) = refsL n c := by
  rw [D.kills_eq_map, refsL, List.map_map]
  refine List.map_congr_left fun i _ => ?_
  simp only [Function.comp, D.kill]
  rw [if_neg (by omega)]
theorem refsL_any {n j : Nat} {c : Nat → Nat} (h : j < n) : ((refsL n c).set j .any)[j]? = some .any := by
  rw [List.getElem?_set_self (by rw [refsL_length]; exact h)]
theorem anyT_width : D.any.width = 1 := (rfl)
theorem setPartT_xr {i n : Nat} : setPart .any 0 (.ref i n) = some (.ref i n) := (rfl)
theorem colsT_get {n k : Nat} {T : List (List Int)} (h : k < n) : ((List.range n).map fun i => D.lst (ints .i16 (colOf T i)))[k]? = some (.lst (ints .i16 (colOf T k))) := by simp [h]
theorem trCuts_at {n cells k : Nat} {way : Int} {sample : List (List Int)} (h : k < n) : (trCuts n cells way sample).getD k [] = cutsL (colOf (turnedL way sample) k) cells := by simp [trCuts, List.getD, h]
theorem trCuts_length {n cells : Nat} {way : Int} {sample : List (List Int)} : (trCuts n cells way sample).length = n := by simp [trCuts]
end Go.Proofs.Ytpkampecmlpfmaa.T

end
section
set_option linter.unusedSimpArgs false
set_option linter.unusedVariables false
/- Lists looked through, and counted; walked. -/
namespace Go.Proofs.Ytpkampecmlpfmaa.T
open Go Go.VL Go.Proofs
set_option maxRecDepth 100000
set_option maxHeartbeats 8000000
theorem any16_take {p : Int → Bool} {l : List Int} {k : Nat} (h : k < l.length) : (l.take (k + 1)).any p = ((l.take k).any p || p (l.getD k 0)) := by
  rw [take_snoc (d := 0) h, List.any_append]; simp
theorem any16_of {p : Int → Bool} {l : List Int} {k : Nat} (h : k < l.length) (hp : p (l.getD k 0) = true) : l.any p = true := by
  rw [List.any_eq_true]
  exact ⟨_, getD_mem h, hp⟩

theorem indexFunc16_fun (l : List Int) (p : Int → Bool) (g : FuncId) (hg : ∀ x : Int, Fun Try.prog g [.v (.int .i16 x)] fun r => r = .v (.bool (p x))) :
    Fun Try.prog 136 [.lst (ints .i16 l), .clos (.func g) []] fun r => ∃ z : Int, r = .v (.int .i64 z) ∧ (0 ≤ z ↔ l.any p = true) := by
  refine Fun.of_awpI Try.func136 rfl cal136 Try.ntmps136 (by simp) fun hwf => ?_
  simp only [D.wfs, D.wf, ints_length, ints_wfs, rows_length, rows_wfs, capMax, and_true, true_and] at hwf
  repeat' (first | simp only [go_sem, Ret_eq Try.results136] | fail)
  refine awpI_for l.length (fun k => (l.take k).any p = false) (fun k => [(8, .v (.int .i64 k))]) (fun _ => []) [0, 1, 7] [] _ (Weak.refl _) (by simp) ?_ ?_ ?_
  · simp only [go_sem, Ret_eq Try.results136]
  · simp only [go_sem, Ret_eq Try.results136]
  · intro k s hk hQ hs
    simp only [go_sem, Ret_eq Try.results136] at hs
    by_cases hka : k < l.length
    · have hgk := hg (l.getD k 0)
      have e := any16_take (p := p) hka
      rw [hQ, Bool.false_or] at e
      have e2 := any16_of (p := p) hka
      generalize p (l.getD k 0) = b at *
      cases b
      · repeat' (first | simp only [go_sem, hs, Ret_eq Try.results136] | simp (disch := omega) only [arith, IntKind.bits, capMax, fill_len, elt_fill] | (refine Again.up (by omega) ?_ ?_) | (refine opCallI_rd (by simp only [go_sem, hs, Ret_eq Try.results136]; first | done | rfl) (hgk) (by rintro _ rfl; rfl) ?_; rintro _ rfl) | fail)
        exact e
      · repeat' (first | simp only [go_sem, hs, Ret_eq Try.results136] | simp (disch := omega) only [arith, IntKind.bits, capMax, fill_len, elt_fill] | (refine opCallI_rd (by simp only [go_sem, hs, Ret_eq Try.results136]; first | done | rfl) (hgk) (by rintro _ rfl; rfl) ?_; rintro _ rfl) | fail)
        exact ⟨_, rfl, fun _ => e2 rfl, fun _ => by omega⟩
    · obtain rfl : k = l.length := by omega
      rw [List.take_length] at hQ
      repeat' (first | simp only [go_sem, hs, Ret_eq Try.results136] | simp (disch := omega) only [arith, IntKind.bits, capMax, fill_len, elt_fill] | fail)
      exact ⟨_, rfl, fun h => absurd h (by decide), fun h => by rw [hQ] at h; cases h⟩

theorem containsFunc16_fun (l : List Int) (p : Int → Bool) (g : FuncId) (hg : ∀ x : Int, Fun Try.prog g [.v (.int .i16 x)] fun r => r = .v (.bool (p x))) :
    Fun Try.prog 87 [.lst (ints .i16 l), .clos (.func g) []] fun r => r = .v (.bool (l.any p)) := by
  refine Fun.of_awpI Try.func87 rfl cal87 Try.ntmps87 (by simp) fun hwf => ?_
  simp only [D.wfs, D.wf, ints_length, ints_wfs, rows_length, rows_wfs, capMax, and_true, true_and] at hwf
  repeat' (first | simp only [go_sem, Ret_eq Try.results87] | (refine opCallI_gv (by simp only [go_sem, Ret_eq Try.results87]; first | done | rfl) (indexFunc16_fun l p g hg) ?_; rintro _ ⟨z, rfl, hz⟩) | fail)
  rw [Bool.eq_iff_iff, decide_eq_true_eq]
  omega

theorem count_fun (c l : List Int) (hl : l.length ≤ 60000) (hcl : c.length ≤ 60000) : Fun Try.prog 29 [.lst (ints .i16 c), .lst (ints .i16 l)] fun r => r = .tup [.lst (ints .i64 (cntOut c l)), .v (.int .i64 (cntE c l))] := by
  have hch := rankCheck_fun c
  have key : ∀ e : Int, cntE c l = e → (cntE c l = e ∧ cntOut c l = if e = 0 then cntL c l else []) := fun e h => ⟨h, by unfold cntOut; rw [h]⟩
  by_cases h1 : 4096 < l.length
  · obtain ⟨k1, k2⟩ := key 3 (if_pos h1)
    rw [k1, k2, if_neg (by decide)]
    refine Fun.of_awpI Try.func29 rfl cal29 Try.ntmps29 (by simp) fun hwf => ?_
    simp only [D.wfs, D.wf, ints_length, ints_wfs, rows_length, rows_wfs, capMax, and_true, true_and] at hwf
    repeat' (first | simp only [go_sem, Ret_eq Try.results29] | simp (disch := omega) only [arith, IntKind.bits, capMax, fill_len, elt_fill] | fail)
  · have ku : cntE c l = if cutsErr c ≠ 0 ∨ l.any oddB = true then 1 else 0 := if_neg h1
    by_cases h2 : cutsErr c = 0
    · rw [h2] at hch
      by_cases h3 : l.any oddB = true
      · obtain ⟨k1, k2⟩ := key 1 (ku.trans (if_pos (.inr h3)))
        rw [k1, k2, if_neg (by decide)]
        refine Fun.of_awpI Try.func29 rfl cal29 Try.ntmps29 (by simp) fun hwf => ?_
        simp only [D.wfs, D.wf, ints_length, ints_wfs, rows_length, rows_wfs, capMax, and_true, true_and] at hwf
        repeat' (first | simp only [go_sem, Int.toNat_natCast, Ret_eq Try.results29] | simp (disch := omega) only [arith, IntKind.bits, capMax, fill_len, elt_fill] | (refine opCallI_rd (by simp only [go_sem, Int.toNat_natCast, Ret_eq Try.results29]; first | done | rfl) (hch) (by rintro _ rfl; rfl) ?_; rintro _ rfl) | fail)
        refine awpI_for l.length (fun k => (l.take k).any oddB = false) (fun k => [(25, .v (.int .i64 k))]) (fun k => [(22, ⟨3, 1, ints .i64 (cntL c (l.take k))⟩)]) [0, 6, 23, 24] [] _ (Weak.refl _) (by simp) ?_ ?_ ?_
        · simp only [go_sem, Ret_eq Try.results29]
        · simp only [go_sem, List.take_zero, cntL_nil, Ret_eq Try.results29]
        · intro k s hk hQ hs
          simp only [go_sem, Ret_eq Try.results29] at hs
          by_cases hka : k < l.length
          · have hce := rankCell_fun c (l.getD k 0)
            have e := any16_take (p := oddB) hka
            rw [hQ, Bool.false_or] at e
            have hl2 := cntL_length (c := c) (l := l.take k)
            have hcle := cellOf_le c (l.getD k 0)
            by_cases q : -32767 ≤ l.getD k 0
            · obtain ⟨c1, c2⟩ := cell_ok h2 q
              rw [c1, c2] at hce
              have es := cntL_snoc (c := c) (l := l.take k) (x := l.getD k 0)
              rw [← take_snoc (d := 0) hka] at es
              have hb : 0 ≤ (cntL c (l.take k)).getD (cellOf c (l.getD k 0)) 0 ∧ (cntL c (l.take k)).getD (cellOf c (l.getD k 0)) 0 ≤ 60000 := by
                rw [cntL_at (by omega)]
                have := List.countP_le_length (p := fun x => cellOf c x == cellOf c (l.getD k 0)) (l := l.take k)
                rw [List.length_take] at this
                omega
              have hob : oddB (l.getD k 0) = false := by unfold oddB; exact decide_eq_false (by omega)
              repeat' (first | simp only [go_sem, hs, hl2, es, Ret_eq Try.results29] | simp (disch := omega) only [arith, IntKind.bits, capMax, fill_len, elt_fill] | (refine Again.up (by omega) ?_ ?_) | (refine opCallI_rd (by simp only [go_sem, hs, hl2, es, Ret_eq Try.results29]; first | done | rfl) (hce) (by rintro _ rfl; rfl) ?_; rintro _ rfl) | fail)
              rw [e, hob]
            · obtain ⟨c1, c2⟩ := cell_bad (c := c) (x := l.getD k 0) (fun z => q z.2)
              rw [c1, c2] at hce
              repeat' (first | simp only [go_sem, hs, ints_nil, Ret_eq Try.results29] | simp (disch := omega) only [arith, IntKind.bits, capMax, fill_len, elt_fill] | (refine opCallI_rd (by simp only [go_sem, hs, ints_nil, Ret_eq Try.results29]; first | done | rfl) (hce) (by rintro _ rfl; rfl) ?_; rintro _ rfl) | fail)
          · obtain rfl : k = l.length := by omega
            rw [List.take_length, h3] at hQ
            cases hQ
      · have h3' : l.any oddB = false := by simpa using h3
        obtain ⟨k1, k2⟩ := key 0 (ku.trans (if_neg (fun z => z.elim (fun z => z h2) h3)))
        rw [k1, k2, if_pos rfl]
        refine Fun.of_awpI Try.func29 rfl cal29 Try.ntmps29 (by simp) fun hwf => ?_
        simp only [D.wfs, D.wf, ints_length, ints_wfs, rows_length, rows_wfs, capMax, and_true, true_and] at hwf
        repeat' (first | simp only [go_sem, Int.toNat_natCast, Ret_eq Try.results29] | simp (disch := omega) only [arith, IntKind.bits, capMax, fill_len, elt_fill] | (refine opCallI_rd (by simp only [go_sem, Int.toNat_natCast, Ret_eq Try.results29]; first | done | rfl) (hch) (by rintro _ rfl; rfl) ?_; rintro _ rfl) | fail)
        refine awpI_for l.length (fun k => True) (fun k => [(25, .v (.int .i64 k))]) (fun k => [(22, ⟨3, 1, ints .i64 (cntL c (l.take k))⟩)]) [0, 6, 23, 24] [] _ (Weak.refl _) trivial ?_ ?_ ?_
        · simp only [go_sem, Ret_eq Try.results29]
        · simp only [go_sem, List.take_zero, cntL_nil, Ret_eq Try.results29]
        · intro k s hk _ hs
          simp only [go_sem, Ret_eq Try.results29] at hs
          have hl2 := cntL_length (c := c) (l := l.take k)
          by_cases hka : k < l.length
          · have hce := rankCell_fun c (l.getD k 0)
            have hcle := cellOf_le c (l.getD k 0)
            have q : -32767 ≤ l.getD k 0 := by
              have := List.any_eq_false.1 h3' _ (getD_mem (d := 0) hka)
              unfold oddB at this
              rw [decide_eq_true_eq] at this; omega
            obtain ⟨c1, c2⟩ := cell_ok h2 q
            rw [c1, c2] at hce
            have es := cntL_snoc (c := c) (l := l.take k) (x := l.getD k 0)
            rw [← take_snoc (d := 0) hka] at es
            have hb : 0 ≤ (cntL c (l.take k)).getD (cellOf c (l.getD k 0)) 0 ∧ (cntL c (l.take k)).getD (cellOf c (l.getD k 0)) 0 ≤ 60000 := by
              rw [cntL_at (by omega)]
              have := List.countP_le_length (p := fun x => cellOf c x == cellOf c (l.getD k 0)) (l := l.take k)
              rw [List.length_take] at this
              omega
            repeat' (first | simp only [go_sem, hs, hl2, es, Ret_eq Try.results29] | simp (disch := omega) only [arith, IntKind.bits, capMax, fill_len, elt_fill] | (refine Again.up (by omega) ?_ ?_) | (refine opCallI_rd (by simp only [go_sem, hs, hl2, es, Ret_eq Try.results29]; first | done | rfl) (hce) (by rintro _ rfl; rfl) ?_; rintro _ rfl) | fail)
          · obtain rfl : k = l.length := by omega
            rw [List.take_length] at hs
            have hl3 := cntL_length (c := c) (l := l)
            have ht : (cntL c l).take (c.length + 1) = cntL c l := List.take_of_length_le (by omega)
            repeat' (first | simp only [go_sem, hs, hl3, ht, Ret_eq Try.results29] | simp (disch := omega) only [arith, IntKind.bits, capMax, fill_len, elt_fill] | fail)
    · obtain ⟨k1, k2⟩ := key 1 (ku.trans (if_pos (.inl h2)))
      rw [k1, k2, if_neg (by decide)]
      have h2' : cutsErr c = 1 := cutsErr_one (fun z => h2 (cutsErr_zero.2 z))
      rw [h2'] at hch
      refine Fun.of_awpI Try.func29 rfl cal29 Try.ntmps29 (by simp) fun hwf => ?_
      simp only [D.wfs, D.wf, ints_length, ints_wfs, rows_length, rows_wfs, capMax, and_true, true_and] at hwf
      repeat' (first | simp only [go_sem, Ret_eq Try.results29] | simp (disch := omega) only [arith, IntKind.bits, capMax, fill_len, elt_fill] | (refine opCallI_rd (by simp only [go_sem, Ret_eq Try.results29]; first | done | rfl) (hch) (by rintro _ rfl; rfl) ?_; rintro _ rfl) | fail)
end Go.Proofs.Ytpkampecmlpfmaa.T

end
section
set_option linter.unusedSimpArgs false
set_option linter.unusedVariables false
/- Where a list is cut, walked over what slices.Sorted does. -/
namespace Go.Proofs.Ytpkampecmlpfmaa.T
open Go Go.VL Go.Proofs
set_option maxRecDepth 100000
set_option maxHeartbeats 8000000

theorem values16_fun (l : List Int) : Fun Try.prog 90 [.lst (ints .i16 l)] fun r => r = .clos (.func 139) [.ptr (.lst (ints .i16 l))] := by
  refine Fun.of_awpI Try.func90 rfl cal90 Try.ntmps90 (by simp) fun hwf => ?_
  simp only [D.wfs, D.wf, ints_length, ints_wfs, rows_length, rows_wfs, capMax, and_true, true_and] at hwf
  repeat' (first | simp only [go_sem, Ret_eq Try.results90] | fail)
def Sorted16 : Prop := ∀ l : List Int, 1 ≤ l.length → l.length ≤ 60000 → FunO Try.prog 89 [.clos (.func 139) [.ptr (.lst (ints .i16 l))]] fun r o => r = .ref 0 l.length ∧ o = some ⟨23, 1, ints .i16 (sortI l)⟩
theorem fill_cuts {l : List Int} {n : Nat} : fill (fun i => (sortI l).getD ((i + 1) * l.length / n) 0) (List.replicate (n - 1) 0) (n - 1) = cutsL l n := by
  have := fill_all (f := fun i => (sortI l).getD ((i + 1) * l.length / n) 0) (a := List.replicate (n - 1) 0)
  rw [List.length_replicate] at this
  exact this

theorem rkCuts_fun (hS : Sorted16) (l : List Int) (cells : Int) (hl : l.length ≤ 60000) : Fun Try.prog 25 [.lst (ints .i16 l), .v (.int .i64 cells)] fun r => r = .tup [.lst (ints .i16 (rkOut l cells)), .v (.int .i64 (rkE l cells))] := by
  have hcf := containsFunc16_fun l oddB 88 (fun x => rankOdd_fun x)
  by_cases h : rkE l cells = 0
  · have e1 : rkOut l cells = cutsL l cells.toNat := if_pos h
    rw [e1, h]
    obtain ⟨h1, ⟨h2, h3⟩, h4, h5⟩ := rkE_zero.1 h
    obtain ⟨n, rfl⟩ := Int.eq_ofNat_of_zero_le (show 0 ≤ cells by omega)
    rw [Int.toNat_natCast]
    rw [h4] at hcf
    have hv := values16_fun l
    have hso := hS l h5 hl
    have hsl := sortI_length l
    have en : (n : Int) - 1 = ((n - 1 : Nat) : Int) := by omega
    have hne : ((l.length : Int) == 0) = false := beq_eq_false_iff_ne.2 (by omega)
    refine Fun.of_awpI Try.func25 rfl cal25 Try.ntmps25 (by simp) fun hwf => ?_
    simp only [D.wfs, D.wf, ints_length, ints_wfs, rows_length, rows_wfs, capMax, and_true, true_and] at hwf
    repeat' (first | simp only [go_sem, en, hne, Int.toNat_natCast, Ret_eq Try.results25] | simp (disch := omega) only [arith, IntKind.bits, capMax, fill_len, elt_fill] | (refine opCallI_rd (by simp only [go_sem, en, hne, Int.toNat_natCast, Ret_eq Try.results25]; first | done | rfl) (hcf) (by rintro _ rfl; rfl) ?_; rintro _ rfl) | (refine opCallI_gv (by simp only [go_sem, en, hne, Int.toNat_natCast, Ret_eq Try.results25]; first | done | rfl) (hv) ?_; rintro _ rfl) | (refine opCallI_ownGv (by simp only [go_sem, en, hne, Int.toNat_natCast, Ret_eq Try.results25]; first | done | rfl) (hso) ?_; rintro _ _ ⟨rfl, rfl⟩) | fail)
    refine awpI_for (n - 1) (fun k => True) (fun k => [(36, .v (.int .i64 k))]) (fun k => [(33, ⟨23, 1, ints .i16 (fill (fun i => (sortI l).getD ((i + 1) * l.length / n) 0) (List.replicate (n - 1) 0) k)⟩)]) [0, 1, 6, 7, 35] [30] _ (Weak.refl _) trivial ?_ ?_ ?_
    · simp only [go_sem, Ret_eq Try.results25]
    · simp only [go_sem, fill_zero, Ret_eq Try.results25]
    · intro k s hk _ hs
      simp only [go_sem, Ret_eq Try.results25] at hs
      by_cases hka : k < n - 1
      · have hlt := cutsL_idx (l := l) hka h5
        have e2 := fill_set (f := fun i => (sortI l).getD ((i + 1) * l.length / n) 0) (a := List.replicate (n - 1) 0) (k := k) (by simpa using hka)
        have el : (fill (fun i => (sortI l).getD ((i + 1) * l.length / n) 0) (List.replicate (n - 1) 0) k).length = n - 1 := by rw [fill_len (by simp; omega)]; simp
        have em : ((k + 1 : Nat) : Int) * (l.length : Int) = (((k + 1) * l.length : Nat) : Int) := (Int.natCast_mul _ _).symm
        have hmb : (k + 1) * l.length ≤ 16 * 4096 := Nat.mul_le_mul (by omega) h1
        have ed : (((k + 1) * l.length : Nat) : Int) / (n : Int) = (((k + 1) * l.length / n : Nat) : Int) := (Int.natCast_ediv _ _).symm
        have edt : (((k + 1) * l.length : Nat) : Int).tdiv (n : Int) = (((k + 1) * l.length / n : Nat) : Int) := by rw [Int.tdiv_eq_ediv_of_nonneg (by omega)]; exact ed
        obtain ⟨q, hq⟩ : ∃ q, (k + 1) * l.length / n = q := ⟨_, rfl⟩
        rw [hq] at e2 hlt ed edt
        repeat' (first | simp only [go_sem, hs, em, ed, edt, hsl, el, e2, Ret_eq Try.results25] | simp (disch := omega) only [arith, IntKind.bits, capMax, fill_len, elt_fill] | (refine Again.up (by omega) ?_ ?_) | fail)
      · obtain rfl : k = n - 1 := by omega
        rw [fill_cuts] at hs
        have hcl := cutsL_length (l := l) (n := n)
        have ht : (cutsL l n).take (n - 1) = cutsL l n := List.take_of_length_le (by omega)
        repeat' (first | simp only [go_sem, hs, hcl, ht, Ret_eq Try.results25] | simp (disch := omega) only [arith, IntKind.bits, capMax, fill_len, elt_fill] | fail)
  · have e1 : rkOut l cells = [] := if_neg h
    rw [e1]
    by_cases h1 : 4096 < l.length
    · rw [show rkE l cells = 3 from if_pos h1]
      refine Fun.of_awpI Try.func25 rfl cal25 Try.ntmps25 (by simp) fun hwf => ?_
      simp only [D.wfs, D.wf, ints_length, ints_wfs, rows_length, rows_wfs, capMax, and_true, true_and] at hwf
      repeat' (first | simp only [go_sem, ints_nil, Ret_eq Try.results25] | simp (disch := omega) only [arith, IntKind.bits, capMax, fill_len, elt_fill] | fail)
    · by_cases h2 : ¬ (1 ≤ cells ∧ cells ≤ 16) ∨ l.any oddB = true
      · rw [show rkE l cells = 1 from (if_neg h1).trans (if_pos h2)]
        by_cases q1 : 1 ≤ cells
        · by_cases q2 : cells ≤ 16
          · have q3 : l.any oddB = true := h2.resolve_left (fun z => z ⟨q1, q2⟩)
            rw [q3] at hcf
            refine Fun.of_awpI Try.func25 rfl cal25 Try.ntmps25 (by simp) fun hwf => ?_
            simp only [D.wfs, D.wf, ints_length, ints_wfs, rows_length, rows_wfs, capMax, and_true, true_and] at hwf
            repeat' (first | simp only [go_sem, ints_nil, Ret_eq Try.results25] | simp (disch := omega) only [arith, IntKind.bits, capMax, fill_len, elt_fill] | (refine opCallI_rd (by simp only [go_sem, ints_nil, Ret_eq Try.results25]; first | done | rfl) (hcf) (by rintro _ rfl; rfl) ?_; rintro _ rfl) | fail)
          · skip
            refine Fun.of_awpI Try.func25 rfl cal25 Try.ntmps25 (by simp) fun hwf => ?_
            simp only [D.wfs, D.wf, ints_length, ints_wfs, rows_length, rows_wfs, capMax, and_true, true_and] at hwf
            repeat' (first | simp only [go_sem, ints_nil, Ret_eq Try.results25] | simp (disch := omega) only [arith, IntKind.bits, capMax, fill_len, elt_fill] | fail)
        · skip
          refine Fun.of_awpI Try.func25 rfl cal25 Try.ntmps25 (by simp) fun hwf => ?_
          simp only [D.wfs, D.wf, ints_length, ints_wfs, rows_length, rows_wfs, capMax, and_true, true_and] at hwf
          repeat' (first | simp only [go_sem, ints_nil, Ret_eq Try.results25] | simp (disch := omega) only [arith, IntKind.bits, capMax, fill_len, elt_fill] | fail)
      · have h3 : (1 ≤ cells ∧ cells ≤ 16) ∧ l.any oddB = false := ⟨Classical.byContradiction fun q => h2 (.inl q), by
          cases e : l.any oddB with
          | false => rfl
          | true => exact absurd (.inr e) h2⟩
        obtain ⟨⟨h4, h5⟩, h6⟩ := h3
        rw [h6] at hcf
        have h7 : l.length = 0 := Classical.byContradiction fun q => h (rkE_zero.2 ⟨by omega, ⟨h4, h5⟩, h6, by omega⟩)
        rw [show rkE l cells = 5 from ((if_neg h1).trans (if_neg h2)).trans (if_pos h7)]
        refine Fun.of_awpI Try.func25 rfl cal25 Try.ntmps25 (by simp) fun hwf => ?_
        simp only [D.wfs, D.wf, ints_length, ints_wfs, rows_length, rows_wfs, capMax, and_true, true_and] at hwf
        repeat' (first | simp only [go_sem, ints_nil, h7, beq_self_eq_true, Ret_eq Try.results25] | simp (disch := omega) only [arith, IntKind.bits, capMax, fill_len, elt_fill] | (refine opCallI_rd (by simp only [go_sem, ints_nil, h7, beq_self_eq_true, Ret_eq Try.results25]; first | done | rfl) (hcf) (by rintro _ rfl; rfl) ?_; rintro _ rfl) | fail)
end Go.Proofs.Ytpkampecmlpfmaa.T

end
section
set_option linter.unusedSimpArgs false
set_option linter.unusedVariables false
/- A book's text, written and read, plainly. -/
namespace Go.Proofs.Ytpkampecmlpfmaa.T
open Go Go.VL Go.Proofs
theorem i16_fits {x : Int} (h : -32768 ≤ x ∧ x ≤ 32767) : putFit 2 x = true := by
  have e : (2 : Int) ^ (8 * 2 - 1) = 32768 := by decide
  refine (putFit_iff (w := 2) (by omega) (by decide)).2 ?_
  rw [e]; omega
theorem i64_fits {x : Int} (h : -9223372036854775808 ≤ x ∧ x ≤ 9223372036854775807) : putFit 8 x = true := by
  have e : (2 : Int) ^ (8 * 8 - 1) = 9223372036854775808 := by decide
  refine (putFit_iff (w := 8) h (by decide)).2 ?_
  rw [e]; omega
theorem all_flat {p : Int → Bool} : ∀ {c : List (List Int)}, (∀ x ∈ c, ∀ n ∈ x, p n = true) → c.flatten.all p = true := by
  intro c h
  rw [List.all_eq_true]
  intro n hn
  obtain ⟨x, hx, hn⟩ := List.mem_flatten.1 hn
  exact h x hx n hn
theorem many_le {w : Int} {cuts : List (List Int)} (h : bookErr w cuts = 0) : (1 ≤ cuts.length ∧ cuts.length ≤ 64) ∧ manyOf cuts ≤ 15 := ⟨⟨(bookErr_zero.1 h).1, (bookErr_zero.1 h).2.1⟩, book_many h⟩
theorem flat_len {w : Int} {cuts : List (List Int)} (h : bookErr w cuts = 0) : cuts.flatten.length = cuts.length * manyOf cuts := flat_length fun x hx => (book_rows h x hx).1
theorem txt_length {w : Int} {cuts : List (List Int)} (h : bookErr w cuts = 0) : (bookTxt w cuts).length = 10 + 2 * (cuts.length * manyOf cuts) := by
  unfold bookTxt
  rw [List.length_append, List.length_append, octs_length, flat_octs_length, flat_len h]; rfl
theorem txt_octets {w : Int} {cuts : List (List Int)} (h : bookErr w cuts = 0) : Octets (bookTxt w cuts) := by
  unfold bookTxt
  refine Octets.append (Octets.append (octs_octets _ _) ?_) (octs_all_octets _ _)
  have := many_le h
  intro c hc
  simp only [List.mem_cons, List.not_mem_nil, or_false] at hc
  omega
theorem txt_at {w : Int} {cuts : List (List Int)} : (bookTxt w cuts).getD 8 0 = cuts.length ∧ (bookTxt w cuts).getD 9 0 = manyOf cuts ∧ (bookTxt w cuts).drop 10 = cuts.flatten.flatMap (octs 2) := by
  have h8 : (octs 8 w).length = 8 := octs_length
  unfold bookTxt
  refine ⟨?_, ?_, ?_⟩
  · rw [List.append_assoc]
    simp only [List.getD]
    rw [List.getElem?_append_right (by omega), h8]; rfl
  · rw [List.append_assoc]
    simp only [List.getD]
    rw [List.getElem?_append_right (by omega), h8]; rfl
  · exact List.drop_left' (by rw [List.length_append, h8]; rfl)
theorem txt_back {w : Int} {cuts : List (List Int)} (h : bookErr w cuts = 0) (hw : -9223372036854775808 ≤ w ∧ w ≤ 9223372036854775807) (hr : I16r cuts) : fromOk (bookTxt w cuts) ∧ wayT (bookTxt w cuts) = w ∧ cutsT (bookTxt w cuts) = cuts := by
  obtain ⟨e1, e2, e3⟩ := txt_at (w := w) (cuts := cuts)
  have hd : dimT (bookTxt w cuts) = cuts.length := by unfold dimT; rw [e1]; rfl
  have hm : mnyT (bookTxt w cuts) = manyOf cuts := by unfold mnyT; rw [e2]; rfl
  have hway : wayT (bookTxt w cuts) = w := by
    unfold wayT bookTxt
    rw [List.append_assoc]
    refine takeNum_octs (w := 8) hw (by decide) (i64_fits hw) ?_
    have := txt_octets h
    unfold bookTxt at this
    rw [List.append_assoc] at this
    exact fun c hc => this c (List.mem_append_right _ hc)
  have hn : numsT (bookTxt w cuts) = cuts.flatten := by
    unfold numsT
    rw [hd, hm, e3, ← flat_len h]
    have := takeNums_octs (w := 2) (by decide) (r := []) (fun c hc => by cases hc) (l := cuts.flatten) (fun n hn => by
      obtain ⟨x, hx, hn⟩ := List.mem_flatten.1 hn
      have := hr x hx n hn
      omega) (all_flat fun x hx n hn => i16_fits (hr x hx n hn))
    rw [List.append_nil] at this
    exact this
  have hc : cutsT (bookTxt w cuts) = cuts := by
    unfold cutsT
    rw [hd, hm, hn]
    have := cuts_of_flat (m := manyOf cuts) cuts [] 0 (fun x hx => (book_rows h x hx).1) (by simp)
    simpa using this
  refine ⟨⟨by rw [txt_length h]; omega, by rw [txt_length h, hd, hm], by rw [hway, hc]; exact h⟩, hway, hc⟩
theorem back_txt {t : List Int} (ho : Octets t) (h : fromOk t) : bookTxt (wayT t) (cutsT t) = t := by
  obtain ⟨h1, h2, h3⟩ := h
  have hb := many_le h3
  have hd : (cutsT t).length = dimT t := cutsT_length
  have hm : manyOf (cutsT t) = mnyT t := by
    have := getD_mem (a := cutsT t) (d := []) (k := 0) (by omega)
    unfold cutsT at this
    obtain ⟨i, _, hi⟩ := List.mem_map.1 this
    show ((cutsT t).getD 0 []).length = _
    unfold cutsT
    rw [← hi]; exact cutT_length
  have o8 := (ho (t.getD 8 0) (getD_mem (by omega)))
  have o9 := (ho (t.getD 9 0) (getD_mem (by omega)))
  have e8 : ((cutsT t).length : Int) = t.getD 8 0 := by rw [hd]; unfold dimT; omega
  have e9 : (manyOf (cutsT t) : Int) = t.getD 9 0 := by rw [hm]; unfold mnyT; omega
  obtain ⟨f1, f2, f3⟩ := octs_takeNum (w := 8) (bs := t) (by decide) ho (by omega)
  unfold bookTxt
  rw [e8, e9, cutsT_flat]
  have f1' : octs 8 (wayT t) = t.take 8 := f1
  rw [f1']
  obtain ⟨g1, _⟩ := flat_takeNums (w := 2) (by decide) (dimT t * mnyT t) (bs := t.drop 10) (fun c hc => ho c (List.mem_of_mem_drop hc)) (by rw [List.length_drop]; omega)
  have g1' : (numsT t).flatMap (octs 2) = t.drop 10 := by
    unfold numsT
    refine g1.trans (List.take_of_length_le (by rw [List.length_drop]; omega))
  rw [g1']
  have t8 : t.drop 8 = t.getD 8 0 :: t.drop 9 := by rw [List.drop_eq_getElem_cons (by omega)]; simp [List.getD, show 8 < t.length by omega]
  have t9 : t.drop 9 = t.getD 9 0 :: t.drop 10 := by rw [List.drop_eq_getElem_cons (by omega)]; simp [List.getD, show 9 < t.length by omega]
  have g2 : t.take 8 ++ [t.getD 8 0, t.getD 9 0] ++ t.drop 10 = t.take 8 ++ t.drop 8 := by rw [t8, t9]; simp
  rw [g2]; exact List.take_append_drop 8 t
theorem plainCut_range {cells : Int} {k : Nat} (h : 1 ≤ cells ∧ cells ≤ 16) (hk : (k : Int) + 1 < cells) : -32767 ≤ plainCut cells k ∧ plainCut cells k ≤ 32767 := by
  unfold plainCut
  have h1 : ((k : Int) + 1) * 65536 / cells ≤ 65535 := by
    have : ((k : Int) + 1) * 65536 / cells < 65536 := Int.ediv_lt_of_lt_mul (by omega) (by omega)
    omega
  have h2 : 1 ≤ ((k : Int) + 1) * 65536 / cells := by rw [Int.le_ediv_iff_mul_le (by omega)]; omega
  omega
theorem plainCut_mono {cells : Int} {j k : Nat} (h : 1 ≤ cells) (hjk : j ≤ k) : plainCut cells j ≤ plainCut cells k := by
  unfold plainCut
  have := Int.ediv_le_ediv (c := cells) (by omega) (show ((j : Int) + 1) * 65536 ≤ ((k : Int) + 1) * 65536 by omega)
  omega
theorem plainRow_getD {cells : Int} {i : Nat} (h : i < (cells - 1).toNat) : (plainRow cells).getD i 0 = plainCut cells i := by
  have h2 : i < cells.toNat - 1 := by omega
  simp [plainRow, List.getD, h2]
theorem plainRow_ok {cells : Int} (h : 1 ≤ cells ∧ cells ≤ 16) : cutsErr (plainRow cells) = 0 := by
  have hl : (plainRow cells).length = (cells - 1).toNat := by simp [plainRow]
  rw [cutsErr_zero]
  refine ⟨by omega, fun i hi => ?_, fun h0 => ?_⟩
  · rw [plainRow_getD (by omega), plainRow_getD (by omega)]
    exact plainCut_mono h.1 (by omega)
  · rw [plainRow_getD (by omega)]
    exact (plainCut_range h (by omega)).1
theorem plain_ok {dim cells : Int} (h : sizesOk dim cells) : bookErr 0 (plainC dim cells) = 0 ∧ (manyOf (plainC dim cells) : Int) = cells - 1 ∧ ((plainC dim cells).length : Int) = dim := by
  have e : plainC dim cells = List.replicate dim.toNat (plainRow cells) := if_pos h
  obtain ⟨h1, h2⟩ := h
  have hl : (plainRow cells).length = (cells - 1).toNat := by simp [plainRow]
  have hm : manyOf (plainC dim cells) = (cells - 1).toNat := by
    rw [e]; unfold manyOf
    rw [show dim.toNat = (dim.toNat - 1) + 1 by omega, List.replicate_succ]; exact hl
  refine ⟨?_, by rw [hm]; omega, by rw [e, List.length_replicate]; omega⟩
  rw [bookErr_zero]
  refine ⟨by rw [e, List.length_replicate]; omega, by rw [e, List.length_replicate]; omega, by decide, ?_⟩
  rw [List.any_eq_false]
  intro c hc
  rw [e] at hc
  rw [List.eq_of_mem_replicate hc, hm]
  unfold oddCut
  rw [plainRow_ok h2, hl]
  simp
theorem plain_i16 {dim cells : Int} : I16r (plainC dim cells) := by
  intro c hc
  unfold plainC at hc
  split at hc
  · rename_i h
    rw [List.eq_of_mem_replicate hc]
    intro x hx
    obtain ⟨k, hk, rfl⟩ := List.mem_map.1 hx
    have := plainCut_range h.2 (k := k) (by have := List.mem_range.1 hk; omega)
    omega
  · cases hc
theorem size_plain {dim cells : Int} (h : sizesOk dim cells) : ((bookTxt 0 (plainC dim cells)).length : Int) = sizeV dim cells := by
  obtain ⟨h1, h2, h3⟩ := plain_ok h
  rw [txt_length h1]
  unfold sizeV
  rw [if_pos h, ← h2, ← h3]
  grind
end Go.Proofs.Ytpkampecmlpfmaa.T

end
section
set_option linter.unusedSimpArgs false
set_option linter.unusedVariables false
/- Lists of cuts that are filled row by row. -/
namespace Go.Proofs.Ytpkampecmlpfmaa.T
open Go Go.VL Go.Proofs
set_option maxRecDepth 100000
set_option maxHeartbeats 4000000
theorem AgainB_frz {n : Nat} {Q : Nat → Prop} {V : Nat → List (Nat × D)} {W : Nat → List (Nat × Own)} {keep hkeep : List Nat} {s0 : St} {k : Nat} {s : St} (id : Nat) (o : Own) (ho : s.H id = some o) (hn : D.noRefs o.els = true) (hw : o.els.all (fun d => d.width == o.S) = true) (h : k < n) (hQ : Q (k + 1))
    (hs : AtL V W keep hkeep s0 (k + 1) (s.frozen id (D.nrms o.els))) : @AgI s ⟨AgainW (fun k => n - k) (fun k => k ≤ n ∧ Q k) V W keep hkeep s0 k⟩ :=
  AgainW.weak (k + 1) (Weak.freeze ho hn hw) (by show n - (k + 1) < n - k; omega) ⟨h, hQ⟩ hs
def nils (m : Nat) : List D := List.replicate m (.v (.slice none 0 0))
def tab (A : List (List Int)) (m : Nat) : List D := rows .i16 A ++ nils m
def tabR (A : List (List Int)) (id len m : Nat) : List D := rows .i16 A ++ .ref id len :: nils m
def tabA (A : List (List Int)) (m : Nat) : List D := rows .i16 A ++ .any :: nils m
theorem nils_length {m : Nat} : (nils m).length = m := by simp [nils]
theorem tab_zero {m : Nat} : List.replicate m (D.v (.slice none 0 0)) = tab [] m := by simp [tab, nils, rows]
theorem tab_length {A : List (List Int)} {m : Nat} : (tab A m).length = A.length + m := by simp [tab, nils, rows]
theorem tabR_length {A : List (List Int)} {id len m : Nat} : (tabR A id len m).length = A.length + (m + 1) := by simp [tabR, nils, rows]
theorem tabA_length {A : List (List Int)} {m : Nat} : (tabA A m).length = A.length + (m + 1) := by simp [tabA, nils, rows]
theorem tab_get {A : List (List Int)} {m : Nat} : (tab A (m + 1))[A.length]? = some (.v (.slice none 0 0)) := by simp [tab, nils, rows, List.replicate_succ]
theorem tab_set {A : List (List Int)} {id len m : Nat} : (tab A (m + 1)).set A.length (.ref id len) = tabR A id len m := by
  have : (rows .i16 A).length = A.length := by simp [rows]
  unfold tab tabR
  rw [← this, List.set_append_right _ _ (Nat.le_refl _), Nat.sub_self]
  simp [nils, List.replicate_succ]
theorem tabA_set {A : List (List Int)} {id len m : Nat} : (tabA A m).set A.length (.ref id len) = tabR A id len m := by
  have : (rows .i16 A).length = A.length := by simp [rows]
  unfold tabA tabR
  rw [← this, List.set_append_right _ _ (Nat.le_refl _), Nat.sub_self]
  simp
theorem tabR_get {A : List (List Int)} {id len m : Nat} : (tabR A id len m)[A.length]? = some (.ref id len) := by
  have : (rows .i16 A).length = A.length := by simp [rows]
  unfold tabR
  rw [← this, List.getElem?_append_right (Nat.le_refl _), Nat.sub_self]
  rfl
theorem tabA_get {A : List (List Int)} {m : Nat} : (tabA A m)[A.length]? = some .any := by
  have : (rows .i16 A).length = A.length := by simp [rows]
  unfold tabA
  rw [← this, List.getElem?_append_right (Nat.le_refl _), Nat.sub_self]
  rfl
theorem tab_end {A : List (List Int)} : tab A 0 = rows .i16 A := by simp [tab, nils]
theorem nils_kills {m id : Nat} : D.kills id (nils m) = nils m := by simp [nils, D.kills_eq_map, D.kill]
theorem nils_frzs {m id : Nat} {els : List D} : D.frzs id els (nils m) = nils m := by simp [nils, D.frzs_eq, D.frz]
theorem tab_kills {A : List (List Int)} {m id : Nat} : D.kills id (tab A m) = tab A m := by
  unfold tab
  rw [D.kills_eq_map, List.map_append, ← D.kills_eq_map, ← D.kills_eq_map, nils_kills, rows_kills]
theorem tabR_kills {A : List (List Int)} {m id len : Nat} : D.kills id (tabR A id len m) = tabA A m := by
  unfold tabR tabA
  rw [D.kills_eq_map, List.map_append, ← D.kills_eq_map, rows_kills, List.map_cons, ← D.kills_eq_map, nils_kills]
  simp [D.kill]
theorem tabR_frzs {A : List (List Int)} {id m : Nat} {l : List Int} : D.frzs id (ints .i16 l) (tabR A id l.length m) = tab (A ++ [l]) m := by
  unfold tab tabR
  rw [D.frzs_eq, List.map_append, ← D.frzs_eq, rows_frzs, List.map_cons, ← D.frzs_eq, nils_frzs]
  have : (D.ref id l.length).frz id (ints .i16 l) = .lst (ints .i16 l) := by
    simp only [D.frz, if_true]
    rw [if_pos (by simp [ints])]
    congr 1
    exact List.take_of_length_le (by simp [ints])
  rw [this]
  simp [rows]
theorem nils_idss {m : Nat} : D.idss (nils m) = [] := by
  unfold nils
  induction m with
  | zero => rfl
  | succ m ih => rw [List.replicate_succ]; show _ ++ _ = _; rw [ih]; rfl
theorem idss_app : ∀ (a b : List D), D.idss (a ++ b) = D.idss a ++ D.idss b
  | [], b => rfl
  | x :: a, b => by rw [List.cons_append]; show _ ++ D.idss (a ++ b) = (_ ++ D.idss a) ++ _; rw [idss_app a b, List.append_assoc]
theorem tab_idss {A : List (List Int)} {m : Nat} : D.idss (tab A m) = [] := by unfold tab; rw [idss_app, rows_idss, nils_idss]; rfl
theorem tabR_idss {A : List (List Int)} {id len m : Nat} : D.idss (tabR A id len m) = [id] := by
  unfold tabR; rw [idss_app, rows_idss]
  show [] ++ ([id] ++ D.idss (nils m)) = _
  rw [nils_idss]; rfl
theorem tab_noRefs {A : List (List Int)} {m : Nat} : D.noRefs (tab A m) = true := by
  unfold tab nils
  rw [D.noRefs_eq, List.all_append, ← D.noRefs_eq, rows_noRefs]
  simp [D.noRef]
theorem tab_width1 {A : List (List Int)} {m : Nat} : (tab A m).all (fun d => d.width == 1) = true := by
  unfold tab nils
  rw [List.all_append, rows_width1]
  simp [D.width]
theorem tab_nrms {A : List (List Int)} {m : Nat} : D.nrms (tab A m) = rows .i16 (A ++ List.replicate m []) := by
  unfold tab nils
  rw [D.nrms_eq, List.map_append, ← D.nrms_eq, rows_nrms]
  simp [D.nrm, nilV, rows, ints]
attribute [go_sem] tab_idss tabR_idss tab_noRefs tab_width1 tab_nrms tab_zero tab_length tabR_length tabA_length tab_kills tabR_kills
theorem nums_i16 : ∀ (k : Nat) {bs : List Int}, Octets bs → 2 * k ≤ bs.length → ∀ x ∈ takeNums 2 k bs, -32768 ≤ x ∧ x ≤ 32767
  | 0, _, _, _, x, h => by cases h
  | k + 1, bs, ho, hl, x, h => by
    rw [takeNums] at h
    rcases List.mem_cons.1 h with rfl | h
    · have e := takeNum_eq (w := 2) (bs := bs) (by decide) ho (by omega)
      have hv := val_range (ho.take 2)
      rw [List.length_take, show min 2 bs.length = 2 by omega] at hv
      have := sgn_range (w := 2) (v := val (bs.take 2)) (by decide) (by omega)
      have e2 : (2 : Int) ^ (8 * 2 - 1) = 32768 := by decide
      rw [e2] at this
      have e3 : takeNum 2 bs = sgn 2 (val (bs.take 2)) := e
      rw [e3]; omega
    · refine nums_i16 k (ho.drop 2) (by rw [List.length_drop]; omega) x ?_
      simpa using h
theorem cutT_fill {l : List Int} {m i : Nat} : fill (fun j => l.getD (i * m + j) 0) (List.replicate m 0) m = cutT l m i := by
  have := fill_all (f := fun j => l.getD (i * m + j) 0) (a := List.replicate m 0)
  rw [List.length_replicate] at this
  exact this
theorem numsT_length {t : List Int} : (numsT t).length = dimT t * mnyT t := takeNums_length _ _ _
theorem cutsT_snoc {t : List Int} {k : Nat} (h : k < dimT t) : (cutsT t).take (k + 1) = (cutsT t).take k ++ [cutT (numsT t) (mnyT t) k] := by
  rw [take_snoc (d := []) (by rw [cutsT_length]; exact h)]
  congr 2
  unfold cutsT
  exact getD_map_range h
end Go.Proofs.Ytpkampecmlpfmaa.T

end
