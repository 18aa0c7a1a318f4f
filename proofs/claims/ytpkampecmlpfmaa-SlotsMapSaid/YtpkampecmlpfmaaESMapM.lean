import Derived.Test.YtpkampecmlpfmaaESApM
import Derived.Test.YtpkampecmlpfmaaLE
set_option linter.unusedSimpArgs false
set_option linter.unusedVariables false
/- Slots beside a map, plainly. -/
namespace Go.Proofs.Ytpkampecmlpfmaa.T
open Go Go.VL Go.Proofs
theorem look_none {a : Int} : ∀ {l : List (Int × Int)}, lookN a l = none ↔ a ∉ l.map fun p => p.1
  | [] => by simp [lookN]
  | (b, e) :: r => by
    have := look_none (a := a) (l := r)
    rw [lookN]
    by_cases h : a = b
    · rw [if_pos h]; simp [h]
    · rw [if_neg h, this]; simp [h]
theorem set_keys {a d : Int} : ∀ l : List (Int × Int), (setN a d l).map (fun p => p.1) = if a ∈ l.map (fun p => p.1) then l.map (fun p => p.1) else l.map (fun p => p.1) ++ [a]
  | [] => by simp [setN]
  | (b, e) :: r => by
    have := set_keys (a := a) (d := d) r
    rw [setN]
    by_cases h : a = b
    · rw [if_pos h, if_pos (by simp [h]), h]; rfl
    · rw [if_neg h, List.map_cons, this]
      by_cases h2 : a ∈ r.map (fun p => p.1)
      · rw [if_pos h2, if_pos (by rw [List.map_cons]; exact List.mem_cons_of_mem _ h2)]; rfl
      · rw [if_neg h2, if_neg (by rw [List.map_cons, List.mem_cons]; exact fun q => q.elim h h2)]; rfl
theorem del_keys {a : Int} : ∀ l : List (Int × Int), (delN a l).map (fun p => p.1) = (l.map (fun p => p.1)).erase a
  | [] => rfl
  | (b, e) :: r => by
    have := del_keys (a := a) r
    rw [delN]
    by_cases h : a = b
    · rw [if_pos h, List.map_cons, h, List.erase_cons_head]
    · rw [if_neg h, List.map_cons, List.map_cons, List.erase_cons_tail (by simpa using fun q => h q.symm), this]
theorem look_del {a b : Int} : ∀ {l : List (Int × Int)}, a ≠ b → lookN a (delN b l) = lookN a l
  | [], _ => rfl
  | (c, e) :: r, h => by
    have := look_del (a := a) (b := b) (l := r) h
    rw [delN]
    by_cases q : b = c
    · rw [if_pos q, lookN, if_neg (by rw [← q]; exact h)]
    · rw [if_neg q, lookN, lookN, this]
theorem keysF_nodup {dim : Int} {ids : List Int} {vecs : List (List Int)} (h : slotsOk dim ids vecs) : (keysF ids).Nodup := by
  unfold keysF
  rw [List.Nodup, List.pairwise_filter, List.pairwise_iff_getElem]
  intro i j hi hj hij h1 h2 e
  have := slots_ids h hij hj (by simpa [List.getD, hi, hj] using e)
  simp [List.getD, hj] at this
  simp [this] at h2
theorem keysF_count (l : List Int) : (keysF l).length + l.count (-1) = l.length := by
  rw [keysF, ← List.countP_eq_length_filter, List.count, List.length_eq_countP_add_countP (fun x => x == -1) (l := l), Nat.add_comm]
  congr 2
  funext x
  by_cases h : x = -1 <;> simp [h]
/-- Slots, and two maps of what is in them, and where. -/
def MInv (ids : List Int) (vecs : List (List Int)) (has at0 : List (Int × Int)) : Prop :=
  slotsOk 1 ids vecs ∧ (has.map fun p => p.1).Perm (keysF ids) ∧ (at0.map fun p => p.1).Perm (keysF ids) ∧
    ∀ j, j < ids.length → ids.getD j 0 ≠ -1 → (∃ x, vecs.getD j [] = [x] ∧ lookN (ids.getD j 0) has = some x) ∧ lookN (ids.getD j 0) at0 = some (j : Int)
theorem MInv.there {ids : List Int} {vecs : List (List Int)} {has at0 : List (Int × Int)} (h : MInv ids vecs has at0) (id : Int) : (lookN id has).isSome = true ↔ id ∈ ids ∧ id ≠ -1 := by
  rw [← keysF_mem, ← h.2.1.mem_iff]
  cases e : lookN id has with
  | none => have := look_none.1 e; simp; simpa using this
  | some x =>
    have : ¬ (lookN id has = none) := by rw [e]; exact fun q => by cases q
    rw [look_none, Classical.not_not] at this
    simp; simpa using this
theorem MInv.size {ids : List Int} {vecs : List (List Int)} {has at0 : List (Int × Int)} (h : MInv ids vecs has at0) : has.length = (keysF ids).length := by
  have := h.2.1.length_eq
  simpa using this
theorem MInv.full {ids : List Int} {vecs : List (List Int)} {has at0 : List (Int × Int)} (h : MInv ids vecs has at0) : has.length = ids.length ↔ ¬ 0 < ids.count (-1) := by
  have h1 := h.size
  have h2 := keysF_count ids
  omega
theorem MInv.put {ids : List Int} {vecs : List (List Int)} {has at0 : List (Int × Int)} (h : MInv ids vecs has at0) {id x : Int} (hp : putE 1 ids vecs id [x] = 0) :
    ∃ i : Nat, i < ids.length ∧ putI 1 ids vecs id [x] = i ∧ (∀ y, lookN id has = some y → lookN id at0 = some (i : Int)) ∧ MInv (ids.set i id) (vecs.set i [x]) (setN id x has) (setN id i at0) := by
  obtain ⟨i, i1, i2, i3, i4, i5, i6, i7, i8⟩ := put_sets hp
  have hid : id ≠ -1 := by have := i4.1; omega
  have hk : ∀ m : List (Int × Int), (m.map fun p => p.1).Perm (keysF ids) → ∀ d, ((setN id d m).map fun p => p.1).Perm (keysF (ids.set i id)) := fun m hm d => by
    rw [set_keys]
    refine List.Perm.trans ?_ i6.symm
    have e : id ∈ (m.map fun p => p.1) ↔ id ∈ ids := by rw [hm.mem_iff, keysF_mem]; exact ⟨fun q => q.1, fun q => ⟨q, hid⟩⟩
    by_cases q : id ∈ ids
    · rw [if_pos q, if_pos (e.2 q)]; exact hm
    · rw [if_neg q, if_neg (fun z => q (e.1 z))]
      exact (List.perm_append_singleton _ _).trans (hm.cons _)
  have hvl : vecs.length = ids.length := h.1.2.2.1
  have n1 : (ids.set i id).length = ids.length := List.length_set
  refine ⟨i, i1, i2, fun y hy => ?_, i3, hk has h.2.1 x, hk at0 h.2.2.1 i, fun j hj hne => ?_⟩
  · have hm := (h.there id).1 (by rw [hy]; rfl)
    have hmi : ids.getD i 0 = id := by
      rcases i5 with q | q
      · exact q
      · exfalso
        have e := i8
        rw [if_pos hm.1] at e
        obtain ⟨R, r1, r2⟩ := set_perm i1 id
        rw [q] at r1
        rw [r2.count_eq, r1.count_eq, List.count_cons_self, List.count_cons_of_ne hid] at e
        omega
    have := (h.2.2.2 i i1 (by rw [hmi]; exact hid)).2
    rw [hmi] at this
    exact this
  · rw [n1] at hj
    by_cases q : j = i
    · subst q
      rw [getDset i1, if_pos rfl, getDset (by omega), if_pos rfl]
      exact ⟨⟨x, rfl, by rw [look_set, if_pos rfl]⟩, by rw [look_set, if_pos rfl]⟩
    · have hd : ids.getD j 0 ≠ id := by
        intro e
        have e1 : (ids.set i id).getD i 0 = id := by rw [getDset i1, if_pos rfl]
        have e2 : (ids.set i id).getD j 0 = id := by rw [getDset hj, if_neg q, e]
        by_cases z : i < j
        · have := slots_ids i3 z (by omega) (by rw [e1, e2])
          rw [e2] at this; exact hid this
        · have := slots_ids i3 (show j < i by omega) (by omega) (by rw [e1, e2])
          rw [e1] at this; exact hid this
      rw [getDset hj, if_neg q] at hne ⊢
      rw [getDset (by omega), if_neg q]
      obtain ⟨⟨y, y1, y2⟩, y3⟩ := h.2.2.2 j hj hne
      exact ⟨⟨y, y1, by rw [look_set, if_neg hd]; exact y2⟩, by rw [look_set, if_neg hd]; exact y3⟩
theorem MInv.del {ids : List Int} {vecs : List (List Int)} {has at0 : List (Int × Int)} (h : MInv ids vecs has at0) {id : Int} (hp : findE 1 ids vecs id = 0) :
    ∃ i : Nat, i < ids.length ∧ findI 1 ids vecs id = i ∧ lookN id at0 = some (i : Int) ∧ (id ∈ ids ∧ id ≠ -1) ∧ MInv (ids.set i (-1)) (vecs.set i []) (delN id has) (delN id at0) := by
  obtain ⟨i, i1, i2, i3, i4⟩ := del_zero hp
  have hid : id ≠ -1 := by have := (find_zero hp).2.1.1; omega
  have hm : id ∈ ids := mem_at.2 ⟨i, i1, i3⟩
  obtain ⟨R, r1, r2⟩ := set_perm i1 (-1)
  rw [i3] at r1
  have k1 := keysF_perm r1
  have k2 := keysF_perm r2
  rw [keysF_cons _ hid] at k1
  rw [keysF_nobody] at k2
  have hk : ∀ m : List (Int × Int), (m.map fun p => p.1).Perm (keysF ids) → ((delN id m).map fun p => p.1).Perm (keysF (ids.set i (-1))) := fun m hm => by
    rw [del_keys]
    have := (hm.trans k1).erase id
    rw [List.erase_cons_head] at this
    exact this.trans k2.symm
  have hvl : vecs.length = ids.length := h.1.2.2.1
  have n1 : (ids.set i (-1)).length = ids.length := List.length_set
  have hat := (h.2.2.2 i i1 (by rw [i3]; exact hid)).2
  rw [i3] at hat
  refine ⟨i, i1, i2, hat, ⟨hm, hid⟩, i4, hk has h.2.1, hk at0 h.2.2.1, fun j hj hne => ?_⟩
  rw [n1] at hj
  by_cases q : j = i
  · subst q
    rw [getDset i1, if_pos rfl] at hne
    exact absurd rfl hne
  · rw [getDset hj, if_neg q] at hne ⊢
    have hd : ids.getD j 0 ≠ id := by
      intro e
      by_cases z : i < j
      · have := slots_ids h.1 z (by omega) (by rw [i3, e])
        rw [e] at this; exact hid this
      · have := slots_ids h.1 (show j < i by omega) (by omega) (by rw [i3, e])
        rw [i3] at this; exact hid this
    rw [getDset (by omega), if_neg q]
    obtain ⟨⟨y, y1, y2⟩, y3⟩ := h.2.2.2 j hj hne
    exact ⟨⟨y, y1, by rw [look_del hd]; exact y2⟩, by rw [look_del hd]; exact y3⟩
end Go.Proofs.Ytpkampecmlpfmaa.T
