import Derived.Test.YtpkampecmlpfmaaESPutM
import Derived.Test.YtpkampecmlpfmaaEM
set_option linter.unusedSimpArgs false
set_option linter.unusedVariables false
/- Two ids put in either order, plainly. -/
namespace Go.Proofs.Ytpkampecmlpfmaa.T
open Go Go.VL Go.Proofs
def keysF (ids : List Int) : List Int := ids.filter fun x => !(x == -1)
theorem keysF_perm {l m : List Int} (h : l.Perm m) : (keysF l).Perm (keysF m) := h.filter _
theorem keysF_nobody (l : List Int) : keysF (-1 :: l) = keysF l := by simp [keysF]
theorem keysF_cons {a : Int} (l : List Int) (h : a ≠ -1) : keysF (a :: l) = a :: keysF l := by simp [keysF, h]
theorem keysF_mem {a : Int} {l : List Int} : a ∈ keysF l ↔ a ∈ l ∧ a ≠ -1 := by simp [keysF]
theorem set_perm {l : List Int} {i : Nat} (h : i < l.length) (x : Int) : ∃ R, l.Perm (l.getD i 0 :: R) ∧ (l.set i x).Perm (x :: R) := by
  refine ⟨l.take i ++ l.drop (i + 1), ?_, ?_⟩
  · have e : l = l.take i ++ l.getD i 0 :: l.drop (i + 1) := by
      have : l.getD i 0 = l[i] := by simp [List.getD, h]
      rw [this, List.getElem_cons_drop, List.take_append_drop]
    rw (config := { occs := .pos [1] }) [e]
    exact List.perm_middle
  · have e : l.set i x = l.take i ++ x :: l.drop (i + 1) := by rw [List.set_eq_take_append_cons_drop, if_pos h]
    rw [e]; exact List.perm_middle
theorem mem_at {l : List Int} {a : Int} : a ∈ l ↔ ∃ j, j < l.length ∧ l.getD j 0 = a := by
  constructor
  · intro h
    obtain ⟨j, hj, e⟩ := List.mem_iff_getElem.1 h
    exact ⟨j, hj, by rw [← e]; simp [List.getD, hj]⟩
  · rintro ⟨j, hj, e⟩
    rw [← e]; exact getD_mem hj
/-- What is put, by the ids as they are. -/
theorem put_sets {dim : Int} {ids : List Int} {vecs : List (List Int)} {id : Int} {v : List Int} (h : putE dim ids vecs id v = 0) :
    ∃ i : Nat, i < ids.length ∧ putI dim ids vecs id v = i ∧ slotsOk dim (ids.set i id) (vecs.set i v) ∧ idOk id ∧ (ids.getD i 0 = id ∨ ids.getD i 0 = -1) ∧
      (keysF (ids.set i id)).Perm (if id ∈ ids then keysF ids else id :: keysF ids) ∧ (∀ x, x ≠ -1 → (x ∈ ids.set i id ↔ x = id ∨ x ∈ ids)) ∧ (ids.set i id).count (-1) + (if id ∈ ids then 0 else 1) = ids.count (-1) := by
  obtain ⟨s1, s2, i, i1, i2, i3, i4⟩ := put_zero h
  have hid : id ≠ -1 := by have := s2.1; omega
  obtain ⟨R, r1, r2⟩ := set_perm i1 id
  refine ⟨i, i1, i2, i3, s2, ?_, ?_⟩
  · rcases i4 with q | ⟨q, _⟩
    · exact .inl q
    · exact .inr q
  · rcases i4 with q | ⟨q, q2⟩
    · have hm : id ∈ ids := mem_at.2 ⟨i, i1, q⟩
      rw [if_pos hm, if_pos hm]
      rw [q] at r1
      have e := r2.trans r1.symm
      refine ⟨keysF_perm e, fun x hx => ?_, by rw [e.count_eq]; omega⟩
      rw [e.mem_iff]
      constructor
      · exact .inr
      · rintro (rfl | z)
        · exact hm
        · exact z
    · have hm : id ∉ ids := fun z => by obtain ⟨j, hj, e⟩ := mem_at.1 z; exact q2 j hj e
      rw [if_neg hm, if_neg hm]
      rw [q] at r1
      refine ⟨?_, fun x hx => ?_, ?_⟩
      · have e1 := keysF_perm r1
        have e2 := keysF_perm r2
        rw [keysF_nobody] at e1
        rw [keysF_cons _ hid] at e2
        exact e2.trans (e1.symm.cons _)
      · rw [r2.mem_iff, r1.mem_iff, List.mem_cons, List.mem_cons]
        constructor
        · rintro (z | z)
          · exact .inl z
          · exact .inr (.inr z)
        · rintro (z | z | z)
          · exact .inl z
          · exact absurd z hx
          · exact .inr z
      · rw [r2.count_eq, r1.count_eq, List.count_cons_self, List.count_cons_of_ne hid]
theorem count_pos {l : List Int} : 0 < l.count (-1) ↔ ∃ j, j < l.length ∧ l.getD j 0 = -1 := by rw [List.count_pos_iff, mem_at]
/-- What may be put, by the ids as they are. -/
theorem put_may {dim : Int} {ids : List Int} {vecs : List (List Int)} {id : Int} {v : List Int} (hs : slotsOk dim ids vecs) (hid : idOk id) (hv : vecErr v = 0 ∧ (v.length : Int) = dim) :
    putE dim ids vecs id v = if id ∈ ids ∨ 0 < ids.count (-1) then 0 else 7 := by
  have h1 : findE dim ids vecs id ≠ 1 := by
    unfold findE; rw [if_pos ⟨hs, hid⟩]; split <;> decide
  unfold putE
  rw [if_neg (fun q => q.elim h1 fun q => q hv)]
  by_cases hm : id ∈ ids
  · obtain ⟨j, j1, j2⟩ := mem_at.1 hm
    rw [if_neg (fun q => by rw [(find_at hs hid j1 j2).1] at q; cases q.1), if_pos (.inl hm)]
  · have f5 : findE dim ids vecs id = 5 := by
      rcases find_cases dim ids vecs id with f | f | f
      · obtain ⟨_, _, j, j1, _, j3⟩ := find_zero f
        exact absurd (mem_at.2 ⟨j, j1, j3⟩) hm
      · exact absurd f h1
      · exact f
    rcases idx_cases ids (-1) with ⟨k, k1, k2, k3, k4⟩ | ⟨k1, k2⟩
    · rw [if_neg (fun q => by have := q.2; omega), if_pos (.inr (count_pos.2 ⟨k, k1, k3⟩))]
    · rw [if_pos ⟨f5, by omega⟩, if_neg]
      rintro (q | q)
      · exact hm q
      · obtain ⟨j, j1, j2⟩ := count_pos.1 q
        exact k2 j j1 j2
theorem put_fits {dim : Int} {ids : List Int} {vecs : List (List Int)} {id : Int} {v : List Int} (h : putE dim ids vecs id v = 0) : vecErr v = 0 ∧ (v.length : Int) = dim := by
  by_cases q : vecErr v = 0 ∧ (v.length : Int) = dim
  · exact q
  · unfold putE at h; rw [if_pos (.inr q)] at h; cases h
/-- Two ids put in either order. -/
theorem put_two {dim : Int} {ids : List Int} {vecs : List (List Int)} {a b : Int} {v w : List Int} (hab : a ≠ b) (h1 : putE dim ids vecs a v = 0) (h2 : putE dim ids vecs b w = 0) :
    ∃ i j : Nat, (i < ids.length ∧ putI dim ids vecs a v = i) ∧ (j < ids.length ∧ putI dim ids vecs b w = j) ∧
      putE dim (ids.set i a) (vecs.set i v) b w = putE dim (ids.set j b) (vecs.set j w) a v ∧
      (putE dim (ids.set i a) (vecs.set i v) b w = 0 ∨ putE dim (ids.set i a) (vecs.set i v) b w = 7) ∧
      (putE dim (ids.set i a) (vecs.set i v) b w = 0 → ∃ k m : Nat, putI dim (ids.set i a) (vecs.set i v) b w = k ∧ putI dim (ids.set j b) (vecs.set j w) a v = m ∧
        slotsOk dim ((ids.set i a).set k b) ((vecs.set i v).set k w) ∧ slotsOk dim ((ids.set j b).set m a) ((vecs.set j w).set m v) ∧
        sortI (keysF ((ids.set i a).set k b)) = sortI (keysF ((ids.set j b).set m a))) := by
  obtain ⟨i, i1, i2, i3, i4, i5, i6, i7, i8⟩ := put_sets h1
  obtain ⟨j, j1, j2, j3, j4, j5, j6, j7, j8⟩ := put_sets h2
  have ha : a ≠ -1 := by have := i4.1; omega
  have hb : b ≠ -1 := by have := j4.1; omega
  have e1 := put_may i3 j4 (put_fits h2)
  have e2 := put_may j3 i4 (put_fits h1)
  have m1 := i7 b hb
  have m2 := j7 a ha
  have s := (put_zero h1).1
  have p1 := put_may s i4 (put_fits h1)
  have p2 := put_may s j4 (put_fits h2)
  rw [h1] at p1
  rw [h2] at p2
  have q1 : a ∈ ids ∨ 0 < ids.count (-1) := Classical.byContradiction fun z => by rw [if_neg z] at p1; cases p1
  have q2 : b ∈ ids ∨ 0 < ids.count (-1) := Classical.byContradiction fun z => by rw [if_neg z] at p2; cases p2
  have hiff : (b ∈ ids.set i a ∨ 0 < (ids.set i a).count (-1)) ↔ (a ∈ ids.set j b ∨ 0 < (ids.set j b).count (-1)) := by
    rw [m1, m2]
    by_cases ra : a ∈ ids
    · by_cases rb : b ∈ ids
      · exact ⟨fun _ => .inl (.inr ra), fun _ => .inl (.inr rb)⟩
      · rw [if_pos ra] at i8
        exact ⟨fun _ => .inl (.inr ra), fun _ => .inr (by have := q2.resolve_left rb; omega)⟩
    · by_cases rb : b ∈ ids
      · rw [if_pos rb] at j8
        exact ⟨fun _ => .inr (by have := q1.resolve_left ra; omega), fun _ => .inl (.inr rb)⟩
      · rw [if_neg ra] at i8
        rw [if_neg rb] at j8
        constructor
        · rintro ((z | z) | z)
          · exact absurd z.symm hab
          · exact absurd z rb
          · exact .inr (by omega)
        · rintro ((z | z) | z)
          · exact absurd z hab
          · exact absurd z ra
          · exact .inr (by omega)
  have hE : putE dim (ids.set i a) (vecs.set i v) b w = putE dim (ids.set j b) (vecs.set j w) a v := by
    rw [e1, e2]
    by_cases z : b ∈ ids.set i a ∨ 0 < (ids.set i a).count (-1)
    · rw [if_pos z, if_pos (hiff.1 z)]
    · rw [if_neg z, if_neg (fun y => z (hiff.2 y))]
  refine ⟨i, j, ⟨i1, i2⟩, ⟨j1, j2⟩, hE, ?_, fun h => ?_⟩
  · rw [e1]; split
    · exact .inl rfl
    · exact .inr rfl
  · obtain ⟨k, k1, k2, k3, k4, k5, k6, k7, k8⟩ := put_sets h
    rw [hE] at h
    obtain ⟨m, m1', m2', m3, m4, m5, m6, m7, m8⟩ := put_sets h
    refine ⟨k, m, k2, m2', k3, m3, ?_⟩
    refine sorted_unique ((sortI_perm _).trans (List.Perm.trans ?_ (sortI_perm _).symm)) (sortI_sorted _) (sortI_sorted _)
    refine k6.trans (List.Perm.trans ?_ m6.symm)
    by_cases ra : a ∈ ids
    · by_cases rb : b ∈ ids
      · rw [if_pos (m1.2 (.inr rb)), if_pos (m2.2 (.inr ra))]
        rw [if_pos ra] at i6
        rw [if_pos rb] at j6
        exact i6.trans j6.symm
      · rw [if_neg (fun z => (m1.1 z).elim (fun z => hab z.symm) rb), if_pos (m2.2 (.inr ra))]
        rw [if_pos ra] at i6
        rw [if_neg rb] at j6
        exact (i6.cons _).trans j6.symm
    · by_cases rb : b ∈ ids
      · rw [if_pos (m1.2 (.inr rb)), if_neg (fun z => (m2.1 z).elim hab ra)]
        rw [if_neg ra] at i6
        rw [if_pos rb] at j6
        exact i6.trans (j6.symm.cons _)
      · rw [if_neg (fun z => (m1.1 z).elim (fun z => hab z.symm) rb), if_neg (fun z => (m2.1 z).elim hab ra)]
        rw [if_neg ra] at i6
        rw [if_neg rb] at j6
        exact (i6.cons _).trans ((List.Perm.swap _ _ _).trans (j6.symm.cons _))
end Go.Proofs.Ytpkampecmlpfmaa.T
