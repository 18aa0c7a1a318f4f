import Derived.Test.YtfmeiapglpphpaaVL14
/- Loops; lists of numbers, and lists of these. -/
namespace Go.VL
open Go Go.RowKit

theorem awp_loop {P : Program} {c : Code} {N : St → Prop} {X : Nat → St → Prop} {R : St → Prop} {st : St} (I : Nat → St → Prop) (n : Nat) (s : St) (hw : Weak st s) (hI : I n s)
    (hr : ∀ n s, I n s → awp P c (fun s' => ∃ m s'', m < n ∧ Weak s' s'' ∧ I m s'') X R s) : awp P (.loop c) N X R st := ⟨I, ⟨n, s, hw, hI⟩, hr⟩

def Next (I : Nat → St → Prop) (n k : Nat) (s' : St) : Prop := ∃ m s'', m < n - k ∧ Weak s' s'' ∧ ∃ k', k' + m = n ∧ I k' s''
theorem Next.mk {I : Nat → St → Prop} {n k : Nat} {s' s'' : St} (h : k < n) (hw : Weak s' s'') (hI : I (k + 1) s'') : Next I n k s' := ⟨n - (k + 1), s'', by omega, hw, k + 1, by omega, hI⟩
theorem Next.to {I : Nat → St → Prop} {n k : Nat} {s' : St} (h : k < n) (hI : I (k + 1) s') : Next I n k s' := Next.mk h (Weak.refl _) hI

/-- A loop that counts up to n. -/
theorem awp_count {P : Program} {c : Code} {N : St → Prop} {X : Nat → St → Prop} {R : St → Prop} {st : St} (n : Nat) (I : Nat → St → Prop) (s : St) (hw : Weak st s) (hI : I 0 s)
    (hr : ∀ k s, k ≤ n → I k s → awp P c (Next I n k) X R s) : awp P (.loop c) N X R st := by
  refine ⟨fun m s => ∃ k, k + m = n ∧ I k s, ⟨n, s, hw, 0, by omega, hI⟩, ?_⟩
  rintro m s ⟨k, hk, hI⟩
  have h := hr k s (by omega) hI
  have e : (fun s' => ∃ m' s'', m' < m ∧ Weak s' s'' ∧ ∃ k', k' + m' = n ∧ I k' s'') = Next I n k := by
    funext s'
    have : n - k = m := by omega
    simp only [Next, this]
  rw [e]; exact h

/-- What is nil is an object with nothing in it. -/
def St.adopt (st : St) (j id : Nat) (e : TypeId) (S : Nat) : St := ((st.killed id).obj id ⟨e, S, []⟩).put (some j) (.ref id 0)

theorem Weak.adopt {st : St} {j : Nat} (id : Nat) (e : TypeId) (S : Nat) (h : st.t j = .v (.slice none 0 0)) (hj : j < st.n) (hS : 0 < S) : Weak st (st.adopt j id e S) := by
  intro J0 ρ J B w0 a w hs
  have h1 := hs.slots j
  rw [h] at h1
  have key := hs.reobj id ⟨e, S, []⟩ ⟨none, 0, S⟩ none ⟨rfl, rfl, rfl, Nat.le_refl _, fun _ _ _ => rfl⟩ (fun k hk => by cases hk) (fun g hg1 hg2 => by simp at hg1)
    ⟨by simp [upd_same], hS, by simp, by simp [upd_same, maxLen], by simp, [], rfl, by simp, .inl ⟨by simp [upd_same], rfl⟩⟩
  refine ⟨upd ρ id ⟨none, 0, S⟩, J, ?_⟩
  have hput := key.put (some j) (fun d hd => by cases hd; exact hj) (x := .ref id 0) (y := .slice none 0 0) (by simp [RelD, upd_same])
  have hst : (a.put (some j) (.slice none 0 0)) = a := by
    have hlt : j < a.tmps.size := by rw [hs.size]; exact hj
    have hg : a.tmps[j] = .slice none 0 0 := by
      have := h1.1
      simpa [hlt] using this
    cases a with
    | mk tm df =>
      simp only [Act.put]
      congr 1
      apply Array.ext
      · simp
      · intro i h1' h2'
        by_cases hi : j = i
        · subst hi; simpa using hg.symm
        · rw [Array.getElem_setIfInBounds_ne _ hi]
  rw [hst] at hput
  exact hput

theorem Weak.trans {a b c : St} (h : Weak a b) (h' : Weak b c) : Weak a c := fun J0 ρ J B w0 ac w hs =>
  let ⟨ρ1, J1, h1⟩ := h J0 ρ J B w0 ac w hs; h' J0 ρ1 J1 B w0 ac w h1

-- lists of numbers
def ints (k : IntKind) (l : List Int) : List D := l.map fun n => .v (.int k n)
section
variable {k : IntKind} {l m : List Int} {x : Int} {n i id : Nat}
theorem ints_length : (ints k l).length = l.length := by simp [ints]
theorem ints_nil : ints k [] = [] := (rfl)
theorem ints_cons : ints k (x :: l) = .v (.int k x) :: ints k l := (rfl)
theorem ints_append : ints k l ++ ints k m = ints k (l ++ m) := by simp [ints]
theorem ints_snoc : ints k l ++ [.v (.int k x)] = ints k (l ++ [x]) := by simp [ints]
theorem ints_take : (ints k l).take n = ints k (l.take n) := by simp [ints]
theorem ints_drop : (ints k l).drop n = ints k (l.drop n) := by simp [ints]
theorem ints_set : (ints k l).set i (.v (.int k x)) = ints k (l.set i x) := by simp [ints]
theorem ints_get (h : i < l.length) : (ints k l)[i]? = some (.v (.int k (l.getD i 0))) := by simp [ints, h]
theorem ints_ok : (∀ d ∈ ints k l, d.width = 1 ∧ d.storable = true) = True := by
  simp only [eq_iff_iff, iff_true]
  intro d hd
  obtain ⟨y, _, rfl⟩ := List.mem_map.1 hd
  exact ⟨rfl, rfl⟩
theorem ints_kills : D.kills id (ints k l) = ints k l := by rw [D.kills_eq_map]; simp [ints, D.kill]
theorem ints_frzs {els : List D} : D.frzs id els (ints k l) = ints k l := by rw [D.frzs_eq]; simp [ints, D.frz]
theorem ints_nrms : D.nrms (ints k l) = ints k l := by rw [D.nrms_eq]; simp [ints, D.nrm, nilV]
theorem ints_noRefs : D.noRefs (ints k l) = true := by rw [D.noRefs_eq]; simp [ints, D.noRef]
theorem ints_idss : D.idss (ints k l) = [] := by
  induction l with
  | nil => rfl
  | cons x l ih => rw [ints_cons, D.idss, ih]; rfl
theorem ints_wfs : D.wfs (ints k l) := by
  induction l with
  | nil => trivial
  | cons x l ih => exact ⟨trivial, ih⟩
theorem ints_width {S : Nat} : (ints k l).all (fun d => d.width == S) = (l.all fun _ => 1 == S) := by simp [ints, List.all_map, D.width, Function.comp_def]
theorem ints_replicate : List.replicate n (D.v (.int k x)) = ints k (List.replicate n x) := by simp [ints]
theorem ints_bytes {l : List Int} : bytesOf (ints .u8 l) = some l := bytesOf_map l
theorem ints_inj : (ints k l = ints k m) = (l = m) := by
  apply propext
  constructor
  · intro h
    have := congrArg (List.map fun d => match d with | D.v (.int _ n) => n | _ => 0) h
    have e : ∀ q : List Int, (ints k q).map (fun d => match d with | D.v (.int _ n) => n | _ => 0) = q := by
      intro q
      induction q with
      | nil => rfl
      | cons y q ih => rw [ints_cons, List.map_cons, ih]
    rw [e, e] at this
    exact this
  · rintro rfl; rfl
end

-- lists of lists
def rows (k : IntKind) (ll : List (List Int)) : List D := ll.map fun l => .lst (ints k l)
section
variable {k : IntKind} {l m : List (List Int)} {x : List Int} {n i id : Nat}
theorem rows_length : (rows k l).length = l.length := by simp [rows]
theorem rows_nil : rows k [] = [] := (rfl)
theorem rows_cons : rows k (x :: l) = .lst (ints k x) :: rows k l := (rfl)
theorem rows_append : rows k l ++ rows k m = rows k (l ++ m) := by simp [rows]
theorem rows_snoc : rows k l ++ [.lst (ints k x)] = rows k (l ++ [x]) := by simp [rows]
theorem rows_take : (rows k l).take n = rows k (l.take n) := by simp [rows]
theorem rows_drop : (rows k l).drop n = rows k (l.drop n) := by simp [rows]
theorem rows_set : (rows k l).set i (.lst (ints k x)) = rows k (l.set i x) := by simp [rows]
theorem rows_get (h : i < l.length) : (rows k l)[i]? = some (.lst (ints k (l.getD i []))) := by simp [rows, h]
theorem rows_ok : (∀ d ∈ rows k l, d.width = 1 ∧ d.storable = true) = True := by
  simp only [eq_iff_iff, iff_true]
  intro d hd
  obtain ⟨y, _, rfl⟩ := List.mem_map.1 hd
  exact ⟨rfl, rfl⟩
theorem rows_kills : D.kills id (rows k l) = rows k l := by rw [D.kills_eq_map]; simp [rows, D.kill]
theorem rows_frzs {els : List D} : D.frzs id els (rows k l) = rows k l := by rw [D.frzs_eq]; simp [rows, D.frz]
theorem rows_nrms : D.nrms (rows k l) = rows k l := by rw [D.nrms_eq]; simp [rows, D.nrm]
theorem rows_noRefs : D.noRefs (rows k l) = true := by rw [D.noRefs_eq]; simp [rows, D.noRef]
theorem rows_idss : D.idss (rows k l) = [] := by
  induction l with
  | nil => rfl
  | cons x l ih => rw [rows_cons, D.idss, ih]; rfl
theorem rows_width {S : Nat} : (rows k l).all (fun d => d.width == S) = (l.all fun _ => 1 == S) := by simp [rows, List.all_map, D.width, Function.comp_def]
theorem rows_wfs : D.wfs (rows k l) ↔ ∀ r ∈ l, r.length ≤ capMax := by
  induction l with
  | nil => simp [rows, D.wfs]
  | cons x l ih => rw [rows_cons, D.wfs, ih]; simp [D.wf, ints_length, ints_wfs]
end

end Go.VL
