import Derived.Test.YtfmeiapglpphpaaVL9
/- Struct literals; calls by contract. -/
namespace Go.VL
open Go Go.RowKit

def cellsD : D → List D
  | .agg l => l
  | d => [d]

/-- The cells of a literal, part by part. -/
def fillD (place : Nat → Option (Nat × Nat)) : List D → List (Nat × D) → Option (List D)
  | cells, [] => some cells
  | cells, (i, v) :: rest =>
    match place i with
    | none => none
    | some (off, size) => if v.width = size ∧ off + size ≤ cells.length ∧ v.storable = true then fillD place (cells.take off ++ cellsD v ++ cells.drop (off + size)) rest else none

theorem cellsD_rel {ρ : Nat → Loc} {J : Nat → Prop} {w : World} {d : D} {y : Value} (h : RelD ρ J w d y) (hs : d.storable = true) : RelDs ρ J w (cellsD d) y.cells.toList := by
  obtain ⟨h1, h2, h3⟩ := RelD_cells h hs
  cases hd : d.isAgg with
  | true =>
    cases d with
    | agg l => obtain ⟨vs, rfl, h4, _⟩ := h; simpa [cellsD, Value.cells] using h4
    | _ => cases hd
  | false =>
    rw [h3 hd]
    have : cellsD d = [d] := by cases d <;> first | rfl | cases hd
    rw [this]
    exact ⟨y, [], rfl, h, rfl⟩

theorem fillD_rel {ρ : Nat → Loc} {J : Nat → Prop} {w : World} (place : Nat → Option (Nat × Nat)) : ∀ (ps : List (Nat × D)) (vs : List (Nat × Value)) (cs : List D) (cells : Array Value) (r : List D),
    ps.length = vs.length → (∀ (j : Nat) (p : Nat × D) (q : Nat × Value), ps[j]? = some p → vs[j]? = some q → p.1 = q.1 ∧ RelD ρ J w p.2 q.2) → RelDs ρ J w cs cells.toList → (∀ c ∈ cells.toList, c.oneCell' = true) → fillD place cs ps = some r →
    ∃ r', Instr.fill place cells vs = some r' ∧ RelDs ρ J w r r'.toList ∧ ∀ c ∈ r'.toList, c.oneCell' = true
  | [], [], cs, cells, r, _, _, hc, h1, h => by simp only [fillD, Option.some.injEq] at h; subst h; exact ⟨cells, rfl, hc, h1⟩
  | [], _ :: _, _, _, _, hl, _, _, _, _ => by simp at hl
  | _ :: _, [], _, _, _, hl, _, _, _, _ => by simp at hl
  | (i, d) :: ps, (k, v) :: vs, cs, cells, r, hl, hp, hc, h1, h => by
    obtain ⟨rfl, hd⟩ := hp 0 (i, d) (k, v) rfl rfl
    unfold fillD at h
    split at h
    · cases h
    · rename_i off size hpl
      split at h
      · rename_i hcond
        obtain ⟨hw, hle, hst⟩ := hcond
        obtain ⟨g1, g2, _⟩ := RelD_cells hd hst
        have hcl : cs.length = cells.size := by have := (RelDs_get _ _ hc).1; simpa using this
        have hfit : off + v.cells.size ≤ cells.size := by rw [g1, hw, ← hcl]; exact hle
        have hf := foldl_cells v off cells hfit
        generalize hcc : v.cells.zipIdx.foldl (fun cs (c, j) => cs.setIfInBounds (off + j) c) cells = cells' at hf
        have hrel : RelDs ρ J w (cs.take off ++ cellsD d ++ cs.drop (off + size)) cells'.toList := by
          rw [hf, g1, hw]
          exact RelDs_app _ _ _ _ (RelDs_app _ _ _ _ (RelDs_take _ _ _ hc) (cellsD_rel hd hst)) (RelDs_drop _ _ _ hc)
        have hone : ∀ c ∈ cells'.toList, c.oneCell' = true := by
          rw [hf]
          intro c hcm
          simp only [List.mem_append] at hcm
          rcases hcm with (hcm | hcm) | hcm
          · exact h1 c (List.mem_of_mem_take hcm)
          · exact g2 c hcm
          · exact h1 c (List.mem_of_mem_drop hcm)
        obtain ⟨r', h2, h3, h4⟩ := fillD_rel place ps vs _ cells' r (by simpa using hl) (fun j p q hj hq => hp (j + 1) p q (by simpa using hj) (by simpa using hq)) hrel hone h
        refine ⟨r', ?_, h3, h4⟩
        unfold Instr.fill
        simp only [hpl]
        rw [if_neg (by simp [g1, hw]; omega), hcc]
        exact h2
      · cases h

def placesT (P : Program) (t : TypeId) : Option (Nat → Option (Nat × Nat)) :=
  match P.underlying t with
  | some (.struct fs) => some fun i => (fs[i]?).map fun f => (f.offset, P.cellsOf f.type)
  | some (.array _ e) => some fun i => some (i * P.cellsOf e, P.cellsOf e)
  | _ => none

/-- Every field of a struct type has cells. -/
def fieldsOK (P : Program) (t : TypeId) : Bool :=
  match P.underlying t with
  | some (.struct fs) => fs.toList.all fun f => decide (0 < P.cellsOf f.type)
  | some (.array _ e) => decide (0 < P.cellsOf e)
  | _ => false

def opBuild (P : Program) (t : TypeId) (parts : List (Nat × D)) (K : D → Prop) : Prop :=
  fieldsOK P t = true ∧ ∃ pl, placesT P t = some pl ∧ ∃ z, zeroT P t = some z ∧ ∃ zs, D.ofVal z = .agg zs ∧ ∃ r, fillD pl zs parts = some r ∧ K (.agg r)

theorem run_places {P : Program} {w : World} : ∀ (fs : List Field), (∀ f ∈ fs, 0 < P.cellsOf f.type) → (fs.mapM fun f => do pure (f.offset, ← sizeOf f.type) : Sem (List (Nat × Nat))).run P w = .ok (fs.map fun f => (f.offset, P.cellsOf f.type)) w
  | [], _ => by simp
  | f :: fs, h => by
    have ih := run_places (P := P) (w := w) fs fun g hg => h g (by simp [hg])
    simp only [List.mapM_cons, Sem.run_bind, run_size (h f (by simp)), Result.andThen_ok, Sem.run_pure, ih, List.map_cons]

theorem opBuild_sound {P : Program} {o : Oper} {t : TypeId} {parts : Array (Nat × Operand)} (ho : o.op = .build t parts) {K : St → D → Prop} {st : St}
    (h : opBuild P t (parts.toList.map fun p => (p.1, st.ev p.2)) (K st)) : OpX P o K st := by
  obtain ⟨h1, pl, h2, z, h3, zs, h4, r, h5, h6⟩ := h
  refine OpX.pure _ h6 fun J0 ρ J B w0 a w hs => ?_
  have hz := RelD_ofVal (ρ := ρ) (J := J) (w := w) z
  rw [h4] at hz
  obtain ⟨us, rfl, g1, g2⟩ := hz
  have hpm : (parts.map fun x => (x.1, a.eval x.2)).toList = parts.toList.map fun p => (p.1, a.eval p.2) := by simp
  obtain ⟨r', g3, g4, g5⟩ := fillD_rel (ρ := ρ) (J := J) (w := w) pl (parts.toList.map fun p => (p.1, st.ev p.2)) (parts.toList.map fun p => (p.1, a.eval p.2)) zs us.toArray r (by simp)
    (fun j p q hj hq => by
      simp only [List.getElem?_map, Option.map_eq_some_iff] at hj hq
      obtain ⟨x, hx, rfl⟩ := hj
      obtain ⟨y, hy, rfl⟩ := hq
      rw [hx] at hy
      cases hy
      exact ⟨rfl, hs.ev _⟩) g1 (by simpa using g2) h5
  refine ⟨.agg r', ?_, r'.toList, by simp, g4, g5⟩
  unfold placesT at h2
  unfold fieldsOK at h1
  split at h2
  · rename_i fs hfs
    simp only [hfs] at h1
    cases h2
    have hfl : ∀ f ∈ fs.toList, 0 < P.cellsOf f.type := fun f hf => by have := List.all_eq_true.1 h1 f hf; simpa using this
    have hrp := run_places (P := P) (w := w) fs.toList hfl
    have hma : (fs.mapM fun f => do pure (f.offset, ← sizeOf f.type) : Sem (Array (Nat × Nat))).run P w = .ok (fs.map fun f => (f.offset, P.cellsOf f.type)) w := by
      rw [Array.mapM_eq_mapM_toList]
      simp only [Sem.run_map, hrp, Result.andThen_ok]
      congr 1
      apply Array.ext'
      simp
    have hpf : (fun i : Nat => (fs.map fun f : Field => (f.offset, P.cellsOf f.type))[i]?) = fun i : Nat => (fs[i]?).map fun f : Field => (f.offset, P.cellsOf f.type) := by funext i; simp
    simp only [execOp, ho, Instr.build, Sem.run_bind, run_zero h3, Result.andThen_ok, run_underlying hfs, hma, hpf, hpm, Value.cells, g3, Sem.run_pure]
  · rename_i n e hfs
    simp only [hfs] at h1
    cases h2
    have he : 0 < P.cellsOf e := by simpa using h1
    simp only [execOp, ho, Instr.build, Sem.run_bind, run_zero h3, Result.andThen_ok, run_underlying hfs, run_size he, hpm, Value.cells, g3, Sem.run_pure]
  · cases h2

-- what was owned is owned no more, and may not change from now on
def nilV : Value → Bool
  | .slice none 0 0 => true
  | _ => false

mutual
def D.nrm : D → D
  | .v x => if nilV x then .lst [] else .v x
  | .nil0 => .lst []
  | .agg l => .agg (D.nrms l)
  | .tup l => .tup (D.nrms l)
  | .clos f l => .clos f (D.nrms l)
  | .ptr d => .ptr d.nrm
  | .any => .any
  | .lst l => .lst l
  | .ref i n => .ref i n
  | .adr i a b => .adr i a b
def D.nrms : List D → List D
  | [] => []
  | d :: ds => d.nrm :: D.nrms ds
end

theorem D.nrms_eq (l : List D) : D.nrms l = l.map D.nrm := by
  induction l with
  | nil => rfl
  | cons d ds ih => simp [D.nrms, ih]

theorem nilV_spec {x : Value} (h : nilV x = true) : x = .slice none 0 0 := by
  unfold nilV at h
  split at h
  · rfl
  · cases h

mutual
theorem D.nrm_width : ∀ d : D, d.nrm.width = d.width
  | .v x => by simp only [D.nrm]; split <;> rfl
  | .nil0 => rfl
  | .agg l => by simp [D.nrm, D.width, D.nrms_eq]
  | .tup _ => rfl
  | .clos _ _ => rfl
  | .ptr _ => rfl
  | .any => rfl
  | .lst _ => rfl
  | .ref _ _ => rfl
  | .adr _ _ _ => rfl
end

theorem RelP_nil {J : Nat → Prop} {w : World} (a : Option Addr) : RelP J w (.lst []) (.slice a 0 0) :=
  ⟨a, 0, [], rfl, Nat.le_refl _, Nat.zero_le _, Nat.zero_le _, fun _ => rfl, rfl, .inl rfl⟩

mutual
theorem RelP.nrm {J : Nat → Prop} {w : World} : ∀ {d : D} {y : Value}, RelP J w d y → RelP J w d.nrm y
  | .any, _, _ => trivial
  | .v x, y, h => by
    simp only [D.nrm]
    split
    · rename_i hn
      rw [nilV_spec hn] at h
      rw [h.1]
      exact RelP_nil none
    · exact h
  | .nil0, y, h => by obtain ⟨a, rfl⟩ := h; exact RelP_nil a
  | .lst _, _, h => h
  | .ptr d, y, h => by
    obtain ⟨b, o, x, h1, h2, h3, h4, h5⟩ := h
    exact ⟨b, o, x, h1, RelP.nrm h2, by rw [D.nrm_width]; exact h3, h4, h5⟩
  | .agg l, y, h => by
    obtain ⟨vs, h1, h2, h3⟩ := h
    exact ⟨vs, h1, RelPs.nrm h2, h3⟩
  | .tup l, y, h => by
    obtain ⟨vs, h1, h2⟩ := h
    exact ⟨vs, h1, RelPs.nrm h2⟩
  | .clos f caps, y, h => by
    obtain ⟨vs, h1, h2⟩ := h
    exact ⟨vs, h1, RelPs.nrm h2⟩
  | .ref _ _, _, h => h.elim
  | .adr _ _ _, _, h => h.elim
theorem RelPs.nrm {J : Nat → Prop} {w : World} : ∀ {l : List D} {vs : List Value}, RelPs J w l vs → RelPs J w (D.nrms l) vs
  | [], _, h => h
  | d :: ds, vs, h => by
    obtain ⟨x, xs, h1, h2, h3⟩ := h
    exact ⟨x, xs, h1, RelP.nrm h2, RelPs.nrm h3⟩
end

mutual
def D.frz (id : Nat) (els : List D) : D → D
  | .ref i n => if i = id then (if n ≤ els.length then .lst (els.take n) else .any) else .ref i n
  | .adr i a b => if i = id then (if b = 0 then (match els[a]? with | some d => .ptr d | none => .any) else .any) else .adr i a b
  | .agg l => .agg (D.frzs id els l)
  | .tup l => .tup (D.frzs id els l)
  | .clos f l => .clos f (D.frzs id els l)
  | .any => .any
  | .v x => .v x
  | .nil0 => .nil0
  | .lst l => .lst l
  | .ptr d => .ptr d
def D.frzs (id : Nat) (els : List D) : List D → List D
  | [] => []
  | d :: ds => d.frz id els :: D.frzs id els ds
end

theorem D.frzs_eq (id : Nat) (els l : List D) : D.frzs id els l = l.map (D.frz id els) := by
  induction l with
  | nil => rfl
  | cons d ds ih => simp [D.frzs, ih]

def St.frozen (st : St) (id : Nat) (els : List D) : St :=
  { st with t := fun j => (st.t j).frz id els, H := fun j => if j = id then none else (st.H j).map fun o => { o with els := D.frzs id els o.els } }

/-- What is known of the cells of an object that is given up. -/
structure Given (ρ : Nat → Loc) (J : Nat → Prop) (w : World) (id : Nat) (els : List D) : Prop where
  S : 0 < (ρ id).S
  vs : ∃ vs, RelPs J w els vs ∧ (∀ x ∈ vs, x.cells.size = (ρ id).S) ∧ (∀ d ∈ els, d.width = (ρ id).S) ∧ els.length ≤ capMax ∧ els.length ≤ (ρ id).cap ∧ (ρ id).cap ≤ maxLen ∧
    (els = [] ∨ ∃ g, (ρ id).a = some ⟨g, 0, none⟩ ∧ J g ∧ ∀ (j : Nat) (u : Value), (flat vs)[j]? = some u → w.cell? ⟨g, j, none⟩ = some u)

theorem Given.lst {ρ : Nat → Loc} {J : Nat → Prop} {w : World} {id : Nat} {els : List D} (h : Given ρ J w id els) {n : Nat} (hn : n ≤ els.length) : RelP J w (.lst (els.take n)) (.slice (ρ id).a n (ρ id).cap) := by
  obtain ⟨hS, vs, h1, h2, _, h3, h4, h5, h6⟩ := h
  have hl : (els.take n).length = n := by simp; omega
  refine ⟨(ρ id).a, (ρ id).cap, vs.take n, by rw [hl], by rw [hl]; omega, h5, by rw [hl]; omega, fun ha => ?_, RelPs_take _ h1, ?_⟩
  · rcases h6 with h6 | ⟨g, h7, _⟩
    · rw [h6]; simp
    · rw [ha] at h7; cases h7
  · rcases h6 with h6 | ⟨g, h7, h8, h9⟩
    · left
      rw [h6] at h1
      have : vs = [] := h1
      rw [this]; simp
    · refine .inr ⟨g, 0, h7, h8, fun j u hu => ?_⟩
      rw [Nat.zero_add]
      have hu' : (flat (vs.take n))[j]? = some u := hu
      rw [flat_take (S := (ρ id).S) n vs h2, List.getElem?_take] at hu'
      split at hu'
      · exact h9 j u hu'
      · cases hu'

mutual
theorem RelD.frozen {ρ : Nat → Loc} {J J' : Nat → Prop} {w : World} {id : Nat} {els : List D} (hJ : ∀ b, J b → J' b) (hg : Given ρ J' w id els) : ∀ (d : D) (y : Value), RelD ρ J w d y → RelD ρ J' w (d.frz id els) y
  | .any, _, _ => trivial
  | .v _, _, h => h
  | .nil0, _, h => h
  | .lst l, y, h => RelP.mono hJ (fun _ _ => rfl) (.lst l) y h
  | .ptr d, y, h => RelP.mono hJ (fun _ _ => rfl) (.ptr d) y h
  | .agg l, y, h => by
    obtain ⟨vs, h1, h2, h3⟩ := h
    exact ⟨vs, h1, RelDs.frozen hJ hg l vs h2, h3⟩
  | .tup l, y, h => by
    obtain ⟨vs, h1, h2⟩ := h
    exact ⟨vs, h1, RelDs.frozen hJ hg l vs h2⟩
  | .clos f caps, y, h => by
    obtain ⟨vs, h1, h2⟩ := h
    exact ⟨vs, h1, RelDs.frozen hJ hg caps vs h2⟩
  | .ref i n, y, h => by
    simp only [D.frz]
    split
    · rename_i hi
      subst hi
      split
      · rename_i hn
        have h' : y = .slice (ρ i).a n (ρ i).cap := h
        rw [h']
        exact hg.lst hn
      · trivial
    · exact h
  | .adr i a b, y, h => by
    simp only [D.frz]
    split
    · rename_i hi
      subst hi
      split
      · rename_i hb
        subst hb
        split
        · rename_i d hd
          obtain ⟨g, h1, h2⟩ := h
          obtain ⟨hS, vs, k1, k2, k2', k3, k4, k5, k6⟩ := hg
          obtain ⟨x, k7, k8⟩ := (RelPs_get _ _ k1).2 a d hd
          have hxs := k2 x (List.mem_of_getElem? k7)
          rcases k6 with k6 | ⟨g', k9, k10, k11⟩
          · rw [k6] at hd; simp at hd
          · rw [h1] at k9
            cases k9
            refine ⟨g, a * (ρ i).S, x, h2, k8, by rw [hxs, k2' d (List.mem_of_getElem? hd)], k10, fun j u hu => ?_⟩
            have hj : j < (ρ i).S := by
              have := (List.getElem?_eq_some_iff.1 hu).1
              simpa [hxs] using this
            have := flat_get vs k2 a j x k7 hj
            rw [hu] at this
            exact k11 _ u this
        · trivial
      · trivial
    · exact h
theorem RelDs.frozen {ρ : Nat → Loc} {J J' : Nat → Prop} {w : World} {id : Nat} {els : List D} (hJ : ∀ b, J b → J' b) (hg : Given ρ J' w id els) : ∀ (l : List D) (vs : List Value), RelDs ρ J w l vs → RelDs ρ J' w (D.frzs id els l) vs
  | [], _, h => h
  | d :: ds, vs, h => by
    obtain ⟨x, xs, h1, h2, h3⟩ := h
    exact ⟨x, xs, h1, RelD.frozen hJ hg d x h2, RelDs.frozen hJ hg ds xs h3⟩
end

/-- An object is given up. -/
theorem Sim.freeze {J0 : Nat → Prop} {ρ : Nat → Loc} {J : Nat → Prop} {B : Nat} {w0 : World} {st : St} {a : Act} {w : World} (h : Sim J0 ρ J B w0 st a w) {id : Nat} {o : Own} (ho : st.H id = some o)
    (hn : D.noRefs o.els = true) (hw : ∀ d ∈ o.els, d.width = o.S) :
    ∃ J', (∀ b, J b → J' b) ∧ Sim J0 ρ J' B w0 (st.frozen id (D.nrms o.els)) a w ∧ Given ρ J' w id (D.nrms o.els) := by
  obtain ⟨h1, h2, h3, h4, h5, vs, h6, h7, h8⟩ := h.objs id o ho
  have hP := RelDs.toP h6 hn
  have hlen : (D.nrms o.els).length = o.els.length := by simp [D.nrms_eq]
  have hJJ : ∃ J' : Nat → Prop, (∀ b, J b → J' b) ∧ (∀ b, J' b → J b ∨ ((ρ id).a = some ⟨b, 0, none⟩ ∧ 0 < (ρ id).cap)) ∧ Given ρ J' w id (D.nrms o.els) := by
    refine ⟨fun b => J b ∨ ((ρ id).a = some ⟨b, 0, none⟩ ∧ 0 < (ρ id).cap), fun b hb => .inl hb, fun b hb => hb, by rw [h1]; exact h2, vs, RelPs.mono (fun b hb => .inl hb) (fun _ _ => rfl) _ _ hP.nrm, fun x hx => by rw [h1]; exact (h7 x hx).1, fun d hd => ?_, by rw [hlen]; exact h5, by rw [hlen]; exact h3, h4, ?_⟩
    · rw [D.nrms_eq] at hd
      obtain ⟨d', hd', rfl⟩ := List.mem_map.1 hd
      rw [D.nrm_width, h1]; exact hw d' hd'
    · rcases h8 with ⟨h8, rfl⟩ | ⟨h9, g, cur, h10, h11, h12, h13, h14⟩
      · left
        have h0 : o.els = [] := List.eq_nil_of_length_eq_zero (by omega)
        rw [h0]; rfl
      · refine .inr ⟨g, h10, .inr ⟨h10, h9⟩, fun j u hu => ?_⟩
        have h14' : cur.toList.take (o.els.length * o.S) = flat vs := h14
        rw [cell_of_row w g _ cur o.e (0, 0) h12]
        rw [← h14', List.getElem?_take] at hu
        split at hu
        · simpa using hu
        · cases hu
  obtain ⟨J', hJ, hJ', hG⟩ := hJJ
  have hold : ∀ i oi, (st.frozen id (D.nrms o.els)).H i = some oi → i ≠ id ∧ ∃ o', st.H i = some o' ∧ oi = { o' with els := D.frzs id (D.nrms o.els) o'.els } := by
    intro i oi hi
    simp only [St.frozen] at hi
    split at hi
    · cases hi
    · rename_i hne
      cases hH : st.H i with
      | none => rw [hH] at hi; cases hi
      | some o' => rw [hH] at hi; cases hi; exact ⟨hne, o', rfl, rfl⟩
  refine ⟨J', hJ, ?_, hG⟩
  refine { old := fun b hb => ?_, own := fun i oi g hi hc ha => ?_, lt := fun b hb => ?_, slots := fun j => RelD.frozen hJ hG _ _ (h.slots j), objs := fun i oi hi => ?_, apart := fun i j oi oj hi hj hne hci hcj => ?_, size := h.size, defers := h.defers, below := h.below, base := h.base }
  · rcases hJ' b hb with hb | ⟨hb, hc⟩
    · exact h.old b hb
    · exact .inr (h.own id o b ho hc hb)
  · obtain ⟨_, o', ho', _⟩ := hold i oi hi
    exact h.own i o' g ho' hc ha
  · rcases hJ' b hb with hb | ⟨hb, hc⟩
    · exact h.lt b hb
    · obtain ⟨g, h10, _, h12⟩ := (h.objs id o ho).block hc
      rw [hb] at h10
      cases h10
      exact h12
  · obtain ⟨hne, o', ho', rfl⟩ := hold i oi hi
    obtain ⟨g1, g2, g3, g4, g5, us, g6, g7, g8⟩ := h.objs i o' ho'
    have hfl : (D.frzs id (D.nrms o.els) o'.els).length = o'.els.length := by simp [D.frzs_eq]
    refine ⟨g1, g2, by rw [hfl]; exact g3, g4, by rw [hfl]; exact g5, us, RelDs.frozen hJ hG _ _ g6, g7, ?_⟩
    rcases g8 with g8 | ⟨g9, g, cur, g10, g11, g12, g13, g14⟩
    · exact .inl g8
    · refine .inr ⟨g9, g, cur, g10, fun hc => ?_, g12, g13, by rw [hfl]; exact g14⟩
      rcases hJ' g hc with hc | ⟨hc, hc2⟩
      · exact g11 hc
      · exact h.apart i id o' o ho' ho hne g9 hc2 (g10.trans hc.symm)
  · obtain ⟨_, o1, h1', _⟩ := hold i oi hi
    obtain ⟨_, o2, h2', _⟩ := hold j oj hj
    exact h.apart i j o1 o2 h1' h2' hne hci hcj

end Go.VL
