import Derived.Test.YtfmeiapglpphpaaVL16
/- Returns. -/
namespace Go.VL
open Go Go.RowKit

theorem resDs_nil {P : Program} {st : St} : resDs P st [] = some [] := (rfl)
theorem resDs_tmp {P : Program} {st : St} {t : Tmp} {l : List ResultVar} : resDs P st (.tmp t :: l) = (resDs P st l).map (st.t t :: ·) := (rfl)
theorem pack_one {d : D} : pack [d] = d := (rfl)
theorem pack_two {a b : D} {l : List D} : pack (a :: b :: l) = .tup (a :: b :: l) := (rfl)
theorem frzAll_nil {st : St} {l : List D} : frzAll [] st l = some (st, l) := (rfl)

def frzStep (o : Option Own) (id : Nat) (ids : List Nat) (st : St) (l : List D) : Option (St × List D) :=
  match o with
  | none => frzAll ids st l
  | some o => if D.noRefs o.els && o.els.all (fun d => d.width == o.S) then frzAll ids (st.frozen id (D.nrms o.els)) (D.frzs id (D.nrms o.els) l) else none
theorem frzAll_cons {id : Nat} {ids : List Nat} {st : St} {l : List D} : frzAll (id :: ids) st l = frzStep (st.H id) id ids st l := by
  unfold frzAll frzStep; cases st.H id <;> rfl
theorem frzStep_none {id : Nat} {ids : List Nat} {st : St} {l : List D} : frzStep none id ids st l = frzAll ids st l := (rfl)
theorem frzStep_some {id : Nat} {ids : List Nat} {st : St} {l : List D} {o : Own} (h1 : D.noRefs o.els = true) (h2 : o.els.all (fun d => d.width == o.S) = true) :
    frzStep (some o) id ids st l = frzAll ids (st.frozen id (D.nrms o.els)) (D.frzs id (D.nrms o.els) l) := by simp [frzStep, h1, h2]
theorem frozen_t {st : St} {id k : Nat} {els : List D} : (st.frozen id els).t k = (st.t k).frz id els := (rfl)
theorem frozen_H {st : St} {id k : Nat} {els : List D} : (st.frozen id els).H k = if k = id then none else (st.H k).map fun o => { o with els := D.frzs id els o.els } := (rfl)
theorem frozen_n {st : St} {id : Nat} {els : List D} : (st.frozen id els).n = st.n := (rfl)
theorem frz_ref {id i n : Nat} {els : List D} : D.frz id els (.ref i n) = if i = id then (if n ≤ els.length then .lst (els.take n) else .any) else .ref i n := (rfl)
theorem ints_width1 {k : IntKind} {l : List Int} : (ints k l).all (fun d => d.width == 1) = true := by simp [ints, D.width]
theorem rows_width1 {k : IntKind} {l : List (List Int)} : (rows k l).all (fun d => d.width == 1) = true := by simp [rows, D.width]

theorem Ret_eq {P : Program} {fn : Func} {R : D → Prop} {st : St} {rs : List ResultVar} (h : fn.results = rs.toArray) :
    Ret P fn R st = @bindI _ (resDs P st rs) ⟨fun ds => @bindI _ (frzAll (D.idss ds) st ds) ⟨fun p => @reqI (D.noRefs p.2 = true) ⟨R (pack (D.nrms p.2))⟩⟩⟩ := by
  unfold Ret bindI
  rw [h]
  simp only [bindP_eq, reqI]


/-- What the slots hold. -/
def Slots (s : St) : List (Nat × D) → Prop
  | [] => True
  | p :: l => s.t p.1 = p.2 ∧ Slots s l
theorem Slots_nil {s : St} : Slots s [] = True := (rfl)
theorem Slots_cons {s : St} {j : Nat} {d : D} {l : List (Nat × D)} : Slots s ((j, d) :: l) = (s.t j = d ∧ Slots s l) := (rfl)

/-- A result that is handed over to be owned. -/
theorem RetO_own {P : Program} {fn : Func} {R : D → Option Own → Prop} {st : St} {rs : List ResultVar} {ds : List D} (h : fn.results = rs.toArray) (hd : resDs P st rs = some ds) (id : Nat) (o : Own) (ho : st.H id = some o) (hn : D.noRefs o.els = true)
    (ids : List Nat) (p : St × List D) (hp : frzAll ids st ds = some p) (hH : p.1.H id = some o) (hi : ∀ i ∈ D.idss p.2, i = id) (hR : R (pack (D.rens 0 p.2)) (some o)) : RetO P fn R st :=
  ⟨st, Weak.refl _, ds, by rw [h]; exact hd, .inr ⟨id, o, ids, p, ho, hp, hH, hn, hi, hR⟩⟩
theorem RetO_plain {P : Program} {fn : Func} {R : D → Option Own → Prop} {st : St} {rs : List ResultVar} {ds : List D} (h : fn.results = rs.toArray) (hd : resDs P st rs = some ds) (p : St × List D) (hp : frzAll (D.idss ds) st ds = some p)
    (hn : D.noRefs p.2 = true) (hR : R (pack p.2) none) : RetO P fn R st := ⟨st, Weak.refl _, ds, by rw [h]; exact hd, .inl ⟨p, hp, hn, hR⟩⟩
theorem RetO.weak {P : Program} {fn : Func} {R : D → Option Own → Prop} {st s : St} (hw : Weak st s) (h : RetO P fn R s) : RetO P fn R st :=
  let ⟨s', h1, h2⟩ := h; ⟨s', hw.trans h1, h2⟩

/-- What objects there are. -/
def Heaps (s : St) : List (Nat × Own) → Prop
  | [] => True
  | p :: l => s.H p.1 = some p.2 ∧ Heaps s l
theorem Heaps_nil {s : St} : Heaps s [] = True := (rfl)
theorem Heaps_cons {s : St} {j : Nat} {o : Own} {l : List (Nat × Own)} : Heaps s ((j, o) :: l) = (s.H j = some o ∧ Heaps s l) := (rfl)
def At (s : St) (n : Nat) (l : List (Nat × D)) (h : List (Nat × Own)) : Prop := s.n = n ∧ Slots s l ∧ Heaps s h
theorem adopt_t {st : St} {j id k : Nat} {e : TypeId} {S : Nat} : (st.adopt j id e S).t k = if k = j then .ref id 0 else (st.t k).kill id := by
  unfold St.adopt
  simp only [St.put, St.obj, St.killed, upd]
theorem adopt_H {st : St} {j id k : Nat} {e : TypeId} {S : Nat} : (st.adopt j id e S).H k = if k = id then some ⟨e, S, []⟩ else (st.H k).map fun o => { o with els := D.kills id o.els } := by
  unfold St.adopt
  simp only [St.put, St.obj, St.killed, upd]
  split <;> simp_all
theorem adopt_n {st : St} {j id : Nat} {e : TypeId} {S : Nat} : (st.adopt j id e S).n = st.n := (rfl)
end Go.VL
