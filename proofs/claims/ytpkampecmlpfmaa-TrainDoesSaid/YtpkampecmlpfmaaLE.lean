import Derived.Test.YtpkampecmlpfmaaLB
import Derived.ChangeArms
import Derived.Carry
import Derived.IntWalk
set_option linter.unusedSimpArgs false
set_option linter.unusedVariables false
section
/- What came in reads as a value without memory. -/
namespace Go.VL
open Go Go.RowKit

inductive Ty where
  | int (k : IntKind)
  | bool
  | sl (e : Ty)
  | st (l : List Ty)

mutual
def Ty.width : Ty → Nat
  | .st l => Ty.widths l
  | .int _ => 1
  | .bool => 1
  | .sl _ => 1
def Ty.widths : List Ty → Nat
  | [] => 0
  | e :: l => e.width + Ty.widths l
end

def isInt (P : Program) (t : TypeId) (k : IntKind) : Bool := match P.underlying t with | some (.int k') => k' == k | _ => false
def isBool (P : Program) (t : TypeId) : Bool := match P.underlying t with | some .bool => true | _ => false
def elemOf (P : Program) (t : TypeId) : Option TypeId := match P.underlying t with | some (.slice e) => some e | _ => none
def fieldsOf (P : Program) (t : TypeId) : Option (List Field) := match P.underlying t with | some (.struct fs) => some fs.toList | _ => none

mutual
def Ty.fits (P : Program) : Ty → TypeId → Bool
  | .int k, t => isInt P t k
  | .bool, t => isBool P t
  | .sl e, t => match elemOf P t with | some u => e.fits P u && decide (0 < P.cellsOf u) && P.cellsOf u == e.width | none => false
  | .st l, t => match fieldsOf P t with | some fs => Ty.fitss P l fs 0 && P.cellsOf t == Ty.widths l | none => false
def Ty.fitss (P : Program) : List Ty → List Field → Nat → Bool
  | [], [], _ => true
  | e :: l, f :: fs, o => e.fits P f.type && f.offset == o && P.cellsOf f.type == e.width && Ty.fitss P l fs (o + e.width)
  | _, _, _ => false
end

def Ty.wrap : Ty → List D → D
  | .st _, c => .agg c
  | _, c => c.headD .any
def Ty.wrapV : Ty → List Value → Value
  | .st _, c => .agg c.toArray
  | _, c => c.headD undef

mutual
def Ty.has : Ty → List D → Prop
  | .int k, ds => ∃ n, ds = [.v (.int k n)] ∧ (Lit.int k n).wf = true
  | .bool, ds => ∃ b, ds = [.v (.bool b)]
  | .sl e, ds => ∃ els : List (List D), ds = [.lst (els.map e.wrap)] ∧ ∀ c ∈ els, e.has c
  | .st l, ds => Ty.hass l ds
def Ty.hass : List Ty → List D → Prop
  | [], ds => ds = []
  | e :: l, ds => ∃ a b, ds = a ++ b ∧ e.has a ∧ Ty.hass l b
end

theorem RelPs_join {J : Nat → Prop} {w : World} : ∀ (l m : List D) (vs us : List Value), RelPs J w l vs → RelPs J w m us → RelPs J w (l ++ m) (vs ++ us)
  | [], m, vs, us, h, h' => by simp only [RelPs] at h; subst h; exact h'
  | d :: ds, m, vs, us, h, h' => by
    obtain ⟨x, xs, h1, h2, h3⟩ := h
    subst h1
    exact ⟨x, xs ++ us, rfl, h2, RelPs_join ds m xs us h3 h'⟩

theorem isInt_spec {P : Program} {t : TypeId} {k : IntKind} (h : isInt P t k = true) : P.underlying t = some (.int k) := by
  unfold isInt at h
  split at h
  · rename_i k' hk; rw [hk]; simp at h; rw [h]
  · cases h
theorem isBool_spec {P : Program} {t : TypeId} (h : isBool P t = true) : P.underlying t = some .bool := by
  unfold isBool at h
  split at h
  · assumption
  · cases h
theorem elemOf_spec {P : Program} {t e : TypeId} (h : elemOf P t = some e) : P.underlying t = some (.slice e) := by
  unfold elemOf at h
  split at h
  · rename_i k' hk; rw [hk]; simp at h; rw [h]
  · cases h
theorem fieldsOf_spec {P : Program} {t : TypeId} {l : List Field} (h : fieldsOf P t = some l) : ∃ fs, P.underlying t = some (.struct fs) ∧ fs.toList = l := by
  unfold fieldsOf at h
  split at h
  · rename_i fs hk; simp at h; exact ⟨fs, hk, h⟩
  · cases h

section
variable {H : Type} {enc : TypeId × Value → H} {P : Program} {w : World} {held : Bool}

/-- What reading a type's cells at this fuel tells. -/
def Reads (enc : TypeId × Value → H) (P : Program) (w : World) (held : Bool) (n : Nat) : Prop :=
  ∀ (ty : Ty) (t : TypeId) (cs : List Value) (x : DataW H × List MemPlace), ty.fits P t = true → DataW.trod enc P w 0 (fun _ => true) held n t cs = some x →
    ∃ ds, RelPs (Olds w) w ds cs ∧ ty.has ds ∧ cs.length = ty.width ∧ ds.length = ty.width ∧ ∀ c ∈ cs, c.oneCell' = true

theorem wrap_rel {J : Nat → Prop} {ty : Ty} {ds : List D} {cs : List Value} (h : RelPs J w ds cs) (h1 : cs.length = ty.width) (h2 : ∀ c ∈ cs, c.oneCell' = true) : RelP J w (ty.wrap ds) (ty.wrapV cs) ∧ (ty.wrapV cs).cells.toList = cs := by
  have one : ty.width = 1 → ty.wrap ds = ds.headD .any → ty.wrapV cs = cs.headD undef → RelP J w (ty.wrap ds) (ty.wrapV cs) ∧ (ty.wrapV cs).cells.toList = cs := by
    intro hw e1 e2
    rw [e1, e2]
    match cs, h1, h, h2 with
    | [c], _, h, h2 =>
      match ds, h with
      | [], h => cases (show [c] = [] from h)
      | [d], h =>
        obtain ⟨x, xs, h4, h5, h6⟩ := h
        cases h4
        exact ⟨h5, by simp [cells_of_one (h2 c (by simp))]⟩
      | d :: e :: r, h =>
        obtain ⟨x, xs, h4, h5, h6⟩ := h
        cases h4
        obtain ⟨y, ys, h7, _⟩ := h6
        cases h7
    | [], h1, _, _ => rw [hw] at h1; cases h1
    | _ :: _ :: _, h1, _, _ => rw [hw] at h1; simp at h1
  cases ty with
  | int k => exact one rfl rfl rfl
  | bool => exact one rfl rfl rfl
  | sl e => exact one rfl rfl rfl
  | st l => exact ⟨⟨cs, rfl, h, h2⟩, rfl⟩

theorem reads_fields {n : Nat} (hn : Reads enc P w held n) : ∀ (l : List Ty) (fs : List Field) (o : Nat) (cs : List Value), Ty.fitss P l fs o = true → o + Ty.widths l = cs.length →
    (∀ (i : Nat) (f : Field), fs[i]? = some f → ∃ x, DataW.trod enc P w 0 (fun _ => true) held n f.type ((cs.drop f.offset).take (P.cellsOf f.type)) = some x) →
    ∃ ds, RelPs (Olds w) w ds (cs.drop o) ∧ Ty.hass l ds ∧ ds.length = Ty.widths l ∧ ∀ c ∈ cs.drop o, c.oneCell' = true
  | [], [], o, cs, _, ho, _ => by
    have : cs.drop o = [] := List.drop_of_length_le (by simp [Ty.widths] at ho; omega)
    rw [this]
    exact ⟨[], rfl, rfl, rfl, by simp⟩
  | [], _ :: _, _, _, h, _, _ => by simp [Ty.fitss] at h
  | _ :: _, [], _, _, h, _, _ => by simp [Ty.fitss] at h
  | e :: l, f :: fs, o, cs, h, ho, hf => by
    simp only [Ty.fitss, Bool.and_eq_true, beq_iff_eq] at h
    obtain ⟨⟨⟨h1, h2⟩, h3⟩, h4⟩ := h
    obtain ⟨x, hx⟩ := hf 0 f rfl
    rw [h2, h3] at hx
    obtain ⟨d1, g1, g2, g3, g3', g4⟩ := hn e f.type _ x h1 hx
    simp only [Ty.widths] at ho
    obtain ⟨d2, k1, k2, k3, k4⟩ := reads_fields hn l fs (o + e.width) cs h4 (by omega) (fun i g hg => hf (i + 1) g (by simpa using hg))
    have e1 : cs.drop o = (cs.drop o).take e.width ++ cs.drop (o + e.width) := by
      rw [← List.drop_drop]; exact (List.take_append_drop _ _).symm
    refine ⟨d1 ++ d2, ?_, ⟨d1, d2, rfl, g2, k2⟩, by simp [Ty.widths, g3', k3], ?_⟩
    · rw [e1]; exact RelPs_join _ _ _ _ g1 k1
    · rw [e1]; intro c hc
      rcases List.mem_append.1 hc with hc | hc
      · exact g4 c hc
      · exact k4 c hc

theorem reads_all : ∀ n : Nat, Reads enc P w held n := by
  intro n
  induction n with
  | zero => intro ty t cs x _ h; simp [DataW.trod] at h
  | succ n ih =>
    intro ty t cs x hf h
    cases ty with
    | int k =>
      have hu := isInt_spec (by simpa [Ty.fits] using hf)
      obtain ⟨m, rfl, _, hw⟩ := DataW.trod_int hu h
      exact ⟨[.v (.int k m)], ⟨_, _, rfl, ⟨rfl, rfl⟩, rfl⟩, ⟨m, rfl, hw⟩, rfl, rfl, by simp [Value.oneCell']⟩
    | bool =>
      have hu := isBool_spec (by simpa [Ty.fits] using hf)
      obtain ⟨b, rfl, _⟩ := DataW.trod_bool hu h
      exact ⟨[.v (.bool b)], ⟨_, _, rfl, ⟨rfl, rfl⟩, rfl⟩, ⟨b, rfl⟩, rfl, rfl, by simp [Value.oneCell']⟩
    | st l =>
      simp only [Ty.fits] at hf
      split at hf
      · rename_i fs hfs
        simp only [Bool.and_eq_true, beq_iff_eq] at hf
        obtain ⟨fa, hu, rfl⟩ := fieldsOf_spec hfs
        obtain ⟨xs, m, hm, _, hl, hxl, hx⟩ := DataW.trod_struct hu h
        cases hm
        obtain ⟨ds, k1, k2, k3, k4⟩ := reads_fields ih l fa.toList 0 cs hf.1 (by rw [hl, hf.2]; omega) (fun i f hi => by
          have hi' : fa[i]? = some f := by simpa using hi
          have := hx i f hi'
          have hlt : i < xs.length := by rw [hxl]; exact (Array.getElem?_eq_some_iff.1 hi').1
          rw [List.getElem?_eq_getElem hlt] at this
          exact ⟨_, this⟩)
        simp only [List.drop_zero] at k1 k4
        exact ⟨ds, k1, k2, by rw [hl, hf.2]; rfl, k3, k4⟩
      · cases hf
    | sl e =>
      simp only [Ty.fits] at hf
      split at hf
      · rename_i u hu0
        simp only [Bool.and_eq_true, beq_iff_eq, decide_eq_true_eq] at hf
        obtain ⟨⟨hfe, hpos⟩, hS⟩ := hf
        have hu := elemOf_spec hu0
        rcases DataW.trod_slice hu h with ⟨rfl, _⟩ | ⟨a, len, cap, elems, rest, m, hm, rfl, _, hb, hl, hc, hlen, hel, _, _⟩
        · exact ⟨[.lst []], ⟨_, _, rfl, RelP_nil none, rfl⟩, ⟨[], rfl, by simp⟩, rfl, rfl, by simp [Value.oneCell']⟩
        · cases hm
          have each : ∀ i, i < len → ∃ cs ds, w.cells? 0 (a.add (i * P.cellsOf u)) (P.cellsOf u) = some cs ∧ RelPs (Olds w) w ds cs ∧ e.has ds ∧ cs.length = e.width ∧ ∀ c ∈ cs, c.oneCell' = true := by
            intro i hi
            have h1 := hel i hi
            rw [List.getElem?_eq_getElem (by omega), Option.bind_eq_some_iff] at h1
            obtain ⟨cs, h2, h3⟩ := h1
            obtain ⟨ds, k1, k2, k3, _, k4⟩ := ih e u cs _ hfe h3
            exact ⟨cs, ds, h2, k1, k2, k3, k4⟩
          have hch : ∃ (C : Nat → List Value) (E : Nat → List D), ∀ i, i < len → w.cells? 0 (a.add (i * P.cellsOf u)) (P.cellsOf u) = some (C i) ∧ RelPs (Olds w) w (E i) (C i) ∧ e.has (E i) ∧ (C i).length = e.width ∧ ∀ c ∈ C i, c.oneCell' = true := by
            refine ⟨fun i => if h : i < len then (each i h).choose else [], fun i => if h : i < len then (each i h).choose_spec.choose else [], fun i hi => ?_⟩
            simp only [hi, dif_pos]
            exact (each i hi).choose_spec.choose_spec
          obtain ⟨C, E, hCE⟩ := hch
          refine ⟨[.lst (((List.range len).map E).map e.wrap)], ⟨_, _, rfl, ?_, rfl⟩, ⟨(List.range len).map E, rfl, ?_⟩, rfl, rfl, by simp [Value.oneCell']⟩
          · have hlenE : (((List.range len).map E).map e.wrap).length = len := by simp
            refine ⟨some a, cap, (List.range len).map fun i => e.wrapV (C i), by rw [hlenE], by rw [hlenE]; exact hl, hc, by rw [hlenE]; exact Nat.le_trans hl hc, (fun h => by cases h), ?_, ?_⟩
            · rw [List.map_map]
              have : ∀ (l : List Nat), (∀ i ∈ l, i < len) → RelPs (Olds w) w (l.map (e.wrap ∘ E)) (l.map fun i => e.wrapV (C i)) := by
                intro l
                induction l with
                | nil => intro _; rfl
                | cons i l ihl =>
                  intro hi
                  obtain ⟨_, k2, _, k4, k5⟩ := hCE i (hi i (by simp))
                  exact ⟨_, _, rfl, (wrap_rel k2 k4 k5).1, ihl fun j hj => hi j (by simp [hj])⟩
              exact this _ (fun i hi => by simpa using hi)
            · by_cases h0 : len = 0
              · left; subst h0; simp
              · right
                have hcell : ∀ i, i < len → ∀ r, r < P.cellsOf u → w.cell? (a.add (i * P.cellsOf u + r)) = (C i)[r]? := by
                  intro i hi r hr
                  have := (World.cells?_some (hCE i hi).1).2.2 r hr
                  rw [← this]
                  congr 1
                  unfold Addr.add
                  repeat' split
                  all_goals first | rfl | (simp_all; done) | (simp; omega)
                have hz := hcell 0 (by omega) 0 hpos
                have hl0 : (C 0).length = P.cellsOf u := by rw [(hCE 0 (by omega)).2.2.2.1, hS]
                have hlt : 0 < (C 0).length := by omega
                rw [List.getElem?_eq_getElem hlt] at hz
                have hsp := World.cell?_spot hz
                obtain ⟨b, off, spot⟩ := a
                have hs : spot = none := by
                  have : (Addr.add ⟨b, off, spot⟩ (0 * P.cellsOf u + 0)) = ⟨b, off, spot⟩ := by simp [Addr.add]
                  rw [this] at hsp; exact hsp
                subst hs
                have hadd : ∀ j, (⟨b, off, none⟩ : Addr).add j = ⟨b, off + j, none⟩ := by
                  intro j; unfold Addr.add; split <;> simp_all
                refine ⟨b, off, rfl, ?_, fun j v hv => ?_⟩
                · show b < w.heap.size
                  rw [hadd] at hz
                  unfold World.cell? at hz
                  split at hz
                  · rename_i hk
                    exact (Array.getElem?_eq_some_iff.1 hk).1
                  · cases hz
                · have hflat : ∀ (x : Value), x ∈ (List.range len).map (fun i => e.wrapV (C i)) → x.cells.size = P.cellsOf u := by
                    intro x hx
                    obtain ⟨i, hi, rfl⟩ := List.mem_map.1 hx
                    obtain ⟨_, k2, _, k4, k5⟩ := hCE i (by simpa using hi)
                    have := (wrap_rel k2 k4 k5).2
                    rw [← Array.length_toList, this, k4, hS]
                  have hfl : (flat ((List.range len).map fun i => e.wrapV (C i))).length = len * P.cellsOf u := by rw [flat_length _ hflat]; simp
                  have hj : j < len * P.cellsOf u := by rw [← hfl]; exact (List.getElem?_eq_some_iff.1 hv).1
                  have hi : j / P.cellsOf u < len := by rw [Nat.div_lt_iff_lt_mul hpos]; exact hj
                  have hr : j % P.cellsOf u < P.cellsOf u := Nat.mod_lt _ hpos
                  have hdm : j / P.cellsOf u * P.cellsOf u + j % P.cellsOf u = j := by rw [Nat.mul_comm]; exact Nat.div_add_mod _ _
                  have g1 := flat_get (S := P.cellsOf u) _ hflat (j / P.cellsOf u) (j % P.cellsOf u) (e.wrapV (C (j / P.cellsOf u))) (by simp [hi]) hr
                  rw [hdm] at g1
                  obtain ⟨_, k2, _, k4, k5⟩ := hCE _ hi
                  rw [(wrap_rel k2 k4 k5).2] at g1
                  have g2 := hcell _ hi _ hr
                  rw [hdm, hadd] at g2
                  rw [g2, ← g1]
                  exact hv
          · intro c hc
            obtain ⟨i, hi, rfl⟩ := List.mem_map.1 hc
            exact (hCE i (by simpa using hi)).2.2.1
      · cases hf

/-- An argument that came in. -/
theorem reads_arg {ty : Ty} {t : TypeId} {v : Value} {d : DataW H} {ps : List MemPlace} (hf : ty.fits P t = true) (h : DataW.Trod enc P w 0 (fun _ => true) held t v d ps) (hv : ∀ l, ty = .st l → ∃ cs, v = .agg cs) (hv1 : (∀ l, ty ≠ .st l) → v.cells = #[v]) :
    ∃ ds, RelP (Olds w) w (ty.wrap ds) v ∧ ty.has ds := by
  obtain ⟨n, h⟩ := h
  obtain ⟨ds, k1, k2, k3, k3', k4⟩ := reads_all n ty t _ _ hf h
  refine ⟨ds, ?_, k2⟩
  have := (wrap_rel k1 k3 k4).1
  cases ty with
  | st l =>
    obtain ⟨cs, rfl⟩ := hv l rfl
    simpa [Ty.wrapV, Value.cells] using this
  | int k => rw [hv1 (by simp)] at this; simpa [Ty.wrapV] using this
  | bool => rw [hv1 (by simp)] at this; simpa [Ty.wrapV] using this
  | sl e => rw [hv1 (by simp)] at this; simpa [Ty.wrapV] using this
end

-- the types that come up
theorem has_ints {k : IntKind} {ds : List D} (h : (Ty.sl (.int k)).has ds) : ∃ l : List Int, (Ty.sl (.int k)).wrap ds = .lst (ints k l) ∧ ∀ n ∈ l, (Lit.int k n).wf = true := by
  obtain ⟨els, rfl, h⟩ := h
  have : ∃ l : List Int, els.map (Ty.int k).wrap = ints k l ∧ ∀ n ∈ l, (Lit.int k n).wf = true := by
    induction els with
    | nil => exact ⟨[], rfl, by simp⟩
    | cons c els ih =>
      obtain ⟨l, h1, h2⟩ := ih fun c hc => h c (by simp [hc])
      obtain ⟨n, rfl, hw⟩ := h c (by simp)
      exact ⟨n :: l, by rw [List.map_cons, h1]; rfl, by simpa [hw] using h2⟩
  obtain ⟨l, h1, h2⟩ := this
  exact ⟨l, by simp [Ty.wrap, h1], h2⟩
theorem has_rows {k : IntKind} {ds : List D} (h : (Ty.sl (.sl (.int k))).has ds) : ∃ l : List (List Int), (Ty.sl (.sl (.int k))).wrap ds = .lst (rows k l) ∧ ∀ x ∈ l, ∀ n ∈ x, (Lit.int k n).wf = true := by
  obtain ⟨els, rfl, h⟩ := h
  have : ∃ l : List (List Int), els.map (Ty.sl (.int k)).wrap = rows k l ∧ ∀ x ∈ l, ∀ n ∈ x, (Lit.int k n).wf = true := by
    induction els with
    | nil => exact ⟨[], rfl, by simp⟩
    | cons c els ih =>
      obtain ⟨l, h1, h2⟩ := ih fun c hc => h c (by simp [hc])
      obtain ⟨x, hx, hw⟩ := has_ints (h c (by simp))
      exact ⟨x :: l, by rw [List.map_cons, h1, hx]; rfl, by
        intro y hy
        rcases List.mem_cons.1 hy with rfl | hy
        · exact hw
        · exact h2 y hy⟩
  obtain ⟨l, h1, h2⟩ := this
  exact ⟨l, by simp [Ty.wrap, h1], h2⟩
end Go.VL

end
section
/- The arguments of a row: what they read as; that they read so afterwards. -/
namespace Go.VL
open Go Go.RowKit Go.WideShapes Go.ChangeShapes

section
variable {H : Type} {enc : TypeId × Value → H} {P : Program} {W : World} {r : Reach} {base : Nat}

theorem shape_of {held : Bool} {ty : Ty} {t : TypeId} {v : Value} {d : DataW H} {ps : List MemPlace} (hf : ty.fits P t = true) (hval : Value.okWide P W r base t v) (hd : DataW.Trod enc P W 0 (fun _ => true) held t v d ps) :
    (∀ l, ty = .st l → ∃ cs, v = .agg cs) ∧ ((∀ l, ty ≠ .st l) → v.cells = #[v]) := by
  cases ty with
  | int k =>
    obtain ⟨n, rfl, _⟩ := open_int (isInt_spec (by simpa [Ty.fits] using hf)) hval hd
    exact ⟨(fun l h => nomatch h), fun _ => rfl⟩
  | bool =>
    obtain ⟨n, rfl, _⟩ := open_bool (isBool_spec (by simpa [Ty.fits] using hf)) hval hd
    exact ⟨(fun l h => nomatch h), fun _ => rfl⟩
  | sl e =>
    simp only [Ty.fits] at hf
    split at hf
    · rename_i u hu
      obtain ⟨a, n, c, rfl⟩ := okWide_slice (elemOf_spec hu) hval
      exact ⟨(fun l h => nomatch h), fun _ => rfl⟩
    · cases hf
  | st l =>
    simp only [Ty.fits] at hf
    split at hf
    · rename_i fs hfs
      obtain ⟨fa, hu, _⟩ := fieldsOf_spec hfs
      obtain ⟨cs, rfl, _⟩ := okWide_struct hu hval
      exact ⟨fun _ _ => ⟨cs, rfl⟩, fun h => absurd rfl (h l)⟩
    · cases hf

def Ty.fitsAll (P : Program) : List Ty → List TypeId → Bool
  | [], [] => true
  | e :: l, t :: ts => e.fits P t && Ty.fitsAll P l ts
  | _, _ => false
def Ty.hasAll : List Ty → List D → Prop
  | [], ds => ds = []
  | e :: l, ds => ∃ c rest, ds = e.wrap c :: rest ∧ e.has c ∧ Ty.hasAll l rest

theorem args_read : ∀ (tys : List Ty) (ts : List TypeId) (vs : List Value) (ds : List (DataW H)) (p : List MemPlace), Ty.fitsAll P tys ts = true → (∀ (j : Nat) (t : TypeId) (v : Value), ts[j]? = some t → vs[j]? = some v → Value.okWide P W r base t v) →
    DataW.TrodAll enc P W 0 (fun _ => true) true ts vs ds p → ∃ Ds, RelPs (Olds W) W Ds vs ∧ Ty.hasAll tys Ds
  | [], [], vs, ds, p, _, _, h => by
    cases vs <;> cases ds <;> first | exact ⟨[], rfl, rfl⟩ | exact h.elim
  | [], _ :: _, _, _, _, h, _, _ => by simp [Ty.fitsAll] at h
  | _ :: _, [], _, _, _, h, _, _ => by simp [Ty.fitsAll] at h
  | e :: l, t :: ts, [], ds, p, _, _, h => by cases ds <;> exact h.elim
  | e :: l, t :: ts, v :: vs, [], p, _, _, h => h.elim
  | e :: l, t :: ts, v :: vs, d :: ds, p, hf, hv, h => by
    simp only [Ty.fitsAll, Bool.and_eq_true] at hf
    obtain ⟨p1, q1, h1, h2, rfl⟩ := h
    obtain ⟨s1, s2⟩ := shape_of hf.1 (hv 0 t v rfl rfl) h1
    obtain ⟨c, k1, k2⟩ := reads_arg hf.1 h1 s1 s2
    obtain ⟨Ds, g1, g2⟩ := args_read l ts vs ds q1 hf.2 (fun j t v ht hv' => hv (j + 1) t v (by simpa using ht) (by simpa using hv')) h2
    exact ⟨e.wrap c :: Ds, ⟨v, vs, rfl, k1, g1⟩, c, Ds, rfl, k2, g2⟩

theorem trodAll_lt {spare : Nat → Bool} : ∀ (ts : List TypeId) (vs : List Value) (ds : List (DataW H)) (p : List MemPlace), DataW.TrodAll enc P W 0 spare true ts vs ds p → ∀ x ∈ p, x.block < W.heap.size
  | [], vs, ds, p, h => by
    cases vs <;> cases ds <;> first | exact h.elim | (have h : p = [] := h; subst h; simp)
  | t :: ts, [], ds, p, h => by cases ds <;> exact h.elim
  | t :: ts, v :: vs, [], p, h => h.elim
  | t :: ts, v :: vs, d :: ds, p, h => by
    obtain ⟨p1, q1, ⟨m, hm⟩, h2, rfl⟩ := h
    intro x hx
    rcases List.mem_append.1 hx with hx | hx
    · exact DataW.trod_lt m _ _ _ hm x hx
    · exact trodAll_lt ts vs ds q1 h2 x hx

theorem args_back (hl : laidOutB P = true) {W' : World} (hb : Below W.heap.size W W') : ∀ (ts : List TypeId) (vs : List Value) (ds : List (DataW H)) (p : List MemPlace), (ts.all fun t => P.readableRec t && decide (t < P.types.size)) = true →
    DataW.TrodAll enc P W 0 (fun _ => true) true ts vs ds p → DataW.TrodAll enc P W' 0 (fun b => decide (b < W.heap.size)) true ts vs ds p
  | [], vs, ds, p, _, h => by
    cases vs <;> cases ds <;> first | exact h.elim | exact h
  | t :: ts, [], ds, p, _, h => by cases ds <;> exact h.elim
  | t :: ts, v :: vs, [], p, _, h => h.elim
  | t :: ts, v :: vs, d :: ds, p, ht, h => by
    have hlt := trodAll_lt _ _ _ _ h
    obtain ⟨p1, q1, h1, h2, rfl⟩ := h
    simp only [List.all_cons, Bool.and_eq_true, decide_eq_true_eq] at ht
    exact ⟨p1, q1, Below.trod hl ht.1.1 ht.1.2 h1 hb fun x hx => hlt x (by simp [hx]), args_back hl hb ts vs ds q1 ht.2 h2, rfl⟩
end

theorem trodAll_len {H : Type} {enc : TypeId × Value → H} {P : Program} {W : World} {spare : Nat → Bool} : ∀ (ts : List TypeId) (vs : List Value) (ds : List (DataW H)) (p : List MemPlace), DataW.TrodAll enc P W 0 spare true ts vs ds p → ds.length = ts.length
  | [], vs, ds, p, h => by cases vs <;> cases ds <;> first | exact h.elim | rfl
  | t :: ts, [], ds, p, h => by cases ds <;> exact h.elim
  | t :: ts, v :: vs, [], p, h => h.elim
  | t :: ts, v :: vs, d :: ds, p, h => by
    obtain ⟨p1, q1, h1, h2, rfl⟩ := h
    simp [trodAll_len ts vs ds q1 h2]
theorem cons_of {α : Type} {l : List α} {n : Nat} (h : l.length = n + 1) : ∃ a r, l = a :: r ∧ r.length = n := by
  cases l with
  | nil => cases h
  | cons a r => exact ⟨a, r, rfl, by simpa using h⟩
theorem nil_of {α : Type} {l : List α} (h : l.length = 0) : l = [] := List.eq_nil_of_length_eq_zero h
theorem has_int {k : IntKind} {ds : List D} (h : (Ty.int k).has ds) : ∃ n, (Ty.int k).wrap ds = .v (.int k n) ∧ (Lit.int k n).wf = true := by
  obtain ⟨n, rfl, h⟩ := h
  exact ⟨n, rfl, h⟩
theorem wf_i64 {n : Int} (h : (Lit.int .i64 n).wf = true) : -9223372036854775808 ≤ n ∧ n ≤ 9223372036854775807 := by
  simp [Lit.wf, IntKind.min, IntKind.max, IntKind.bits, IntKind.signed] at h
  omega
theorem wf_i16 {n : Int} (h : (Lit.int .i16 n).wf = true) : -32768 ≤ n ∧ n ≤ 32767 := by
  simp [Lit.wf, IntKind.min, IntKind.max, IntKind.bits, IntKind.signed] at h
  omega
theorem wf_u64 {n : Int} (h : (Lit.int .u64 n).wf = true) : 0 ≤ n ∧ n ≤ 18446744073709551615 := by
  simp [Lit.wf, IntKind.min, IntKind.max, IntKind.bits, IntKind.signed] at h
  omega
theorem r16 {l : List Int} (h : ∀ n ∈ l, (Lit.int .i16 n).wf = true) : ∀ n ∈ l, -32768 ≤ n ∧ n ≤ 32767 := fun n hn => wf_i16 (h n hn)
theorem rr16 {l : List (List Int)} (h : ∀ x ∈ l, ∀ n ∈ x, (Lit.int .i16 n).wf = true) : ∀ x ∈ l, ∀ n ∈ x, -32768 ≤ n ∧ n ≤ 32767 := fun x hx => r16 (h x hx)
end Go.VL

end
section
/- The rules of the walk, in one. -/
set_option linter.defProp false
namespace Go.VL
open Go Go.RowKit
def rules := (And.intro (And.intro (And.intro (And.intro (And.intro (And.intro (And.intro (And.intro @KD_mk @KSD_mk) (And.intro @KN_mk (And.intro @KX_mk @KP_mk))) (And.intro (And.intro @KF_mk (And.intro @bindI_some @bindI_none)) (And.intro @reqI_true (And.intro @condI_true @condI_false)))) (And.intro (And.intro (And.intro @guardI_t @guardI_f) (And.intro @awpI_skip (And.intro @awpI_seq @awpI_cond))) (And.intro (And.intro @awpI_block (And.intro @awpI_exit @awpI_ret)) (And.intro @awpI_region (And.intro @awpI_label @opsI_nil))))) (And.intro (And.intro (And.intro (And.intro @opsI_cons @opsI_guard) (And.intro @KL_mk (And.intro @opI_move @opI_assign))) (And.intro (And.intro @opI_pick (And.intro @opI_alloc @opI_box)) (And.intro @opI_build (And.intro @opI_buildSlice @opI_load)))) (And.intro (And.intro (And.intro @opI_store (And.intro @opI_nilCheck @opI_binOp)) (And.intro @opI_unOp (And.intro @opI_convert @opI_makeFunc))) (And.intro (And.intro @opI_makeSlice (And.intro @opI_slice @opI_fieldAddr)) (And.intro @opI_field (And.intro @opI_indexAddr @opI_index)))))) (And.intro (And.intro (And.intro (And.intro (And.intro @opI_extract @opI_call) (And.intro @opI_append (And.intro @opI_len @opI_min))) (And.intro (And.intro @opI_max (And.intro @binI_add @binI_sub)) (And.intro @binI_mul (And.intro @binI_and @binI_or)))) (And.intro (And.intro (And.intro @binI_xor (And.intro @binI_eql @binI_neq)) (And.intro @binI_lss (And.intro @binI_leq @binI_gtr))) (And.intro (And.intro @binI_geq (And.intro @binI_quo @binI_rem)) (And.intro @binI_shl (And.intro @binI_shr @binI_eqb))))) (And.intro (And.intro (And.intro (And.intro @binI_neb @binI_eqs) (And.intro @binI_nes (And.intro @opPickI_eq @opAllocI_eq))) (And.intro (And.intro @opBoxI_eq (And.intro @opBuildI_eq @opBuildSliceI_eq)) (And.intro @opLoadI_ptr (And.intro @opLoadI_adr @opStoreI_adr)))) (And.intro (And.intro (And.intro @opNilCheckI_ptr (And.intro @opNilCheckI_adr @opUnI_neg)) (And.intro @opUnI_xor (And.intro @opUnI_not @opConvertI_int))) (And.intro (And.intro @opConvertI_flt (And.intro @opConvertI_lst @opConvertI_nil)) (And.intro @opConvertI_nil0 (And.intro @opConvertI_ref @opMakeSliceI_eq))))))) (And.intro (And.intro (And.intro (And.intro (And.intro (And.intro @opSliceI_lst @opSliceI_lst3) (And.intro @opSliceI_ref (And.intro @opSliceI_nil @opFieldAddrI_adr))) (And.intro (And.intro @opFieldAddrI_ptr (And.intro @opFieldI_agg @opIndexAddrI_lst)) (And.intro @opIndexAddrI_ref (And.intro @opIndexAddrI_adr @opIndexAddrI_ptr)))) (And.intro (And.intro (And.intro @opIndexI_agg @opExtractI_tup) (And.intro @opLenI_lst (And.intro @opLenI_ref @opLenI_nil))) (And.intro (And.intro @opLenI_nil0 (And.intro @opLenI_str @opMinI_eq)) (And.intro @opMaxI_eq (And.intro @opAppendI_eq @guardOf_zero))))) (And.intro (And.intro (And.intro (And.intro @guardOf_succ @put_t) (And.intro @put_H (And.intro @put_n @put_none))) (And.intro (And.intro @killed_t (And.intro @killed_H @killed_n)) (And.intro @obj_t (And.intro @obj_H @obj_n)))) (And.intro (And.intro (And.intro @ev_tmp (And.intro @ev_const @ev_func)) (And.intro @ofVal_int (And.intro @ofVal_bool @ofVal_slice))) (And.intro (And.intro @init_t (And.intro @init_H @init_n)) (And.intro @initT_cons (And.intro @initT_nil @okDst_some)))))) (And.intro (And.intro (And.intro (And.intro (And.intro @okDst_none @dstOf_some) (And.intro @bndD_none (And.intro @bndD_some @intD_int))) (And.intro (And.intro @minD_nil (And.intro @minD_cons @maxD_nil)) (And.intro @maxD_cons (And.intro @baseD_nil @baseD_nil0)))) (And.intro (And.intro (And.intro @itemsD_lst (And.intro @itemsD_nil @itemsD_nil0)) (And.intro @partOf_v (And.intro @partOf_lst @partOf_ref))) (And.intro (And.intro @partOf_adr (And.intro @partOf_nil0 @partOf_agg1)) (And.intro @partOf_aggA (And.intro @ints_length @ints_append))))) (And.intro (And.intro (And.intro (And.intro @ints_snoc @ints_take) (And.intro @ints_drop (And.intro @ints_set @ints_get))) (And.intro (And.intro @ints_ok (And.intro @ints_kills @ints_frzs)) (And.intro @ints_nrms (And.intro @ints_noRefs @ints_idss)))) (And.intro (And.intro (And.intro @ints_replicate (And.intro @ints_bytes @rows_length)) (And.intro @rows_append (And.intro @rows_snoc @rows_take))) (And.intro (And.intro @rows_drop (And.intro @rows_set @rows_get)) (And.intro @rows_ok (And.intro @rows_kills @rows_frzs)))))))) (And.intro (And.intro (And.intro (And.intro (And.intro (And.intro (And.intro @rows_nrms @rows_noRefs) (And.intro @rows_idss (And.intro @D.v.injEq @Value.int.injEq))) (And.intro (And.intro @Value.bool.injEq (And.intro @and_true @true_and)) (And.intro @and_self (And.intro @not_true_eq_false @not_false_eq_true)))) (And.intro (And.intro (And.intro @decide_true @decide_false) (And.intro @Bool.not_true (And.intro @Bool.not_false @resDs_nil))) (And.intro (And.intro @resDs_tmp (And.intro @pack_one @pack_two)) (And.intro @frzAll_nil (And.intro @frzAll_cons @frzStep_none))))) (And.intro (And.intro (And.intro (And.intro @frzStep_some @frozen_t) (And.intro @frozen_H (And.intro @frozen_n @frz_ref))) (And.intro (And.intro @ints_width1 (And.intro @rows_width1 @Nat.le_refl)) (And.intro @Bool.false_eq_true (And.intro @Bool.and_true @Bool.true_and)))) (And.intro (And.intro (And.intro @Bool.and_self (And.intro @schI_done @schI_one)) (And.intro @schI_rob (And.intro @schI_only @Bool.not_eq_true'))) (And.intro (And.intro @Nat.zero_le (And.intro @false_implies @Nat.zero_mul)) (And.intro @Nat.one_mul (And.intro @or_false @baseD_ref)))))) (And.intro (And.intro (And.intro (And.intro (And.intro @baseStep_some @itemsD_ref) (And.intro @itemsStep_some (And.intro @ints_nil @width_v))) (And.intro (And.intro @width_lst (And.intro @width_nil0 @width_ref)) (And.intro @width_adr (And.intro @width_ptr @width_clos)))) (And.intro (And.intro (And.intro @width_agg (And.intro @storable_int @storable_bool)) (And.intro @storable_str (And.intro @storable_slice @storable_lst))) (And.intro (And.intro @storable_nil0 (And.intro @storable_ref @storable_adr)) (And.intro @storable_ptr (And.intro @storable_clos @storable_agg))))) (And.intro (And.intro (And.intro (And.intro @Slots_cons @Slots_nil) (And.intro @Heaps_cons (And.intro @Heaps_nil @adopt_t))) (And.intro (And.intro @adopt_H (And.intro @adopt_n @Int.cast_ofNat_Int)) (And.intro @Int.natCast_one (And.intro @opSliceMI_lst @opSliceMI_nil)))) (And.intro (And.intro (And.intro @opSliceMI_ref (And.intro @opMI_sliceM @opMI_other)) (And.intro @op1I_plain (And.intro @op1I_guard @cuts_move))) (And.intro (And.intro @cuts_assign (And.intro @cuts_pick @cuts_alloc)) (And.intro @cuts_box (And.intro @cuts_build @cuts_buildSlice))))))) (And.intro (And.intro (And.intro (And.intro (And.intro (And.intro @cuts_load @cuts_store) (And.intro @cuts_nilCheck (And.intro @cuts_binOp @cuts_unOp))) (And.intro (And.intro @cuts_convert (And.intro @cuts_makeFunc @cuts_makeSlice)) (And.intro @cuts_slice (And.intro @cuts_fieldAddr @cuts_field)))) (And.intro (And.intro (And.intro @cuts_indexAddr @cuts_index) (And.intro @cuts_extract (And.intro @cuts_call @condI_not))) (And.intro (And.intro @KeepS_nil (And.intro @KeepS_cons @KeepH_nil)) (And.intro @KeepH_cons (And.intro @retO_nil @retO_cons))))) (And.intro (And.intro (And.intro (And.intro @setPart_vv @setPart_vl) (And.intro @setPart_vr (And.intro @setPart_ll @setPart_lr))) (And.intro (And.intro @setPart_rr (And.intro @setPart_rl @setPart_lv)) (And.intro @setPart_av (And.intro @setPart_al @setPart_ar)))) (And.intro (And.intro (And.intro @setPart_aa (And.intro @condGI_t @condGI_f)) (And.intro @condGI_u (And.intro @upd_t @opCxI_complex))) (And.intro (And.intro @opCxI_real (And.intro @opCxI_imag @opConvertI_f2i)) (And.intro @binI_cmul (And.intro @opI_complex @opI_real)))))) (And.intro (And.intro (And.intro (And.intro (And.intro @opI_imag @rep_cons) (And.intro @rep_nil (And.intro @resDs_cell @cellD_adr))) (And.intro (And.intro @opI_copy (And.intro @opSliceI_refS @opSliceI_sub)) (And.intro @opSliceMI_sub (And.intro @opLenI_sub @opIndexAddrI_sub)))) (And.intro (And.intro (And.intro @opCopyI_ref (And.intro @opCopyI_sub @frz_sub')) (And.intro @itemsD_sub (And.intro @itemsStepS_some @putAt_def))) (And.intro (And.intro @width_sub (And.intro @storable_sub @opI_makeMap)) (And.intro @opI_lookup (And.intro @opI_mapUpdate @cuts_makeMap))))) (And.intro (And.intro (And.intro (And.intro @cuts_lookup @cuts_mapUpdate) (And.intro @opMakeMapI_eq (And.intro @opMakeMapI_none @kvAsk_some))) (And.intro (And.intro @kvAsk_none (And.intro @kvAsk_some' @kvAsk_none')) (And.intro @opLookupI_mp (And.intro @opMapUpdateI_mp @initL_t)))) (And.intro (And.intro (And.intro @initL_H (And.intro @initL_n @ghostT_cons)) (And.intro @ghostT_nil (And.intro @lentH_cons @lentH_nil))) (And.intro (And.intro @setObjs_cons (And.intro @setObjs_nil @takeH_cons)) (And.intro @takeH_nil (And.intro @ghostOk_cons @ghostOk_nil)))))))))
attribute [go_sem] rules
attribute [go_sem] D.kill D.kills D.noRef D.noRefs D.ids D.idss D.isAgg List.map_cons List.map_nil List.length_cons List.length_nil List.cons_append List.nil_append List.append_nil Option.map_some Option.map_none Option.some.injEq ite_true ite_false if_true if_false eq_self heq_eq_eq D.frz D.frzs D.nrm D.nrms nilV List.append_assoc List.take_length qok plain robDst D.isNil Op.operands List.all_cons List.all_nil List.getElem?_cons_zero List.getElem?_cons_succ D.ren D.rens inOrder List.not_mem_nil implies_true Option.isSome_some List.mem_cons List.mem_singleton forall_eq forall_eq_or_imp At beq_self_eq_true Array.toList_append Option.toArray_some Option.toArray_none List.toList_toArray Option.all_some Option.all_none AtL Call.operands List.set_cons_zero List.set_cons_succ List.take_succ_cons List.take_zero List.drop_zero List.drop_succ_cons D.flat D.flats Option.bind_some List.any_cons List.any_nil Bool.true_or Bool.or_true Bool.or_false Bool.false_or
def arith := (And.intro (And.intro (And.intro (And.intro (And.intro @IntWalk.i64_in @IntWalk.u64_in) (And.intro @IntWalk.u8_in @IntWalk.u16_in)) (And.intro (And.intro @IntWalk.u32_in @IntWalk.i16_in) (And.intro @IntWalk.i32_in (And.intro @condI_dec_t @condI_dec_f)))) (And.intro (And.intro (And.intro @condI_beq_t @condI_beq_f) (And.intro @condI_bne_t @condI_bne_f)) (And.intro (And.intro @vdec_t @vdec_f) (And.intro @vbeq_t (And.intro @vbeq_f @vbne_t))))) (And.intro (And.intro (And.intro (And.intro @vbne_f @pick_dec_t) (And.intro @pick_dec_f @pick_beq_t)) (And.intro (And.intro @pick_beq_f @pick_bne_t) (And.intro @pick_bne_f (And.intro @reqI_t @elt_ints)))) (And.intro (And.intro (And.intro @elt_rows @nat_succ) (And.intro @Int.toNat_natCast (And.intro @binI_quo @binI_rem))) (And.intro (And.intro @binI_shl @binI_shr) (And.intro @tdiv_pos (And.intro @tmod_pos @Nat.min_eq_left))))))
end Go.VL

end
section
/- Lists that are filled from the front. -/
namespace Go.VL
def fill {α : Type} (f : Nat → α) (a : List α) (k : Nat) : List α := (List.range k).map f ++ a.drop k
section
variable {α : Type} {f : Nat → α} {a : List α} {k : Nat} {d : α}
theorem fill_zero : fill f a 0 = a := by simp [fill]
theorem fill_len (h : k ≤ a.length) : (fill f a k).length = a.length := by simp [fill]; omega
theorem elt_fill {K : IntKind} {f : Nat → Int} {a : List Int} (h : k < a.length) : (ints K (fill f a k))[k]? = some (.v (.int K (a.getD k 0))) := by
  rw [elt_ints (by simp [fill]; omega)]; simp [fill, List.getD, List.getElem?_append]
theorem fill_at (_h : k < a.length) : (fill f a k).getD k d = a.getD k d := by simp [fill, List.getD, List.getElem?_append]
theorem fill_set (h : k < a.length) : (fill f a k).set k (f k) = fill f a (k + 1) := by
  unfold fill
  rw [List.range_succ, List.map_append, List.map_singleton, List.append_assoc, List.singleton_append]
  have e : a.drop k = a[k] :: a.drop (k + 1) := List.drop_eq_getElem_cons h
  rw [List.set_append_right _ _ (by simp), List.length_map, List.length_range, Nat.sub_self, e]
  rfl
theorem fill_all : fill f a a.length = (List.range a.length).map f := by simp [fill]
theorem take_snoc (h : k < a.length) : a.take (k + 1) = a.take k ++ [a.getD k d] := by
  rw [List.take_succ_eq_append_getElem h]; simp [List.getD, h]
theorem getD_mem (h : k < a.length) : a.getD k d ∈ a := by simp [List.getD, h]
theorem foldl_take_snoc {β : Type} {g : β → α → β} {b : β} (h : k < a.length) : (a.take (k + 1)).foldl g b = g ((a.take k).foldl g b) (a.getD k d) := by
  rw [take_snoc (d := d) h, List.foldl_append]; simp
theorem ext_getD {b : List α} (hl : a.length = b.length) (h : ∀ i, i < a.length → a.getD i d = b.getD i d) : a = b := by
  apply List.ext_getElem hl
  intro i h1 h2
  have := h i h1
  simpa [List.getD, h1, h2] using this
theorem take_eq_snoc {b : List α} (h1 : k < a.length) (h2 : k < b.length) (h : a.take k = b.take k) (hk : a.getD k d = b.getD k d) : a.take (k + 1) = b.take (k + 1) := by
  rw [take_snoc (d := d) h1, take_snoc (d := d) h2, h, hk]
end
theorem getD_map_range {α : Type} {f : Nat → α} {n i : Nat} {d : α} (h : i < n) : ((List.range n).map f).getD i d = f i := by simp [List.getD, h]
end Go.VL

end
section
/- Regions that draw their order: a quiet operation beside calls that leave alone what it looks at. -/
namespace Go.VL
open Go Go.RowKit

mutual
theorem D.kill_ids : ∀ (d : D) (id : Nat), id ∉ d.ids → d.kill id = d
  | .any, _, _ => rfl
  | .v _, _, _ => rfl
  | .nil0, _, _ => rfl
  | .lst _, _, _ => rfl
  | .ptr _, _, _ => rfl
  | .agg l, id, h => by simp only [D.kill]; rw [D.kills_idss l id h]
  | .tup l, id, h => by simp only [D.kill]; rw [D.kills_idss l id h]
  | .clos _ l, id, h => by simp only [D.kill]; rw [D.kills_idss l id h]
  | .ref i n, id, h => by simp only [D.ids, List.mem_singleton] at h; simp only [D.kill]; rw [if_neg (fun e => h e.symm)]
  | .adr i _ _, id, h => by simp only [D.ids, List.mem_singleton] at h; simp only [D.kill]; rw [if_neg (fun e => h e.symm)]
  | .sub i _ _, id, h => by simp only [D.ids, List.mem_singleton] at h; simp only [D.kill]; rw [if_neg (fun e => h e.symm)]
  | .loc i _, id, h => by simp only [D.ids, List.mem_singleton] at h; simp only [D.kill]; rw [if_neg (fun e => h e.symm)]
  | .mp i, id, h => by simp only [D.ids, List.mem_singleton] at h; simp only [D.kill]; rw [if_neg (fun e => h e.symm)]
theorem D.kills_idss : ∀ (l : List D) (id : Nat), id ∉ D.idss l → D.kills id l = l
  | [], _, _ => rfl
  | d :: ds, id, h => by
    simp only [D.idss, List.mem_append, not_or] at h
    simp only [D.kills]; rw [D.kill_ids d id h.1, D.kills_idss ds id h.2]
end

def killO (id : Nat) (o : Option Own) : Option Own := o.map fun o => { o with els := D.kills id o.els }
theorem killO_none {id : Nat} : killO id none = none := (rfl)
theorem killO_some {id : Nat} {e : TypeId} {S : Nat} {l : List D} : killO id (some ⟨e, S, l⟩) = some ⟨e, S, D.kills id l⟩ := (rfl)

theorem D.kill_adr {id : Nat} : ∀ (d : D) (i a b : Nat), d.kill id = .adr i a b → d = .adr i a b
  | .any, _, _, _, h => by cases h
  | .v _, _, _, _, h => by cases h
  | .nil0, _, _, _, h => by cases h
  | .lst _, _, _, _, h => by cases h
  | .ptr _, _, _, _, h => by cases h
  | .agg l, _, _, _, h => by simp [D.kill] at h
  | .tup l, _, _, _, h => by simp [D.kill] at h
  | .clos _ l, _, _, _, h => by simp [D.kill] at h
  | .ref i n, _, _, _, h => by simp only [D.kill] at h; split at h <;> cases h
  | .adr i _ _, _, _, _, h => by
    simp only [D.kill] at h
    split at h
    · cases h
    · exact h
  | .sub i _ _, _, _, _, h => by simp only [D.kill] at h; split at h <;> cases h
  | .loc i _, _, _, _, h => by simp only [D.kill] at h; split at h <;> cases h
  | .mp i, _, _, _, h => by simp only [D.kill] at h; split at h <;> cases h
/-- As Both, with what is known of the heap: the object id alone is new. -/
def BothI (id : Nat) (K : St → D → Prop) (t t' : Nat → D) (n : Nat) (H : Nat → Option Own) : St → D → Prop := fun s d =>
  ∃ τ, (∀ d : D, id ∉ d.ids → τ d = d) ∧ (∀ (d : D) (i a b : Nat), τ d = .adr i a b → d = .adr i a b) ∧ s.t = τ ∘ t' ∧ s.n = n ∧ (∀ m, m ≠ id → killO id (H m) = H m → s.H m = H m) ∧ K ⟨τ ∘ t, s.H, s.n⟩ d

theorem opCall_mild {P : Program} {K K' : St → D → Prop} {t t' : Nat → D} {H : Nat → Option Own} {n id : Nat} (hk : ∀ s d, BothI id K t t' n H s d → K' s d) {f : D} {args : List D}
    (hf : f.noRef = true) (ha : D.noRefs args = true) (h : opCall P f args id K ⟨t, H, n⟩) : opCall P f args id K' ⟨t', H, n⟩ := by
  have same : ∀ r, K ⟨t, H, n⟩ r → K' ⟨t', H, n⟩ r := fun r hr => hk _ _ ⟨_root_.id, fun _ _ => rfl, fun _ _ _ _ h => h, rfl, rfl, fun _ _ _ => rfl, hr⟩
  unfold opCall at *
  split at h
  · rename_i g caps
    have hc : D.noRefs caps = true := hf
    have e : D.idss (args ++ caps) = [] := by
      refine D.noRefs_ids _ ?_
      rw [D.noRefs_eq] at *
      simp only [List.all_append, Bool.and_eq_true]
      exact ⟨ha, hc⟩
    rcases h with ⟨p, h1, h2, h3⟩ | ⟨σ, as, lent, R, l1, l2, l3, l4, l5, l6, l7⟩
    rotate_left
    · rw [e] at l2
      obtain rfl : σ = [] := by
        cases σ with
        | nil => rfl
        | cons x l => exact absurd (l2 x (by simp)) (by simp)
      refine .inr ⟨[], as, lent, R, l1, by simp, l3, l4, l5, l6, fun r os hr hnr => ?_⟩
      have h0 : ∀ s : St, setObjs s [] os = s := fun s => by cases os <;> rfl
      have := l7 r os hr hnr
      rw [h0] at this ⊢
      exact same _ this
    refine .inl ?_
    rw [e] at h1 ⊢
    simp only [frzAll, Option.some.injEq] at h1
    subst h1
    refine ⟨_, rfl, h2, ?_⟩
    rcases h3 with ⟨R, h4, h5⟩ | ⟨R, h4, h5⟩
    · refine .inl ⟨R, h4, fun r hr hnr => ?_⟩
      have := h5 r hr hnr
      rw [ite_self] at this ⊢
      exact same _ this
    · refine .inr ⟨R, h4, fun r o hr hnr => ?_⟩
      have := h5 r o hr hnr
      cases o with
      | none => exact fun hn => same _ (this hn)
      | some o =>
        refine hk _ _ ⟨D.kill id, fun d hd => D.kill_ids d id hd, fun d i a b h => D.kill_adr d i a b h, rfl, rfl, fun m hm hkm => ?_, this⟩
        show upd _ id (some o) m = H m
        rw [upd_ne _ _ _ _ hm]
        show (if m = id then none else killO id (H m)) = H m
        rw [if_neg hm, hkm]
  · exact h.elim

theorem bothI_kill {K : St → D → Prop} {t t' : Nat → D} {H : Nat → Option Own} {n id : Nat} {d : D} {o : Own} (h : K (((⟨t, H, n⟩ : St).killed id).obj id o) d) : BothI id K t t' n H (((⟨t', H, n⟩ : St).killed id).obj id o) d := by
  refine ⟨D.kill id, fun d hd => D.kill_ids d id hd, fun d i a b h => D.kill_adr d i a b h, rfl, rfl, fun m hm hkm => ?_, h⟩
  show upd _ id (some o) m = H m
  rw [upd_ne _ _ _ _ hm]
  show (if m = id then none else killO id (H m)) = H m
  rw [if_neg hm, hkm]
theorem opBox_mild {P : Program} {ty : TypeId} {K K' : St → D → Prop} {t t' : Nat → D} {H : Nat → Option Own} {n id : Nat} (hk : ∀ s d, BothI id K t t' n H s d → K' s d) {v : D} (h : opBox P ty v id K ⟨t, H, n⟩) : opBox P ty v id K' ⟨t', H, n⟩ :=
  ⟨h.1, h.2.1, h.2.2.1, hk _ _ (bothI_kill h.2.2.2)⟩
theorem opAlloc_mild {P : Program} {ty : TypeId} {K K' : St → D → Prop} {t t' : Nat → D} {H : Nat → Option Own} {n id : Nat} (hk : ∀ s d, BothI id K t t' n H s d → K' s d) (h : opAlloc P ty id K ⟨t, H, n⟩) : opAlloc P ty id K' ⟨t', H, n⟩ := by
  obtain ⟨z, h1, h2, h3, h4, h5⟩ := h
  exact ⟨z, h1, h2, h3, h4, hk _ _ (bothI_kill h5)⟩
theorem opMakeSlice_mild {P : Program} {ty : TypeId} {K K' : St → D → Prop} {t t' : Nat → D} {H : Nat → Option Own} {n id : Nat} (hk : ∀ s d, BothI id K t t' n H s d → K' s d) {l c : D} (h : opMakeSlice P ty l c id K ⟨t, H, n⟩) : opMakeSlice P ty l c id K' ⟨t', H, n⟩ := by
  unfold opMakeSlice at *
  split at h
  · obtain ⟨e, h1, h2, h3, h4, h5, h6, z, h7, h8, h9, h10⟩ := h
    exact ⟨e, h1, h2, h3, h4, h5, h6, z, h7, h8, h9, hk _ _ (bothI_kill h10)⟩
  · exact h.elim

def callV (o : Oper) : Bool :=
  match o.op with
  | .call ⟨.value _, _, _⟩ => true
  | .alloc _ => true
  | .box .. => true
  | .makeSlice .. => true
  | _ => false
theorem callV_not_quiet {o : Oper} (h : callV o = true) : quiet o = false := by
  unfold callV at h
  split at h
  · rename_i ho; simp [quiet, ho]
  · rename_i ho; simp [quiet, ho]
  · rename_i ho; simp [quiet, ho]
  · rename_i ho; simp [quiet, ho]
  · cases h

theorem aopx_mild {P : Program} {o : Oper} (hq : callV o = true) {K K' : St → D → Prop} {t t' : Nat → D} {H : Nat → Option Own} {n : Nat}
    (hp : ∀ x ∈ o.op.operands, ((⟨t, H, n⟩ : St).ev x).noRef = true) (hk : ∀ s d, BothI (dstOf o.dst) K t t' n H s d → K' s d)
    (he : ∀ x ∈ o.op.operands, (⟨t, H, n⟩ : St).ev x = (⟨t', H, n⟩ : St).ev x) (h : aopx P o K ⟨t, H, n⟩) : aopx P o K' ⟨t', H, n⟩ := by
  obtain ⟨dst, op, ty, pos, af, g⟩ := o
  cases op
  case alloc e => exact opAlloc_mild hk h
  case box e x =>
    have := he x (by simp [Op.operands])
    exact (by rw [← this]; exact opBox_mild hk h : opBox P e ((⟨t', H, n⟩ : St).ev x) (dstOf dst) K' ⟨t', H, n⟩)
  case makeSlice t1 l c =>
    have h1 := he l (by simp [Op.operands])
    have h2 := he c (by simp [Op.operands])
    exact (by rw [← h1, ← h2]; exact opMakeSlice_mild hk h : opMakeSlice P t1 ((⟨t', H, n⟩ : St).ev l) ((⟨t', H, n⟩ : St).ev c) (dstOf dst) K' ⟨t', H, n⟩)
  case call c =>
    obtain ⟨cal, args, ts⟩ := c
    cases cal
    case value f =>
      have h1 := he f (by simp [Op.operands, Call.operands])
      have h2 : args.toList.map (⟨t, H, n⟩ : St).ev = args.toList.map (⟨t', H, n⟩ : St).ev := map_ev _ fun x hx => he x (by simp [Op.operands, Call.operands]; exact .inr (by simpa using hx))
      have h3 := hp f (by simp [Op.operands, Call.operands])
      have h4 : D.noRefs (args.toList.map (⟨t, H, n⟩ : St).ev) = true := by
        rw [D.noRefs_eq, List.all_eq_true]
        intro d hd
        obtain ⟨x, hx, rfl⟩ := List.mem_map.1 hd
        exact hp x (by simp [Op.operands, Call.operands]; exact .inr (by simpa using hx))
      exact (by rw [← h1, ← h2]; exact opCall_mild hk h3 h4 h : opCall P ((⟨t', H, n⟩ : St).ev f) (args.toList.map (⟨t', H, n⟩ : St).ev) (dstOf dst) K' ⟨t', H, n⟩)
    all_goals exact absurd hq (by simp [callV])
  all_goals exact absurd hq (by simp [callV])

/-- How a state s comes of st by an operation that leaves alone what I names. -/
structure ExtI (I : List Nat) (dst : Option Tmp) (st s : St) : Prop where
  n : s.n = st.n
  keep : ∀ k, dst ≠ some k → (∀ m ∈ (st.t k).ids, m ∈ I) → s.t k = st.t k
  heap : ∀ m ∈ I, s.H m = st.H m

/-- The same, where no address comes to be. -/
structure ExtS (I : List Nat) (dst : Option Tmp) (st s : St) : Prop extends ExtI I dst st s where
  mild : ∀ k, dst ≠ some k → ∀ i a b, s.t k = .adr i a b → st.t k = .adr i a b

theorem qop_HI {P : Program} {o : Oper} {e : Operand → D} {H H' : Nat → Option Own} {k : D → Prop} (he : ∀ x ∈ o.op.operands, ∀ m ∈ (e x).ids, H' m = H m) (h : qop P o e H k) : qop P o e H' k := by
  obtain ⟨dst, op, ty, pos, af, g⟩ := o
  cases op
  case load t x =>
    have hx := he x (by simp [Op.operands])
    simp only [qop] at h ⊢
    cases hv : e x
    case adr i j n =>
      rw [hv] at h hx
      have := hx i (by simp [D.ids])
      simp only [opLoad] at h ⊢
      rw [this]; exact h
    all_goals (rw [hv] at h; exact h)
  case convert s t x =>
    have hx := he x (by simp [Op.operands])
    simp only [qop] at h ⊢
    cases hv : e x
    case ref i n =>
      rw [hv] at h hx
      have := hx i (by simp [D.ids])
      simp only [opConvert] at h ⊢
      rw [this]; exact h
    case v u => rw [hv] at h; exact opConvert_vst h
    all_goals (rw [hv] at h; exact h)
  case slice t x lo hi mx =>
    have hx := he x (by simp [Op.operands])
    simp only [qop] at h ⊢
    cases hv : e x
    case ref i n =>
      rw [hv] at h hx
      have := hx i (by simp [D.ids])
      simp only [opSlice] at h ⊢
      rw [this]; exact h
    case sub i b n =>
      rw [hv] at h hx
      have := hx i (by simp [D.ids])
      simp only [opSlice] at h ⊢
      rw [this]; exact h
    case v u => rw [hv] at h; exact opSlice_vst h
    all_goals (rw [hv] at h; exact h)
  case indexAddr t x y =>
    have hx := he x (by simp [Op.operands])
    simp only [qop] at h ⊢
    cases hv : e x
    case ref i n =>
      rw [hv] at h hx
      have := hx i (by simp [D.ids])
      unfold opIndexAddr at h ⊢
      split at h
      · simp only at h ⊢
        rw [this]; exact h
      · exact h.elim
    case sub i b n =>
      rw [hv] at h hx
      have := hx i (by simp [D.ids])
      unfold opIndexAddr at h ⊢
      split at h
      · simp only at h ⊢
        rw [this]; exact h
      · exact h.elim
    all_goals (rw [hv] at h; exact h)
  case call c =>
    obtain ⟨cal, args, ts⟩ := c
    cases cal
    case builtin b =>
      cases b
      case len =>
        obtain ⟨l⟩ := args
        obtain ⟨l'⟩ := ts
        simp only [qop] at h ⊢
        match l, l', h, he with
        | [x], [t], h, he =>
          have hx := he x (by simp [Op.operands, Call.operands])
          show opLenM P t (e x) k _
          have h : opLenM P t (e x) k _ := h
          cases hv : e x
          case mp i =>
            rw [hv] at h hx
            have := hx i (by simp [D.ids])
            simp only [opLenM] at h ⊢
            rw [this]; exact h
          all_goals (rw [hv] at h; exact h)
      all_goals exact h
    all_goals exact h
  all_goals exact h

section
variable {P : Program} {ops : Array Oper}
theorem Ext.toI {I : List Nat} {dst : Option Tmp} {st s : St} (h : Ext dst true st s) : ExtI I dst st s := ⟨h.n, fun k hk _ => (h.same rfl).2 k hk, fun m _ => by rw [(h.same rfl).1]⟩

theorem Ext.toS {I : List Nat} {dst : Option Tmp} {st s : St} (h : Ext dst true st s) : ExtS I dst st s := { h.toI with mild := fun k hk i a b e => by rw [← (h.same rfl).2 k hk]; exact e }
/-- Operations that a quiet one may go ahead of: calls, and stores. -/
def calS (o : Oper) : Bool := callV o || match o.op, o.dst with | .store .., none => true | _, _ => false
theorem calS_not_quiet {o : Oper} (h : calS o = true) : quiet o = false := by
  unfold calS at h
  rw [Bool.or_eq_true] at h
  rcases h with h | h
  · exact callV_not_quiet h
  · split at h
    · rename_i ho _; simp [quiet, ho]
    · cases h
/-- It leaves alone what I names. -/
def offD (I : List Nat) : D → Prop
  | .adr id _ _ => (I.all fun m => !(m == id)) = true
  | _ => True
def tameP (o : Oper) (st : St) (I : List Nat) : Prop :=
  match o.op with
  | .store _ x _ => offD I (st.ev x)
  | _ => plain o st = true ∧ dstOf o.dst ∉ I ∧ ∀ m ∈ I, killO (dstOf o.dst) (st.H m) = st.H m

theorem opA_store {I : List Nat} {oi oj : Oper} {K K' : St → Prop} {st : St} {d : D} {t : TypeId} {x v : Operand} (ho : oj.op = .store t x v) (hdst : oj.dst = none) (hK' : ∀ s, K (s.put oi.dst d) ∧ ExtS I oj.dst st s → K' s) (hap : oi.apart ops oj = true)
    (hof : offD I (st.ev x)) (h : opA P ops.toList oj K (st.put oi.dst d)) : opA P ops.toList oj K' st := by
  obtain ⟨h1, h2, h3⟩ := Oper.apart_spec hap
  have hop : ∀ x ∈ oj.op.operands, (st.put oi.dst d).ev x = st.ev x := fun x hx => ev_of_t fun k hk => by
    subst hk
    exact put_t_ne fun e => h1 k e (looks_operand hx)
  have hmain : aop P oj K (st.put oi.dst d) → aop P oj K' st := by
    rintro ⟨_, hb⟩
    refine ⟨by rw [hdst]; trivial, ?_⟩
    have ex := hop x (by rw [ho]; simp [Op.operands])
    have ev := hop v (by rw [ho]; simp [Op.operands])
    obtain ⟨dst, op, ty, pos, af, g⟩ := oj
    simp only at ho hdst
    subst ho hdst
    have hb' : opStore P t ((st.put oi.dst d).ev x) ((st.put oi.dst d).ev v) (fun s => K s) (st.put oi.dst d) := hb
    rw [ex, ev] at hb'
    show opStore P t (st.ev x) (st.ev v) (fun s => K' s) st
    unfold opStore at hb' ⊢
    split at hb'
    · rename_i id i o hx
      rw [hx] at hof
      obtain ⟨ob, q1, q2⟩ := hb'
      rw [put_H'] at q1
      obtain ⟨d1, q3, q4, q5, q6, q7, d2, q8, q9⟩ := q2
      refine ⟨ob, q1, d1, q3, q4, q5, q6, q7, d2, q8, hK' _ ⟨?_, { n := rfl, keep := fun k _ _ => rfl, heap := fun m hm => ?_, mild := fun k _ i a b e => e }⟩⟩
      · have e3 : (st.obj id { ob with els := ob.els.set i d2 }).put oi.dst d = (st.put oi.dst d).obj id { ob with els := ob.els.set i d2 } := by cases oi.dst <;> rfl
        rw [e3]; exact q9
      · simp only [offD, List.all_eq_true] at hof
        have := hof m hm
        exact upd_ne _ _ _ _ fun e => by simp [e] at this
    · exact hb'.elim
  unfold opA at h ⊢
  split at h
  · exact hmain h
  · rename_i g want hg
    obtain ⟨dg, g1, g2, b, g3, g4, g5⟩ := h
    refine ⟨dg, g1, by rw [put_n'] at g2; exact g2, b, ?_, fun hb => hmain (g4 hb), fun hb => ?_⟩
    · rw [put_t_ne fun e => h1 dg e (looks_guard hg g1)] at g3; exact g3
    · obtain ⟨g6, g7⟩ := g5 hb
      exact ⟨by rw [hdst]; trivial, hK' _ ⟨by rw [put_comm fun e he h' => h2 e h' he]; exact g7, { n := put_n', keep := fun k hk _ => put_t_ne hk, heap := fun _ _ => by rw [put_H'], mild := fun k hk i a b e => by rw [← put_t_ne hk]; exact e }⟩⟩

theorem opA_calm {I : List Nat} {oi oj : Oper} {K K' : St → Prop} {st : St} {d : D} (hK' : ∀ s, K (s.put oi.dst d) ∧ ExtS I oj.dst st s → K' s) (hap : oi.apart ops oj = true) (hcl : callV oj = true) (hp : plain oj st = true)
    (hI : dstOf oj.dst ∉ I) (hH : ∀ m ∈ I, killO (dstOf oj.dst) (st.H m) = st.H m) (hd : ∀ m ∈ d.ids, m ∈ I) (h : opA P ops.toList oj K (st.put oi.dst d)) : opA P ops.toList oj K' st := by
  obtain ⟨h1, h2, h3⟩ := Oper.apart_spec hap
  have hop : ∀ x ∈ oj.op.operands, (st.put oi.dst d).ev x = st.ev x := fun x hx => ev_of_t fun k hk => by
    subst hk
    exact put_t_ne fun e => h1 k e (looks_operand hx)
  have hok : okDst (st.put oi.dst d) oj.dst → okDst st oj.dst := by
    unfold okDst; rw [put_n']; exact id
  simp only [plain, List.all_eq_true] at hp
  have hmain : aop P oj K (st.put oi.dst d) → aop P oj K' st := by
    rintro ⟨ha, hb⟩
    refine ⟨hok ha, ?_⟩
    have e1 : st.put oi.dst d = ⟨(st.put oi.dst d).t, st.H, st.n⟩ := by
      conv => lhs; rw [show st.put oi.dst d = ⟨(st.put oi.dst d).t, (st.put oi.dst d).H, (st.put oi.dst d).n⟩ from rfl]
      rw [put_H', put_n']
    rw [e1] at hb
    refine aopx_mild (t' := st.t) hcl (fun x hx => ?_) ?_ (fun x hx => by
      have := hop x hx
      rw [e1] at this
      exact this) hb
    · have := hop x hx
      rw [e1] at this
      rw [this]
      exact hp x (by simpa using hx)
    rintro s x ⟨τ, k1, k0, k2, k3, kH, k4⟩
    have hτd : τ d = d := k1 d fun hm => hI (hd _ hm)
    refine hK' _ ⟨?_, { n := by rw [put_n', k3], keep := fun k hk hn => ?_, heap := fun m hm => ?_, mild := fun k hk i a b e => ?_ }⟩
    · have e3 : (s.put oj.dst x).put oi.dst d = (⟨τ ∘ (st.put oi.dst d).t, s.H, s.n⟩ : St).put oj.dst x := by
        rw [put_comm fun e he h' => h2 e h' he]
        congr 1
        cases hdi : oi.dst with
        | none =>
          obtain ⟨s1, s2, s3⟩ := s
          simp only [St.put] at k2 ⊢
          rw [k2]
        | some i =>
          simp only [St.put]
          congr 1
          rw [k2]
          funext k
          by_cases hk : k = i
          · subst hk; simp [upd_same, hτd]
          · simp [upd_ne _ _ _ _ hk]
      rw [e3]; exact k4
    · rw [put_t_ne hk, k2]
      exact k1 _ fun hm => hI (hn _ hm)
    · rw [put_H']
      exact kH m (fun e => hI (e ▸ hm)) (hH m hm)
    · rw [put_t_ne hk, k2] at e
      exact k0 _ _ _ _ e
  unfold opA at h ⊢
  split at h
  · exact hmain h
  · rename_i g want hg
    obtain ⟨dg, g1, g2, b, g3, g4, g5⟩ := h
    refine ⟨dg, g1, by rw [put_n'] at g2; exact g2, b, ?_, fun hb => hmain (g4 hb), fun hb => ?_⟩
    · rw [put_t_ne fun e => h1 dg e (looks_guard hg g1)] at g3; exact g3
    · obtain ⟨g6, g7⟩ := g5 hb
      exact ⟨hok g6, hK' _ ⟨by rw [put_comm fun e he h' => h2 e h' he]; exact g7, { n := put_n', keep := fun k hk _ => put_t_ne hk, heap := fun _ _ => by rw [put_H'], mild := fun k hk i a b e => by rw [← put_t_ne hk]; exact e }⟩⟩

theorem Gives.extI {I : List Nat} {oi oj : Oper} {d : D} {st s : St} (hap : oi.apart ops oj = true) (hr : ∀ x ∈ oi.op.operands, ∀ m ∈ (st.ev x).ids, m ∈ I) (he : ExtI I oj.dst st s) (h : Gives P ops oi d st) :
    Gives P ops oi d s ∧ ∀ x ∈ oi.op.operands, st.ev x = s.ev x := by
  obtain ⟨a1, a2, a3⟩ := Oper.apart_spec hap
  obtain ⟨h1, h2⟩ := h
  have hev : ∀ x ∈ oi.op.operands, st.ev x = s.ev x := fun x hx => ev_of_t fun k hk => by
    subst hk
    exact (he.keep k (fun e => a3 k e (looks_operand hx)) (hr _ hx)).symm
  have hq : qop P oi st.ev st.H (· = d) → qop P oi s.ev s.H (· = d) := fun hx =>
    qop_HI (fun x hx m hm => he.heap m (hr x hx m (by rw [hev x hx]; exact hm))) (qop_ev hev hx)
  refine ⟨⟨by unfold okDst at *; rw [he.n]; exact h1, ?_⟩, hev⟩
  split
  · rename_i hg
    rw [hg] at h2
    exact hq h2
  · rename_i j want hg
    rw [hg] at h2
    obtain ⟨g, g1, g2, b, g3, g4, g5⟩ := h2
    refine ⟨g, g1, by rw [he.n]; exact g2, b, ?_, fun hb => hq (g4 hb), g5⟩
    have hne : oj.dst ≠ some g := fun e => a3 g e (looks_guard hg g1)
    rw [he.keep g hne (by rw [D.noRef_ids _ g3.noRef]; simp)]
    exact g3

/-- **A quiet operation that may come up now may be taken first**, beside calls that leave alone what it looks at. -/
theorem anyA_calm {i : Nat} {oi : Oper} {d : D} {K : St → Prop} {I : List Nat} {W : Nat → Prop} (hi : ops[i]? = some oi) (hq : quiet oi = true) (hd : ∀ m ∈ d.ids, m ∈ I) :
    ∀ (fuel : Nat) (listed : Array Bool) (st : St),
      (∀ j, W j → listed.getD j true = false ∧ ∃ oj, ops[j]? = some oj ∧ ∃ e ∈ oj.after, Region.binds .any e = true ∧ (e.on = i ∨ W e.on)) →
      (∀ j oj, ops[j]? = some oj → j ≠ i → listed.getD j true = false → ¬ W j → oi.apart ops oj = true ∧ (quiet oj = true ∨ (calS oj = true ∧
        ∀ m om, ops[m]? = some om → m ≠ i → m ≠ j → listed.getD m true = false → ¬ W m → ∀ k, Operand.tmp k ∈ oj.op.operands → om.dst ≠ some k))) →
      (∀ j oj, ops[j]? = some oj → j ≠ i → listed.getD j true = false → ¬ W j → quiet oj = true ∨ tameP oj st I) →
      i ∈ Region.ready .any ops listed → Gives P ops oi d st → (∀ x ∈ oi.op.operands, ∀ m ∈ (st.ev x).ids, m ∈ I) →
      anyA P ops K fuel (listed.setIfInBounds i true) (st.put oi.dst d) → anyA P ops K (fuel + 1) listed st := by
  intro fuel
  induction fuel with
  | zero =>
    intro listed st _ _ _ hr hy _ H
    refine ⟨fun h => (by rw [h] at hr; cases hr), fun j hj o ho => ?_⟩
    by_cases hji : j = i
    · subst hji
      rw [hi] at ho; cases ho
      exact hy.use hq H
    · have := ready_mono hj hji
      rw [H.1] at this
      cases this
  | succ fuel ih =>
    intro listed st hW hfree hcall hr hy hops H
    refine ⟨fun h => (by rw [h] at hr; cases hr), fun j hj o ho => ?_⟩
    by_cases hji : j = i
    · subst hji
      rw [hi] at ho; cases ho
      exact hy.use hq H
    · have h1 := H.2 j (ready_mono hj hji) o ho
      obtain ⟨hjun, oj, hoj, hall⟩ := mem_ready.1 hj
      rw [ho] at hoj; cases hoj
      have hin : ∀ m, listed.getD m true = false → listed.getD m false = true → False := fun m h h' => by
        rcases Nat.lt_or_ge m listed.size with h2 | h2
        · simp [h2] at h h'; rw [h] at h'; cases h'
        · simp [Array.getElem?_eq_none h2] at h
      have hnW : ¬ W j := fun hw => by
        obtain ⟨_, o', ho', e, he, hb, hon⟩ := hW j hw
        rw [ho] at ho'; cases ho'
        have hl := hall e he hb
        rcases hon with rfl | hon
        · exact hin _ (mem_ready.1 hr).1 hl
        · exact hin _ (hW _ hon).1 hl
      obtain ⟨f1, f2⟩ := hfree j o ho hji hjun hnW
      have hun' : ∀ m, (listed.setIfInBounds j true).getD m true = false → j ≠ m ∧ listed.getD m true = false := fun m hun => by
        have hne : j ≠ m := fun e => by
          subst e
          have hlt : j < listed.size := by
            rcases Nat.lt_or_ge j listed.size with h' | h'
            · exact h'
            · simp [Array.getElem?_eq_none h'] at hjun
          simp [hlt] at hun
        exact ⟨hne, by rw [getD_set_ne true hne] at hun; exact hun⟩
      have hkey : ∀ s, (anyA P ops K fuel ((listed.setIfInBounds i true).setIfInBounds j true) (s.put oi.dst d) ∧ ExtS I o.dst st s) → anyA P ops K (fuel + 1) (listed.setIfInBounds j true) s := by
        rintro s ⟨k1, k2⟩
        obtain ⟨y1, y2⟩ := hy.extI f1 hops k2.toExtI
        refine ih (listed.setIfInBounds j true) s (fun m hm => ?_) (fun m om hm hmi hun hnw => ?_) (fun m om hm hmi hun hnw => ?_) (ready_mono hr (Ne.symm hji)) y1 (fun x hx => by rw [← y2 x hx]; exact hops x hx) ?_
        · obtain ⟨g1, g2⟩ := hW m hm
          have hne : j ≠ m := fun e => hnW (e ▸ hm)
          exact ⟨by rw [getD_set_ne true hne]; exact g1, g2⟩
        · obtain ⟨_, hu⟩ := hun' m hun
          obtain ⟨g1, g2⟩ := hfree m om hm hmi hu hnw
          exact ⟨g1, g2.imp (fun h => h) fun h => ⟨h.1, fun m' om' hm' hmi' hne' hu' hnw' => h.2 m' om' hm' hmi' hne' (hun' m' hu').2 hnw'⟩⟩
        · obtain ⟨hne, hu⟩ := hun' m hun
          rcases hcall m om hm hmi hu hnw with h | hc
          · exact .inl h
          · rcases (hfree m om hm hmi hu hnw).2 with h | ⟨q1, q2⟩
            · exact .inl h
            · refine .inr ?_
              unfold tameP at hc ⊢
              split at hc
              · rename_i t x v hop
                cases x with
                | tmp k =>
                  have hne' := q2 j o ho hji hne hjun hnW k (by rw [hop]; simp [Op.operands])
                  show offD I (s.t k)
                  have hc' : offD I (st.t k) := hc
                  cases hsk : s.t k with
                  | adr id a b => rw [k2.mild k hne' id a b hsk] at hc'; exact hc'
                  | _ => trivial
                | _ => exact hc
              · rename_i hns
                obtain ⟨c1, c2, c3⟩ := hc
                have goal : plain om s = true ∧ dstOf om.dst ∉ I ∧ ∀ m' ∈ I, killO (dstOf om.dst) (s.H m') = s.H m' := by
                  refine ⟨?_, c2, fun m' hm' => by rw [k2.heap m' hm']; exact c3 m' hm'⟩
                  simp only [plain, List.all_eq_true] at c1 ⊢
                  intro x hx
                  have hn := c1 x hx
                  rw [← ev_of_t (s := st) (s' := s) (x := x) fun k hk => ?_]
                  · exact hn
                  · subst hk
                    refine (k2.keep k (q2 j o ho hji hne hjun hnW k (by simpa using hx)) ?_).symm
                    have := D.noRef_ids _ hn
                    have e : (st.t k).ids = [] := this
                    rw [e]; simp
                first
                  | exact goal
                  | (split
                     · rename_i t x v hop; exact absurd hop (hns t x v)
                     · exact goal)
        · rw [Array.setIfInBounds_comm _ _ hji]; exact k1
      rcases f2 with hqj | ⟨hcj, _⟩
      · exact opA_swap (fun s hs => hkey s ⟨hs.1, by have := hs.2; rw [hqj] at this; exact this.toS⟩) f1 (.inl hqj) (.inr hqj) h1
      · rcases hcall j o ho hji hjun hnW with h | hc
        · rw [calS_not_quiet hcj] at h; cases h
        · unfold tameP at hc
          split at hc
          · rename_i t x v hop
            have hdn : o.dst = none := by
              simp only [calS, callV, hop, Bool.false_or] at hcj
              split at hcj
              · assumption
              · cases hcj
            exact opA_store hop hdn hkey f1 hc h1
          · rename_i hns
            obtain ⟨c1, c2, c3⟩ := hc
            have hcv : callV o = true := by
              simp only [calS, Bool.or_eq_true] at hcj
              rcases hcj with h | h
              · exact h
              · split at h
                · rename_i hop _; exact absurd hop (hns _ _ _)
                · cases h
            exact opA_calm hkey f1 hcv c1 c2 c3 hd h1
end
end Go.VL
/- Regions that draw their order: a quiet operation beside a family of operations that have to do with one another alone. -/
namespace Go.VL
open Go Go.RowKit

mutual
theorem D.kill_sub : ∀ (d : D) (id m : Nat), m ∈ (d.kill id).ids → m ∈ d.ids
  | .any, _, _, h => h
  | .v _, _, _, h => h
  | .nil0, _, _, h => h
  | .lst _, _, _, h => h
  | .ptr _, _, _, h => h
  | .agg l, id, m, h => D.kills_sub l id m h
  | .tup l, id, m, h => D.kills_sub l id m h
  | .clos _ l, id, m, h => D.kills_sub l id m h
  | .ref i n, id, m, h => by
    simp only [D.kill] at h
    split at h
    · cases h
    · exact h
  | .adr i _ _, id, m, h => by
    simp only [D.kill] at h
    split at h
    · cases h
    · exact h
  | .sub i _ _, id, m, h => by
    simp only [D.kill] at h
    split at h
    · cases h
    · exact h
  | .loc i _, id, m, h => by
    simp only [D.kill] at h
    split at h
    · cases h
    · exact h
  | .mp i, id, m, h => by
    simp only [D.kill] at h
    split at h
    · cases h
    · exact h
theorem D.kills_sub : ∀ (l : List D) (id m : Nat), m ∈ D.idss (D.kills id l) → m ∈ D.idss l
  | [], _, _, h => h
  | d :: ds, id, m, h => by
    simp only [D.kills, D.idss, List.mem_append] at h ⊢
    exact h.imp (D.kill_sub d id m) (D.kills_sub ds id m)
end
mutual
theorem D.frz_ids : ∀ (d : D) (id : Nat) (els : List D), id ∉ d.ids → d.frz id els = d
  | .any, _, _, _ => rfl
  | .v _, _, _, _ => rfl
  | .nil0, _, _, _ => rfl
  | .lst _, _, _, _ => rfl
  | .ptr _, _, _, _ => rfl
  | .agg l, id, els, h => by simp only [D.frz]; rw [D.frzs_idss l id els h]
  | .tup l, id, els, h => by simp only [D.frz]; rw [D.frzs_idss l id els h]
  | .clos _ l, id, els, h => by simp only [D.frz]; rw [D.frzs_idss l id els h]
  | .ref i n, id, els, h => by simp only [D.ids, List.mem_singleton] at h; simp only [D.frz]; rw [if_neg (fun e => h e.symm)]
  | .adr i _ _, id, els, h => by simp only [D.ids, List.mem_singleton] at h; simp only [D.frz]; rw [if_neg (fun e => h e.symm)]
  | .sub i _ _, id, els, h => by simp only [D.ids, List.mem_singleton] at h; simp only [D.frz]; rw [if_neg (fun e => h e.symm)]
  | .loc _ _, _, _, _ => rfl
  | .mp _, _, _, _ => rfl
theorem D.frzs_idss : ∀ (l : List D) (id : Nat) (els : List D), id ∉ D.idss l → D.frzs id els l = l
  | [], _, _, _ => rfl
  | d :: ds, id, els, h => by
    simp only [D.idss, List.mem_append, not_or] at h
    simp only [D.frzs]; rw [D.frz_ids d id els h.1, D.frzs_idss ds id els h.2]
end
mutual
theorem D.frz_sub : ∀ (d : D) (id : Nat) (els : List D) (m : Nat), m ∈ (d.frz id els).ids → m ∈ d.ids
  | .any, _, _, _, h => h
  | .v _, _, _, _, h => h
  | .nil0, _, _, _, h => h
  | .lst _, _, _, _, h => h
  | .ptr _, _, _, _, h => h
  | .agg l, id, els, m, h => D.frzs_sub l id els m h
  | .tup l, id, els, m, h => D.frzs_sub l id els m h
  | .clos _ l, id, els, m, h => D.frzs_sub l id els m h
  | .ref i n, id, els, m, h => by
    simp only [D.frz] at h
    split at h
    · split at h <;> cases h
    · exact h
  | .adr i a b, id, els, m, h => by
    simp only [D.frz] at h
    split at h
    · split at h
      · split at h <;> cases h
      · cases h
    · exact h
  | .sub i a b, id, els, m, h => by
    simp only [D.frz] at h
    split at h
    · split at h <;> cases h
    · exact h
  | .loc _ _, _, _, _, h => h
  | .mp _, _, _, _, h => h
theorem D.frzs_sub : ∀ (l : List D) (id : Nat) (els : List D) (m : Nat), m ∈ D.idss (D.frzs id els l) → m ∈ D.idss l
  | [], _, _, _, h => h
  | d :: ds, id, els, m, h => by
    simp only [D.frzs, D.idss, List.mem_append] at h ⊢
    exact h.imp (D.frz_sub d id els m) (D.frzs_sub ds id els m)
end

/-- Nothing of what X names stands in it. -/
def Off (X : List Nat) (d : D) : Prop := ∀ x ∈ X, x ∉ d.ids
def OffO (X : List Nat) (o : Option Own) : Prop := ∀ ob, o = some ob → ∀ x ∈ X, x ∉ D.idss ob.els
/-- An effect on all slots alike that has to do with what X names alone. -/
structure Mild (X : List Nat) (τ : D → D) : Prop where
  off : ∀ d, Off X d → τ d = d
  sub : ∀ d m, m ∈ (τ d).ids → m ∈ d.ids
theorem Mild.id {X : List Nat} : Mild X id := ⟨fun _ _ => rfl, fun _ _ h => h⟩
theorem Mild.comp {X : List Nat} {τ σ : D → D} (h : Mild X τ) (k : Mild X σ) : Mild X (τ ∘ σ) :=
  ⟨fun d hd => by simp only [Function.comp]; rw [k.off d hd, h.off d hd], fun d m hm => k.sub d m (h.sub _ m hm)⟩
theorem Mild.kill {X : List Nat} {i : Nat} (h : i ∈ X) : Mild X (D.kill i) := ⟨fun d hd => D.kill_ids d i (hd i h), fun d m => D.kill_sub d i m⟩
theorem Mild.frz {X : List Nat} {i : Nat} (h : i ∈ X) (els : List D) : Mild X (D.frz i els) := ⟨fun d hd => D.frz_ids d i els (hd i h), fun d m => D.frz_sub d i els m⟩
/-- What is not of X is as it was. -/
def SameOff (X : List Nat) (H H' : Nat → Option Own) : Prop := ∀ m, m ∉ X → OffO X (H m) → H' m = H m
theorem SameOff.trans {X : List Nat} {H H' H'' : Nat → Option Own} (h : SameOff X H H') (k : SameOff X H' H'') : SameOff X H H'' := fun m hm ho => by
  have e := h m hm ho
  rw [k m hm (by rw [e]; exact ho), e]
theorem SameOff.killed {X : List Nat} {t : Nat → D} {H : Nat → Option Own} {n i : Nat} (h : i ∈ X) : SameOff X H ((⟨t, H, n⟩ : St).killed i).H := fun m hm ho => by
  show (if m = i then none else (H m).map fun o => { o with els := D.kills i o.els }) = H m
  rw [if_neg (fun e => hm (by rw [e]; exact h))]
  cases hH : H m with
  | none => rfl
  | some ob =>
    have := ho ob hH i h
    simp only [Option.map_some]
    rw [D.kills_idss _ _ this]
theorem SameOff.frozen {X : List Nat} {t : Nat → D} {H : Nat → Option Own} {n i : Nat} (h : i ∈ X) (els : List D) : SameOff X H ((⟨t, H, n⟩ : St).frozen i els).H := fun m hm ho => by
  show (if m = i then none else (H m).map fun o => { o with els := D.frzs i els o.els }) = H m
  rw [if_neg (fun e => hm (by rw [e]; exact h))]
  cases hH : H m with
  | none => rfl
  | some ob =>
    have := ho ob hH i h
    simp only [Option.map_some]
    rw [D.frzs_idss _ _ _ this]
theorem SameOff.obj {X : List Nat} {t : Nat → D} {H : Nat → Option Own} {n i : Nat} (h : i ∈ X) (o : Own) : SameOff X H ((⟨t, H, n⟩ : St).obj i o).H := fun m hm _ => by
  show upd H i (some o) m = H m
  rw [upd_ne _ _ _ _ (fun e => hm (by rw [e]; exact h))]

/-- As BothI, of a family. -/
def BothX (X : List Nat) (K : St → D → Prop) (t t' : Nat → D) (n : Nat) (H : Nat → Option Own) : St → D → Prop := fun s d =>
  ∃ τ, Mild X τ ∧ s.t = τ ∘ t' ∧ s.n = n ∧ SameOff X H s.H ∧ (∀ m ∈ d.ids, m ∈ X) ∧ K ⟨τ ∘ t, s.H, s.n⟩ d

section
variable {P : Program} {X : List Nat} {K K' : St → D → Prop} {t t' : Nat → D} {H : Nat → Option Own} {n id : Nat} {ty : TypeId}
theorem bothX_same {d : D} (hd : ∀ m ∈ d.ids, m ∈ X) (h : K ⟨t, H, n⟩ d) : BothX X K t t' n H ⟨t', H, n⟩ d := ⟨_root_.id, Mild.id, rfl, rfl, fun _ _ _ => rfl, hd, h⟩
theorem bothX_kill {d : D} {o : Own} (hi : id ∈ X) (hd : ∀ m ∈ d.ids, m ∈ X) (h : K (((⟨t, H, n⟩ : St).killed id).obj id o) d) : BothX X K t t' n H (((⟨t', H, n⟩ : St).killed id).obj id o) d :=
  ⟨D.kill id, Mild.kill hi, rfl, rfl, (SameOff.killed (t := t') (n := n) hi).trans (SameOff.obj (t := t') (n := n) hi o), hd, h⟩
theorem frzAll_X : ∀ (ids : List Nat) (t t' : Nat → D) (H : Nat → Option Own) (n : Nat) (l : List D) (p : St × List D), (∀ i ∈ ids, i ∈ X) → frzAll ids ⟨t, H, n⟩ l = some p →
    ∃ τ, Mild X τ ∧ p.1.t = τ ∘ t ∧ p.1.n = n ∧ SameOff X H p.1.H ∧ frzAll ids ⟨t', H, n⟩ l = some (⟨τ ∘ t', p.1.H, p.1.n⟩, p.2)
  | [], t, t', H, n, l, p, _, h => by
    simp only [frzAll, Option.some.injEq] at h
    subst h
    exact ⟨_root_.id, Mild.id, rfl, rfl, fun _ _ _ => rfl, rfl⟩
  | i :: ids, t, t', H, n, l, p, hi, h => by
    have hi1 := hi i (List.mem_cons_self ..)
    have hi2 : ∀ j ∈ ids, j ∈ X := fun j hj => hi j (List.mem_cons_of_mem _ hj)
    unfold frzAll at h ⊢
    simp only at h ⊢
    cases ho : H i with
    | none =>
      rw [ho] at h
      exact frzAll_X ids t t' H n l p hi2 h
    | some o =>
      rw [ho] at h
      simp only at h ⊢
      split at h
      · rename_i hc
        rw [if_pos hc]
        obtain ⟨τ, h1, h2, hn, hs, h3⟩ := frzAll_X ids (fun j => (t j).frz i (D.nrms o.els)) (fun j => (t' j).frz i (D.nrms o.els)) _ n _ p hi2 h
        refine ⟨τ ∘ D.frz i (D.nrms o.els), h1.comp (Mild.frz hi1 _), h2, hn, (SameOff.frozen (t := t) (n := n) hi1 _).trans hs, h3⟩
      · cases h
theorem opBox_X (hi : id ∈ X) (hk : ∀ s d, BothX X K t t' n H s d → K' s d) {v : D} (h : opBox P ty v id K ⟨t, H, n⟩) : opBox P ty v id K' ⟨t', H, n⟩ :=
  ⟨h.1, h.2.1, h.2.2.1, hk _ _ (bothX_kill hi (by intro m hm; simp only [D.ids, List.mem_singleton] at hm; rw [hm]; exact hi) h.2.2.2)⟩
theorem opAlloc_X (hi : id ∈ X) (hk : ∀ s d, BothX X K t t' n H s d → K' s d) (h : opAlloc P ty id K ⟨t, H, n⟩) : opAlloc P ty id K' ⟨t', H, n⟩ := by
  obtain ⟨z, h1, h2, h3, h4, h5⟩ := h
  exact ⟨z, h1, h2, h3, h4, hk _ _ (bothX_kill hi (by intro m hm; simp only [D.ids, List.mem_singleton] at hm; rw [hm]; exact hi) h5)⟩
theorem opMakeSlice_X (hi : id ∈ X) (hk : ∀ s d, BothX X K t t' n H s d → K' s d) {l c : D} (h : opMakeSlice P ty l c id K ⟨t, H, n⟩) : opMakeSlice P ty l c id K' ⟨t', H, n⟩ := by
  unfold opMakeSlice at *
  split at h
  · obtain ⟨e, h1, h2, h3, h4, h5, h6, z, h7, h8, h9, h10⟩ := h
    exact ⟨e, h1, h2, h3, h4, h5, h6, z, h7, h8, h9, hk _ _ (bothX_kill hi (by intro m hm; simp only [D.ids, List.mem_singleton] at hm; rw [hm]; exact hi) h10)⟩
  · exact h.elim
theorem opAppend_X (hi : id ∈ X) (hk : ∀ s d, BothX X K t t' n H s d → K' s d) {x y : D} (hx : ∀ m ∈ x.ids, m ∈ X) (h : opAppend P ty x y id K ⟨t, H, n⟩) : opAppend P ty x y id K' ⟨t', H, n⟩ := by
  obtain ⟨e, h1, h2, b, h3, xs, h4, h5, h6, h7, h8, h9, h10⟩ := h
  have hb : b.1 ∈ X := by
    unfold baseD at h3
    split at h3
    · cases h3; exact hi
    · cases h3; exact hi
    · rename_i r k
      simp only at h3
      split at h3
      · split at h3
        · cases h3
          exact hx r (by simp [D.ids])
        · cases h3
      · cases h3
    · cases h3
  exact ⟨e, h1, h2, b, h3, xs, h4, h5, h6, h7, h8, h9, hk _ _ (bothX_kill hb (by intro m hm; simp only [D.ids, List.mem_singleton] at hm; rw [hm]; exact hb) h10)⟩
theorem opBuildSliceM_X (hi : id ∈ X) (hk : ∀ s d, BothX X K t t' n H s d → K' s d) {len : Nat} {parts : List (Nat × D)} (hx : ∀ m ∈ D.idss (parts.map Prod.snd), m ∈ X) (h : opBuildSliceM P ty len parts id K ⟨t, H, n⟩) : opBuildSliceM P ty len parts id K' ⟨t', H, n⟩ := by
  obtain ⟨p, h1, h2⟩ := h
  obtain ⟨τ, k1, k2, kn, ks, k3⟩ := frzAll_X _ t t' H n _ p hx h1
  refine ⟨_, k3, ?_⟩
  obtain ⟨⟨pt, pH, pn⟩, pl⟩ := p
  simp only at k2 kn ks
  subst k2 kn
  obtain ⟨e, g1, g2, g3, g4, g5, g6, g7, g8⟩ := h2
  refine ⟨e, g1, g2, g3, g4, g5, g6, g7, ?_⟩
  split
  · rename_i hl
    rw [if_pos hl] at g8
    exact hk _ _ ⟨D.kill id ∘ τ, (Mild.kill hi).comp k1, rfl, rfl, ks.trans ((SameOff.killed (t := τ ∘ t) (n := pn) hi).trans (SameOff.obj (t := τ ∘ t) (n := pn) hi _)),
      by intro m hm; simp only [D.ids, List.mem_singleton] at hm; rw [hm]; exact hi, g8⟩
  · rename_i hl
    rw [if_neg hl] at g8
    exact hk _ _ ⟨τ, k1, rfl, rfl, ks, (by intro m hm; cases hm), g8⟩
theorem idss_mem {l : List D} {m : Nat} (h : m ∈ D.idss l) : ∃ d ∈ l, m ∈ d.ids := by
  induction l with
  | nil => cases h
  | cons x xs ih =>
    simp only [D.idss, List.mem_append] at h
    rcases h with h | h
    · exact ⟨x, List.mem_cons_self .., h⟩
    · obtain ⟨d, h1, h2⟩ := ih h
      exact ⟨d, List.mem_cons_of_mem _ h1, h2⟩
theorem mem_idss' {l : List D} {d : D} {m : Nat} (hd : d ∈ l) (hm : m ∈ d.ids) : m ∈ D.idss l := by
  induction l with
  | nil => cases hd
  | cons x xs ih =>
    simp only [D.idss, List.mem_append]
    rcases List.mem_cons.1 hd with rfl | hd
    · exact .inl hm
    · exact .inr (ih hd)
theorem SameOff.setObjs {X : List Nat} {t : Nat → D} {H : Nat → Option Own} {n : Nat} {σ : List Nat} {os : List Own} (h : ∀ i ∈ σ, i ∈ X) : SameOff X H (setObjs ⟨t, H, n⟩ σ os).H := fun m hm _ => setObjs_out _ _ _ _ fun e => hm (h m e)
mutual
theorem D.ids_ren : ∀ (d : D) (k i : Nat), i ∈ (d.ren k).ids → i = k
  | .any, _, i, h => by simp [D.ren, D.ids] at h
  | .v _, _, i, h => by simp [D.ren, D.ids] at h
  | .nil0, _, i, h => by simp [D.ren, D.ids] at h
  | .lst _, _, i, h => by simp [D.ren, D.ids] at h
  | .ptr _, _, i, h => by simp [D.ren, D.ids] at h
  | .agg l, k, i, h => D.idss_ren l k i (by simpa [D.ren, D.ids] using h)
  | .tup l, k, i, h => D.idss_ren l k i (by simpa [D.ren, D.ids] using h)
  | .clos _ l, k, i, h => D.idss_ren l k i (by simpa [D.ren, D.ids] using h)
  | .ref _ _, _, i, h => by simpa [D.ren, D.ids] using h
  | .adr _ _ _, _, i, h => by simpa [D.ren, D.ids] using h
  | .sub _ _ _, _, i, h => by simpa [D.ren, D.ids] using h
  | .loc _ _, _, i, h => by simpa [D.ren, D.ids] using h
  | .mp _, _, i, h => by simpa [D.ren, D.ids] using h
theorem D.idss_ren : ∀ (l : List D) (k i : Nat), i ∈ D.idss (D.rens k l) → i = k
  | [], _, i, h => by simp [D.rens, D.idss] at h
  | d :: ds, k, i, h => by
    simp only [D.rens, D.idss, List.mem_append] at h
    rcases h with h | h
    · exact D.ids_ren d k i h
    · exact D.idss_ren ds k i h
end
theorem opCall_X (hi : id ∈ X) (hk : ∀ s d, BothX X K t t' n H s d → K' s d) {f : D} {args : List D} (hf : ∀ m ∈ f.ids, m ∈ X) (hx : ∀ m ∈ D.idss args, m ∈ X) (h : opCall P f args id K ⟨t, H, n⟩) : opCall P f args id K' ⟨t', H, n⟩ := by
  unfold opCall at *
  split at h
  · rename_i g caps
    have hall : ∀ m ∈ D.idss (args ++ caps), m ∈ X := fun m hm => by
      obtain ⟨d, hd, hmd⟩ := idss_mem hm
      rcases List.mem_append.1 hd with hd | hd
      · exact hx m (mem_idss' hd hmd)
      · exact hf m (mem_idss' hd hmd)
    rcases h with ⟨p, h1, h2, h3⟩ | ⟨σ, as, lent, R, l1, l2, l3, l4, l5, l6, l7⟩
    · refine .inl ?_
      obtain ⟨τ, k1, k2, kn, ks, k3⟩ := frzAll_X _ t t' H n _ p hall h1
      obtain ⟨⟨pt, pH, pn⟩, pl⟩ := p
      simp only at k2 kn ks
      subst k2 kn
      refine ⟨_, k3, h2, ?_⟩
      rcases h3 with ⟨R, h4, h5⟩ | ⟨R, h4, h5⟩
      · refine .inl ⟨R, h4, fun r hr hnr => ?_⟩
        have := h5 r hr hnr
        have hri : ∀ m ∈ r.ids, m ∈ X := fun m hm => by rw [D.noRef_ids _ hnr] at hm; cases hm
        split
        · rename_i hfl
          rw [if_pos hfl] at this
          exact hk _ _ (bothX_same hri this)
        · rename_i hfl
          rw [if_neg hfl] at this
          exact hk _ _ ⟨τ, k1, rfl, rfl, ks, hri, this⟩
      · refine .inr ⟨R, h4, fun r o hr hnr => ?_⟩
        have := h5 r o hr hnr
        cases o with
        | none => exact fun hn => hk _ _ ⟨τ, k1, rfl, rfl, ks, (fun m hm => by rw [D.noRef_ids _ hn] at hm; cases hm), this hn⟩
        | some o =>
          refine hk _ _ ⟨D.kill id ∘ τ, (Mild.kill hi).comp k1, rfl, rfl, ks.trans ((SameOff.killed (t := τ ∘ t) (n := pn) hi).trans (SameOff.obj (t := τ ∘ t) (n := pn) hi o)), fun m hm => ?_, this⟩
          rw [D.ids_ren _ _ _ hm]; exact hi
    · refine .inr ⟨σ, as, lent, R, l1, l2, l3, l4, l5, l6, fun r os hr hnr => ?_⟩
      have e : ∀ u : Nat → D, setObjs ⟨u, H, n⟩ σ os = ⟨u, (setObjs ⟨t', H, n⟩ σ os).H, n⟩ := fun u => by
        have h1 := setObjs_t ⟨u, H, n⟩ σ os
        have h2 := setObjs_n ⟨u, H, n⟩ σ os
        have h3 := setObjs_HH H n u t' σ os
        generalize setObjs ⟨u, H, n⟩ σ os = z at *
        obtain ⟨zt, zH, zn⟩ := z
        simp only at h1 h2 h3 ⊢
        rw [h1, h2, h3]
      have := l7 r os hr hnr
      rw [e t] at this
      refine hk _ _ ⟨_root_.id, Mild.id, setObjs_t _ _ _, setObjs_n _ _ _, SameOff.setObjs fun i hi => hall i (l2 i hi), (fun m hm => by rw [D.noRef_ids _ hnr] at hm; cases hm), ?_⟩
      have en : (setObjs ⟨t', H, n⟩ σ os).n = n := setObjs_n _ _ _
      show K ⟨t, (setObjs ⟨t', H, n⟩ σ os).H, (setObjs ⟨t', H, n⟩ σ os).n⟩ r
      rw [en]; exact this
  · exact h.elim
theorem opStore_X {t0 : TypeId} (hk : ∀ s d, BothX X K t t' n H s d → K' s d) {x v : D} (hx : ∀ m ∈ x.ids, m ∈ X) (h : opStore P t0 x v (fun s => K s .any) ⟨t, H, n⟩) : opStore P t0 x v (fun s => K' s .any) ⟨t', H, n⟩ := by
  unfold opStore at *
  split at h
  · rename_i i j o
    obtain ⟨ob, h1, d, h2, h3, h4, h5, h6, d', h7, h8⟩ := h
    have hiX : i ∈ X := hx i (by simp [D.ids])
    exact ⟨ob, h1, d, h2, h3, h4, h5, h6, d', h7, hk _ _ ⟨_root_.id, Mild.id, rfl, rfl, SameOff.obj (t := t') (n := n) hiX _, (by intro m hm; cases hm), h8⟩⟩
  · exact h.elim
/-- The operations that a family may be of. -/
def famV (o : Oper) : Bool :=
  match o.op with
  | .store .. => true
  | .alloc _ => true
  | .box .. => true
  | .makeSlice .. => true
  | .buildSlice .. => true
  | .call ⟨.value _, _, _⟩ => true
  | .call ⟨.builtin .append, args, ts⟩ => args.size == 2 && ts.size == 2
  | _ => false
theorem famV_not_quiet {o : Oper} (h : famV o = true) : quiet o = false := by
  unfold famV at h
  split at h
  · rename_i ho; simp [quiet, ho]
  · rename_i ho; simp [quiet, ho]
  · rename_i ho; simp [quiet, ho]
  · rename_i ho; simp [quiet, ho]
  · rename_i ho; simp [quiet, ho]
  · rename_i ho; simp [quiet, ho]
  · rename_i ho; simp [quiet, ho]
  · cases h
theorem aopx_fam {o : Oper} (hq : famV o = true) (hi : dstOf o.dst ∈ X)
    (hp : ∀ x ∈ o.op.operands, ∀ m ∈ ((⟨t, H, n⟩ : St).ev x).ids, m ∈ X) (hk : ∀ s d, BothX X K t t' n H s d → K' s d)
    (he : ∀ x ∈ o.op.operands, (⟨t, H, n⟩ : St).ev x = (⟨t', H, n⟩ : St).ev x) (h : aopx P o K ⟨t, H, n⟩) : aopx P o K' ⟨t', H, n⟩ := by
  obtain ⟨dst, op, ty, pos, af, g⟩ := o
  cases op
  case store t1 x v =>
    have h1 := he x (by simp [Op.operands])
    have h2 := he v (by simp [Op.operands])
    exact (by rw [← h1, ← h2]; exact opStore_X hk (hp x (by simp [Op.operands])) h : opStore P t1 ((⟨t', H, n⟩ : St).ev x) ((⟨t', H, n⟩ : St).ev v) (fun s => K' s .any) ⟨t', H, n⟩)
  case alloc e => exact opAlloc_X hi hk h
  case box e x =>
    have := he x (by simp [Op.operands])
    exact (by rw [← this]; exact opBox_X hi hk h : opBox P e ((⟨t', H, n⟩ : St).ev x) (dstOf dst) K' ⟨t', H, n⟩)
  case makeSlice t1 l c =>
    have h1 := he l (by simp [Op.operands])
    have h2 := he c (by simp [Op.operands])
    exact (by rw [← h1, ← h2]; exact opMakeSlice_X hi hk h : opMakeSlice P t1 ((⟨t', H, n⟩ : St).ev l) ((⟨t', H, n⟩ : St).ev c) (dstOf dst) K' ⟨t', H, n⟩)
  case buildSlice t1 len ps =>
    have hps : (ps.toList.map fun p => (p.1, (⟨t, H, n⟩ : St).ev p.2)) = ps.toList.map fun p => (p.1, (⟨t', H, n⟩ : St).ev p.2) :=
      List.map_congr_left fun p hp => by rw [he p.2 (by simp [Op.operands]; exact ⟨p.1, by simpa using hp⟩)]
    have hx : ∀ m ∈ D.idss ((ps.toList.map fun p => (p.1, (⟨t, H, n⟩ : St).ev p.2)).map Prod.snd), m ∈ X := by
      intro m hm
      obtain ⟨d, hd, hmd⟩ := idss_mem hm
      simp only [List.map_map, List.mem_map, Function.comp] at hd
      obtain ⟨p, hp', rfl⟩ := hd
      exact hp p.2 (by simp [Op.operands]; exact ⟨p.1, by simpa using hp'⟩) m hmd
    exact (by rw [← hps]; exact opBuildSliceM_X hi hk hx h : opBuildSliceM P t1 len (ps.toList.map fun p => (p.1, (⟨t', H, n⟩ : St).ev p.2)) (dstOf dst) K' ⟨t', H, n⟩)
  case call c =>
    obtain ⟨cal, args, ts⟩ := c
    cases cal
    case builtin b =>
      cases b
      case append =>
        simp only [famV, Bool.and_eq_true, beq_iff_eq] at hq
        obtain ⟨l⟩ := args
        obtain ⟨l'⟩ := ts
        match l, l', hq with
        | [x, y], [u, u'], _ =>
          have h1 := he x (by simp [Op.operands, Call.operands])
          have h2 := he y (by simp [Op.operands, Call.operands])
          have h3 := hp x (by simp [Op.operands, Call.operands])
          obtain ⟨e, h⟩ := (h : u = u' ∧ opAppend P u ((⟨t, H, n⟩ : St).ev x) ((⟨t, H, n⟩ : St).ev y) (dstOf dst) K ⟨t, H, n⟩)
          exact (⟨e, by rw [← h1, ← h2]; exact opAppend_X hi hk h3 h⟩ : u = u' ∧ opAppend P u ((⟨t', H, n⟩ : St).ev x) ((⟨t', H, n⟩ : St).ev y) (dstOf dst) K' ⟨t', H, n⟩)
      all_goals exact absurd hq (by simp [famV])
    case value f =>
      have h1 := he f (by simp [Op.operands, Call.operands])
      have h2 : args.toList.map (⟨t, H, n⟩ : St).ev = args.toList.map (⟨t', H, n⟩ : St).ev := map_ev _ fun x hx => he x (by simp [Op.operands, Call.operands]; exact .inr (by simpa using hx))
      have h3 := hp f (by simp [Op.operands, Call.operands])
      have h4 : ∀ m ∈ D.idss (args.toList.map (⟨t, H, n⟩ : St).ev), m ∈ X := by
        intro m hm
        obtain ⟨d, hd, hmd⟩ := idss_mem hm
        obtain ⟨x, hx, rfl⟩ := List.mem_map.1 hd
        exact hp x (by simp [Op.operands, Call.operands]; exact .inr (by simpa using hx)) m hmd
      exact (by rw [← h1, ← h2]; exact opCall_X hi hk h3 h4 h : opCall P ((⟨t', H, n⟩ : St).ev f) (args.toList.map (⟨t', H, n⟩ : St).ev) (dstOf dst) K' ⟨t', H, n⟩)
    all_goals exact absurd hq (by simp [famV])
  all_goals exact absurd hq (by simp [famV])
end

/-- How a state s comes of st by an operation beside I: what it has to do with. -/
structure ExtF (X I : List Nat) (dst : Option Tmp) (fam : Bool) (st s : St) : Prop where
  ext : ExtI I dst st s
  sub : ∀ k, dst ≠ some k → ∀ m ∈ (s.t k).ids, m ∈ (st.t k).ids
  out : fam = true → ∀ k, dst = some k → k < st.n → ∀ m ∈ (s.t k).ids, m ∈ X

section
variable {P : Program} {ops : Array Oper}
theorem opA_fam {X I : List Nat} {oi oj : Oper} {K K' : St → Prop} {st : St} {d : D} (hK' : ∀ s, K (s.put oi.dst d) ∧ ExtF X I oj.dst true st s → K' s) (hap : oi.apart ops oj = true) (hcl : famV oj = true) (hdst : dstOf oj.dst ∈ X)
    (hp : ∀ x ∈ oj.op.operands, ∀ m ∈ (st.ev x).ids, m ∈ X) (hX : ∀ m ∈ I, m ∉ X ∧ OffO X (st.H m)) (hd : ∀ m ∈ d.ids, m ∈ I) (h : opA P ops.toList oj K (st.put oi.dst d)) : opA P ops.toList oj K' st := by
  obtain ⟨h1, h2, h3⟩ := Oper.apart_spec hap
  have hop : ∀ x ∈ oj.op.operands, (st.put oi.dst d).ev x = st.ev x := fun x hx => ev_of_t fun k hk => by
    subst hk
    exact put_t_ne fun e => h1 k e (looks_operand hx)
  have hok : okDst (st.put oi.dst d) oj.dst → okDst st oj.dst := by
    unfold okDst; rw [put_n']; exact id
  have hdX : Off X d := fun x hx hm => (hX x (hd x hm)).1 hx
  have hmain : aop P oj K (st.put oi.dst d) → aop P oj K' st := by
    rintro ⟨ha, hb⟩
    refine ⟨hok ha, ?_⟩
    have e1 : st.put oi.dst d = ⟨(st.put oi.dst d).t, st.H, st.n⟩ := by
      conv => lhs; rw [show st.put oi.dst d = ⟨(st.put oi.dst d).t, (st.put oi.dst d).H, (st.put oi.dst d).n⟩ from rfl]
      rw [put_H', put_n']
    rw [e1] at hb
    refine aopx_fam (t' := st.t) hcl hdst (fun x hx => ?_) ?_ (fun x hx => by
      have := hop x hx
      rw [e1] at this
      exact this) hb
    · have := hop x hx
      rw [e1] at this
      rw [this]
      exact hp x hx
    rintro s x ⟨τ, k1, k2, k3, kH, kd, k4⟩
    have hτd : τ d = d := k1.off d hdX
    refine hK' _ ⟨?_, ⟨by rw [put_n', k3], fun k hk hn => ?_, fun m hm => ?_⟩, fun k hk m hm => ?_, fun _ k hk hlt m hm => ?_⟩
    · have e3 : (s.put oj.dst x).put oi.dst d = (⟨τ ∘ (st.put oi.dst d).t, s.H, s.n⟩ : St).put oj.dst x := by
        rw [put_comm fun e he h' => h2 e h' he]
        congr 1
        cases hdi : oi.dst with
        | none =>
          obtain ⟨s1, s2, s3⟩ := s
          simp only [St.put] at k2 ⊢
          rw [k2]
        | some i =>
          simp only [St.put]
          congr 1
          rw [k2]
          funext k
          by_cases hk : k = i
          · subst hk; simp [upd_same, hτd]
          · simp [upd_ne _ _ _ _ hk]
      rw [e3]; exact k4
    · rw [put_t_ne hk, k2]
      exact k1.off _ fun x hx hm => (hX x (hn _ hm)).1 hx
    · rw [put_H']
      exact kH m (hX m hm).1 (hX m hm).2
    · rw [put_t_ne hk, k2] at hm
      exact k1.sub _ m hm
    · subst_vars
      rw [hk] at hm
      simp only [St.put, upd_same] at hm
      exact kd m hm
  unfold opA at h ⊢
  split at h
  · exact hmain h
  · rename_i g want hg
    obtain ⟨dg, g1, g2, b, g3, g4, g5⟩ := h
    refine ⟨dg, g1, by rw [put_n'] at g2; exact g2, b, ?_, fun hb => hmain (g4 hb), fun hb => ?_⟩
    · rw [put_t_ne fun e => h1 dg e (looks_guard hg g1)] at g3; exact g3
    · obtain ⟨g6, g7⟩ := g5 hb
      refine ⟨hok g6, hK' _ ⟨by rw [put_comm fun e he h' => h2 e h' he]; exact g7, ⟨put_n', fun k hk _ => put_t_ne hk, fun _ _ => by rw [put_H']⟩, fun k hk m hm => by rw [put_t_ne hk] at hm; exact hm, fun _ k hk _ m hm => ?_⟩⟩
      rw [hk] at hm
      simp only [St.put, upd_same] at hm
      cases hm

/-- **A quiet operation that may come up now may be taken first**, beside a family of operations that have to do with one another alone. -/
theorem anyA_fam {i : Nat} {oi : Oper} {d : D} {K : St → Prop} {X I : List Nat} {W : Nat → Prop} (hi : ops[i]? = some oi) (hq : quiet oi = true) (hd : ∀ m ∈ d.ids, m ∈ I) :
    ∀ (fuel : Nat) (listed : Array Bool) (st : St),
      (∀ j, W j → listed.getD j true = false ∧ ∃ oj, ops[j]? = some oj ∧ ∃ e ∈ oj.after, Region.binds .any e = true ∧ (e.on = i ∨ W e.on)) →
      (∀ j oj, ops[j]? = some oj → j ≠ i → listed.getD j true = false → ¬ W j → oi.apart ops oj = true ∧ (quiet oj = true ∨ (famV oj = true ∧ dstOf oj.dst ∈ X ∧
        ∀ m om, ops[m]? = some om → m ≠ i → m ≠ j → listed.getD m true = false → ¬ W m → ∀ k, Operand.tmp k ∈ oj.op.operands → om.dst = some k → quiet om = false ∧ ∃ e ∈ oj.after, Region.binds .any e = true ∧ e.on = m))) →
      (∀ j oj, ops[j]? = some oj → j ≠ i → listed.getD j true = false → ¬ W j → quiet oj = true ∨ ∀ x ∈ oj.op.operands, (∀ m ∈ (st.ev x).ids, m ∈ X) ∨ ∃ k m om, x = .tmp k ∧ ops[m]? = some om ∧ m ≠ i ∧ m ≠ j ∧ listed.getD m true = false ∧ ¬ W m ∧ om.dst = some k) →
      (∀ m ∈ I, m ∉ X ∧ OffO X (st.H m)) →
      i ∈ Region.ready .any ops listed → Gives P ops oi d st → (∀ x ∈ oi.op.operands, ∀ m ∈ (st.ev x).ids, m ∈ I) →
      anyA P ops K fuel (listed.setIfInBounds i true) (st.put oi.dst d) → anyA P ops K (fuel + 1) listed st := by
  intro fuel
  induction fuel with
  | zero =>
    intro listed st _ _ _ _ hr hy _ H
    refine ⟨fun h => (by rw [h] at hr; cases hr), fun j hj o ho => ?_⟩
    by_cases hji : j = i
    · subst hji
      rw [hi] at ho; cases ho
      exact hy.use hq H
    · have := ready_mono hj hji
      rw [H.1] at this
      cases this
  | succ fuel ih =>
    intro listed st hW hfree hfam hX hr hy hops H
    refine ⟨fun h => (by rw [h] at hr; cases hr), fun j hj o ho => ?_⟩
    by_cases hji : j = i
    · subst hji
      rw [hi] at ho; cases ho
      exact hy.use hq H
    · have h1 := H.2 j (ready_mono hj hji) o ho
      obtain ⟨hjun, oj, hoj, hall⟩ := mem_ready.1 hj
      rw [ho] at hoj; cases hoj
      have hin : ∀ m, listed.getD m true = false → listed.getD m false = true → False := fun m h h' => by
        rcases Nat.lt_or_ge m listed.size with h2 | h2
        · simp [h2] at h h'; rw [h] at h'; cases h'
        · simp [Array.getElem?_eq_none h2] at h
      have hnW : ¬ W j := fun hw => by
        obtain ⟨_, o', ho', e, he, hb, hon⟩ := hW j hw
        rw [ho] at ho'; cases ho'
        have hl := hall e he hb
        rcases hon with rfl | hon
        · exact hin _ (mem_ready.1 hr).1 hl
        · exact hin _ (hW _ hon).1 hl
      obtain ⟨f1, f2⟩ := hfree j o ho hji hjun hnW
      have hun' : ∀ m, (listed.setIfInBounds j true).getD m true = false → j ≠ m ∧ listed.getD m true = false := fun m hun => by
        have hne : j ≠ m := fun e => by
          subst e
          have hlt : j < listed.size := by
            rcases Nat.lt_or_ge j listed.size with h' | h'
            · exact h'
            · simp [Array.getElem?_eq_none h'] at hjun
          simp [hlt] at hun
        exact ⟨hne, by rw [getD_set_ne true hne] at hun; exact hun⟩
      have hokj : okDst st o.dst := by
        have hn : (st.put oi.dst d).n = st.n := put_n'
        unfold opA at h1
        split at h1
        · have := h1.1; unfold okDst at *; rw [hn] at this; exact this
        · rename_i g want hg
          obtain ⟨dg, _, _, b, _, g4, g5⟩ := h1
          by_cases hb : b = want
          · have := (g4 hb).1; unfold okDst at *; rw [hn] at this; exact this
          · have := (g5 hb).1; unfold okDst at *; rw [hn] at this; exact this
      have hkey : ∀ s, (anyA P ops K fuel ((listed.setIfInBounds i true).setIfInBounds j true) (s.put oi.dst d) ∧ ExtF X I o.dst (famV o) st s) → anyA P ops K (fuel + 1) (listed.setIfInBounds j true) s := by
        rintro s ⟨k1, k2⟩
        obtain ⟨y1, y2⟩ := hy.extI f1 hops k2.ext
        refine ih (listed.setIfInBounds j true) s (fun m hm => ?_) (fun m om hm hmi hun hnw => ?_) (fun m om hm hmi hun hnw => ?_) (fun m hm => ?_) (ready_mono hr (Ne.symm hji)) y1 (fun x hx => by rw [← y2 x hx]; exact hops x hx) ?_
        · obtain ⟨g1, g2⟩ := hW m hm
          have hne : j ≠ m := fun e => hnW (e ▸ hm)
          exact ⟨by rw [getD_set_ne true hne]; exact g1, g2⟩
        · obtain ⟨_, hu⟩ := hun' m hun
          obtain ⟨g1, g2⟩ := hfree m om hm hmi hu hnw
          exact ⟨g1, g2.imp (fun h => h) fun h => ⟨h.1, h.2.1, fun m' om' hm' hmi' hne' hu' hnw' => h.2.2 m' om' hm' hmi' hne' (hun' m' hu').2 hnw'⟩⟩
        · obtain ⟨hne, hu⟩ := hun' m hun
          rcases hfam m om hm hmi hu hnw with h | c1
          · exact .inl h
          · rcases (hfree m om hm hmi hu hnw).2 with h | ⟨_, _, q2⟩
            · exact .inl h
            · have hjk : ∀ k, Operand.tmp k ∈ om.op.operands → o.dst = some k → ∀ a ∈ (s.t k).ids, a ∈ X := fun k hx hk a ha => by
                obtain ⟨hnq, _⟩ := q2 j o ho hji hne hjun hnW k hx hk
                have hf : famV o = true := by
                  rcases f2 with h | h
                  · rw [h] at hnq; cases hnq
                  · exact h.1
                have hlt : k < st.n := by unfold okDst at hokj; rw [hk] at hokj; exact hokj
                exact k2.out hf k hk hlt a ha
              refine .inr fun x hx => ?_
              rcases c1 x hx with c1 | ⟨k, m', om', e1, e2, e3, e4, e5, e6, e7⟩
              · refine .inl fun a ha => ?_
                cases x with
                | tmp k =>
                  by_cases hk : o.dst = some k
                  · exact hjk k hx hk a ha
                  · exact c1 a (k2.sub k hk a ha)
                | const v => exact c1 a ha
                | global g => exact c1 a ha
                | func f => exact c1 a ha
              · subst e1
                by_cases hmj : m' = j
                · subst hmj
                  rw [ho] at e2; cases e2
                  exact .inl (hjk k hx e7)
                · exact .inr ⟨k, m', om', rfl, e2, e3, e4, by rw [getD_set_ne true (Ne.symm hmj)]; exact e5, e6, e7⟩
        · rw [k2.ext.heap m hm]; exact hX m hm
        · rw [Array.setIfInBounds_comm _ _ hji]; exact k1
      rcases f2 with hqj | ⟨hfj, hdj, hfeed⟩
      · refine opA_swap (fun s hs => hkey s ⟨hs.1, ?_⟩) f1 (.inl hqj) (.inr hqj) h1
        have h5 := hs.2
        rw [hqj] at h5
        refine ⟨h5.toI, fun k hk m hm => ?_, fun hf => ?_⟩
        · rw [← (h5.same rfl).2 k hk]; exact hm
        · rw [famV_not_quiet hf] at hqj; cases hqj
      · rcases hfam j o ho hji hjun hnW with h | c1
        · rw [famV_not_quiet hfj] at h; cases h
        · refine opA_fam (fun s hs => hkey s (by rw [hfj]; exact hs)) f1 hfj hdj (fun x hx => ?_) hX hd h1
          rcases c1 x hx with c1 | ⟨k, m', om', e1, e2, e3, e4, e5, e6, e7⟩
          · exact c1
          · subst e1
            obtain ⟨_, e, he, hb, hon⟩ := hfeed m' om' e2 e3 e4 e5 e6 k hx e7
            have hl := hall e he hb
            rw [hon] at hl
            exact (hin _ e5 hl).elim
end
end Go.VL

end
section
/- Regions that draw their order: schedules with calls beside what is owned. -/
namespace Go.VL
open Go Go.RowKit

inductive Sch2 where
  | done
  | one (rob : Bool) (i : Nat) (s : Sch2)
  | cal (i : Nat) (cs : List Nat) (s : Sch2)
  | fam (i : Nat) (cs X ks : List Nat) (s : Sch2)
  | only (i : Nat) (s : Sch2)
  | two (i j : Nat) (s s' : Sch2)
  | three (i j k : Nat) (s s' s'' : Sch2)
  | mv (i : Nat) (s : Sch2)

/-- A slot is copied. -/
def isMv (o : Oper) : Bool :=
  match o.op, o.guard, o.dst with
  | .move (.tmp _), none, some _ => true
  | .assign (.tmp _), none, some _ => true
  | _, _, _ => false
def mvOK (ops : Array Oper) (listed : Array Bool) (i : Nat) (oi : Oper) (W : Array Bool) : Bool :=
  (List.range ops.size).all fun j => j == i || listed.getD j true || W.getD j false || match ops[j]? with
    | some o => oi.apart ops o
    | none => true
theorem isMv_spec {P : Program} {ops : Array Oper} {o : Oper} (h : isMv o = true) : ∃ i0 k0, o.dst = some i0 ∧ Operand.tmp k0 ∈ o.op.operands ∧ ∀ K st, opA P ops.toList o K st ↔ (i0 < st.n ∧ K (st.put (some i0) (st.t k0))) := by
  obtain ⟨dst, op, ty, pos, af, g⟩ := o
  unfold isMv at h
  split at h
  · rename_i k0 i0 h1 h2 h3
    simp only at h1 h2 h3
    subst h1 h2 h3
    exact ⟨_, _, rfl, by simp [Op.operands], fun K st => Iff.rfl⟩
  · rename_i k0 i0 h1 h2 h3
    simp only at h1 h2 h3
    subst h1 h2 h3
    exact ⟨_, _, rfl, by simp [Op.operands], fun K st => Iff.rfl⟩
  · cases h
section
variable {P : Program} {ops : Array Oper}
theorem opA_mv {oi oj : Oper} {K K' : St → Prop} {st : St} {d : D} {i0 : Nat} (hdi : oi.dst = some i0) (hK' : ∀ s (τ : D → D), K (s.put (some i0) (τ d)) → (∀ k, oj.dst ≠ some k → s.t k = τ (st.t k)) → s.n = st.n → K' s) (hap : oi.apart ops oj = true) (hcl : quiet oj = true ∨ loud oj = true)
    (h : opA P ops.toList oj K (st.put (some i0) d)) : opA P ops.toList oj K' st := by
  obtain ⟨h1, h2, h3⟩ := Oper.apart_spec hap
  rw [← hdi] at h hK'
  have hop : ∀ x ∈ oj.op.operands, (st.put oi.dst d).ev x = st.ev x := fun x hx => ev_of_t fun k hk => by
    subst hk
    exact put_t_ne fun e => h1 k e (looks_operand hx)
  have hok : okDst (st.put oi.dst d) oj.dst → okDst st oj.dst := by
    unfold okDst; rw [put_n']; exact id
  have hmain : aop P oj K (st.put oi.dst d) → aop P oj K' st := by
    rintro ⟨ha, hb⟩
    refine ⟨hok ha, ?_⟩
    by_cases hq : quiet oj = true
    · rw [aopx_quiet hq] at hb ⊢
      rw [put_H'] at hb
      refine qop_mono (fun x hx => ?_) (qop_ev hop hb)
      exact hK' _ id (by rw [put_comm fun e he h' => h2 e h' he]; exact hx) (fun k hk => put_t_ne hk) put_n'
    · have hl := hcl.resolve_left hq
      have e1 : st.put oi.dst d = ⟨(st.put oi.dst d).t, st.H, st.n⟩ := by
        conv => lhs; rw [show st.put oi.dst d = ⟨(st.put oi.dst d).t, (st.put oi.dst d).H, (st.put oi.dst d).n⟩ from rfl]
        rw [put_H', put_n']
      rw [e1] at hb
      refine aopx_loud (t' := st.t) hl ?_ (fun x hx => by
        have := hop x hx
        rw [e1] at this
        exact this) hb
      rintro s x ⟨τ, k1, k2, k3, k4⟩
      refine hK' _ τ ?_ (fun k hk => by rw [put_t_ne hk, k2]; rfl) (by rw [put_n', k3])
      have e3 : (s.put oj.dst x).put oi.dst (τ d) = (⟨τ ∘ (st.put oi.dst d).t, s.H, s.n⟩ : St).put oj.dst x := by
        rw [put_comm fun e he h' => h2 e h' he]
        congr 1
        rw [hdi]
        simp only [St.put]
        congr 1
        rw [k2]
        funext k
        by_cases hk : k = i0
        · subst hk; simp [upd_same]
        · simp [upd_ne _ _ _ _ hk]
      rw [e3]; exact k4
  unfold opA at h ⊢
  split at h
  · exact hmain h
  · rename_i g want hg
    obtain ⟨dg, g1, g2, b, g3, g4, g5⟩ := h
    refine ⟨dg, g1, by rw [put_n'] at g2; exact g2, b, ?_, fun hb => hmain (g4 hb), fun hb => ?_⟩
    · rw [put_t_ne fun e => h1 dg e (looks_guard hg g1)] at g3; exact g3
    · obtain ⟨g6, g7⟩ := g5 hb
      exact ⟨hok g6, hK' _ id (by rw [put_comm fun e he h' => h2 e h' he]; exact g7) (fun k hk => put_t_ne hk) put_n'⟩
/-- **A slot that is copied may be copied first.** -/
theorem anyA_mv {i i0 k0 : Nat} {oi : Oper} {K : St → Prop} {W : Nat → Prop} (hi : ops[i]? = some oi) (hdi : oi.dst = some i0) (hk0 : Operand.tmp k0 ∈ oi.op.operands) (hrun : ∀ K st, opA P ops.toList oi K st ↔ (i0 < st.n ∧ K (st.put (some i0) (st.t k0)))) :
    ∀ (fuel : Nat) (listed : Array Bool) (st : St),
      (∀ j, W j → listed.getD j true = false ∧ ∃ oj, ops[j]? = some oj ∧ ∃ e ∈ oj.after, Region.binds .any e = true ∧ (e.on = i ∨ W e.on)) →
      (∀ j oj, ops[j]? = some oj → j ≠ i → listed.getD j true = false → ¬ W j → oi.apart ops oj = true ∧ (quiet oj = true ∨ loud oj = true)) →
      i ∈ Region.ready .any ops listed → i0 < st.n →
      anyA P ops K fuel (listed.setIfInBounds i true) (st.put (some i0) (st.t k0)) → anyA P ops K (fuel + 1) listed st := by
  intro fuel
  induction fuel with
  | zero =>
    intro listed st _ _ hr hn H
    refine ⟨fun h => (by rw [h] at hr; cases hr), fun j hj o ho => ?_⟩
    by_cases hji : j = i
    · subst hji
      rw [hi] at ho; cases ho
      exact (hrun _ _).2 ⟨hn, H⟩
    · have := ready_mono hj hji
      rw [H.1] at this
      cases this
  | succ fuel ih =>
    intro listed st hW hfree hr hn H
    refine ⟨fun h => (by rw [h] at hr; cases hr), fun j hj o ho => ?_⟩
    by_cases hji : j = i
    · subst hji
      rw [hi] at ho; cases ho
      exact (hrun _ _).2 ⟨hn, H⟩
    · have h1 := H.2 j (ready_mono hj hji) o ho
      obtain ⟨hjun, oj, hoj, hall⟩ := mem_ready.1 hj
      rw [ho] at hoj; cases hoj
      have hin : ∀ m, listed.getD m true = false → listed.getD m false = true → False := fun m h h' => by
        rcases Nat.lt_or_ge m listed.size with h2 | h2
        · simp [h2] at h h'; rw [h] at h'; cases h'
        · simp [Array.getElem?_eq_none h2] at h
      have hnW : ¬ W j := fun hw => by
        obtain ⟨_, o', ho', e, he, hb, hon⟩ := hW j hw
        rw [ho] at ho'; cases ho'
        have hl := hall e he hb
        rcases hon with rfl | hon
        · exact hin _ (mem_ready.1 hr).1 hl
        · exact hin _ (hW _ hon).1 hl
      obtain ⟨f1, f2⟩ := hfree j o ho hji hjun hnW
      have hne0 : o.dst ≠ some k0 := fun e => (Oper.apart_spec f1).2.2 k0 e (looks_operand hk0)
      refine opA_mv hdi (fun s τ k1 k2 k3 => ?_) f1 f2 h1
      refine ih (listed.setIfInBounds j true) s (fun m hm => ?_) (fun m om hm hmi hun hnw => ?_) (ready_mono hr (Ne.symm hji)) (by rw [k3]; exact hn) ?_
      · obtain ⟨g1, g2⟩ := hW m hm
        have hne : j ≠ m := fun e => hnW (e ▸ hm)
        exact ⟨by rw [getD_set_ne true hne]; exact g1, g2⟩
      · have hne : j ≠ m := fun e => by
          subst e
          have hlt : j < listed.size := by
            rcases Nat.lt_or_ge j listed.size with h' | h'
            · exact h'
            · simp [Array.getElem?_eq_none h'] at hjun
          simp [hlt] at hun
        exact hfree m om hm hmi (by rw [getD_set_ne true hne] at hun; exact hun) hnw
      · rw [Array.setIfInBounds_comm _ _ hji, k2 k0 hne0]; exact k1
end

def lastOK (ops : Array Oper) (listed : Array Bool) (i j : Nat) (oj : Oper) (W : Array Bool) : Bool :=
  (List.range ops.size).all fun m => m == i || m == j || listed.getD m true || W.getD m false || match ops[m]? with
    | some o => oj.op.operands.toList.all fun x => match x with | .tmp k => o.dst != some k | _ => true
    | none => true
def calmOK (ops : Array Oper) (listed : Array Bool) (cs : List Nat) (i : Nat) (oi : Oper) (W : Array Bool) : Bool :=
  (List.range ops.size).all fun j => j == i || listed.getD j true || W.getD j false || match ops[j]? with
    | some o => oi.apart ops o && (quiet o || (calS o && cs.contains j && lastOK ops listed i j o W))
    | none => true

/-- Each slot that j looks at is one of ks, or a member of the family writes it that j waits for; no quiet operation that is open writes it. -/
def feedOK (ops : Array Oper) (listed : Array Bool) (cs ks : List Nat) (i j : Nat) (oj : Oper) (W : Array Bool) : Bool :=
  oj.op.operands.toList.all fun x => match x with
    | .tmp k => ((List.range ops.size).all fun m => m == i || m == j || listed.getD m true || W.getD m false || match ops[m]? with
        | some o => o.dst != some k || (!quiet o && oj.after.any fun e => Region.binds .any e && e.on == m)
        | none => true) && (ks.contains k || cs.any fun m => m != i && m != j && !listed.getD m true && !W.getD m false && match ops[m]? with
        | some o => o.dst == some k
        | none => false)
    | _ => true
def famOK (ops : Array Oper) (listed : Array Bool) (cs X ks : List Nat) (i : Nat) (oi : Oper) (W : Array Bool) : Bool :=
  (List.range ops.size).all fun j => j == i || listed.getD j true || W.getD j false || match ops[j]? with
    | some o => oi.apart ops o && (quiet o || (famV o && X.contains (dstOf o.dst) && feedOK ops listed cs ks i j o W))
    | none => true

def sch2OK (ops : Array Oper) : Nat → Array Bool → Sch2 → Bool
  | _, listed, .done => Region.ready .any ops listed == []
  | f + 1, listed, .one rob i s => match ops[i]? with
    | some o => quiet o && o.dst.isSome && (Region.ready .any ops listed).contains i && (let W := waits ops listed i 1 (Array.replicate ops.size false); waitsOK ops listed i W && freeOK ops listed rob i o W) && sch2OK ops f (listed.setIfInBounds i true) s
    | none => false
  | f + 1, listed, .cal i cs s => match ops[i]? with
    | some o => quiet o && o.dst.isSome && (Region.ready .any ops listed).contains i && (let W := waits ops listed i 1 (Array.replicate ops.size false); waitsOK ops listed i W && calmOK ops listed cs i o W) && sch2OK ops f (listed.setIfInBounds i true) s
    | none => false
  | f + 1, listed, .fam i cs X ks s => match ops[i]? with
    | some o => quiet o && o.dst.isSome && (Region.ready .any ops listed).contains i && (let W := waits ops listed i 1 (Array.replicate ops.size false); waitsOK ops listed i W && famOK ops listed cs X ks i o W) && sch2OK ops f (listed.setIfInBounds i true) s
    | none => false
  | f + 1, listed, .only i s => Region.ready .any ops listed == [i] && sch2OK ops f (listed.setIfInBounds i true) s
  | f + 1, listed, .mv i s => match ops[i]? with
    | some o => isMv o && (Region.ready .any ops listed).contains i && (let W := waits ops listed i 1 (Array.replicate ops.size false); waitsOK ops listed i W && mvOK ops listed i o W) && sch2OK ops f (listed.setIfInBounds i true) s
    | none => false
  | f + 1, listed, .three i j k s s' s'' => Region.ready .any ops listed == [i, j, k] && sch2OK ops f (listed.setIfInBounds i true) s && sch2OK ops f (listed.setIfInBounds j true) s' && sch2OK ops f (listed.setIfInBounds k true) s''
  | f + 1, listed, .two i j s s' => Region.ready .any ops listed == [i, j] && sch2OK ops f (listed.setIfInBounds i true) s && sch2OK ops f (listed.setIfInBounds j true) s'
  | 0, _, _ => false

def dstIds (o : Oper) (s : St) : List Nat := match o.dst with | some k => (s.t k).ids | none => []
def keptP (id : Nat) (st : St) : List Nat → Prop
  | [] => True
  | m :: l => killO id (st.H m) = st.H m ∧ keptP id st l
def tameQ (o : Oper) (st : St) (I : List Nat) : Prop :=
  match o.op with
  | .store _ x _ => offD I (st.ev x)
  | _ => plain o st = true ∧ (I.all fun m => !(m == dstOf o.dst)) = true ∧ keptP (dstOf o.dst) st I
def calP (ops : Array Oper) (I : List Nat) (st : St) : List Nat → Prop
  | [] => True
  | c :: cs => (∃ o, ops[c]? = some o ∧ tameQ o st I) ∧ calP ops I st cs
theorem keptP_mem {id : Nat} {st : St} : ∀ {l : List Nat}, keptP id st l → ∀ m ∈ l, killO id (st.H m) = st.H m
  | [], _, m, hm => by cases hm
  | x :: l, h, m, hm => by
    rcases List.mem_cons.1 hm with rfl | hm
    · exact h.1
    · exact keptP_mem h.2 m hm
theorem calP_mem {ops : Array Oper} {I : List Nat} {st : St} : ∀ {cs : List Nat}, calP ops I st cs → ∀ c ∈ cs, ∃ o, ops[c]? = some o ∧ tameQ o st I
  | [], _, m, hm => by cases hm
  | x :: l, h, m, hm => by
    rcases List.mem_cons.1 hm with rfl | hm
    · exact h.1
    · exact calP_mem h.2 m hm

def offB (X : List Nat) : Option Own → Bool
  | none => true
  | some ob => (D.idss ob.els).all fun m => !(X.any fun x => x == m)
theorem offB_spec {X : List Nat} {o : Option Own} (h : offB X o = true) : OffO X o := by
  rintro ob rfl x hx hm
  have := List.all_eq_true.1 h x hm
  simp only [Bool.not_eq_true', List.any_eq_false, beq_iff_eq] at this
  exact this x hx rfl
/-- What I names has nothing to do with X. -/
def keptX (X : List Nat) (st : St) : List Nat → Prop
  | [] => True
  | m :: l => (X.any fun x => x == m) = false ∧ offB X (st.H m) = true ∧ keptX X st l
theorem keptX_mem {X : List Nat} {st : St} : ∀ {l : List Nat}, keptX X st l → ∀ m ∈ l, m ∉ X ∧ OffO X (st.H m)
  | [], _, m, hm => by cases hm
  | x :: l, h, m, hm => by
    rcases List.mem_cons.1 hm with rfl | hm
    · refine ⟨fun hx => ?_, offB_spec h.2.1⟩
      have := h.1
      simp only [List.any_eq_false, beq_iff_eq] at this
      exact this m hx rfl
    · exact keptX_mem h.2.2 m hm
def famP (X : List Nat) (st : St) : List Nat → Prop
  | [] => True
  | k :: ks => ((st.t k).ids.all fun m => X.any fun x => x == m) = true ∧ famP X st ks
theorem famP_mem {X : List Nat} {st : St} : ∀ {ks : List Nat}, famP X st ks → ∀ k ∈ ks, ∀ m ∈ (st.t k).ids, m ∈ X
  | [], _, m, hm => by cases hm
  | x :: l, h, m, hm => by
    rcases List.mem_cons.1 hm with rfl | hm
    · intro a ha
      have := List.all_eq_true.1 h.1 a ha
      simpa using this
    · exact famP_mem h.2 m hm

def sch2K (P : Program) (ops : Array Oper) (K : St → Prop) : Sch2 → St → Prop
  | .done, st => K st
  | .one rob i s, st => ∃ o, ops[i]? = some o ∧ qok o st.ev = true ∧ (rob = true → plain o st = true) ∧ opA P ops.toList o (fun s' => (rob = true → robDst o s' = true) ∧ sch2K P ops K s s') st
  | .cal i cs s, st => ∃ o, ops[i]? = some o ∧ qok o st.ev = true ∧ opA P ops.toList o (fun s' => calP ops (D.idss (o.op.operands.toList.map st.ev) ++ dstIds o s') st cs ∧ sch2K P ops K s s') st
  | .fam i cs X ks s, st => ∃ o, ops[i]? = some o ∧ qok o st.ev = true ∧ famP X st ks ∧ opA P ops.toList o (fun s' => keptX X st (D.idss (o.op.operands.toList.map st.ev) ++ dstIds o s') ∧ sch2K P ops K s s') st
  | .only i s, st => ∃ o, ops[i]? = some o ∧ opA P ops.toList o (sch2K P ops K s) st
  | .mv i s, st => ∃ o, ops[i]? = some o ∧ opA P ops.toList o (sch2K P ops K s) st
  | .three i j k s s' s'', st => (∃ o, ops[i]? = some o ∧ opA P ops.toList o (sch2K P ops K s) st) ∧ (∃ o, ops[j]? = some o ∧ opA P ops.toList o (sch2K P ops K s') st) ∧ ∃ o, ops[k]? = some o ∧ opA P ops.toList o (sch2K P ops K s'') st
  | .two i j s s', st => (∃ o, ops[i]? = some o ∧ opA P ops.toList o (sch2K P ops K s) st) ∧ ∃ o, ops[j]? = some o ∧ opA P ops.toList o (sch2K P ops K s') st

theorem waitsOK_spec {ops : Array Oper} {listed : Array Bool} {i : Nat} (c4 : waitsOK ops listed i (waits ops listed i 1 (Array.replicate ops.size false)) = true) :
    ∀ j, (waits ops listed i 1 (Array.replicate ops.size false)).getD j false = true → listed.getD j true = false ∧ ∃ oj, ops[j]? = some oj ∧ ∃ e ∈ oj.after, Region.binds .any e = true ∧ (e.on = i ∨ (waits ops listed i 1 (Array.replicate ops.size false)).getD e.on false = true) := by
  intro j hj
  simp only [waitsOK, Bool.and_eq_true, List.all_eq_true, List.mem_range, beq_iff_eq] at c4
  obtain ⟨cs, ca⟩ := c4
  have hjs : j < ops.size := by
    rcases Nat.lt_or_ge j ops.size with h | h
    · exact h
    · rw [← cs] at h
      simp [Array.getElem?_eq_none h] at hj
  have := ca j hjs
  rw [hj] at this
  simp only [Bool.not_true, Bool.false_or, Bool.and_eq_true, Bool.not_eq_true'] at this
  obtain ⟨t1, t2⟩ := this
  refine ⟨t1, ?_⟩
  cases ho : ops[j]? with
  | none => rw [ho] at t2; cases t2
  | some oj =>
    rw [ho] at t2
    obtain ⟨e, he, hb⟩ := Array.any_eq_true'.1 t2
    simp only [Bool.and_eq_true, Bool.or_eq_true, beq_iff_eq] at hb
    exact ⟨oj, rfl, e, he, hb.1, hb.2⟩

theorem mem_idss {l : List D} {d : D} (hd : d ∈ l) {m : Nat} (hm : m ∈ d.ids) : m ∈ D.idss l := by
  induction l with
  | nil => cases hd
  | cons x xs ih =>
    simp only [D.idss, List.mem_append]
    rcases List.mem_cons.1 hd with rfl | hd
    · exact .inl hm
    · exact .inr (ih hd)

theorem anyA_of_sch2 {P : Program} {ops : Array Oper} {K : St → Prop} (hcl : ∀ (i : Nat) (o : Oper), ops[i]? = some o → quiet o = true ∨ loud o = true) : ∀ (s : Sch2) (f : Nat) (listed : Array Bool) (st : St), sch2OK ops f listed s = true → sch2K P ops K s st → anyA P ops K f listed st
  | .done, f, listed, st, hc, h => by
    have hr : Region.ready .any ops listed = [] := by
      cases f <;> simpa [sch2OK] using hc
    cases f with
    | zero => exact ⟨hr, h⟩
    | succ f => exact ⟨fun _ => h, by rw [hr]; simp⟩
  | .one rob i s, 0, listed, st, hc, h => by simp [sch2OK] at hc
  | .one rob i s, f + 1, listed, st, hc, h => by
    obtain ⟨o, h1, h2, h3, h4⟩ := h
    simp only [sch2OK, h1, Bool.and_eq_true] at hc
    obtain ⟨⟨⟨⟨c1, c2⟩, c3⟩, c4, c5⟩, c6⟩ := hc
    obtain ⟨d, g1, g2, g3⟩ := Gives.of c1 h2 h4
    refine anyA_first (W := fun j => (waits ops listed i 1 (Array.replicate ops.size false)).getD j false = true) (rob := rob) (d := d) h1 c1 f listed st (waitsOK_spec c4) ?_ (by simpa using c3) g1 (fun hr => ⟨h3 hr, ?_⟩) (anyA_of_sch2 hcl s f _ _ c6 g3)
    · intro j oj hj hne hun hnw
      simp only [freeOK, List.all_eq_true, List.mem_range] at c5
      have := c5 j (Array.getElem?_eq_some_iff.1 hj).1
      simp only [hj, Bool.or_eq_true, beq_iff_eq, hne, false_or, hun, Bool.false_eq_true, Bool.and_eq_true] at this
      rcases this with h | ⟨⟨h5, h6⟩, h7⟩
      · exact absurd h hnw
      · exact ⟨h5, h6, h7⟩
    · have := g2 hr
      unfold robDst at this
      cases hd : o.dst with
      | none => rw [hd] at c2; cases c2
      | some k =>
        rw [hd] at this
        simpa [St.put, upd_same] using this
  | .cal i cs s, 0, listed, st, hc, h => by simp [sch2OK] at hc
  | .cal i cs s, f + 1, listed, st, hc, h => by
    obtain ⟨o, h1, h2, h4⟩ := h
    simp only [sch2OK, h1, Bool.and_eq_true] at hc
    obtain ⟨⟨⟨⟨c1, c2⟩, c3⟩, c4, c5⟩, c6⟩ := hc
    obtain ⟨d, g1, h3, g3⟩ := Gives.of c1 h2 h4
    have hdi : dstIds o (st.put o.dst d) = d.ids := by
      unfold dstIds
      cases hdd : o.dst with
      | none => rw [hdd] at c2; cases c2
      | some k => simp only [St.put, upd_same]
    rw [hdi] at h3
    have key : ∀ j oj, ops[j]? = some oj → j ≠ i → listed.getD j true = false → ¬ (waits ops listed i 1 (Array.replicate ops.size false)).getD j false = true →
        o.apart ops oj = true ∧ (quiet oj = true ∨ (calS oj = true ∧ j ∈ cs ∧ lastOK ops listed i j oj (waits ops listed i 1 (Array.replicate ops.size false)) = true)) := by
      intro j oj hj hne hun hnw
      simp only [calmOK, List.all_eq_true, List.mem_range] at c5
      have := c5 j (Array.getElem?_eq_some_iff.1 hj).1
      simp only [hj, Bool.or_eq_true, beq_iff_eq, hne, false_or, hun, Bool.false_eq_true, Bool.and_eq_true, List.contains_iff_mem] at this
      rcases this with h | ⟨h5, h6⟩
      · exact absurd h hnw
      · exact ⟨h5, h6.imp (fun h => h) fun h => ⟨h.1.1, h.1.2, h.2⟩⟩
    refine anyA_calm (I := D.idss (o.op.operands.toList.map st.ev) ++ d.ids) (W := fun j => (waits ops listed i 1 (Array.replicate ops.size false)).getD j false = true) (d := d) h1 c1 (fun m hm => List.mem_append.2 (.inr hm)) f listed st (waitsOK_spec c4) ?_ ?_ (by simpa using c3) g1 ?_ (anyA_of_sch2 hcl s f _ _ c6 g3)
    · intro j oj hj hne hun hnw
      obtain ⟨k1, k2⟩ := key j oj hj hne hun hnw
      refine ⟨k1, k2.imp (fun h => h) fun h => ⟨h.1, fun m om hm hmi hmj hmu hmw k hk => ?_⟩⟩
      have := h.2.2
      simp only [lastOK, List.all_eq_true, List.mem_range] at this
      have := this m (Array.getElem?_eq_some_iff.1 hm).1
      simp only [hm, Bool.or_eq_true, beq_iff_eq, hmi, hmj, false_or, hmu, Bool.false_eq_true, List.all_eq_true] at this
      rcases this with h | h
      · exact absurd h hmw
      · have := h _ (by simpa using hk)
        simpa using this
    · intro j oj hj hne hun hnw
      rcases (key j oj hj hne hun hnw).2 with h | ⟨_, h, _⟩
      · exact .inl h
      · obtain ⟨o', e1, e2⟩ := calP_mem h3 j h
        rw [hj] at e1; cases e1
        refine .inr ?_
        unfold tameQ at e2
        unfold tameP
        split at e2
        · rename_i t x v hop
          first
            | exact e2
            | (rw [hop]; exact e2)
        · rename_i hns
          obtain ⟨e2, e3, e4⟩ := e2
          have goal : plain oj st = true ∧ dstOf oj.dst ∉ D.idss (o.op.operands.toList.map st.ev) ++ d.ids ∧ ∀ m ∈ D.idss (o.op.operands.toList.map st.ev) ++ d.ids, killO (dstOf oj.dst) (st.H m) = st.H m := by
            refine ⟨e2, fun hm => ?_, fun m hm => keptP_mem e4 m hm⟩
            simp only [List.all_eq_true] at e3
            have := e3 _ hm
            simp at this
          first
            | exact goal
            | (split
               · rename_i t x v hop; exact absurd hop (hns t x v)
               · exact goal)
    · intro x hx m hm
      exact List.mem_append.2 (.inl (mem_idss (List.mem_map.2 ⟨x, by simpa using hx, rfl⟩) hm))
  | .fam i cs X ks s, 0, listed, st, hc, h => by simp [sch2OK] at hc
  | .fam i cs X ks s, f + 1, listed, st, hc, h => by
    obtain ⟨o, h1, h2, h3, h4⟩ := h
    simp only [sch2OK, h1, Bool.and_eq_true] at hc
    obtain ⟨⟨⟨⟨c1, c2⟩, c3⟩, c4, c5⟩, c6⟩ := hc
    obtain ⟨d, g1, g2, g3⟩ := Gives.of c1 h2 h4
    have hk := keptX_mem g2
    have hdi : dstIds o (st.put o.dst d) = d.ids := by
      unfold dstIds
      cases hdd : o.dst with
      | none => rw [hdd] at c2; cases c2
      | some k => simp only [St.put, upd_same]
    rw [hdi] at hk
    have key : ∀ j oj, ops[j]? = some oj → j ≠ i → listed.getD j true = false → ¬ (waits ops listed i 1 (Array.replicate ops.size false)).getD j false = true →
        o.apart ops oj = true ∧ (quiet oj = true ∨ (famV oj = true ∧ dstOf oj.dst ∈ X ∧ feedOK ops listed cs ks i j oj (waits ops listed i 1 (Array.replicate ops.size false)) = true)) := by
      intro j oj hj hne hun hnw
      simp only [famOK, List.all_eq_true, List.mem_range] at c5
      have := c5 j (Array.getElem?_eq_some_iff.1 hj).1
      simp only [hj, Bool.or_eq_true, beq_iff_eq, hne, false_or, hun, Bool.false_eq_true, Bool.and_eq_true, List.contains_iff_mem] at this
      rcases this with h | ⟨h5, h6⟩
      · exact absurd h hnw
      · exact ⟨h5, h6.imp (fun h => h) fun h => ⟨h.1.1, h.1.2, h.2⟩⟩
    refine anyA_fam (I := D.idss (o.op.operands.toList.map st.ev) ++ d.ids) (X := X) (W := fun j => (waits ops listed i 1 (Array.replicate ops.size false)).getD j false = true) (d := d) h1 c1 (fun m hm => List.mem_append.2 (.inr hm)) f listed st (waitsOK_spec c4) ?_ ?_ hk (by simpa using c3) g1 ?_ (anyA_of_sch2 hcl s f _ _ c6 g3)
    · intro j oj hj hne hun hnw
      obtain ⟨k1, k2⟩ := key j oj hj hne hun hnw
      refine ⟨k1, k2.imp (fun h => h) fun h => ⟨h.1, h.2.1, fun m om hm hmi hmj hmu hmw k hk hd => ?_⟩⟩
      have := h.2.2
      simp only [feedOK, List.all_eq_true] at this
      have := this (.tmp k) (by simpa using hk)
      simp only [Bool.and_eq_true, List.all_eq_true, List.mem_range] at this
      have := this.1 m (Array.getElem?_eq_some_iff.1 hm).1
      simp only [hm, Bool.or_eq_true, beq_iff_eq, hmi, hmj, false_or, hmu, Bool.false_eq_true, Bool.and_eq_true, Bool.not_eq_true'] at this
      rcases this with h | h | ⟨h, h'⟩
      · exact absurd h hmw
      · simp [hd] at h
      · obtain ⟨e, he, hb⟩ := Array.any_eq_true'.1 h'
        simp only [Bool.and_eq_true, beq_iff_eq] at hb
        exact ⟨h, e, he, hb.1, hb.2⟩
    · intro j oj hj hne hun hnw
      rcases (key j oj hj hne hun hnw).2 with h | ⟨_, _, h⟩
      · exact .inl h
      · refine .inr fun x hx => ?_
        cases x with
        | tmp k =>
          simp only [feedOK, List.all_eq_true] at h
          have := h (.tmp k) (by simpa using hx)
          simp only [Bool.and_eq_true, Bool.or_eq_true, List.contains_iff_mem, List.any_eq_true] at this
          rcases this.2 with h | ⟨m, hm, h⟩
          · exact .inl (famP_mem h3 k h)
          · obtain ⟨⟨⟨⟨a1, a2⟩, a3⟩, a4⟩, a5⟩ := h
            cases ho : ops[m]? with
            | none => rw [ho] at a5; cases a5
            | some om =>
              rw [ho] at a5
              exact .inr ⟨k, m, om, rfl, ho, by simpa using a1, by simpa using a2, by simpa using a3, by simpa using a4, by simpa using a5⟩
        | const v =>
          refine .inl fun m hm => ?_
          have : (D.ofVal v).ids = [] := by
            cases v with
            | agg cs =>
              simp only [D.ofVal]
              split
              · have : ∀ l : List Value, D.idss (l.map D.v) = [] := fun l => by
                  induction l with
                  | nil => rfl
                  | cons x xs ih => simp only [List.map_cons, D.idss, D.ids, ih, List.append_nil]
                exact this _
              · rfl
            | _ => rfl
          rw [show st.ev (.const v) = D.ofVal v from rfl, this] at hm
          cases hm
        | global g => exact .inl fun m hm => by rw [show (st.ev (.global g)).ids = [] from globD_ids g theGlobs] at hm; cases hm
        | func f => exact .inl fun m hm => by cases hm
    · intro x hx m hm
      exact List.mem_append.2 (.inl (mem_idss (List.mem_map.2 ⟨x, by simpa using hx, rfl⟩) hm))
  | .only i s, 0, listed, st, hc, h => by simp [sch2OK] at hc
  | .only i s, f + 1, listed, st, hc, h => by
    obtain ⟨o, h1, h2⟩ := h
    simp only [sch2OK, Bool.and_eq_true, beq_iff_eq] at hc
    obtain ⟨c1, c2⟩ := hc
    refine ⟨(fun hr => by rw [c1] at hr; cases hr), fun j hj o' ho' => ?_⟩
    rw [c1] at hj
    have : j = i := by simpa using hj
    subst this
    rw [h1] at ho'; cases ho'
    exact opA_mono (fun s' hs' => anyA_of_sch2 hcl s f _ _ c2 hs') h2 (hcl _ _ h1)
  | .mv i s, 0, listed, st, hc, h => by simp [sch2OK] at hc
  | .mv i s, f + 1, listed, st, hc, h => by
    obtain ⟨o, h1, h2⟩ := h
    simp only [sch2OK, h1, Bool.and_eq_true] at hc
    obtain ⟨⟨⟨c1, c3⟩, c4, c5⟩, c6⟩ := hc
    obtain ⟨i0, k0, e1, e2, e3⟩ := isMv_spec (P := P) (ops := ops) c1
    obtain ⟨g1, g2⟩ := (e3 _ _).1 h2
    refine anyA_mv (W := fun j => (waits ops listed i 1 (Array.replicate ops.size false)).getD j false = true) h1 e1 e2 e3 f listed st (waitsOK_spec c4) ?_ (by simpa using c3) g1 (anyA_of_sch2 hcl s f _ _ c6 g2)
    intro j oj hj hne hun hnw
    simp only [mvOK, List.all_eq_true, List.mem_range] at c5
    have := c5 j (Array.getElem?_eq_some_iff.1 hj).1
    simp only [hj, Bool.or_eq_true, beq_iff_eq, hne, false_or, hun, Bool.false_eq_true] at this
    rcases this with h | h
    · exact absurd h hnw
    · exact ⟨h, hcl _ _ hj⟩
  | .three i j k s s' s'', 0, listed, st, hc, h => by simp [sch2OK] at hc
  | .three i j k s s' s'', f + 1, listed, st, hc, h => by
    obtain ⟨⟨o, h1, h2⟩, ⟨o2, h3, h4⟩, o3, h5, h6⟩ := h
    simp only [sch2OK, Bool.and_eq_true, beq_iff_eq] at hc
    obtain ⟨⟨⟨c1, c2⟩, c3⟩, c4⟩ := hc
    refine ⟨(fun hr => by rw [c1] at hr; cases hr), fun m hm o' ho' => ?_⟩
    rw [c1] at hm
    have : m = i ∨ m = j ∨ m = k := by simpa using hm
    rcases this with rfl | rfl | rfl
    · rw [h1] at ho'; cases ho'
      exact opA_mono (fun s1 hs' => anyA_of_sch2 hcl s f _ _ c2 hs') h2 (hcl _ _ h1)
    · rw [h3] at ho'; cases ho'
      exact opA_mono (fun s1 hs' => anyA_of_sch2 hcl s' f _ _ c3 hs') h4 (hcl _ _ h3)
    · rw [h5] at ho'; cases ho'
      exact opA_mono (fun s1 hs' => anyA_of_sch2 hcl s'' f _ _ c4 hs') h6 (hcl _ _ h5)
  | .two i j s s', 0, listed, st, hc, h => by simp [sch2OK] at hc
  | .two i j s s', f + 1, listed, st, hc, h => by
    obtain ⟨⟨o, h1, h2⟩, o2, h3, h4⟩ := h
    simp only [sch2OK, Bool.and_eq_true, beq_iff_eq] at hc
    obtain ⟨⟨c1, c2⟩, c3⟩ := hc
    refine ⟨(fun hr => by rw [c1] at hr; cases hr), fun m hm o' ho' => ?_⟩
    rw [c1] at hm
    have : m = i ∨ m = j := by simpa using hm
    rcases this with rfl | rfl
    · rw [h1] at ho'; cases ho'
      exact opA_mono (fun s' hs' => anyA_of_sch2 hcl s f _ _ c2 hs') h2 (hcl _ _ h1)
    · rw [h3] at ho'; cases ho'
      exact opA_mono (fun s'' hs' => anyA_of_sch2 hcl s' f _ _ c3 hs') h4 (hcl _ _ h3)

def sch2I (P : Program) (s : Sch2) (st : St) [all : KL] [K : KN] : Prop := sch2K P all.l.toArray K.f s st
def keptI (id : Nat) (st : St) (l : List Nat) [K : KP] : Prop := keptP id st l ∧ K.f
def tameI (o : Oper) (st : St) (I : List Nat) [K : KP] : Prop := tameQ o st I ∧ K.f
def offI (I : List Nat) (d : D) [K : KP] : Prop := offD I d ∧ K.f
def calI (I : List Nat) (st : St) (cs : List Nat) [all : KL] [K : KP] : Prop := calP all.l.toArray I st cs ∧ K.f

def famI (X : List Nat) (st : St) (ks : List Nat) [K : KP] : Prop := famP X st ks ∧ K.f
def keptXI (X : List Nat) (st : St) (l : List Nat) [K : KP] : Prop := keptX X st l ∧ K.f

theorem awpI_draw2 {P : Program} {N R : KN} {X : KX} {st : St} {id : Nat} {l : List Oper} (s : Sch2) (hm : P.follows .mixedOrders = true) (hk : allKnown l = true) (hc : sch2OK l.toArray l.length (Array.replicate l.length false) s = true)
    (h : @sch2I P s st ⟨l⟩ N) : @awpI P (.region id l.toArray true) st N X R := by
  refine ⟨hm, ?_⟩
  have := anyA_of_sch2 (P := P) (K := N.f) (ops := l.toArray) (fun i o ho => ?_) s l.length _ st hc h
  · simpa using this
  · simp only [allKnown, List.all_eq_true, Bool.or_eq_true] at hk
    refine hk o (List.mem_of_getElem? (i := i) ?_)
    simpa using ho

section
variable {P : Program} {st : St} {all : KL} {K : KN} {i j : Nat} {s s' : Sch2}
theorem keptI_nil {id : Nat} {q : KP} : @keptI id st [] q = q.f := by simp [keptI, keptP]
theorem keptI_cons {id m : Nat} {l : List Nat} {q : KP} : @keptI id st (m :: l) q = @reqI (killO id (st.H m) = st.H m) ⟨@keptI id st l q⟩ := by simp [keptI, keptP, reqI, and_assoc]
theorem calI_nil {I : List Nat} {q : KP} : @calI I st [] all q = q.f := by simp [calI, calP]
theorem calI_cons {I : List Nat} {c : Nat} {cs : List Nat} {q : KP} : @calI I st (c :: cs) all q =
    @bindI _ (all.l[c]?) ⟨fun o => @tameI o st I ⟨@calI I st cs all q⟩⟩ := by
  apply propext
  simp only [bindI, bindP_eq, tameI, calI, calP, List.getElem?_toArray]
  constructor
  · rintro ⟨⟨⟨o, h1, h2⟩, h5⟩, h6⟩; exact ⟨o, h1, h2, h5, h6⟩
  · rintro ⟨o, h1, h2, h5, h6⟩; exact ⟨⟨⟨o, h1, h2⟩, h5⟩, h6⟩
section
variable {I : List Nat} {q : KP} {dst : Option Tmp} {ty : TypeId} {pos : String} {af : Array Edge} {g : Option (Nat × Bool)}
theorem tameI_store {t : TypeId} {x v : Operand} : @tameI ⟨dst, .store t x v, ty, pos, af, g⟩ st I q = @offI I (st.ev x) q := (rfl)
theorem offI_adr {id i o : Nat} : @offI I (.adr id i o) q = @reqI ((I.all fun m => !(m == id)) = true) q := (rfl)
theorem offI_ptr {d : D} : @offI I (.ptr d) q = q.f := by simp [offI, offD]
theorem offI_any : @offI I .any q = q.f := by simp [offI, offD]
theorem offI_v {x : Value} : @offI I (.v x) q = q.f := by simp [offI, offD]
theorem tameI_plain {o : Oper} (h : plain o st = true ∧ (I.all fun m => !(m == dstOf o.dst)) = true ∧ keptP (dstOf o.dst) st I → tameQ o st I) (h' : tameQ o st I → plain o st = true ∧ (I.all fun m => !(m == dstOf o.dst)) = true ∧ keptP (dstOf o.dst) st I) : @tameI o st I q = @reqI (plain o st = true) ⟨@reqI ((I.all fun m => !(m == dstOf o.dst)) = true) ⟨@keptI (dstOf o.dst) st I q⟩⟩ := by
  apply propext
  simp only [tameI, reqI, keptI]
  constructor
  · rintro ⟨h1, h2⟩; obtain ⟨a, b, c⟩ := h' h1; exact ⟨a, b, c, h2⟩
  · rintro ⟨a, b, c, h2⟩; exact ⟨h ⟨a, b, c⟩, h2⟩
theorem tameI_call {c : Call} : @tameI ⟨dst, .call c, ty, pos, af, g⟩ st I q = @reqI (plain ⟨dst, .call c, ty, pos, af, g⟩ st = true) ⟨@reqI ((I.all fun m => !(m == dstOf dst)) = true) ⟨@keptI (dstOf dst) st I q⟩⟩ := tameI_plain (fun h => h) (fun h => h)
theorem tameI_alloc {t : TypeId} : @tameI ⟨dst, .alloc t, ty, pos, af, g⟩ st I q = @reqI (plain ⟨dst, .alloc t, ty, pos, af, g⟩ st = true) ⟨@reqI ((I.all fun m => !(m == dstOf dst)) = true) ⟨@keptI (dstOf dst) st I q⟩⟩ := tameI_plain (fun h => h) (fun h => h)
theorem tameI_box {t : TypeId} {x : Operand} : @tameI ⟨dst, .box t x, ty, pos, af, g⟩ st I q = @reqI (plain ⟨dst, .box t x, ty, pos, af, g⟩ st = true) ⟨@reqI ((I.all fun m => !(m == dstOf dst)) = true) ⟨@keptI (dstOf dst) st I q⟩⟩ := tameI_plain (fun h => h) (fun h => h)
theorem tameI_makeSlice {t : TypeId} {x y : Operand} : @tameI ⟨dst, .makeSlice t x y, ty, pos, af, g⟩ st I q = @reqI (plain ⟨dst, .makeSlice t x y, ty, pos, af, g⟩ st = true) ⟨@reqI ((I.all fun m => !(m == dstOf dst)) = true) ⟨@keptI (dstOf dst) st I q⟩⟩ := tameI_plain (fun h => h) (fun h => h)
end
theorem sch2I_done : @sch2I P .done st all K = K.f st := (rfl)
theorem sch2I_one : @sch2I P (.one false i s) st all K = @bindI _ (all.l[i]?) ⟨fun o => @reqI (qok o st.ev = true) ⟨@op1I P o st all ⟨fun s' => @sch2I P s s' all K⟩⟩⟩ := by
  apply propext
  simp only [bindI, bindP_eq, reqI, sch2I, sch2K, ← opA_ops, Bool.false_eq_true, false_implies, true_and, List.getElem?_toArray]
theorem sch2I_rob : @sch2I P (.one true i s) st all K = @bindI _ (all.l[i]?) ⟨fun o => @reqI (qok o st.ev = true) ⟨@reqI (plain o st = true) ⟨@op1I P o st all ⟨fun s' => @reqI (robDst o s' = true) ⟨@sch2I P s s' all K⟩⟩⟩⟩⟩ := by
  apply propext
  simp only [bindI, bindP_eq, reqI, sch2I, sch2K, ← opA_ops, true_implies, List.getElem?_toArray]
theorem sch2I_cal {cs : List Nat} : @sch2I P (.cal i cs s) st all K = @bindI _ (all.l[i]?) ⟨fun o => @reqI (qok o st.ev = true) ⟨@op1I P o st all ⟨fun s' => @calI (D.idss (o.op.operands.toList.map st.ev) ++ dstIds o s') st cs all ⟨@sch2I P s s' all K⟩⟩⟩⟩ := by
  apply propext
  simp only [bindI, bindP_eq, reqI, sch2I, sch2K, calI, ← opA_ops, List.getElem?_toArray]
theorem famI_nil {X : List Nat} {q : KP} : @famI X st [] q = q.f := by simp [famI, famP]
theorem famI_cons {X : List Nat} {k : Nat} {ks : List Nat} {q : KP} : @famI X st (k :: ks) q = @reqI (((st.t k).ids.all fun m => X.any fun x => x == m) = true) ⟨@famI X st ks q⟩ := by
  simp [famI, famP, reqI, and_assoc]
theorem keptXI_nil {X : List Nat} {q : KP} : @keptXI X st [] q = q.f := by simp [keptXI, keptX]
theorem keptXI_cons {X : List Nat} {m : Nat} {l : List Nat} {q : KP} : @keptXI X st (m :: l) q = @reqI ((X.any fun x => x == m) = false ∧ offB X (st.H m) = true) ⟨@keptXI X st l q⟩ := by
  simp [keptXI, keptX, reqI, and_assoc]
theorem sch2I_fam {cs X ks : List Nat} : @sch2I P (.fam i cs X ks s) st all K = @bindI _ (all.l[i]?) ⟨fun o => @reqI (qok o st.ev = true) ⟨@famI X st ks
    ⟨@op1I P o st all ⟨fun s' => @keptXI X st (D.idss (o.op.operands.toList.map st.ev) ++ dstIds o s') ⟨@sch2I P s s' all K⟩⟩⟩⟩⟩ := by
  apply propext
  simp only [bindI, bindP_eq, reqI, sch2I, sch2K, famI, keptXI, ← opA_ops, List.getElem?_toArray]
theorem sch2I_only : @sch2I P (.only i s) st all K = @bindI _ (all.l[i]?) ⟨fun o => @op1I P o st all ⟨fun s' => @sch2I P s s' all K⟩⟩ := by
  apply propext
  simp only [bindI, bindP_eq, sch2I, sch2K, ← opA_ops, List.getElem?_toArray]
theorem sch2I_mv : @sch2I P (.mv i s) st all K = @bindI _ (all.l[i]?) ⟨fun o => @op1I P o st all ⟨fun s' => @sch2I P s s' all K⟩⟩ := by
  apply propext
  simp only [bindI, bindP_eq, sch2I, sch2K, ← opA_ops, List.getElem?_toArray]
theorem sch2I_two (h1 : @bindI _ (all.l[i]?) ⟨fun o => @op1I P o st all ⟨fun t => @sch2I P s t all K⟩⟩) (h2 : @bindI _ (all.l[j]?) ⟨fun o => @op1I P o st all ⟨fun t => @sch2I P s' t all K⟩⟩) : @sch2I P (.two i j s s') st all K := by
  simp only [bindI, bindP_eq, ← opA_ops] at h1 h2
  simp only [sch2I, sch2K, List.getElem?_toArray]
  exact ⟨h1, h2⟩
end
theorem dstIds_some {k : Nat} {op : Op} {ty : TypeId} {pos : String} {af : Array Edge} {g : Option (Nat × Bool)} {s : St} : dstIds ⟨some k, op, ty, pos, af, g⟩ s = (s.t k).ids := (rfl)
set_option linter.defProp false in
theorem offB_none {X : List Nat} : offB X none = true := (rfl)
theorem offB_some {X : List Nat} {e : TypeId} {S : Nat} {l : List D} : offB X (some ⟨e, S, l⟩) = (D.idss l).all fun m => !(X.any fun x => x == m) := (rfl)
set_option linter.defProp false in
def rules3 := And.intro (And.intro (And.intro @famI_nil @famI_cons) (And.intro @keptXI_nil @keptXI_cons)) (And.intro @sch2I_fam (And.intro @offB_none @offB_some))
set_option linter.defProp false in
def rules4 := And.intro @sch2I_mv <| And.intro (And.intro (And.intro @tameI_store @offI_adr) (And.intro @offI_ptr @offI_any)) (And.intro (And.intro @offI_v @tameI_call) (And.intro @tameI_alloc (And.intro @tameI_box @tameI_makeSlice)))
set_option linter.defProp false in
def rules2 := And.intro (And.intro (And.intro @keptI_nil @keptI_cons) (And.intro @calI_nil @calI_cons)) (And.intro (And.intro @sch2I_done @sch2I_one) (And.intro (And.intro @sch2I_rob @sch2I_cal) (And.intro @sch2I_only (And.intro @dstIds_some (And.intro @killO_none @killO_some)))))
attribute [go_sem] rules2 rules3 rules4
end Go.VL

end
section
/- Lists of values that name nothing owned. -/
namespace Go.VL
open Go Go.RowKit
def gl {α : Type} (f : α → D) (l : List α) : List D := l.map f
class PlainD {α : Type} (f : α → D) (S : outParam Nat) : Prop where
  width : ∀ a, (f a).width = S
  stor : ∀ a, (f a).storable = true
  noRef : ∀ a, (f a).noRef = true
  nrm : ∀ a, (f a).nrm = f a
section
variable {α : Type} {f : α → D} {S : Nat} {l m : List α} {n id : Nat} {x : α}
theorem gl_length : (gl f l).length = l.length := by simp [gl]
theorem gl_append : gl f l ++ gl f m = gl f (l ++ m) := by simp [gl]
theorem gl_take : (gl f l).take n = gl f (l.take n) := by simp [gl]
theorem gl_drop : (gl f l).drop n = gl f (l.drop n) := by simp [gl]
theorem gl_ok [h : PlainD f S] : (∀ d ∈ gl f l, d.width = S ∧ d.storable = true) = True := by
  refine eq_true fun d hd => ?_
  obtain ⟨a, _, rfl⟩ := List.mem_map.1 hd
  exact ⟨h.width a, h.stor a⟩
theorem gl_noRefs [h : PlainD f S] : D.noRefs (gl f l) = true := by
  rw [D.noRefs_eq, List.all_eq_true]
  intro d hd
  obtain ⟨a, _, rfl⟩ := List.mem_map.1 hd
  exact h.noRef a
theorem gl_kills [h : PlainD f S] : D.kills id (gl f l) = gl f l := D.noRef_kills _ gl_noRefs id
theorem gl_frzs [h : PlainD f S] {els : List D} : D.frzs id els (gl f l) = gl f l := D.noRef_frzs _ gl_noRefs id els
theorem gl_nrms [h : PlainD f S] : D.nrms (gl f l) = gl f l := by
  rw [D.nrms_eq]
  unfold gl
  rw [List.map_map]
  exact List.map_congr_left fun a _ => h.nrm a
theorem gl_idss [h : PlainD f S] : D.idss (gl f l) = [] := D.noRefs_ids _ gl_noRefs
theorem gl_width [h : PlainD f S] : (gl f l).all (fun d => d.width == S) = true := by
  rw [List.all_eq_true]
  intro d hd
  obtain ⟨a, _, rfl⟩ := List.mem_map.1 hd
  simp [h.width a]
end
attribute [go_sem] gl_length gl_append gl_take gl_drop gl_ok gl_noRefs gl_kills gl_frzs gl_nrms gl_idss gl_width

/-- A map of numbers. -/
def kvI (k k2 : IntKind) (l : List (Int × Int)) : List D := kvD k (l.map fun p => (p.1, .v (.int k2 p.2)))
section
variable {k k2 : IntKind} {l : List (Int × Int)} {id : Nat}
theorem kvI_of : kvOf k (kvI k k2 l) = some (l.map fun p => (p.1, .v (.int k2 p.2))) := kvOf_kvD _
theorem kvOf_nil : kvOf k [] = some [] := (rfl)
theorem kvI_length : (kvI k k2 l).length = l.length := by simp [kvI, kvD]
theorem kvI_noRefs : D.noRefs (kvI k k2 l) = true := by
  rw [D.noRefs_eq, List.all_eq_true]
  intro d hd
  simp only [kvI, kvD, List.map_map, List.mem_map] at hd
  obtain ⟨p, _, rfl⟩ := hd
  rfl
theorem kvI_kills : D.kills id (kvI k k2 l) = kvI k k2 l := D.noRef_kill id kvI_noRefs
theorem kvI_frzs {els : List D} : D.frzs id els (kvI k k2 l) = kvI k k2 l := D.noRef_frzs _ kvI_noRefs id els
def lookN (a : Int) : List (Int × Int) → Option Int
  | [] => none
  | (b, d) :: r => if a = b then some d else lookN a r
def setN (a d : Int) : List (Int × Int) → List (Int × Int)
  | [] => [(a, d)]
  | (b, e) :: r => if a = b then (a, d) :: r else (b, e) :: setN a d r
theorem kvFind_I (a : Int) : ∀ l : List (Int × Int), kvFind a (l.map fun p => (p.1, D.v (.int k2 p.2))) = (lookN a l).map fun x => .v (.int k2 x)
  | [] => rfl
  | (b, d) :: r => by
    simp only [List.map_cons, kvFind, lookN]
    split
    · rfl
    · exact kvFind_I a r
theorem kvSet_I (a x : Int) : ∀ l : List (Int × Int), kvD k (kvSet a (.v (.int k2 x)) (l.map fun p => (p.1, D.v (.int k2 p.2)))) = kvI k k2 (setN a x l)
  | [] => rfl
  | (b, d) :: r => by
    have := kvSet_I a x r
    simp only [List.map_cons, kvSet, setN]
    split
    · rfl
    · simp only [kvD, kvI, List.map_cons] at this ⊢
      rw [this]
end
attribute [go_sem] kvI_of kvOf_nil kvI_length kvI_noRefs kvI_kills kvI_frzs kvFind_I kvSet_I
end Go.VL

end
section
/- What Lean reckons by itself, among the rules of the walk. -/
attribute [go_sem_proc] Nat.reduceEqDiff Nat.reduceAdd Nat.reduceLT Nat.reduceMul Nat.reduceSub reduceCtorEq Nat.reduceLeDiff Nat.reduceBEq Int.reduceBEq Int.reduceBNe Int.reduceLT Int.reduceLE Int.reduceToNat Int.reduceGT Int.reduceGE Int.reduceEq Int.reducePow Nat.reducePow
attribute [go_sem_proc ↓] reduceIte

end
section
/- A range over a map that is owned. -/
namespace Go.VL
open Go Go.RowKit Go.ChangeMaps
attribute [go_sem] opLenI_mp
theorem cuts_range {t : TypeId} {x : Operand} : cutsLo (.range t x) = false := (rfl)
theorem cuts_next {x : Operand} {b : Bool} : cutsLo (.next x b) = false := (rfl)
theorem cuts_entry {x : Operand} : cutsLo (.entry x) = false := (rfl)
attribute [go_sem] cuts_range cuts_next cuts_entry

/-- An iterator over a map of numbers: what came last, and what is still to come. -/
def iterO (t : TypeId) (k : IntKind) (cur : D) (l : List (Int × D)) : Own := ⟨t, 0, .v (.bool true) :: cur :: kvD k l⟩

/-- What an iterator is, taken apart. -/
theorem ObjAt.iter {ρ : Nat → Loc} {J : Nat → Prop} {w : World} {id : Nat} {t : TypeId} {k : IntKind} {cur : D} {l : List (Int × D)} (h : ObjAt ρ J w id (iterO t k cur l)) : (ρ id).S = 0 ∧ (ρ id).cap = 1 ∧ l.length + 2 ≤ capMax ∧
    ∃ r m since seen last es clock cv, (ρ id).a = some ⟨r, 0, none⟩ ∧ ¬ J r ∧ w.heap[r]? = some (.mapIter (some m) since seen last) ∧ J m ∧ w.heap[m]? = some (.map es clock) ∧ (es.toList.map (·.born)).Nodup ∧ (∀ x ∈ es.toList, x.born < since) ∧ since ≤ last ∧
      (cv = .tuple #[] ∨ ∃ (seen0 : Array Nat) (e : MapEntry), seen = seen0.push e.born ∧ last = clock ∧ e ∈ es.toList ∧ cv = pairV e) ∧ since ≤ clock ∧ RelD ρ J w cur cv ∧ RelDs ρ J w (kvD k l) ((leftOf es seen).toList.map pairV) := by
  rcases h with h | ⟨h1, h2, h3, h4, vs, h5, g, ob, h6, h7, h8, h9⟩
  · exact absurd h.2.1 (by simp [iterO])
  · obtain ⟨x, xs, rfl, hx, y, ys, rfl, hy, hl⟩ := h5
    unfold KindAt at h9
    split at h9
    · rename_i es clock
      obtain ⟨_, e⟩ := h9
      cases hes : es.toList with
      | nil => rw [hes] at e; cases e
      | cons en r => rw [hes, List.map_cons] at e; have := (List.cons.inj e).1; rw [hx.1] at this; cases this
    · obtain ⟨j1, es, clock, cv, j2, j3, j4, j5, j6, j7, e⟩ := h9
      obtain ⟨_, e⟩ := List.cons.inj e
      obtain ⟨rfl, rfl⟩ := List.cons.inj e
      exact ⟨h1, h3, by simpa [iterO, kvD] using h4, g, _, _, _, _, es, clock, _, h6, h7, h8, j1, j2, j3, j4, j5, j6, j7, hy, hl⟩
    · exact h9.elim

section
variable {P : Program} {dst : Option Tmp} {ty : TypeId} {pos : String} {af : Array Edge} {g : Option (Nat × Bool)} {st : St} {K : KSD}
end
end Go.VL

end
section
/- A key taken out of a map that is owned. -/
namespace Go.VL
open Go Go.RowKit
def kvDel (a : Int) : List (Int × D) → List (Int × D)
  | [] => []
  | (b, e) :: r => if a = b then r else (b, e) :: kvDel a r
section
variable {k k2 : IntKind}
def delN (a : Int) : List (Int × Int) → List (Int × Int)
  | [] => []
  | (b, e) :: r => if a = b then r else (b, e) :: delN a r
theorem kvDel_I (a : Int) : ∀ l : List (Int × Int), kvD k (kvDel a (l.map fun p => (p.1, D.v (.int k2 p.2)))) = kvI k k2 (delN a l)
  | [] => rfl
  | (b, e) :: r => by
    have := kvDel_I a r
    simp only [List.map_cons, kvDel, delN]
    by_cases h : a = b
    · rw [if_pos h, if_pos h]; rfl
    · rw [if_neg h, if_neg h]
      simp only [kvI, kvD, List.map_cons] at this ⊢
      rw [this]
attribute [go_sem] kvDel_I
end
end Go.VL

end
section
/- Many lists that are owned, within one that is. -/
namespace Go.VL
open Go Go.RowKit
/-- What is one value reads as another, where the places from one on hold nothing. -/
def ToN (base n S : Nat) (d d' : D) : Prop := ∀ (ρ ρ' : Nat → Loc) (J : Nat → Prop) (w : World) (y : Value), (∀ m, ¬ (base ≤ m ∧ m < base + n) → ρ' m = ρ m) → (∀ m, base ≤ m → m < base + n → ρ' m = ⟨none, 0, S⟩) → RelD ρ J w d y → RelD ρ' J w d' y
def ToNs (base n S : Nat) : List D → List D → Prop
  | [], [] => True
  | d :: l, d' :: l' => ToN base n S d d' ∧ ToNs base n S l l'
  | _, _ => False
theorem ToN.any {base n S : Nat} {d : D} : ToN base n S d .any := fun _ _ _ _ _ _ _ _ => trivial
theorem ToN.plain {base n S : Nat} {d : D} (h : d.noRef = true) : ToN base n S d d := fun _ _ _ _ _ _ _ hy => RelP.toD (hy.toP h)
theorem ToN.nil {base n S i : Nat} (h : i < n) : ToN base n S (.v (.slice none 0 0)) (.ref (base + i) 0) := fun ρ ρ' J w y _ h2 hy => by
  show y = .slice (ρ' (base + i)).a 0 (ρ' (base + i)).cap
  rw [h2 _ (by omega) (by omega)]
  exact hy.1
theorem ToN.ref {base n S id k : Nat} (h : ¬ (base ≤ id ∧ id < base + n)) : ToN base n S (.ref id k) (.ref id k) := fun ρ ρ' J w y h1 _ hy => by
  have hy : y = .slice (ρ id).a k (ρ id).cap := hy
  show y = .slice (ρ' id).a k (ρ' id).cap
  rw [h1 id h]; exact hy
theorem ToN.adr {base n S id i o : Nat} (h : ¬ (base ≤ id ∧ id < base + n)) : ToN base n S (.adr id i o) (.adr id i o) := fun ρ ρ' J w y h1 _ hy => by
  have hy : ∃ g, (ρ id).a = some ⟨g, 0, none⟩ ∧ y = .pointer (some ⟨g, i * (ρ id).S + o, none⟩) := hy
  show ∃ g, (ρ' id).a = some ⟨g, 0, none⟩ ∧ y = .pointer (some ⟨g, i * (ρ' id).S + o, none⟩)
  rw [h1 id h]; exact hy
theorem ToNs.plain {base n S : Nat} : ∀ {l : List D}, D.noRefs l = true → ToNs base n S l l
  | [], _ => trivial
  | d :: l, h => by
    simp only [D.noRefs, Bool.and_eq_true] at h
    exact ⟨ToN.plain h.1, ToNs.plain h.2⟩
theorem ToNs.range {base n S : Nat} {f g : Nat → D} : ∀ {l : List Nat}, (∀ i ∈ l, ToN base n S (f i) (g i)) → ToNs base n S (l.map f) (l.map g)
  | [], _ => trivial
  | i :: l, h => ⟨h i (by simp), ToNs.range fun j hj => h j (by simp [hj])⟩
theorem ToNs.rel {base n S : Nat} {ρ ρ' : Nat → Loc} {J : Nat → Prop} {w : World} (h1 : ∀ m, ¬ (base ≤ m ∧ m < base + n) → ρ' m = ρ m) (h2 : ∀ m, base ≤ m → m < base + n → ρ' m = ⟨none, 0, S⟩) :
    ∀ {l l' : List D} {vs : List Value}, ToNs base n S l l' → RelDs ρ J w l vs → RelDs ρ' J w l' vs
  | [], [], _, _, h => h
  | d :: l, d' :: l', vs, ht, h => by
    obtain ⟨x, xs, e, hx, hxs⟩ := h
    exact ⟨x, xs, e, ht.1 ρ ρ' J w x h1 h2 hx, ToNs.rel h1 h2 ht.2 hxs⟩
  | [], _ :: _, _, h, _ => h.elim
  | _ :: _, [], _, h, _ => h.elim
theorem ToNs.length {base n S : Nat} : ∀ {l l' : List D}, ToNs base n S l l' → l'.length = l.length
  | [], [], _ => rfl
  | d :: l, d' :: l', h => by rw [List.length_cons, List.length_cons, ToNs.length h.2]
  | [], _ :: _, h => h.elim
  | _ :: _, [], h => h.elim
/-- What is nil, in many places, are lists with nothing in them. -/
theorem Weak.adopts {st st' : St} (base n S : Nat) (e : TypeId) (hS : 0 < S) (hn : st'.n = st.n) (ht : ∀ k, ToN base n S (st.t k) (st'.t k))
    (hH : ∀ m o', st'.H m = some o' → (base ≤ m ∧ m < base + n ∧ o' = ⟨e, S, []⟩) ∨ (¬ (base ≤ m ∧ m < base + n) ∧ ∃ o, st.H m = some o ∧ o'.e = o.e ∧ o'.S = o.S ∧ ToNs base n S o.els o'.els)) : Weak st st' := by
  intro J0 ρ J B w0 a w hs
  let ρ' : Nat → Loc := fun m => if base ≤ m ∧ m < base + n then ⟨none, 0, S⟩ else ρ m
  have h1 : ∀ m, ¬ (base ≤ m ∧ m < base + n) → ρ' m = ρ m := fun m hm => if_neg hm
  have h2 : ∀ m, base ≤ m → m < base + n → ρ' m = ⟨none, 0, S⟩ := fun m a b => if_pos ⟨a, b⟩
  refine ⟨ρ', J, { old := hs.old, own := fun id o g ho hc ha => ?_, lt := hs.lt, slots := fun k => ht k ρ ρ' J w _ h1 h2 (hs.slots k), objs := fun id o ho => ?_, apart := fun i j oi oj hi hj hne hci hcj => ?_, size := hs.size.trans hn.symm, defers := hs.defers, below := hs.below, base := hs.base, glob := hs.glob }⟩
  · rcases hH id o ho with ⟨q1, q2, _⟩ | ⟨q, o2, q2, _⟩
    · rw [h2 id q1 q2] at hc; exact absurd hc (Nat.lt_irrefl 0)
    · rw [h1 id q] at hc ha
      exact hs.own id o2 g q2 hc ha
  · rcases hH id o ho with ⟨q1, q2, rfl⟩ | ⟨q, o2, q2, q3, q4, q5⟩
    · refine .inl ⟨by rw [h2 id q1 q2], hS, by simp, by rw [h2 id q1 q2]; simp [maxLen], by simp, [], rfl, by simp, .inl ⟨by rw [h2 id q1 q2], rfl⟩⟩
    · exact (hs.objs id o2 q2).frame (h1 id q) q3 q4 q5.length (fun _ h => h) (fun _ _ => rfl) (fun vs hv => q5.rel h1 h2 hv) fun g _ _ hJ _ => ⟨hJ, rfl⟩
  · rcases hH i oi hi with ⟨q1, q2, _⟩ | ⟨q, o2, q2, _⟩
    · rw [h2 i q1 q2] at hci; exact absurd hci (Nat.lt_irrefl 0)
    · rcases hH j oj hj with ⟨p1, p2, _⟩ | ⟨p, o3, p2, _⟩
      · rw [h2 j p1 p2] at hcj; exact absurd hcj (Nat.lt_irrefl 0)
      · rw [h1 i q] at hci ⊢
        rw [h1 j p] at hcj ⊢
        exact hs.apart i j o2 o3 q2 p2 hne hci hcj
/-- What is not looked at any more. -/
theorem Weak.drop {st st' : St} (hn : st'.n = st.n) (ht : ∀ k, st'.t k = st.t k ∨ st'.t k = .any) (hH : ∀ m o, st'.H m = some o → st.H m = some o) : Weak st st' := by
  intro J0 ρ J B w0 a w hs
  refine ⟨ρ, J, { old := hs.old, own := fun id o g ho => hs.own id o g (hH id o ho), lt := hs.lt, slots := fun k => ?_, objs := fun id o ho => hs.objs id o (hH id o ho), apart := fun i j oi oj hi hj => hs.apart i j oi oj (hH i oi hi) (hH j oj hj), size := hs.size.trans hn.symm, defers := hs.defers, below := hs.below, base := hs.base, glob := hs.glob }⟩
  rcases ht k with q | q
  · rw [q]; exact hs.slots k
  · rw [q]; trivial
/-- Many lists that are given up at once. -/
theorem Weak.freezes {base n ob S So : Nat} {e eo : TypeId} (f : Nat → List D) (g : Nat → Nat) (t : Nat → D) (H0 : Nat → Option Own) (nn : Nat) (hb : ob < base ∨ base + n ≤ ob)
    (hf : ∀ i, i < n → D.noRefs (f i) = true ∧ D.nrms (f i) = f i ∧ (f i).all (fun d => d.width == S) = true ∧ (f i).length = g i)
    (ht : ∀ k i els, i < n → (t k).frz (base + i) els = t k) (hH0 : ∀ id o i els, i < n → H0 id = some o → D.frzs (base + i) els o.els = o.els) :
    ∀ m, m ≤ n → Weak ⟨t, fun id => if id = ob then some ⟨eo, So, (List.range n).map fun i => .ref (base + i) (g i)⟩ else if base ≤ id ∧ id < base + n then some ⟨e, S, f (id - base)⟩ else H0 id, nn⟩
      ⟨t, fun id => if id = ob then some ⟨eo, So, (List.range n).map fun i => if i < m then .lst (f i) else .ref (base + i) (g i)⟩ else if base + m ≤ id ∧ id < base + n then some ⟨e, S, f (id - base)⟩ else if base ≤ id ∧ id < base + n then none else H0 id, nn⟩
  | 0, _ => by
    refine Weak.drop rfl (fun k => .inl rfl) fun id o ho => ?_
    have e : ((List.range n).map fun i => if i < 0 then D.lst (f i) else .ref (base + i) (g i)) = (List.range n).map fun i => .ref (base + i) (g i) := List.map_congr_left fun i _ => if_neg (Nat.not_lt_zero _)
    simp only at ho ⊢
    rw [e] at ho
    by_cases h1 : id = ob
    · rw [if_pos h1] at ho ⊢; exact ho
    · rw [if_neg h1] at ho ⊢
      by_cases h2 : base ≤ id ∧ id < base + n
      · rw [if_pos (by omega)] at ho; rw [if_pos h2]; exact ho
      · rw [if_neg (by omega), if_neg h2] at ho; rw [if_neg h2]; exact ho
  | m + 1, hm => by
    refine Weak.trans (Weak.freezes f g t H0 nn hb hf ht hH0 m (by omega)) ?_
    obtain ⟨f1, f2, f3, f4⟩ := hf m (by omega)
    have hid : (base + m = ob) = False := eq_false (by omega)
    refine Weak.trans (Weak.freeze (id := base + m) (o := ⟨e, S, f m⟩) ?_ f1 f3) (Weak.drop rfl (fun k => .inl ?_) fun id o ho => ?_)
    · simp only
      rw [if_neg (by omega), if_pos (by omega), show base + m - base = m by omega]
    · simp only [St.frozen]
      exact (ht k m _ (by omega)).symm
    · simp only [St.frozen] at ho ⊢
      rw [f2]
      by_cases h1 : id = ob
      · rw [if_pos h1] at ho
        rw [if_neg (by omega), if_pos h1]
        cases ho
        simp only [Option.map_some]
        congr 2
        rw [D.frzs_eq, List.map_map]
        refine List.map_congr_left fun i hi => ?_
        simp only [Function.comp]
        by_cases q : i < m
        · rw [if_pos q, if_pos (by omega)]; rfl
        · rw [if_neg q]
          by_cases q2 : i = m
          · subst q2
            rw [if_pos (by omega), D.frz, if_pos rfl, if_pos (by omega), ← f4, List.take_length]
          · rw [if_neg (by omega), D.frz, if_neg (by omega)]
      · rw [if_neg h1] at ho
        by_cases h2 : base + (m + 1) ≤ id ∧ id < base + n
        · rw [if_pos h2] at ho
          rw [if_neg (by omega), if_neg h1, if_pos (by omega)]
          cases ho
          have := hf (id - base) (by omega)
          simp only [Option.map_some]
          rw [D.noRef_frzs _ this.1]
        · rw [if_neg h2] at ho
          by_cases h3 : base ≤ id ∧ id < base + n
          · rw [if_pos h3] at ho; cases ho
          · rw [if_neg h3] at ho
            rw [if_neg (by omega), if_neg h1, if_neg (by omega), if_neg h3, ho]
            simp only [Option.map_some]
            rw [hH0 id o m _ (by omega) ho]
theorem Heaps_range {s : St} {base : Nat} {f : Nat → Own} : ∀ {l : List Nat}, Heaps s (l.map fun i => (base + i, f i)) ↔ ∀ i ∈ l, s.H (base + i) = some (f i)
  | [] => by simp [Heaps]
  | i :: l => by
    have := Heaps_range (s := s) (base := base) (f := f) (l := l)
    simp only [List.map_cons, Heaps_cons, List.mem_cons, forall_eq_or_imp, this]
def pickT : List (Nat × D) → Nat → D
  | [], _ => .any
  | p :: l, k => if k = p.1 then p.2 else pickT l k
def pickH : List (Nat × Own) → Nat → Option Own
  | [], _ => none
  | p :: l, k => if k = p.1 then some p.2 else pickH l k
theorem pickT_cons {j k : Nat} {d : D} {l : List (Nat × D)} : pickT ((j, d) :: l) k = if k = j then d else pickT l k := (rfl)
theorem pickT_nil {k : Nat} : pickT [] k = .any := (rfl)
theorem pickH_cons {j k : Nat} {o : Own} {l : List (Nat × Own)} : pickH ((j, o) :: l) k = if k = j then some o else pickH l k := (rfl)
theorem pickH_nil {k : Nat} : pickH [] k = none := (rfl)
attribute [go_sem] pickT_cons pickT_nil pickH_cons pickH_nil
mutual
/-- A value that names nothing from a place on. -/
def okTo (base : Nat) : D → Bool
  | .ref id _ => decide (id < base)
  | .adr id _ _ => decide (id < base)
  | .agg l => okTos base l
  | .any => true
  | .v _ => true
  | .nil0 => true
  | .lst _ => true
  | .ptr _ => true
  | _ => false
def okTos (base : Nat) : List D → Bool
  | [] => true
  | d :: l => okTo base d && okTos base l
end
mutual
theorem okTo.to {base n S : Nat} : ∀ {d : D}, okTo base d = true → ToN base n S d d
  | .ref id k, h => ToN.ref (by have := of_decide_eq_true h; omega)
  | .adr id _ _, h => ToN.adr (by have := of_decide_eq_true h; omega)
  | .agg l, h => fun ρ ρ' J w y h1 h2 hy => by
    obtain ⟨vs, q1, q2, q3⟩ := hy
    exact ⟨vs, q1, ToNs.rel h1 h2 (okTos.to (l := l) h) q2, q3⟩
  | .any, _ => ToN.any
  | .v _, _ => ToN.plain rfl
  | .nil0, _ => ToN.plain rfl
  | .lst _, _ => ToN.plain rfl
  | .ptr _, _ => ToN.plain rfl
  | .tup _, h => by cases h
  | .clos _ _, h => by cases h
  | .sub _ _ _, h => by cases h
  | .loc _ _, h => by cases h
  | .mp _, h => by cases h
theorem okTos.to {base n S : Nat} : ∀ {l : List D}, okTos base l = true → ToNs base n S l l
  | [], _ => trivial
  | d :: l, h => by
    simp only [okTos, Bool.and_eq_true] at h
    exact ⟨okTo.to h.1, okTos.to h.2⟩
end
mutual
theorem okTo.frz {base i : Nat} {els : List D} : ∀ {d : D}, okTo base d = true → d.frz (base + i) els = d
  | .ref id k, h => by rw [D.frz, if_neg (by have := of_decide_eq_true h; omega)]
  | .adr id _ _, h => by rw [D.frz, if_neg (by have := of_decide_eq_true h; omega)]
  | .agg l, h => by rw [D.frz, okTos.frz (l := l) h]
  | .any, _ => rfl
  | .v _, _ => rfl
  | .nil0, _ => rfl
  | .lst _, _ => rfl
  | .ptr _, _ => rfl
  | .tup _, h => by cases h
  | .clos _ _, h => by cases h
  | .sub _ _ _, h => by cases h
  | .loc _ _, h => by cases h
  | .mp _, h => by cases h
theorem okTos.frz {base i : Nat} {els : List D} : ∀ {l : List D}, okTos base l = true → D.frzs (base + i) els l = l
  | [], _ => rfl
  | d :: l, h => by
    simp only [okTos, Bool.and_eq_true] at h
    rw [D.frzs, okTo.frz h.1, okTos.frz h.2]
end
theorem pickT_of {st : St} {base k : Nat} : ∀ {l : List (Nat × D)}, Slots st l → l.all (fun p => okTo base p.2) = true → pickT l k = .any ∨ (pickT l k = st.t k ∧ okTo base (st.t k) = true)
  | [], _, _ => .inl rfl
  | p :: l, h, hok => by
    rw [List.all_cons, Bool.and_eq_true] at hok
    unfold pickT
    by_cases q : k = p.1
    · rw [if_pos q, q, h.1]; exact .inr ⟨rfl, hok.1⟩
    · rw [if_neg q]; exact pickT_of h.2 hok.2
theorem pickH_of {st : St} {base k : Nat} {o : Own} : ∀ {l : List (Nat × Own)}, Heaps st l → l.all (fun p => decide (p.1 < base) && okTos base p.2.els) = true → pickH l k = some o → k < base ∧ st.H k = some o ∧ okTos base o.els = true
  | [], _, _, h => by cases h
  | p :: l, h, hok, he => by
    rw [List.all_cons, Bool.and_eq_true, Bool.and_eq_true] at hok
    unfold pickH at he
    by_cases q : k = p.1
    · rw [if_pos q] at he; cases he
      exact ⟨by rw [q]; exact of_decide_eq_true hok.1.1, by rw [q]; exact h.1, hok.1.2⟩
    · rw [if_neg q] at he; exact pickH_of h.2 hok.2 he
/-- The nil lists of a list become lists with nothing in them. -/
theorem Weak.adopts1 {st : St} {ob base n S So : Nat} {e eo : TypeId} (l : List (Nat × D)) (lh : List (Nat × Own)) (hS : 0 < S) (hob : ob < base) (hl : Slots st l) (hok : l.all (fun p => okTo base p.2) = true)
    (hlh : Heaps st lh) (hlo : lh.all (fun p => decide (p.1 < base) && okTos base p.2.els) = true) (ho : st.H ob = some ⟨eo, So, List.replicate n (.v (.slice none 0 0))⟩) :
    Weak st ⟨pickT l, fun m => if m = ob then some ⟨eo, So, (List.range n).map fun i => .ref (base + i) 0⟩ else if base ≤ m ∧ m < base + n then some ⟨e, S, []⟩ else pickH lh m, st.n⟩ := by
  refine Weak.adopts base n S e hS rfl (fun k => ?_) fun m o' hm => ?_
  · rcases pickT_of (k := k) hl hok with q | ⟨q, q2⟩
    · show ToN _ _ _ _ (pickT l k); rw [q]; exact ToN.any
    · show ToN _ _ _ _ (pickT l k); rw [q]; exact okTo.to q2
  · simp only at hm
    by_cases h1 : m = ob
    · rw [if_pos h1] at hm; cases hm
      refine .inr ⟨by omega, ⟨eo, So, List.replicate n (.v (.slice none 0 0))⟩, by rw [h1]; exact ho, rfl, rfl, ?_⟩
      show ToNs base n S (List.replicate n (.v (.slice none 0 0))) _
      rw [show List.replicate n (D.v (.slice none 0 0)) = (List.range n).map fun _ => D.v (.slice none 0 0) by simp [List.map_const']]
      exact ToNs.range fun i hi => ToN.nil (List.mem_range.1 hi)
    · rw [if_neg h1] at hm
      by_cases h2 : base ≤ m ∧ m < base + n
      · rw [if_pos h2] at hm; cases hm
        exact .inl ⟨h2.1, h2.2, rfl⟩
      · rw [if_neg h2] at hm
        obtain ⟨q1, q2, q3⟩ := pickH_of hlh hlo hm
        exact .inr ⟨h2, o', q2, rfl, rfl, okTos.to q3⟩
/-- The lists of a list are given up at once. -/
theorem Weak.freezes1 {st : St} {ob base n S So : Nat} {e eo : TypeId} (f : Nat → List D) (g : Nat → Nat) (l : List (Nat × D)) (lh : List (Nat × Own)) (hob : ob < base) (hl : Slots st l) (hok : l.all (fun p => okTo base p.2) = true)
    (hlh : Heaps st lh) (hlo : lh.all (fun p => decide (p.1 < base) && okTos base p.2.els) = true) (ho : st.H ob = some ⟨eo, So, (List.range n).map fun i => .ref (base + i) (g i)⟩)
    (hc : ∀ i, i < n → st.H (base + i) = some ⟨e, S, f i⟩) (hf : ∀ i, i < n → D.noRefs (f i) = true ∧ D.nrms (f i) = f i ∧ (f i).all (fun d => d.width == S) = true ∧ (f i).length = g i) :
    Weak st ⟨pickT l, fun m => if m = ob then some ⟨eo, So, (List.range n).map fun i => .lst (f i)⟩ else pickH lh m, st.n⟩ := by
  have h1 : ∀ k i els, i < n → (pickT l k).frz (base + i) els = pickT l k := fun k i els _ => by
    rcases pickT_of (k := k) hl hok with q | ⟨q, q2⟩
    · rw [q]; rfl
    · rw [q]; exact okTo.frz q2
  have h2 : ∀ id o i els, i < n → pickH lh id = some o → D.frzs (base + i) els o.els = o.els := fun id o i els _ hp => okTos.frz (pickH_of hlh hlo hp).2.2
  refine Weak.trans (Weak.drop (st' := ⟨pickT l, fun id => if id = ob then some ⟨eo, So, (List.range n).map fun i => .ref (base + i) (g i)⟩ else if base ≤ id ∧ id < base + n then some ⟨e, S, f (id - base)⟩ else pickH lh id, st.n⟩) rfl (fun k => ?_) fun m o hm => ?_)
    (Weak.trans (Weak.freezes f g (pickT l) (pickH lh) st.n (.inl hob) hf h1 h2 n (Nat.le_refl _)) (Weak.drop rfl (fun k => .inl rfl) fun m o hm => ?_))
  · rcases pickT_of (k := k) hl hok with q | ⟨q, q2⟩
    · exact .inr q
    · exact .inl q
  · simp only at hm
    by_cases q : m = ob
    · rw [if_pos q] at hm; cases hm; rw [q]; exact ho
    · rw [if_neg q] at hm
      by_cases q2 : base ≤ m ∧ m < base + n
      · rw [if_pos q2] at hm; cases hm
        have := hc (m - base) (by omega)
        rw [show base + (m - base) = m by omega] at this
        exact this
      · rw [if_neg q2] at hm
        exact (pickH_of hlh hlo hm).2.1
  · simp only at hm ⊢
    by_cases q : m = ob
    · rw [if_pos q] at hm ⊢
      rw [← hm]
      congr 2
      refine List.map_congr_left fun i hi => ?_
      rw [if_pos (List.mem_range.1 hi)]
    · rw [if_neg q] at hm ⊢
      rw [if_neg (by omega), if_neg (by have := (pickH_of hlh hlo hm).1; omega)]
      exact hm
end Go.VL

end
section
/- An object that is named anew. -/
namespace Go.VL
open Go Go.RowKit
/-- What is one value reads as another, where what stood at one place stands at another one. -/
def ToM (i j : Nat) (d d' : D) : Prop := ∀ (ρ ρ' : Nat → Loc) (J : Nat → Prop) (w : World) (y : Value), (∀ m, m ≠ j → ρ' m = ρ m) → ρ' j = ρ i → RelD ρ J w d y → RelD ρ' J w d' y
def ToMs (i j : Nat) : List D → List D → Prop
  | [], [] => True
  | d :: l, d' :: l' => ToM i j d d' ∧ ToMs i j l l'
  | _, _ => False
theorem ToM.any {i j : Nat} {d : D} : ToM i j d .any := fun _ _ _ _ _ _ _ _ => trivial
theorem ToM.plain {i j : Nat} {d : D} (h : d.noRef = true) : ToM i j d d := fun _ _ _ _ _ _ _ hy => RelP.toD (hy.toP h)
theorem ToM.mp {i j : Nat} : ToM i j (.mp i) (.mp j) := fun ρ ρ' J w y _ h2 hy => by
  have hy : ∃ g, (ρ i).a = some ⟨g, 0, none⟩ ∧ y = .map (some g) := hy
  show ∃ g, (ρ' j).a = some ⟨g, 0, none⟩ ∧ y = .map (some g)
  rw [h2]; exact hy
theorem ToM.ref {i j m n : Nat} (h : m ≠ j) : ToM i j (.ref m n) (.ref m n) := fun ρ ρ' J w y h1 _ hy => by
  have hy : y = .slice (ρ m).a n (ρ m).cap := hy
  show y = .slice (ρ' m).a n (ρ' m).cap
  rw [h1 m h]; exact hy
theorem ToM.adr {i j m a b : Nat} (h : m ≠ j) : ToM i j (.adr m a b) (.adr m a b) := fun ρ ρ' J w y h1 _ hy => by
  have hy : ∃ g, (ρ m).a = some ⟨g, 0, none⟩ ∧ y = .pointer (some ⟨g, a * (ρ m).S + b, none⟩) := hy
  show ∃ g, (ρ' m).a = some ⟨g, 0, none⟩ ∧ y = .pointer (some ⟨g, a * (ρ' m).S + b, none⟩)
  rw [h1 m h]; exact hy
theorem ToMs.rel {i j : Nat} {ρ ρ' : Nat → Loc} {J : Nat → Prop} {w : World} (h1 : ∀ m, m ≠ j → ρ' m = ρ m) (h2 : ρ' j = ρ i) :
    ∀ {l l' : List D} {vs : List Value}, ToMs i j l l' → RelDs ρ J w l vs → RelDs ρ' J w l' vs
  | [], [], _, _, h => h
  | d :: l, d' :: l', vs, ht, h => by
    obtain ⟨x, xs, e, hx, hxs⟩ := h
    exact ⟨x, xs, e, ht.1 ρ ρ' J w x h1 h2 hx, ToMs.rel h1 h2 ht.2 hxs⟩
  | [], _ :: _, _, h, _ => h.elim
  | _ :: _, [], _, h, _ => h.elim
theorem ToMs.length {i j : Nat} : ∀ {l l' : List D}, ToMs i j l l' → l'.length = l.length
  | [], [], _ => rfl
  | d :: l, d' :: l', h => by rw [List.length_cons, List.length_cons, ToMs.length h.2]
  | [], _ :: _, h => h.elim
  | _ :: _, [], h => h.elim
theorem ToMs.plain {i j : Nat} : ∀ {l : List D}, D.noRefs l = true → ToMs i j l l
  | [], _ => trivial
  | d :: l, h => by
    simp only [D.noRefs, Bool.and_eq_true] at h
    exact ⟨ToM.plain h.1, ToMs.plain h.2⟩
theorem ToMs.app {i j : Nat} : ∀ {l l' m m' : List D}, ToMs i j l l' → ToMs i j m m' → ToMs i j (l ++ m) (l' ++ m')
  | [], [], _, _, _, h => h
  | _ :: _, _ :: _, _, _, h1, h => ⟨h1.1, ToMs.app h1.2 h⟩
  | [], _ :: _, _, _, h, _ => h.elim
  | _ :: _, [], _, _, h, _ => h.elim
theorem ToMs.range {i j : Nat} {f : Nat → D} : ∀ {l : List Nat}, (∀ k ∈ l, ToM i j (f k) (f k)) → ToMs i j (l.map f) (l.map f)
  | [], _ => trivial
  | k :: l, h => ⟨h k (by simp), ToMs.range fun m hm => h m (by simp [hm])⟩
mutual
theorem okTo.toM {base i j : Nat} (hj : base ≤ j) : ∀ {d : D}, okTo base d = true → ToM i j d d
  | .ref id k, h => ToM.ref (by have := of_decide_eq_true h; omega)
  | .adr id _ _, h => ToM.adr (by have := of_decide_eq_true h; omega)
  | .agg l, h => fun ρ ρ' J w y h1 h2 hy => by
    obtain ⟨vs, q1, q2, q3⟩ := hy
    exact ⟨vs, q1, ToMs.rel h1 h2 (okTos.toM hj (l := l) h) q2, q3⟩
  | .any, _ => ToM.any
  | .v _, _ => ToM.plain rfl
  | .nil0, _ => ToM.plain rfl
  | .lst _, _ => ToM.plain rfl
  | .ptr _, _ => ToM.plain rfl
  | .tup _, h => by cases h
  | .clos _ _, h => by cases h
  | .sub _ _ _, h => by cases h
  | .loc _ _, h => by cases h
  | .mp _, h => by cases h
theorem okTos.toM {base i j : Nat} (hj : base ≤ j) : ∀ {l : List D}, okTos base l = true → ToMs i j l l
  | [], _ => trivial
  | d :: l, h => by
    simp only [okTos, Bool.and_eq_true] at h
    exact ⟨okTo.toM hj h.1, okTos.toM hj h.2⟩
end
/-- What an object is hangs on its place alone. -/
theorem ObjAt.moved {ρ ρ' : Nat → Loc} {J : Nat → Prop} {w : World} {id id' : Nat} {o o' : Own} (h : ObjAt ρ J w id o) (hρ : ρ' id' = ρ id) (he : o'.e = o.e) (hS : o'.S = o.S) (hl : o'.els.length = o.els.length)
    (hr : ∀ vs, RelDs ρ J w o.els vs → RelDs ρ' J w o'.els vs) : ObjAt ρ' J w id' o' := by
  rcases h with ⟨h1, h2, h3, h4, h5, vs, h6, h7, h8⟩ | ⟨h1, h2, h3, h4, vs, h6, g, ob, h7, h8, h9, h10⟩
  · refine .inl ⟨by rw [hρ, hS]; exact h1, by rw [hS]; exact h2, by rw [hρ, hl]; exact h3, by rw [hρ]; exact h4, by rw [hl]; exact h5, vs, hr _ h6, by rw [hS]; exact h7, ?_⟩
    rw [hρ]
    rcases h8 with h8 | ⟨h9, g, cur, h10, h11, h12, h13, h14⟩
    · exact .inl h8
    · exact .inr ⟨h9, g, cur, h10, h11, by rw [he]; exact h12, by rw [hS]; exact h13, by rw [hS, hl]; exact h14⟩
  · exact .inr ⟨by rw [hρ, hS]; exact h1, by rw [hS]; exact h2, by rw [hρ]; exact h3, by rw [hl]; exact h4, vs, hr _ h6, g, ob, by rw [hρ]; exact h7, h8, h9, h10⟩
theorem Weak.move {st st' : St} (i j : Nat) (hn : st'.n = st.n) (ht : ∀ k, ToM i j (st.t k) (st'.t k))
    (hH : ∀ m o', st'.H m = some o' → (m = j ∨ m ≠ i) ∧ ∃ o, st.H (if m = j then i else m) = some o ∧ o'.e = o.e ∧ o'.S = o.S ∧ ToMs i j o.els o'.els) : Weak st st' := by
  intro J0 ρ J B w0 a w hs
  let ρ' : Nat → Loc := fun m => if m = j then ρ i else ρ m
  have h1 : ∀ m, m ≠ j → ρ' m = ρ m := fun m hm => if_neg hm
  have h2 : ρ' j = ρ i := if_pos rfl
  have h3 : ∀ m, ρ' m = ρ (if m = j then i else m) := fun m => by
    by_cases q : m = j
    · rw [if_pos q, q, h2]
    · rw [if_neg q, h1 m q]
  refine ⟨ρ', J, { old := hs.old, own := fun id o g ho hc ha => ?_, lt := hs.lt, slots := fun k => ht k ρ ρ' J w _ h1 h2 (hs.slots k), objs := fun id o ho => ?_, apart := fun p q op oq hp hq hne hcp hcq => ?_, size := hs.size.trans hn.symm, defers := hs.defers, below := hs.below, base := hs.base, glob := hs.glob }⟩
  · obtain ⟨_, o2, q2, _⟩ := hH id o ho
    rw [h3] at hc ha
    exact hs.own _ o2 g q2 hc ha
  · obtain ⟨_, o2, q2, q3, q4, q5⟩ := hH id o ho
    exact (hs.objs _ o2 q2).moved (h3 id) q3 q4 q5.length fun vs hv => q5.rel h1 h2 hv
  · obtain ⟨x1, o2, q2, _⟩ := hH p op hp
    obtain ⟨x2, o3, p2, _⟩ := hH q oq hq
    rw [h3] at hcp ⊢
    rw [h3] at hcq ⊢
    refine hs.apart _ _ o2 o3 q2 p2 ?_ hcp hcq
    by_cases a1 : p = j
    · rw [if_pos a1]
      by_cases a2 : q = j
      · exact absurd (a1.trans a2.symm) hne
      · rw [if_neg a2]; exact fun z => (x2.resolve_left a2) z.symm
    · rw [if_neg a1]
      by_cases a2 : q = j
      · rw [if_pos a2]; exact x1.resolve_left a1
      · rw [if_neg a2]; exact hne
end Go.VL

end
section
set_option linter.unusedVariables false
/- Results that hold many things that are owned; a text read by what the machine does. -/
namespace Go.VL
open Go Go.RowKit
/-- What a call gives, with all that is owned by what it gives. -/
def FunM (P : Program) (f : FuncId) (args : List D) (R : D → (Nat → Option Own) → Prop) : Prop :=
  callable P f = true ∧ ∀ (J : Nat → Prop) (w : World) (vs : List Value), (∀ b, J b → b < w.heap.size) → GlobAt J w → RelPs J w args vs →
    Calls P f vs.toArray w fun e w' => ∃ y r H, e = .returned y ∧ R r H ∧ Below w.heap.size w w' ∧ ∃ (J' : Nat → Prop) (ρ : Nat → Loc), (∀ b, J b → J' b) ∧ (∀ b, J' b → J b ∨ (w.heap.size ≤ b ∧ b < w'.heap.size)) ∧
      RelD ρ J' w' r y ∧ (∀ i o, H i = some o → ObjAt ρ J' w' i o) ∧ (∀ i o g, H i = some o → 0 < (ρ i).cap → (ρ i).a = some ⟨g, 0, none⟩ → w.heap.size ≤ g) ∧ Apart ρ H
def RetM (P : Program) (fn : Func) (R : D → (Nat → Option Own) → Prop) (st0 : St) : Prop :=
  ∃ st, Weak st0 st ∧ ∃ rs, resDs P st fn.results.toList = some rs ∧ ∃ H : Nat → Option Own, (∀ i o, H i = some o → st.H i = some o) ∧ R (pack rs) H
/-- A text, read by what the machine does. -/
def awpS (P : Program) (c : Code) (N : St → Prop) (X : Nat → St → Prop) (R : St → Prop) (st : St) : Prop :=
  ∀ (J0 : Nat → Prop) (ρ : Nat → Loc) (J : Nat → Prop) (B : Bound) (w0 : World) (a : Act) (w : World), Sim J0 ρ J B w0 st a w → c.wp P (ends J0 B w0 N X R) a w
theorem awpS_of {P : Program} {c : Code} {N R : St → Prop} {X : Nat → St → Prop} {st : St} (h : awp P c N X R st) : awpS P c N X R st :=
  fun J0 ρ J B w0 a w hs => awp_sound c N X R st ρ J a w h hs
theorem awpS_seq {P : Program} {c d : Code} {N R : St → Prop} {X : Nat → St → Prop} {st : St} (h : awpS P c (fun s => awpS P d N X R s) X R st) : awpS P (.seq c d) N X R st := by
  intro J0 ρ J B w0 a w hs
  refine wp_seq (wp_mono (h J0 ρ J B w0 a w hs) ?_)
  rintro e a' w' he
  cases e with
  | normal => obtain ⟨s, ρ', J', h1, h2⟩ := he; exact h1 J0 ρ' J' B w0 a' w' h2
  | exit id => exact he
  | ret => exact he
  | goto l => exact he.elim
  | panic c => exact he.elim
  | outgrown => exact he.elim
/-- The operations of a region from one on, by what the machine does. -/
def regS (P : Program) (ops : Array Oper) (l : List Oper) (N : St → Prop) (st : St) : Prop :=
  ∀ (J0 : Nat → Prop) (ρ : Nat → Loc) (J : Nat → Prop) (B : Bound) (w0 : World) (a : Act) (w : World) (Q : Exit → Act → World → Prop), Sim J0 ρ J B w0 st a w → (∀ a' w', SimE J0 B w0 N a' w' → Q .normal a' w') → wpList P ops Q l a w
theorem awpS_region {P : Program} {id : Nat} {ops : Array Oper} {N R : St → Prop} {X : Nat → St → Prop} {st : St} (h : regS P ops ops.toList N st) : awpS P (.region id ops false) N X R st :=
  fun J0 ρ J B w0 a w hs => wp_region_list (h J0 ρ J B w0 a w _ hs fun a' w' h' => h')
theorem regS_of {P : Program} {ops : Array Oper} {l : List Oper} {N : St → Prop} {st : St} (h : aops P ops.toList l N st) : regS P ops l N st :=
  fun J0 ρ J B w0 a w Q hs hk => aops_sound l N st ρ J a w h hs hk
theorem regS_op {P : Program} {ops : Array Oper} {o : Oper} {l : List Oper} {N : St → Prop} {st : St} (hg : o.guard = none) (hd : okDst st o.dst) (h : OpX P o (fun s x => regS P ops l N (s.put o.dst x)) st) : regS P ops (o :: l) N st := by
  intro J0 ρ J B w0 a w Q hs hk
  unfold wpList
  rw [if_pos (by simp [Region.wanted, hg])]
  refine .inl (h J0 ρ J B w0 a w hs _ Q fun st' ρ' J' x y w' hK hn hs' hx => ?_)
  refine hK J0 ρ' J' B w0 _ _ Q (hs'.put o.dst (fun d hd' => ?_) hx) hk
  rw [hd'] at hd
  rw [hn]; exact hd

mutual
/-- A value that names nothing ahead of a place. -/
def geTo (base : Nat) : D → Bool
  | .ref id _ => decide (base ≤ id)
  | .adr id _ _ => decide (base ≤ id)
  | .agg l => geTos base l
  | .tup l => geTos base l
  | .any => true
  | .v _ => true
  | .nil0 => true
  | .lst _ => true
  | .ptr _ => true
  | _ => false
def geTos (base : Nat) : List D → Bool
  | [] => true
  | d :: l => geTo base d && geTos base l
end
mutual
theorem geTo.rel {base : Nat} {ρ ρ' : Nat → Loc} {J : Nat → Prop} {w : World} (h1 : ∀ m, base ≤ m → ρ' m = ρ m) : ∀ {d : D} {y : Value}, geTo base d = true → RelD ρ J w d y → RelD ρ' J w d y
  | .ref id k, y, h, hy => by
    have hy : y = .slice (ρ id).a k (ρ id).cap := hy
    show y = .slice (ρ' id).a k (ρ' id).cap
    rw [h1 id (of_decide_eq_true h)]; exact hy
  | .adr id i o, y, h, hy => by
    have hy : ∃ g, (ρ id).a = some ⟨g, 0, none⟩ ∧ y = .pointer (some ⟨g, i * (ρ id).S + o, none⟩) := hy
    show ∃ g, (ρ' id).a = some ⟨g, 0, none⟩ ∧ y = .pointer (some ⟨g, i * (ρ' id).S + o, none⟩)
    rw [h1 id (of_decide_eq_true h)]; exact hy
  | .agg l, y, h, hy => by
    obtain ⟨vs, q1, q2, q3⟩ := hy
    exact ⟨vs, q1, geTos.rel h1 (l := l) h q2, q3⟩
  | .tup l, y, h, hy => by
    obtain ⟨vs, q1, q2⟩ := hy
    exact ⟨vs, q1, geTos.rel h1 (l := l) h q2⟩
  | .any, _, _, _ => trivial
  | .v _, _, _, hy => hy
  | .nil0, _, _, hy => hy
  | .lst _, _, _, hy => hy
  | .ptr _, _, _, hy => hy
  | .clos _ _, _, h, _ => by cases h
  | .sub _ _ _, _, h, _ => by cases h
  | .loc _ _, _, h, _ => by cases h
  | .mp _, _, h, _ => by cases h
theorem geTos.rel {base : Nat} {ρ ρ' : Nat → Loc} {J : Nat → Prop} {w : World} (h1 : ∀ m, base ≤ m → ρ' m = ρ m) : ∀ {l : List D} {vs : List Value}, geTos base l = true → RelDs ρ J w l vs → RelDs ρ' J w l vs
  | [], _, _, h => h
  | d :: l, vs, hg, h => by
    simp only [geTos, Bool.and_eq_true] at hg
    obtain ⟨x, xs, e, hx, hxs⟩ := h
    exact ⟨x, xs, e, geTo.rel h1 hg.1 hx, geTos.rel h1 hg.2 hxs⟩
end
mutual
theorem okTo.rel {base : Nat} {ρ ρ' : Nat → Loc} {J : Nat → Prop} {w : World} (h1 : ∀ m, m < base → ρ' m = ρ m) : ∀ {d : D} {y : Value}, okTo base d = true → RelD ρ J w d y → RelD ρ' J w d y
  | .ref id k, y, h, hy => by
    have hy : y = .slice (ρ id).a k (ρ id).cap := hy
    show y = .slice (ρ' id).a k (ρ' id).cap
    rw [h1 id (of_decide_eq_true h)]; exact hy
  | .adr id i o, y, h, hy => by
    have hy : ∃ g, (ρ id).a = some ⟨g, 0, none⟩ ∧ y = .pointer (some ⟨g, i * (ρ id).S + o, none⟩) := hy
    show ∃ g, (ρ' id).a = some ⟨g, 0, none⟩ ∧ y = .pointer (some ⟨g, i * (ρ' id).S + o, none⟩)
    rw [h1 id (of_decide_eq_true h)]; exact hy
  | .agg l, y, h, hy => by
    obtain ⟨vs, q1, q2, q3⟩ := hy
    exact ⟨vs, q1, okTos.rel h1 (l := l) h q2, q3⟩
  | .any, _, _, _ => trivial
  | .v _, _, _, hy => hy
  | .nil0, _, _, hy => hy
  | .lst _, _, _, hy => hy
  | .ptr _, _, _, hy => hy
  | .tup _, _, h, _ => by cases h
  | .clos _ _, _, h, _ => by cases h
  | .sub _ _ _, _, h, _ => by cases h
  | .loc _ _, _, h, _ => by cases h
  | .mp _, _, h, _ => by cases h
theorem okTos.rel {base : Nat} {ρ ρ' : Nat → Loc} {J : Nat → Prop} {w : World} (h1 : ∀ m, m < base → ρ' m = ρ m) : ∀ {l : List D} {vs : List Value}, okTos base l = true → RelDs ρ J w l vs → RelDs ρ' J w l vs
  | [], _, _, h => h
  | d :: l, vs, hg, h => by
    simp only [okTos, Bool.and_eq_true] at hg
    obtain ⟨x, xs, e, hx, hxs⟩ := h
    exact ⟨x, xs, e, okTo.rel h1 hg.1 hx, okTos.rel h1 hg.2 hxs⟩
end
/-- A call that hands over all that its result owns. -/
theorem opX_callM {P : Program} {o : Oper} {f : Operand} {args : Array Operand} {ts : Array TypeId} {st : St} {K : St → D → Prop} {g : FuncId} {caps as : List D} {p : St × List D} {R : D → (Nat → Option Own) → Prop} (base : Nat) (l : List (Nat × D)) (lh : List (Nat × Own))
    (ho : o.op = .call { callee := .value f, args := args, argTypes := ts }) (hf : st.ev f = .clos (.func g) caps) (hz : frzAll (D.idss (args.toList.map st.ev ++ caps)) st (args.toList.map st.ev ++ caps) = some p) (hn : D.noRefs p.2 = true) (has : D.nrms p.2 = as) (hF : FunM P g as R)
    (hl : Slots p.1 l) (hok : l.all (fun q => okTo base q.2) = true) (hlh : Heaps p.1 lh) (hlo : lh.all (fun q => decide (q.1 < base) && okTos base q.2.els) = true)
    (hge : ∀ r H, R r H → geTo base r = true ∧ ∀ i o, H i = some o → base ≤ i ∧ geTos base o.els = true)
    (hK : ∀ r H, R r H → K ⟨pickT l, fun m => if m < base then pickH lh m else H m, st.n⟩ r) : OpX P o K st := by
  intro J0 ρ J B w0 a w hs Kc Q hKc
  have hc := hs.ev f
  rw [hf] at hc
  obtain ⟨cs, hev, hcs⟩ := hc
  have hall : RelDs ρ J w (args.toList.map st.ev ++ caps) (args.toList.map a.eval ++ cs) := RelDs_app _ _ _ _ (RelDs_ev hs.ev _) hcs
  have hrun : callable P g = true → (execOp a.eval o).run P w = .ok (.enter g (args.toList.map a.eval ++ cs).toArray) w := by
    intro hcal
    unfold callable at hcal
    split at hcal
    · rename_i fn hfn
      simp only [Bool.and_eq_true, bne_iff_ne, ne_eq] at hcal
      obtain ⟨hn, hb⟩ := hcal
      have hb' : fn.body.isNone = false := by cases hb2 : fn.body <;> simp [hb2] at hb ⊢
      simp only [execOp, ho, resolve, hev, Deferred.ofValue, Sem.run_bind, Sem.run_pure, Result.andThen_ok, invoke, callFunc, run_program, hfn]
      simp [hn, hb']
    · cases hcal
  obtain ⟨J', h5, h6, h7, h8⟩ := frzAll_sim _ J st _ _ p hs hall hz
  have hP := (RelDs.toP h7 hn).nrm
  rw [has] at hP
  obtain ⟨hcal, hfun⟩ := hF
  unfold Oper.wp
  rw [hrun hcal]
  have hcall := hfun J' w _ h6.lt h6.glob hP
  show Calls P g _ w _
  refine hcall.mono ?_
  rintro e w' ⟨y, r, H, rfl, hr, hb, J'', ρc, k1, k2, k3, k4, k5, k6⟩
  show Kc _ _
  have hgrow := h6.grow hb k1 k2
  obtain ⟨g1, g2⟩ := hge r H hr
  let ρ2 : Nat → Loc := fun m => if m < base then ρ m else ρc m
  have e1 : ∀ m, m < base → ρ2 m = ρ m := fun m hm => if_pos hm
  have e2 : ∀ m, base ≤ m → ρ2 m = ρc m := fun m hm => if_neg (by omega)
  have hBle := h6.Ble
  have hH : ∀ m o', (if m < base then pickH lh m else H m) = some o' → (m < base ∧ p.1.H m = some o' ∧ okTos base o'.els = true) ∨ (base ≤ m ∧ H m = some o' ∧ geTos base o'.els = true) := fun m o' h => by
    by_cases q : m < base
    · rw [if_pos q] at h
      obtain ⟨_, q2, q3⟩ := pickH_of hlh hlo h
      exact .inl ⟨q, q2, q3⟩
    · rw [if_neg q] at h
      exact .inr ⟨by omega, h, (g2 m o' h).2⟩
  refine hKc _ ρ2 J'' r y w' (hK r H hr) rfl { old := hgrow.old, own := fun id o' g ho' hc' ha' => ?_, lt := hgrow.lt, slots := fun k => ?_, objs := fun id o' ho' => ?_, apart := fun i j oi oj hi hj hne hci hcj => ?_, size := hgrow.size.trans h8, defers := hgrow.defers, below := hgrow.below, base := hgrow.base, glob := hgrow.glob } (geTo.rel e2 g1 k3)
  · rcases hH id o' ho' with ⟨q1, q2, _⟩ | ⟨q1, q2, _⟩
    · rw [e1 id q1] at hc' ha'
      exact hgrow.own id o' g q2 hc' ha'
    · rw [e2 id q1] at hc' ha'
      exact .inl (Nat.le_trans hBle (k5 id o' g q2 hc' ha'))
  · show RelD ρ2 J'' w' (pickT l k) _
    rcases pickT_of (k := k) hl hok with q | ⟨q, q2⟩
    · rw [q]; trivial
    · rw [q]; exact okTo.rel e1 q2 (hgrow.slots k)
  · rcases hH id o' ho' with ⟨q1, q2, q3⟩ | ⟨q1, q2, q3⟩
    · exact (hgrow.objs id o' q2).moved (e1 id q1) rfl rfl rfl fun vs hv => okTos.rel e1 q3 hv
    · exact (k4 id o' q2).moved (e2 id q1) rfl rfl rfl fun vs hv => geTos.rel e2 q3 hv
  · rcases hH i oi hi with ⟨q1, q2, _⟩ | ⟨q1, q2, _⟩
    · rcases hH j oj hj with ⟨p1, p2, _⟩ | ⟨p1, p2, _⟩
      · rw [e1 i q1] at hci ⊢
        rw [e1 j p1] at hcj ⊢
        exact hgrow.apart i j oi oj q2 p2 hne hci hcj
      · rw [e1 i q1] at hci ⊢
        rw [e2 j p1] at hcj ⊢
        obtain ⟨x, x1, _, x3⟩ := (h6.objs i oi q2).block hci
        intro heq
        rw [x1] at heq
        have := k5 j oj x p2 hcj heq.symm
        omega
    · rcases hH j oj hj with ⟨p1, p2, _⟩ | ⟨p1, p2, _⟩
      · rw [e2 i q1] at hci ⊢
        rw [e1 j p1] at hcj ⊢
        obtain ⟨x, x1, _, x3⟩ := (h6.objs j oj p2).block hcj
        intro heq
        rw [x1] at heq
        have := k5 i oi x q2 hci heq
        omega
      · rw [e2 i q1] at hci ⊢
        rw [e2 j p1] at hcj ⊢
        exact k6 i j oi oj q2 p2 hne hci hcj
theorem awpS_cond {P : Program} {c : Operand} {x y : Code} {N R : St → Prop} {X : Nat → St → Prop} {st : St} (b : Bool) (hc : st.ev c = .v (.bool b)) (h1 : b = true → awpS P x N X R st) (h2 : b = false → awpS P y N X R st) : awpS P (.cond c x y) N X R st := by
  intro J0 ρ J B w0 a w hs
  have h := hs.ev c
  rw [hc] at h
  exact wp_cond_split h.1 (fun hb => h1 hb J0 ρ J B w0 a w hs) fun hb => h2 hb J0 ρ J B w0 a w hs
theorem startSim {J0 : Nat → Prop} {w : World} {vs : List Value} {args : List D} {n : Nat} (hJ : ∀ b, J0 b → b < w.heap.size) (hG : GlobAt J0 w) (hv : RelPs J0 w args vs) (hn : args.length ≤ n) :
    Sim J0 (fun _ => ⟨none, 0, 0⟩) J0 (.at w.heap.size) w (St.init args n) { tmps := vs.toArray ++ Array.replicate (n - vs.toArray.size) undef, defers := [] } w := by
  have hlen := (RelPs_get _ _ hv).1
  refine { old := fun b hb => .inl hb, own := fun id o g hi => by simp [St.init] at hi, lt := hJ, slots := fun j => ?_, objs := fun id o hi => by simp [St.init] at hi, apart := fun i j oi oj hi => by simp [St.init] at hi, size := by simp [St.init]; omega, defers := rfl, below := BelowM.refl _ _, base := rfl, glob := hG }
  have := initT_rel (ρ := fun _ => ⟨none, 0, 0⟩) (J := J0) (w := w) args vs 0 j (RelPs.toD hv) (Nat.zero_le _)
  simp only [Nat.sub_zero] at this
  show RelD _ _ _ (initT 0 args j) _
  by_cases hj : j < vs.length
  · have e : (vs.toArray ++ Array.replicate (n - vs.toArray.size) undef).getD j undef = vs.getD j undef := by
      simp [Array.getElem?_append, hj]
    rw [e]; exact this
  · have e : (vs.toArray ++ Array.replicate (n - vs.toArray.size) undef).getD j undef = undef := by
      simp [Array.getElem?_append, hj, Array.getElem?_replicate]
      split <;> rfl
    rw [e]
    have e2 : vs.getD j undef = undef := by simp [List.getD, List.getElem?_eq_none (Nat.le_of_not_lt hj)]
    rw [e2] at this
    exact this
theorem FunM.of_awpS {P : Program} {f : FuncId} {fn : Func} {code : Code} {args : List D} {R : D → (Nat → Option Own) → Prop} {n : Nat} (hf : P.funcs[f]? = some fn) (hb : fn.body = some code) (hc : callable P f = true) (hnn : fn.ntmps = n) (hn : args.length ≤ n)
    (h : D.wfs args → awpS P code (RetM P fn R) (fun _ _ => False) (RetM P fn R) (St.init args n)) : FunM P f args R := by
  subst hnn
  refine ⟨hc, fun J0 w vs hJ hG hv => ?_⟩
  have hs := startSim (n := fn.ntmps) hJ hG hv hn
  have hwp := h (RelPs.wf hv) _ _ _ _ _ _ _ hs
  refine calls_of_wp hf hb (wp_mono hwp ?_)
  rintro e a w' he
  have fin : SimE J0 (.at w.heap.size) w (RetM P fn R) a w' → a.defers = [] ∧ ∃ v, (results fn a.tmps).run P w' = .ok v w' ∧ ∃ y r H, Ending.returned v = .returned y ∧ R r H ∧ Below w.heap.size w w' ∧ ∃ (J' : Nat → Prop) (ρ : Nat → Loc), (∀ b, J0 b → J' b) ∧ (∀ b, J' b → J0 b ∨ (w.heap.size ≤ b ∧ b < w'.heap.size)) ∧
      RelD ρ J' w' r y ∧ (∀ i o, H i = some o → ObjAt ρ J' w' i o) ∧ (∀ i o g, H i = some o → 0 < (ρ i).cap → (ρ i).a = some ⟨g, 0, none⟩ → w.heap.size ≤ g) ∧ Apart ρ H := by
    rintro ⟨st0, ρ0, J1, ⟨st, hweak, rs, h1, H, hsub, hR⟩, hst0⟩
    obtain ⟨ρ, J, hst⟩ := hweak _ _ _ _ _ _ _ hst0
    refine ⟨hst.defers, ?_⟩
    obtain ⟨ys, h5, h6⟩ := run_resDs (P := P) hst _ _ h1
    have hfresh : ∀ i o g, st.H i = some o → 0 < (ρ i).cap → (ρ i).a = some ⟨g, 0, none⟩ → w.heap.size ≤ g := fun i o g ho hc ha => (hst.own i o g ho hc ha).elim (fun h => h) fun h => h.elim
    refine ⟨_, results_eq fn a.tmps P w' h5, _, _, H, rfl, hR, hst.below.plain, fun b => J0 b ∨ J b, ρ, fun b hb => .inl hb, fun b hb => ?_, RelD.mono (fun _ => rfl) (fun b hb => .inr hb) (fun _ _ => rfl) _ _ (pack_relD h6), fun i o ho => ?_, fun i o g ho => hfresh i o g (hsub i o ho), fun i j oi oj hi hj => hst.apart i j oi oj (hsub i oi hi) (hsub j oj hj)⟩
    · rcases hb with hb | hb
      · exact .inl hb
      · rcases hst.old b hb with h | h | h
        · exact .inl h
        · exact .inr ⟨h, hst.lt b hb⟩
        · exact h.elim
    · have ho := hsub i o ho
      refine (hst.objs i o ho).frame rfl rfl rfl rfl (fun b hb => .inr hb) (fun _ _ => rfl) (fun vs hv => RelDs.mono (fun _ => rfl) (fun b hb => .inr hb) (fun _ _ => rfl) _ _ hv) fun g g1 g2 g3 g4 => ⟨?_, rfl⟩
      rintro (h | h)
      · have h8 := hJ g h
        have h9 := hfresh i o g ho g1 g2
        omega
      · exact g3 h
  cases e with
  | normal => exact fin he
  | ret => exact fin he
  | exit id => obtain ⟨_, _, _, hf, _⟩ := he; exact hf.elim
  | goto l => exact he.elim
  | panic c => exact he.elim
  | outgrown => exact he.elim
theorem FunM.of_awpI {P : Program} {f : FuncId} {fn : Func} {code : Code} {args : List D} {R : D → (Nat → Option Own) → Prop} {n : Nat} (hf : P.funcs[f]? = some fn) (hb : fn.body = some code) (hc : callable P f = true) (hn : fn.ntmps = n) (hl : args.length ≤ n)
    (h : D.wfs args → @awpI P code (St.init args n) ⟨RetM P fn R⟩ ⟨fun _ _ => False⟩ ⟨RetM P fn R⟩) : FunM P f args R :=
  FunM.of_awpS hf hb hc hn hl fun hw => awpS_of (h hw)
theorem Fun.of_awpS {P : Program} {f : FuncId} {fn : Func} {code : Code} {args : List D} {R : D → Prop} {n : Nat} (hf : P.funcs[f]? = some fn) (hb : fn.body = some code) (hc : callable P f = true) (hnn : fn.ntmps = n) (hn : args.length ≤ n)
    (h : D.wfs args → awpS P code (Ret P fn R) (fun _ _ => False) (Ret P fn R) (St.init args n)) : Fun P f args R := by
  subst hnn
  refine ⟨hc, fun J0 w vs hJ hG hv => ?_⟩
  have hs := startSim (n := fn.ntmps) hJ hG hv hn
  have hwp := h (RelPs.wf hv) _ _ _ _ _ _ _ hs
  refine calls_of_wp hf hb (wp_mono hwp ?_)
  rintro e a w' he
  have fin : SimE J0 (.at w.heap.size) w (Ret P fn R) a w' → a.defers = [] ∧ ∃ v, (results fn a.tmps).run P w' = .ok v w' ∧ ∃ y r, Ending.returned v = .returned y ∧ R r ∧ Below w.heap.size w w' ∧ RelP (fun b => J0 b ∨ (w.heap.size ≤ b ∧ b < w'.heap.size)) w' r y := by
    rintro ⟨st, ρ, J, ⟨rs, h1, p, h2, h3, h4⟩, hst⟩
    refine ⟨hst.defers, ?_⟩
    obtain ⟨ys, h5, h6⟩ := run_resDs (P := P) hst _ _ h1
    obtain ⟨J', h7, h8, h9, h10⟩ := frzAll_sim _ J st rs ys p hst h6 h2
    refine ⟨_, results_eq fn a.tmps P w' h5, _, _, rfl, h4, hst.below.plain, ?_⟩
    refine RelP.mono (fun b hb => ?_) (fun _ _ => rfl) _ _ (pack_rel (RelDs.toP h9 h3).nrm)
    rcases h8.old b hb with h | h | h
    · exact .inl h
    · exact .inr ⟨h, h8.lt b hb⟩
    · exact h.elim
  cases e with
  | normal => exact fin he
  | ret => exact fin he
  | exit id => obtain ⟨_, _, _, hf, _⟩ := he; exact hf.elim
  | goto l => exact he.elim
  | panic c => exact he.elim
  | outgrown => exact he.elim
theorem RetM_calc {P : Program} {fn : Func} {R : D → (Nat → Option Own) → Prop} {st : St} {rs : List ResultVar} (h : fn.results = rs.toArray) {ds : List D} {st' : St} (hw : Weak st st') (H : Nat → Option Own) (hr' : resDs P st' rs = some ds) (hH : ∀ i o, H i = some o → st'.H i = some o) (hR : R (pack ds) H) : RetM P fn R st :=
  ⟨st', hw, ds, by rw [h]; exact hr', H, hH, hR⟩
theorem ToM.refTo {i j n : Nat} : ToM i j (.ref i n) (.ref j n) := fun ρ ρ' J w y _ h2 hy => by
  have hy : y = .slice (ρ i).a n (ρ i).cap := hy
  show y = .slice (ρ' j).a n (ρ' j).cap
  rw [h2]; exact hy
theorem ToM.agg {i j : Nat} {l l' : List D} (h : ToMs i j l l') : ToM i j (.agg l) (.agg l') := fun ρ ρ' J w y h1 h2 hy => by
  obtain ⟨vs, q1, q2, q3⟩ := hy
  exact ⟨vs, q1, ToMs.rel h1 h2 h q2, q3⟩
end Go.VL

end
section
set_option linter.unusedVariables false
/- A literal of a slice that keeps what is one's own; regions that draw their order, with such; loops, by what the machine does. -/
namespace Go.VL
open Go Go.RowKit
def opBuildSliceK (P : Program) (t : TypeId) (len : Nat) (parts : List (Nat × D)) (id : Nat) (K : St → D → Prop) (st : St) : Prop :=
  ∃ e, elT P t = some e ∧ 0 < P.cellsOf e ∧ len * P.cellsOf e ≤ 16777216 ∧ 0 < len ∧ parts.length = len ∧ inOrder 0 parts = true ∧ (∀ p ∈ parts, p.2.storable = true ∧ p.2.width = P.cellsOf e) ∧ (zeroT P e).isSome = true ∧ D.kills id (parts.map (·.2)) = parts.map (·.2) ∧
    K ((st.killed id).obj id ⟨e, P.cellsOf e, parts.map (·.2)⟩) (.ref id len)
theorem opBuildSliceK_sound {P : Program} {o : Oper} {t : TypeId} {len : Nat} {parts : Array (Nat × Operand)} (id : Nat) (ho : o.op = .buildSlice t len parts) {K : St → D → Prop} {st : St}
    (h : opBuildSliceK P t len (parts.toList.map fun p => (p.1, st.ev p.2)) id K st) : OpX P o K st := by
  intro J0 ρ J B w0 a w hs Kc Q hKc
  obtain ⟨e, h1, hS, h2, h0', h3, h4, h5, h6, hkl, h7⟩ := h
  have he := elT_spec h1
  obtain ⟨z, hz⟩ := Option.isSome_iff_exists.1 h6
  have hpl : parts.toList.length = len := by simpa using h3
  have hparts : ∀ (j : Nat) (p : Nat × Value), (parts.toList.map fun p => (p.1, a.eval p.2))[j]? = some p → p.1 = 0 + j ∧ p.2.cells.size = P.cellsOf e := by
    intro j p hp
    simp only [List.getElem?_map, Option.map_eq_some_iff] at hp
    obtain ⟨q, hq, rfl⟩ := hp
    have hm : (q.1, st.ev q.2) ∈ parts.toList.map fun p => (p.1, st.ev p.2) := List.mem_map.2 ⟨q, List.mem_of_getElem? hq, rfl⟩
    obtain ⟨h8, h9⟩ := h5 _ hm
    have := inOrder_spec _ 0 h4 j (q.1, st.ev q.2) (by simp [hq])
    exact ⟨this, by rw [(RelD_cells (hs.ev q.2) h8).1, h9]⟩
  generalize hcs : (Array.range (len * P.cellsOf e)).map (fun j => (if len * P.cellsOf e = 0 then #[] else z.cells)[j % (if len * P.cellsOf e = 0 then #[] else z.cells).size]!) = cells0
  have hcs' : cells0.size = (0 + (parts.toList.map fun p => (p.1, a.eval p.2)).length) * P.cellsOf e := by rw [← hcs]; simp [hpl]
  obtain ⟨r, hr, hrl⟩ := fill_seq _ 0 cells0 hparts hcs'
  have hrl' : r.toList = flat (parts.toList.map fun p => a.eval p.2) := by simpa [Function.comp_def] using hrl
  have hrun : (execOp a.eval o).run P w = .ok (.value (.slice (some ⟨w.heap.size, 0, none⟩) len len)) (w.alloc (.cells r e)) := by
    have h2' : ¬ (16777216 < len * P.cellsOf e) := by omega
    simp only [execOp, ho, Instr.buildSlice, Sem.run_bind, run_underlying he, Result.andThen_ok, run_size hS]
    by_cases h0 : len * P.cellsOf e = 0
    · have hc0 : cells0 = #[] := by
        apply Array.eq_empty_of_size_eq_zero
        rw [hcs']
        simpa [hpl] using h0
      rw [hc0] at hr
      simp [h0, newRow, show Array.range 0 = #[] from rfl, hr]
    · simp only [h0, if_false] at hcs hr
      have hpm : (parts.map fun x => (x.1, a.eval x.2)).toList = parts.toList.map fun p => (p.1, a.eval p.2) := by simp
      simp [h0, h2', run_zero hz, newRow, hcs, hr]
  have hlt : len ≤ 16777216 := Nat.le_trans (Nat.le_mul_of_pos_right len hS) h2
  have hcell : ∀ y ∈ parts.toList.map fun p => a.eval p.2, y.cells.size = P.cellsOf e ∧ ∀ c ∈ y.cells.toList, c.oneCell' = true := by
    intro y hy
    obtain ⟨q, hq, rfl⟩ := List.mem_map.1 hy
    have hm : (q.1, st.ev q.2) ∈ parts.toList.map fun p => (p.1, st.ev p.2) := List.mem_map.2 ⟨q, hq, rfl⟩
    obtain ⟨h8, h9⟩ := h5 _ hm
    obtain ⟨g1, g2, _⟩ := RelD_cells (hs.ev q.2) h8
    exact ⟨by rw [g1, h9], g2⟩
  have hrs : r.size = len * P.cellsOf e := by
    have := congrArg List.length hrl'
    rw [flat_length (S := P.cellsOf e)] at this
    · simpa [hpl] using this
    · exact fun y hy => (hcell y hy).1
  have e0 : (parts.toList.map fun p => (p.1, st.ev p.2)).map (fun x => x.2) = parts.toList.map fun p => st.ev p.2 := by simp [Function.comp_def]
  rw [e0] at hkl h7
  have hll : (parts.toList.map fun p => st.ev p.2).length = len := by simpa using hpl
  have hrel : RelDs ρ J w (parts.toList.map fun p => st.ev p.2) (parts.toList.map fun p => a.eval p.2) := by
    have : ∀ l : List (Nat × Operand), RelDs ρ J w (l.map fun p => st.ev p.2) (l.map fun p => a.eval p.2) := fun l => by
      induction l with
      | nil => rfl
      | cons p l ih => exact ⟨_, _, rfl, hs.ev p.2, ih⟩
    exact this _
  have key := hs.newobj id e (P.cellsOf e) len r (parts.toList.map fun p => st.ev p.2) (parts.toList.map fun p => a.eval p.2) (World.grownBy_alloc w _ none) (heap_alloc_new w (.cells r e)) hS (by rw [hll]; exact Nat.le_refl _) (by simp only [maxLen]; omega) h0'
    (by rw [hll]; simp only [capMax]; omega) hrs hrel hcell (by rw [hrl', hll, List.take_of_length_le (by rw [← hrl', Array.length_toList, hrs]; exact Nat.le_refl _)])
  rw [hkl] at key
  exact wp_value hrun (hKc _ _ J (.ref id len) _ _ h7 rfl key (by simp [RelD, upd_same]))
/-- One operation; a literal of a slice keeps what is owned. -/
def opAK (P : Program) (all : List Oper) (o : Oper) (K : St → Prop) (st : St) : Prop :=
  match o.op with
  | .buildSlice t len parts => o.guard = none ∧ okDst st o.dst ∧ opBuildSliceK P t len (parts.toList.map fun p => (p.1, st.ev p.2)) (dstOf o.dst) (fun s x => K (s.put o.dst x)) st
  | _ => opA P all o K st
theorem opAK_sound {P : Program} {ops : Array Oper} {Q : Exit → Act → World → Prop} {J0 : Nat → Prop} {B : Bound} {w0 : World} {o : Oper} {K : St → Prop} {st : St} {ρ : Nat → Loc} {J : Nat → Prop} {a : Act} {w : World}
    (h : opAK P ops.toList o K st) (hs : Sim J0 ρ J B w0 st a w) {Kc : Act → World → Prop} (hk : ∀ a' w', SimE J0 B w0 K a' w' → Kc a' w') :
    if Region.wanted o (yielded ops a.tmps) then o.wp P a w Kc Q else Kc (a.put o.dst undef) w := by
  unfold opAK at h
  split at h
  · rename_i t len parts ho
    obtain ⟨hg, hd, h⟩ := h
    rw [if_pos (by simp [Region.wanted, hg])]
    refine opBuildSliceK_sound _ ho h J0 ρ J B w0 a w hs Kc Q fun st' ρ' J' x y w' hK hn hs' hx => ?_
    refine hk _ _ ⟨_, ρ', J', hK, hs'.put o.dst (fun d' hd' => ?_) hx⟩
    rw [hd'] at hd
    rw [hn]; exact hd
  · exact opA_sound h hs hk
theorem opAK_quiet {P : Program} {all : List Oper} {o : Oper} {K : St → Prop} {st : St} (hq : quiet o = true) : opAK P all o K st = opA P all o K st := by
  unfold opAK
  split
  · rename_i ho
    simp [quiet, ho] at hq
  · rfl
theorem opAK_mono {P : Program} {ops : Array Oper} {o : Oper} {K K' : St → Prop} {st : St} (hK : ∀ s, K s → K' s) (h : opAK P ops.toList o K st) (hcl : quiet o = true ∨ loud o = true) : opAK P ops.toList o K' st := by
  unfold opAK at *
  split at h
  · obtain ⟨h1, h2, e, h3, h4, h5, h6, h7, h8, h9, h10, h11, h12⟩ := h
    exact ⟨h1, h2, e, h3, h4, h5, h6, h7, h8, h9, h10, h11, hK _ h12⟩
  · exact opA_mono hK h hcl
def anyAK (P : Program) (ops : Array Oper) (K : St → Prop) : Nat → Array Bool → St → Prop
  | 0, listed, st => Region.ready .any ops listed = [] ∧ K st
  | f + 1, listed, st => (Region.ready .any ops listed = [] → K st) ∧ ∀ i ∈ Region.ready .any ops listed, ∀ o, ops[i]? = some o → opAK P ops.toList o (anyAK P ops K f (listed.setIfInBounds i true)) st
theorem anyAK_sound {P : Program} {ops : Array Oper} {Q : Exit → Act → World → Prop} {J0 : Nat → Prop} {B : Bound} {w0 : World} {K : St → Prop} (hk : ∀ a' w', SimE J0 B w0 K a' w' → Q .normal a' w') :
    ∀ (f : Nat) (listed : Array Bool) (st : St) (ρ : Nat → Loc) (J : Nat → Prop) (a : Act) (w : World), anyAK P ops K f listed st → Sim J0 ρ J B w0 st a w → wpAny P .any ops Q f listed a w
  | 0, listed, st, ρ, J, a, w, h, hs => ⟨h.1, hk a w ⟨st, ρ, J, h.2, hs⟩⟩
  | f + 1, listed, st, ρ, J, a, w, h, hs => by
    refine ⟨fun hr => hk a w ⟨st, ρ, J, h.1 hr, hs⟩, fun i hi => ?_⟩
    unfold wpOp
    cases ho : ops[i]? with
    | none =>
      obtain ⟨_, o, ho', _⟩ := mem_ready.1 hi
      rw [ho] at ho'; cases ho'
    | some o =>
      have := opAK_sound (Q := Q) (ops := ops) (h.2 i hi o ho) hs fun a' w' ⟨st', ρ', J', h5, h6⟩ => anyAK_sound hk f _ st' ρ' J' a' w' h5 h6
      simp only
      split
      · rename_i hw
        rw [if_pos hw] at this
        exact .inl this
      · rename_i hw
        rw [if_neg hw] at this
        exact this
section
variable {P : Program} {ops : Array Oper}
/-- A quiet operation that may come up now may be taken first, where all others that may are quiet. -/
theorem anyAK_first {i : Nat} {oi : Oper} {d : D} {K : St → Prop} {W : Nat → Prop} (hi : ops[i]? = some oi) (hq : quiet oi = true) :
    ∀ (fuel : Nat) (listed : Array Bool) (st : St),
      (∀ j, W j → listed.getD j true = false ∧ ∃ oj, ops[j]? = some oj ∧ ∃ e ∈ oj.after, Region.binds .any e = true ∧ (e.on = i ∨ W e.on)) →
      (∀ j oj, ops[j]? = some oj → j ≠ i → listed.getD j true = false → ¬ W j → oi.apart ops oj = true ∧ quiet oj = true) →
      i ∈ Region.ready .any ops listed → Gives P ops oi d st →
      anyAK P ops K fuel (listed.setIfInBounds i true) (st.put oi.dst d) → anyAK P ops K (fuel + 1) listed st := by
  intro fuel
  induction fuel with
  | zero =>
    intro listed st _ _ hr hy H
    refine ⟨fun h => (by rw [h] at hr; cases hr), fun j hj o ho => ?_⟩
    by_cases hji : j = i
    · subst hji
      rw [hi] at ho; cases ho
      rw [opAK_quiet hq]
      exact hy.use hq H
    · have := ready_mono hj hji
      rw [H.1] at this
      cases this
  | succ fuel ih =>
    intro listed st hW hfree hr hy H
    refine ⟨fun h => (by rw [h] at hr; cases hr), fun j hj o ho => ?_⟩
    by_cases hji : j = i
    · subst hji
      rw [hi] at ho; cases ho
      rw [opAK_quiet hq]
      exact hy.use hq H
    · have h1 := H.2 j (ready_mono hj hji) o ho
      obtain ⟨hjun, oj, hoj, hall⟩ := mem_ready.1 hj
      rw [ho] at hoj; cases hoj
      have hin : ∀ m, listed.getD m true = false → listed.getD m false = true → False := fun m h h' => by
        rcases Nat.lt_or_ge m listed.size with h2 | h2
        · simp [h2] at h h'; rw [h] at h'; cases h'
        · simp [Array.getElem?_eq_none h2] at h
      have hnW : ¬ W j := fun hw => by
        obtain ⟨_, o', ho', e, he, hb, hon⟩ := hW j hw
        rw [ho] at ho'; cases ho'
        have hl := hall e he hb
        rcases hon with rfl | hon
        · exact hin _ (mem_ready.1 hr).1 hl
        · exact hin _ (hW _ hon).1 hl
      obtain ⟨f1, f3⟩ := hfree j o ho hji hjun hnW
      rw [opAK_quiet f3] at h1 ⊢
      have hkey : ∀ s, (anyAK P ops K fuel ((listed.setIfInBounds i true).setIfInBounds j true) (s.put oi.dst d) ∧ Ext o.dst (quiet o) st s) → anyAK P ops K (fuel + 1) (listed.setIfInBounds j true) s := by
        rintro s ⟨k1, k2⟩
        refine ih (listed.setIfInBounds j true) s (fun m hm => ?_) (fun m om hm hmi hun hnw => ?_) (ready_mono hr (Ne.symm hji)) (hy.ext f1 (.inr f3) k2) ?_
        · obtain ⟨g1, g2⟩ := hW m hm
          have hne : j ≠ m := fun e => hnW (e ▸ hm)
          exact ⟨by rw [getD_set_ne true hne]; exact g1, g2⟩
        · have hne : j ≠ m := fun e => by
            subst e
            have hlt : j < listed.size := by
              rcases Nat.lt_or_ge j listed.size with h' | h'
              · exact h'
              · simp [Array.getElem?_eq_none h'] at hjun
            simp [hlt] at hun
          exact hfree m om hm hmi (by rw [getD_set_ne true hne] at hun; exact hun) hnw
        · rw [Array.setIfInBounds_comm _ _ hji]; exact k1
      exact opA_swap hkey f1 (.inl f3) (.inr f3) h1
end
def robless : Sch → Bool
  | .done => true
  | .one rob _ s => !rob && robless s
  | .only _ s => robless s
  | .two _ _ s s' => robless s && robless s'
def schKK (P : Program) (ops : Array Oper) (K : St → Prop) : Sch → St → Prop
  | .done, st => K st
  | .one rob i s, st => ∃ o, ops[i]? = some o ∧ qok o st.ev = true ∧ opA P ops.toList o (schKK P ops K s) st
  | .only i s, st => ∃ o, ops[i]? = some o ∧ opAK P ops.toList o (schKK P ops K s) st
  | .two i j s s', st => (∃ o, ops[i]? = some o ∧ opAK P ops.toList o (schKK P ops K s) st) ∧ ∃ o, ops[j]? = some o ∧ opAK P ops.toList o (schKK P ops K s') st
theorem anyAK_of_sch {P : Program} {ops : Array Oper} {K : St → Prop} (hcl : ∀ (i : Nat) (o : Oper), ops[i]? = some o → quiet o = true ∨ loud o = true) : ∀ (s : Sch) (f : Nat) (listed : Array Bool) (st : St), schOK ops f listed s = true → robless s = true → schKK P ops K s st → anyAK P ops K f listed st
  | .done, f, listed, st, hc, _, h => by
    have hr : Region.ready .any ops listed = [] := by
      cases f <;> simpa [schOK] using hc
    cases f with
    | zero => exact ⟨hr, h⟩
    | succ f => exact ⟨fun _ => h, by rw [hr]; simp⟩
  | .one rob i s, 0, listed, st, hc, _, h => by simp [schOK] at hc
  | .one rob i s, f + 1, listed, st, hc, hb, h => by
    obtain ⟨o, h1, h2, h4⟩ := h
    simp only [robless, Bool.and_eq_true, Bool.not_eq_true'] at hb
    simp only [schOK, h1, Bool.and_eq_true] at hc
    obtain ⟨⟨⟨⟨c1, c2⟩, c3⟩, c4, c5⟩, c6⟩ := hc
    obtain ⟨d, g1, g3⟩ := Gives.of c1 h2 h4
    refine anyAK_first (W := fun j => (waits ops listed i 1 (Array.replicate ops.size false)).getD j false = true) (d := d) h1 c1 f listed st (waitsOK_spec c4) ?_ (by simpa using c3) g1 (anyAK_of_sch hcl s f _ _ c6 hb.2 g3)
    intro j oj hj hne hun hnw
    simp only [freeOK, List.all_eq_true, List.mem_range] at c5
    have := c5 j (Array.getElem?_eq_some_iff.1 hj).1
    simp only [hj, Bool.or_eq_true, beq_iff_eq, hne, false_or, hun, Bool.false_eq_true, Bool.and_eq_true] at this
    rcases this with h | ⟨⟨h5, h6⟩, h7⟩
    · exact absurd h hnw
    · rw [hb.1] at h7
      exact ⟨h5, h7.resolve_left (by decide)⟩
  | .only i s, 0, listed, st, hc, _, h => by simp [schOK] at hc
  | .only i s, f + 1, listed, st, hc, hb, h => by
    obtain ⟨o, h1, h2⟩ := h
    simp only [schOK, Bool.and_eq_true, beq_iff_eq] at hc
    obtain ⟨c1, c2⟩ := hc
    refine ⟨(fun hr => by rw [c1] at hr; cases hr), fun j hj o' ho' => ?_⟩
    rw [c1] at hj
    have : j = i := by simpa using hj
    subst this
    rw [h1] at ho'; cases ho'
    exact opAK_mono (fun s' hs' => anyAK_of_sch hcl s f _ _ c2 hb hs') h2 (hcl _ _ h1)
  | .two i j s s', 0, listed, st, hc, _, h => by simp [schOK] at hc
  | .two i j s s', f + 1, listed, st, hc, hb, h => by
    obtain ⟨⟨o, h1, h2⟩, o2, h3, h4⟩ := h
    simp only [robless, Bool.and_eq_true] at hb
    simp only [schOK, Bool.and_eq_true, beq_iff_eq] at hc
    obtain ⟨⟨c1, c2⟩, c3⟩ := hc
    refine ⟨(fun hr => by rw [c1] at hr; cases hr), fun m hm o' ho' => ?_⟩
    rw [c1] at hm
    have : m = i ∨ m = j := by simpa using hm
    rcases this with rfl | rfl
    · rw [h1] at ho'; cases ho'
      exact opAK_mono (fun s' hs' => anyAK_of_sch hcl s f _ _ c2 hb.1 hs') h2 (hcl _ _ h1)
    · rw [h3] at ho'; cases ho'
      exact opAK_mono (fun s'' hs' => anyAK_of_sch hcl s' f _ _ c3 hb.2 hs') h4 (hcl _ _ h3)
-- the walk's rules
def op1K (P : Program) (o : Oper) (st : St) [all : KL] [K : KN] : Prop := opAK P all.l o K.f st
def schKI (P : Program) (s : Sch) (st : St) [all : KL] [K : KN] : Prop := schKK P all.l.toArray K.f s st
theorem awpS_draw {P : Program} {N R : St → Prop} {X : Nat → St → Prop} {st : St} {id : Nat} {l : List Oper} (s : Sch) (hm : P.follows .mixedOrders = true) (hk : allKnown l = true) (hc : schOK l.toArray l.length (Array.replicate l.length false) s = true) (hb : robless s = true)
    (h : @schKI P s st ⟨l⟩ ⟨N⟩) : awpS P (.region id l.toArray true) N X R st := by
  have := anyAK_of_sch (P := P) (K := N) (ops := l.toArray) (fun i o ho => ?_) s l.length _ st hc hb h
  · intro J0 ρ J B w0 a w hs
    refine wp_region_any hm (anyAK_sound (fun a' w' h' => h') _ _ st ρ J a _ ?_ (hs.grow (Below.refl w.heap.size w).drew (fun _ h => h) fun b hb => .inl hb))
    simpa using this
  · simp only [allKnown, List.all_eq_true, Bool.or_eq_true] at hk
    refine hk o (List.mem_of_getElem? (i := i) ?_)
    simpa using ho
section
variable {P : Program} {st : St} {all : KL} {K : KN} {i j n : Nat} {s s' : Sch} {dst : Option Tmp} {ty : TypeId} {pos : String} {af : Array Edge} {g : Option (Nat × Bool)} {t : TypeId}
theorem schKI_done : @schKI P .done st all K = K.f st := (rfl)
theorem opAK_ops {o : Oper} {K : St → Prop} : opAK P all.l.toArray.toList o K st = @op1K P o st all ⟨K⟩ := (rfl)
theorem schKI_one {rob : Bool} : @schKI P (.one rob i s) st all K = @bindI _ (all.l[i]?) ⟨fun o => @reqI (qok o st.ev = true) ⟨@op1I P o st all ⟨fun s' => @schKI P s s' all K⟩⟩⟩ := by
  apply propext
  simp only [bindI, bindP_eq, reqI, schKI, schKK, ← opA_ops, List.getElem?_toArray]
theorem schKI_only : @schKI P (.only i s) st all K = @bindI _ (all.l[i]?) ⟨fun o => @op1K P o st all ⟨fun s' => @schKI P s s' all K⟩⟩ := by
  apply propext
  simp only [bindI, bindP_eq, schKI, schKK, ← opAK_ops, List.getElem?_toArray]
theorem schKI_two (h1 : @bindI _ (all.l[i]?) ⟨fun o => @op1K P o st all ⟨fun t => @schKI P s t all K⟩⟩) (h2 : @bindI _ (all.l[j]?) ⟨fun o => @op1K P o st all ⟨fun t => @schKI P s' t all K⟩⟩) : @schKI P (.two i j s s') st all K := by
  simp only [bindI, bindP_eq, ← opAK_ops] at h1 h2
  simp only [schKI, schKK, List.getElem?_toArray]
  exact ⟨h1, h2⟩
theorem op1K_buildSlice {l : List (Nat × Operand)} : @op1K P ⟨dst, .buildSlice t n l.toArray, ty, pos, af, none⟩ st all K = (okDst st dst ∧ @bindI _ (elT P t) ⟨fun e => @reqI (0 < P.cellsOf e ∧ n * P.cellsOf e ≤ 16777216 ∧ 0 < n ∧ (l.map fun p => (p.1, st.ev p.2)).length = n ∧ inOrder 0 (l.map fun p => (p.1, st.ev p.2)) = true ∧ (∀ p ∈ l.map fun p => (p.1, st.ev p.2), p.2.storable = true ∧ p.2.width = P.cellsOf e) ∧ (zeroT P e).isSome = true ∧ D.kills (dstOf dst) ((l.map fun p => (p.1, st.ev p.2)).map (·.2)) = (l.map fun p => (p.1, st.ev p.2)).map (·.2))
    ⟨K.f (((st.killed (dstOf dst)).obj (dstOf dst) ⟨e, P.cellsOf e, (l.map fun p => (p.1, st.ev p.2)).map (·.2)⟩).put dst (.ref (dstOf dst) n))⟩⟩) := by
  apply propext
  show (none = none ∧ okDst st dst ∧ opBuildSliceK P t n _ (dstOf dst) _ st) ↔ _
  simp only [bindI, bindP_eq, reqI, opBuildSliceK, true_and, and_assoc]
theorem op1K_load {t : TypeId} {x : Operand} : @op1K P ⟨dst, .load t x, ty, pos, af, g⟩ st all K = @op1I P ⟨dst, .load t x, ty, pos, af, g⟩ st all K := (rfl)
theorem op1K_store {t : TypeId} {x y : Operand} : @op1K P ⟨dst, .store t x y, ty, pos, af, g⟩ st all K = @op1I P ⟨dst, .store t x y, ty, pos, af, g⟩ st all K := (rfl)
theorem op1K_move {x : Operand} : @op1K P ⟨dst, .move x, ty, pos, af, g⟩ st all K = @op1I P ⟨dst, .move x, ty, pos, af, g⟩ st all K := (rfl)
theorem op1K_call {c : Call} : @op1K P ⟨dst, .call c, ty, pos, af, g⟩ st all K = @op1I P ⟨dst, .call c, ty, pos, af, g⟩ st all K := (rfl)
theorem op1K_fieldAddr {t : TypeId} {x : Operand} {k : Nat} : @op1K P ⟨dst, .fieldAddr t x k, ty, pos, af, g⟩ st all K = @op1I P ⟨dst, .fieldAddr t x k, ty, pos, af, g⟩ st all K := (rfl)
theorem op1K_indexAddr {t : TypeId} {x y : Operand} : @op1K P ⟨dst, .indexAddr t x y, ty, pos, af, g⟩ st all K = @op1I P ⟨dst, .indexAddr t x y, ty, pos, af, g⟩ st all K := (rfl)
end
theorem awpS_block {P : Program} {c : Code} {N R : St → Prop} {X : Nat → St → Prop} {st : St} {id : Nat} (h : awpS P c N (fun i s => if i = id then N s else X i s) R st) : awpS P (.block id c) N X R st := by
  intro J0 ρ J B w0 a w hs
  refine wp_block (wp_mono (h J0 ρ J B w0 a w hs) ?_)
  rintro e a' w' he
  cases e with
  | exit i =>
    simp only [Exit.inBlock]
    by_cases hi : i = id
    · rw [if_pos hi]
      refine SimE.mono (show SimE J0 B w0 _ a' w' from he) fun s hs' => ?_
      simp only [if_pos hi] at hs'
      exact hs'
    · rw [if_neg hi]
      refine SimE.mono (show SimE J0 B w0 _ a' w' from he) fun s hs' => ?_
      simp only [if_neg hi] at hs'
      exact hs'
  | normal => exact he
  | ret => exact he
  | goto l => exact he.elim
  | panic c => exact he.elim
  | outgrown => exact he.elim
theorem awpS_loop {P : Program} {c : Code} {N R : St → Prop} {X : Nat → St → Prop} {st : St} (I : Nat → St → Prop) (n0 : Nat) (s : St) (hw : Weak st s) (hI : I n0 s)
    (hround : ∀ n s, I n s → awpS P c (fun s' => ∃ m s'', m < n ∧ Weak s' s'' ∧ I m s'') X R s) : awpS P (.loop c) N X R st := by
  intro J0 ρ J B w0 a w hs
  obtain ⟨ρ1, J1, hs1⟩ := hw J0 ρ J B w0 a w hs
  have key : ∀ n a w, (∃ s ρ J, I n s ∧ Sim J0 ρ J B w0 s a w) → ∀ (b : Frame) (k : List Item) (cs : List Frame),
      ∃ e a' w', ends J0 B w0 N X R e a' w' ∧ Arrives P (lone (b.at a (.code c :: .inLoop c :: k)) cs w) b k cs e a' w' := by
    intro n
    induction n using Nat.strongRecOn with
    | _ n ihn =>
      rintro a w ⟨s, ρ, J, hI, hs⟩ b k cs
      obtain ⟨e, a₁, w₁, hq, harr⟩ := hround n s hI J0 ρ J B w0 a w hs b (.inLoop c :: k) cs
      cases e with
      | normal =>
        obtain ⟨s', ρ', J', ⟨m, s'', hlt, hw', hI'⟩, hs'⟩ := hq
        obtain ⟨ρ'', J'', hs''⟩ := hw' J0 ρ' J' B w0 a₁ w₁ hs'
        obtain ⟨e₂, a₂, w₂, hq₂, harr₂⟩ := ihn m hlt a₁ w₁ ⟨s'', ρ'', J'', hI', hs''⟩ b k cs
        exact ⟨e₂, a₂, w₂, hq₂, .of_steps (Steps.trans harr (.one step_inLoop)) harr₂⟩
      | exit id => exact ⟨.exit id, a₁, w₁, hq, .pass (x := .inLoop c) rfl (fun _ _ => .inl (by simp)) harr⟩
      | ret => exact ⟨.ret, a₁, w₁, hq, .pass (x := .inLoop c) rfl (fun _ _ => .inl (by simp)) harr⟩
      | goto l => exact hq.elim
      | panic ch => exact hq.elim
      | outgrown => exact hq.elim
  intro b k cs
  obtain ⟨e, a', w', hq, harr⟩ := key n0 a w ⟨s, ρ1, J1, hI, hs1⟩ b k cs
  exact ⟨e, a', w', hq, .of_steps (.one step_loop) harr⟩
/-- A loop that counts up to n. -/
theorem awpS_for {P : Program} {c : Code} {N R : St → Prop} {X : Nat → St → Prop} {st : St} (n : Nat) (Q : Nat → Prop) (V : Nat → List (Nat × D)) (W : Nat → List (Nat × Own)) (keep hkeep : List Nat) (s0 : St) (hw : Weak st s0)
    (hQ : Q 0) (hV : Slots s0 (V 0)) (hW : Heaps s0 (W 0))
    (hr : ∀ k s, k ≤ n → Q k → AtL V W keep hkeep s0 k s → awpS P c (fun s => @AgI s ⟨AgainW (fun k => n - k) (fun k => k ≤ n ∧ Q k) V W keep hkeep s0 k⟩) X R s) : awpS P (.loop c) N X R st := by
  refine awpS_loop (fun m s => ∃ x, m = n - x ∧ (x ≤ n ∧ Q x) ∧ AtL V W keep hkeep s0 x s) (n - 0) s0 hw ⟨0, rfl, ⟨Nat.zero_le _, hQ⟩, rfl, hV, hW, KeepS_refl _ _, KeepH_refl _ _⟩ ?_
  rintro m s ⟨x, rfl, hq, hs⟩
  have key := hr x s hq.1 hq.2 hs
  have e : (fun s => @AgI s ⟨AgainW (fun k => n - k) (fun k => k ≤ n ∧ Q k) V W keep hkeep s0 x⟩) = fun s' => ∃ m s'', m < n - x ∧ Weak s' s'' ∧ ∃ x', m = n - x' ∧ (x' ≤ n ∧ Q x') ∧ AtL V W keep hkeep s0 x' s'' := by
    funext s'
    apply propext
    constructor
    · rintro ⟨x', s'', h1, h2, h3, h4⟩; exact ⟨n - x', s'', h1, h3, x', rfl, h2, h4⟩
    · rintro ⟨m, s'', h1, h3, x', rfl, h2, h4⟩; exact ⟨x', s'', h1, h2, h3, h4⟩
  rw [e] at key
  exact key
theorem awpS_mono {P : Program} {c : Code} {N N' R : St → Prop} {X : Nat → St → Prop} {st : St} (h : awpS P c N X R st) (hN : ∀ s, N s → N' s) : awpS P c N' X R st := by
  intro J0 ρ J B w0 a w hs
  refine wp_mono (h J0 ρ J B w0 a w hs) ?_
  rintro e a' w' he
  cases e with
  | normal => exact SimE.mono (show SimE J0 B w0 N a' w' from he) hN
  | exit id => exact he
  | ret => exact he
  | goto l => exact he.elim
  | panic c => exact he.elim
  | outgrown => exact he.elim
theorem awpS_last {P : Program} {c : Code} {N R : St → Prop} {X : Nat → St → Prop} {st : St} (h : @awpI P c st ⟨N⟩ ⟨X⟩ ⟨R⟩) : awpS P c N X R st := awpS_of h
theorem ToN.agg {base n S : Nat} {l l' : List D} (h : ToNs base n S l l') : ToN base n S (.agg l) (.agg l') := fun ρ ρ' J w y h1 h2 hy => by
  obtain ⟨vs, q1, q2, q3⟩ := hy
  exact ⟨vs, q1, ToNs.rel h1 h2 h q2, q3⟩
theorem ToNs.app {base n S : Nat} : ∀ {l l' m m' : List D}, ToNs base n S l l' → ToNs base n S m m' → ToNs base n S (l ++ m) (l' ++ m')
  | [], [], _, _, _, h => h
  | _ :: _, _ :: _, _, _, h1, h => ⟨h1.1, ToNs.app h1.2 h⟩
  | [], _ :: _, _, _, h, _ => h.elim
  | _ :: _, [], _, _, h, _ => h.elim
/-- A nil list within a thing that is owned becomes a list with nothing in it. -/
theorem Weak.adoptAgg {st : St} {ob id S So : Nat} {e eo : TypeId} (A B : List D) (l : List (Nat × D)) (lh : List (Nat × Own)) (hS : 0 < S) (hob : ob < id) (hl : Slots st l) (hok : l.all (fun p => okTo id p.2) = true)
    (hlh : Heaps st lh) (hlo : lh.all (fun p => decide (p.1 < id) && okTos id p.2.els) = true) (ho : st.H ob = some ⟨eo, So, [.agg (A ++ .v (.slice none 0 0) :: B)]⟩) (hA : D.noRefs A = true) (hB : D.noRefs B = true) :
    Weak st ⟨pickT l, fun m => if m = ob then some ⟨eo, So, [.agg (A ++ .ref id 0 :: B)]⟩ else if m = id then some ⟨e, S, []⟩ else pickH lh m, st.n⟩ := by
  refine Weak.adopts id 1 S e hS rfl (fun k => ?_) fun m o' hm => ?_
  · rcases pickT_of (k := k) hl hok with q | ⟨q, q2⟩
    · show ToN _ _ _ _ (pickT l k); rw [q]; exact ToN.any
    · show ToN _ _ _ _ (pickT l k); rw [q]; exact okTo.to q2
  · simp only at hm
    by_cases h1 : m = ob
    · rw [if_pos h1] at hm; cases hm
      refine .inr ⟨by omega, ⟨eo, So, [.agg (A ++ .v (.slice none 0 0) :: B)]⟩, by rw [h1]; exact ho, rfl, rfl, ?_⟩
      exact ⟨ToN.agg (ToNs.app (ToNs.plain hA) ⟨ToN.nil (i := 0) (by omega), ToNs.plain hB⟩), trivial⟩
    · rw [if_neg h1] at hm
      by_cases h2 : m = id
      · rw [if_pos h2] at hm; cases hm
        exact .inl ⟨by omega, by omega, rfl⟩
      · rw [if_neg h2] at hm
        obtain ⟨q1, q2, q3⟩ := pickH_of hlh hlo hm
        exact .inr ⟨by omega, o', q2, rfl, rfl, okTos.to q3⟩
theorem regS_pre {P : Program} {ops : Array Oper} {rest : List Oper} {N : St → Prop} {K : St → Prop} (hK : ∀ s, K s → regS P ops rest N s) : ∀ (l : List Oper) (st : St), aops P ops.toList l K st → regS P ops (l ++ rest) N st
  | [], st, h => hK st h
  | o :: l, st, h => by
    intro J0 ρ J B w0 a w Q hs hk
    show wpList P ops Q (o :: (l ++ rest)) a w
    unfold wpList
    have := opAM_sound (Q := Q) (ops := ops) h hs fun a' w' ⟨st', ρ', J', h5, h6⟩ => regS_pre hK l st' h5 J0 ρ' J' B w0 a' w' Q h6 hk
    split
    · rename_i hw
      rw [if_pos hw] at this
      exact .inl this
    · rename_i hw
      rw [if_neg hw] at this
      exact this
/-- A region in which one operation is taken by what the machine does. -/
theorem awpS_oneOf {P : Program} {id : Nat} {N R : St → Prop} {X : Nat → St → Prop} {st : St} {all : List Oper} (k : Nat) (pre post : List Oper) {o : Oper} (ha : all = pre ++ o :: post) (hg : o.guard = none)
    (h : @opsI P pre st ⟨all⟩ ⟨fun s => okDst s o.dst ∧ OpX P o (fun s' x => @opsI P post (s'.put o.dst x) ⟨all⟩ ⟨N⟩) s⟩) : awpS P (.region id all.toArray false) N X R st := by
  refine awpS_region ?_
  show regS P all.toArray all N st
  conv => arg 3; rw [ha]
  refine regS_pre (K := fun s => okDst s o.dst ∧ OpX P o (fun s' x => @opsI P post (s'.put o.dst x) ⟨all⟩ ⟨N⟩) s) (fun s hs => regS_op hg hs.1 ?_) pre st h
  intro J0 ρ J B w0 a w hsim Kc Q hKc
  exact hs.2 J0 ρ J B w0 a w hsim Kc Q fun st' ρ' J' x y w' k1 k2 k3 k4 => hKc st' ρ' J' x y w' (regS_of k1) k2 k3 k4
theorem awpS_nth {P : Program} {id : Nat} {N R : St → Prop} {X : Nat → St → Prop} {st : St} {all : List Oper} (k : Nat) {o : Oper} (ho : all[k]? = some o) (hg : o.guard = none)
    (h : @opsI P (all.take k) st ⟨all⟩ ⟨fun s => okDst s o.dst ∧ OpX P o (fun s' x => @opsI P (all.drop (k + 1)) (s'.put o.dst x) ⟨all⟩ ⟨N⟩) s⟩) : awpS P (.region id all.toArray false) N X R st := by
  refine awpS_oneOf k (all.take k) (all.drop (k + 1)) ?_ hg h
  obtain ⟨hlt, he⟩ := List.getElem?_eq_some_iff.1 ho
  rw [← he, List.getElem_cons_drop, List.take_append_drop]
theorem idss_plain : ∀ {l : List D}, D.noRefs l = true → D.idss l = []
  | [], _ => rfl
  | d :: l, h => by
    simp only [D.noRefs, Bool.and_eq_true] at h
    show d.ids ++ D.idss l = []
    rw [D.noRef_ids d h.1, idss_plain h.2]; rfl
/-- A call with plain arguments of a function that hands over many things. -/
theorem opX_callM0 {P : Program} {o : Oper} {f : Operand} {args : Array Operand} {ts : Array TypeId} {st : St} {K : St → D → Prop} {g : FuncId} {al as : List D} {R : D → (Nat → Option Own) → Prop} (base : Nat) (l : List (Nat × D)) (lh : List (Nat × Own))
    (ho : o.op = .call { callee := .value f, args := args, argTypes := ts }) (hf : st.ev f = .clos (.func g) []) (ha : args.toList.map st.ev = al) (hn : D.noRefs al = true) (has : D.nrms al = as) (hF : FunM P g as R)
    (hl : Slots st l) (hok : l.all (fun q => okTo base q.2) = true) (hlh : Heaps st lh) (hlo : lh.all (fun q => decide (q.1 < base) && okTos base q.2.els) = true)
    (hge : ∀ r H, R r H → geTo base r = true ∧ ∀ i o, H i = some o → base ≤ i ∧ geTos base o.els = true)
    (hK : ∀ r H, R r H → K ⟨pickT l, fun m => if m < base then pickH lh m else H m, st.n⟩ r) : OpX P o K st := by
  refine opX_callM (caps := []) (p := (st, al)) base l lh ho hf ?_ hn has hF hl hok hlh hlo hge hK
  rw [ha, List.append_nil, idss_plain hn]; rfl
/-- A call that only looks at what is owned, as it reads where that is given up; its result names nothing. -/
theorem opX_peek {P : Program} {o : Oper} {f : Operand} {args : Array Operand} {ts : Array TypeId} {st st2 : St} {K : St → D → Prop} {g : FuncId} {as : List D} {p : St × List D} {R : D → Prop} (hw : Weak st st2)
    (ho : o.op = .call { callee := .value f, args := args, argTypes := ts }) (hf : st2.ev f = .clos (.func g) []) (hz : frzAll (D.idss (args.toList.map st2.ev)) st2 (args.toList.map st2.ev) = some p) (hn : D.noRefs p.2 = true) (has : D.nrms p.2 = as)
    (hF : Fun P g as R) (hfl : ∀ r, R r → r.flat = true) (hK : ∀ r, R r → K st r) : OpX P o K st := by
  intro J0 ρ J B w0 a w hs Kc Q hKc
  obtain ⟨ρ2, J2, hs2⟩ := hw J0 ρ J B w0 a w hs
  have hc := hs2.ev f
  rw [hf] at hc
  obtain ⟨cs, hev, hcs⟩ := hc
  have hrun : callable P g = true → (execOp a.eval o).run P w = .ok (.enter g (args.toList.map a.eval ++ cs).toArray) w := by
    intro hcal
    unfold callable at hcal
    split at hcal
    · rename_i fn hfn
      simp only [Bool.and_eq_true, bne_iff_ne, ne_eq] at hcal
      obtain ⟨hn, hb⟩ := hcal
      have hb' : fn.body.isNone = false := by cases hb2 : fn.body <;> simp [hb2] at hb ⊢
      simp only [execOp, ho, resolve, hev, Deferred.ofValue, Sem.run_bind, Sem.run_pure, Result.andThen_ok, invoke, callFunc, run_program, hfn]
      simp [hn, hb']
    · cases hcal
  have hcs0 : cs = [] := hcs
  rw [hcs0, List.append_nil] at hrun
  obtain ⟨J', h5, h6, h7, h8⟩ := frzAll_sim _ J2 st2 _ _ p hs2 (RelDs_ev hs2.ev args.toList) hz
  have hP := (RelDs.toP h7 hn).nrm
  rw [has] at hP
  obtain ⟨hcal, hfun⟩ := hF
  unfold Oper.wp
  rw [hrun hcal]
  have hcall := hfun J' w _ h6.lt h6.glob hP
  show Calls P g _ w _
  refine hcall.mono ?_
  rintro e w' ⟨y, r, rfl, hr, hb, hy⟩
  exact hKc st ρ J r y w' (hK r hr) rfl (hs.grow hb (fun _ h => h) fun b hb => .inl hb) ((RelP.flat_mono hy (hfl r hr)).toD)
theorem opX_look {P : Program} {o : Oper} {f : Operand} {args : Array Operand} {ts : Array TypeId} {st st2 : St} {K : St → D → Prop} {g : FuncId} {as : List D} {R : D → Prop} (hw : Weak st st2)
    (ho : o.op = .call { callee := .value f, args := args, argTypes := ts }) (hf : st2.ev f = .clos (.func g) []) (h : @bindI _ (frzAll (D.idss (args.toList.map st2.ev)) st2 (args.toList.map st2.ev)) ⟨fun p => D.noRefs p.2 = true ∧ D.nrms p.2 = as⟩)
    (hF : Fun P g as R) (hfl : ∀ r, R r → r.flat = true) (hK : ∀ r, R r → K st r) : OpX P o K st := by
  unfold bindI at h
  rw [bindP_eq] at h
  obtain ⟨p, h1, h2, h3⟩ := h
  exact opX_peek hw ho hf h1 h2 h3 hF hfl hK
/-- A list that has just been put into a list of lists is named anew. -/
theorem Weak.moveRefV {st : St} {ob base m i0 So : Nat} {eo : TypeId} {R : List D} (g : Nat → Nat) (f : Nat → Own) (o : Own) (l : List (Nat × D)) (lh : List (Nat × Own)) (hob : ob < base) (hi0 : i0 < base) (hl : Slots st l) (hok : l.all (fun p => okTo base p.2) = true)
    (hlh : Heaps st lh) (hlo : lh.all (fun p => decide (p.1 < base) && okTos base p.2.els) = true) (hni : lh.all (fun p => !(p.1 == i0)) = true) (hne : i0 ≠ ob) (ho : st.H ob = some ⟨eo, So, ((List.range m).map fun i => .ref (base + i) (g i)) ++ .ref i0 (g m) :: R⟩) (hR : D.noRefs R = true)
    (hf : ∀ i, i < m → st.H (base + i) = some (f i)) (hfn : ∀ i, i < m → D.noRefs (f i).els = true) (hi : st.H i0 = some o) (hon : D.noRefs o.els = true) :
    Weak st ⟨pickT l, fun x => if x = ob then some ⟨eo, So, ((List.range (m + 1)).map fun i => .ref (base + i) (g i)) ++ R⟩ else if base ≤ x ∧ x < base + m then some (f (x - base)) else if x = base + m then some o else pickH lh x, st.n⟩ := by
  refine Weak.move i0 (base + m) rfl (fun k => ?_) fun x o' hx => ?_
  · rcases pickT_of (k := k) hl hok with q | ⟨q, q2⟩
    · show ToM _ _ _ (pickT l k); rw [q]; exact ToM.any
    · show ToM _ _ _ (pickT l k); rw [q]; exact okTo.toM (by omega) q2
  · simp only at hx
    by_cases h1 : x = ob
    · rw [if_pos h1] at hx; cases hx
      refine ⟨.inr (by omega), ⟨eo, So, ((List.range m).map fun i => .ref (base + i) (g i)) ++ .ref i0 (g m) :: R⟩, by rw [if_neg (by omega), h1]; exact ho, rfl, rfl, ?_⟩
      show ToMs _ _ (((List.range m).map fun i => .ref (base + i) (g i)) ++ .ref i0 (g m) :: R) (((List.range (m + 1)).map fun i => .ref (base + i) (g i)) ++ R)
      rw [List.range_succ, List.map_append, List.append_assoc]
      exact ToMs.app (ToMs.range fun k hk => ToM.ref (by have := List.mem_range.1 hk; omega)) ⟨ToM.refTo, ToMs.plain hR⟩
    · rw [if_neg h1] at hx
      by_cases h2 : base ≤ x ∧ x < base + m
      · rw [if_pos h2] at hx; cases hx
        refine ⟨.inr (by omega), _, by rw [if_neg (by omega)]; have := hf (x - base) (by omega); rw [show base + (x - base) = x by omega] at this; exact this, rfl, rfl, ToMs.plain (hfn _ (by omega))⟩
      · rw [if_neg h2] at hx
        by_cases h3 : x = base + m
        · rw [if_pos h3] at hx; cases hx
          exact ⟨.inl h3, _, by rw [if_pos h3]; exact hi, rfl, rfl, ToMs.plain hon⟩
        · rw [if_neg h3] at hx
          obtain ⟨q1, q2, q3⟩ := pickH_of hlh hlo hx
          have hxi : x ≠ i0 := by
            rintro rfl
            clear hlh hlo q1 q2 q3
            induction lh with
            | nil => cases hx
            | cons p lh ih =>
              rw [List.all_cons, Bool.and_eq_true] at hni
              unfold pickH at hx
              by_cases q : x = p.1
              · have := hni.1; simp [q] at this
              · rw [if_neg q] at hx; exact ih hx hni.2
          exact ⟨.inr hxi, _, by rw [if_neg h3]; exact q2, rfl, rfl, okTos.toM (by omega) q3⟩
attribute [go_sem] schKI_done schKI_one schKI_only op1K_buildSlice op1K_load op1K_store op1K_move op1K_call op1K_fieldAddr op1K_indexAddr
end Go.VL

end
section
set_option linter.unusedVariables false
/- Two lists of one result, handed over. -/
namespace Go.VL
open Go Go.RowKit
theorem ToMs.of {i j : Nat} : ∀ {l l' : List D}, l.length = l'.length → (∀ (k : Nat) (d d' : D), l[k]? = some d → l'[k]? = some d' → ToM i j d d') → ToMs i j l l'
  | [], [], _, _ => trivial
  | d :: l, d' :: l', hl, h => ⟨h 0 d d' rfl rfl, ToMs.of (by simpa using hl) fun k x x' hx hx' => h (k + 1) x x' hx hx'⟩
  | [], _ :: _, hl, _ => by cases hl
  | _ :: _, [], hl, _ => by cases hl
/-- An operation that is asked for, since its guard holds. -/
theorem regS_opG {P : Program} {ops : Array Oper} {o : Oper} {l : List Oper} {N : St → Prop} {st : St} {j d : Nat} {want : Bool} (hg : o.guard = some (j, want)) (hj : guardOf ops.toList j = some d) (hn : d < st.n) (ht : st.t d = .v (.bool want)) (hd : okDst st o.dst)
    (h : OpX P o (fun s x => regS P ops l N (s.put o.dst x)) st) : regS P ops (o :: l) N st := by
  intro J0 ρ J B w0 a w Q hs hk
  unfold wpList
  have hsl := hs.slots d
  rw [ht] at hsl
  have hlt : d < a.tmps.size := by rw [hs.size]; exact hn
  have h1' : (ops[j]?).bind (·.dst) = some d := by simpa [guardOf] using hj
  have hv : a.tmps[d]? = some (.bool want) := by
    have := hsl.1
    simpa [hlt] using this
  have hy : yielded ops a.tmps j = some want := by
    unfold yielded
    rw [h1']
    simp [hv]
  rw [if_pos (by simp [Region.wanted, hg, hy])]
  refine .inl (h J0 ρ J B w0 a w hs _ Q fun st' ρ' J' x y w' hK hn hs' hx => ?_)
  refine hK J0 ρ' J' B w0 _ _ Q (hs'.put o.dst (fun d hd' => ?_) hx) hk
  rw [hd'] at hd
  rw [hn]; exact hd
theorem awpS_nthG {P : Program} {id : Nat} {N R : St → Prop} {X : Nat → St → Prop} {st : St} {all : List Oper} (k : Nat) {o : Oper} {j d : Nat} {want : Bool} (ho : all[k]? = some o) (hg : o.guard = some (j, want)) (hj : guardOf all j = some d)
    (h : @opsI P (all.take k) st ⟨all⟩ ⟨fun s => (d < s.n ∧ s.t d = .v (.bool want)) ∧ okDst s o.dst ∧ OpX P o (fun s' x => @opsI P (all.drop (k + 1)) (s'.put o.dst x) ⟨all⟩ ⟨N⟩) s⟩) : awpS P (.region id all.toArray false) N X R st := by
  obtain ⟨hlt, he⟩ := List.getElem?_eq_some_iff.1 ho
  have ha : all = all.take k ++ o :: all.drop (k + 1) := by rw [← he, List.getElem_cons_drop, List.take_append_drop]
  refine awpS_region ?_
  show regS P all.toArray all N st
  conv => arg 3; rw [ha]
  refine regS_pre (K := fun s => (d < s.n ∧ s.t d = .v (.bool want)) ∧ okDst s o.dst ∧ OpX P o (fun s' x => @opsI P (all.drop (k + 1)) (s'.put o.dst x) ⟨all⟩ ⟨N⟩) s) (fun s hs => regS_opG hg hj hs.1.1 hs.1.2 hs.2.1 ?_) (all.take k) st h
  intro J0 ρ J B w0 a w hsim Kc Q hKc
  exact hs.2.2 J0 ρ J B w0 a w hsim Kc Q fun st' ρ' J' x y w' k1 k2 k3 k4 => hKc st' ρ' J' x y w' (regS_of k1) k2 k3 k4
end Go.VL

end
