import Derived.Test.YtcbkeekldbggkaaLB
import Derived.ChangeArms
import Derived.Carry
import Derived.IntWalk
import Derived.RangeFuncRecord
import Derived.OwnWalkIn
import Derived.RangeFuncSeq
set_option linter.unusedSimpArgs false
set_option linter.unusedVariables false
section
/- What came in reads as a value without memory. -/
namespace Go.VL
open Go Go.RowKit

inductive Ty where
  | int (k : IntKind)
  | bool
  | sl (e : Ty)
  | st (l : List Ty)

mutual
def Ty.width : Ty → Nat
  | .st l => Ty.widths l
  | .int _ => 1
  | .bool => 1
  | .sl _ => 1
def Ty.widths : List Ty → Nat
  | [] => 0
  | e :: l => e.width + Ty.widths l
end

def isInt (P : Program) (t : TypeId) (k : IntKind) : Bool := match P.underlying t with | some (.int k') => k' == k | _ => false
def isBool (P : Program) (t : TypeId) : Bool := match P.underlying t with | some .bool => true | _ => false
def elemOf (P : Program) (t : TypeId) : Option TypeId := match P.underlying t with | some (.slice e) => some e | _ => none
def fieldsOf (P : Program) (t : TypeId) : Option (List Field) := match P.underlying t with | some (.struct fs) => some fs.toList | _ => none

mutual
def Ty.fits (P : Program) : Ty → TypeId → Bool
  | .int k, t => isInt P t k
  | .bool, t => isBool P t
  | .sl e, t => match elemOf P t with | some u => e.fits P u && decide (0 < P.cellsOf u) && P.cellsOf u == e.width | none => false
  | .st l, t => match fieldsOf P t with | some fs => Ty.fitss P l fs 0 && P.cellsOf t == Ty.widths l | none => false
def Ty.fitss (P : Program) : List Ty → List Field → Nat → Bool
  | [], [], _ => true
  | e :: l, f :: fs, o => e.fits P f.type && f.offset == o && P.cellsOf f.type == e.width && Ty.fitss P l fs (o + e.width)
  | _, _, _ => false
end

def Ty.wrap : Ty → List D → D
  | .st _, c => .agg c
  | _, c => c.headD .any
def Ty.wrapV : Ty → List Value → Value
  | .st _, c => .agg c.toArray
  | _, c => c.headD undef

mutual
def Ty.has : Ty → List D → Prop
  | .int k, ds => ∃ n, ds = [.v (.int k n)] ∧ (Lit.int k n).wf = true
  | .bool, ds => ∃ b, ds = [.v (.bool b)]
  | .sl e, ds => ∃ els : List (List D), ds = [.lst (els.map e.wrap)] ∧ ∀ c ∈ els, e.has c
  | .st l, ds => Ty.hass l ds
def Ty.hass : List Ty → List D → Prop
  | [], ds => ds = []
  | e :: l, ds => ∃ a b, ds = a ++ b ∧ e.has a ∧ Ty.hass l b
end

theorem RelPs_join {J : Nat → Prop} {w : World} : ∀ (l m : List D) (vs us : List Value), RelPs J w l vs → RelPs J w m us → RelPs J w (l ++ m) (vs ++ us)
  | [], m, vs, us, h, h' => by simp only [RelPs] at h; subst h; exact h'
  | d :: ds, m, vs, us, h, h' => by
    obtain ⟨x, xs, h1, h2, h3⟩ := h
    subst h1
    exact ⟨x, xs ++ us, rfl, h2, RelPs_join ds m xs us h3 h'⟩

theorem isInt_spec {P : Program} {t : TypeId} {k : IntKind} (h : isInt P t k = true) : P.underlying t = some (.int k) := by
  unfold isInt at h
  split at h
  · rename_i k' hk; rw [hk]; simp at h; rw [h]
  · cases h
theorem isBool_spec {P : Program} {t : TypeId} (h : isBool P t = true) : P.underlying t = some .bool := by
  unfold isBool at h
  split at h
  · assumption
  · cases h
theorem elemOf_spec {P : Program} {t e : TypeId} (h : elemOf P t = some e) : P.underlying t = some (.slice e) := by
  unfold elemOf at h
  split at h
  · rename_i k' hk; rw [hk]; simp at h; rw [h]
  · cases h
theorem fieldsOf_spec {P : Program} {t : TypeId} {l : List Field} (h : fieldsOf P t = some l) : ∃ fs, P.underlying t = some (.struct fs) ∧ fs.toList = l := by
  unfold fieldsOf at h
  split at h
  · rename_i fs hk; simp at h; exact ⟨fs, hk, h⟩
  · cases h

section
variable {H : Type} {enc : TypeId × Value → H} {P : Program} {w : World} {held : Bool}

/-- What reading a type's cells at this fuel tells. -/
def Reads (enc : TypeId × Value → H) (P : Program) (w : World) (held : Bool) (n : Nat) : Prop :=
  ∀ (ty : Ty) (t : TypeId) (cs : List Value) (x : DataW H × List MemPlace), ty.fits P t = true → DataW.trod enc P w 0 (fun _ => true) held n t cs = some x →
    ∃ ds, RelPs (Olds w) w ds cs ∧ ty.has ds ∧ cs.length = ty.width ∧ ds.length = ty.width ∧ ∀ c ∈ cs, c.oneCell' = true

theorem wrap_rel {J : Nat → Prop} {ty : Ty} {ds : List D} {cs : List Value} (h : RelPs J w ds cs) (h1 : cs.length = ty.width) (h2 : ∀ c ∈ cs, c.oneCell' = true) : RelP J w (ty.wrap ds) (ty.wrapV cs) ∧ (ty.wrapV cs).cells.toList = cs := by
  have one : ty.width = 1 → ty.wrap ds = ds.headD .any → ty.wrapV cs = cs.headD undef → RelP J w (ty.wrap ds) (ty.wrapV cs) ∧ (ty.wrapV cs).cells.toList = cs := by
    intro hw e1 e2
    rw [e1, e2]
    match cs, h1, h, h2 with
    | [c], _, h, h2 =>
      match ds, h with
      | [], h => cases (show [c] = [] from h)
      | [d], h =>
        obtain ⟨x, xs, h4, h5, h6⟩ := h
        cases h4
        exact ⟨h5, by simp [cells_of_one (h2 c (by simp))]⟩
      | d :: e :: r, h =>
        obtain ⟨x, xs, h4, h5, h6⟩ := h
        cases h4
        obtain ⟨y, ys, h7, _⟩ := h6
        cases h7
    | [], h1, _, _ => rw [hw] at h1; cases h1
    | _ :: _ :: _, h1, _, _ => rw [hw] at h1; simp at h1
  cases ty with
  | int k => exact one rfl rfl rfl
  | bool => exact one rfl rfl rfl
  | sl e => exact one rfl rfl rfl
  | st l => exact ⟨⟨cs, rfl, h, h2⟩, rfl⟩

theorem reads_fields {n : Nat} (hn : Reads enc P w held n) : ∀ (l : List Ty) (fs : List Field) (o : Nat) (cs : List Value), Ty.fitss P l fs o = true → o + Ty.widths l = cs.length →
    (∀ (i : Nat) (f : Field), fs[i]? = some f → ∃ x, DataW.trod enc P w 0 (fun _ => true) held n f.type ((cs.drop f.offset).take (P.cellsOf f.type)) = some x) →
    ∃ ds, RelPs (Olds w) w ds (cs.drop o) ∧ Ty.hass l ds ∧ ds.length = Ty.widths l ∧ ∀ c ∈ cs.drop o, c.oneCell' = true
  | [], [], o, cs, _, ho, _ => by
    have : cs.drop o = [] := List.drop_of_length_le (by simp [Ty.widths] at ho; omega)
    rw [this]
    exact ⟨[], rfl, rfl, rfl, by simp⟩
  | [], _ :: _, _, _, h, _, _ => by simp [Ty.fitss] at h
  | _ :: _, [], _, _, h, _, _ => by simp [Ty.fitss] at h
  | e :: l, f :: fs, o, cs, h, ho, hf => by
    simp only [Ty.fitss, Bool.and_eq_true, beq_iff_eq] at h
    obtain ⟨⟨⟨h1, h2⟩, h3⟩, h4⟩ := h
    obtain ⟨x, hx⟩ := hf 0 f rfl
    rw [h2, h3] at hx
    obtain ⟨d1, g1, g2, g3, g3', g4⟩ := hn e f.type _ x h1 hx
    simp only [Ty.widths] at ho
    obtain ⟨d2, k1, k2, k3, k4⟩ := reads_fields hn l fs (o + e.width) cs h4 (by omega) (fun i g hg => hf (i + 1) g (by simpa using hg))
    have e1 : cs.drop o = (cs.drop o).take e.width ++ cs.drop (o + e.width) := by
      rw [← List.drop_drop]; exact (List.take_append_drop _ _).symm
    refine ⟨d1 ++ d2, ?_, ⟨d1, d2, rfl, g2, k2⟩, by simp [Ty.widths, g3', k3], ?_⟩
    · rw [e1]; exact RelPs_join _ _ _ _ g1 k1
    · rw [e1]; intro c hc
      rcases List.mem_append.1 hc with hc | hc
      · exact g4 c hc
      · exact k4 c hc

theorem reads_all : ∀ n : Nat, Reads enc P w held n := by
  intro n
  induction n with
  | zero => intro ty t cs x _ h; simp [DataW.trod] at h
  | succ n ih =>
    intro ty t cs x hf h
    cases ty with
    | int k =>
      have hu := isInt_spec (by simpa [Ty.fits] using hf)
      obtain ⟨m, rfl, _, hw⟩ := DataW.trod_int hu h
      exact ⟨[.v (.int k m)], ⟨_, _, rfl, ⟨rfl, rfl⟩, rfl⟩, ⟨m, rfl, hw⟩, rfl, rfl, by simp [Value.oneCell']⟩
    | bool =>
      have hu := isBool_spec (by simpa [Ty.fits] using hf)
      obtain ⟨b, rfl, _⟩ := DataW.trod_bool hu h
      exact ⟨[.v (.bool b)], ⟨_, _, rfl, ⟨rfl, rfl⟩, rfl⟩, ⟨b, rfl⟩, rfl, rfl, by simp [Value.oneCell']⟩
    | st l =>
      simp only [Ty.fits] at hf
      split at hf
      · rename_i fs hfs
        simp only [Bool.and_eq_true, beq_iff_eq] at hf
        obtain ⟨fa, hu, rfl⟩ := fieldsOf_spec hfs
        obtain ⟨xs, m, hm, _, hl, hxl, hx⟩ := DataW.trod_struct hu h
        cases hm
        obtain ⟨ds, k1, k2, k3, k4⟩ := reads_fields ih l fa.toList 0 cs hf.1 (by rw [hl, hf.2]; omega) (fun i f hi => by
          have hi' : fa[i]? = some f := by simpa using hi
          have := hx i f hi'
          have hlt : i < xs.length := by rw [hxl]; exact (Array.getElem?_eq_some_iff.1 hi').1
          rw [List.getElem?_eq_getElem hlt] at this
          exact ⟨_, this⟩)
        simp only [List.drop_zero] at k1 k4
        exact ⟨ds, k1, k2, by rw [hl, hf.2]; rfl, k3, k4⟩
      · cases hf
    | sl e =>
      simp only [Ty.fits] at hf
      split at hf
      · rename_i u hu0
        simp only [Bool.and_eq_true, beq_iff_eq, decide_eq_true_eq] at hf
        obtain ⟨⟨hfe, hpos⟩, hS⟩ := hf
        have hu := elemOf_spec hu0
        rcases DataW.trod_slice hu h with ⟨rfl, _⟩ | ⟨a, len, cap, elems, rest, m, hm, rfl, _, hb, hl, hc, hlen, hel, _, _⟩
        · exact ⟨[.lst []], ⟨_, _, rfl, RelP_nil none, rfl⟩, ⟨[], rfl, by simp⟩, rfl, rfl, by simp [Value.oneCell']⟩
        · cases hm
          have each : ∀ i, i < len → ∃ cs ds, w.cells? 0 (a.add (i * P.cellsOf u)) (P.cellsOf u) = some cs ∧ RelPs (Olds w) w ds cs ∧ e.has ds ∧ cs.length = e.width ∧ ∀ c ∈ cs, c.oneCell' = true := by
            intro i hi
            have h1 := hel i hi
            rw [List.getElem?_eq_getElem (by omega), Option.bind_eq_some_iff] at h1
            obtain ⟨cs, h2, h3⟩ := h1
            obtain ⟨ds, k1, k2, k3, _, k4⟩ := ih e u cs _ hfe h3
            exact ⟨cs, ds, h2, k1, k2, k3, k4⟩
          have hch : ∃ (C : Nat → List Value) (E : Nat → List D), ∀ i, i < len → w.cells? 0 (a.add (i * P.cellsOf u)) (P.cellsOf u) = some (C i) ∧ RelPs (Olds w) w (E i) (C i) ∧ e.has (E i) ∧ (C i).length = e.width ∧ ∀ c ∈ C i, c.oneCell' = true := by
            refine ⟨fun i => if h : i < len then (each i h).choose else [], fun i => if h : i < len then (each i h).choose_spec.choose else [], fun i hi => ?_⟩
            simp only [hi, dif_pos]
            exact (each i hi).choose_spec.choose_spec
          obtain ⟨C, E, hCE⟩ := hch
          refine ⟨[.lst (((List.range len).map E).map e.wrap)], ⟨_, _, rfl, ?_, rfl⟩, ⟨(List.range len).map E, rfl, ?_⟩, rfl, rfl, by simp [Value.oneCell']⟩
          · have hlenE : (((List.range len).map E).map e.wrap).length = len := by simp
            refine ⟨some a, cap, (List.range len).map fun i => e.wrapV (C i), by rw [hlenE], by rw [hlenE]; exact hl, hc, by rw [hlenE]; exact Nat.le_trans hl hc, (fun h => by cases h), ?_, ?_⟩
            · rw [List.map_map]
              have : ∀ (l : List Nat), (∀ i ∈ l, i < len) → RelPs (Olds w) w (l.map (e.wrap ∘ E)) (l.map fun i => e.wrapV (C i)) := by
                intro l
                induction l with
                | nil => intro _; rfl
                | cons i l ihl =>
                  intro hi
                  obtain ⟨_, k2, _, k4, k5⟩ := hCE i (hi i (by simp))
                  exact ⟨_, _, rfl, (wrap_rel k2 k4 k5).1, ihl fun j hj => hi j (by simp [hj])⟩
              exact this _ (fun i hi => by simpa using hi)
            · by_cases h0 : len = 0
              · left; subst h0; simp
              · right
                have hcell : ∀ i, i < len → ∀ r, r < P.cellsOf u → w.cell? (a.add (i * P.cellsOf u + r)) = (C i)[r]? := by
                  intro i hi r hr
                  have := (World.cells?_some (hCE i hi).1).2.2 r hr
                  rw [← this]
                  congr 1
                  unfold Addr.add
                  repeat' split
                  all_goals first | rfl | (simp_all; done) | (simp; omega)
                have hz := hcell 0 (by omega) 0 hpos
                have hl0 : (C 0).length = P.cellsOf u := by rw [(hCE 0 (by omega)).2.2.2.1, hS]
                have hlt : 0 < (C 0).length := by omega
                rw [List.getElem?_eq_getElem hlt] at hz
                have hsp := World.cell?_spot hz
                obtain ⟨b, off, spot⟩ := a
                have hs : spot = none := by
                  have : (Addr.add ⟨b, off, spot⟩ (0 * P.cellsOf u + 0)) = ⟨b, off, spot⟩ := by simp [Addr.add]
                  rw [this] at hsp; exact hsp
                subst hs
                have hadd : ∀ j, (⟨b, off, none⟩ : Addr).add j = ⟨b, off + j, none⟩ := by
                  intro j; unfold Addr.add; split <;> simp_all
                refine ⟨b, off, rfl, ?_, fun j v hv => ?_⟩
                · show b < w.heap.size
                  rw [hadd] at hz
                  unfold World.cell? at hz
                  split at hz
                  · rename_i hk
                    exact (Array.getElem?_eq_some_iff.1 hk).1
                  · cases hz
                · have hflat : ∀ (x : Value), x ∈ (List.range len).map (fun i => e.wrapV (C i)) → x.cells.size = P.cellsOf u := by
                    intro x hx
                    obtain ⟨i, hi, rfl⟩ := List.mem_map.1 hx
                    obtain ⟨_, k2, _, k4, k5⟩ := hCE i (by simpa using hi)
                    have := (wrap_rel k2 k4 k5).2
                    rw [← Array.length_toList, this, k4, hS]
                  have hfl : (flat ((List.range len).map fun i => e.wrapV (C i))).length = len * P.cellsOf u := by rw [flat_length _ hflat]; simp
                  have hj : j < len * P.cellsOf u := by rw [← hfl]; exact (List.getElem?_eq_some_iff.1 hv).1
                  have hi : j / P.cellsOf u < len := by rw [Nat.div_lt_iff_lt_mul hpos]; exact hj
                  have hr : j % P.cellsOf u < P.cellsOf u := Nat.mod_lt _ hpos
                  have hdm : j / P.cellsOf u * P.cellsOf u + j % P.cellsOf u = j := by rw [Nat.mul_comm]; exact Nat.div_add_mod _ _
                  have g1 := flat_get (S := P.cellsOf u) _ hflat (j / P.cellsOf u) (j % P.cellsOf u) (e.wrapV (C (j / P.cellsOf u))) (by simp [hi]) hr
                  rw [hdm] at g1
                  obtain ⟨_, k2, _, k4, k5⟩ := hCE _ hi
                  rw [(wrap_rel k2 k4 k5).2] at g1
                  have g2 := hcell _ hi _ hr
                  rw [hdm, hadd] at g2
                  rw [g2, ← g1]
                  exact hv
          · intro c hc
            obtain ⟨i, hi, rfl⟩ := List.mem_map.1 hc
            exact (hCE i (by simpa using hi)).2.2.1
      · cases hf

/-- An argument that came in. -/
theorem reads_arg {ty : Ty} {t : TypeId} {v : Value} {d : DataW H} {ps : List MemPlace} (hf : ty.fits P t = true) (h : DataW.Trod enc P w 0 (fun _ => true) held t v d ps) (hv : ∀ l, ty = .st l → ∃ cs, v = .agg cs) (hv1 : (∀ l, ty ≠ .st l) → v.cells = #[v]) :
    ∃ ds, RelP (Olds w) w (ty.wrap ds) v ∧ ty.has ds := by
  obtain ⟨n, h⟩ := h
  obtain ⟨ds, k1, k2, k3, k3', k4⟩ := reads_all n ty t _ _ hf h
  refine ⟨ds, ?_, k2⟩
  have := (wrap_rel k1 k3 k4).1
  cases ty with
  | st l =>
    obtain ⟨cs, rfl⟩ := hv l rfl
    simpa [Ty.wrapV, Value.cells] using this
  | int k => rw [hv1 (by simp)] at this; simpa [Ty.wrapV] using this
  | bool => rw [hv1 (by simp)] at this; simpa [Ty.wrapV] using this
  | sl e => rw [hv1 (by simp)] at this; simpa [Ty.wrapV] using this
end

-- the types that come up
theorem has_ints {k : IntKind} {ds : List D} (h : (Ty.sl (.int k)).has ds) : ∃ l : List Int, (Ty.sl (.int k)).wrap ds = .lst (ints k l) ∧ ∀ n ∈ l, (Lit.int k n).wf = true := by
  obtain ⟨els, rfl, h⟩ := h
  have : ∃ l : List Int, els.map (Ty.int k).wrap = ints k l ∧ ∀ n ∈ l, (Lit.int k n).wf = true := by
    induction els with
    | nil => exact ⟨[], rfl, by simp⟩
    | cons c els ih =>
      obtain ⟨l, h1, h2⟩ := ih fun c hc => h c (by simp [hc])
      obtain ⟨n, rfl, hw⟩ := h c (by simp)
      exact ⟨n :: l, by rw [List.map_cons, h1]; rfl, by simpa [hw] using h2⟩
  obtain ⟨l, h1, h2⟩ := this
  exact ⟨l, by simp [Ty.wrap, h1], h2⟩
theorem has_rows {k : IntKind} {ds : List D} (h : (Ty.sl (.sl (.int k))).has ds) : ∃ l : List (List Int), (Ty.sl (.sl (.int k))).wrap ds = .lst (rows k l) ∧ ∀ x ∈ l, ∀ n ∈ x, (Lit.int k n).wf = true := by
  obtain ⟨els, rfl, h⟩ := h
  have : ∃ l : List (List Int), els.map (Ty.sl (.int k)).wrap = rows k l ∧ ∀ x ∈ l, ∀ n ∈ x, (Lit.int k n).wf = true := by
    induction els with
    | nil => exact ⟨[], rfl, by simp⟩
    | cons c els ih =>
      obtain ⟨l, h1, h2⟩ := ih fun c hc => h c (by simp [hc])
      obtain ⟨x, hx, hw⟩ := has_ints (h c (by simp))
      exact ⟨x :: l, by rw [List.map_cons, h1, hx]; rfl, by
        intro y hy
        rcases List.mem_cons.1 hy with rfl | hy
        · exact hw
        · exact h2 y hy⟩
  obtain ⟨l, h1, h2⟩ := this
  exact ⟨l, by simp [Ty.wrap, h1], h2⟩
end Go.VL

end
section
/- The arguments of a row: what they read as; that they read so afterwards. -/
namespace Go.VL
open Go Go.RowKit Go.WideShapes Go.ChangeShapes

section
variable {H : Type} {enc : TypeId × Value → H} {P : Program} {W : World} {r : Reach} {base : Nat}

theorem shape_of {held : Bool} {ty : Ty} {t : TypeId} {v : Value} {d : DataW H} {ps : List MemPlace} (hf : ty.fits P t = true) (hval : Value.okWide P W r base t v) (hd : DataW.Trod enc P W 0 (fun _ => true) held t v d ps) :
    (∀ l, ty = .st l → ∃ cs, v = .agg cs) ∧ ((∀ l, ty ≠ .st l) → v.cells = #[v]) := by
  cases ty with
  | int k =>
    obtain ⟨n, rfl, _⟩ := open_int (isInt_spec (by simpa [Ty.fits] using hf)) hval hd
    exact ⟨(fun l h => nomatch h), fun _ => rfl⟩
  | bool =>
    obtain ⟨n, rfl, _⟩ := open_bool (isBool_spec (by simpa [Ty.fits] using hf)) hval hd
    exact ⟨(fun l h => nomatch h), fun _ => rfl⟩
  | sl e =>
    simp only [Ty.fits] at hf
    split at hf
    · rename_i u hu
      obtain ⟨a, n, c, rfl⟩ := okWide_slice (elemOf_spec hu) hval
      exact ⟨(fun l h => nomatch h), fun _ => rfl⟩
    · cases hf
  | st l =>
    simp only [Ty.fits] at hf
    split at hf
    · rename_i fs hfs
      obtain ⟨fa, hu, _⟩ := fieldsOf_spec hfs
      obtain ⟨cs, rfl, _⟩ := okWide_struct hu hval
      exact ⟨fun _ _ => ⟨cs, rfl⟩, fun h => absurd rfl (h l)⟩
    · cases hf

def Ty.fitsAll (P : Program) : List Ty → List TypeId → Bool
  | [], [] => true
  | e :: l, t :: ts => e.fits P t && Ty.fitsAll P l ts
  | _, _ => false
def Ty.hasAll : List Ty → List D → Prop
  | [], ds => ds = []
  | e :: l, ds => ∃ c rest, ds = e.wrap c :: rest ∧ e.has c ∧ Ty.hasAll l rest

theorem args_read : ∀ (tys : List Ty) (ts : List TypeId) (vs : List Value) (ds : List (DataW H)) (p : List MemPlace), Ty.fitsAll P tys ts = true → (∀ (j : Nat) (t : TypeId) (v : Value), ts[j]? = some t → vs[j]? = some v → Value.okWide P W r base t v) →
    DataW.TrodAll enc P W 0 (fun _ => true) true ts vs ds p → ∃ Ds, RelPs (Olds W) W Ds vs ∧ Ty.hasAll tys Ds
  | [], [], vs, ds, p, _, _, h => by
    cases vs <;> cases ds <;> first | exact ⟨[], rfl, rfl⟩ | exact h.elim
  | [], _ :: _, _, _, _, h, _, _ => by simp [Ty.fitsAll] at h
  | _ :: _, [], _, _, _, h, _, _ => by simp [Ty.fitsAll] at h
  | e :: l, t :: ts, [], ds, p, _, _, h => by cases ds <;> exact h.elim
  | e :: l, t :: ts, v :: vs, [], p, _, _, h => h.elim
  | e :: l, t :: ts, v :: vs, d :: ds, p, hf, hv, h => by
    simp only [Ty.fitsAll, Bool.and_eq_true] at hf
    obtain ⟨p1, q1, h1, h2, rfl⟩ := h
    obtain ⟨s1, s2⟩ := shape_of hf.1 (hv 0 t v rfl rfl) h1
    obtain ⟨c, k1, k2⟩ := reads_arg hf.1 h1 s1 s2
    obtain ⟨Ds, g1, g2⟩ := args_read l ts vs ds q1 hf.2 (fun j t v ht hv' => hv (j + 1) t v (by simpa using ht) (by simpa using hv')) h2
    exact ⟨e.wrap c :: Ds, ⟨v, vs, rfl, k1, g1⟩, c, Ds, rfl, k2, g2⟩

theorem trodAll_lt {spare : Nat → Bool} : ∀ (ts : List TypeId) (vs : List Value) (ds : List (DataW H)) (p : List MemPlace), DataW.TrodAll enc P W 0 spare true ts vs ds p → ∀ x ∈ p, x.block < W.heap.size
  | [], vs, ds, p, h => by
    cases vs <;> cases ds <;> first | exact h.elim | (have h : p = [] := h; subst h; simp)
  | t :: ts, [], ds, p, h => by cases ds <;> exact h.elim
  | t :: ts, v :: vs, [], p, h => h.elim
  | t :: ts, v :: vs, d :: ds, p, h => by
    obtain ⟨p1, q1, ⟨m, hm⟩, h2, rfl⟩ := h
    intro x hx
    rcases List.mem_append.1 hx with hx | hx
    · exact DataW.trod_lt m _ _ _ hm x hx
    · exact trodAll_lt ts vs ds q1 h2 x hx

theorem args_back (hl : laidOutB P = true) {W' : World} (hb : Below W.heap.size W W') : ∀ (ts : List TypeId) (vs : List Value) (ds : List (DataW H)) (p : List MemPlace), (ts.all fun t => P.readableRec t && decide (t < P.types.size)) = true →
    DataW.TrodAll enc P W 0 (fun _ => true) true ts vs ds p → DataW.TrodAll enc P W' 0 (fun b => decide (b < W.heap.size)) true ts vs ds p
  | [], vs, ds, p, _, h => by
    cases vs <;> cases ds <;> first | exact h.elim | exact h
  | t :: ts, [], ds, p, _, h => by cases ds <;> exact h.elim
  | t :: ts, v :: vs, [], p, _, h => h.elim
  | t :: ts, v :: vs, d :: ds, p, ht, h => by
    have hlt := trodAll_lt _ _ _ _ h
    obtain ⟨p1, q1, h1, h2, rfl⟩ := h
    simp only [List.all_cons, Bool.and_eq_true, decide_eq_true_eq] at ht
    exact ⟨p1, q1, Below.trod hl ht.1.1 ht.1.2 h1 hb fun x hx => hlt x (by simp [hx]), args_back hl hb ts vs ds q1 ht.2 h2, rfl⟩
end

theorem trodAll_len {H : Type} {enc : TypeId × Value → H} {P : Program} {W : World} {spare : Nat → Bool} : ∀ (ts : List TypeId) (vs : List Value) (ds : List (DataW H)) (p : List MemPlace), DataW.TrodAll enc P W 0 spare true ts vs ds p → ds.length = ts.length
  | [], vs, ds, p, h => by cases vs <;> cases ds <;> first | exact h.elim | rfl
  | t :: ts, [], ds, p, h => by cases ds <;> exact h.elim
  | t :: ts, v :: vs, [], p, h => h.elim
  | t :: ts, v :: vs, d :: ds, p, h => by
    obtain ⟨p1, q1, h1, h2, rfl⟩ := h
    simp [trodAll_len ts vs ds q1 h2]
theorem cons_of {α : Type} {l : List α} {n : Nat} (h : l.length = n + 1) : ∃ a r, l = a :: r ∧ r.length = n := by
  cases l with
  | nil => cases h
  | cons a r => exact ⟨a, r, rfl, by simpa using h⟩
theorem nil_of {α : Type} {l : List α} (h : l.length = 0) : l = [] := List.eq_nil_of_length_eq_zero h
theorem wf_u8 {n : Int} (h : (Lit.int .u8 n).wf = true) : 0 ≤ n ∧ n ≤ 255 := by
  simp [Lit.wf, IntKind.min, IntKind.max, IntKind.bits, IntKind.signed] at h
  omega
theorem r8 {l : List Int} (h : ∀ n ∈ l, (Lit.int .u8 n).wf = true) : ∀ n ∈ l, 0 ≤ n ∧ n ≤ 255 := fun n hn => wf_u8 (h n hn)
end Go.VL

end
section
/- The rules of the walk, in one. -/
set_option linter.defProp false
namespace Go.VL
open Go Go.RowKit
def rules := (And.intro (And.intro (And.intro (And.intro (And.intro (And.intro (And.intro (And.intro @KD_mk @KSD_mk) (And.intro @KN_mk (And.intro @KX_mk @KP_mk))) (And.intro (And.intro @KF_mk (And.intro @bindI_some @bindI_none)) (And.intro @reqI_true (And.intro @condI_true @condI_false)))) (And.intro (And.intro (And.intro @guardI_t @guardI_f) (And.intro @awpI_skip (And.intro @awpI_seq @awpI_cond))) (And.intro (And.intro @awpI_block (And.intro @awpI_exit @awpI_ret)) (And.intro @awpI_region (And.intro @awpI_label @opsI_nil))))) (And.intro (And.intro (And.intro (And.intro @opsI_cons @opsI_guard) (And.intro @KL_mk (And.intro @opI_move @opI_assign))) (And.intro (And.intro @opI_pick (And.intro @opI_alloc @opI_box)) (And.intro @opI_build (And.intro @opI_buildSlice @opI_load)))) (And.intro (And.intro (And.intro @opI_store (And.intro @opI_nilCheck @opI_binOp)) (And.intro @opI_unOp (And.intro @opI_convert @opI_makeFunc))) (And.intro (And.intro @opI_makeSlice (And.intro @opI_slice @opI_fieldAddr)) (And.intro @opI_field (And.intro @opI_indexAddr @opI_index)))))) (And.intro (And.intro (And.intro (And.intro (And.intro @opI_extract @opI_call) (And.intro @opI_append (And.intro @opI_len @opI_min))) (And.intro (And.intro @opI_max (And.intro @binI_add @binI_sub)) (And.intro @binI_mul (And.intro @binI_and @binI_or)))) (And.intro (And.intro (And.intro @binI_xor (And.intro @binI_eql @binI_neq)) (And.intro @binI_lss (And.intro @binI_leq @binI_gtr))) (And.intro (And.intro @binI_geq (And.intro @binI_quo @binI_rem)) (And.intro @binI_shl (And.intro @binI_shr @binI_eqb))))) (And.intro (And.intro (And.intro (And.intro @binI_neb @binI_eqs) (And.intro @binI_nes (And.intro @opPickI_eq @opAllocI_eq))) (And.intro (And.intro @opBoxI_eq (And.intro @opBuildI_eq @opBuildSliceI_eq)) (And.intro @opLoadI_ptr (And.intro @opLoadI_adr @opStoreI_adr)))) (And.intro (And.intro (And.intro @opNilCheckI_ptr (And.intro @opNilCheckI_adr @opUnI_neg)) (And.intro @opUnI_xor (And.intro @opUnI_not @opConvertI_int))) (And.intro (And.intro @opConvertI_flt (And.intro @opConvertI_lst @opConvertI_nil)) (And.intro @opConvertI_nil0 (And.intro @opConvertI_ref @opMakeSliceI_eq))))))) (And.intro (And.intro (And.intro (And.intro (And.intro (And.intro @opSliceI_lst @opSliceI_lst3) (And.intro @opSliceI_ref (And.intro @opSliceI_nil @opFieldAddrI_adr))) (And.intro (And.intro @opFieldAddrI_ptr (And.intro @opFieldI_agg @opIndexAddrI_lst)) (And.intro @opIndexAddrI_ref (And.intro @opIndexAddrI_adr @opIndexAddrI_ptr)))) (And.intro (And.intro (And.intro @opIndexI_agg @opExtractI_tup) (And.intro @opLenI_lst (And.intro @opLenI_ref @opLenI_nil))) (And.intro (And.intro @opLenI_nil0 (And.intro @opLenI_str @opMinI_eq)) (And.intro @opMaxI_eq (And.intro @opAppendI_eq @guardOf_zero))))) (And.intro (And.intro (And.intro (And.intro @guardOf_succ @put_t) (And.intro @put_H (And.intro @put_n @put_none))) (And.intro (And.intro @killed_t (And.intro @killed_H @killed_n)) (And.intro @obj_t (And.intro @obj_H @obj_n)))) (And.intro (And.intro (And.intro @ev_tmp (And.intro @ev_const @ev_func)) (And.intro @ofVal_int (And.intro @ofVal_bool @ofVal_slice))) (And.intro (And.intro @init_t (And.intro @init_H @init_n)) (And.intro @initT_cons (And.intro @initT_nil @okDst_some)))))) (And.intro (And.intro (And.intro (And.intro (And.intro @okDst_none @dstOf_some) (And.intro @bndD_none (And.intro @bndD_some @intD_int))) (And.intro (And.intro @minD_nil (And.intro @minD_cons @maxD_nil)) (And.intro @maxD_cons (And.intro @baseD_nil @baseD_nil0)))) (And.intro (And.intro (And.intro @itemsD_lst (And.intro @itemsD_nil @itemsD_nil0)) (And.intro @partOf_v (And.intro @partOf_lst @partOf_ref))) (And.intro (And.intro @partOf_adr (And.intro @partOf_nil0 @partOf_agg1)) (And.intro @partOf_aggA (And.intro @ints_length @ints_append))))) (And.intro (And.intro (And.intro (And.intro @ints_snoc @ints_take) (And.intro @ints_drop (And.intro @ints_set @ints_get))) (And.intro (And.intro @ints_ok (And.intro @ints_kills @ints_frzs)) (And.intro @ints_nrms (And.intro @ints_noRefs @ints_idss)))) (And.intro (And.intro (And.intro @ints_replicate (And.intro @ints_bytes @rows_length)) (And.intro @rows_append (And.intro @rows_snoc @rows_take))) (And.intro (And.intro @rows_drop (And.intro @rows_set @rows_get)) (And.intro @rows_ok (And.intro @rows_kills @rows_frzs)))))))) (And.intro (And.intro (And.intro (And.intro (And.intro (And.intro (And.intro @rows_nrms @rows_noRefs) (And.intro @rows_idss (And.intro @D.v.injEq @Value.int.injEq))) (And.intro (And.intro @Value.bool.injEq (And.intro @and_true @true_and)) (And.intro @and_self (And.intro @not_true_eq_false @not_false_eq_true)))) (And.intro (And.intro (And.intro @decide_true @decide_false) (And.intro @Bool.not_true (And.intro @Bool.not_false @resDs_nil))) (And.intro (And.intro @resDs_tmp (And.intro @pack_one @pack_two)) (And.intro @frzAll_nil (And.intro @frzAll_cons @frzStep_none))))) (And.intro (And.intro (And.intro (And.intro @frzStep_some @frozen_t) (And.intro @frozen_H (And.intro @frozen_n @frz_ref))) (And.intro (And.intro @ints_width1 (And.intro @rows_width1 @Nat.le_refl)) (And.intro @Bool.false_eq_true (And.intro @Bool.and_true @Bool.true_and)))) (And.intro (And.intro (And.intro @Bool.and_self (And.intro @schI_done @schI_one)) (And.intro @schI_rob (And.intro @schI_only @Bool.not_eq_true'))) (And.intro (And.intro @Nat.zero_le (And.intro @false_implies @Nat.zero_mul)) (And.intro @Nat.one_mul (And.intro @or_false @baseD_ref)))))) (And.intro (And.intro (And.intro (And.intro (And.intro @baseStep_some @itemsD_ref) (And.intro @itemsStep_some (And.intro @ints_nil @width_v))) (And.intro (And.intro @width_lst (And.intro @width_nil0 @width_ref)) (And.intro @width_adr (And.intro @width_ptr @width_clos)))) (And.intro (And.intro (And.intro @width_agg (And.intro @storable_int @storable_bool)) (And.intro @storable_str (And.intro @storable_slice @storable_lst))) (And.intro (And.intro @storable_nil0 (And.intro @storable_ref @storable_adr)) (And.intro @storable_ptr (And.intro @storable_clos @storable_agg))))) (And.intro (And.intro (And.intro (And.intro @Slots_cons @Slots_nil) (And.intro @Heaps_cons (And.intro @Heaps_nil @adopt_t))) (And.intro (And.intro @adopt_H (And.intro @adopt_n @Int.cast_ofNat_Int)) (And.intro @Int.natCast_one (And.intro @opSliceMI_lst @opSliceMI_nil)))) (And.intro (And.intro (And.intro @opSliceMI_ref (And.intro @opMI_sliceM @opMI_other)) (And.intro @op1I_plain (And.intro @op1I_guard @cuts_move))) (And.intro (And.intro @cuts_assign (And.intro @cuts_pick @cuts_alloc)) (And.intro @cuts_box (And.intro @cuts_build @cuts_buildSlice))))))) (And.intro (And.intro (And.intro (And.intro (And.intro (And.intro @cuts_load @cuts_store) (And.intro @cuts_nilCheck (And.intro @cuts_binOp @cuts_unOp))) (And.intro (And.intro @cuts_convert (And.intro @cuts_makeFunc @cuts_makeSlice)) (And.intro @cuts_slice (And.intro @cuts_fieldAddr @cuts_field)))) (And.intro (And.intro (And.intro @cuts_indexAddr @cuts_index) (And.intro @cuts_extract (And.intro @cuts_call @condI_not))) (And.intro (And.intro @KeepS_nil (And.intro @KeepS_cons @KeepH_nil)) (And.intro @KeepH_cons (And.intro @retO_nil @retO_cons))))) (And.intro (And.intro (And.intro (And.intro @setPart_vv @setPart_vl) (And.intro @setPart_vr (And.intro @setPart_ll @setPart_lr))) (And.intro (And.intro @setPart_rr (And.intro @setPart_rl @setPart_lv)) (And.intro @setPart_av (And.intro @setPart_al @setPart_ar)))) (And.intro (And.intro (And.intro @setPart_aa (And.intro @condGI_t @condGI_f)) (And.intro @condGI_u (And.intro @upd_t @opCxI_complex))) (And.intro (And.intro @opCxI_real (And.intro @opCxI_imag @opConvertI_f2i)) (And.intro @binI_cmul (And.intro @opI_complex @opI_real)))))) (And.intro (And.intro (And.intro (And.intro (And.intro @opI_imag @rep_cons) (And.intro @rep_nil (And.intro @resDs_cell @cellD_adr))) (And.intro (And.intro @opI_copy (And.intro @opSliceI_refS @opSliceI_sub)) (And.intro @opSliceMI_sub (And.intro @opLenI_sub @opIndexAddrI_sub)))) (And.intro (And.intro (And.intro @opCopyI_ref (And.intro @opCopyI_sub @frz_sub')) (And.intro @itemsD_sub (And.intro @itemsStepS_some @putAt_def))) (And.intro (And.intro @width_sub (And.intro @storable_sub @opI_makeMap)) (And.intro @opI_lookup (And.intro @opI_mapUpdate @cuts_makeMap))))) (And.intro (And.intro (And.intro (And.intro @cuts_lookup @cuts_mapUpdate) (And.intro @opMakeMapI_eq (And.intro @opMakeMapI_none @kvAsk_some))) (And.intro (And.intro @kvAsk_none (And.intro @kvAsk_some' @kvAsk_none')) (And.intro @opLookupI_mp (And.intro @opMapUpdateI_mp @initL_t)))) (And.intro (And.intro (And.intro @initL_H (And.intro @initL_n @ghostT_cons)) (And.intro @ghostT_nil (And.intro @lentH_cons @lentH_nil))) (And.intro (And.intro @setObjs_cons (And.intro @setObjs_nil @takeH_cons)) (And.intro @takeH_nil (And.intro @ghostOk_cons @ghostOk_nil)))))))))
attribute [go_sem] rules
attribute [go_sem] D.kill D.kills D.noRef D.noRefs D.ids D.idss D.isAgg List.map_cons List.map_nil List.length_cons List.length_nil List.cons_append List.nil_append List.append_nil Option.map_some Option.map_none Option.some.injEq ite_true ite_false if_true if_false eq_self heq_eq_eq D.frz D.frzs D.nrm D.nrms nilV List.append_assoc List.take_length qok plain robDst D.isNil Op.operands List.all_cons List.all_nil List.getElem?_cons_zero List.getElem?_cons_succ D.ren D.rens inOrder List.not_mem_nil implies_true Option.isSome_some List.mem_cons List.mem_singleton forall_eq forall_eq_or_imp At beq_self_eq_true Array.toList_append Option.toArray_some Option.toArray_none List.toList_toArray Option.all_some Option.all_none AtL Call.operands List.set_cons_zero List.set_cons_succ List.take_succ_cons List.take_zero List.drop_zero List.drop_succ_cons D.flat D.flats Option.bind_some List.any_cons List.any_nil Bool.true_or Bool.or_true Bool.or_false Bool.false_or
def arith := (And.intro (And.intro (And.intro (And.intro (And.intro @IntWalk.i64_in @IntWalk.u64_in) (And.intro @IntWalk.u8_in @IntWalk.u16_in)) (And.intro (And.intro @IntWalk.u32_in @IntWalk.i16_in) (And.intro @IntWalk.i32_in (And.intro @condI_dec_t @condI_dec_f)))) (And.intro (And.intro (And.intro @condI_beq_t @condI_beq_f) (And.intro @condI_bne_t @condI_bne_f)) (And.intro (And.intro @vdec_t @vdec_f) (And.intro @vbeq_t (And.intro @vbeq_f @vbne_t))))) (And.intro (And.intro (And.intro (And.intro @vbne_f @pick_dec_t) (And.intro @pick_dec_f @pick_beq_t)) (And.intro (And.intro @pick_beq_f @pick_bne_t) (And.intro @pick_bne_f (And.intro @reqI_t @elt_ints)))) (And.intro (And.intro (And.intro @elt_rows @nat_succ) (And.intro @Int.toNat_natCast (And.intro @binI_quo @binI_rem))) (And.intro (And.intro @binI_shl @binI_shr) (And.intro @tdiv_pos (And.intro @tmod_pos @Nat.min_eq_left))))))
end Go.VL

end
section
/- Lists that are filled from the front. -/
namespace Go.VL
def fill {α : Type} (f : Nat → α) (a : List α) (k : Nat) : List α := (List.range k).map f ++ a.drop k
section
variable {α : Type} {f : Nat → α} {a : List α} {k : Nat} {d : α}
theorem fill_len (h : k ≤ a.length) : (fill f a k).length = a.length := by simp [fill]; omega
theorem elt_fill {K : IntKind} {f : Nat → Int} {a : List Int} (h : k < a.length) : (ints K (fill f a k))[k]? = some (.v (.int K (a.getD k 0))) := by
  rw [elt_ints (by simp [fill]; omega)]; simp [fill, List.getD, List.getElem?_append]
theorem take_snoc (h : k < a.length) : a.take (k + 1) = a.take k ++ [a.getD k d] := by
  rw [List.take_succ_eq_append_getElem h]; simp [List.getD, h]
theorem getD_mem (h : k < a.length) : a.getD k d ∈ a := by simp [List.getD, h]
theorem all_take_snoc {p : α → Bool} (h : k < a.length) : (a.take (k + 1)).all p = ((a.take k).all p && p (a.getD k d)) := by
  rw [take_snoc (d := d) h, List.all_append]; simp
theorem all_false_at {p : α → Bool} (h : k < a.length) (hp : p (a.getD k d) = false) : a.all p = false := by
  rw [List.all_eq_false]; exact ⟨_, getD_mem (d := d) h, by rw [hp]; exact Bool.false_ne_true⟩
theorem flatMap_take_snoc {β : Type} {g : α → List β} (h : k < a.length) : (a.take (k + 1)).flatMap g = (a.take k).flatMap g ++ g (a.getD k d) := by
  rw [take_snoc (d := d) h, List.flatMap_append]; simp
end
end Go.VL

end
section
/- Regions that draw their order: a quiet operation beside calls that leave alone what it looks at. -/
namespace Go.VL
open Go Go.RowKit

mutual
theorem D.kill_ids : ∀ (d : D) (id : Nat), id ∉ d.ids → d.kill id = d
  | .any, _, _ => rfl
  | .v _, _, _ => rfl
  | .nil0, _, _ => rfl
  | .lst _, _, _ => rfl
  | .ptr _, _, _ => rfl
  | .agg l, id, h => by simp only [D.kill]; rw [D.kills_idss l id h]
  | .tup l, id, h => by simp only [D.kill]; rw [D.kills_idss l id h]
  | .clos _ l, id, h => by simp only [D.kill]; rw [D.kills_idss l id h]
  | .ref i n, id, h => by simp only [D.ids, List.mem_singleton] at h; simp only [D.kill]; rw [if_neg (fun e => h e.symm)]
  | .adr i _ _, id, h => by simp only [D.ids, List.mem_singleton] at h; simp only [D.kill]; rw [if_neg (fun e => h e.symm)]
  | .sub i _ _, id, h => by simp only [D.ids, List.mem_singleton] at h; simp only [D.kill]; rw [if_neg (fun e => h e.symm)]
  | .loc i _, id, h => by simp only [D.ids, List.mem_singleton] at h; simp only [D.kill]; rw [if_neg (fun e => h e.symm)]
  | .mp i, id, h => by simp only [D.ids, List.mem_singleton] at h; simp only [D.kill]; rw [if_neg (fun e => h e.symm)]
theorem D.kills_idss : ∀ (l : List D) (id : Nat), id ∉ D.idss l → D.kills id l = l
  | [], _, _ => rfl
  | d :: ds, id, h => by
    simp only [D.idss, List.mem_append, not_or] at h
    simp only [D.kills]; rw [D.kill_ids d id h.1, D.kills_idss ds id h.2]
end

def killO (id : Nat) (o : Option Own) : Option Own := o.map fun o => { o with els := D.kills id o.els }
theorem killO_none {id : Nat} : killO id none = none := (rfl)
theorem killO_some {id : Nat} {e : TypeId} {S : Nat} {l : List D} : killO id (some ⟨e, S, l⟩) = some ⟨e, S, D.kills id l⟩ := (rfl)

theorem D.kill_adr {id : Nat} : ∀ (d : D) (i a b : Nat), d.kill id = .adr i a b → d = .adr i a b
  | .any, _, _, _, h => by cases h
  | .v _, _, _, _, h => by cases h
  | .nil0, _, _, _, h => by cases h
  | .lst _, _, _, _, h => by cases h
  | .ptr _, _, _, _, h => by cases h
  | .agg l, _, _, _, h => by simp [D.kill] at h
  | .tup l, _, _, _, h => by simp [D.kill] at h
  | .clos _ l, _, _, _, h => by simp [D.kill] at h
  | .ref i n, _, _, _, h => by simp only [D.kill] at h; split at h <;> cases h
  | .adr i _ _, _, _, _, h => by
    simp only [D.kill] at h
    split at h
    · cases h
    · exact h
  | .sub i _ _, _, _, _, h => by simp only [D.kill] at h; split at h <;> cases h
  | .loc i _, _, _, _, h => by simp only [D.kill] at h; split at h <;> cases h
  | .mp i, _, _, _, h => by simp only [D.kill] at h; split at h <;> cases h
/-- As Both, with what is known of the heap: the object id alone is new. -/
def BothI (id : Nat) (K : St → D → Prop) (t t' : Nat → D) (n : Nat) (H : Nat → Option Own) : St → D → Prop := fun s d =>
  ∃ τ, (∀ d : D, id ∉ d.ids → τ d = d) ∧ (∀ (d : D) (i a b : Nat), τ d = .adr i a b → d = .adr i a b) ∧ s.t = τ ∘ t' ∧ s.n = n ∧ (∀ m, m ≠ id → killO id (H m) = H m → s.H m = H m) ∧ K ⟨τ ∘ t, s.H, s.n⟩ d

theorem opCall_mild {P : Program} {K K' : St → D → Prop} {t t' : Nat → D} {H : Nat → Option Own} {n id : Nat} (hk : ∀ s d, BothI id K t t' n H s d → K' s d) {f : D} {args : List D}
    (hf : f.noRef = true) (ha : D.noRefs args = true) (h : opCall P f args id K ⟨t, H, n⟩) : opCall P f args id K' ⟨t', H, n⟩ := by
  have same : ∀ r, K ⟨t, H, n⟩ r → K' ⟨t', H, n⟩ r := fun r hr => hk _ _ ⟨_root_.id, fun _ _ => rfl, fun _ _ _ _ h => h, rfl, rfl, fun _ _ _ => rfl, hr⟩
  unfold opCall at *
  split at h
  · rename_i g caps
    have hc : D.noRefs caps = true := hf
    have e : D.idss (args ++ caps) = [] := by
      refine D.noRefs_ids _ ?_
      rw [D.noRefs_eq] at *
      simp only [List.all_append, Bool.and_eq_true]
      exact ⟨ha, hc⟩
    rcases h with ⟨p, h1, h2, h3⟩ | ⟨σ, as, lent, R, l1, l2, l3, l4, l5, l6, l7⟩
    rotate_left
    · rw [e] at l2
      obtain rfl : σ = [] := by
        cases σ with
        | nil => rfl
        | cons x l => exact absurd (l2 x (by simp)) (by simp)
      refine .inr ⟨[], as, lent, R, l1, by simp, l3, l4, l5, l6, fun r os hr hnr => ?_⟩
      have h0 : ∀ s : St, setObjs s [] os = s := fun s => by cases os <;> rfl
      have := l7 r os hr hnr
      rw [h0] at this ⊢
      exact same _ this
    refine .inl ?_
    rw [e] at h1 ⊢
    simp only [frzAll, Option.some.injEq] at h1
    subst h1
    refine ⟨_, rfl, h2, ?_⟩
    rcases h3 with ⟨R, h4, h5⟩ | ⟨R, h4, h5⟩
    · refine .inl ⟨R, h4, fun r hr hnr => ?_⟩
      have := h5 r hr hnr
      rw [ite_self] at this ⊢
      exact same _ this
    · refine .inr ⟨R, h4, fun r o hr hnr => ?_⟩
      have := h5 r o hr hnr
      cases o with
      | none => exact fun hn => same _ (this hn)
      | some o =>
        refine hk _ _ ⟨D.kill id, fun d hd => D.kill_ids d id hd, fun d i a b h => D.kill_adr d i a b h, rfl, rfl, fun m hm hkm => ?_, this⟩
        show upd _ id (some o) m = H m
        rw [upd_ne _ _ _ _ hm]
        show (if m = id then none else killO id (H m)) = H m
        rw [if_neg hm, hkm]
  · exact h.elim

theorem bothI_kill {K : St → D → Prop} {t t' : Nat → D} {H : Nat → Option Own} {n id : Nat} {d : D} {o : Own} (h : K (((⟨t, H, n⟩ : St).killed id).obj id o) d) : BothI id K t t' n H (((⟨t', H, n⟩ : St).killed id).obj id o) d := by
  refine ⟨D.kill id, fun d hd => D.kill_ids d id hd, fun d i a b h => D.kill_adr d i a b h, rfl, rfl, fun m hm hkm => ?_, h⟩
  show upd _ id (some o) m = H m
  rw [upd_ne _ _ _ _ hm]
  show (if m = id then none else killO id (H m)) = H m
  rw [if_neg hm, hkm]
theorem opBox_mild {P : Program} {ty : TypeId} {K K' : St → D → Prop} {t t' : Nat → D} {H : Nat → Option Own} {n id : Nat} (hk : ∀ s d, BothI id K t t' n H s d → K' s d) {v : D} (h : opBox P ty v id K ⟨t, H, n⟩) : opBox P ty v id K' ⟨t', H, n⟩ :=
  ⟨h.1, h.2.1, h.2.2.1, hk _ _ (bothI_kill h.2.2.2)⟩
theorem opAlloc_mild {P : Program} {ty : TypeId} {K K' : St → D → Prop} {t t' : Nat → D} {H : Nat → Option Own} {n id : Nat} (hk : ∀ s d, BothI id K t t' n H s d → K' s d) (h : opAlloc P ty id K ⟨t, H, n⟩) : opAlloc P ty id K' ⟨t', H, n⟩ := by
  obtain ⟨z, h1, h2, h3, h4, h5⟩ := h
  exact ⟨z, h1, h2, h3, h4, hk _ _ (bothI_kill h5)⟩
theorem opMakeSlice_mild {P : Program} {ty : TypeId} {K K' : St → D → Prop} {t t' : Nat → D} {H : Nat → Option Own} {n id : Nat} (hk : ∀ s d, BothI id K t t' n H s d → K' s d) {l c : D} (h : opMakeSlice P ty l c id K ⟨t, H, n⟩) : opMakeSlice P ty l c id K' ⟨t', H, n⟩ := by
  unfold opMakeSlice at *
  split at h
  · obtain ⟨e, h1, h2, h3, h4, h5, h6, z, h7, h8, h9, h10⟩ := h
    exact ⟨e, h1, h2, h3, h4, h5, h6, z, h7, h8, h9, hk _ _ (bothI_kill h10)⟩
  · exact h.elim

def callV (o : Oper) : Bool :=
  match o.op with
  | .call ⟨.value _, _, _⟩ => true
  | .alloc _ => true
  | .box .. => true
  | .makeSlice .. => true
  | _ => false
theorem callV_not_quiet {o : Oper} (h : callV o = true) : quiet o = false := by
  unfold callV at h
  split at h
  · rename_i ho; simp [quiet, ho]
  · rename_i ho; simp [quiet, ho]
  · rename_i ho; simp [quiet, ho]
  · rename_i ho; simp [quiet, ho]
  · cases h

theorem aopx_mild {P : Program} {o : Oper} (hq : callV o = true) {K K' : St → D → Prop} {t t' : Nat → D} {H : Nat → Option Own} {n : Nat}
    (hp : ∀ x ∈ o.op.operands, ((⟨t, H, n⟩ : St).ev x).noRef = true) (hk : ∀ s d, BothI (dstOf o.dst) K t t' n H s d → K' s d)
    (he : ∀ x ∈ o.op.operands, (⟨t, H, n⟩ : St).ev x = (⟨t', H, n⟩ : St).ev x) (h : aopx P o K ⟨t, H, n⟩) : aopx P o K' ⟨t', H, n⟩ := by
  obtain ⟨dst, op, ty, pos, af, g⟩ := o
  cases op
  case alloc e => exact opAlloc_mild hk h
  case box e x =>
    have := he x (by simp [Op.operands])
    exact (by rw [← this]; exact opBox_mild hk h : opBox P e ((⟨t', H, n⟩ : St).ev x) (dstOf dst) K' ⟨t', H, n⟩)
  case makeSlice t1 l c =>
    have h1 := he l (by simp [Op.operands])
    have h2 := he c (by simp [Op.operands])
    exact (by rw [← h1, ← h2]; exact opMakeSlice_mild hk h : opMakeSlice P t1 ((⟨t', H, n⟩ : St).ev l) ((⟨t', H, n⟩ : St).ev c) (dstOf dst) K' ⟨t', H, n⟩)
  case call c =>
    obtain ⟨cal, args, ts⟩ := c
    cases cal
    case value f =>
      have h1 := he f (by simp [Op.operands, Call.operands])
      have h2 : args.toList.map (⟨t, H, n⟩ : St).ev = args.toList.map (⟨t', H, n⟩ : St).ev := map_ev _ fun x hx => he x (by simp [Op.operands, Call.operands]; exact .inr (by simpa using hx))
      have h3 := hp f (by simp [Op.operands, Call.operands])
      have h4 : D.noRefs (args.toList.map (⟨t, H, n⟩ : St).ev) = true := by
        rw [D.noRefs_eq, List.all_eq_true]
        intro d hd
        obtain ⟨x, hx, rfl⟩ := List.mem_map.1 hd
        exact hp x (by simp [Op.operands, Call.operands]; exact .inr (by simpa using hx))
      exact (by rw [← h1, ← h2]; exact opCall_mild hk h3 h4 h : opCall P ((⟨t', H, n⟩ : St).ev f) (args.toList.map (⟨t', H, n⟩ : St).ev) (dstOf dst) K' ⟨t', H, n⟩)
    all_goals exact absurd hq (by simp [callV])
  all_goals exact absurd hq (by simp [callV])

/-- How a state s comes of st by an operation that leaves alone what I names. -/
structure ExtI (I : List Nat) (dst : Option Tmp) (st s : St) : Prop where
  n : s.n = st.n
  keep : ∀ k, dst ≠ some k → (∀ m ∈ (st.t k).ids, m ∈ I) → s.t k = st.t k
  heap : ∀ m ∈ I, s.H m = st.H m

/-- The same, where no address comes to be. -/
structure ExtS (I : List Nat) (dst : Option Tmp) (st s : St) : Prop extends ExtI I dst st s where
  mild : ∀ k, dst ≠ some k → ∀ i a b, s.t k = .adr i a b → st.t k = .adr i a b

theorem qop_HI {P : Program} {o : Oper} {e : Operand → D} {H H' : Nat → Option Own} {k : D → Prop} (he : ∀ x ∈ o.op.operands, ∀ m ∈ (e x).ids, H' m = H m) (h : qop P o e H k) : qop P o e H' k := by
  obtain ⟨dst, op, ty, pos, af, g⟩ := o
  cases op
  case load t x =>
    have hx := he x (by simp [Op.operands])
    simp only [qop] at h ⊢
    cases hv : e x
    case adr i j n =>
      rw [hv] at h hx
      have := hx i (by simp [D.ids])
      simp only [opLoad] at h ⊢
      rw [this]; exact h
    all_goals (rw [hv] at h; exact h)
  case convert s t x =>
    have hx := he x (by simp [Op.operands])
    simp only [qop] at h ⊢
    cases hv : e x
    case ref i n =>
      rw [hv] at h hx
      have := hx i (by simp [D.ids])
      simp only [opConvert] at h ⊢
      rw [this]; exact h
    case v u => rw [hv] at h; exact opConvert_vst h
    all_goals (rw [hv] at h; exact h)
  case slice t x lo hi mx =>
    have hx := he x (by simp [Op.operands])
    simp only [qop] at h ⊢
    cases hv : e x
    case ref i n =>
      rw [hv] at h hx
      have := hx i (by simp [D.ids])
      simp only [opSlice] at h ⊢
      rw [this]; exact h
    case sub i b n =>
      rw [hv] at h hx
      have := hx i (by simp [D.ids])
      simp only [opSlice] at h ⊢
      rw [this]; exact h
    case v u => rw [hv] at h; exact opSlice_vst h
    all_goals (rw [hv] at h; exact h)
  case indexAddr t x y =>
    have hx := he x (by simp [Op.operands])
    simp only [qop] at h ⊢
    cases hv : e x
    case ref i n =>
      rw [hv] at h hx
      have := hx i (by simp [D.ids])
      unfold opIndexAddr at h ⊢
      split at h
      · simp only at h ⊢
        rw [this]; exact h
      · exact h.elim
    case sub i b n =>
      rw [hv] at h hx
      have := hx i (by simp [D.ids])
      unfold opIndexAddr at h ⊢
      split at h
      · simp only at h ⊢
        rw [this]; exact h
      · exact h.elim
    all_goals (rw [hv] at h; exact h)
  case call c =>
    obtain ⟨cal, args, ts⟩ := c
    cases cal
    case builtin b =>
      cases b
      case len =>
        obtain ⟨l⟩ := args
        obtain ⟨l'⟩ := ts
        simp only [qop] at h ⊢
        match l, l', h, he with
        | [x], [t], h, he =>
          have hx := he x (by simp [Op.operands, Call.operands])
          show opLenM P t (e x) k _
          have h : opLenM P t (e x) k _ := h
          cases hv : e x
          case mp i =>
            rw [hv] at h hx
            have := hx i (by simp [D.ids])
            simp only [opLenM] at h ⊢
            rw [this]; exact h
          all_goals (rw [hv] at h; exact h)
      all_goals exact h
    all_goals exact h
  all_goals exact h

section
variable {P : Program} {ops : Array Oper}
theorem Ext.toI {I : List Nat} {dst : Option Tmp} {st s : St} (h : Ext dst true st s) : ExtI I dst st s := ⟨h.n, fun k hk _ => (h.same rfl).2 k hk, fun m _ => by rw [(h.same rfl).1]⟩

theorem Ext.toS {I : List Nat} {dst : Option Tmp} {st s : St} (h : Ext dst true st s) : ExtS I dst st s := { h.toI with mild := fun k hk i a b e => by rw [← (h.same rfl).2 k hk]; exact e }
/-- Operations that a quiet one may go ahead of: calls, and stores. -/
def calS (o : Oper) : Bool := callV o || match o.op, o.dst with | .store .., none => true | _, _ => false
theorem calS_not_quiet {o : Oper} (h : calS o = true) : quiet o = false := by
  unfold calS at h
  rw [Bool.or_eq_true] at h
  rcases h with h | h
  · exact callV_not_quiet h
  · split at h
    · rename_i ho _; simp [quiet, ho]
    · cases h
/-- It leaves alone what I names. -/
def offD (I : List Nat) : D → Prop
  | .adr id _ _ => (I.all fun m => !(m == id)) = true
  | _ => True
def tameP (o : Oper) (st : St) (I : List Nat) : Prop :=
  match o.op with
  | .store _ x _ => offD I (st.ev x)
  | _ => plain o st = true ∧ dstOf o.dst ∉ I ∧ ∀ m ∈ I, killO (dstOf o.dst) (st.H m) = st.H m

theorem opA_store {I : List Nat} {oi oj : Oper} {K K' : St → Prop} {st : St} {d : D} {t : TypeId} {x v : Operand} (ho : oj.op = .store t x v) (hdst : oj.dst = none) (hK' : ∀ s, K (s.put oi.dst d) ∧ ExtS I oj.dst st s → K' s) (hap : oi.apart ops oj = true)
    (hof : offD I (st.ev x)) (h : opA P ops.toList oj K (st.put oi.dst d)) : opA P ops.toList oj K' st := by
  obtain ⟨h1, h2, h3⟩ := Oper.apart_spec hap
  have hop : ∀ x ∈ oj.op.operands, (st.put oi.dst d).ev x = st.ev x := fun x hx => ev_of_t fun k hk => by
    subst hk
    exact put_t_ne fun e => h1 k e (looks_operand hx)
  have hmain : aop P oj K (st.put oi.dst d) → aop P oj K' st := by
    rintro ⟨_, hb⟩
    refine ⟨by rw [hdst]; trivial, ?_⟩
    have ex := hop x (by rw [ho]; simp [Op.operands])
    have ev := hop v (by rw [ho]; simp [Op.operands])
    obtain ⟨dst, op, ty, pos, af, g⟩ := oj
    simp only at ho hdst
    subst ho hdst
    have hb' : opStore P t ((st.put oi.dst d).ev x) ((st.put oi.dst d).ev v) (fun s => K s) (st.put oi.dst d) := hb
    rw [ex, ev] at hb'
    show opStore P t (st.ev x) (st.ev v) (fun s => K' s) st
    unfold opStore at hb' ⊢
    split at hb'
    · rename_i id i o hx
      rw [hx] at hof
      obtain ⟨ob, q1, q2⟩ := hb'
      rw [put_H'] at q1
      obtain ⟨d1, q3, q4, q5, q6, q7, d2, q8, q9⟩ := q2
      refine ⟨ob, q1, d1, q3, q4, q5, q6, q7, d2, q8, hK' _ ⟨?_, { n := rfl, keep := fun k _ _ => rfl, heap := fun m hm => ?_, mild := fun k _ i a b e => e }⟩⟩
      · have e3 : (st.obj id { ob with els := ob.els.set i d2 }).put oi.dst d = (st.put oi.dst d).obj id { ob with els := ob.els.set i d2 } := by cases oi.dst <;> rfl
        rw [e3]; exact q9
      · simp only [offD, List.all_eq_true] at hof
        have := hof m hm
        exact upd_ne _ _ _ _ fun e => by simp [e] at this
    · exact hb'.elim
  unfold opA at h ⊢
  split at h
  · exact hmain h
  · rename_i g want hg
    obtain ⟨dg, g1, g2, b, g3, g4, g5⟩ := h
    refine ⟨dg, g1, by rw [put_n'] at g2; exact g2, b, ?_, fun hb => hmain (g4 hb), fun hb => ?_⟩
    · rw [put_t_ne fun e => h1 dg e (looks_guard hg g1)] at g3; exact g3
    · obtain ⟨g6, g7⟩ := g5 hb
      exact ⟨by rw [hdst]; trivial, hK' _ ⟨by rw [put_comm fun e he h' => h2 e h' he]; exact g7, { n := put_n', keep := fun k hk _ => put_t_ne hk, heap := fun _ _ => by rw [put_H'], mild := fun k hk i a b e => by rw [← put_t_ne hk]; exact e }⟩⟩

theorem opA_calm {I : List Nat} {oi oj : Oper} {K K' : St → Prop} {st : St} {d : D} (hK' : ∀ s, K (s.put oi.dst d) ∧ ExtS I oj.dst st s → K' s) (hap : oi.apart ops oj = true) (hcl : callV oj = true) (hp : plain oj st = true)
    (hI : dstOf oj.dst ∉ I) (hH : ∀ m ∈ I, killO (dstOf oj.dst) (st.H m) = st.H m) (hd : ∀ m ∈ d.ids, m ∈ I) (h : opA P ops.toList oj K (st.put oi.dst d)) : opA P ops.toList oj K' st := by
  obtain ⟨h1, h2, h3⟩ := Oper.apart_spec hap
  have hop : ∀ x ∈ oj.op.operands, (st.put oi.dst d).ev x = st.ev x := fun x hx => ev_of_t fun k hk => by
    subst hk
    exact put_t_ne fun e => h1 k e (looks_operand hx)
  have hok : okDst (st.put oi.dst d) oj.dst → okDst st oj.dst := by
    unfold okDst; rw [put_n']; exact id
  simp only [plain, List.all_eq_true] at hp
  have hmain : aop P oj K (st.put oi.dst d) → aop P oj K' st := by
    rintro ⟨ha, hb⟩
    refine ⟨hok ha, ?_⟩
    have e1 : st.put oi.dst d = ⟨(st.put oi.dst d).t, st.H, st.n⟩ := by
      conv => lhs; rw [show st.put oi.dst d = ⟨(st.put oi.dst d).t, (st.put oi.dst d).H, (st.put oi.dst d).n⟩ from rfl]
      rw [put_H', put_n']
    rw [e1] at hb
    refine aopx_mild (t' := st.t) hcl (fun x hx => ?_) ?_ (fun x hx => by
      have := hop x hx
      rw [e1] at this
      exact this) hb
    · have := hop x hx
      rw [e1] at this
      rw [this]
      exact hp x (by simpa using hx)
    rintro s x ⟨τ, k1, k0, k2, k3, kH, k4⟩
    have hτd : τ d = d := k1 d fun hm => hI (hd _ hm)
    refine hK' _ ⟨?_, { n := by rw [put_n', k3], keep := fun k hk hn => ?_, heap := fun m hm => ?_, mild := fun k hk i a b e => ?_ }⟩
    · have e3 : (s.put oj.dst x).put oi.dst d = (⟨τ ∘ (st.put oi.dst d).t, s.H, s.n⟩ : St).put oj.dst x := by
        rw [put_comm fun e he h' => h2 e h' he]
        congr 1
        cases hdi : oi.dst with
        | none =>
          obtain ⟨s1, s2, s3⟩ := s
          simp only [St.put] at k2 ⊢
          rw [k2]
        | some i =>
          simp only [St.put]
          congr 1
          rw [k2]
          funext k
          by_cases hk : k = i
          · subst hk; simp [upd_same, hτd]
          · simp [upd_ne _ _ _ _ hk]
      rw [e3]; exact k4
    · rw [put_t_ne hk, k2]
      exact k1 _ fun hm => hI (hn _ hm)
    · rw [put_H']
      exact kH m (fun e => hI (e ▸ hm)) (hH m hm)
    · rw [put_t_ne hk, k2] at e
      exact k0 _ _ _ _ e
  unfold opA at h ⊢
  split at h
  · exact hmain h
  · rename_i g want hg
    obtain ⟨dg, g1, g2, b, g3, g4, g5⟩ := h
    refine ⟨dg, g1, by rw [put_n'] at g2; exact g2, b, ?_, fun hb => hmain (g4 hb), fun hb => ?_⟩
    · rw [put_t_ne fun e => h1 dg e (looks_guard hg g1)] at g3; exact g3
    · obtain ⟨g6, g7⟩ := g5 hb
      exact ⟨hok g6, hK' _ ⟨by rw [put_comm fun e he h' => h2 e h' he]; exact g7, { n := put_n', keep := fun k hk _ => put_t_ne hk, heap := fun _ _ => by rw [put_H'], mild := fun k hk i a b e => by rw [← put_t_ne hk]; exact e }⟩⟩

theorem Gives.extI {I : List Nat} {oi oj : Oper} {d : D} {st s : St} (hap : oi.apart ops oj = true) (hr : ∀ x ∈ oi.op.operands, ∀ m ∈ (st.ev x).ids, m ∈ I) (he : ExtI I oj.dst st s) (h : Gives P ops oi d st) :
    Gives P ops oi d s ∧ ∀ x ∈ oi.op.operands, st.ev x = s.ev x := by
  obtain ⟨a1, a2, a3⟩ := Oper.apart_spec hap
  obtain ⟨h1, h2⟩ := h
  have hev : ∀ x ∈ oi.op.operands, st.ev x = s.ev x := fun x hx => ev_of_t fun k hk => by
    subst hk
    exact (he.keep k (fun e => a3 k e (looks_operand hx)) (hr _ hx)).symm
  have hq : qop P oi st.ev st.H (· = d) → qop P oi s.ev s.H (· = d) := fun hx =>
    qop_HI (fun x hx m hm => he.heap m (hr x hx m (by rw [hev x hx]; exact hm))) (qop_ev hev hx)
  refine ⟨⟨by unfold okDst at *; rw [he.n]; exact h1, ?_⟩, hev⟩
  split
  · rename_i hg
    rw [hg] at h2
    exact hq h2
  · rename_i j want hg
    rw [hg] at h2
    obtain ⟨g, g1, g2, b, g3, g4, g5⟩ := h2
    refine ⟨g, g1, by rw [he.n]; exact g2, b, ?_, fun hb => hq (g4 hb), g5⟩
    have hne : oj.dst ≠ some g := fun e => a3 g e (looks_guard hg g1)
    rw [he.keep g hne (by rw [D.noRef_ids _ g3.noRef]; simp)]
    exact g3

/-- **A quiet operation that may come up now may be taken first**, beside calls that leave alone what it looks at. -/
theorem anyA_calm {i : Nat} {oi : Oper} {d : D} {K : St → Prop} {I : List Nat} {W : Nat → Prop} (hi : ops[i]? = some oi) (hq : quiet oi = true) (hd : ∀ m ∈ d.ids, m ∈ I) :
    ∀ (fuel : Nat) (listed : Array Bool) (st : St),
      (∀ j, W j → listed.getD j true = false ∧ ∃ oj, ops[j]? = some oj ∧ ∃ e ∈ oj.after, Region.binds .any e = true ∧ (e.on = i ∨ W e.on)) →
      (∀ j oj, ops[j]? = some oj → j ≠ i → listed.getD j true = false → ¬ W j → oi.apart ops oj = true ∧ (quiet oj = true ∨ (calS oj = true ∧
        ∀ m om, ops[m]? = some om → m ≠ i → m ≠ j → listed.getD m true = false → ¬ W m → ∀ k, Operand.tmp k ∈ oj.op.operands → om.dst ≠ some k))) →
      (∀ j oj, ops[j]? = some oj → j ≠ i → listed.getD j true = false → ¬ W j → quiet oj = true ∨ tameP oj st I) →
      i ∈ Region.ready .any ops listed → Gives P ops oi d st → (∀ x ∈ oi.op.operands, ∀ m ∈ (st.ev x).ids, m ∈ I) →
      anyA P ops K fuel (listed.setIfInBounds i true) (st.put oi.dst d) → anyA P ops K (fuel + 1) listed st := by
  intro fuel
  induction fuel with
  | zero =>
    intro listed st _ _ _ hr hy _ H
    refine ⟨fun h => (by rw [h] at hr; cases hr), fun j hj o ho => ?_⟩
    by_cases hji : j = i
    · subst hji
      rw [hi] at ho; cases ho
      exact hy.use hq H
    · have := ready_mono hj hji
      rw [H.1] at this
      cases this
  | succ fuel ih =>
    intro listed st hW hfree hcall hr hy hops H
    refine ⟨fun h => (by rw [h] at hr; cases hr), fun j hj o ho => ?_⟩
    by_cases hji : j = i
    · subst hji
      rw [hi] at ho; cases ho
      exact hy.use hq H
    · have h1 := H.2 j (ready_mono hj hji) o ho
      obtain ⟨hjun, oj, hoj, hall⟩ := mem_ready.1 hj
      rw [ho] at hoj; cases hoj
      have hin : ∀ m, listed.getD m true = false → listed.getD m false = true → False := fun m h h' => by
        rcases Nat.lt_or_ge m listed.size with h2 | h2
        · simp [h2] at h h'; rw [h] at h'; cases h'
        · simp [Array.getElem?_eq_none h2] at h
      have hnW : ¬ W j := fun hw => by
        obtain ⟨_, o', ho', e, he, hb, hon⟩ := hW j hw
        rw [ho] at ho'; cases ho'
        have hl := hall e he hb
        rcases hon with rfl | hon
        · exact hin _ (mem_ready.1 hr).1 hl
        · exact hin _ (hW _ hon).1 hl
      obtain ⟨f1, f2⟩ := hfree j o ho hji hjun hnW
      have hun' : ∀ m, (listed.setIfInBounds j true).getD m true = false → j ≠ m ∧ listed.getD m true = false := fun m hun => by
        have hne : j ≠ m := fun e => by
          subst e
          have hlt : j < listed.size := by
            rcases Nat.lt_or_ge j listed.size with h' | h'
            · exact h'
            · simp [Array.getElem?_eq_none h'] at hjun
          simp [hlt] at hun
        exact ⟨hne, by rw [getD_set_ne true hne] at hun; exact hun⟩
      have hkey : ∀ s, (anyA P ops K fuel ((listed.setIfInBounds i true).setIfInBounds j true) (s.put oi.dst d) ∧ ExtS I o.dst st s) → anyA P ops K (fuel + 1) (listed.setIfInBounds j true) s := by
        rintro s ⟨k1, k2⟩
        obtain ⟨y1, y2⟩ := hy.extI f1 hops k2.toExtI
        refine ih (listed.setIfInBounds j true) s (fun m hm => ?_) (fun m om hm hmi hun hnw => ?_) (fun m om hm hmi hun hnw => ?_) (ready_mono hr (Ne.symm hji)) y1 (fun x hx => by rw [← y2 x hx]; exact hops x hx) ?_
        · obtain ⟨g1, g2⟩ := hW m hm
          have hne : j ≠ m := fun e => hnW (e ▸ hm)
          exact ⟨by rw [getD_set_ne true hne]; exact g1, g2⟩
        · obtain ⟨_, hu⟩ := hun' m hun
          obtain ⟨g1, g2⟩ := hfree m om hm hmi hu hnw
          exact ⟨g1, g2.imp (fun h => h) fun h => ⟨h.1, fun m' om' hm' hmi' hne' hu' hnw' => h.2 m' om' hm' hmi' hne' (hun' m' hu').2 hnw'⟩⟩
        · obtain ⟨hne, hu⟩ := hun' m hun
          rcases hcall m om hm hmi hu hnw with h | hc
          · exact .inl h
          · rcases (hfree m om hm hmi hu hnw).2 with h | ⟨q1, q2⟩
            · exact .inl h
            · refine .inr ?_
              unfold tameP at hc ⊢
              split at hc
              · rename_i t x v hop
                cases x with
                | tmp k =>
                  have hne' := q2 j o ho hji hne hjun hnW k (by rw [hop]; simp [Op.operands])
                  show offD I (s.t k)
                  have hc' : offD I (st.t k) := hc
                  cases hsk : s.t k with
                  | adr id a b => rw [k2.mild k hne' id a b hsk] at hc'; exact hc'
                  | _ => trivial
                | _ => exact hc
              · rename_i hns
                obtain ⟨c1, c2, c3⟩ := hc
                have goal : plain om s = true ∧ dstOf om.dst ∉ I ∧ ∀ m' ∈ I, killO (dstOf om.dst) (s.H m') = s.H m' := by
                  refine ⟨?_, c2, fun m' hm' => by rw [k2.heap m' hm']; exact c3 m' hm'⟩
                  simp only [plain, List.all_eq_true] at c1 ⊢
                  intro x hx
                  have hn := c1 x hx
                  rw [← ev_of_t (s := st) (s' := s) (x := x) fun k hk => ?_]
                  · exact hn
                  · subst hk
                    refine (k2.keep k (q2 j o ho hji hne hjun hnW k (by simpa using hx)) ?_).symm
                    have := D.noRef_ids _ hn
                    have e : (st.t k).ids = [] := this
                    rw [e]; simp
                first
                  | exact goal
                  | (split
                     · rename_i t x v hop; exact absurd hop (hns t x v)
                     · exact goal)
        · rw [Array.setIfInBounds_comm _ _ hji]; exact k1
      rcases f2 with hqj | ⟨hcj, _⟩
      · exact opA_swap (fun s hs => hkey s ⟨hs.1, by have := hs.2; rw [hqj] at this; exact this.toS⟩) f1 (.inl hqj) (.inr hqj) h1
      · rcases hcall j o ho hji hjun hnW with h | hc
        · rw [calS_not_quiet hcj] at h; cases h
        · unfold tameP at hc
          split at hc
          · rename_i t x v hop
            have hdn : o.dst = none := by
              simp only [calS, callV, hop, Bool.false_or] at hcj
              split at hcj
              · assumption
              · cases hcj
            exact opA_store hop hdn hkey f1 hc h1
          · rename_i hns
            obtain ⟨c1, c2, c3⟩ := hc
            have hcv : callV o = true := by
              simp only [calS, Bool.or_eq_true] at hcj
              rcases hcj with h | h
              · exact h
              · split at h
                · rename_i hop _; exact absurd hop (hns _ _ _)
                · cases h
            exact opA_calm hkey f1 hcv c1 c2 c3 hd h1
end
end Go.VL
/- Regions that draw their order: a quiet operation beside a family of operations that have to do with one another alone. -/
namespace Go.VL
open Go Go.RowKit

mutual
theorem D.kill_sub : ∀ (d : D) (id m : Nat), m ∈ (d.kill id).ids → m ∈ d.ids
  | .any, _, _, h => h
  | .v _, _, _, h => h
  | .nil0, _, _, h => h
  | .lst _, _, _, h => h
  | .ptr _, _, _, h => h
  | .agg l, id, m, h => D.kills_sub l id m h
  | .tup l, id, m, h => D.kills_sub l id m h
  | .clos _ l, id, m, h => D.kills_sub l id m h
  | .ref i n, id, m, h => by
    simp only [D.kill] at h
    split at h
    · cases h
    · exact h
  | .adr i _ _, id, m, h => by
    simp only [D.kill] at h
    split at h
    · cases h
    · exact h
  | .sub i _ _, id, m, h => by
    simp only [D.kill] at h
    split at h
    · cases h
    · exact h
  | .loc i _, id, m, h => by
    simp only [D.kill] at h
    split at h
    · cases h
    · exact h
  | .mp i, id, m, h => by
    simp only [D.kill] at h
    split at h
    · cases h
    · exact h
theorem D.kills_sub : ∀ (l : List D) (id m : Nat), m ∈ D.idss (D.kills id l) → m ∈ D.idss l
  | [], _, _, h => h
  | d :: ds, id, m, h => by
    simp only [D.kills, D.idss, List.mem_append] at h ⊢
    exact h.imp (D.kill_sub d id m) (D.kills_sub ds id m)
end
mutual
theorem D.frz_ids : ∀ (d : D) (id : Nat) (els : List D), id ∉ d.ids → d.frz id els = d
  | .any, _, _, _ => rfl
  | .v _, _, _, _ => rfl
  | .nil0, _, _, _ => rfl
  | .lst _, _, _, _ => rfl
  | .ptr _, _, _, _ => rfl
  | .agg l, id, els, h => by simp only [D.frz]; rw [D.frzs_idss l id els h]
  | .tup l, id, els, h => by simp only [D.frz]; rw [D.frzs_idss l id els h]
  | .clos _ l, id, els, h => by simp only [D.frz]; rw [D.frzs_idss l id els h]
  | .ref i n, id, els, h => by simp only [D.ids, List.mem_singleton] at h; simp only [D.frz]; rw [if_neg (fun e => h e.symm)]
  | .adr i _ _, id, els, h => by simp only [D.ids, List.mem_singleton] at h; simp only [D.frz]; rw [if_neg (fun e => h e.symm)]
  | .sub i _ _, id, els, h => by simp only [D.ids, List.mem_singleton] at h; simp only [D.frz]; rw [if_neg (fun e => h e.symm)]
  | .loc _ _, _, _, _ => rfl
  | .mp _, _, _, _ => rfl
theorem D.frzs_idss : ∀ (l : List D) (id : Nat) (els : List D), id ∉ D.idss l → D.frzs id els l = l
  | [], _, _, _ => rfl
  | d :: ds, id, els, h => by
    simp only [D.idss, List.mem_append, not_or] at h
    simp only [D.frzs]; rw [D.frz_ids d id els h.1, D.frzs_idss ds id els h.2]
end
mutual
theorem D.frz_sub : ∀ (d : D) (id : Nat) (els : List D) (m : Nat), m ∈ (d.frz id els).ids → m ∈ d.ids
  | .any, _, _, _, h => h
  | .v _, _, _, _, h => h
  | .nil0, _, _, _, h => h
  | .lst _, _, _, _, h => h
  | .ptr _, _, _, _, h => h
  | .agg l, id, els, m, h => D.frzs_sub l id els m h
  | .tup l, id, els, m, h => D.frzs_sub l id els m h
  | .clos _ l, id, els, m, h => D.frzs_sub l id els m h
  | .ref i n, id, els, m, h => by
    simp only [D.frz] at h
    split at h
    · split at h <;> cases h
    · exact h
  | .adr i a b, id, els, m, h => by
    simp only [D.frz] at h
    split at h
    · split at h
      · split at h <;> cases h
      · cases h
    · exact h
  | .sub i a b, id, els, m, h => by
    simp only [D.frz] at h
    split at h
    · split at h <;> cases h
    · exact h
  | .loc _ _, _, _, _, h => h
  | .mp _, _, _, _, h => h
theorem D.frzs_sub : ∀ (l : List D) (id : Nat) (els : List D) (m : Nat), m ∈ D.idss (D.frzs id els l) → m ∈ D.idss l
  | [], _, _, _, h => h
  | d :: ds, id, els, m, h => by
    simp only [D.frzs, D.idss, List.mem_append] at h ⊢
    exact h.imp (D.frz_sub d id els m) (D.frzs_sub ds id els m)
end

/-- Nothing of what X names stands in it. -/
def Off (X : List Nat) (d : D) : Prop := ∀ x ∈ X, x ∉ d.ids
def OffO (X : List Nat) (o : Option Own) : Prop := ∀ ob, o = some ob → ∀ x ∈ X, x ∉ D.idss ob.els
/-- An effect on all slots alike that has to do with what X names alone. -/
structure Mild (X : List Nat) (τ : D → D) : Prop where
  off : ∀ d, Off X d → τ d = d
  sub : ∀ d m, m ∈ (τ d).ids → m ∈ d.ids
theorem Mild.id {X : List Nat} : Mild X id := ⟨fun _ _ => rfl, fun _ _ h => h⟩
theorem Mild.comp {X : List Nat} {τ σ : D → D} (h : Mild X τ) (k : Mild X σ) : Mild X (τ ∘ σ) :=
  ⟨fun d hd => by simp only [Function.comp]; rw [k.off d hd, h.off d hd], fun d m hm => k.sub d m (h.sub _ m hm)⟩
theorem Mild.kill {X : List Nat} {i : Nat} (h : i ∈ X) : Mild X (D.kill i) := ⟨fun d hd => D.kill_ids d i (hd i h), fun d m => D.kill_sub d i m⟩
theorem Mild.frz {X : List Nat} {i : Nat} (h : i ∈ X) (els : List D) : Mild X (D.frz i els) := ⟨fun d hd => D.frz_ids d i els (hd i h), fun d m => D.frz_sub d i els m⟩
/-- What is not of X is as it was. -/
def SameOff (X : List Nat) (H H' : Nat → Option Own) : Prop := ∀ m, m ∉ X → OffO X (H m) → H' m = H m
theorem SameOff.trans {X : List Nat} {H H' H'' : Nat → Option Own} (h : SameOff X H H') (k : SameOff X H' H'') : SameOff X H H'' := fun m hm ho => by
  have e := h m hm ho
  rw [k m hm (by rw [e]; exact ho), e]
theorem SameOff.killed {X : List Nat} {t : Nat → D} {H : Nat → Option Own} {n i : Nat} (h : i ∈ X) : SameOff X H ((⟨t, H, n⟩ : St).killed i).H := fun m hm ho => by
  show (if m = i then none else (H m).map fun o => { o with els := D.kills i o.els }) = H m
  rw [if_neg (fun e => hm (by rw [e]; exact h))]
  cases hH : H m with
  | none => rfl
  | some ob =>
    have := ho ob hH i h
    simp only [Option.map_some]
    rw [D.kills_idss _ _ this]
theorem SameOff.frozen {X : List Nat} {t : Nat → D} {H : Nat → Option Own} {n i : Nat} (h : i ∈ X) (els : List D) : SameOff X H ((⟨t, H, n⟩ : St).frozen i els).H := fun m hm ho => by
  show (if m = i then none else (H m).map fun o => { o with els := D.frzs i els o.els }) = H m
  rw [if_neg (fun e => hm (by rw [e]; exact h))]
  cases hH : H m with
  | none => rfl
  | some ob =>
    have := ho ob hH i h
    simp only [Option.map_some]
    rw [D.frzs_idss _ _ _ this]
theorem SameOff.obj {X : List Nat} {t : Nat → D} {H : Nat → Option Own} {n i : Nat} (h : i ∈ X) (o : Own) : SameOff X H ((⟨t, H, n⟩ : St).obj i o).H := fun m hm _ => by
  show upd H i (some o) m = H m
  rw [upd_ne _ _ _ _ (fun e => hm (by rw [e]; exact h))]

/-- As BothI, of a family. -/
def BothX (X : List Nat) (K : St → D → Prop) (t t' : Nat → D) (n : Nat) (H : Nat → Option Own) : St → D → Prop := fun s d =>
  ∃ τ, Mild X τ ∧ s.t = τ ∘ t' ∧ s.n = n ∧ SameOff X H s.H ∧ (∀ m ∈ d.ids, m ∈ X) ∧ K ⟨τ ∘ t, s.H, s.n⟩ d

section
variable {P : Program} {X : List Nat} {K K' : St → D → Prop} {t t' : Nat → D} {H : Nat → Option Own} {n id : Nat} {ty : TypeId}
theorem bothX_same {d : D} (hd : ∀ m ∈ d.ids, m ∈ X) (h : K ⟨t, H, n⟩ d) : BothX X K t t' n H ⟨t', H, n⟩ d := ⟨_root_.id, Mild.id, rfl, rfl, fun _ _ _ => rfl, hd, h⟩
theorem bothX_kill {d : D} {o : Own} (hi : id ∈ X) (hd : ∀ m ∈ d.ids, m ∈ X) (h : K (((⟨t, H, n⟩ : St).killed id).obj id o) d) : BothX X K t t' n H (((⟨t', H, n⟩ : St).killed id).obj id o) d :=
  ⟨D.kill id, Mild.kill hi, rfl, rfl, (SameOff.killed (t := t') (n := n) hi).trans (SameOff.obj (t := t') (n := n) hi o), hd, h⟩
theorem frzAll_X : ∀ (ids : List Nat) (t t' : Nat → D) (H : Nat → Option Own) (n : Nat) (l : List D) (p : St × List D), (∀ i ∈ ids, i ∈ X) → frzAll ids ⟨t, H, n⟩ l = some p →
    ∃ τ, Mild X τ ∧ p.1.t = τ ∘ t ∧ p.1.n = n ∧ SameOff X H p.1.H ∧ frzAll ids ⟨t', H, n⟩ l = some (⟨τ ∘ t', p.1.H, p.1.n⟩, p.2)
  | [], t, t', H, n, l, p, _, h => by
    simp only [frzAll, Option.some.injEq] at h
    subst h
    exact ⟨_root_.id, Mild.id, rfl, rfl, fun _ _ _ => rfl, rfl⟩
  | i :: ids, t, t', H, n, l, p, hi, h => by
    have hi1 := hi i (List.mem_cons_self ..)
    have hi2 : ∀ j ∈ ids, j ∈ X := fun j hj => hi j (List.mem_cons_of_mem _ hj)
    unfold frzAll at h ⊢
    simp only at h ⊢
    cases ho : H i with
    | none =>
      rw [ho] at h
      exact frzAll_X ids t t' H n l p hi2 h
    | some o =>
      rw [ho] at h
      simp only at h ⊢
      split at h
      · rename_i hc
        rw [if_pos hc]
        obtain ⟨τ, h1, h2, hn, hs, h3⟩ := frzAll_X ids (fun j => (t j).frz i (D.nrms o.els)) (fun j => (t' j).frz i (D.nrms o.els)) _ n _ p hi2 h
        refine ⟨τ ∘ D.frz i (D.nrms o.els), h1.comp (Mild.frz hi1 _), h2, hn, (SameOff.frozen (t := t) (n := n) hi1 _).trans hs, h3⟩
      · cases h
theorem opBox_X (hi : id ∈ X) (hk : ∀ s d, BothX X K t t' n H s d → K' s d) {v : D} (h : opBox P ty v id K ⟨t, H, n⟩) : opBox P ty v id K' ⟨t', H, n⟩ :=
  ⟨h.1, h.2.1, h.2.2.1, hk _ _ (bothX_kill hi (by intro m hm; simp only [D.ids, List.mem_singleton] at hm; rw [hm]; exact hi) h.2.2.2)⟩
theorem opAlloc_X (hi : id ∈ X) (hk : ∀ s d, BothX X K t t' n H s d → K' s d) (h : opAlloc P ty id K ⟨t, H, n⟩) : opAlloc P ty id K' ⟨t', H, n⟩ := by
  obtain ⟨z, h1, h2, h3, h4, h5⟩ := h
  exact ⟨z, h1, h2, h3, h4, hk _ _ (bothX_kill hi (by intro m hm; simp only [D.ids, List.mem_singleton] at hm; rw [hm]; exact hi) h5)⟩
theorem opMakeSlice_X (hi : id ∈ X) (hk : ∀ s d, BothX X K t t' n H s d → K' s d) {l c : D} (h : opMakeSlice P ty l c id K ⟨t, H, n⟩) : opMakeSlice P ty l c id K' ⟨t', H, n⟩ := by
  unfold opMakeSlice at *
  split at h
  · obtain ⟨e, h1, h2, h3, h4, h5, h6, z, h7, h8, h9, h10⟩ := h
    exact ⟨e, h1, h2, h3, h4, h5, h6, z, h7, h8, h9, hk _ _ (bothX_kill hi (by intro m hm; simp only [D.ids, List.mem_singleton] at hm; rw [hm]; exact hi) h10)⟩
  · exact h.elim
theorem opAppend_X (hi : id ∈ X) (hk : ∀ s d, BothX X K t t' n H s d → K' s d) {x y : D} (hx : ∀ m ∈ x.ids, m ∈ X) (h : opAppend P ty x y id K ⟨t, H, n⟩) : opAppend P ty x y id K' ⟨t', H, n⟩ := by
  obtain ⟨e, h1, h2, b, h3, xs, h4, h5, h6, h7, h8, h9, h10⟩ := h
  have hb : b.1 ∈ X := by
    unfold baseD at h3
    split at h3
    · cases h3; exact hi
    · cases h3; exact hi
    · rename_i r k
      simp only at h3
      split at h3
      · split at h3
        · cases h3
          exact hx r (by simp [D.ids])
        · cases h3
      · cases h3
    · cases h3
  exact ⟨e, h1, h2, b, h3, xs, h4, h5, h6, h7, h8, h9, hk _ _ (bothX_kill hb (by intro m hm; simp only [D.ids, List.mem_singleton] at hm; rw [hm]; exact hb) h10)⟩
theorem opBuildSliceM_X (hi : id ∈ X) (hk : ∀ s d, BothX X K t t' n H s d → K' s d) {len : Nat} {parts : List (Nat × D)} (hx : ∀ m ∈ D.idss (parts.map Prod.snd), m ∈ X) (h : opBuildSliceM P ty len parts id K ⟨t, H, n⟩) : opBuildSliceM P ty len parts id K' ⟨t', H, n⟩ := by
  obtain ⟨p, h1, h2⟩ := h
  obtain ⟨τ, k1, k2, kn, ks, k3⟩ := frzAll_X _ t t' H n _ p hx h1
  refine ⟨_, k3, ?_⟩
  obtain ⟨⟨pt, pH, pn⟩, pl⟩ := p
  simp only at k2 kn ks
  subst k2 kn
  obtain ⟨e, g1, g2, g3, g4, g5, g6, g7, g8⟩ := h2
  refine ⟨e, g1, g2, g3, g4, g5, g6, g7, ?_⟩
  split
  · rename_i hl
    rw [if_pos hl] at g8
    exact hk _ _ ⟨D.kill id ∘ τ, (Mild.kill hi).comp k1, rfl, rfl, ks.trans ((SameOff.killed (t := τ ∘ t) (n := pn) hi).trans (SameOff.obj (t := τ ∘ t) (n := pn) hi _)),
      by intro m hm; simp only [D.ids, List.mem_singleton] at hm; rw [hm]; exact hi, g8⟩
  · rename_i hl
    rw [if_neg hl] at g8
    exact hk _ _ ⟨τ, k1, rfl, rfl, ks, (by intro m hm; cases hm), g8⟩
theorem idss_mem {l : List D} {m : Nat} (h : m ∈ D.idss l) : ∃ d ∈ l, m ∈ d.ids := by
  induction l with
  | nil => cases h
  | cons x xs ih =>
    simp only [D.idss, List.mem_append] at h
    rcases h with h | h
    · exact ⟨x, List.mem_cons_self .., h⟩
    · obtain ⟨d, h1, h2⟩ := ih h
      exact ⟨d, List.mem_cons_of_mem _ h1, h2⟩
theorem mem_idss' {l : List D} {d : D} {m : Nat} (hd : d ∈ l) (hm : m ∈ d.ids) : m ∈ D.idss l := by
  induction l with
  | nil => cases hd
  | cons x xs ih =>
    simp only [D.idss, List.mem_append]
    rcases List.mem_cons.1 hd with rfl | hd
    · exact .inl hm
    · exact .inr (ih hd)
theorem SameOff.setObjs {X : List Nat} {t : Nat → D} {H : Nat → Option Own} {n : Nat} {σ : List Nat} {os : List Own} (h : ∀ i ∈ σ, i ∈ X) : SameOff X H (setObjs ⟨t, H, n⟩ σ os).H := fun m hm _ => setObjs_out _ _ _ _ fun e => hm (h m e)
mutual
theorem D.ids_ren : ∀ (d : D) (k i : Nat), i ∈ (d.ren k).ids → i = k
  | .any, _, i, h => by simp [D.ren, D.ids] at h
  | .v _, _, i, h => by simp [D.ren, D.ids] at h
  | .nil0, _, i, h => by simp [D.ren, D.ids] at h
  | .lst _, _, i, h => by simp [D.ren, D.ids] at h
  | .ptr _, _, i, h => by simp [D.ren, D.ids] at h
  | .agg l, k, i, h => D.idss_ren l k i (by simpa [D.ren, D.ids] using h)
  | .tup l, k, i, h => D.idss_ren l k i (by simpa [D.ren, D.ids] using h)
  | .clos _ l, k, i, h => D.idss_ren l k i (by simpa [D.ren, D.ids] using h)
  | .ref _ _, _, i, h => by simpa [D.ren, D.ids] using h
  | .adr _ _ _, _, i, h => by simpa [D.ren, D.ids] using h
  | .sub _ _ _, _, i, h => by simpa [D.ren, D.ids] using h
  | .loc _ _, _, i, h => by simpa [D.ren, D.ids] using h
  | .mp _, _, i, h => by simpa [D.ren, D.ids] using h
theorem D.idss_ren : ∀ (l : List D) (k i : Nat), i ∈ D.idss (D.rens k l) → i = k
  | [], _, i, h => by simp [D.rens, D.idss] at h
  | d :: ds, k, i, h => by
    simp only [D.rens, D.idss, List.mem_append] at h
    rcases h with h | h
    · exact D.ids_ren d k i h
    · exact D.idss_ren ds k i h
end
theorem opCall_X (hi : id ∈ X) (hk : ∀ s d, BothX X K t t' n H s d → K' s d) {f : D} {args : List D} (hf : ∀ m ∈ f.ids, m ∈ X) (hx : ∀ m ∈ D.idss args, m ∈ X) (h : opCall P f args id K ⟨t, H, n⟩) : opCall P f args id K' ⟨t', H, n⟩ := by
  unfold opCall at *
  split at h
  · rename_i g caps
    have hall : ∀ m ∈ D.idss (args ++ caps), m ∈ X := fun m hm => by
      obtain ⟨d, hd, hmd⟩ := idss_mem hm
      rcases List.mem_append.1 hd with hd | hd
      · exact hx m (mem_idss' hd hmd)
      · exact hf m (mem_idss' hd hmd)
    rcases h with ⟨p, h1, h2, h3⟩ | ⟨σ, as, lent, R, l1, l2, l3, l4, l5, l6, l7⟩
    · refine .inl ?_
      obtain ⟨τ, k1, k2, kn, ks, k3⟩ := frzAll_X _ t t' H n _ p hall h1
      obtain ⟨⟨pt, pH, pn⟩, pl⟩ := p
      simp only at k2 kn ks
      subst k2 kn
      refine ⟨_, k3, h2, ?_⟩
      rcases h3 with ⟨R, h4, h5⟩ | ⟨R, h4, h5⟩
      · refine .inl ⟨R, h4, fun r hr hnr => ?_⟩
        have := h5 r hr hnr
        have hri : ∀ m ∈ r.ids, m ∈ X := fun m hm => by rw [D.noRef_ids _ hnr] at hm; cases hm
        split
        · rename_i hfl
          rw [if_pos hfl] at this
          exact hk _ _ (bothX_same hri this)
        · rename_i hfl
          rw [if_neg hfl] at this
          exact hk _ _ ⟨τ, k1, rfl, rfl, ks, hri, this⟩
      · refine .inr ⟨R, h4, fun r o hr hnr => ?_⟩
        have := h5 r o hr hnr
        cases o with
        | none => exact fun hn => hk _ _ ⟨τ, k1, rfl, rfl, ks, (fun m hm => by rw [D.noRef_ids _ hn] at hm; cases hm), this hn⟩
        | some o =>
          refine hk _ _ ⟨D.kill id ∘ τ, (Mild.kill hi).comp k1, rfl, rfl, ks.trans ((SameOff.killed (t := τ ∘ t) (n := pn) hi).trans (SameOff.obj (t := τ ∘ t) (n := pn) hi o)), fun m hm => ?_, this⟩
          rw [D.ids_ren _ _ _ hm]; exact hi
    · refine .inr ⟨σ, as, lent, R, l1, l2, l3, l4, l5, l6, fun r os hr hnr => ?_⟩
      have e : ∀ u : Nat → D, setObjs ⟨u, H, n⟩ σ os = ⟨u, (setObjs ⟨t', H, n⟩ σ os).H, n⟩ := fun u => by
        have h1 := setObjs_t ⟨u, H, n⟩ σ os
        have h2 := setObjs_n ⟨u, H, n⟩ σ os
        have h3 := setObjs_HH H n u t' σ os
        generalize setObjs ⟨u, H, n⟩ σ os = z at *
        obtain ⟨zt, zH, zn⟩ := z
        simp only at h1 h2 h3 ⊢
        rw [h1, h2, h3]
      have := l7 r os hr hnr
      rw [e t] at this
      refine hk _ _ ⟨_root_.id, Mild.id, setObjs_t _ _ _, setObjs_n _ _ _, SameOff.setObjs fun i hi => hall i (l2 i hi), (fun m hm => by rw [D.noRef_ids _ hnr] at hm; cases hm), ?_⟩
      have en : (setObjs ⟨t', H, n⟩ σ os).n = n := setObjs_n _ _ _
      show K ⟨t, (setObjs ⟨t', H, n⟩ σ os).H, (setObjs ⟨t', H, n⟩ σ os).n⟩ r
      rw [en]; exact this
  · exact h.elim
theorem opStore_X {t0 : TypeId} (hk : ∀ s d, BothX X K t t' n H s d → K' s d) {x v : D} (hx : ∀ m ∈ x.ids, m ∈ X) (h : opStore P t0 x v (fun s => K s .any) ⟨t, H, n⟩) : opStore P t0 x v (fun s => K' s .any) ⟨t', H, n⟩ := by
  unfold opStore at *
  split at h
  · rename_i i j o
    obtain ⟨ob, h1, d, h2, h3, h4, h5, h6, d', h7, h8⟩ := h
    have hiX : i ∈ X := hx i (by simp [D.ids])
    exact ⟨ob, h1, d, h2, h3, h4, h5, h6, d', h7, hk _ _ ⟨_root_.id, Mild.id, rfl, rfl, SameOff.obj (t := t') (n := n) hiX _, (by intro m hm; cases hm), h8⟩⟩
  · exact h.elim
/-- The operations that a family may be of. -/
def famV (o : Oper) : Bool :=
  match o.op with
  | .store .. => true
  | .alloc _ => true
  | .box .. => true
  | .makeSlice .. => true
  | .buildSlice .. => true
  | .call ⟨.value _, _, _⟩ => true
  | .call ⟨.builtin .append, args, ts⟩ => args.size == 2 && ts.size == 2
  | _ => false
theorem famV_not_quiet {o : Oper} (h : famV o = true) : quiet o = false := by
  unfold famV at h
  split at h
  · rename_i ho; simp [quiet, ho]
  · rename_i ho; simp [quiet, ho]
  · rename_i ho; simp [quiet, ho]
  · rename_i ho; simp [quiet, ho]
  · rename_i ho; simp [quiet, ho]
  · rename_i ho; simp [quiet, ho]
  · rename_i ho; simp [quiet, ho]
  · cases h
theorem aopx_fam {o : Oper} (hq : famV o = true) (hi : dstOf o.dst ∈ X)
    (hp : ∀ x ∈ o.op.operands, ∀ m ∈ ((⟨t, H, n⟩ : St).ev x).ids, m ∈ X) (hk : ∀ s d, BothX X K t t' n H s d → K' s d)
    (he : ∀ x ∈ o.op.operands, (⟨t, H, n⟩ : St).ev x = (⟨t', H, n⟩ : St).ev x) (h : aopx P o K ⟨t, H, n⟩) : aopx P o K' ⟨t', H, n⟩ := by
  obtain ⟨dst, op, ty, pos, af, g⟩ := o
  cases op
  case store t1 x v =>
    have h1 := he x (by simp [Op.operands])
    have h2 := he v (by simp [Op.operands])
    exact (by rw [← h1, ← h2]; exact opStore_X hk (hp x (by simp [Op.operands])) h : opStore P t1 ((⟨t', H, n⟩ : St).ev x) ((⟨t', H, n⟩ : St).ev v) (fun s => K' s .any) ⟨t', H, n⟩)
  case alloc e => exact opAlloc_X hi hk h
  case box e x =>
    have := he x (by simp [Op.operands])
    exact (by rw [← this]; exact opBox_X hi hk h : opBox P e ((⟨t', H, n⟩ : St).ev x) (dstOf dst) K' ⟨t', H, n⟩)
  case makeSlice t1 l c =>
    have h1 := he l (by simp [Op.operands])
    have h2 := he c (by simp [Op.operands])
    exact (by rw [← h1, ← h2]; exact opMakeSlice_X hi hk h : opMakeSlice P t1 ((⟨t', H, n⟩ : St).ev l) ((⟨t', H, n⟩ : St).ev c) (dstOf dst) K' ⟨t', H, n⟩)
  case buildSlice t1 len ps =>
    have hps : (ps.toList.map fun p => (p.1, (⟨t, H, n⟩ : St).ev p.2)) = ps.toList.map fun p => (p.1, (⟨t', H, n⟩ : St).ev p.2) :=
      List.map_congr_left fun p hp => by rw [he p.2 (by simp [Op.operands]; exact ⟨p.1, by simpa using hp⟩)]
    have hx : ∀ m ∈ D.idss ((ps.toList.map fun p => (p.1, (⟨t, H, n⟩ : St).ev p.2)).map Prod.snd), m ∈ X := by
      intro m hm
      obtain ⟨d, hd, hmd⟩ := idss_mem hm
      simp only [List.map_map, List.mem_map, Function.comp] at hd
      obtain ⟨p, hp', rfl⟩ := hd
      exact hp p.2 (by simp [Op.operands]; exact ⟨p.1, by simpa using hp'⟩) m hmd
    exact (by rw [← hps]; exact opBuildSliceM_X hi hk hx h : opBuildSliceM P t1 len (ps.toList.map fun p => (p.1, (⟨t', H, n⟩ : St).ev p.2)) (dstOf dst) K' ⟨t', H, n⟩)
  case call c =>
    obtain ⟨cal, args, ts⟩ := c
    cases cal
    case builtin b =>
      cases b
      case append =>
        simp only [famV, Bool.and_eq_true, beq_iff_eq] at hq
        obtain ⟨l⟩ := args
        obtain ⟨l'⟩ := ts
        match l, l', hq with
        | [x, y], [u, u'], _ =>
          have h1 := he x (by simp [Op.operands, Call.operands])
          have h2 := he y (by simp [Op.operands, Call.operands])
          have h3 := hp x (by simp [Op.operands, Call.operands])
          obtain ⟨e, h⟩ := (h : u = u' ∧ opAppend P u ((⟨t, H, n⟩ : St).ev x) ((⟨t, H, n⟩ : St).ev y) (dstOf dst) K ⟨t, H, n⟩)
          exact (⟨e, by rw [← h1, ← h2]; exact opAppend_X hi hk h3 h⟩ : u = u' ∧ opAppend P u ((⟨t', H, n⟩ : St).ev x) ((⟨t', H, n⟩ : St).ev y) (dstOf dst) K' ⟨t', H, n⟩)
      all_goals exact absurd hq (by simp [famV])
    case value f =>
      have h1 := he f (by simp [Op.operands, Call.operands])
      have h2 : args.toList.map (⟨t, H, n⟩ : St).ev = args.toList.map (⟨t', H, n⟩ : St).ev := map_ev _ fun x hx => he x (by simp [Op.operands, Call.operands]; exact .inr (by simpa using hx))
      have h3 := hp f (by simp [Op.operands, Call.operands])
      have h4 : ∀ m ∈ D.idss (args.toList.map (⟨t, H, n⟩ : St).ev), m ∈ X := by
        intro m hm
        obtain ⟨d, hd, hmd⟩ := idss_mem hm
        obtain ⟨x, hx, rfl⟩ := List.mem_map.1 hd
        exact hp x (by simp [Op.operands, Call.operands]; exact .inr (by simpa using hx)) m hmd
      exact (by rw [← h1, ← h2]; exact opCall_X hi hk h3 h4 h : opCall P ((⟨t', H, n⟩ : St).ev f) (args.toList.map (⟨t', H, n⟩ : St).ev) (dstOf dst) K' ⟨t', H, n⟩)
    all_goals exact absurd hq (by simp [famV])
  all_goals exact absurd hq (by simp [famV])
end

/-- How a state s comes of st by an operation beside I: what it has to do with. -/
structure ExtF (X I : List Nat) (dst : Option Tmp) (fam : Bool) (st s : St) : Prop where
  ext : ExtI I dst st s
  sub : ∀ k, dst ≠ some k → ∀ m ∈ (s.t k).ids, m ∈ (st.t k).ids
  out : fam = true → ∀ k, dst = some k → k < st.n → ∀ m ∈ (s.t k).ids, m ∈ X

section
variable {P : Program} {ops : Array Oper}
theorem opA_fam {X I : List Nat} {oi oj : Oper} {K K' : St → Prop} {st : St} {d : D} (hK' : ∀ s, K (s.put oi.dst d) ∧ ExtF X I oj.dst true st s → K' s) (hap : oi.apart ops oj = true) (hcl : famV oj = true) (hdst : dstOf oj.dst ∈ X)
    (hp : ∀ x ∈ oj.op.operands, ∀ m ∈ (st.ev x).ids, m ∈ X) (hX : ∀ m ∈ I, m ∉ X ∧ OffO X (st.H m)) (hd : ∀ m ∈ d.ids, m ∈ I) (h : opA P ops.toList oj K (st.put oi.dst d)) : opA P ops.toList oj K' st := by
  obtain ⟨h1, h2, h3⟩ := Oper.apart_spec hap
  have hop : ∀ x ∈ oj.op.operands, (st.put oi.dst d).ev x = st.ev x := fun x hx => ev_of_t fun k hk => by
    subst hk
    exact put_t_ne fun e => h1 k e (looks_operand hx)
  have hok : okDst (st.put oi.dst d) oj.dst → okDst st oj.dst := by
    unfold okDst; rw [put_n']; exact id
  have hdX : Off X d := fun x hx hm => (hX x (hd x hm)).1 hx
  have hmain : aop P oj K (st.put oi.dst d) → aop P oj K' st := by
    rintro ⟨ha, hb⟩
    refine ⟨hok ha, ?_⟩
    have e1 : st.put oi.dst d = ⟨(st.put oi.dst d).t, st.H, st.n⟩ := by
      conv => lhs; rw [show st.put oi.dst d = ⟨(st.put oi.dst d).t, (st.put oi.dst d).H, (st.put oi.dst d).n⟩ from rfl]
      rw [put_H', put_n']
    rw [e1] at hb
    refine aopx_fam (t' := st.t) hcl hdst (fun x hx => ?_) ?_ (fun x hx => by
      have := hop x hx
      rw [e1] at this
      exact this) hb
    · have := hop x hx
      rw [e1] at this
      rw [this]
      exact hp x hx
    rintro s x ⟨τ, k1, k2, k3, kH, kd, k4⟩
    have hτd : τ d = d := k1.off d hdX
    refine hK' _ ⟨?_, ⟨by rw [put_n', k3], fun k hk hn => ?_, fun m hm => ?_⟩, fun k hk m hm => ?_, fun _ k hk hlt m hm => ?_⟩
    · have e3 : (s.put oj.dst x).put oi.dst d = (⟨τ ∘ (st.put oi.dst d).t, s.H, s.n⟩ : St).put oj.dst x := by
        rw [put_comm fun e he h' => h2 e h' he]
        congr 1
        cases hdi : oi.dst with
        | none =>
          obtain ⟨s1, s2, s3⟩ := s
          simp only [St.put] at k2 ⊢
          rw [k2]
        | some i =>
          simp only [St.put]
          congr 1
          rw [k2]
          funext k
          by_cases hk : k = i
          · subst hk; simp [upd_same, hτd]
          · simp [upd_ne _ _ _ _ hk]
      rw [e3]; exact k4
    · rw [put_t_ne hk, k2]
      exact k1.off _ fun x hx hm => (hX x (hn _ hm)).1 hx
    · rw [put_H']
      exact kH m (hX m hm).1 (hX m hm).2
    · rw [put_t_ne hk, k2] at hm
      exact k1.sub _ m hm
    · subst_vars
      rw [hk] at hm
      simp only [St.put, upd_same] at hm
      exact kd m hm
  unfold opA at h ⊢
  split at h
  · exact hmain h
  · rename_i g want hg
    obtain ⟨dg, g1, g2, b, g3, g4, g5⟩ := h
    refine ⟨dg, g1, by rw [put_n'] at g2; exact g2, b, ?_, fun hb => hmain (g4 hb), fun hb => ?_⟩
    · rw [put_t_ne fun e => h1 dg e (looks_guard hg g1)] at g3; exact g3
    · obtain ⟨g6, g7⟩ := g5 hb
      refine ⟨hok g6, hK' _ ⟨by rw [put_comm fun e he h' => h2 e h' he]; exact g7, ⟨put_n', fun k hk _ => put_t_ne hk, fun _ _ => by rw [put_H']⟩, fun k hk m hm => by rw [put_t_ne hk] at hm; exact hm, fun _ k hk _ m hm => ?_⟩⟩
      rw [hk] at hm
      simp only [St.put, upd_same] at hm
      cases hm

/-- **A quiet operation that may come up now may be taken first**, beside a family of operations that have to do with one another alone. -/
theorem anyA_fam {i : Nat} {oi : Oper} {d : D} {K : St → Prop} {X I : List Nat} {W : Nat → Prop} (hi : ops[i]? = some oi) (hq : quiet oi = true) (hd : ∀ m ∈ d.ids, m ∈ I) :
    ∀ (fuel : Nat) (listed : Array Bool) (st : St),
      (∀ j, W j → listed.getD j true = false ∧ ∃ oj, ops[j]? = some oj ∧ ∃ e ∈ oj.after, Region.binds .any e = true ∧ (e.on = i ∨ W e.on)) →
      (∀ j oj, ops[j]? = some oj → j ≠ i → listed.getD j true = false → ¬ W j → oi.apart ops oj = true ∧ (quiet oj = true ∨ (famV oj = true ∧ dstOf oj.dst ∈ X ∧
        ∀ m om, ops[m]? = some om → m ≠ i → m ≠ j → listed.getD m true = false → ¬ W m → ∀ k, Operand.tmp k ∈ oj.op.operands → om.dst = some k → quiet om = false ∧ ∃ e ∈ oj.after, Region.binds .any e = true ∧ e.on = m))) →
      (∀ j oj, ops[j]? = some oj → j ≠ i → listed.getD j true = false → ¬ W j → quiet oj = true ∨ ∀ x ∈ oj.op.operands, (∀ m ∈ (st.ev x).ids, m ∈ X) ∨ ∃ k m om, x = .tmp k ∧ ops[m]? = some om ∧ m ≠ i ∧ m ≠ j ∧ listed.getD m true = false ∧ ¬ W m ∧ om.dst = some k) →
      (∀ m ∈ I, m ∉ X ∧ OffO X (st.H m)) →
      i ∈ Region.ready .any ops listed → Gives P ops oi d st → (∀ x ∈ oi.op.operands, ∀ m ∈ (st.ev x).ids, m ∈ I) →
      anyA P ops K fuel (listed.setIfInBounds i true) (st.put oi.dst d) → anyA P ops K (fuel + 1) listed st := by
  intro fuel
  induction fuel with
  | zero =>
    intro listed st _ _ _ _ hr hy _ H
    refine ⟨fun h => (by rw [h] at hr; cases hr), fun j hj o ho => ?_⟩
    by_cases hji : j = i
    · subst hji
      rw [hi] at ho; cases ho
      exact hy.use hq H
    · have := ready_mono hj hji
      rw [H.1] at this
      cases this
  | succ fuel ih =>
    intro listed st hW hfree hfam hX hr hy hops H
    refine ⟨fun h => (by rw [h] at hr; cases hr), fun j hj o ho => ?_⟩
    by_cases hji : j = i
    · subst hji
      rw [hi] at ho; cases ho
      exact hy.use hq H
    · have h1 := H.2 j (ready_mono hj hji) o ho
      obtain ⟨hjun, oj, hoj, hall⟩ := mem_ready.1 hj
      rw [ho] at hoj; cases hoj
      have hin : ∀ m, listed.getD m true = false → listed.getD m false = true → False := fun m h h' => by
        rcases Nat.lt_or_ge m listed.size with h2 | h2
        · simp [h2] at h h'; rw [h] at h'; cases h'
        · simp [Array.getElem?_eq_none h2] at h
      have hnW : ¬ W j := fun hw => by
        obtain ⟨_, o', ho', e, he, hb, hon⟩ := hW j hw
        rw [ho] at ho'; cases ho'
        have hl := hall e he hb
        rcases hon with rfl | hon
        · exact hin _ (mem_ready.1 hr).1 hl
        · exact hin _ (hW _ hon).1 hl
      obtain ⟨f1, f2⟩ := hfree j o ho hji hjun hnW
      have hun' : ∀ m, (listed.setIfInBounds j true).getD m true = false → j ≠ m ∧ listed.getD m true = false := fun m hun => by
        have hne : j ≠ m := fun e => by
          subst e
          have hlt : j < listed.size := by
            rcases Nat.lt_or_ge j listed.size with h' | h'
            · exact h'
            · simp [Array.getElem?_eq_none h'] at hjun
          simp [hlt] at hun
        exact ⟨hne, by rw [getD_set_ne true hne] at hun; exact hun⟩
      have hokj : okDst st o.dst := by
        have hn : (st.put oi.dst d).n = st.n := put_n'
        unfold opA at h1
        split at h1
        · have := h1.1; unfold okDst at *; rw [hn] at this; exact this
        · rename_i g want hg
          obtain ⟨dg, _, _, b, _, g4, g5⟩ := h1
          by_cases hb : b = want
          · have := (g4 hb).1; unfold okDst at *; rw [hn] at this; exact this
          · have := (g5 hb).1; unfold okDst at *; rw [hn] at this; exact this
      have hkey : ∀ s, (anyA P ops K fuel ((listed.setIfInBounds i true).setIfInBounds j true) (s.put oi.dst d) ∧ ExtF X I o.dst (famV o) st s) → anyA P ops K (fuel + 1) (listed.setIfInBounds j true) s := by
        rintro s ⟨k1, k2⟩
        obtain ⟨y1, y2⟩ := hy.extI f1 hops k2.ext
        refine ih (listed.setIfInBounds j true) s (fun m hm => ?_) (fun m om hm hmi hun hnw => ?_) (fun m om hm hmi hun hnw => ?_) (fun m hm => ?_) (ready_mono hr (Ne.symm hji)) y1 (fun x hx => by rw [← y2 x hx]; exact hops x hx) ?_
        · obtain ⟨g1, g2⟩ := hW m hm
          have hne : j ≠ m := fun e => hnW (e ▸ hm)
          exact ⟨by rw [getD_set_ne true hne]; exact g1, g2⟩
        · obtain ⟨_, hu⟩ := hun' m hun
          obtain ⟨g1, g2⟩ := hfree m om hm hmi hu hnw
          exact ⟨g1, g2.imp (fun h => h) fun h => ⟨h.1, h.2.1, fun m' om' hm' hmi' hne' hu' hnw' => h.2.2 m' om' hm' hmi' hne' (hun' m' hu').2 hnw'⟩⟩
        · obtain ⟨hne, hu⟩ := hun' m hun
          rcases hfam m om hm hmi hu hnw with h | c1
          · exact .inl h
          · rcases (hfree m om hm hmi hu hnw).2 with h | ⟨_, _, q2⟩
            · exact .inl h
            · have hjk : ∀ k, Operand.tmp k ∈ om.op.operands → o.dst = some k → ∀ a ∈ (s.t k).ids, a ∈ X := fun k hx hk a ha => by
                obtain ⟨hnq, _⟩ := q2 j o ho hji hne hjun hnW k hx hk
                have hf : famV o = true := by
                  rcases f2 with h | h
                  · rw [h] at hnq; cases hnq
                  · exact h.1
                have hlt : k < st.n := by unfold okDst at hokj; rw [hk] at hokj; exact hokj
                exact k2.out hf k hk hlt a ha
              refine .inr fun x hx => ?_
              rcases c1 x hx with c1 | ⟨k, m', om', e1, e2, e3, e4, e5, e6, e7⟩
              · refine .inl fun a ha => ?_
                cases x with
                | tmp k =>
                  by_cases hk : o.dst = some k
                  · exact hjk k hx hk a ha
                  · exact c1 a (k2.sub k hk a ha)
                | const v => exact c1 a ha
                | global g => exact c1 a ha
                | func f => exact c1 a ha
              · subst e1
                by_cases hmj : m' = j
                · subst hmj
                  rw [ho] at e2; cases e2
                  exact .inl (hjk k hx e7)
                · exact .inr ⟨k, m', om', rfl, e2, e3, e4, by rw [getD_set_ne true (Ne.symm hmj)]; exact e5, e6, e7⟩
        · rw [k2.ext.heap m hm]; exact hX m hm
        · rw [Array.setIfInBounds_comm _ _ hji]; exact k1
      rcases f2 with hqj | ⟨hfj, hdj, hfeed⟩
      · refine opA_swap (fun s hs => hkey s ⟨hs.1, ?_⟩) f1 (.inl hqj) (.inr hqj) h1
        have h5 := hs.2
        rw [hqj] at h5
        refine ⟨h5.toI, fun k hk m hm => ?_, fun hf => ?_⟩
        · rw [← (h5.same rfl).2 k hk]; exact hm
        · rw [famV_not_quiet hf] at hqj; cases hqj
      · rcases hfam j o ho hji hjun hnW with h | c1
        · rw [famV_not_quiet hfj] at h; cases h
        · refine opA_fam (fun s hs => hkey s (by rw [hfj]; exact hs)) f1 hfj hdj (fun x hx => ?_) hX hd h1
          rcases c1 x hx with c1 | ⟨k, m', om', e1, e2, e3, e4, e5, e6, e7⟩
          · exact c1
          · subst e1
            obtain ⟨_, e, he, hb, hon⟩ := hfeed m' om' e2 e3 e4 e5 e6 k hx e7
            have hl := hall e he hb
            rw [hon] at hl
            exact (hin _ e5 hl).elim
end
end Go.VL

end
section
/- Regions that draw their order: schedules with calls beside what is owned. -/
namespace Go.VL
open Go Go.RowKit

inductive Sch2 where
  | done
  | one (rob : Bool) (i : Nat) (s : Sch2)
  | cal (i : Nat) (cs : List Nat) (s : Sch2)
  | fam (i : Nat) (cs X ks : List Nat) (s : Sch2)
  | only (i : Nat) (s : Sch2)
  | two (i j : Nat) (s s' : Sch2)
  | three (i j k : Nat) (s s' s'' : Sch2)
  | mv (i : Nat) (s : Sch2)

/-- A slot is copied. -/
def isMv (o : Oper) : Bool :=
  match o.op, o.guard, o.dst with
  | .move (.tmp _), none, some _ => true
  | .assign (.tmp _), none, some _ => true
  | _, _, _ => false
def mvOK (ops : Array Oper) (listed : Array Bool) (i : Nat) (oi : Oper) (W : Array Bool) : Bool :=
  (List.range ops.size).all fun j => j == i || listed.getD j true || W.getD j false || match ops[j]? with
    | some o => oi.apart ops o
    | none => true
theorem isMv_spec {P : Program} {ops : Array Oper} {o : Oper} (h : isMv o = true) : ∃ i0 k0, o.dst = some i0 ∧ Operand.tmp k0 ∈ o.op.operands ∧ ∀ K st, opA P ops.toList o K st ↔ (i0 < st.n ∧ K (st.put (some i0) (st.t k0))) := by
  obtain ⟨dst, op, ty, pos, af, g⟩ := o
  unfold isMv at h
  split at h
  · rename_i k0 i0 h1 h2 h3
    simp only at h1 h2 h3
    subst h1 h2 h3
    exact ⟨_, _, rfl, by simp [Op.operands], fun K st => Iff.rfl⟩
  · rename_i k0 i0 h1 h2 h3
    simp only at h1 h2 h3
    subst h1 h2 h3
    exact ⟨_, _, rfl, by simp [Op.operands], fun K st => Iff.rfl⟩
  · cases h
section
variable {P : Program} {ops : Array Oper}
theorem opA_mv {oi oj : Oper} {K K' : St → Prop} {st : St} {d : D} {i0 : Nat} (hdi : oi.dst = some i0) (hK' : ∀ s (τ : D → D), K (s.put (some i0) (τ d)) → (∀ k, oj.dst ≠ some k → s.t k = τ (st.t k)) → s.n = st.n → K' s) (hap : oi.apart ops oj = true) (hcl : quiet oj = true ∨ loud oj = true)
    (h : opA P ops.toList oj K (st.put (some i0) d)) : opA P ops.toList oj K' st := by
  obtain ⟨h1, h2, h3⟩ := Oper.apart_spec hap
  rw [← hdi] at h hK'
  have hop : ∀ x ∈ oj.op.operands, (st.put oi.dst d).ev x = st.ev x := fun x hx => ev_of_t fun k hk => by
    subst hk
    exact put_t_ne fun e => h1 k e (looks_operand hx)
  have hok : okDst (st.put oi.dst d) oj.dst → okDst st oj.dst := by
    unfold okDst; rw [put_n']; exact id
  have hmain : aop P oj K (st.put oi.dst d) → aop P oj K' st := by
    rintro ⟨ha, hb⟩
    refine ⟨hok ha, ?_⟩
    by_cases hq : quiet oj = true
    · rw [aopx_quiet hq] at hb ⊢
      rw [put_H'] at hb
      refine qop_mono (fun x hx => ?_) (qop_ev hop hb)
      exact hK' _ id (by rw [put_comm fun e he h' => h2 e h' he]; exact hx) (fun k hk => put_t_ne hk) put_n'
    · have hl := hcl.resolve_left hq
      have e1 : st.put oi.dst d = ⟨(st.put oi.dst d).t, st.H, st.n⟩ := by
        conv => lhs; rw [show st.put oi.dst d = ⟨(st.put oi.dst d).t, (st.put oi.dst d).H, (st.put oi.dst d).n⟩ from rfl]
        rw [put_H', put_n']
      rw [e1] at hb
      refine aopx_loud (t' := st.t) hl ?_ (fun x hx => by
        have := hop x hx
        rw [e1] at this
        exact this) hb
      rintro s x ⟨τ, k1, k2, k3, k4⟩
      refine hK' _ τ ?_ (fun k hk => by rw [put_t_ne hk, k2]; rfl) (by rw [put_n', k3])
      have e3 : (s.put oj.dst x).put oi.dst (τ d) = (⟨τ ∘ (st.put oi.dst d).t, s.H, s.n⟩ : St).put oj.dst x := by
        rw [put_comm fun e he h' => h2 e h' he]
        congr 1
        rw [hdi]
        simp only [St.put]
        congr 1
        rw [k2]
        funext k
        by_cases hk : k = i0
        · subst hk; simp [upd_same]
        · simp [upd_ne _ _ _ _ hk]
      rw [e3]; exact k4
  unfold opA at h ⊢
  split at h
  · exact hmain h
  · rename_i g want hg
    obtain ⟨dg, g1, g2, b, g3, g4, g5⟩ := h
    refine ⟨dg, g1, by rw [put_n'] at g2; exact g2, b, ?_, fun hb => hmain (g4 hb), fun hb => ?_⟩
    · rw [put_t_ne fun e => h1 dg e (looks_guard hg g1)] at g3; exact g3
    · obtain ⟨g6, g7⟩ := g5 hb
      exact ⟨hok g6, hK' _ id (by rw [put_comm fun e he h' => h2 e h' he]; exact g7) (fun k hk => put_t_ne hk) put_n'⟩
/-- **A slot that is copied may be copied first.** -/
theorem anyA_mv {i i0 k0 : Nat} {oi : Oper} {K : St → Prop} {W : Nat → Prop} (hi : ops[i]? = some oi) (hdi : oi.dst = some i0) (hk0 : Operand.tmp k0 ∈ oi.op.operands) (hrun : ∀ K st, opA P ops.toList oi K st ↔ (i0 < st.n ∧ K (st.put (some i0) (st.t k0)))) :
    ∀ (fuel : Nat) (listed : Array Bool) (st : St),
      (∀ j, W j → listed.getD j true = false ∧ ∃ oj, ops[j]? = some oj ∧ ∃ e ∈ oj.after, Region.binds .any e = true ∧ (e.on = i ∨ W e.on)) →
      (∀ j oj, ops[j]? = some oj → j ≠ i → listed.getD j true = false → ¬ W j → oi.apart ops oj = true ∧ (quiet oj = true ∨ loud oj = true)) →
      i ∈ Region.ready .any ops listed → i0 < st.n →
      anyA P ops K fuel (listed.setIfInBounds i true) (st.put (some i0) (st.t k0)) → anyA P ops K (fuel + 1) listed st := by
  intro fuel
  induction fuel with
  | zero =>
    intro listed st _ _ hr hn H
    refine ⟨fun h => (by rw [h] at hr; cases hr), fun j hj o ho => ?_⟩
    by_cases hji : j = i
    · subst hji
      rw [hi] at ho; cases ho
      exact (hrun _ _).2 ⟨hn, H⟩
    · have := ready_mono hj hji
      rw [H.1] at this
      cases this
  | succ fuel ih =>
    intro listed st hW hfree hr hn H
    refine ⟨fun h => (by rw [h] at hr; cases hr), fun j hj o ho => ?_⟩
    by_cases hji : j = i
    · subst hji
      rw [hi] at ho; cases ho
      exact (hrun _ _).2 ⟨hn, H⟩
    · have h1 := H.2 j (ready_mono hj hji) o ho
      obtain ⟨hjun, oj, hoj, hall⟩ := mem_ready.1 hj
      rw [ho] at hoj; cases hoj
      have hin : ∀ m, listed.getD m true = false → listed.getD m false = true → False := fun m h h' => by
        rcases Nat.lt_or_ge m listed.size with h2 | h2
        · simp [h2] at h h'; rw [h] at h'; cases h'
        · simp [Array.getElem?_eq_none h2] at h
      have hnW : ¬ W j := fun hw => by
        obtain ⟨_, o', ho', e, he, hb, hon⟩ := hW j hw
        rw [ho] at ho'; cases ho'
        have hl := hall e he hb
        rcases hon with rfl | hon
        · exact hin _ (mem_ready.1 hr).1 hl
        · exact hin _ (hW _ hon).1 hl
      obtain ⟨f1, f2⟩ := hfree j o ho hji hjun hnW
      have hne0 : o.dst ≠ some k0 := fun e => (Oper.apart_spec f1).2.2 k0 e (looks_operand hk0)
      refine opA_mv hdi (fun s τ k1 k2 k3 => ?_) f1 f2 h1
      refine ih (listed.setIfInBounds j true) s (fun m hm => ?_) (fun m om hm hmi hun hnw => ?_) (ready_mono hr (Ne.symm hji)) (by rw [k3]; exact hn) ?_
      · obtain ⟨g1, g2⟩ := hW m hm
        have hne : j ≠ m := fun e => hnW (e ▸ hm)
        exact ⟨by rw [getD_set_ne true hne]; exact g1, g2⟩
      · have hne : j ≠ m := fun e => by
          subst e
          have hlt : j < listed.size := by
            rcases Nat.lt_or_ge j listed.size with h' | h'
            · exact h'
            · simp [Array.getElem?_eq_none h'] at hjun
          simp [hlt] at hun
        exact hfree m om hm hmi (by rw [getD_set_ne true hne] at hun; exact hun) hnw
      · rw [Array.setIfInBounds_comm _ _ hji, k2 k0 hne0]; exact k1
end

def lastOK (ops : Array Oper) (listed : Array Bool) (i j : Nat) (oj : Oper) (W : Array Bool) : Bool :=
  (List.range ops.size).all fun m => m == i || m == j || listed.getD m true || W.getD m false || match ops[m]? with
    | some o => oj.op.operands.toList.all fun x => match x with | .tmp k => o.dst != some k | _ => true
    | none => true
def calmOK (ops : Array Oper) (listed : Array Bool) (cs : List Nat) (i : Nat) (oi : Oper) (W : Array Bool) : Bool :=
  (List.range ops.size).all fun j => j == i || listed.getD j true || W.getD j false || match ops[j]? with
    | some o => oi.apart ops o && (quiet o || (calS o && cs.contains j && lastOK ops listed i j o W))
    | none => true

/-- Each slot that j looks at is one of ks, or a member of the family writes it that j waits for; no quiet operation that is open writes it. -/
def feedOK (ops : Array Oper) (listed : Array Bool) (cs ks : List Nat) (i j : Nat) (oj : Oper) (W : Array Bool) : Bool :=
  oj.op.operands.toList.all fun x => match x with
    | .tmp k => ((List.range ops.size).all fun m => m == i || m == j || listed.getD m true || W.getD m false || match ops[m]? with
        | some o => o.dst != some k || (!quiet o && oj.after.any fun e => Region.binds .any e && e.on == m)
        | none => true) && (ks.contains k || cs.any fun m => m != i && m != j && !listed.getD m true && !W.getD m false && match ops[m]? with
        | some o => o.dst == some k
        | none => false)
    | _ => true
def famOK (ops : Array Oper) (listed : Array Bool) (cs X ks : List Nat) (i : Nat) (oi : Oper) (W : Array Bool) : Bool :=
  (List.range ops.size).all fun j => j == i || listed.getD j true || W.getD j false || match ops[j]? with
    | some o => oi.apart ops o && (quiet o || (famV o && X.contains (dstOf o.dst) && feedOK ops listed cs ks i j o W))
    | none => true

def sch2OK (ops : Array Oper) : Nat → Array Bool → Sch2 → Bool
  | _, listed, .done => Region.ready .any ops listed == []
  | f + 1, listed, .one rob i s => match ops[i]? with
    | some o => quiet o && o.dst.isSome && (Region.ready .any ops listed).contains i && (let W := waits ops listed i 1 (Array.replicate ops.size false); waitsOK ops listed i W && freeOK ops listed rob i o W) && sch2OK ops f (listed.setIfInBounds i true) s
    | none => false
  | f + 1, listed, .cal i cs s => match ops[i]? with
    | some o => quiet o && o.dst.isSome && (Region.ready .any ops listed).contains i && (let W := waits ops listed i 1 (Array.replicate ops.size false); waitsOK ops listed i W && calmOK ops listed cs i o W) && sch2OK ops f (listed.setIfInBounds i true) s
    | none => false
  | f + 1, listed, .fam i cs X ks s => match ops[i]? with
    | some o => quiet o && o.dst.isSome && (Region.ready .any ops listed).contains i && (let W := waits ops listed i 1 (Array.replicate ops.size false); waitsOK ops listed i W && famOK ops listed cs X ks i o W) && sch2OK ops f (listed.setIfInBounds i true) s
    | none => false
  | f + 1, listed, .only i s => Region.ready .any ops listed == [i] && sch2OK ops f (listed.setIfInBounds i true) s
  | f + 1, listed, .mv i s => match ops[i]? with
    | some o => isMv o && (Region.ready .any ops listed).contains i && (let W := waits ops listed i 1 (Array.replicate ops.size false); waitsOK ops listed i W && mvOK ops listed i o W) && sch2OK ops f (listed.setIfInBounds i true) s
    | none => false
  | f + 1, listed, .three i j k s s' s'' => Region.ready .any ops listed == [i, j, k] && sch2OK ops f (listed.setIfInBounds i true) s && sch2OK ops f (listed.setIfInBounds j true) s' && sch2OK ops f (listed.setIfInBounds k true) s''
  | f + 1, listed, .two i j s s' => Region.ready .any ops listed == [i, j] && sch2OK ops f (listed.setIfInBounds i true) s && sch2OK ops f (listed.setIfInBounds j true) s'
  | 0, _, _ => false

def dstIds (o : Oper) (s : St) : List Nat := match o.dst with | some k => (s.t k).ids | none => []
def keptP (id : Nat) (st : St) : List Nat → Prop
  | [] => True
  | m :: l => killO id (st.H m) = st.H m ∧ keptP id st l
def tameQ (o : Oper) (st : St) (I : List Nat) : Prop :=
  match o.op with
  | .store _ x _ => offD I (st.ev x)
  | _ => plain o st = true ∧ (I.all fun m => !(m == dstOf o.dst)) = true ∧ keptP (dstOf o.dst) st I
def calP (ops : Array Oper) (I : List Nat) (st : St) : List Nat → Prop
  | [] => True
  | c :: cs => (∃ o, ops[c]? = some o ∧ tameQ o st I) ∧ calP ops I st cs
theorem keptP_mem {id : Nat} {st : St} : ∀ {l : List Nat}, keptP id st l → ∀ m ∈ l, killO id (st.H m) = st.H m
  | [], _, m, hm => by cases hm
  | x :: l, h, m, hm => by
    rcases List.mem_cons.1 hm with rfl | hm
    · exact h.1
    · exact keptP_mem h.2 m hm
theorem calP_mem {ops : Array Oper} {I : List Nat} {st : St} : ∀ {cs : List Nat}, calP ops I st cs → ∀ c ∈ cs, ∃ o, ops[c]? = some o ∧ tameQ o st I
  | [], _, m, hm => by cases hm
  | x :: l, h, m, hm => by
    rcases List.mem_cons.1 hm with rfl | hm
    · exact h.1
    · exact calP_mem h.2 m hm

def offB (X : List Nat) : Option Own → Bool
  | none => true
  | some ob => (D.idss ob.els).all fun m => !(X.any fun x => x == m)
theorem offB_spec {X : List Nat} {o : Option Own} (h : offB X o = true) : OffO X o := by
  rintro ob rfl x hx hm
  have := List.all_eq_true.1 h x hm
  simp only [Bool.not_eq_true', List.any_eq_false, beq_iff_eq] at this
  exact this x hx rfl
/-- What I names has nothing to do with X. -/
def keptX (X : List Nat) (st : St) : List Nat → Prop
  | [] => True
  | m :: l => (X.any fun x => x == m) = false ∧ offB X (st.H m) = true ∧ keptX X st l
theorem keptX_mem {X : List Nat} {st : St} : ∀ {l : List Nat}, keptX X st l → ∀ m ∈ l, m ∉ X ∧ OffO X (st.H m)
  | [], _, m, hm => by cases hm
  | x :: l, h, m, hm => by
    rcases List.mem_cons.1 hm with rfl | hm
    · refine ⟨fun hx => ?_, offB_spec h.2.1⟩
      have := h.1
      simp only [List.any_eq_false, beq_iff_eq] at this
      exact this m hx rfl
    · exact keptX_mem h.2.2 m hm
def famP (X : List Nat) (st : St) : List Nat → Prop
  | [] => True
  | k :: ks => ((st.t k).ids.all fun m => X.any fun x => x == m) = true ∧ famP X st ks
theorem famP_mem {X : List Nat} {st : St} : ∀ {ks : List Nat}, famP X st ks → ∀ k ∈ ks, ∀ m ∈ (st.t k).ids, m ∈ X
  | [], _, m, hm => by cases hm
  | x :: l, h, m, hm => by
    rcases List.mem_cons.1 hm with rfl | hm
    · intro a ha
      have := List.all_eq_true.1 h.1 a ha
      simpa using this
    · exact famP_mem h.2 m hm

def sch2K (P : Program) (ops : Array Oper) (K : St → Prop) : Sch2 → St → Prop
  | .done, st => K st
  | .one rob i s, st => ∃ o, ops[i]? = some o ∧ qok o st.ev = true ∧ (rob = true → plain o st = true) ∧ opA P ops.toList o (fun s' => (rob = true → robDst o s' = true) ∧ sch2K P ops K s s') st
  | .cal i cs s, st => ∃ o, ops[i]? = some o ∧ qok o st.ev = true ∧ opA P ops.toList o (fun s' => calP ops (D.idss (o.op.operands.toList.map st.ev) ++ dstIds o s') st cs ∧ sch2K P ops K s s') st
  | .fam i cs X ks s, st => ∃ o, ops[i]? = some o ∧ qok o st.ev = true ∧ famP X st ks ∧ opA P ops.toList o (fun s' => keptX X st (D.idss (o.op.operands.toList.map st.ev) ++ dstIds o s') ∧ sch2K P ops K s s') st
  | .only i s, st => ∃ o, ops[i]? = some o ∧ opA P ops.toList o (sch2K P ops K s) st
  | .mv i s, st => ∃ o, ops[i]? = some o ∧ opA P ops.toList o (sch2K P ops K s) st
  | .three i j k s s' s'', st => (∃ o, ops[i]? = some o ∧ opA P ops.toList o (sch2K P ops K s) st) ∧ (∃ o, ops[j]? = some o ∧ opA P ops.toList o (sch2K P ops K s') st) ∧ ∃ o, ops[k]? = some o ∧ opA P ops.toList o (sch2K P ops K s'') st
  | .two i j s s', st => (∃ o, ops[i]? = some o ∧ opA P ops.toList o (sch2K P ops K s) st) ∧ ∃ o, ops[j]? = some o ∧ opA P ops.toList o (sch2K P ops K s') st

theorem waitsOK_spec {ops : Array Oper} {listed : Array Bool} {i : Nat} (c4 : waitsOK ops listed i (waits ops listed i 1 (Array.replicate ops.size false)) = true) :
    ∀ j, (waits ops listed i 1 (Array.replicate ops.size false)).getD j false = true → listed.getD j true = false ∧ ∃ oj, ops[j]? = some oj ∧ ∃ e ∈ oj.after, Region.binds .any e = true ∧ (e.on = i ∨ (waits ops listed i 1 (Array.replicate ops.size false)).getD e.on false = true) := by
  intro j hj
  simp only [waitsOK, Bool.and_eq_true, List.all_eq_true, List.mem_range, beq_iff_eq] at c4
  obtain ⟨cs, ca⟩ := c4
  have hjs : j < ops.size := by
    rcases Nat.lt_or_ge j ops.size with h | h
    · exact h
    · rw [← cs] at h
      simp [Array.getElem?_eq_none h] at hj
  have := ca j hjs
  rw [hj] at this
  simp only [Bool.not_true, Bool.false_or, Bool.and_eq_true, Bool.not_eq_true'] at this
  obtain ⟨t1, t2⟩ := this
  refine ⟨t1, ?_⟩
  cases ho : ops[j]? with
  | none => rw [ho] at t2; cases t2
  | some oj =>
    rw [ho] at t2
    obtain ⟨e, he, hb⟩ := Array.any_eq_true'.1 t2
    simp only [Bool.and_eq_true, Bool.or_eq_true, beq_iff_eq] at hb
    exact ⟨oj, rfl, e, he, hb.1, hb.2⟩

theorem mem_idss {l : List D} {d : D} (hd : d ∈ l) {m : Nat} (hm : m ∈ d.ids) : m ∈ D.idss l := by
  induction l with
  | nil => cases hd
  | cons x xs ih =>
    simp only [D.idss, List.mem_append]
    rcases List.mem_cons.1 hd with rfl | hd
    · exact .inl hm
    · exact .inr (ih hd)

theorem anyA_of_sch2 {P : Program} {ops : Array Oper} {K : St → Prop} (hcl : ∀ (i : Nat) (o : Oper), ops[i]? = some o → quiet o = true ∨ loud o = true) : ∀ (s : Sch2) (f : Nat) (listed : Array Bool) (st : St), sch2OK ops f listed s = true → sch2K P ops K s st → anyA P ops K f listed st
  | .done, f, listed, st, hc, h => by
    have hr : Region.ready .any ops listed = [] := by
      cases f <;> simpa [sch2OK] using hc
    cases f with
    | zero => exact ⟨hr, h⟩
    | succ f => exact ⟨fun _ => h, by rw [hr]; simp⟩
  | .one rob i s, 0, listed, st, hc, h => by simp [sch2OK] at hc
  | .one rob i s, f + 1, listed, st, hc, h => by
    obtain ⟨o, h1, h2, h3, h4⟩ := h
    simp only [sch2OK, h1, Bool.and_eq_true] at hc
    obtain ⟨⟨⟨⟨c1, c2⟩, c3⟩, c4, c5⟩, c6⟩ := hc
    obtain ⟨d, g1, g2, g3⟩ := Gives.of c1 h2 h4
    refine anyA_first (W := fun j => (waits ops listed i 1 (Array.replicate ops.size false)).getD j false = true) (rob := rob) (d := d) h1 c1 f listed st (waitsOK_spec c4) ?_ (by simpa using c3) g1 (fun hr => ⟨h3 hr, ?_⟩) (anyA_of_sch2 hcl s f _ _ c6 g3)
    · intro j oj hj hne hun hnw
      simp only [freeOK, List.all_eq_true, List.mem_range] at c5
      have := c5 j (Array.getElem?_eq_some_iff.1 hj).1
      simp only [hj, Bool.or_eq_true, beq_iff_eq, hne, false_or, hun, Bool.false_eq_true, Bool.and_eq_true] at this
      rcases this with h | ⟨⟨h5, h6⟩, h7⟩
      · exact absurd h hnw
      · exact ⟨h5, h6, h7⟩
    · have := g2 hr
      unfold robDst at this
      cases hd : o.dst with
      | none => rw [hd] at c2; cases c2
      | some k =>
        rw [hd] at this
        simpa [St.put, upd_same] using this
  | .cal i cs s, 0, listed, st, hc, h => by simp [sch2OK] at hc
  | .cal i cs s, f + 1, listed, st, hc, h => by
    obtain ⟨o, h1, h2, h4⟩ := h
    simp only [sch2OK, h1, Bool.and_eq_true] at hc
    obtain ⟨⟨⟨⟨c1, c2⟩, c3⟩, c4, c5⟩, c6⟩ := hc
    obtain ⟨d, g1, h3, g3⟩ := Gives.of c1 h2 h4
    have hdi : dstIds o (st.put o.dst d) = d.ids := by
      unfold dstIds
      cases hdd : o.dst with
      | none => rw [hdd] at c2; cases c2
      | some k => simp only [St.put, upd_same]
    rw [hdi] at h3
    have key : ∀ j oj, ops[j]? = some oj → j ≠ i → listed.getD j true = false → ¬ (waits ops listed i 1 (Array.replicate ops.size false)).getD j false = true →
        o.apart ops oj = true ∧ (quiet oj = true ∨ (calS oj = true ∧ j ∈ cs ∧ lastOK ops listed i j oj (waits ops listed i 1 (Array.replicate ops.size false)) = true)) := by
      intro j oj hj hne hun hnw
      simp only [calmOK, List.all_eq_true, List.mem_range] at c5
      have := c5 j (Array.getElem?_eq_some_iff.1 hj).1
      simp only [hj, Bool.or_eq_true, beq_iff_eq, hne, false_or, hun, Bool.false_eq_true, Bool.and_eq_true, List.contains_iff_mem] at this
      rcases this with h | ⟨h5, h6⟩
      · exact absurd h hnw
      · exact ⟨h5, h6.imp (fun h => h) fun h => ⟨h.1.1, h.1.2, h.2⟩⟩
    refine anyA_calm (I := D.idss (o.op.operands.toList.map st.ev) ++ d.ids) (W := fun j => (waits ops listed i 1 (Array.replicate ops.size false)).getD j false = true) (d := d) h1 c1 (fun m hm => List.mem_append.2 (.inr hm)) f listed st (waitsOK_spec c4) ?_ ?_ (by simpa using c3) g1 ?_ (anyA_of_sch2 hcl s f _ _ c6 g3)
    · intro j oj hj hne hun hnw
      obtain ⟨k1, k2⟩ := key j oj hj hne hun hnw
      refine ⟨k1, k2.imp (fun h => h) fun h => ⟨h.1, fun m om hm hmi hmj hmu hmw k hk => ?_⟩⟩
      have := h.2.2
      simp only [lastOK, List.all_eq_true, List.mem_range] at this
      have := this m (Array.getElem?_eq_some_iff.1 hm).1
      simp only [hm, Bool.or_eq_true, beq_iff_eq, hmi, hmj, false_or, hmu, Bool.false_eq_true, List.all_eq_true] at this
      rcases this with h | h
      · exact absurd h hmw
      · have := h _ (by simpa using hk)
        simpa using this
    · intro j oj hj hne hun hnw
      rcases (key j oj hj hne hun hnw).2 with h | ⟨_, h, _⟩
      · exact .inl h
      · obtain ⟨o', e1, e2⟩ := calP_mem h3 j h
        rw [hj] at e1; cases e1
        refine .inr ?_
        unfold tameQ at e2
        unfold tameP
        split at e2
        · rename_i t x v hop
          first
            | exact e2
            | (rw [hop]; exact e2)
        · rename_i hns
          obtain ⟨e2, e3, e4⟩ := e2
          have goal : plain oj st = true ∧ dstOf oj.dst ∉ D.idss (o.op.operands.toList.map st.ev) ++ d.ids ∧ ∀ m ∈ D.idss (o.op.operands.toList.map st.ev) ++ d.ids, killO (dstOf oj.dst) (st.H m) = st.H m := by
            refine ⟨e2, fun hm => ?_, fun m hm => keptP_mem e4 m hm⟩
            simp only [List.all_eq_true] at e3
            have := e3 _ hm
            simp at this
          first
            | exact goal
            | (split
               · rename_i t x v hop; exact absurd hop (hns t x v)
               · exact goal)
    · intro x hx m hm
      exact List.mem_append.2 (.inl (mem_idss (List.mem_map.2 ⟨x, by simpa using hx, rfl⟩) hm))
  | .fam i cs X ks s, 0, listed, st, hc, h => by simp [sch2OK] at hc
  | .fam i cs X ks s, f + 1, listed, st, hc, h => by
    obtain ⟨o, h1, h2, h3, h4⟩ := h
    simp only [sch2OK, h1, Bool.and_eq_true] at hc
    obtain ⟨⟨⟨⟨c1, c2⟩, c3⟩, c4, c5⟩, c6⟩ := hc
    obtain ⟨d, g1, g2, g3⟩ := Gives.of c1 h2 h4
    have hk := keptX_mem g2
    have hdi : dstIds o (st.put o.dst d) = d.ids := by
      unfold dstIds
      cases hdd : o.dst with
      | none => rw [hdd] at c2; cases c2
      | some k => simp only [St.put, upd_same]
    rw [hdi] at hk
    have key : ∀ j oj, ops[j]? = some oj → j ≠ i → listed.getD j true = false → ¬ (waits ops listed i 1 (Array.replicate ops.size false)).getD j false = true →
        o.apart ops oj = true ∧ (quiet oj = true ∨ (famV oj = true ∧ dstOf oj.dst ∈ X ∧ feedOK ops listed cs ks i j oj (waits ops listed i 1 (Array.replicate ops.size false)) = true)) := by
      intro j oj hj hne hun hnw
      simp only [famOK, List.all_eq_true, List.mem_range] at c5
      have := c5 j (Array.getElem?_eq_some_iff.1 hj).1
      simp only [hj, Bool.or_eq_true, beq_iff_eq, hne, false_or, hun, Bool.false_eq_true, Bool.and_eq_true, List.contains_iff_mem] at this
      rcases this with h | ⟨h5, h6⟩
      · exact absurd h hnw
      · exact ⟨h5, h6.imp (fun h => h) fun h => ⟨h.1.1, h.1.2, h.2⟩⟩
    refine anyA_fam (I := D.idss (o.op.operands.toList.map st.ev) ++ d.ids) (X := X) (W := fun j => (waits ops listed i 1 (Array.replicate ops.size false)).getD j false = true) (d := d) h1 c1 (fun m hm => List.mem_append.2 (.inr hm)) f listed st (waitsOK_spec c4) ?_ ?_ hk (by simpa using c3) g1 ?_ (anyA_of_sch2 hcl s f _ _ c6 g3)
    · intro j oj hj hne hun hnw
      obtain ⟨k1, k2⟩ := key j oj hj hne hun hnw
      refine ⟨k1, k2.imp (fun h => h) fun h => ⟨h.1, h.2.1, fun m om hm hmi hmj hmu hmw k hk hd => ?_⟩⟩
      have := h.2.2
      simp only [feedOK, List.all_eq_true] at this
      have := this (.tmp k) (by simpa using hk)
      simp only [Bool.and_eq_true, List.all_eq_true, List.mem_range] at this
      have := this.1 m (Array.getElem?_eq_some_iff.1 hm).1
      simp only [hm, Bool.or_eq_true, beq_iff_eq, hmi, hmj, false_or, hmu, Bool.false_eq_true, Bool.and_eq_true, Bool.not_eq_true'] at this
      rcases this with h | h | ⟨h, h'⟩
      · exact absurd h hmw
      · simp [hd] at h
      · obtain ⟨e, he, hb⟩ := Array.any_eq_true'.1 h'
        simp only [Bool.and_eq_true, beq_iff_eq] at hb
        exact ⟨h, e, he, hb.1, hb.2⟩
    · intro j oj hj hne hun hnw
      rcases (key j oj hj hne hun hnw).2 with h | ⟨_, _, h⟩
      · exact .inl h
      · refine .inr fun x hx => ?_
        cases x with
        | tmp k =>
          simp only [feedOK, List.all_eq_true] at h
          have := h (.tmp k) (by simpa using hx)
          simp only [Bool.and_eq_true, Bool.or_eq_true, List.contains_iff_mem, List.any_eq_true] at this
          rcases this.2 with h | ⟨m, hm, h⟩
          · exact .inl (famP_mem h3 k h)
          · obtain ⟨⟨⟨⟨a1, a2⟩, a3⟩, a4⟩, a5⟩ := h
            cases ho : ops[m]? with
            | none => rw [ho] at a5; cases a5
            | some om =>
              rw [ho] at a5
              exact .inr ⟨k, m, om, rfl, ho, by simpa using a1, by simpa using a2, by simpa using a3, by simpa using a4, by simpa using a5⟩
        | const v =>
          refine .inl fun m hm => ?_
          have : (D.ofVal v).ids = [] := by
            cases v with
            | agg cs =>
              simp only [D.ofVal]
              split
              · have : ∀ l : List Value, D.idss (l.map D.v) = [] := fun l => by
                  induction l with
                  | nil => rfl
                  | cons x xs ih => simp only [List.map_cons, D.idss, D.ids, ih, List.append_nil]
                exact this _
              · rfl
            | _ => rfl
          rw [show st.ev (.const v) = D.ofVal v from rfl, this] at hm
          cases hm
        | global g => exact .inl fun m hm => by rw [show (st.ev (.global g)).ids = [] from globD_ids g theGlobs] at hm; cases hm
        | func f => exact .inl fun m hm => by cases hm
    · intro x hx m hm
      exact List.mem_append.2 (.inl (mem_idss (List.mem_map.2 ⟨x, by simpa using hx, rfl⟩) hm))
  | .only i s, 0, listed, st, hc, h => by simp [sch2OK] at hc
  | .only i s, f + 1, listed, st, hc, h => by
    obtain ⟨o, h1, h2⟩ := h
    simp only [sch2OK, Bool.and_eq_true, beq_iff_eq] at hc
    obtain ⟨c1, c2⟩ := hc
    refine ⟨(fun hr => by rw [c1] at hr; cases hr), fun j hj o' ho' => ?_⟩
    rw [c1] at hj
    have : j = i := by simpa using hj
    subst this
    rw [h1] at ho'; cases ho'
    exact opA_mono (fun s' hs' => anyA_of_sch2 hcl s f _ _ c2 hs') h2 (hcl _ _ h1)
  | .mv i s, 0, listed, st, hc, h => by simp [sch2OK] at hc
  | .mv i s, f + 1, listed, st, hc, h => by
    obtain ⟨o, h1, h2⟩ := h
    simp only [sch2OK, h1, Bool.and_eq_true] at hc
    obtain ⟨⟨⟨c1, c3⟩, c4, c5⟩, c6⟩ := hc
    obtain ⟨i0, k0, e1, e2, e3⟩ := isMv_spec (P := P) (ops := ops) c1
    obtain ⟨g1, g2⟩ := (e3 _ _).1 h2
    refine anyA_mv (W := fun j => (waits ops listed i 1 (Array.replicate ops.size false)).getD j false = true) h1 e1 e2 e3 f listed st (waitsOK_spec c4) ?_ (by simpa using c3) g1 (anyA_of_sch2 hcl s f _ _ c6 g2)
    intro j oj hj hne hun hnw
    simp only [mvOK, List.all_eq_true, List.mem_range] at c5
    have := c5 j (Array.getElem?_eq_some_iff.1 hj).1
    simp only [hj, Bool.or_eq_true, beq_iff_eq, hne, false_or, hun, Bool.false_eq_true] at this
    rcases this with h | h
    · exact absurd h hnw
    · exact ⟨h, hcl _ _ hj⟩
  | .three i j k s s' s'', 0, listed, st, hc, h => by simp [sch2OK] at hc
  | .three i j k s s' s'', f + 1, listed, st, hc, h => by
    obtain ⟨⟨o, h1, h2⟩, ⟨o2, h3, h4⟩, o3, h5, h6⟩ := h
    simp only [sch2OK, Bool.and_eq_true, beq_iff_eq] at hc
    obtain ⟨⟨⟨c1, c2⟩, c3⟩, c4⟩ := hc
    refine ⟨(fun hr => by rw [c1] at hr; cases hr), fun m hm o' ho' => ?_⟩
    rw [c1] at hm
    have : m = i ∨ m = j ∨ m = k := by simpa using hm
    rcases this with rfl | rfl | rfl
    · rw [h1] at ho'; cases ho'
      exact opA_mono (fun s1 hs' => anyA_of_sch2 hcl s f _ _ c2 hs') h2 (hcl _ _ h1)
    · rw [h3] at ho'; cases ho'
      exact opA_mono (fun s1 hs' => anyA_of_sch2 hcl s' f _ _ c3 hs') h4 (hcl _ _ h3)
    · rw [h5] at ho'; cases ho'
      exact opA_mono (fun s1 hs' => anyA_of_sch2 hcl s'' f _ _ c4 hs') h6 (hcl _ _ h5)
  | .two i j s s', 0, listed, st, hc, h => by simp [sch2OK] at hc
  | .two i j s s', f + 1, listed, st, hc, h => by
    obtain ⟨⟨o, h1, h2⟩, o2, h3, h4⟩ := h
    simp only [sch2OK, Bool.and_eq_true, beq_iff_eq] at hc
    obtain ⟨⟨c1, c2⟩, c3⟩ := hc
    refine ⟨(fun hr => by rw [c1] at hr; cases hr), fun m hm o' ho' => ?_⟩
    rw [c1] at hm
    have : m = i ∨ m = j := by simpa using hm
    rcases this with rfl | rfl
    · rw [h1] at ho'; cases ho'
      exact opA_mono (fun s' hs' => anyA_of_sch2 hcl s f _ _ c2 hs') h2 (hcl _ _ h1)
    · rw [h3] at ho'; cases ho'
      exact opA_mono (fun s'' hs' => anyA_of_sch2 hcl s' f _ _ c3 hs') h4 (hcl _ _ h3)

def sch2I (P : Program) (s : Sch2) (st : St) [all : KL] [K : KN] : Prop := sch2K P all.l.toArray K.f s st
def keptI (id : Nat) (st : St) (l : List Nat) [K : KP] : Prop := keptP id st l ∧ K.f
def tameI (o : Oper) (st : St) (I : List Nat) [K : KP] : Prop := tameQ o st I ∧ K.f
def offI (I : List Nat) (d : D) [K : KP] : Prop := offD I d ∧ K.f
def calI (I : List Nat) (st : St) (cs : List Nat) [all : KL] [K : KP] : Prop := calP all.l.toArray I st cs ∧ K.f

def famI (X : List Nat) (st : St) (ks : List Nat) [K : KP] : Prop := famP X st ks ∧ K.f
def keptXI (X : List Nat) (st : St) (l : List Nat) [K : KP] : Prop := keptX X st l ∧ K.f

theorem awpI_draw2 {P : Program} {N R : KN} {X : KX} {st : St} {id : Nat} {l : List Oper} (s : Sch2) (hm : P.follows .mixedOrders = true) (hk : allKnown l = true) (hc : sch2OK l.toArray l.length (Array.replicate l.length false) s = true)
    (h : @sch2I P s st ⟨l⟩ N) : @awpI P (.region id l.toArray true) st N X R := by
  refine ⟨hm, ?_⟩
  have := anyA_of_sch2 (P := P) (K := N.f) (ops := l.toArray) (fun i o ho => ?_) s l.length _ st hc h
  · simpa using this
  · simp only [allKnown, List.all_eq_true, Bool.or_eq_true] at hk
    refine hk o (List.mem_of_getElem? (i := i) ?_)
    simpa using ho

section
variable {P : Program} {st : St} {all : KL} {K : KN} {i j : Nat} {s s' : Sch2}
theorem keptI_nil {id : Nat} {q : KP} : @keptI id st [] q = q.f := by simp [keptI, keptP]
theorem keptI_cons {id m : Nat} {l : List Nat} {q : KP} : @keptI id st (m :: l) q = @reqI (killO id (st.H m) = st.H m) ⟨@keptI id st l q⟩ := by simp [keptI, keptP, reqI, and_assoc]
theorem calI_nil {I : List Nat} {q : KP} : @calI I st [] all q = q.f := by simp [calI, calP]
theorem calI_cons {I : List Nat} {c : Nat} {cs : List Nat} {q : KP} : @calI I st (c :: cs) all q =
    @bindI _ (all.l[c]?) ⟨fun o => @tameI o st I ⟨@calI I st cs all q⟩⟩ := by
  apply propext
  simp only [bindI, bindP_eq, tameI, calI, calP, List.getElem?_toArray]
  constructor
  · rintro ⟨⟨⟨o, h1, h2⟩, h5⟩, h6⟩; exact ⟨o, h1, h2, h5, h6⟩
  · rintro ⟨o, h1, h2, h5, h6⟩; exact ⟨⟨⟨o, h1, h2⟩, h5⟩, h6⟩
section
variable {I : List Nat} {q : KP} {dst : Option Tmp} {ty : TypeId} {pos : String} {af : Array Edge} {g : Option (Nat × Bool)}
theorem tameI_store {t : TypeId} {x v : Operand} : @tameI ⟨dst, .store t x v, ty, pos, af, g⟩ st I q = @offI I (st.ev x) q := (rfl)
theorem offI_adr {id i o : Nat} : @offI I (.adr id i o) q = @reqI ((I.all fun m => !(m == id)) = true) q := (rfl)
theorem offI_ptr {d : D} : @offI I (.ptr d) q = q.f := by simp [offI, offD]
theorem offI_any : @offI I .any q = q.f := by simp [offI, offD]
theorem offI_v {x : Value} : @offI I (.v x) q = q.f := by simp [offI, offD]
theorem tameI_plain {o : Oper} (h : plain o st = true ∧ (I.all fun m => !(m == dstOf o.dst)) = true ∧ keptP (dstOf o.dst) st I → tameQ o st I) (h' : tameQ o st I → plain o st = true ∧ (I.all fun m => !(m == dstOf o.dst)) = true ∧ keptP (dstOf o.dst) st I) : @tameI o st I q = @reqI (plain o st = true) ⟨@reqI ((I.all fun m => !(m == dstOf o.dst)) = true) ⟨@keptI (dstOf o.dst) st I q⟩⟩ := by
  apply propext
  simp only [tameI, reqI, keptI]
  constructor
  · rintro ⟨h1, h2⟩; obtain ⟨a, b, c⟩ := h' h1; exact ⟨a, b, c, h2⟩
  · rintro ⟨a, b, c, h2⟩; exact ⟨h ⟨a, b, c⟩, h2⟩
theorem tameI_call {c : Call} : @tameI ⟨dst, .call c, ty, pos, af, g⟩ st I q = @reqI (plain ⟨dst, .call c, ty, pos, af, g⟩ st = true) ⟨@reqI ((I.all fun m => !(m == dstOf dst)) = true) ⟨@keptI (dstOf dst) st I q⟩⟩ := tameI_plain (fun h => h) (fun h => h)
theorem tameI_alloc {t : TypeId} : @tameI ⟨dst, .alloc t, ty, pos, af, g⟩ st I q = @reqI (plain ⟨dst, .alloc t, ty, pos, af, g⟩ st = true) ⟨@reqI ((I.all fun m => !(m == dstOf dst)) = true) ⟨@keptI (dstOf dst) st I q⟩⟩ := tameI_plain (fun h => h) (fun h => h)
theorem tameI_box {t : TypeId} {x : Operand} : @tameI ⟨dst, .box t x, ty, pos, af, g⟩ st I q = @reqI (plain ⟨dst, .box t x, ty, pos, af, g⟩ st = true) ⟨@reqI ((I.all fun m => !(m == dstOf dst)) = true) ⟨@keptI (dstOf dst) st I q⟩⟩ := tameI_plain (fun h => h) (fun h => h)
theorem tameI_makeSlice {t : TypeId} {x y : Operand} : @tameI ⟨dst, .makeSlice t x y, ty, pos, af, g⟩ st I q = @reqI (plain ⟨dst, .makeSlice t x y, ty, pos, af, g⟩ st = true) ⟨@reqI ((I.all fun m => !(m == dstOf dst)) = true) ⟨@keptI (dstOf dst) st I q⟩⟩ := tameI_plain (fun h => h) (fun h => h)
end
theorem sch2I_done : @sch2I P .done st all K = K.f st := (rfl)
theorem sch2I_one : @sch2I P (.one false i s) st all K = @bindI _ (all.l[i]?) ⟨fun o => @reqI (qok o st.ev = true) ⟨@op1I P o st all ⟨fun s' => @sch2I P s s' all K⟩⟩⟩ := by
  apply propext
  simp only [bindI, bindP_eq, reqI, sch2I, sch2K, ← opA_ops, Bool.false_eq_true, false_implies, true_and, List.getElem?_toArray]
theorem sch2I_rob : @sch2I P (.one true i s) st all K = @bindI _ (all.l[i]?) ⟨fun o => @reqI (qok o st.ev = true) ⟨@reqI (plain o st = true) ⟨@op1I P o st all ⟨fun s' => @reqI (robDst o s' = true) ⟨@sch2I P s s' all K⟩⟩⟩⟩⟩ := by
  apply propext
  simp only [bindI, bindP_eq, reqI, sch2I, sch2K, ← opA_ops, true_implies, List.getElem?_toArray]
theorem sch2I_cal {cs : List Nat} : @sch2I P (.cal i cs s) st all K = @bindI _ (all.l[i]?) ⟨fun o => @reqI (qok o st.ev = true) ⟨@op1I P o st all ⟨fun s' => @calI (D.idss (o.op.operands.toList.map st.ev) ++ dstIds o s') st cs all ⟨@sch2I P s s' all K⟩⟩⟩⟩ := by
  apply propext
  simp only [bindI, bindP_eq, reqI, sch2I, sch2K, calI, ← opA_ops, List.getElem?_toArray]
theorem famI_nil {X : List Nat} {q : KP} : @famI X st [] q = q.f := by simp [famI, famP]
theorem famI_cons {X : List Nat} {k : Nat} {ks : List Nat} {q : KP} : @famI X st (k :: ks) q = @reqI (((st.t k).ids.all fun m => X.any fun x => x == m) = true) ⟨@famI X st ks q⟩ := by
  simp [famI, famP, reqI, and_assoc]
theorem keptXI_nil {X : List Nat} {q : KP} : @keptXI X st [] q = q.f := by simp [keptXI, keptX]
theorem keptXI_cons {X : List Nat} {m : Nat} {l : List Nat} {q : KP} : @keptXI X st (m :: l) q = @reqI ((X.any fun x => x == m) = false ∧ offB X (st.H m) = true) ⟨@keptXI X st l q⟩ := by
  simp [keptXI, keptX, reqI, and_assoc]
theorem sch2I_fam {cs X ks : List Nat} : @sch2I P (.fam i cs X ks s) st all K = @bindI _ (all.l[i]?) ⟨fun o => @reqI (qok o st.ev = true) ⟨@famI X st ks
    ⟨@op1I P o st all ⟨fun s' => @keptXI X st (D.idss (o.op.operands.toList.map st.ev) ++ dstIds o s') ⟨@sch2I P s s' all K⟩⟩⟩⟩⟩ := by
  apply propext
  simp only [bindI, bindP_eq, reqI, sch2I, sch2K, famI, keptXI, ← opA_ops, List.getElem?_toArray]
theorem sch2I_only : @sch2I P (.only i s) st all K = @bindI _ (all.l[i]?) ⟨fun o => @op1I P o st all ⟨fun s' => @sch2I P s s' all K⟩⟩ := by
  apply propext
  simp only [bindI, bindP_eq, sch2I, sch2K, ← opA_ops, List.getElem?_toArray]
theorem sch2I_mv : @sch2I P (.mv i s) st all K = @bindI _ (all.l[i]?) ⟨fun o => @op1I P o st all ⟨fun s' => @sch2I P s s' all K⟩⟩ := by
  apply propext
  simp only [bindI, bindP_eq, sch2I, sch2K, ← opA_ops, List.getElem?_toArray]
end
theorem dstIds_some {k : Nat} {op : Op} {ty : TypeId} {pos : String} {af : Array Edge} {g : Option (Nat × Bool)} {s : St} : dstIds ⟨some k, op, ty, pos, af, g⟩ s = (s.t k).ids := (rfl)
set_option linter.defProp false in
theorem offB_none {X : List Nat} : offB X none = true := (rfl)
theorem offB_some {X : List Nat} {e : TypeId} {S : Nat} {l : List D} : offB X (some ⟨e, S, l⟩) = (D.idss l).all fun m => !(X.any fun x => x == m) := (rfl)
set_option linter.defProp false in
def rules3 := And.intro (And.intro (And.intro @famI_nil @famI_cons) (And.intro @keptXI_nil @keptXI_cons)) (And.intro @sch2I_fam (And.intro @offB_none @offB_some))
set_option linter.defProp false in
def rules4 := And.intro @sch2I_mv <| And.intro (And.intro (And.intro @tameI_store @offI_adr) (And.intro @offI_ptr @offI_any)) (And.intro (And.intro @offI_v @tameI_call) (And.intro @tameI_alloc (And.intro @tameI_box @tameI_makeSlice)))
set_option linter.defProp false in
def rules2 := And.intro (And.intro (And.intro @keptI_nil @keptI_cons) (And.intro @calI_nil @calI_cons)) (And.intro (And.intro @sch2I_done @sch2I_one) (And.intro (And.intro @sch2I_rob @sch2I_cal) (And.intro @sch2I_only (And.intro @dstIds_some (And.intro @killO_none @killO_some)))))
attribute [go_sem] rules2 rules3 rules4
end Go.VL

end
section
/- Lists of values that name nothing owned. -/
namespace Go.VL
open Go Go.RowKit
def gl {α : Type} (f : α → D) (l : List α) : List D := l.map f
class PlainD {α : Type} (f : α → D) (S : outParam Nat) : Prop where
  width : ∀ a, (f a).width = S
  stor : ∀ a, (f a).storable = true
  noRef : ∀ a, (f a).noRef = true
  nrm : ∀ a, (f a).nrm = f a
section
variable {α : Type} {f : α → D} {S : Nat} {l m : List α} {n id : Nat} {x : α}
theorem gl_length : (gl f l).length = l.length := by simp [gl]
theorem gl_append : gl f l ++ gl f m = gl f (l ++ m) := by simp [gl]
theorem gl_take : (gl f l).take n = gl f (l.take n) := by simp [gl]
theorem gl_drop : (gl f l).drop n = gl f (l.drop n) := by simp [gl]
theorem gl_ok [h : PlainD f S] : (∀ d ∈ gl f l, d.width = S ∧ d.storable = true) = True := by
  refine eq_true fun d hd => ?_
  obtain ⟨a, _, rfl⟩ := List.mem_map.1 hd
  exact ⟨h.width a, h.stor a⟩
theorem gl_noRefs [h : PlainD f S] : D.noRefs (gl f l) = true := by
  rw [D.noRefs_eq, List.all_eq_true]
  intro d hd
  obtain ⟨a, _, rfl⟩ := List.mem_map.1 hd
  exact h.noRef a
theorem gl_kills [h : PlainD f S] : D.kills id (gl f l) = gl f l := D.noRef_kills _ gl_noRefs id
theorem gl_frzs [h : PlainD f S] {els : List D} : D.frzs id els (gl f l) = gl f l := D.noRef_frzs _ gl_noRefs id els
theorem gl_nrms [h : PlainD f S] : D.nrms (gl f l) = gl f l := by
  rw [D.nrms_eq]
  unfold gl
  rw [List.map_map]
  exact List.map_congr_left fun a _ => h.nrm a
theorem gl_idss [h : PlainD f S] : D.idss (gl f l) = [] := D.noRefs_ids _ gl_noRefs
theorem gl_width [h : PlainD f S] : (gl f l).all (fun d => d.width == S) = true := by
  rw [List.all_eq_true]
  intro d hd
  obtain ⟨a, _, rfl⟩ := List.mem_map.1 hd
  simp [h.width a]
end
attribute [go_sem] gl_length gl_append gl_take gl_drop gl_ok gl_noRefs gl_kills gl_frzs gl_nrms gl_idss gl_width

/-- A map of numbers. -/
def kvI (k k2 : IntKind) (l : List (Int × Int)) : List D := kvD k (l.map fun p => (p.1, .v (.int k2 p.2)))
section
variable {k k2 : IntKind} {l : List (Int × Int)} {id : Nat}
theorem kvI_of : kvOf k (kvI k k2 l) = some (l.map fun p => (p.1, .v (.int k2 p.2))) := kvOf_kvD _
theorem kvOf_nil : kvOf k [] = some [] := (rfl)
theorem kvI_length : (kvI k k2 l).length = l.length := by simp [kvI, kvD]
theorem kvI_noRefs : D.noRefs (kvI k k2 l) = true := by
  rw [D.noRefs_eq, List.all_eq_true]
  intro d hd
  simp only [kvI, kvD, List.map_map, List.mem_map] at hd
  obtain ⟨p, _, rfl⟩ := hd
  rfl
theorem kvI_kills : D.kills id (kvI k k2 l) = kvI k k2 l := D.noRef_kill id kvI_noRefs
theorem kvI_frzs {els : List D} : D.frzs id els (kvI k k2 l) = kvI k k2 l := D.noRef_frzs _ kvI_noRefs id els
def lookN (a : Int) : List (Int × Int) → Option Int
  | [] => none
  | (b, d) :: r => if a = b then some d else lookN a r
def setN (a d : Int) : List (Int × Int) → List (Int × Int)
  | [] => [(a, d)]
  | (b, e) :: r => if a = b then (a, d) :: r else (b, e) :: setN a d r
theorem kvFind_I (a : Int) : ∀ l : List (Int × Int), kvFind a (l.map fun p => (p.1, D.v (.int k2 p.2))) = (lookN a l).map fun x => .v (.int k2 x)
  | [] => rfl
  | (b, d) :: r => by
    simp only [List.map_cons, kvFind, lookN]
    split
    · rfl
    · exact kvFind_I a r
theorem kvSet_I (a x : Int) : ∀ l : List (Int × Int), kvD k (kvSet a (.v (.int k2 x)) (l.map fun p => (p.1, D.v (.int k2 p.2)))) = kvI k k2 (setN a x l)
  | [] => rfl
  | (b, d) :: r => by
    have := kvSet_I a x r
    simp only [List.map_cons, kvSet, setN]
    split
    · rfl
    · simp only [kvD, kvI, List.map_cons] at this ⊢
      rw [this]
end
attribute [go_sem] kvI_of kvOf_nil kvI_length kvI_noRefs kvI_kills kvI_frzs kvFind_I kvSet_I
end Go.VL

end
section
/- What Lean reckons by itself, among the rules of the walk. -/
attribute [go_sem_proc] Nat.reduceEqDiff Nat.reduceAdd Nat.reduceLT Nat.reduceMul Nat.reduceSub reduceCtorEq Nat.reduceLeDiff Nat.reduceBEq Int.reduceBEq Int.reduceBNe Int.reduceLT Int.reduceLE Int.reduceToNat Int.reduceGT Int.reduceGE Int.reduceEq Int.reducePow Nat.reducePow
attribute [go_sem_proc ↓] reduceIte

end
section
/- A range over a map that is owned. -/
namespace Go.VL
open Go Go.RowKit Go.ChangeMaps
attribute [go_sem] opLenI_mp
theorem cuts_range {t : TypeId} {x : Operand} : cutsLo (.range t x) = false := (rfl)
theorem cuts_next {x : Operand} {b : Bool} : cutsLo (.next x b) = false := (rfl)
theorem cuts_entry {x : Operand} : cutsLo (.entry x) = false := (rfl)
attribute [go_sem] cuts_range cuts_next cuts_entry

section
variable {P : Program} {dst : Option Tmp} {ty : TypeId} {pos : String} {af : Array Edge} {g : Option (Nat × Bool)} {st : St} {K : KSD}
end
end Go.VL

end
section
/- A key taken out of a map that is owned. -/
namespace Go.VL
open Go Go.RowKit
def kvDel (a : Int) : List (Int × D) → List (Int × D)
  | [] => []
  | (b, e) :: r => if a = b then r else (b, e) :: kvDel a r
section
variable {k k2 : IntKind}
def delN (a : Int) : List (Int × Int) → List (Int × Int)
  | [] => []
  | (b, e) :: r => if a = b then r else (b, e) :: delN a r
theorem kvDel_I (a : Int) : ∀ l : List (Int × Int), kvD k (kvDel a (l.map fun p => (p.1, D.v (.int k2 p.2)))) = kvI k k2 (delN a l)
  | [] => rfl
  | (b, e) :: r => by
    have := kvDel_I a r
    simp only [List.map_cons, kvDel, delN]
    by_cases h : a = b
    · rw [if_pos h, if_pos h]; rfl
    · rw [if_neg h, if_neg h]
      simp only [kvI, kvD, List.map_cons] at this ⊢
      rw [this]
attribute [go_sem] kvDel_I
end
end Go.VL

end
section
/- Many lists that are owned, within one that is. -/
namespace Go.VL
open Go Go.RowKit
/-- What is one value reads as another, where the places from one on hold nothing. -/
def ToN (base n S : Nat) (d d' : D) : Prop := ∀ (ρ ρ' : Nat → Loc) (J : Nat → Prop) (w : World) (y : Value), (∀ m, ¬ (base ≤ m ∧ m < base + n) → ρ' m = ρ m) → (∀ m, base ≤ m → m < base + n → ρ' m = ⟨none, 0, S⟩) → RelD ρ J w d y → RelD ρ' J w d' y
def ToNs (base n S : Nat) : List D → List D → Prop
  | [], [] => True
  | d :: l, d' :: l' => ToN base n S d d' ∧ ToNs base n S l l'
  | _, _ => False
theorem ToN.any {base n S : Nat} {d : D} : ToN base n S d .any := fun _ _ _ _ _ _ _ _ => trivial
theorem ToN.plain {base n S : Nat} {d : D} (h : d.noRef = true) : ToN base n S d d := fun _ _ _ _ _ _ _ hy => RelP.toD (hy.toP h)
theorem ToN.nil {base n S i : Nat} (h : i < n) : ToN base n S (.v (.slice none 0 0)) (.ref (base + i) 0) := fun ρ ρ' J w y _ h2 hy => by
  show y = .slice (ρ' (base + i)).a 0 (ρ' (base + i)).cap
  rw [h2 _ (by omega) (by omega)]
  exact hy.1
theorem ToN.ref {base n S id k : Nat} (h : ¬ (base ≤ id ∧ id < base + n)) : ToN base n S (.ref id k) (.ref id k) := fun ρ ρ' J w y h1 _ hy => by
  have hy : y = .slice (ρ id).a k (ρ id).cap := hy
  show y = .slice (ρ' id).a k (ρ' id).cap
  rw [h1 id h]; exact hy
theorem ToN.adr {base n S id i o : Nat} (h : ¬ (base ≤ id ∧ id < base + n)) : ToN base n S (.adr id i o) (.adr id i o) := fun ρ ρ' J w y h1 _ hy => by
  have hy : ∃ g, (ρ id).a = some ⟨g, 0, none⟩ ∧ y = .pointer (some ⟨g, i * (ρ id).S + o, none⟩) := hy
  show ∃ g, (ρ' id).a = some ⟨g, 0, none⟩ ∧ y = .pointer (some ⟨g, i * (ρ' id).S + o, none⟩)
  rw [h1 id h]; exact hy
theorem ToNs.plain {base n S : Nat} : ∀ {l : List D}, D.noRefs l = true → ToNs base n S l l
  | [], _ => trivial
  | d :: l, h => by
    simp only [D.noRefs, Bool.and_eq_true] at h
    exact ⟨ToN.plain h.1, ToNs.plain h.2⟩
theorem ToNs.range {base n S : Nat} {f g : Nat → D} : ∀ {l : List Nat}, (∀ i ∈ l, ToN base n S (f i) (g i)) → ToNs base n S (l.map f) (l.map g)
  | [], _ => trivial
  | i :: l, h => ⟨h i (by simp), ToNs.range fun j hj => h j (by simp [hj])⟩
theorem ToNs.rel {base n S : Nat} {ρ ρ' : Nat → Loc} {J : Nat → Prop} {w : World} (h1 : ∀ m, ¬ (base ≤ m ∧ m < base + n) → ρ' m = ρ m) (h2 : ∀ m, base ≤ m → m < base + n → ρ' m = ⟨none, 0, S⟩) :
    ∀ {l l' : List D} {vs : List Value}, ToNs base n S l l' → RelDs ρ J w l vs → RelDs ρ' J w l' vs
  | [], [], _, _, h => h
  | d :: l, d' :: l', vs, ht, h => by
    obtain ⟨x, xs, e, hx, hxs⟩ := h
    exact ⟨x, xs, e, ht.1 ρ ρ' J w x h1 h2 hx, ToNs.rel h1 h2 ht.2 hxs⟩
  | [], _ :: _, _, h, _ => h.elim
  | _ :: _, [], _, h, _ => h.elim
theorem ToNs.length {base n S : Nat} : ∀ {l l' : List D}, ToNs base n S l l' → l'.length = l.length
  | [], [], _ => rfl
  | d :: l, d' :: l', h => by rw [List.length_cons, List.length_cons, ToNs.length h.2]
  | [], _ :: _, h => h.elim
  | _ :: _, [], h => h.elim
/-- What is not looked at any more. -/
theorem Weak.drop {st st' : St} (hn : st'.n = st.n) (ht : ∀ k, st'.t k = st.t k ∨ st'.t k = .any) (hH : ∀ m o, st'.H m = some o → st.H m = some o) : Weak st st' := by
  intro J0 ρ J B w0 a w hs
  refine ⟨ρ, J, { old := hs.old, own := fun id o g ho => hs.own id o g (hH id o ho), lt := hs.lt, slots := fun k => ?_, objs := fun id o ho => hs.objs id o (hH id o ho), apart := fun i j oi oj hi hj => hs.apart i j oi oj (hH i oi hi) (hH j oj hj), size := hs.size.trans hn.symm, defers := hs.defers, below := hs.below, base := hs.base, glob := hs.glob }⟩
  rcases ht k with q | q
  · rw [q]; exact hs.slots k
  · rw [q]; trivial
def pickT : List (Nat × D) → Nat → D
  | [], _ => .any
  | p :: l, k => if k = p.1 then p.2 else pickT l k
def pickH : List (Nat × Own) → Nat → Option Own
  | [], _ => none
  | p :: l, k => if k = p.1 then some p.2 else pickH l k
theorem pickT_cons {j k : Nat} {d : D} {l : List (Nat × D)} : pickT ((j, d) :: l) k = if k = j then d else pickT l k := (rfl)
theorem pickT_nil {k : Nat} : pickT [] k = .any := (rfl)
theorem pickH_cons {j k : Nat} {o : Own} {l : List (Nat × Own)} : pickH ((j, o) :: l) k = if k = j then some o else pickH l k := (rfl)
theorem pickH_nil {k : Nat} : pickH [] k = none := (rfl)
attribute [go_sem] pickT_cons pickT_nil pickH_cons pickH_nil
mutual
/-- A value that names nothing from a place on. -/
def okTo (base : Nat) : D → Bool
  | .ref id _ => decide (id < base)
  | .adr id _ _ => decide (id < base)
  | .agg l => okTos base l
  | .any => true
  | .v _ => true
  | .nil0 => true
  | .lst _ => true
  | .ptr _ => true
  | _ => false
def okTos (base : Nat) : List D → Bool
  | [] => true
  | d :: l => okTo base d && okTos base l
end
mutual
theorem okTo.to {base n S : Nat} : ∀ {d : D}, okTo base d = true → ToN base n S d d
  | .ref id k, h => ToN.ref (by have := of_decide_eq_true h; omega)
  | .adr id _ _, h => ToN.adr (by have := of_decide_eq_true h; omega)
  | .agg l, h => fun ρ ρ' J w y h1 h2 hy => by
    obtain ⟨vs, q1, q2, q3⟩ := hy
    exact ⟨vs, q1, ToNs.rel h1 h2 (okTos.to (l := l) h) q2, q3⟩
  | .any, _ => ToN.any
  | .v _, _ => ToN.plain rfl
  | .nil0, _ => ToN.plain rfl
  | .lst _, _ => ToN.plain rfl
  | .ptr _, _ => ToN.plain rfl
  | .tup _, h => by cases h
  | .clos _ _, h => by cases h
  | .sub _ _ _, h => by cases h
  | .loc _ _, h => by cases h
  | .mp _, h => by cases h
theorem okTos.to {base n S : Nat} : ∀ {l : List D}, okTos base l = true → ToNs base n S l l
  | [], _ => trivial
  | d :: l, h => by
    simp only [okTos, Bool.and_eq_true] at h
    exact ⟨okTo.to h.1, okTos.to h.2⟩
end
mutual
theorem okTo.frz {base i : Nat} {els : List D} : ∀ {d : D}, okTo base d = true → d.frz (base + i) els = d
  | .ref id k, h => by rw [D.frz, if_neg (by have := of_decide_eq_true h; omega)]
  | .adr id _ _, h => by rw [D.frz, if_neg (by have := of_decide_eq_true h; omega)]
  | .agg l, h => by rw [D.frz, okTos.frz (l := l) h]
  | .any, _ => rfl
  | .v _, _ => rfl
  | .nil0, _ => rfl
  | .lst _, _ => rfl
  | .ptr _, _ => rfl
  | .tup _, h => by cases h
  | .clos _ _, h => by cases h
  | .sub _ _ _, h => by cases h
  | .loc _ _, h => by cases h
  | .mp _, h => by cases h
theorem okTos.frz {base i : Nat} {els : List D} : ∀ {l : List D}, okTos base l = true → D.frzs (base + i) els l = l
  | [], _ => rfl
  | d :: l, h => by
    simp only [okTos, Bool.and_eq_true] at h
    rw [D.frzs, okTo.frz h.1, okTos.frz h.2]
end
end Go.VL

end
section
/- An object that is named anew. -/
namespace Go.VL
open Go Go.RowKit
/-- What is one value reads as another, where what stood at one place stands at another one. -/
def ToM (i j : Nat) (d d' : D) : Prop := ∀ (ρ ρ' : Nat → Loc) (J : Nat → Prop) (w : World) (y : Value), (∀ m, m ≠ j → ρ' m = ρ m) → ρ' j = ρ i → RelD ρ J w d y → RelD ρ' J w d' y
def ToMs (i j : Nat) : List D → List D → Prop
  | [], [] => True
  | d :: l, d' :: l' => ToM i j d d' ∧ ToMs i j l l'
  | _, _ => False
theorem ToM.any {i j : Nat} {d : D} : ToM i j d .any := fun _ _ _ _ _ _ _ _ => trivial
theorem ToM.plain {i j : Nat} {d : D} (h : d.noRef = true) : ToM i j d d := fun _ _ _ _ _ _ _ hy => RelP.toD (hy.toP h)
theorem ToM.mp {i j : Nat} : ToM i j (.mp i) (.mp j) := fun ρ ρ' J w y _ h2 hy => by
  have hy : ∃ g, (ρ i).a = some ⟨g, 0, none⟩ ∧ y = .map (some g) := hy
  show ∃ g, (ρ' j).a = some ⟨g, 0, none⟩ ∧ y = .map (some g)
  rw [h2]; exact hy
theorem ToM.ref {i j m n : Nat} (h : m ≠ j) : ToM i j (.ref m n) (.ref m n) := fun ρ ρ' J w y h1 _ hy => by
  have hy : y = .slice (ρ m).a n (ρ m).cap := hy
  show y = .slice (ρ' m).a n (ρ' m).cap
  rw [h1 m h]; exact hy
theorem ToM.adr {i j m a b : Nat} (h : m ≠ j) : ToM i j (.adr m a b) (.adr m a b) := fun ρ ρ' J w y h1 _ hy => by
  have hy : ∃ g, (ρ m).a = some ⟨g, 0, none⟩ ∧ y = .pointer (some ⟨g, a * (ρ m).S + b, none⟩) := hy
  show ∃ g, (ρ' m).a = some ⟨g, 0, none⟩ ∧ y = .pointer (some ⟨g, a * (ρ' m).S + b, none⟩)
  rw [h1 m h]; exact hy
theorem ToMs.rel {i j : Nat} {ρ ρ' : Nat → Loc} {J : Nat → Prop} {w : World} (h1 : ∀ m, m ≠ j → ρ' m = ρ m) (h2 : ρ' j = ρ i) :
    ∀ {l l' : List D} {vs : List Value}, ToMs i j l l' → RelDs ρ J w l vs → RelDs ρ' J w l' vs
  | [], [], _, _, h => h
  | d :: l, d' :: l', vs, ht, h => by
    obtain ⟨x, xs, e, hx, hxs⟩ := h
    exact ⟨x, xs, e, ht.1 ρ ρ' J w x h1 h2 hx, ToMs.rel h1 h2 ht.2 hxs⟩
  | [], _ :: _, _, h, _ => h.elim
  | _ :: _, [], _, h, _ => h.elim
theorem ToMs.length {i j : Nat} : ∀ {l l' : List D}, ToMs i j l l' → l'.length = l.length
  | [], [], _ => rfl
  | d :: l, d' :: l', h => by rw [List.length_cons, List.length_cons, ToMs.length h.2]
  | [], _ :: _, h => h.elim
  | _ :: _, [], h => h.elim
theorem ToMs.plain {i j : Nat} : ∀ {l : List D}, D.noRefs l = true → ToMs i j l l
  | [], _ => trivial
  | d :: l, h => by
    simp only [D.noRefs, Bool.and_eq_true] at h
    exact ⟨ToM.plain h.1, ToMs.plain h.2⟩
theorem ToMs.range {i j : Nat} {f : Nat → D} : ∀ {l : List Nat}, (∀ k ∈ l, ToM i j (f k) (f k)) → ToMs i j (l.map f) (l.map f)
  | [], _ => trivial
  | k :: l, h => ⟨h k (by simp), ToMs.range fun m hm => h m (by simp [hm])⟩
/-- What an object is hangs on its place alone. -/
theorem ObjAt.moved {ρ ρ' : Nat → Loc} {J : Nat → Prop} {w : World} {id id' : Nat} {o o' : Own} (h : ObjAt ρ J w id o) (hρ : ρ' id' = ρ id) (he : o'.e = o.e) (hS : o'.S = o.S) (hl : o'.els.length = o.els.length)
    (hr : ∀ vs, RelDs ρ J w o.els vs → RelDs ρ' J w o'.els vs) : ObjAt ρ' J w id' o' := by
  rcases h with ⟨h1, h2, h3, h4, h5, vs, h6, h7, h8⟩ | ⟨h1, h2, h3, h4, vs, h6, g, ob, h7, h8, h9, h10⟩
  · refine .inl ⟨by rw [hρ, hS]; exact h1, by rw [hS]; exact h2, by rw [hρ, hl]; exact h3, by rw [hρ]; exact h4, by rw [hl]; exact h5, vs, hr _ h6, by rw [hS]; exact h7, ?_⟩
    rw [hρ]
    rcases h8 with h8 | ⟨h9, g, cur, h10, h11, h12, h13, h14⟩
    · exact .inl h8
    · exact .inr ⟨h9, g, cur, h10, h11, by rw [he]; exact h12, by rw [hS]; exact h13, by rw [hS, hl]; exact h14⟩
  · exact .inr ⟨by rw [hρ, hS]; exact h1, by rw [hS]; exact h2, by rw [hρ]; exact h3, by rw [hl]; exact h4, vs, hr _ h6, g, ob, by rw [hρ]; exact h7, h8, h9, h10⟩
theorem Weak.move {st st' : St} (i j : Nat) (hn : st'.n = st.n) (ht : ∀ k, ToM i j (st.t k) (st'.t k))
    (hH : ∀ m o', st'.H m = some o' → (m = j ∨ m ≠ i) ∧ ∃ o, st.H (if m = j then i else m) = some o ∧ o'.e = o.e ∧ o'.S = o.S ∧ ToMs i j o.els o'.els) : Weak st st' := by
  intro J0 ρ J B w0 a w hs
  let ρ' : Nat → Loc := fun m => if m = j then ρ i else ρ m
  have h1 : ∀ m, m ≠ j → ρ' m = ρ m := fun m hm => if_neg hm
  have h2 : ρ' j = ρ i := if_pos rfl
  have h3 : ∀ m, ρ' m = ρ (if m = j then i else m) := fun m => by
    by_cases q : m = j
    · rw [if_pos q, q, h2]
    · rw [if_neg q, h1 m q]
  refine ⟨ρ', J, { old := hs.old, own := fun id o g ho hc ha => ?_, lt := hs.lt, slots := fun k => ht k ρ ρ' J w _ h1 h2 (hs.slots k), objs := fun id o ho => ?_, apart := fun p q op oq hp hq hne hcp hcq => ?_, size := hs.size.trans hn.symm, defers := hs.defers, below := hs.below, base := hs.base, glob := hs.glob }⟩
  · obtain ⟨_, o2, q2, _⟩ := hH id o ho
    rw [h3] at hc ha
    exact hs.own _ o2 g q2 hc ha
  · obtain ⟨_, o2, q2, q3, q4, q5⟩ := hH id o ho
    exact (hs.objs _ o2 q2).moved (h3 id) q3 q4 q5.length fun vs hv => q5.rel h1 h2 hv
  · obtain ⟨x1, o2, q2, _⟩ := hH p op hp
    obtain ⟨x2, o3, p2, _⟩ := hH q oq hq
    rw [h3] at hcp ⊢
    rw [h3] at hcq ⊢
    refine hs.apart _ _ o2 o3 q2 p2 ?_ hcp hcq
    by_cases a1 : p = j
    · rw [if_pos a1]
      by_cases a2 : q = j
      · exact absurd (a1.trans a2.symm) hne
      · rw [if_neg a2]; exact fun z => (x2.resolve_left a2) z.symm
    · rw [if_neg a1]
      by_cases a2 : q = j
      · rw [if_pos a2]; exact x1.resolve_left a1
      · rw [if_neg a2]; exact hne
end Go.VL

end
section
set_option linter.unusedVariables false
/- Results that hold many things that are owned; a text read by what the machine does. -/
namespace Go.VL
open Go Go.RowKit
/-- What a call gives, with all that is owned by what it gives. -/
def FunM (P : Program) (f : FuncId) (args : List D) (R : D → (Nat → Option Own) → Prop) : Prop :=
  callable P f = true ∧ ∀ (J : Nat → Prop) (w : World) (vs : List Value), (∀ b, J b → b < w.heap.size) → GlobAt J w → RelPs J w args vs →
    Calls P f vs.toArray w fun e w' => ∃ y r H, e = .returned y ∧ R r H ∧ Below w.heap.size w w' ∧ ∃ (J' : Nat → Prop) (ρ : Nat → Loc), (∀ b, J b → J' b) ∧ (∀ b, J' b → J b ∨ (w.heap.size ≤ b ∧ b < w'.heap.size)) ∧
      RelD ρ J' w' r y ∧ (∀ i o, H i = some o → ObjAt ρ J' w' i o) ∧ (∀ i o g, H i = some o → 0 < (ρ i).cap → (ρ i).a = some ⟨g, 0, none⟩ → w.heap.size ≤ g) ∧ Apart ρ H
def RetM (P : Program) (fn : Func) (R : D → (Nat → Option Own) → Prop) (st0 : St) : Prop :=
  ∃ st, Weak st0 st ∧ ∃ rs, resDs P st fn.results.toList = some rs ∧ ∃ H : Nat → Option Own, (∀ i o, H i = some o → st.H i = some o) ∧ R (pack rs) H
/-- A text, read by what the machine does. -/
def awpS (P : Program) (c : Code) (N : St → Prop) (X : Nat → St → Prop) (R : St → Prop) (st : St) : Prop :=
  ∀ (J0 : Nat → Prop) (ρ : Nat → Loc) (J : Nat → Prop) (B : Bound) (w0 : World) (a : Act) (w : World), Sim J0 ρ J B w0 st a w → c.wp P (ends J0 B w0 N X R) a w
theorem awpS_of {P : Program} {c : Code} {N R : St → Prop} {X : Nat → St → Prop} {st : St} (h : awp P c N X R st) : awpS P c N X R st :=
  fun J0 ρ J B w0 a w hs => awp_sound c N X R st ρ J a w h hs
mutual
/-- A value that names nothing ahead of a place. -/
def geTo (base : Nat) : D → Bool
  | .ref id _ => decide (base ≤ id)
  | .adr id _ _ => decide (base ≤ id)
  | .agg l => geTos base l
  | .tup l => geTos base l
  | .any => true
  | .v _ => true
  | .nil0 => true
  | .lst _ => true
  | .ptr _ => true
  | _ => false
def geTos (base : Nat) : List D → Bool
  | [] => true
  | d :: l => geTo base d && geTos base l
end
mutual
theorem geTo.rel {base : Nat} {ρ ρ' : Nat → Loc} {J : Nat → Prop} {w : World} (h1 : ∀ m, base ≤ m → ρ' m = ρ m) : ∀ {d : D} {y : Value}, geTo base d = true → RelD ρ J w d y → RelD ρ' J w d y
  | .ref id k, y, h, hy => by
    have hy : y = .slice (ρ id).a k (ρ id).cap := hy
    show y = .slice (ρ' id).a k (ρ' id).cap
    rw [h1 id (of_decide_eq_true h)]; exact hy
  | .adr id i o, y, h, hy => by
    have hy : ∃ g, (ρ id).a = some ⟨g, 0, none⟩ ∧ y = .pointer (some ⟨g, i * (ρ id).S + o, none⟩) := hy
    show ∃ g, (ρ' id).a = some ⟨g, 0, none⟩ ∧ y = .pointer (some ⟨g, i * (ρ' id).S + o, none⟩)
    rw [h1 id (of_decide_eq_true h)]; exact hy
  | .agg l, y, h, hy => by
    obtain ⟨vs, q1, q2, q3⟩ := hy
    exact ⟨vs, q1, geTos.rel h1 (l := l) h q2, q3⟩
  | .tup l, y, h, hy => by
    obtain ⟨vs, q1, q2⟩ := hy
    exact ⟨vs, q1, geTos.rel h1 (l := l) h q2⟩
  | .any, _, _, _ => trivial
  | .v _, _, _, hy => hy
  | .nil0, _, _, hy => hy
  | .lst _, _, _, hy => hy
  | .ptr _, _, _, hy => hy
  | .clos _ _, _, h, _ => by cases h
  | .sub _ _ _, _, h, _ => by cases h
  | .loc _ _, _, h, _ => by cases h
  | .mp _, _, h, _ => by cases h
theorem geTos.rel {base : Nat} {ρ ρ' : Nat → Loc} {J : Nat → Prop} {w : World} (h1 : ∀ m, base ≤ m → ρ' m = ρ m) : ∀ {l : List D} {vs : List Value}, geTos base l = true → RelDs ρ J w l vs → RelDs ρ' J w l vs
  | [], _, _, h => h
  | d :: l, vs, hg, h => by
    simp only [geTos, Bool.and_eq_true] at hg
    obtain ⟨x, xs, e, hx, hxs⟩ := h
    exact ⟨x, xs, e, geTo.rel h1 hg.1 hx, geTos.rel h1 hg.2 hxs⟩
end
mutual
theorem okTo.rel {base : Nat} {ρ ρ' : Nat → Loc} {J : Nat → Prop} {w : World} (h1 : ∀ m, m < base → ρ' m = ρ m) : ∀ {d : D} {y : Value}, okTo base d = true → RelD ρ J w d y → RelD ρ' J w d y
  | .ref id k, y, h, hy => by
    have hy : y = .slice (ρ id).a k (ρ id).cap := hy
    show y = .slice (ρ' id).a k (ρ' id).cap
    rw [h1 id (of_decide_eq_true h)]; exact hy
  | .adr id i o, y, h, hy => by
    have hy : ∃ g, (ρ id).a = some ⟨g, 0, none⟩ ∧ y = .pointer (some ⟨g, i * (ρ id).S + o, none⟩) := hy
    show ∃ g, (ρ' id).a = some ⟨g, 0, none⟩ ∧ y = .pointer (some ⟨g, i * (ρ' id).S + o, none⟩)
    rw [h1 id (of_decide_eq_true h)]; exact hy
  | .agg l, y, h, hy => by
    obtain ⟨vs, q1, q2, q3⟩ := hy
    exact ⟨vs, q1, okTos.rel h1 (l := l) h q2, q3⟩
  | .any, _, _, _ => trivial
  | .v _, _, _, hy => hy
  | .nil0, _, _, hy => hy
  | .lst _, _, _, hy => hy
  | .ptr _, _, _, hy => hy
  | .tup _, _, h, _ => by cases h
  | .clos _ _, _, h, _ => by cases h
  | .sub _ _ _, _, h, _ => by cases h
  | .loc _ _, _, h, _ => by cases h
  | .mp _, _, h, _ => by cases h
theorem okTos.rel {base : Nat} {ρ ρ' : Nat → Loc} {J : Nat → Prop} {w : World} (h1 : ∀ m, m < base → ρ' m = ρ m) : ∀ {l : List D} {vs : List Value}, okTos base l = true → RelDs ρ J w l vs → RelDs ρ' J w l vs
  | [], _, _, h => h
  | d :: l, vs, hg, h => by
    simp only [okTos, Bool.and_eq_true] at hg
    obtain ⟨x, xs, e, hx, hxs⟩ := h
    exact ⟨x, xs, e, okTo.rel h1 hg.1 hx, okTos.rel h1 hg.2 hxs⟩
end
theorem startSim {J0 : Nat → Prop} {w : World} {vs : List Value} {args : List D} {n : Nat} (hJ : ∀ b, J0 b → b < w.heap.size) (hG : GlobAt J0 w) (hv : RelPs J0 w args vs) (hn : args.length ≤ n) :
    Sim J0 (fun _ => ⟨none, 0, 0⟩) J0 (.at w.heap.size) w (St.init args n) { tmps := vs.toArray ++ Array.replicate (n - vs.toArray.size) undef, defers := [] } w := by
  have hlen := (RelPs_get _ _ hv).1
  refine { old := fun b hb => .inl hb, own := fun id o g hi => by simp [St.init] at hi, lt := hJ, slots := fun j => ?_, objs := fun id o hi => by simp [St.init] at hi, apart := fun i j oi oj hi => by simp [St.init] at hi, size := by simp [St.init]; omega, defers := rfl, below := BelowM.refl _ _, base := rfl, glob := hG }
  have := initT_rel (ρ := fun _ => ⟨none, 0, 0⟩) (J := J0) (w := w) args vs 0 j (RelPs.toD hv) (Nat.zero_le _)
  simp only [Nat.sub_zero] at this
  show RelD _ _ _ (initT 0 args j) _
  by_cases hj : j < vs.length
  · have e : (vs.toArray ++ Array.replicate (n - vs.toArray.size) undef).getD j undef = vs.getD j undef := by
      simp [Array.getElem?_append, hj]
    rw [e]; exact this
  · have e : (vs.toArray ++ Array.replicate (n - vs.toArray.size) undef).getD j undef = undef := by
      simp [Array.getElem?_append, hj, Array.getElem?_replicate]
      split <;> rfl
    rw [e]
    have e2 : vs.getD j undef = undef := by simp [List.getD, List.getElem?_eq_none (Nat.le_of_not_lt hj)]
    rw [e2] at this
    exact this
theorem FunM.of_awpS {P : Program} {f : FuncId} {fn : Func} {code : Code} {args : List D} {R : D → (Nat → Option Own) → Prop} {n : Nat} (hf : P.funcs[f]? = some fn) (hb : fn.body = some code) (hc : callable P f = true) (hnn : fn.ntmps = n) (hn : args.length ≤ n)
    (h : D.wfs args → awpS P code (RetM P fn R) (fun _ _ => False) (RetM P fn R) (St.init args n)) : FunM P f args R := by
  subst hnn
  refine ⟨hc, fun J0 w vs hJ hG hv => ?_⟩
  have hs := startSim (n := fn.ntmps) hJ hG hv hn
  have hwp := h (RelPs.wf hv) _ _ _ _ _ _ _ hs
  refine calls_of_wp hf hb (wp_mono hwp ?_)
  rintro e a w' he
  have fin : SimE J0 (.at w.heap.size) w (RetM P fn R) a w' → a.defers = [] ∧ ∃ v, (results fn a.tmps).run P w' = .ok v w' ∧ ∃ y r H, Ending.returned v = .returned y ∧ R r H ∧ Below w.heap.size w w' ∧ ∃ (J' : Nat → Prop) (ρ : Nat → Loc), (∀ b, J0 b → J' b) ∧ (∀ b, J' b → J0 b ∨ (w.heap.size ≤ b ∧ b < w'.heap.size)) ∧
      RelD ρ J' w' r y ∧ (∀ i o, H i = some o → ObjAt ρ J' w' i o) ∧ (∀ i o g, H i = some o → 0 < (ρ i).cap → (ρ i).a = some ⟨g, 0, none⟩ → w.heap.size ≤ g) ∧ Apart ρ H := by
    rintro ⟨st0, ρ0, J1, ⟨st, hweak, rs, h1, H, hsub, hR⟩, hst0⟩
    obtain ⟨ρ, J, hst⟩ := hweak _ _ _ _ _ _ _ hst0
    refine ⟨hst.defers, ?_⟩
    obtain ⟨ys, h5, h6⟩ := run_resDs (P := P) hst _ _ h1
    have hfresh : ∀ i o g, st.H i = some o → 0 < (ρ i).cap → (ρ i).a = some ⟨g, 0, none⟩ → w.heap.size ≤ g := fun i o g ho hc ha => (hst.own i o g ho hc ha).elim (fun h => h) fun h => h.elim
    refine ⟨_, results_eq fn a.tmps P w' h5, _, _, H, rfl, hR, hst.below.plain, fun b => J0 b ∨ J b, ρ, fun b hb => .inl hb, fun b hb => ?_, RelD.mono (fun _ => rfl) (fun b hb => .inr hb) (fun _ _ => rfl) _ _ (pack_relD h6), fun i o ho => ?_, fun i o g ho => hfresh i o g (hsub i o ho), fun i j oi oj hi hj => hst.apart i j oi oj (hsub i oi hi) (hsub j oj hj)⟩
    · rcases hb with hb | hb
      · exact .inl hb
      · rcases hst.old b hb with h | h | h
        · exact .inl h
        · exact .inr ⟨h, hst.lt b hb⟩
        · exact h.elim
    · have ho := hsub i o ho
      refine (hst.objs i o ho).frame rfl rfl rfl rfl (fun b hb => .inr hb) (fun _ _ => rfl) (fun vs hv => RelDs.mono (fun _ => rfl) (fun b hb => .inr hb) (fun _ _ => rfl) _ _ hv) fun g g1 g2 g3 g4 => ⟨?_, rfl⟩
      rintro (h | h)
      · have h8 := hJ g h
        have h9 := hfresh i o g ho g1 g2
        omega
      · exact g3 h
  cases e with
  | normal => exact fin he
  | ret => exact fin he
  | exit id => obtain ⟨_, _, _, hf, _⟩ := he; exact hf.elim
  | goto l => exact he.elim
  | panic c => exact he.elim
  | outgrown => exact he.elim
theorem FunM.of_awpI {P : Program} {f : FuncId} {fn : Func} {code : Code} {args : List D} {R : D → (Nat → Option Own) → Prop} {n : Nat} (hf : P.funcs[f]? = some fn) (hb : fn.body = some code) (hc : callable P f = true) (hn : fn.ntmps = n) (hl : args.length ≤ n)
    (h : D.wfs args → @awpI P code (St.init args n) ⟨RetM P fn R⟩ ⟨fun _ _ => False⟩ ⟨RetM P fn R⟩) : FunM P f args R :=
  FunM.of_awpS hf hb hc hn hl fun hw => awpS_of (h hw)
theorem Fun.of_awpS {P : Program} {f : FuncId} {fn : Func} {code : Code} {args : List D} {R : D → Prop} {n : Nat} (hf : P.funcs[f]? = some fn) (hb : fn.body = some code) (hc : callable P f = true) (hnn : fn.ntmps = n) (hn : args.length ≤ n)
    (h : D.wfs args → awpS P code (Ret P fn R) (fun _ _ => False) (Ret P fn R) (St.init args n)) : Fun P f args R := by
  subst hnn
  refine ⟨hc, fun J0 w vs hJ hG hv => ?_⟩
  have hs := startSim (n := fn.ntmps) hJ hG hv hn
  have hwp := h (RelPs.wf hv) _ _ _ _ _ _ _ hs
  refine calls_of_wp hf hb (wp_mono hwp ?_)
  rintro e a w' he
  have fin : SimE J0 (.at w.heap.size) w (Ret P fn R) a w' → a.defers = [] ∧ ∃ v, (results fn a.tmps).run P w' = .ok v w' ∧ ∃ y r, Ending.returned v = .returned y ∧ R r ∧ Below w.heap.size w w' ∧ RelP (fun b => J0 b ∨ (w.heap.size ≤ b ∧ b < w'.heap.size)) w' r y := by
    rintro ⟨st, ρ, J, ⟨rs, h1, p, h2, h3, h4⟩, hst⟩
    refine ⟨hst.defers, ?_⟩
    obtain ⟨ys, h5, h6⟩ := run_resDs (P := P) hst _ _ h1
    obtain ⟨J', h7, h8, h9, h10⟩ := frzAll_sim _ J st rs ys p hst h6 h2
    refine ⟨_, results_eq fn a.tmps P w' h5, _, _, rfl, h4, hst.below.plain, ?_⟩
    refine RelP.mono (fun b hb => ?_) (fun _ _ => rfl) _ _ (pack_rel (RelDs.toP h9 h3).nrm)
    rcases h8.old b hb with h | h | h
    · exact .inl h
    · exact .inr ⟨h, h8.lt b hb⟩
    · exact h.elim
  cases e with
  | normal => exact fin he
  | ret => exact fin he
  | exit id => obtain ⟨_, _, _, hf, _⟩ := he; exact hf.elim
  | goto l => exact he.elim
  | panic c => exact he.elim
  | outgrown => exact he.elim
theorem ToM.agg {i j : Nat} {l l' : List D} (h : ToMs i j l l') : ToM i j (.agg l) (.agg l') := fun ρ ρ' J w y h1 h2 hy => by
  obtain ⟨vs, q1, q2, q3⟩ := hy
  exact ⟨vs, q1, ToMs.rel h1 h2 h q2, q3⟩
end Go.VL

end
section
set_option linter.unusedVariables false
/- A literal of a slice that keeps what is one's own; regions that draw their order, with such; loops, by what the machine does. -/
namespace Go.VL
open Go Go.RowKit
def opBuildSliceK (P : Program) (t : TypeId) (len : Nat) (parts : List (Nat × D)) (id : Nat) (K : St → D → Prop) (st : St) : Prop :=
  ∃ e, elT P t = some e ∧ 0 < P.cellsOf e ∧ len * P.cellsOf e ≤ 16777216 ∧ 0 < len ∧ parts.length = len ∧ inOrder 0 parts = true ∧ (∀ p ∈ parts, p.2.storable = true ∧ p.2.width = P.cellsOf e) ∧ (zeroT P e).isSome = true ∧ D.kills id (parts.map (·.2)) = parts.map (·.2) ∧
    K ((st.killed id).obj id ⟨e, P.cellsOf e, parts.map (·.2)⟩) (.ref id len)
/-- One operation; a literal of a slice keeps what is owned. -/
def opAK (P : Program) (all : List Oper) (o : Oper) (K : St → Prop) (st : St) : Prop :=
  match o.op with
  | .buildSlice t len parts => o.guard = none ∧ okDst st o.dst ∧ opBuildSliceK P t len (parts.toList.map fun p => (p.1, st.ev p.2)) (dstOf o.dst) (fun s x => K (s.put o.dst x)) st
  | _ => opA P all o K st
section
variable {P : Program} {ops : Array Oper}
end
def schKK (P : Program) (ops : Array Oper) (K : St → Prop) : Sch → St → Prop
  | .done, st => K st
  | .one rob i s, st => ∃ o, ops[i]? = some o ∧ qok o st.ev = true ∧ opA P ops.toList o (schKK P ops K s) st
  | .only i s, st => ∃ o, ops[i]? = some o ∧ opAK P ops.toList o (schKK P ops K s) st
  | .two i j s s', st => (∃ o, ops[i]? = some o ∧ opAK P ops.toList o (schKK P ops K s) st) ∧ ∃ o, ops[j]? = some o ∧ opAK P ops.toList o (schKK P ops K s') st
-- the walk's rules
def op1K (P : Program) (o : Oper) (st : St) [all : KL] [K : KN] : Prop := opAK P all.l o K.f st
def schKI (P : Program) (s : Sch) (st : St) [all : KL] [K : KN] : Prop := schKK P all.l.toArray K.f s st
section
variable {P : Program} {st : St} {all : KL} {K : KN} {i j n : Nat} {s s' : Sch} {dst : Option Tmp} {ty : TypeId} {pos : String} {af : Array Edge} {g : Option (Nat × Bool)} {t : TypeId}
theorem schKI_done : @schKI P .done st all K = K.f st := (rfl)
theorem opAK_ops {o : Oper} {K : St → Prop} : opAK P all.l.toArray.toList o K st = @op1K P o st all ⟨K⟩ := (rfl)
theorem schKI_one {rob : Bool} : @schKI P (.one rob i s) st all K = @bindI _ (all.l[i]?) ⟨fun o => @reqI (qok o st.ev = true) ⟨@op1I P o st all ⟨fun s' => @schKI P s s' all K⟩⟩⟩ := by
  apply propext
  simp only [bindI, bindP_eq, reqI, schKI, schKK, ← opA_ops, List.getElem?_toArray]
theorem schKI_only : @schKI P (.only i s) st all K = @bindI _ (all.l[i]?) ⟨fun o => @op1K P o st all ⟨fun s' => @schKI P s s' all K⟩⟩ := by
  apply propext
  simp only [bindI, bindP_eq, schKI, schKK, ← opAK_ops, List.getElem?_toArray]
theorem op1K_buildSlice {l : List (Nat × Operand)} : @op1K P ⟨dst, .buildSlice t n l.toArray, ty, pos, af, none⟩ st all K = (okDst st dst ∧ @bindI _ (elT P t) ⟨fun e => @reqI (0 < P.cellsOf e ∧ n * P.cellsOf e ≤ 16777216 ∧ 0 < n ∧ (l.map fun p => (p.1, st.ev p.2)).length = n ∧ inOrder 0 (l.map fun p => (p.1, st.ev p.2)) = true ∧ (∀ p ∈ l.map fun p => (p.1, st.ev p.2), p.2.storable = true ∧ p.2.width = P.cellsOf e) ∧ (zeroT P e).isSome = true ∧ D.kills (dstOf dst) ((l.map fun p => (p.1, st.ev p.2)).map (·.2)) = (l.map fun p => (p.1, st.ev p.2)).map (·.2))
    ⟨K.f (((st.killed (dstOf dst)).obj (dstOf dst) ⟨e, P.cellsOf e, (l.map fun p => (p.1, st.ev p.2)).map (·.2)⟩).put dst (.ref (dstOf dst) n))⟩⟩) := by
  apply propext
  show (none = none ∧ okDst st dst ∧ opBuildSliceK P t n _ (dstOf dst) _ st) ↔ _
  simp only [bindI, bindP_eq, reqI, opBuildSliceK, true_and, and_assoc]
theorem op1K_load {t : TypeId} {x : Operand} : @op1K P ⟨dst, .load t x, ty, pos, af, g⟩ st all K = @op1I P ⟨dst, .load t x, ty, pos, af, g⟩ st all K := (rfl)
theorem op1K_store {t : TypeId} {x y : Operand} : @op1K P ⟨dst, .store t x y, ty, pos, af, g⟩ st all K = @op1I P ⟨dst, .store t x y, ty, pos, af, g⟩ st all K := (rfl)
theorem op1K_move {x : Operand} : @op1K P ⟨dst, .move x, ty, pos, af, g⟩ st all K = @op1I P ⟨dst, .move x, ty, pos, af, g⟩ st all K := (rfl)
theorem op1K_call {c : Call} : @op1K P ⟨dst, .call c, ty, pos, af, g⟩ st all K = @op1I P ⟨dst, .call c, ty, pos, af, g⟩ st all K := (rfl)
theorem op1K_fieldAddr {t : TypeId} {x : Operand} {k : Nat} : @op1K P ⟨dst, .fieldAddr t x k, ty, pos, af, g⟩ st all K = @op1I P ⟨dst, .fieldAddr t x k, ty, pos, af, g⟩ st all K := (rfl)
theorem op1K_indexAddr {t : TypeId} {x y : Operand} : @op1K P ⟨dst, .indexAddr t x y, ty, pos, af, g⟩ st all K = @op1I P ⟨dst, .indexAddr t x y, ty, pos, af, g⟩ st all K := (rfl)
end
theorem ToN.agg {base n S : Nat} {l l' : List D} (h : ToNs base n S l l') : ToN base n S (.agg l) (.agg l') := fun ρ ρ' J w y h1 h2 hy => by
  obtain ⟨vs, q1, q2, q3⟩ := hy
  exact ⟨vs, q1, ToNs.rel h1 h2 h q2, q3⟩
attribute [go_sem] schKI_done schKI_one schKI_only op1K_buildSlice op1K_load op1K_store op1K_move op1K_call op1K_fieldAddr op1K_indexAddr
end Go.VL

end
section
set_option linter.unusedVariables false
/- Two lists of one result, handed over. -/
namespace Go.VL
open Go Go.RowKit
theorem ToMs.of {i j : Nat} : ∀ {l l' : List D}, l.length = l'.length → (∀ (k : Nat) (d d' : D), l[k]? = some d → l'[k]? = some d' → ToM i j d d') → ToMs i j l l'
  | [], [], _, _ => trivial
  | d :: l, d' :: l', hl, h => ⟨h 0 d d' rfl rfl, ToMs.of (by simpa using hl) fun k x x' hx hx' => h (k + 1) x x' hx hx'⟩
  | [], _ :: _, hl, _ => by cases hl
  | _ :: _, [], hl, _ => by cases hl
end Go.VL

end
section
set_option linter.unusedVariables false
/- Ranges over a function: a text walked in a round, or behind one. -/
namespace Go.VL
open Go Go.RowKit
def _root_.Go.Act.bare (a : Act) : Act := { tmps := a.tmps, defers := [] }
def isDefer (o : Oper) : Bool := match o.op with | .defer _ => true | _ => false
def simpleC : Code → Bool
  | .skip => true
  | .seq a b => simpleC a && simpleC b
  | .cond _ x y => simpleC x && simpleC y
  | .block _ c => simpleC c
  | .exit _ => true
  | .ret => true
  | .region _ ops dr => !dr && ops.toList.all (fun o => !isDefer o)
  | _ => false
/-- A fence that fences nothing off, be it in a round. -/
structure Open (F : Fence) : Prop where
  fn : ∀ f, F.fn f
  depth : F.depth = none
  calls : ∀ (n : Nat) (P : Program) (f : FuncId) (args : Array Value) (w : World) (R : Ending → World → Prop), Calls P f args w R → CallsIn F n P f args w R
  rows : ∀ (n : Nat) (P : Program) (row : String) (args : Array Value) (w : World) (R : Value → World → Prop), Rows P row args w R → RowsIn F n P row args w R
theorem Open.wide : Open Fence.wide := by
  refine ⟨fun _ => trivial, rfl, fun n P f args w R h => callsIn_wide.2 h, fun n P row args w R h c cs _ => ?_⟩
  obtain ⟨v, w', h1, h2⟩ := h c cs
  exact ⟨v, w', h1, stepsIn_wide.2 h2⟩
theorem Open.round (l : Nat) : Open (Fence.wide.inRound l) :=
  ⟨fun _ => trivial, rfl, fun n P f args w R h => Open.wide.calls n P f args w R h, fun n P row args w R h c cs hr => Open.wide.rows n P row args w R h c cs (room_wide _)⟩
theorem oper_in {F : Fence} (hF : Open F) {n : Nat} {P : Program} {o : Oper} {a : Act} {w : World} {K K' : Act → World → Prop} {E Q : Exit → Act → World → Prop} {ds : List Deferred} (hnd : isDefer o = false) (ha : a.defers = ds)
    (h : o.wp P a.bare w K' E) (hE1 : ∀ c a w, ¬ E (.panic c) a w) (hE2 : ¬ LetsOut E) (hK' : ∀ a w, K' a w → a.defers = []) (hK : ∀ a' w', a'.defers = ds → K' a'.bare w' → K a' w') : o.wpIn F n P a w K Q := by
  refine ⟨fun f _ => hF.fn f, ?_⟩
  have hd : ∀ c, o.op ≠ .defer c := fun c e => by simp [isDefer, e] at hnd
  rw [Oper.semAt_eq _ _ _ hd]
  unfold Oper.wp at h
  have he : a.bare.eval = a.eval := rfl
  rw [he] at h
  have hput : ∀ d v, (a.put d v).bare = a.bare.put d v := fun d v => by cases d <;> rfl
  have hpd : ∀ d v, (a.put d v).defers = ds := fun d v => by cases d <;> exact ha
  generalize (execOp a.eval o).run P w = r at h ⊢
  cases r with
  | ok x w' =>
    cases x with
    | value v => exact hK _ _ (hpd _ _) (by rw [hput]; exact h)
    | skip => exact hK _ _ (hpd _ _) (by rw [hput]; exact h)
    | «defer» d =>
      have := hK' _ _ h
      cases hdd : o.dst <;> simp [hdd, Act.put] at this
    | enter f args =>
      refine ⟨fun hs => (by rw [hF.depth] at hs; cases hs), hF.calls _ _ _ _ _ _ (Calls.mono h ?_)⟩
      rintro e w'' hq
      cases e with
      | returned v => exact hK _ _ (hpd _ _) (by rw [hput]; exact hq)
      | panicked c => exact (hE1 _ _ _ hq).elim
      | outgrown => exact (hE2 hq).elim
    | row row args =>
      refine ⟨fun hs => (by rw [hF.depth] at hs; cases hs), hF.rows _ _ _ _ _ _ fun c cs => ?_⟩
      obtain ⟨v, w'', h1, h2⟩ := h c cs
      exact ⟨v, w'', hK _ _ (hpd _ _) (by rw [hput]; exact h1), h2⟩
    | _ => exact h.elim
  | halt st w' =>
    cases st <;> first | exact (hE1 _ _ _ h).elim | exact h.elim
/-- The ends of a text, behind what is put off. -/
def endsD (ds : List Deferred) (E : Exit → Act → World → Prop) : Exit → Act → World → Prop := fun e a w => a.defers = ds ∧ E e a.bare w
theorem oper_defers {P : Program} {o : Oper} {a : Act} {w : World} {K : Act → World → Prop} {E : Exit → Act → World → Prop} (hE1 : ∀ c a w, ¬ E (.panic c) a w) (hE2 : ¬ LetsOut E) (hK : ∀ a w, K a w → a.defers = []) (h : o.wp P a w K E) : a.defers = [] := by
  unfold Oper.wp at h
  have hpd : ∀ d v, (a.put d v).defers = [] → a.defers = [] := fun d v q => by cases d <;> exact q
  generalize (execOp a.eval o).run P w = r at h
  cases r with
  | ok x w' =>
    cases x with
    | value v => exact hpd _ _ (hK _ _ h)
    | skip => exact hpd _ _ (hK _ _ h)
    | «defer» d =>
      have := hK _ _ h
      cases hdd : o.dst <;> simp [hdd, Act.put] at this
    | enter f args =>
      obtain ⟨e, w'', fr, hq, _⟩ := h []
      cases e with
      | returned v => exact hpd _ _ (hK _ _ hq)
      | panicked c => exact (hE1 _ _ _ hq).elim
      | outgrown => exact (hE2 hq).elim
    | row row args =>
      obtain ⟨v, w'', h1, _⟩ := h default []
      exact hpd _ _ (hK _ _ h1)
    | _ => exact h.elim
  | halt st w' =>
    cases st <;> first | exact (hE1 _ _ _ h).elim | exact h.elim
theorem wpList_defers {P : Program} {ops : Array Oper} {E : Exit → Act → World → Prop} (hE1 : ∀ c a w, ¬ E (.panic c) a w) (hE2 : ¬ LetsOut E) (hE3 : ∀ a w, E .normal a w → a.defers = []) :
    ∀ (l : List Oper) (a : Act) (w : World), wpList P ops E l a w → a.defers = []
  | [], a, w, h => hE3 a w h
  | o :: rest, a, w, h => by
    unfold wpList at h
    split at h
    · rcases h with h | h
      · exact oper_defers hE1 hE2 (fun a w h => wpList_defers hE1 hE2 hE3 rest a w h) h
      · exact (hE2 h.2).elim
    · have := wpList_defers hE1 hE2 hE3 rest _ w h
      cases hdd : o.dst <;> simpa [hdd, Act.put] using this
theorem list_in {F : Fence} (hF : Open F) {n : Nat} {P : Program} {ops : Array Oper} {E : Exit → Act → World → Prop} {ds : List Deferred} (hE1 : ∀ c a w, ¬ E (.panic c) a w) (hE2 : ¬ LetsOut E) (hE3 : ∀ a w, E .normal a w → a.defers = []) :
    ∀ (l : List Oper) (a : Act) (w : World), l.all (fun o => !isDefer o) = true → a.defers = ds → wpList P ops E l a.bare w → wpListIn F n P ops (endsD ds E) l a w
  | [], a, w, _, ha, h => ⟨ha, h⟩
  | o :: rest, a, w, hl, ha, h => by
    rw [List.all_cons, Bool.and_eq_true] at hl
    have hn : isDefer o = false := by simpa using hl.1
    unfold wpList at h
    unfold wpListIn
    have hy : a.bare.tmps = a.tmps := rfl
    rw [hy] at h
    split
    · rename_i hw
      rw [if_pos hw] at h
      rcases h with h | h
      · exact oper_in hF hn ha h hE1 hE2 (fun a w h => wpList_defers hE1 hE2 hE3 rest a w h) fun a' w' hd h => list_in hF hE1 hE2 hE3 rest a' w' hl.2 hd h
      · exact (hE2 h.2).elim
    · rename_i hw
      rw [if_neg hw] at h
      refine ⟨fun f _ => hF.fn f, list_in hF hE1 hE2 hE3 rest _ w hl.2 (by cases o.dst <;> exact ha) ?_⟩
      have hput : (a.put o.dst undef).bare = a.bare.put o.dst undef := by cases o.dst <;> rfl
      rw [hput]; exact h
theorem awp_in {F : Fence} (hF : Open F) {n : Nat} {ds : List Deferred} {P : Program} {J0 : Nat → Prop} {B : Bound} {w0 : World} : ∀ (c : Code) (N : St → Prop) (X : Nat → St → Prop) (R : St → Prop) (st : St) (ρ : Nat → Loc) (J : Nat → Prop) (a : Act) (w : World),
    simpleC c = true → awp P c N X R st → a.defers = ds → Sim J0 ρ J B w0 st a.bare w → c.wpIn F n P (endsD ds (ends J0 B w0 N X R)) a w := by
  intro c
  induction c with
  | skip => intro N X R st ρ J a w _ h ha hs; exact wpIn_skip ⟨ha, st, ρ, J, h, hs⟩
  | seq x y ihx ihy =>
    intro N X R st ρ J a w hc h ha hs
    simp only [simpleC, Bool.and_eq_true] at hc
    refine wpIn_seq (wpIn_mono (ihx _ X R st ρ J a w hc.1 h ha hs) ?_)
    rintro e a' w' ⟨hd, he⟩
    cases e with
    | normal => obtain ⟨s, ρ', J', h1, h2⟩ := he; exact ihy N X R s ρ' J' a' w' hc.2 h1 hd h2
    | exit id => exact ⟨hd, he⟩
    | ret => exact ⟨hd, he⟩
    | goto l => exact he.elim
    | panic c => exact he.elim
    | outgrown => exact he.elim
  | cond c x y ihx ihy =>
    intro N X R st ρ J a w hc h ha hs
    simp only [simpleC, Bool.and_eq_true] at hc
    obtain ⟨b, h1, h2, h3⟩ := h
    have hcv := hs.ev c
    rw [h1] at hcv
    refine wpIn_cond_split (show a.eval c = .bool b from hcv.1) (fun hb => ?_) fun hb => ?_
    · exact ihx N X R st ρ J a w hc.1 (h2 hb) ha hs
    · exact ihy N X R st ρ J a w hc.2 (h3 hb) ha hs
  | block id c ih =>
    intro N X R st ρ J a w hc h ha hs
    refine wpIn_block (wpIn_mono (ih _ _ _ st ρ J a w hc h ha hs) ?_)
    rintro e a' w' ⟨hd, he⟩
    cases e with
    | exit i =>
      simp only [Exit.inBlock]
      by_cases hi : i = id
      · rw [if_pos hi]
        refine ⟨hd, SimE.mono (show SimE J0 B w0 _ a'.bare w' from he) fun s hs' => ?_⟩
        simp only [if_pos hi] at hs'
        exact hs'
      · rw [if_neg hi]
        refine ⟨hd, SimE.mono (show SimE J0 B w0 _ a'.bare w' from he) fun s hs' => ?_⟩
        simp only [if_neg hi] at hs'
        exact hs'
    | normal => exact ⟨hd, he⟩
    | ret => exact ⟨hd, he⟩
    | goto l => exact he.elim
    | panic c => exact he.elim
    | outgrown => exact he.elim
  | exit id => intro N X R st ρ J a w _ h ha hs; exact wpIn_exit ⟨ha, st, ρ, J, h, hs⟩
  | ret => intro N X R st ρ J a w _ h ha hs; exact wpIn_ret ⟨ha, st, ρ, J, h, hs⟩
  | region id ops dr =>
    intro N X R st ρ J a w hc h ha hs
    cases dr with
    | true => simp [simpleC] at hc
    | false =>
      simp only [simpleC, Bool.not_false, Bool.true_and] at hc
      exact wpIn_region_list (list_in hF (E := ends J0 B w0 N X R) (fun c a w h => h) (fun ⟨a, w, h⟩ => h) (fun a w ⟨s, ρ, J, _, h⟩ => h.defers) ops.toList a w hc ha (aops_sound ops.toList N st ρ J a.bare w h hs fun a' w' h' => h'))
  | loop c ih => intro N X R st ρ J a w hc h ha hs; cases hc
  | label l => intro N X R st ρ J a w hc h ha hs; cases hc
  | scope c ih => intro N X R st ρ J a w hc h ha hs; cases hc
  | goto l => intro N X R st ρ J a w hc h ha hs; cases hc
  | rangeFunc f ps x y ihx ihy => intro N X R st ρ J a w hc h ha hs; cases hc
  | refuse y => intro N X R st ρ J a w hc h ha hs; cases hc
end Go.VL

end
section
set_option linter.unusedVariables false
/- Ranges over a function: what a round leaves alone. -/
namespace Go.VL
open Go Go.RowKit
/-- The blocks of what is owned. -/
def ownB (ρ : Nat → Loc) (H : Nat → Option Own) (b : Nat) : Prop := ∃ id o, H id = some o ∧ 0 < (ρ id).cap ∧ (ρ id).a = some ⟨b, 0, none⟩
theorem Sim.ownB_J {J0 : Nat → Prop} {ρ : Nat → Loc} {J : Nat → Prop} {B : Bound} {w0 : World} {st : St} {a : Act} {w : World} (h : Sim J0 ρ J B w0 st a w) {b : Nat} (hb : ownB ρ st.H b) : ¬ J b ∧ b < w.heap.size := by
  obtain ⟨id, o, ho, hc, ha⟩ := hb
  obtain ⟨g, q1, q2, q3⟩ := (h.objs id o ho).block hc
  rw [ha] at q1; cases q1
  exact ⟨q2, q3⟩
theorem Sim.rebase {J0 : Nat → Prop} {ρ : Nat → Loc} {J : Nat → Prop} {B : Bound} {w0 : World} {st : St} {a : Act} {w : World} (hs : Sim J0 ρ J B w0 st a w) : Sim J ρ J ⟨w.heap.size, ownB ρ st.H⟩ w st a w :=
  { old := fun b hb => .inl hb, own := fun id o g ho hc ha => .inr ⟨id, o, ho, hc, ha⟩, lt := hs.lt, slots := hs.slots, objs := hs.objs, apart := hs.apart, size := hs.size, defers := hs.defers, below := BelowM.refl _ _, base := rfl, glob := hs.glob }
theorem Sim.unbase {J0 : Nat → Prop} {ρ ρ' : Nat → Loc} {J J' : Nat → Prop} {B : Bound} {w0 : World} {st st' : St} {a a' : Act} {w w' : World} (hs : Sim J0 ρ J B w0 st a w) (hs' : Sim J ρ' J' ⟨w.heap.size, ownB ρ st.H⟩ w st' a' w') : Sim J0 ρ' J' B w0 st' a' w' :=
  have hB := hs.Ble
  have key : ∀ b, w.heap.size ≤ b ∨ ownB ρ st.H b → B.n ≤ b ∨ B.M b := fun b h => by
    rcases h with h | ⟨id, o, ho, hc, ha⟩
    · exact .inl (Nat.le_trans hB h)
    · exact hs.own id o b ho hc ha
  { old := fun b hb => by
      rcases hs'.old b hb with h | h
      · exact hs.old b h
      · exact .inr (key b h)
    own := fun id o g ho hc ha => key g (hs'.own id o g ho hc ha)
    lt := hs'.lt, slots := hs'.slots, objs := hs'.objs, apart := hs'.apart, size := hs'.size, defers := hs'.defers, base := hs.base, glob := hs'.glob
    below := ⟨hs'.below.os.trans hs.below.os, hs'.below.tape.trans hs.below.tape, hs'.below.output.trans hs.below.output, Nat.le_trans hs.below.size hs'.below.size, fun k hk hm => (hs'.below.block k (Nat.lt_of_lt_of_le hk hB) fun ho => by
      rcases key k (.inr ho) with h | h
      · omega
      · exact hm h).trans (hs.below.block k hk hm)⟩ }
/-- What a text leaves alone: whatever lay there and was not owned. -/
theorem Sim.left {ρ ρ' : Nat → Loc} {J J' J0 : Nat → Prop} {B : Bound} {w0 : World} {st st' : St} {a a' : Act} {w w' : World} (hs : Sim J0 ρ J B w0 st a w) (hs' : Sim J ρ' J' ⟨w.heap.size, ownB ρ st.H⟩ w st' a' w') {b : Nat} (hb : b < w.heap.size) (ho : ¬ ownB ρ st.H b) :
    w'.heap[b]? = w.heap[b]? ∧ b < w'.heap.size ∧ ¬ ownB ρ' st'.H b ∧ (¬ J b → ¬ J' b) := by
  refine ⟨hs'.below.block b hb ho, Nat.lt_of_lt_of_le hb hs'.below.size, fun ⟨id, o, h1, h2, h3⟩ => ?_, fun hj hj' => ?_⟩
  · rcases hs'.own id o b h1 h2 h3 with h | h
    · have h : w.heap.size ≤ b := h; omega
    · exact ho h
  · rcases hs'.old b hj' with h | h | h
    · exact hj h
    · have h : w.heap.size ≤ b := h; omega
    · exact ho h
/-- Some turns of blocks that are none of its. -/
theorem Sim.outside {T : Nat → Prop} {J0 : Nat → Prop} {ρ : Nat → Loc} {J J' : Nat → Prop} {B : Bound} {w0 : World} {st : St} {a : Act} {w w' : World} (h : Sim J0 ρ J B w0 st a w) (hb : BelowM ⟨w.heap.size, T⟩ w w')
    (hTJ : ∀ b, T b → ¬ J b) (hTo : ∀ b, T b → ¬ ownB ρ st.H b) (hTB : ∀ b, T b → B.n ≤ b ∨ B.M b) (hJ : ∀ b, J b → J' b) (hJ' : ∀ b, J' b → J b ∨ (w.heap.size ≤ b ∧ b < w'.heap.size)) : Sim J0 ρ J' B w0 st a w' := by
  have hw : ∀ b, J b → w'.heap[b]? = w.heap[b]? := fun b hb' => hb.block b (h.lt b hb') fun ht => hTJ b ht hb'
  have hs := h.Ble
  refine { old := fun b hb' => ?_, own := h.own, lt := fun b hb' => ?_, slots := fun j => RelD.mono (fun _ => rfl) hJ hw _ _ (h.slots j),
           objs := fun id o ho => ?_, apart := h.apart, size := h.size, defers := h.defers, below := ⟨hb.os.trans h.below.os, hb.tape.trans h.below.tape, hb.output.trans h.below.output, Nat.le_trans h.below.size hb.size, fun k hk hm => ?_⟩, base := h.base, glob := h.glob.mono hJ hw }
  · rcases hJ' b hb' with h1 | h1
    · exact h.old b h1
    · exact .inr (.inl (by omega))
  · rcases hJ' b hb' with h1 | h1
    · have := h.lt b h1; have := hb.size; omega
    · exact h1.2
  · refine (h.objs id o ho).frame rfl rfl rfl rfl hJ hw (fun vs hv => RelDs.mono (fun _ => rfl) hJ hw _ _ hv) fun g hc ha hn hg => ⟨fun hc => ?_, hb.block g hg fun ht => hTo g ht ⟨id, o, ho, hc, ha⟩⟩
    rcases hJ' g hc with hc | hc
    · exact hn hc
    · omega
  · refine (hb.block k (Nat.lt_of_lt_of_le hk hs) fun ht => ?_).trans (h.below.block k hk hm)
    rcases hTB k ht with q | q
    · omega
    · exact hm q
/-- More that does not turn. -/
theorem Sim.more {K : Nat → Prop} {J0 : Nat → Prop} {ρ : Nat → Loc} {J : Nat → Prop} {B : Bound} {w0 : World} {st : St} {a : Act} {w : World} (h : Sim J0 ρ J B w0 st a w) (hK : ∀ b, K b → b < w.heap.size ∧ ¬ ownB ρ st.H b ∧ (J0 b ∨ B.n ≤ b ∨ B.M b)) :
    Sim J0 ρ (fun b => J b ∨ K b) B w0 st a w := by
  refine { old := fun b hb => hb.elim (h.old b) fun q => (hK b q).2.2, own := h.own, lt := fun b hb => hb.elim (h.lt b) fun q => (hK b q).1, slots := fun j => RelD.mono (fun _ => rfl) (fun b hb => .inl hb) (fun _ _ => rfl) _ _ (h.slots j),
           objs := fun id o ho => ?_, apart := h.apart, size := h.size, defers := h.defers, below := h.below, base := h.base, glob := h.glob.mono (fun b hb => .inl hb) fun _ _ => rfl }
  refine (h.objs id o ho).frame rfl rfl rfl rfl (fun b hb => .inl hb) (fun _ _ => rfl) (fun vs hv => RelDs.mono (fun _ => rfl) (fun b hb => .inl hb) (fun _ _ => rfl) _ _ hv) fun g hc ha hn hg => ⟨fun hc' => ?_, rfl⟩
  rcases hc' with q | q
  · exact hn q
  · exact (hK g q).2.1 ⟨id, o, ho, hc, ha⟩
theorem BelowM.putObj {w : World} {l : Nat} (o : Obj) (hl : l < w.heap.size) : BelowM ⟨w.heap.size, fun b => b = l⟩ w (w.putObj l o) :=
  ⟨rfl, rfl, rfl, by rw [World.putObj_size]; exact Nat.le_refl _, fun k _ hk => World.putObj_heap_other hk⟩
end Go.VL

end
section
set_option linter.unusedVariables false
/- Ranges over a function: the statement, by its iterator's contract and one walk of its body. -/
namespace Go.VL
open Go Go.RowKit
/-- What an iterator does: it hands over these, one after another, till it is told to stop; T: the blocks of its own that it writes; JI: what does not turn, and what it hands over lies in. -/
def IterC (P : Program) (g : FuncId) (lb : Array Value) (T J : Nat → Prop) (w : World) (xs : List (List D)) : Prop :=
  ∀ (l : Nat) (Inv : Nat → (Nat → Prop) → World → Prop) (Q : World → Prop) (W : World),
    w.heap.size ≤ W.heap.size → (∀ b, J b ∨ T b → W.heap[b]? = w.heap[b]?) →
    (∀ k JI W, Inv k JI W → (∀ b, JI b → b < W.heap.size ∧ ¬ T b)) →
    (∀ k JI J2 W W', Inv k JI W → BelowM ⟨W.heap.size, T⟩ W W' → (∀ b, JI b → J2 b) → (∀ b, J2 b → JI b ∨ (W.heap.size ≤ b ∧ b < W'.heap.size)) → Inv k J2 W') →
    (∀ k JI W vs x, xs[k]? = some x → Inv k JI W → RelPs JI W x vs → YieldAt Fence.wide 0 P l vs.toArray W fun e W' =>
      (∀ b, JI b ∨ T b → W'.heap[b]? = W.heap[b]?) ∧ W.heap.size ≤ W'.heap.size ∧ ((e = .returned (.bool true) ∧ Inv (k + 1) JI W') ∨ (e = .returned (.bool false) ∧ Q W'))) →
    Inv 0 J W →
    CallsIn Fence.wide 1 P g (#[.func (.yield l) #[] #[]] ++ lb) W fun e W' => (∃ v, e = .returned v) ∧ ((∃ JI, Inv xs.length JI W') ∨ Q W')
def glL (gs : List Nat) (L : Nat → Loc) : List (Nat × D) := gs.map fun id => (100000 + id, .loc id (L id))
theorem glL_cons {g : Nat} {gs : List Nat} {L : Nat → Loc} : glL (g :: gs) L = (100000 + g, .loc g (L g)) :: glL gs L := (rfl)
theorem glL_nil {L : Nat → Loc} : glL [] L = [] := (rfl)
def isAdr (gs : List Nat) : D → Bool
  | .adr id _ _ => gs.contains id
  | d => d.noRef
def putL : List (Nat × D) → St → St
  | [], s => s
  | p :: l, s => putL l (s.put (some p.1) p.2)
theorem putL_nil {s : St} : putL [] s = s := (rfl)
theorem putL_cons {p : Nat × D} {l : List (Nat × D)} {s : St} : putL (p :: l) s = putL l (s.put (some p.1) p.2) := (rfl)
attribute [go_sem] glL_cons glL_nil putL_nil putL_cons List.zip_cons_cons List.zip_nil_left
theorem pick_any : ∀ {l : List (Nat × D)} {s : St} (k : Nat), Slots s l → pickT l k = .any ∨ pickT l k = s.t k
  | [], _, _, _ => .inl rfl
  | p :: l, s, k, h => by
    unfold pickT
    by_cases q : k = p.1
    · rw [if_pos q, q, h.1]; exact .inr rfl
    · rw [if_neg q]; exact pick_any k h.2
theorem pickH_any : ∀ {l : List (Nat × Own)} {s : St} {k : Nat} {o : Own}, Heaps s l → pickH l k = some o → s.H k = some o
  | [], _, _, _, _, h => by cases h
  | p :: l, s, k, o, hs, h => by
    unfold pickH at h
    by_cases q : k = p.1
    · rw [if_pos q] at h; cases h; rw [q]; exact hs.1
    · rw [if_neg q] at h; exact pickH_any hs.2 h
/-- A state is told by what stands in it. -/
theorem Weak.pick {s : St} {l : List (Nat × D)} {lh : List (Nat × Own)} {n : Nat} (hn : s.n = n) (hl : Slots s l) (hh : Heaps s lh) : Weak s ⟨pickT l, pickH lh, n⟩ :=
  Weak.drop hn.symm (fun k => (pick_any k hl).symm.imp id id |>.elim (fun h => .inl h) (fun h => .inr h)) fun m o h => pickH_any hh h
theorem sim_puts {J0 : Nat → Prop} {ρ : Nat → Loc} {J : Nat → Prop} {B : Bound} {w0 w : World} : ∀ (ps : List Tmp) (x : List D) (vs : List Value) (st : St) (a : Act), (∀ p ∈ ps, p < st.n) → RelPs J w x vs → Sim J0 ρ J B w0 st a w →
    Sim J0 ρ J B w0 (putL (ps.zip x) st) { tmps := (ps.zip vs).foldl (fun t (p : Tmp × Value) => t.setIfInBounds p.1 p.2) a.tmps, defers := [] } w
  | [], x, vs, st, a, _, _, hs => by
    have : a = { tmps := a.tmps, defers := [] } := by
      have := hs.defers; cases a; simp_all
    simp only [List.zip_nil_left, List.foldl_nil, putL]
    rw [← this]; exact hs
  | p :: ps, [], vs, st, a, _, hv, hs => by
    have hv : vs = [] := hv
    subst hv
    have : a = { tmps := a.tmps, defers := [] } := by
      have := hs.defers; cases a; simp_all
    simp only [List.zip_nil_right, List.foldl_nil, putL]
    rw [← this]; exact hs
  | p :: ps, d :: x, vs, st, a, hp, hv, hs => by
    obtain ⟨v, us, rfl, h1, h2⟩ := hv
    have hs' := hs.put (some p) (fun d hd => by cases hd; exact hp p (by simp)) h1.toD
    have := sim_puts ps x us (st.put (some p) d) (a.put (some p) v) (fun q hq => hp q (by simp [hq])) h2 hs'
    simpa [putL, Act.put] using this
theorem zip_fold (ps : List Tmp) (vs : List Value) (t : Array Value) : (ps.toArray.zip vs.toArray).foldl (fun tmps (t, a) => tmps.setIfInBounds t a) t = (ps.zip vs).foldl (fun t (p : Tmp × Value) => t.setIfInBounds p.1 p.2) t := by
  simp
/-- A slot: a ghost, or one of the list. -/
theorem slot_gl {gs : List Nat} {L : Nat → Loc} {l : List (Nat × D)} {k : Nat} : (∃ g ∈ gs, k = 100000 + g ∧ pickT (glL gs L ++ l) k = .loc g (L g)) ∨ (pickT (glL gs L ++ l) k = pickT l k ∧ ∀ g ∈ gs, k ≠ 100000 + g) := by
  induction gs with
  | nil => exact .inr ⟨rfl, fun g hg => by cases hg⟩
  | cons g gs ih =>
    rw [glL_cons, List.cons_append, pickT]
    by_cases q : k = 100000 + g
    · rw [if_pos q]; exact .inl ⟨g, by simp, q, rfl⟩
    · rw [if_neg q]
      rcases ih with ⟨g', h1, h2, h3⟩ | ⟨h1, h2⟩
      · exact .inl ⟨g', by simp [h1], h2, h3⟩
      · refine .inr ⟨h1, fun g' hg' => ?_⟩
        rcases List.mem_cons.1 hg' with e | e
        · rw [e]; exact q
        · exact h2 g' e
theorem ghost_at {gs : List Nat} {L : Nat → Loc} {l : List (Nat × D)} {s : St} (h : Slots s (glL gs L ++ l)) : ∀ g ∈ gs, s.t (100000 + g) = .loc g (L g) := by
  induction gs with
  | nil => intro g hg; cases hg
  | cons g gs ih =>
    have h' : s.t (100000 + g) = .loc g (L g) ∧ Slots s (glL gs L ++ l) := h
    intro g' hg'
    rcases List.mem_cons.1 hg' with e | e
    · rw [e]; exact h'.1
    · exact ih h'.2 g' e
theorem pickT_mem {l : List (Nat × D)} {k : Nat} : pickT l k = .any ∨ ∃ p ∈ l, p.1 = k ∧ pickT l k = p.2 := by
  induction l with
  | nil => exact .inl rfl
  | cons p l ih =>
    unfold pickT
    by_cases q : k = p.1
    · rw [if_pos q]; exact .inr ⟨p, by simp, q.symm, rfl⟩
    · rw [if_neg q]
      rcases ih with h | ⟨p', h1, h2, h3⟩
      · exact .inl h
      · exact .inr ⟨p', by simp [h1], h2, h3⟩
/-- A value of the list, elsewhere. -/
theorem slot_moved {gs : List Nat} {l : List (Nat × D)} (hla : l.all (fun p => isAdr gs p.2) = true) {ρ ρ' : Nat → Loc} {J J' : Nat → Prop} {w w' : World} (hρ : ∀ g ∈ gs, ρ' g = ρ g) (hJ : ∀ b, J b → J' b) (hw : ∀ b, J b → w'.heap[b]? = w.heap[b]?) {k : Nat} {y : Value} (h : RelD ρ J w (pickT l k) y) : RelD ρ' J' w' (pickT l k) y := by
  rcases pickT_mem (l := l) (k := k) with q | ⟨p, h1, h2, h3⟩
  · rw [q]; trivial
  · rw [h3] at h ⊢
    have hp := List.all_eq_true.1 hla p h1
    cases hd : p.2 with
    | adr id i o =>
      rw [hd] at h hp
      have hm : id ∈ gs := by simpa [isAdr] using hp
      have h : ∃ g, (ρ id).a = some ⟨g, 0, none⟩ ∧ y = .pointer (some ⟨g, i * (ρ id).S + o, none⟩) := h
      show ∃ g, (ρ' id).a = some ⟨g, 0, none⟩ ∧ y = .pointer (some ⟨g, i * (ρ' id).S + o, none⟩)
      rw [hρ id hm]; exact h
    | _ =>
      rw [hd] at h hp
      first
        | exact (RelP.mono hJ hw _ _ (h.toP hp)).toD
        | cases hp
end Go.VL

end
section
set_option linter.unusedVariables false
/- Ranges over a function: the statement. -/
namespace Go.VL
open Go Go.RowKit
abbrev recL (a : Act) (fn : FuncId) (ps : List Tmp) (assign body : Code) (dd : Nat) (s : LoopState) (p : Option Code) : Loop := { state := s, pending := p, fn, tmps := a.tmps, params := ps.toArray, assign, body, defers := dd }
/-- A state between two rounds: the record, what is put off, and what the caller owns. -/
structure Mid (J0 : Nat → Prop) (B : Bound) (w0 : World) (a : Act) (gs : List Nat) (l : List (Nat × D)) (n : Nat) (L : Nat → Loc) (Z : Nat → Prop) (lp dd : Nat) (r : Loop) (h : List (Nat × Own)) (JI : Nat → Prop) (W : World) : Prop where
  ji : ∀ b, JI b → b < W.heap.size ∧ ¬ Z b
  zs : ∀ b, Z b → b < W.heap.size
  rcd : W.heap[lp]? = some (.loop r)
  off : W.heap[dd]? = some (.deferred (some []))
  sim : ∃ ρk Jk, Sim J0 ρk Jk B w0 ⟨pickT (glL gs L ++ l), pickH h, n⟩ a W ∧ (∀ b, Z b → ¬ Jk b ∧ ¬ ownB ρk (pickH h) b) ∧ (∀ b, JI b → ¬ ownB ρk (pickH h) b ∧ (J0 b ∨ B.n ≤ b ∨ B.M b))
theorem Mid.stay {J0 : Nat → Prop} {B : Bound} {w0 : World} {a : Act} {gs : List Nat} {l : List (Nat × D)} {n : Nat} {L : Nat → Loc} {Z T : Nat → Prop} {lp dd : Nat} {r : Loop} {h : List (Nat × Own)} {JI J2 : Nat → Prop} {W W' : World}
    (hm : Mid J0 B w0 a gs l n L Z lp dd r h JI W) (hTZ : ∀ b, T b → Z b) (hTl : ¬ T lp) (hTD : ¬ T dd) (hTB : ∀ b, T b → B.n ≤ b ∨ B.M b) (hb : BelowM ⟨W.heap.size, T⟩ W W') (h1 : ∀ b, JI b → J2 b) (h2 : ∀ b, J2 b → JI b ∨ (W.heap.size ≤ b ∧ b < W'.heap.size)) :
    Mid J0 B w0 a gs l n L Z lp dd r h J2 W' := by
  obtain ⟨ρk, Jk, hs, hz, hj⟩ := hm.sim
  have hlp := (Array.getElem?_eq_some_iff.1 hm.rcd).1
  have hD := (Array.getElem?_eq_some_iff.1 hm.off).1
  refine { ji := fun b q => ?_, zs := fun b q => Nat.lt_of_lt_of_le (hm.zs b q) hb.size, rcd := (hb.block lp hlp hTl).trans hm.rcd, off := (hb.block dd hD hTD).trans hm.off,
           sim := ⟨ρk, Jk, hs.outside hb (fun b q => (hz b (hTZ b q)).1) (fun b q => (hz b (hTZ b q)).2) hTB (fun _ q => q) (fun _ q => .inl q), hz, fun b q => ?_⟩ }
  · rcases h2 b q with q | q
    · exact ⟨Nat.lt_of_lt_of_le (hm.ji b q).1 hb.size, (hm.ji b q).2⟩
    · exact ⟨q.2, fun z => by have := hm.zs b z; omega⟩
  · rcases h2 b q with q | q
    · exact hj b q
    · refine ⟨fun ho => ?_, .inr (.inl (Nat.le_trans hs.Ble q.1))⟩
      have := (hs.ownB_J ho).2
      omega
/-- One round. -/
theorem Mid.round {P : Program} {J0 : Nat → Prop} {B : Bound} {w0 : World} {a : Act} {gs : List Nat} {l : List (Nat × D)} {n : Nat} {L : Nat → Loc} {Z : Nat → Prop} {lp dd : Nat} {fn : FuncId} {ps : List Tmp} {assign body : Code} {h : List (Nat × Own)} {JI : Nat → Prop} {W : World} {x : List D} {vs : List Value}
    (hm : Mid J0 B w0 a gs l n L Z lp dd (recL a fn ps assign body dd .ready none) h JI W) (hZl : Z lp) (hZD : Z dd) (hlD : lp ≠ dd) (hZB : ∀ b, Z b → B.n ≤ b ∨ B.M b) (hla : l.all (fun p => isAdr gs p.2) = true)
    (hps : ∀ p ∈ ps, p < n) (hx : x.length = ps.length) (hv : RelPs JI W x vs) (hca : simpleC assign = true) (hcb : simpleC body = true) {N R : List (Nat × Own) → Prop}
    (hw : awp P assign (fun s1 => awp P body (fun s => ∃ h', N h' ∧ s.n = n ∧ Slots s (glL gs L ++ l) ∧ Heaps s h') (fun _ _ => False) (fun s => ∃ h', R h' ∧ s.n = n ∧ Slots s (glL gs L ++ l) ∧ Heaps s h') s1) (fun _ _ => False) (fun _ => False) (putL (ps.zip x) ⟨pickT (glL gs L ++ l), pickH h, n⟩)) :
    YieldAt Fence.wide 0 P lp vs.toArray W fun e W' => (∀ b, b < W.heap.size → (JI b ∨ Z b) → b ≠ lp → W'.heap[b]? = W.heap[b]?) ∧ W.heap.size ≤ W'.heap.size ∧
      ((e = .returned (.bool true) ∧ ∃ h', N h' ∧ Mid J0 B w0 a gs l n L Z lp dd (recL a fn ps assign body dd .ready none) h' JI W') ∨
       (e = .returned (.bool false) ∧ ∃ h', R h' ∧ Mid J0 B w0 a gs l n L Z lp dd (recL a fn ps assign body dd .done (some .ret)) h' JI W')) := by
  obtain ⟨ρk, Jk, hs, hz, hj⟩ := hm.sim
  have hvl : vs.length = ps.length := by have := (RelPs_get _ _ hv).1; omega
  refine ⟨fn, _, assign, body, run_yield hm.rcd (by simpa using hvl), ?_⟩
  have hs2 := hs.more (K := JI) fun b q => ⟨(hm.ji b q).1, hj b q⟩
  have hput := sim_puts ps x vs _ a hps (RelPs.mono (fun b q => .inr q) (fun _ _ => rfl) x vs hv) hs2.rebase
  have hlt : lp < W.heap.size := hm.zs lp hZl
  have hzJ : ∀ b, Z b → ¬ (Jk b ∨ JI b) := fun b q z => z.elim (hz b q).1 fun y => (hm.ji b y).2 q
  refine roundIn_of_wpIn trivial ?_
  have e0 : ((recL a fn ps assign body dd .ready none).params.zip vs.toArray).foldl (fun tmps (t, a) => tmps.setIfInBounds t a) (recL a fn ps assign body dd .ready none).tmps = (ps.zip vs).foldl (fun t (p : Tmp × Value) => t.setIfInBounds p.1 p.2) a.tmps := zip_fold ps vs a.tmps
  rw [e0]
  refine wpIn_mono (awp_in (Open.round lp) (ds := []) assign _ _ _ _ _ _ _ _ hca hw rfl hput) ?_
  rintro e a1 W1 ⟨hd1, he⟩
  cases e with
  | normal =>
    obtain ⟨s1, ρ1, J1, hw1, hsim1⟩ := he
    have lf1 := fun b h1 h2 => hs2.left hsim1 (b := b) h1 h2
    have u1 := hs2.unbase hsim1
    have hrec1 : W1.heap[lp]? = some (.loop (recL a fn ps assign body dd .ready none)) := (lf1 lp hlt (hz lp hZl).2).1.trans hm.rcd
    have hlt1 : lp < W1.heap.size := (Array.getElem?_eq_some_iff.1 hrec1).1
    refine ⟨_, run_beginRound hrec1 rfl, ?_⟩
    obtain ⟨W2, hW2⟩ : ∃ W2, W1.putObj lp (.loop { recL a fn ps assign body dd .ready none with state := .busy }) = W2 := ⟨_, rfl⟩
    rw [hW2]
    have hb2 : BelowM ⟨W1.heap.size, fun b => b = lp⟩ W1 W2 := by rw [← hW2]; exact BelowM.putObj _ hlt1
    have hrec2 : W2.heap[lp]? = some (.loop { recL a fn ps assign body dd .ready none with state := .busy }) := by rw [← hW2]; exact World.putObj_heap_same hlt1
    have hsz2 : W2.heap.size = W1.heap.size := by rw [← hW2]; exact World.putObj_size
    have u2 := u1.outside hb2 (fun b q => by subst q; exact (lf1 _ hlt (hz _ hZl).2).2.2.2 (hzJ _ hZl)) (fun b q => by subst q; exact (lf1 _ hlt (hz _ hZl).2).2.2.1) (fun b q => by subst q; exact hZB _ hZl) (fun _ q => q) (fun _ q => .inl q)
    have kept : ∀ (s3 : St) (ρ3 : Nat → Loc) (J3 : Nat → Prop) (B3 : Bound) (a3 : Act) (W3 : World), Sim J1 ρ3 J3 ⟨W2.heap.size, ownB ρ1 s1.H⟩ W2 s3 a3 W3 → ∀ (s : LoopState) (pd : Option Code) (h' : List (Nat × Own)), s3.n = n → Slots s3 (glL gs L ++ l) → Heaps s3 h' →
        (∀ b, b < W.heap.size → (JI b ∨ Z b) → b ≠ lp → (W3.putObj lp (.loop (recL a fn ps assign body dd s pd))).heap[b]? = W.heap[b]?) ∧ W.heap.size ≤ (W3.putObj lp (.loop (recL a fn ps assign body dd s pd))).heap.size ∧
        Mid J0 B w0 a gs l n L Z lp dd (recL a fn ps assign body dd s pd) h' JI (W3.putObj lp (.loop (recL a fn ps assign body dd s pd))) ∧ W3.heap[lp]? = some (.loop { recL a fn ps assign body dd .ready none with state := .busy }) := by
      intro s3 ρ3 J3 B3 a3 W3 hsim3 s pd h' hn3 hsl3 hhp3
      have lf2 := fun b h1 h2 => u2.left hsim3 (b := b) h1 h2
      have u3 := u2.unbase hsim3
      have both : ∀ b, b < W.heap.size → ¬ ownB ρk (pickH h) b → (b ≠ lp → W3.heap[b]? = W.heap[b]?) ∧ b < W3.heap.size ∧ ¬ ownB ρ3 s3.H b ∧ (¬ (Jk b ∨ JI b) → ¬ J3 b) := fun b h1 h2 => by
        obtain ⟨p1, p2, p3, p4⟩ := lf1 b h1 h2
        obtain ⟨q1, q2, q3, q4⟩ := lf2 b (by rw [hsz2]; exact p2) p3
        exact ⟨fun hne => q1.trans ((hb2.block b p2 hne).trans p1), q2, q3, fun z => q4 (p4 z)⟩
      have hrec3 := (lf2 lp (by rw [hsz2]; exact hlt1) (lf1 lp hlt (hz lp hZl).2).2.2.1).1.trans hrec2
      have hlt3 : lp < W3.heap.size := (Array.getElem?_eq_some_iff.1 hrec3).1
      obtain ⟨W4, hW4⟩ : ∃ W4, W3.putObj lp (.loop (recL a fn ps assign body dd s pd)) = W4 := ⟨_, rfl⟩
      rw [hW4]
      have hb4 : BelowM ⟨W3.heap.size, fun b => b = lp⟩ W3 W4 := by rw [← hW4]; exact BelowM.putObj _ hlt3
      have hrec4 : W4.heap[lp]? = some (.loop (recL a fn ps assign body dd s pd)) := by rw [← hW4]; exact World.putObj_heap_same hlt3
      have hsz4 : W4.heap.size = W3.heap.size := by rw [← hW4]; exact World.putObj_size
      have hkeep : ∀ b, b < W.heap.size → ¬ ownB ρk (pickH h) b → b ≠ lp → W4.heap[b]? = W.heap[b]? := fun b h1 h2 hne => (hb4.block b (both b h1 h2).2.1 hne).trans ((both b h1 h2).1 hne)
      have hJown : ∀ b, Jk b ∨ JI b → b < W.heap.size ∧ ¬ ownB ρk (pickH h) b := fun b q => ⟨hs2.lt b q, fun ho => (hs2.ownB_J ho).1 q⟩
      have u4 := u3.outside hb4 (fun b q => by subst q; exact (both _ hlt (hz _ hZl).2).2.2.2 (hzJ _ hZl)) (fun b q => by subst q; exact (both _ hlt (hz _ hZl).2).2.2.1) (fun b q => by subst q; exact hZB _ hZl) (fun _ q => q) (fun _ q => .inl q)
      have u5 := u4.more (K := fun b => Jk b ∨ JI b) fun b q => ⟨by rw [hsz4]; exact (both b (hJown b q).1 (hJown b q).2).2.1, (both b (hJown b q).1 (hJown b q).2).2.2.1, hs2.old b q⟩
      have hg3 : ∀ g ∈ gs, ρ3 g = L g := fun g hg => by
        have := u3.slots (100000 + g)
        rw [ghost_at hsl3 g hg] at this
        exact this
      have hgk : ∀ g ∈ gs, ρk g = L g := fun g hg => by
        have := hs.slots (100000 + g)
        rcases slot_gl (gs := gs) (L := L) (l := l) (k := 100000 + g) with ⟨g', h1, h2, h3⟩ | ⟨h1, h2⟩
        · rw [show (⟨pickT (glL gs L ++ l), pickH h, n⟩ : St).t (100000 + g) = .loc g' (L g') from h3] at this
          obtain rfl : g = g' := by omega
          exact this
        · exact absurd rfl (h2 g hg)
      refine ⟨fun b h1 h2 hne => ?_, ?_, ?_, hrec3⟩
      · rcases h2 with q | q
        · exact hkeep b h1 (hj b q).1 hne
        · exact hkeep b h1 (hz b q).2 hne
      · rw [hsz4]; exact Nat.le_trans hs2.rebase.below.size (Nat.le_trans hsim1.below.size (by rw [← hsz2]; exact hsim3.below.size))
      · refine { ji := fun b q => ⟨by rw [hsz4]; exact (both b (hm.ji b q).1 (hj b q).1).2.1, (hm.ji b q).2⟩, zs := fun b q => by rw [hsz4]; exact (both b (hm.zs b q) (hz b q).2).2.1, rcd := hrec4,
                 off := (hkeep dd (hm.zs dd hZD) (hz dd hZD).2 (Ne.symm hlD)).trans hm.off,
                 sim := ⟨ρ3, _, { old := u5.old, own := fun id o g ho => u5.own id o g (pickH_any hhp3 ho), lt := u5.lt, slots := fun k => ?_, objs := fun id o ho => u5.objs id o (pickH_any hhp3 ho), apart := fun i j oi oj hi hj => u5.apart i j oi oj (pickH_any hhp3 hi) (pickH_any hhp3 hj), size := hs.size, defers := hs.defers, below := u5.below, base := u5.base, glob := u5.glob }, fun b q => ⟨fun z => ?_, fun ⟨id, o, ho, hc⟩ => (both b (hm.zs b q) (hz b q).2).2.2.1 ⟨id, o, pickH_any hhp3 ho, hc⟩⟩, fun b q => ⟨fun ⟨id, o, ho, hc⟩ => (both b (hm.ji b q).1 (hj b q).1).2.2.1 ⟨id, o, pickH_any hhp3 ho, hc⟩, (hj b q).2⟩⟩ }
        · show RelD ρ3 _ W4 (pickT (glL gs L ++ l) k) _
          have hk := hs.slots k
          have hk : RelD ρk Jk W (pickT (glL gs L ++ l) k) _ := hk
          rcases slot_gl (gs := gs) (L := L) (l := l) (k := k) with ⟨g, h1, h2, h3⟩ | ⟨h1, h2⟩
          · rw [h3]; exact hg3 g h1
          · rw [h1] at hk ⊢
            refine slot_moved hla (fun g hg => (hg3 g hg).trans (hgk g hg).symm) (fun b q => .inr (.inl q)) (fun b q => hkeep b (hJown b (.inl q)).1 (hJown b (.inl q)).2 fun e => ?_) hk
            rw [e] at q; exact (hz lp hZl).1 q
        · rcases z with z | z
          · exact (both b (hm.zs b q) (hz b q).2).2.2.2 (hzJ b q) z
          · exact hzJ b q z
    refine wpIn_mono (awp_in (Open.round lp) (ds := []) body _ _ _ _ _ _ _ _ hcb hw1 hd1 u2.rebase) ?_
    rintro e a3 W3 ⟨hd3, he⟩
    cases e with
    | normal =>
      obtain ⟨s3, ρ3, J3, ⟨h', hN, hn3, hsl3, hhp3⟩, hsim3⟩ := he
      obtain ⟨k1, k2, k3, k4⟩ := kept s3 ρ3 J3 B _ W3 hsim3 .ready none h' hn3 hsl3 hhp3
      exact ⟨_, _, run_endRound none k4, k1, k2, .inl ⟨rfl, h', hN, k3⟩⟩
    | ret =>
      obtain ⟨s3, ρ3, J3, ⟨h', hR, hn3, hsl3, hhp3⟩, hsim3⟩ := he
      obtain ⟨k1, k2, k3, k4⟩ := kept s3 ρ3 J3 B _ W3 hsim3 .done (some .ret) h' hn3 hsl3 hhp3
      exact ⟨_, _, run_endRound (some .ret) k4, k1, k2, .inr ⟨rfl, h', hR, k3⟩⟩
    | exit id => obtain ⟨_, _, _, hf, _⟩ := he; exact hf.elim
    | goto t => exact he.elim
    | panic c => exact he.elim
    | outgrown => exact he.elim
  | exit id => obtain ⟨_, _, _, hf, _⟩ := he; exact hf.elim
  | ret => obtain ⟨_, _, _, hf, _⟩ := he; exact hf.elim
  | goto t => exact he.elim
  | panic c => exact he.elim
  | outgrown => exact he.elim
end Go.VL

end
section
set_option linter.unusedVariables false
/- Ranges over a function: functions that hold one. -/
namespace Go.VL
open Go Go.RowKit
def markD (dd : Nat) : Deferred := { target := .collected dd, args := #[] }
/-- How a function that holds a range over a function is left. -/
def FinG (R : St → Prop) (J0 : Nat → Prop) (B : Bound) (w0 : World) (a : Act) (w : World) : Prop :=
  SimE J0 B w0 R a w ∨ ∃ dd st ρ J, a.defers = [markD dd] ∧ w.heap[dd]? = some (.deferred (some [])) ∧ ¬ J dd ∧ B.n ≤ dd ∧ ¬ ownB ρ st.H dd ∧ R st ∧ Sim J0 ρ J B w0 st a.bare w
def endsF (R : St → Prop) (J0 : Nat → Prop) (B : Bound) (w0 : World) : Exit → Act → World → Prop
  | .normal, a, w => FinG R J0 B w0 a w
  | .ret, a, w => FinG R J0 B w0 a w
  | _, _, _ => False
def awpM (P : Program) (c : Code) (R : St → Prop) (st : St) : Prop :=
  ∀ (J0 : Nat → Prop) (ρ : Nat → Loc) (J : Nat → Prop) (B : Bound) (w0 : World) (a : Act) (w : World), Sim J0 ρ J B w0 st a w → c.wpIn Fence.wide 1 P (endsF R J0 B w0) a w
theorem awpM_then {P : Program} {x y : Code} {R : St → Prop} {st : St} (h : @awpI P x st ⟨fun s => awpM P y R s⟩ ⟨fun _ _ => False⟩ ⟨R⟩) : awpM P (x.seq y) R st := by
  intro J0 ρ J B w0 a w hs
  refine wpIn_seq (wpIn_wide.2 (wp_mono (awp_sound x _ _ _ st ρ J a w h hs) ?_))
  rintro e a' w' he
  cases e with
  | normal => obtain ⟨s, ρ', J', h1, h2⟩ := he; exact h1 J0 ρ' J' B w0 a' w' h2
  | ret => exact .inl he
  | exit id => obtain ⟨_, _, _, hf, _⟩ := he; exact hf.elim
  | goto l => exact he.elim
  | panic c => exact he.elim
  | outgrown => exact he.elim
/-- The statement, and what follows. -/
def RangeOK (P : Program) (it : Operand) (ps : Array Tmp) (assign body post : Code) (R : St → Prop) (s : St) : Prop :=
  ∀ (J0 : Nat → Prop) (ρ : Nat → Loc) (J : Nat → Prop) (B : Bound) (w0 : World) (a : Act) (w : World), Sim J0 ρ J B w0 s a w →
    (Code.rangeFunc it ps assign body).wpIn Fence.wide 1 P (fun e a w => match e with | .normal => post.wpIn Fence.wide 1 P (endsF R J0 B w0) a w | .ret => FinG R J0 B w0 a w | _ => False) a w
theorem awpM_range {P : Program} {x : Code} {id : Nat} {it : Operand} {ps : Array Tmp} {assign body post : Code} {R : St → Prop} {st : St} (N : St → Prop) (h : @awpI P x st ⟨N⟩ ⟨fun _ _ => False⟩ ⟨R⟩) (hr : ∀ s, N s → RangeOK P it ps assign body post R s) :
    awpM P ((x.seq (.block id (.rangeFunc it ps assign body))).seq post) R st := by
  intro J0 ρ J B w0 a w hs
  refine wpIn_seq (wpIn_seq (wpIn_wide.2 (wp_mono (awp_sound x _ _ _ st ρ J a w h hs) ?_)))
  rintro e a' w' he
  cases e with
  | normal =>
    obtain ⟨s, ρ', J', h1, h2⟩ := he
    refine wpIn_block (wpIn_mono (hr s h1 J0 ρ' J' B w0 a' w' h2) ?_)
    rintro e a2 w2 he
    cases e with
    | normal => exact he
    | ret => exact he
    | exit id => exact he.elim
    | goto l => exact he.elim
    | panic c => exact he.elim
    | outgrown => exact he.elim
  | ret => exact .inl he
  | exit id => obtain ⟨_, _, _, hf, _⟩ := he; exact hf.elim
  | goto l => exact he.elim
  | panic c => exact he.elim
  | outgrown => exact he.elim
/-- The statement, by its iterator's contract and one walk of its body. -/
theorem RangeOK.of {P : Program} {it : Operand} {ps : List Tmp} {assign body post : Code} {R : St → Prop} {st : St} {g : FuncId} {caps : List D} (hit : st.ev it = .clos (.func g) caps) (hcal : callable P g = true) (T' : List Nat) (hT : ∀ id ∈ T', ∃ o, st.H id = some o)
    {n : Nat} (l : List (Nat × D)) (gs : List Nat) (lh : Nat → List (Nat × Own)) (ok : Nat → Prop) (RB : List (Nat × Own) → Prop) (xs : List (List D)) (hok : ok 0) (hn : st.n = n) (hl : Slots st l) (hla : l.all (fun p => isAdr gs p.2) = true) (hl5 : l.all (fun p => decide (p.1 < 100000)) = true)
    (hh : Heaps st (lh 0)) (hdis : (lh 0).all (fun p => !T'.contains p.1) = true)
    (hIt : ∀ (ρ : Nat → Loc) (J : Nat → Prop) (w : World) (cs : List Value), (∀ b, J b → b < w.heap.size) → GlobAt J w → RelDs ρ J w caps cs → (∀ id ∈ T', ∀ o, st.H id = some o → ObjAt ρ J w id o) → IterC P g cs.toArray (fun b => ∃ id ∈ T', 0 < (ρ id).cap ∧ (ρ id).a = some ⟨b, 0, none⟩) J w xs)
    (hps : ∀ p ∈ ps, p < n) (hx : ∀ x ∈ xs, x.length = ps.length) (hca : simpleC assign = true) (hcb : simpleC body = true) (hcp : simpleC post = true)
    (hround : ∀ (L : Nat → Loc) k x, xs[k]? = some x → @awpI P assign (putL (ps.zip x) ⟨pickT (glL gs L ++ l), pickH (lh k), n⟩) ⟨fun s1 => @awpI P body s1 ⟨fun s => ∃ h', (h' = lh (k + 1) ∧ ok (k + 1)) ∧ s.n = n ∧ Slots s (glL gs L ++ l) ∧ Heaps s h'⟩ ⟨fun _ _ => False⟩ ⟨fun s => ∃ h', RB h' ∧ s.n = n ∧ Slots s (glL gs L ++ l) ∧ Heaps s h'⟩⟩ ⟨fun _ _ => False⟩ ⟨fun _ => False⟩)
    (hpost : ok xs.length → @awpI P post ⟨pickT l, pickH (lh xs.length), n⟩ ⟨R⟩ ⟨fun _ _ => False⟩ ⟨R⟩) (hret : ∀ h', RB h' → R ⟨pickT l, pickH h', n⟩) : RangeOK P it ps.toArray assign body post R st := by
  intro J0 ρ J B w0 a w hs
  have hv := hs.ev it
  rw [hit] at hv
  obtain ⟨cs, hev, hcs⟩ := hv
  have had : a.defers = [] := hs.defers
  have hbare : a.bare = a := by cases a; cases had; rfl
  refine wpIn_rangeFunc ?_
  intro fn _
  obtain ⟨W1, hW1⟩ : ∃ W1, (w.alloc (.deferred (some []))).alloc (.loop (recL a fn ps assign body w.heap.size .ready none)) = W1 := ⟨_, rfl⟩
  have hbel : Below w.heap.size w W1 := by rw [← hW1]; exact ((Below.refl _ w).alloc (Nat.le_refl _) _).alloc (by simp) _
  have hsz : W1.heap.size = w.heap.size + 2 := by rw [← hW1]; simp
  have hrec : W1.heap[w.heap.size + 1]? = some (.loop (recL a fn ps assign body w.heap.size .ready none)) := by
    rw [← hW1]; have := World.alloc_heap_new (w.alloc (.deferred (some []))) (.loop (recL a fn ps assign body w.heap.size .ready none)); rwa [World.size_alloc] at this
  have hoff : W1.heap[w.heap.size]? = some (.deferred (some [])) := by
    rw [← hW1]; exact (Below.heap_alloc _ _ _ (by simp)).trans (World.alloc_heap_new w _)
  let Tb : Nat → Prop := fun b => ∃ id ∈ T', 0 < (ρ id).cap ∧ (ρ id).a = some ⟨b, 0, none⟩
  let Z : Nat → Prop := fun b => Tb b ∨ b = w.heap.size ∨ b = w.heap.size + 1
  have hTo : ∀ b, Tb b → ownB ρ st.H b := fun b ⟨id, hid, hc, ha⟩ => by
    obtain ⟨o, ho⟩ := hT id hid
    exact ⟨id, o, ho, hc, ha⟩
  have hTlt : ∀ b, Tb b → b < w.heap.size := fun b q => (hs.ownB_J (hTo b q)).2
  have hTB : ∀ b, Tb b → B.n ≤ b ∨ B.M b := fun b q => by
    obtain ⟨id, o, ho, hc, ha⟩ := hTo b q
    exact hs.own id o b ho hc ha
  have hZB : ∀ b, Z b → B.n ≤ b ∨ B.M b := fun b q => by
    rcases q with q | q | q
    · exact hTB b q
    · exact .inl (by rw [q]; exact hs.Ble)
    · exact .inl (by rw [q]; exact Nat.le_succ_of_le hs.Ble)
  have hsub : ∀ b, ownB ρ (pickH (lh 0)) b → ownB ρ st.H b := fun b ⟨id, o, ho, hc⟩ => ⟨id, o, pickH_any hh ho, hc⟩
  have hzo : ∀ b, Z b → ¬ J b ∧ ¬ ownB ρ (pickH (lh 0)) b := fun b q => by
    rcases q with q | q
    · refine ⟨(hs.ownB_J (hTo b q)).1, fun ⟨id', o', ho', hc', ha'⟩ => ?_⟩
      obtain ⟨id, hid, hc, ha⟩ := q
      obtain ⟨o, ho⟩ := hT id hid
      have hne : id ≠ id' := by
        rintro rfl
        have : ∀ (m : List (Nat × Own)), m.all (fun p => !T'.contains p.1) = true → pickH m id = some o' → False := fun m => by
          induction m with
          | nil => intro _ h; cases h
          | cons p m ih =>
            intro h1 h2
            rw [List.all_cons, Bool.and_eq_true] at h1
            unfold pickH at h2
            by_cases e : id = p.1
            · have := h1.1; rw [← e] at this; simp [hid] at this
            · rw [if_neg e] at h2; exact ih h1.2 h2
        exact this _ hdis ho'
      exact hs.apart id id' o o' ho (pickH_any hh ho') hne hc hc' (ha.trans ha'.symm)
    · have hge : w.heap.size ≤ b := by omega
      exact ⟨fun h => by have := hs.lt b h; omega, fun h => by have := (hs.ownB_J (hsub b h)).2; omega⟩
  have hsl : ∀ k, RelD ρ J w (pickT (glL gs ρ ++ l) k) (a.tmps.getD k undef) := fun k => by
    rcases slot_gl (gs := gs) (L := ρ) (l := l) (k := k) with ⟨g', h1, h2, h3⟩ | ⟨h1, h2⟩
    · rw [h3]; rfl
    · rw [h1]
      rcases pick_any k hl with q | q
      · rw [q]; trivial
      · rw [q]; exact hs.slots k
  have hs0 : Sim J0 ρ J B w0 ⟨pickT (glL gs ρ ++ l), pickH (lh 0), n⟩ a w :=
    { old := hs.old, own := fun id o b ho => hs.own id o b (pickH_any hh ho), lt := hs.lt, slots := hsl, objs := fun id o ho => hs.objs id o (pickH_any hh ho), apart := fun i j oi oj hi hj => hs.apart i j oi oj (pickH_any hh hi) (pickH_any hh hj), size := by rw [hs.size, hn], defers := hs.defers, below := hs.below, base := hs.base, glob := hs.glob }
  have hs1 := hs0.grow hbel (fun _ q => q) fun b q => .inl q
  have hm0 : Mid J0 B w0 a gs l n ρ Z (w.heap.size + 1) w.heap.size (recL a fn ps assign body w.heap.size .ready none) (lh 0) J W1 :=
    { ji := fun b q => ⟨by have := hs.lt b q; omega, fun z => (hzo b z).1 q⟩, zs := fun b q => by
        rcases q with q | q
        · have := hTlt b q; omega
        · omega
      rcd := hrec, off := hoff, sim := ⟨ρ, J, hs1, hzo, fun b q => ⟨fun h => (hs.ownB_J (hsub b h)).1 q, hs.old b q⟩⟩ }
  have hIC := hIt ρ J w cs hs.lt hs.glob hcs (fun id _ o ho => hs.objs id o ho)
  have hcallee : ∀ args w', (callFunc g args).run P w' = .ok (.enter g args) w' := by
    intro args w'
    unfold callable at hcal
    split at hcal
    · rename_i fn' hfn
      simp only [Bool.and_eq_true, bne_iff_ne, ne_eq] at hcal
      obtain ⟨hn', hb'⟩ := hcal
      have hb2 : fn'.body.isNone = false := by cases hb3 : fn'.body <;> simp [hb3] at hb' ⊢
      simp only [callFunc, Sem.run_bind, run_program, Result.andThen_ok, hfn]
      simp [hn', hb2]
    · cases hcal
  refine ⟨w.heap.size + 1, [markD w.heap.size], W1, { target := .fn (.func g) cs.toArray, args := #[.func (.yield (w.heap.size + 1)) #[] #[]] }, W1, g, #[.func (.yield (w.heap.size + 1)) #[] #[]] ++ cs.toArray, W1, ?_, ?_, ?_, ?_, fun _ => Nat.le_refl _, ?_⟩
  · rw [← hW1]; exact run_enterLoop_outer _ _ _ _ _
  · simp [resolve, hev, Deferred.ofValue]
    rfl
  · intro f' _; trivial
  · simp [invoke, hcallee]
  · refine callsIn_wide.2 (callsIn_wide.1 ((hIC (w.heap.size + 1) (fun k JI W => Mid J0 B w0 a gs l n ρ Z (w.heap.size + 1) w.heap.size (recL a fn ps assign body w.heap.size .ready none) (lh k) JI W ∧ ok k)
      (fun W => ∃ h' JI, RB h' ∧ Mid J0 B w0 a gs l n ρ Z (w.heap.size + 1) w.heap.size (recL a fn ps assign body w.heap.size .done (some .ret)) h' JI W) W1 hbel.size
      (fun b q => hbel.block b (q.elim (hs.lt b) (hTlt b))) (fun k JI W hm b q => ⟨(hm.1.ji b q).1, fun z => (hm.1.ji b q).2 (.inl z)⟩)
      (fun k JI J2 W W' hm hb h1 h2 => ⟨hm.1.stay (fun b q => .inl q) (fun q => by have := hTlt _ q; omega) (fun q => by have := hTlt _ q; omega) hTB hb h1 h2, hm.2⟩)
      (fun k JI W vs x hk hm hv => ?_) ⟨hm0, hok⟩).mono ?_))
    · obtain ⟨hm, hok1⟩ := hm
      have hw := hround ρ k x hk
      obtain ⟨fn', tm', as', bd', hy, hRd⟩ := (Mid.round hm (.inr (.inr rfl)) (.inr (.inl rfl)) (by omega) hZB hla hps (hx x (List.mem_of_getElem? hk)) hv hca hcb (N := fun h' => h' = lh (k + 1) ∧ ok (k + 1)) (R := RB) hw)
      refine ⟨fn', tm', as', bd', hy, hRd.mono ?_⟩
      rintro e W' ⟨q1, q2, q3⟩
      refine ⟨fun b hb => ?_, q2, ?_⟩
      · rcases hb with hb | hb
        · refine q1 b (hm.ji b hb).1 (.inl hb) fun e => (hm.ji b hb).2 (.inr (.inr e))
        · exact q1 b (hm.zs b (.inl hb)) (.inr (.inl hb)) (by have := hTlt b hb; omega)
      · rcases q3 with ⟨e1, h', e2, hm'⟩ | ⟨e1, h', e2, hm'⟩
        · obtain ⟨e2, e3⟩ := e2; subst e2; exact .inl ⟨e1, hm', e3⟩
        · exact .inr ⟨e1, h', JI, e2, hm'⟩
    · -- the function that was ranged over has returned
      have fin : ∀ (s : LoopState) (pd : Option Code) (h' : List (Nat × Own)) (JI : Nat → Prop) (W : World), s ≠ .busy → Mid J0 B w0 a gs l n ρ Z (w.heap.size + 1) w.heap.size (recL a fn ps assign body w.heap.size s pd) h' JI W →
          ∃ w4, (Instr.endLoop (w.heap.size + 1)).run P W = .ok pd w4 ∧ w4.heap[w.heap.size]? = some (.deferred (some [])) ∧ ∃ ρ' J', Sim J0 ρ' J' B w0 ⟨pickT l, pickH h', n⟩ a w4 ∧ ¬ J' w.heap.size ∧ ¬ ownB ρ' (pickH h') w.heap.size := by
        intro s pd h' JI W hne hm
        obtain ⟨ρk, Jk, hsk, hz, hj⟩ := hm.sim
        have hlt := (Array.getElem?_eq_some_iff.1 hm.rcd).1
        refine ⟨_, run_endLoop hm.rcd hne, (World.putObj_heap_other (by omega)).trans hm.off, ρk, Jk, ?_, (hz _ (.inr (.inl rfl))).1, (hz _ (.inr (.inl rfl))).2⟩
        have u := hsk.outside (BelowM.putObj (.loop { recL a fn ps assign body w.heap.size s pd with state := .exhausted }) hlt) (fun b q => by subst q; exact (hz _ (.inr (.inr rfl))).1) (fun b q => by subst q; exact (hz _ (.inr (.inr rfl))).2) (fun b q => by subst q; exact hZB _ (.inr (.inr rfl))) (fun _ q => q) (fun _ q => .inl q)
        refine { old := u.old, own := u.own, lt := u.lt, slots := fun k => ?_, objs := u.objs, apart := u.apart, size := u.size, defers := u.defers, below := u.below, base := u.base, glob := u.glob }
        have hk := u.slots k
        have hk : RelD ρk Jk _ (pickT (glL gs ρ ++ l) k) (a.tmps.getD k undef) := hk
        show RelD ρk Jk _ (pickT l k) _
        rcases slot_gl (gs := gs) (L := ρ) (l := l) (k := k) with ⟨g', h1, h2, h3⟩ | ⟨h1, h2⟩
        · rcases pickT_mem (l := l) (k := k) with q | ⟨p, q1, q2, q3⟩
          · rw [q]; trivial
          · have := of_decide_eq_true (List.all_eq_true.1 hl5 p q1); omega
        · rw [h1] at hk; exact hk
      rintro e W2 ⟨⟨v, rfl⟩, q⟩
      have had2 : ([markD w.heap.size] ++ a.defers) = [markD w.heap.size] := by rw [had]; rfl
      rcases q with ⟨JI, hm, hok2⟩ | ⟨h', JI, hR, hm⟩
      · obtain ⟨w4, e4, hK4, ρ', J', hs4, hJ4, ho4⟩ := fin .ready none (lh xs.length) JI W2 (by decide) hm
        refine ⟨none, w4, e4, ?_⟩
        show post.wpIn Fence.wide 1 P (endsF R J0 B w0) _ w4
        have hp := awp_in Open.wide (n := 1) (ds := [markD w.heap.size]) post R (fun _ _ => False) R _ _ _ { a with defers := [markD w.heap.size] ++ a.defers } w4 hcp (hpost hok2) had2 (show Sim _ _ _ _ _ _ ({ a with defers := [markD w.heap.size] ++ a.defers } : Act).bare w4 from by
          have : ({ a with defers := [markD w.heap.size] ++ a.defers } : Act).bare = a := hbare
          rw [this]; exact hs4.rebase)
        refine wpIn_mono hp ?_
        rintro e a5 w5 ⟨hd5, he⟩
        have key : SimE J' ⟨w4.heap.size, ownB ρ' (pickH (lh xs.length))⟩ w4 R a5.bare w5 → FinG R J0 B w0 a5 w5 := by
          rintro ⟨s5, ρ5, J5, hR5, hs5⟩
          have hlt4 := (Array.getElem?_eq_some_iff.1 hK4).1
          obtain ⟨p1, p2, p3, p4⟩ := hs4.left hs5 hlt4 ho4
          exact .inr ⟨w.heap.size, s5, ρ5, J5, hd5, p1.trans hK4, p4 hJ4, hs.Ble, p3, hR5, hs4.unbase hs5⟩
        cases e with
        | normal => exact key he
        | ret => exact key he
        | exit id => obtain ⟨_, _, _, hf, _⟩ := he; exact hf.elim
        | goto t => exact he.elim
        | panic c => exact he.elim
        | outgrown => exact he.elim
      · obtain ⟨w4, e4, hK4, ρ', J', hs4, hJ4, ho4⟩ := fin .done (some .ret) h' JI W2 (by decide) hm
        refine ⟨some .ret, w4, e4, wpIn_ret ?_⟩
        exact .inr ⟨w.heap.size, _, ρ', J', had2, hK4, hJ4, hs.Ble, ho4, hret h' hR, by
          have : ({ a with defers := [markD w.heap.size] ++ a.defers } : Act).bare = a := hbare
          rw [this]; exact hs4⟩
theorem Fun.of_awpM {P : Program} {f : FuncId} {fn : Func} {code : Code} {args : List D} {R : D → Prop} {n : Nat} (hf : P.funcs[f]? = some fn) (hb : fn.body = some code) (hc : callable P f = true) (hnn : fn.ntmps = n) (hn : args.length ≤ n)
    (h : D.wfs args → awpM P code (Ret P fn R) (St.init args n)) : Fun P f args R := by
  subst hnn
  refine ⟨hc, fun J0 w vs hJ hG hv => ?_⟩
  have hs := startSim (n := fn.ntmps) hJ hG hv hn
  have hwp := h (RelPs.wf hv) _ _ _ _ _ _ _ hs
  refine callsIn_wide.1 (callsIn_of_wp_marks (F := Fence.wide) (n := 1) hf hb trivial (wpIn_mono hwp ?_))
  rintro e a w' he
  have ends : ∀ st ρ J w2, Ret P fn R st → Sim J0 ρ J (.at w.heap.size) w st a.bare w2 → ∃ v, (results fn a.tmps).run P w2 = .ok v w2 ∧ ∃ y r, Ending.returned v = .returned y ∧ R r ∧ Below w.heap.size w w2 ∧ RelP (fun b => J0 b ∨ (w.heap.size ≤ b ∧ b < w2.heap.size)) w2 r y := by
    rintro st ρ J w2 ⟨rs, h1, p, h2, h3, h4⟩ hst
    obtain ⟨ys, h5, h6⟩ := run_resDs (P := P) hst _ _ h1
    obtain ⟨J', h7, h8, h9, h10⟩ := frzAll_sim _ J st rs ys p hst h6 h2
    refine ⟨_, results_eq fn a.tmps P w2 h5, _, _, rfl, h4, hst.below.plain, ?_⟩
    refine RelP.mono (fun b hb => ?_) (fun _ _ => rfl) _ _ (pack_rel (RelDs.toP h9 h3).nrm)
    rcases h8.old b hb with h | h | h
    · exact .inl h
    · exact .inr ⟨h, h8.lt b hb⟩
    · exact h.elim
  have fin : FinG (Ret P fn R) J0 (.at w.heap.size) w a w' → LeavesInM Fence.wide 1 P fn a.tmps (fun e w' => ∃ y r, e = .returned y ∧ R r ∧ Below w.heap.size w w' ∧ RelP (fun b => J0 b ∨ (w.heap.size ≤ b ∧ b < w'.heap.size)) w' r y) a.defers .returning w' := by
    rintro (⟨st, ρ, J, hr, hst⟩ | ⟨dd, st, ρ, J, hd, hk, hj, hle, ho, hr, hst⟩)
    · have hda : a.defers = [] := hst.defers
      have hb : a.bare = a := by cases a; cases hda; rfl
      rw [hda]
      obtain ⟨v, h1, h2⟩ := ends st ρ J w' hr (by rw [hb]; exact hst)
      exact ⟨v, h1, h2⟩
    · rw [hd]
      have hlt := (Array.getElem?_eq_some_iff.1 hk).1
      refine ⟨by simp, .inl ⟨dd, _, rfl, run_takeDeferred hk, ?_⟩⟩
      have u := hst.outside (BelowM.putObj (.deferred none) hlt) (fun b q => by subst q; exact hj) (fun b q => by subst q; exact ho) (fun b q => by subst q; exact .inl hle) (fun _ q => q) (fun _ q => .inl q)
      obtain ⟨v, h1, h2⟩ := ends st ρ J _ hr u
      exact ⟨v, h1, h2⟩
  cases e with
  | normal => exact fin he
  | ret => exact fin he
  | exit id => exact he.elim
  | goto l => exact he.elim
  | panic c => exact he.elim
  | outgrown => exact he.elim
end Go.VL

end
