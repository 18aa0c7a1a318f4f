import Derived.Test.YtfmeiapglpphpaaVL22
import Derived.ChangeArms
/- What came in reads as a value without memory. -/
namespace Go.VL
open Go Go.RowKit

inductive Ty where
  | int (k : IntKind)
  | bool
  | sl (e : Ty)
  | st (l : List Ty)

mutual
def Ty.width : Ty → Nat
  | .st l => Ty.widths l
  | .int _ => 1
  | .bool => 1
  | .sl _ => 1
def Ty.widths : List Ty → Nat
  | [] => 0
  | e :: l => e.width + Ty.widths l
end

def isInt (P : Program) (t : TypeId) (k : IntKind) : Bool := match P.underlying t with | some (.int k') => k' == k | _ => false
def isBool (P : Program) (t : TypeId) : Bool := match P.underlying t with | some .bool => true | _ => false
def elemOf (P : Program) (t : TypeId) : Option TypeId := match P.underlying t with | some (.slice e) => some e | _ => none
def fieldsOf (P : Program) (t : TypeId) : Option (List Field) := match P.underlying t with | some (.struct fs) => some fs.toList | _ => none

mutual
def Ty.fits (P : Program) : Ty → TypeId → Bool
  | .int k, t => isInt P t k
  | .bool, t => isBool P t
  | .sl e, t => match elemOf P t with | some u => e.fits P u && decide (0 < P.cellsOf u) && P.cellsOf u == e.width | none => false
  | .st l, t => match fieldsOf P t with | some fs => Ty.fitss P l fs 0 && P.cellsOf t == Ty.widths l | none => false
def Ty.fitss (P : Program) : List Ty → List Field → Nat → Bool
  | [], [], _ => true
  | e :: l, f :: fs, o => e.fits P f.type && f.offset == o && P.cellsOf f.type == e.width && Ty.fitss P l fs (o + e.width)
  | _, _, _ => false
end

def Ty.wrap : Ty → List D → D
  | .st _, c => .agg c
  | _, c => c.headD .any
def Ty.wrapV : Ty → List Value → Value
  | .st _, c => .agg c.toArray
  | _, c => c.headD undef

mutual
def Ty.has : Ty → List D → Prop
  | .int k, ds => ∃ n, ds = [.v (.int k n)] ∧ (Lit.int k n).wf = true
  | .bool, ds => ∃ b, ds = [.v (.bool b)]
  | .sl e, ds => ∃ els : List (List D), ds = [.lst (els.map e.wrap)] ∧ ∀ c ∈ els, e.has c
  | .st l, ds => Ty.hass l ds
def Ty.hass : List Ty → List D → Prop
  | [], ds => ds = []
  | e :: l, ds => ∃ a b, ds = a ++ b ∧ e.has a ∧ Ty.hass l b
end

theorem RelPs_join {J : Nat → Prop} {w : World} : ∀ (l m : List D) (vs us : List Value), RelPs J w l vs → RelPs J w m us → RelPs J w (l ++ m) (vs ++ us)
  | [], m, vs, us, h, h' => by simp only [RelPs] at h; subst h; exact h'
  | d :: ds, m, vs, us, h, h' => by
    obtain ⟨x, xs, h1, h2, h3⟩ := h
    subst h1
    exact ⟨x, xs ++ us, rfl, h2, RelPs_join ds m xs us h3 h'⟩

theorem isInt_spec {P : Program} {t : TypeId} {k : IntKind} (h : isInt P t k = true) : P.underlying t = some (.int k) := by
  unfold isInt at h
  split at h
  · rename_i k' hk; rw [hk]; simp at h; rw [h]
  · cases h
theorem isBool_spec {P : Program} {t : TypeId} (h : isBool P t = true) : P.underlying t = some .bool := by
  unfold isBool at h
  split at h
  · assumption
  · cases h
theorem elemOf_spec {P : Program} {t e : TypeId} (h : elemOf P t = some e) : P.underlying t = some (.slice e) := by
  unfold elemOf at h
  split at h
  · rename_i k' hk; rw [hk]; simp at h; rw [h]
  · cases h
theorem fieldsOf_spec {P : Program} {t : TypeId} {l : List Field} (h : fieldsOf P t = some l) : ∃ fs, P.underlying t = some (.struct fs) ∧ fs.toList = l := by
  unfold fieldsOf at h
  split at h
  · rename_i fs hk; simp at h; exact ⟨fs, hk, h⟩
  · cases h

section
variable {H : Type} {enc : TypeId × Value → H} {P : Program} {w : World} {held : Bool}

/-- What reading a type's cells at this fuel tells. -/
def Reads (enc : TypeId × Value → H) (P : Program) (w : World) (held : Bool) (n : Nat) : Prop :=
  ∀ (ty : Ty) (t : TypeId) (cs : List Value) (x : DataW H × List MemPlace), ty.fits P t = true → DataW.trod enc P w 0 (fun _ => true) held n t cs = some x →
    ∃ ds, RelPs (Olds w) w ds cs ∧ ty.has ds ∧ cs.length = ty.width ∧ ds.length = ty.width ∧ ∀ c ∈ cs, c.oneCell' = true

theorem wrap_rel {J : Nat → Prop} {ty : Ty} {ds : List D} {cs : List Value} (h : RelPs J w ds cs) (h1 : cs.length = ty.width) (h2 : ∀ c ∈ cs, c.oneCell' = true) : RelP J w (ty.wrap ds) (ty.wrapV cs) ∧ (ty.wrapV cs).cells.toList = cs := by
  have one : ty.width = 1 → ty.wrap ds = ds.headD .any → ty.wrapV cs = cs.headD undef → RelP J w (ty.wrap ds) (ty.wrapV cs) ∧ (ty.wrapV cs).cells.toList = cs := by
    intro hw e1 e2
    rw [e1, e2]
    match cs, h1, h, h2 with
    | [c], _, h, h2 =>
      match ds, h with
      | [], h => cases (show [c] = [] from h)
      | [d], h =>
        obtain ⟨x, xs, h4, h5, h6⟩ := h
        cases h4
        exact ⟨h5, by simp [cells_of_one (h2 c (by simp))]⟩
      | d :: e :: r, h =>
        obtain ⟨x, xs, h4, h5, h6⟩ := h
        cases h4
        obtain ⟨y, ys, h7, _⟩ := h6
        cases h7
    | [], h1, _, _ => rw [hw] at h1; cases h1
    | _ :: _ :: _, h1, _, _ => rw [hw] at h1; simp at h1
  cases ty with
  | int k => exact one rfl rfl rfl
  | bool => exact one rfl rfl rfl
  | sl e => exact one rfl rfl rfl
  | st l => exact ⟨⟨cs, rfl, h, h2⟩, rfl⟩

theorem reads_fields {n : Nat} (hn : Reads enc P w held n) : ∀ (l : List Ty) (fs : List Field) (o : Nat) (cs : List Value), Ty.fitss P l fs o = true → o + Ty.widths l = cs.length →
    (∀ (i : Nat) (f : Field), fs[i]? = some f → ∃ x, DataW.trod enc P w 0 (fun _ => true) held n f.type ((cs.drop f.offset).take (P.cellsOf f.type)) = some x) →
    ∃ ds, RelPs (Olds w) w ds (cs.drop o) ∧ Ty.hass l ds ∧ ds.length = Ty.widths l ∧ ∀ c ∈ cs.drop o, c.oneCell' = true
  | [], [], o, cs, _, ho, _ => by
    have : cs.drop o = [] := List.drop_of_length_le (by simp [Ty.widths] at ho; omega)
    rw [this]
    exact ⟨[], rfl, rfl, rfl, by simp⟩
  | [], _ :: _, _, _, h, _, _ => by simp [Ty.fitss] at h
  | _ :: _, [], _, _, h, _, _ => by simp [Ty.fitss] at h
  | e :: l, f :: fs, o, cs, h, ho, hf => by
    simp only [Ty.fitss, Bool.and_eq_true, beq_iff_eq] at h
    obtain ⟨⟨⟨h1, h2⟩, h3⟩, h4⟩ := h
    obtain ⟨x, hx⟩ := hf 0 f rfl
    rw [h2, h3] at hx
    obtain ⟨d1, g1, g2, g3, g3', g4⟩ := hn e f.type _ x h1 hx
    simp only [Ty.widths] at ho
    obtain ⟨d2, k1, k2, k3, k4⟩ := reads_fields hn l fs (o + e.width) cs h4 (by omega) (fun i g hg => hf (i + 1) g (by simpa using hg))
    have e1 : cs.drop o = (cs.drop o).take e.width ++ cs.drop (o + e.width) := by
      rw [← List.drop_drop]; exact (List.take_append_drop _ _).symm
    refine ⟨d1 ++ d2, ?_, ⟨d1, d2, rfl, g2, k2⟩, by simp [Ty.widths, g3', k3], ?_⟩
    · rw [e1]; exact RelPs_join _ _ _ _ g1 k1
    · rw [e1]; intro c hc
      rcases List.mem_append.1 hc with hc | hc
      · exact g4 c hc
      · exact k4 c hc

theorem reads_all : ∀ n : Nat, Reads enc P w held n := by
  intro n
  induction n with
  | zero => intro ty t cs x _ h; simp [DataW.trod] at h
  | succ n ih =>
    intro ty t cs x hf h
    cases ty with
    | int k =>
      have hu := isInt_spec (by simpa [Ty.fits] using hf)
      obtain ⟨m, rfl, _, hw⟩ := DataW.trod_int hu h
      exact ⟨[.v (.int k m)], ⟨_, _, rfl, ⟨rfl, rfl⟩, rfl⟩, ⟨m, rfl, hw⟩, rfl, rfl, by simp [Value.oneCell']⟩
    | bool =>
      have hu := isBool_spec (by simpa [Ty.fits] using hf)
      obtain ⟨b, rfl, _⟩ := DataW.trod_bool hu h
      exact ⟨[.v (.bool b)], ⟨_, _, rfl, ⟨rfl, rfl⟩, rfl⟩, ⟨b, rfl⟩, rfl, rfl, by simp [Value.oneCell']⟩
    | st l =>
      simp only [Ty.fits] at hf
      split at hf
      · rename_i fs hfs
        simp only [Bool.and_eq_true, beq_iff_eq] at hf
        obtain ⟨fa, hu, rfl⟩ := fieldsOf_spec hfs
        obtain ⟨xs, m, hm, _, hl, hxl, hx⟩ := DataW.trod_struct hu h
        cases hm
        obtain ⟨ds, k1, k2, k3, k4⟩ := reads_fields ih l fa.toList 0 cs hf.1 (by rw [hl, hf.2]; omega) (fun i f hi => by
          have hi' : fa[i]? = some f := by simpa using hi
          have := hx i f hi'
          have hlt : i < xs.length := by rw [hxl]; exact (Array.getElem?_eq_some_iff.1 hi').1
          rw [List.getElem?_eq_getElem hlt] at this
          exact ⟨_, this⟩)
        simp only [List.drop_zero] at k1 k4
        exact ⟨ds, k1, k2, by rw [hl, hf.2]; rfl, k3, k4⟩
      · cases hf
    | sl e =>
      simp only [Ty.fits] at hf
      split at hf
      · rename_i u hu0
        simp only [Bool.and_eq_true, beq_iff_eq, decide_eq_true_eq] at hf
        obtain ⟨⟨hfe, hpos⟩, hS⟩ := hf
        have hu := elemOf_spec hu0
        rcases DataW.trod_slice hu h with ⟨rfl, _⟩ | ⟨a, len, cap, elems, rest, m, hm, rfl, _, hb, hl, hc, hlen, hel, _, _⟩
        · exact ⟨[.lst []], ⟨_, _, rfl, RelP_nil none, rfl⟩, ⟨[], rfl, by simp⟩, rfl, rfl, by simp [Value.oneCell']⟩
        · cases hm
          have each : ∀ i, i < len → ∃ cs ds, w.cells? 0 (a.add (i * P.cellsOf u)) (P.cellsOf u) = some cs ∧ RelPs (Olds w) w ds cs ∧ e.has ds ∧ cs.length = e.width ∧ ∀ c ∈ cs, c.oneCell' = true := by
            intro i hi
            have h1 := hel i hi
            rw [List.getElem?_eq_getElem (by omega), Option.bind_eq_some_iff] at h1
            obtain ⟨cs, h2, h3⟩ := h1
            obtain ⟨ds, k1, k2, k3, _, k4⟩ := ih e u cs _ hfe h3
            exact ⟨cs, ds, h2, k1, k2, k3, k4⟩
          have hch : ∃ (C : Nat → List Value) (E : Nat → List D), ∀ i, i < len → w.cells? 0 (a.add (i * P.cellsOf u)) (P.cellsOf u) = some (C i) ∧ RelPs (Olds w) w (E i) (C i) ∧ e.has (E i) ∧ (C i).length = e.width ∧ ∀ c ∈ C i, c.oneCell' = true := by
            refine ⟨fun i => if h : i < len then (each i h).choose else [], fun i => if h : i < len then (each i h).choose_spec.choose else [], fun i hi => ?_⟩
            simp only [hi, dif_pos]
            exact (each i hi).choose_spec.choose_spec
          obtain ⟨C, E, hCE⟩ := hch
          refine ⟨[.lst (((List.range len).map E).map e.wrap)], ⟨_, _, rfl, ?_, rfl⟩, ⟨(List.range len).map E, rfl, ?_⟩, rfl, rfl, by simp [Value.oneCell']⟩
          · have hlenE : (((List.range len).map E).map e.wrap).length = len := by simp
            refine ⟨some a, cap, (List.range len).map fun i => e.wrapV (C i), by rw [hlenE], by rw [hlenE]; exact hl, hc, by rw [hlenE]; exact Nat.le_trans hl hc, (fun h => by cases h), ?_, ?_⟩
            · rw [List.map_map]
              have : ∀ (l : List Nat), (∀ i ∈ l, i < len) → RelPs (Olds w) w (l.map (e.wrap ∘ E)) (l.map fun i => e.wrapV (C i)) := by
                intro l
                induction l with
                | nil => intro _; rfl
                | cons i l ihl =>
                  intro hi
                  obtain ⟨_, k2, _, k4, k5⟩ := hCE i (hi i (by simp))
                  exact ⟨_, _, rfl, (wrap_rel k2 k4 k5).1, ihl fun j hj => hi j (by simp [hj])⟩
              exact this _ (fun i hi => by simpa using hi)
            · by_cases h0 : len = 0
              · left; subst h0; simp
              · right
                have hcell : ∀ i, i < len → ∀ r, r < P.cellsOf u → w.cell? (a.add (i * P.cellsOf u + r)) = (C i)[r]? := by
                  intro i hi r hr
                  have := (World.cells?_some (hCE i hi).1).2.2 r hr
                  rw [← this]
                  congr 1
                  unfold Addr.add
                  repeat' split
                  all_goals first | rfl | (simp_all; done) | (simp; omega)
                have hz := hcell 0 (by omega) 0 hpos
                have hl0 : (C 0).length = P.cellsOf u := by rw [(hCE 0 (by omega)).2.2.2.1, hS]
                have hlt : 0 < (C 0).length := by omega
                rw [List.getElem?_eq_getElem hlt] at hz
                have hsp := World.cell?_spot hz
                obtain ⟨b, off, spot⟩ := a
                have hs : spot = none := by
                  have : (Addr.add ⟨b, off, spot⟩ (0 * P.cellsOf u + 0)) = ⟨b, off, spot⟩ := by simp [Addr.add]
                  rw [this] at hsp; exact hsp
                subst hs
                have hadd : ∀ j, (⟨b, off, none⟩ : Addr).add j = ⟨b, off + j, none⟩ := by
                  intro j; unfold Addr.add; split <;> simp_all
                refine ⟨b, off, rfl, ?_, fun j v hv => ?_⟩
                · show b < w.heap.size
                  rw [hadd] at hz
                  unfold World.cell? at hz
                  split at hz
                  · rename_i hk
                    exact (Array.getElem?_eq_some_iff.1 hk).1
                  · cases hz
                · have hflat : ∀ (x : Value), x ∈ (List.range len).map (fun i => e.wrapV (C i)) → x.cells.size = P.cellsOf u := by
                    intro x hx
                    obtain ⟨i, hi, rfl⟩ := List.mem_map.1 hx
                    obtain ⟨_, k2, _, k4, k5⟩ := hCE i (by simpa using hi)
                    have := (wrap_rel k2 k4 k5).2
                    rw [← Array.length_toList, this, k4, hS]
                  have hfl : (flat ((List.range len).map fun i => e.wrapV (C i))).length = len * P.cellsOf u := by rw [flat_length _ hflat]; simp
                  have hj : j < len * P.cellsOf u := by rw [← hfl]; exact (List.getElem?_eq_some_iff.1 hv).1
                  have hi : j / P.cellsOf u < len := by rw [Nat.div_lt_iff_lt_mul hpos]; exact hj
                  have hr : j % P.cellsOf u < P.cellsOf u := Nat.mod_lt _ hpos
                  have hdm : j / P.cellsOf u * P.cellsOf u + j % P.cellsOf u = j := by rw [Nat.mul_comm]; exact Nat.div_add_mod _ _
                  have g1 := flat_get (S := P.cellsOf u) _ hflat (j / P.cellsOf u) (j % P.cellsOf u) (e.wrapV (C (j / P.cellsOf u))) (by simp [hi]) hr
                  rw [hdm] at g1
                  obtain ⟨_, k2, _, k4, k5⟩ := hCE _ hi
                  rw [(wrap_rel k2 k4 k5).2] at g1
                  have g2 := hcell _ hi _ hr
                  rw [hdm, hadd] at g2
                  rw [g2, ← g1]
                  exact hv
          · intro c hc
            obtain ⟨i, hi, rfl⟩ := List.mem_map.1 hc
            exact (hCE i (by simpa using hi)).2.2.1
      · cases hf

/-- An argument that came in. -/
theorem reads_arg {ty : Ty} {t : TypeId} {v : Value} {d : DataW H} {ps : List MemPlace} (hf : ty.fits P t = true) (h : DataW.Trod enc P w 0 (fun _ => true) held t v d ps) (hv : ∀ l, ty = .st l → ∃ cs, v = .agg cs) (hv1 : (∀ l, ty ≠ .st l) → v.cells = #[v]) :
    ∃ ds, RelP (Olds w) w (ty.wrap ds) v ∧ ty.has ds := by
  obtain ⟨n, h⟩ := h
  obtain ⟨ds, k1, k2, k3, k3', k4⟩ := reads_all n ty t _ _ hf h
  refine ⟨ds, ?_, k2⟩
  have := (wrap_rel k1 k3 k4).1
  cases ty with
  | st l =>
    obtain ⟨cs, rfl⟩ := hv l rfl
    simpa [Ty.wrapV, Value.cells] using this
  | int k => rw [hv1 (by simp)] at this; simpa [Ty.wrapV] using this
  | bool => rw [hv1 (by simp)] at this; simpa [Ty.wrapV] using this
  | sl e => rw [hv1 (by simp)] at this; simpa [Ty.wrapV] using this
end

-- the types that come up
theorem has_ints {k : IntKind} {ds : List D} (h : (Ty.sl (.int k)).has ds) : ∃ l : List Int, (Ty.sl (.int k)).wrap ds = .lst (ints k l) ∧ ∀ n ∈ l, (Lit.int k n).wf = true := by
  obtain ⟨els, rfl, h⟩ := h
  have : ∃ l : List Int, els.map (Ty.int k).wrap = ints k l ∧ ∀ n ∈ l, (Lit.int k n).wf = true := by
    induction els with
    | nil => exact ⟨[], rfl, by simp⟩
    | cons c els ih =>
      obtain ⟨l, h1, h2⟩ := ih fun c hc => h c (by simp [hc])
      obtain ⟨n, rfl, hw⟩ := h c (by simp)
      exact ⟨n :: l, by rw [List.map_cons, h1]; rfl, by simpa [hw] using h2⟩
  obtain ⟨l, h1, h2⟩ := this
  exact ⟨l, by simp [Ty.wrap, h1], h2⟩
theorem has_rows {k : IntKind} {ds : List D} (h : (Ty.sl (.sl (.int k))).has ds) : ∃ l : List (List Int), (Ty.sl (.sl (.int k))).wrap ds = .lst (rows k l) ∧ ∀ x ∈ l, ∀ n ∈ x, (Lit.int k n).wf = true := by
  obtain ⟨els, rfl, h⟩ := h
  have : ∃ l : List (List Int), els.map (Ty.sl (.int k)).wrap = rows k l ∧ ∀ x ∈ l, ∀ n ∈ x, (Lit.int k n).wf = true := by
    induction els with
    | nil => exact ⟨[], rfl, by simp⟩
    | cons c els ih =>
      obtain ⟨l, h1, h2⟩ := ih fun c hc => h c (by simp [hc])
      obtain ⟨x, hx, hw⟩ := has_ints (h c (by simp))
      exact ⟨x :: l, by rw [List.map_cons, h1, hx]; rfl, by
        intro y hy
        rcases List.mem_cons.1 hy with rfl | hy
        · exact hw
        · exact h2 y hy⟩
  obtain ⟨l, h1, h2⟩ := this
  exact ⟨l, by simp [Ty.wrap, h1], h2⟩
end Go.VL
