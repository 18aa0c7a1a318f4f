import Derived.Test.YtfmeiapglpphpaaVL3
/- Loads, stores, and new variables. -/
namespace Go.VL
open Go Go.RowKit

def aggT (P : Program) (t : TypeId) : Bool := match P.underlying t with | some (.struct _) | some (.array _ _) => true | _ => false
def okT (P : Program) (t : TypeId) : Bool := decide (0 < P.cellsOf t) && (P.underlying t).isSome
def zeroT (P : Program) (t : TypeId) : Option Value := (P.info? t).bind (·.zero)

theorem info_of_cells {P : Program} {t : TypeId} (h : 0 < P.cellsOf t) : ∃ i, P.info? t = some i ∧ i.size = P.cellsOf t := by
  unfold Program.cellsOf at h ⊢
  cases hi : P.info? t with
  | none => simp [hi] at h
  | some i => exact ⟨i, rfl, by simp⟩

theorem run_size {P : Program} {t : TypeId} (h : 0 < P.cellsOf t) (w : World) : (sizeOf t).run P w = .ok (P.cellsOf t) w := by
  obtain ⟨i, hi, hs⟩ := info_of_cells h
  simp [sizeOf, typeInfo, hi, hs]

theorem run_isAgg {P : Program} {t : TypeId} (h : (P.underlying t).isSome = true) (w : World) : (isAgg t).run P w = .ok (aggT P t) w := by
  cases hu : P.underlying t with
  | none => simp [hu] at h
  | some d =>
    unfold isAgg aggT
    rw [Sem.run_bind, run_underlying hu w, hu]
    cases d <;> rfl

theorem okT_spec {P : Program} {t : TypeId} (h : okT P t = true) : 0 < P.cellsOf t ∧ (P.underlying t).isSome = true := by
  simpa [okT] using h

mutual
theorem RelP.toD {ρ : Nat → Loc} {J : Nat → Prop} {w : World} : ∀ {d : D} {y : Value}, RelP J w d y → RelD ρ J w d y
  | .any, _, _ => trivial
  | .v _, _, h => h
  | .nil0, _, h => h
  | .lst _, _, h => h
  | .ptr _, _, h => h
  | .agg l, y, h => by
    obtain ⟨vs, h1, h2, h3⟩ := h
    exact ⟨vs, h1, RelPs.toD h2, h3⟩
  | .tup l, y, h => by
    obtain ⟨vs, h1, h2⟩ := h
    exact ⟨vs, h1, RelPs.toD h2⟩
  | .clos f caps, y, h => by
    obtain ⟨vs, h1, h2⟩ := h
    exact ⟨vs, h1, RelPs.toD h2⟩
  | .ref _ _, _, h => h.elim
  | .adr _ _ _, _, h => h.elim
theorem RelPs.toD {ρ : Nat → Loc} {J : Nat → Prop} {w : World} : ∀ {l : List D} {vs : List Value}, RelPs J w l vs → RelDs ρ J w l vs
  | [], _, h => h
  | d :: ds, vs, h => by
    obtain ⟨x, xs, h1, h2, h3⟩ := h
    exact ⟨x, xs, h1, RelP.toD h2, RelPs.toD h3⟩
end

mutual
def D.noRef : D → Bool
  | .ref _ _ => false
  | .adr _ _ _ => false
  | .agg l => D.noRefs l
  | .tup l => D.noRefs l
  | .clos _ caps => D.noRefs caps
  | .any => true
  | .v _ => true
  | .nil0 => true
  | .lst _ => true
  | .ptr _ => true
def D.noRefs : List D → Bool
  | [] => true
  | d :: ds => d.noRef && D.noRefs ds
end

theorem D.noRefs_eq (l : List D) : D.noRefs l = l.all D.noRef := by
  induction l with
  | nil => rfl
  | cons d ds ih => simp [D.noRefs, ih]

mutual
theorem RelD.toP {ρ : Nat → Loc} {J : Nat → Prop} {w : World} : ∀ {d : D} {y : Value}, RelD ρ J w d y → d.noRef = true → RelP J w d y
  | .any, _, _, _ => trivial
  | .v _, _, h, _ => h
  | .nil0, _, h, _ => h
  | .lst _, _, h, _ => h
  | .ptr _, _, h, _ => h
  | .agg l, y, h, hn => by
    obtain ⟨vs, h1, h2, h3⟩ := h
    exact ⟨vs, h1, RelDs.toP h2 hn, h3⟩
  | .tup l, y, h, hn => by
    obtain ⟨vs, h1, h2⟩ := h
    exact ⟨vs, h1, RelDs.toP h2 hn⟩
  | .clos f caps, y, h, hn => by
    obtain ⟨vs, h1, h2⟩ := h
    exact ⟨vs, h1, RelDs.toP h2 hn⟩
  | .ref _ _, _, _, hn => by cases hn
  | .adr _ _ _, _, _, hn => by cases hn
theorem RelDs.toP {ρ : Nat → Loc} {J : Nat → Prop} {w : World} : ∀ {l : List D} {vs : List Value}, RelDs ρ J w l vs → D.noRefs l = true → RelPs J w l vs
  | [], _, h, _ => h
  | d :: ds, vs, h, hn => by
    obtain ⟨x, xs, h1, h2, h3⟩ := h
    have hn' : d.noRef = true ∧ D.noRefs ds = true := by simpa [D.noRefs] using hn
    exact ⟨x, xs, h1, RelD.toP h2 hn'.1, RelDs.toP h3 hn'.2⟩
end

def D.isAgg : D → Bool
  | .agg _ => true
  | _ => false

theorem RelDs_get {ρ : Nat → Loc} {J : Nat → Prop} {w : World} : ∀ (l : List D) (vs : List Value), RelDs ρ J w l vs → l.length = vs.length ∧ ∀ (i : Nat) (d : D), l[i]? = some d → ∃ x, vs[i]? = some x ∧ RelD ρ J w d x
  | [], vs, h => by simp only [RelDs] at h; subst h; exact ⟨rfl, by simp⟩
  | d :: ds, vs, h => by
    obtain ⟨x, xs, h1, h2, h3⟩ := h
    subst h1
    obtain ⟨h4, h5⟩ := RelDs_get ds xs h3
    refine ⟨by simp [h4], fun i d' hd => ?_⟩
    cases i with
    | zero => simp only [List.getElem?_cons_zero, Option.some.injEq] at hd; subst hd; exact ⟨x, rfl, h2⟩
    | succ i => exact h5 i d' (by simpa using hd)

theorem RelDs_app {ρ : Nat → Loc} {J : Nat → Prop} {w : World} : ∀ (l m : List D) (vs us : List Value), RelDs ρ J w l vs → RelDs ρ J w m us → RelDs ρ J w (l ++ m) (vs ++ us)
  | [], m, vs, us, h, h' => by simp only [RelDs] at h; subst h; exact h'
  | d :: ds, m, vs, us, h, h' => by
    obtain ⟨x, xs, h1, h2, h3⟩ := h
    subst h1
    exact ⟨x, xs ++ us, rfl, h2, RelDs_app ds m xs us h3 h'⟩

theorem RelDs_drop {ρ : Nat → Loc} {J : Nat → Prop} {w : World} : ∀ (n : Nat) (l : List D) (vs : List Value), RelDs ρ J w l vs → RelDs ρ J w (l.drop n) (vs.drop n)
  | 0, l, vs, h => by simpa using h
  | n + 1, [], vs, h => by simp only [RelDs] at h; subst h; rfl
  | n + 1, d :: ds, vs, h => by
    obtain ⟨x, xs, h1, h2, h3⟩ := h
    subst h1
    exact RelDs_drop n ds xs h3

theorem RelDs_take {ρ : Nat → Loc} {J : Nat → Prop} {w : World} : ∀ (n : Nat) (l : List D) (vs : List Value), RelDs ρ J w l vs → RelDs ρ J w (l.take n) (vs.take n)
  | 0, l, vs, h => by simp [RelDs]
  | n + 1, [], vs, h => by simp only [RelDs] at h; subst h; rfl
  | n + 1, d :: ds, vs, h => by
    obtain ⟨x, xs, h1, h2, h3⟩ := h
    subst h1
    exact ⟨x, xs.take n, rfl, h2, RelDs_take n ds xs h3⟩

theorem RelDs_set {ρ : Nat → Loc} {J : Nat → Prop} {w : World} {d : D} {x : Value} (hd : RelD ρ J w d x) : ∀ (i : Nat) (l : List D) (vs : List Value), RelDs ρ J w l vs → RelDs ρ J w (l.set i d) (vs.set i x)
  | _, [], vs, h => by simp only [RelDs] at h; subst h; rfl
  | 0, e :: ds, vs, h => by
    obtain ⟨y, ys, h1, h2, h3⟩ := h
    subst h1
    exact ⟨x, ys, rfl, hd, h3⟩
  | i + 1, e :: ds, vs, h => by
    obtain ⟨y, ys, h1, h2, h3⟩ := h
    subst h1
    exact ⟨y, ys.set i x, rfl, h2, RelDs_set hd i ds ys h3⟩

/-- A value that is no struct has one cell. -/
theorem RelD_one {ρ : Nat → Loc} {J : Nat → Prop} {w : World} {d : D} {x : Value} (h : RelD ρ J w d x) (hd : d.isAgg = false) (hw : x.cells.size = d.width) :
    ∃ y, x.cells = #[y] ∧ (d ≠ .any → y = x) := by
  cases d with
  | any =>
    simp only [D.width] at hw
    exact ⟨x.cells[0], by apply Array.ext <;> simp [hw]; intro i h1; have : i = 0 := by omega
                          subst this; rfl, fun h => absurd rfl h⟩
  | v z => obtain ⟨rfl, h2⟩ := h; exact ⟨_, h2, fun _ => rfl⟩
  | nil0 => obtain ⟨a, rfl⟩ := h; exact ⟨_, rfl, fun _ => rfl⟩
  | lst l => obtain ⟨a, c, vs, rfl, _⟩ := h; exact ⟨_, rfl, fun _ => rfl⟩
  | agg l => cases hd
  | tup l => obtain ⟨vs, rfl, _⟩ := h; exact ⟨_, rfl, fun _ => rfl⟩
  | ptr e => obtain ⟨b, o, z, rfl, _⟩ := h; exact ⟨_, rfl, fun _ => rfl⟩
  | clos f caps => obtain ⟨vs, rfl, _⟩ := h; exact ⟨_, rfl, fun _ => rfl⟩
  | ref id n => subst h; exact ⟨_, rfl, fun _ => rfl⟩
  | adr id i o => obtain ⟨g, _, rfl⟩ := h; exact ⟨_, rfl, fun _ => rfl⟩

def partOf (d : D) (o sz : Nat) (ag : Bool) : Option D :=
  if ag then (match d with | .agg l => if o + sz ≤ l.length then some (.agg ((l.drop o).take sz)) else none | _ => none)
  else if sz = 1 then (match d with | .agg l => l[o]? | d => if o = 0 then some d else none) else none

theorem partOf_rel {ρ : Nat → Loc} {J : Nat → Prop} {w : World} {d r : D} {x : Value} {o sz : Nat} {ag : Bool} (h : RelD ρ J w d x) (hw : x.cells.size = d.width)
    (hp : partOf d o sz ag = some r) : (ag = true → ∃ l, d = .agg l ∧ o + sz ≤ x.cells.size ∧ RelD ρ J w r (.agg (x.cells.extract o (o + sz)))) ∧ (ag = false → sz = 1 ∧ ∃ y, x.cells[o]? = some y ∧ RelD ρ J w r y) := by
  unfold partOf at hp
  cases ag with
  | true =>
    refine ⟨fun _ => ?_, by simp⟩
    simp only [if_true] at hp
    cases d with
    | agg l =>
      simp only at hp
      split at hp
      · rename_i hle
        cases hp
        obtain ⟨vs, rfl, h2, h3⟩ := h
        obtain ⟨hl, _⟩ := RelDs_get l vs h2
        refine ⟨l, rfl, by simp [Value.cells]; omega, (vs.drop o).take sz, ?_, RelDs_take _ _ _ (RelDs_drop _ _ _ h2), fun y hy => h3 y (List.mem_of_mem_drop (List.mem_of_mem_take hy))⟩
        simp [Value.cells, List.extract_eq_take_drop, Nat.add_sub_cancel_left]
      · cases hp
    | _ => simp at hp
  | false =>
    refine ⟨by simp, fun _ => ?_⟩
    simp only [Bool.false_eq_true, if_false] at hp
    split at hp
    · rename_i hs
      subst hs
      refine ⟨rfl, ?_⟩
      cases hd : d.isAgg with
      | true =>
        cases d with
        | agg l =>
          obtain ⟨vs, rfl, h2, h3⟩ := h
          obtain ⟨_, h5⟩ := RelDs_get l vs h2
          obtain ⟨y, h6, h7⟩ := h5 o r hp
          exact ⟨y, by simpa [Value.cells] using h6, h7⟩
        | _ => cases hd
      | false =>
        obtain ⟨y, h1, h2⟩ := RelD_one h hd hw
        have hp' : (if o = 0 then some d else none) = some r := by cases d <;> first | exact hp | cases hd
        split at hp'
        · rename_i ho
          cases hp'
          subst ho
          refine ⟨y, by simp [h1], ?_⟩
          by_cases ha : d = .any
          · subst ha; trivial
          · rw [h2 ha]; exact h
        · cases hp'
    · cases hp

theorem run_loadVar_at {P : Program} {t : TypeId} (ht : okT P t = true) {w : World} {g o : Nat} {cs : List Value} (hl : cs.length = P.cellsOf t)
    (hc : ∀ j u, cs[j]? = some u → w.cell? ⟨g, o + j, none⟩ = some u) :
    (loadVar t ⟨g, o, none⟩).run P w = .ok (if aggT P t then .agg cs.toArray else cs.getD 0 undef) w ∨ (aggT P t = false ∧ P.cellsOf t ≠ 1) := by
  obtain ⟨h1, h2⟩ := okT_spec ht
  by_cases hag : aggT P t = true
  · left
    have hadd : ∀ j, (⟨g, o, none⟩ : Addr).add j = ⟨g, o + j, none⟩ := by intro j; unfold Addr.add; split <;> simp_all
    have := run_loadCells_list (P := P) w ⟨g, o, none⟩ cs (fun j v hv => by rw [hadd]; exact hc j v hv)
    simp [loadVar, run_isAgg h2, run_size h1, hag, ← hl, this]
  · by_cases h3 : P.cellsOf t = 1
    · left
      have hag' : aggT P t = false := by simpa using hag
      obtain ⟨u, rfl⟩ : ∃ u, cs = [u] := by
        cases cs with
        | nil => simp at hl; omega
        | cons u us => cases us with
          | nil => exact ⟨u, rfl⟩
          | cons _ _ => simp at hl; omega
      have := hc 0 u rfl
      simp only [Nat.add_zero] at this
      simp [loadVar, run_isAgg h2, hag', this]
    · right; exact ⟨by simpa using hag, h3⟩

def flat (vs : List Value) : List Value := vs.flatMap fun x => x.cells.toList

theorem flat_cons (x : Value) (xs : List Value) : flat (x :: xs) = x.cells.toList ++ flat xs := by simp [flat]

theorem flat_length {S : Nat} : ∀ (vs : List Value), (∀ x ∈ vs, x.cells.size = S) → (flat vs).length = vs.length * S
  | [], _ => by simp [flat]
  | x :: xs, h => by
    rw [flat_cons, List.length_append, flat_length xs fun y hy => h y (by simp [hy])]
    have := h x (by simp)
    simp only [Array.length_toList, this, List.length_cons, Nat.add_mul, Nat.one_mul]
    omega

theorem flat_get {S : Nat} : ∀ (vs : List Value), (∀ x ∈ vs, x.cells.size = S) → ∀ (i j : Nat) (x : Value), vs[i]? = some x → j < S → (flat vs)[i * S + j]? = x.cells.toList[j]?
  | [], _, i, j, x, hx, _ => by simp at hx
  | y :: ys, h, i, j, x, hx, hj => by
    have hy := h y (by simp)
    rw [flat_cons]
    cases i with
    | zero =>
      simp only [List.getElem?_cons_zero, Option.some.injEq] at hx
      subst hx
      rw [Nat.zero_mul, Nat.zero_add, List.getElem?_append_left (by simp [hy]; exact hj)]
    | succ i =>
      rw [List.getElem?_append_right (by simp [hy, Nat.add_mul]; omega)]
      have : (i + 1) * S + j - y.cells.toList.length = i * S + j := by
        simp only [Array.length_toList, hy, Nat.add_mul, Nat.one_mul]; omega
      rw [this]
      exact flat_get ys (fun z hz => h z (by simp [hz])) i j x (by simpa using hx) hj

theorem flat_set {S : Nat} : ∀ (vs : List Value), (∀ x ∈ vs, x.cells.size = S) → ∀ (i : Nat) (x y : Value), vs[i]? = some x → y.cells.size = S →
    flat (vs.set i y) = (flat vs).take (i * S) ++ y.cells.toList ++ (flat vs).drop (i * S + S)
  | [], _, i, x, y, hx, _ => by simp at hx
  | z :: zs, h, i, x, y, hx, hy => by
    have hz := h z (by simp)
    cases i with
    | zero =>
      simp only [List.set_cons_zero, flat_cons, Nat.zero_mul, List.take_zero, List.nil_append, Nat.zero_add]
      rw [List.drop_left' (by simp [hz])]
    | succ i =>
      have ih := flat_set zs (fun u hu => h u (by simp [hu])) i x y (by simpa using hx) hy
      have e1 : (i + 1) * S = z.cells.toList.length + i * S := by simp only [Array.length_toList, hz, Nat.add_mul, Nat.one_mul]; omega
      rw [List.set_cons_succ, flat_cons, flat_cons, ih, e1, List.take_length_add_append, Nat.add_assoc, List.drop_length_add_append]
      simp [List.append_assoc]

theorem flat_append (vs us : List Value) : flat (vs ++ us) = flat vs ++ flat us := by simp [flat]
theorem flat_take {S : Nat} : ∀ (n : Nat) (vs : List Value), (∀ x ∈ vs, x.cells.size = S) → flat (vs.take n) = (flat vs).take (n * S)
  | 0, vs, _ => by simp [flat]
  | n + 1, [], _ => by simp [flat]
  | n + 1, x :: xs, h => by
    have hx := h x (by simp)
    have e1 : (n + 1) * S = x.cells.toList.length + n * S := by simp only [Array.length_toList, hx, Nat.add_mul, Nat.one_mul]; omega
    rw [List.take_succ_cons, flat_cons, flat_cons, flat_take n xs fun y hy => h y (by simp [hy]), e1, List.take_length_add_append]
theorem flat_drop {S : Nat} : ∀ (n : Nat) (vs : List Value), (∀ x ∈ vs, x.cells.size = S) → flat (vs.drop n) = (flat vs).drop (n * S)
  | 0, vs, _ => by simp
  | n + 1, [], _ => by simp [flat]
  | n + 1, x :: xs, h => by
    have hx := h x (by simp)
    have e1 : (n + 1) * S = x.cells.toList.length + n * S := by simp only [Array.length_toList, hx, Nat.add_mul, Nat.one_mul]; omega
    rw [List.drop_succ_cons, flat_cons, flat_drop n xs fun y hy => h y (by simp [hy]), e1, List.drop_length_add_append]

/-- Element i of an object that has cells. -/
theorem ObjAt.elem {ρ : Nat → Loc} {J : Nat → Prop} {w : World} {id : Nat} {o : Own} (h : ObjAt ρ J w id o) {i : Nat} {d : D} (hd : o.els[i]? = some d) :
    0 < (ρ id).cap ∧ ∃ g cur vs x, (ρ id).a = some ⟨g, 0, none⟩ ∧ ¬ J g ∧ w.heap[g]? = some (.cells cur o.e (0, 0)) ∧ cur.size = (ρ id).cap * o.S ∧ RelDs ρ J w o.els vs ∧ vs[i]? = some x ∧ RelD ρ J w d x ∧
      (∀ y ∈ vs, y.cells.size = o.S ∧ ∀ c ∈ y.cells.toList, c.oneCell' = true) ∧ cur.toList.take (o.els.length * o.S) = flat vs ∧
      (∀ j u, x.cells.toList[j]? = some u → w.cell? ⟨g, i * o.S + j, none⟩ = some u) := by
  obtain ⟨h1, h2, h3, h4, h5, vs, h6, h7, h8⟩ := h
  obtain ⟨hl, hget⟩ := RelDs_get _ _ h6
  obtain ⟨x, hx, hdx⟩ := hget i d hd
  rcases h8 with ⟨_, h9⟩ | ⟨h9, g, cur, h10, h11, h12, h13, h14⟩
  · subst h9; simp at hx
  · refine ⟨h9, g, cur, vs, x, h10, h11, h12, h13, h6, hx, hdx, h7, h14, fun j u hu => ?_⟩
    have hxs := (h7 x (List.mem_of_getElem? hx)).1
    have hj : j < o.S := by
      have := (List.getElem?_eq_some_iff.1 hu).1
      simpa [hxs] using this
    have hf := flat_get vs (fun y hy => (h7 y hy).1) i j x hx hj
    rw [hu] at hf
    have hi : i < o.els.length := (List.getElem?_eq_some_iff.1 hd).1
    have hlt : i * o.S + j < o.els.length * o.S := by
      have : (i + 1) * o.S ≤ o.els.length * o.S := Nat.mul_le_mul_right _ hi
      rw [Nat.add_mul] at this; omega
    have : (cur.toList.take (o.els.length * o.S))[i * o.S + j]? = some u := by rw [h14]; exact hf
    rw [List.getElem?_take, if_pos hlt] at this
    rw [cell_of_row w g _ cur o.e (0, 0) h12]
    simpa using this

theorem Addr_add (g o j : Nat) : (⟨g, o, none⟩ : Addr).add j = ⟨g, o + j, none⟩ := by unfold Addr.add; split <;> simp_all

def opLoad (P : Program) (t : TypeId) (x : D) (K : D → Prop) (st : St) : Prop :=
  match x with
  | .ptr d => okT P t = true ∧ d.width = P.cellsOf t ∧ ∃ r, partOf d 0 (P.cellsOf t) (aggT P t) = some r ∧ K r
  | .adr id i o => ∃ ob, st.H id = some ob ∧ ∃ d, ob.els[i]? = some d ∧ okT P t = true ∧ d.width = ob.S ∧ ∃ r, partOf d o (P.cellsOf t) (aggT P t) = some r ∧ K r
  | _ => False

/-- Reading a part of a value that lies in a row. -/
theorem run_loadPart {P : Program} {t : TypeId} (ht : okT P t = true) {ρ : Nat → Loc} {J : Nat → Prop} {w : World} {d r : D} {x : Value} {g b o : Nat}
    (hx : RelD ρ J w d x) (hw : x.cells.size = d.width) (hc : ∀ j u, x.cells.toList[j]? = some u → w.cell? ⟨g, b + j, none⟩ = some u)
    (hp : partOf d o (P.cellsOf t) (aggT P t) = some r) : ∃ y, (loadVar t ⟨g, b + o, none⟩).run P w = .ok y w ∧ RelD ρ J w r y := by
  obtain ⟨h1, h2⟩ := partOf_rel hx hw hp
  cases hag : aggT P t with
  | true =>
    obtain ⟨l, rfl, h3, h4⟩ := h1 hag
    have hcs : ∀ j u, (x.cells.extract o (o + P.cellsOf t)).toList[j]? = some u → w.cell? ⟨g, b + o + j, none⟩ = some u := by
      intro j u hu
      have : x.cells.toList[o + j]? = some u := by
        simp only [Array.toList_extract, List.extract_eq_take_drop, Nat.add_sub_cancel_left, List.getElem?_take] at hu
        split at hu
        · simpa using hu
        · cases hu
      have := hc (o + j) u this
      rw [← Nat.add_assoc] at this
      exact this
    rcases run_loadVar_at ht (g := g) (o := b + o) (cs := (x.cells.extract o (o + P.cellsOf t)).toList) (by simp; omega) hcs with h5 | ⟨h5, _⟩
    · rw [hag] at h5
      exact ⟨_, h5, by rw [if_pos rfl, Array.toArray_toList]; exact h4⟩
    · rw [hag] at h5; cases h5
  | false =>
    obtain ⟨h3, y, h4, h5⟩ := h2 hag
    have hcs : ∀ j u, [y][j]? = some u → w.cell? ⟨g, b + o + j, none⟩ = some u := by
      intro j u hu
      cases j with
      | zero =>
        simp only [List.getElem?_cons_zero, Option.some.injEq] at hu
        subst hu
        have := hc o y (by simpa using h4)
        simpa using this
      | succ j => simp at hu
    rcases run_loadVar_at ht (g := g) (o := b + o) (cs := [y]) (by simp [h3]) hcs with h6 | ⟨_, h6⟩
    · rw [hag] at h6
      exact ⟨y, by simpa using h6, h5⟩
    · exact absurd h3 h6

theorem opLoad_sound {P : Program} {o : Oper} {t : TypeId} {x : Operand} (ho : o.op = .load t x) {K : St → D → Prop} {st : St}
    (h : opLoad P t (st.ev x) (K st) st) : OpX P o K st := by
  intro J0 ρ J B w0 a w hs Kc Q hKc
  have hx := hs.ev x
  have fin : ∀ {ad : Addr} {y : Value} {r : D}, a.eval x = .pointer (some ad) → (loadVar t ad).run P w = .ok y w → RelD ρ J w r y → K st r → o.wp P a w Kc Q := by
    intro ad y r h1 h2 h3 h4
    refine wp_value ?_ (hKc st ρ J r y w h4 rfl hs h3)
    simp [execOp, ho, h1, Instr.loadAt, Instr.sureAddr, h2]
  unfold opLoad at h
  split at h
  · rename_i d hd
    obtain ⟨h1, h2, r, h3, h4⟩ := h
    rw [hd] at hx
    obtain ⟨b, off, z, h5, h6, h7, h8, h9⟩ := hx
    obtain ⟨y, h10, h11⟩ := run_loadPart (P := P) h1 (ρ := ρ) (g := b) (b := off) (RelP.toD h6) h7 h9 h3
    exact fin h5 (by simpa using h10) h11 h4
  · rename_i id i off hd
    obtain ⟨ob, h1, d, h2, h3, hwd, r, h4, h5⟩ := h
    rw [hd] at hx
    obtain ⟨g, h6, h7⟩ := hx
    have hob := hs.objs id ob h1
    obtain ⟨hcap, g', cur, vs, z, h8, h9, h10, h11, h12, h13, h14, h15, h16, h17⟩ := hob.elem h2
    rw [h6] at h8; cases h8
    have hS : (ρ id).S = ob.S := hob.1
    have hz := (h15 z (List.mem_of_getElem? h13)).1
    obtain ⟨y, h18, h19⟩ := run_loadPart (P := P) h3 (g := g) (b := i * ob.S) h14 (by rw [hz, hwd]) h17 h4
    exact fin h7 (by rw [hS]; exact h18) h19 h5
  · exact h.elim

/-- What can be put into cells. -/
def D.storable : D → Bool
  | .any => false
  | .tup _ => false
  | .v x => x.oneCell'
  | _ => true

theorem RelD_cells {ρ : Nat → Loc} {J : Nat → Prop} {w : World} {d : D} {x : Value} (h : RelD ρ J w d x) (hd : d.storable = true) :
    x.cells.size = d.width ∧ (∀ c ∈ x.cells.toList, c.oneCell' = true) ∧ (d.isAgg = false → x.cells = #[x]) := by
  cases d with
  | any => cases hd
  | v z => obtain ⟨rfl, h2⟩ := h; rw [h2]; exact ⟨rfl, by simpa using (show x.oneCell' = true from hd), fun _ => rfl⟩
  | nil0 => obtain ⟨a, rfl⟩ := h; exact ⟨rfl, by simp [Value.cells, Value.oneCell'], fun _ => rfl⟩
  | lst l => obtain ⟨a, c, vs, rfl, _⟩ := h; exact ⟨rfl, by simp [Value.cells, Value.oneCell'], fun _ => rfl⟩
  | agg l =>
    obtain ⟨vs, rfl, h2, h3⟩ := h
    exact ⟨by simp [Value.cells, D.width, (RelDs_get l vs h2).1], by simpa [Value.cells] using h3, by simp [D.isAgg]⟩
  | tup l => cases hd
  | ptr e => obtain ⟨b, o, z, rfl, _⟩ := h; exact ⟨rfl, by simp [Value.cells, Value.oneCell'], fun _ => rfl⟩
  | clos f caps => obtain ⟨vs, rfl, _⟩ := h; exact ⟨rfl, by simp [Value.cells, Value.oneCell'], fun _ => rfl⟩
  | ref id n => simp only [RelD] at h; subst h; exact ⟨rfl, by simp [Value.cells, Value.oneCell'], fun _ => rfl⟩
  | adr id i o => obtain ⟨g, _, rfl⟩ := h; exact ⟨rfl, by simp [Value.cells, Value.oneCell'], fun _ => rfl⟩

/-- d with v stored at cell o. -/
def setPart (d : D) (o : Nat) (v : D) : Option D :=
  match d, v with
  | .agg l, .agg m => if o + m.length ≤ l.length then some (.agg (l.take o ++ m ++ l.drop (o + m.length))) else none
  | .agg l, v => if o < l.length then some (.agg (l.set o v)) else none
  | _, .agg _ => none
  | _, v => if o = 0 then some v else none

theorem setPart_rel {ρ : Nat → Loc} {J : Nat → Prop} {w : World} {d v d' : D} {x y : Value} {o : Nat} (hx : RelD ρ J w d x) (hxw : x.cells.size = d.width) (hx1 : ∀ c ∈ x.cells.toList, c.oneCell' = true)
    (hy : RelD ρ J w v y) (hv : v.storable = true) (hs : setPart d o v = some d') :
    ∃ x', RelD ρ J w d' x' ∧ o + y.cells.size ≤ x.cells.size ∧ x'.cells.toList = x.cells.toList.take o ++ y.cells.toList ++ x.cells.toList.drop (o + y.cells.size) ∧ (∀ c ∈ x'.cells.toList, c.oneCell' = true) := by
  obtain ⟨hy1, hy2, hy3⟩ := RelD_cells hy hv
  cases hd : d.isAgg with
  | true =>
    cases d with
    | agg l =>
      obtain ⟨vs, rfl, h2, h3⟩ := hx
      have hl := (RelDs_get l vs h2).1
      cases hva : v.isAgg with
      | true =>
        cases v with
        | agg m =>
          simp only [setPart] at hs
          split at hs
          · rename_i hle
            cases hs
            obtain ⟨us, rfl, h4, h5⟩ := hy
            have hm := (RelDs_get m us h4).1
            refine ⟨.agg (vs.take o ++ us ++ vs.drop (o + m.length)).toArray, ⟨_, rfl, RelDs_app _ _ _ _ (RelDs_app _ _ _ _ (RelDs_take _ _ _ h2) h4) (RelDs_drop _ _ _ h2), ?_⟩, ?_, ?_, ?_⟩
            · intro c hc
              simp only [List.mem_append] at hc
              rcases hc with (hc | hc) | hc
              · exact h3 c (List.mem_of_mem_take hc)
              · exact h5 c hc
              · exact h3 c (List.mem_of_mem_drop hc)
            · simp [Value.cells]; omega
            · simp [Value.cells, hm]
            · intro c hc
              simp only [Value.cells, List.mem_append] at hc
              rcases hc with (hc | hc) | hc
              · exact h3 c (List.mem_of_mem_take hc)
              · exact h5 c hc
              · exact h3 c (List.mem_of_mem_drop hc)
          · cases hs
        | _ => cases hva
      | false =>
        have hs' : (if o < l.length then some (D.agg (l.set o v)) else none) = some d' := by cases v <;> first | exact hs | cases hva
        split at hs'
        · rename_i hlt
          cases hs'
          have hyc := hy3 hva
          refine ⟨.agg (vs.set o y).toArray, ⟨_, rfl, RelDs_set hy o l vs h2, ?_⟩, ?_, ?_, ?_⟩
          · intro c hc
            rcases List.mem_or_eq_of_mem_set hc with hc | hc
            · exact h3 c hc
            · subst hc; exact hy2 c (by rw [hyc]; simp)
          · rw [hyc]; simp [Value.cells]; omega
          · rw [hyc]; simp [Value.cells]
            exact List.set_eq_take_append_cons_drop.trans (by rw [if_pos (by omega)])
          · intro c hc
            simp only [Value.cells] at hc
            rcases List.mem_or_eq_of_mem_set hc with hc | hc
            · exact h3 c hc
            · subst hc; exact hy2 c (by rw [hyc]; simp)
        · cases hs'
    | _ => cases hd
  | false =>
    have hs' : v.isAgg = false ∧ (if o = 0 then some v else none) = some d' := by
      cases d <;> first | (cases hd; done) | (cases v <;> first | exact ⟨rfl, hs⟩ | cases hs)
    obtain ⟨hva, hs'⟩ := hs'
    split at hs'
    · rename_i ho
      subst ho
      cases hs'
      have hyc := hy3 hva
      obtain ⟨z, hz, _⟩ := RelD_one hx hd hxw
      exact ⟨y, hy, by rw [hyc, hz]; simp, by rw [hyc, hz]; simp, hy2⟩
    · cases hs'

theorem take_store {α : Type} (A Y : List α) (L p off S : Nat) (hL : L ≤ A.length) (hp : p + S ≤ L) (ho : off + Y.length ≤ S) :
  (A.take (p + off) ++ Y ++ A.drop (p + off + Y.length)).take L = (A.take L).take p ++ (((A.drop p).take S).take off ++ Y ++ ((A.drop p).take S).drop (off + Y.length)) ++ (A.take L).drop (p + S) := by
  apply List.ext_getElem?
  intro k
  simp only [List.getElem?_append, List.getElem?_take, List.getElem?_drop, List.length_append, List.length_take, List.length_drop]
  grind
theorem flat_mid {α : Type} (F zc : List α) (p S : Nat) (hz : zc.length = S) (h : ∀ j, j < S → F[p + j]? = zc[j]?) : (F.drop p).take S = zc := by
  apply List.ext_getElem?
  intro k
  simp only [List.getElem?_take, List.getElem?_drop]
  grind

def opStore (P : Program) (t : TypeId) (x v : D) (K : St → Prop) (st : St) : Prop :=
  match x with
  | .adr id i o => ∃ ob, st.H id = some ob ∧ ∃ d, ob.els[i]? = some d ∧ okT P t = true ∧ d.width = ob.S ∧ v.storable = true ∧ v.width = P.cellsOf t ∧ ∃ d', setPart d o v = some d' ∧ K (st.obj id { ob with els := ob.els.set i d' })
  | _ => False

theorem run_storeVar_at {P : Program} {t : TypeId} (ht : okT P t = true) {w : World} {g o : Nat} {e : TypeId} {cur : Array Value} {y : Value} (hy : y.cells.size = P.cellsOf t) (hy1 : ∀ c ∈ y.cells.toList, c.oneCell' = true)
    (hg : w.heap[g]? = some (.cells cur e (0, 0))) (hfit : o + y.cells.size ≤ cur.size) :
    (storeVar t ⟨g, o, none⟩ y).run P w = .ok () (w.setRow g (cur.toList.take o ++ y.cells.toList ++ cur.toList.drop (o + y.cells.size)).toArray) := by
  obtain ⟨h1, _⟩ := okT_spec ht
  have hst := run_storeCells_at P g o e y.cells.toList 0 cur w hg (by simpa using hfit) hy1
  simp only [Nat.add_zero, Array.length_toList] at hst
  simp [storeVar, run_size h1, hy] at hst ⊢
  exact hst

theorem grownBy_setRow (w : World) (g : Nat) (cs : Array Value) : w.grownBy (w.setRow g cs) (some g) :=
  ⟨rfl, rfl, rfl, by simp, fun k _ hk => setRow_other w g k _ (fun e => hk (by rw [e]))⟩

theorem RelDs_mem_set {S : Nat} {vs : List Value} (h : ∀ x ∈ vs, x.cells.size = S ∧ ∀ c ∈ x.cells.toList, c.oneCell' = true) {i : Nat} {y : Value} (hy : y.cells.size = S ∧ ∀ c ∈ y.cells.toList, c.oneCell' = true) :
    ∀ x ∈ vs.set i y, x.cells.size = S ∧ ∀ c ∈ x.cells.toList, c.oneCell' = true := by
  intro x hx
  rcases List.mem_or_eq_of_mem_set hx with hx | hx
  · exact h x hx
  · subst hx; exact hy

theorem opStore_sound {P : Program} {o : Oper} {t : TypeId} {x v : Operand} (ho : o.op = .store t x v) {K : St → D → Prop} {st : St}
    (h : opStore P t (st.ev x) (st.ev v) (fun s => K s .any) st) : OpX P o K st := by
  intro J0 ρ J B w0 a w hs Kc Q hKc
  have hx := hs.ev x
  have hv := hs.ev v
  unfold opStore at h
  split at h
  · rename_i id i off hd
    obtain ⟨ob, h1, d, h2, h3, hwd, h4, h5, d', h6, h7⟩ := h
    rw [hd] at hx
    obtain ⟨g, ha, hev⟩ := hx
    have hob := hs.objs id ob h1
    obtain ⟨hcap, g', cur, vs, z, h8, h9, h10, h11, h12, h13, h14, h15, h16, h17⟩ := hob.elem h2
    rw [ha] at h8; cases h8
    have hS : (ρ id).S = ob.S := hob.1
    obtain ⟨hz, hz1⟩ := h15 z (List.mem_of_getElem? h13)
    obtain ⟨z', h18, h19, h20, h21⟩ := setPart_rel h14 (by rw [hz, hwd]) hz1 hv h4 h6
    obtain ⟨hy1, hy2, _⟩ := RelD_cells hv h4
    have hi : i < ob.els.length := (List.getElem?_eq_some_iff.1 h2).1
    have hSp : 0 < ob.S := hob.2.1
    have hlen : ob.els.length * ob.S ≤ cur.size := by rw [h11]; exact Nat.mul_le_mul_right _ hob.2.2.1
    have hi1 : (i + 1) * ob.S ≤ ob.els.length * ob.S := Nat.mul_le_mul_right _ hi
    rw [Nat.add_mul, Nat.one_mul] at hi1
    have hfit : i * ob.S + off + (a.eval v).cells.size ≤ cur.size := by omega
    have hr := run_storeVar_at h3 (y := a.eval v) (o := i * ob.S + off) (by rw [hy1, h5]) hy2 h10 hfit
    have hz's : z'.cells.size = ob.S := by
      have := congrArg List.length h20
      simp only [Array.length_toList, List.length_append, List.length_take, List.length_drop] at this
      omega
    refine wp_skip' (w' := w.setRow g (cur.toList.take (i * ob.S + off) ++ (a.eval v).cells.toList ++ cur.toList.drop (i * ob.S + off + (a.eval v).cells.size)).toArray) ?_ (hKc _ ρ J .any undef _ h7 rfl ?_ trivial)
    · simp [execOp, ho, hev, Instr.storeAt, Instr.sureAddr, hS, hr]
    · refine hs.modobj id ob _ g h1 hcap ha (grownBy_setRow w g _) ?_
      have hJ : ∀ b, J b → (w.setRow g (cur.toList.take (i * ob.S + off) ++ (a.eval v).cells.toList ++ cur.toList.drop (i * ob.S + off + (a.eval v).cells.size)).toArray).heap[b]? = w.heap[b]? := by
        intro b hb; exact setRow_other w g b _ (fun e => h9 (e ▸ hb))
      refine ⟨hob.1, hSp, by simpa using hob.2.2.1, hob.2.2.2.1, by simpa using hob.2.2.2.2.1, vs.set i z', RelDs.mono (fun _ => rfl) (fun _ h => h) hJ _ _ (RelDs_set h18 i _ _ h12), RelDs_mem_set h15 ⟨hz's, h21⟩, .inr ⟨hcap, g, _, ha, h9, setRow_heap w g cur _ ob.e _ h10, ?_, ?_⟩⟩
      · simp only [List.size_toArray, List.length_append, List.length_take, List.length_drop, Array.length_toList]
        rw [← h11]
        omega
      · show _ = flat (vs.set i z')
        rw [flat_set vs (fun y hy => (h15 y hy).1) i z z' h13 hz's, h20, ← h16]
        have hzl : z.cells.toList.length = ob.S := by simpa using hz
        have hmid : (cur.toList.drop (i * ob.S)).take ob.S = z.cells.toList := by
          refine flat_mid cur.toList z.cells.toList (i * ob.S) ob.S hzl fun j hj => ?_
          have hf := flat_get vs (fun y hy => (h15 y hy).1) i j z h13 hj
          rw [← h16, List.getElem?_take, if_pos (by omega)] at hf
          exact hf
        have := take_store cur.toList (a.eval v).cells.toList (ob.els.length * ob.S) (i * ob.S) off ob.S (by simpa using hlen) (by omega) (by simp; omega)
        rw [hmid] at this
        simpa using this
  · exact h.elim

end Go.VL
