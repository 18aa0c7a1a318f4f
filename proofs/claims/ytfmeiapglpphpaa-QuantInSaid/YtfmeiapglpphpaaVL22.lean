import Derived.Test.YtfmeiapglpphpaaVL21
/- Aids for the walks: tests told as propositions, loops with what stays as it was, calls and returns. -/
namespace Go.VL
open Go Go.RowKit

theorem condI_dec {c : Prop} [Decidable c] {p q : KP} (h1 : c → decide c = true → p.f) (h2 : ¬ c → decide c = false → q.f) : @condI (.v (.bool (decide c))) p q :=
  condI_split (fun h => h1 (of_decide_eq_true h) h) (fun h => h2 (of_decide_eq_false h) h)
theorem condI_beq {α : Type} [BEq α] [LawfulBEq α] {a b : α} {p q : KP} (h1 : a = b → (a == b) = true → p.f) (h2 : a ≠ b → (a == b) = false → q.f) : @condI (.v (.bool (a == b))) p q :=
  condI_split (fun h => h1 (eq_of_beq h) h) (fun h => h2 (by simpa using h) h)
theorem condI_bne {α : Type} [BEq α] [LawfulBEq α] {a b : α} {p q : KP} (h1 : a ≠ b → (a != b) = true → p.f) (h2 : a = b → (a != b) = false → q.f) : @condI (.v (.bool (a != b))) p q :=
  condI_split (fun h => h1 (by simpa using h) h) (fun h => h2 (by simpa using h) h)
theorem condI_not {b : Bool} {p q : KP} : @condI (.v (.bool (!b))) p q = @condI (.v (.bool b)) q p := by
  cases b <;> simp [condI_true, condI_false]
theorem condI_b {b : Bool} {p q : KP} (h1 : b = true → p.f) (h2 : b = false → q.f) : @condI (.v (.bool b)) p q := ⟨h1, h2⟩
theorem reqI_t {p : Prop} {q : KP} (h : p) : @reqI p q = q.f := by simp [reqI, h]

/-- Slots that are as they were in another state. -/
def KeepS (s s0 : St) : List Nat → Prop
  | [] => True
  | j :: l => s.t j = s0.t j ∧ KeepS s s0 l
def KeepH (s s0 : St) : List Nat → Prop
  | [] => True
  | j :: l => s.H j = s0.H j ∧ KeepH s s0 l
theorem KeepS_nil {s s0 : St} : KeepS s s0 [] = True := (rfl)
theorem KeepS_cons {s s0 : St} {j : Nat} {l : List Nat} : KeepS s s0 (j :: l) = (s.t j = s0.t j ∧ KeepS s s0 l) := (rfl)
theorem KeepH_nil {s s0 : St} : KeepH s s0 [] = True := (rfl)
theorem KeepH_cons {s s0 : St} {j : Nat} {l : List Nat} : KeepH s s0 (j :: l) = (s.H j = s0.H j ∧ KeepH s s0 l) := (rfl)
theorem KeepS_refl (s : St) : ∀ l, KeepS s s l
  | [] => trivial
  | _ :: l => ⟨rfl, KeepS_refl s l⟩
theorem KeepH_refl (s : St) : ∀ l, KeepH s s l
  | [] => trivial
  | _ :: l => ⟨rfl, KeepH_refl s l⟩

/-- What holds at a loop's head, of a state that x tells. -/
def AtL {σ : Type} (V : σ → List (Nat × D)) (W : σ → List (Nat × Own)) (keep hkeep : List Nat) (s0 : St) (x : σ) (s : St) : Prop :=
  s.n = s0.n ∧ Slots s (V x) ∧ Heaps s (W x) ∧ KeepS s s0 keep ∧ KeepH s s0 hkeep

def AgainW {σ : Type} (μ : σ → Nat) (Q : σ → Prop) (V : σ → List (Nat × D)) (W : σ → List (Nat × Own)) (keep hkeep : List Nat) (s0 : St) (x : σ) (s : St) : Prop :=
  ∃ x' s', μ x' < μ x ∧ Q x' ∧ Weak s s' ∧ AtL V W keep hkeep s0 x' s'
/-- The same, out of simp's sight. -/
def AgI (s : St) [K : KN] : Prop := K.f s
theorem AgainW.to {σ : Type} {μ : σ → Nat} {Q : σ → Prop} {V : σ → List (Nat × D)} {W : σ → List (Nat × Own)} {keep hkeep : List Nat} {s0 : St} {x : σ} {s : St} (x' : σ) (h : μ x' < μ x) (hQ : Q x')
    (hs : AtL V W keep hkeep s0 x' s) : @AgI s ⟨AgainW μ Q V W keep hkeep s0 x⟩ := ⟨x', s, h, hQ, Weak.refl _, hs⟩
theorem AgainW.weak {σ : Type} {μ : σ → Nat} {Q : σ → Prop} {V : σ → List (Nat × D)} {W : σ → List (Nat × Own)} {keep hkeep : List Nat} {s0 : St} {x : σ} {s s' : St} (x' : σ) (hw : Weak s s') (h : μ x' < μ x) (hQ : Q x')
    (hs : AtL V W keep hkeep s0 x' s') : @AgI s ⟨AgainW μ Q V W keep hkeep s0 x⟩ := ⟨x', s', h, hQ, hw, hs⟩

/-- A loop: what x tells of the slots that a round writes; what is kept; a measure. -/
theorem awpI_while {P : Program} {c : Code} {N R : KN} {X : KX} {st : St} {σ : Type} (μ : σ → Nat) (Q : σ → Prop) (V : σ → List (Nat × D)) (W : σ → List (Nat × Own)) (keep hkeep : List Nat) (x0 : σ) (s0 : St) (hw : Weak st s0)
    (hQ : Q x0) (hV : Slots s0 (V x0)) (hW : Heaps s0 (W x0))
    (hr : ∀ x s, Q x → AtL V W keep hkeep s0 x s → @awpI P c s ⟨fun s => @AgI s ⟨AgainW μ Q V W keep hkeep s0 x⟩⟩ X R) : @awpI P (.loop c) st N X R := by
  refine awpI_loop (fun n s => ∃ x, n = μ x ∧ Q x ∧ AtL V W keep hkeep s0 x s) (μ x0) s0 hw ⟨x0, rfl, hQ, rfl, hV, hW, KeepS_refl _ _, KeepH_refl _ _⟩ ?_
  rintro n s ⟨x, rfl, hq, hs⟩
  have key : @awpI P c s ⟨AgainW μ Q V W keep hkeep s0 x⟩ X R := hr x s hq hs
  have e : (AgainW μ Q V W keep hkeep s0 x) = fun s' => ∃ m s'', m < μ x ∧ Weak s' s'' ∧ ∃ x', m = μ x' ∧ Q x' ∧ AtL V W keep hkeep s0 x' s'' := by
    funext s'
    apply propext
    constructor
    · rintro ⟨x', s'', h1, h2, h3, h4⟩; exact ⟨μ x', s'', h1, h3, x', rfl, h2, h4⟩
    · rintro ⟨m, s'', h1, h3, x', rfl, h2, h4⟩; exact ⟨x', s'', h1, h2, h3, h4⟩
  rw [e] at key
  exact key

/-- A loop that counts up to n. -/
theorem awpI_for {P : Program} {c : Code} {N R : KN} {X : KX} {st : St} (n : Nat) (Q : Nat → Prop) (V : Nat → List (Nat × D)) (W : Nat → List (Nat × Own)) (keep hkeep : List Nat) (s0 : St) (hw : Weak st s0)
    (hQ : Q 0) (hV : Slots s0 (V 0)) (hW : Heaps s0 (W 0))
    (hr : ∀ k s, k ≤ n → Q k → AtL V W keep hkeep s0 k s → @awpI P c s ⟨fun s => @AgI s ⟨AgainW (fun k => n - k) (fun k => k ≤ n ∧ Q k) V W keep hkeep s0 k⟩⟩ X R) : @awpI P (.loop c) st N X R :=
  awpI_while (fun k => n - k) (fun k => k ≤ n ∧ Q k) V W keep hkeep 0 s0 hw ⟨Nat.zero_le _, hQ⟩ hV hW fun k s hq hs => hr k s hq.1 hq.2 hs
theorem Again.up {n : Nat} {Q : Nat → Prop} {V : Nat → List (Nat × D)} {W : Nat → List (Nat × Own)} {keep hkeep : List Nat} {s0 : St} {k : Nat} {s : St} (h : k < n) (hQ : Q (k + 1))
    (hs : AtL V W keep hkeep s0 (k + 1) s) : @AgI s ⟨AgainW (fun k => n - k) (fun k => k ≤ n ∧ Q k) V W keep hkeep s0 k⟩ := ⟨k + 1, s, by show n - (k + 1) < n - k; omega, ⟨h, hQ⟩, Weak.refl _, hs⟩

section
variable {P : Program} {st : St} {KS : KSD} {id : Nat}
theorem opCallI_to {g : FuncId} {caps args as : List D} {R : D → Prop} (h1 : D.idss (args ++ caps) = []) (h2 : D.noRefs (args ++ caps) = true) (e : D.nrms (args ++ caps) = as) (hf : Fun P g as R)
    (hk : ∀ r, R r → KS.f st r) : @opCallI P (.clos (.func g) caps) args id st KS := opCallI_plain h1 h2 (e ▸ hf) hk
theorem opCallI_ownTo {g : FuncId} {caps args as : List D} {R : D → Option Own → Prop} (h1 : D.idss (args ++ caps) = []) (h2 : D.noRefs (args ++ caps) = true) (e : D.nrms (args ++ caps) = as) (hf : FunO P g as R)
    (hk : ∀ r o, R r o → match o with | none => KS.f st r | some o => KS.f ((st.killed id).obj id o) (r.ren id)) : @opCallI P (.clos (.func g) caps) args id st KS := opCallI_own_plain h1 h2 (e ▸ hf) hk
end

section
variable {P : Program} {st : St} {KS : KSD} {id : Nat}
/-- A call that only looks at what is owned: its result is plain. -/
theorem opCallI_rd {g : FuncId} {caps args as : List D} {R : D → Prop} (h : @bindI _ (frzAll (D.idss (args ++ caps)) st (args ++ caps)) ⟨fun p => D.noRefs p.2 = true ∧ D.nrms p.2 = as⟩) (hf : Fun P g as R)
    (hfl : ∀ r, R r → r.flat = true) (hk : ∀ r, R r → KS.f st r) : @opCallI P (.clos (.func g) caps) args id st KS := by
  unfold bindI at h
  rw [bindP_eq] at h
  obtain ⟨p, h1, h2, h3⟩ := h
  refine opCallI_of h1 h2 (h3 ▸ hf) fun r hr => ?_
  rw [if_pos (hfl r hr)]
  exact hk r hr
/-- A call that is given what is owned. -/
theorem opCallI_gv {g : FuncId} {caps args as : List D} {st' : St} {R : D → Prop} (h : @bindI _ (frzAll (D.idss (args ++ caps)) st (args ++ caps)) ⟨fun p => D.noRefs p.2 = true ∧ D.nrms p.2 = as ∧ p.1 = st'⟩) (hf : Fun P g as R)
    (hk : ∀ r, R r → KS.f (if r.flat then st else st') r) : @opCallI P (.clos (.func g) caps) args id st KS := by
  unfold bindI at h
  rw [bindP_eq] at h
  obtain ⟨p, h1, h2, h3, h4⟩ := h
  refine opCallI_of h1 h2 (h3 ▸ hf) fun r hr => ?_
  have := hk r hr
  rw [h4]; exact this
theorem opCallI_ownGv {g : FuncId} {caps args as : List D} {st' : St} {R : D → Option Own → Prop} (h : @bindI _ (frzAll (D.idss (args ++ caps)) st (args ++ caps)) ⟨fun p => D.noRefs p.2 = true ∧ D.nrms p.2 = as ∧ p.1 = st'⟩) (hf : FunO P g as R)
    (hk : ∀ r o, R r o → match o with | none => KS.f st' r | some o => KS.f ((st'.killed id).obj id o) (r.ren id)) : @opCallI P (.clos (.func g) caps) args id st KS := by
  unfold bindI at h
  rw [bindP_eq] at h
  obtain ⟨p, h1, h2, h3, h4⟩ := h
  subst h4
  exact opCallI_own h1 h2 (h3 ▸ hf) hk
end

/-- A result, handed over as what it is: owned where it is one owned list. -/
def retO (st : St) (ds : List D) (R : D → Option Own → Prop) : List Nat → Prop
  | [] => D.noRefs ds = true ∧ R (pack ds) none
  | id :: l => (∀ i ∈ l, i = id) ∧ ∃ o, st.H id = some o ∧ D.noRefs o.els = true ∧ R (pack (D.rens 0 ds)) (some o)
theorem RetO_calc {P : Program} {fn : Func} {R : D → Option Own → Prop} {st : St} {rs : List ResultVar} (h : fn.results = rs.toArray)
    (hr : @bindI _ (resDs P st rs) ⟨fun ds => retO st ds R (D.idss ds)⟩) : RetO P fn R st := by
  unfold bindI at hr
  rw [bindP_eq] at hr
  obtain ⟨ds, h1, h2⟩ := hr
  have h2 : retO st ds R (D.idss ds) := h2
  cases hi : D.idss ds with
  | nil =>
    rw [hi] at h2
    obtain ⟨h3, h4⟩ := h2
    exact RetO_plain h h1 (st, ds) (by rw [hi]; rfl) h3 h4
  | cons id l =>
    rw [hi] at h2
    obtain ⟨h3, o, h4, h5, h6⟩ := h2
    refine RetO_own h h1 id o h4 h5 [] (st, ds) rfl h4 ?_ h6
    rw [hi]
    intro i hm
    rcases List.mem_cons.1 hm with h | h
    · exact h
    · exact h3 i h
theorem idss_set : ∀ (l : List D) (k : Nat) (n : Nat), D.noRefs l = true → ∀ i ∈ D.idss (l.set k (.ref 0 n)), i = 0
  | [], _, _, _, i, h => by simp [D.idss] at h
  | d :: ds, 0, n, hn, i, h => by
    have hn' : d.noRef = true ∧ D.noRefs ds = true := by simpa [D.noRefs] using hn
    rw [List.set_cons_zero, D.idss, D.noRefs_ids ds hn'.2] at h
    simpa [D.ids] using h
  | d :: ds, k + 1, n, hn, i, h => by
    have hn' : d.noRef = true ∧ D.noRefs ds = true := by simpa [D.noRefs] using hn
    rw [List.set_cons_succ, D.idss, D.noRef_ids d hn'.1, List.nil_append] at h
    exact idss_set ds k n hn'.2 i h
/-- Of several results one is owned in any case: where nothing is handed over it is nil, and empty. -/
theorem FunO.uni {P : Program} {f : FuncId} {args : List D} {R R' : D → Option Own → Prop} (k : Nat) (e : TypeId) {S : Nat} (hS : 0 < S) (h : FunO P f args R)
    (hR : ∀ r o, R r o → (∃ ds, r = .tup ds ∧ o = none ∧ ds[k]? = some (.v (.slice none 0 0)) ∧ R' (.tup ((D.nrms ds).set k (.ref 0 0))) (some ⟨e, S, []⟩)) ∨ R' r o) : FunO P f args R' := by
  refine ⟨h.1, fun J w vs hJ hv => (h.2 J w vs hJ hv).mono ?_⟩
  rintro _ w' ⟨y, r, o, rfl, hr, hb, J', loc, k1, k2, k3, k4, k5⟩
  rcases hR r o hr with ⟨ds, rfl, rfl, hk, hr'⟩ | hr'
  · have hn : D.noRefs ds = true := k5
    obtain ⟨us, rfl, hu⟩ := k3
    obtain ⟨x, hx1, hx2⟩ := (RelDs_get _ _ hu).2 k _ hk
    have hx3 : x = .slice none 0 0 := hx2.1
    subst hx3
    have hP := (RelDs.toP hu hn).nrm
    refine ⟨_, _, _, rfl, hr', hb, J', ⟨none, 0, S⟩, k1, k2, ⟨us, rfl, ?_⟩, ?_, rfl, ⟨rfl, hS, Nat.zero_le _, Nat.zero_le _, Nat.zero_le _, [], rfl, (fun _ h => by cases h), .inl ⟨rfl, rfl⟩⟩, fun g hg => by cases hg⟩
    · have := RelDs_set (ρ := fun _ => ⟨none, 0, S⟩) (J := J') (w := w') (d := .ref 0 0) (x := .slice none 0 0) rfl k _ _ (RelPs.toD hP)
      have e2 : us.set k (.slice none 0 0) = us := by
        obtain ⟨hlt, he⟩ := List.getElem?_eq_some_iff.1 hx1
        rw [← he]; exact List.set_getElem_self hlt
      rw [e2] at this
      exact this
    · intro i hi
      exact idss_set _ k 0 (D.noRefs_nrm ds hn) i (by simpa [D.ids] using hi)
  · exact ⟨y, r, o, rfl, hr', hb, J', loc, k1, k2, k3, k4, k5⟩
theorem retO_nil {R : D → Option Own → Prop} {st : St} {ds : List D} : retO st ds R [] = (D.noRefs ds = true ∧ R (pack ds) none) := (rfl)
theorem retO_cons {R : D → Option Own → Prop} {st : St} {ds : List D} {id : Nat} {l : List Nat} : retO st ds R (id :: l) = ((∀ i ∈ l, i = id) ∧ @bindI _ (st.H id) ⟨fun o => @reqI (D.noRefs o.els = true) ⟨R (pack (D.rens 0 ds)) (some o)⟩⟩) := by
  simp only [bindI, bindP_eq, reqI, retO]

theorem condI_dec_t {c : Prop} [Decidable c] {p q : KP} (h : c) : @condI (.v (.bool (decide c))) p q = p.f := by rw [decide_eq_true h, condI_true]
theorem condI_dec_f {c : Prop} [Decidable c] {p q : KP} (h : ¬ c) : @condI (.v (.bool (decide c))) p q = q.f := by rw [decide_eq_false h, condI_false]
theorem condI_beq_t {a b : Int} {p q : KP} (h : a = b) : @condI (.v (.bool (a == b))) p q = p.f := by subst h; rw [beq_self_eq_true, condI_true]
theorem condI_beq_f {a b : Int} {p q : KP} (h : ¬ a = b) : @condI (.v (.bool (a == b))) p q = q.f := by rw [beq_eq_false_iff_ne.2 h, condI_false]
theorem condI_bne_t {a b : Int} {p q : KP} (h : ¬ a = b) : @condI (.v (.bool (a != b))) p q = p.f := by rw [bne_iff_ne.2 h, condI_true]
theorem condI_bne_f {a b : Int} {p q : KP} (h : a = b) : @condI (.v (.bool (a != b))) p q = q.f := by subst h; rw [bne_self_eq_false, condI_false]
theorem elt_ints {K : IntKind} {l : List Int} {i : Nat} (h : i < l.length) : (ints K l)[i]? = some (.v (.int K (l.getD i 0))) := ints_get h
theorem elt_rows {K : IntKind} {l : List (List Int)} {i : Nat} (h : i < l.length) : (rows K l)[i]? = some (.lst (ints K (l.getD i []))) := rows_get h
theorem tdiv_pos {a b : Int} (h : 0 ≤ a) : a.tdiv b = a / b := Int.tdiv_eq_ediv_of_nonneg h
theorem tmod_pos {a b : Int} (h : 0 ≤ a) : a.tmod b = a % b := Int.tmod_eq_emod_of_nonneg h
theorem setPart_vv {a b : Value} : setPart (.v a) 0 (.v b) = some (.v b) := (rfl)
theorem setPart_vl {a : Value} {l : List D} : setPart (.v a) 0 (.lst l) = some (.lst l) := (rfl)
theorem setPart_vr {a : Value} {i n : Nat} : setPart (.v a) 0 (.ref i n) = some (.ref i n) := (rfl)
theorem setPart_ll {l m : List D} : setPart (.lst m) 0 (.lst l) = some (.lst l) := (rfl)
theorem setPart_lr {l : List D} {i n : Nat} : setPart (.lst l) 0 (.ref i n) = some (.ref i n) := (rfl)
theorem setPart_rr {j m i n : Nat} : setPart (.ref j m) 0 (.ref i n) = some (.ref i n) := (rfl)
theorem setPart_rl {j m : Nat} {l : List D} : setPart (.ref j m) 0 (.lst l) = some (.lst l) := (rfl)
theorem setPart_lv {l : List D} {a : Value} : setPart (.lst l) 0 (.v a) = some (.v a) := (rfl)
theorem setPart_av {l : List D} {o : Nat} {b : Value} : setPart (.agg l) o (.v b) = if o < l.length then some (.agg (l.set o (.v b))) else none := (rfl)
theorem setPart_al {l m : List D} {o : Nat} : setPart (.agg l) o (.lst m) = if o < l.length then some (.agg (l.set o (.lst m))) else none := (rfl)
theorem setPart_ar {l : List D} {o i n : Nat} : setPart (.agg l) o (.ref i n) = if o < l.length then some (.agg (l.set o (.ref i n))) else none := (rfl)
theorem setPart_aa {l m : List D} {o : Nat} : setPart (.agg l) o (.agg m) = if o + m.length ≤ l.length then some (.agg (l.take o ++ m ++ l.drop (o + m.length))) else none := (rfl)
theorem vdec_t {c : Prop} [Decidable c] (h : c) : D.v (.bool (decide c)) = D.v (.bool true) := by rw [decide_eq_true h]
theorem vdec_f {c : Prop} [Decidable c] (h : ¬ c) : D.v (.bool (decide c)) = D.v (.bool false) := by rw [decide_eq_false h]
theorem vbeq_t {a b : Int} (h : a = b) : D.v (.bool (a == b)) = D.v (.bool true) := by subst h; rw [beq_self_eq_true]
theorem vbeq_f {a b : Int} (h : ¬ a = b) : D.v (.bool (a == b)) = D.v (.bool false) := by rw [beq_eq_false_iff_ne.2 h]
theorem vbne_t {a b : Int} (h : ¬ a = b) : D.v (.bool (a != b)) = D.v (.bool true) := by rw [bne_iff_ne.2 h]
theorem vbne_f {a b : Int} (h : a = b) : D.v (.bool (a != b)) = D.v (.bool false) := by subst h; rw [bne_self_eq_false]
section
variable {x y : D}
theorem pick_dec_t {c : Prop} [Decidable c] (h : c) : (if decide c = true then x else y) = x := by rw [if_pos (decide_eq_true h)]
theorem pick_dec_f {c : Prop} [Decidable c] (h : ¬ c) : (if decide c = true then x else y) = y := by rw [if_neg (by simp [h])]
theorem pick_beq_t {a b : Int} (h : a = b) : (if (a == b) = true then x else y) = x := by subst h; simp
theorem pick_beq_f {a b : Int} (h : ¬ a = b) : (if (a == b) = true then x else y) = y := by simp [h]
theorem pick_bne_t {a b : Int} (h : ¬ a = b) : (if (a != b) = true then x else y) = x := by simp [h]
theorem pick_bne_f {a b : Int} (h : a = b) : (if (a != b) = true then x else y) = y := by simp [h]
end
/-- What is nil is a list with nothing in it. -/
theorem Weak.lst0 {st : St} (j : Nat) (h : st.t j = .v (.slice none 0 0)) : Weak st { st with t := upd st.t j (.lst []) } := by
  intro J0 ρ J B w0 a w hs
  refine ⟨ρ, J, { hs with slots := fun i => ?_ }⟩
  by_cases hi : i = j
  · subst hi
    simp only [upd_same]
    have := hs.slots i
    rw [h] at this
    rw [this.1]
    exact RelP_nil none
  · simp only [upd_ne _ _ _ _ hi]
    exact hs.slots i
theorem upd_t {f : Nat → D} {j k : Nat} {x : D} : upd f j x k = if k = j then x else f k := (rfl)
theorem mk_t {t : Nat → D} {H : Nat → Option Own} {n k : Nat} : (⟨t, H, n⟩ : St).t k = t k := (rfl)
theorem nat_succ {k : Nat} : ((k : Int) + 1) = ((k + 1 : Nat) : Int) := rfl
end Go.VL
