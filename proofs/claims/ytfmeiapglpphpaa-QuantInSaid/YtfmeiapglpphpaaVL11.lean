import Derived.Test.YtfmeiapglpphpaaVL10
import Derived.Orders
/- Calls by contract; one operation; a text. -/
namespace Go.VL
open Go Go.RowKit

def callable (P : Program) (f : FuncId) : Bool :=
  match P.funcs[f]? with
  | some fn => fn.name != "runtime.NumGoroutine" && fn.body.isSome
  | none => false

/-- WHAT A FUNCTION DOES, over values without memory: called with what reads as args it returns something that reads as a value that meets R; nothing that was there has turned. -/
def Fun (P : Program) (f : FuncId) (args : List D) (R : D → Prop) : Prop :=
  callable P f = true ∧ ∀ (J : Nat → Prop) (w : World) (vs : List Value), (∀ b, J b → b < w.heap.size) → RelPs J w args vs →
    Calls P f vs.toArray w fun e w' => ∃ y r, e = .returned y ∧ R r ∧ Below w.heap.size w w' ∧ RelP (fun b => J b ∨ (w.heap.size ≤ b ∧ b < w'.heap.size)) w' r y

theorem Fun.mono {P : Program} {f : FuncId} {args : List D} {R R' : D → Prop} (h : Fun P f args R) (hr : ∀ r, R r → R' r) : Fun P f args R' :=
  ⟨h.1, fun J w vs hJ hv => (h.2 J w vs hJ hv).mono fun _ _ ⟨y, r, h1, h2, h3, h4⟩ => ⟨y, r, h1, hr r h2, h3, h4⟩⟩

mutual
def D.flat : D → Bool
  | .v _ => true
  | .any => true
  | .agg l => D.flats l
  | .tup l => D.flats l
  | _ => false
def D.flats : List D → Bool
  | [] => true
  | d :: ds => d.flat && D.flats ds
end

mutual
theorem RelP.flat_mono {J J' : Nat → Prop} {w w' : World} : ∀ {d : D} {y : Value}, RelP J w d y → d.flat = true → RelP J' w' d y
  | .any, _, _, _ => trivial
  | .v _, _, h, _ => h
  | .agg l, y, h, hf => by
    obtain ⟨vs, h1, h2, h3⟩ := h
    exact ⟨vs, h1, RelPs.flat_mono h2 hf, h3⟩
  | .tup l, y, h, hf => by
    obtain ⟨vs, h1, h2⟩ := h
    exact ⟨vs, h1, RelPs.flat_mono h2 hf⟩
  | .nil0, _, _, hf => by cases hf
  | .lst _, _, _, hf => by cases hf
  | .ptr _, _, _, hf => by cases hf
  | .clos _ _, _, _, hf => by cases hf
  | .ref _ _, _, _, hf => by cases hf
  | .adr _ _ _, _, _, hf => by cases hf
theorem RelPs.flat_mono {J J' : Nat → Prop} {w w' : World} : ∀ {l : List D} {vs : List Value}, RelPs J w l vs → D.flats l = true → RelPs J' w' l vs
  | [], _, h, _ => h
  | d :: ds, vs, h, hf => by
    obtain ⟨x, xs, h1, h2, h3⟩ := h
    have hf' : d.flat = true ∧ D.flats ds = true := by simpa [D.flats] using hf
    exact ⟨x, xs, h1, RelP.flat_mono h2 hf'.1, RelPs.flat_mono h3 hf'.2⟩
end

mutual
def D.ids : D → List Nat
  | .ref i _ => [i]
  | .adr i _ _ => [i]
  | .agg l => D.idss l
  | .tup l => D.idss l
  | .clos _ l => D.idss l
  | _ => []
def D.idss : List D → List Nat
  | [] => []
  | d :: ds => d.ids ++ D.idss ds
end

def frzAll : List Nat → St → List D → Option (St × List D)
  | [], st, l => some (st, l)
  | id :: ids, st, l =>
    match st.H id with
    | none => frzAll ids st l
    | some o => if D.noRefs o.els && o.els.all (fun d => d.width == o.S) then frzAll ids (st.frozen id (D.nrms o.els)) (D.frzs id (D.nrms o.els) l) else none

theorem frzAll_sim {J0 : Nat → Prop} {ρ : Nat → Loc} {B : Nat} {w0 : World} {a : Act} {w : World} : ∀ (ids : List Nat) (J : Nat → Prop) (st : St) (l : List D) (vs : List Value) (p : St × List D), Sim J0 ρ J B w0 st a w → RelDs ρ J w l vs → frzAll ids st l = some p →
    ∃ J', (∀ b, J b → J' b) ∧ Sim J0 ρ J' B w0 p.1 a w ∧ RelDs ρ J' w p.2 vs ∧ p.1.n = st.n
  | [], J, st, l, vs, p, hs, hl, h => by
    simp only [frzAll, Option.some.injEq] at h
    subst h
    exact ⟨J, fun _ h => h, hs, hl, rfl⟩
  | id :: ids, J, st, l, vs, p, hs, hl, h => by
    unfold frzAll at h
    split at h
    · exact frzAll_sim ids J st l vs p hs hl h
    · rename_i o ho
      split at h
      · rename_i hc
        simp only [Bool.and_eq_true, List.all_eq_true, beq_iff_eq] at hc
        obtain ⟨J', h1, h2, h3⟩ := hs.freeze ho hc.1 hc.2
        obtain ⟨J'', h4, h5, h6, h7⟩ := frzAll_sim ids J' _ _ vs p h2 (RelDs.frozen h1 h3 _ _ hl) h
        exact ⟨J'', fun b hb => h4 b (h1 b hb), h5, h6, h7⟩
      · cases h

def Weak (st st' : St) : Prop := ∀ (J0 : Nat → Prop) (ρ : Nat → Loc) (J : Nat → Prop) (B : Nat) (w0 : World) (a : Act) (w : World), Sim J0 ρ J B w0 st a w → ∃ ρ' J', Sim J0 ρ' J' B w0 st' a w

/-- An object by itself, with nothing in it that is owned. -/
def OwnAt (loc : Loc) (J : Nat → Prop) (w : World) (o : Own) : Prop :=
  loc.S = o.S ∧ 0 < o.S ∧ o.els.length ≤ loc.cap ∧ loc.cap ≤ maxLen ∧ o.els.length ≤ capMax ∧
  ∃ vs : List Value, RelPs J w o.els vs ∧ (∀ x ∈ vs, x.cells.size = o.S ∧ ∀ c ∈ x.cells.toList, c.oneCell' = true) ∧
    ((loc.cap = 0 ∧ vs = []) ∨
      (0 < loc.cap ∧ ∃ g cur, loc.a = some ⟨g, 0, none⟩ ∧ ¬ J g ∧ w.heap[g]? = some (.cells cur o.e (0, 0)) ∧ cur.size = loc.cap * o.S ∧ cur.toList.take (o.els.length * o.S) = vs.flatMap fun x => x.cells.toList))

theorem ObjAt.own {ρ : Nat → Loc} {J : Nat → Prop} {w : World} {id : Nat} {o : Own} (h : ObjAt ρ J w id o) (hn : D.noRefs o.els = true) : OwnAt (ρ id) J w o := by
  obtain ⟨h1, h2, h3, h4, h5, vs, h6, h7, h8⟩ := h
  exact ⟨h1, h2, h3, h4, h5, vs, RelDs.toP h6 hn, h7, h8⟩
theorem OwnAt.obj {ρ : Nat → Loc} {J : Nat → Prop} {w : World} {id : Nat} {o : Own} (h : OwnAt (ρ id) J w o) : ObjAt ρ J w id o := by
  obtain ⟨h1, h2, h3, h4, h5, vs, h6, h7, h8⟩ := h
  exact ⟨h1, h2, h3, h4, h5, vs, RelPs.toD h6, h7, h8⟩

theorem World.grownBy_refl (w : World) : w.grownBy w none := ⟨rfl, rfl, rfl, Nat.le_refl _, fun _ _ _ => rfl⟩

theorem D.noRef_kill : ∀ {l : List D} (id : Nat), D.noRefs l = true → D.kills id l = l := by
  have key : (∀ d : D, d.noRef = true → ∀ id, d.kill id = d) ∧ (∀ l : List D, D.noRefs l = true → ∀ id, D.kills id l = l) := by
    refine ⟨fun d => ?_, fun l => ?_⟩
    · exact D.rec (motive_1 := fun d => d.noRef = true → ∀ id, d.kill id = d) (motive_2 := fun l => D.noRefs l = true → ∀ id, D.kills id l = l)
        (fun _ _ => rfl) (fun _ _ _ => rfl) (fun _ _ => rfl) (fun _ _ _ _ => rfl) (fun l ih h id => by simp only [D.kill]; rw [ih h]) (fun l ih h id => by simp only [D.kill]; rw [ih h]) (fun _ _ _ _ => rfl)
        (fun f l ih h id => by simp only [D.kill]; rw [ih h]) (fun _ _ h => by cases h) (fun _ _ _ h => by cases h) (fun _ _ => rfl)
        (fun d l ih1 ih2 h id => by
          have h' : d.noRef = true ∧ D.noRefs l = true := by simpa [D.noRefs] using h
          simp only [D.kills]; rw [ih1 h'.1, ih2 h'.2]) d
    · exact D.rec_1 (motive_1 := fun d => d.noRef = true → ∀ id, d.kill id = d) (motive_2 := fun l => D.noRefs l = true → ∀ id, D.kills id l = l)
        (fun _ _ => rfl) (fun _ _ _ => rfl) (fun _ _ => rfl) (fun _ _ _ _ => rfl) (fun l ih h id => by simp only [D.kill]; rw [ih h]) (fun l ih h id => by simp only [D.kill]; rw [ih h]) (fun _ _ _ _ => rfl)
        (fun f l ih h id => by simp only [D.kill]; rw [ih h]) (fun _ _ h => by cases h) (fun _ _ _ h => by cases h) (fun _ _ => rfl)
        (fun d l ih1 ih2 h id => by
          have h' : d.noRef = true ∧ D.noRefs l = true := by simpa [D.noRefs] using h
          simp only [D.kills]; rw [ih1 h'.1, ih2 h'.2]) l
  intro l id h
  exact key.2 l h id

/-- A row that nothing leads to yet becomes an object. -/
theorem Sim.addobj {J0 : Nat → Prop} {ρ : Nat → Loc} {J : Nat → Prop} {B : Nat} {w0 : World} {st : St} {a : Act} {w : World} (h : Sim J0 ρ J B w0 st a w)
    (id : Nat) (o : Own) (loc : Loc) (ho : OwnAt loc J w o) (hB : ∀ g, 0 < loc.cap → loc.a = some ⟨g, 0, none⟩ → B ≤ g)
    (hap : ∀ i oi, st.H i = some oi → i ≠ id → 0 < (ρ i).cap → 0 < loc.cap → (ρ i).a ≠ loc.a) : Sim J0 (upd ρ id loc) J B w0 ((st.killed id).obj id o) a w := by
  have hρ : ∀ i, i ≠ id → upd ρ id loc i = ρ i := fun i hi => upd_ne _ _ _ _ hi
  have hex : ∀ i oi, ((st.killed id).obj id o).H i = some oi → i ≠ id → ∃ o', st.H i = some o' ∧ oi = { o' with els := D.kills id o'.els } := by
    intro i oi hi hid
    simp only [St.obj, St.killed, upd_ne _ _ _ _ hid, if_neg hid] at hi
    cases hH : st.H i with
    | none => rw [hH] at hi; cases hi
    | some o' => rw [hH] at hi; cases hi; exact ⟨o', rfl, rfl⟩
  refine { old := h.old, own := fun i oi g hi hc ha => ?_, lt := h.lt, slots := fun j => RelD.killed id hρ (fun _ h => h) (fun _ _ => rfl) _ _ (h.slots j), objs := fun i oi hi => ?_, apart := fun i j oi oj hi hj hne hci hcj => ?_,
           size := h.size, defers := h.defers, below := h.below, base := h.base }
  · by_cases hid : i = id
    · subst hid
      simp only [upd_same] at hc ha
      exact hB g hc ha
    · rw [hρ i hid] at hc ha
      obtain ⟨o', h1, _⟩ := hex i oi hi hid
      exact h.own i o' g h1 hc ha
  · by_cases hid : i = id
    · subst hid
      simp only [St.obj, upd_same] at hi
      cases hi
      have : OwnAt (upd ρ i loc i) J w o := by rw [upd_same]; exact ho
      exact this.obj
    · obtain ⟨o', h1, rfl⟩ := hex i oi hi hid
      obtain ⟨g1, g2, g3, g4, g5, vs, g6, g7, g8⟩ := h.objs i o' h1
      exact ⟨by rw [hρ i hid]; exact g1, g2, by rw [hρ i hid]; simpa [D.kills_length] using g3, by rw [hρ i hid]; exact g4, by simpa [D.kills_length] using g5, vs, RelDs.killed id hρ (fun _ h => h) (fun _ _ => rfl) _ _ g6, g7, by
        rw [hρ i hid]; simpa only [D.kills_length] using g8⟩
  · by_cases hid : i = id
    · subst hid
      have hj' : j ≠ i := fun e => hne e.symm
      rw [hρ j hj'] at hcj ⊢
      simp only [upd_same] at hci ⊢
      obtain ⟨o', h1, _⟩ := hex j oj hj hj'
      exact fun e => hap j o' h1 hj' hcj hci e.symm
    · by_cases hjd : j = id
      · subst hjd
        rw [hρ i hid] at hci ⊢
        simp only [upd_same] at hcj ⊢
        obtain ⟨o', h1, _⟩ := hex i oi hi hid
        exact hap i o' h1 hid hci hcj
      · rw [hρ i hid] at hci ⊢
        rw [hρ j hjd] at hcj ⊢
        obtain ⟨o1, h1, _⟩ := hex i oi hi hid
        obtain ⟨o2, h2, _⟩ := hex j oj hj hjd
        exact h.apart i j o1 o2 h1 h2 hne hci hcj

/-- Giving up an object, as a step of one's own. -/
theorem Weak.freeze {st : St} {id : Nat} {o : Own} (ho : st.H id = some o) (hn : D.noRefs o.els = true) (hw : o.els.all (fun d => d.width == o.S) = true) : Weak st (st.frozen id (D.nrms o.els)) := by
  intro J0 ρ J B w0 a w hs
  have hw' : ∀ d ∈ o.els, d.width = o.S := by simpa using hw
  obtain ⟨J', _, h2, _⟩ := hs.freeze ho hn hw'
  exact ⟨ρ, J', h2⟩

/-- WHAT A FUNCTION DOES that hands over one list to be owned: 'R r o': the list reads as o, and the result as r, where 'ref 0 n' is that list; or (none) nothing is handed over. -/
def FunO (P : Program) (f : FuncId) (args : List D) (R : D → Option Own → Prop) : Prop :=
  callable P f = true ∧ ∀ (J : Nat → Prop) (w : World) (vs : List Value), (∀ b, J b → b < w.heap.size) → RelPs J w args vs →
    Calls P f vs.toArray w fun e w' => ∃ y r o, e = .returned y ∧ R r o ∧ Below w.heap.size w w' ∧ ∃ (J' : Nat → Prop) (loc : Loc), (∀ b, J b → J' b) ∧ (∀ b, J' b → J b ∨ (w.heap.size ≤ b ∧ b < w'.heap.size)) ∧
      RelD (fun _ => loc) J' w' r y ∧ (∀ i ∈ r.ids, i = 0) ∧
      match o with
      | none => r.noRef = true
      | some o => D.noRefs o.els = true ∧ OwnAt loc J' w' o ∧ ∀ g, 0 < loc.cap → loc.a = some ⟨g, 0, none⟩ → w.heap.size ≤ g

mutual
def D.ren (id : Nat) : D → D
  | .ref _ n => .ref id n
  | .adr _ a b => .adr id a b
  | .agg l => .agg (D.rens id l)
  | .tup l => .tup (D.rens id l)
  | .clos f l => .clos f (D.rens id l)
  | .any => .any
  | .v x => .v x
  | .nil0 => .nil0
  | .lst l => .lst l
  | .ptr d => .ptr d
def D.rens (id : Nat) : List D → List D
  | [] => []
  | d :: ds => d.ren id :: D.rens id ds
end

mutual
theorem RelD.ren {ρ : Nat → Loc} {J : Nat → Prop} {w : World} (id : Nat) {loc : Loc} (hl : ρ id = loc) : ∀ {d : D} {y : Value}, RelD (fun _ => loc) J w d y → RelD ρ J w (d.ren id) y
  | .any, _, _ => trivial
  | .v _, _, h => h
  | .nil0, _, h => h
  | .lst _, _, h => h
  | .ptr _, _, h => h
  | .agg l, y, h => by
    obtain ⟨vs, h1, h2, h3⟩ := h
    exact ⟨vs, h1, RelDs.ren id hl h2, h3⟩
  | .tup l, y, h => by
    obtain ⟨vs, h1, h2⟩ := h
    exact ⟨vs, h1, RelDs.ren id hl h2⟩
  | .clos f caps, y, h => by
    obtain ⟨vs, h1, h2⟩ := h
    exact ⟨vs, h1, RelDs.ren id hl h2⟩
  | .ref i n, y, h => by simp only [D.ren, RelD] at h ⊢; rw [hl]; exact h
  | .adr i a b, y, h => by simp only [D.ren, RelD] at h ⊢; rw [hl]; exact h
theorem RelDs.ren {ρ : Nat → Loc} {J : Nat → Prop} {w : World} (id : Nat) {loc : Loc} (hl : ρ id = loc) : ∀ {l : List D} {vs : List Value}, RelDs (fun _ => loc) J w l vs → RelDs ρ J w (D.rens id l) vs
  | [], _, h => h
  | d :: ds, vs, h => by
    obtain ⟨x, xs, h1, h2, h3⟩ := h
    exact ⟨x, xs, h1, RelD.ren id hl h2, RelDs.ren id hl h3⟩
end

mutual
theorem RelD.back {ρ : Nat → Loc} {J : Nat → Prop} {w : World} (id : Nat) : ∀ {d : D} {y : Value}, RelD ρ J w d y → (∀ i ∈ d.ids, i = id) → RelD (fun _ => ρ id) J w (d.ren 0) y
  | .any, _, _, _ => trivial
  | .v _, _, h, _ => h
  | .nil0, _, h, _ => h
  | .lst _, _, h, _ => h
  | .ptr _, _, h, _ => h
  | .agg l, y, h, hi => by
    obtain ⟨vs, h1, h2, h3⟩ := h
    exact ⟨vs, h1, RelDs.back id h2 hi, h3⟩
  | .tup l, y, h, hi => by
    obtain ⟨vs, h1, h2⟩ := h
    exact ⟨vs, h1, RelDs.back id h2 hi⟩
  | .clos f caps, y, h, hi => by
    obtain ⟨vs, h1, h2⟩ := h
    exact ⟨vs, h1, RelDs.back id h2 hi⟩
  | .ref i n, y, h, hi => by
    have : i = id := hi i (by simp [D.ids])
    subst this; exact h
  | .adr i a b, y, h, hi => by
    have : i = id := hi i (by simp [D.ids])
    subst this; exact h
theorem RelDs.back {ρ : Nat → Loc} {J : Nat → Prop} {w : World} (id : Nat) : ∀ {l : List D} {vs : List Value}, RelDs ρ J w l vs → (∀ i ∈ D.idss l, i = id) → RelDs (fun _ => ρ id) J w (D.rens 0 l) vs
  | [], _, h, _ => h
  | d :: ds, vs, h, hi => by
    obtain ⟨x, xs, h1, h2, h3⟩ := h
    exact ⟨x, xs, h1, RelD.back id h2 (fun i hm => hi i (by simp [D.idss, hm])), RelDs.back id h3 (fun i hm => hi i (by simp [D.idss, hm]))⟩
end

def opCall (P : Program) (f : D) (args : List D) (id : Nat) (K : St → D → Prop) (st : St) : Prop :=
  match f with
  | .clos (.func g) caps => ∃ p, frzAll (D.idss (args ++ caps)) st (args ++ caps) = some p ∧ D.noRefs p.2 = true ∧
      ((∃ R, Fun P g (D.nrms p.2) R ∧ ∀ r, R r → K (if r.flat then st else p.1) r) ∨
       (∃ R, FunO P g (D.nrms p.2) R ∧ ∀ r o, R r o → match o with | none => K p.1 r | some o => K ((p.1.killed id).obj id o) (r.ren id)))
  | _ => False

theorem opCall_sound {P : Program} {o : Oper} {f : Operand} {args : Array Operand} {ts : Array TypeId} (id : Nat) (ho : o.op = .call { callee := .value f, args := args, argTypes := ts }) {K : St → D → Prop} {st : St}
    (h : opCall P (st.ev f) (args.toList.map st.ev) id K st) : OpX P o K st := by
  intro J0 ρ J B w0 a w hs Kc Q hKc
  unfold opCall at h
  split at h
  · rename_i g caps hf
    obtain ⟨p, h1, h2, h4⟩ := h
    have hc := hs.ev f
    rw [hf] at hc
    obtain ⟨cs, hev, hcs⟩ := hc
    have hall : RelDs ρ J w (args.toList.map st.ev ++ caps) (args.toList.map a.eval ++ cs) := RelDs_app _ _ _ _ (RelDs_ev hs.ev _) hcs
    obtain ⟨J', h5, h6, h7, h8⟩ := frzAll_sim _ J st _ _ p hs hall h1
    have hP := (RelDs.toP h7 h2).nrm
    have hrun : callable P g = true → (execOp a.eval o).run P w = .ok (.enter g (args.toList.map a.eval ++ cs).toArray) w := by
      intro hcal
      unfold callable at hcal
      split at hcal
      · rename_i fn hfn
        simp only [Bool.and_eq_true, bne_iff_ne, ne_eq] at hcal
        obtain ⟨hn, hb⟩ := hcal
        have hb' : fn.body.isNone = false := by cases hb2 : fn.body <;> simp [hb2] at hb ⊢
        simp only [execOp, ho, resolve, hev, Deferred.ofValue, Sem.run_bind, Sem.run_pure, Result.andThen_ok, invoke, callFunc, run_program, hfn]
        simp [hn, hb']
      · cases hcal
    unfold Oper.wp
    rcases h4 with ⟨R, ⟨hcal, hfun⟩, h4⟩ | ⟨R, ⟨hcal, hfun⟩, hk⟩
    · rw [hrun hcal]
      have hcall := hfun J' w _ h6.lt hP
      show Calls P g _ w _
      refine hcall.mono ?_
      rintro e w' ⟨y, r, rfl, hr, hb, hy⟩
      have hK := h4 r hr
      show Kc _ _
      by_cases hfl : r.flat = true
      · rw [if_pos hfl] at hK
        exact hKc st ρ J r y w' hK rfl (hs.grow hb (fun _ h => h) fun b hb => .inl hb) ((RelP.flat_mono hy hfl).toD)
      · rw [if_neg hfl] at hK
        exact hKc p.1 ρ _ r y w' hK h8 (h6.grow hb (fun b hb => .inl hb) fun b hb => hb) hy.toD
    · rw [hrun hcal]
      have hcall := hfun J' w _ h6.lt hP
      show Calls P g _ w _
      refine hcall.mono ?_
      rintro e w' ⟨y, r, oo, rfl, hr, hb, J'', loc, k1, k2, k3, k4, k5⟩
      have hK := hk r oo hr
      show Kc _ _
      have hgrow := h6.grow hb k1 k2
      cases oo with
      | none =>
        exact hKc p.1 ρ J'' r y w' hK h8 hgrow ((RelD.toP k3 k5).toD)
      | some oo =>
        obtain ⟨k6, k7, k8⟩ := k5
        refine hKc _ (upd ρ id loc) J'' (r.ren id) y w' hK h8 (hgrow.addobj id oo loc k7 (fun g hg ha => Nat.le_trans h6.Ble (k8 g hg ha)) ?_) (RelD.ren id (by simp [upd_same]) k3)
        intro i oi hi hne hci hcl heq
        obtain ⟨g, e1, _, e3⟩ := (h6.objs i oi hi).block hci
        rw [e1] at heq
        have := k8 g hcl heq.symm
        omega
  · exact h.elim

def okDst (st : St) : Option Tmp → Prop
  | some d => d < st.n
  | none => True

def aopB (P : Program) (o : Oper) (b : Builtin) (args : List Operand) (ts : List TypeId) (K : St → D → Prop) (st : St) : Prop :=
  match b, args, ts with
  | .append, [s, x], [t, t'] => t = t' ∧ opAppend P t (st.ev s) (st.ev x) (dstOf o.dst) K st
  | .len, [x], [t] => opLen P t (st.ev x) (K st)
  | .min, xs, _ => opMin (xs.map st.ev) (K st)
  | .complex, xs, _ => opCx .complex (xs.map st.ev) (K st)
  | .real, xs, _ => opCx .real (xs.map st.ev) (K st)
  | .imag, xs, _ => opCx .imag (xs.map st.ev) (K st)
  | .max, xs, _ => opMax (xs.map st.ev) (K st)
  | _, _, _ => OpX P o K st

def aopC (P : Program) (o : Oper) (c : Call) (K : St → D → Prop) (st : St) : Prop :=
  match c.callee with
  | .value f => opCall P (st.ev f) (c.args.toList.map st.ev) (dstOf o.dst) K st
  | .builtin b => aopB P o b c.args.toList c.argTypes.toList K st
  | .invoke _ _ => OpX P o K st

theorem arr1 {α : Type} {a : Array α} {x : α} (h : a.toList = [x]) : a = #[x] := by rw [← Array.toArray_toList (xs := a), h]
theorem arr2 {α : Type} {a : Array α} {x y : α} (h : a.toList = [x, y]) : a = #[x, y] := by rw [← Array.toArray_toList (xs := a), h]
theorem arr0 {α : Type} {a : Array α} (h : a.toList = []) : a = #[] := by rw [← Array.toArray_toList (xs := a), h]

theorem aopC_sound {P : Program} {o : Oper} {c : Call} {K : St → D → Prop} {st : St} (ho : o.op = .call c) (h : aopC P o c K st) : OpX P o K st := by
  obtain ⟨cal, args, ts⟩ := c
  unfold aopC at h
  cases cal with
  | value f => exact opCall_sound _ ho h
  | invoke r m => exact h
  | builtin b =>
    simp only at h
    unfold aopB at h
    split at h
    · rename_i s x t t' h1 h2
      obtain ⟨rfl, h⟩ := h
      rw [arr2 h1, arr2 h2] at ho
      exact opAppend_sound _ ho h
    · rename_i x t h1 h2
      rw [arr1 h1, arr1 h2] at ho
      exact opLen_sound ho h
    · exact opMin_sound ho h
    · exact opCx_sound ho h
    · exact opCx_sound ho h
    · exact opCx_sound ho h
    · exact opMax_sound ho h
    · exact h

theorem frz_ofVal (id : Nat) (els : List D) (x : Value) : (D.ofVal x).frz id els = D.ofVal x := by
  cases x with
  | agg cs =>
    simp only [D.ofVal]
    split
    · simp only [D.frz, D.frzs_eq, List.map_map]
      rfl
    · rfl
  | _ => rfl
theorem frozen_ev (st : St) (id : Nat) (els : List D) (o : Operand) : (st.frozen id els).ev o = (st.ev o).frz id els := by
  cases o with
  | const x => exact (frz_ofVal id els x).symm
  | _ => rfl
theorem frz_plain {id : Nat} {els : List D} : ∀ {o : Option D}, o.all D.noRef = true → o.map (D.frz id els) = o := by
  have key : (∀ d : D, d.noRef = true → d.frz id els = d) := by
    intro d
    refine D.rec (motive_1 := fun d => d.noRef = true → d.frz id els = d) (motive_2 := fun l => D.noRefs l = true → D.frzs id els l = l)
        (fun _ => rfl) (fun _ _ => rfl) (fun _ => rfl) (fun _ _ _ => rfl) (fun l ih h => by simp only [D.frz]; rw [ih h]) (fun l ih h => by simp only [D.frz]; rw [ih h]) (fun _ _ _ => rfl)
        (fun f l ih h => by simp only [D.frz]; rw [ih h]) (fun _ _ h => by cases h) (fun _ _ _ h => by cases h) (fun _ => rfl)
        (fun d l ih1 ih2 h => by
          have h' : d.noRef = true ∧ D.noRefs l = true := by simpa [D.noRefs] using h
          simp only [D.frzs]; rw [ih1 h'.1, ih2 h'.2]) d
  intro o h
  cases o with
  | none => rfl
  | some d => simp only [Option.all_some] at h; simp [key d h]

/-- A part of a list that begins later: what is owned is given up first. -/
def opSliceM (P : Program) (t : TypeId) (x : D) (lo hi mx : Option D) (K : St → D → Prop) (st : St) : Prop :=
  match x with
  | .ref id n => ∃ ob, st.H id = some ob ∧ D.noRefs ob.els = true ∧ ob.els.all (fun d => d.width == ob.S) = true ∧ n ≤ ob.els.length ∧ lo.all D.noRef = true ∧ hi.all D.noRef = true ∧ mx.all D.noRef = true ∧
      opSlice P t (.lst ((D.nrms ob.els).take n)) lo hi mx (K (st.frozen id (D.nrms ob.els))) (st.frozen id (D.nrms ob.els))
  | x => opSlice P t x lo hi mx (K st) st

theorem opSliceM_sound {P : Program} {o : Oper} {t : TypeId} {x : Operand} {lo hi mx : Option Operand} (ho : o.op = .slice t x lo hi mx) {K : St → D → Prop} {st : St}
    (h : opSliceM P t (st.ev x) (lo.map st.ev) (hi.map st.ev) (mx.map st.ev) K st) : OpX P o K st := by
  unfold opSliceM at h
  split at h
  · rename_i id n hx
    obtain ⟨ob, h1, h2, h3, h4, h5, h6, h7, h8⟩ := h
    have hlen : n ≤ (D.nrms ob.els).length := by simpa [D.nrms_eq] using h4
    have e1 : (st.frozen id (D.nrms ob.els)).ev x = .lst ((D.nrms ob.els).take n) := by
      rw [frozen_ev, hx]
      simp [D.frz, hlen]
    have em : ∀ o : Option Operand, (o.map st.ev).all D.noRef = true → o.map (st.frozen id (D.nrms ob.els)).ev = o.map st.ev := by
      intro o ho
      have := frz_plain (id := id) (els := D.nrms ob.els) ho
      rw [← this]
      cases o with
      | none => rfl
      | some y => simp [frozen_ev]
    have hk : OpX P o K (st.frozen id (D.nrms ob.els)) := opSlice_sound ho (by rw [e1, em lo h5, em hi h6, em mx h7]; exact h8)
    intro J0 ρ J B w0 a w hs Kc Q hKc
    obtain ⟨J', _, hs', _⟩ := hs.freeze h1 h2 (by simpa using h3)
    exact hk J0 ρ J' B w0 a w hs' Kc Q fun st' ρ' J' x y w' k1 k2 k3 k4 => hKc st' ρ' J' x y w' k1 k2 k3 k4
  · exact opSlice_sound ho h

/-- ONE OPERATION. What this text doesn't speak of is left as it is. -/
def aopx (P : Program) (o : Oper) (K : St → D → Prop) (st : St) : Prop :=
  match o.op with
  | .move x => K st (st.ev x)
  | .assign x => K st (st.ev x)
  | .pick c a b => opPick (st.ev c) (st.ev a) (st.ev b) (K st)
  | .alloc e => opAlloc P e (dstOf o.dst) K st
  | .box e x => opBox P e (st.ev x) (dstOf o.dst) K st
  | .build t parts => opBuild P t (parts.toList.map fun p => (p.1, st.ev p.2)) (K st)
  | .buildSlice t len parts => opBuildSlice P t len (parts.toList.map fun p => (p.1, st.ev p.2)) (dstOf o.dst) K st
  | .load t x => opLoad P t (st.ev x) (K st) st
  | .store t x v => opStore P t (st.ev x) (st.ev v) (fun s => K s .any) st
  | .nilCheck x => opNilCheck (st.ev x) (K st)
  | .binOp op t x y _ => opBin P op t (st.ev x) (st.ev y) (K st)
  | .unOp op _ x => opUn op (st.ev x) (K st)
  | .convert s t x => opConvert P s t (st.ev x) (K st) st
  | .makeFunc fn first caps => first.toList = [] ∧ K st (.clos fn (caps.toList.map st.ev))
  | .makeSlice t l c => opMakeSlice P t (st.ev l) (st.ev c) (dstOf o.dst) K st
  | .slice t x lo hi mx => opSlice P t (st.ev x) (lo.map st.ev) (hi.map st.ev) (mx.map st.ev) (K st) st
  | .fieldAddr s x f => opFieldAddr P s (st.ev x) f (K st)
  | .field s x f => opField P s (st.ev x) f (K st)
  | .indexAddr t x ix => opIndexAddr P t (st.ev x) (st.ev ix) (K st) st
  | .index t x ix => opIndex P t (st.ev x) (st.ev ix) (K st)
  | .extract x i => opExtract (st.ev x) i (K st)
  | .call c => aopC P o c K st
  | _ => OpX P o K st

theorem aopx_sound {P : Program} {o : Oper} {K : St → D → Prop} {st : St} (h : aopx P o K st) : OpX P o K st := by
  unfold aopx at h
  split at h <;> rename_i ho
  · exact opMove_sound (.inl ho) h
  · exact opMove_sound (.inr ho) h
  · exact opPick_sound ho h
  · exact opAlloc_sound _ ho h
  · exact opBox_sound _ ho h
  · exact opBuild_sound ho h
  · exact opBuildSlice_sound _ ho h
  · exact opLoad_sound ho h
  · exact opStore_sound ho h
  · exact opNilCheck_sound ho h
  · exact opBin_sound ho h
  · exact opUn_sound ho h
  · exact opConvert_sound ho h
  · obtain ⟨hf, h⟩ := h
    rw [arr0 hf] at ho
    exact opMakeFunc_sound ho h
  · exact opMakeSlice_sound _ ho h
  · exact opSlice_sound ho h
  · exact opFieldAddr_sound ho h
  · exact opField_sound ho h
  · exact opIndexAddr_sound ho h
  · exact opIndex_sound ho h
  · exact opExtract_sound ho h
  · exact aopC_sound ho h
  · exact h

/-- The same, in a region whose order is the text's. -/
def aopxM (P : Program) (o : Oper) (K : St → D → Prop) (st : St) : Prop :=
  match o.op with
  | .slice t x (some lo) hi mx => opSliceM P t (st.ev x) (some (st.ev lo)) (hi.map st.ev) (mx.map st.ev) K st
  | _ => aopx P o K st
theorem aopxM_sound {P : Program} {o : Oper} {K : St → D → Prop} {st : St} (h : aopxM P o K st) : OpX P o K st := by
  unfold aopxM at h
  split at h
  · rename_i ho
    exact opSliceM_sound ho h
  · exact aopx_sound h

def aop (P : Program) (o : Oper) (K : St → Prop) (st : St) : Prop := okDst st o.dst ∧ aopx P o (fun s x => K (s.put o.dst x)) st

theorem aop_sound {P : Program} {o : Oper} {K : St → Prop} {st : St} (h : aop P o K st) {J0 : Nat → Prop} {ρ : Nat → Loc} {J : Nat → Prop} {B : Nat} {w0 : World} {a : Act} {w : World} (hs : Sim J0 ρ J B w0 st a w)
    {Kc : Act → World → Prop} {Q : Exit → Act → World → Prop} (hk : ∀ a' w', SimE J0 B w0 K a' w' → Kc a' w') : o.wp P a w Kc Q := by
  refine aopx_sound h.2 J0 ρ J B w0 a w hs Kc Q fun st' ρ' J' x y w' hK hn hs' hx => ?_
  refine hk _ _ ⟨_, ρ', J', hK, hs'.put o.dst (fun d hd => ?_) hx⟩
  have := h.1
  rw [hd] at this
  rw [hn]; exact this

def aopM (P : Program) (o : Oper) (K : St → Prop) (st : St) : Prop := okDst st o.dst ∧ aopxM P o (fun s x => K (s.put o.dst x)) st

theorem aopM_sound {P : Program} {o : Oper} {K : St → Prop} {st : St} (h : aopM P o K st) {J0 : Nat → Prop} {ρ : Nat → Loc} {J : Nat → Prop} {B : Nat} {w0 : World} {a : Act} {w : World} (hs : Sim J0 ρ J B w0 st a w)
    {Kc : Act → World → Prop} {Q : Exit → Act → World → Prop} (hk : ∀ a' w', SimE J0 B w0 K a' w' → Kc a' w') : o.wp P a w Kc Q := by
  refine aopxM_sound h.2 J0 ρ J B w0 a w hs Kc Q fun st' ρ' J' x y w' hK hn hs' hx => ?_
  refine hk _ _ ⟨_, ρ', J', hK, hs'.put o.dst (fun d hd => ?_) hx⟩
  have := h.1
  rw [hd] at this
  rw [hn]; exact this

/-- The operations of a region, in the order of the text. -/
def guardOf (ops : List Oper) (j : Nat) : Option Tmp := (ops[j]?).bind (·.dst)

/-- What a guard's slot says: yes or no, or it was not asked. -/
def gB (want : Bool) (d : D) (b : Bool) : Prop := d = .v (.bool b) ∨ (d = .tup [] ∧ b = !want)
theorem gB.noRef {want : Bool} {d : D} {b : Bool} (h : gB want d b) : d.noRef = true := by
  rcases h with h | ⟨h, _⟩ <;> rw [h] <;> rfl

/-- One operation of a region, with its guard. -/
def opA (P : Program) (all : List Oper) (o : Oper) (K : St → Prop) (st : St) : Prop :=
  match o.guard with
  | none => aop P o K st
  | some (j, want) => ∃ d, guardOf all j = some d ∧ d < st.n ∧ ∃ b, gB want (st.t d) b ∧ (b = want → aop P o K st) ∧ (b ≠ want → okDst st o.dst ∧ K (st.put o.dst (.tup [])))

def opAM (P : Program) (all : List Oper) (o : Oper) (K : St → Prop) (st : St) : Prop :=
  match o.guard with
  | none => aopM P o K st
  | some (j, want) => ∃ d, guardOf all j = some d ∧ d < st.n ∧ ∃ b, gB want (st.t d) b ∧ (b = want → aopM P o K st) ∧ (b ≠ want → okDst st o.dst ∧ K (st.put o.dst (.tup [])))

def aops (P : Program) (all : List Oper) : List Oper → (St → Prop) → St → Prop
  | [], K, st => K st
  | o :: rest, K, st => opAM P all o (aops P all rest K) st

theorem opA_sound {P : Program} {ops : Array Oper} {Q : Exit → Act → World → Prop} {J0 : Nat → Prop} {B : Nat} {w0 : World} {o : Oper} {K : St → Prop} {st : St} {ρ : Nat → Loc} {J : Nat → Prop} {a : Act} {w : World}
    (h : opA P ops.toList o K st) (hs : Sim J0 ρ J B w0 st a w) {Kc : Act → World → Prop} (hk : ∀ a' w', SimE J0 B w0 K a' w' → Kc a' w') :
    if Region.wanted o (yielded ops a.tmps) then o.wp P a w Kc Q else Kc (a.put o.dst undef) w := by
  unfold opA at h
  split at h
  · rename_i hg
    rw [if_pos (by simp [Region.wanted, hg])]
    exact aop_sound h hs hk
  · rename_i j want hg
    obtain ⟨d, h1, hd, b, h2, h3, h4⟩ := h
    have hsl := hs.slots d
    have hlt : d < a.tmps.size := by rw [hs.size]; exact hd
    have h1' : (ops[j]?).bind (·.dst) = some d := by simpa [guardOf] using h1
    have skip : b ≠ want → Kc (a.put o.dst undef) w := by
      intro hb
      obtain ⟨h5, h6⟩ := h4 hb
      refine hk _ _ ⟨_, ρ, J, h6, hs.put o.dst (fun d' hd' => ?_) (x := .tup []) (y := undef) ⟨[], rfl, rfl⟩⟩
      rw [hd'] at h5
      exact h5
    rcases h2 with h2 | ⟨h2, hb⟩
    · rw [h2] at hsl
      have hy : yielded ops a.tmps j = some b := by
        have hv : a.tmps[d]? = some (.bool b) := by
          have := hsl.1
          simpa [hlt] using this
        unfold yielded
        rw [h1']
        simp [hv]
      by_cases hb : b = want
      · rw [if_pos (by simp [Region.wanted, hg, hy, hb])]
        exact aop_sound (h3 hb) hs hk
      · rw [if_neg (by simp [Region.wanted, hg, hy, hb])]
        exact skip hb
    · rw [h2] at hsl
      have hy : yielded ops a.tmps j = none := by
        obtain ⟨vs, e1, e2⟩ := hsl
        have e3 : vs = [] := e2
        have hv : a.tmps[d]? = some (.tuple #[]) := by
          subst e3
          simpa [hlt] using e1
        unfold yielded
        rw [h1']
        simp [hv]
      rw [if_neg (by simp [Region.wanted, hg, hy])]
      exact skip (by rw [hb]; cases want <;> simp)

theorem opAM_sound {P : Program} {ops : Array Oper} {Q : Exit → Act → World → Prop} {J0 : Nat → Prop} {B : Nat} {w0 : World} {o : Oper} {K : St → Prop} {st : St} {ρ : Nat → Loc} {J : Nat → Prop} {a : Act} {w : World}
    (h : opAM P ops.toList o K st) (hs : Sim J0 ρ J B w0 st a w) {Kc : Act → World → Prop} (hk : ∀ a' w', SimE J0 B w0 K a' w' → Kc a' w') :
    if Region.wanted o (yielded ops a.tmps) then o.wp P a w Kc Q else Kc (a.put o.dst undef) w := by
  unfold opAM at h
  split at h
  · rename_i hg
    rw [if_pos (by simp [Region.wanted, hg])]
    exact aopM_sound h hs hk
  · rename_i j want hg
    obtain ⟨d, h1, hd, b, h2, h3, h4⟩ := h
    have hsl := hs.slots d
    have hlt : d < a.tmps.size := by rw [hs.size]; exact hd
    have h1' : (ops[j]?).bind (·.dst) = some d := by simpa [guardOf] using h1
    have skip : b ≠ want → Kc (a.put o.dst undef) w := by
      intro hb
      obtain ⟨h5, h6⟩ := h4 hb
      refine hk _ _ ⟨_, ρ, J, h6, hs.put o.dst (fun d' hd' => ?_) (x := .tup []) (y := undef) ⟨[], rfl, rfl⟩⟩
      rw [hd'] at h5
      exact h5
    rcases h2 with h2 | ⟨h2, hb⟩
    · rw [h2] at hsl
      have hy : yielded ops a.tmps j = some b := by
        have hv : a.tmps[d]? = some (.bool b) := by
          have := hsl.1
          simpa [hlt] using this
        unfold yielded
        rw [h1']
        simp [hv]
      by_cases hb : b = want
      · rw [if_pos (by simp [Region.wanted, hg, hy, hb])]
        exact aopM_sound (h3 hb) hs hk
      · rw [if_neg (by simp [Region.wanted, hg, hy, hb])]
        exact skip hb
    · rw [h2] at hsl
      have hy : yielded ops a.tmps j = none := by
        obtain ⟨vs, e1, e2⟩ := hsl
        have e3 : vs = [] := e2
        have hv : a.tmps[d]? = some (.tuple #[]) := by
          subst e3
          simpa [hlt] using e1
        unfold yielded
        rw [h1']
        simp [hv]
      rw [if_neg (by simp [Region.wanted, hg, hy])]
      exact skip (by rw [hb]; cases want <;> simp)

theorem aops_sound {P : Program} {ops : Array Oper} {Q : Exit → Act → World → Prop} {J0 : Nat → Prop} {B : Nat} {w0 : World} : ∀ (l : List Oper) (K : St → Prop) (st : St) (ρ : Nat → Loc) (J : Nat → Prop) (a : Act) (w : World),
    aops P ops.toList l K st → Sim J0 ρ J B w0 st a w → (∀ a' w', SimE J0 B w0 K a' w' → Q .normal a' w') → wpList P ops Q l a w
  | [], K, st, ρ, J, a, w, h, hs, hk => hk a w ⟨st, ρ, J, h, hs⟩
  | o :: rest, K, st, ρ, J, a, w, h, hs, hk => by
    unfold wpList
    have := opAM_sound (Q := Q) (ops := ops) h hs fun a' w' ⟨st', ρ', J', h5, h6⟩ => aops_sound rest K st' ρ' J' a' w' h5 h6 hk
    split
    · rename_i hw
      rw [if_pos hw] at this
      exact .inl this
    · rename_i hw
      rw [if_neg hw] at this
      exact this

/-- The operations of a region, in whatever order. -/
def anyA (P : Program) (ops : Array Oper) (K : St → Prop) : Nat → Array Bool → St → Prop
  | 0, listed, st => Region.ready .any ops listed = [] ∧ K st
  | f + 1, listed, st => (Region.ready .any ops listed = [] → K st) ∧ ∀ i ∈ Region.ready .any ops listed, ∀ o, ops[i]? = some o → opA P ops.toList o (anyA P ops K f (listed.setIfInBounds i true)) st

theorem anyA_sound {P : Program} {ops : Array Oper} {Q : Exit → Act → World → Prop} {J0 : Nat → Prop} {B : Nat} {w0 : World} {K : St → Prop} (hk : ∀ a' w', SimE J0 B w0 K a' w' → Q .normal a' w') :
    ∀ (f : Nat) (listed : Array Bool) (st : St) (ρ : Nat → Loc) (J : Nat → Prop) (a : Act) (w : World), anyA P ops K f listed st → Sim J0 ρ J B w0 st a w → wpAny P .any ops Q f listed a w
  | 0, listed, st, ρ, J, a, w, h, hs => ⟨h.1, hk a w ⟨st, ρ, J, h.2, hs⟩⟩
  | f + 1, listed, st, ρ, J, a, w, h, hs => by
    refine ⟨fun hr => hk a w ⟨st, ρ, J, h.1 hr, hs⟩, fun i hi => ?_⟩
    unfold wpOp
    cases ho : ops[i]? with
    | none =>
      obtain ⟨_, o, ho', _⟩ := mem_ready.1 hi
      rw [ho] at ho'; cases ho'
    | some o =>
      have := opA_sound (Q := Q) (ops := ops) (h.2 i hi o ho) hs fun a' w' ⟨st', ρ', J', h5, h6⟩ => anyA_sound hk f _ st' ρ' J' a' w' h5 h6
      simp only
      split
      · rename_i hw
        rw [if_pos hw] at this
        exact .inl this
      · rename_i hw
        rw [if_neg hw] at this
        exact this


theorem Weak.refl (st : St) : Weak st st := fun _ ρ J _ _ _ _ h => ⟨ρ, J, h⟩

/-- A TEXT: N: what holds where it ends; X: where it leaves a block; R: where it returns. -/
def awp (P : Program) : Code → (St → Prop) → (Nat → St → Prop) → (St → Prop) → St → Prop
  | .skip, N, _, _, st => N st
  | .seq a b, N, X, R, st => awp P a (fun s => awp P b N X R s) X R st
  | .cond c x y, N, X, R, st => ∃ b, st.ev c = .v (.bool b) ∧ (b = true → awp P x N X R st) ∧ (b = false → awp P y N X R st)
  | .block id c, N, X, R, st => awp P c N (fun i s => if i = id then N s else X i s) R st
  | .exit id, _, X, _, st => X id st
  | .ret, _, _, R, st => R st
  | .region _ ops false, N, _, _, st => aops P ops.toList ops.toList N st
  | .region _ ops true, N, _, _, st => P.follows .mixedOrders = true ∧ anyA P ops N ops.size (Array.replicate ops.size false) st
  | .loop c, _, X, R, st => ∃ I : Nat → St → Prop, (∃ n s, Weak st s ∧ I n s) ∧ ∀ n s, I n s → awp P c (fun s' => ∃ m s'', m < n ∧ Weak s' s'' ∧ I m s'') X R s
  | .label _, N, _, _, st => N st
  | _, _, _, _, _ => False

/-- How the ends of a text are told to the machine. -/
def ends (J0 : Nat → Prop) (B : Nat) (w0 : World) (N : St → Prop) (X : Nat → St → Prop) (R : St → Prop) : Exit → Act → World → Prop
  | .normal, a, w => SimE J0 B w0 N a w
  | .exit id, a, w => SimE J0 B w0 (X id) a w
  | .ret, a, w => SimE J0 B w0 R a w
  | _, _, _ => False

theorem SimE.mono {J0 : Nat → Prop} {B : Nat} {w0 : World} {K K' : St → Prop} {a : Act} {w : World} (h : SimE J0 B w0 K a w) (hk : ∀ s, K s → K' s) : SimE J0 B w0 K' a w :=
  let ⟨st, ρ, J, h1, h2⟩ := h; ⟨st, ρ, J, hk st h1, h2⟩

theorem awp_sound {P : Program} {J0 : Nat → Prop} {B : Nat} {w0 : World} : ∀ (c : Code) (N : St → Prop) (X : Nat → St → Prop) (R : St → Prop) (st : St) (ρ : Nat → Loc) (J : Nat → Prop) (a : Act) (w : World),
    awp P c N X R st → Sim J0 ρ J B w0 st a w → c.wp P (ends J0 B w0 N X R) a w := by
  intro c
  induction c with
  | skip => intro N X R st ρ J a w h hs; exact wp_skip ⟨st, ρ, J, h, hs⟩
  | seq x y ihx ihy =>
    intro N X R st ρ J a w h hs
    refine wp_seq (wp_mono (ihx _ X R st ρ J a w h hs) ?_)
    rintro e a' w' he
    cases e with
    | normal => obtain ⟨s, ρ', J', h1, h2⟩ := he; exact ihy N X R s ρ' J' a' w' h1 h2
    | exit id => exact he
    | ret => exact he
    | goto l => exact he.elim
    | panic c => exact he.elim
    | outgrown => exact he.elim
  | cond c x y ihx ihy =>
    intro N X R st ρ J a w h hs
    obtain ⟨b, h1, h2, h3⟩ := h
    have hc := hs.ev c
    rw [h1] at hc
    refine wp_cond_split hc.1 (fun hb => ?_) fun hb => ?_
    · exact ihx N X R st ρ J a w (h2 hb) hs
    · exact ihy N X R st ρ J a w (h3 hb) hs
  | block id c ih =>
    intro N X R st ρ J a w h hs
    refine wp_block (wp_mono (ih _ _ _ st ρ J a w h hs) ?_)
    rintro e a' w' he
    cases e with
    | exit i =>
      simp only [Exit.inBlock]
      by_cases hi : i = id
      · rw [if_pos hi]
        refine SimE.mono (show SimE J0 B w0 _ a' w' from he) fun s hs' => ?_
        simp only [if_pos hi] at hs'
        exact hs'
      · rw [if_neg hi]
        refine SimE.mono (show SimE J0 B w0 _ a' w' from he) fun s hs' => ?_
        simp only [if_neg hi] at hs'
        exact hs'
    | normal => exact he
    | ret => exact he
    | goto l => exact he.elim
    | panic c => exact he.elim
    | outgrown => exact he.elim
  | exit id => intro N X R st ρ J a w h hs; exact wp_exit ⟨st, ρ, J, h, hs⟩
  | ret => intro N X R st ρ J a w h hs; exact wp_ret ⟨st, ρ, J, h, hs⟩
  | region id ops dr =>
    intro N X R st ρ J a w h hs
    cases dr with
    | true => exact wp_region_any h.1 (anyA_sound (fun a' w' h' => h') _ _ st ρ J a _ h.2 (hs.grow (Below.refl w.heap.size w).drew (fun _ h => h) fun b hb => .inl hb))
    | false => exact wp_region_list (aops_sound ops.toList N st ρ J a w h hs fun a' w' h' => h')
  | loop c ih =>
    intro N X R st ρ J a w h hs
    obtain ⟨I, ⟨n0, s, hw, hI⟩, hround⟩ := h
    obtain ⟨ρ1, J1, hs1⟩ := hw J0 ρ J B w0 a w hs
    have key : ∀ n a w, (∃ s ρ J, I n s ∧ Sim J0 ρ J B w0 s a w) → ∀ (b : Frame) (k : List Item) (cs : List Frame),
        ∃ e a' w', ends J0 B w0 N X R e a' w' ∧ Arrives P (lone (b.at a (.code c :: .inLoop c :: k)) cs w) b k cs e a' w' := by
      intro n
      induction n using Nat.strongRecOn with
      | _ n ihn =>
        rintro a w ⟨s, ρ, J, hI, hs⟩ b k cs
        obtain ⟨e, a₁, w₁, hq, harr⟩ := ih _ X R s ρ J a w (hround n s hI) hs b (.inLoop c :: k) cs
        cases e with
        | normal =>
          obtain ⟨s', ρ', J', ⟨m, s'', hlt, hw', hI'⟩, hs'⟩ := hq
          obtain ⟨ρ'', J'', hs''⟩ := hw' J0 ρ' J' B w0 a₁ w₁ hs'
          obtain ⟨e₂, a₂, w₂, hq₂, harr₂⟩ := ihn m hlt a₁ w₁ ⟨s'', ρ'', J'', hI', hs''⟩ b k cs
          exact ⟨e₂, a₂, w₂, hq₂, .of_steps (Steps.trans harr (.one step_inLoop)) harr₂⟩
        | exit id => exact ⟨.exit id, a₁, w₁, hq, .pass (x := .inLoop c) rfl (fun _ _ => .inl (by simp)) harr⟩
        | ret => exact ⟨.ret, a₁, w₁, hq, .pass (x := .inLoop c) rfl (fun _ _ => .inl (by simp)) harr⟩
        | goto l => exact hq.elim
        | panic ch => exact hq.elim
        | outgrown => exact hq.elim
    intro b k cs
    obtain ⟨e, a', w', hq, harr⟩ := key n0 a w ⟨s, ρ1, J1, hI, hs1⟩ b k cs
    exact ⟨e, a', w', hq, .of_steps (.one step_loop) harr⟩
  | label l => intro N X R st ρ J a w h hs; exact wp_label ⟨st, ρ, J, h, hs⟩
  | scope c ih => intro N X R st ρ J a w h hs; exact h.elim
  | goto l => intro N X R st ρ J a w h hs; exact h.elim
  | rangeFunc f ps x y ihx ihy => intro N X R st ρ J a w h hs; exact h.elim
  | refuse y => intro N X R st ρ J a w h hs; exact h.elim

end Go.VL
