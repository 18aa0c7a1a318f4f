import Derived.Test.YtfmeiapglpphpaaVL1
/- The state of a call, and the law of its text. -/
namespace Go.VL
open Go Go.RowKit

structure Own where
  e : TypeId
  S : Nat
  els : List D

def upd {α : Type} (f : Nat → α) (k : Nat) (x : α) : Nat → α := fun j => if j = k then x else f j

theorem upd_same {α : Type} (f : Nat → α) (k : Nat) (x : α) : upd f k x k = x := by simp [upd]
theorem upd_ne {α : Type} (f : Nat → α) (k : Nat) (x : α) (j : Nat) (h : j ≠ k) : upd f k x j = f j := by simp [upd, h]

structure St where
  t : Nat → D
  H : Nat → Option Own
  n : Nat

def D.ofVal : Value → D
  | .agg cs => if cs.toList.all (fun x => x.oneCell') then .agg (cs.toList.map .v) else .any
  | x => .v x

def St.ev (st : St) : Operand → D
  | .tmp k => st.t k
  | .const x => D.ofVal x
  | .global g => .v (.pointer (some ⟨g, 0, none⟩))
  | .func f => .clos (.func f) []

def St.put (st : St) (dst : Option Tmp) (x : D) : St :=
  match dst with
  | some d => { st with t := upd st.t d x }
  | none => st

def St.killed (st : St) (id : Nat) : St :=
  { st with t := fun j => (st.t j).kill id, H := fun j => if j = id then none else (st.H j).map fun o => { o with els := D.kills id o.els } }

def St.obj (st : St) (id : Nat) (o : Own) : St := { st with H := upd st.H id (some o) }

/-- Where an object lies: nowhere (it has no cells), or at the head of a row that nothing else leads to. -/
def ObjAt (ρ : Nat → Loc) (J : Nat → Prop) (w : World) (id : Nat) (o : Own) : Prop :=
  (ρ id).S = o.S ∧ 0 < o.S ∧ o.els.length ≤ (ρ id).cap ∧ (ρ id).cap ≤ maxLen ∧ o.els.length ≤ capMax ∧
  ∃ vs : List Value, RelDs ρ J w o.els vs ∧ (∀ x ∈ vs, x.cells.size = o.S ∧ ∀ c ∈ x.cells.toList, c.oneCell' = true) ∧
    (((ρ id).cap = 0 ∧ vs = []) ∨
      (0 < (ρ id).cap ∧ ∃ g cur, (ρ id).a = some ⟨g, 0, none⟩ ∧ ¬ J g ∧ w.heap[g]? = some (.cells cur o.e (0, 0)) ∧ cur.size = (ρ id).cap * o.S ∧ cur.toList.take (o.els.length * o.S) = vs.flatMap fun x => x.cells.toList))

def Apart (ρ : Nat → Loc) (H : Nat → Option Own) : Prop :=
  ∀ i j oi oj, H i = some oi → H j = some oj → i ≠ j → 0 < (ρ i).cap → 0 < (ρ j).cap → (ρ i).a ≠ (ρ j).a

structure Sim (J0 : Nat → Prop) (ρ : Nat → Loc) (J : Nat → Prop) (B : Nat) (w0 : World) (st : St) (a : Act) (w : World) : Prop where
  old : ∀ b, J b → J0 b ∨ B ≤ b
  own : ∀ id o g, st.H id = some o → 0 < (ρ id).cap → (ρ id).a = some ⟨g, 0, none⟩ → B ≤ g
  lt : ∀ b, J b → b < w.heap.size
  slots : ∀ j, RelD ρ J w (st.t j) (a.tmps.getD j undef)
  objs : ∀ id o, st.H id = some o → ObjAt ρ J w id o
  apart : Apart ρ st.H
  size : a.tmps.size = st.n
  defers : a.defers = []
  below : Below B w0 w
  base : B = w0.heap.size

def SimE (J0 : Nat → Prop) (B : Nat) (w0 : World) (K : St → Prop) (a : Act) (w : World) : Prop := ∃ st ρ J, K st ∧ Sim J0 ρ J B w0 st a w

theorem cells_of_one {x : Value} (h : x.oneCell' = true) : x.cells = #[x] := by
  cases x <;> simp_all [Value.cells, Value.oneCell']

theorem RelDs_vals {ρ : Nat → Loc} {J : Nat → Prop} {w : World} : ∀ (l : List Value), (∀ x ∈ l, x.oneCell' = true) → RelDs ρ J w (l.map .v) l
  | [], _ => rfl
  | x :: xs, h => ⟨x, xs, rfl, ⟨rfl, cells_of_one (h x (by simp))⟩, RelDs_vals xs fun y hy => h y (by simp [hy])⟩

theorem RelD_ofVal {ρ : Nat → Loc} {J : Nat → Prop} {w : World} (x : Value) : RelD ρ J w (D.ofVal x) x := by
  cases x with
  | agg cs =>
    simp only [D.ofVal]
    split
    · rename_i h
      have h' : ∀ x ∈ cs.toList, x.oneCell' = true := fun x hx => List.all_eq_true.1 h x hx
      exact ⟨cs.toList, by simp, RelDs_vals _ h', h'⟩
    · trivial
  | _ => exact ⟨rfl, rfl⟩

theorem Sim.ev {J0 : Nat → Prop} {ρ : Nat → Loc} {J : Nat → Prop} {B : Nat} {w0 : World} {st : St} {a : Act} {w : World} (h : Sim J0 ρ J B w0 st a w) (x : Operand) :
    RelD ρ J w (st.ev x) (a.eval x) := by
  cases x with
  | tmp k => exact h.slots k
  | const v => exact RelD_ofVal v
  | global g => exact ⟨rfl, rfl⟩
  | func f => exact ⟨[], rfl, rfl⟩

theorem Act.put_size (a : Act) (dst : Option Tmp) (x : Value) : (a.put dst x).tmps.size = a.tmps.size := by
  cases dst <;> simp [Act.put]

theorem Act.put_defers' (a : Act) (dst : Option Tmp) (x : Value) : (a.put dst x).defers = a.defers := by
  cases dst <;> simp [Act.put]

/-- A slot is written. -/
theorem Sim.put {J0 : Nat → Prop} {ρ : Nat → Loc} {J : Nat → Prop} {B : Nat} {w0 : World} {st : St} {a : Act} {w : World} (h : Sim J0 ρ J B w0 st a w) (dst : Option Tmp)
    (hd : ∀ d, dst = some d → d < st.n) {x : D} {y : Value} (hx : RelD ρ J w x y) : Sim J0 ρ J B w0 (st.put dst x) (a.put dst y) w := by
  cases dst with
  | none => exact h
  | some d =>
    refine { h with slots := fun j => ?_, size := by rw [Act.put_size]; exact h.size, defers := by rw [Act.put_defers']; exact h.defers }
    by_cases hj : j = d
    · subst hj
      have hlt : j < a.tmps.size := by rw [h.size]; exact hd j rfl
      simp only [St.put, upd_same, Act.put]
      have : (a.tmps.setIfInBounds j y).getD j undef = y := by simp [hlt]
      rw [this]; exact hx
    · simp only [St.put, upd_ne _ _ _ _ hj, Act.put]
      have : (a.tmps.setIfInBounds d y).getD j undef = a.tmps.getD j undef := by
        simp [Array.getElem?_setIfInBounds_ne (Ne.symm hj)]
      rw [this]; exact h.slots j

theorem Sim.Ble {J0 : Nat → Prop} {ρ : Nat → Loc} {J : Nat → Prop} {B : Nat} {w0 : World} {st : St} {a : Act} {w : World} (h : Sim J0 ρ J B w0 st a w) : B ≤ w.heap.size := by
  rw [h.base]; exact h.below.size

/-- The world has grown; no block that was there has turned. -/
theorem Sim.grow {J0 : Nat → Prop} {ρ : Nat → Loc} {J J' : Nat → Prop} {B : Nat} {w0 : World} {st : St} {a : Act} {w w' : World} (h : Sim J0 ρ J B w0 st a w)
    (hb : Below w.heap.size w w') (hJ : ∀ b, J b → J' b) (hJ' : ∀ b, J' b → J b ∨ (w.heap.size ≤ b ∧ b < w'.heap.size)) : Sim J0 ρ J' B w0 st a w' := by
  have hw : ∀ b, J b → w'.heap[b]? = w.heap[b]? := fun b hb' => hb.block b (h.lt b hb')
  have hs := h.Ble
  refine { old := fun b hb' => ?_, own := h.own, lt := fun b hb' => ?_, slots := fun j => RelD.mono (fun _ => rfl) hJ hw _ _ (h.slots j),
           objs := fun id o ho => ?_, apart := h.apart, size := h.size, defers := h.defers, below := h.below.trans (hb.mono hs), base := h.base }
  · rcases hJ' b hb' with h1 | h1
    · exact h.old b h1
    · exact .inr (by omega)
  · rcases hJ' b hb' with h1 | h1
    · have := h.lt b h1; have := hb.size; omega
    · exact h1.2
  · obtain ⟨h1, h2, h3, h4, h5, vs, h6, h7, h8⟩ := h.objs id o ho
    refine ⟨h1, h2, h3, h4, h5, vs, RelDs.mono (fun _ => rfl) hJ hw _ _ h6, h7, ?_⟩
    rcases h8 with h8 | ⟨h9, g, cur, h10, h11, h12, h13, h14⟩
    · exact .inl h8
    · have hg : g < w.heap.size := (Array.getElem?_eq_some_iff.1 h12).1
      refine .inr ⟨h9, g, cur, h10, fun hc => ?_, (hb.block g hg).trans h12, h13, h14⟩
      rcases hJ' g hc with hc | hc
      · exact h11 hc
      · omega

theorem ObjAt.block {ρ : Nat → Loc} {J : Nat → Prop} {w : World} {id : Nat} {o : Own} (h : ObjAt ρ J w id o) (hc : 0 < (ρ id).cap) :
    ∃ g, (ρ id).a = some ⟨g, 0, none⟩ ∧ ¬ J g ∧ g < w.heap.size := by
  obtain ⟨_, _, _, _, _, vs, _, _, h8⟩ := h
  rcases h8 with ⟨h8, _⟩ | ⟨_, g, cur, h10, h11, h12, _⟩
  · omega
  · exact ⟨g, h10, h11, (Array.getElem?_eq_some_iff.1 h12).1⟩

theorem D.kills_length (id : Nat) (l : List D) : (D.kills id l).length = l.length := by simp [D.kills_eq_map]

/-- Whatever object id was, it is now o', in the row that it had or in a new one. -/
theorem Sim.reobj {J0 : Nat → Prop} {ρ : Nat → Loc} {J : Nat → Prop} {B : Nat} {w0 : World} {st : St} {a : Act} {w w' : World} (h : Sim J0 ρ J B w0 st a w)
    (id : Nat) (o' : Own) (loc : Loc) (row : Option Nat) (hg : w.grownBy w' row)
    (hrow : ∀ k, row = some k → w.heap.size ≤ k ∨ ∃ o, st.H id = some o ∧ 0 < (ρ id).cap ∧ (ρ id).a = some ⟨k, 0, none⟩)
    (hloc : ∀ g, 0 < loc.cap → loc.a = some ⟨g, 0, none⟩ → w.heap.size ≤ g ∨ row = some g)
    (ho : ObjAt (upd ρ id loc) J w' id o') : Sim J0 (upd ρ id loc) J B w0 ((st.killed id).obj id o') a w' := by
  have hs := h.Ble
  have hρ : ∀ i, i ≠ id → upd ρ id loc i = ρ i := fun i hi => upd_ne _ _ _ _ hi
  have hJrow : ∀ b, J b → some b ≠ row := by
    intro b hb hr
    rcases hrow b hr.symm with h1 | ⟨o, h1, h2, h3⟩
    · have := h.lt b hb; omega
    · obtain ⟨g, h4, h5, _⟩ := (h.objs id o h1).block h2
      rw [h3] at h4; cases h4; exact h5 hb
  have hw : ∀ b, J b → w'.heap[b]? = w.heap[b]? := fun b hb => hg.block b (h.lt b hb) (hJrow b hb)
  have hother : ∀ i oi, st.H i = some oi → i ≠ id → ∀ g, 0 < (ρ i).cap → (ρ i).a = some ⟨g, 0, none⟩ → some g ≠ row ∧ g < w.heap.size := by
    intro i oi hi hne g hc ha
    obtain ⟨g', h4, _, h6⟩ := (h.objs i oi hi).block hc
    rw [ha] at h4; cases h4
    refine ⟨fun hr => ?_, h6⟩
    rcases hrow g hr.symm with h1 | ⟨o, h1, h2, h3⟩
    · omega
    · exact h.apart i id oi o hi h1 hne hc h2 (ha.trans h3.symm)
  refine { old := h.old, own := fun i o g hi hc ha => ?_, lt := fun b hb => Nat.lt_of_lt_of_le (h.lt b hb) hg.size,
           slots := fun j => RelD.killed id hρ (fun _ h => h) hw _ _ (h.slots j), objs := fun i o hi => ?_, apart := fun i j oi oj hi hj hne hci hcj => ?_,
           size := h.size, defers := h.defers, below := ⟨hg.os.trans h.below.os, hg.tape.trans h.below.tape, hg.output.trans h.below.output, Nat.le_trans h.below.size hg.size, fun k hk => ?_⟩, base := h.base }
  · by_cases hid : i = id
    · subst hid
      simp only [upd_same] at hc ha
      rcases hloc g hc ha with h1 | h1
      · omega
      · rcases hrow g h1 with h2 | ⟨o2, h2, h3, h4⟩
        · omega
        · exact h.own _ o2 g h2 h3 h4
    · rw [hρ i hid] at hc ha
      simp only [St.obj, St.killed, upd_ne _ _ _ _ hid, if_neg hid] at hi
      cases hH : st.H i with
      | none => rw [hH] at hi; cases hi
      | some oi => exact h.own i oi g hH hc ha
  · by_cases hid : i = id
    · subst hid
      simp only [St.obj, upd_same] at hi
      cases hi
      exact ho
    · simp only [St.obj, St.killed, upd_ne _ _ _ _ hid, if_neg hid] at hi
      cases hH : st.H i with
      | none => rw [hH] at hi; cases hi
      | some oi =>
        rw [hH] at hi
        cases hi
        obtain ⟨h1, h2, h3, h4, h5, vs, h6, h7, h8⟩ := h.objs i oi hH
        refine ⟨by rw [hρ i hid]; exact h1, h2, by rw [hρ i hid]; simpa [D.kills_length] using h3, by rw [hρ i hid]; exact h4, by simpa [D.kills_length] using h5, vs, RelDs.killed id hρ (fun _ h => h) hw _ _ h6, h7, ?_⟩
        rw [hρ i hid]
        rcases h8 with h8 | ⟨h9, g, cur, h10, h11, h12, h13, h14⟩
        · exact .inl h8
        · obtain ⟨hr, hlt⟩ := hother i oi hH hid g h9 h10
          exact .inr ⟨h9, g, cur, h10, h11, (hg.block g hlt hr).trans h12, h13, by simpa [D.kills_length] using h14⟩
  · have hex : ∀ i oi, ((st.killed id).obj id o').H i = some oi → i ≠ id → ∃ o, st.H i = some o := by
      intro i oi hi hid
      simp only [St.obj, St.killed, upd_ne _ _ _ _ hid, if_neg hid] at hi
      cases hH : st.H i with
      | none => rw [hH] at hi; cases hi
      | some o => exact ⟨o, rfl⟩
    have key : ∀ i oi, ((st.killed id).obj id o').H i = some oi → i ≠ id → 0 < (ρ i).cap → 0 < loc.cap → (ρ i).a ≠ loc.a := by
      intro i oi hi hid hci hcl heq
      obtain ⟨o, hH⟩ := hex i oi hi hid
      obtain ⟨g, h4, _, h6⟩ := (h.objs i o hH).block hci
      rw [h4] at heq
      obtain ⟨hr, _⟩ := hother i o hH hid g hci h4
      rcases hloc g hcl heq.symm with h1 | h1
      · omega
      · exact hr h1.symm
    by_cases hid : i = id
    · subst hid
      have hj' : j ≠ i := fun e => hne e.symm
      rw [hρ j hj'] at hcj ⊢
      simp only [upd_same] at hci ⊢
      exact fun e => key j oj hj hj' hcj hci e.symm
    · by_cases hjd : j = id
      · subst hjd
        rw [hρ i hid] at hci ⊢
        simp only [upd_same] at hcj ⊢
        exact key i oi hi hid hci hcj
      · rw [hρ i hid] at hci ⊢
        rw [hρ j hjd] at hcj ⊢
        obtain ⟨o1, h1⟩ := hex i oi hi hid
        obtain ⟨o2, h2⟩ := hex j oj hj hjd
        exact h.apart i j o1 o2 h1 h2 hne hci hcj
  · refine (hg.block k (Nat.lt_of_lt_of_le hk hs) (fun hr => ?_)).trans (h.below.block k hk)
    rcases hrow k hr.symm with h1 | ⟨o, h1, h2, h3⟩
    · omega
    · have := h.own id o k h1 h2 h3; omega

/-- An object's cells are written; it lies where it lay. -/
theorem Sim.modobj {J0 : Nat → Prop} {ρ : Nat → Loc} {J : Nat → Prop} {B : Nat} {w0 : World} {st : St} {a : Act} {w w' : World} (h : Sim J0 ρ J B w0 st a w)
    (id : Nat) (o o' : Own) (g : Nat) (hH : st.H id = some o) (hc : 0 < (ρ id).cap) (ha : (ρ id).a = some ⟨g, 0, none⟩) (hg : w.grownBy w' (some g))
    (ho : ObjAt ρ J w' id o') : Sim J0 ρ J B w0 (st.obj id o') a w' := by
  have hs := h.Ble
  have hgJ : ¬ J g := by
    obtain ⟨g', h4, h5, _⟩ := (h.objs id o hH).block hc
    rw [ha] at h4; cases h4; exact h5
  have hw : ∀ b, J b → w'.heap[b]? = w.heap[b]? := fun b hb => hg.block b (h.lt b hb) (fun e => by cases e; exact hgJ hb)
  have hex : ∀ i oi, (st.obj id o').H i = some oi → ∃ o, st.H i = some o := by
    intro i oi hi
    by_cases hid : i = id
    · subst hid; exact ⟨o, hH⟩
    · simp only [St.obj, upd_ne _ _ _ _ hid] at hi; exact ⟨oi, hi⟩
  refine { old := h.old, own := fun i oi g' hi hc' ha' => ?_, lt := fun b hb => Nat.lt_of_lt_of_le (h.lt b hb) hg.size,
           slots := fun j => RelD.mono (fun _ => rfl) (fun _ h => h) hw _ _ (h.slots j), objs := fun i oi hi => ?_, apart := fun i j oi oj hi hj hne hci hcj => ?_,
           size := h.size, defers := h.defers, below := ⟨hg.os.trans h.below.os, hg.tape.trans h.below.tape, hg.output.trans h.below.output, Nat.le_trans h.below.size hg.size, fun k hk => ?_⟩, base := h.base }
  · obtain ⟨o1, h1⟩ := hex i oi hi
    exact h.own i o1 g' h1 hc' ha'
  · by_cases hid : i = id
    · subst hid
      simp only [St.obj, upd_same] at hi
      cases hi
      exact ho
    · simp only [St.obj, upd_ne _ _ _ _ hid] at hi
      obtain ⟨h1, h2, h3, h4, h5, vs, h6, h7, h8⟩ := h.objs i oi hi
      refine ⟨h1, h2, h3, h4, h5, vs, RelDs.mono (fun _ => rfl) (fun _ h => h) hw _ _ h6, h7, ?_⟩
      rcases h8 with h8 | ⟨h9, g', cur, h10, h11, h12, h13, h14⟩
      · exact .inl h8
      · have hlt : g' < w.heap.size := (Array.getElem?_eq_some_iff.1 h12).1
        refine .inr ⟨h9, g', cur, h10, h11, (hg.block g' hlt (fun e => ?_)).trans h12, h13, h14⟩
        cases e
        exact h.apart i id oi o hi hH hid h9 hc (h10.trans ha.symm)
  · obtain ⟨o1, h1⟩ := hex i oi hi
    obtain ⟨o2, h2⟩ := hex j oj hj
    exact h.apart i j o1 o2 h1 h2 hne hci hcj
  · refine (hg.block k (Nat.lt_of_lt_of_le hk hs) (fun e => ?_)).trans (h.below.block k hk)
    cases e
    have := h.own id o _ hH hc ha
    omega

end Go.VL
