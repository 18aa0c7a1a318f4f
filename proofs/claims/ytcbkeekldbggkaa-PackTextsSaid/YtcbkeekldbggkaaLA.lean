import Derived.WalkKit
import Derived.Below
import Derived.Laws.AppendOwn
import Derived.Laws.MakeOwn
import Derived.Laws.BytesArg
import Derived.KernelRfl
import Derived.Maps.RangeRun
import Derived.WalkLawsBesides
set_option linter.unusedSimpArgs false
set_option linter.unusedVariables false
section
/- Values without memory: what a value of a call reads as, and what a call owns. -/
namespace Go.VL
open Go Go.RowKit

structure Loc where
  a : Option Addr
  cap : Nat
  S : Nat

inductive D where
  | any
  | v (x : Value)
  | nil0
  | lst (l : List D)
  | agg (l : List D)
  | tup (l : List D)
  | ptr (d : D)
  | clos (f : Fn) (caps : List D)
  | ref (id n : Nat)
  | adr (id i o : Nat)
  | sub (id lo n : Nat)
  | loc (id : Nat) (l : Loc)
  | mp (id : Nat)
  deriving Inhabited

def D.width : D → Nat
  | .agg l => l.length
  | _ => 1

def capMax : Nat := 9223372036854775807

def RowAt (J : Nat → Prop) (w : World) (a : Option Addr) (cs : List Value) : Prop :=
  cs = [] ∨ ∃ b o, a = some ⟨b, o, none⟩ ∧ J b ∧ ∀ j u, cs[j]? = some u → w.cell? ⟨b, o + j, none⟩ = some u

mutual
def RelP (J : Nat → Prop) (w : World) : D → Value → Prop
  | .any, _ => True
  | .v x, y => y = x ∧ x.cells = #[x]
  | .nil0, y => ∃ a, y = .slice a 0 0
  | .lst l, y => ∃ a c vs, y = .slice a l.length c ∧ l.length ≤ c ∧ c ≤ maxLen ∧ l.length ≤ capMax ∧ (a = none → l = []) ∧ RelPs J w l vs ∧ RowAt J w a (vs.flatMap fun x => x.cells.toList)
  | .agg l, y => ∃ vs, y = .agg vs.toArray ∧ RelPs J w l vs ∧ ∀ x ∈ vs, x.oneCell' = true
  | .tup l, y => ∃ vs, y = .tuple vs.toArray ∧ RelPs J w l vs
  | .ptr d, y => ∃ b o x, y = .pointer (some ⟨b, o, none⟩) ∧ RelP J w d x ∧ x.cells.size = d.width ∧ J b ∧ ∀ j u, x.cells.toList[j]? = some u → w.cell? ⟨b, o + j, none⟩ = some u
  | .clos f caps, y => ∃ vs, y = .func f #[] vs.toArray ∧ RelPs J w caps vs
  | .ref _ _, _ => False
  | .adr _ _ _, _ => False
  | .sub _ _ _, _ => False
  | .loc _ _, _ => False
  | .mp _, _ => False
def RelPs (J : Nat → Prop) (w : World) : List D → List Value → Prop
  | [], vs => vs = []
  | d :: ds, vs => ∃ x xs, vs = x :: xs ∧ RelP J w d x ∧ RelPs J w ds xs
end

mutual
def RelD (ρ : Nat → Loc) (J : Nat → Prop) (w : World) : D → Value → Prop
  | .ref id n, y => y = .slice (ρ id).a n (ρ id).cap
  | .adr id i o, y => ∃ g, (ρ id).a = some ⟨g, 0, none⟩ ∧ y = .pointer (some ⟨g, i * (ρ id).S + o, none⟩)
  | .sub id lo n, y => ∃ ad, y = .slice ad n ((ρ id).cap - lo) ∧ lo + n ≤ (ρ id).cap ∧ (lo < (ρ id).cap ∨ lo = 0 → ad = (ρ id).a.map (·.add (lo * (ρ id).S)))
  | .loc id l, _ => ρ id = l
  | .mp id, y => ∃ g, (ρ id).a = some ⟨g, 0, none⟩ ∧ y = .map (some g)
  | .agg l, y => ∃ vs, y = .agg vs.toArray ∧ RelDs ρ J w l vs ∧ ∀ x ∈ vs, x.oneCell' = true
  | .tup l, y => ∃ vs, y = .tuple vs.toArray ∧ RelDs ρ J w l vs
  | .clos f caps, y => ∃ vs, y = .func f #[] vs.toArray ∧ RelDs ρ J w caps vs
  | .any, _ => True
  | .v x, y => y = x ∧ x.cells = #[x]
  | .nil0, y => ∃ a, y = .slice a 0 0
  | .lst l, y => RelP J w (.lst l) y
  | .ptr d, y => RelP J w (.ptr d) y
def RelDs (ρ : Nat → Loc) (J : Nat → Prop) (w : World) : List D → List Value → Prop
  | [], vs => vs = []
  | d :: ds, vs => ∃ x xs, vs = x :: xs ∧ RelD ρ J w d x ∧ RelDs ρ J w ds xs
end

theorem RowAt.mono {J J' : Nat → Prop} {w w' : World} {a : Option Addr} {cs : List Value} (hJ : ∀ b, J b → J' b)
    (hw : ∀ b, J b → w'.heap[b]? = w.heap[b]?) (h : RowAt J w a cs) : RowAt J' w' a cs := by
  rcases h with h | ⟨b, o, ha, hb, hc⟩
  · exact .inl h
  · exact .inr ⟨b, o, ha, hJ b hb, fun j u hu => (World.cell?_of_block (w := w) (hw b hb)).trans (hc j u hu)⟩

mutual
theorem RelP.mono {J J' : Nat → Prop} {w w' : World} (hJ : ∀ b, J b → J' b) (hw : ∀ b, J b → w'.heap[b]? = w.heap[b]?) :
    ∀ (d : D) (y : Value), RelP J w d y → RelP J' w' d y
  | .any, _, _ => trivial
  | .v _, _, h => h
  | .nil0, _, h => h
  | .lst l, y, h => by
    obtain ⟨a, c, vs, h1, h2, h3, h4, h0, h5, h6⟩ := h
    exact ⟨a, c, vs, h1, h2, h3, h4, h0, RelPs.mono hJ hw l vs h5, h6.mono hJ hw⟩
  | .agg l, y, h => by
    obtain ⟨vs, h1, h2, h3⟩ := h
    exact ⟨vs, h1, RelPs.mono hJ hw l vs h2, h3⟩
  | .tup l, y, h => by
    obtain ⟨vs, h1, h2⟩ := h
    exact ⟨vs, h1, RelPs.mono hJ hw l vs h2⟩
  | .ptr d, y, h => by
    obtain ⟨b, o, x, h1, h2, h3, h4, h5⟩ := h
    exact ⟨b, o, x, h1, RelP.mono hJ hw d x h2, h3, hJ b h4, fun j u hu => (World.cell?_of_block (w := w) (hw b h4)).trans (h5 j u hu)⟩
  | .clos f caps, y, h => by
    obtain ⟨vs, h1, h2⟩ := h
    exact ⟨vs, h1, RelPs.mono hJ hw caps vs h2⟩
  | .ref _ _, _, h => h.elim
  | .adr _ _ _, _, h => h.elim
  | .sub _ _ _, _, h => h.elim
  | .loc _ _, _, h => h.elim
  | .mp _, _, h => h.elim
theorem RelPs.mono {J J' : Nat → Prop} {w w' : World} (hJ : ∀ b, J b → J' b) (hw : ∀ b, J b → w'.heap[b]? = w.heap[b]?) :
    ∀ (l : List D) (vs : List Value), RelPs J w l vs → RelPs J' w' l vs
  | [], _, h => h
  | d :: ds, vs, h => by
    obtain ⟨x, xs, h1, h2, h3⟩ := h
    exact ⟨x, xs, h1, RelP.mono hJ hw d x h2, RelPs.mono hJ hw ds xs h3⟩
end

/-- What the package-level variables that the statements list hold. -/
def theGlobs : List (Nat × D) := []
/-- They hold it here. -/
def GlobAt (J : Nat → Prop) (w : World) : Prop := ∀ p ∈ theGlobs, RelP J w (.ptr p.2) (.pointer (some ⟨p.1, 0, none⟩))
theorem GlobAt.mono {J J' : Nat → Prop} {w w' : World} (hJ : ∀ b, J b → J' b) (hw : ∀ b, J b → w'.heap[b]? = w.heap[b]?) (h : GlobAt J w) : GlobAt J' w' := fun p hp => RelP.mono hJ hw _ _ (h p hp)
def globD (g : Nat) : List (Nat × D) → D
  | [] => .v (.pointer (some ⟨g, 0, none⟩))
  | p :: l => if p.1 = g then .ptr p.2 else globD g l

mutual
theorem RelD.mono {ρ ρ' : Nat → Loc} {J J' : Nat → Prop} {w w' : World} (hρ : ∀ id, ρ' id = ρ id) (hJ : ∀ b, J b → J' b) (hw : ∀ b, J b → w'.heap[b]? = w.heap[b]?) :
    ∀ (d : D) (y : Value), RelD ρ J w d y → RelD ρ' J' w' d y
  | .any, _, _ => trivial
  | .v _, _, h => h
  | .nil0, _, h => h
  | .lst l, y, h => RelP.mono hJ hw (.lst l) y h
  | .ptr d, y, h => RelP.mono hJ hw (.ptr d) y h
  | .agg l, y, h => by
    obtain ⟨vs, h1, h2, h3⟩ := h
    exact ⟨vs, h1, RelDs.mono hρ hJ hw l vs h2, h3⟩
  | .tup l, y, h => by
    obtain ⟨vs, h1, h2⟩ := h
    exact ⟨vs, h1, RelDs.mono hρ hJ hw l vs h2⟩
  | .clos f caps, y, h => by
    obtain ⟨vs, h1, h2⟩ := h
    exact ⟨vs, h1, RelDs.mono hρ hJ hw caps vs h2⟩
  | .ref id n, _, h => by simp only [RelD] at h ⊢; rw [hρ]; exact h
  | .adr id i o, _, h => by simp only [RelD] at h ⊢; rw [hρ]; exact h
  | .sub id i o, _, h => by simp only [RelD] at h ⊢; rw [hρ]; exact h
  | .loc id l, _, h => by simp only [RelD] at h ⊢; rw [hρ]; exact h
  | .mp id, _, h => by simp only [RelD] at h ⊢; rw [hρ]; exact h
theorem RelDs.mono {ρ ρ' : Nat → Loc} {J J' : Nat → Prop} {w w' : World} (hρ : ∀ id, ρ' id = ρ id) (hJ : ∀ b, J b → J' b) (hw : ∀ b, J b → w'.heap[b]? = w.heap[b]?) :
    ∀ (l : List D) (vs : List Value), RelDs ρ J w l vs → RelDs ρ' J' w' l vs
  | [], _, h => h
  | d :: ds, vs, h => by
    obtain ⟨x, xs, h1, h2, h3⟩ := h
    exact ⟨x, xs, h1, RelD.mono hρ hJ hw d x h2, RelDs.mono hρ hJ hw ds xs h3⟩
end

mutual
def D.kill (id : Nat) : D → D
  | .ref i n => if i = id then .any else .ref i n
  | .adr i a b => if i = id then .any else .adr i a b
  | .sub i a b => if i = id then .any else .sub i a b
  | .loc i l => if i = id then .any else .loc i l
  | .mp i => if i = id then .any else .mp i
  | .agg l => .agg (kills id l)
  | .tup l => .tup (kills id l)
  | .clos f caps => .clos f (kills id caps)
  | .any => .any
  | .v x => .v x
  | .nil0 => .nil0
  | .lst l => .lst l
  | .ptr d => .ptr d
def D.kills (id : Nat) : List D → List D
  | [] => []
  | d :: ds => d.kill id :: kills id ds
end

theorem D.kills_eq_map (id : Nat) (l : List D) : D.kills id l = l.map (D.kill id) := by
  induction l with
  | nil => rfl
  | cons d ds ih => simp [D.kills, ih]

mutual
theorem RelD.killed {ρ ρ' : Nat → Loc} {J J' : Nat → Prop} {w w' : World} (id : Nat) (hρ : ∀ i, i ≠ id → ρ' i = ρ i) (hJ : ∀ b, J b → J' b) (hw : ∀ b, J b → w'.heap[b]? = w.heap[b]?) :
    ∀ (d : D) (y : Value), RelD ρ J w d y → RelD ρ' J' w' (d.kill id) y
  | .any, _, _ => trivial
  | .v _, _, h => h
  | .nil0, _, h => h
  | .lst l, y, h => RelP.mono hJ hw (.lst l) y h
  | .ptr d, y, h => RelP.mono hJ hw (.ptr d) y h
  | .agg l, y, h => by
    obtain ⟨vs, h1, h2, h3⟩ := h
    exact ⟨vs, h1, RelDs.killed id hρ hJ hw l vs h2, h3⟩
  | .tup l, y, h => by
    obtain ⟨vs, h1, h2⟩ := h
    exact ⟨vs, h1, RelDs.killed id hρ hJ hw l vs h2⟩
  | .clos f caps, y, h => by
    obtain ⟨vs, h1, h2⟩ := h
    exact ⟨vs, h1, RelDs.killed id hρ hJ hw caps vs h2⟩
  | .ref i n, _, h => by
    simp only [D.kill]
    split
    · trivial
    · rename_i hne; simp only [RelD] at h ⊢; rw [hρ i hne]; exact h
  | .adr i a b, _, h => by
    simp only [D.kill]
    split
    · trivial
    · rename_i hne; simp only [RelD] at h ⊢; rw [hρ i hne]; exact h
  | .sub i a b, _, h => by
    simp only [D.kill]
    split
    · trivial
    · rename_i hne; simp only [RelD] at h ⊢; rw [hρ i hne]; exact h
  | .loc i l, _, h => by
    simp only [D.kill]
    split
    · trivial
    · rename_i hne; simp only [RelD] at h ⊢; rw [hρ i hne]; exact h
  | .mp i, _, h => by
    simp only [D.kill]
    split
    · trivial
    · rename_i hne; simp only [RelD] at h ⊢; rw [hρ i hne]; exact h
theorem RelDs.killed {ρ ρ' : Nat → Loc} {J J' : Nat → Prop} {w w' : World} (id : Nat) (hρ : ∀ i, i ≠ id → ρ' i = ρ i) (hJ : ∀ b, J b → J' b) (hw : ∀ b, J b → w'.heap[b]? = w.heap[b]?) :
    ∀ (l : List D) (vs : List Value), RelDs ρ J w l vs → RelDs ρ' J' w' (D.kills id l) vs
  | [], _, h => h
  | d :: ds, vs, h => by
    obtain ⟨x, xs, h1, h2, h3⟩ := h
    exact ⟨x, xs, h1, RelD.killed id hρ hJ hw d x h2, RelDs.killed id hρ hJ hw ds xs h3⟩
end
end Go.VL

end
section
/- The state of a call, and the law of its text. -/
namespace Go.VL
open Go Go.RowKit

structure Own where
  e : TypeId
  S : Nat
  els : List D

def upd {α : Type} (f : Nat → α) (k : Nat) (x : α) : Nat → α := fun j => if j = k then x else f j

theorem upd_same {α : Type} (f : Nat → α) (k : Nat) (x : α) : upd f k x k = x := by simp [upd]
theorem upd_ne {α : Type} (f : Nat → α) (k : Nat) (x : α) (j : Nat) (h : j ≠ k) : upd f k x j = f j := by simp [upd, h]

structure St where
  t : Nat → D
  H : Nat → Option Own
  n : Nat

def D.ofVal : Value → D
  | .agg cs => if cs.toList.all (fun x => x.oneCell') then .agg (cs.toList.map .v) else .any
  | x => .v x

def St.ev (st : St) : Operand → D
  | .tmp k => st.t k
  | .const x => D.ofVal x
  | .global g => globD g theGlobs
  | .func f => .clos (.func f) []

def St.put (st : St) (dst : Option Tmp) (x : D) : St :=
  match dst with
  | some d => { st with t := upd st.t d x }
  | none => st

def St.killed (st : St) (id : Nat) : St :=
  { st with t := fun j => (st.t j).kill id, H := fun j => if j = id then none else (st.H j).map fun o => { o with els := D.kills id o.els } }

def St.obj (st : St) (id : Nat) (o : Own) : St := { st with H := upd st.H id (some o) }

/-- A row of cells: nowhere (it has no cells), or at the head of a row that nothing else leads to. -/
def CellsAt (ρ : Nat → Loc) (J : Nat → Prop) (w : World) (id : Nat) (o : Own) : Prop :=
  (ρ id).S = o.S ∧ 0 < o.S ∧ o.els.length ≤ (ρ id).cap ∧ (ρ id).cap ≤ maxLen ∧ o.els.length ≤ capMax ∧
  ∃ vs : List Value, RelDs ρ J w o.els vs ∧ (∀ x ∈ vs, x.cells.size = o.S ∧ ∀ c ∈ x.cells.toList, c.oneCell' = true) ∧
    (((ρ id).cap = 0 ∧ vs = []) ∨
      (0 < (ρ id).cap ∧ ∃ g cur, (ρ id).a = some ⟨g, 0, none⟩ ∧ ¬ J g ∧ w.heap[g]? = some (.cells cur o.e (0, 0)) ∧ cur.size = (ρ id).cap * o.S ∧ cur.toList.take (o.els.length * o.S) = vs.flatMap fun x => x.cells.toList))
def pairV (e : MapEntry) : Value := .agg #[e.key, e.val]
/-- What an object that holds no cells reads as: a map: its entries, each a key and what stands there; an iterator over a map that nothing turns any more: what came last, and what is still to come. -/
def KindAt (J : Nat → Prop) (w : World) : Obj → List Value → Prop
  | .map es clock, vs => ((∀ e ∈ es.toList, e.born < clock) ∧ (es.toList.map (·.born)).Nodup) ∧ vs = es.toList.map pairV
  | .mapIter (some m) since seen last, vs => J m ∧ ∃ (es : Array MapEntry) (clock : Nat) (cv : Value), w.heap[m]? = some (.map es clock) ∧ (es.toList.map (·.born)).Nodup ∧ (∀ x ∈ es.toList, x.born < since) ∧ since ≤ last ∧
      (cv = .tuple #[] ∨ ∃ (seen0 : Array Nat) (e : MapEntry), seen = seen0.push e.born ∧ last = clock ∧ e ∈ es.toList ∧ cv = pairV e) ∧ since ≤ clock ∧ vs = .bool true :: cv :: (leftOf es seen).toList.map pairV
  | _, _ => False
theorem KindAt.mono {J J' : Nat → Prop} {w w' : World} {ob : Obj} {vs : List Value} (hJ : ∀ b, J b → J' b) (hw : ∀ b, J b → w'.heap[b]? = w.heap[b]?) (h : KindAt J w ob vs) : KindAt J' w' ob vs := by
  unfold KindAt at *
  split at h
  · exact h
  · obtain ⟨h1, es, clock, cv, h2, h3⟩ := h
    exact ⟨hJ _ h1, es, clock, cv, (hw _ h1).trans h2, h3⟩
  · exact h.elim
/-- A map (S is 0), or an iterator. -/
def MapAt (ρ : Nat → Loc) (J : Nat → Prop) (w : World) (id : Nat) (o : Own) : Prop :=
  (ρ id).S = o.S ∧ o.S = 0 ∧ (ρ id).cap = 1 ∧ o.els.length ≤ capMax ∧
  ∃ vs : List Value, RelDs ρ J w o.els vs ∧ ∃ g ob, (ρ id).a = some ⟨g, 0, none⟩ ∧ ¬ J g ∧ w.heap[g]? = some ob ∧ KindAt J w ob vs
/-- Where an object lies. -/
def ObjAt (ρ : Nat → Loc) (J : Nat → Prop) (w : World) (id : Nat) (o : Own) : Prop := CellsAt ρ J w id o ∨ MapAt ρ J w id o
theorem ObjAt.cells {ρ : Nat → Loc} {J : Nat → Prop} {w : World} {id : Nat} {o : Own} (h : ObjAt ρ J w id o) (hS : 0 < o.S) : CellsAt ρ J w id o := by
  rcases h with h | h
  · exact h
  · have := h.2.1; omega
/-- An object that is let alone. -/
theorem ObjAt.frame {ρ ρ' : Nat → Loc} {J J' : Nat → Prop} {w w' : World} {id : Nat} {o o' : Own} (h : ObjAt ρ J w id o) (hρ : ρ' id = ρ id) (he : o'.e = o.e) (hS : o'.S = o.S) (hl : o'.els.length = o.els.length)
    (hJ : ∀ b, J b → J' b) (hw : ∀ b, J b → w'.heap[b]? = w.heap[b]?) (hr : ∀ vs, RelDs ρ J w o.els vs → RelDs ρ' J' w' o'.els vs)
    (hb : ∀ g, 0 < (ρ id).cap → (ρ id).a = some ⟨g, 0, none⟩ → ¬ J g → g < w.heap.size → ¬ J' g ∧ w'.heap[g]? = w.heap[g]?) : ObjAt ρ' J' w' id o' := by
  rcases h with ⟨h1, h2, h3, h4, h5, vs, h6, h7, h8⟩ | ⟨h1, h2, h3, h4, vs, h6, g, ob, h7, h8, h9, h10⟩
  · refine .inl ⟨by rw [hρ, hS]; exact h1, by rw [hS]; exact h2, by rw [hρ, hl]; exact h3, by rw [hρ]; exact h4, by rw [hl]; exact h5, vs, hr _ h6, by rw [hS]; exact h7, ?_⟩
    rw [hρ]
    rcases h8 with h8 | ⟨h9, g, cur, h10, h11, h12, h13, h14⟩
    · exact .inl h8
    · obtain ⟨k1, k2⟩ := hb g h9 h10 h11 (Array.getElem?_eq_some_iff.1 h12).1
      exact .inr ⟨h9, g, cur, h10, k1, by rw [he]; exact k2.trans h12, by rw [hS]; exact h13, by rw [hS, hl]; exact h14⟩
  · obtain ⟨k1, k2⟩ := hb g (by omega) h7 h8 (Array.getElem?_eq_some_iff.1 h9).1
    exact .inr ⟨by rw [hρ, hS]; exact h1, by rw [hS]; exact h2, by rw [hρ]; exact h3, by rw [hl]; exact h4, vs, hr _ h6, g, ob, by rw [hρ]; exact h7, k1, k2.trans h9, h10.mono hJ hw⟩

/-- Up to where nothing may turn, but for what is lent. -/
structure Bound where
  n : Nat
  M : Nat → Prop
/-- Below a bound, but for what is lent, the world is as it was. -/
structure BelowM (B : Bound) (w w' : World) : Prop where
  os : w'.os = w.os
  tape : w'.tape = w.tape
  output : w'.output = w.output
  size : w.heap.size ≤ w'.heap.size
  block : ∀ k, k < B.n → ¬ B.M k → w'.heap[k]? = w.heap[k]?
theorem BelowM.refl (B : Bound) (w : World) : BelowM B w w := ⟨rfl, rfl, rfl, Nat.le_refl _, fun _ _ _ => rfl⟩
theorem BelowM.step {B : Bound} {a b c : World} (h : BelowM B a b) (k : Below B.n b c) : BelowM B a c :=
  ⟨k.os.trans h.os, k.tape.trans h.tape, k.output.trans h.output, Nat.le_trans h.size k.size, fun i hi hm => (k.block i hi).trans (h.block i hi hm)⟩
theorem BelowM.trans {B : Bound} {a b c : World} (h : BelowM B a b) (k : BelowM B b c) : BelowM B a c :=
  ⟨k.os.trans h.os, k.tape.trans h.tape, k.output.trans h.output, Nat.le_trans h.size k.size, fun i hi hm => (k.block i hi hm).trans (h.block i hi hm)⟩
/-- Nothing is lent. -/
def Bound.at (n : Nat) : Bound := ⟨n, fun _ => False⟩
theorem BelowM.plain {n : Nat} {w w' : World} (h : BelowM (.at n) w w') : Below n w w' := ⟨h.os, h.tape, h.output, h.size, fun k hk => h.block k hk id⟩

def Apart (ρ : Nat → Loc) (H : Nat → Option Own) : Prop :=
  ∀ i j oi oj, H i = some oi → H j = some oj → i ≠ j → 0 < (ρ i).cap → 0 < (ρ j).cap → (ρ i).a ≠ (ρ j).a

structure Sim (J0 : Nat → Prop) (ρ : Nat → Loc) (J : Nat → Prop) (B : Bound) (w0 : World) (st : St) (a : Act) (w : World) : Prop where
  old : ∀ b, J b → J0 b ∨ B.n ≤ b ∨ B.M b
  own : ∀ id o g, st.H id = some o → 0 < (ρ id).cap → (ρ id).a = some ⟨g, 0, none⟩ → B.n ≤ g ∨ B.M g
  lt : ∀ b, J b → b < w.heap.size
  slots : ∀ j, RelD ρ J w (st.t j) (a.tmps.getD j undef)
  objs : ∀ id o, st.H id = some o → ObjAt ρ J w id o
  apart : Apart ρ st.H
  size : a.tmps.size = st.n
  defers : a.defers = []
  below : BelowM B w0 w
  base : B.n = w0.heap.size
  glob : GlobAt J w

def SimE (J0 : Nat → Prop) (B : Bound) (w0 : World) (K : St → Prop) (a : Act) (w : World) : Prop := ∃ st ρ J, K st ∧ Sim J0 ρ J B w0 st a w

theorem cells_of_one {x : Value} (h : x.oneCell' = true) : x.cells = #[x] := by
  cases x <;> simp_all [Value.cells, Value.oneCell']

theorem RelDs_vals {ρ : Nat → Loc} {J : Nat → Prop} {w : World} : ∀ (l : List Value), (∀ x ∈ l, x.oneCell' = true) → RelDs ρ J w (l.map .v) l
  | [], _ => rfl
  | x :: xs, h => ⟨x, xs, rfl, ⟨rfl, cells_of_one (h x (by simp))⟩, RelDs_vals xs fun y hy => h y (by simp [hy])⟩

theorem RelD_ofVal {ρ : Nat → Loc} {J : Nat → Prop} {w : World} (x : Value) : RelD ρ J w (D.ofVal x) x := by
  cases x with
  | agg cs =>
    simp only [D.ofVal]
    split
    · rename_i h
      have h' : ∀ x ∈ cs.toList, x.oneCell' = true := fun x hx => List.all_eq_true.1 h x hx
      exact ⟨cs.toList, by simp, RelDs_vals _ h', h'⟩
    · trivial
  | _ => exact ⟨rfl, rfl⟩

theorem Sim.ev {J0 : Nat → Prop} {ρ : Nat → Loc} {J : Nat → Prop} {B : Bound} {w0 : World} {st : St} {a : Act} {w : World} (h : Sim J0 ρ J B w0 st a w) (x : Operand) :
    RelD ρ J w (st.ev x) (a.eval x) := by
  cases x with
  | tmp k => exact h.slots k
  | const v => exact RelD_ofVal v
  | global g =>
    show RelD ρ J w (globD g theGlobs) _
    have key : ∀ l : List (Nat × D), (∀ p ∈ l, RelP J w (.ptr p.2) (.pointer (some ⟨p.1, 0, none⟩))) → RelD ρ J w (globD g l) (.pointer (some ⟨g, 0, none⟩)) := by
      intro l
      induction l with
      | nil => intro _; exact ⟨rfl, rfl⟩
      | cons p l ih =>
        intro hl
        simp only [globD]
        split
        · rename_i e; rw [← e]; exact hl p (by simp)
        · exact ih fun q hq => hl q (by simp [hq])
    exact key _ h.glob
  | func f => exact ⟨[], rfl, rfl⟩

theorem Act.put_size (a : Act) (dst : Option Tmp) (x : Value) : (a.put dst x).tmps.size = a.tmps.size := by
  cases dst <;> simp [Act.put]

theorem Act.put_defers' (a : Act) (dst : Option Tmp) (x : Value) : (a.put dst x).defers = a.defers := by
  cases dst <;> simp [Act.put]

/-- A slot is written. -/
theorem Sim.put {J0 : Nat → Prop} {ρ : Nat → Loc} {J : Nat → Prop} {B : Bound} {w0 : World} {st : St} {a : Act} {w : World} (h : Sim J0 ρ J B w0 st a w) (dst : Option Tmp)
    (hd : ∀ d, dst = some d → d < st.n) {x : D} {y : Value} (hx : RelD ρ J w x y) : Sim J0 ρ J B w0 (st.put dst x) (a.put dst y) w := by
  cases dst with
  | none => exact h
  | some d =>
    refine { h with slots := fun j => ?_, size := by rw [Act.put_size]; exact h.size, defers := by rw [Act.put_defers']; exact h.defers }
    by_cases hj : j = d
    · subst hj
      have hlt : j < a.tmps.size := by rw [h.size]; exact hd j rfl
      simp only [St.put, upd_same, Act.put]
      have : (a.tmps.setIfInBounds j y).getD j undef = y := by simp [hlt]
      rw [this]; exact hx
    · simp only [St.put, upd_ne _ _ _ _ hj, Act.put]
      have : (a.tmps.setIfInBounds d y).getD j undef = a.tmps.getD j undef := by
        simp [Array.getElem?_setIfInBounds_ne (Ne.symm hj)]
      rw [this]; exact h.slots j

theorem Sim.Ble {J0 : Nat → Prop} {ρ : Nat → Loc} {J : Nat → Prop} {B : Bound} {w0 : World} {st : St} {a : Act} {w : World} (h : Sim J0 ρ J B w0 st a w) : B.n ≤ w.heap.size := by
  rw [h.base]; exact h.below.size

/-- The world has grown; no block that was there has turned. -/
theorem Sim.grow {J0 : Nat → Prop} {ρ : Nat → Loc} {J J' : Nat → Prop} {B : Bound} {w0 : World} {st : St} {a : Act} {w w' : World} (h : Sim J0 ρ J B w0 st a w)
    (hb : Below w.heap.size w w') (hJ : ∀ b, J b → J' b) (hJ' : ∀ b, J' b → J b ∨ (w.heap.size ≤ b ∧ b < w'.heap.size)) : Sim J0 ρ J' B w0 st a w' := by
  have hw : ∀ b, J b → w'.heap[b]? = w.heap[b]? := fun b hb' => hb.block b (h.lt b hb')
  have hs := h.Ble
  refine { old := fun b hb' => ?_, own := h.own, lt := fun b hb' => ?_, slots := fun j => RelD.mono (fun _ => rfl) hJ hw _ _ (h.slots j),
           objs := fun id o ho => ?_, apart := h.apart, size := h.size, defers := h.defers, below := h.below.step (hb.mono hs), base := h.base, glob := h.glob.mono hJ hw }
  · rcases hJ' b hb' with h1 | h1
    · exact h.old b h1
    · exact .inr (.inl (by omega))
  · rcases hJ' b hb' with h1 | h1
    · have := h.lt b h1; have := hb.size; omega
    · exact h1.2
  · refine (h.objs id o ho).frame rfl rfl rfl rfl hJ hw (fun vs hv => RelDs.mono (fun _ => rfl) hJ hw _ _ hv) fun g _ _ hn hg => ⟨fun hc => ?_, hb.block g hg⟩
    rcases hJ' g hc with hc | hc
    · exact hn hc
    · omega

theorem ObjAt.block {ρ : Nat → Loc} {J : Nat → Prop} {w : World} {id : Nat} {o : Own} (h : ObjAt ρ J w id o) (hc : 0 < (ρ id).cap) :
    ∃ g, (ρ id).a = some ⟨g, 0, none⟩ ∧ ¬ J g ∧ g < w.heap.size := by
  rcases h with ⟨_, _, _, _, _, vs, _, _, h8⟩ | ⟨_, _, _, _, vs, _, g, ob, h7, h8, h9, _⟩
  · rcases h8 with ⟨h8, _⟩ | ⟨_, g, cur, h10, h11, h12, _⟩
    · omega
    · exact ⟨g, h10, h11, (Array.getElem?_eq_some_iff.1 h12).1⟩
  · exact ⟨g, h7, h8, (Array.getElem?_eq_some_iff.1 h9).1⟩

theorem D.kills_length (id : Nat) (l : List D) : (D.kills id l).length = l.length := by simp [D.kills_eq_map]

/-- Whatever object id was, it is now o', in the row that it had or in a new one. -/
theorem Sim.reobj {J0 : Nat → Prop} {ρ : Nat → Loc} {J : Nat → Prop} {B : Bound} {w0 : World} {st : St} {a : Act} {w w' : World} (h : Sim J0 ρ J B w0 st a w)
    (id : Nat) (o' : Own) (loc : Loc) (row : Option Nat) (hg : w.grownBy w' row)
    (hrow : ∀ k, row = some k → w.heap.size ≤ k ∨ ∃ o, st.H id = some o ∧ 0 < (ρ id).cap ∧ (ρ id).a = some ⟨k, 0, none⟩)
    (hloc : ∀ g, 0 < loc.cap → loc.a = some ⟨g, 0, none⟩ → w.heap.size ≤ g ∨ row = some g)
    (ho : ObjAt (upd ρ id loc) J w' id o') : Sim J0 (upd ρ id loc) J B w0 ((st.killed id).obj id o') a w' := by
  have hs := h.Ble
  have hρ : ∀ i, i ≠ id → upd ρ id loc i = ρ i := fun i hi => upd_ne _ _ _ _ hi
  have hJrow : ∀ b, J b → some b ≠ row := by
    intro b hb hr
    rcases hrow b hr.symm with h1 | ⟨o, h1, h2, h3⟩
    · have := h.lt b hb; omega
    · obtain ⟨g, h4, h5, _⟩ := (h.objs id o h1).block h2
      rw [h3] at h4; cases h4; exact h5 hb
  have hw : ∀ b, J b → w'.heap[b]? = w.heap[b]? := fun b hb => hg.block b (h.lt b hb) (hJrow b hb)
  have hother : ∀ i oi, st.H i = some oi → i ≠ id → ∀ g, 0 < (ρ i).cap → (ρ i).a = some ⟨g, 0, none⟩ → some g ≠ row ∧ g < w.heap.size := by
    intro i oi hi hne g hc ha
    obtain ⟨g', h4, _, h6⟩ := (h.objs i oi hi).block hc
    rw [ha] at h4; cases h4
    refine ⟨fun hr => ?_, h6⟩
    rcases hrow g hr.symm with h1 | ⟨o, h1, h2, h3⟩
    · omega
    · exact h.apart i id oi o hi h1 hne hc h2 (ha.trans h3.symm)
  refine { old := h.old, own := fun i o g hi hc ha => ?_, lt := fun b hb => Nat.lt_of_lt_of_le (h.lt b hb) hg.size,
           slots := fun j => RelD.killed id hρ (fun _ h => h) hw _ _ (h.slots j), objs := fun i o hi => ?_, apart := fun i j oi oj hi hj hne hci hcj => ?_,
           size := h.size, defers := h.defers, below := ⟨hg.os.trans h.below.os, hg.tape.trans h.below.tape, hg.output.trans h.below.output, Nat.le_trans h.below.size hg.size, fun k hk hkm => ?_⟩, base := h.base, glob := h.glob.mono (fun _ h => h) hw }
  · by_cases hid : i = id
    · subst hid
      simp only [upd_same] at hc ha
      rcases hloc g hc ha with h1 | h1
      · exact .inl (by omega)
      · rcases hrow g h1 with h2 | ⟨o2, h2, h3, h4⟩
        · exact .inl (by omega)
        · exact h.own _ o2 g h2 h3 h4
    · rw [hρ i hid] at hc ha
      simp only [St.obj, St.killed, upd_ne _ _ _ _ hid, if_neg hid] at hi
      cases hH : st.H i with
      | none => rw [hH] at hi; cases hi
      | some oi => exact h.own i oi g hH hc ha
  · by_cases hid : i = id
    · subst hid
      simp only [St.obj, upd_same] at hi
      cases hi
      exact ho
    · simp only [St.obj, St.killed, upd_ne _ _ _ _ hid, if_neg hid] at hi
      cases hH : st.H i with
      | none => rw [hH] at hi; cases hi
      | some oi =>
        rw [hH] at hi
        cases hi
        exact (h.objs i oi hH).frame (hρ i hid) rfl rfl (D.kills_length _ _) (fun _ h => h) hw (fun vs hv => RelDs.killed id hρ (fun _ h => h) hw _ _ hv) fun g hc ha hn hlt => ⟨hn, hg.block g hlt (hother i oi hH hid g hc ha).1⟩
  · have hex : ∀ i oi, ((st.killed id).obj id o').H i = some oi → i ≠ id → ∃ o, st.H i = some o := by
      intro i oi hi hid
      simp only [St.obj, St.killed, upd_ne _ _ _ _ hid, if_neg hid] at hi
      cases hH : st.H i with
      | none => rw [hH] at hi; cases hi
      | some o => exact ⟨o, rfl⟩
    have key : ∀ i oi, ((st.killed id).obj id o').H i = some oi → i ≠ id → 0 < (ρ i).cap → 0 < loc.cap → (ρ i).a ≠ loc.a := by
      intro i oi hi hid hci hcl heq
      obtain ⟨o, hH⟩ := hex i oi hi hid
      obtain ⟨g, h4, _, h6⟩ := (h.objs i o hH).block hci
      rw [h4] at heq
      obtain ⟨hr, _⟩ := hother i o hH hid g hci h4
      rcases hloc g hcl heq.symm with h1 | h1
      · omega
      · exact hr h1.symm
    by_cases hid : i = id
    · subst hid
      have hj' : j ≠ i := fun e => hne e.symm
      rw [hρ j hj'] at hcj ⊢
      simp only [upd_same] at hci ⊢
      exact fun e => key j oj hj hj' hcj hci e.symm
    · by_cases hjd : j = id
      · subst hjd
        rw [hρ i hid] at hci ⊢
        simp only [upd_same] at hcj ⊢
        exact key i oi hi hid hci hcj
      · rw [hρ i hid] at hci ⊢
        rw [hρ j hjd] at hcj ⊢
        obtain ⟨o1, h1⟩ := hex i oi hi hid
        obtain ⟨o2, h2⟩ := hex j oj hj hjd
        exact h.apart i j o1 o2 h1 h2 hne hci hcj
  · refine (hg.block k (Nat.lt_of_lt_of_le hk hs) (fun hr => ?_)).trans (h.below.block k hk hkm)
    rcases hrow k hr.symm with h1 | ⟨o, h1, h2, h3⟩
    · omega
    · rcases h.own id o k h1 h2 h3 with h4 | h4
      · omega
      · exact hkm h4

/-- An object's cells are written; it lies where it lay. -/
theorem Sim.modobj {J0 : Nat → Prop} {ρ : Nat → Loc} {J : Nat → Prop} {B : Bound} {w0 : World} {st : St} {a : Act} {w w' : World} (h : Sim J0 ρ J B w0 st a w)
    (id : Nat) (o o' : Own) (g : Nat) (hH : st.H id = some o) (hc : 0 < (ρ id).cap) (ha : (ρ id).a = some ⟨g, 0, none⟩) (hg : w.grownBy w' (some g))
    (ho : ObjAt ρ J w' id o') : Sim J0 ρ J B w0 (st.obj id o') a w' := by
  have hs := h.Ble
  have hgJ : ¬ J g := by
    obtain ⟨g', h4, h5, _⟩ := (h.objs id o hH).block hc
    rw [ha] at h4; cases h4; exact h5
  have hw : ∀ b, J b → w'.heap[b]? = w.heap[b]? := fun b hb => hg.block b (h.lt b hb) (fun e => by cases e; exact hgJ hb)
  have hex : ∀ i oi, (st.obj id o').H i = some oi → ∃ o, st.H i = some o := by
    intro i oi hi
    by_cases hid : i = id
    · subst hid; exact ⟨o, hH⟩
    · simp only [St.obj, upd_ne _ _ _ _ hid] at hi; exact ⟨oi, hi⟩
  refine { old := h.old, own := fun i oi g' hi hc' ha' => ?_, lt := fun b hb => Nat.lt_of_lt_of_le (h.lt b hb) hg.size,
           slots := fun j => RelD.mono (fun _ => rfl) (fun _ h => h) hw _ _ (h.slots j), objs := fun i oi hi => ?_, apart := fun i j oi oj hi hj hne hci hcj => ?_,
           size := h.size, defers := h.defers, below := ⟨hg.os.trans h.below.os, hg.tape.trans h.below.tape, hg.output.trans h.below.output, Nat.le_trans h.below.size hg.size, fun k hk hkm => ?_⟩, base := h.base, glob := h.glob.mono (fun _ h => h) hw }
  · obtain ⟨o1, h1⟩ := hex i oi hi
    exact h.own i o1 g' h1 hc' ha'
  · by_cases hid : i = id
    · subst hid
      simp only [St.obj, upd_same] at hi
      cases hi
      exact ho
    · simp only [St.obj, upd_ne _ _ _ _ hid] at hi
      exact (h.objs i oi hi).frame rfl rfl rfl rfl (fun _ h => h) hw (fun vs hv => RelDs.mono (fun _ => rfl) (fun _ h => h) hw _ _ hv) fun g' hc2 ha2 hn hlt => ⟨hn, hg.block g' hlt fun e => by
        cases e
        exact h.apart i id oi o hi hH hid hc2 hc (ha2.trans ha.symm)⟩
  · obtain ⟨o1, h1⟩ := hex i oi hi
    obtain ⟨o2, h2⟩ := hex j oj hj
    exact h.apart i j o1 o2 h1 h2 hne hci hcj
  · refine (hg.block k (Nat.lt_of_lt_of_le hk hs) (fun e => ?_)).trans (h.below.block k hk hkm)
    cases e
    rcases h.own id o _ hH hc ha with h4 | h4
    · omega
    · exact hkm h4

end Go.VL

end
section
/- What one operation does, over values without memory. -/
namespace Go.VL
open Go Go.RowKit

def OpX (P : Program) (o : Oper) (K : St → D → Prop) (st : St) : Prop :=
  ∀ (J0 : Nat → Prop) (ρ : Nat → Loc) (J : Nat → Prop) (B : Bound) (w0 : World) (a : Act) (w : World), Sim J0 ρ J B w0 st a w →
  ∀ (Kc : Act → World → Prop) (Q : Exit → Act → World → Prop),
    (∀ (st' : St) (ρ' : Nat → Loc) (J' : Nat → Prop) (x : D) (y : Value) (w' : World), K st' x → st'.n = st.n → Sim J0 ρ' J' B w0 st' a w' → RelD ρ' J' w' x y → Kc (a.put o.dst y) w') →
    o.wp P a w Kc Q

theorem wp_value {P : Program} {o : Oper} {a : Act} {w w' : World} {Kc : Act → World → Prop} {Q : Exit → Act → World → Prop} {y : Value}
    (hr : (execOp a.eval o).run P w = .ok (.value y) w') (h : Kc (a.put o.dst y) w') : o.wp P a w Kc Q := by
  unfold Oper.wp; rw [hr]; exact h

theorem wp_skip' {P : Program} {o : Oper} {a : Act} {w w' : World} {Kc : Act → World → Prop} {Q : Exit → Act → World → Prop}
    (hr : (execOp a.eval o).run P w = .ok .skip w') (h : Kc (a.put o.dst undef) w') : o.wp P a w Kc Q := by
  unfold Oper.wp; rw [hr]; exact h

/-- An operation that only computes. -/
theorem OpX.pure {P : Program} {o : Oper} {K : St → D → Prop} {st : St} (x : D) (hK : K st x)
    (h : ∀ (J0 : Nat → Prop) (ρ : Nat → Loc) (J : Nat → Prop) (B : Bound) (w0 : World) (a : Act) (w : World), Sim J0 ρ J B w0 st a w → ∃ y, (execOp a.eval o).run P w = .ok (.value y) w ∧ RelD ρ J w x y) :
    OpX P o K st := by
  intro J0 ρ J B w0 a w hs Kc Q hk
  obtain ⟨y, hr, hx⟩ := h J0 ρ J B w0 a w hs
  exact wp_value hr (hk st ρ J x y w hK rfl hs hx)

-- numbers
def abits (op : BinOp) (k : IntKind) (x y : Int) : Int :=
  match op with
  | .and => k.wrap (BitVec.ofInt k.bits x &&& BitVec.ofInt k.bits y).toNat
  | .or => k.wrap (BitVec.ofInt k.bits x ||| BitVec.ofInt k.bits y).toNat
  | .xor => k.wrap (BitVec.ofInt k.bits x ^^^ BitVec.ofInt k.bits y).toNat
  | _ => k.wrap (BitVec.ofInt k.bits x &&& ~~~BitVec.ofInt k.bits y).toNat

def aint (op : BinOp) (k : IntKind) (x y : Int) : Option Value :=
  match op with
  | .add => some (.int k (k.wrap (x + y)))
  | .sub => some (.int k (k.wrap (x - y)))
  | .mul => some (.int k (k.wrap (x * y)))
  | .quo => if y = 0 then none else some (.int k (k.wrap (x.tdiv y)))
  | .rem => if y = 0 then none else some (.int k (x.tmod y))
  | .and => some (.int k (abits .and k x y))
  | .or => some (.int k (abits .or k x y))
  | .xor => some (.int k (abits .xor k x y))
  | .andNot => some (.int k (abits .andNot k x y))
  | .shl => if y < 0 then none else some (.int k (k.wrap (x * 2 ^ min y.toNat k.bits)))
  | .shr => if y < 0 then none else some (.int k (x.fdiv (2 ^ min y.toNat k.bits)))
  | .eql => some (.bool (x == y))
  | .neq => some (.bool (x != y))
  | .lss => some (.bool (decide (x < y)))
  | .leq => some (.bool (decide (x ≤ y)))
  | .gtr => some (.bool (decide (x > y)))
  | .geq => some (.bool (decide (x ≥ y)))

/-- The product of two complex numbers, as words. -/
def cmulB (a b c d : Nat) : Option (Nat × Nat) :=
  (Ieee.double.mul a c).bind fun p => (Ieee.double.mul b d).bind fun q => (Ieee.double.sub p q).bind fun r =>
  (Ieee.double.mul a d).bind fun s => (Ieee.double.mul b c).bind fun t => (Ieee.double.add s t).map fun u => (r, u)

def isBoolT (P : Program) (t : TypeId) : Bool := match P.underlying t with | some .bool => true | _ => false
theorem isBoolT_spec {P : Program} {t : TypeId} (h : isBoolT P t = true) : P.underlying t = some .bool := by
  unfold isBoolT at h
  split at h
  · assumption
  · cases h

def abin (P : Program) (op : BinOp) (t : TypeId) (a b : Value) : Option Value :=
  match a, b with
  | .int k x, .int k' y => if k = k' ∨ op = .shl ∨ op = .shr then aint op k x y else none
  | .bool x, .bool y =>
    if isBoolT P t = true then
      match op with
      | .eql => some (.bool (x == y))
      | .neq => some (.bool (x != y))
      | _ => none
    else none
  | .string x, .string y =>
    match op with
    | .eql => some (.bool (x.toList == y.toList))
    | .neq => some (.bool (!(x.toList == y.toList)))
    | .add => if ((x.size + y.size : Nat) : Int) ≤ IntKind.i64.max then some (.string (x ++ y)) else none
    | _ => none
  | .complex .f64 a b, .complex .f64 c d =>
    match op with
    | .mul => (cmulB a b c d).map fun p => .complex .f64 p.1 p.2
    | _ => none
  | _, _ => none

theorem run_cmul {P : Program} {a b c d : Nat} {p : Nat × Nat} (h : cmulB a b c d = some p) (t : TypeId) (w : World) : (binOp .mul t (.complex .f64 a b) (.complex .f64 c d)).run P w = .ok (.complex .f64 p.1 p.2) w := by
  unfold cmulB at h
  simp only [Option.bind_eq_some_iff, Option.map_eq_some_iff] at h
  obtain ⟨p1, h1, q1, h2, r1, h3, s1, h4, t1, h5, u1, h6, rfl⟩ := h
  have e1 : ∀ x y z : Nat, Ieee.double.mul x y = some z → (Op.Complex.mul x y).run P w = .ok z w := by
    intro x y z hz
    have : FloatKind.f64.format.mul x y = some z := hz
    simp [Op.Complex.mul, Op.Complex.arith, Op.floatArith, this]
  have e2 : ∀ x y z : Nat, Ieee.double.sub x y = some z → (Op.Complex.sub x y).run P w = .ok z w := by
    intro x y z hz
    have : FloatKind.f64.format.sub x y = some z := hz
    simp [Op.Complex.sub, Op.Complex.arith, Op.floatArith, this]
  have e3 : ∀ x y z : Nat, Ieee.double.add x y = some z → (Op.Complex.add x y).run P w = .ok z w := by
    intro x y z hz
    have : FloatKind.f64.format.add x y = some z := hz
    simp [Op.Complex.add, Op.Complex.arith, Op.floatArith, this]
  simp only [binOp]
  simp [Op.complexOp, Op.Complex.conv, Op.Complex.product, e1 _ _ _ h1, e1 _ _ _ h2, e2 _ _ _ h3, e1 _ _ _ h4, e1 _ _ _ h5, e3 _ _ _ h6]

theorem run_eqGuard_none {P : Program} {op : BinOp} {t : TypeId} {a b : Value} (xo yo : Operand) (w : World) (ha : ∀ c, a ≠ .agg c) (hn : a ≠ .nilIface) :
    (eqGuard op t xo yo a b).run P w = .ok () w := by
  cases a <;> first
    | exact absurd rfl hn
    | exact absurd rfl (ha _)
    | (unfold eqGuard; cases op <;> rfl)

set_option maxHeartbeats 1000000 in
theorem run_aint {P : Program} {op : BinOp} {t : TypeId} {k k' : IntKind} {x y : Int} {r : Value} (hk : k = k' ∨ op = .shl ∨ op = .shr) (h : aint op k x y = some r) (w : World) :
    (binOp op t (.int k x) (.int k' y)).run P w = .ok r w ∧ r.cells = #[r] := by
  cases op <;> simp only [aint, abits, Option.some.injEq] at h <;>
    first
    | (subst h; have hk' : k = k' := by simpa using hk
       subst hk'; simp [binOp, Op.intArith, Op.intBits, Op.intCmp, Value.cells]; done)
    | (split at h
       · cases h
       · rename_i hy
         simp only [Option.some.injEq] at h
         subst h
         simp [binOp, Op.shift, Value.cells, hy]; done)
    | (split at h
       · cases h
       · rename_i hy
         simp only [Option.some.injEq] at h
         have hk' : k = k' := by simpa using hk
         subst hk' h
         simp [binOp, Op.intDiv, Value.cells, hy]; done)

theorem run_abin {P : Program} {op : BinOp} {t : TypeId} {a b r : Value} (h : abin P op t a b = some r) (xo yo : Operand) (w : World) :
    (eqGuard op t xo yo a b).run P w = .ok () w ∧ (binOp op t a b).run P w = .ok r w ∧ r.cells = #[r] := by
  unfold abin at h
  split at h
  · split at h
    · rename_i hk
      exact ⟨run_eqGuard_none _ _ _ (by simp) (by simp), run_aint hk h w⟩
    · cases h
  · rename_i x y
    split at h
    · rename_i ht0
      have ht := isBoolT_spec ht0
      refine ⟨run_eqGuard_none _ _ _ (by simp) (by simp), ?_⟩
      cases op <;> simp only [Option.some.injEq] at h <;> first | (cases h; done) | skip
      · subst h; exact ⟨run_eql_bool w t x y ht, rfl⟩
      · subst h; simp only [binOp]; simp [run_equal_bool w t x y ht, Value.cells]; cases x <;> cases y <;> rfl
    · cases h
  · rename_i x y
    refine ⟨run_eqGuard_none _ _ _ (by simp) (by simp), ?_⟩
    cases op <;> simp only [Option.some.injEq] at h <;> first | (cases h; done) | skip
    · split at h
      · rename_i hs
        simp only [Option.some.injEq] at h
        subst h
        have hs' : ¬ (((x.size + y.size : Nat) : Int) > IntKind.i64.max) := by omega
        simp only [binOp]
        simp only [Op.stringOp, if_neg hs']
        exact ⟨rfl, rfl⟩
      · cases h
    · subst h; simp only [binOp]; simp [Op.stringOp, Value.cells]
    · subst h; simp only [binOp]; simp [Op.stringOp, Value.cells]
  · refine ⟨run_eqGuard_none _ _ _ (by simp) (by simp), ?_⟩
    split at h
    · simp only [Option.map_eq_some_iff] at h
      obtain ⟨p, hp, rfl⟩ := h
      exact ⟨run_cmul hp t w, rfl⟩
    · cases h
  · cases h

def sliceT (P : Program) (t : TypeId) : Bool := match P.underlying t with | some (.slice _) => true | _ => false
theorem sliceT_spec {P : Program} {t : TypeId} (h : sliceT P t = true) : ∃ e, P.underlying t = some (.slice e) := by
  unfold sliceT at h
  split at h
  · exact ⟨_, by assumption⟩
  · cases h

/-- What is told of 'xs == nil': of a slice with something in it, that it is not nil. -/
def nilAsk (P : Program) (op : BinOp) (t : TypeId) (x y : D) (k : D → Prop) : Prop :=
  match x, y, op with
  | .v (.slice none 0 0), .v (.slice none 0 0), .eql => sliceT P t = true ∧ k (.v (.bool true))
  | .v (.slice none 0 0), .v (.slice none 0 0), .neq => sliceT P t = true ∧ k (.v (.bool false))
  | .lst l, .v (.slice none 0 0), .eql => sliceT P t = true ∧ ∀ b : Bool, (b = true → l = []) → k (.v (.bool b))
  | .lst l, .v (.slice none 0 0), .neq => sliceT P t = true ∧ ∀ b : Bool, (b = false → l = []) → k (.v (.bool b))
  | _, _, _ => False

def opBin (P : Program) (op : BinOp) (t : TypeId) (x y : D) (k : D → Prop) : Prop :=
  match x, y with
  | .v a, .v b => match abin P op t a b with | some r => k (.v r) | none => nilAsk P op t x y k
  | _, _ => nilAsk P op t x y k

theorem run_slice_nil {P : Program} (w : World) (t e : TypeId) (a : Option Addr) (n c n' c' : Nat) (h : P.underlying t = some (.slice e)) :
    (binOp .eql t (.slice a n c) (.slice none n' c')).run P w = .ok (.bool a.isNone) w ∧ (binOp .neq t (.slice a n c) (.slice none n' c')).run P w = .ok (.bool (!a.isNone)) w := by
  have key : (Op.equal t (.slice a n c) (.slice none n' c')).run P w = .ok a.isNone w := by
    unfold Op.equal Op.maxDepth
    rw [show (10000 : Nat) = 9999 + 1 from rfl]
    unfold Op.equalIn
    cases a <;> simp [run_underlying h]
  constructor
  · simp only [binOp]; simp [key]
  · simp only [binOp]; simp [key]

theorem opBin_sound {P : Program} {o : Oper} {op : BinOp} {t yT : TypeId} {x y : Operand} (ho : o.op = .binOp op t x y yT) {K : St → D → Prop} {st : St}
    (h : opBin P op t (st.ev x) (st.ev y) (K st)) : OpX P o K st := by
  have hask : ∀ {X Y : D}, st.ev x = X → st.ev y = Y → nilAsk P op t X Y (K st) → OpX P o K st := by
    intro X Y hX hY hN
    unfold nilAsk at hN
    have run : ∀ {J0 : Nat → Prop} {ρ : Nat → Loc} {J : Nat → Prop} {B : Bound} {w0 : World} {a : Act} {w : World}, Sim J0 ρ J B w0 st a w →
        ∀ {ad n c r}, a.eval x = .slice ad n c → a.eval y = .slice none 0 0 → (binOp op t (.slice ad n c) (.slice none 0 0)).run P w = .ok r w →
        (execOp a.eval o).run P w = .ok (.value r) w := by
      intro J0 ρ J B w0 a w _ ad n c r h1 h2 h3
      simp only [execOp, ho, h1, h2, Sem.run_bind, Sem.run_pure, Result.andThen_ok, run_eqGuard_none x y w (by simp : ∀ c', (Value.slice ad n c) ≠ .agg c') (by simp), h3]
    split at hN
    · obtain ⟨hT, hk⟩ := hN
      obtain ⟨e, he⟩ := sliceT_spec hT
      refine OpX.pure _ hk fun J0 ρ J B w0 a w hs => ⟨_, run hs (by have := hs.ev x; rw [hX] at this; exact this.1) (by have := hs.ev y; rw [hY] at this; exact this.1) (run_slice_nil w t e none 0 0 0 0 he).1, rfl, rfl⟩
    · obtain ⟨hT, hk⟩ := hN
      obtain ⟨e, he⟩ := sliceT_spec hT
      refine OpX.pure _ hk fun J0 ρ J B w0 a w hs => ⟨_, run hs (by have := hs.ev x; rw [hX] at this; exact this.1) (by have := hs.ev y; rw [hY] at this; exact this.1) (run_slice_nil w t e none 0 0 0 0 he).2, rfl, rfl⟩
    · obtain ⟨hT, hk⟩ := hN
      obtain ⟨e, he⟩ := sliceT_spec hT
      intro J0 ρ J B w0 a w hs Kc Q hKc
      have h1 := hs.ev x; rw [hX] at h1
      have h2 := hs.ev y; rw [hY] at h2
      obtain ⟨ad, c, vs, h3, _, _, _, h0, h6, h7⟩ := h1
      have hr := run hs h3 h2.1 (run_slice_nil w t e ad _ c 0 0 he).1
      exact wp_value hr (hKc st ρ J _ _ w (hk ad.isNone fun hn => h0 (by simpa using hn)) rfl hs ⟨rfl, rfl⟩)
    · obtain ⟨hT, hk⟩ := hN
      obtain ⟨e, he⟩ := sliceT_spec hT
      intro J0 ρ J B w0 a w hs Kc Q hKc
      have h1 := hs.ev x; rw [hX] at h1
      have h2 := hs.ev y; rw [hY] at h2
      obtain ⟨ad, c, vs, h3, _, _, _, h0, h6, h7⟩ := h1
      have hr := run hs h3 h2.1 (run_slice_nil w t e ad _ c 0 0 he).2
      exact wp_value hr (hKc st ρ J _ _ w (hk (!ad.isNone) fun hn => h0 (by simpa using hn)) rfl hs ⟨rfl, rfl⟩)
    · exact hN.elim
  unfold opBin at h
  split at h
  · rename_i a' b' hx hy
    split at h
    · rename_i r hr
      refine OpX.pure _ h fun J0 ρ J B w0 a w hs => ?_
      have h1 := hs.ev x; rw [hx] at h1
      have h2 := hs.ev y; rw [hy] at h2
      obtain ⟨h3, h4, h5⟩ := run_abin hr x y w
      refine ⟨r, ?_, rfl, h5⟩
      simp only [execOp, ho, h1.1, h2.1, Sem.run_bind, Sem.run_pure, Result.andThen_ok, h3, h4]
    · exact hask rfl rfl h
  · exact hask rfl rfl h

end Go.VL

end
section
/- Loads, stores, and new variables. -/
namespace Go.VL
open Go Go.RowKit

def aggT (P : Program) (t : TypeId) : Bool := match P.underlying t with | some (.struct _) | some (.array _ _) => true | _ => false
def okT (P : Program) (t : TypeId) : Bool := decide (0 < P.cellsOf t) && (P.underlying t).isSome
def zeroT (P : Program) (t : TypeId) : Option Value := (P.info? t).bind (·.zero)

theorem info_of_cells {P : Program} {t : TypeId} (h : 0 < P.cellsOf t) : ∃ i, P.info? t = some i ∧ i.size = P.cellsOf t := by
  unfold Program.cellsOf at h ⊢
  cases hi : P.info? t with
  | none => simp [hi] at h
  | some i => exact ⟨i, rfl, by simp⟩

theorem run_size {P : Program} {t : TypeId} (h : 0 < P.cellsOf t) (w : World) : (sizeOf t).run P w = .ok (P.cellsOf t) w := by
  obtain ⟨i, hi, hs⟩ := info_of_cells h
  simp [sizeOf, typeInfo, hi, hs]

theorem run_isAgg {P : Program} {t : TypeId} (h : (P.underlying t).isSome = true) (w : World) : (isAgg t).run P w = .ok (aggT P t) w := by
  cases hu : P.underlying t with
  | none => simp [hu] at h
  | some d =>
    unfold isAgg aggT
    rw [Sem.run_bind, run_underlying hu w, hu]
    cases d <;> rfl

theorem okT_spec {P : Program} {t : TypeId} (h : okT P t = true) : 0 < P.cellsOf t ∧ (P.underlying t).isSome = true := by
  simpa [okT] using h

mutual
theorem RelP.toD {ρ : Nat → Loc} {J : Nat → Prop} {w : World} : ∀ {d : D} {y : Value}, RelP J w d y → RelD ρ J w d y
  | .any, _, _ => trivial
  | .v _, _, h => h
  | .nil0, _, h => h
  | .lst _, _, h => h
  | .ptr _, _, h => h
  | .agg l, y, h => by
    obtain ⟨vs, h1, h2, h3⟩ := h
    exact ⟨vs, h1, RelPs.toD h2, h3⟩
  | .tup l, y, h => by
    obtain ⟨vs, h1, h2⟩ := h
    exact ⟨vs, h1, RelPs.toD h2⟩
  | .clos f caps, y, h => by
    obtain ⟨vs, h1, h2⟩ := h
    exact ⟨vs, h1, RelPs.toD h2⟩
  | .ref _ _, _, h => h.elim
  | .adr _ _ _, _, h => h.elim
  | .sub _ _ _, _, h => h.elim
  | .loc _ _, _, h => h.elim
  | .mp _, _, h => h.elim
theorem RelPs.toD {ρ : Nat → Loc} {J : Nat → Prop} {w : World} : ∀ {l : List D} {vs : List Value}, RelPs J w l vs → RelDs ρ J w l vs
  | [], _, h => h
  | d :: ds, vs, h => by
    obtain ⟨x, xs, h1, h2, h3⟩ := h
    exact ⟨x, xs, h1, RelP.toD h2, RelPs.toD h3⟩
end

mutual
def D.noRef : D → Bool
  | .ref _ _ => false
  | .adr _ _ _ => false
  | .sub _ _ _ => false
  | .loc _ _ => false
  | .mp _ => false
  | .agg l => D.noRefs l
  | .tup l => D.noRefs l
  | .clos _ caps => D.noRefs caps
  | .any => true
  | .v _ => true
  | .nil0 => true
  | .lst _ => true
  | .ptr _ => true
def D.noRefs : List D → Bool
  | [] => true
  | d :: ds => d.noRef && D.noRefs ds
end

theorem D.noRefs_eq (l : List D) : D.noRefs l = l.all D.noRef := by
  induction l with
  | nil => rfl
  | cons d ds ih => simp [D.noRefs, ih]

mutual
theorem RelD.toP {ρ : Nat → Loc} {J : Nat → Prop} {w : World} : ∀ {d : D} {y : Value}, RelD ρ J w d y → d.noRef = true → RelP J w d y
  | .any, _, _, _ => trivial
  | .v _, _, h, _ => h
  | .nil0, _, h, _ => h
  | .lst _, _, h, _ => h
  | .ptr _, _, h, _ => h
  | .agg l, y, h, hn => by
    obtain ⟨vs, h1, h2, h3⟩ := h
    exact ⟨vs, h1, RelDs.toP h2 hn, h3⟩
  | .tup l, y, h, hn => by
    obtain ⟨vs, h1, h2⟩ := h
    exact ⟨vs, h1, RelDs.toP h2 hn⟩
  | .clos f caps, y, h, hn => by
    obtain ⟨vs, h1, h2⟩ := h
    exact ⟨vs, h1, RelDs.toP h2 hn⟩
  | .ref _ _, _, _, hn => by cases hn
  | .adr _ _ _, _, _, hn => by cases hn
  | .sub _ _ _, _, _, hn => by cases hn
  | .loc _ _, _, _, hn => by cases hn
  | .mp _, _, _, hn => by cases hn
theorem RelDs.toP {ρ : Nat → Loc} {J : Nat → Prop} {w : World} : ∀ {l : List D} {vs : List Value}, RelDs ρ J w l vs → D.noRefs l = true → RelPs J w l vs
  | [], _, h, _ => h
  | d :: ds, vs, h, hn => by
    obtain ⟨x, xs, h1, h2, h3⟩ := h
    have hn' : d.noRef = true ∧ D.noRefs ds = true := by simpa [D.noRefs] using hn
    exact ⟨x, xs, h1, RelD.toP h2 hn'.1, RelDs.toP h3 hn'.2⟩
end

def D.isAgg : D → Bool
  | .agg _ => true
  | .loc _ _ => true
  | _ => false

theorem RelDs_get {ρ : Nat → Loc} {J : Nat → Prop} {w : World} : ∀ (l : List D) (vs : List Value), RelDs ρ J w l vs → l.length = vs.length ∧ ∀ (i : Nat) (d : D), l[i]? = some d → ∃ x, vs[i]? = some x ∧ RelD ρ J w d x
  | [], vs, h => by simp only [RelDs] at h; subst h; exact ⟨rfl, by simp⟩
  | d :: ds, vs, h => by
    obtain ⟨x, xs, h1, h2, h3⟩ := h
    subst h1
    obtain ⟨h4, h5⟩ := RelDs_get ds xs h3
    refine ⟨by simp [h4], fun i d' hd => ?_⟩
    cases i with
    | zero => simp only [List.getElem?_cons_zero, Option.some.injEq] at hd; subst hd; exact ⟨x, rfl, h2⟩
    | succ i => exact h5 i d' (by simpa using hd)

theorem RelDs_app {ρ : Nat → Loc} {J : Nat → Prop} {w : World} : ∀ (l m : List D) (vs us : List Value), RelDs ρ J w l vs → RelDs ρ J w m us → RelDs ρ J w (l ++ m) (vs ++ us)
  | [], m, vs, us, h, h' => by simp only [RelDs] at h; subst h; exact h'
  | d :: ds, m, vs, us, h, h' => by
    obtain ⟨x, xs, h1, h2, h3⟩ := h
    subst h1
    exact ⟨x, xs ++ us, rfl, h2, RelDs_app ds m xs us h3 h'⟩

theorem RelDs_drop {ρ : Nat → Loc} {J : Nat → Prop} {w : World} : ∀ (n : Nat) (l : List D) (vs : List Value), RelDs ρ J w l vs → RelDs ρ J w (l.drop n) (vs.drop n)
  | 0, l, vs, h => by simpa using h
  | n + 1, [], vs, h => by simp only [RelDs] at h; subst h; rfl
  | n + 1, d :: ds, vs, h => by
    obtain ⟨x, xs, h1, h2, h3⟩ := h
    subst h1
    exact RelDs_drop n ds xs h3

theorem RelDs_take {ρ : Nat → Loc} {J : Nat → Prop} {w : World} : ∀ (n : Nat) (l : List D) (vs : List Value), RelDs ρ J w l vs → RelDs ρ J w (l.take n) (vs.take n)
  | 0, l, vs, h => by simp [RelDs]
  | n + 1, [], vs, h => by simp only [RelDs] at h; subst h; rfl
  | n + 1, d :: ds, vs, h => by
    obtain ⟨x, xs, h1, h2, h3⟩ := h
    subst h1
    exact ⟨x, xs.take n, rfl, h2, RelDs_take n ds xs h3⟩

theorem RelDs_set {ρ : Nat → Loc} {J : Nat → Prop} {w : World} {d : D} {x : Value} (hd : RelD ρ J w d x) : ∀ (i : Nat) (l : List D) (vs : List Value), RelDs ρ J w l vs → RelDs ρ J w (l.set i d) (vs.set i x)
  | _, [], vs, h => by simp only [RelDs] at h; subst h; rfl
  | 0, e :: ds, vs, h => by
    obtain ⟨y, ys, h1, h2, h3⟩ := h
    subst h1
    exact ⟨x, ys, rfl, hd, h3⟩
  | i + 1, e :: ds, vs, h => by
    obtain ⟨y, ys, h1, h2, h3⟩ := h
    subst h1
    exact ⟨y, ys.set i x, rfl, h2, RelDs_set hd i ds ys h3⟩

/-- A value that is no struct has one cell. -/
theorem RelD_one {ρ : Nat → Loc} {J : Nat → Prop} {w : World} {d : D} {x : Value} (h : RelD ρ J w d x) (hd : d.isAgg = false) (hw : x.cells.size = d.width) :
    ∃ y, x.cells = #[y] ∧ (d ≠ .any → y = x) := by
  cases d with
  | any =>
    simp only [D.width] at hw
    exact ⟨x.cells[0], by apply Array.ext <;> simp [hw]; intro i h1; have : i = 0 := by omega
                          subst this; rfl, fun h => absurd rfl h⟩
  | v z => obtain ⟨rfl, h2⟩ := h; exact ⟨_, h2, fun _ => rfl⟩
  | nil0 => obtain ⟨a, rfl⟩ := h; exact ⟨_, rfl, fun _ => rfl⟩
  | lst l => obtain ⟨a, c, vs, rfl, _⟩ := h; exact ⟨_, rfl, fun _ => rfl⟩
  | agg l => cases hd
  | tup l => obtain ⟨vs, rfl, _⟩ := h; exact ⟨_, rfl, fun _ => rfl⟩
  | ptr e => obtain ⟨b, o, z, rfl, _⟩ := h; exact ⟨_, rfl, fun _ => rfl⟩
  | clos f caps => obtain ⟨vs, rfl, _⟩ := h; exact ⟨_, rfl, fun _ => rfl⟩
  | ref id n => subst h; exact ⟨_, rfl, fun _ => rfl⟩
  | adr id i o => obtain ⟨g, _, rfl⟩ := h; exact ⟨_, rfl, fun _ => rfl⟩
  | sub id i o => obtain ⟨_, rfl, _⟩ := h; exact ⟨_, rfl, fun _ => rfl⟩
  | loc id l => cases hd
  | mp id => obtain ⟨g, _, rfl⟩ := h; exact ⟨_, rfl, fun _ => rfl⟩

def partOf (d : D) (o sz : Nat) (ag : Bool) : Option D :=
  if ag then (match d with | .agg l => if o + sz ≤ l.length then some (.agg ((l.drop o).take sz)) else none | _ => none)
  else if sz = 1 then (match d with | .agg l => l[o]? | .loc _ _ => none | d => if o = 0 then some d else none) else none
theorem partOf_pos {d r : D} {o sz : Nat} {ag : Bool} (h : partOf d o sz ag = some r) (hs : 0 < sz) : 0 < d.width := by
  cases d with
  | agg l =>
    unfold partOf at h
    simp only at h
    split at h
    · split at h
      · simp only [D.width]; omega
      · cases h
    · split at h
      · have := (List.getElem?_eq_some_iff.1 h).1
        simp only [D.width]; omega
      · cases h
  | _ => simp only [D.width]; omega

theorem partOf_rel {ρ : Nat → Loc} {J : Nat → Prop} {w : World} {d r : D} {x : Value} {o sz : Nat} {ag : Bool} (h : RelD ρ J w d x) (hw : x.cells.size = d.width)
    (hp : partOf d o sz ag = some r) : (ag = true → ∃ l, d = .agg l ∧ o + sz ≤ x.cells.size ∧ RelD ρ J w r (.agg (x.cells.extract o (o + sz)))) ∧ (ag = false → sz = 1 ∧ ∃ y, x.cells[o]? = some y ∧ RelD ρ J w r y) := by
  unfold partOf at hp
  cases ag with
  | true =>
    refine ⟨fun _ => ?_, by simp⟩
    simp only [if_true] at hp
    cases d with
    | agg l =>
      simp only at hp
      split at hp
      · rename_i hle
        cases hp
        obtain ⟨vs, rfl, h2, h3⟩ := h
        obtain ⟨hl, _⟩ := RelDs_get l vs h2
        refine ⟨l, rfl, by simp [Value.cells]; omega, (vs.drop o).take sz, ?_, RelDs_take _ _ _ (RelDs_drop _ _ _ h2), fun y hy => h3 y (List.mem_of_mem_drop (List.mem_of_mem_take hy))⟩
        simp [Value.cells, List.extract_eq_take_drop, Nat.add_sub_cancel_left]
      · cases hp
    | _ => simp at hp
  | false =>
    refine ⟨by simp, fun _ => ?_⟩
    simp only [Bool.false_eq_true, if_false] at hp
    split at hp
    · rename_i hs
      subst hs
      refine ⟨rfl, ?_⟩
      cases hd : d.isAgg with
      | true =>
        cases d with
        | agg l =>
          obtain ⟨vs, rfl, h2, h3⟩ := h
          obtain ⟨_, h5⟩ := RelDs_get l vs h2
          obtain ⟨y, h6, h7⟩ := h5 o r hp
          exact ⟨y, by simpa [Value.cells] using h6, h7⟩
        | loc _ _ => cases hp
        | _ => cases hd
      | false =>
        obtain ⟨y, h1, h2⟩ := RelD_one h hd hw
        have hp' : (if o = 0 then some d else none) = some r := by cases d <;> first | exact hp | cases hd
        split at hp'
        · rename_i ho
          cases hp'
          subst ho
          refine ⟨y, by simp [h1], ?_⟩
          by_cases ha : d = .any
          · subst ha; trivial
          · rw [h2 ha]; exact h
        · cases hp'
    · cases hp

theorem run_loadVar_at {P : Program} {t : TypeId} (ht : okT P t = true) {w : World} {g o : Nat} {cs : List Value} (hl : cs.length = P.cellsOf t)
    (hc : ∀ j u, cs[j]? = some u → w.cell? ⟨g, o + j, none⟩ = some u) :
    (loadVar t ⟨g, o, none⟩).run P w = .ok (if aggT P t then .agg cs.toArray else cs.getD 0 undef) w ∨ (aggT P t = false ∧ P.cellsOf t ≠ 1) := by
  obtain ⟨h1, h2⟩ := okT_spec ht
  by_cases hag : aggT P t = true
  · left
    have hadd : ∀ j, (⟨g, o, none⟩ : Addr).add j = ⟨g, o + j, none⟩ := by intro j; unfold Addr.add; split <;> simp_all
    have := run_loadCells_list (P := P) w ⟨g, o, none⟩ cs (fun j v hv => by rw [hadd]; exact hc j v hv)
    simp [loadVar, run_isAgg h2, run_size h1, hag, ← hl, this]
  · by_cases h3 : P.cellsOf t = 1
    · left
      have hag' : aggT P t = false := by simpa using hag
      obtain ⟨u, rfl⟩ : ∃ u, cs = [u] := by
        cases cs with
        | nil => simp at hl; omega
        | cons u us => cases us with
          | nil => exact ⟨u, rfl⟩
          | cons _ _ => simp at hl; omega
      have := hc 0 u rfl
      simp only [Nat.add_zero] at this
      simp [loadVar, run_isAgg h2, hag', this]
    · right; exact ⟨by simpa using hag, h3⟩

def flat (vs : List Value) : List Value := vs.flatMap fun x => x.cells.toList

theorem flat_cons (x : Value) (xs : List Value) : flat (x :: xs) = x.cells.toList ++ flat xs := by simp [flat]

theorem flat_length {S : Nat} : ∀ (vs : List Value), (∀ x ∈ vs, x.cells.size = S) → (flat vs).length = vs.length * S
  | [], _ => by simp [flat]
  | x :: xs, h => by
    rw [flat_cons, List.length_append, flat_length xs fun y hy => h y (by simp [hy])]
    have := h x (by simp)
    simp only [Array.length_toList, this, List.length_cons, Nat.add_mul, Nat.one_mul]
    omega

theorem flat_get {S : Nat} : ∀ (vs : List Value), (∀ x ∈ vs, x.cells.size = S) → ∀ (i j : Nat) (x : Value), vs[i]? = some x → j < S → (flat vs)[i * S + j]? = x.cells.toList[j]?
  | [], _, i, j, x, hx, _ => by simp at hx
  | y :: ys, h, i, j, x, hx, hj => by
    have hy := h y (by simp)
    rw [flat_cons]
    cases i with
    | zero =>
      simp only [List.getElem?_cons_zero, Option.some.injEq] at hx
      subst hx
      rw [Nat.zero_mul, Nat.zero_add, List.getElem?_append_left (by simp [hy]; exact hj)]
    | succ i =>
      rw [List.getElem?_append_right (by simp [hy, Nat.add_mul]; omega)]
      have : (i + 1) * S + j - y.cells.toList.length = i * S + j := by
        simp only [Array.length_toList, hy, Nat.add_mul, Nat.one_mul]; omega
      rw [this]
      exact flat_get ys (fun z hz => h z (by simp [hz])) i j x (by simpa using hx) hj

theorem flat_set {S : Nat} : ∀ (vs : List Value), (∀ x ∈ vs, x.cells.size = S) → ∀ (i : Nat) (x y : Value), vs[i]? = some x → y.cells.size = S →
    flat (vs.set i y) = (flat vs).take (i * S) ++ y.cells.toList ++ (flat vs).drop (i * S + S)
  | [], _, i, x, y, hx, _ => by simp at hx
  | z :: zs, h, i, x, y, hx, hy => by
    have hz := h z (by simp)
    cases i with
    | zero =>
      simp only [List.set_cons_zero, flat_cons, Nat.zero_mul, List.take_zero, List.nil_append, Nat.zero_add]
      rw [List.drop_left' (by simp [hz])]
    | succ i =>
      have ih := flat_set zs (fun u hu => h u (by simp [hu])) i x y (by simpa using hx) hy
      have e1 : (i + 1) * S = z.cells.toList.length + i * S := by simp only [Array.length_toList, hz, Nat.add_mul, Nat.one_mul]; omega
      rw [List.set_cons_succ, flat_cons, flat_cons, ih, e1, List.take_length_add_append, Nat.add_assoc, List.drop_length_add_append]
      simp [List.append_assoc]

theorem flat_append (vs us : List Value) : flat (vs ++ us) = flat vs ++ flat us := by simp [flat]
theorem flat_take {S : Nat} : ∀ (n : Nat) (vs : List Value), (∀ x ∈ vs, x.cells.size = S) → flat (vs.take n) = (flat vs).take (n * S)
  | 0, vs, _ => by simp [flat]
  | n + 1, [], _ => by simp [flat]
  | n + 1, x :: xs, h => by
    have hx := h x (by simp)
    have e1 : (n + 1) * S = x.cells.toList.length + n * S := by simp only [Array.length_toList, hx, Nat.add_mul, Nat.one_mul]; omega
    rw [List.take_succ_cons, flat_cons, flat_cons, flat_take n xs fun y hy => h y (by simp [hy]), e1, List.take_length_add_append]
theorem flat_drop {S : Nat} : ∀ (n : Nat) (vs : List Value), (∀ x ∈ vs, x.cells.size = S) → flat (vs.drop n) = (flat vs).drop (n * S)
  | 0, vs, _ => by simp
  | n + 1, [], _ => by simp [flat]
  | n + 1, x :: xs, h => by
    have hx := h x (by simp)
    have e1 : (n + 1) * S = x.cells.toList.length + n * S := by simp only [Array.length_toList, hx, Nat.add_mul, Nat.one_mul]; omega
    rw [List.drop_succ_cons, flat_cons, flat_drop n xs fun y hy => h y (by simp [hy]), e1, List.drop_length_add_append]

/-- Element i of an object that has cells. -/
theorem CellsAt.elem {ρ : Nat → Loc} {J : Nat → Prop} {w : World} {id : Nat} {o : Own} (h : CellsAt ρ J w id o) {i : Nat} {d : D} (hd : o.els[i]? = some d) :
    0 < (ρ id).cap ∧ ∃ g cur vs x, (ρ id).a = some ⟨g, 0, none⟩ ∧ ¬ J g ∧ w.heap[g]? = some (.cells cur o.e (0, 0)) ∧ cur.size = (ρ id).cap * o.S ∧ RelDs ρ J w o.els vs ∧ vs[i]? = some x ∧ RelD ρ J w d x ∧
      (∀ y ∈ vs, y.cells.size = o.S ∧ ∀ c ∈ y.cells.toList, c.oneCell' = true) ∧ cur.toList.take (o.els.length * o.S) = flat vs ∧
      (∀ j u, x.cells.toList[j]? = some u → w.cell? ⟨g, i * o.S + j, none⟩ = some u) := by
  obtain ⟨h1, h2, h3, h4, h5, vs, h6, h7, h8⟩ := h
  obtain ⟨hl, hget⟩ := RelDs_get _ _ h6
  obtain ⟨x, hx, hdx⟩ := hget i d hd
  rcases h8 with ⟨_, h9⟩ | ⟨h9, g, cur, h10, h11, h12, h13, h14⟩
  · subst h9; simp at hx
  · refine ⟨h9, g, cur, vs, x, h10, h11, h12, h13, h6, hx, hdx, h7, h14, fun j u hu => ?_⟩
    have hxs := (h7 x (List.mem_of_getElem? hx)).1
    have hj : j < o.S := by
      have := (List.getElem?_eq_some_iff.1 hu).1
      simpa [hxs] using this
    have hf := flat_get vs (fun y hy => (h7 y hy).1) i j x hx hj
    rw [hu] at hf
    have hi : i < o.els.length := (List.getElem?_eq_some_iff.1 hd).1
    have hlt : i * o.S + j < o.els.length * o.S := by
      have : (i + 1) * o.S ≤ o.els.length * o.S := Nat.mul_le_mul_right _ hi
      rw [Nat.add_mul] at this; omega
    have : (cur.toList.take (o.els.length * o.S))[i * o.S + j]? = some u := by rw [h14]; exact hf
    rw [List.getElem?_take, if_pos hlt] at this
    rw [cell_of_row w g _ cur o.e (0, 0) h12]
    simpa using this

theorem Addr_add (g o j : Nat) : (⟨g, o, none⟩ : Addr).add j = ⟨g, o + j, none⟩ := by unfold Addr.add; split <;> simp_all

def opLoad (P : Program) (t : TypeId) (x : D) (K : D → Prop) (st : St) : Prop :=
  match x with
  | .ptr d => okT P t = true ∧ d.width = P.cellsOf t ∧ ∃ r, partOf d 0 (P.cellsOf t) (aggT P t) = some r ∧ K r
  | .adr id i o => ∃ ob, st.H id = some ob ∧ ∃ d, ob.els[i]? = some d ∧ okT P t = true ∧ d.width = ob.S ∧ ∃ r, partOf d o (P.cellsOf t) (aggT P t) = some r ∧ K r
  | _ => False

/-- Reading a part of a value that lies in a row. -/
theorem run_loadPart {P : Program} {t : TypeId} (ht : okT P t = true) {ρ : Nat → Loc} {J : Nat → Prop} {w : World} {d r : D} {x : Value} {g b o : Nat}
    (hx : RelD ρ J w d x) (hw : x.cells.size = d.width) (hc : ∀ j u, x.cells.toList[j]? = some u → w.cell? ⟨g, b + j, none⟩ = some u)
    (hp : partOf d o (P.cellsOf t) (aggT P t) = some r) : ∃ y, (loadVar t ⟨g, b + o, none⟩).run P w = .ok y w ∧ RelD ρ J w r y := by
  obtain ⟨h1, h2⟩ := partOf_rel hx hw hp
  cases hag : aggT P t with
  | true =>
    obtain ⟨l, rfl, h3, h4⟩ := h1 hag
    have hcs : ∀ j u, (x.cells.extract o (o + P.cellsOf t)).toList[j]? = some u → w.cell? ⟨g, b + o + j, none⟩ = some u := by
      intro j u hu
      have : x.cells.toList[o + j]? = some u := by
        simp only [Array.toList_extract, List.extract_eq_take_drop, Nat.add_sub_cancel_left, List.getElem?_take] at hu
        split at hu
        · simpa using hu
        · cases hu
      have := hc (o + j) u this
      rw [← Nat.add_assoc] at this
      exact this
    rcases run_loadVar_at ht (g := g) (o := b + o) (cs := (x.cells.extract o (o + P.cellsOf t)).toList) (by simp; omega) hcs with h5 | ⟨h5, _⟩
    · rw [hag] at h5
      exact ⟨_, h5, by rw [if_pos rfl, Array.toArray_toList]; exact h4⟩
    · rw [hag] at h5; cases h5
  | false =>
    obtain ⟨h3, y, h4, h5⟩ := h2 hag
    have hcs : ∀ j u, [y][j]? = some u → w.cell? ⟨g, b + o + j, none⟩ = some u := by
      intro j u hu
      cases j with
      | zero =>
        simp only [List.getElem?_cons_zero, Option.some.injEq] at hu
        subst hu
        have := hc o y (by simpa using h4)
        simpa using this
      | succ j => simp at hu
    rcases run_loadVar_at ht (g := g) (o := b + o) (cs := [y]) (by simp [h3]) hcs with h6 | ⟨_, h6⟩
    · rw [hag] at h6
      exact ⟨y, by simpa using h6, h5⟩
    · exact absurd h3 h6

theorem opLoad_sound {P : Program} {o : Oper} {t : TypeId} {x : Operand} (ho : o.op = .load t x) {K : St → D → Prop} {st : St}
    (h : opLoad P t (st.ev x) (K st) st) : OpX P o K st := by
  intro J0 ρ J B w0 a w hs Kc Q hKc
  have hx := hs.ev x
  have fin : ∀ {ad : Addr} {y : Value} {r : D}, a.eval x = .pointer (some ad) → (loadVar t ad).run P w = .ok y w → RelD ρ J w r y → K st r → o.wp P a w Kc Q := by
    intro ad y r h1 h2 h3 h4
    refine wp_value ?_ (hKc st ρ J r y w h4 rfl hs h3)
    simp [execOp, ho, h1, Instr.loadAt, Instr.sureAddr, h2]
  unfold opLoad at h
  split at h
  · rename_i d hd
    obtain ⟨h1, h2, r, h3, h4⟩ := h
    rw [hd] at hx
    obtain ⟨b, off, z, h5, h6, h7, h8, h9⟩ := hx
    obtain ⟨y, h10, h11⟩ := run_loadPart (P := P) h1 (ρ := ρ) (g := b) (b := off) (RelP.toD h6) h7 h9 h3
    exact fin h5 (by simpa using h10) h11 h4
  · rename_i id i off hd
    obtain ⟨ob, h1, d, h2, h3, hwd, r, h4, h5⟩ := h
    rw [hd] at hx
    obtain ⟨g, h6, h7⟩ := hx
    have hob := (hs.objs id ob h1).cells (by rw [← hwd]; exact partOf_pos h4 (okT_spec h3).1)
    obtain ⟨hcap, g', cur, vs, z, h8, h9, h10, h11, h12, h13, h14, h15, h16, h17⟩ := hob.elem h2
    rw [h6] at h8; cases h8
    have hS : (ρ id).S = ob.S := hob.1
    have hz := (h15 z (List.mem_of_getElem? h13)).1
    obtain ⟨y, h18, h19⟩ := run_loadPart (P := P) h3 (g := g) (b := i * ob.S) h14 (by rw [hz, hwd]) h17 h4
    exact fin h7 (by rw [hS]; exact h18) h19 h5
  · exact h.elim

/-- What can be put into cells. -/
def D.storable : D → Bool
  | .any => false
  | .tup _ => false
  | .loc _ _ => false
  | .v x => x.oneCell'
  | _ => true

theorem RelD_cells {ρ : Nat → Loc} {J : Nat → Prop} {w : World} {d : D} {x : Value} (h : RelD ρ J w d x) (hd : d.storable = true) :
    x.cells.size = d.width ∧ (∀ c ∈ x.cells.toList, c.oneCell' = true) ∧ (d.isAgg = false → x.cells = #[x]) := by
  cases d with
  | any => cases hd
  | v z => obtain ⟨rfl, h2⟩ := h; rw [h2]; exact ⟨rfl, by simpa using (show x.oneCell' = true from hd), fun _ => rfl⟩
  | nil0 => obtain ⟨a, rfl⟩ := h; exact ⟨rfl, by simp [Value.cells, Value.oneCell'], fun _ => rfl⟩
  | lst l => obtain ⟨a, c, vs, rfl, _⟩ := h; exact ⟨rfl, by simp [Value.cells, Value.oneCell'], fun _ => rfl⟩
  | agg l =>
    obtain ⟨vs, rfl, h2, h3⟩ := h
    exact ⟨by simp [Value.cells, D.width, (RelDs_get l vs h2).1], by simpa [Value.cells] using h3, by simp [D.isAgg]⟩
  | tup l => cases hd
  | ptr e => obtain ⟨b, o, z, rfl, _⟩ := h; exact ⟨rfl, by simp [Value.cells, Value.oneCell'], fun _ => rfl⟩
  | clos f caps => obtain ⟨vs, rfl, _⟩ := h; exact ⟨rfl, by simp [Value.cells, Value.oneCell'], fun _ => rfl⟩
  | ref id n => simp only [RelD] at h; subst h; exact ⟨rfl, by simp [Value.cells, Value.oneCell'], fun _ => rfl⟩
  | adr id i o => obtain ⟨g, _, rfl⟩ := h; exact ⟨rfl, by simp [Value.cells, Value.oneCell'], fun _ => rfl⟩
  | sub id i o => obtain ⟨_, rfl, _⟩ := h; exact ⟨rfl, by simp [Value.cells, Value.oneCell'], fun _ => rfl⟩
  | loc id l => cases hd
  | mp id => obtain ⟨g, _, rfl⟩ := h; exact ⟨rfl, by simp [Value.cells, Value.oneCell'], fun _ => rfl⟩

/-- d with v stored at cell o. -/
def setPart (d : D) (o : Nat) (v : D) : Option D :=
  match d, v with
  | .loc _ _, _ => none
  | .agg l, .agg m => if o + m.length ≤ l.length then some (.agg (l.take o ++ m ++ l.drop (o + m.length))) else none
  | .agg l, v => if o < l.length then some (.agg (l.set o v)) else none
  | _, .agg _ => none
  | _, v => if o = 0 then some v else none

theorem setPart_pos {d v d' : D} {o : Nat} (h : setPart d o v = some d') (hv : 0 < v.width) : 0 < d.width := by
  cases d with
  | agg l =>
    cases v with
    | agg m =>
      simp only [setPart] at h
      split at h
      · simp only [D.width] at hv ⊢; omega
      · cases h
    | _ =>
      simp only [setPart] at h
      split at h
      · simp only [D.width]; omega
      · cases h
  | _ => simp only [D.width]; omega

theorem setPart_rel {ρ : Nat → Loc} {J : Nat → Prop} {w : World} {d v d' : D} {x y : Value} {o : Nat} (hx : RelD ρ J w d x) (hxw : x.cells.size = d.width) (hx1 : ∀ c ∈ x.cells.toList, c.oneCell' = true)
    (hy : RelD ρ J w v y) (hv : v.storable = true) (hs : setPart d o v = some d') :
    ∃ x', RelD ρ J w d' x' ∧ o + y.cells.size ≤ x.cells.size ∧ x'.cells.toList = x.cells.toList.take o ++ y.cells.toList ++ x.cells.toList.drop (o + y.cells.size) ∧ (∀ c ∈ x'.cells.toList, c.oneCell' = true) := by
  obtain ⟨hy1, hy2, hy3⟩ := RelD_cells hy hv
  cases hd : d.isAgg with
  | true =>
    cases d with
    | agg l =>
      obtain ⟨vs, rfl, h2, h3⟩ := hx
      have hl := (RelDs_get l vs h2).1
      cases hva : v.isAgg with
      | true =>
        cases v with
        | agg m =>
          simp only [setPart] at hs
          split at hs
          · rename_i hle
            cases hs
            obtain ⟨us, rfl, h4, h5⟩ := hy
            have hm := (RelDs_get m us h4).1
            refine ⟨.agg (vs.take o ++ us ++ vs.drop (o + m.length)).toArray, ⟨_, rfl, RelDs_app _ _ _ _ (RelDs_app _ _ _ _ (RelDs_take _ _ _ h2) h4) (RelDs_drop _ _ _ h2), ?_⟩, ?_, ?_, ?_⟩
            · intro c hc
              simp only [List.mem_append] at hc
              rcases hc with (hc | hc) | hc
              · exact h3 c (List.mem_of_mem_take hc)
              · exact h5 c hc
              · exact h3 c (List.mem_of_mem_drop hc)
            · simp [Value.cells]; omega
            · simp [Value.cells, hm]
            · intro c hc
              simp only [Value.cells, List.mem_append] at hc
              rcases hc with (hc | hc) | hc
              · exact h3 c (List.mem_of_mem_take hc)
              · exact h5 c hc
              · exact h3 c (List.mem_of_mem_drop hc)
          · cases hs
        | loc _ _ => cases hv
        | _ => cases hva
      | false =>
        have hs' : (if o < l.length then some (D.agg (l.set o v)) else none) = some d' := by cases v <;> first | exact hs | cases hva
        split at hs'
        · rename_i hlt
          cases hs'
          have hyc := hy3 hva
          refine ⟨.agg (vs.set o y).toArray, ⟨_, rfl, RelDs_set hy o l vs h2, ?_⟩, ?_, ?_, ?_⟩
          · intro c hc
            rcases List.mem_or_eq_of_mem_set hc with hc | hc
            · exact h3 c hc
            · subst hc; exact hy2 c (by rw [hyc]; simp)
          · rw [hyc]; simp [Value.cells]; omega
          · rw [hyc]; simp [Value.cells]
            exact List.set_eq_take_append_cons_drop.trans (by rw [if_pos (by omega)])
          · intro c hc
            simp only [Value.cells] at hc
            rcases List.mem_or_eq_of_mem_set hc with hc | hc
            · exact h3 c hc
            · subst hc; exact hy2 c (by rw [hyc]; simp)
        · cases hs'
    | loc _ _ => cases hs
    | _ => cases hd
  | false =>
    have hs' : v.isAgg = false ∧ (if o = 0 then some v else none) = some d' := by
      cases d <;> first | (cases hd; done) | (cases v <;> first | (cases hv; done) | exact ⟨rfl, hs⟩ | cases hs)
    obtain ⟨hva, hs'⟩ := hs'
    split at hs'
    · rename_i ho
      subst ho
      cases hs'
      have hyc := hy3 hva
      obtain ⟨z, hz, _⟩ := RelD_one hx hd hxw
      exact ⟨y, hy, by rw [hyc, hz]; simp, by rw [hyc, hz]; simp, hy2⟩
    · cases hs'

theorem take_store {α : Type} (A Y : List α) (L p off S : Nat) (hL : L ≤ A.length) (hp : p + S ≤ L) (ho : off + Y.length ≤ S) :
  (A.take (p + off) ++ Y ++ A.drop (p + off + Y.length)).take L = (A.take L).take p ++ (((A.drop p).take S).take off ++ Y ++ ((A.drop p).take S).drop (off + Y.length)) ++ (A.take L).drop (p + S) := by
  apply List.ext_getElem?
  intro k
  simp only [List.getElem?_append, List.getElem?_take, List.getElem?_drop, List.length_append, List.length_take, List.length_drop]
  grind
theorem flat_mid {α : Type} (F zc : List α) (p S : Nat) (hz : zc.length = S) (h : ∀ j, j < S → F[p + j]? = zc[j]?) : (F.drop p).take S = zc := by
  apply List.ext_getElem?
  intro k
  simp only [List.getElem?_take, List.getElem?_drop]
  grind

def opStore (P : Program) (t : TypeId) (x v : D) (K : St → Prop) (st : St) : Prop :=
  match x with
  | .adr id i o => ∃ ob, st.H id = some ob ∧ ∃ d, ob.els[i]? = some d ∧ okT P t = true ∧ d.width = ob.S ∧ v.storable = true ∧ v.width = P.cellsOf t ∧ ∃ d', setPart d o v = some d' ∧ K (st.obj id { ob with els := ob.els.set i d' })
  | _ => False

theorem run_storeVar_at {P : Program} {t : TypeId} (ht : okT P t = true) {w : World} {g o : Nat} {e : TypeId} {cur : Array Value} {y : Value} (hy : y.cells.size = P.cellsOf t) (hy1 : ∀ c ∈ y.cells.toList, c.oneCell' = true)
    (hg : w.heap[g]? = some (.cells cur e (0, 0))) (hfit : o + y.cells.size ≤ cur.size) :
    (storeVar t ⟨g, o, none⟩ y).run P w = .ok () (w.setRow g (cur.toList.take o ++ y.cells.toList ++ cur.toList.drop (o + y.cells.size)).toArray) := by
  obtain ⟨h1, _⟩ := okT_spec ht
  have hst := run_storeCells_at P g o e y.cells.toList 0 cur w hg (by simpa using hfit) hy1
  simp only [Nat.add_zero, Array.length_toList] at hst
  simp [storeVar, run_size h1, hy] at hst ⊢
  exact hst

theorem grownBy_setRow (w : World) (g : Nat) (cs : Array Value) : w.grownBy (w.setRow g cs) (some g) :=
  ⟨rfl, rfl, rfl, by simp, fun k _ hk => setRow_other w g k _ (fun e => hk (by rw [e]))⟩

theorem RelDs_mem_set {S : Nat} {vs : List Value} (h : ∀ x ∈ vs, x.cells.size = S ∧ ∀ c ∈ x.cells.toList, c.oneCell' = true) {i : Nat} {y : Value} (hy : y.cells.size = S ∧ ∀ c ∈ y.cells.toList, c.oneCell' = true) :
    ∀ x ∈ vs.set i y, x.cells.size = S ∧ ∀ c ∈ x.cells.toList, c.oneCell' = true := by
  intro x hx
  rcases List.mem_or_eq_of_mem_set hx with hx | hx
  · exact h x hx
  · subst hx; exact hy

theorem opStore_sound {P : Program} {o : Oper} {t : TypeId} {x v : Operand} (ho : o.op = .store t x v) {K : St → D → Prop} {st : St}
    (h : opStore P t (st.ev x) (st.ev v) (fun s => K s .any) st) : OpX P o K st := by
  intro J0 ρ J B w0 a w hs Kc Q hKc
  have hx := hs.ev x
  have hv := hs.ev v
  unfold opStore at h
  split at h
  · rename_i id i off hd
    obtain ⟨ob, h1, d, h2, h3, hwd, h4, h5, d', h6, h7⟩ := h
    rw [hd] at hx
    obtain ⟨g, ha, hev⟩ := hx
    have hob := (hs.objs id ob h1).cells (by rw [← hwd]; exact setPart_pos h6 (by rw [h5]; exact (okT_spec h3).1))
    obtain ⟨hcap, g', cur, vs, z, h8, h9, h10, h11, h12, h13, h14, h15, h16, h17⟩ := hob.elem h2
    rw [ha] at h8; cases h8
    have hS : (ρ id).S = ob.S := hob.1
    obtain ⟨hz, hz1⟩ := h15 z (List.mem_of_getElem? h13)
    obtain ⟨z', h18, h19, h20, h21⟩ := setPart_rel h14 (by rw [hz, hwd]) hz1 hv h4 h6
    obtain ⟨hy1, hy2, _⟩ := RelD_cells hv h4
    have hi : i < ob.els.length := (List.getElem?_eq_some_iff.1 h2).1
    have hSp : 0 < ob.S := hob.2.1
    have hlen : ob.els.length * ob.S ≤ cur.size := by rw [h11]; exact Nat.mul_le_mul_right _ hob.2.2.1
    have hi1 : (i + 1) * ob.S ≤ ob.els.length * ob.S := Nat.mul_le_mul_right _ hi
    rw [Nat.add_mul, Nat.one_mul] at hi1
    have hfit : i * ob.S + off + (a.eval v).cells.size ≤ cur.size := by omega
    have hr := run_storeVar_at h3 (y := a.eval v) (o := i * ob.S + off) (by rw [hy1, h5]) hy2 h10 hfit
    have hz's : z'.cells.size = ob.S := by
      have := congrArg List.length h20
      simp only [Array.length_toList, List.length_append, List.length_take, List.length_drop] at this
      omega
    refine wp_skip' (w' := w.setRow g (cur.toList.take (i * ob.S + off) ++ (a.eval v).cells.toList ++ cur.toList.drop (i * ob.S + off + (a.eval v).cells.size)).toArray) ?_ (hKc _ ρ J .any undef _ h7 rfl ?_ trivial)
    · simp [execOp, ho, hev, Instr.storeAt, Instr.sureAddr, hS, hr]
    · refine hs.modobj id ob _ g h1 hcap ha (grownBy_setRow w g _) ?_
      have hJ : ∀ b, J b → (w.setRow g (cur.toList.take (i * ob.S + off) ++ (a.eval v).cells.toList ++ cur.toList.drop (i * ob.S + off + (a.eval v).cells.size)).toArray).heap[b]? = w.heap[b]? := by
        intro b hb; exact setRow_other w g b _ (fun e => h9 (e ▸ hb))
      refine .inl ⟨hob.1, hSp, by simpa using hob.2.2.1, hob.2.2.2.1, by simpa using hob.2.2.2.2.1, vs.set i z', RelDs.mono (fun _ => rfl) (fun _ h => h) hJ _ _ (RelDs_set h18 i _ _ h12), RelDs_mem_set h15 ⟨hz's, h21⟩, .inr ⟨hcap, g, _, ha, h9, setRow_heap w g cur _ ob.e _ h10, ?_, ?_⟩⟩
      · simp only [List.size_toArray, List.length_append, List.length_take, List.length_drop, Array.length_toList]
        rw [← h11]
        omega
      · show _ = flat (vs.set i z')
        rw [flat_set vs (fun y hy => (h15 y hy).1) i z z' h13 hz's, h20, ← h16]
        have hzl : z.cells.toList.length = ob.S := by simpa using hz
        have hmid : (cur.toList.drop (i * ob.S)).take ob.S = z.cells.toList := by
          refine flat_mid cur.toList z.cells.toList (i * ob.S) ob.S hzl fun j hj => ?_
          have hf := flat_get vs (fun y hy => (h15 y hy).1) i j z h13 hj
          rw [← h16, List.getElem?_take, if_pos (by omega)] at hf
          exact hf
        have := take_store cur.toList (a.eval v).cells.toList (ob.els.length * ob.S) (i * ob.S) off ob.S (by simpa using hlen) (by omega) (by simp; omega)
        rw [hmid] at this
        simpa using this
  · exact h.elim

end Go.VL

end
section
/- New memory, parts, and what is computed. -/
namespace Go.VL
open Go Go.RowKit

/-- A new row, that the call owns. -/
theorem Sim.newobj {J0 : Nat → Prop} {ρ : Nat → Loc} {J : Nat → Prop} {B : Bound} {w0 : World} {st : St} {a : Act} {w w' : World} (h : Sim J0 ρ J B w0 st a w)
    (id : Nat) (e : TypeId) (S cap : Nat) (cur : Array Value) (els : List D) (vs : List Value) (hg : w.grownBy w' none) (hnew : w'.heap[w.heap.size]? = some (.cells cur e (0, 0)))
    (hS : 0 < S) (hl : els.length ≤ cap) (hc : cap ≤ maxLen) (hc0 : 0 < cap) (hm : els.length ≤ capMax) (hcur : cur.size = cap * S) (hvs : RelDs ρ J w els vs)
    (hcells : ∀ x ∈ vs, x.cells.size = S ∧ ∀ c ∈ x.cells.toList, c.oneCell' = true) (htake : cur.toList.take (els.length * S) = flat vs) :
    Sim J0 (upd ρ id ⟨some ⟨w.heap.size, 0, none⟩, cap, S⟩) J B w0 ((st.killed id).obj id ⟨e, S, D.kills id els⟩) a w' := by
  have hJw : ∀ b, J b → w'.heap[b]? = w.heap[b]? := fun b hb => hg.block b (h.lt b hb) (by simp)
  have hgs : w.heap.size < w'.heap.size := (Array.getElem?_eq_some_iff.1 hnew).1
  refine h.reobj id _ _ none hg (fun k hk => by cases hk) (fun g hg1 hg2 => ?_) ?_
  · simp only [Option.some.injEq, Addr.mk.injEq, and_true] at hg2; left; omega
  · refine .inl ⟨by simp [upd_same], hS, by simpa [upd_same, D.kills_length] using hl, by simpa [upd_same] using hc, by simpa [D.kills_length] using hm, vs,
      RelDs.killed id (fun i hi => upd_ne _ _ _ _ hi) (fun _ h => h) hJw _ _ hvs, hcells, .inr ⟨by simpa [upd_same] using hc0, w.heap.size, cur, by simp [upd_same], fun hJ => ?_, hnew, by simpa [upd_same] using hcur, by rw [D.kills_length]; exact htake⟩⟩
    have := h.lt _ hJ; omega

theorem grownBy_drew_alloc (w : World) (o : Obj) (row : Option Nat) : w.grownBy (w.drew.alloc o) row :=
  ⟨rfl, rfl, rfl, by simp, fun k hk _ => Below.heap_alloc w.drew o k hk⟩

theorem flat_one (x : Value) : flat [x] = x.cells.toList := by simp [flat]

def opBox (P : Program) (e : TypeId) (v : D) (id : Nat) (K : St → D → Prop) (st : St) : Prop :=
  v.storable = true ∧ v.width = P.cellsOf e ∧ 0 < P.cellsOf e ∧ K ((st.killed id).obj id ⟨e, P.cellsOf e, [v.kill id]⟩) (.adr id 0 0)

def dstOf (d : Option Tmp) : Nat := d.getD 0

theorem opBox_sound {P : Program} {o : Oper} {e : TypeId} {x : Operand} (id : Nat) (ho : o.op = .box e x) {K : St → D → Prop} {st : St}
    (h : opBox P e (st.ev x) id K st) : OpX P o K st := by
  intro J0 ρ J B w0 a w hs Kc Q hKc
  obtain ⟨h1, h2, h3, h4⟩ := h
  have hx := hs.ev x
  obtain ⟨hy1, hy2, _⟩ := RelD_cells hx h1
  have hnew := heap_alloc_new w (.cells (a.eval x).cells e)
  refine wp_value (w' := w.alloc (.cells (a.eval x).cells e)) (y := .pointer (some ⟨w.heap.size, 0, none⟩)) ?_ (hKc _ _ J (.adr id 0 0) _ _ h4 rfl
    (hs.newobj id e (P.cellsOf e) 1 (a.eval x).cells [st.ev x] [a.eval x] (World.grownBy_alloc w _ none) hnew h3 (by simp) (by simp [maxLen]) (by simp) (by simp [capMax]) (by rw [hy1, h2]; simp) ⟨_, _, rfl, hx, rfl⟩ (by simp only [List.mem_singleton]; rintro y rfl; exact ⟨by rw [hy1, h2], hy2⟩) ?_) ?_)
  · simp [execOp, ho, Instr.box, newVar, newRow]
  · rw [flat_one, List.take_of_length_le]; simp [hy1, h2]
  · exact ⟨w.heap.size, by simp [upd_same], by simp⟩

def opAlloc (P : Program) (e : TypeId) (id : Nat) (K : St → D → Prop) (st : St) : Prop :=
  ∃ z, zeroT P e = some z ∧ (D.ofVal z).storable = true ∧ (D.ofVal z).width = P.cellsOf e ∧ 0 < P.cellsOf e ∧ K ((st.killed id).obj id ⟨e, P.cellsOf e, [D.ofVal z]⟩) (.adr id 0 0)

theorem kill_val (id : Nat) (l : List Value) : D.kills id (l.map D.v) = l.map D.v := by
  induction l with
  | nil => rfl
  | cons x xs ih => simp [D.kills, D.kill, ih]

theorem kill_ofVal (id : Nat) (x : Value) : (D.ofVal x).kill id = D.ofVal x := by
  cases x with
  | agg cs => simp only [D.ofVal]; split <;> simp [D.kill, kill_val]
  | _ => rfl

theorem run_zero {P : Program} {t : TypeId} {z : Value} (h : zeroT P t = some z) (w : World) : (zeroValue t).run P w = .ok z w := by
  unfold zeroT at h
  cases hi : P.info? t with
  | none => simp [hi] at h
  | some i => simp [hi] at h; simp [zeroValue, typeInfo, hi, h]

theorem opAlloc_sound {P : Program} {o : Oper} {e : TypeId} (id : Nat) (ho : o.op = .alloc e) {K : St → D → Prop} {st : St}
    (h : opAlloc P e id K st) : OpX P o K st := by
  intro J0 ρ J B w0 a w hs Kc Q hKc
  obtain ⟨z, hz, h1, h2, h3, h4⟩ := h
  have hx : RelD ρ J w (D.ofVal z) z := RelD_ofVal z
  obtain ⟨hy1, hy2, _⟩ := RelD_cells hx h1
  have hnew := heap_alloc_new w (.cells z.cells e)
  have key := hs.newobj id e (P.cellsOf e) 1 z.cells [D.ofVal z] [z] (World.grownBy_alloc w _ none) hnew h3 (by simp) (by simp [maxLen]) (by simp) (by simp [capMax]) (by rw [hy1, h2]; simp) ⟨_, _, rfl, hx, rfl⟩ (by simp only [List.mem_singleton]; rintro y rfl; exact ⟨by rw [hy1, h2], hy2⟩)
    (by rw [flat_one, List.take_of_length_le]; simp [hy1, h2])
  simp only [D.kills, kill_ofVal] at key
  refine wp_value (w' := w.alloc (.cells z.cells e)) (y := .pointer (some ⟨w.heap.size, 0, none⟩)) ?_ (hKc _ _ J (.adr id 0 0) _ _ h4 rfl key ?_)
  · simp [execOp, ho, Instr.alloc, run_zero hz, newVar, newRow]
  · exact ⟨w.heap.size, by simp [upd_same], by simp⟩

-- parts
def fieldT (P : Program) (s : TypeId) (f : Nat) : Option Field := match P.underlying s with | some (.struct fs) => fs[f]? | _ => none

theorem fieldT_spec {P : Program} {s : TypeId} {f : Nat} {fl : Field} (h : fieldT P s f = some fl) : ∃ fs, P.underlying s = some (.struct fs) ∧ fs[f]? = some fl := by
  unfold fieldT at h
  split at h
  · exact ⟨_, by assumption, h⟩
  · cases h

theorem run_part {P : Program} {t : TypeId} (ht : okT P t = true) {ρ : Nat → Loc} {J : Nat → Prop} {w : World} {l : List D} {r : D} {vs : List Value} {o : Nat}
    (hx : RelDs ρ J w l vs) (h1 : ∀ c ∈ vs, c.oneCell' = true) (hp : partOf (.agg l) o (P.cellsOf t) (aggT P t) = some r) : ∃ y, (part t vs.toArray o).run P w = .ok y w ∧ RelD ρ J w r y := by
  obtain ⟨h2, h3⟩ := okT_spec ht
  have hd : RelD ρ J w (.agg l) (.agg vs.toArray) := ⟨vs, rfl, hx, h1⟩
  obtain ⟨h4, h5⟩ := partOf_rel hd (by simp [Value.cells, D.width, (RelDs_get l vs hx).1]) hp
  cases hag : aggT P t with
  | true =>
    obtain ⟨_, _, _, h6⟩ := h4 hag
    exact ⟨_, by simp [part, run_isAgg h3, hag, run_size h2]; rfl, by simpa [Value.cells] using h6⟩
  | false =>
    obtain ⟨_, y, h6, h7⟩ := h5 hag
    simp only [Value.cells, List.getElem?_toArray] at h6
    exact ⟨y, by simp [part, run_isAgg h3, hag, h6], h7⟩

def opField (P : Program) (s : TypeId) (x : D) (f : Nat) (K : D → Prop) : Prop :=
  match x with
  | .agg l => ∃ fl, fieldT P s f = some fl ∧ okT P fl.type = true ∧ ∃ r, partOf (.agg l) fl.offset (P.cellsOf fl.type) (aggT P fl.type) = some r ∧ K r
  | _ => False

theorem opField_sound {P : Program} {o : Oper} {s : TypeId} {x : Operand} {f : Nat} (ho : o.op = .field s x f) {K : St → D → Prop} {st : St}
    (h : opField P s (st.ev x) f (K st)) : OpX P o K st := by
  unfold opField at h
  split at h
  · rename_i l hl
    obtain ⟨fl, h1, h2, r, h3, h4⟩ := h
    obtain ⟨fs, h5, h6⟩ := fieldT_spec h1
    refine OpX.pure r h4 fun J0 ρ J B w0 a w hs => ?_
    have hx := hs.ev x
    rw [hl] at hx
    obtain ⟨vs, h7, h8, h9⟩ := hx
    obtain ⟨y, h10, h11⟩ := run_part (P := P) h2 h8 h9 h3
    exact ⟨y, by simp [execOp, ho, h7, Instr.field, run_underlying h5, h6, asAgg, h10], h11⟩
  · exact h.elim

theorem run_fieldAt {P : Program} {s : TypeId} {f : Nat} {fl : Field} (h : fieldT P s f = some fl) (hok : okT P fl.type = true) (b o : Nat) (w : World) :
    (Instr.fieldAt s (.pointer (some ⟨b, o, none⟩)) f).run P w = .ok (.pointer (some ⟨b, o + fl.offset, none⟩)) w := by
  obtain ⟨fs, h5, h6⟩ := fieldT_spec h
  obtain ⟨h2, h3⟩ := okT_spec hok
  have h0 : P.cellsOf fl.type ≠ 0 := by omega
  simp [Instr.fieldAt, run_underlying h5, h6, Instr.sureAddr, fieldPlace, run_size h2, h0, Addr_add]

mutual
theorem RelP.noRef {J : Nat → Prop} {w : World} : ∀ {d : D} {y : Value}, RelP J w d y → d.noRef = true
  | .any, _, _ => rfl
  | .v _, _, _ => rfl
  | .nil0, _, _ => rfl
  | .lst _, _, _ => rfl
  | .ptr _, _, _ => rfl
  | .agg l, y, h => by obtain ⟨vs, _, h2, _⟩ := h; exact RelPs.noRefs h2
  | .tup l, y, h => by obtain ⟨vs, _, h2⟩ := h; exact RelPs.noRefs h2
  | .clos f caps, y, h => by obtain ⟨vs, _, h2⟩ := h; exact RelPs.noRefs h2
  | .ref _ _, _, h => h.elim
  | .adr _ _ _, _, h => h.elim
  | .sub _ _ _, _, h => h.elim
  | .loc _ _, _, h => h.elim
  | .mp _, _, h => h.elim
theorem RelPs.noRefs {J : Nat → Prop} {w : World} : ∀ {l : List D} {vs : List Value}, RelPs J w l vs → D.noRefs l = true
  | [], _, _ => rfl
  | d :: ds, vs, h => by
    obtain ⟨x, xs, h1, h2, h3⟩ := h
    simp [D.noRefs, RelP.noRef h2, RelPs.noRefs h3]
end

theorem partOf_noRef {d r : D} {o sz : Nat} {ag : Bool} (hd : d.noRef = true) (hp : partOf d o sz ag = some r) : r.noRef = true := by
  unfold partOf at hp
  split at hp
  · split at hp
    · rename_i l
      split at hp
      · cases hp
        simp only [D.noRef, D.noRefs_eq, List.all_eq_true] at hd ⊢
        exact fun x hx => hd x (List.mem_of_mem_drop (List.mem_of_mem_take hx))
      · cases hp
    · cases hp
  · split at hp
    · split at hp
      · rename_i l
        simp only [D.noRef, D.noRefs_eq, List.all_eq_true] at hd
        exact hd r (List.mem_of_getElem? hp)
      · cases hp
      · split at hp
        · cases hp; exact hd
        · cases hp
    · cases hp

theorem partOf_relP {J : Nat → Prop} {w : World} {d r : D} {x : Value} {o sz : Nat} {ag : Bool} (h : RelP J w d x) (hw : x.cells.size = d.width)
    (hp : partOf d o sz ag = some r) : (ag = true → ∃ l, d = .agg l ∧ o + sz ≤ x.cells.size ∧ RelP J w r (.agg (x.cells.extract o (o + sz)))) ∧ (ag = false → sz = 1 ∧ ∃ y, x.cells[o]? = some y ∧ RelP J w r y) := by
  have hn := partOf_noRef h.noRef hp
  obtain ⟨h1, h2⟩ := partOf_rel (ρ := fun _ => ⟨none, 0, 0⟩) (RelP.toD h) hw hp
  exact ⟨fun e => let ⟨l, a, b, c⟩ := h1 e; ⟨l, a, b, c.toP hn⟩, fun e => let ⟨a, y, b, c⟩ := h2 e; ⟨a, y, b, c.toP hn⟩⟩

/-- A part of what a pointer leads to. -/
theorem ptr_part {J : Nat → Prop} {w : World} {d r : D} {b o k sz : Nat} {ag : Bool} {z : Value} (h8 : RelP J w d z) (h9 : z.cells.size = d.width) (h10 : J b)
    (h11 : ∀ j u, z.cells.toList[j]? = some u → w.cell? ⟨b, o + j, none⟩ = some u) (hp : partOf d k sz ag = some r) (hr : r.width = sz) (hc : ag = false → r.isAgg = false ∧ r.storable = true) :
    RelP J w (.ptr r) (.pointer (some ⟨b, o + k, none⟩)) := by
  obtain ⟨h12, h13⟩ := partOf_relP h8 h9 hp
  cases ag with
  | true =>
    obtain ⟨l, rfl, h14, h15⟩ := h12 rfl
    refine ⟨b, o + k, _, rfl, h15, ?_, h10, fun j u hu => ?_⟩
    · rw [hr]; show (z.cells.extract k (k + sz)).size = sz
      rw [Array.size_extract]; omega
    · have hu' : (z.cells.extract k (k + sz)).toList[j]? = some u := hu
      have : z.cells.toList[k + j]? = some u := by
        simp only [Array.toList_extract, List.extract_eq_take_drop, Nat.add_sub_cancel_left, List.getElem?_take, List.getElem?_drop] at hu'
        split at hu'
        · exact hu'
        · cases hu'
      have := h11 _ u this
      rw [← Nat.add_assoc] at this
      exact this
  | false =>
    obtain ⟨h14, y, h15, h16⟩ := h13 rfl
    obtain ⟨h17, h18⟩ := hc rfl
    obtain ⟨h19, _, h20⟩ := RelD_cells (ρ := fun _ => ⟨none, 0, 0⟩) (RelP.toD h16) h18
    refine ⟨b, o + k, y, rfl, h16, h19, h10, fun j u hu => ?_⟩
    rw [h20 h17] at hu
    cases j with
    | zero =>
      simp only [List.getElem?_cons_zero, Option.some.injEq] at hu
      subst hu
      simpa using h11 k y (by simpa using h15)
    | succ j => simp at hu

def opFieldAddr (P : Program) (s : TypeId) (x : D) (f : Nat) (K : D → Prop) : Prop :=
  match x with
  | .adr id i o => ∃ fl, fieldT P s f = some fl ∧ okT P fl.type = true ∧ K (.adr id i (o + fl.offset))
  | .ptr d => ∃ fl, fieldT P s f = some fl ∧ okT P fl.type = true ∧ ∃ r, partOf d fl.offset (P.cellsOf fl.type) (aggT P fl.type) = some r ∧ r.width = P.cellsOf fl.type ∧ (aggT P fl.type = false → r.isAgg = false ∧ r.storable = true) ∧ K (.ptr r)
  | _ => False

theorem opFieldAddr_sound {P : Program} {o : Oper} {s : TypeId} {x : Operand} {f : Nat} (ho : o.op = .fieldAddr s x f) {K : St → D → Prop} {st : St}
    (h : opFieldAddr P s (st.ev x) f (K st)) : OpX P o K st := by
  unfold opFieldAddr at h
  split at h
  · rename_i id i off hl
    obtain ⟨fl, h1, h2, h4⟩ := h
    refine OpX.pure _ h4 fun J0 ρ J B w0 a w hs => ?_
    have hx := hs.ev x
    rw [hl] at hx
    obtain ⟨g, h5, h6⟩ := hx
    exact ⟨.pointer (some ⟨g, i * (ρ id).S + off + fl.offset, none⟩), by simp [execOp, ho, h6, run_fieldAt h1 h2], g, h5, by rw [Nat.add_assoc]⟩
  · rename_i d hl
    obtain ⟨fl, h1, h2, r, h4, h5, hc, h6⟩ := h
    refine OpX.pure _ h6 fun J0 ρ J B w0 a w hs => ?_
    have hx := hs.ev x
    rw [hl] at hx
    obtain ⟨b, off, z, h7, h8, h9, h10, h11⟩ := hx
    exact ⟨.pointer (some ⟨b, off + fl.offset, none⟩), by simp [execOp, ho, h7, run_fieldAt h1 h2], ptr_part h8 h9 h10 h11 h4 h5 hc⟩
  · exact h.elim

def arrT (P : Program) (t : TypeId) : Option (Nat × TypeId) := match P.underlying t with | some (.array n e) => some (n, e) | _ => none
theorem arrT_spec {P : Program} {t e : TypeId} {n : Nat} (h : arrT P t = some (n, e)) : P.underlying t = some (.array n e) := by
  unfold arrT at h
  split at h
  · cases h; assumption
  · cases h
def elT (P : Program) (t : TypeId) : Option TypeId := match P.underlying t with | some (.slice e) => some e | _ => none
theorem elT_spec {P : Program} {t e : TypeId} (h : elT P t = some e) : P.underlying t = some (.slice e) := by
  unfold elT at h
  split at h
  · cases h; assumption
  · cases h

/-- The address of an element. -/
def opIndexAddr (P : Program) (t : TypeId) (x ix : D) (K : D → Prop) (st : St) : Prop :=
  match ix with
  | .v (.int _ i) =>
    match x with
    | .lst l => ∃ e, elT P t = some e ∧ 0 ≤ i ∧ i < l.length ∧ 0 < P.cellsOf e ∧ (∀ d ∈ l, d.width = P.cellsOf e ∧ d.storable = true) ∧ ∃ d, l[i.toNat]? = some d ∧ K (.ptr d)
    | .ref id n => ∃ e, elT P t = some e ∧ 0 ≤ i ∧ i < n ∧ 0 < P.cellsOf e ∧ ∃ ob, st.H id = some ob ∧ ob.S = P.cellsOf e ∧ n ≤ ob.els.length ∧ K (.adr id i.toNat 0)
    | .sub id lo n => ∃ e, elT P t = some e ∧ 0 ≤ i ∧ i < n ∧ 0 < P.cellsOf e ∧ ∃ ob, st.H id = some ob ∧ ob.S = P.cellsOf e ∧ lo + n ≤ ob.els.length ∧ K (.adr id (lo + i.toNat) 0)
    | .adr id j o => ∃ n e, arrT P t = some (n, e) ∧ 0 ≤ i ∧ i < n ∧ 0 < P.cellsOf e ∧ K (.adr id j (o + i.toNat * P.cellsOf e))
    | .ptr d => ∃ n e, arrT P t = some (n, e) ∧ 0 ≤ i ∧ i < n ∧ 0 < P.cellsOf e ∧ ∃ r, partOf d (i.toNat * P.cellsOf e) (P.cellsOf e) (aggT P e) = some r ∧ r.width = P.cellsOf e ∧ (aggT P e = false → r.isAgg = false ∧ r.storable = true) ∧ K (.ptr r)
    | _ => False
  | _ => False

theorem RelPs_get {J : Nat → Prop} {w : World} (l : List D) (vs : List Value) (h : RelPs J w l vs) : l.length = vs.length ∧ ∀ (i : Nat) (d : D), l[i]? = some d → ∃ x, vs[i]? = some x ∧ RelP J w d x := by
  have hn := h.noRefs
  obtain ⟨h1, h2⟩ := RelDs_get (ρ := fun _ => ⟨none, 0, 0⟩) l vs (RelPs.toD h)
  refine ⟨h1, fun i d hd => ?_⟩
  obtain ⟨x, h3, h4⟩ := h2 i d hd
  rw [D.noRefs_eq, List.all_eq_true] at hn
  exact ⟨x, h3, h4.toP (hn d (List.mem_of_getElem? hd))⟩

theorem RelPs_mem {J : Nat → Prop} {w : World} {l : List D} {vs : List Value} (h : RelPs J w l vs) {y : Value} (hy : y ∈ vs) : ∃ d ∈ l, RelP J w d y := by
  obtain ⟨h1, h2⟩ := RelPs_get l vs h
  obtain ⟨i, hi, rfl⟩ := List.mem_iff_getElem.1 hy
  have hi' : i < l.length := by omega
  obtain ⟨x, h3, h4⟩ := h2 i l[i] (by simp [hi'])
  rw [List.getElem?_eq_getElem hi, Option.some.injEq] at h3
  subst h3
  exact ⟨l[i], by simp, h4⟩

theorem RelPs_sizes {J : Nat → Prop} {w : World} {l : List D} {vs : List Value} {S : Nat} (h : RelPs J w l vs) (hl : ∀ d ∈ l, d.width = S ∧ d.storable = true) :
    ∀ y ∈ vs, y.cells.size = S ∧ ∀ c ∈ y.cells.toList, c.oneCell' = true := by
  intro y hy
  obtain ⟨d, hd, hr⟩ := RelPs_mem h hy
  obtain ⟨h1, h2⟩ := hl d hd
  obtain ⟨h3, h4, _⟩ := RelD_cells (ρ := fun _ => ⟨none, 0, 0⟩) (RelP.toD hr) h2
  exact ⟨by rw [h3, h1], h4⟩

theorem opIndexAddr_sound {P : Program} {o : Oper} {t : TypeId} {x ix : Operand} (ho : o.op = .indexAddr t x ix) {K : St → D → Prop} {st : St}
    (h : opIndexAddr P t (st.ev x) (st.ev ix) (K st) st) : OpX P o K st := by
  unfold opIndexAddr at h
  split at h
  · rename_i k i hix
    split at h
    · rename_i l hl
      obtain ⟨e, h1, h2, h3, h4, h5, d, h6, h7⟩ := h
      have he := elT_spec h1
      refine OpX.pure _ h7 fun J0 ρ J B w0 a w hs => ?_
      have hx := hs.ev x
      rw [hl] at hx
      have hi := hs.ev ix
      rw [hix] at hi
      obtain ⟨ad, c, vs, h8, h9, h10, h11, h0, h12, h13⟩ := hx
      obtain ⟨z, h14, h15⟩ := (RelPs_get l vs h12).2 _ _ h6
      have hsz := RelPs_sizes h12 h5
      have hzs := (hsz z (List.mem_of_getElem? h14)).1
      have hne : flat vs ≠ [] := by
        intro e0
        have := flat_length vs fun y hy => (hsz y hy).1
        rw [e0] at this
        have hvl := (RelPs_get l vs h12).1
        have : vs.length * P.cellsOf e = 0 := by simpa using this.symm
        rcases Nat.mul_eq_zero.1 this with h | h <;> omega
      rcases h13 with h13 | ⟨b, off, h13, h16, h17⟩
      · exact absurd h13 hne
      · refine ⟨.pointer (some ⟨b, off + i.toNat * P.cellsOf e, none⟩), ?_, b, _, z, rfl, h15, by rw [hzs]; exact ((h5 d (List.mem_of_getElem? h6)).1).symm, h16, fun j u hu => ?_⟩
        · have hlen : i < (l.length : Int) := h3
          simp [execOp, ho, h8, hi.1, h13, Instr.indexAt, asIntOf, run_underlying he, h2, hlen, run_size h4, Addr_add]
        · have hj : j < P.cellsOf e := by
            have := (List.getElem?_eq_some_iff.1 hu).1
            simpa [hzs] using this
          have := flat_get vs (fun y hy => (hsz y hy).1) i.toNat j z h14 hj
          rw [hu] at this
          have := h17 _ u this
          rw [← Nat.add_assoc] at this
          exact this
    · rename_i id n hl
      obtain ⟨e, h1, h2, h3, h4, ob, h5, h6, h7, h8⟩ := h
      have he := elT_spec h1
      refine OpX.pure _ h8 fun J0 ρ J B w0 a w hs => ?_
      have hx := hs.ev x
      rw [hl] at hx
      have hi := hs.ev ix
      rw [hix] at hi
      have hob := (hs.objs id ob h5).cells (by omega)
      have hlt : i.toNat < ob.els.length := by omega
      obtain ⟨hcap, g, cur, vs, z, h10, _⟩ := hob.elem (i := i.toNat) (d := ob.els[i.toNat]) (by simp [hlt])
      have hS : (ρ id).S = P.cellsOf e := by rw [hob.1, h6]
      simp only [RelD] at hx
      refine ⟨.pointer (some ⟨g, i.toNat * P.cellsOf e, none⟩), ?_, g, h10, by rw [hS, Nat.add_zero]⟩
      simp [execOp, ho, hx, hi.1, h10, Instr.indexAt, asIntOf, run_underlying he, h2, h3, run_size h4, Addr_add]
    · rename_i id lo n hl
      obtain ⟨e, h1, h2, h3, h4, ob, h5, h6, h7, h8⟩ := h
      have he := elT_spec h1
      refine OpX.pure _ h8 fun J0 ρ J B w0 a w hs => ?_
      have hx := hs.ev x
      rw [hl] at hx
      have hi := hs.ev ix
      rw [hix] at hi
      have hob := (hs.objs id ob h5).cells (by omega)
      have hlt : lo + i.toNat < ob.els.length := by omega
      obtain ⟨hcap, g, cur, vs, z, h10, _⟩ := hob.elem (i := lo + i.toNat) (d := ob.els[lo + i.toNat]) (by simp [hlt])
      have hS : (ρ id).S = P.cellsOf e := by rw [hob.1, h6]
      have hcl : ob.els.length ≤ (ρ id).cap := hob.2.2.1
      obtain ⟨ad, hx, _, had⟩ := hx
      have had := had (.inl (by omega))
      simp only [h10, Option.map_some] at had
      subst had
      refine ⟨.pointer (some ⟨g, lo * P.cellsOf e + i.toNat * P.cellsOf e, none⟩), ?_, g, h10, by rw [hS, Nat.add_zero, Nat.add_mul]⟩
      simp [execOp, ho, hx, hi.1, hS, Instr.indexAt, asIntOf, run_underlying he, h2, h3, run_size h4, Addr_add]
    · rename_i id j off hl
      obtain ⟨n, e, h1, h2, h3, h4, h5⟩ := h
      have he := arrT_spec h1
      refine OpX.pure _ h5 fun J0 ρ J B w0 a w hs => ?_
      have hx := hs.ev x
      rw [hl] at hx
      have hi := hs.ev ix
      rw [hix] at hi
      obtain ⟨g, h6, h7⟩ := hx
      refine ⟨.pointer (some ⟨g, j * (ρ id).S + (off + i.toNat * P.cellsOf e), none⟩), ?_, g, h6, rfl⟩
      simp [execOp, ho, h7, hi.1, Instr.indexAt, Instr.sureAddr, asIntOf, run_underlying he, h2, h3, run_size h4, Addr_add, Nat.add_assoc]
    · rename_i d hl
      obtain ⟨n, e, h1, h2, h3, h4, r, h5, h6, h6', h7⟩ := h
      have he := arrT_spec h1
      refine OpX.pure _ h7 fun J0 ρ J B w0 a w hs => ?_
      have hx := hs.ev x
      rw [hl] at hx
      have hi := hs.ev ix
      rw [hix] at hi
      obtain ⟨b, off, z, h8, h9, h10, h11, h12⟩ := hx
      refine ⟨.pointer (some ⟨b, off + i.toNat * P.cellsOf e, none⟩), ?_, ptr_part h9 h10 h11 h12 h5 h6 h6'⟩
      simp [execOp, ho, h8, hi.1, Instr.indexAt, Instr.sureAddr, asIntOf, run_underlying he, h2, h3, run_size h4, Addr_add]
    · exact h.elim
  · exact h.elim

/-- An element of an array that is a value. -/
def opIndex (P : Program) (t : TypeId) (x ix : D) (K : D → Prop) : Prop :=
  match x, ix with
  | .agg l, .v (.int _ i) => ∃ n e, arrT P t = some (n, e) ∧ 0 ≤ i ∧ i < n ∧ okT P e = true ∧ ∃ r, partOf (.agg l) (i.toNat * P.cellsOf e) (P.cellsOf e) (aggT P e) = some r ∧ K r
  | _, _ => False

theorem opIndex_sound {P : Program} {o : Oper} {t : TypeId} {x ix : Operand} (ho : o.op = .index t x ix) {K : St → D → Prop} {st : St}
    (h : opIndex P t (st.ev x) (st.ev ix) (K st)) : OpX P o K st := by
  unfold opIndex at h
  split at h
  · rename_i l k i hl hix
    obtain ⟨n, e, h1, h2, h3, h4, r, h5, h6⟩ := h
    have he := arrT_spec h1
    refine OpX.pure _ h6 fun J0 ρ J B w0 a w hs => ?_
    have hx := hs.ev x
    rw [hl] at hx
    have hi := hs.ev ix
    rw [hix] at hi
    obtain ⟨vs, h7, h8, h9⟩ := hx
    obtain ⟨y, h10, h11⟩ := run_part (P := P) h4 h8 h9 h5
    exact ⟨y, by simp [execOp, ho, h7, hi.1, Instr.index, asIntOf, run_underlying he, h2, h3, run_size (okT_spec h4).1, h10], h11⟩
  · exact h.elim

end Go.VL

end
section
/- Slices, new slices, and what is computed. -/
namespace Go.VL
open Go Go.RowKit

def BndV (o : Option Value) (z i : Int) : Prop := (o = none ∧ i = z) ∨ ∃ k, o = some (.int k i)

theorem run_sliceBound' {P : Program} {k : IntKind} {i : Int} {y : Nat} (code : BoundsCode) (h0 : 0 ≤ i) (h1 : i ≤ y) (w : World) :
    (Instr.sliceBound (.int k i) y code).run P w = .ok i.toNat w := by
  simp [Instr.sliceBound, asIntOf, h0, h1]

theorem run_sliceBounds {P : Program} {len cap m : Nat} {lo hi mx : Option Value} {i j : Int} (hlo : BndV lo 0 i) (hhi : BndV hi len j)
    (hmx : (mx = none ∧ m = cap) ∨ ∃ k z, mx = some (.int k z) ∧ 0 ≤ z ∧ m = z.toNat ∧ m ≤ cap ∧ hi ≠ none) (h0 : 0 ≤ i) (h1 : i ≤ j) (h2 : j ≤ m) (hlen : len ≤ cap) (w : World) :
    (Instr.sliceBounds true len cap lo hi mx).run P w = .ok (i.toNat, j.toNat, m) w := by
  have A : ∀ (c : BoundsCode) (k : IntKind), (Instr.sliceBound (.int k j) m c).run P w = .ok j.toNat w := fun c k => run_sliceBound' c (by omega) h2 w
  have B : ∀ (c : BoundsCode) (k : IntKind), (Instr.sliceBound (.int k i) j.toNat c).run P w = .ok i.toNat w := fun c k => run_sliceBound' c h0 (by omega) w
  rcases hmx with ⟨rfl, rfl⟩ | ⟨k, z, rfl, hz, rfl, hc, hne⟩
  · rcases hhi with ⟨rfl, rfl⟩ | ⟨k1, rfl⟩
    · simp only [Int.toNat_natCast] at B
      rcases hlo with ⟨rfl, rfl⟩ | ⟨k2, rfl⟩ <;> simp [Instr.sliceBounds, B]
    · rcases hlo with ⟨rfl, rfl⟩ | ⟨k2, rfl⟩ <;> simp [Instr.sliceBounds, A, B]
  · have C : (Instr.sliceBound (.int k z) cap .slice3Acap).run P w = .ok z.toNat w := run_sliceBound' _ hz (by omega) w
    rcases hhi with ⟨rfl, rfl⟩ | ⟨k1, rfl⟩
    · exact absurd rfl hne
    · rcases hlo with ⟨rfl, rfl⟩ | ⟨k2, rfl⟩ <;> simp [Instr.sliceBounds, A, B, C]

theorem run_sliceAt {P : Program} {t e : TypeId} (ht : P.underlying t = some (.slice e)) (hS : 0 < P.cellsOf e) {a : Option Addr} {len cap m : Nat} {lo hi mx : Option Value} {i j : Int} (hlo : BndV lo 0 i) (hhi : BndV hi len j)
    (hmx : (mx = none ∧ m = cap) ∨ ∃ k z, mx = some (.int k z) ∧ 0 ≤ z ∧ m = z.toNat ∧ m ≤ cap ∧ hi ≠ none) (h0 : 0 ≤ i) (h1 : i ≤ j) (h2 : j ≤ m) (hlen : len ≤ cap) (w : World) :
    (Instr.sliceAt t (.slice a len cap) lo hi mx).run P w = .ok (.slice (if m = i.toNat then a else a.map (·.add (i.toNat * P.cellsOf e))) (j.toNat - i.toNat) (m - i.toNat)) w := by
  simp [Instr.sliceAt, Instr.slice, run_underlying ht, run_sliceBounds hlo hhi hmx h0 h1 h2 hlen, run_size hS]

def intD : D → Option Int
  | .v (.int _ i) => some i
  | _ => none

theorem intD_spec {d : D} {i : Int} (h : intD d = some i) : ∃ k, d = .v (.int k i) := by
  unfold intD at h
  split at h
  · cases h; exact ⟨_, rfl⟩
  · cases h

def bndD (d : Option D) (z : Int) : Option Int := match d with | none => some z | some d => intD d

def opSlice (P : Program) (t : TypeId) (x : D) (lo hi mx : Option D) (K : D → Prop) (st : St) : Prop :=
  ∃ e, elT P t = some e ∧ 0 < P.cellsOf e ∧
  match x with
  | .lst l => (∀ d ∈ l, d.width = P.cellsOf e ∧ d.storable = true) ∧ ∃ i, bndD lo 0 = some i ∧ ∃ j, bndD hi l.length = some j ∧ 0 ≤ i ∧ i ≤ j ∧ j ≤ l.length ∧
      (match mx with
      | none => K (.lst ((l.take j.toNat).drop i.toNat))
      | some m => hi.isSome = true ∧ ∃ k, intD m = some k ∧ j ≤ k ∧ k ≤ l.length ∧ if k = i then K .nil0 else K (.lst ((l.take j.toNat).drop i.toNat)))
  | .ref id n => ∃ i, bndD lo 0 = some i ∧ ∃ j, bndD hi n = some j ∧ 0 ≤ i ∧ i ≤ j ∧ j ≤ n ∧ mx.isNone = true ∧ (∃ ob, st.H id = some ob ∧ ob.S = P.cellsOf e ∧ n ≤ ob.els.length) ∧ K (if lo.isNone then .ref id j.toNat else .sub id i.toNat (j - i).toNat)
  | .sub id b n => ∃ i, bndD lo 0 = some i ∧ ∃ j, bndD hi n = some j ∧ 0 ≤ i ∧ i ≤ j ∧ j ≤ n ∧ mx.isNone = true ∧ (∃ ob, st.H id = some ob ∧ ob.S = P.cellsOf e) ∧ K (.sub id (b + i.toNat) (j - i).toNat)
  | .v (.slice none 0 0) => ∃ i, bndD lo 0 = some i ∧ i = 0 ∧ ∃ j, bndD hi 0 = some j ∧ j = 0 ∧ mx.isNone = true ∧ K (.v (.slice none 0 0))
  | _ => False

theorem bndD_spec {ρ : Nat → Loc} {J : Nat → Prop} {w : World} {st : St} {a : Act} (hs : ∀ x, RelD ρ J w (st.ev x) (a.eval x)) {o : Option Operand} {z i : Int} (h : bndD (o.map st.ev) z = some i) : BndV (o.map a.eval) z i := by
  cases o with
  | none => simp only [Option.map_none, bndD, Option.some.injEq] at h; exact .inl ⟨rfl, h.symm⟩
  | some x =>
    simp only [Option.map_some, bndD] at h
    obtain ⟨k, hk⟩ := intD_spec h
    have := hs x
    rw [hk] at this
    exact .inr ⟨k, by simp [this.1]⟩

theorem RelPs_take {J : Nat → Prop} {w : World} (n : Nat) {l : List D} {vs : List Value} (h : RelPs J w l vs) : RelPs J w (l.take n) (vs.take n) := by
  have hn := h.noRefs
  refine (RelDs_take (ρ := fun _ => ⟨none, 0, 0⟩) n _ _ (RelPs.toD h)).toP ?_
  rw [D.noRefs_eq, List.all_eq_true] at hn ⊢
  exact fun x hx => hn x (List.mem_of_mem_take hx)

theorem RelPs_drop {J : Nat → Prop} {w : World} (n : Nat) {l : List D} {vs : List Value} (h : RelPs J w l vs) : RelPs J w (l.drop n) (vs.drop n) := by
  have hn := h.noRefs
  refine (RelDs_drop (ρ := fun _ => ⟨none, 0, 0⟩) n _ _ (RelPs.toD h)).toP ?_
  rw [D.noRefs_eq, List.all_eq_true] at hn ⊢
  exact fun x hx => hn x (List.mem_of_mem_drop hx)

/-- A piece of a list that lies in memory. -/
theorem lst_piece {J : Nat → Prop} {w : World} {l : List D} {vs : List Value} {a : Option Addr} {S : Nat} (h12 : RelPs J w l vs) (h13 : RowAt J w a (flat vs)) (h0 : a = none → l = []) (hm : l.length ≤ capMax)
    (hsz : ∀ d ∈ l, d.width = S ∧ d.storable = true) {i j m cap : Nat} (h1 : i ≤ j) (h2 : j ≤ l.length) (h3 : j ≤ m) (h4 : m ≤ cap) (h5 : cap ≤ maxLen) :
    RelP J w (.lst ((l.take j).drop i)) (.slice (if m = i then a else a.map (·.add (i * S))) (j - i) (m - i)) := by
  have hll : ((l.take j).drop i).length = j - i := by simp; omega
  have hvs := RelPs_sizes h12 hsz
  refine ⟨_, m - i, (vs.take j).drop i, by rw [hll], by rw [hll]; omega, by omega, by rw [hll]; omega, fun he => ?_, RelPs_drop _ (RelPs_take _ h12), ?_⟩
  · split at he
    · apply List.eq_nil_of_length_eq_zero; omega
    · have : a = none := by cases a <;> simp at he ⊢
      rw [h0 this]; simp
  · show RowAt J w _ (flat ((vs.take j).drop i))
    rw [flat_drop (S := S) _ _ fun y hy => (hvs y (List.mem_of_mem_take hy)).1, flat_take (S := S) _ _ fun y hy => (hvs y hy).1]
    split
    · left
      have : j = i := by omega
      subst this
      simp
    · rcases h13 with h13 | ⟨b, off, rfl, h14, h15⟩
      · left; rw [h13]; simp
      · right
        refine ⟨b, off + i * S, by simp [Addr_add], h14, fun k u hu => ?_⟩
        rw [List.getElem?_drop, List.getElem?_take] at hu
        split at hu
        · have := h15 _ u hu
          rw [← Nat.add_assoc] at this
          exact this
        · cases hu

theorem opSlice_sound {P : Program} {o : Oper} {t : TypeId} {x : Operand} {lo hi mx : Option Operand} (ho : o.op = .slice t x lo hi mx) {K : St → D → Prop} {st : St}
    (h : opSlice P t (st.ev x) (lo.map st.ev) (hi.map st.ev) (mx.map st.ev) (K st) st) : OpX P o K st := by
  obtain ⟨e, h1, hS, h⟩ := h
  have he := elT_spec h1
  split at h
  · rename_i l hl
    obtain ⟨hsz, i, h2, j, h3, h4, h5, h6, h7⟩ := h
    have core : ∀ (J0 : Nat → Prop) (ρ : Nat → Loc) (J : Nat → Prop) (B : Bound) (w0 : World) (a : Act) (w : World), Sim J0 ρ J B w0 st a w →
        ∃ ad c, a.eval x = .slice ad l.length c ∧ l.length ≤ c ∧ ∀ m : Nat, ((mx.map a.eval = none ∧ m = c) ∨ ∃ k z, mx.map a.eval = some (.int k z) ∧ 0 ≤ z ∧ m = z.toNat ∧ m ≤ c ∧ hi.map a.eval ≠ none) → j ≤ m →
          ∃ y, (execOp a.eval o).run P w = .ok (.value y) w ∧ RelD ρ J w (.lst ((l.take j.toNat).drop i.toNat)) y ∧ (m = i.toNat → ∃ b, y = .slice b 0 0) := by
      intro J0 ρ J B w0 a w hs
      have hx := hs.ev x
      rw [hl] at hx
      obtain ⟨ad, c, vs, h8, h9, h10, h11, h0, h12, h13⟩ := hx
      refine ⟨ad, c, h8, h9, fun m hm hjm => ?_⟩
      have hr := run_sliceAt (P := P) he hS (a := ad) (len := l.length) (cap := c) (m := m) (bndD_spec hs.ev h2) (bndD_spec hs.ev h3) hm h4 h5 hjm h9 w
      refine ⟨_, by simp [execOp, ho, h8, hr]; rfl, ?_, fun e => ?_⟩
      · have hmc : m ≤ c := by rcases hm with ⟨_, rfl⟩ | ⟨_, _, _, _, _, h, _⟩ <;> omega
        exact lst_piece h12 h13 h0 h11 hsz (by omega) (by omega) (by omega) hmc h10
      · subst e
        exact ⟨ad, by simp; omega⟩
    cases hmx : mx with
    | none =>
      simp only [hmx, Option.map_none] at h7
      refine OpX.pure _ h7 fun J0 ρ J B w0 a w hs => ?_
      obtain ⟨ad, c, h8, h9, h10⟩ := core J0 ρ J B w0 a w hs
      obtain ⟨y, h11, h12, _⟩ := h10 c (.inl ⟨by simp [hmx], rfl⟩) (by omega)
      exact ⟨y, h11, h12⟩
    | some mo =>
      simp only [hmx, Option.map_some] at h7
      obtain ⟨hhi, k, h8, h9, h10, h11⟩ := h7
      have fin : ∀ r, K st r → (∀ (ρ : Nat → Loc) (J : Nat → Prop) (w : World) y, RelD ρ J w (.lst ((l.take j.toNat).drop i.toNat)) y → (k = i → ∃ b, y = .slice b 0 0) → RelD ρ J w r y) → OpX P o K st := by
        intro r hK hr
        refine OpX.pure r hK fun J0 ρ J B w0 a w hs => ?_
        obtain ⟨ad, c, h12, h13, h14⟩ := core J0 ρ J B w0 a w hs
        obtain ⟨k', hk'⟩ := intD_spec h8
        have hm := hs.ev mo
        rw [hk'] at hm
        obtain ⟨y, h15, h16, h17⟩ := h14 k.toNat (.inr ⟨k', k, by simp [hmx, hm.1], by omega, rfl, by omega, by cases hi <;> simp at hhi ⊢⟩) (by omega)
        exact ⟨y, h15, hr ρ J w y h16 fun e => h17 (by omega)⟩
      split at h11
      · rename_i hk
        exact fin _ h11 fun ρ J w y _ h2 => h2 hk
      · exact fin _ h11 fun ρ J w y h1 _ => h1
  · rename_i id n hl
    obtain ⟨i, h2, j, h3, hi0, h4, h5, h6, ⟨ob, h8, hoS, h9⟩, h7⟩ := h
    refine OpX.pure _ h7 fun J0 ρ J B w0 a w hs => ?_
    have hx := hs.ev x
    rw [hl] at hx
    have hmx : mx = none := by
      cases mx with
      | none => rfl
      | some _ => simp at h6
    have hob := (hs.objs id ob h8).cells (by omega)
    have hcap : n ≤ (ρ id).cap := Nat.le_trans h9 hob.2.2.1
    have hr := run_sliceAt (P := P) he hS (a := (ρ id).a) (len := n) (cap := (ρ id).cap) (m := (ρ id).cap) (mx := mx.map a.eval) (bndD_spec hs.ev h2) (bndD_spec hs.ev h3) (.inl ⟨by simp [hmx], rfl⟩) hi0 h4 (by omega) hcap w
    have hx : a.eval x = .slice (ρ id).a n (ρ id).cap := hx
    cases lo with
    | none =>
      simp only [Option.map_none, bndD, Option.some.injEq] at h2
      subst h2
      refine ⟨.slice (ρ id).a j.toNat (ρ id).cap, ?_, rfl⟩
      have ha : (if (ρ id).cap = (0 : Int).toNat then (ρ id).a else (ρ id).a.map (·.add ((0 : Int).toNat * P.cellsOf e))) = (ρ id).a := by
        split
        · rfl
        · cases (ρ id).a <;> simp [Addr.add]
      rw [ha] at hr
      simp only [Option.map_none] at hr
      simp [execOp, ho, hx, hr]
    | some lo =>
      refine ⟨_, by simp only [execOp, ho, hx, hr, Sem.run_bind, Result.andThen_ok, Sem.run_pure]; rfl, _, congrArg (fun k => Value.slice _ k _) (show j.toNat - i.toNat = (j - i).toNat by omega), by omega, fun hlt => ?_⟩
      · rw [← hoS, hob.1]
        split
        · have : i.toNat = 0 := by omega
          rw [this, Nat.zero_mul]
          cases (ρ id).a <;> simp [Addr.add]
        · rfl
  · rename_i id b n hl
    obtain ⟨i, h2, j, h3, hi0, h4, h5, h6, ⟨ob, h8, hoS⟩, h7⟩ := h
    refine OpX.pure _ h7 fun J0 ρ J B w0 a w hs => ?_
    have hx := hs.ev x
    rw [hl] at hx
    have hmx : mx = none := by
      cases mx with
      | none => rfl
      | some _ => simp at h6
    have hob := (hs.objs id ob h8).cells (by omega)
    obtain ⟨ad, hx, hbn, had⟩ := hx
    have hr := run_sliceAt (P := P) he hS (a := ad) (len := n) (cap := (ρ id).cap - b) (m := (ρ id).cap - b) (mx := mx.map a.eval) (bndD_spec hs.ev h2) (bndD_spec hs.ev h3) (.inl ⟨by simp [hmx], rfl⟩) hi0 h4 (by omega) (by omega) w
    refine ⟨_, by simp only [execOp, ho, hx, hr, Sem.run_bind, Result.andThen_ok, Sem.run_pure]; rfl, _, (show Value.slice _ (j.toNat - i.toNat) ((ρ id).cap - b - i.toNat) = _ by rw [show (j - i).toNat = j.toNat - i.toNat by omega, Nat.sub_sub]), by omega, fun hlt => ?_⟩
    · have hSS : (ρ id).S = P.cellsOf e := by rw [hob.1, hoS]
      rw [had (by omega), hSS, Nat.add_mul]
      split
      · have : i.toNat = 0 := by omega
        rw [this, Nat.zero_mul, Nat.add_zero]
      · cases ha : (ρ id).a with
        | none => rfl
        | some p => simp [Addr.add_add]
  · rename_i hl
    obtain ⟨i, h2, rfl, j, h3, rfl, h6, h7⟩ := h
    refine OpX.pure _ h7 fun J0 ρ J B w0 a w hs => ?_
    have hx := hs.ev x
    rw [hl] at hx
    have hmx : mx = none := by
      cases mx with
      | none => rfl
      | some _ => simp at h6
    have hr := run_sliceAt (P := P) he hS (a := none) (len := 0) (cap := 0) (m := 0) (mx := mx.map a.eval) (bndD_spec hs.ev h2) (bndD_spec hs.ev h3) (.inl ⟨by simp [hmx], rfl⟩) (by omega) (by omega) (by omega) (by omega) w
    exact ⟨.slice none 0 0, by simp [execOp, ho, hx.1, hr], rfl, rfl⟩
  · exact h.elim

end Go.VL

end
section
/- Literals, new slices, and the rest of what is computed at once. -/
namespace Go.VL
open Go Go.RowKit

theorem foldl_put : ∀ (l : List Value) (k off : Nat) (cs : Array Value), off + k + l.length ≤ cs.size →
    ((l.zipIdx k).foldl (fun (cs : Array Value) (p : Value × Nat) => cs.setIfInBounds (off + p.2) p.1) cs).toList = cs.toList.take (off + k) ++ l ++ cs.toList.drop (off + k + l.length)
  | [], k, off, cs, _ => by simp
  | c :: l, k, off, cs, h => by
    simp only [List.length_cons] at h
    simp only [List.zipIdx_cons, List.foldl_cons]
    rw [foldl_put l (k + 1) off _ (by simp; omega)]
    simp only [Array.toList_setIfInBounds]
    apply List.ext_getElem?
    intro j
    simp only [List.getElem?_append, List.getElem?_take, List.getElem?_drop, List.length_append, List.length_take, List.length_set, List.getElem?_set, List.length_cons]
    grind

theorem foldl_cells (v : Value) (off : Nat) (cs : Array Value) (h : off + v.cells.size ≤ cs.size) :
    (v.cells.zipIdx.foldl (fun cs (c, j) => cs.setIfInBounds (off + j) c) cs).toList = cs.toList.take off ++ v.cells.toList ++ cs.toList.drop (off + v.cells.size) := by
  have := foldl_put v.cells.toList 0 off cs (by simpa using h)
  rw [← Array.foldl_toList, Array.toList_zipIdx]
  simpa using this

theorem fill_seq {S : Nat} : ∀ (ps : List (Nat × Value)) (k : Nat) (cells : Array Value), (∀ (j : Nat) (p : Nat × Value), ps[j]? = some p → p.1 = k + j ∧ p.2.cells.size = S) → cells.size = (k + ps.length) * S →
    ∃ r, Instr.fill (fun i => some (i * S, S)) cells ps = some r ∧ r.toList = cells.toList.take (k * S) ++ flat (ps.map (·.2))
  | [], k, cells, _, hs => ⟨cells, rfl, by simp [flat]; rw [List.take_of_length_le]; simp at hs; simp [hs]⟩
  | (i, v) :: ps, k, cells, hp, hs => by
    obtain ⟨h1, h2⟩ := hp 0 (i, v) rfl
    simp only [Nat.add_zero] at h1 h2
    subst h1
    have hle : i * S + v.cells.size ≤ cells.size := by
      rw [hs, h2, List.length_cons]
      have : (i + 1) * S ≤ (i + (ps.length + 1)) * S := Nat.mul_le_mul_right _ (by omega)
      rw [Nat.add_mul, Nat.one_mul] at this
      exact this
    have hf := foldl_cells v (i * S) cells hle
    generalize hc : v.cells.zipIdx.foldl (fun cs (c, j) => cs.setIfInBounds (i * S + j) c) cells = cells' at hf
    have hlen : cells'.size = cells.size := by
      have := congrArg List.length hf
      simp only [Array.length_toList, List.length_append, List.length_take, List.length_drop] at this
      omega
    obtain ⟨r, h3, h4⟩ := fill_seq ps (i + 1) cells' (fun j p hj => by have := hp (j + 1) p (by simpa using hj); exact ⟨by omega, this.2⟩) (by rw [hlen, hs, List.length_cons]; congr 1; omega)
    refine ⟨r, ?_, ?_⟩
    · unfold Instr.fill
      have : ¬ (v.cells.size ≠ S ∨ i * S + v.cells.size > cells.size) := by omega
      simp only [h2, ne_eq, not_true_eq_false, decide_false, Bool.false_or]
      rw [if_neg (by simp; omega), hc]
      exact h3
    · rw [h4, hf, List.map_cons, flat_cons, Nat.add_mul, Nat.one_mul, ← h2]
      simp only [List.take_append, List.length_take, Array.length_toList, List.append_assoc]
      have e1 : min (i * v.cells.size) cells.size = i * v.cells.size := by rw [h2]; omega
      have e2 : List.take v.cells.size v.cells.toList = v.cells.toList := List.take_of_length_le (by simp)
      simp [e1, e2, List.take_take]

/-- A literal of a slice: its elements stand in their order. -/
def inOrder (k : Nat) : List (Nat × D) → Bool
  | [] => true
  | (i, _) :: r => i == k && inOrder (k + 1) r

theorem inOrder_spec : ∀ (l : List (Nat × D)) (k : Nat), inOrder k l = true → ∀ (j : Nat) (p : Nat × D), l[j]? = some p → p.1 = k + j
  | [], _, _, j, p, h => by simp at h
  | (i, d) :: r, k, h, j, p, hp => by
    simp only [inOrder, Bool.and_eq_true, beq_iff_eq] at h
    cases j with
    | zero => simp only [List.getElem?_cons_zero, Option.some.injEq] at hp; subst hp; exact h.1
    | succ j =>
      have := inOrder_spec r (k + 1) h.2 j p (by simpa using hp)
      omega

def opBuildSlice (P : Program) (t : TypeId) (len : Nat) (parts : List (Nat × D)) (id : Nat) (K : St → D → Prop) (st : St) : Prop :=
  ∃ e, elT P t = some e ∧ 0 < P.cellsOf e ∧ len * P.cellsOf e ≤ 16777216 ∧ parts.length = len ∧ inOrder 0 parts = true ∧ (∀ p ∈ parts, p.2.storable = true ∧ p.2.width = P.cellsOf e ∧ p.2.noRef = true) ∧ (zeroT P e).isSome = true ∧
    if len = 0 then K ((st.killed id).obj id ⟨e, P.cellsOf e, []⟩) (.ref id 0) else K st (.lst (parts.map (·.2)))

theorem RelPs_of {J : Nat → Prop} {w : World} {st : St} {a : Act} {ρ : Nat → Loc} (hs : ∀ x, RelD ρ J w (st.ev x) (a.eval x)) : ∀ (l : List (Nat × Operand)), (∀ p ∈ l, (st.ev p.2).noRef = true) → RelPs J w (l.map fun p => st.ev p.2) (l.map fun p => a.eval p.2)
  | [], _ => rfl
  | p :: l, h => ⟨_, _, rfl, (hs p.2).toP (h p (by simp)), RelPs_of hs l fun q hq => h q (by simp [hq])⟩

theorem opBuildSlice_sound {P : Program} {o : Oper} {t : TypeId} {len : Nat} {parts : Array (Nat × Operand)} (id : Nat) (ho : o.op = .buildSlice t len parts) {K : St → D → Prop} {st : St}
    (h : opBuildSlice P t len (parts.toList.map fun p => (p.1, st.ev p.2)) id K st) : OpX P o K st := by
  intro J0 ρ J B w0 a w hs Kc Q hKc
  obtain ⟨e, h1, hS, h2, h3, h4, h5, h6, h7⟩ := h
  have he := elT_spec h1
  obtain ⟨z, hz⟩ := Option.isSome_iff_exists.1 h6
  have hpl : parts.toList.length = len := by simpa using h3
  have hparts : ∀ (j : Nat) (p : Nat × Value), (parts.toList.map fun p => (p.1, a.eval p.2))[j]? = some p → p.1 = 0 + j ∧ p.2.cells.size = P.cellsOf e := by
    intro j p hp
    simp only [List.getElem?_map, Option.map_eq_some_iff] at hp
    obtain ⟨q, hq, rfl⟩ := hp
    have hm : (q.1, st.ev q.2) ∈ parts.toList.map fun p => (p.1, st.ev p.2) := List.mem_map.2 ⟨q, List.mem_of_getElem? hq, rfl⟩
    obtain ⟨h8, h9, _⟩ := h5 _ hm
    have := inOrder_spec _ 0 h4 j (q.1, st.ev q.2) (by simp [hq])
    exact ⟨this, by rw [(RelD_cells (hs.ev q.2) h8).1, h9]⟩
  generalize hcs : (Array.range (len * P.cellsOf e)).map (fun j => (if len * P.cellsOf e = 0 then #[] else z.cells)[j % (if len * P.cellsOf e = 0 then #[] else z.cells).size]!) = cells0
  have hcs' : cells0.size = (0 + (parts.toList.map fun p => (p.1, a.eval p.2)).length) * P.cellsOf e := by rw [← hcs]; simp [hpl]
  obtain ⟨r, hr, hrl⟩ := fill_seq _ 0 cells0 hparts hcs'
  have hrl' : r.toList = flat (parts.toList.map fun p => a.eval p.2) := by simpa [Function.comp_def] using hrl
  have hrun : (execOp a.eval o).run P w = .ok (.value (.slice (some ⟨w.heap.size, 0, none⟩) len len)) (w.alloc (.cells r e)) := by
    have h2' : ¬ (16777216 < len * P.cellsOf e) := by omega
    simp only [execOp, ho, Instr.buildSlice, Sem.run_bind, run_underlying he, Result.andThen_ok, run_size hS]
    by_cases h0 : len * P.cellsOf e = 0
    · have hc0 : cells0 = #[] := by
        apply Array.eq_empty_of_size_eq_zero
        rw [hcs']
        simpa [hpl] using h0
      rw [hc0] at hr
      simp [h0, newRow, show Array.range 0 = #[] from rfl, hr]
    · simp only [h0, if_false] at hcs hr
      have hpm : (parts.map fun x => (x.1, a.eval x.2)).toList = parts.toList.map fun p => (p.1, a.eval p.2) := by simp
      simp [h0, h2', run_zero hz, newRow, hcs, hr]
  have hlt : len ≤ 16777216 := Nat.le_trans (Nat.le_mul_of_pos_right len hS) h2
  have hrs : r.size = len * P.cellsOf e := by
    have := congrArg List.length hrl'
    rw [flat_length (S := P.cellsOf e)] at this
    · simpa [hpl] using this
    · intro y hy
      obtain ⟨q, hq, rfl⟩ := List.mem_map.1 hy
      have hm : (q.1, st.ev q.2) ∈ parts.toList.map fun p => (p.1, st.ev p.2) := List.mem_map.2 ⟨q, hq, rfl⟩
      obtain ⟨h8, h9, _⟩ := h5 _ hm
      rw [(RelD_cells (hs.ev q.2) h8).1, h9]
  split at h7
  · rename_i hl0
    subst hl0
    have hp0 : parts.toList = [] := List.eq_nil_of_length_eq_zero hpl
    refine wp_value hrun (hKc _ (upd ρ id ⟨some ⟨w.heap.size, 0, none⟩, 0, P.cellsOf e⟩) J (.ref id 0) _ _ h7 rfl ?_ ?_)
    · refine hs.reobj id ⟨e, P.cellsOf e, []⟩ _ none (World.grownBy_alloc w _ none) (fun k hk => by cases hk) (fun g hg1 hg2 => by simp at hg1) ?_
      exact .inl ⟨by simp [upd_same], hS, by simp, by simp [upd_same, maxLen], by simp, [], rfl, by simp, .inl ⟨by simp [upd_same], rfl⟩⟩
    · simp [RelD, upd_same]
  · rename_i hl0
    have hb : Below w.heap.size w (w.alloc (.cells r e)) := (Below.refl _ _).alloc (Nat.le_refl _) _
    refine wp_value hrun (hKc st ρ (fun b => J b ∨ b = w.heap.size) _ _ _ h7 rfl (hs.grow hb (fun b hb => .inl hb) ?_) ?_)
    · rintro b (hb | rfl)
      · exact .inl hb
      · exact .inr ⟨Nat.le_refl _, by simp⟩
    · have hrel : RelPs J w (parts.toList.map fun p => st.ev p.2) (parts.toList.map fun p => a.eval p.2) :=
        RelPs_of hs.ev _ fun q hq => by
          have hm : (q.1, st.ev q.2) ∈ parts.toList.map fun p => (p.1, st.ev p.2) := List.mem_map.2 ⟨q, hq, rfl⟩
          exact (h5 _ hm).2.2
      have hll : ((parts.toList.map fun p => (p.1, st.ev p.2)).map fun x => x.2).length = len := by simpa using hpl
      refine ⟨some ⟨w.heap.size, 0, none⟩, len, parts.toList.map fun p => a.eval p.2, by rw [hll], by rw [hll]; exact Nat.le_refl _, by simp only [maxLen]; omega, by rw [hll]; simp only [capMax]; omega, by simp, ?_, .inr ⟨w.heap.size, 0, rfl, .inr rfl, fun j u hu => ?_⟩⟩
      · have : (parts.toList.map fun p => (p.1, st.ev p.2)).map (fun x => x.2) = parts.toList.map fun p => st.ev p.2 := by simp [Function.comp_def]
        rw [this]
        exact RelPs.mono (fun b hb => .inl hb) (fun b hb' => hb.block b (hs.lt b hb')) _ _ hrel
      · have hu' : r.toList[j]? = some u := by rw [hrl']; exact hu
        rw [Nat.zero_add, World.cell?_alloc_new]
        simpa using hu'

/-- make. -/
def opMakeSlice (P : Program) (t : TypeId) (l c : D) (id : Nat) (K : St → D → Prop) (st : St) : Prop :=
  match l, c with
  | .v (.int _ n), .v (.int _ m) => ∃ e, elT P t = some e ∧ 0 < P.cellsOf e ∧ n ≤ m ∧ 0 ≤ n ∧ m * P.bytesOf e ≤ 140737488355328 ∧ m ≤ capMax ∧ ∃ z, zeroT P e = some z ∧ (D.ofVal z).storable = true ∧ (D.ofVal z).width = P.cellsOf e ∧
      K ((st.killed id).obj id ⟨e, P.cellsOf e, List.replicate n.toNat (D.ofVal z)⟩) (.ref id n.toNat)
  | _, _ => False

theorem RelDs_replicate {ρ : Nat → Loc} {J : Nat → Prop} {w : World} {d : D} {x : Value} (h : RelD ρ J w d x) : ∀ n : Nat, RelDs ρ J w (List.replicate n d) (List.replicate n x)
  | 0 => rfl
  | n + 1 => ⟨x, List.replicate n x, rfl, h, RelDs_replicate h n⟩

theorem kills_replicate (id : Nat) (d : D) (h : d.kill id = d) : ∀ n : Nat, D.kills id (List.replicate n d) = List.replicate n d
  | 0 => rfl
  | n + 1 => by rw [List.replicate_succ, D.kills, h, kills_replicate id d h n]

theorem madeCells_flat (x : Value) {S : Nat} (hS : 0 < S) (hx : x.cells.size = S) (n : Nat) : (madeCells x.cells (n * S)).toList = flat (List.replicate n x) := by
  have hsz : ∀ y ∈ List.replicate n x, y.cells.size = S := by
    intro y hy; rw [(List.mem_replicate.1 hy).2]; exact hx
  apply List.ext_getElem?
  intro k
  by_cases hk : k < n * S
  · have hi : k / S < n := Nat.div_lt_of_lt_mul (by rw [Nat.mul_comm]; exact hk)
    have hj : k % S < S := Nat.mod_lt _ hS
    have := flat_get (List.replicate n x) hsz (k / S) (k % S) x (by simp [hi]) hj
    rw [Nat.mul_comm (k / S) S, Nat.div_add_mod] at this
    rw [this]
    have hlt : k % x.cells.size < x.cells.size := by rw [hx]; exact hj
    have hkm : k < (madeCells x.cells (n * S)).size := by rw [size_madeCells]; exact hk
    simp only [Array.getElem?_toList, Array.getElem?_eq_getElem hkm]
    simp [madeCells, hlt]
    rw [Array.getElem?_eq_getElem (by rw [hx]; exact hj)]
    simp [hx]
  · rw [List.getElem?_eq_none, List.getElem?_eq_none]
    · rw [flat_length _ hsz]; simp; omega
    · simp [size_madeCells]; omega

theorem opMakeSlice_sound {P : Program} {o : Oper} {t : TypeId} {l c : Operand} (id : Nat) (ho : o.op = .makeSlice t l c) {K : St → D → Prop} {st : St}
    (h : opMakeSlice P t (st.ev l) (st.ev c) id K st) : OpX P o K st := by
  intro J0 ρ J B w0 a w hs Kc Q hKc
  unfold opMakeSlice at h
  split at h
  · rename_i kl n kc m hl hc
    obtain ⟨e, h1, hS, hnm, h2, h3, h4, z, hz, h5, h6, h7⟩ := h
    have he := elT_spec h1
    have h8 := hs.ev l
    have h9 := hs.ev c
    rw [hl] at h8
    rw [hc] at h9
    obtain ⟨i, hi, his⟩ := info_of_cells hS
    have hzi : i.zero = some z := by simpa [zeroT, hi] using hz
    have hby : P.bytesOf e = i.bytes := by simp [Program.bytesOf, hi]
    have h3' : (i.bytes : Int) * m ≤ 281474976710656 := by rw [← hby, Int.mul_comm]; omega
    simp only [capMax] at h4
    have hr := run_make (P := P) (w := w) t e i z he hi hzi kl kc n m h2 hnm h3' (by omega)
    obtain ⟨hz1, hz2, _⟩ := RelD_cells (RelD_ofVal (ρ := ρ) (J := J) (w := w) z) h5
    have hrun : (execOp a.eval o).run P w = .ok (.value (.slice (some ⟨w.heap.size, 0, none⟩) n.toNat m.toNat)) (w.alloc (.cells (madeCells z.cells (m.toNat * i.size)) e)) := by
      simp [execOp, ho, h8.1, h9.1, hr]
    rw [his] at hrun
    have hzs : z.cells.size = P.cellsOf e := by rw [hz1, h6]
    by_cases hn0 : m.toNat = 0
    · have hn1 : n.toNat = 0 := by omega
      rw [hn1] at h7
      rw [hn0, hn1] at hrun
      refine wp_value hrun (hKc _ (upd ρ id ⟨some ⟨w.heap.size, 0, none⟩, 0, P.cellsOf e⟩) J (.ref id 0) _ _ h7 rfl ?_ ?_)
      · refine hs.reobj id _ _ none (World.grownBy_alloc w _ none) (fun k hk => by cases hk) (fun g hg1 hg2 => by simp at hg1) ?_
        exact .inl ⟨by simp [upd_same], hS, by simp, by simp [upd_same, maxLen], by simp, [], rfl, by simp, .inl ⟨by simp [upd_same], rfl⟩⟩
      · simp [RelD, upd_same]
    · have hnm' : n.toNat ≤ m.toNat := by omega
      have key := hs.newobj id e (P.cellsOf e) m.toNat (madeCells z.cells (m.toNat * P.cellsOf e)) (List.replicate n.toNat (D.ofVal z)) (List.replicate n.toNat z) (World.grownBy_alloc w _ none) (heap_alloc_new w (.cells (madeCells z.cells (m.toNat * P.cellsOf e)) e)) hS
        (by simpa using hnm') (by simp only [maxLen]; omega) (by omega) (by simp [capMax]; omega) (size_madeCells _ _) (RelDs_replicate (RelD_ofVal z) _) (by
          intro y hy; rw [(List.mem_replicate.1 hy).2]; exact ⟨hzs, hz2⟩)
        (by rw [List.length_replicate, madeCells_flat z hS hzs, ← flat_take (S := P.cellsOf e) _ _ (by intro y hy; rw [(List.mem_replicate.1 hy).2]; exact hzs), List.take_replicate, Nat.min_eq_left hnm'])
      rw [kills_replicate id _ (kill_ofVal id z)] at key
      exact wp_value hrun (hKc _ _ J (.ref id n.toNat) _ _ h7 rfl key (by simp [RelD, upd_same]))
  · exact h.elim

end Go.VL

end
section
/- append. -/
namespace Go.VL
open Go Go.RowKit

/-- What a second argument of append reads as: so many elements, whose cells lie at b. -/
structure Src (w : World) (y : Value) (m : Nat) (news : List Value) : Prop where
  ex : ∃ b c, y = .slice b m c ∧ (news = [] ∨ ∃ ad, b = some ad ∧ ∀ (j : Nat) (u : Value), news[j]? = some u → w.cell? (ad.add j) = some u)

theorem run_first {P : Program} {w : World} {S m l c : Nat} {b : Option Addr} {news : List Value} (hl : news.length = m * S)
    (h : news = [] ∨ ∃ ad, b = some ad ∧ ∀ (j : Nat) (u : Value), news[j]? = some u → w.cell? (ad.add j) = some u) :
    (Builtin.firstCells S m (.slice b l c)).run P w = .ok news.toArray w := by
  rcases h with rfl | ⟨ad, rfl, h⟩
  · cases b with
    | none => simp [Builtin.firstCells]
    | some ad => exact run_firstCells_some w S m ad l c [] hl (by simp)
  · exact run_firstCells_some w S m ad l c news hl h

theorem run_append_room' {P : Program} {w : World} {t e : TypeId} {S : Nat} (ty : TypeId) (ht : P.underlying t = some (.slice e)) (hS : 0 < P.cellsOf e) (hSS : P.cellsOf e = S)
    {g n cap m c : Nat} {b : Option Addr} {cur : Array Value} {news : List Value} (hg : w.heap[g]? = some (.cells cur e (0, 0))) (hl : news.length = m * S)
    (hb : news = [] ∨ ∃ ad, b = some ad ∧ ∀ (j : Nat) (u : Value), news[j]? = some u → w.cell? (ad.add j) = some u) (h1 : ∀ u ∈ news, u.oneCell' = true) (hroom : n + m ≤ cap) (hfit : n * S + news.length ≤ cur.size) :
    (Builtin.append_ #[t, t] ty #[.slice (some ⟨g, 0, none⟩) n cap, .slice b m c]).run P w =
      .ok (.slice (some ⟨g, 0, none⟩) (n + m) cap) (w.setRow g (cur.toList.take (n * S) ++ news ++ cur.toList.drop (n * S + news.length)).toArray) := by
  subst hSS
  have hf := run_first (P := P) (w := w) (l := m) (c := c) hl hb
  have hst := run_storeCells_at P g (n * P.cellsOf e) e news 0 cur w hg (by simpa using hfit) h1
  simp only [Nat.add_zero] at hst
  simp [Builtin.append_, run_underlying ht, run_size hS, Builtin.lenOf, hroom, hf, Addr_add, hst]

theorem run_append_none' {P : Program} {w : World} {t e : TypeId} (ty : TypeId) (ht : P.underlying t = some (.slice e)) (hS : 0 < P.cellsOf e)
    {a b : Option Addr} {c : Nat} : (Builtin.append_ #[t, t] ty #[.slice a 0 0, .slice b 0 c]).run P w = .ok (.slice a 0 0) w := by
  have hf := run_first (P := P) (w := w) (S := P.cellsOf e) (m := 0) (l := 0) (c := c) (b := b) (news := []) (by simp) (.inl rfl)
  cases a <;> simp [Builtin.append_, run_underlying ht, run_size hS, Builtin.lenOf, hf, storeCells]

theorem run_append_grow' {P : Program} {w : World} {t e : TypeId} {S bytes : Nat} {z : Value} (ty : TypeId) (ht : P.underlying t = some (.slice e)) (hS : 0 < P.cellsOf e) (hSS : P.cellsOf e = S) (hz : zeroT P e = some z) (hby : P.bytesOf e = bytes)
    {n cap m c : Nat} {a b : Option Addr} {olds news : List Value} (hlo : olds.length = n * S) (hl : news.length = m * S)
    (ha : olds = [] ∨ ∃ ad, a = some ad ∧ ∀ (j : Nat) (u : Value), olds[j]? = some u → w.cell? (ad.add j) = some u)
    (hb : news = [] ∨ ∃ ad, b = some ad ∧ ∀ (j : Nat) (u : Value), news[j]? = some u → w.cell? (ad.add j) = some u)
    (hgr : cap < n + m) (h63 : n + m ≤ maxLen) (hbytes : (n + m) * bytes ≤ 140737488355328) :
    (Builtin.append_ #[t, t] ty #[.slice a n cap, .slice b m c]).run P w =
      .ok (.slice (some ⟨w.heap.size, 0, none⟩) (n + m) (grownCap w (n + m) cap e))
        (w.drew.alloc (.cells (olds.toArray ++ news.toArray ++ Builtin.zeroCells z.cells (grownCap w (n + m) cap e - (n + m))) e)) := by
  subst hSS
  obtain ⟨i, hi, his⟩ := info_of_cells hS
  have hby' : i.bytes = bytes := by rw [← hby]; simp [Program.bytesOf, hi]
  rw [← his] at hlo hl
  have hf := run_first (P := P) (w := w.drew) (l := m) (c := c) hl hb
  have hfo := run_first (P := P) (w := w.drew) (l := n) (c := cap) hlo ha
  have hn : ¬ (n + m ≤ cap) := by omega
  have hfit := growslice_fits hgr hbytes
  rw [← hby'] at hfit
  have h48' : ¬ (281474976710656 < Builtin.nextslicecap (n + m) cap * i.bytes) := by omega
  simp only [maxLen] at h63
  have h63' : ¬ (9223372036854775807 < ((n : Int) + (m : Int))) := by omega
  have hz' : i.zero = some z := by simpa [zeroT, hi] using hz
  simp [Builtin.append_, run_underlying ht, sizeOf, typeInfo, zeroValue, hi, hz', Builtin.lenOf, hn, h63', h48', Question.forced, hf, hfo, newRow, grownCap]
  congr 2
  apply Array.ext'
  simp [List.append_assoc]

def zeroOK (P : Program) (t : TypeId) : Bool := match zeroT P t with | some z => (D.ofVal z).storable && (D.ofVal z).width == P.cellsOf t | none => false
theorem zeroOK_spec {P : Program} {t : TypeId} (h : zeroOK P t = true) : ∃ z, zeroT P t = some z ∧ z.cells.size = P.cellsOf t := by
  unfold zeroOK at h
  split at h
  · rename_i z hz
    simp only [Bool.and_eq_true, beq_iff_eq] at h
    obtain ⟨h1, _, _⟩ := RelD_cells (RelD_ofVal (ρ := fun _ => ⟨none, 0, 0⟩) (J := fun _ => False) (w := default) z) h.1
    exact ⟨z, hz, by rw [h1, h.2]⟩
  · cases h

def baseD (e : TypeId) (S : Nat) (st : St) (id : Nat) (s : D) : Option (Nat × List D) :=
  match s with
  | .v (.slice none 0 0) => some (id, [])
  | .nil0 => some (id, [])
  | .ref r n => match st.H r with | some o => if n = o.els.length ∧ o.S = S ∧ o.e = e then some (r, o.els) else none | none => none
  | _ => none

def itemsD (S : Nat) (st : St) (x : D) : Option (List D) :=
  match x with
  | .lst l => some l
  | .v (.slice none 0 0) => some []
  | .nil0 => some []
  | .ref r n => match st.H r with | some o => if n ≤ o.els.length ∧ o.S = S then some (o.els.take n) else none | none => none
  | .sub r lo n => match st.H r with | some o => if lo + n ≤ o.els.length ∧ o.S = S then some ((o.els.drop lo).take n) else none | none => none
  | _ => none

def opAppend (P : Program) (t : TypeId) (s x : D) (id : Nat) (K : St → D → Prop) (st : St) : Prop :=
  ∃ e, elT P t = some e ∧ 0 < P.cellsOf e ∧ ∃ b, baseD e (P.cellsOf e) st id s = some b ∧ ∃ xs, itemsD (P.cellsOf e) st x = some xs ∧ (∀ d ∈ xs, d.width = P.cellsOf e ∧ d.storable = true) ∧
    (b.2 ++ xs).length * P.bytesOf e ≤ 140737488355328 ∧ (b.2 ++ xs).length ≤ capMax ∧ zeroOK P e = true ∧ D.kills b.1 (b.2 ++ xs) = b.2 ++ xs ∧
    K ((st.killed b.1).obj b.1 ⟨e, P.cellsOf e, b.2 ++ xs⟩) (.ref b.1 (b.2 ++ xs).length)

/-- What the second argument reads as. -/
theorem itemsD_src {ρ : Nat → Loc} {J0 J : Nat → Prop} {B : Bound} {w0 w : World} {st : St} {a : Act} (hs : Sim J0 ρ J B w0 st a w) {S : Nat} (hS : 0 < S) {x : D} {y : Value} (hx : RelD ρ J w x y) {xs : List D}
    (h : itemsD S st x = some xs) (hw : ∀ d ∈ xs, d.width = S ∧ d.storable = true) :
    ∃ us, RelDs ρ J w xs us ∧ (∀ u ∈ us, u.cells.size = S ∧ ∀ c ∈ u.cells.toList, c.oneCell' = true) ∧ Src w y xs.length (flat us) := by
  unfold itemsD at h
  split at h
  · rename_i l
    cases h
    obtain ⟨ad, c, vs, h1, h2, h3, h4, h0, h5, h6⟩ := hx
    refine ⟨vs, RelPs.toD h5, RelPs_sizes h5 hw, ⟨ad, c, h1, ?_⟩⟩
    rcases h6 with h6 | ⟨b, off, rfl, _, h7⟩
    · exact .inl h6
    · exact .inr ⟨_, rfl, fun j u hu => by rw [Addr_add]; exact h7 j u hu⟩
  · cases h
    exact ⟨[], rfl, by simp, ⟨none, 0, hx.1, .inl rfl⟩⟩
  · cases h
    obtain ⟨ad, h1⟩ := hx
    exact ⟨[], rfl, by simp, ⟨ad, 0, h1, .inl rfl⟩⟩
  · rename_i r n
    split at h
    · rename_i o ho
      split at h
      · rename_i hn
        cases h
        obtain ⟨hn1, hn2⟩ := hn
        obtain ⟨h1, h2, h3, h4, h5, vs, h6, h7, h8⟩ := (hs.objs r o ho).cells (by omega)
        have hx' : y = .slice (ρ r).a n (ρ r).cap := hx
        refine ⟨vs.take n, RelDs_take _ _ _ h6, fun u hu => ?_, ?_⟩
        · have := h7 u (List.mem_of_mem_take hu)
          rw [hn2] at this; exact this
        · refine ⟨(ρ r).a, (ρ r).cap, by rw [hx', List.length_take, Nat.min_eq_left hn1], ?_⟩
          rcases h8 with ⟨_, rfl⟩ | ⟨_, g, cur, h10, _, h12, h13, h14⟩
          · exact .inl (by simp [flat])
          · refine .inr ⟨_, h10, fun j u hu => ?_⟩
            rw [Addr_add, Nat.zero_add, cell_of_row w g _ cur o.e (0, 0) h12]
            rw [flat_take (S := o.S) n vs fun z hz => (h7 z hz).1, List.getElem?_take] at hu
            split at hu
            · have h14' : cur.toList.take (o.els.length * o.S) = flat vs := h14
              rw [← h14', List.getElem?_take] at hu
              split at hu
              · simpa using hu
              · cases hu
            · cases hu
      · cases h
    · cases h
  · rename_i r lo n
    split at h
    · rename_i o ho
      split at h
      · rename_i hn
        cases h
        obtain ⟨hn1, hn2⟩ := hn
        obtain ⟨h1, h2, h3, h4, h5, vs, h6, h7, h8⟩ := (hs.objs r o ho).cells (by omega)
        obtain ⟨ad, hx', hcap, had⟩ := hx
        refine ⟨(vs.drop lo).take n, RelDs_take _ _ _ (RelDs_drop _ _ _ h6), fun u hu => ?_, ?_⟩
        · have := h7 u (List.mem_of_mem_drop (List.mem_of_mem_take hu))
          rw [hn2] at this; exact this
        · refine ⟨ad, (ρ r).cap - lo, by rw [hx', List.length_take, List.length_drop, Nat.min_eq_left (by omega)], ?_⟩
          by_cases hn0 : n = 0
          · subst hn0; exact .inl (by simp [flat])
          have hvl := (RelDs_get _ _ h6).1
          rcases h8 with ⟨_, rfl⟩ | ⟨_, g, cur, h10, _, h12, h13, h14⟩
          · exact .inl (by simp [flat])
          · have had := had (.inl (by omega))
            rw [h10, Option.map_some] at had
            refine .inr ⟨_, had, fun j u hu => ?_⟩
            rw [Addr_add, Addr_add, Nat.zero_add, cell_of_row w g _ cur o.e (0, 0) h12, h1]
            rw [flat_take (S := o.S) n _ fun z hz => (h7 z (List.mem_of_mem_drop hz)).1, flat_drop (S := o.S) lo vs fun z hz => (h7 z hz).1, List.getElem?_take] at hu
            split at hu
            · have h14' : cur.toList.take (o.els.length * o.S) = flat vs := h14
              rw [List.getElem?_drop, ← h14', List.getElem?_take] at hu
              split at hu
              · simpa using hu
              · cases hu
            · cases hu
      · cases h
    · cases h
  · cases h

theorem opAppend_sound {P : Program} {o : Oper} {t : TypeId} {s x : Operand} (id : Nat) (ho : o.op = .call { callee := .builtin .append, args := #[s, x], argTypes := #[t, t] }) {K : St → D → Prop} {st : St}
    (h : opAppend P t (st.ev s) (st.ev x) id K st) : OpX P o K st := by
  intro J0 ρ J B w0 a w hs Kc Q hKc
  obtain ⟨e, h1, hS, b, h2, xs, h3, h4, h5, h6, h7, h8, h9⟩ := h
  have he := elT_spec h1
  obtain ⟨z, hz, hzs⟩ := zeroOK_spec h7
  obtain ⟨us, hus, husz, ⟨ad, c, hy, hsrc⟩⟩ := itemsD_src hs hS (hs.ev x) h3 h4
  have hul : us.length = xs.length := (RelDs_get _ _ hus).1.symm
  have hnl : (flat us).length = xs.length * P.cellsOf e := by rw [flat_length us fun u hu => (husz u hu).1, hul]
  have hone : ∀ u ∈ flat us, u.oneCell' = true := by
    intro u hu
    obtain ⟨v, hv, huv⟩ := List.mem_flatMap.1 hu
    exact (husz v hv).2 u huv
  have hrunE : ∀ {v r : Value} {w' : World}, a.eval s = v → (Builtin.append_ #[t, t] o.type #[v, a.eval x]).run P w = .ok r w' → (execOp a.eval o).run P w = .ok (.value r) w' := by
    intro v r w' h10 h11
    simp only [execOp, ho, resolve, invoke, builtin, Sem.run_bind, Sem.run_pure, Result.andThen_ok, List.map_toArray, List.map_cons, List.map_nil, h10, h11]
  have hmax : (b.2 ++ xs).length ≤ maxLen := by simp only [capMax] at h6; simp only [maxLen]; omega
  -- a new row
  have grow : ∀ (base : Option Addr) (cap : Nat) (vs : List Value), a.eval s = .slice base b.2.length cap → RelDs ρ J w b.2 vs → (∀ u ∈ vs, u.cells.size = P.cellsOf e ∧ ∀ c ∈ u.cells.toList, c.oneCell' = true) →
      (flat vs = [] ∨ ∃ ad, base = some ad ∧ ∀ (j : Nat) (u : Value), (flat vs)[j]? = some u → w.cell? (ad.add j) = some u) → cap < b.2.length + xs.length → o.wp P a w Kc Q := by
    intro base cap vs h10 h11 h12 h13 h14
    have hvl : vs.length = b.2.length := (RelDs_get _ _ h11).1.symm
    have hol : (flat vs).length = b.2.length * P.cellsOf e := by rw [flat_length vs fun u hu => (h12 u hu).1, hvl]
    have hr := run_append_grow' (P := P) (w := w) o.type he hS rfl hz rfl (c := c) hol hnl h13 hsrc h14 (by rw [List.length_append] at hmax; exact hmax) (by rw [List.length_append] at h5; exact h5)
    rw [← hy] at hr
    generalize hcp : grownCap w (b.2.length + xs.length) cap e = cp at hr
    have hcp1 : b.2.length + xs.length ≤ cp := by rw [← hcp]; exact grownCap_ge _ _ _ _
    have hcp2 : cp ≤ maxLen := by rw [← hcp]; exact grownCap_le_maxLen _ _ _ _ (by rw [List.length_append] at hmax; exact hmax)
    have hall : ∀ u ∈ vs ++ us, u.cells.size = P.cellsOf e ∧ ∀ c ∈ u.cells.toList, c.oneCell' = true := by
      intro u hu
      rcases List.mem_append.1 hu with hu | hu
      · exact h12 u hu
      · exact husz u hu
    have key := hs.newobj b.1 e (P.cellsOf e) cp ((flat vs).toArray ++ (flat us).toArray ++ Builtin.zeroCells z.cells (cp - (b.2.length + xs.length))) (b.2 ++ xs) (vs ++ us)
      (grownBy_drew_alloc w _ none) (by have := heap_alloc_new w.drew (.cells ((flat vs).toArray ++ (flat us).toArray ++ Builtin.zeroCells z.cells (cp - (b.2.length + xs.length))) e); exact this) hS (by rw [List.length_append]; exact hcp1) hcp2 (by omega) h6
      (by simp only [Array.size_append, List.size_toArray, size_zeroCells, hzs, hol, hnl, ← Nat.add_mul]; congr 1; omega) (RelDs_app _ _ _ _ h11 hus) hall
      (by rw [flat_append]; simp only [Array.toList_append]; rw [List.take_append_of_le_length (by simp [hol, hnl, Nat.add_mul]), List.take_of_length_le (by simp [hol, hnl, Nat.add_mul])])
    rw [h8] at key
    refine wp_value (hrunE h10 hr) (hKc _ _ J _ _ _ h9 rfl key ?_)
    simp [RelD, upd_same]
  have none' : ∀ base, a.eval s = .slice base 0 0 → b.1 = id → b.2 = [] → o.wp P a w Kc Q := by
    intro base h10 h11 h12
    by_cases hm : xs = []
    · subst hm
      rw [h12] at h9 h8
      have hus0 : us = [] := List.eq_nil_of_length_eq_zero (by simpa using hul)
      have hr := run_append_none' (P := P) (w := w) (t := t) o.type he hS (a := base) (b := ad) (c := c)
      have hy' : a.eval x = .slice ad 0 c := by rw [hy]; rfl
      rw [← hy'] at hr
      refine wp_value (hrunE h10 hr) (hKc _ (upd ρ b.1 ⟨base, 0, P.cellsOf e⟩) J _ _ _ h9 rfl ?_ (by simp [RelD, upd_same]))
      refine hs.reobj b.1 _ _ none ⟨rfl, rfl, rfl, Nat.le_refl _, fun _ _ _ => rfl⟩ (fun k hk => by cases hk) (fun g hg1 hg2 => by simp at hg1) ?_
      exact .inl ⟨by simp [upd_same], hS, by simp, by simp [upd_same, maxLen], by simp, [], rfl, by simp, .inl ⟨by simp [upd_same], rfl⟩⟩
    · have hxl : 0 < xs.length := List.length_pos_iff.2 hm
      exact grow base 0 [] (by rw [h10, h12]; rfl) (by rw [h12]; rfl) (by simp) (.inl rfl) (by omega)
  unfold baseD at h2
  split at h2
  · rename_i hsv
    cases h2
    have h10 := hs.ev s
    rw [hsv] at h10
    exact none' none h10.1 rfl rfl
  · rename_i hsv
    cases h2
    have h10 := hs.ev s
    rw [hsv] at h10
    obtain ⟨base, h10⟩ := h10
    exact none' base h10 rfl rfl
  · rename_i r n hsv
    split at h2
    · rename_i ob hob
      split at h2
      · rename_i hc
        cases h2
        obtain ⟨hn, hSo, heo⟩ := hc
        have h10 := hs.ev s
        rw [hsv] at h10
        have h10' : a.eval s = .slice (ρ r).a n (ρ r).cap := h10
        subst hn
        obtain ⟨g1, g2, g3, g4, g5, vs, g6, g7, g8⟩ := (hs.objs r ob hob).cells (by omega)
        rw [hSo] at g1 g2 g7 g8
        rw [heo] at g8
        rcases g8 with ⟨g8, rfl⟩ | ⟨g9, g, cur, g10, g11, g12, g13, g14⟩
        · have hn0 : ob.els = [] := by
            have := (RelDs_get _ _ g6).1
            exact List.eq_nil_of_length_eq_zero (by simpa using this)
          by_cases hm : xs = []
          · subst hm
            simp only [hn0] at h9 h8 h10'
            have hr := run_append_none' (P := P) (w := w) (t := t) o.type he hS (a := (ρ r).a) (b := ad) (c := c)
            have hy' : a.eval x = .slice ad 0 c := by rw [hy]; rfl
            rw [← hy'] at hr
            have h10'' : a.eval s = .slice (ρ r).a 0 0 := by rw [h10', g8]; rfl
            refine wp_value (hrunE h10'' hr) (hKc _ (upd ρ r ⟨(ρ r).a, 0, P.cellsOf e⟩) J _ _ _ h9 rfl ?_ (by simp [RelD, upd_same]))
            refine hs.reobj r _ _ none ⟨rfl, rfl, rfl, Nat.le_refl _, fun _ _ _ => rfl⟩ (fun k hk => by cases hk) (fun g hg1 hg2 => by simp at hg1) ?_
            exact .inl ⟨by simp [upd_same], hS, by simp, by simp [upd_same, maxLen], by simp, [], rfl, by simp, .inl ⟨by simp [upd_same], rfl⟩⟩
          · have hxl : 0 < xs.length := List.length_pos_iff.2 hm
            exact grow (ρ r).a (ρ r).cap [] h10' g6 (by simp) (.inl rfl) (by rw [g8]; simp only; omega)
        · have hvl : vs.length = ob.els.length := (RelDs_get _ _ g6).1.symm
          have g14' : cur.toList.take (ob.els.length * P.cellsOf e) = flat vs := g14
          by_cases hroom : ob.els.length + xs.length ≤ (ρ r).cap
          · have hfit : ob.els.length * P.cellsOf e + (flat us).length ≤ cur.size := by
              rw [hnl, g13, ← Nat.add_mul]; exact Nat.mul_le_mul_right _ hroom
            have hr := run_append_room' (P := P) (w := w) o.type he hS rfl (n := ob.els.length) (cap := (ρ r).cap) (c := c) g12 hnl hsrc hone hroom hfit
            rw [← hy] at hr
            rw [g10] at h10'
            have hJw : ∀ b', J b' → (w.setRow g (cur.toList.take (ob.els.length * P.cellsOf e) ++ flat us ++ cur.toList.drop (ob.els.length * P.cellsOf e + (flat us).length)).toArray).heap[b']? = w.heap[b']? :=
              fun b' hb' => setRow_other w g b' _ (fun e' => g11 (e' ▸ hb'))
            refine wp_value (hrunE h10' hr) (hKc _ (upd ρ r (ρ r)) J _ _ _ h9 rfl ?_ (by simp [RelD, upd_same, g10]))
            refine hs.reobj r _ _ (some g) (grownBy_setRow w g _) (fun k hk => by cases hk; exact .inr ⟨ob, hob, g9, g10⟩) (fun g' hg1 hg2 => by rw [g10] at hg2; cases hg2; exact .inr rfl) ?_
            refine .inl ⟨by simpa [upd_same] using g1, hS, by simpa [upd_same] using hroom, by simpa [upd_same] using g4, h6, vs ++ us, ?_, ?_, .inr ⟨by simpa [upd_same] using g9, g, _, by simpa [upd_same] using g10, g11, setRow_heap w g cur _ e _ g12, ?_, ?_⟩⟩
            · have hupd : upd ρ r (ρ r) = ρ := by funext j; by_cases hj : j = r <;> simp [upd, hj]
              rw [hupd]
              exact RelDs.mono (fun _ => rfl) (fun _ h => h) hJw _ _ (RelDs_app _ _ _ _ g6 hus)
            · intro u hu
              rcases List.mem_append.1 hu with hu | hu
              · exact g7 u hu
              · exact husz u hu
            · simp only [upd_same, List.size_toArray, List.length_append, List.length_take, List.length_drop, Array.length_toList]
              rw [← g13]; omega
            · show _ = flat (vs ++ us)
              have hfl : (flat vs).length = ob.els.length * P.cellsOf e := by rw [flat_length vs fun u hu => (g7 u hu).1, hvl]
              rw [flat_append, g14']
              simp only []
              rw [List.take_append_of_le_length (by simp [hfl, hnl, Nat.add_mul]), List.take_of_length_le (by simp [hfl, hnl, Nat.add_mul])]
          · refine grow (ρ r).a (ρ r).cap vs h10' g6 g7 (.inr ⟨_, g10, fun j u hu => ?_⟩) (by simp only; omega)
            rw [Addr_add, Nat.zero_add, cell_of_row w g _ cur e (0, 0) g12]
            rw [← g14', List.getElem?_take] at hu
            split at hu
            · simpa using hu
            · cases hu
      · cases h2
    · cases h2
  · cases h2

/-- A list with ys in it from lo on. -/
def putAt (l : List D) (lo : Nat) (ys : List D) : List D := l.take lo ++ ys ++ l.drop (lo + ys.length)
theorem putAt_nil (l : List D) (lo : Nat) : putAt l lo [] = l := by simp [putAt]

/-- copy. -/
def opCopy (P : Program) (t : TypeId) (d x : D) (K : St → D → Prop) (st : St) : Prop :=
  ∃ e, elT P t = some e ∧ 0 < P.cellsOf e ∧ ∃ xs, itemsD (P.cellsOf e) st x = some xs ∧ (∀ d ∈ xs, d.width = P.cellsOf e ∧ d.storable = true) ∧
  match d with
  | .ref id n => ∃ ob, st.H id = some ob ∧ ob.S = P.cellsOf e ∧ ob.e = e ∧ n ≤ ob.els.length ∧ K (st.obj id ⟨ob.e, ob.S, putAt ob.els 0 (xs.take n)⟩) (.v (.int .i64 (Nat.min xs.length n)))
  | .sub id lo n => ∃ ob, st.H id = some ob ∧ ob.S = P.cellsOf e ∧ ob.e = e ∧ lo + n ≤ ob.els.length ∧ K (st.obj id ⟨ob.e, ob.S, putAt ob.els lo (xs.take n)⟩) (.v (.int .i64 (Nat.min xs.length n)))
  | _ => False

theorem St.obj_same {st : St} {id : Nat} {o : Own} (h : st.H id = some o) : st.obj id o = st := by
  unfold St.obj
  have : upd st.H id (some o) = st.H := by
    funext j
    by_cases hj : j = id
    · subst hj; rw [upd_same, h]
    · rw [upd_ne _ _ _ _ hj]
  rw [this]

theorem put_cells {α : Type} (A F Y : List α) (L p : Nat) (hL : L ≤ A.length) (hF : A.take L = F) (hp : p + Y.length ≤ L) :
    (A.take p ++ Y ++ A.drop (p + Y.length)).take L = F.take p ++ Y ++ F.drop (p + Y.length) := by
  subst hF
  apply List.ext_getElem?
  intro k
  simp only [List.getElem?_append, List.getElem?_take, List.getElem?_drop, List.length_append, List.length_take, List.length_drop]
  grind

theorem opCopy_core {P : Program} {t e : TypeId} (he : P.underlying t = some (.slice e)) (hS : 0 < P.cellsOf e) {J0 : Nat → Prop} {ρ : Nat → Loc} {J : Nat → Prop} {B : Bound} {w0 : World} {st : St} {a : Act} {w : World} (hs : Sim J0 ρ J B w0 st a w)
    {id lo n : Nat} {ob : Own} (h1 : st.H id = some ob) (h2 : ob.S = P.cellsOf e) (h3 : ob.e = e) (h4 : lo + n ≤ ob.els.length) {ad : Option Addr} {c : Nat} (had : 0 < n → ∃ g, (ρ id).a = some ⟨g, 0, none⟩ ∧ ad = some ⟨g, lo * P.cellsOf e, none⟩)
    {xs : List D} {us : List Value} {y : Value} (hus : RelDs ρ J w xs us) (husz : ∀ u ∈ us, u.cells.size = P.cellsOf e ∧ ∀ c ∈ u.cells.toList, c.oneCell' = true) (hsrc : Src w y xs.length (flat us)) (t' ty : TypeId) :
    ∃ w', (Builtin.copy_ #[t, t'] ty #[.slice ad n c, y]).run P w = .ok (.int .i64 (Nat.min xs.length n)) w' ∧ Sim J0 ρ J B w0 (st.obj id ⟨ob.e, ob.S, putAt ob.els lo (xs.take n)⟩) a w' := by
  obtain ⟨b, c', rfl, hb⟩ := hsrc
  have hul : us.length = xs.length := (RelDs_get _ _ hus).1.symm
  generalize hm : Nat.min xs.length n = m
  have hm1 : m ≤ xs.length := by rw [← hm]; exact Nat.min_le_left _ _
  have hm2 : m ≤ n := by rw [← hm]; exact Nat.min_le_right _ _
  have hxt : xs.take n = xs.take m := by
    apply List.ext_getElem?
    intro k
    simp only [List.getElem?_take]
    have : m = min xs.length n := hm.symm
    grind
  have hfl : flat (us.take m) = (flat us).take (m * P.cellsOf e) := flat_take m us fun u hu => (husz u hu).1
  have hnl : (flat (us.take m)).length = m * P.cellsOf e := by
    rw [flat_length (S := P.cellsOf e) _ fun u hu => (husz u (List.mem_of_mem_take hu)).1, List.length_take, Nat.min_eq_left (by omega)]
  have hf := run_first (P := P) (w := w) (S := P.cellsOf e) (m := m) (l := xs.length) (c := c') (b := b) (news := flat (us.take m)) hnl (by
    rcases hb with hb | ⟨ad', h5, h6⟩
    · left; rw [hfl, hb]; simp
    · refine .inr ⟨ad', h5, fun j u hu => h6 j u ?_⟩
      rw [hfl, List.getElem?_take] at hu
      split at hu
      · exact hu
      · cases hu)
  have hone : ∀ u ∈ flat (us.take m), u.oneCell' = true := by
    intro u hu
    obtain ⟨v, hv, huv⟩ := List.mem_flatMap.1 hu
    exact (husz v (List.mem_of_mem_take hv)).2 u huv
  by_cases hm0 : m = 0
  · subst hm0
    refine ⟨w, ?_, ?_⟩
    · have hfz : flat (us.take 0) = [] := by simp [flat]
      rw [hfz] at hf
      cases ad with
      | none => simp [Builtin.copy_, run_underlying he, run_size hS, Builtin.lenOf, hm, hf, goInt]
      | some p => simp [Builtin.copy_, run_underlying he, run_size hS, Builtin.lenOf, hm, hf, goInt, storeCells]
    · rw [hxt, List.take_zero, putAt_nil, St.obj_same h1]
      exact hs
  · obtain ⟨g, hg, rfl⟩ := had (by omega)
    obtain ⟨k1, k2, k3, k4, k5, vs, k6, k7, k8⟩ := (hs.objs id ob h1).cells (by omega)
    have hvl : vs.length = ob.els.length := (RelDs_get _ _ k6).1.symm
    rcases k8 with ⟨k8, rfl⟩ | ⟨hcap, g', cur, k10, k11, k12, k13, k14⟩
    · simp at hvl; omega
    rw [hg] at k10; cases k10
    rw [h2] at k7 k13 k14
    have k14' : cur.toList.take (ob.els.length * P.cellsOf e) = flat vs := k14
    have hle1 : (lo + m) * P.cellsOf e ≤ ob.els.length * P.cellsOf e := Nat.mul_le_mul_right _ (by omega)
    have hle2 : ob.els.length * P.cellsOf e ≤ cur.size := by rw [k13]; exact Nat.mul_le_mul_right _ k3
    rw [Nat.add_mul] at hle1
    have hst := run_storeCells_at P g (lo * P.cellsOf e) ob.e (flat (us.take m)) 0 cur w k12 (by rw [hnl]; omega) hone
    simp only [Nat.add_zero] at hst
    refine ⟨w.setRow g (cur.toList.take (lo * P.cellsOf e) ++ flat (us.take m) ++ cur.toList.drop (lo * P.cellsOf e + (flat (us.take m)).length)).toArray, ?_, ?_⟩
    · simp only [Builtin.copy_, List.size_toArray, List.length_cons, List.length_nil, List.getElem?_toArray, List.getElem?_cons_zero, List.getElem?_cons_succ, Sem.run_bind, run_underlying he, Result.andThen_ok, Builtin.lenOf, Sem.run_pure, hm, run_size hS, hf, hst, goInt]
    · refine hs.modobj id ob _ g h1 hcap hg (grownBy_setRow w g _) ?_
      have hJ : ∀ b, J b → (w.setRow g (cur.toList.take (lo * P.cellsOf e) ++ flat (us.take m) ++ cur.toList.drop (lo * P.cellsOf e + (flat (us.take m)).length)).toArray).heap[b]? = w.heap[b]? := by
        intro b' hb'; exact setRow_other w g b' _ (fun e' => k11 (e' ▸ hb'))
      have hlen : (putAt ob.els lo (xs.take n)).length = ob.els.length := by
        rw [hxt]; simp only [putAt, List.length_append, List.length_take, List.length_drop]; omega
      refine .inl ⟨k1, by omega, by rw [hlen]; exact k3, k4, by rw [hlen]; exact k5, vs.take lo ++ us.take m ++ vs.drop (lo + m), ?_, ?_, .inr ⟨hcap, g, _, hg, k11, setRow_heap w g cur _ ob.e _ k12, ?_, ?_⟩⟩
      · refine RelDs.mono (fun _ => rfl) (fun _ h => h) hJ _ _ ?_
        rw [hxt]
        have : (xs.take m).length = m := by simp; omega
        simp only [putAt, this]
        exact RelDs_app _ _ _ _ (RelDs_app _ _ _ _ (RelDs_take _ _ _ k6) (RelDs_take _ _ _ hus)) (RelDs_drop _ _ _ k6)
      · intro x hx
        rw [h2]
        simp only [List.mem_append] at hx
        rcases hx with (hx | hx) | hx
        · exact k7 x (List.mem_of_mem_take hx)
        · exact husz x (List.mem_of_mem_take hx)
        · exact k7 x (List.mem_of_mem_drop hx)
      · simp only [List.size_toArray, List.length_append, List.length_take, List.length_drop, Array.length_toList]
        rw [h2, ← k13, hnl]; omega
      · show _ = flat (vs.take lo ++ us.take m ++ vs.drop (lo + m))
        rw [hlen, h2, flat_append, flat_append, flat_take (S := P.cellsOf e) lo vs fun x hx => (k7 x hx).1, flat_drop (S := P.cellsOf e) (lo + m) vs fun x hx => (k7 x hx).1]
        have := put_cells cur.toList (flat vs) (flat (us.take m)) (ob.els.length * P.cellsOf e) (lo * P.cellsOf e) (by simpa using hle2) k14' (by rw [hnl]; omega)
        rw [hnl] at this
        rw [Nat.add_mul]
        simpa [hnl] using this

theorem opCopy_sound {P : Program} {o : Oper} {t t' : TypeId} {d x : Operand} (ho : o.op = .call { callee := .builtin .copy, args := #[d, x], argTypes := #[t, t'] }) {K : St → D → Prop} {st : St}
    (h : opCopy P t (st.ev d) (st.ev x) K st) : OpX P o K st := by
  intro J0 ρ J B w0 a w hs Kc Q hKc
  obtain ⟨e, h1, hS, xs, h3, h4, h5⟩ := h
  have he := elT_spec h1
  obtain ⟨us, hus, husz, hsrc⟩ := itemsD_src hs hS (hs.ev x) h3 h4
  have hrunE : ∀ {v r : Value} {w' : World}, a.eval d = v → (Builtin.copy_ #[t, t'] o.type #[v, a.eval x]).run P w = .ok r w' → (execOp a.eval o).run P w = .ok (.value r) w' := by
    intro v r w' h10 h11
    simp only [execOp, ho, resolve, invoke, builtin, Sem.run_bind, Sem.run_pure, Result.andThen_ok, List.map_toArray, List.map_cons, List.map_nil, h10, h11]
  have hd := hs.ev d
  split at h5
  · rename_i id n hdv
    obtain ⟨ob, h6, h7, h8, h9, hK⟩ := h5
    rw [hdv] at hd
    have hd' : a.eval d = .slice (ρ id).a n (ρ id).cap := hd
    have hob := (hs.objs id ob h6).cells (by omega)
    obtain ⟨w', h10, h11⟩ := opCopy_core he hS hs h6 h7 h8 (lo := 0) (n := n) (by omega) (ad := (ρ id).a) (c := (ρ id).cap) (fun hn => by
      obtain ⟨g, hg, _⟩ := (hs.objs id ob h6).block (by have := hob.2.2.1; omega)
      exact ⟨g, hg, by rw [hg, Nat.zero_mul]⟩) hus husz hsrc t' o.type
    exact wp_value (hrunE hd' h10) (hKc _ ρ J _ _ w' hK rfl h11 ⟨rfl, rfl⟩)
  · rename_i id lo n hdv
    obtain ⟨ob, h6, h7, h8, h9, hK⟩ := h5
    rw [hdv] at hd
    obtain ⟨ad, hd', hcap, had⟩ := hd
    have hob := (hs.objs id ob h6).cells (by omega)
    obtain ⟨w', h10, h11⟩ := opCopy_core he hS hs h6 h7 h8 (lo := lo) (n := n) h9 (ad := ad) (c := (ρ id).cap - lo) (fun hn => by
      obtain ⟨g, hg, _⟩ := (hs.objs id ob h6).block (by omega)
      refine ⟨g, hg, ?_⟩
      rw [had (.inl (by omega)), hg, hob.1, h7]
      simp [Addr_add]) hus husz hsrc t' o.type
    exact wp_value (hrunE hd' h10) (hKc _ ρ J _ _ w' hK rfl h11 ⟨rfl, rfl⟩)
  · exact h5.elim

end Go.VL

end
