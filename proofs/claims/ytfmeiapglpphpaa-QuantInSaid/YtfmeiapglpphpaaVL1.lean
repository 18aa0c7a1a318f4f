import Derived.WalkKit
import Derived.Below
import Derived.Laws.AppendOwn
import Derived.Laws.MakeOwn
import Derived.Laws.BytesArg
import Derived.KernelRfl
/- Values without memory: what a value of a call reads as, and what a call owns. -/
namespace Go.VL
open Go Go.RowKit

inductive D where
  | any
  | v (x : Value)
  | nil0
  | lst (l : List D)
  | agg (l : List D)
  | tup (l : List D)
  | ptr (d : D)
  | clos (f : Fn) (caps : List D)
  | ref (id n : Nat)
  | adr (id i o : Nat)
  deriving Inhabited

def D.width : D → Nat
  | .agg l => l.length
  | _ => 1

def capMax : Nat := 9223372036854775807

def RowAt (J : Nat → Prop) (w : World) (a : Option Addr) (cs : List Value) : Prop :=
  cs = [] ∨ ∃ b o, a = some ⟨b, o, none⟩ ∧ J b ∧ ∀ j u, cs[j]? = some u → w.cell? ⟨b, o + j, none⟩ = some u

mutual
def RelP (J : Nat → Prop) (w : World) : D → Value → Prop
  | .any, _ => True
  | .v x, y => y = x ∧ x.cells = #[x]
  | .nil0, y => ∃ a, y = .slice a 0 0
  | .lst l, y => ∃ a c vs, y = .slice a l.length c ∧ l.length ≤ c ∧ c ≤ maxLen ∧ l.length ≤ capMax ∧ (a = none → l = []) ∧ RelPs J w l vs ∧ RowAt J w a (vs.flatMap fun x => x.cells.toList)
  | .agg l, y => ∃ vs, y = .agg vs.toArray ∧ RelPs J w l vs ∧ ∀ x ∈ vs, x.oneCell' = true
  | .tup l, y => ∃ vs, y = .tuple vs.toArray ∧ RelPs J w l vs
  | .ptr d, y => ∃ b o x, y = .pointer (some ⟨b, o, none⟩) ∧ RelP J w d x ∧ x.cells.size = d.width ∧ J b ∧ ∀ j u, x.cells.toList[j]? = some u → w.cell? ⟨b, o + j, none⟩ = some u
  | .clos f caps, y => ∃ vs, y = .func f #[] vs.toArray ∧ RelPs J w caps vs
  | .ref _ _, _ => False
  | .adr _ _ _, _ => False
def RelPs (J : Nat → Prop) (w : World) : List D → List Value → Prop
  | [], vs => vs = []
  | d :: ds, vs => ∃ x xs, vs = x :: xs ∧ RelP J w d x ∧ RelPs J w ds xs
end

structure Loc where
  a : Option Addr
  cap : Nat
  S : Nat

mutual
def RelD (ρ : Nat → Loc) (J : Nat → Prop) (w : World) : D → Value → Prop
  | .ref id n, y => y = .slice (ρ id).a n (ρ id).cap
  | .adr id i o, y => ∃ g, (ρ id).a = some ⟨g, 0, none⟩ ∧ y = .pointer (some ⟨g, i * (ρ id).S + o, none⟩)
  | .agg l, y => ∃ vs, y = .agg vs.toArray ∧ RelDs ρ J w l vs ∧ ∀ x ∈ vs, x.oneCell' = true
  | .tup l, y => ∃ vs, y = .tuple vs.toArray ∧ RelDs ρ J w l vs
  | .clos f caps, y => ∃ vs, y = .func f #[] vs.toArray ∧ RelDs ρ J w caps vs
  | .any, _ => True
  | .v x, y => y = x ∧ x.cells = #[x]
  | .nil0, y => ∃ a, y = .slice a 0 0
  | .lst l, y => RelP J w (.lst l) y
  | .ptr d, y => RelP J w (.ptr d) y
def RelDs (ρ : Nat → Loc) (J : Nat → Prop) (w : World) : List D → List Value → Prop
  | [], vs => vs = []
  | d :: ds, vs => ∃ x xs, vs = x :: xs ∧ RelD ρ J w d x ∧ RelDs ρ J w ds xs
end

theorem RowAt.mono {J J' : Nat → Prop} {w w' : World} {a : Option Addr} {cs : List Value} (hJ : ∀ b, J b → J' b)
    (hw : ∀ b, J b → w'.heap[b]? = w.heap[b]?) (h : RowAt J w a cs) : RowAt J' w' a cs := by
  rcases h with h | ⟨b, o, ha, hb, hc⟩
  · exact .inl h
  · exact .inr ⟨b, o, ha, hJ b hb, fun j u hu => (World.cell?_of_block (w := w) (hw b hb)).trans (hc j u hu)⟩

mutual
theorem RelP.mono {J J' : Nat → Prop} {w w' : World} (hJ : ∀ b, J b → J' b) (hw : ∀ b, J b → w'.heap[b]? = w.heap[b]?) :
    ∀ (d : D) (y : Value), RelP J w d y → RelP J' w' d y
  | .any, _, _ => trivial
  | .v _, _, h => h
  | .nil0, _, h => h
  | .lst l, y, h => by
    obtain ⟨a, c, vs, h1, h2, h3, h4, h0, h5, h6⟩ := h
    exact ⟨a, c, vs, h1, h2, h3, h4, h0, RelPs.mono hJ hw l vs h5, h6.mono hJ hw⟩
  | .agg l, y, h => by
    obtain ⟨vs, h1, h2, h3⟩ := h
    exact ⟨vs, h1, RelPs.mono hJ hw l vs h2, h3⟩
  | .tup l, y, h => by
    obtain ⟨vs, h1, h2⟩ := h
    exact ⟨vs, h1, RelPs.mono hJ hw l vs h2⟩
  | .ptr d, y, h => by
    obtain ⟨b, o, x, h1, h2, h3, h4, h5⟩ := h
    exact ⟨b, o, x, h1, RelP.mono hJ hw d x h2, h3, hJ b h4, fun j u hu => (World.cell?_of_block (w := w) (hw b h4)).trans (h5 j u hu)⟩
  | .clos f caps, y, h => by
    obtain ⟨vs, h1, h2⟩ := h
    exact ⟨vs, h1, RelPs.mono hJ hw caps vs h2⟩
  | .ref _ _, _, h => h.elim
  | .adr _ _ _, _, h => h.elim
theorem RelPs.mono {J J' : Nat → Prop} {w w' : World} (hJ : ∀ b, J b → J' b) (hw : ∀ b, J b → w'.heap[b]? = w.heap[b]?) :
    ∀ (l : List D) (vs : List Value), RelPs J w l vs → RelPs J' w' l vs
  | [], _, h => h
  | d :: ds, vs, h => by
    obtain ⟨x, xs, h1, h2, h3⟩ := h
    exact ⟨x, xs, h1, RelP.mono hJ hw d x h2, RelPs.mono hJ hw ds xs h3⟩
end

mutual
theorem RelD.mono {ρ ρ' : Nat → Loc} {J J' : Nat → Prop} {w w' : World} (hρ : ∀ id, ρ' id = ρ id) (hJ : ∀ b, J b → J' b) (hw : ∀ b, J b → w'.heap[b]? = w.heap[b]?) :
    ∀ (d : D) (y : Value), RelD ρ J w d y → RelD ρ' J' w' d y
  | .any, _, _ => trivial
  | .v _, _, h => h
  | .nil0, _, h => h
  | .lst l, y, h => RelP.mono hJ hw (.lst l) y h
  | .ptr d, y, h => RelP.mono hJ hw (.ptr d) y h
  | .agg l, y, h => by
    obtain ⟨vs, h1, h2, h3⟩ := h
    exact ⟨vs, h1, RelDs.mono hρ hJ hw l vs h2, h3⟩
  | .tup l, y, h => by
    obtain ⟨vs, h1, h2⟩ := h
    exact ⟨vs, h1, RelDs.mono hρ hJ hw l vs h2⟩
  | .clos f caps, y, h => by
    obtain ⟨vs, h1, h2⟩ := h
    exact ⟨vs, h1, RelDs.mono hρ hJ hw caps vs h2⟩
  | .ref id n, _, h => by simp only [RelD] at h ⊢; rw [hρ]; exact h
  | .adr id i o, _, h => by simp only [RelD] at h ⊢; rw [hρ]; exact h
theorem RelDs.mono {ρ ρ' : Nat → Loc} {J J' : Nat → Prop} {w w' : World} (hρ : ∀ id, ρ' id = ρ id) (hJ : ∀ b, J b → J' b) (hw : ∀ b, J b → w'.heap[b]? = w.heap[b]?) :
    ∀ (l : List D) (vs : List Value), RelDs ρ J w l vs → RelDs ρ' J' w' l vs
  | [], _, h => h
  | d :: ds, vs, h => by
    obtain ⟨x, xs, h1, h2, h3⟩ := h
    exact ⟨x, xs, h1, RelD.mono hρ hJ hw d x h2, RelDs.mono hρ hJ hw ds xs h3⟩
end

mutual
def D.kill (id : Nat) : D → D
  | .ref i n => if i = id then .any else .ref i n
  | .adr i a b => if i = id then .any else .adr i a b
  | .agg l => .agg (kills id l)
  | .tup l => .tup (kills id l)
  | .clos f caps => .clos f (kills id caps)
  | .any => .any
  | .v x => .v x
  | .nil0 => .nil0
  | .lst l => .lst l
  | .ptr d => .ptr d
def D.kills (id : Nat) : List D → List D
  | [] => []
  | d :: ds => d.kill id :: kills id ds
end

theorem D.kills_eq_map (id : Nat) (l : List D) : D.kills id l = l.map (D.kill id) := by
  induction l with
  | nil => rfl
  | cons d ds ih => simp [D.kills, ih]

mutual
theorem RelD.killed {ρ ρ' : Nat → Loc} {J J' : Nat → Prop} {w w' : World} (id : Nat) (hρ : ∀ i, i ≠ id → ρ' i = ρ i) (hJ : ∀ b, J b → J' b) (hw : ∀ b, J b → w'.heap[b]? = w.heap[b]?) :
    ∀ (d : D) (y : Value), RelD ρ J w d y → RelD ρ' J' w' (d.kill id) y
  | .any, _, _ => trivial
  | .v _, _, h => h
  | .nil0, _, h => h
  | .lst l, y, h => RelP.mono hJ hw (.lst l) y h
  | .ptr d, y, h => RelP.mono hJ hw (.ptr d) y h
  | .agg l, y, h => by
    obtain ⟨vs, h1, h2, h3⟩ := h
    exact ⟨vs, h1, RelDs.killed id hρ hJ hw l vs h2, h3⟩
  | .tup l, y, h => by
    obtain ⟨vs, h1, h2⟩ := h
    exact ⟨vs, h1, RelDs.killed id hρ hJ hw l vs h2⟩
  | .clos f caps, y, h => by
    obtain ⟨vs, h1, h2⟩ := h
    exact ⟨vs, h1, RelDs.killed id hρ hJ hw caps vs h2⟩
  | .ref i n, _, h => by
    simp only [D.kill]
    split
    · trivial
    · rename_i hne; simp only [RelD] at h ⊢; rw [hρ i hne]; exact h
  | .adr i a b, _, h => by
    simp only [D.kill]
    split
    · trivial
    · rename_i hne; simp only [RelD] at h ⊢; rw [hρ i hne]; exact h
theorem RelDs.killed {ρ ρ' : Nat → Loc} {J J' : Nat → Prop} {w w' : World} (id : Nat) (hρ : ∀ i, i ≠ id → ρ' i = ρ i) (hJ : ∀ b, J b → J' b) (hw : ∀ b, J b → w'.heap[b]? = w.heap[b]?) :
    ∀ (l : List D) (vs : List Value), RelDs ρ J w l vs → RelDs ρ' J' w' (D.kills id l) vs
  | [], _, h => h
  | d :: ds, vs, h => by
    obtain ⟨x, xs, h1, h2, h3⟩ := h
    exact ⟨x, xs, h1, RelD.killed id hρ hJ hw d x h2, RelDs.killed id hρ hJ hw ds xs h3⟩
end
end Go.VL
