import Derived.Test.YtfmeiapglpphpaaVL4
import Derived.WalkLawsBesides
/- New memory, parts, and what is computed. -/
namespace Go.VL
open Go Go.RowKit

/-- A new row, that the call owns. -/
theorem Sim.newobj {J0 : Nat → Prop} {ρ : Nat → Loc} {J : Nat → Prop} {B : Nat} {w0 : World} {st : St} {a : Act} {w w' : World} (h : Sim J0 ρ J B w0 st a w)
    (id : Nat) (e : TypeId) (S cap : Nat) (cur : Array Value) (els : List D) (vs : List Value) (hg : w.grownBy w' none) (hnew : w'.heap[w.heap.size]? = some (.cells cur e (0, 0)))
    (hS : 0 < S) (hl : els.length ≤ cap) (hc : cap ≤ maxLen) (hc0 : 0 < cap) (hm : els.length ≤ capMax) (hcur : cur.size = cap * S) (hvs : RelDs ρ J w els vs)
    (hcells : ∀ x ∈ vs, x.cells.size = S ∧ ∀ c ∈ x.cells.toList, c.oneCell' = true) (htake : cur.toList.take (els.length * S) = flat vs) :
    Sim J0 (upd ρ id ⟨some ⟨w.heap.size, 0, none⟩, cap, S⟩) J B w0 ((st.killed id).obj id ⟨e, S, D.kills id els⟩) a w' := by
  have hJw : ∀ b, J b → w'.heap[b]? = w.heap[b]? := fun b hb => hg.block b (h.lt b hb) (by simp)
  have hgs : w.heap.size < w'.heap.size := (Array.getElem?_eq_some_iff.1 hnew).1
  refine h.reobj id _ _ none hg (fun k hk => by cases hk) (fun g hg1 hg2 => ?_) ?_
  · simp only [Option.some.injEq, Addr.mk.injEq, and_true] at hg2; left; omega
  · refine ⟨by simp [upd_same], hS, by simpa [upd_same, D.kills_length] using hl, by simpa [upd_same] using hc, by simpa [D.kills_length] using hm, vs,
      RelDs.killed id (fun i hi => upd_ne _ _ _ _ hi) (fun _ h => h) hJw _ _ hvs, hcells, .inr ⟨by simpa [upd_same] using hc0, w.heap.size, cur, by simp [upd_same], fun hJ => ?_, hnew, by simpa [upd_same] using hcur, by rw [D.kills_length]; exact htake⟩⟩
    have := h.lt _ hJ; omega

theorem grownBy_drew_alloc (w : World) (o : Obj) (row : Option Nat) : w.grownBy (w.drew.alloc o) row :=
  ⟨rfl, rfl, rfl, by simp, fun k hk _ => Below.heap_alloc w.drew o k hk⟩

theorem flat_one (x : Value) : flat [x] = x.cells.toList := by simp [flat]

def opBox (P : Program) (e : TypeId) (v : D) (id : Nat) (K : St → D → Prop) (st : St) : Prop :=
  v.storable = true ∧ v.width = P.cellsOf e ∧ 0 < P.cellsOf e ∧ K ((st.killed id).obj id ⟨e, P.cellsOf e, [v.kill id]⟩) (.adr id 0 0)

def dstOf (d : Option Tmp) : Nat := d.getD 0

theorem opBox_sound {P : Program} {o : Oper} {e : TypeId} {x : Operand} (id : Nat) (ho : o.op = .box e x) {K : St → D → Prop} {st : St}
    (h : opBox P e (st.ev x) id K st) : OpX P o K st := by
  intro J0 ρ J B w0 a w hs Kc Q hKc
  obtain ⟨h1, h2, h3, h4⟩ := h
  have hx := hs.ev x
  obtain ⟨hy1, hy2, _⟩ := RelD_cells hx h1
  have hnew := heap_alloc_new w (.cells (a.eval x).cells e)
  refine wp_value (w' := w.alloc (.cells (a.eval x).cells e)) (y := .pointer (some ⟨w.heap.size, 0, none⟩)) ?_ (hKc _ _ J (.adr id 0 0) _ _ h4 rfl
    (hs.newobj id e (P.cellsOf e) 1 (a.eval x).cells [st.ev x] [a.eval x] (World.grownBy_alloc w _ none) hnew h3 (by simp) (by simp [maxLen]) (by simp) (by simp [capMax]) (by rw [hy1, h2]; simp) ⟨_, _, rfl, hx, rfl⟩ (by simp only [List.mem_singleton]; rintro y rfl; exact ⟨by rw [hy1, h2], hy2⟩) ?_) ?_)
  · simp [execOp, ho, Instr.box, newVar, newRow]
  · rw [flat_one, List.take_of_length_le]; simp [hy1, h2]
  · exact ⟨w.heap.size, by simp [upd_same], by simp⟩

def opAlloc (P : Program) (e : TypeId) (id : Nat) (K : St → D → Prop) (st : St) : Prop :=
  ∃ z, zeroT P e = some z ∧ (D.ofVal z).storable = true ∧ (D.ofVal z).width = P.cellsOf e ∧ 0 < P.cellsOf e ∧ K ((st.killed id).obj id ⟨e, P.cellsOf e, [D.ofVal z]⟩) (.adr id 0 0)

theorem kill_val (id : Nat) (l : List Value) : D.kills id (l.map D.v) = l.map D.v := by
  induction l with
  | nil => rfl
  | cons x xs ih => simp [D.kills, D.kill, ih]

theorem kill_ofVal (id : Nat) (x : Value) : (D.ofVal x).kill id = D.ofVal x := by
  cases x with
  | agg cs => simp only [D.ofVal]; split <;> simp [D.kill, kill_val]
  | _ => rfl

theorem run_zero {P : Program} {t : TypeId} {z : Value} (h : zeroT P t = some z) (w : World) : (zeroValue t).run P w = .ok z w := by
  unfold zeroT at h
  cases hi : P.info? t with
  | none => simp [hi] at h
  | some i => simp [hi] at h; simp [zeroValue, typeInfo, hi, h]

theorem opAlloc_sound {P : Program} {o : Oper} {e : TypeId} (id : Nat) (ho : o.op = .alloc e) {K : St → D → Prop} {st : St}
    (h : opAlloc P e id K st) : OpX P o K st := by
  intro J0 ρ J B w0 a w hs Kc Q hKc
  obtain ⟨z, hz, h1, h2, h3, h4⟩ := h
  have hx : RelD ρ J w (D.ofVal z) z := RelD_ofVal z
  obtain ⟨hy1, hy2, _⟩ := RelD_cells hx h1
  have hnew := heap_alloc_new w (.cells z.cells e)
  have key := hs.newobj id e (P.cellsOf e) 1 z.cells [D.ofVal z] [z] (World.grownBy_alloc w _ none) hnew h3 (by simp) (by simp [maxLen]) (by simp) (by simp [capMax]) (by rw [hy1, h2]; simp) ⟨_, _, rfl, hx, rfl⟩ (by simp only [List.mem_singleton]; rintro y rfl; exact ⟨by rw [hy1, h2], hy2⟩)
    (by rw [flat_one, List.take_of_length_le]; simp [hy1, h2])
  simp only [D.kills, kill_ofVal] at key
  refine wp_value (w' := w.alloc (.cells z.cells e)) (y := .pointer (some ⟨w.heap.size, 0, none⟩)) ?_ (hKc _ _ J (.adr id 0 0) _ _ h4 rfl key ?_)
  · simp [execOp, ho, Instr.alloc, run_zero hz, newVar, newRow]
  · exact ⟨w.heap.size, by simp [upd_same], by simp⟩

-- parts
def fieldT (P : Program) (s : TypeId) (f : Nat) : Option Field := match P.underlying s with | some (.struct fs) => fs[f]? | _ => none

theorem fieldT_spec {P : Program} {s : TypeId} {f : Nat} {fl : Field} (h : fieldT P s f = some fl) : ∃ fs, P.underlying s = some (.struct fs) ∧ fs[f]? = some fl := by
  unfold fieldT at h
  split at h
  · exact ⟨_, by assumption, h⟩
  · cases h

theorem run_part {P : Program} {t : TypeId} (ht : okT P t = true) {ρ : Nat → Loc} {J : Nat → Prop} {w : World} {l : List D} {r : D} {vs : List Value} {o : Nat}
    (hx : RelDs ρ J w l vs) (h1 : ∀ c ∈ vs, c.oneCell' = true) (hp : partOf (.agg l) o (P.cellsOf t) (aggT P t) = some r) : ∃ y, (part t vs.toArray o).run P w = .ok y w ∧ RelD ρ J w r y := by
  obtain ⟨h2, h3⟩ := okT_spec ht
  have hd : RelD ρ J w (.agg l) (.agg vs.toArray) := ⟨vs, rfl, hx, h1⟩
  obtain ⟨h4, h5⟩ := partOf_rel hd (by simp [Value.cells, D.width, (RelDs_get l vs hx).1]) hp
  cases hag : aggT P t with
  | true =>
    obtain ⟨_, _, _, h6⟩ := h4 hag
    exact ⟨_, by simp [part, run_isAgg h3, hag, run_size h2]; rfl, by simpa [Value.cells] using h6⟩
  | false =>
    obtain ⟨_, y, h6, h7⟩ := h5 hag
    simp only [Value.cells, List.getElem?_toArray] at h6
    exact ⟨y, by simp [part, run_isAgg h3, hag, h6], h7⟩

def opField (P : Program) (s : TypeId) (x : D) (f : Nat) (K : D → Prop) : Prop :=
  match x with
  | .agg l => ∃ fl, fieldT P s f = some fl ∧ okT P fl.type = true ∧ ∃ r, partOf (.agg l) fl.offset (P.cellsOf fl.type) (aggT P fl.type) = some r ∧ K r
  | _ => False

theorem opField_sound {P : Program} {o : Oper} {s : TypeId} {x : Operand} {f : Nat} (ho : o.op = .field s x f) {K : St → D → Prop} {st : St}
    (h : opField P s (st.ev x) f (K st)) : OpX P o K st := by
  unfold opField at h
  split at h
  · rename_i l hl
    obtain ⟨fl, h1, h2, r, h3, h4⟩ := h
    obtain ⟨fs, h5, h6⟩ := fieldT_spec h1
    refine OpX.pure r h4 fun J0 ρ J B w0 a w hs => ?_
    have hx := hs.ev x
    rw [hl] at hx
    obtain ⟨vs, h7, h8, h9⟩ := hx
    obtain ⟨y, h10, h11⟩ := run_part (P := P) h2 h8 h9 h3
    exact ⟨y, by simp [execOp, ho, h7, Instr.field, run_underlying h5, h6, asAgg, h10], h11⟩
  · exact h.elim

theorem run_fieldAt {P : Program} {s : TypeId} {f : Nat} {fl : Field} (h : fieldT P s f = some fl) (hok : okT P fl.type = true) (b o : Nat) (w : World) :
    (Instr.fieldAt s (.pointer (some ⟨b, o, none⟩)) f).run P w = .ok (.pointer (some ⟨b, o + fl.offset, none⟩)) w := by
  obtain ⟨fs, h5, h6⟩ := fieldT_spec h
  obtain ⟨h2, h3⟩ := okT_spec hok
  have h0 : P.cellsOf fl.type ≠ 0 := by omega
  simp [Instr.fieldAt, run_underlying h5, h6, Instr.sureAddr, fieldPlace, run_size h2, h0, Addr_add]

mutual
theorem RelP.noRef {J : Nat → Prop} {w : World} : ∀ {d : D} {y : Value}, RelP J w d y → d.noRef = true
  | .any, _, _ => rfl
  | .v _, _, _ => rfl
  | .nil0, _, _ => rfl
  | .lst _, _, _ => rfl
  | .ptr _, _, _ => rfl
  | .agg l, y, h => by obtain ⟨vs, _, h2, _⟩ := h; exact RelPs.noRefs h2
  | .tup l, y, h => by obtain ⟨vs, _, h2⟩ := h; exact RelPs.noRefs h2
  | .clos f caps, y, h => by obtain ⟨vs, _, h2⟩ := h; exact RelPs.noRefs h2
  | .ref _ _, _, h => h.elim
  | .adr _ _ _, _, h => h.elim
theorem RelPs.noRefs {J : Nat → Prop} {w : World} : ∀ {l : List D} {vs : List Value}, RelPs J w l vs → D.noRefs l = true
  | [], _, _ => rfl
  | d :: ds, vs, h => by
    obtain ⟨x, xs, h1, h2, h3⟩ := h
    simp [D.noRefs, RelP.noRef h2, RelPs.noRefs h3]
end

theorem partOf_noRef {d r : D} {o sz : Nat} {ag : Bool} (hd : d.noRef = true) (hp : partOf d o sz ag = some r) : r.noRef = true := by
  unfold partOf at hp
  split at hp
  · split at hp
    · rename_i l
      split at hp
      · cases hp
        simp only [D.noRef, D.noRefs_eq, List.all_eq_true] at hd ⊢
        exact fun x hx => hd x (List.mem_of_mem_drop (List.mem_of_mem_take hx))
      · cases hp
    · cases hp
  · split at hp
    · split at hp
      · rename_i l
        simp only [D.noRef, D.noRefs_eq, List.all_eq_true] at hd
        exact hd r (List.mem_of_getElem? hp)
      · split at hp
        · cases hp; exact hd
        · cases hp
    · cases hp

theorem partOf_relP {J : Nat → Prop} {w : World} {d r : D} {x : Value} {o sz : Nat} {ag : Bool} (h : RelP J w d x) (hw : x.cells.size = d.width)
    (hp : partOf d o sz ag = some r) : (ag = true → ∃ l, d = .agg l ∧ o + sz ≤ x.cells.size ∧ RelP J w r (.agg (x.cells.extract o (o + sz)))) ∧ (ag = false → sz = 1 ∧ ∃ y, x.cells[o]? = some y ∧ RelP J w r y) := by
  have hn := partOf_noRef h.noRef hp
  obtain ⟨h1, h2⟩ := partOf_rel (ρ := fun _ => ⟨none, 0, 0⟩) (RelP.toD h) hw hp
  exact ⟨fun e => let ⟨l, a, b, c⟩ := h1 e; ⟨l, a, b, c.toP hn⟩, fun e => let ⟨a, y, b, c⟩ := h2 e; ⟨a, y, b, c.toP hn⟩⟩

/-- A part of what a pointer leads to. -/
theorem ptr_part {J : Nat → Prop} {w : World} {d r : D} {b o k sz : Nat} {ag : Bool} {z : Value} (h8 : RelP J w d z) (h9 : z.cells.size = d.width) (h10 : J b)
    (h11 : ∀ j u, z.cells.toList[j]? = some u → w.cell? ⟨b, o + j, none⟩ = some u) (hp : partOf d k sz ag = some r) (hr : r.width = sz) (hc : ag = false → r.isAgg = false ∧ r.storable = true) :
    RelP J w (.ptr r) (.pointer (some ⟨b, o + k, none⟩)) := by
  obtain ⟨h12, h13⟩ := partOf_relP h8 h9 hp
  cases ag with
  | true =>
    obtain ⟨l, rfl, h14, h15⟩ := h12 rfl
    refine ⟨b, o + k, _, rfl, h15, ?_, h10, fun j u hu => ?_⟩
    · rw [hr]; show (z.cells.extract k (k + sz)).size = sz
      rw [Array.size_extract]; omega
    · have hu' : (z.cells.extract k (k + sz)).toList[j]? = some u := hu
      have : z.cells.toList[k + j]? = some u := by
        simp only [Array.toList_extract, List.extract_eq_take_drop, Nat.add_sub_cancel_left, List.getElem?_take, List.getElem?_drop] at hu'
        split at hu'
        · exact hu'
        · cases hu'
      have := h11 _ u this
      rw [← Nat.add_assoc] at this
      exact this
  | false =>
    obtain ⟨h14, y, h15, h16⟩ := h13 rfl
    obtain ⟨h17, h18⟩ := hc rfl
    obtain ⟨h19, _, h20⟩ := RelD_cells (ρ := fun _ => ⟨none, 0, 0⟩) (RelP.toD h16) h18
    refine ⟨b, o + k, y, rfl, h16, h19, h10, fun j u hu => ?_⟩
    rw [h20 h17] at hu
    cases j with
    | zero =>
      simp only [List.getElem?_cons_zero, Option.some.injEq] at hu
      subst hu
      simpa using h11 k y (by simpa using h15)
    | succ j => simp at hu

def opFieldAddr (P : Program) (s : TypeId) (x : D) (f : Nat) (K : D → Prop) : Prop :=
  match x with
  | .adr id i o => ∃ fl, fieldT P s f = some fl ∧ okT P fl.type = true ∧ K (.adr id i (o + fl.offset))
  | .ptr d => ∃ fl, fieldT P s f = some fl ∧ okT P fl.type = true ∧ ∃ r, partOf d fl.offset (P.cellsOf fl.type) (aggT P fl.type) = some r ∧ r.width = P.cellsOf fl.type ∧ (aggT P fl.type = false → r.isAgg = false ∧ r.storable = true) ∧ K (.ptr r)
  | _ => False

theorem opFieldAddr_sound {P : Program} {o : Oper} {s : TypeId} {x : Operand} {f : Nat} (ho : o.op = .fieldAddr s x f) {K : St → D → Prop} {st : St}
    (h : opFieldAddr P s (st.ev x) f (K st)) : OpX P o K st := by
  unfold opFieldAddr at h
  split at h
  · rename_i id i off hl
    obtain ⟨fl, h1, h2, h4⟩ := h
    refine OpX.pure _ h4 fun J0 ρ J B w0 a w hs => ?_
    have hx := hs.ev x
    rw [hl] at hx
    obtain ⟨g, h5, h6⟩ := hx
    exact ⟨.pointer (some ⟨g, i * (ρ id).S + off + fl.offset, none⟩), by simp [execOp, ho, h6, run_fieldAt h1 h2], g, h5, by rw [Nat.add_assoc]⟩
  · rename_i d hl
    obtain ⟨fl, h1, h2, r, h4, h5, hc, h6⟩ := h
    refine OpX.pure _ h6 fun J0 ρ J B w0 a w hs => ?_
    have hx := hs.ev x
    rw [hl] at hx
    obtain ⟨b, off, z, h7, h8, h9, h10, h11⟩ := hx
    exact ⟨.pointer (some ⟨b, off + fl.offset, none⟩), by simp [execOp, ho, h7, run_fieldAt h1 h2], ptr_part h8 h9 h10 h11 h4 h5 hc⟩
  · exact h.elim

def arrT (P : Program) (t : TypeId) : Option (Nat × TypeId) := match P.underlying t with | some (.array n e) => some (n, e) | _ => none
theorem arrT_spec {P : Program} {t e : TypeId} {n : Nat} (h : arrT P t = some (n, e)) : P.underlying t = some (.array n e) := by
  unfold arrT at h
  split at h
  · cases h; assumption
  · cases h
def elT (P : Program) (t : TypeId) : Option TypeId := match P.underlying t with | some (.slice e) => some e | _ => none
theorem elT_spec {P : Program} {t e : TypeId} (h : elT P t = some e) : P.underlying t = some (.slice e) := by
  unfold elT at h
  split at h
  · cases h; assumption
  · cases h

/-- The address of an element. -/
def opIndexAddr (P : Program) (t : TypeId) (x ix : D) (K : D → Prop) (st : St) : Prop :=
  match ix with
  | .v (.int _ i) =>
    match x with
    | .lst l => ∃ e, elT P t = some e ∧ 0 ≤ i ∧ i < l.length ∧ 0 < P.cellsOf e ∧ (∀ d ∈ l, d.width = P.cellsOf e ∧ d.storable = true) ∧ ∃ d, l[i.toNat]? = some d ∧ K (.ptr d)
    | .ref id n => ∃ e, elT P t = some e ∧ 0 ≤ i ∧ i < n ∧ 0 < P.cellsOf e ∧ ∃ ob, st.H id = some ob ∧ ob.S = P.cellsOf e ∧ n ≤ ob.els.length ∧ K (.adr id i.toNat 0)
    | .adr id j o => ∃ n e, arrT P t = some (n, e) ∧ 0 ≤ i ∧ i < n ∧ 0 < P.cellsOf e ∧ K (.adr id j (o + i.toNat * P.cellsOf e))
    | .ptr d => ∃ n e, arrT P t = some (n, e) ∧ 0 ≤ i ∧ i < n ∧ 0 < P.cellsOf e ∧ ∃ r, partOf d (i.toNat * P.cellsOf e) (P.cellsOf e) (aggT P e) = some r ∧ r.width = P.cellsOf e ∧ (aggT P e = false → r.isAgg = false ∧ r.storable = true) ∧ K (.ptr r)
    | _ => False
  | _ => False

theorem RelPs_get {J : Nat → Prop} {w : World} (l : List D) (vs : List Value) (h : RelPs J w l vs) : l.length = vs.length ∧ ∀ (i : Nat) (d : D), l[i]? = some d → ∃ x, vs[i]? = some x ∧ RelP J w d x := by
  have hn := h.noRefs
  obtain ⟨h1, h2⟩ := RelDs_get (ρ := fun _ => ⟨none, 0, 0⟩) l vs (RelPs.toD h)
  refine ⟨h1, fun i d hd => ?_⟩
  obtain ⟨x, h3, h4⟩ := h2 i d hd
  rw [D.noRefs_eq, List.all_eq_true] at hn
  exact ⟨x, h3, h4.toP (hn d (List.mem_of_getElem? hd))⟩

theorem RelPs_mem {J : Nat → Prop} {w : World} {l : List D} {vs : List Value} (h : RelPs J w l vs) {y : Value} (hy : y ∈ vs) : ∃ d ∈ l, RelP J w d y := by
  obtain ⟨h1, h2⟩ := RelPs_get l vs h
  obtain ⟨i, hi, rfl⟩ := List.mem_iff_getElem.1 hy
  have hi' : i < l.length := by omega
  obtain ⟨x, h3, h4⟩ := h2 i l[i] (by simp [hi'])
  rw [List.getElem?_eq_getElem hi, Option.some.injEq] at h3
  subst h3
  exact ⟨l[i], by simp, h4⟩

theorem RelPs_sizes {J : Nat → Prop} {w : World} {l : List D} {vs : List Value} {S : Nat} (h : RelPs J w l vs) (hl : ∀ d ∈ l, d.width = S ∧ d.storable = true) :
    ∀ y ∈ vs, y.cells.size = S ∧ ∀ c ∈ y.cells.toList, c.oneCell' = true := by
  intro y hy
  obtain ⟨d, hd, hr⟩ := RelPs_mem h hy
  obtain ⟨h1, h2⟩ := hl d hd
  obtain ⟨h3, h4, _⟩ := RelD_cells (ρ := fun _ => ⟨none, 0, 0⟩) (RelP.toD hr) h2
  exact ⟨by rw [h3, h1], h4⟩

theorem opIndexAddr_sound {P : Program} {o : Oper} {t : TypeId} {x ix : Operand} (ho : o.op = .indexAddr t x ix) {K : St → D → Prop} {st : St}
    (h : opIndexAddr P t (st.ev x) (st.ev ix) (K st) st) : OpX P o K st := by
  unfold opIndexAddr at h
  split at h
  · rename_i k i hix
    split at h
    · rename_i l hl
      obtain ⟨e, h1, h2, h3, h4, h5, d, h6, h7⟩ := h
      have he := elT_spec h1
      refine OpX.pure _ h7 fun J0 ρ J B w0 a w hs => ?_
      have hx := hs.ev x
      rw [hl] at hx
      have hi := hs.ev ix
      rw [hix] at hi
      obtain ⟨ad, c, vs, h8, h9, h10, h11, h0, h12, h13⟩ := hx
      obtain ⟨z, h14, h15⟩ := (RelPs_get l vs h12).2 _ _ h6
      have hsz := RelPs_sizes h12 h5
      have hzs := (hsz z (List.mem_of_getElem? h14)).1
      have hne : flat vs ≠ [] := by
        intro e0
        have := flat_length vs fun y hy => (hsz y hy).1
        rw [e0] at this
        have hvl := (RelPs_get l vs h12).1
        have : vs.length * P.cellsOf e = 0 := by simpa using this.symm
        rcases Nat.mul_eq_zero.1 this with h | h <;> omega
      rcases h13 with h13 | ⟨b, off, h13, h16, h17⟩
      · exact absurd h13 hne
      · refine ⟨.pointer (some ⟨b, off + i.toNat * P.cellsOf e, none⟩), ?_, b, _, z, rfl, h15, by rw [hzs]; exact ((h5 d (List.mem_of_getElem? h6)).1).symm, h16, fun j u hu => ?_⟩
        · have hlen : i < (l.length : Int) := h3
          simp [execOp, ho, h8, hi.1, h13, Instr.indexAt, asIntOf, run_underlying he, h2, hlen, run_size h4, Addr_add]
        · have hj : j < P.cellsOf e := by
            have := (List.getElem?_eq_some_iff.1 hu).1
            simpa [hzs] using this
          have := flat_get vs (fun y hy => (hsz y hy).1) i.toNat j z h14 hj
          rw [hu] at this
          have := h17 _ u this
          rw [← Nat.add_assoc] at this
          exact this
    · rename_i id n hl
      obtain ⟨e, h1, h2, h3, h4, ob, h5, h6, h7, h8⟩ := h
      have he := elT_spec h1
      refine OpX.pure _ h8 fun J0 ρ J B w0 a w hs => ?_
      have hx := hs.ev x
      rw [hl] at hx
      have hi := hs.ev ix
      rw [hix] at hi
      have hob := hs.objs id ob h5
      have hlt : i.toNat < ob.els.length := by omega
      obtain ⟨hcap, g, cur, vs, z, h10, _⟩ := hob.elem (i := i.toNat) (d := ob.els[i.toNat]) (by simp [hlt])
      have hS : (ρ id).S = P.cellsOf e := by rw [hob.1, h6]
      simp only [RelD] at hx
      refine ⟨.pointer (some ⟨g, i.toNat * P.cellsOf e, none⟩), ?_, g, h10, by rw [hS, Nat.add_zero]⟩
      simp [execOp, ho, hx, hi.1, h10, Instr.indexAt, asIntOf, run_underlying he, h2, h3, run_size h4, Addr_add]
    · rename_i id j off hl
      obtain ⟨n, e, h1, h2, h3, h4, h5⟩ := h
      have he := arrT_spec h1
      refine OpX.pure _ h5 fun J0 ρ J B w0 a w hs => ?_
      have hx := hs.ev x
      rw [hl] at hx
      have hi := hs.ev ix
      rw [hix] at hi
      obtain ⟨g, h6, h7⟩ := hx
      refine ⟨.pointer (some ⟨g, j * (ρ id).S + (off + i.toNat * P.cellsOf e), none⟩), ?_, g, h6, rfl⟩
      simp [execOp, ho, h7, hi.1, Instr.indexAt, Instr.sureAddr, asIntOf, run_underlying he, h2, h3, run_size h4, Addr_add, Nat.add_assoc]
    · rename_i d hl
      obtain ⟨n, e, h1, h2, h3, h4, r, h5, h6, h6', h7⟩ := h
      have he := arrT_spec h1
      refine OpX.pure _ h7 fun J0 ρ J B w0 a w hs => ?_
      have hx := hs.ev x
      rw [hl] at hx
      have hi := hs.ev ix
      rw [hix] at hi
      obtain ⟨b, off, z, h8, h9, h10, h11, h12⟩ := hx
      refine ⟨.pointer (some ⟨b, off + i.toNat * P.cellsOf e, none⟩), ?_, ptr_part h9 h10 h11 h12 h5 h6 h6'⟩
      simp [execOp, ho, h8, hi.1, Instr.indexAt, Instr.sureAddr, asIntOf, run_underlying he, h2, h3, run_size h4, Addr_add]
    · exact h.elim
  · exact h.elim

/-- An element of an array that is a value. -/
def opIndex (P : Program) (t : TypeId) (x ix : D) (K : D → Prop) : Prop :=
  match x, ix with
  | .agg l, .v (.int _ i) => ∃ n e, arrT P t = some (n, e) ∧ 0 ≤ i ∧ i < n ∧ okT P e = true ∧ ∃ r, partOf (.agg l) (i.toNat * P.cellsOf e) (P.cellsOf e) (aggT P e) = some r ∧ K r
  | _, _ => False

theorem opIndex_sound {P : Program} {o : Oper} {t : TypeId} {x ix : Operand} (ho : o.op = .index t x ix) {K : St → D → Prop} {st : St}
    (h : opIndex P t (st.ev x) (st.ev ix) (K st)) : OpX P o K st := by
  unfold opIndex at h
  split at h
  · rename_i l k i hl hix
    obtain ⟨n, e, h1, h2, h3, h4, r, h5, h6⟩ := h
    have he := arrT_spec h1
    refine OpX.pure _ h6 fun J0 ρ J B w0 a w hs => ?_
    have hx := hs.ev x
    rw [hl] at hx
    have hi := hs.ev ix
    rw [hix] at hi
    obtain ⟨vs, h7, h8, h9⟩ := hx
    obtain ⟨y, h10, h11⟩ := run_part (P := P) h4 h8 h9 h5
    exact ⟨y, by simp [execOp, ho, h7, hi.1, Instr.index, asIntOf, run_underlying he, h2, h3, run_size (okT_spec h4).1, h10], h11⟩
  · exact h.elim

end Go.VL
