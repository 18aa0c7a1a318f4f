import Derived.Test.YtfmeiapglpphpaaVL27
/- Regions that draw their order: schedules with calls beside what is owned. -/
namespace Go.VL
open Go Go.RowKit

inductive Sch2 where
  | done
  | one (rob : Bool) (i : Nat) (s : Sch2)
  | cal (i : Nat) (cs : List Nat) (s : Sch2)
  | only (i : Nat) (s : Sch2)
  | two (i j : Nat) (s s' : Sch2)

def lastOK (ops : Array Oper) (listed : Array Bool) (i j : Nat) (oj : Oper) (W : Array Bool) : Bool :=
  (List.range ops.size).all fun m => m == i || m == j || listed.getD m true || W.getD m false || match ops[m]? with
    | some o => oj.op.operands.toList.all fun x => match x with | .tmp k => o.dst != some k | _ => true
    | none => true
def calmOK (ops : Array Oper) (listed : Array Bool) (cs : List Nat) (i : Nat) (oi : Oper) (W : Array Bool) : Bool :=
  (List.range ops.size).all fun j => j == i || listed.getD j true || W.getD j false || match ops[j]? with
    | some o => oi.apart ops o && (quiet o || (callV o && cs.contains j && lastOK ops listed i j o W))
    | none => true

def sch2OK (ops : Array Oper) : Nat → Array Bool → Sch2 → Bool
  | _, listed, .done => Region.ready .any ops listed == []
  | f + 1, listed, .one rob i s => match ops[i]? with
    | some o => quiet o && o.dst.isSome && (Region.ready .any ops listed).contains i && (let W := waits ops listed i 1 (Array.replicate ops.size false); waitsOK ops listed i W && freeOK ops listed rob i o W) && sch2OK ops f (listed.setIfInBounds i true) s
    | none => false
  | f + 1, listed, .cal i cs s => match ops[i]? with
    | some o => quiet o && o.dst.isSome && (Region.ready .any ops listed).contains i && (let W := waits ops listed i 1 (Array.replicate ops.size false); waitsOK ops listed i W && calmOK ops listed cs i o W) && sch2OK ops f (listed.setIfInBounds i true) s
    | none => false
  | f + 1, listed, .only i s => Region.ready .any ops listed == [i] && sch2OK ops f (listed.setIfInBounds i true) s
  | f + 1, listed, .two i j s s' => Region.ready .any ops listed == [i, j] && sch2OK ops f (listed.setIfInBounds i true) s && sch2OK ops f (listed.setIfInBounds j true) s'
  | 0, _, _ => false

def dstIds (o : Oper) (s : St) : List Nat := match o.dst with | some k => (s.t k).ids | none => []
def keptP (id : Nat) (st : St) : List Nat → Prop
  | [] => True
  | m :: l => killO id (st.H m) = st.H m ∧ keptP id st l
def calP (ops : Array Oper) (I : List Nat) (st : St) : List Nat → Prop
  | [] => True
  | c :: cs => (∃ o, ops[c]? = some o ∧ plain o st = true ∧ (I.all fun m => !(m == dstOf o.dst)) = true ∧ keptP (dstOf o.dst) st I) ∧ calP ops I st cs
theorem keptP_mem {id : Nat} {st : St} : ∀ {l : List Nat}, keptP id st l → ∀ m ∈ l, killO id (st.H m) = st.H m
  | [], _, m, hm => by cases hm
  | x :: l, h, m, hm => by
    rcases List.mem_cons.1 hm with rfl | hm
    · exact h.1
    · exact keptP_mem h.2 m hm
theorem calP_mem {ops : Array Oper} {I : List Nat} {st : St} : ∀ {cs : List Nat}, calP ops I st cs → ∀ c ∈ cs, ∃ o, ops[c]? = some o ∧ plain o st = true ∧ (I.all fun m => !(m == dstOf o.dst)) = true ∧ keptP (dstOf o.dst) st I
  | [], _, m, hm => by cases hm
  | x :: l, h, m, hm => by
    rcases List.mem_cons.1 hm with rfl | hm
    · exact h.1
    · exact calP_mem h.2 m hm

def sch2K (P : Program) (ops : Array Oper) (K : St → Prop) : Sch2 → St → Prop
  | .done, st => K st
  | .one rob i s, st => ∃ o, ops[i]? = some o ∧ qok o st.ev = true ∧ (rob = true → plain o st = true) ∧ opA P ops.toList o (fun s' => (rob = true → robDst o s' = true) ∧ sch2K P ops K s s') st
  | .cal i cs s, st => ∃ o, ops[i]? = some o ∧ qok o st.ev = true ∧ calP ops (D.idss (o.op.operands.toList.map st.ev)) st cs ∧
      opA P ops.toList o (fun s' => ((dstIds o s').all fun m => (D.idss (o.op.operands.toList.map st.ev)).any fun n => n == m) = true ∧ sch2K P ops K s s') st
  | .only i s, st => ∃ o, ops[i]? = some o ∧ opA P ops.toList o (sch2K P ops K s) st
  | .two i j s s', st => (∃ o, ops[i]? = some o ∧ opA P ops.toList o (sch2K P ops K s) st) ∧ ∃ o, ops[j]? = some o ∧ opA P ops.toList o (sch2K P ops K s') st

theorem waitsOK_spec {ops : Array Oper} {listed : Array Bool} {i : Nat} (c4 : waitsOK ops listed i (waits ops listed i 1 (Array.replicate ops.size false)) = true) :
    ∀ j, (waits ops listed i 1 (Array.replicate ops.size false)).getD j false = true → listed.getD j true = false ∧ ∃ oj, ops[j]? = some oj ∧ ∃ e ∈ oj.after, Region.binds .any e = true ∧ (e.on = i ∨ (waits ops listed i 1 (Array.replicate ops.size false)).getD e.on false = true) := by
  intro j hj
  simp only [waitsOK, Bool.and_eq_true, List.all_eq_true, List.mem_range, beq_iff_eq] at c4
  obtain ⟨cs, ca⟩ := c4
  have hjs : j < ops.size := by
    rcases Nat.lt_or_ge j ops.size with h | h
    · exact h
    · rw [← cs] at h
      simp [Array.getElem?_eq_none h] at hj
  have := ca j hjs
  rw [hj] at this
  simp only [Bool.not_true, Bool.false_or, Bool.and_eq_true, Bool.not_eq_true'] at this
  obtain ⟨t1, t2⟩ := this
  refine ⟨t1, ?_⟩
  cases ho : ops[j]? with
  | none => rw [ho] at t2; cases t2
  | some oj =>
    rw [ho] at t2
    obtain ⟨e, he, hb⟩ := Array.any_eq_true'.1 t2
    simp only [Bool.and_eq_true, Bool.or_eq_true, beq_iff_eq] at hb
    exact ⟨oj, rfl, e, he, hb.1, hb.2⟩

theorem mem_idss {l : List D} {d : D} (hd : d ∈ l) {m : Nat} (hm : m ∈ d.ids) : m ∈ D.idss l := by
  induction l with
  | nil => cases hd
  | cons x xs ih =>
    simp only [D.idss, List.mem_append]
    rcases List.mem_cons.1 hd with rfl | hd
    · exact .inl hm
    · exact .inr (ih hd)

theorem anyA_of_sch2 {P : Program} {ops : Array Oper} {K : St → Prop} (hcl : ∀ (i : Nat) (o : Oper), ops[i]? = some o → quiet o = true ∨ loud o = true) : ∀ (s : Sch2) (f : Nat) (listed : Array Bool) (st : St), sch2OK ops f listed s = true → sch2K P ops K s st → anyA P ops K f listed st
  | .done, f, listed, st, hc, h => by
    have hr : Region.ready .any ops listed = [] := by
      cases f <;> simpa [sch2OK] using hc
    cases f with
    | zero => exact ⟨hr, h⟩
    | succ f => exact ⟨fun _ => h, by rw [hr]; simp⟩
  | .one rob i s, 0, listed, st, hc, h => by simp [sch2OK] at hc
  | .one rob i s, f + 1, listed, st, hc, h => by
    obtain ⟨o, h1, h2, h3, h4⟩ := h
    simp only [sch2OK, h1, Bool.and_eq_true] at hc
    obtain ⟨⟨⟨⟨c1, c2⟩, c3⟩, c4, c5⟩, c6⟩ := hc
    obtain ⟨d, g1, g2, g3⟩ := Gives.of c1 h2 h4
    refine anyA_first (W := fun j => (waits ops listed i 1 (Array.replicate ops.size false)).getD j false = true) (rob := rob) (d := d) h1 c1 f listed st (waitsOK_spec c4) ?_ (by simpa using c3) g1 (fun hr => ⟨h3 hr, ?_⟩) (anyA_of_sch2 hcl s f _ _ c6 g3)
    · intro j oj hj hne hun hnw
      simp only [freeOK, List.all_eq_true, List.mem_range] at c5
      have := c5 j (Array.getElem?_eq_some_iff.1 hj).1
      simp only [hj, Bool.or_eq_true, beq_iff_eq, hne, false_or, hun, Bool.false_eq_true, Bool.and_eq_true] at this
      rcases this with h | ⟨⟨h5, h6⟩, h7⟩
      · exact absurd h hnw
      · exact ⟨h5, h6, h7⟩
    · have := g2 hr
      unfold robDst at this
      cases hd : o.dst with
      | none => rw [hd] at c2; cases c2
      | some k =>
        rw [hd] at this
        simpa [St.put, upd_same] using this
  | .cal i cs s, 0, listed, st, hc, h => by simp [sch2OK] at hc
  | .cal i cs s, f + 1, listed, st, hc, h => by
    obtain ⟨o, h1, h2, h3, h4⟩ := h
    simp only [sch2OK, h1, Bool.and_eq_true] at hc
    obtain ⟨⟨⟨⟨c1, c2⟩, c3⟩, c4, c5⟩, c6⟩ := hc
    obtain ⟨d, g1, g2, g3⟩ := Gives.of c1 h2 h4
    have hd : ∀ m ∈ d.ids, m ∈ D.idss (o.op.operands.toList.map st.ev) := by
      intro m hm
      unfold dstIds at g2
      cases hdd : o.dst with
      | none => rw [hdd] at c2; cases c2
      | some k =>
        rw [hdd] at g2
        simp only [St.put, upd_same, List.all_eq_true] at g2
        have := g2 m hm
        simpa using this
    have key : ∀ j oj, ops[j]? = some oj → j ≠ i → listed.getD j true = false → ¬ (waits ops listed i 1 (Array.replicate ops.size false)).getD j false = true →
        o.apart ops oj = true ∧ (quiet oj = true ∨ (callV oj = true ∧ j ∈ cs ∧ lastOK ops listed i j oj (waits ops listed i 1 (Array.replicate ops.size false)) = true)) := by
      intro j oj hj hne hun hnw
      simp only [calmOK, List.all_eq_true, List.mem_range] at c5
      have := c5 j (Array.getElem?_eq_some_iff.1 hj).1
      simp only [hj, Bool.or_eq_true, beq_iff_eq, hne, false_or, hun, Bool.false_eq_true, Bool.and_eq_true, List.contains_iff_mem] at this
      rcases this with h | ⟨h5, h6⟩
      · exact absurd h hnw
      · exact ⟨h5, h6.imp (fun h => h) fun h => ⟨h.1.1, h.1.2, h.2⟩⟩
    refine anyA_calm (W := fun j => (waits ops listed i 1 (Array.replicate ops.size false)).getD j false = true) (d := d) h1 c1 hd f listed st (waitsOK_spec c4) ?_ ?_ (by simpa using c3) g1 ?_ (anyA_of_sch2 hcl s f _ _ c6 g3)
    · intro j oj hj hne hun hnw
      obtain ⟨k1, k2⟩ := key j oj hj hne hun hnw
      refine ⟨k1, k2.imp (fun h => h) fun h => ⟨h.1, fun m om hm hmi hmj hmu hmw k hk => ?_⟩⟩
      have := h.2.2
      simp only [lastOK, List.all_eq_true, List.mem_range] at this
      have := this m (Array.getElem?_eq_some_iff.1 hm).1
      simp only [hm, Bool.or_eq_true, beq_iff_eq, hmi, hmj, false_or, hmu, Bool.false_eq_true, List.all_eq_true] at this
      rcases this with h | h
      · exact absurd h hmw
      · have := h _ (by simpa using hk)
        simpa using this
    · intro j oj hj hne hun hnw
      rcases (key j oj hj hne hun hnw).2 with h | ⟨_, h, _⟩
      · exact .inl h
      · obtain ⟨o', e1, e2, e3, e4⟩ := calP_mem h3 j h
        rw [hj] at e1; cases e1
        refine .inr ⟨e2, fun hm => ?_, fun m hm => keptP_mem e4 m hm⟩
        simp only [List.all_eq_true] at e3
        have := e3 _ hm
        simp at this
    · intro x hx m hm
      exact mem_idss (List.mem_map.2 ⟨x, by simpa using hx, rfl⟩) hm
  | .only i s, 0, listed, st, hc, h => by simp [sch2OK] at hc
  | .only i s, f + 1, listed, st, hc, h => by
    obtain ⟨o, h1, h2⟩ := h
    simp only [sch2OK, Bool.and_eq_true, beq_iff_eq] at hc
    obtain ⟨c1, c2⟩ := hc
    refine ⟨(fun hr => by rw [c1] at hr; cases hr), fun j hj o' ho' => ?_⟩
    rw [c1] at hj
    have : j = i := by simpa using hj
    subst this
    rw [h1] at ho'; cases ho'
    exact opA_mono (fun s' hs' => anyA_of_sch2 hcl s f _ _ c2 hs') h2 (hcl _ _ h1)
  | .two i j s s', 0, listed, st, hc, h => by simp [sch2OK] at hc
  | .two i j s s', f + 1, listed, st, hc, h => by
    obtain ⟨⟨o, h1, h2⟩, o2, h3, h4⟩ := h
    simp only [sch2OK, Bool.and_eq_true, beq_iff_eq] at hc
    obtain ⟨⟨c1, c2⟩, c3⟩ := hc
    refine ⟨(fun hr => by rw [c1] at hr; cases hr), fun m hm o' ho' => ?_⟩
    rw [c1] at hm
    have : m = i ∨ m = j := by simpa using hm
    rcases this with rfl | rfl
    · rw [h1] at ho'; cases ho'
      exact opA_mono (fun s' hs' => anyA_of_sch2 hcl s f _ _ c2 hs') h2 (hcl _ _ h1)
    · rw [h3] at ho'; cases ho'
      exact opA_mono (fun s'' hs' => anyA_of_sch2 hcl s' f _ _ c3 hs') h4 (hcl _ _ h3)

def sch2I (P : Program) (s : Sch2) (st : St) [all : KL] [K : KN] : Prop := sch2K P all.l.toArray K.f s st
def keptI (id : Nat) (st : St) (l : List Nat) [K : KP] : Prop := keptP id st l ∧ K.f
def calI (I : List Nat) (st : St) (cs : List Nat) [all : KL] [K : KP] : Prop := calP all.l.toArray I st cs ∧ K.f

theorem awpI_draw2 {P : Program} {N R : KN} {X : KX} {st : St} {id : Nat} {l : List Oper} (s : Sch2) (hm : P.follows .mixedOrders = true) (hk : allKnown l = true) (hc : sch2OK l.toArray l.length (Array.replicate l.length false) s = true)
    (h : @sch2I P s st ⟨l⟩ N) : @awpI P (.region id l.toArray true) st N X R := by
  refine ⟨hm, ?_⟩
  have := anyA_of_sch2 (P := P) (K := N.f) (ops := l.toArray) (fun i o ho => ?_) s l.length _ st hc h
  · simpa using this
  · simp only [allKnown, List.all_eq_true, Bool.or_eq_true] at hk
    refine hk o (List.mem_of_getElem? (i := i) ?_)
    simpa using ho

section
variable {P : Program} {st : St} {all : KL} {K : KN} {i j : Nat} {s s' : Sch2}
theorem keptI_nil {id : Nat} {q : KP} : @keptI id st [] q = q.f := by simp [keptI, keptP]
theorem keptI_cons {id m : Nat} {l : List Nat} {q : KP} : @keptI id st (m :: l) q = @reqI (killO id (st.H m) = st.H m) ⟨@keptI id st l q⟩ := by simp [keptI, keptP, reqI, and_assoc]
theorem calI_nil {I : List Nat} {q : KP} : @calI I st [] all q = q.f := by simp [calI, calP]
theorem calI_cons {I : List Nat} {c : Nat} {cs : List Nat} {q : KP} : @calI I st (c :: cs) all q =
    @bindI _ (all.l[c]?) ⟨fun o => @reqI (plain o st = true) ⟨@reqI ((I.all fun m => !(m == dstOf o.dst)) = true) ⟨@keptI (dstOf o.dst) st I ⟨@calI I st cs all q⟩⟩⟩⟩ := by
  apply propext
  simp only [bindI, bindP_eq, reqI, calI, calP, keptI, List.getElem?_toArray]
  constructor
  · rintro ⟨⟨⟨o, h1, h2, h3, h4⟩, h5⟩, h6⟩; exact ⟨o, h1, h2, h3, h4, h5, h6⟩
  · rintro ⟨o, h1, h2, h3, h4, h5, h6⟩; exact ⟨⟨⟨o, h1, h2, h3, h4⟩, h5⟩, h6⟩
theorem sch2I_done : @sch2I P .done st all K = K.f st := (rfl)
theorem sch2I_one : @sch2I P (.one false i s) st all K = @bindI _ (all.l[i]?) ⟨fun o => @reqI (qok o st.ev = true) ⟨@op1I P o st all ⟨fun s' => @sch2I P s s' all K⟩⟩⟩ := by
  apply propext
  simp only [bindI, bindP_eq, reqI, sch2I, sch2K, ← opA_ops, Bool.false_eq_true, false_implies, true_and, List.getElem?_toArray]
theorem sch2I_rob : @sch2I P (.one true i s) st all K = @bindI _ (all.l[i]?) ⟨fun o => @reqI (qok o st.ev = true) ⟨@reqI (plain o st = true) ⟨@op1I P o st all ⟨fun s' => @reqI (robDst o s' = true) ⟨@sch2I P s s' all K⟩⟩⟩⟩⟩ := by
  apply propext
  simp only [bindI, bindP_eq, reqI, sch2I, sch2K, ← opA_ops, true_implies, List.getElem?_toArray]
theorem sch2I_cal {cs : List Nat} : @sch2I P (.cal i cs s) st all K = @bindI _ (all.l[i]?) ⟨fun o => @reqI (qok o st.ev = true) ⟨@calI (D.idss (o.op.operands.toList.map st.ev)) st cs all
    ⟨@op1I P o st all ⟨fun s' => @reqI (((dstIds o s').all fun m => (D.idss (o.op.operands.toList.map st.ev)).any fun n => n == m) = true) ⟨@sch2I P s s' all K⟩⟩⟩⟩⟩ := by
  apply propext
  simp only [bindI, bindP_eq, reqI, sch2I, sch2K, calI, ← opA_ops, List.getElem?_toArray]
theorem sch2I_only : @sch2I P (.only i s) st all K = @bindI _ (all.l[i]?) ⟨fun o => @op1I P o st all ⟨fun s' => @sch2I P s s' all K⟩⟩ := by
  apply propext
  simp only [bindI, bindP_eq, sch2I, sch2K, ← opA_ops, List.getElem?_toArray]
theorem sch2I_two (h1 : @bindI _ (all.l[i]?) ⟨fun o => @op1I P o st all ⟨fun t => @sch2I P s t all K⟩⟩) (h2 : @bindI _ (all.l[j]?) ⟨fun o => @op1I P o st all ⟨fun t => @sch2I P s' t all K⟩⟩) : @sch2I P (.two i j s s') st all K := by
  simp only [bindI, bindP_eq, ← opA_ops] at h1 h2
  simp only [sch2I, sch2K, List.getElem?_toArray]
  exact ⟨h1, h2⟩
end
theorem dstIds_some {k : Nat} {op : Op} {ty : TypeId} {pos : String} {af : Array Edge} {g : Option (Nat × Bool)} {s : St} : dstIds ⟨some k, op, ty, pos, af, g⟩ s = (s.t k).ids := (rfl)
set_option linter.defProp false in
def rules2 := And.intro (And.intro (And.intro @keptI_nil @keptI_cons) (And.intro @calI_nil @calI_cons)) (And.intro (And.intro @sch2I_done @sch2I_one) (And.intro (And.intro @sch2I_rob @sch2I_cal) (And.intro @sch2I_only (And.intro @dstIds_some (And.intro @killO_none @killO_some)))))
end Go.VL
