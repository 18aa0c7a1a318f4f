import Derived.Test.YtfmeiapglpphpaaVL19
/- Regions that draw their order: a schedule that serves. -/
namespace Go.VL
open Go Go.RowKit

inductive Sch where
  | done
  | one (rob : Bool) (i : Nat) (s : Sch)
  | only (i : Nat) (s : Sch)
  | two (i j : Nat) (s s' : Sch)

/-- Those that wait for i. -/
def waits (ops : Array Oper) (listed : Array Bool) (i : Nat) : Nat → Array Bool → Array Bool
  | 0, W => W
  | f + 1, W => waits ops listed i f ((List.range ops.size).foldl (fun W j => match ops[j]? with
    | some o => if !listed.getD j true && o.after.any (fun e => Region.binds .any e && (e.on == i || W.getD e.on false)) then W.setIfInBounds j true else W
    | none => W) W)

def waitsOK (ops : Array Oper) (listed : Array Bool) (i : Nat) (W : Array Bool) : Bool :=
  W.size == ops.size && (List.range ops.size).all fun j => !W.getD j false || (!listed.getD j true && match ops[j]? with
    | some o => o.after.any fun e => Region.binds .any e && (e.on == i || W.getD e.on false)
    | none => false)

def freeOK (ops : Array Oper) (listed : Array Bool) (rob : Bool) (i : Nat) (oi : Oper) (W : Array Bool) : Bool :=
  (List.range ops.size).all fun j => j == i || listed.getD j true || W.getD j false || match ops[j]? with
    | some o => oi.apart ops o && (quiet o || loud o) && (rob || quiet o)
    | none => true

def schOK (ops : Array Oper) : Nat → Array Bool → Sch → Bool
  | _, listed, .done => Region.ready .any ops listed == []
  | f + 1, listed, .one rob i s => match ops[i]? with
    | some o => quiet o && o.dst.isSome && (Region.ready .any ops listed).contains i && (let W := waits ops listed i 1 (Array.replicate ops.size false); waitsOK ops listed i W && freeOK ops listed rob i o W) && schOK ops f (listed.setIfInBounds i true) s
    | none => false
  | f + 1, listed, .only i s => Region.ready .any ops listed == [i] && schOK ops f (listed.setIfInBounds i true) s
  | f + 1, listed, .two i j s s' => Region.ready .any ops listed == [i, j] && schOK ops f (listed.setIfInBounds i true) s && schOK ops f (listed.setIfInBounds j true) s'
  | 0, _, _ => false

/-- What the slot that was written names. -/
def robDst (o : Oper) (s : St) : Bool := match o.dst with | some k => (s.t k).noRef | none => false

def schK (P : Program) (ops : Array Oper) (K : St → Prop) : Sch → St → Prop
  | .done, st => K st
  | .one rob i s, st => ∃ o, ops[i]? = some o ∧ qok o st.ev = true ∧ (rob = true → plain o st = true) ∧ opA P ops.toList o (fun s' => (rob = true → robDst o s' = true) ∧ schK P ops K s s') st
  | .only i s, st => ∃ o, ops[i]? = some o ∧ opA P ops.toList o (schK P ops K s) st
  | .two i j s s', st => (∃ o, ops[i]? = some o ∧ opA P ops.toList o (schK P ops K s) st) ∧ ∃ o, ops[j]? = some o ∧ opA P ops.toList o (schK P ops K s') st

theorem opA_mono {P : Program} {ops : Array Oper} {o : Oper} {K K' : St → Prop} {st : St} (hK : ∀ s, K s → K' s) (h : opA P ops.toList o K st) (hcl : quiet o = true ∨ loud o = true) : opA P ops.toList o K' st := by
  have key : aop P o K st → aop P o K' st := by
    rintro ⟨h1, h2⟩
    refine ⟨h1, ?_⟩
    rcases hcl with hq | hl
    · rw [aopx_quiet hq] at h2 ⊢
      exact qop_mono (fun x hx => hK _ hx) h2
    · refine aopx_loud (t := st.t) (t' := st.t) (n := st.n) (H := st.H) hl ?_ (fun _ _ => rfl) h2
      rintro s x ⟨τ, k1, k2, k3, k4⟩
      have : s = ⟨τ ∘ st.t, s.H, s.n⟩ := by
        obtain ⟨a, b, c⟩ := s
        simp only at k2
        rw [k2]
      rw [this]
      exact hK _ k4
  unfold opA at *
  split at h
  · exact key h
  · obtain ⟨g, g1, g2, b, g3, g4, g5⟩ := h
    exact ⟨g, g1, g2, b, g3, fun hb => key (g4 hb), fun hb => ⟨(g5 hb).1, hK _ (g5 hb).2⟩⟩

theorem anyA_of_sch {P : Program} {ops : Array Oper} {K : St → Prop} (hcl : ∀ (i : Nat) (o : Oper), ops[i]? = some o → quiet o = true ∨ loud o = true) : ∀ (s : Sch) (f : Nat) (listed : Array Bool) (st : St), schOK ops f listed s = true → schK P ops K s st → anyA P ops K f listed st
  | .done, f, listed, st, hc, h => by
    have hr : Region.ready .any ops listed = [] := by
      cases f <;> simpa [schOK] using hc
    cases f with
    | zero => exact ⟨hr, h⟩
    | succ f => exact ⟨fun _ => h, by rw [hr]; simp⟩
  | .one rob i s, 0, listed, st, hc, h => by simp [schOK] at hc
  | .one rob i s, f + 1, listed, st, hc, h => by
    obtain ⟨o, h1, h2, h3, h4⟩ := h
    simp only [schOK, h1, Bool.and_eq_true] at hc
    obtain ⟨⟨⟨⟨c1, c2⟩, c3⟩, c4, c5⟩, c6⟩ := hc
    obtain ⟨d, g1, g2, g3⟩ := Gives.of c1 h2 h4
    refine anyA_first (W := fun j => (waits ops listed i 1 (Array.replicate ops.size false)).getD j false = true) (rob := rob) (d := d) h1 c1 f listed st ?_ ?_ (by simpa using c3) g1 (fun hr => ⟨h3 hr, ?_⟩) (anyA_of_sch hcl s f _ _ c6 g3)
    · intro j hj
      simp only [waitsOK, Bool.and_eq_true, List.all_eq_true, List.mem_range, beq_iff_eq] at c4
      obtain ⟨cs, ca⟩ := c4
      have hjs : j < ops.size := by
        rcases Nat.lt_or_ge j ops.size with h | h
        · exact h
        · rw [← cs] at h
          simp [Array.getElem?_eq_none h] at hj
      have := ca j hjs
      rw [hj] at this
      simp only [Bool.not_true, Bool.false_or, Bool.and_eq_true, Bool.not_eq_true'] at this
      obtain ⟨t1, t2⟩ := this
      refine ⟨t1, ?_⟩
      cases ho : ops[j]? with
      | none => rw [ho] at t2; cases t2
      | some oj =>
        rw [ho] at t2
        obtain ⟨e, he, hb⟩ := Array.any_eq_true'.1 t2
        simp only [Bool.and_eq_true, Bool.or_eq_true, beq_iff_eq] at hb
        exact ⟨oj, rfl, e, he, hb.1, hb.2⟩
    · intro j oj hj hne hun hnw
      simp only [freeOK, List.all_eq_true, List.mem_range] at c5
      have := c5 j (Array.getElem?_eq_some_iff.1 hj).1
      simp only [hj, Bool.or_eq_true, beq_iff_eq, hne, false_or, hun, Bool.false_eq_true, Bool.and_eq_true] at this
      rcases this with h | ⟨⟨h5, h6⟩, h7⟩
      · exact absurd h hnw
      · exact ⟨h5, h6, h7⟩
    · have := g2 hr
      unfold robDst at this
      cases hd : o.dst with
      | none => rw [hd] at c2; cases c2
      | some k =>
        rw [hd] at this
        simpa [St.put, upd_same] using this
  | .only i s, 0, listed, st, hc, h => by simp [schOK] at hc
  | .only i s, f + 1, listed, st, hc, h => by
    obtain ⟨o, h1, h2⟩ := h
    simp only [schOK, Bool.and_eq_true, beq_iff_eq] at hc
    obtain ⟨c1, c2⟩ := hc
    refine ⟨(fun hr => by rw [c1] at hr; cases hr), fun j hj o' ho' => ?_⟩
    rw [c1] at hj
    have : j = i := by simpa using hj
    subst this
    rw [h1] at ho'; cases ho'
    exact opA_mono (fun s' hs' => anyA_of_sch hcl s f _ _ c2 hs') h2 (hcl _ _ h1)
  | .two i j s s', 0, listed, st, hc, h => by simp [schOK] at hc
  | .two i j s s', f + 1, listed, st, hc, h => by
    obtain ⟨⟨o, h1, h2⟩, o2, h3, h4⟩ := h
    simp only [schOK, Bool.and_eq_true, beq_iff_eq] at hc
    obtain ⟨⟨c1, c2⟩, c3⟩ := hc
    refine ⟨(fun hr => by rw [c1] at hr; cases hr), fun m hm o' ho' => ?_⟩
    rw [c1] at hm
    have : m = i ∨ m = j := by simpa using hm
    rcases this with rfl | rfl
    · rw [h1] at ho'; cases ho'
      exact opA_mono (fun s' hs' => anyA_of_sch hcl s f _ _ c2 hs') h2 (hcl _ _ h1)
    · rw [h3] at ho'; cases ho'
      exact opA_mono (fun s'' hs' => anyA_of_sch hcl s' f _ _ c3 hs') h4 (hcl _ _ h3)

def allKnown (l : List Oper) : Bool := l.all fun o => quiet o || loud o

-- the walk's rules
def op1I (P : Program) (o : Oper) (st : St) [all : KL] [K : KN] : Prop := opA P all.l o K.f st
def schI (P : Program) (s : Sch) (st : St) [all : KL] [K : KN] : Prop := schK P all.l.toArray K.f s st

theorem awpI_draw {P : Program} {N R : KN} {X : KX} {st : St} {id : Nat} {l : List Oper} (s : Sch) (hm : P.follows .mixedOrders = true) (hk : allKnown l = true) (hc : schOK l.toArray l.length (Array.replicate l.length false) s = true)
    (h : @schI P s st ⟨l⟩ N) : @awpI P (.region id l.toArray true) st N X R := by
  refine ⟨hm, ?_⟩
  have := anyA_of_sch (P := P) (K := N.f) (ops := l.toArray) (fun i o ho => ?_) s l.length _ st hc h
  · simpa using this
  · simp only [allKnown, List.all_eq_true, Bool.or_eq_true] at hk
    refine hk o (List.mem_of_getElem? (i := i) ?_)
    simpa using ho

section
variable {P : Program} {st : St} {all : KL} {K : KN} {i j : Nat} {s s' : Sch}
theorem schI_done : @schI P .done st all K = K.f st := (rfl)
theorem opA_ops {o : Oper} {K : St → Prop} : opA P all.l.toArray.toList o K st = @op1I P o st all ⟨K⟩ := (rfl)
theorem op1I_plain {dst : Option Tmp} {op : Op} {ty : TypeId} {pos : String} {af : Array Edge} :
    @op1I P ⟨dst, op, ty, pos, af, none⟩ st all K = (okDst st dst ∧ @opI P ⟨dst, op, ty, pos, af, none⟩ st ⟨fun s x => K.f (s.put dst x)⟩) := (rfl)
theorem op1I_guard {dst : Option Tmp} {op : Op} {ty : TypeId} {pos : String} {af : Array Edge} {j : Nat} {want : Bool} :
    @op1I P ⟨dst, op, ty, pos, af, some (j, want)⟩ st all K = @guardI (guardOf all.l j) st want
      ⟨okDst st dst ∧ @opI P ⟨dst, op, ty, pos, af, some (j, want)⟩ st ⟨fun s x => K.f (s.put dst x)⟩⟩ ⟨okDst st dst ∧ K.f (st.put dst (.tup []))⟩ := opA_guard
theorem schI_one : @schI P (.one false i s) st all K = @bindI _ (all.l[i]?) ⟨fun o => @reqI (qok o st.ev = true) ⟨@op1I P o st all ⟨fun s' => @schI P s s' all K⟩⟩⟩ := by
  apply propext
  simp only [bindI, bindP_eq, reqI, schI, schK, ← opA_ops, Bool.false_eq_true, false_implies, true_and, List.getElem?_toArray]
theorem schI_rob : @schI P (.one true i s) st all K = @bindI _ (all.l[i]?) ⟨fun o => @reqI (qok o st.ev = true) ⟨@reqI (plain o st = true) ⟨@op1I P o st all ⟨fun s' => @reqI (robDst o s' = true) ⟨@schI P s s' all K⟩⟩⟩⟩⟩ := by
  apply propext
  simp only [bindI, bindP_eq, reqI, schI, schK, ← opA_ops, true_implies, List.getElem?_toArray]
theorem schI_only : @schI P (.only i s) st all K = @bindI _ (all.l[i]?) ⟨fun o => @op1I P o st all ⟨fun s' => @schI P s s' all K⟩⟩ := by
  apply propext
  simp only [bindI, bindP_eq, schI, schK, ← opA_ops, List.getElem?_toArray]
theorem schI_two (h1 : @bindI _ (all.l[i]?) ⟨fun o => @op1I P o st all ⟨fun t => @schI P s t all K⟩⟩) (h2 : @bindI _ (all.l[j]?) ⟨fun o => @op1I P o st all ⟨fun t => @schI P s' t all K⟩⟩) : @schI P (.two i j s s') st all K := by
  simp only [bindI, bindP_eq, ← opA_ops] at h1 h2
  simp only [schI, schK, List.getElem?_toArray]
  exact ⟨h1, h2⟩
end

theorem opBinI_isNil {P : Program} {t : TypeId} {l : List D} {K : KD} (h : sliceT P t = true) (hk : ∀ b : Bool, (b = true → l = []) → K.f (.v (.bool b))) : @opBinI P .eql t (.lst l) (.v (.slice none 0 0)) K := ⟨h, hk⟩
theorem opBinI_notNil {P : Program} {t : TypeId} {l : List D} {K : KD} (h : sliceT P t = true) (hk : ∀ b : Bool, (b = false → l = []) → K.f (.v (.bool b))) : @opBinI P .neq t (.lst l) (.v (.slice none 0 0)) K := ⟨h, hk⟩
theorem ints_isNil {k : IntKind} {l : List Int} : (ints k l = []) = (l = []) := by cases l <;> simp [ints]
theorem rows_isNil {k : IntKind} {l : List (List Int)} : (rows k l = []) = (l = []) := by cases l <;> simp [rows]

def baseStep (o : Option Own) (e : TypeId) (S r n : Nat) : Option (Nat × List D) :=
  match o with
  | some o => if n = o.els.length ∧ o.S = S ∧ o.e = e then some (r, o.els) else none
  | none => none
theorem baseD_ref {e : TypeId} {S r n id : Nat} {st : St} : baseD e S st id (.ref r n) = baseStep (st.H r) e S r n := (rfl)
theorem baseStep_some {e e' : TypeId} {S S' r n : Nat} {els : List D} : baseStep (some ⟨e', S', els⟩) e S r n = if n = els.length ∧ S' = S ∧ e' = e then some (r, els) else none := (rfl)
def itemsStep (o : Option Own) (S n : Nat) : Option (List D) :=
  match o with
  | some o => if n ≤ o.els.length ∧ o.S = S then some (o.els.take n) else none
  | none => none
theorem itemsD_ref {S r n : Nat} {st : St} : itemsD S st (.ref r n) = itemsStep (st.H r) S n := (rfl)
theorem itemsStep_some {e' : TypeId} {S S' n : Nat} {els : List D} : itemsStep (some ⟨e', S', els⟩) S n = if n ≤ els.length ∧ S' = S then some (els.take n) else none := (rfl)

theorem width_v {x : Value} : (D.v x).width = 1 := (rfl)
theorem width_lst {l : List D} : (D.lst l).width = 1 := (rfl)
theorem width_nil0 : D.nil0.width = 1 := (rfl)
theorem width_ref {i n : Nat} : (D.ref i n).width = 1 := (rfl)
theorem width_adr {i n m : Nat} : (D.adr i n m).width = 1 := (rfl)
theorem width_ptr {d : D} : (D.ptr d).width = 1 := (rfl)
theorem width_clos {f : Fn} {l : List D} : (D.clos f l).width = 1 := (rfl)
theorem width_agg {l : List D} : (D.agg l).width = l.length := (rfl)
theorem storable_int {k : IntKind} {n : Int} : (D.v (.int k n)).storable = true := (rfl)
theorem storable_bool {b : Bool} : (D.v (.bool b)).storable = true := (rfl)
theorem storable_str {s : ByteArray} : (D.v (.string s)).storable = true := (rfl)
theorem storable_slice {a : Option Addr} {n c : Nat} : (D.v (.slice a n c)).storable = true := (rfl)
theorem storable_lst {l : List D} : (D.lst l).storable = true := (rfl)
theorem storable_nil0 : D.nil0.storable = true := (rfl)
theorem storable_ref {i n : Nat} : (D.ref i n).storable = true := (rfl)
theorem storable_adr {i n m : Nat} : (D.adr i n m).storable = true := (rfl)
theorem storable_ptr {d : D} : (D.ptr d).storable = true := (rfl)
theorem storable_clos {f : Fn} {l : List D} : (D.clos f l).storable = true := (rfl)
theorem storable_agg {l : List D} : (D.agg l).storable = true := (rfl)

theorem strOfNums_append (a b : List Int) : strOfNums a ++ strOfNums b = strOfNums (a ++ b) := by
  apply ByteArray.ext
  simp [strOfNums]
theorem binI_addn {P : Program} {t : TypeId} {K : KD} {a b : List Int} (h : a.length + b.length ≤ 4611686018427387904) : @opBinI P .add t (.v (.string (strOfNums a))) (.v (.string (strOfNums b))) K = K.f (.v (.string (strOfNums (a ++ b)))) := by
  have hs : ((((strOfNums a).size + (strOfNums b).size : Nat) : Int) ≤ IntKind.i64.max) := by
    rw [strOfNums_size, strOfNums_size]
    show _ ≤ (9223372036854775807 : Int)
    omega
  unfold opBinI opBin
  simp only [abin, if_pos hs, strOfNums_append]
end Go.VL
