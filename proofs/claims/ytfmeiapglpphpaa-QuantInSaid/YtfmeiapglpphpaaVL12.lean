import Derived.Test.YtfmeiapglpphpaaVL11
/- A function by its text. -/
namespace Go.VL
open Go Go.RowKit

def initT : Nat → List D → Nat → D
  | _, [] => fun _ => .any
  | k, d :: ds => upd (initT (k + 1) ds) k d

def St.init (args : List D) (n : Nat) : St := { t := initT 0 args, H := fun _ => none, n := n }

theorem initT_rel {ρ : Nat → Loc} {J : Nat → Prop} {w : World} : ∀ (l : List D) (vs : List Value) (k j : Nat), RelDs ρ J w l vs → k ≤ j → RelD ρ J w (initT k l j) (vs.getD (j - k) undef)
  | [], vs, k, j, _, _ => trivial
  | d :: ds, vs, k, j, h, hj => by
    obtain ⟨x, xs, rfl, h2, h3⟩ := h
    by_cases hk : j = k
    · subst hk
      simpa [initT, upd_same] using h2
    · simp only [initT, upd_ne _ _ _ _ hk]
      have := initT_rel ds xs (k + 1) j h3 (by omega)
      have e : j - k = (j - (k + 1)) + 1 := by omega
      rw [e, List.getD_cons_succ]
      exact this

theorem initT_low : ∀ (l : List D) (k j : Nat), j < k → initT k l j = .any
  | [], _, _, _ => rfl
  | d :: ds, k, j, h => by simp only [initT]; rw [upd_ne _ _ _ _ (by omega)]; exact initT_low ds (k + 1) j (by omega)

/-- A result. -/
def resD (P : Program) (st : St) : ResultVar → Option D
  | .tmp t => some (st.t t)
  | .cell a t => match st.t a with
    | .adr id i o => match st.H id with
      | some ob => match ob.els[i]? with
        | some d => if okT P t = true ∧ d.width = ob.S then partOf d o (P.cellsOf t) (aggT P t) else none
        | none => none
      | none => none
    | _ => none

def resDs (P : Program) (st : St) : List ResultVar → Option (List D)
  | [] => some []
  | r :: rs => match resD P st r with
    | some d => (resDs P st rs).map (d :: ·)
    | none => none

def pack : List D → D
  | [d] => d
  | l => .tup l

def Ret (P : Program) (fn : Func) (R : D → Prop) (st : St) : Prop :=
  ∃ rs, resDs P st fn.results.toList = some rs ∧ ∃ p, frzAll (D.idss rs) st rs = some p ∧ D.noRefs p.2 = true ∧ R (pack (D.nrms p.2))

def resSem (tmps : Array Value) : ResultVar → Sem Value
  | .tmp t => pure (tmps.getD t undef)
  | .cell a t => do loadVar t (← asAddr (tmps.getD a undef))

theorem run_resD {P : Program} {J0 : Nat → Prop} {ρ : Nat → Loc} {J : Nat → Prop} {B : Nat} {w0 : World} {st : St} {a : Act} {w : World} (hs : Sim J0 ρ J B w0 st a w) {r : ResultVar} {d : D} (h : resD P st r = some d) :
    ∃ y, (resSem a.tmps r).run P w = .ok y w ∧ RelD ρ J w d y := by
  cases r with
  | tmp t =>
    simp only [resD, Option.some.injEq] at h
    subst h
    exact ⟨_, rfl, hs.slots t⟩
  | cell ad t =>
    simp only [resD] at h
    split at h
    · rename_i id i off hd
      split at h
      · rename_i ob hob
        split at h
        · rename_i e he
          split at h
          · rename_i hc
            obtain ⟨h1, h2⟩ := hc
            have hx := hs.slots ad
            rw [hd] at hx
            obtain ⟨g, h6, h7⟩ := hx
            have ho := hs.objs id ob hob
            obtain ⟨hcap, g', cur, vs, z, h8, h9, h10, h11, h12, h13, h14, h15, h16, h17⟩ := ho.elem he
            rw [h6] at h8; cases h8
            have hS : (ρ id).S = ob.S := ho.1
            have hz := (h15 z (List.mem_of_getElem? h13)).1
            obtain ⟨y, h18, h19⟩ := run_loadPart (P := P) h1 (g := g) (b := i * ob.S) h14 (by rw [hz, h2]) h17 h
            refine ⟨y, ?_, h19⟩
            simp only [resSem, h7, asAddr, Sem.run_bind, Sem.run_pure, Result.andThen_ok, hS, h18]
          · cases h
        · cases h
      · cases h
    · cases h

theorem run_resDs {P : Program} {J0 : Nat → Prop} {ρ : Nat → Loc} {J : Nat → Prop} {B : Nat} {w0 : World} {st : St} {a : Act} {w : World} (hs : Sim J0 ρ J B w0 st a w) : ∀ (l : List ResultVar) (rs : List D), resDs P st l = some rs →
    ∃ ys, (l.mapM (resSem a.tmps)).run P w = .ok ys w ∧ RelDs ρ J w rs ys
  | [], rs, h => by simp only [resDs, Option.some.injEq] at h; subst h; exact ⟨[], by simp, rfl⟩
  | r :: l, rs, h => by
    unfold resDs at h
    split at h
    · rename_i d hd
      simp only [Option.map_eq_some_iff] at h
      obtain ⟨rs', h1, rfl⟩ := h
      obtain ⟨y, h2, h3⟩ := run_resD (P := P) hs hd
      obtain ⟨ys, h4, h5⟩ := run_resDs hs l rs' h1
      exact ⟨y :: ys, by simp only [List.mapM_cons, Sem.run_bind, h2, Result.andThen_ok, h4, Sem.run_pure], y, ys, rfl, h3, h5⟩
    · cases h

theorem results_eq (fn : Func) (tmps : Array Value) (P : Program) (w : World) {ys : List Value} (h : (fn.results.toList.mapM (resSem tmps)).run P w = .ok ys w) :
    (results fn tmps).run P w = .ok (if h : ys.toArray.size = 1 then ys.toArray[0] else .tuple ys.toArray) w := by
  have key : ∀ (F : ResultVar → Sem Value), (∀ r, F r = resSem tmps r) →
      (fn.results.mapM F >>= fun vs => pure (if h : vs.size = 1 then vs[0] else .tuple vs) : Sem Value).run P w = .ok (if h : ys.toArray.size = 1 then ys.toArray[0] else .tuple ys.toArray) w := by
    intro F hF
    obtain rfl : F = resSem tmps := funext hF
    rw [Array.mapM_eq_mapM_toList]
    simp only [Sem.run_bind, Sem.run_map, h, Result.andThen_ok, Sem.run_pure]
  exact key _ fun r => by cases r <;> rfl

mutual
def D.wf : D → Prop
  | .lst l => l.length ≤ capMax ∧ D.wfs l
  | .agg l => D.wfs l
  | .tup l => D.wfs l
  | .clos _ l => D.wfs l
  | .ptr d => d.wf
  | _ => True
def D.wfs : List D → Prop
  | [] => True
  | d :: ds => d.wf ∧ D.wfs ds
end

mutual
theorem RelP.wf {J : Nat → Prop} {w : World} : ∀ {d : D} {y : Value}, RelP J w d y → d.wf
  | .any, _, _ => trivial
  | .v _, _, _ => trivial
  | .nil0, _, _ => trivial
  | .lst l, _, h => by obtain ⟨a, c, vs, _, _, _, h4, _, h5, _⟩ := h; exact ⟨h4, RelPs.wf h5⟩
  | .ptr d, _, h => by obtain ⟨b, o, x, _, h2, _⟩ := h; exact RelP.wf (d := d) h2
  | .agg l, _, h => by obtain ⟨vs, _, h2, _⟩ := h; exact RelPs.wf h2
  | .tup l, _, h => by obtain ⟨vs, _, h2⟩ := h; exact RelPs.wf h2
  | .clos f caps, _, h => by obtain ⟨vs, _, h2⟩ := h; exact RelPs.wf h2
  | .ref _ _, _, h => h.elim
  | .adr _ _ _, _, h => h.elim
theorem RelPs.wf {J : Nat → Prop} {w : World} : ∀ {l : List D} {vs : List Value}, RelPs J w l vs → D.wfs l
  | [], _, _ => trivial
  | d :: ds, vs, h => by
    obtain ⟨x, xs, h1, h2, h3⟩ := h
    exact ⟨RelP.wf h2, RelPs.wf h3⟩
end

theorem pack_rel {J : Nat → Prop} {w : World} {l : List D} {ys : List Value} (h : RelPs J w l ys) : RelP J w (pack l) (if h : ys.toArray.size = 1 then ys.toArray[0] else .tuple ys.toArray) := by
  have hl := (RelPs_get _ _ h).1
  match l, h, hl with
  | [], h, hl =>
    have : ys = [] := h
    subst this
    exact ⟨[], rfl, rfl⟩
  | [d], h, hl =>
    obtain ⟨x, xs, rfl, h2, h3⟩ := h
    have : xs = [] := h3
    subst this
    exact h2
  | d :: e :: r, h, hl =>
    have hs : ¬ (ys.toArray.size = 1) := by simp at hl ⊢; omega
    rw [dif_neg hs]
    exact ⟨ys, rfl, h⟩

theorem Fun.of_awp {P : Program} {f : FuncId} {fn : Func} {code : Code} {args : List D} {R : D → Prop} (hf : P.funcs[f]? = some fn) (hb : fn.body = some code) (hc : callable P f = true) (hn : args.length ≤ fn.ntmps)
    (h : D.wfs args → awp P code (Ret P fn R) (fun _ _ => False) (Ret P fn R) (St.init args fn.ntmps)) : Fun P f args R := by
  refine ⟨hc, fun J0 w vs hJ hv => ?_⟩
  have hwf := RelPs.wf hv
  have hlen := (RelPs_get _ _ hv).1
  have hs : Sim J0 (fun _ => ⟨none, 0, 0⟩) J0 w.heap.size w (St.init args fn.ntmps) { tmps := vs.toArray ++ Array.replicate (fn.ntmps - vs.toArray.size) undef, defers := [] } w := by
    refine { old := fun b hb => .inl hb, own := fun id o g hi => by simp [St.init] at hi, lt := hJ, slots := fun j => ?_, objs := fun id o hi => by simp [St.init] at hi, apart := fun i j oi oj hi => by simp [St.init] at hi, size := by simp [St.init]; omega, defers := rfl, below := Below.refl _ _, base := rfl }
    have := initT_rel (ρ := fun _ => ⟨none, 0, 0⟩) (J := J0) (w := w) args vs 0 j (RelPs.toD hv) (Nat.zero_le _)
    simp only [Nat.sub_zero] at this
    show RelD _ _ _ (initT 0 args j) _
    by_cases hj : j < vs.length
    · have e : (vs.toArray ++ Array.replicate (fn.ntmps - vs.toArray.size) undef).getD j undef = vs.getD j undef := by
        simp [Array.getElem?_append, hj]
      rw [e]; exact this
    · have e : (vs.toArray ++ Array.replicate (fn.ntmps - vs.toArray.size) undef).getD j undef = undef := by
        simp [Array.getElem?_append, hj, Array.getElem?_replicate]
        split <;> rfl
      rw [e]
      have e2 : vs.getD j undef = undef := by simp [List.getD, List.getElem?_eq_none (Nat.le_of_not_lt hj)]
      rw [e2] at this
      exact this
  have hwp := awp_sound code _ _ _ _ _ J0 _ w (h hwf) hs
  refine calls_of_wp hf hb (wp_mono hwp ?_)
  rintro e a w' he
  have fin : SimE J0 w.heap.size w (Ret P fn R) a w' → a.defers = [] ∧ ∃ v, (results fn a.tmps).run P w' = .ok v w' ∧ ∃ y r, Ending.returned v = .returned y ∧ R r ∧ Below w.heap.size w w' ∧ RelP (fun b => J0 b ∨ (w.heap.size ≤ b ∧ b < w'.heap.size)) w' r y := by
    rintro ⟨st, ρ, J, ⟨rs, h1, p, h2, h3, h4⟩, hst⟩
    refine ⟨hst.defers, ?_⟩
    obtain ⟨ys, h5, h6⟩ := run_resDs (P := P) hst _ _ h1
    obtain ⟨J', h7, h8, h9, h10⟩ := frzAll_sim _ J st rs ys p hst h6 h2
    refine ⟨_, results_eq fn a.tmps P w' h5, _, _, rfl, h4, hst.below, ?_⟩
    refine RelP.mono (fun b hb => ?_) (fun _ _ => rfl) _ _ (pack_rel (RelDs.toP h9 h3).nrm)
    rcases h8.old b hb with h | h
    · exact .inl h
    · exact .inr ⟨h, h8.lt b hb⟩
  cases e with
  | normal => exact fin he
  | ret => exact fin he
  | exit id => obtain ⟨_, _, _, hf, _⟩ := he; exact hf.elim
  | goto l => exact he.elim
  | panic c => exact he.elim
  | outgrown => exact he.elim

/-- Results of which one may be owned by the caller. -/
def RetO (P : Program) (fn : Func) (R : D → Option Own → Prop) (st0 : St) : Prop :=
  ∃ st, Weak st0 st ∧ ∃ rs, resDs P st fn.results.toList = some rs ∧
    ((∃ p, frzAll (D.idss rs) st rs = some p ∧ D.noRefs p.2 = true ∧ R (pack p.2) none) ∨
     (∃ id o ids p, st.H id = some o ∧ frzAll ids st rs = some p ∧ p.1.H id = some o ∧ D.noRefs o.els = true ∧ (∀ i ∈ D.idss p.2, i = id) ∧ R (pack (D.rens 0 p.2)) (some o)))

theorem pack_relD {ρ : Nat → Loc} {J : Nat → Prop} {w : World} {l : List D} {ys : List Value} (h : RelDs ρ J w l ys) : RelD ρ J w (pack l) (if h : ys.toArray.size = 1 then ys.toArray[0] else .tuple ys.toArray) := by
  have hl := (RelDs_get _ _ h).1
  match l, h, hl with
  | [], h, hl =>
    have : ys = [] := h
    subst this
    exact ⟨[], rfl, rfl⟩
  | [d], h, hl =>
    obtain ⟨x, xs, rfl, h2, h3⟩ := h
    have : xs = [] := h3
    subst this
    exact h2
  | d :: e :: r, h, hl =>
    have hs : ¬ (ys.toArray.size = 1) := by simp at hl ⊢; omega
    rw [dif_neg hs]
    exact ⟨ys, rfl, h⟩

mutual
theorem D.ids_ren0 : ∀ (d : D) (i : Nat), i ∈ (d.ren 0).ids → i = 0
  | .any, i, h => by simp [D.ren, D.ids] at h
  | .v _, i, h => by simp [D.ren, D.ids] at h
  | .nil0, i, h => by simp [D.ren, D.ids] at h
  | .lst _, i, h => by simp [D.ren, D.ids] at h
  | .ptr _, i, h => by simp [D.ren, D.ids] at h
  | .agg l, i, h => D.idss_ren0 l i (by simpa [D.ren, D.ids] using h)
  | .tup l, i, h => D.idss_ren0 l i (by simpa [D.ren, D.ids] using h)
  | .clos _ l, i, h => D.idss_ren0 l i (by simpa [D.ren, D.ids] using h)
  | .ref _ _, i, h => by simpa [D.ren, D.ids] using h
  | .adr _ _ _, i, h => by simpa [D.ren, D.ids] using h
theorem D.idss_ren0 : ∀ (l : List D) (i : Nat), i ∈ D.idss (D.rens 0 l) → i = 0
  | [], i, h => by simp [D.rens, D.idss] at h
  | d :: ds, i, h => by
    simp only [D.rens, D.idss, List.mem_append] at h
    rcases h with h | h
    · exact D.ids_ren0 d i h
    · exact D.idss_ren0 ds i h
end

theorem pack_ids {l : List D} (h : ∀ i ∈ D.idss l, i = 0) : ∀ i ∈ (pack l).ids, i = 0 := by
  match l with
  | [] => intro i hi; simp [pack, D.ids, D.idss] at hi
  | [d] => intro i hi; exact h i (by simpa [pack, D.idss] using hi)
  | a :: b :: l => intro i hi; exact h i (by simpa [pack, D.ids] using hi)

mutual
theorem D.noRef_nrm : ∀ d : D, d.noRef = true → d.nrm.noRef = true
  | .any, _ => rfl
  | .v x, _ => by simp only [D.nrm]; split <;> rfl
  | .nil0, _ => rfl
  | .lst _, _ => rfl
  | .ptr _, _ => rfl
  | .agg l, h => D.noRefs_nrm l h
  | .tup l, h => D.noRefs_nrm l h
  | .clos _ l, h => D.noRefs_nrm l h
  | .ref _ _, h => by cases h
  | .adr _ _ _, h => by cases h
theorem D.noRefs_nrm : ∀ l : List D, D.noRefs l = true → D.noRefs (D.nrms l) = true
  | [], _ => rfl
  | d :: ds, h => by
    have h' : d.noRef = true ∧ D.noRefs ds = true := by simpa [D.noRefs] using h
    simp [D.nrms, D.noRefs, D.noRef_nrm d h'.1, D.noRefs_nrm ds h'.2]
end

theorem pack_noRef {l : List D} (h : D.noRefs l = true) : (pack l).noRef = true := by
  match l with
  | [] => rfl
  | [d] => simpa [pack, D.noRefs] using h
  | a :: b :: l => exact h

mutual
theorem D.noRef_ids : ∀ d : D, d.noRef = true → d.ids = []
  | .any, _ => rfl
  | .v _, _ => rfl
  | .nil0, _ => rfl
  | .lst _, _ => rfl
  | .ptr _, _ => rfl
  | .agg l, h => D.noRefs_ids l h
  | .tup l, h => D.noRefs_ids l h
  | .clos _ l, h => D.noRefs_ids l h
  | .ref _ _, h => by cases h
  | .adr _ _ _, h => by cases h
theorem D.noRefs_ids : ∀ l : List D, D.noRefs l = true → D.idss l = []
  | [], _ => rfl
  | d :: ds, h => by
    have h' : d.noRef = true ∧ D.noRefs ds = true := by simpa [D.noRefs] using h
    simp [D.idss, D.noRef_ids d h'.1, D.noRefs_ids ds h'.2]
end

theorem FunO.of_awp {P : Program} {f : FuncId} {fn : Func} {code : Code} {args : List D} {R : D → Option Own → Prop} (hf : P.funcs[f]? = some fn) (hb : fn.body = some code) (hc : callable P f = true) (hn : args.length ≤ fn.ntmps)
    (h : D.wfs args → awp P code (RetO P fn R) (fun _ _ => False) (RetO P fn R) (St.init args fn.ntmps)) : FunO P f args R := by
  refine ⟨hc, fun J0 w vs hJ hv => ?_⟩
  have hwf := RelPs.wf hv
  have hlen := (RelPs_get _ _ hv).1
  have hs : Sim J0 (fun _ => ⟨none, 0, 0⟩) J0 w.heap.size w (St.init args fn.ntmps) { tmps := vs.toArray ++ Array.replicate (fn.ntmps - vs.toArray.size) undef, defers := [] } w := by
    refine { old := fun b hb => .inl hb, own := fun id o g hi => by simp [St.init] at hi, lt := hJ, slots := fun j => ?_, objs := fun id o hi => by simp [St.init] at hi, apart := fun i j oi oj hi => by simp [St.init] at hi, size := by simp [St.init]; omega, defers := rfl, below := Below.refl _ _, base := rfl }
    have := initT_rel (ρ := fun _ => ⟨none, 0, 0⟩) (J := J0) (w := w) args vs 0 j (RelPs.toD hv) (Nat.zero_le _)
    simp only [Nat.sub_zero] at this
    show RelD _ _ _ (initT 0 args j) _
    by_cases hj : j < vs.length
    · have e : (vs.toArray ++ Array.replicate (fn.ntmps - vs.toArray.size) undef).getD j undef = vs.getD j undef := by
        simp [Array.getElem?_append, hj]
      rw [e]; exact this
    · have e : (vs.toArray ++ Array.replicate (fn.ntmps - vs.toArray.size) undef).getD j undef = undef := by
        simp [Array.getElem?_append, hj, Array.getElem?_replicate]
        split <;> rfl
      rw [e]
      have e2 : vs.getD j undef = undef := by simp [List.getD, List.getElem?_eq_none (Nat.le_of_not_lt hj)]
      rw [e2] at this
      exact this
  have hwp := awp_sound code _ _ _ _ _ J0 _ w (h hwf) hs
  refine calls_of_wp hf hb (wp_mono hwp ?_)
  rintro e a w' he
  have fin : SimE J0 w.heap.size w (RetO P fn R) a w' → a.defers = [] ∧ ∃ v, (results fn a.tmps).run P w' = .ok v w' ∧ ∃ y r o, Ending.returned v = .returned y ∧ R r o ∧ Below w.heap.size w w' ∧ ∃ (J' : Nat → Prop) (loc : Loc), (∀ b, J0 b → J' b) ∧ (∀ b, J' b → J0 b ∨ (w.heap.size ≤ b ∧ b < w'.heap.size)) ∧
      RelD (fun _ => loc) J' w' r y ∧ (∀ i ∈ r.ids, i = 0) ∧
      match o with
      | none => r.noRef = true
      | some o => D.noRefs o.els = true ∧ OwnAt loc J' w' o ∧ ∀ g, 0 < loc.cap → loc.a = some ⟨g, 0, none⟩ → w.heap.size ≤ g := by
    rintro ⟨st0, ρ0, J1, ⟨st, hweak, rs, h1, hcase⟩, hst0⟩
    obtain ⟨ρ, J, hst⟩ := hweak _ _ _ _ _ _ _ hst0
    refine ⟨hst.defers, ?_⟩
    obtain ⟨ys, h5, h6⟩ := run_resDs (P := P) hst _ _ h1
    rcases hcase with ⟨p, h2, h3, h4⟩ | ⟨id, o, ids, p, k1, k2, k3, k4, k5, k6⟩
    · obtain ⟨J', h7, h8, h9, h10⟩ := frzAll_sim _ J st rs ys p hst h6 h2
      refine ⟨_, results_eq fn a.tmps P w' h5, _, _, none, rfl, h4, hst.below, fun b => J0 b ∨ J' b, ⟨none, 0, 0⟩, fun b hb => .inl hb, fun b hb => ?_, ?_, ?_, ?_⟩
      · rcases hb with hb | hb
        · exact .inl hb
        · rcases h8.old b hb with h | h
          · exact .inl h
          · exact .inr ⟨h, h8.lt b hb⟩
      · exact (RelP.mono (fun b hb => .inr hb) (fun _ _ => rfl) _ _ (pack_rel (RelDs.toP h9 h3))).toD
      · rw [D.noRef_ids _ (pack_noRef h3)]; simp
      · exact pack_noRef h3
    · obtain ⟨J', h7, h8, h9, h10⟩ := frzAll_sim _ J st rs ys p hst h6 k2
      have hob := (h8.objs id o k3).own k4
      have hown := h8.own id o
      refine ⟨_, results_eq fn a.tmps P w' h5, _, _, some o, rfl, k6, hst.below, fun b => J0 b ∨ J' b, ρ id, fun b hb => .inl hb, fun b hb => ?_, RelD.mono (fun _ => rfl) (fun b hb => .inr hb) (fun _ _ => rfl) _ _ (pack_relD (RelDs.back id h9 k5)), pack_ids (D.idss_ren0 _), k4, ?_, fun g hg ha => h8.own id o g k3 hg ha⟩
      · rcases hb with hb | hb
        · exact .inl hb
        · rcases h8.old b hb with h | h
          · exact .inl h
          · exact .inr ⟨h, h8.lt b hb⟩
      · obtain ⟨g1, g2, g3, g4, g5, vs, g6, g7, g8⟩ := hob
        refine ⟨g1, g2, g3, g4, g5, vs, RelPs.mono (fun b hb => .inr hb) (fun _ _ => rfl) _ _ g6, g7, ?_⟩
        rcases g8 with g8 | ⟨c1, g, cur, c2, c3, c4⟩
        · exact .inl g8
        · refine .inr ⟨c1, g, cur, c2, ?_, c4⟩
          rintro (h | h)
          · have := hJ g h
            have := h8.own id o g k3 c1 c2
            omega
          · exact c3 h
  cases e with
  | normal => exact fin he
  | ret => exact fin he
  | exit id => obtain ⟨_, _, _, hf, _⟩ := he; exact hf.elim
  | goto l => exact he.elim
  | panic c => exact he.elim
  | outgrown => exact he.elim


theorem OwnAt.given {loc : Loc} {J : Nat → Prop} {w : World} {o : Own} (h : OwnAt loc J w o) (_hn : D.noRefs o.els = true) (hw : ∀ d ∈ o.els, d.width = o.S) :
    ∃ J' : Nat → Prop, (∀ b, J b → J' b) ∧ (∀ b, J' b → J b ∨ (loc.a = some ⟨b, 0, none⟩ ∧ 0 < loc.cap ∧ b < w.heap.size)) ∧ Given (fun _ => loc) J' w 0 (D.nrms o.els) := by
  obtain ⟨h1, h2, h3, h4, h5, vs, hP, h7, h8⟩ := h
  have hlen : (D.nrms o.els).length = o.els.length := by simp [D.nrms_eq]
  refine ⟨fun b => J b ∨ (loc.a = some ⟨b, 0, none⟩ ∧ 0 < loc.cap), fun b hb => .inl hb, fun b hb => ?_, by rw [h1]; exact h2, vs, RelPs.mono (fun b hb => .inl hb) (fun _ _ => rfl) _ _ hP.nrm, fun x hx => by rw [h1]; exact (h7 x hx).1, fun d hd => ?_, by rw [hlen]; exact h5, by rw [hlen]; exact h3, h4, ?_⟩
  · rcases hb with hb | ⟨hb, hc⟩
    · exact .inl hb
    · rcases h8 with ⟨h8, _⟩ | ⟨_, g, cur, h10, h11, h12, _⟩
      · omega
      · rw [hb] at h10
        cases h10
        exact .inr ⟨hb, hc, (Array.getElem?_eq_some_iff.1 h12).1⟩
  · rw [D.nrms_eq] at hd
    obtain ⟨d', hd', rfl⟩ := List.mem_map.1 hd
    rw [D.nrm_width, h1]; exact hw d' hd'
  · rcases h8 with ⟨h8, rfl⟩ | ⟨h9, g, cur, h10, h11, h12, h13, h14⟩
    · left
      have h0 : o.els = [] := List.eq_nil_of_length_eq_zero (by omega)
      rw [h0]; rfl
    · refine .inr ⟨g, h10, .inr ⟨h10, h9⟩, fun j u hu => ?_⟩
      have h14' : cur.toList.take (o.els.length * o.S) = flat vs := h14
      rw [cell_of_row w g _ cur o.e (0, 0) h12]
      rw [← h14', List.getElem?_take] at hu
      split at hu
      · simpa using hu
      · cases hu

/-- A contract that hands over a list to be owned gives one that hands it over to be read. -/
theorem FunO.toFun {P : Program} {f : FuncId} {args : List D} {R : D → Option Own → Prop} {R' : D → Prop} (h : FunO P f args R)
    (hR : ∀ r o, R r o → match o with | none => R' r.nrm | some o => o.els.all (fun d => d.width == o.S) = true ∧ (r.frz 0 (D.nrms o.els)).noRef = true ∧ R' (r.frz 0 (D.nrms o.els)).nrm) : Fun P f args R' := by
  refine ⟨h.1, fun J w vs hJ hv => (h.2 J w vs hJ hv).mono ?_⟩
  rintro e w' ⟨y, r, o, rfl, hr, hb, J', loc, k1, k2, k3, k4, k5⟩
  have := hR r o hr
  cases o with
  | none =>
    refine ⟨y, r.nrm, rfl, this, hb, RelP.mono (fun b hb' => ?_) (fun _ _ => rfl) _ _ (RelD.toP k3 k5).nrm⟩
    exact k2 b hb'
  | some o =>
    obtain ⟨q1, q2, q3⟩ := this
    obtain ⟨g1, g2, g3⟩ := k5
    obtain ⟨J'', j1, j2, j3⟩ := OwnAt.given g2 g1 (by simpa using q1)
    refine ⟨y, _, rfl, q3, hb, RelP.mono (fun b hb' => ?_) (fun _ _ => rfl) _ _ (RelD.toP (RelD.frozen j1 j3 _ _ k3) q2).nrm⟩
    rcases j2 b hb' with h | ⟨h, hc, hlt⟩
    · exact k2 b h
    · exact .inr ⟨g3 b hc h, hlt⟩
end Go.VL
