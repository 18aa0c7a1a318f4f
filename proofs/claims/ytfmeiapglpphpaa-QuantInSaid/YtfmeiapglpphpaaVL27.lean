import Derived.Test.YtfmeiapglpphpaaVL26
/- Regions that draw their order: a quiet operation beside calls that leave alone what it looks at. -/
namespace Go.VL
open Go Go.RowKit

mutual
theorem D.kill_ids : ∀ (d : D) (id : Nat), id ∉ d.ids → d.kill id = d
  | .any, _, _ => rfl
  | .v _, _, _ => rfl
  | .nil0, _, _ => rfl
  | .lst _, _, _ => rfl
  | .ptr _, _, _ => rfl
  | .agg l, id, h => by simp only [D.kill]; rw [D.kills_idss l id h]
  | .tup l, id, h => by simp only [D.kill]; rw [D.kills_idss l id h]
  | .clos _ l, id, h => by simp only [D.kill]; rw [D.kills_idss l id h]
  | .ref i n, id, h => by simp only [D.ids, List.mem_singleton] at h; simp only [D.kill]; rw [if_neg (fun e => h e.symm)]
  | .adr i _ _, id, h => by simp only [D.ids, List.mem_singleton] at h; simp only [D.kill]; rw [if_neg (fun e => h e.symm)]
theorem D.kills_idss : ∀ (l : List D) (id : Nat), id ∉ D.idss l → D.kills id l = l
  | [], _, _ => rfl
  | d :: ds, id, h => by
    simp only [D.idss, List.mem_append, not_or] at h
    simp only [D.kills]; rw [D.kill_ids d id h.1, D.kills_idss ds id h.2]
end

def killO (id : Nat) (o : Option Own) : Option Own := o.map fun o => { o with els := D.kills id o.els }
theorem killO_none {id : Nat} : killO id none = none := (rfl)
theorem killO_some {id : Nat} {e : TypeId} {S : Nat} {l : List D} : killO id (some ⟨e, S, l⟩) = some ⟨e, S, D.kills id l⟩ := (rfl)

/-- As Both, with what is known of the heap: the object id alone is new. -/
def BothI (id : Nat) (K : St → D → Prop) (t t' : Nat → D) (n : Nat) (H : Nat → Option Own) : St → D → Prop := fun s d =>
  ∃ τ, (∀ d : D, id ∉ d.ids → τ d = d) ∧ s.t = τ ∘ t' ∧ s.n = n ∧ (∀ m, m ≠ id → killO id (H m) = H m → s.H m = H m) ∧ K ⟨τ ∘ t, s.H, s.n⟩ d

theorem opCall_mild {P : Program} {K K' : St → D → Prop} {t t' : Nat → D} {H : Nat → Option Own} {n id : Nat} (hk : ∀ s d, BothI id K t t' n H s d → K' s d) {f : D} {args : List D}
    (hf : f.noRef = true) (ha : D.noRefs args = true) (h : opCall P f args id K ⟨t, H, n⟩) : opCall P f args id K' ⟨t', H, n⟩ := by
  have same : ∀ r, K ⟨t, H, n⟩ r → K' ⟨t', H, n⟩ r := fun r hr => hk _ _ ⟨_root_.id, fun _ _ => rfl, rfl, rfl, fun _ _ _ => rfl, hr⟩
  unfold opCall at *
  split at h
  · rename_i g caps
    obtain ⟨p, h1, h2, h3⟩ := h
    have hc : D.noRefs caps = true := hf
    have e : D.idss (args ++ caps) = [] := by
      refine D.noRefs_ids _ ?_
      rw [D.noRefs_eq] at *
      simp only [List.all_append, Bool.and_eq_true]
      exact ⟨ha, hc⟩
    rw [e] at h1 ⊢
    simp only [frzAll, Option.some.injEq] at h1
    subst h1
    refine ⟨_, rfl, h2, ?_⟩
    rcases h3 with ⟨R, h4, h5⟩ | ⟨R, h4, h5⟩
    · refine .inl ⟨R, h4, fun r hr => ?_⟩
      have := h5 r hr
      rw [ite_self] at this ⊢
      exact same _ this
    · refine .inr ⟨R, h4, fun r o hr => ?_⟩
      have := h5 r o hr
      cases o with
      | none => exact same _ this
      | some o =>
        refine hk _ _ ⟨D.kill id, fun d hd => D.kill_ids d id hd, rfl, rfl, fun m hm hkm => ?_, this⟩
        show upd _ id (some o) m = H m
        rw [upd_ne _ _ _ _ hm]
        show (if m = id then none else killO id (H m)) = H m
        rw [if_neg hm, hkm]
  · exact h.elim

theorem bothI_kill {K : St → D → Prop} {t t' : Nat → D} {H : Nat → Option Own} {n id : Nat} {d : D} {o : Own} (h : K (((⟨t, H, n⟩ : St).killed id).obj id o) d) : BothI id K t t' n H (((⟨t', H, n⟩ : St).killed id).obj id o) d := by
  refine ⟨D.kill id, fun d hd => D.kill_ids d id hd, rfl, rfl, fun m hm hkm => ?_, h⟩
  show upd _ id (some o) m = H m
  rw [upd_ne _ _ _ _ hm]
  show (if m = id then none else killO id (H m)) = H m
  rw [if_neg hm, hkm]
theorem opBox_mild {P : Program} {ty : TypeId} {K K' : St → D → Prop} {t t' : Nat → D} {H : Nat → Option Own} {n id : Nat} (hk : ∀ s d, BothI id K t t' n H s d → K' s d) {v : D} (h : opBox P ty v id K ⟨t, H, n⟩) : opBox P ty v id K' ⟨t', H, n⟩ :=
  ⟨h.1, h.2.1, h.2.2.1, hk _ _ (bothI_kill h.2.2.2)⟩
theorem opAlloc_mild {P : Program} {ty : TypeId} {K K' : St → D → Prop} {t t' : Nat → D} {H : Nat → Option Own} {n id : Nat} (hk : ∀ s d, BothI id K t t' n H s d → K' s d) (h : opAlloc P ty id K ⟨t, H, n⟩) : opAlloc P ty id K' ⟨t', H, n⟩ := by
  obtain ⟨z, h1, h2, h3, h4, h5⟩ := h
  exact ⟨z, h1, h2, h3, h4, hk _ _ (bothI_kill h5)⟩
theorem opMakeSlice_mild {P : Program} {ty : TypeId} {K K' : St → D → Prop} {t t' : Nat → D} {H : Nat → Option Own} {n id : Nat} (hk : ∀ s d, BothI id K t t' n H s d → K' s d) {l c : D} (h : opMakeSlice P ty l c id K ⟨t, H, n⟩) : opMakeSlice P ty l c id K' ⟨t', H, n⟩ := by
  unfold opMakeSlice at *
  split at h
  · obtain ⟨e, h1, h2, h3, h4, h5, h6, z, h7, h8, h9, h10⟩ := h
    exact ⟨e, h1, h2, h3, h4, h5, h6, z, h7, h8, h9, hk _ _ (bothI_kill h10)⟩
  · exact h.elim

def callV (o : Oper) : Bool :=
  match o.op with
  | .call ⟨.value _, _, _⟩ => true
  | .alloc _ => true
  | .box .. => true
  | .makeSlice .. => true
  | _ => false
theorem callV_not_quiet {o : Oper} (h : callV o = true) : quiet o = false := by
  unfold callV at h
  split at h
  · rename_i ho; simp [quiet, ho]
  · rename_i ho; simp [quiet, ho]
  · rename_i ho; simp [quiet, ho]
  · rename_i ho; simp [quiet, ho]
  · cases h

theorem aopx_mild {P : Program} {o : Oper} (hq : callV o = true) {K K' : St → D → Prop} {t t' : Nat → D} {H : Nat → Option Own} {n : Nat}
    (hp : ∀ x ∈ o.op.operands, ((⟨t, H, n⟩ : St).ev x).noRef = true) (hk : ∀ s d, BothI (dstOf o.dst) K t t' n H s d → K' s d)
    (he : ∀ x ∈ o.op.operands, (⟨t, H, n⟩ : St).ev x = (⟨t', H, n⟩ : St).ev x) (h : aopx P o K ⟨t, H, n⟩) : aopx P o K' ⟨t', H, n⟩ := by
  obtain ⟨dst, op, ty, pos, af, g⟩ := o
  cases op
  case alloc e => exact opAlloc_mild hk h
  case box e x =>
    have := he x (by simp [Op.operands])
    exact (by rw [← this]; exact opBox_mild hk h : opBox P e ((⟨t', H, n⟩ : St).ev x) (dstOf dst) K' ⟨t', H, n⟩)
  case makeSlice t1 l c =>
    have h1 := he l (by simp [Op.operands])
    have h2 := he c (by simp [Op.operands])
    exact (by rw [← h1, ← h2]; exact opMakeSlice_mild hk h : opMakeSlice P t1 ((⟨t', H, n⟩ : St).ev l) ((⟨t', H, n⟩ : St).ev c) (dstOf dst) K' ⟨t', H, n⟩)
  case call c =>
    obtain ⟨cal, args, ts⟩ := c
    cases cal
    case value f =>
      have h1 := he f (by simp [Op.operands, Call.operands])
      have h2 : args.toList.map (⟨t, H, n⟩ : St).ev = args.toList.map (⟨t', H, n⟩ : St).ev := map_ev _ fun x hx => he x (by simp [Op.operands, Call.operands]; exact .inr (by simpa using hx))
      have h3 := hp f (by simp [Op.operands, Call.operands])
      have h4 : D.noRefs (args.toList.map (⟨t, H, n⟩ : St).ev) = true := by
        rw [D.noRefs_eq, List.all_eq_true]
        intro d hd
        obtain ⟨x, hx, rfl⟩ := List.mem_map.1 hd
        exact hp x (by simp [Op.operands, Call.operands]; exact .inr (by simpa using hx))
      exact (by rw [← h1, ← h2]; exact opCall_mild hk h3 h4 h : opCall P ((⟨t', H, n⟩ : St).ev f) (args.toList.map (⟨t', H, n⟩ : St).ev) (dstOf dst) K' ⟨t', H, n⟩)
    all_goals exact absurd hq (by simp [callV])
  all_goals exact absurd hq (by simp [callV])

/-- How a state s comes of st by an operation that leaves alone what I names. -/
structure ExtI (I : List Nat) (dst : Option Tmp) (st s : St) : Prop where
  n : s.n = st.n
  keep : ∀ k, dst ≠ some k → (∀ m ∈ (st.t k).ids, m ∈ I) → s.t k = st.t k
  heap : ∀ m ∈ I, s.H m = st.H m

theorem qop_HI {P : Program} {o : Oper} {e : Operand → D} {H H' : Nat → Option Own} {k : D → Prop} (he : ∀ x ∈ o.op.operands, ∀ m ∈ (e x).ids, H' m = H m) (h : qop P o e H k) : qop P o e H' k := by
  obtain ⟨dst, op, ty, pos, af, g⟩ := o
  cases op
  case load t x =>
    have hx := he x (by simp [Op.operands])
    simp only [qop] at h ⊢
    cases hv : e x
    case adr i j n =>
      rw [hv] at h hx
      have := hx i (by simp [D.ids])
      simp only [opLoad] at h ⊢
      rw [this]; exact h
    all_goals (rw [hv] at h; exact h)
  case convert s t x =>
    have hx := he x (by simp [Op.operands])
    simp only [qop] at h ⊢
    cases hv : e x
    case ref i n =>
      rw [hv] at h hx
      have := hx i (by simp [D.ids])
      simp only [opConvert] at h ⊢
      rw [this]; exact h
    case v u => rw [hv] at h; exact opConvert_vst h
    all_goals (rw [hv] at h; exact h)
  case slice t x lo hi mx =>
    have hx := he x (by simp [Op.operands])
    simp only [qop] at h ⊢
    cases hv : e x
    case ref i n =>
      rw [hv] at h hx
      have := hx i (by simp [D.ids])
      simp only [opSlice] at h ⊢
      rw [this]; exact h
    case v u => rw [hv] at h; exact opSlice_vst h
    all_goals (rw [hv] at h; exact h)
  case indexAddr t x y =>
    have hx := he x (by simp [Op.operands])
    simp only [qop] at h ⊢
    cases hv : e x
    case ref i n =>
      rw [hv] at h hx
      have := hx i (by simp [D.ids])
      unfold opIndexAddr at h ⊢
      split at h
      · simp only at h ⊢
        rw [this]; exact h
      · exact h.elim
    all_goals (rw [hv] at h; exact h)
  case call c =>
    obtain ⟨cal, args, ts⟩ := c
    cases cal
    case builtin b => cases b <;> exact h
    all_goals exact h
  all_goals exact h

section
variable {P : Program} {ops : Array Oper}
theorem Ext.toI {I : List Nat} {dst : Option Tmp} {st s : St} (h : Ext dst true st s) : ExtI I dst st s := ⟨h.n, fun k hk _ => (h.same rfl).2 k hk, fun m _ => by rw [(h.same rfl).1]⟩

theorem opA_calm {I : List Nat} {oi oj : Oper} {K K' : St → Prop} {st : St} {d : D} (hK' : ∀ s, K (s.put oi.dst d) ∧ ExtI I oj.dst st s → K' s) (hap : oi.apart ops oj = true) (hcl : callV oj = true) (hp : plain oj st = true)
    (hI : dstOf oj.dst ∉ I) (hH : ∀ m ∈ I, killO (dstOf oj.dst) (st.H m) = st.H m) (hd : ∀ m ∈ d.ids, m ∈ I) (h : opA P ops.toList oj K (st.put oi.dst d)) : opA P ops.toList oj K' st := by
  obtain ⟨h1, h2, h3⟩ := Oper.apart_spec hap
  have hop : ∀ x ∈ oj.op.operands, (st.put oi.dst d).ev x = st.ev x := fun x hx => ev_of_t fun k hk => by
    subst hk
    exact put_t_ne fun e => h1 k e (looks_operand hx)
  have hok : okDst (st.put oi.dst d) oj.dst → okDst st oj.dst := by
    unfold okDst; rw [put_n']; exact id
  simp only [plain, List.all_eq_true] at hp
  have hmain : aop P oj K (st.put oi.dst d) → aop P oj K' st := by
    rintro ⟨ha, hb⟩
    refine ⟨hok ha, ?_⟩
    have e1 : st.put oi.dst d = ⟨(st.put oi.dst d).t, st.H, st.n⟩ := by
      conv => lhs; rw [show st.put oi.dst d = ⟨(st.put oi.dst d).t, (st.put oi.dst d).H, (st.put oi.dst d).n⟩ from rfl]
      rw [put_H', put_n']
    rw [e1] at hb
    refine aopx_mild (t' := st.t) hcl (fun x hx => ?_) ?_ (fun x hx => by
      have := hop x hx
      rw [e1] at this
      exact this) hb
    · have := hop x hx
      rw [e1] at this
      rw [this]
      exact hp x (by simpa using hx)
    rintro s x ⟨τ, k1, k2, k3, kH, k4⟩
    have hτd : τ d = d := k1 d fun hm => hI (hd _ hm)
    refine hK' _ ⟨?_, by rw [put_n', k3], fun k hk hn => ?_, fun m hm => ?_⟩
    · have e3 : (s.put oj.dst x).put oi.dst d = (⟨τ ∘ (st.put oi.dst d).t, s.H, s.n⟩ : St).put oj.dst x := by
        rw [put_comm fun e he h' => h2 e h' he]
        congr 1
        cases hdi : oi.dst with
        | none =>
          obtain ⟨s1, s2, s3⟩ := s
          simp only [St.put] at k2 ⊢
          rw [k2]
        | some i =>
          simp only [St.put]
          congr 1
          rw [k2]
          funext k
          by_cases hk : k = i
          · subst hk; simp [upd_same, hτd]
          · simp [upd_ne _ _ _ _ hk]
      rw [e3]; exact k4
    · rw [put_t_ne hk, k2]
      exact k1 _ fun hm => hI (hn _ hm)
    · rw [put_H']
      exact kH m (fun e => hI (e ▸ hm)) (hH m hm)
  unfold opA at h ⊢
  split at h
  · exact hmain h
  · rename_i g want hg
    obtain ⟨dg, g1, g2, b, g3, g4, g5⟩ := h
    refine ⟨dg, g1, by rw [put_n'] at g2; exact g2, b, ?_, fun hb => hmain (g4 hb), fun hb => ?_⟩
    · rw [put_t_ne fun e => h1 dg e (looks_guard hg g1)] at g3; exact g3
    · obtain ⟨g6, g7⟩ := g5 hb
      exact ⟨hok g6, hK' _ ⟨by rw [put_comm fun e he h' => h2 e h' he]; exact g7, put_n', fun k hk _ => put_t_ne hk, fun _ _ => by rw [put_H']⟩⟩

theorem Gives.extI {I : List Nat} {oi oj : Oper} {d : D} {st s : St} (hap : oi.apart ops oj = true) (hr : ∀ x ∈ oi.op.operands, ∀ m ∈ (st.ev x).ids, m ∈ I) (he : ExtI I oj.dst st s) (h : Gives P ops oi d st) :
    Gives P ops oi d s ∧ ∀ x ∈ oi.op.operands, st.ev x = s.ev x := by
  obtain ⟨a1, a2, a3⟩ := Oper.apart_spec hap
  obtain ⟨h1, h2⟩ := h
  have hev : ∀ x ∈ oi.op.operands, st.ev x = s.ev x := fun x hx => ev_of_t fun k hk => by
    subst hk
    exact (he.keep k (fun e => a3 k e (looks_operand hx)) (hr _ hx)).symm
  have hq : qop P oi st.ev st.H (· = d) → qop P oi s.ev s.H (· = d) := fun hx =>
    qop_HI (fun x hx m hm => he.heap m (hr x hx m (by rw [hev x hx]; exact hm))) (qop_ev hev hx)
  refine ⟨⟨by unfold okDst at *; rw [he.n]; exact h1, ?_⟩, hev⟩
  split
  · rename_i hg
    rw [hg] at h2
    exact hq h2
  · rename_i j want hg
    rw [hg] at h2
    obtain ⟨g, g1, g2, b, g3, g4, g5⟩ := h2
    refine ⟨g, g1, by rw [he.n]; exact g2, b, ?_, fun hb => hq (g4 hb), g5⟩
    have hne : oj.dst ≠ some g := fun e => a3 g e (looks_guard hg g1)
    rw [he.keep g hne (by rw [D.noRef_ids _ g3.noRef]; simp)]
    exact g3

/-- **A quiet operation that may come up now may be taken first**, beside calls that leave alone what it looks at. -/
theorem anyA_calm {i : Nat} {oi : Oper} {d : D} {K : St → Prop} {I : List Nat} {W : Nat → Prop} (hi : ops[i]? = some oi) (hq : quiet oi = true) (hd : ∀ m ∈ d.ids, m ∈ I) :
    ∀ (fuel : Nat) (listed : Array Bool) (st : St),
      (∀ j, W j → listed.getD j true = false ∧ ∃ oj, ops[j]? = some oj ∧ ∃ e ∈ oj.after, Region.binds .any e = true ∧ (e.on = i ∨ W e.on)) →
      (∀ j oj, ops[j]? = some oj → j ≠ i → listed.getD j true = false → ¬ W j → oi.apart ops oj = true ∧ (quiet oj = true ∨ (callV oj = true ∧
        ∀ m om, ops[m]? = some om → m ≠ i → m ≠ j → listed.getD m true = false → ¬ W m → ∀ k, Operand.tmp k ∈ oj.op.operands → om.dst ≠ some k))) →
      (∀ j oj, ops[j]? = some oj → j ≠ i → listed.getD j true = false → ¬ W j → quiet oj = true ∨ (plain oj st = true ∧ dstOf oj.dst ∉ I ∧ ∀ m ∈ I, killO (dstOf oj.dst) (st.H m) = st.H m)) →
      i ∈ Region.ready .any ops listed → Gives P ops oi d st → (∀ x ∈ oi.op.operands, ∀ m ∈ (st.ev x).ids, m ∈ I) →
      anyA P ops K fuel (listed.setIfInBounds i true) (st.put oi.dst d) → anyA P ops K (fuel + 1) listed st := by
  intro fuel
  induction fuel with
  | zero =>
    intro listed st _ _ _ hr hy _ H
    refine ⟨fun h => (by rw [h] at hr; cases hr), fun j hj o ho => ?_⟩
    by_cases hji : j = i
    · subst hji
      rw [hi] at ho; cases ho
      exact hy.use hq H
    · have := ready_mono hj hji
      rw [H.1] at this
      cases this
  | succ fuel ih =>
    intro listed st hW hfree hcall hr hy hops H
    refine ⟨fun h => (by rw [h] at hr; cases hr), fun j hj o ho => ?_⟩
    by_cases hji : j = i
    · subst hji
      rw [hi] at ho; cases ho
      exact hy.use hq H
    · have h1 := H.2 j (ready_mono hj hji) o ho
      obtain ⟨hjun, oj, hoj, hall⟩ := mem_ready.1 hj
      rw [ho] at hoj; cases hoj
      have hin : ∀ m, listed.getD m true = false → listed.getD m false = true → False := fun m h h' => by
        rcases Nat.lt_or_ge m listed.size with h2 | h2
        · simp [h2] at h h'; rw [h] at h'; cases h'
        · simp [Array.getElem?_eq_none h2] at h
      have hnW : ¬ W j := fun hw => by
        obtain ⟨_, o', ho', e, he, hb, hon⟩ := hW j hw
        rw [ho] at ho'; cases ho'
        have hl := hall e he hb
        rcases hon with rfl | hon
        · exact hin _ (mem_ready.1 hr).1 hl
        · exact hin _ (hW _ hon).1 hl
      obtain ⟨f1, f2⟩ := hfree j o ho hji hjun hnW
      have hun' : ∀ m, (listed.setIfInBounds j true).getD m true = false → j ≠ m ∧ listed.getD m true = false := fun m hun => by
        have hne : j ≠ m := fun e => by
          subst e
          have hlt : j < listed.size := by
            rcases Nat.lt_or_ge j listed.size with h' | h'
            · exact h'
            · simp [Array.getElem?_eq_none h'] at hjun
          simp [hlt] at hun
        exact ⟨hne, by rw [getD_set_ne true hne] at hun; exact hun⟩
      have hkey : ∀ s, (anyA P ops K fuel ((listed.setIfInBounds i true).setIfInBounds j true) (s.put oi.dst d) ∧ ExtI I o.dst st s) → anyA P ops K (fuel + 1) (listed.setIfInBounds j true) s := by
        rintro s ⟨k1, k2⟩
        obtain ⟨y1, y2⟩ := hy.extI f1 hops k2
        refine ih (listed.setIfInBounds j true) s (fun m hm => ?_) (fun m om hm hmi hun hnw => ?_) (fun m om hm hmi hun hnw => ?_) (ready_mono hr (Ne.symm hji)) y1 (fun x hx => by rw [← y2 x hx]; exact hops x hx) ?_
        · obtain ⟨g1, g2⟩ := hW m hm
          have hne : j ≠ m := fun e => hnW (e ▸ hm)
          exact ⟨by rw [getD_set_ne true hne]; exact g1, g2⟩
        · obtain ⟨_, hu⟩ := hun' m hun
          obtain ⟨g1, g2⟩ := hfree m om hm hmi hu hnw
          exact ⟨g1, g2.imp (fun h => h) fun h => ⟨h.1, fun m' om' hm' hmi' hne' hu' hnw' => h.2 m' om' hm' hmi' hne' (hun' m' hu').2 hnw'⟩⟩
        · obtain ⟨hne, hu⟩ := hun' m hun
          rcases hcall m om hm hmi hu hnw with h | ⟨c1, c2, c3⟩
          · exact .inl h
          · rcases (hfree m om hm hmi hu hnw).2 with h | ⟨q1, q2⟩
            · exact .inl h
            · refine .inr ⟨?_, c2, fun m' hm' => by rw [k2.heap m' hm']; exact c3 m' hm'⟩
              simp only [plain, List.all_eq_true] at c1 ⊢
              intro x hx
              have hn := c1 x hx
              rw [← ev_of_t (s := st) (s' := s) (x := x) fun k hk => ?_]
              · exact hn
              · subst hk
                refine (k2.keep k (q2 j o ho hji hne hjun hnW k (by simpa using hx)) ?_).symm
                have := D.noRef_ids _ hn
                have e : (st.t k).ids = [] := this
                rw [e]; simp
        · rw [Array.setIfInBounds_comm _ _ hji]; exact k1
      rcases f2 with hqj | ⟨hcj, _⟩
      · exact opA_swap (fun s hs => hkey s ⟨hs.1, by have := hs.2; rw [hqj] at this; exact this.toI⟩) f1 (.inl hqj) (.inr hqj) h1
      · rcases hcall j o ho hji hjun hnW with h | ⟨c1, c2, c3⟩
        · rw [callV_not_quiet hcj] at h; cases h
        · exact opA_calm hkey f1 hcj c1 c2 c3 hd h1
end
end Go.VL
