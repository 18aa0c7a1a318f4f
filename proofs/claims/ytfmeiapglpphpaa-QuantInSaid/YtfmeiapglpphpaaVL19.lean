import Derived.Test.YtfmeiapglpphpaaVL18
/- Regions that draw their order: what may be taken first. -/
namespace Go.VL
open Go Go.RowKit

theorem nilAsk_mono {P : Program} {op : BinOp} {t : TypeId} {x y : D} {k k' : D → Prop} (hk : ∀ d, k d → k' d) (h : nilAsk P op t x y k) : nilAsk P op t x y k' := by
  unfold nilAsk at *
  split at h
  · exact ⟨h.1, hk _ h.2⟩
  · exact ⟨h.1, hk _ h.2⟩
  · exact ⟨h.1, fun b hb => hk _ (h.2 b hb)⟩
  · exact ⟨h.1, fun b hb => hk _ (h.2 b hb)⟩
  · exact h.elim
theorem opBin_mono {P : Program} {op : BinOp} {t : TypeId} {x y : D} {k k' : D → Prop} (hk : ∀ d, k d → k' d) (h : opBin P op t x y k) : opBin P op t x y k' := by
  unfold opBin at *
  split at h
  · rename_i a b
    cases hab : abin P op t a b with
    | some r => simp only [hab] at h ⊢; exact hk _ h
    | none => simp only [hab] at h ⊢; exact nilAsk_mono hk h
  · exact nilAsk_mono hk h
theorem qop_mono {P : Program} {o : Oper} {e : Operand → D} {H : Nat → Option Own} {k k' : D → Prop} (hk : ∀ d, k d → k' d) (h : qop P o e H k) : qop P o e H k' := by
  by_cases hb : ∃ op t x y u, o.op = .binOp op t x y u
  · obtain ⟨op, t, x, y, u, ho⟩ := hb
    simp only [qop, ho] at h ⊢
    exact opBin_mono hk h
  · have hq : qok o e = true := by
      unfold qok
      split
      · rename_i ho; exact absurd ⟨_, _, _, _, _, ho⟩ hb
      · rfl
    obtain ⟨d, h1, h2⟩ := qop_det hq h
    exact h2 k' (hk d h1)

/-- Operations that may turn what is owned. -/
def loud (o : Oper) : Bool :=
  match o.op with
  | .alloc _ => true
  | .box .. => true
  | .buildSlice .. => true
  | .makeSlice .. => true
  | .store .. => true
  | .call ⟨.value _, _, _⟩ => true
  | .call ⟨.builtin .append, args, ts⟩ => args.size == 2 && ts.size == 2
  | _ => false

theorem aopx_loud {P : Program} {o : Oper} (hq : loud o = true) {K K' : St → D → Prop} {t t' : Nat → D} {H : Nat → Option Own} {n : Nat} (hk : ∀ s d, Both K t t' n s d → K' s d) (he : ∀ x ∈ o.op.operands, (⟨t, H, n⟩ : St).ev x = (⟨t', H, n⟩ : St).ev x)
    (h : aopx P o K ⟨t, H, n⟩) : aopx P o K' ⟨t', H, n⟩ := by
  obtain ⟨dst, op, ty, pos, af, g⟩ := o
  cases op
  case alloc e => exact opAlloc_both hk h
  case box e x =>
    have := he x (by simp [Op.operands])
    exact (by rw [← this]; exact opBox_both hk h : opBox P e ((⟨t', H, n⟩ : St).ev x) (dstOf dst) K' ⟨t', H, n⟩)
  case buildSlice t1 len ps =>
    have hps : (ps.toList.map fun p => (p.1, (⟨t, H, n⟩ : St).ev p.2)) = ps.toList.map fun p => (p.1, (⟨t', H, n⟩ : St).ev p.2) :=
      List.map_congr_left fun p hp => by rw [he p.2 (by simp [Op.operands]; exact ⟨p.1, by simpa using hp⟩)]
    exact (by rw [← hps]; exact opBuildSlice_both hk h : opBuildSlice P t1 len (ps.toList.map fun p => (p.1, (⟨t', H, n⟩ : St).ev p.2)) (dstOf dst) K' ⟨t', H, n⟩)
  case makeSlice t1 l c =>
    have h1 := he l (by simp [Op.operands])
    have h2 := he c (by simp [Op.operands])
    exact (by rw [← h1, ← h2]; exact opMakeSlice_both hk h : opMakeSlice P t1 ((⟨t', H, n⟩ : St).ev l) ((⟨t', H, n⟩ : St).ev c) (dstOf dst) K' ⟨t', H, n⟩)
  case store t1 l c =>
    have h1 := he l (by simp [Op.operands])
    have h2 := he c (by simp [Op.operands])
    exact (by rw [← h1, ← h2]; exact opStore_both hk h : opStore P t1 ((⟨t', H, n⟩ : St).ev l) ((⟨t', H, n⟩ : St).ev c) (fun s => K' s .any) ⟨t', H, n⟩)
  case call c =>
    obtain ⟨cal, args, ts⟩ := c
    cases cal
    case value f =>
      have h1 := he f (by simp [Op.operands, Call.operands])
      have h2 : args.toList.map (⟨t, H, n⟩ : St).ev = args.toList.map (⟨t', H, n⟩ : St).ev := map_ev _ fun x hx => he x (by simp [Op.operands, Call.operands]; exact .inr (by simpa using hx))
      exact (by rw [← h1, ← h2]; exact opCall_both hk h : opCall P ((⟨t', H, n⟩ : St).ev f) (args.toList.map (⟨t', H, n⟩ : St).ev) (dstOf dst) K' ⟨t', H, n⟩)
    case builtin b =>
      cases b
      case append =>
        simp only [loud, Bool.and_eq_true, beq_iff_eq] at hq
        obtain ⟨l⟩ := args
        obtain ⟨l'⟩ := ts
        match l, l', hq, h, he with
        | [x, y], [t1, t2], _, h, he =>
          have h1 := he x (by simp [Op.operands, Call.operands])
          have h2 := he y (by simp [Op.operands, Call.operands])
          have h' : t1 = t2 ∧ opAppend P t1 ((⟨t, H, n⟩ : St).ev x) ((⟨t, H, n⟩ : St).ev y) (dstOf dst) K ⟨t, H, n⟩ := h
          rw [h1, h2] at h'
          exact (⟨h'.1, opAppend_both hk h'.2⟩ : t1 = t2 ∧ opAppend P t1 ((⟨t', H, n⟩ : St).ev x) ((⟨t', H, n⟩ : St).ev y) (dstOf dst) K' ⟨t', H, n⟩)
      all_goals exact absurd hq (by simp [loud])
    all_goals exact absurd hq (by simp [loud])
  all_goals exact absurd hq (by simp [loud])

/-- How a state s comes of st by an operation that writes dst. -/
structure Ext (dst : Option Tmp) (q : Bool) (st s : St) : Prop where
  n : s.n = st.n
  keep : ∀ k, dst ≠ some k → (st.t k).noRef = true → s.t k = st.t k
  same : q = true → s.H = st.H ∧ ∀ k, dst ≠ some k → s.t k = st.t k

theorem put_t_ne {st : St} {dst : Option Tmp} {x : D} {k : Nat} (h : dst ≠ some k) : (st.put dst x).t k = st.t k := by
  cases dst with
  | none => rfl
  | some d => exact upd_ne _ _ _ _ (fun e => h (by rw [e]))
theorem put_H' {st : St} {dst : Option Tmp} {x : D} : (st.put dst x).H = st.H := by cases dst <;> rfl
theorem put_n' {st : St} {dst : Option Tmp} {x : D} : (st.put dst x).n = st.n := by cases dst <;> rfl
theorem put_comm {st : St} {a b : Option Tmp} {x y : D} (h : ∀ d, a = some d → b ≠ some d) : (st.put a x).put b y = (st.put b y).put a x := by
  cases a with
  | none => rfl
  | some i =>
    cases b with
    | none => rfl
    | some j =>
      have hne : j ≠ i := fun e => h i rfl (by rw [e])
      simp only [St.put]
      congr 1
      funext k
      by_cases hi : k = i
      · subst hi; rw [upd_ne _ _ _ _ (Ne.symm hne), upd_same, upd_same]
      · by_cases hj : k = j
        · subst hj; rw [upd_same, upd_ne _ _ _ _ hne, upd_same]
        · rw [upd_ne _ _ _ _ hj, upd_ne _ _ _ _ hi, upd_ne _ _ _ _ hi, upd_ne _ _ _ _ hj]

theorem ev_of_t {s s' : St} {x : Operand} (h : ∀ k, x = .tmp k → s.t k = s'.t k) : s.ev x = s'.ev x := by
  cases x with
  | tmp k => exact h k rfl
  | _ => rfl

section
variable {P : Program} {ops : Array Oper}

theorem looks_operand {o : Oper} {k : Tmp} (h : Operand.tmp k ∈ o.op.operands) : k ∈ o.looksAt ops :=
  List.mem_append_left _ (List.mem_filterMap.2 ⟨.tmp k, by simpa using h, rfl⟩)
theorem looks_guard {o : Oper} {g : Nat} {want : Bool} {d : Tmp} (hg : o.guard = some (g, want)) (h : guardOf ops.toList g = some d) : d ∈ o.looksAt ops := by
  refine List.mem_append_right _ ?_
  rw [hg]
  have h' : (ops[g]?).bind (·.dst) = some d := by simpa [guardOf] using h
  simp [h']

/-- An operation that another has nothing to do with: the other's slot may be written first. -/
theorem opA_swap {oi oj : Oper} {K K' : St → Prop} {st : St} {d : D} (hK' : ∀ s, K (s.put oi.dst d) ∧ Ext oj.dst (quiet oj) st s → K' s) (hap : oi.apart ops oj = true) (hcl : quiet oj = true ∨ loud oj = true) (hd : d.noRef = true ∨ quiet oj = true)
    (h : opA P ops.toList oj K (st.put oi.dst d)) : opA P ops.toList oj K' st := by
  obtain ⟨h1, h2, h3⟩ := Oper.apart_spec hap
  have hop : ∀ x ∈ oj.op.operands, (st.put oi.dst d).ev x = st.ev x := fun x hx => ev_of_t fun k hk => by
    subst hk
    exact put_t_ne fun e => h1 k e (looks_operand hx)
  have hok : okDst (st.put oi.dst d) oj.dst → okDst st oj.dst := by
    unfold okDst; rw [put_n']; exact id
  have hmain : aop P oj K (st.put oi.dst d) → aop P oj K' st := by
    rintro ⟨ha, hb⟩
    refine ⟨hok ha, ?_⟩
    by_cases hq : quiet oj = true
    · rw [aopx_quiet hq] at hb ⊢
      rw [put_H'] at hb
      refine qop_mono (fun x hx => ?_) (qop_ev hop hb)
      refine hK' _ ⟨by rw [put_comm fun e he h' => h2 e h' he]; exact hx, ?_⟩
      exact ⟨put_n', fun k hk _ => put_t_ne hk, fun _ => ⟨put_H', fun k hk => put_t_ne hk⟩⟩
    · have hl := hcl.resolve_left hq
      have hnd := hd.resolve_right hq
      have e1 : st.put oi.dst d = ⟨(st.put oi.dst d).t, st.H, st.n⟩ := by
        conv => lhs; rw [show st.put oi.dst d = ⟨(st.put oi.dst d).t, (st.put oi.dst d).H, (st.put oi.dst d).n⟩ from rfl]
        rw [put_H', put_n']
      rw [e1] at hb
      refine aopx_loud (t' := st.t) hl ?_ (fun x hx => by
        have := hop x hx
        rw [e1] at this
        exact this) hb
      rintro s x ⟨τ, k1, k2, k3, k4⟩
      have e2 : s.put oj.dst x = ⟨(s.put oj.dst x).t, s.H, st.n⟩ := by
        conv => lhs; rw [show s.put oj.dst x = ⟨(s.put oj.dst x).t, (s.put oj.dst x).H, (s.put oj.dst x).n⟩ from rfl]
        rw [put_H', put_n', k3]
      refine hK' _ ⟨?_, by rw [put_n', k3], fun k hk hn => ?_, fun h => absurd h hq⟩
      · have e3 : (s.put oj.dst x).put oi.dst d = (⟨τ ∘ (st.put oi.dst d).t, s.H, s.n⟩ : St).put oj.dst x := by
          rw [put_comm fun e he h' => h2 e h' he]
          congr 1
          cases hdi : oi.dst with
          | none =>
            obtain ⟨s1, s2, s3⟩ := s
            simp only [St.put] at k2 ⊢
            rw [k2]
          | some i =>
            simp only [St.put]
            congr 1
            rw [k2]
            funext k
            by_cases hk : k = i
            · subst hk; simp [upd_same, k1 d hnd]
            · simp [upd_ne _ _ _ _ hk]
        rw [e3]; exact k4
      · rw [put_t_ne hk, k2]
        exact k1 _ hn
  unfold opA at h ⊢
  split at h
  · exact hmain h
  · rename_i g want hg
    obtain ⟨dg, g1, g2, b, g3, g4, g5⟩ := h
    refine ⟨dg, g1, by rw [put_n'] at g2; exact g2, b, ?_, fun hb => hmain (g4 hb), fun hb => ?_⟩
    · rw [put_t_ne fun e => h1 dg e (looks_guard hg g1)] at g3; exact g3
    · obtain ⟨g6, g7⟩ := g5 hb
      exact ⟨hok g6, hK' _ ⟨by rw [put_comm fun e he h' => h2 e h' he]; exact g7, put_n', fun k hk _ => put_t_ne hk, fun _ => ⟨put_H', fun k hk => put_t_ne hk⟩⟩⟩

/-- In this state a quiet operation leaves d. -/
def Gives (P : Program) (ops : Array Oper) (o : Oper) (d : D) (st : St) : Prop :=
  okDst st o.dst ∧ match o.guard with
  | none => qop P o st.ev st.H (· = d)
  | some (j, want) => ∃ g, guardOf ops.toList j = some g ∧ g < st.n ∧ ∃ b, gB want (st.t g) b ∧ (b = want → qop P o st.ev st.H (· = d)) ∧ (b ≠ want → d = .tup [])

theorem Gives.use {o : Oper} {d : D} {st : St} {K : St → Prop} (hq : quiet o = true) (h : Gives P ops o d st) (hK : K (st.put o.dst d)) : opA P ops.toList o K st := by
  obtain ⟨h1, h2⟩ := h
  have key : qop P o st.ev st.H (· = d) → aop P o K st := fun hx => ⟨h1, by rw [aopx_quiet hq]; exact qop_mono (fun x hx => by subst hx; exact hK) hx⟩
  unfold opA
  split
  · rename_i hg
    rw [hg] at h2
    exact key h2
  · rename_i j want hg
    rw [hg] at h2
    obtain ⟨g, g1, g2, b, g3, g4, g5⟩ := h2
    exact ⟨g, g1, g2, b, g3, fun hb => key (g4 hb), fun hb => ⟨h1, by rw [← g5 hb]; exact hK⟩⟩

theorem Gives.of {o : Oper} {st : St} {K : St → Prop} (hq : quiet o = true) (hn : qok o st.ev = true) (h : opA P ops.toList o K st) : ∃ d, Gives P ops o d st ∧ K (st.put o.dst d) := by
  have key : aop P o K st → ∃ d, okDst st o.dst ∧ qop P o st.ev st.H (· = d) ∧ K (st.put o.dst d) := by
    rintro ⟨h1, h2⟩
    rw [aopx_quiet hq] at h2
    obtain ⟨d, h3, h4⟩ := qop_det hn h2
    exact ⟨d, h1, h4 _ rfl, h3⟩
  unfold opA at h
  split at h
  · rename_i hg
    obtain ⟨d, h1, h2, h3⟩ := key h
    exact ⟨d, ⟨h1, by rw [hg]; exact h2⟩, h3⟩
  · rename_i j want hg
    obtain ⟨g, g1, g2, b, g3, g4, g5⟩ := h
    by_cases hb : b = want
    · obtain ⟨d, h1, h2, h3⟩ := key (g4 hb)
      exact ⟨d, ⟨h1, by rw [hg]; exact ⟨g, g1, g2, b, g3, fun _ => h2, fun h => absurd hb h⟩⟩, h3⟩
    · obtain ⟨h1, h2⟩ := g5 hb
      exact ⟨.tup [], ⟨h1, by rw [hg]; exact ⟨g, g1, g2, b, g3, fun h => absurd h hb, fun _ => rfl⟩⟩, h2⟩

/-- All that it looks at names nothing owned. -/
def plain (o : Oper) (st : St) : Bool := o.op.operands.toList.all fun x => (st.ev x).noRef

theorem Gives.ext {oi oj : Oper} {d : D} {st s : St} (hap : oi.apart ops oj = true) (hr : plain oi st = true ∨ quiet oj = true) (he : Ext oj.dst (quiet oj) st s) (h : Gives P ops oi d st) : Gives P ops oi d s := by
  obtain ⟨a1, a2, a3⟩ := Oper.apart_spec hap
  obtain ⟨h1, h2⟩ := h
  have hev : ∀ x ∈ oi.op.operands, st.ev x = s.ev x := fun x hx => ev_of_t fun k hk => by
    subst hk
    have hne : oj.dst ≠ some k := fun e => a3 k e (looks_operand hx)
    rcases hr with hr | hr
    · have : (st.ev (.tmp k)).noRef = true := by
        simp only [plain, List.all_eq_true] at hr
        exact hr _ (by simpa using hx)
      exact (he.keep k hne this).symm
    · exact ((he.same hr).2 k hne).symm
  have hq : qop P oi st.ev st.H (· = d) → qop P oi s.ev s.H (· = d) := fun hx => by
    rcases hr with hr | hr
    · have hpl : ∀ x ∈ oi.op.operands, (s.ev x).noRef = true := fun x hx => by
        rw [← hev x hx]
        simp only [plain, List.all_eq_true] at hr
        exact hr _ (by simpa using hx)
      exact qop_H hpl (qop_ev hev hx)
    · rw [(he.same hr).1]
      exact qop_ev hev hx
  refine ⟨by unfold okDst at *; rw [he.n]; exact h1, ?_⟩
  split
  · rename_i hg
    rw [hg] at h2
    exact hq h2
  · rename_i j want hg
    rw [hg] at h2
    obtain ⟨g, g1, g2, b, g3, g4, g5⟩ := h2
    refine ⟨g, g1, by rw [he.n]; exact g2, b, ?_, fun hb => hq (g4 hb), g5⟩
    have hne : oj.dst ≠ some g := fun e => a3 g e (looks_guard hg g1)
    rw [he.keep g hne g3.noRef]
    exact g3

theorem plain_ext {oi oj : Oper} {st s : St} (hap : oi.apart ops oj = true) (he : Ext oj.dst (quiet oj) st s) (h : plain oi st = true) : plain oi s = true := by
  obtain ⟨a1, a2, a3⟩ := Oper.apart_spec hap
  simp only [plain, List.all_eq_true] at *
  intro x hx
  have := h x hx
  rw [← ev_of_t (s := st) (s' := s) (x := x) fun k hk => ?_]
  · exact this
  · subst hk
    exact (he.keep k (fun e => a3 k e (looks_operand (by simpa using hx))) this).symm

/-- **A quiet operation that may come up now may be taken first.** W: those that wait for it. -/
theorem anyA_first {i : Nat} {oi : Oper} {d : D} {K : St → Prop} {rob : Bool} {W : Nat → Prop} (hi : ops[i]? = some oi) (hq : quiet oi = true) :
    ∀ (fuel : Nat) (listed : Array Bool) (st : St),
      (∀ j, W j → listed.getD j true = false ∧ ∃ oj, ops[j]? = some oj ∧ ∃ e ∈ oj.after, Region.binds .any e = true ∧ (e.on = i ∨ W e.on)) →
      (∀ j oj, ops[j]? = some oj → j ≠ i → listed.getD j true = false → ¬ W j → oi.apart ops oj = true ∧ (quiet oj = true ∨ loud oj = true) ∧ (rob = true ∨ quiet oj = true)) →
      i ∈ Region.ready .any ops listed → Gives P ops oi d st → (rob = true → plain oi st = true ∧ d.noRef = true) →
      anyA P ops K fuel (listed.setIfInBounds i true) (st.put oi.dst d) → anyA P ops K (fuel + 1) listed st := by
  intro fuel
  induction fuel with
  | zero =>
    intro listed st _ _ hr hy _ H
    refine ⟨fun h => (by rw [h] at hr; cases hr), fun j hj o ho => ?_⟩
    by_cases hji : j = i
    · subst hji
      rw [hi] at ho; cases ho
      exact hy.use hq H
    · have := ready_mono hj hji
      rw [H.1] at this
      cases this
  | succ fuel ih =>
    intro listed st hW hfree hr hy hrob H
    refine ⟨fun h => (by rw [h] at hr; cases hr), fun j hj o ho => ?_⟩
    by_cases hji : j = i
    · subst hji
      rw [hi] at ho; cases ho
      exact hy.use hq H
    · have h1 := H.2 j (ready_mono hj hji) o ho
      obtain ⟨hjun, oj, hoj, hall⟩ := mem_ready.1 hj
      rw [ho] at hoj; cases hoj
      have hin : ∀ m, listed.getD m true = false → listed.getD m false = true → False := fun m h h' => by
        rcases Nat.lt_or_ge m listed.size with h2 | h2
        · simp [h2] at h h'; rw [h] at h'; cases h'
        · simp [Array.getElem?_eq_none h2] at h
      have hnW : ¬ W j := fun hw => by
        obtain ⟨_, o', ho', e, he, hb, hon⟩ := hW j hw
        rw [ho] at ho'; cases ho'
        have hl := hall e he hb
        rcases hon with rfl | hon
        · exact hin _ (mem_ready.1 hr).1 hl
        · exact hin _ (hW _ hon).1 hl
      obtain ⟨f1, f2, f3⟩ := hfree j o ho hji hjun hnW
      have hd : d.noRef = true ∨ quiet o = true := f3.imp (fun h => (hrob h).2) id
      have hkey : ∀ s, (anyA P ops K fuel ((listed.setIfInBounds i true).setIfInBounds j true) (s.put oi.dst d) ∧ Ext o.dst (quiet o) st s) → anyA P ops K (fuel + 1) (listed.setIfInBounds j true) s := by
        rintro s ⟨k1, k2⟩
        refine ih (listed.setIfInBounds j true) s (fun m hm => ?_) (fun m om hm hmi hun hnw => ?_) (ready_mono hr (Ne.symm hji)) (hy.ext f1 (f3.imp (fun h => (hrob h).1) id) k2) (fun h => ⟨plain_ext f1 k2 (hrob h).1, (hrob h).2⟩) ?_
        · obtain ⟨g1, g2⟩ := hW m hm
          have hne : j ≠ m := fun e => hnW (e ▸ hm)
          exact ⟨by rw [getD_set_ne true hne]; exact g1, g2⟩
        · have hne : j ≠ m := fun e => by
            subst e
            have hlt : j < listed.size := by
              rcases Nat.lt_or_ge j listed.size with h' | h'
              · exact h'
              · simp [Array.getElem?_eq_none h'] at hjun
            simp [hlt] at hun
          exact hfree m om hm hmi (by rw [getD_set_ne true hne] at hun; exact hun) hnw
        · rw [Array.setIfInBounds_comm _ _ hji]; exact k1
      exact opA_swap hkey f1 f2 hd h1
end
end Go.VL
