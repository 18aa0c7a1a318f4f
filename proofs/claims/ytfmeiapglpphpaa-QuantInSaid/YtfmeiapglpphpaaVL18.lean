import Derived.Test.YtfmeiapglpphpaaVL17
/- Regions that draw their order: one order serves. -/
namespace Go.VL
open Go Go.RowKit

-- what does not name an owned thing stays as it is
mutual
theorem D.noRef_kill1 : ∀ (d : D), d.noRef = true → ∀ id, d.kill id = d
  | .any, _, _ => rfl
  | .v _, _, _ => rfl
  | .nil0, _, _ => rfl
  | .lst _, _, _ => rfl
  | .ptr _, _, _ => rfl
  | .agg l, h, id => by simp only [D.kill]; rw [D.noRef_kills l h id]
  | .tup l, h, id => by simp only [D.kill]; rw [D.noRef_kills l h id]
  | .clos _ l, h, id => by simp only [D.kill]; rw [D.noRef_kills l h id]
  | .ref _ _, h, _ => by cases h
  | .adr _ _ _, h, _ => by cases h
theorem D.noRef_kills : ∀ (l : List D), D.noRefs l = true → ∀ id, D.kills id l = l
  | [], _, _ => rfl
  | d :: ds, h, id => by
    have h' : d.noRef = true ∧ D.noRefs ds = true := by simpa [D.noRefs] using h
    simp only [D.kills]; rw [D.noRef_kill1 d h'.1, D.noRef_kills ds h'.2]
end
mutual
theorem D.noRef_frz1 : ∀ (d : D), d.noRef = true → ∀ id els, d.frz id els = d
  | .any, _, _, _ => rfl
  | .v _, _, _, _ => rfl
  | .nil0, _, _, _ => rfl
  | .lst _, _, _, _ => rfl
  | .ptr _, _, _, _ => rfl
  | .agg l, h, id, els => by simp only [D.frz]; rw [D.noRef_frzs l h id els]
  | .tup l, h, id, els => by simp only [D.frz]; rw [D.noRef_frzs l h id els]
  | .clos _ l, h, id, els => by simp only [D.frz]; rw [D.noRef_frzs l h id els]
  | .ref _ _, h, _, _ => by cases h
  | .adr _ _ _, h, _, _ => by cases h
theorem D.noRef_frzs : ∀ (l : List D), D.noRefs l = true → ∀ id els, D.frzs id els l = l
  | [], _, _, _ => rfl
  | d :: ds, h, id, els => by
    have h' : d.noRef = true ∧ D.noRefs ds = true := by simpa [D.noRefs] using h
    simp only [D.frzs]; rw [D.noRef_frz1 d h'.1, D.noRef_frzs ds h'.2]
end

/-- An effect on all slots alike. -/
def Nice (τ : D → D) : Prop := ∀ d, d.noRef = true → τ d = d
theorem Nice.id : Nice id := fun _ _ => rfl
theorem Nice.comp {τ σ : D → D} (h : Nice τ) (k : Nice σ) : Nice (τ ∘ σ) := fun d hd => by simp only [Function.comp]; rw [k d hd, h d hd]
theorem Nice.kill (i : Nat) : Nice (D.kill i) := fun d hd => D.noRef_kill1 d hd i
theorem Nice.frz (i : Nat) (els : List D) : Nice (D.frz i els) := fun d hd => D.noRef_frz1 d hd i els

/-- What one operation does to a state, told of two states at once. -/
def Both (K : St → D → Prop) (t : Nat → D) (t' : Nat → D) (n : Nat) : St → D → Prop := fun s d => ∃ τ, Nice τ ∧ s.t = τ ∘ t' ∧ s.n = n ∧ K ⟨τ ∘ t, s.H, s.n⟩ d

section
variable {P : Program} {K K' : St → D → Prop} {t t' : Nat → D} {H : Nat → Option Own} {n : Nat} {id : Nat} {ty : TypeId}

theorem both_same {d : D} (h : K ⟨t, H, n⟩ d) : Both K t t' n ⟨t', H, n⟩ d := ⟨_root_.id, Nice.id, rfl, rfl, h⟩
theorem both_kill {d : D} {o : Own} (h : K (((⟨t, H, n⟩ : St).killed id).obj id o) d) : Both K t t' n (((⟨t', H, n⟩ : St).killed id).obj id o) d := ⟨D.kill id, Nice.kill id, rfl, rfl, h⟩

theorem opBox_both (hk : ∀ s d, Both K t t' n s d → K' s d) {v : D} (h : opBox P ty v id K ⟨t, H, n⟩) : opBox P ty v id K' ⟨t', H, n⟩ :=
  ⟨h.1, h.2.1, h.2.2.1, hk _ _ (both_kill h.2.2.2)⟩
theorem opAlloc_both (hk : ∀ s d, Both K t t' n s d → K' s d) (h : opAlloc P ty id K ⟨t, H, n⟩) : opAlloc P ty id K' ⟨t', H, n⟩ := by
  obtain ⟨z, h1, h2, h3, h4, h5⟩ := h
  exact ⟨z, h1, h2, h3, h4, hk _ _ (both_kill h5)⟩
theorem opBuildSlice_both (hk : ∀ s d, Both K t t' n s d → K' s d) {len : Nat} {parts : List (Nat × D)} (h : opBuildSlice P ty len parts id K ⟨t, H, n⟩) : opBuildSlice P ty len parts id K' ⟨t', H, n⟩ := by
  obtain ⟨e, h1, h2, h3, h4, h5, h6, h7, h8⟩ := h
  refine ⟨e, h1, h2, h3, h4, h5, h6, h7, ?_⟩
  split
  · rename_i hl
    rw [if_pos hl] at h8
    exact hk _ _ (both_kill h8)
  · rename_i hl
    rw [if_neg hl] at h8
    exact hk _ _ (both_same h8)
theorem opMakeSlice_both (hk : ∀ s d, Both K t t' n s d → K' s d) {l c : D} (h : opMakeSlice P ty l c id K ⟨t, H, n⟩) : opMakeSlice P ty l c id K' ⟨t', H, n⟩ := by
  unfold opMakeSlice at *
  split at h
  · obtain ⟨e, h1, h2, h3, h4, h5, h6, z, h7, h8, h9, h10⟩ := h
    exact ⟨e, h1, h2, h3, h4, h5, h6, z, h7, h8, h9, hk _ _ (both_kill h10)⟩
  · exact h.elim
theorem opAppend_both (hk : ∀ s d, Both K t t' n s d → K' s d) {x y : D} (h : opAppend P ty x y id K ⟨t, H, n⟩) : opAppend P ty x y id K' ⟨t', H, n⟩ := by
  obtain ⟨e, h1, h2, b, h3, xs, h4, h5, h6, h7, h8, h9, h10⟩ := h
  exact ⟨e, h1, h2, b, h3, xs, h4, h5, h6, h7, h8, h9, hk _ _ (both_kill h10)⟩
theorem opStore_both (hk : ∀ s d, Both K t t' n s d → K' s d) {x v : D} (h : opStore P ty x v (fun s => K s .any) ⟨t, H, n⟩) : opStore P ty x v (fun s => K' s .any) ⟨t', H, n⟩ := by
  unfold opStore at *
  split at h
  · obtain ⟨ob, h1, d, h2, h3, h4, h5, h6, d', h7, h8⟩ := h
    exact ⟨ob, h1, d, h2, h3, h4, h5, h6, d', h7, hk _ _ ⟨_root_.id, Nice.id, rfl, rfl, h8⟩⟩
  · exact h.elim

theorem frzAll_both : ∀ (ids : List Nat) (t t' : Nat → D) (H : Nat → Option Own) (n : Nat) (l : List D) (p : St × List D), frzAll ids ⟨t, H, n⟩ l = some p →
    ∃ τ, Nice τ ∧ p.1.t = τ ∘ t ∧ p.1.n = n ∧ frzAll ids ⟨t', H, n⟩ l = some (⟨τ ∘ t', p.1.H, p.1.n⟩, p.2)
  | [], t, t', H, n, l, p, h => by
    simp only [frzAll, Option.some.injEq] at h
    subst h
    exact ⟨_root_.id, Nice.id, rfl, rfl, rfl⟩
  | i :: ids, t, t', H, n, l, p, h => by
    unfold frzAll at h ⊢
    simp only at h ⊢
    cases ho : H i with
    | none =>
      rw [ho] at h
      exact frzAll_both ids t t' H n l p h
    | some o =>
      rw [ho] at h
      simp only at h ⊢
      split at h
      · rename_i hc
        rw [if_pos hc]
        obtain ⟨τ, h1, h2, hn, h3⟩ := frzAll_both ids (fun j => (t j).frz i (D.nrms o.els)) (fun j => (t' j).frz i (D.nrms o.els)) _ n _ p h
        exact ⟨τ ∘ D.frz i (D.nrms o.els), h1.comp (Nice.frz _ _), h2, hn, h3⟩
      · cases h

theorem opCall_both (hk : ∀ s d, Both K t t' n s d → K' s d) {f : D} {args : List D} (h : opCall P f args id K ⟨t, H, n⟩) : opCall P f args id K' ⟨t', H, n⟩ := by
  unfold opCall at *
  split at h
  · obtain ⟨p, h1, h2, h3⟩ := h
    obtain ⟨τ, k1, k2, kn, k3⟩ := frzAll_both _ t t' H n _ p h1
    refine ⟨_, k3, h2, ?_⟩
    rcases h3 with ⟨R, h4, h5⟩ | ⟨R, h4, h5⟩
    · refine .inl ⟨R, h4, fun r hr => ?_⟩
      have := h5 r hr
      split
      · rename_i hf
        rw [if_pos hf] at this
        exact hk _ _ (both_same this)
      · rename_i hf
        rw [if_neg hf] at this
        exact hk _ _ ⟨τ, k1, rfl, kn, by rw [← k2]; exact this⟩
    · refine .inr ⟨R, h4, fun r o hr => ?_⟩
      have := h5 r o hr
      cases o with
      | none => exact hk _ _ ⟨τ, k1, rfl, kn, by rw [← k2]; exact this⟩
      | some o =>
        refine hk _ _ ⟨D.kill id ∘ τ, (Nice.kill id).comp k1, rfl, kn, ?_⟩
        obtain ⟨⟨pt, pH, pn⟩, pl⟩ := p
        simp only at k2
        subst k2
        exact this
  · exact h.elim
end

-- the quiet ones
def qop (P : Program) (o : Oper) (e : Operand → D) (H : Nat → Option Own) (k : D → Prop) : Prop :=
  match o.op with
  | .move x => k (e x)
  | .assign x => k (e x)
  | .pick c a b => opPick (e c) (e a) (e b) k
  | .build t parts => opBuild P t (parts.toList.map fun p => (p.1, e p.2)) k
  | .buildSlice t len parts => opBuildSlice P t len (parts.toList.map fun p => (p.1, e p.2)) 0 (fun _ d => k d) ⟨fun _ => .any, fun _ => none, 0⟩
  | .load t x => opLoad P t (e x) k ⟨fun _ => .any, H, 0⟩
  | .nilCheck x => opNilCheck (e x) k
  | .binOp op t x y _ => opBin P op t (e x) (e y) k
  | .unOp op _ x => opUn op (e x) k
  | .convert s t x => opConvert P s t (e x) k ⟨fun _ => .any, H, 0⟩
  | .makeFunc fn first caps => first.toList = [] ∧ k (.clos fn (caps.toList.map e))
  | .slice t x lo hi mx => opSlice P t (e x) (lo.map e) (hi.map e) (mx.map e) k ⟨fun _ => .any, H, 0⟩
  | .fieldAddr s x f => opFieldAddr P s (e x) f k
  | .field s x f => opField P s (e x) f k
  | .indexAddr t x ix => opIndexAddr P t (e x) (e ix) k ⟨fun _ => .any, H, 0⟩
  | .index t x ix => opIndex P t (e x) (e ix) k
  | .extract x i => opExtract (e x) i k
  | .call ⟨.builtin .len, args, ts⟩ => match args.toList, ts.toList with
    | [x], [t] => opLen P t (e x) k
    | _, _ => False
  | .call ⟨.builtin .min, args, _⟩ => opMin (args.toList.map e) k
  | .call ⟨.builtin .imag, args, _⟩ => opCx .imag (args.toList.map e) k
  | .call ⟨.builtin .real, args, _⟩ => opCx .real (args.toList.map e) k
  | .call ⟨.builtin .complex, args, _⟩ => opCx .complex (args.toList.map e) k
  | .call ⟨.builtin .max, args, _⟩ => opMax (args.toList.map e) k
  | _ => False

/-- Operations that leave what is owned alone. -/
def quiet (o : Oper) : Bool :=
  match o.op with
  | .move _ => true
  | .assign _ => true
  | .pick .. => true
  | .build .. => true
  | .buildSlice _ len _ => len != 0
  | .load .. => true
  | .nilCheck _ => true
  | .binOp .. => true
  | .unOp .. => true
  | .convert .. => true
  | .makeFunc .. => true
  | .slice .. => true
  | .fieldAddr .. => true
  | .field .. => true
  | .indexAddr .. => true
  | .index .. => true
  | .extract .. => true
  | .call ⟨.builtin .len, args, ts⟩ => args.size == 1 && ts.size == 1
  | .call ⟨.builtin .min, _, _⟩ => true
  | .call ⟨.builtin .imag, _, _⟩ => true
  | .call ⟨.builtin .real, _, _⟩ => true
  | .call ⟨.builtin .complex, _, _⟩ => true
  | .call ⟨.builtin .max, _, _⟩ => true
  | _ => false

theorem aopx_quiet {P : Program} {o : Oper} (hq : quiet o = true) {K : St → D → Prop} {st : St} : aopx P o K st = qop P o st.ev st.H (K st) := by
  unfold quiet at hq
  unfold aopx qop
  obtain ⟨dst, op, ty, pos, af, g⟩ := o
  cases op
  case call c =>
    obtain ⟨cal, args, ts⟩ := c
    cases cal
    case builtin b =>
      cases b
      case len =>
        simp only [Bool.and_eq_true, beq_iff_eq] at hq
        obtain ⟨l⟩ := args
        obtain ⟨l'⟩ := ts
        match l, l', hq with
        | [x], [t], _ => rfl
      all_goals first
        | rfl
        | exact absurd hq (by simp)
    all_goals exact absurd hq (by simp)
  case buildSlice t len ps =>
    have hl : len ≠ 0 := by simpa using hq
    simp only [opBuildSlice, if_neg hl]
  all_goals first
    | rfl
    | exact absurd hq (by simp)

section
variable {P : Program} {t : TypeId} {k : D → Prop} {st : St}
theorem opPick_det {c a b : D} (h : opPick c a b k) : ∃ d, k d ∧ ∀ k' : D → Prop, k' d → opPick c a b k' := by
  obtain ⟨x, h1, h2⟩ := h; exact ⟨_, h2, fun _ hk => ⟨x, h1, hk⟩⟩
theorem opBuild_det {l : List (Nat × D)} (h : opBuild P t l k) : ∃ d, k d ∧ ∀ k' : D → Prop, k' d → opBuild P t l k' := by
  obtain ⟨h1, pl, h2, z, h3, zs, h4, r, h5, h6⟩ := h; exact ⟨_, h6, fun _ hk => ⟨h1, pl, h2, z, h3, zs, h4, r, h5, hk⟩⟩
theorem opBuildSlice_det {len : Nat} {l : List (Nat × D)} {s : St} (h : opBuildSlice P t len l 0 (fun _ d => k d) s) : ∃ d, k d ∧ ∀ k' : D → Prop, k' d → opBuildSlice P t len l 0 (fun _ d => k' d) s := by
  obtain ⟨e, h1, h2, h3, h4, h5, h6, h7, h8⟩ := h
  by_cases hl : len = 0
  · rw [if_pos hl] at h8
    exact ⟨_, h8, fun _ hk => ⟨e, h1, h2, h3, h4, h5, h6, h7, by rw [if_pos hl]; exact hk⟩⟩
  · rw [if_neg hl] at h8
    exact ⟨_, h8, fun _ hk => ⟨e, h1, h2, h3, h4, h5, h6, h7, by rw [if_neg hl]; exact hk⟩⟩
theorem opLoad_det {x : D} (h : opLoad P t x k st) : ∃ d, k d ∧ ∀ k' : D → Prop, k' d → opLoad P t x k' st := by
  unfold opLoad at *
  split at h
  · obtain ⟨h1, h2, r, h3, h4⟩ := h; exact ⟨_, h4, fun _ hk => ⟨h1, h2, r, h3, hk⟩⟩
  · obtain ⟨ob, h1, d, h2, h3, h4, r, h5, h6⟩ := h; exact ⟨_, h6, fun _ hk => ⟨ob, h1, d, h2, h3, h4, r, h5, hk⟩⟩
  · exact h.elim
theorem opNilCheck_det {x : D} (h : opNilCheck x k) : ∃ d, k d ∧ ∀ k' : D → Prop, k' d → opNilCheck x k' := by
  unfold opNilCheck at *
  split at h
  · exact ⟨_, h, fun _ hk => hk⟩
  · exact ⟨_, h, fun _ hk => hk⟩
  · exact h.elim
theorem opUn_det {op : UnOp} {x : D} (h : opUn op x k) : ∃ d, k d ∧ ∀ k' : D → Prop, k' d → opUn op x k' := by
  unfold opUn at *
  split at h
  · exact ⟨_, h, fun _ hk => hk⟩
  · exact ⟨_, h, fun _ hk => hk⟩
  · exact ⟨_, h, fun _ hk => hk⟩
  · exact h.elim
theorem opConvert_det {s : TypeId} {x : D} (h : opConvert P s t x k st) : ∃ d, k d ∧ ∀ k' : D → Prop, k' d → opConvert P s t x k' st := by
  unfold opConvert at *
  split at h
  · obtain ⟨h1, h2⟩ := h
    split at h2
    · rename_i q hq; exact ⟨_, h2, fun _ hk => ⟨h1, hk⟩⟩
    · obtain ⟨q, h3, h4⟩ := h2; exact ⟨_, h4, fun _ hk => ⟨h1, q, h3, hk⟩⟩
  · obtain ⟨h1, q, h2, n, h3, h4⟩ := h; exact ⟨_, h4, fun _ hk => ⟨h1, q, h2, n, h3, hk⟩⟩
  · obtain ⟨e, h1, h2, h3, h4⟩ := h; exact ⟨_, h4, fun _ hk => ⟨e, h1, h2, h3, hk⟩⟩
  · obtain ⟨e, h1, h2, h3, h4⟩ := h; exact ⟨_, h4, fun _ hk => ⟨e, h1, h2, h3, hk⟩⟩
  · obtain ⟨e, h1, h2, h3, ns, h4, h5⟩ := h; exact ⟨_, h5, fun _ hk => ⟨e, h1, h2, h3, ns, h4, hk⟩⟩
  · obtain ⟨e, h1, h2, h3, ob, h4, h5, h6, ns, h7, h8⟩ := h; exact ⟨_, h8, fun _ hk => ⟨e, h1, h2, h3, ob, h4, h5, h6, ns, h7, hk⟩⟩
  · exact h.elim
theorem opSlice_det {x : D} {lo hi mx : Option D} (h : opSlice P t x lo hi mx k st) : ∃ d, k d ∧ ∀ k' : D → Prop, k' d → opSlice P t x lo hi mx k' st := by
  unfold opSlice at *
  obtain ⟨e, h1, h2, h⟩ := h
  split at h
  · obtain ⟨h3, i, h4, j, h5, h6, h7, h8, h9⟩ := h
    split at h9
    · exact ⟨_, h9, fun _ hk => ⟨e, h1, h2, h3, i, h4, j, h5, h6, h7, h8, hk⟩⟩
    · obtain ⟨g1, q, g2, g3, g4, g5⟩ := h9
      by_cases hq : q = i
      · rw [if_pos hq] at g5
        exact ⟨_, g5, fun _ hk => ⟨e, h1, h2, h3, i, h4, j, h5, h6, h7, h8, g1, q, g2, g3, g4, by rw [if_pos hq]; exact hk⟩⟩
      · rw [if_neg hq] at g5
        exact ⟨_, g5, fun _ hk => ⟨e, h1, h2, h3, i, h4, j, h5, h6, h7, h8, g1, q, g2, g3, g4, by rw [if_neg hq]; exact hk⟩⟩
  · obtain ⟨i, h4, h5, j, h6, h7, h8, h9, h10, h11⟩ := h
    exact ⟨_, h11, fun _ hk => ⟨e, h1, h2, i, h4, h5, j, h6, h7, h8, h9, h10, hk⟩⟩
  · obtain ⟨i, h4, h5, j, h6, h7, h8, h9⟩ := h
    exact ⟨_, h9, fun _ hk => ⟨e, h1, h2, i, h4, h5, j, h6, h7, h8, hk⟩⟩
  · exact h.elim
theorem opFieldAddr_det {x : D} {f : Nat} (h : opFieldAddr P t x f k) : ∃ d, k d ∧ ∀ k' : D → Prop, k' d → opFieldAddr P t x f k' := by
  unfold opFieldAddr at *
  split at h
  · obtain ⟨fl, h1, h2, h3⟩ := h; exact ⟨_, h3, fun _ hk => ⟨fl, h1, h2, hk⟩⟩
  · obtain ⟨fl, h1, h2, r, h3, h4, h5, h6⟩ := h; exact ⟨_, h6, fun _ hk => ⟨fl, h1, h2, r, h3, h4, h5, hk⟩⟩
  · exact h.elim
theorem opField_det {x : D} {f : Nat} (h : opField P t x f k) : ∃ d, k d ∧ ∀ k' : D → Prop, k' d → opField P t x f k' := by
  unfold opField at *
  split at h
  · obtain ⟨fl, h1, h2, r, h3, h4⟩ := h; exact ⟨_, h4, fun _ hk => ⟨fl, h1, h2, r, h3, hk⟩⟩
  · exact h.elim
theorem opIndexAddr_det {x i : D} (h : opIndexAddr P t x i k st) : ∃ d, k d ∧ ∀ k' : D → Prop, k' d → opIndexAddr P t x i k' st := by
  unfold opIndexAddr at *
  split at h
  · split at h
    · obtain ⟨e, h1, h2, h3, h4, h5, d, h6, h7⟩ := h; exact ⟨_, h7, fun _ hk => ⟨e, h1, h2, h3, h4, h5, d, h6, hk⟩⟩
    · obtain ⟨e, h1, h2, h3, h4, ob, h5, h6, h7, h8⟩ := h; exact ⟨_, h8, fun _ hk => ⟨e, h1, h2, h3, h4, ob, h5, h6, h7, hk⟩⟩
    · obtain ⟨n, e, h1, h2, h3, h4, h5⟩ := h; exact ⟨_, h5, fun _ hk => ⟨n, e, h1, h2, h3, h4, hk⟩⟩
    · obtain ⟨n, e, h1, h2, h3, h4, r, h5, h6, h7, h8⟩ := h; exact ⟨_, h8, fun _ hk => ⟨n, e, h1, h2, h3, h4, r, h5, h6, h7, hk⟩⟩
    · exact h.elim
  · exact h.elim
theorem opIndex_det {x i : D} (h : opIndex P t x i k) : ∃ d, k d ∧ ∀ k' : D → Prop, k' d → opIndex P t x i k' := by
  unfold opIndex at *
  split at h
  · obtain ⟨n, e, h1, h2, h3, h4, r, h5, h6⟩ := h; exact ⟨_, h6, fun _ hk => ⟨n, e, h1, h2, h3, h4, r, h5, hk⟩⟩
  · exact h.elim
theorem opExtract_det {x : D} {i : Nat} (h : opExtract x i k) : ∃ d, k d ∧ ∀ k' : D → Prop, k' d → opExtract x i k' := by
  unfold opExtract at *
  split at h
  · obtain ⟨r, h1, h2⟩ := h; exact ⟨_, h2, fun _ hk => ⟨r, h1, hk⟩⟩
  · exact h.elim
theorem opLen_det {x : D} (h : opLen P t x k) : ∃ d, k d ∧ ∀ k' : D → Prop, k' d → opLen P t x k' := by
  unfold opLen at *
  split at h
  · exact ⟨_, h.2, fun _ hk => ⟨h.1, hk⟩⟩
  · exact ⟨_, h.2, fun _ hk => ⟨h.1, hk⟩⟩
  · exact ⟨_, h.2, fun _ hk => ⟨h.1, hk⟩⟩
  · exact ⟨_, h.2, fun _ hk => ⟨h.1, hk⟩⟩
  · exact ⟨_, h.2, fun _ hk => ⟨h.1, hk⟩⟩
  · obtain ⟨n, e, h1, h2⟩ := h; exact ⟨_, h2, fun _ hk => ⟨n, e, h1, hk⟩⟩
  · exact h.elim
theorem opCx_det {b : Builtin} {l : List D} (h : opCx b l k) : ∃ d, k d ∧ ∀ k' : D → Prop, k' d → opCx b l k' := by
  unfold opCx at *
  split at h
  · obtain ⟨h1, h2⟩ := h; exact ⟨_, h2, fun _ hk => ⟨h1, hk⟩⟩
  · exact ⟨_, h, fun _ hk => hk⟩
  · exact ⟨_, h, fun _ hk => hk⟩
  · exact h.elim
theorem opMin_det {l : List D} (h : opMin l k) : ∃ d, k d ∧ ∀ k' : D → Prop, k' d → opMin l k' := by
  unfold opMin at *
  split at h
  · obtain ⟨z, h1, h2⟩ := h; exact ⟨_, h2, fun _ hk => ⟨z, h1, hk⟩⟩
  · exact h.elim
theorem opMax_det {l : List D} (h : opMax l k) : ∃ d, k d ∧ ∀ k' : D → Prop, k' d → opMax l k' := by
  unfold opMax at *
  split at h
  · obtain ⟨z, h1, h2⟩ := h; exact ⟨_, h2, fun _ hk => ⟨z, h1, hk⟩⟩
  · exact h.elim
def D.isNil : D → Bool
  | .v (.slice none 0 0) => true
  | _ => false
theorem opBin_det {op : BinOp} {x y : D} (hy : y.isNil = false) (h : opBin P op t x y k) : ∃ d, k d ∧ ∀ k' : D → Prop, k' d → opBin P op t x y k' := by
  have key : ∀ {q : D → Prop}, ¬ nilAsk P op t x y q := by
    intro q hq
    unfold nilAsk at hq
    split at hq
    · cases hy
    · cases hy
    · cases hy
    · cases hy
    · exact hq
  unfold opBin at *
  split at h
  · rename_i a b
    cases hab : abin P op t a b with
    | some r => rw [hab] at h; exact ⟨_, h, fun _ hk => by simpa only [hab] using hk⟩
    | none => rw [hab] at h; exact absurd h key
  · exact absurd h key
end

def qok (o : Oper) (e : Operand → D) : Bool :=
  match o.op with
  | .binOp _ _ _ y _ => !(e y).isNil
  | _ => true

theorem qop_det {P : Program} {o : Oper} {e : Operand → D} {H : Nat → Option Own} {k : D → Prop} (hn : qok o e = true) (h : qop P o e H k) : ∃ d, k d ∧ ∀ k' : D → Prop, k' d → qop P o e H k' := by
  unfold qop at h
  split at h <;> rename_i ho
  · exact ⟨_, h, fun k' hk => by simp only [qop, ho]; exact hk⟩
  · exact ⟨_, h, fun k' hk => by simp only [qop, ho]; exact hk⟩
  · obtain ⟨d, h1, h2⟩ := opPick_det h; exact ⟨d, h1, fun k' hk => by simp only [qop, ho]; exact h2 k' hk⟩
  · obtain ⟨d, h1, h2⟩ := opBuild_det h; exact ⟨d, h1, fun k' hk => by simp only [qop, ho]; exact h2 k' hk⟩
  · obtain ⟨d, h1, h2⟩ := opBuildSlice_det h; exact ⟨d, h1, fun k' hk => by simp only [qop, ho]; exact h2 k' hk⟩
  · obtain ⟨d, h1, h2⟩ := opLoad_det h; exact ⟨d, h1, fun k' hk => by simp only [qop, ho]; exact h2 k' hk⟩
  · obtain ⟨d, h1, h2⟩ := opNilCheck_det h; exact ⟨d, h1, fun k' hk => by simp only [qop, ho]; exact h2 k' hk⟩
  · have hy : (e ‹Operand›).isNil = false := by
      simp only [qok, ho] at hn
      simpa using hn
    obtain ⟨d, h1, h2⟩ := opBin_det hy h; exact ⟨d, h1, fun k' hk => by simp only [qop, ho]; exact h2 k' hk⟩
  · obtain ⟨d, h1, h2⟩ := opUn_det h; exact ⟨d, h1, fun k' hk => by simp only [qop, ho]; exact h2 k' hk⟩
  · obtain ⟨d, h1, h2⟩ := opConvert_det h; exact ⟨d, h1, fun k' hk => by simp only [qop, ho]; exact h2 k' hk⟩
  · exact ⟨_, h.2, fun k' hk => by simp only [qop, ho]; exact ⟨h.1, hk⟩⟩
  · obtain ⟨d, h1, h2⟩ := opSlice_det h; exact ⟨d, h1, fun k' hk => by simp only [qop, ho]; exact h2 k' hk⟩
  · obtain ⟨d, h1, h2⟩ := opFieldAddr_det h; exact ⟨d, h1, fun k' hk => by simp only [qop, ho]; exact h2 k' hk⟩
  · obtain ⟨d, h1, h2⟩ := opField_det h; exact ⟨d, h1, fun k' hk => by simp only [qop, ho]; exact h2 k' hk⟩
  · obtain ⟨d, h1, h2⟩ := opIndexAddr_det h; exact ⟨d, h1, fun k' hk => by simp only [qop, ho]; exact h2 k' hk⟩
  · obtain ⟨d, h1, h2⟩ := opIndex_det h; exact ⟨d, h1, fun k' hk => by simp only [qop, ho]; exact h2 k' hk⟩
  · obtain ⟨d, h1, h2⟩ := opExtract_det h; exact ⟨d, h1, fun k' hk => by simp only [qop, ho]; exact h2 k' hk⟩
  · split at h
    · rename_i h1' h2'
      obtain ⟨d, h1, h2⟩ := opLen_det h; exact ⟨d, h1, fun k' hk => by simp only [qop, ho, h1', h2']; exact h2 k' hk⟩
    · exact h.elim
  · obtain ⟨d, h1, h2⟩ := opMin_det h; exact ⟨d, h1, fun k' hk => by simp only [qop, ho]; exact h2 k' hk⟩
  · obtain ⟨d, h1, h2⟩ := opCx_det h; exact ⟨d, h1, fun k' hk => by simp only [qop, ho]; exact h2 k' hk⟩
  · obtain ⟨d, h1, h2⟩ := opCx_det h; exact ⟨d, h1, fun k' hk => by simp only [qop, ho]; exact h2 k' hk⟩
  · obtain ⟨d, h1, h2⟩ := opCx_det h; exact ⟨d, h1, fun k' hk => by simp only [qop, ho]; exact h2 k' hk⟩
  · obtain ⟨d, h1, h2⟩ := opMax_det h; exact ⟨d, h1, fun k' hk => by simp only [qop, ho]; exact h2 k' hk⟩
  · exact h.elim

theorem map_ev {e e' : Operand → D} : ∀ (l : List Operand), (∀ x ∈ l, e x = e' x) → l.map e = l.map e' := fun _ h => List.map_congr_left h

theorem qop_ev {P : Program} {o : Oper} {e e' : Operand → D} {H : Nat → Option Own} {k : D → Prop} (he : ∀ x ∈ o.op.operands, e x = e' x) (h : qop P o e H k) : qop P o e' H k := by
  obtain ⟨dst, op, ty, pos, af, g⟩ := o
  cases op
  case call c =>
    obtain ⟨cal, args, ts⟩ := c
    cases cal
    case builtin b =>
      have ha : ∀ x ∈ args.toList, e x = e' x := fun x hx => he x (by simpa [Op.operands, Call.operands] using hx)
      cases b
      case len =>
        obtain ⟨l⟩ := args
        obtain ⟨l'⟩ := ts
        simp only [qop] at h ⊢
        match l, l', h, ha with
        | [x], [t], h, ha => show opLen P t (e' x) k; rw [← ha x (by simp)]; exact h
      case min => simp only [qop] at h ⊢; rw [← map_ev _ ha]; exact h
      case complex => simp only [qop] at h ⊢; rw [← map_ev _ ha]; exact h
      case real => simp only [qop] at h ⊢; rw [← map_ev _ ha]; exact h
      case imag => simp only [qop] at h ⊢; rw [← map_ev _ ha]; exact h
      case max => simp only [qop] at h ⊢; rw [← map_ev _ ha]; exact h
      all_goals exact h.elim
    all_goals exact h.elim
  case build t ps =>
    simp only [qop] at h ⊢
    rw [← List.map_congr_left (f := fun p : Nat × Operand => (p.1, e p.2)) fun p hp => by rw [he p.2 (by simp [Op.operands]; exact ⟨p.1, by simpa using hp⟩)]]
    exact h
  case buildSlice t len ps =>
    simp only [qop] at h ⊢
    rw [← List.map_congr_left (f := fun p : Nat × Operand => (p.1, e p.2)) fun p hp => by rw [he p.2 (by simp [Op.operands]; exact ⟨p.1, by simpa using hp⟩)]]
    exact h
  case makeFunc fn first caps =>
    simp only [qop] at h ⊢
    rw [← map_ev _ fun x hx => he x (by simp [Op.operands]; exact .inr (by simpa using hx))]
    exact h
  case slice t x lo hi mx =>
    simp only [qop] at h ⊢
    have h0 := he x (by simp [Op.operands])
    have h1 : lo.map e = lo.map e' := by
      cases lo with
      | none => rfl
      | some y => simp [he y (by simp [Op.operands])]
    have h2 : hi.map e = hi.map e' := by
      cases hi with
      | none => rfl
      | some y => simp [he y (by simp [Op.operands])]
    have h3 : mx.map e = mx.map e' := by
      cases mx with
      | none => rfl
      | some y => simp [he y (by simp [Op.operands])]
    rw [← h0, ← h1, ← h2, ← h3]
    exact h
  case pick c a b => simp only [qop] at h ⊢; rw [← he c (by simp [Op.operands]), ← he a (by simp [Op.operands]), ← he b (by simp [Op.operands])]; exact h
  case binOp op t x y t' => simp only [qop] at h ⊢; rw [← he x (by simp [Op.operands]), ← he y (by simp [Op.operands])]; exact h
  case indexAddr t x y => simp only [qop] at h ⊢; rw [← he x (by simp [Op.operands]), ← he y (by simp [Op.operands])]; exact h
  case index t x y => simp only [qop] at h ⊢; rw [← he x (by simp [Op.operands]), ← he y (by simp [Op.operands])]; exact h
  all_goals first
    | exact h.elim
    | (rename_i x; simp only [qop] at h ⊢; rw [← he x (by simp [Op.operands])]; exact h)
    | (rename_i x _; simp only [qop] at h ⊢; rw [← he x (by simp [Op.operands])]; exact h)
    | (rename_i x _ _; simp only [qop] at h ⊢; rw [← he x (by simp [Op.operands])]; exact h)

theorem opConvert_vst {P : Program} {s t : TypeId} {u : Value} {k : D → Prop} {st st' : St} (h : opConvert P s t (.v u) k st) : opConvert P s t (.v u) k st' := by
  unfold opConvert at *
  split at h <;> first
    | exact h
    | (rename_i heq; cases heq)
theorem opSlice_vst {P : Program} {t : TypeId} {lo hi mx : Option D} {u : Value} {k : D → Prop} {st st' : St} (h : opSlice P t (.v u) lo hi mx k st) : opSlice P t (.v u) lo hi mx k st' := by
  unfold opSlice at *
  obtain ⟨e, h1, h2, h⟩ := h
  refine ⟨e, h1, h2, ?_⟩
  split at h <;> first
    | exact h
    | (rename_i heq; cases heq)

theorem noRef_of_H {x : D} (hx : x.noRef = true) : (∀ i n, x ≠ .ref i n) ∧ ∀ i j n, x ≠ .adr i j n := ⟨(fun i n h => by subst h; cases hx), (fun i j n h => by subst h; cases hx)⟩

theorem qop_H {P : Program} {o : Oper} {e : Operand → D} {H H' : Nat → Option Own} {k : D → Prop} (he : ∀ x ∈ o.op.operands, (e x).noRef = true) (h : qop P o e H k) : qop P o e H' k := by
  obtain ⟨dst, op, ty, pos, af, g⟩ := o
  cases op
  case load t x =>
    have hx := noRef_of_H (he x (by simp [Op.operands]))
    simp only [qop] at h ⊢
    cases hv : e x
    case ref i n => exact absurd hv (hx.1 i n)
    case adr i j n => exact absurd hv (hx.2 i j n)
    all_goals (rw [hv] at h; exact h)
  case convert s t x =>
    have hx := noRef_of_H (he x (by simp [Op.operands]))
    simp only [qop] at h ⊢
    cases hv : e x
    case ref i n => exact absurd hv (hx.1 i n)
    case adr i j n => exact absurd hv (hx.2 i j n)
    case v u => rw [hv] at h; exact opConvert_vst h
    all_goals (rw [hv] at h; exact h)
  case slice t x lo hi mx =>
    have hx := noRef_of_H (he x (by simp [Op.operands]))
    simp only [qop] at h ⊢
    cases hv : e x
    case ref i n => exact absurd hv (hx.1 i n)
    case adr i j n => exact absurd hv (hx.2 i j n)
    case v u => rw [hv] at h; exact opSlice_vst h
    all_goals (rw [hv] at h; exact h)
  case indexAddr t x y =>
    have hx := noRef_of_H (he x (by simp [Op.operands]))
    simp only [qop] at h ⊢
    cases hv : e x
    case ref i n => exact absurd hv (hx.1 i n)
    case adr i j n => exact absurd hv (hx.2 i j n)
    all_goals (rw [hv] at h; exact h)
  case call c =>
    obtain ⟨cal, args, ts⟩ := c
    cases cal
    case builtin b => cases b <;> exact h
    all_goals exact h
  all_goals exact h
end Go.VL
