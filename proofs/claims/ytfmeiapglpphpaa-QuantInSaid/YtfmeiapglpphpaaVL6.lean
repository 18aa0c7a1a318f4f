import Derived.Test.YtfmeiapglpphpaaVL5
/- Slices, new slices, and what is computed. -/
namespace Go.VL
open Go Go.RowKit

def BndV (o : Option Value) (z i : Int) : Prop := (o = none ∧ i = z) ∨ ∃ k, o = some (.int k i)

theorem run_sliceBound' {P : Program} {k : IntKind} {i : Int} {y : Nat} (code : BoundsCode) (h0 : 0 ≤ i) (h1 : i ≤ y) (w : World) :
    (Instr.sliceBound (.int k i) y code).run P w = .ok i.toNat w := by
  simp [Instr.sliceBound, asIntOf, h0, h1]

theorem run_sliceBounds {P : Program} {len cap m : Nat} {lo hi mx : Option Value} {i j : Int} (hlo : BndV lo 0 i) (hhi : BndV hi len j)
    (hmx : (mx = none ∧ m = cap) ∨ ∃ k z, mx = some (.int k z) ∧ 0 ≤ z ∧ m = z.toNat ∧ m ≤ cap ∧ hi ≠ none) (h0 : 0 ≤ i) (h1 : i ≤ j) (h2 : j ≤ m) (hlen : len ≤ cap) (w : World) :
    (Instr.sliceBounds true len cap lo hi mx).run P w = .ok (i.toNat, j.toNat, m) w := by
  have A : ∀ (c : BoundsCode) (k : IntKind), (Instr.sliceBound (.int k j) m c).run P w = .ok j.toNat w := fun c k => run_sliceBound' c (by omega) h2 w
  have B : ∀ (c : BoundsCode) (k : IntKind), (Instr.sliceBound (.int k i) j.toNat c).run P w = .ok i.toNat w := fun c k => run_sliceBound' c h0 (by omega) w
  rcases hmx with ⟨rfl, rfl⟩ | ⟨k, z, rfl, hz, rfl, hc, hne⟩
  · rcases hhi with ⟨rfl, rfl⟩ | ⟨k1, rfl⟩
    · simp only [Int.toNat_natCast] at B
      rcases hlo with ⟨rfl, rfl⟩ | ⟨k2, rfl⟩ <;> simp [Instr.sliceBounds, B]
    · rcases hlo with ⟨rfl, rfl⟩ | ⟨k2, rfl⟩ <;> simp [Instr.sliceBounds, A, B]
  · have C : (Instr.sliceBound (.int k z) cap .slice3Acap).run P w = .ok z.toNat w := run_sliceBound' _ hz (by omega) w
    rcases hhi with ⟨rfl, rfl⟩ | ⟨k1, rfl⟩
    · exact absurd rfl hne
    · rcases hlo with ⟨rfl, rfl⟩ | ⟨k2, rfl⟩ <;> simp [Instr.sliceBounds, A, B, C]

theorem run_sliceAt {P : Program} {t e : TypeId} (ht : P.underlying t = some (.slice e)) (hS : 0 < P.cellsOf e) {a : Option Addr} {len cap m : Nat} {lo hi mx : Option Value} {i j : Int} (hlo : BndV lo 0 i) (hhi : BndV hi len j)
    (hmx : (mx = none ∧ m = cap) ∨ ∃ k z, mx = some (.int k z) ∧ 0 ≤ z ∧ m = z.toNat ∧ m ≤ cap ∧ hi ≠ none) (h0 : 0 ≤ i) (h1 : i ≤ j) (h2 : j ≤ m) (hlen : len ≤ cap) (w : World) :
    (Instr.sliceAt t (.slice a len cap) lo hi mx).run P w = .ok (.slice (if m = i.toNat then a else a.map (·.add (i.toNat * P.cellsOf e))) (j.toNat - i.toNat) (m - i.toNat)) w := by
  simp [Instr.sliceAt, Instr.slice, run_underlying ht, run_sliceBounds hlo hhi hmx h0 h1 h2 hlen, run_size hS]

def intD : D → Option Int
  | .v (.int _ i) => some i
  | _ => none

theorem intD_spec {d : D} {i : Int} (h : intD d = some i) : ∃ k, d = .v (.int k i) := by
  unfold intD at h
  split at h
  · cases h; exact ⟨_, rfl⟩
  · cases h

def bndD (d : Option D) (z : Int) : Option Int := match d with | none => some z | some d => intD d

def opSlice (P : Program) (t : TypeId) (x : D) (lo hi mx : Option D) (K : D → Prop) (st : St) : Prop :=
  ∃ e, elT P t = some e ∧ 0 < P.cellsOf e ∧
  match x with
  | .lst l => (∀ d ∈ l, d.width = P.cellsOf e ∧ d.storable = true) ∧ ∃ i, bndD lo 0 = some i ∧ ∃ j, bndD hi l.length = some j ∧ 0 ≤ i ∧ i ≤ j ∧ j ≤ l.length ∧
      (match mx with
      | none => K (.lst ((l.take j.toNat).drop i.toNat))
      | some m => hi.isSome = true ∧ ∃ k, intD m = some k ∧ j ≤ k ∧ k ≤ l.length ∧ if k = i then K .nil0 else K (.lst ((l.take j.toNat).drop i.toNat)))
  | .ref id n => ∃ i, bndD lo 0 = some i ∧ i = 0 ∧ ∃ j, bndD hi n = some j ∧ 0 ≤ j ∧ j ≤ n ∧ mx.isNone = true ∧ (∃ ob, st.H id = some ob ∧ n ≤ ob.els.length) ∧ K (.ref id j.toNat)
  | .v (.slice none 0 0) => ∃ i, bndD lo 0 = some i ∧ i = 0 ∧ ∃ j, bndD hi 0 = some j ∧ j = 0 ∧ mx.isNone = true ∧ K (.v (.slice none 0 0))
  | _ => False

theorem bndD_spec {ρ : Nat → Loc} {J : Nat → Prop} {w : World} {st : St} {a : Act} (hs : ∀ x, RelD ρ J w (st.ev x) (a.eval x)) {o : Option Operand} {z i : Int} (h : bndD (o.map st.ev) z = some i) : BndV (o.map a.eval) z i := by
  cases o with
  | none => simp only [Option.map_none, bndD, Option.some.injEq] at h; exact .inl ⟨rfl, h.symm⟩
  | some x =>
    simp only [Option.map_some, bndD] at h
    obtain ⟨k, hk⟩ := intD_spec h
    have := hs x
    rw [hk] at this
    exact .inr ⟨k, by simp [this.1]⟩

theorem RelPs_take {J : Nat → Prop} {w : World} (n : Nat) {l : List D} {vs : List Value} (h : RelPs J w l vs) : RelPs J w (l.take n) (vs.take n) := by
  have hn := h.noRefs
  refine (RelDs_take (ρ := fun _ => ⟨none, 0, 0⟩) n _ _ (RelPs.toD h)).toP ?_
  rw [D.noRefs_eq, List.all_eq_true] at hn ⊢
  exact fun x hx => hn x (List.mem_of_mem_take hx)

theorem RelPs_drop {J : Nat → Prop} {w : World} (n : Nat) {l : List D} {vs : List Value} (h : RelPs J w l vs) : RelPs J w (l.drop n) (vs.drop n) := by
  have hn := h.noRefs
  refine (RelDs_drop (ρ := fun _ => ⟨none, 0, 0⟩) n _ _ (RelPs.toD h)).toP ?_
  rw [D.noRefs_eq, List.all_eq_true] at hn ⊢
  exact fun x hx => hn x (List.mem_of_mem_drop hx)

theorem RelPs_app {J : Nat → Prop} {w : World} {l m : List D} {vs us : List Value} (h : RelPs J w l vs) (h' : RelPs J w m us) : RelPs J w (l ++ m) (vs ++ us) := by
  refine (RelDs_app (ρ := fun _ => ⟨none, 0, 0⟩) _ _ _ _ (RelPs.toD h) (RelPs.toD h')).toP ?_
  have h1 := h.noRefs
  have h2 := h'.noRefs
  simp only [D.noRefs_eq, List.all_append, Bool.and_eq_true] at h1 h2 ⊢
  exact ⟨h1, h2⟩

/-- A piece of a list that lies in memory. -/
theorem lst_piece {J : Nat → Prop} {w : World} {l : List D} {vs : List Value} {a : Option Addr} {S : Nat} (h12 : RelPs J w l vs) (h13 : RowAt J w a (flat vs)) (h0 : a = none → l = []) (hm : l.length ≤ capMax)
    (hsz : ∀ d ∈ l, d.width = S ∧ d.storable = true) {i j m cap : Nat} (h1 : i ≤ j) (h2 : j ≤ l.length) (h3 : j ≤ m) (h4 : m ≤ cap) (h5 : cap ≤ maxLen) :
    RelP J w (.lst ((l.take j).drop i)) (.slice (if m = i then a else a.map (·.add (i * S))) (j - i) (m - i)) := by
  have hll : ((l.take j).drop i).length = j - i := by simp; omega
  have hvs := RelPs_sizes h12 hsz
  refine ⟨_, m - i, (vs.take j).drop i, by rw [hll], by rw [hll]; omega, by omega, by rw [hll]; omega, fun he => ?_, RelPs_drop _ (RelPs_take _ h12), ?_⟩
  · split at he
    · apply List.eq_nil_of_length_eq_zero; omega
    · have : a = none := by cases a <;> simp at he ⊢
      rw [h0 this]; simp
  · show RowAt J w _ (flat ((vs.take j).drop i))
    rw [flat_drop (S := S) _ _ fun y hy => (hvs y (List.mem_of_mem_take hy)).1, flat_take (S := S) _ _ fun y hy => (hvs y hy).1]
    split
    · left
      have : j = i := by omega
      subst this
      simp
    · rcases h13 with h13 | ⟨b, off, rfl, h14, h15⟩
      · left; rw [h13]; simp
      · right
        refine ⟨b, off + i * S, by simp [Addr_add], h14, fun k u hu => ?_⟩
        rw [List.getElem?_drop, List.getElem?_take] at hu
        split at hu
        · have := h15 _ u hu
          rw [← Nat.add_assoc] at this
          exact this
        · cases hu

theorem opSlice_sound {P : Program} {o : Oper} {t : TypeId} {x : Operand} {lo hi mx : Option Operand} (ho : o.op = .slice t x lo hi mx) {K : St → D → Prop} {st : St}
    (h : opSlice P t (st.ev x) (lo.map st.ev) (hi.map st.ev) (mx.map st.ev) (K st) st) : OpX P o K st := by
  obtain ⟨e, h1, hS, h⟩ := h
  have he := elT_spec h1
  split at h
  · rename_i l hl
    obtain ⟨hsz, i, h2, j, h3, h4, h5, h6, h7⟩ := h
    have core : ∀ (J0 : Nat → Prop) (ρ : Nat → Loc) (J : Nat → Prop) (B : Nat) (w0 : World) (a : Act) (w : World), Sim J0 ρ J B w0 st a w →
        ∃ ad c, a.eval x = .slice ad l.length c ∧ l.length ≤ c ∧ ∀ m : Nat, ((mx.map a.eval = none ∧ m = c) ∨ ∃ k z, mx.map a.eval = some (.int k z) ∧ 0 ≤ z ∧ m = z.toNat ∧ m ≤ c ∧ hi.map a.eval ≠ none) → j ≤ m →
          ∃ y, (execOp a.eval o).run P w = .ok (.value y) w ∧ RelD ρ J w (.lst ((l.take j.toNat).drop i.toNat)) y ∧ (m = i.toNat → ∃ b, y = .slice b 0 0) := by
      intro J0 ρ J B w0 a w hs
      have hx := hs.ev x
      rw [hl] at hx
      obtain ⟨ad, c, vs, h8, h9, h10, h11, h0, h12, h13⟩ := hx
      refine ⟨ad, c, h8, h9, fun m hm hjm => ?_⟩
      have hr := run_sliceAt (P := P) he hS (a := ad) (len := l.length) (cap := c) (m := m) (bndD_spec hs.ev h2) (bndD_spec hs.ev h3) hm h4 h5 hjm h9 w
      refine ⟨_, by simp [execOp, ho, h8, hr]; rfl, ?_, fun e => ?_⟩
      · have hmc : m ≤ c := by rcases hm with ⟨_, rfl⟩ | ⟨_, _, _, _, _, h, _⟩ <;> omega
        exact lst_piece h12 h13 h0 h11 hsz (by omega) (by omega) (by omega) hmc h10
      · subst e
        exact ⟨ad, by simp; omega⟩
    cases hmx : mx with
    | none =>
      simp only [hmx, Option.map_none] at h7
      refine OpX.pure _ h7 fun J0 ρ J B w0 a w hs => ?_
      obtain ⟨ad, c, h8, h9, h10⟩ := core J0 ρ J B w0 a w hs
      obtain ⟨y, h11, h12, _⟩ := h10 c (.inl ⟨by simp [hmx], rfl⟩) (by omega)
      exact ⟨y, h11, h12⟩
    | some mo =>
      simp only [hmx, Option.map_some] at h7
      obtain ⟨hhi, k, h8, h9, h10, h11⟩ := h7
      have fin : ∀ r, K st r → (∀ (ρ : Nat → Loc) (J : Nat → Prop) (w : World) y, RelD ρ J w (.lst ((l.take j.toNat).drop i.toNat)) y → (k = i → ∃ b, y = .slice b 0 0) → RelD ρ J w r y) → OpX P o K st := by
        intro r hK hr
        refine OpX.pure r hK fun J0 ρ J B w0 a w hs => ?_
        obtain ⟨ad, c, h12, h13, h14⟩ := core J0 ρ J B w0 a w hs
        obtain ⟨k', hk'⟩ := intD_spec h8
        have hm := hs.ev mo
        rw [hk'] at hm
        obtain ⟨y, h15, h16, h17⟩ := h14 k.toNat (.inr ⟨k', k, by simp [hmx, hm.1], by omega, rfl, by omega, by cases hi <;> simp at hhi ⊢⟩) (by omega)
        exact ⟨y, h15, hr ρ J w y h16 fun e => h17 (by omega)⟩
      split at h11
      · rename_i hk
        exact fin _ h11 fun ρ J w y _ h2 => h2 hk
      · exact fin _ h11 fun ρ J w y h1 _ => h1
  · rename_i id n hl
    obtain ⟨i, h2, rfl, j, h3, h4, h5, h6, ⟨ob, h8, h9⟩, h7⟩ := h
    refine OpX.pure _ h7 fun J0 ρ J B w0 a w hs => ?_
    have hx := hs.ev x
    rw [hl] at hx
    have hmx : mx = none := by
      cases mx with
      | none => rfl
      | some _ => simp at h6
    have hob := hs.objs id ob h8
    have hcap : n ≤ (ρ id).cap := Nat.le_trans h9 hob.2.2.1
    have hr := run_sliceAt (P := P) he hS (a := (ρ id).a) (len := n) (cap := (ρ id).cap) (m := (ρ id).cap) (mx := mx.map a.eval) (bndD_spec hs.ev h2) (bndD_spec hs.ev h3) (.inl ⟨by simp [hmx], rfl⟩) (by omega) h4 (by omega) hcap w
    have hx : a.eval x = .slice (ρ id).a n (ρ id).cap := hx
    refine ⟨.slice (ρ id).a j.toNat (ρ id).cap, ?_, rfl⟩
    have ha : (if (ρ id).cap = (0 : Int).toNat then (ρ id).a else (ρ id).a.map (·.add ((0 : Int).toNat * P.cellsOf e))) = (ρ id).a := by
      split
      · rfl
      · cases (ρ id).a <;> simp [Addr.add]
    rw [ha] at hr
    simp [execOp, ho, hx, hr]
  · rename_i hl
    obtain ⟨i, h2, rfl, j, h3, rfl, h6, h7⟩ := h
    refine OpX.pure _ h7 fun J0 ρ J B w0 a w hs => ?_
    have hx := hs.ev x
    rw [hl] at hx
    have hmx : mx = none := by
      cases mx with
      | none => rfl
      | some _ => simp at h6
    have hr := run_sliceAt (P := P) he hS (a := none) (len := 0) (cap := 0) (m := 0) (mx := mx.map a.eval) (bndD_spec hs.ev h2) (bndD_spec hs.ev h3) (.inl ⟨by simp [hmx], rfl⟩) (by omega) (by omega) (by omega) (by omega) w
    exact ⟨.slice none 0 0, by simp [execOp, ho, hx.1, hr], rfl, rfl⟩
  · exact h.elim

end Go.VL
