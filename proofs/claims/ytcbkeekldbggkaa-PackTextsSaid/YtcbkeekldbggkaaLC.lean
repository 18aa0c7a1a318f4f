import Derived.Test.YtcbkeekldbggkaaLA
import Derived.Laws.FloatArith
import Derived.MapKept
import Derived.Orders
set_option linter.unusedSimpArgs false
set_option linter.unusedVariables false
section
/- The rest of what is computed; calls. -/
namespace Go.VL
open Go Go.RowKit

-- moves
theorem opMove_sound {P : Program} {o : Oper} {x : Operand} (ho : o.op = .move x ∨ o.op = .assign x) {K : St → D → Prop} {st : St} (h : K st (st.ev x)) : OpX P o K st :=
  OpX.pure _ h fun _ _ _ _ _ _ _ hs => ⟨_, by rcases ho with ho | ho <;> simp [execOp, ho], hs.ev x⟩

def opPick (c a b : D) (K : D → Prop) : Prop := ∃ t, c = .v (.bool t) ∧ K (if t then a else b)
theorem opPick_sound {P : Program} {o : Oper} {c a b : Operand} (ho : o.op = .pick c a b) {K : St → D → Prop} {st : St} (h : opPick (st.ev c) (st.ev a) (st.ev b) (K st)) : OpX P o K st := by
  obtain ⟨t, h1, h2⟩ := h
  refine OpX.pure _ h2 fun J0 ρ J B w0 ac w hs => ?_
  have hc := hs.ev c
  rw [h1] at hc
  cases t with
  | true => exact ⟨_, by simp [execOp, ho, hc.1, asBool], hs.ev a⟩
  | false => exact ⟨_, by simp [execOp, ho, hc.1, asBool], hs.ev b⟩

-- signs
def opUn (op : UnOp) (x : D) (K : D → Prop) : Prop :=
  match op, x with
  | .neg, .v (.int k n) => K (.v (.int k (k.wrap (0 - n))))
  | .xor, .v (.int k n) => K (.v (.int k (abits .xor k (if k.signed then -1 else k.max) n)))
  | .not, .v (.bool b) => K (.v (.bool (!b)))
  | _, _ => False

theorem opUn_sound {P : Program} {o : Oper} {op : UnOp} {t : TypeId} {x : Operand} (ho : o.op = .unOp op t x) {K : St → D → Prop} {st : St} (h : opUn op (st.ev x) (K st)) : OpX P o K st := by
  unfold opUn at h
  split at h
  · rename_i hx
    refine OpX.pure _ h fun J0 ρ J B w0 ac w hs => ?_
    have hc := hs.ev x
    rw [hx] at hc
    exact ⟨_, by simp [execOp, ho, hc.1, Op.unary, Op.intArith], rfl, rfl⟩
  · rename_i hx
    refine OpX.pure _ h fun J0 ρ J B w0 ac w hs => ?_
    have hc := hs.ev x
    rw [hx] at hc
    exact ⟨_, by simp [execOp, ho, hc.1, Op.unary, Op.intBits, abits], rfl, rfl⟩
  · rename_i hx
    refine OpX.pure _ h fun J0 ρ J B w0 ac w hs => ?_
    have hc := hs.ev x
    rw [hx] at hc
    exact ⟨_, by simp [execOp, ho, hc.1, Op.unary], rfl, rfl⟩
  · exact h.elim

-- conversions
def intT (P : Program) (t : TypeId) : Option IntKind := match P.underlying t with | some (.int k) => some k | _ => none
theorem intT_spec {P : Program} {t : TypeId} {k : IntKind} (h : intT P t = some k) : P.underlying t = some (.int k) := by
  unfold intT at h
  split at h
  · cases h; assumption
  · cases h
def strT (P : Program) (t : TypeId) : Bool := match P.underlying t with | some .string => true | _ => false
theorem strT_spec {P : Program} {t : TypeId} (h : strT P t = true) : P.underlying t = some .string := by
  unfold strT at h
  split at h
  · assumption
  · cases h
def fltT (P : Program) (t : TypeId) : Option FloatKind := match P.underlying t with | some (.float k) => some k | _ => none
theorem fltT_spec {P : Program} {t : TypeId} {k : FloatKind} (h : fltT P t = some k) : P.underlying t = some (.float k) := by
  unfold fltT at h
  split at h
  · cases h; assumption
  · cases h

/-- Octets as numbers. -/
def bytesOf : List D → Option (List Int)
  | [] => some []
  | .v (.int .u8 n) :: ds => (bytesOf ds).map (n :: ·)
  | _ => none

theorem bytesOf_map (l : List Int) : bytesOf (l.map fun n => .v (.int .u8 n)) = some l := by
  induction l with
  | nil => rfl
  | cons n l ih => simp [bytesOf, ih]

theorem bytesOf_rel {ρ : Nat → Loc} {J : Nat → Prop} {w : World} : ∀ {l : List D} {ns : List Int} {vs : List Value}, bytesOf l = some ns → RelDs ρ J w l vs → vs = ns.map (Value.int .u8)
  | [], ns, vs, h, hr => by cases h; exact hr
  | d :: ds, ns, vs, h, hr => by
    obtain ⟨x, xs, rfl, h2, h3⟩ := hr
    cases d with
    | v y =>
      cases y with
      | int k n =>
        cases k <;> simp only [bytesOf, Option.map_eq_some_iff, reduceCtorEq] at h
        obtain ⟨ms, hm, rfl⟩ := h
        rw [bytesOf_rel hm h3, h2.1]
        rfl
      | _ => simp [bytesOf] at h
    | _ => simp [bytesOf] at h

theorem bytesOf_mem : ∀ {l : List D} {ns : List Int}, bytesOf l = some ns → ∀ d ∈ l, d.width = 1 ∧ d.storable = true
  | [], ns, _, d, hd => by simp at hd
  | e :: ds, ns, h, d, hd => by
    cases e with
    | v y =>
      cases y with
      | int k n =>
        cases k <;> simp only [bytesOf, Option.map_eq_some_iff, reduceCtorEq] at h
        obtain ⟨ms, hm, rfl⟩ := h
        rcases List.mem_cons.1 hd with rfl | hd
        · exact ⟨rfl, rfl⟩
        · exact bytesOf_mem hm d hd
      | _ => simp [bytesOf] at h
    | _ => simp [bytesOf] at h

def opConvert (P : Program) (s t : TypeId) (x : D) (K : D → Prop) (st : St) : Prop :=
  match x with
  | .v (.int _ n) => (P.underlying s).isSome = true ∧ match intT P t with | some k => K (.v (.int k (k.wrap n))) | none => ∃ k, fltT P t = some k ∧ K (.v (.float k (k.nearest n)))
  | .v (.float f b) => (P.underlying s).isSome = true ∧ ∃ k, intT P t = some k ∧ ∃ n, floatToIntVal f b k = some n ∧ K (.v (.int k n))
  | .v (.slice none 0 0) => ∃ e, elT P s = some e ∧ intT P e = some .u8 ∧ strT P t = true ∧ K (.v (.string (strOfNums [])))
  | .nil0 => ∃ e, elT P s = some e ∧ intT P e = some .u8 ∧ strT P t = true ∧ K (.v (.string (strOfNums [])))
  | .lst l => ∃ e, elT P s = some e ∧ intT P e = some .u8 ∧ strT P t = true ∧ ∃ ns, bytesOf l = some ns ∧ K (.v (.string (strOfNums ns)))
  | .ref r n => ∃ e, elT P s = some e ∧ intT P e = some .u8 ∧ strT P t = true ∧ ∃ ob, st.H r = some ob ∧ ob.S = 1 ∧ n ≤ ob.els.length ∧ ∃ ns, bytesOf (ob.els.take n) = some ns ∧ K (.v (.string (strOfNums ns)))
  | _ => False

theorem run_bytesStr {P : Program} {w : World} {s t e : TypeId} (hs : P.underlying s = some (.slice e)) (he : P.underlying e = some (.int .u8)) (ht : P.underlying t = some .string) {a : Option Addr} {n c : Nat} {ns : List Int}
    (hl : ns.length = n) (h : ns = [] ∨ ∃ b off, a = some ⟨b, off, none⟩ ∧ ∀ (j : Nat) (u : Value), (ns.map (Value.int .u8))[j]? = some u → w.cell? ⟨b, off + j, none⟩ = some u) :
    (convert s t (.slice a n c)).run P w = .ok (.string (strOfNums ns)) w := by
  rcases h with rfl | ⟨b, off, rfl, h⟩
  · simp only [List.length_nil] at hl
    subst hl
    cases a with
    | none => exact run_convert_bytes_nil w s e hs he 0 c t ht
    | some ad =>
      rw [run_convert_bytes_string w s t e _ 0 c hs he ht, run_bytesToString w _ 0 c [] (by simp [loadCells, loadCellsFrom])]
      rfl
  · refine run_convert_bytes_arg w s e hs he b off n c ns hl (fun i hi => h i _ ?_) t ht
    have hi' : i < ns.length := by omega
    simp [List.getElem?_eq_getElem hi', List.getD]

theorem flat_ints (k : IntKind) (ns : List Int) : flat (ns.map (Value.int k)) = ns.map (Value.int k) := by
  induction ns with
  | nil => rfl
  | cons n ns ih => rw [List.map_cons, flat_cons, ih]; rfl

theorem opConvert_sound {P : Program} {o : Oper} {s t : TypeId} {x : Operand} (ho : o.op = .convert s t x) {K : St → D → Prop} {st : St} (h : opConvert P s t (st.ev x) (K st) st) : OpX P o K st := by
  unfold opConvert at h
  split at h
  · rename_i k0 n hx
    obtain ⟨h1, h2⟩ := h
    obtain ⟨ds, hds⟩ := Option.isSome_iff_exists.1 h1
    split at h2
    · rename_i k hk
      refine OpX.pure _ h2 fun J0 ρ J B w0 ac w hs => ?_
      have hc := hs.ev x
      rw [hx] at hc
      refine ⟨_, ?_, rfl, rfl⟩
      simp only [execOp, ho, hc.1, convert, Sem.run_bind, run_underlying hds, run_underlying (intT_spec hk), Result.andThen_ok]
      simp [Conv.intToInt]
    · obtain ⟨k, hk, h3⟩ := h2
      refine OpX.pure _ h3 fun J0 ρ J B w0 ac w hs => ?_
      have hc := hs.ev x
      rw [hx] at hc
      refine ⟨_, ?_, rfl, rfl⟩
      simp only [execOp, ho, hc.1, convert, Sem.run_bind, run_underlying hds, run_underlying (fltT_spec hk), Result.andThen_ok]
      simp [Conv.intToFloat]
  · rename_i f b hx
    obtain ⟨h1, k, h2, n, h3, h4⟩ := h
    refine OpX.pure _ h4 fun J0 ρ J B w0 ac w hs => ?_
    have hc := hs.ev x
    rw [hx] at hc
    have hr := run_convert_float_int (P := P) (w := w) s t f k b n h1 (intT_spec h2) h3
    exact ⟨_, by simp [execOp, ho, hc.1, hr], rfl, rfl⟩
  · rename_i hx
    obtain ⟨e, h1, h2, h3, h4⟩ := h
    refine OpX.pure _ h4 fun J0 ρ J B w0 ac w hs => ?_
    have hc := hs.ev x
    rw [hx] at hc
    have hr := run_bytesStr (P := P) (w := w) (elT_spec h1) (intT_spec h2) (strT_spec h3) (a := none) (n := 0) (c := 0) (ns := []) rfl (.inl rfl)
    exact ⟨_, by simp [execOp, ho, hc.1, hr], rfl, rfl⟩
  · rename_i hx
    obtain ⟨e, h1, h2, h3, h4⟩ := h
    refine OpX.pure _ h4 fun J0 ρ J B w0 ac w hs => ?_
    have hc := hs.ev x
    rw [hx] at hc
    obtain ⟨ad, hc⟩ := hc
    have hr := run_bytesStr (P := P) (w := w) (elT_spec h1) (intT_spec h2) (strT_spec h3) (a := ad) (n := 0) (c := 0) (ns := []) rfl (.inl rfl)
    exact ⟨_, by simp [execOp, ho, hc, hr], rfl, rfl⟩
  · rename_i l hx
    obtain ⟨e, h1, h2, h3, ns, h4, h5⟩ := h
    refine OpX.pure _ h5 fun J0 ρ J B w0 ac w hs => ?_
    have hc := hs.ev x
    rw [hx] at hc
    obtain ⟨ad, c, vs, g1, g2, g3, g4, g0, g5, g6⟩ := hc
    have hvs := bytesOf_rel h4 (RelPs.toD (ρ := ρ) g5)
    have hlen : ns.length = l.length := by have := (RelPs_get _ _ g5).1; rw [hvs] at this; simpa using this.symm
    have hr := run_bytesStr (P := P) (w := w) (elT_spec h1) (intT_spec h2) (strT_spec h3) (a := ad) (n := l.length) (c := c) (ns := ns) hlen (by
      have g6' : RowAt J w ad (flat vs) := g6
      rw [hvs, flat_ints] at g6'
      rcases g6' with g6' | ⟨b, off, g7, _, g8⟩
      · left; simpa using g6'
      · exact .inr ⟨b, off, g7, g8⟩)
    exact ⟨_, by simp [execOp, ho, g1, hr], rfl, rfl⟩
  · rename_i r n hx
    obtain ⟨e, h1, h2, h3, ob, h4, h5, h6, ns, h7, h8⟩ := h
    refine OpX.pure _ h8 fun J0 ρ J B w0 ac w hs => ?_
    have hc : ac.eval x = .slice (ρ r).a n (ρ r).cap := by have := hs.ev x; rw [hx] at this; exact this
    obtain ⟨us, g1, g2, ⟨ad, c, g3, g4⟩⟩ := itemsD_src hs (S := 1) (by decide) (x := .ref r n) (y := ac.eval x) (by rw [← hx]; exact hs.ev x) (xs := ob.els.take n) (by simp [itemsD, h4, h5, h6]) (bytesOf_mem h7)
    have hvs := bytesOf_rel h7 g1
    have hlen : ns.length = (ob.els.take n).length := by have := (RelDs_get _ _ g1).1; rw [hvs] at this; simpa using this.symm
    have hr := run_bytesStr (P := P) (w := w) (elT_spec h1) (intT_spec h2) (strT_spec h3) (a := ad) (n := (ob.els.take n).length) (c := c) (ns := ns) hlen (by
      rw [hvs, flat_ints] at g4
      rcases g4 with g4 | ⟨ad', rfl, g5⟩
      · left; simpa using g4
      · by_cases hns : ns = []
        · exact .inl hns
        · have hcap := (hs.objs r ob h4).cells (by omega)
          rw [hc] at g3
          simp only [Value.slice.injEq] at g3
          obtain ⟨_, _, _, _, _, vs, k6, _, k8⟩ := hcap
          rcases k8 with ⟨_, k8⟩ | ⟨_, g, cur, k9, _⟩
          · exfalso
            subst k8
            have := (RelDs_get _ _ k6).1
            have h0 : ob.els = [] := List.eq_nil_of_length_eq_zero (by simpa using this)
            rw [h0] at hlen
            exact hns (List.eq_nil_of_length_eq_zero (by simpa using hlen))
          · rw [k9] at g3
            have : ad' = ⟨g, 0, none⟩ := by simpa using g3.1.symm
            subst this
            exact .inr ⟨g, 0, rfl, fun j u hu => by have := g5 j u hu; rwa [Addr_add] at this⟩)
    exact ⟨.string (strOfNums ns), by simp only [execOp, ho, g3, Sem.run_bind, hr, Result.andThen_ok, Sem.run_pure], rfl, rfl⟩
  · exact h.elim

-- lengths
def opLen (P : Program) (t : TypeId) (x : D) (K : D → Prop) : Prop :=
  match x with
  | .lst l => sliceT P t = true ∧ K (.v (.int .i64 l.length))
  | .ref _ n => sliceT P t = true ∧ K (.v (.int .i64 n))
  | .sub _ _ n => sliceT P t = true ∧ K (.v (.int .i64 n))
  | .v (.slice none 0 0) => sliceT P t = true ∧ K (.v (.int .i64 0))
  | .nil0 => sliceT P t = true ∧ K (.v (.int .i64 0))
  | .v (.string s) => strT P t = true ∧ K (.v (.int .i64 s.size))
  | .agg _ => ∃ n e, arrT P t = some (n, e) ∧ K (.v (.int .i64 n))
  | _ => False

theorem opLen_sound {P : Program} {o : Oper} {t : TypeId} {x : Operand} (ho : o.op = .call { callee := .builtin .len, args := #[x], argTypes := #[t] }) {K : St → D → Prop} {st : St} (h : opLen P t (st.ev x) (K st)) : OpX P o K st := by
  have hrunE : ∀ {ac : Act} {w : World} {r : Value}, (Builtin.len_ #[t] o.type #[ac.eval x]).run P w = .ok r w → (execOp ac.eval o).run P w = .ok (.value r) w := by
    intro ac w r h11
    simp only [execOp, ho, resolve, invoke, builtin, Sem.run_bind, Sem.run_pure, Result.andThen_ok, List.map_toArray, List.map_cons, List.map_nil, h11]
  unfold opLen at h
  split at h
  · rename_i l hx
    obtain ⟨h1, h2⟩ := h
    obtain ⟨e, he⟩ := sliceT_spec h1
    refine OpX.pure _ h2 fun J0 ρ J B w0 ac w hs => ?_
    have hc := hs.ev x
    rw [hx] at hc
    obtain ⟨ad, c, vs, g1, _⟩ := hc
    exact ⟨_, hrunE (r := .int .i64 l.length) (by simp [Builtin.len_, run_underlying he, g1, goInt]), rfl, rfl⟩
  · rename_i r n hx
    obtain ⟨h1, h2⟩ := h
    obtain ⟨e, he⟩ := sliceT_spec h1
    refine OpX.pure _ h2 fun J0 ρ J B w0 ac w hs => ?_
    have hc : ac.eval x = .slice (ρ r).a n (ρ r).cap := by have := hs.ev x; rw [hx] at this; exact this
    exact ⟨_, hrunE (r := .int .i64 n) (by simp [Builtin.len_, run_underlying he, hc, goInt]), rfl, rfl⟩
  · rename_i r lo n hx
    obtain ⟨h1, h2⟩ := h
    obtain ⟨e, he⟩ := sliceT_spec h1
    refine OpX.pure _ h2 fun J0 ρ J B w0 ac w hs => ?_
    have hc := hs.ev x
    rw [hx] at hc
    obtain ⟨ad, hc, _⟩ := hc
    exact ⟨_, hrunE (r := .int .i64 n) (by simp [Builtin.len_, run_underlying he, hc, goInt]), rfl, rfl⟩
  · rename_i hx
    obtain ⟨h1, h2⟩ := h
    obtain ⟨e, he⟩ := sliceT_spec h1
    refine OpX.pure _ h2 fun J0 ρ J B w0 ac w hs => ?_
    have hc := hs.ev x
    rw [hx] at hc
    exact ⟨_, hrunE (r := .int .i64 0) (by simp [Builtin.len_, run_underlying he, hc.1, goInt]), rfl, rfl⟩
  · rename_i hx
    obtain ⟨h1, h2⟩ := h
    obtain ⟨e, he⟩ := sliceT_spec h1
    refine OpX.pure _ h2 fun J0 ρ J B w0 ac w hs => ?_
    have hc := hs.ev x
    rw [hx] at hc
    obtain ⟨ad, hc⟩ := hc
    exact ⟨_, hrunE (r := .int .i64 0) (by simp [Builtin.len_, run_underlying he, hc, goInt]), rfl, rfl⟩
  · rename_i s hx
    obtain ⟨h1, h2⟩ := h
    have he := strT_spec h1
    refine OpX.pure _ h2 fun J0 ρ J B w0 ac w hs => ?_
    have hc := hs.ev x
    rw [hx] at hc
    exact ⟨_, hrunE (r := .int .i64 s.size) (by simp [Builtin.len_, run_underlying he, hc.1, goInt]), rfl, rfl⟩
  · rename_i l hx
    obtain ⟨n, e, h1, h2⟩ := h
    have he := arrT_spec h1
    refine OpX.pure _ h2 fun J0 ρ J B w0 ac w hs => ?_
    exact ⟨_, hrunE (r := .int .i64 n) (by simp [Builtin.len_, run_underlying he, goInt]), rfl, rfl⟩
  · exact h.elim

-- the greater, and the lesser, of numbers
def minD : D → List D → Option D
  | x, [] => some x
  | .v (.int k x), .v (.int _ y) :: r => minD (.v (.int k (if y < x then y else x))) r
  | _, _ => none
def maxD : D → List D → Option D
  | x, [] => some x
  | .v (.int k x), .v (.int _ y) :: r => maxD (.v (.int k (if y > x then y else x))) r
  | _, _ => none

theorem minD_run {P : Program} {ρ : Nat → Loc} {J : Nat → Prop} {w : World} : ∀ (l : List D) (x r : D) (y : Value) (ys : List Value), minD x l = some r → RelD ρ J w x y → RelDs ρ J w l ys → ∃ z, (ys.foldlM Builtin.min2 y).run P w = .ok z w ∧ RelD ρ J w r z
  | [], x, r, y, ys, h, hx, hl => by
    simp only [RelDs] at hl
    subst hl
    simp only [minD, Option.some.injEq] at h
    subst h
    exact ⟨y, by simp, hx⟩
  | d :: ds, x, r, y, ys, h, hx, hl => by
    obtain ⟨z, zs, rfl, h2, h3⟩ := hl
    unfold minD at h
    split at h
    · exact absurd ‹d :: ds = []› (by simp)
    · rename_i k a k' b ds' h4
      cases h4
      obtain ⟨u, h5, h6⟩ := minD_run ds _ r (.int k (if b < a then b else a)) zs h ⟨rfl, rfl⟩ h3
      refine ⟨u, ?_, h6⟩
      simp only [List.foldlM_cons, Sem.run_bind, hx.1, h2.1, Builtin.min2, Sem.run_pure, Result.andThen_ok]
      exact h5
    · cases h

theorem maxD_run {P : Program} {ρ : Nat → Loc} {J : Nat → Prop} {w : World} : ∀ (l : List D) (x r : D) (y : Value) (ys : List Value), maxD x l = some r → RelD ρ J w x y → RelDs ρ J w l ys → ∃ z, (ys.foldlM Builtin.max2 y).run P w = .ok z w ∧ RelD ρ J w r z
  | [], x, r, y, ys, h, hx, hl => by
    simp only [RelDs] at hl
    subst hl
    simp only [maxD, Option.some.injEq] at h
    subst h
    exact ⟨y, by simp, hx⟩
  | d :: ds, x, r, y, ys, h, hx, hl => by
    obtain ⟨z, zs, rfl, h2, h3⟩ := hl
    unfold maxD at h
    split at h
    · exact absurd ‹d :: ds = []› (by simp)
    · rename_i k a k' b ds' h4
      cases h4
      obtain ⟨u, h5, h6⟩ := maxD_run ds _ r (.int k (if b > a then b else a)) zs h ⟨rfl, rfl⟩ h3
      refine ⟨u, ?_, h6⟩
      simp only [List.foldlM_cons, Sem.run_bind, hx.1, h2.1, Builtin.max2, Sem.run_pure, Result.andThen_ok]
      exact h5
    · cases h

theorem RelDs_ev {ρ : Nat → Loc} {J : Nat → Prop} {w : World} {st : St} {a : Act} (hs : ∀ x, RelD ρ J w (st.ev x) (a.eval x)) : ∀ (l : List Operand), RelDs ρ J w (l.map st.ev) (l.map a.eval)
  | [] => rfl
  | x :: l => ⟨_, _, rfl, hs x, RelDs_ev hs l⟩

def opMin (l : List D) (K : D → Prop) : Prop := match l with | x :: r => ∃ z, minD x r = some z ∧ K z | [] => False
def opMax (l : List D) (K : D → Prop) : Prop := match l with | x :: r => ∃ z, maxD x r = some z ∧ K z | [] => False

/-- Complex numbers and their parts. -/
def opCx (b : Builtin) (l : List D) (K : D → Prop) : Prop :=
  match b, l with
  | .complex, [.v (.float k x), .v (.float k' y)] => k = k' ∧ K (.v (.complex k x y))
  | .real, [.v (.complex k x _)] => K (.v (.float k x))
  | .imag, [.v (.complex k _ y)] => K (.v (.float k y))
  | _, _ => False

theorem opCx_sound {P : Program} {o : Oper} {b : Builtin} {xs : Array Operand} {ts : Array TypeId} (ho : o.op = .call { callee := .builtin b, args := xs, argTypes := ts }) {K : St → D → Prop} {st : St} (h : opCx b (xs.toList.map st.ev) (K st)) : OpX P o K st := by
  unfold opCx at h
  split at h
  · rename_i k x k' y hx
    obtain ⟨rfl, h2⟩ := h
    refine OpX.pure _ h2 fun J0 ρ J B w0 ac w hs => ?_
    have hl := RelDs_ev hs.ev xs.toList
    rw [hx] at hl
    obtain ⟨y1, ys, h3, h4, y2, zs, h5, h6, h7⟩ := hl
    have h7 : zs = [] := h7
    subst h7 h5
    have : xs.map ac.eval = #[.float k x, .float k y] := by
      apply Array.ext'
      simpa [h4.1, h6.1] using h3
    refine ⟨_, ?_, rfl, rfl⟩
    have h8 : ∀ (ts : Array TypeId) (ty : TypeId), Builtin.complex_ ts ty #[.float k x, .float k y] = (if k = k then pure (.complex k x y) else stuck "complex: parts of different kinds") := fun _ _ => rfl
    simp only [execOp, ho, resolve, invoke, builtin, Sem.run_bind, Sem.run_pure, Result.andThen_ok, this, h8, if_true]
  · rename_i k x y hx
    refine OpX.pure _ h fun J0 ρ J B w0 ac w hs => ?_
    have hl := RelDs_ev hs.ev xs.toList
    rw [hx] at hl
    obtain ⟨y1, ys, h3, h4, h7⟩ := hl
    have h7 : ys = [] := h7
    subst h7
    have : xs.map ac.eval = #[.complex k x y] := by
      apply Array.ext'
      simpa [h4.1] using h3
    refine ⟨_, ?_, rfl, rfl⟩
    have h8 : ∀ (ts : Array TypeId) (ty : TypeId), Builtin.real_ ts ty #[.complex k x y] = pure (.float k x) := fun _ _ => rfl
    simp only [execOp, ho, resolve, invoke, builtin, Sem.run_bind, Sem.run_pure, Result.andThen_ok, this, h8]
  · rename_i k x y hx
    refine OpX.pure _ h fun J0 ρ J B w0 ac w hs => ?_
    have hl := RelDs_ev hs.ev xs.toList
    rw [hx] at hl
    obtain ⟨y1, ys, h3, h4, h7⟩ := hl
    have h7 : ys = [] := h7
    subst h7
    have : xs.map ac.eval = #[.complex k x y] := by
      apply Array.ext'
      simpa [h4.1] using h3
    refine ⟨_, ?_, rfl, rfl⟩
    have h8 : ∀ (ts : Array TypeId) (ty : TypeId), Builtin.imag_ ts ty #[.complex k x y] = pure (.float k y) := fun _ _ => rfl
    simp only [execOp, ho, resolve, invoke, builtin, Sem.run_bind, Sem.run_pure, Result.andThen_ok, this, h8]
  · exact h.elim

theorem opMin_sound {P : Program} {o : Oper} {xs : Array Operand} {ts : Array TypeId} (ho : o.op = .call { callee := .builtin .min, args := xs, argTypes := ts }) {K : St → D → Prop} {st : St} (h : opMin (xs.toList.map st.ev) (K st)) : OpX P o K st := by
  unfold opMin at h
  split at h
  · rename_i x r hx
    obtain ⟨z, h1, h2⟩ := h
    refine OpX.pure _ h2 fun J0 ρ J B w0 ac w hs => ?_
    have hl := RelDs_ev hs.ev xs.toList
    rw [hx] at hl
    obtain ⟨y, ys, h3, h4, h5⟩ := hl
    obtain ⟨u, h6, h7⟩ := minD_run (P := P) r x z y ys h1 h4 h5
    refine ⟨u, ?_, h7⟩
    have : (xs.map ac.eval).toList = y :: ys := by simpa using h3
    simp only [execOp, ho, resolve, invoke, builtin, Sem.run_bind, Sem.run_pure, Result.andThen_ok, Builtin.min_, this, h6]
  · exact h.elim

theorem opMax_sound {P : Program} {o : Oper} {xs : Array Operand} {ts : Array TypeId} (ho : o.op = .call { callee := .builtin .max, args := xs, argTypes := ts }) {K : St → D → Prop} {st : St} (h : opMax (xs.toList.map st.ev) (K st)) : OpX P o K st := by
  unfold opMax at h
  split at h
  · rename_i x r hx
    obtain ⟨z, h1, h2⟩ := h
    refine OpX.pure _ h2 fun J0 ρ J B w0 ac w hs => ?_
    have hl := RelDs_ev hs.ev xs.toList
    rw [hx] at hl
    obtain ⟨y, ys, h3, h4, h5⟩ := hl
    obtain ⟨u, h6, h7⟩ := maxD_run (P := P) r x z y ys h1 h4 h5
    refine ⟨u, ?_, h7⟩
    have : (xs.map ac.eval).toList = y :: ys := by simpa using h3
    simp only [execOp, ho, resolve, invoke, builtin, Sem.run_bind, Sem.run_pure, Result.andThen_ok, Builtin.max_, this, h6]
  · exact h.elim

-- parts of several results
def opExtract (x : D) (i : Nat) (K : D → Prop) : Prop := match x with | .tup l => ∃ r, l[i]? = some r ∧ K r | _ => False
theorem opExtract_sound {P : Program} {o : Oper} {x : Operand} {i : Nat} (ho : o.op = .extract x i) {K : St → D → Prop} {st : St} (h : opExtract (st.ev x) i (K st)) : OpX P o K st := by
  unfold opExtract at h
  split at h
  · rename_i l hx
    obtain ⟨r, h1, h2⟩ := h
    refine OpX.pure _ h2 fun J0 ρ J B w0 ac w hs => ?_
    have hc := hs.ev x
    rw [hx] at hc
    obtain ⟨vs, h3, h4⟩ := hc
    obtain ⟨y, h5, h6⟩ := (RelDs_get _ _ h4).2 i r h1
    exact ⟨y, by simp [execOp, ho, h3, Instr.extract, h5], h6⟩
  · exact h.elim

-- function values
theorem opMakeFunc_sound {P : Program} {o : Oper} {fn : Fn} {caps : Array Operand} (ho : o.op = .makeFunc fn #[] caps) {K : St → D → Prop} {st : St} (h : K st (.clos fn (caps.toList.map st.ev))) : OpX P o K st :=
  OpX.pure _ h fun J0 ρ J B w0 ac w hs => ⟨.func fn #[] (caps.map ac.eval), by simp [execOp, ho, Instr.makeFunc], caps.toList.map ac.eval, by rw [← Array.toList_map, Array.toArray_toList], RelDs_ev hs.ev _⟩

-- a pointer that is followed
def opNilCheck (x : D) (K : D → Prop) : Prop := match x with | .ptr d => K (.ptr d) | .adr i j k => K (.adr i j k) | _ => False
theorem opNilCheck_sound {P : Program} {o : Oper} {x : Operand} (ho : o.op = .nilCheck x) {K : St → D → Prop} {st : St} (h : opNilCheck (st.ev x) (K st)) : OpX P o K st := by
  unfold opNilCheck at h
  split at h
  · rename_i d hx
    refine OpX.pure _ h fun J0 ρ J B w0 ac w hs => ?_
    have hc := hs.ev x
    rw [hx] at hc
    have hc' := hc
    obtain ⟨b, off, z, g1, _⟩ := hc
    exact ⟨_, by simp [execOp, ho, g1]; rfl, by rw [← g1]; exact hc'⟩
  · rename_i i j k hx
    refine OpX.pure _ h fun J0 ρ J B w0 ac w hs => ?_
    have hc := hs.ev x
    rw [hx] at hc
    have hc' := hc
    obtain ⟨g, _, g1⟩ := hc
    exact ⟨_, by simp [execOp, ho, g1]; rfl, by rw [← g1]; exact hc'⟩
  · exact h.elim

end Go.VL

end
section
/- Struct literals; calls by contract. -/
namespace Go.VL
open Go Go.RowKit

def cellsD : D → List D
  | .agg l => l
  | d => [d]

/-- The cells of a literal, part by part. -/
def fillD (place : Nat → Option (Nat × Nat)) : List D → List (Nat × D) → Option (List D)
  | cells, [] => some cells
  | cells, (i, v) :: rest =>
    match place i with
    | none => none
    | some (off, size) => if v.width = size ∧ off + size ≤ cells.length ∧ v.storable = true then fillD place (cells.take off ++ cellsD v ++ cells.drop (off + size)) rest else none

theorem cellsD_rel {ρ : Nat → Loc} {J : Nat → Prop} {w : World} {d : D} {y : Value} (h : RelD ρ J w d y) (hs : d.storable = true) : RelDs ρ J w (cellsD d) y.cells.toList := by
  obtain ⟨h1, h2, h3⟩ := RelD_cells h hs
  cases hd : d.isAgg with
  | true =>
    cases d with
    | agg l => obtain ⟨vs, rfl, h4, _⟩ := h; simpa [cellsD, Value.cells] using h4
    | loc _ _ => cases hs
    | _ => cases hd
  | false =>
    rw [h3 hd]
    have : cellsD d = [d] := by cases d <;> first | rfl | cases hd
    rw [this]
    exact ⟨y, [], rfl, h, rfl⟩

theorem fillD_rel {ρ : Nat → Loc} {J : Nat → Prop} {w : World} (place : Nat → Option (Nat × Nat)) : ∀ (ps : List (Nat × D)) (vs : List (Nat × Value)) (cs : List D) (cells : Array Value) (r : List D),
    ps.length = vs.length → (∀ (j : Nat) (p : Nat × D) (q : Nat × Value), ps[j]? = some p → vs[j]? = some q → p.1 = q.1 ∧ RelD ρ J w p.2 q.2) → RelDs ρ J w cs cells.toList → (∀ c ∈ cells.toList, c.oneCell' = true) → fillD place cs ps = some r →
    ∃ r', Instr.fill place cells vs = some r' ∧ RelDs ρ J w r r'.toList ∧ ∀ c ∈ r'.toList, c.oneCell' = true
  | [], [], cs, cells, r, _, _, hc, h1, h => by simp only [fillD, Option.some.injEq] at h; subst h; exact ⟨cells, rfl, hc, h1⟩
  | [], _ :: _, _, _, _, hl, _, _, _, _ => by simp at hl
  | _ :: _, [], _, _, _, hl, _, _, _, _ => by simp at hl
  | (i, d) :: ps, (k, v) :: vs, cs, cells, r, hl, hp, hc, h1, h => by
    obtain ⟨rfl, hd⟩ := hp 0 (i, d) (k, v) rfl rfl
    unfold fillD at h
    split at h
    · cases h
    · rename_i off size hpl
      split at h
      · rename_i hcond
        obtain ⟨hw, hle, hst⟩ := hcond
        obtain ⟨g1, g2, _⟩ := RelD_cells hd hst
        have hcl : cs.length = cells.size := by have := (RelDs_get _ _ hc).1; simpa using this
        have hfit : off + v.cells.size ≤ cells.size := by rw [g1, hw, ← hcl]; exact hle
        have hf := foldl_cells v off cells hfit
        generalize hcc : v.cells.zipIdx.foldl (fun cs (c, j) => cs.setIfInBounds (off + j) c) cells = cells' at hf
        have hrel : RelDs ρ J w (cs.take off ++ cellsD d ++ cs.drop (off + size)) cells'.toList := by
          rw [hf, g1, hw]
          exact RelDs_app _ _ _ _ (RelDs_app _ _ _ _ (RelDs_take _ _ _ hc) (cellsD_rel hd hst)) (RelDs_drop _ _ _ hc)
        have hone : ∀ c ∈ cells'.toList, c.oneCell' = true := by
          rw [hf]
          intro c hcm
          simp only [List.mem_append] at hcm
          rcases hcm with (hcm | hcm) | hcm
          · exact h1 c (List.mem_of_mem_take hcm)
          · exact g2 c hcm
          · exact h1 c (List.mem_of_mem_drop hcm)
        obtain ⟨r', h2, h3, h4⟩ := fillD_rel place ps vs _ cells' r (by simpa using hl) (fun j p q hj hq => hp (j + 1) p q (by simpa using hj) (by simpa using hq)) hrel hone h
        refine ⟨r', ?_, h3, h4⟩
        unfold Instr.fill
        simp only [hpl]
        rw [if_neg (by simp [g1, hw]; omega), hcc]
        exact h2
      · cases h

def placesT (P : Program) (t : TypeId) : Option (Nat → Option (Nat × Nat)) :=
  match P.underlying t with
  | some (.struct fs) => some fun i => (fs[i]?).map fun f => (f.offset, P.cellsOf f.type)
  | some (.array _ e) => some fun i => some (i * P.cellsOf e, P.cellsOf e)
  | _ => none

/-- Every field of a struct type has cells. -/
def fieldsOK (P : Program) (t : TypeId) : Bool :=
  match P.underlying t with
  | some (.struct fs) => fs.toList.all fun f => decide (0 < P.cellsOf f.type)
  | some (.array _ e) => decide (0 < P.cellsOf e)
  | _ => false

def opBuild (P : Program) (t : TypeId) (parts : List (Nat × D)) (K : D → Prop) : Prop :=
  fieldsOK P t = true ∧ ∃ pl, placesT P t = some pl ∧ ∃ z, zeroT P t = some z ∧ ∃ zs, D.ofVal z = .agg zs ∧ ∃ r, fillD pl zs parts = some r ∧ K (.agg r)

theorem run_places {P : Program} {w : World} : ∀ (fs : List Field), (∀ f ∈ fs, 0 < P.cellsOf f.type) → (fs.mapM fun f => do pure (f.offset, ← sizeOf f.type) : Sem (List (Nat × Nat))).run P w = .ok (fs.map fun f => (f.offset, P.cellsOf f.type)) w
  | [], _ => by simp
  | f :: fs, h => by
    have ih := run_places (P := P) (w := w) fs fun g hg => h g (by simp [hg])
    simp only [List.mapM_cons, Sem.run_bind, run_size (h f (by simp)), Result.andThen_ok, Sem.run_pure, ih, List.map_cons]

theorem opBuild_sound {P : Program} {o : Oper} {t : TypeId} {parts : Array (Nat × Operand)} (ho : o.op = .build t parts) {K : St → D → Prop} {st : St}
    (h : opBuild P t (parts.toList.map fun p => (p.1, st.ev p.2)) (K st)) : OpX P o K st := by
  obtain ⟨h1, pl, h2, z, h3, zs, h4, r, h5, h6⟩ := h
  refine OpX.pure _ h6 fun J0 ρ J B w0 a w hs => ?_
  have hz := RelD_ofVal (ρ := ρ) (J := J) (w := w) z
  rw [h4] at hz
  obtain ⟨us, rfl, g1, g2⟩ := hz
  have hpm : (parts.map fun x => (x.1, a.eval x.2)).toList = parts.toList.map fun p => (p.1, a.eval p.2) := by simp
  obtain ⟨r', g3, g4, g5⟩ := fillD_rel (ρ := ρ) (J := J) (w := w) pl (parts.toList.map fun p => (p.1, st.ev p.2)) (parts.toList.map fun p => (p.1, a.eval p.2)) zs us.toArray r (by simp)
    (fun j p q hj hq => by
      simp only [List.getElem?_map, Option.map_eq_some_iff] at hj hq
      obtain ⟨x, hx, rfl⟩ := hj
      obtain ⟨y, hy, rfl⟩ := hq
      rw [hx] at hy
      cases hy
      exact ⟨rfl, hs.ev _⟩) g1 (by simpa using g2) h5
  refine ⟨.agg r', ?_, r'.toList, by simp, g4, g5⟩
  unfold placesT at h2
  unfold fieldsOK at h1
  split at h2
  · rename_i fs hfs
    simp only [hfs] at h1
    cases h2
    have hfl : ∀ f ∈ fs.toList, 0 < P.cellsOf f.type := fun f hf => by have := List.all_eq_true.1 h1 f hf; simpa using this
    have hrp := run_places (P := P) (w := w) fs.toList hfl
    have hma : (fs.mapM fun f => do pure (f.offset, ← sizeOf f.type) : Sem (Array (Nat × Nat))).run P w = .ok (fs.map fun f => (f.offset, P.cellsOf f.type)) w := by
      rw [Array.mapM_eq_mapM_toList]
      simp only [Sem.run_map, hrp, Result.andThen_ok]
      congr 1
      apply Array.ext'
      simp
    have hpf : (fun i : Nat => (fs.map fun f : Field => (f.offset, P.cellsOf f.type))[i]?) = fun i : Nat => (fs[i]?).map fun f : Field => (f.offset, P.cellsOf f.type) := by funext i; simp
    simp only [execOp, ho, Instr.build, Sem.run_bind, run_zero h3, Result.andThen_ok, run_underlying hfs, hma, hpf, hpm, Value.cells, g3, Sem.run_pure]
  · rename_i n e hfs
    simp only [hfs] at h1
    cases h2
    have he : 0 < P.cellsOf e := by simpa using h1
    simp only [execOp, ho, Instr.build, Sem.run_bind, run_zero h3, Result.andThen_ok, run_underlying hfs, run_size he, hpm, Value.cells, g3, Sem.run_pure]
  · cases h2

-- what was owned is owned no more, and may not change from now on
def nilV : Value → Bool
  | .slice none 0 0 => true
  | _ => false

mutual
def D.nrm : D → D
  | .v x => if nilV x then .lst [] else .v x
  | .nil0 => .lst []
  | .agg l => .agg (D.nrms l)
  | .tup l => .tup (D.nrms l)
  | .clos f l => .clos f (D.nrms l)
  | .ptr d => .ptr d.nrm
  | .any => .any
  | .lst l => .lst l
  | .ref i n => .ref i n
  | .adr i a b => .adr i a b
  | .sub i a b => .sub i a b
  | .loc i l => .loc i l
  | .mp i => .mp i
def D.nrms : List D → List D
  | [] => []
  | d :: ds => d.nrm :: D.nrms ds
end

theorem D.nrms_eq (l : List D) : D.nrms l = l.map D.nrm := by
  induction l with
  | nil => rfl
  | cons d ds ih => simp [D.nrms, ih]

theorem nilV_spec {x : Value} (h : nilV x = true) : x = .slice none 0 0 := by
  unfold nilV at h
  split at h
  · rfl
  · cases h

mutual
theorem D.nrm_width : ∀ d : D, d.nrm.width = d.width
  | .v x => by simp only [D.nrm]; split <;> rfl
  | .nil0 => rfl
  | .agg l => by simp [D.nrm, D.width, D.nrms_eq]
  | .tup _ => rfl
  | .clos _ _ => rfl
  | .ptr _ => rfl
  | .any => rfl
  | .lst _ => rfl
  | .ref _ _ => rfl
  | .adr _ _ _ => rfl
  | .sub _ _ _ => rfl
  | .loc _ _ => rfl
  | .mp _ => rfl
end

theorem RelP_nil {J : Nat → Prop} {w : World} (a : Option Addr) : RelP J w (.lst []) (.slice a 0 0) :=
  ⟨a, 0, [], rfl, Nat.le_refl _, Nat.zero_le _, Nat.zero_le _, fun _ => rfl, rfl, .inl rfl⟩

mutual
theorem RelP.nrm {J : Nat → Prop} {w : World} : ∀ {d : D} {y : Value}, RelP J w d y → RelP J w d.nrm y
  | .any, _, _ => trivial
  | .v x, y, h => by
    simp only [D.nrm]
    split
    · rename_i hn
      rw [nilV_spec hn] at h
      rw [h.1]
      exact RelP_nil none
    · exact h
  | .nil0, y, h => by obtain ⟨a, rfl⟩ := h; exact RelP_nil a
  | .lst _, _, h => h
  | .ptr d, y, h => by
    obtain ⟨b, o, x, h1, h2, h3, h4, h5⟩ := h
    exact ⟨b, o, x, h1, RelP.nrm h2, by rw [D.nrm_width]; exact h3, h4, h5⟩
  | .agg l, y, h => by
    obtain ⟨vs, h1, h2, h3⟩ := h
    exact ⟨vs, h1, RelPs.nrm h2, h3⟩
  | .tup l, y, h => by
    obtain ⟨vs, h1, h2⟩ := h
    exact ⟨vs, h1, RelPs.nrm h2⟩
  | .clos f caps, y, h => by
    obtain ⟨vs, h1, h2⟩ := h
    exact ⟨vs, h1, RelPs.nrm h2⟩
  | .ref _ _, _, h => h.elim
  | .adr _ _ _, _, h => h.elim
  | .sub _ _ _, _, h => h.elim
  | .loc _ _, _, h => h.elim
  | .mp _, _, h => h.elim
theorem RelPs.nrm {J : Nat → Prop} {w : World} : ∀ {l : List D} {vs : List Value}, RelPs J w l vs → RelPs J w (D.nrms l) vs
  | [], _, h => h
  | d :: ds, vs, h => by
    obtain ⟨x, xs, h1, h2, h3⟩ := h
    exact ⟨x, xs, h1, RelP.nrm h2, RelPs.nrm h3⟩
end

mutual
def D.frz (id : Nat) (els : List D) : D → D
  | .ref i n => if i = id then (if n ≤ els.length then .lst (els.take n) else .any) else .ref i n
  | .adr i a b => if i = id then (if b = 0 then (match els[a]? with | some d => .ptr d | none => .any) else .any) else .adr i a b
  | .sub i lo n => if i = id then (if lo + n ≤ els.length then .lst ((els.drop lo).take n) else .any) else .sub i lo n
  | .loc i l => .loc i l
  | .mp i => .mp i
  | .agg l => .agg (D.frzs id els l)
  | .tup l => .tup (D.frzs id els l)
  | .clos f l => .clos f (D.frzs id els l)
  | .any => .any
  | .v x => .v x
  | .nil0 => .nil0
  | .lst l => .lst l
  | .ptr d => .ptr d
def D.frzs (id : Nat) (els : List D) : List D → List D
  | [] => []
  | d :: ds => d.frz id els :: D.frzs id els ds
end

theorem D.frzs_eq (id : Nat) (els l : List D) : D.frzs id els l = l.map (D.frz id els) := by
  induction l with
  | nil => rfl
  | cons d ds ih => simp [D.frzs, ih]

def St.frozen (st : St) (id : Nat) (els : List D) : St :=
  { st with t := fun j => (st.t j).frz id els, H := fun j => if j = id then none else (st.H j).map fun o => { o with els := D.frzs id els o.els } }

/-- What is known of the cells of an object that is given up. -/
structure Given (ρ : Nat → Loc) (J : Nat → Prop) (w : World) (id : Nat) (els : List D) : Prop where
  vs : ∃ vs, RelPs J w els vs ∧ (∀ x ∈ vs, x.cells.size = (ρ id).S) ∧ (∀ d ∈ els, d.width = (ρ id).S) ∧ els.length ≤ capMax ∧ els.length ≤ (ρ id).cap ∧ (ρ id).cap ≤ maxLen ∧
    (els = [] ∨ ∃ g, (ρ id).a = some ⟨g, 0, none⟩ ∧ J g ∧ ∀ (j : Nat) (u : Value), (flat vs)[j]? = some u → w.cell? ⟨g, j, none⟩ = some u)

theorem Given.lst {ρ : Nat → Loc} {J : Nat → Prop} {w : World} {id : Nat} {els : List D} (h : Given ρ J w id els) {n : Nat} (hn : n ≤ els.length) : RelP J w (.lst (els.take n)) (.slice (ρ id).a n (ρ id).cap) := by
  obtain ⟨vs, h1, h2, _, h3, h4, h5, h6⟩ := h
  have hl : (els.take n).length = n := by simp; omega
  refine ⟨(ρ id).a, (ρ id).cap, vs.take n, by rw [hl], by rw [hl]; omega, h5, by rw [hl]; omega, fun ha => ?_, RelPs_take _ h1, ?_⟩
  · rcases h6 with h6 | ⟨g, h7, _⟩
    · rw [h6]; simp
    · rw [ha] at h7; cases h7
  · rcases h6 with h6 | ⟨g, h7, h8, h9⟩
    · left
      rw [h6] at h1
      have : vs = [] := h1
      rw [this]; simp
    · refine .inr ⟨g, 0, h7, h8, fun j u hu => ?_⟩
      rw [Nat.zero_add]
      have hu' : (flat (vs.take n))[j]? = some u := hu
      rw [flat_take (S := (ρ id).S) n vs h2, List.getElem?_take] at hu'
      split at hu'
      · exact h9 j u hu'
      · cases hu'

theorem Given.sub {ρ : Nat → Loc} {J : Nat → Prop} {w : World} {id : Nat} {els : List D} (h : Given ρ J w id els) {lo n : Nat} (hn : lo + n ≤ els.length) {ad : Option Addr} (hc : lo + n ≤ (ρ id).cap) (ha : lo < (ρ id).cap ∨ lo = 0 → ad = (ρ id).a.map (·.add (lo * (ρ id).S))) :
    RelP J w (.lst ((els.drop lo).take n)) (.slice ad n ((ρ id).cap - lo)) := by
  obtain ⟨vs, h1, h2, _, h3, h4, h5, h6⟩ := h
  have hl : ((els.drop lo).take n).length = n := by simp; omega
  have hvl := (RelPs_get _ _ h1).1
  refine ⟨ad, (ρ id).cap - lo, (vs.drop lo).take n, by rw [hl], by rw [hl]; omega, by omega, by rw [hl]; omega, fun hne => ?_, RelPs_take _ (RelPs_drop _ h1), ?_⟩
  · by_cases hlt : lo < (ρ id).cap
    · rcases h6 with h6 | ⟨g, h7, _⟩
      · rw [h6]; simp
      · have := ha (.inl hlt)
        rw [hne, h7] at this; cases this
    · apply List.eq_nil_of_length_eq_zero; omega
  · by_cases hn0 : n = 0
    · subst hn0; left; simp
    have ha := ha (.inl (by omega))
    rcases h6 with h6 | ⟨g, h7, h8, h9⟩
    · rw [h6] at hn; simp at hn; omega
    · rw [h7, Option.map_some] at ha
      refine .inr ⟨g, lo * (ρ id).S, by rw [ha]; simp [Addr_add], h8, fun j u hu => ?_⟩
      have hu' : (flat ((vs.drop lo).take n))[j]? = some u := hu
      rw [flat_take (S := (ρ id).S) n _ fun x hx => h2 x (List.mem_of_mem_drop hx), flat_drop (S := (ρ id).S) lo vs h2, List.getElem?_take] at hu'
      split at hu'
      · rw [List.getElem?_drop] at hu'
        exact h9 _ u hu'
      · cases hu'

mutual
theorem RelD.frozen {ρ : Nat → Loc} {J J' : Nat → Prop} {w : World} {id : Nat} {els : List D} (hJ : ∀ b, J b → J' b) (hg : Given ρ J' w id els) : ∀ (d : D) (y : Value), RelD ρ J w d y → RelD ρ J' w (d.frz id els) y
  | .any, _, _ => trivial
  | .v _, _, h => h
  | .nil0, _, h => h
  | .lst l, y, h => RelP.mono hJ (fun _ _ => rfl) (.lst l) y h
  | .ptr d, y, h => RelP.mono hJ (fun _ _ => rfl) (.ptr d) y h
  | .agg l, y, h => by
    obtain ⟨vs, h1, h2, h3⟩ := h
    exact ⟨vs, h1, RelDs.frozen hJ hg l vs h2, h3⟩
  | .tup l, y, h => by
    obtain ⟨vs, h1, h2⟩ := h
    exact ⟨vs, h1, RelDs.frozen hJ hg l vs h2⟩
  | .clos f caps, y, h => by
    obtain ⟨vs, h1, h2⟩ := h
    exact ⟨vs, h1, RelDs.frozen hJ hg caps vs h2⟩
  | .ref i n, y, h => by
    simp only [D.frz]
    split
    · rename_i hi
      subst hi
      split
      · rename_i hn
        have h' : y = .slice (ρ i).a n (ρ i).cap := h
        rw [h']
        exact hg.lst hn
      · trivial
    · exact h
  | .adr i a b, y, h => by
    simp only [D.frz]
    split
    · rename_i hi
      subst hi
      split
      · rename_i hb
        subst hb
        split
        · rename_i d hd
          obtain ⟨g, h1, h2⟩ := h
          obtain ⟨vs, k1, k2, k2', k3, k4, k5, k6⟩ := hg
          obtain ⟨x, k7, k8⟩ := (RelPs_get _ _ k1).2 a d hd
          have hxs := k2 x (List.mem_of_getElem? k7)
          rcases k6 with k6 | ⟨g', k9, k10, k11⟩
          · rw [k6] at hd; simp at hd
          · rw [h1] at k9
            cases k9
            refine ⟨g, a * (ρ i).S, x, h2, k8, by rw [hxs, k2' d (List.mem_of_getElem? hd)], k10, fun j u hu => ?_⟩
            have hj : j < (ρ i).S := by
              have := (List.getElem?_eq_some_iff.1 hu).1
              simpa [hxs] using this
            have := flat_get vs k2 a j x k7 hj
            rw [hu] at this
            exact k11 _ u this
        · trivial
      · trivial
    · exact h
  | .sub i lo n, y, h => by
    simp only [D.frz]
    split
    · rename_i hi
      subst hi
      split
      · rename_i hn
        obtain ⟨ad, rfl, h2, h3⟩ := h
        exact hg.sub hn h2 h3
      · trivial
    · exact h
  | .loc i l, y, h => h
  | .mp i, y, h => h
theorem RelDs.frozen {ρ : Nat → Loc} {J J' : Nat → Prop} {w : World} {id : Nat} {els : List D} (hJ : ∀ b, J b → J' b) (hg : Given ρ J' w id els) : ∀ (l : List D) (vs : List Value), RelDs ρ J w l vs → RelDs ρ J' w (D.frzs id els l) vs
  | [], _, h => h
  | d :: ds, vs, h => by
    obtain ⟨x, xs, h1, h2, h3⟩ := h
    exact ⟨x, xs, h1, RelD.frozen hJ hg d x h2, RelDs.frozen hJ hg ds xs h3⟩
end

theorem ObjAt.given {ρ : Nat → Loc} {J : Nat → Prop} {w : World} {id : Nat} {o : Own} (h : ObjAt ρ J w id o) (hn : D.noRefs o.els = true) (hw : ∀ d ∈ o.els, d.width = o.S) :
    ∃ J' : Nat → Prop, (∀ b, J b → J' b) ∧ (∀ b, J' b → J b ∨ ((ρ id).a = some ⟨b, 0, none⟩ ∧ 0 < (ρ id).cap)) ∧ Given ρ J' w id (D.nrms o.els) := by
  obtain ⟨vs, h3, h4, h5, h6, h7, h8⟩ : ∃ vs, o.els.length ≤ (ρ id).cap ∧ (ρ id).cap ≤ maxLen ∧ o.els.length ≤ capMax ∧ RelDs ρ J w o.els vs ∧ (∀ x ∈ vs, x.cells.size = (ρ id).S) ∧
      (o.els = [] ∨ ∃ g, (ρ id).a = some ⟨g, 0, none⟩ ∧ 0 < (ρ id).cap ∧ ∀ (j : Nat) (u : Value), (flat vs)[j]? = some u → w.cell? ⟨g, j, none⟩ = some u) := by
    rcases h with ⟨h1, h2, h3, h4, h5, vs, h6, h7, h8⟩ | ⟨h1, h2, h3, h4, vs, h6, g, ob, h7, h8, h9, h10⟩
    · refine ⟨vs, h3, h4, h5, h6, fun x hx => by rw [h1]; exact (h7 x hx).1, ?_⟩
      rcases h8 with ⟨h8, rfl⟩ | ⟨h9, g, cur, h10, h11, h12, h13, h14⟩
      · exact .inl (List.eq_nil_of_length_eq_zero (by omega))
      · refine .inr ⟨g, h10, h9, fun j u hu => ?_⟩
        have h14' : cur.toList.take (o.els.length * o.S) = flat vs := h14
        rw [cell_of_row w g _ cur o.e (0, 0) h12]
        rw [← h14', List.getElem?_take] at hu
        split at hu
        · simpa using hu
        · cases hu
    · have h0 : o.els = [] := by
        cases hl : o.els with
        | nil => rfl
        | cons d ds =>
          exfalso
          rw [hl] at h6
          obtain ⟨x, xs, e1, e2, _⟩ := h6
          have hd := hw d (by rw [hl]; simp)
          rw [h2] at hd
          have hx : (∃ en : MapEntry, x = pairV en) ∨ x = .bool true := by
            unfold KindAt at h10
            split at h10
            · rename_i es clock
              obtain ⟨_, e⟩ := h10
              rw [e1] at e
              cases hes : es.toList with
              | nil => rw [hes] at e; cases e
              | cons en r => rw [hes, List.map_cons] at e; exact .inl ⟨en, (List.cons.inj e).1⟩
            · obtain ⟨_, es, clock, cv, _, _, _, _, _, _, e⟩ := h10
              rw [e1] at e
              exact .inr (List.cons.inj e).1
            · exact h10.elim
          cases d with
          | agg l =>
            obtain ⟨us, e3, e4, _⟩ := e2
            rcases hx with ⟨en, rfl⟩ | rfl
            · have := (RelDs_get _ _ e4).1
              simp only [D.width] at hd
              have h2' : us.length = 2 := by
                have := congrArg (fun v => v.cells.size) e3
                simpa [Value.cells, pairV] using this.symm
              omega
            · cases e3
          | _ => simp [D.width] at hd
      rw [h0] at h6 ⊢
      have : vs = [] := h6
      subst this
      exact ⟨[], Nat.zero_le _, by rw [h3]; simp [maxLen], Nat.zero_le _, rfl, by simp, .inl rfl⟩
  have hP := RelDs.toP h6 hn
  have hlen : (D.nrms o.els).length = o.els.length := by simp [D.nrms_eq]
  have h1 : (ρ id).S = o.S := by rcases h with h | h <;> exact h.1
  refine ⟨fun b => J b ∨ ((ρ id).a = some ⟨b, 0, none⟩ ∧ 0 < (ρ id).cap), fun b hb => .inl hb, fun b hb => hb, vs, RelPs.mono (fun b hb => .inl hb) (fun _ _ => rfl) _ _ hP.nrm, h7, fun d hd => ?_, by rw [hlen]; exact h5, by rw [hlen]; exact h3, h4, ?_⟩
  · rw [D.nrms_eq] at hd
    obtain ⟨d', hd', rfl⟩ := List.mem_map.1 hd
    rw [D.nrm_width, h1]; exact hw d' hd'
  · rcases h8 with h8 | ⟨g, h10, h9, h11⟩
    · left; rw [h8]; rfl
    · exact .inr ⟨g, h10, .inr ⟨h10, h9⟩, h11⟩

/-- An object is given up. -/
theorem Sim.freeze {J0 : Nat → Prop} {ρ : Nat → Loc} {J : Nat → Prop} {B : Bound} {w0 : World} {st : St} {a : Act} {w : World} (h : Sim J0 ρ J B w0 st a w) {id : Nat} {o : Own} (ho : st.H id = some o)
    (hn : D.noRefs o.els = true) (hw : ∀ d ∈ o.els, d.width = o.S) :
    ∃ J', (∀ b, J b → J' b) ∧ Sim J0 ρ J' B w0 (st.frozen id (D.nrms o.els)) a w ∧ Given ρ J' w id (D.nrms o.els) := by
  obtain ⟨J', hJ, hJ', hG⟩ := (h.objs id o ho).given hn hw
  have hold : ∀ i oi, (st.frozen id (D.nrms o.els)).H i = some oi → i ≠ id ∧ ∃ o', st.H i = some o' ∧ oi = { o' with els := D.frzs id (D.nrms o.els) o'.els } := by
    intro i oi hi
    simp only [St.frozen] at hi
    split at hi
    · cases hi
    · rename_i hne
      cases hH : st.H i with
      | none => rw [hH] at hi; cases hi
      | some o' => rw [hH] at hi; cases hi; exact ⟨hne, o', rfl, rfl⟩
  refine ⟨J', hJ, ?_, hG⟩
  refine { old := fun b hb => ?_, own := fun i oi g hi hc ha => ?_, lt := fun b hb => ?_, slots := fun j => RelD.frozen hJ hG _ _ (h.slots j), objs := fun i oi hi => ?_, apart := fun i j oi oj hi hj hne hci hcj => ?_, size := h.size, defers := h.defers, below := h.below, base := h.base, glob := h.glob.mono hJ (fun _ _ => rfl) }
  · rcases hJ' b hb with hb | ⟨hb, hc⟩
    · exact h.old b hb
    · exact .inr (h.own id o b ho hc hb)
  · obtain ⟨_, o', ho', _⟩ := hold i oi hi
    exact h.own i o' g ho' hc ha
  · rcases hJ' b hb with hb | ⟨hb, hc⟩
    · exact h.lt b hb
    · obtain ⟨g, h10, _, h12⟩ := (h.objs id o ho).block hc
      rw [hb] at h10
      cases h10
      exact h12
  · obtain ⟨hne, o', ho', rfl⟩ := hold i oi hi
    refine (h.objs i o' ho').frame rfl rfl rfl (by simp [D.frzs_eq]) hJ (fun _ _ => rfl) (fun vs hv => RelDs.frozen hJ hG _ _ hv) fun g g9 g10 g11 _ => ⟨fun hc => ?_, rfl⟩
    rcases hJ' g hc with hc | ⟨hc, hc2⟩
    · exact g11 hc
    · exact h.apart i id o' o ho' ho hne g9 hc2 (g10.trans hc.symm)
  · obtain ⟨_, o1, h1', _⟩ := hold i oi hi
    obtain ⟨_, o2, h2', _⟩ := hold j oj hj
    exact h.apart i j o1 o2 h1' h2' hne hci hcj

end Go.VL

end
section
/- Maps that are owned, with numbers as keys. -/
namespace Go.VL
open Go Go.RowKit

def mapT (P : Program) (t : TypeId) : Option (TypeId × TypeId) := match P.underlying t with | some (.map k e) => some (k, e) | _ => none
theorem mapT_spec {P : Program} {t k e : TypeId} (h : mapT P t = some (k, e)) : P.underlying t = some (.map k e) := by
  unfold mapT at h
  split at h
  · cases h; assumption
  · cases h

/-- The entries of a map. -/
def kvD (k : IntKind) (l : List (Int × D)) : List D := l.map fun p => .agg [.v (.int k p.1), p.2]
def kvOf (k : IntKind) : List D → Option (List (Int × D))
  | [] => some []
  | .agg [.v (.int k' a), d] :: r => if k' = k then (kvOf k r).map ((a, d) :: ·) else none
  | _ => none
theorem kvOf_spec {k : IntKind} : ∀ {els : List D} {l : List (Int × D)}, kvOf k els = some l → els = kvD k l
  | [], l, h => by simp only [kvOf, Option.some.injEq] at h; subst h; rfl
  | e :: r, l, h => by
    unfold kvOf at h
    split at h
    · rename_i h0; cases h0
    · rename_i k' a d r' h0
      cases h0
      split at h
      · rename_i hk
        subst hk
        simp only [Option.map_eq_some_iff] at h
        obtain ⟨l', h1, rfl⟩ := h
        rw [kvOf_spec h1]; rfl
      · cases h
    · cases h
theorem kvOf_kvD {k : IntKind} : ∀ l : List (Int × D), kvOf k (kvD k l) = some l
  | [] => rfl
  | p :: l => by
    have := kvOf_kvD (k := k) l
    simp only [kvD, List.map_cons] at this ⊢
    simp only [kvOf, if_true]
    rw [this]; rfl
def kvFind (a : Int) : List (Int × D) → Option D
  | [] => none
  | (b, d) :: r => if a = b then some d else kvFind a r
def kvSet (a : Int) (d : D) : List (Int × D) → List (Int × D)
  | [] => [(a, d)]
  | (b, e) :: r => if a = b then (a, d) :: r else (b, e) :: kvSet a d r

theorem kv_find {ρ : Nat → Loc} {J : Nat → Prop} {w : World} {k : IntKind} (a : Int) : ∀ (l : List (Int × D)) (es : List MapEntry) (i : Nat), RelDs ρ J w (kvD k l) (es.map pairV) →
    (kvFind a l = none ∧ Instr.findNow (.int k) (.int k a) es i = some none ∧ ∀ d, kvSet a d l = l ++ [(a, d)]) ∨
    (∃ j e x, kvFind a l = some x ∧ es[j]? = some e ∧ e.key = .int k a ∧ RelD ρ J w x e.val ∧ e.val.oneCell' = true ∧ Instr.findNow (.int k) (.int k a) es i = some (some (i + j, e.val)) ∧
      ∀ d, ∃ l1 l2, l = l1 ++ (a, x) :: l2 ∧ l1.length = j ∧ kvSet a d l = l1 ++ (a, d) :: l2)
  | [], es, i, h => by
    have h0 : es.map pairV = [] := h
    have : es = [] := by simpa using h0
    subst this
    exact .inl ⟨rfl, rfl, fun _ => rfl⟩
  | (b, x) :: l, es, i, h => by
    obtain ⟨y, ys, h1, h2, h3⟩ := h
    cases es with
    | nil => cases h1
    | cons e es =>
      simp only [List.map_cons, List.cons.injEq] at h1
      obtain ⟨rfl, rfl⟩ := h1
      obtain ⟨vs, h4, h5, h6⟩ := h2
      obtain ⟨kv, vs', rfl, h7, h8⟩ := h5
      obtain ⟨vv, vs'', rfl, h9, h10⟩ := h8
      have h10 : vs'' = [] := h10
      subst h10
      have h4' : #[e.key, e.val] = #[kv, vv] := by
        have := h4
        unfold pairV at this
        simpa using this
      obtain ⟨hk1, hv⟩ : e.key = kv ∧ e.val = vv := by simpa using h4'
      have hk : e.key = .int k b := by rw [hk1, h7.1]
      subst hv
      have hone : e.val.oneCell' = true := h6 _ (by simp)
      by_cases hab : a = b
      · subst hab
        refine .inr ⟨0, e, x, if_pos rfl, rfl, hk, h9, hone, ?_, fun d => ⟨[], l, rfl, rfl, if_pos rfl⟩⟩
        unfold Instr.findNow
        rw [hk]
        simp [Instr.sameNow]
      · have hf : Instr.findNow (.int k) (.int k a) (e :: es) i = Instr.findNow (.int k) (.int k a) es (i + 1) := by
          conv => lhs; unfold Instr.findNow
          rw [hk]
          have : (a == b) = false := by simpa using hab
          simp [Instr.sameNow, this]
        rcases kv_find a l es (i + 1) h3 with ⟨g1, g2, g3⟩ | ⟨j, e', x', g1, g2, g3, g4, g5, g6, g7⟩
        · refine .inl ⟨by rw [kvFind, if_neg hab]; exact g1, by rw [hf]; exact g2, fun d => ?_⟩
          rw [kvSet, if_neg hab, g3 d]; rfl
        · refine .inr ⟨j + 1, e', x', by rw [kvFind, if_neg hab]; exact g1, by simpa using g2, g3, g4, g5, by rw [hf, g6]; congr 3; omega, fun d => ?_⟩
          obtain ⟨l1, l2, k1, k2, k3⟩ := g7 d
          exact ⟨(b, x) :: l1, l2, by rw [k1]; rfl, by simp [k2], by rw [kvSet, if_neg hab, k3]; rfl⟩

theorem run_checkKey_int {P : Program} {t : TypeId} {k : IntKind} (h : P.underlying t = some (.int k)) (b : Bool) (v : Value) (w : World) : (Instr.checkKey b 10000 t v).run P w = .ok () w := by
  rw [show (10000 : Nat) = 9999 + 1 from rfl]
  unfold Instr.checkKey
  rw [Sem.run_bind, run_underlying h]
  rfl

def opMakeMap (P : Program) (t : TypeId) (r : Option D) (id : Nat) (K : St → D → Prop) (st : St) : Prop :=
  (mapT P t).isSome = true ∧ (∀ d, r = some d → (intD d).isSome = true) ∧ K ((st.killed id).obj id ⟨t, 0, []⟩) (.mp id)

theorem opMakeMap_sound {P : Program} {o : Oper} {t : TypeId} {r : Option Operand} (id : Nat) (ho : o.op = .makeMap t r) {K : St → D → Prop} {st : St}
    (h : opMakeMap P t (r.map st.ev) id K st) : OpX P o K st := by
  intro J0 ρ J B w0 a w hs Kc Q hKc
  obtain ⟨h1, h2, h3⟩ := h
  obtain ⟨⟨k, e⟩, he⟩ := Option.isSome_iff_exists.1 h1
  have hu := mapT_spec he
  refine wp_value (w' := w.alloc (.map #[] 0)) (y := .map (some w.heap.size)) ?_ (hKc _ (upd ρ id ⟨some ⟨w.heap.size, 0, none⟩, 1, 0⟩) J (.mp id) _ _ h3 rfl ?_ ?_)
  · cases r with
    | none => simp [execOp, ho, Instr.makeMap]
    | some x =>
      obtain ⟨n, hn⟩ := Option.isSome_iff_exists.1 (h2 _ rfl)
      obtain ⟨kk, hk⟩ := intD_spec hn
      have hx := hs.ev x
      rw [hk] at hx
      simp [execOp, ho, Instr.makeMap, run_underlying hu, hx.1, asInt, asIntOf]
  · refine hs.reobj id ⟨t, 0, []⟩ _ none (World.grownBy_alloc w _ none) (fun k hk => by cases hk) (fun g hg1 hg2 => ?_) ?_
    · simp only [Option.some.injEq, Addr.mk.injEq, and_true] at hg2; left; omega
    · refine .inr ⟨by simp [upd_same], rfl, by simp [upd_same], Nat.zero_le _, [], rfl, w.heap.size, .map #[] 0, by simp [upd_same], fun hJ => ?_, heap_alloc_new w _, ⟨by simp, by simp⟩, rfl⟩
      have := hs.lt _ hJ; omega
  · exact ⟨w.heap.size, by simp [upd_same], rfl⟩

/-- What stands at a key. -/
def opLookup (P : Program) (t : TypeId) (x ix : D) (ok : Bool) (K : D → Prop) (st : St) : Prop :=
  ∃ p, mapT P t = some p ∧
  match x, ix with
  | .mp id, .v (.int k a) => intT P p.1 = some k ∧ ∃ ob, st.H id = some ob ∧ ob.S = 0 ∧ ∃ l, kvOf k ob.els = some l ∧
      (match kvFind a l with
      | some d => K (if ok then .tup [d, .v (.bool true)] else d)
      | none => ∃ z, zeroT P p.2 = some z ∧ K (if ok then .tup [D.ofVal z, .v (.bool false)] else D.ofVal z))
  | _, _ => False

theorem ObjAt.map {ρ : Nat → Loc} {J : Nat → Prop} {w : World} {id : Nat} {o : Own} (h : ObjAt ρ J w id o) (hS : o.S = 0) {k : IntKind} {l : List (Int × D)} (hk : kvOf k o.els = some l) : (ρ id).S = o.S ∧ (ρ id).cap = 1 ∧ o.els.length ≤ capMax ∧
    ∃ g es clock, (ρ id).a = some ⟨g, 0, none⟩ ∧ ¬ J g ∧ w.heap[g]? = some (.map es clock) ∧ ((∀ e ∈ es.toList, e.born < clock) ∧ (es.toList.map (·.born)).Nodup) ∧ RelDs ρ J w (kvD k l) (es.toList.map pairV) := by
  rcases h with h | ⟨h1, h2, h3, h4, vs, h5, g, ob, h6, h7, h8, h9⟩
  · have := h.2.1; omega
  · rw [kvOf_spec hk] at h5
    unfold KindAt at h9
    split at h9
    · obtain ⟨h9, rfl⟩ := h9
      exact ⟨h1, h3, h4, g, _, _, h6, h7, h8, h9, h5⟩
    · obtain ⟨_, es, clock, cv, _, _, _, _, _, _, rfl⟩ := h9
      cases l with
      | nil => cases (show _ = [] from h5)
      | cons p l =>
        obtain ⟨x, xs, e1, ⟨us, e2, _⟩, _⟩ := h5
        cases e1
        cases e2
    · exact h9.elim

/-- How many there are, of a map too. -/
def opLenM (P : Program) (t : TypeId) (x : D) (K : D → Prop) (st : St) : Prop :=
  match x with
  | .mp id => ∃ p, mapT P t = some p ∧ ∃ k, intT P p.1 = some k ∧ ∃ ob, st.H id = some ob ∧ ob.S = 0 ∧ ∃ l, kvOf k ob.els = some l ∧ K (.v (.int .i64 l.length))
  | x => opLen P t x K
theorem opLenM_sound {P : Program} {o : Oper} {t : TypeId} {x : Operand} (ho : o.op = .call { callee := .builtin .len, args := #[x], argTypes := #[t] }) {K : St → D → Prop} {st : St} (h : opLenM P t (st.ev x) (K st) st) : OpX P o K st := by
  unfold opLenM at h
  split at h
  · rename_i id hx
    obtain ⟨⟨kt, et⟩, hp, k, _, ob, h2, h3, l, h4, h5⟩ := h
    have hu := mapT_spec hp
    intro J0 ρ J B w0 a w hs Kc Q hKc
    have hX := hs.ev x
    rw [hx] at hX
    obtain ⟨g, ha, hev⟩ := hX
    obtain ⟨m1, m3, m4, g', es, clock, m6, m7, m8, m9, m5⟩ := (hs.objs id ob h2).map h3 h4
    rw [ha] at m6; cases m6
    have hgo := run_getObj_map (P := P) w g es clock m8
    have hlen : l.length = es.size := by
      have := (RelDs_get _ _ m5).1
      simpa [kvD] using this
    refine wp_value (w' := w) (y := .int .i64 l.length) ?_ (hKc _ ρ J _ _ w h5 rfl hs ⟨rfl, rfl⟩)
    simp [execOp, ho, hev, resolve, invoke, builtin, Builtin.len_, run_underlying hu, hgo, goInt, hlen]
  · exact opLen_sound ho h

theorem run_findKey_int {P : Program} {t : TypeId} {k : IntKind} {a : Int} {es : List MapEntry} {r : Option (Nat × Value)} (h : P.underlying t = some (.int k)) (hf : Instr.findNow (.int k) (.int k a) es 0 = some r) (w : World) :
    (Instr.findKey t (.int k a) es).run P w = .ok r w := by
  unfold Instr.findKey
  rw [Sem.run_bind, run_underlying h, Result.andThen_ok, hf]
  rfl

theorem opLookup_sound {P : Program} {o : Oper} {t : TypeId} {x ix : Operand} {ok : Bool} (ho : o.op = .lookup t x ix ok) {K : St → D → Prop} {st : St}
    (h : opLookup P t (st.ev x) (st.ev ix) ok (K st) st) : OpX P o K st := by
  intro J0 ρ J B w0 a w hs Kc Q hKc
  obtain ⟨⟨kt, et⟩, hp, h⟩ := h
  have hu := mapT_spec hp
  split at h
  · rename_i id k n hx hix
    obtain ⟨hk, ob, h1, hS, l, h2, h3⟩ := h
    have hku : P.underlying kt = some (.int k) := intT_spec hk
    have hX := hs.ev x
    rw [hx] at hX
    have hI := hs.ev ix
    rw [hix] at hI
    obtain ⟨g, ha, hev⟩ := hX
    obtain ⟨m1, m3, m4, g', es, clock, m6, m7, m8, m9, m5⟩ := (hs.objs id ob h1).map hS h2
    rw [ha] at m6; cases m6
    have run : ∀ {r : Option (Nat × Value)} {v y : Value}, Instr.findNow (.int k) (.int k n) es.toList 0 = some r →
        (match r with | some (_, u) => v = u ∧ y = (if ok then .tuple #[u, .bool true] else u) | none => zeroT P et = some v ∧ y = (if ok then .tuple #[v, .bool false] else v)) →
        (execOp a.eval o).run P w = .ok (.value y) w := by
      intro r v y hf hy
      have hfk := run_findKey_int hku hf w
      have hgo := run_getObj_map (P := P) w g es clock m8
      have hck := run_checkKey_int (P := P) hku es.isEmpty (.int k n) w
      cases r with
      | none =>
        obtain ⟨hz, rfl⟩ := hy
        cases ok <;> simp [execOp, ho, hev, hI.1, Instr.lookup, run_underlying hu, hgo, hck, hfk, run_zero hz]
      | some q =>
        obtain ⟨rfl, rfl⟩ := hy
        cases ok <;> simp [execOp, ho, hev, hI.1, Instr.lookup, run_underlying hu, hgo, hck, hfk]
    rcases kv_find n l es.toList 0 m5 with ⟨f1, f2, _⟩ | ⟨j, e, x', f1, f2, f3, f4, f5, f6, _⟩
    · rw [f1] at h3
      obtain ⟨z, hz, hK⟩ := h3
      refine wp_value (run f2 ⟨hz, rfl⟩) (hKc _ ρ J _ _ w hK rfl hs ?_)
      cases ok with
      | true => exact ⟨_, rfl, _, _, rfl, RelD_ofVal z, _, _, rfl, ⟨rfl, rfl⟩, rfl⟩
      | false => exact RelD_ofVal z
    · rw [f1] at h3
      refine wp_value (run (v := e.val) f6 ⟨rfl, rfl⟩) (hKc _ ρ J _ _ w h3 rfl hs ?_)
      cases ok with
      | true => exact ⟨_, rfl, _, _, rfl, f4, _, _, rfl, ⟨rfl, rfl⟩, rfl⟩
      | false => exact f4
  · exact h.elim

/-- A key is given a value. -/
def opMapUpdate (P : Program) (t : TypeId) (x ix v : D) (K : St → Prop) (st : St) : Prop :=
  ∃ p, mapT P t = some p ∧ v.isAgg = false ∧ v.storable = true ∧
  match x, ix with
  | .mp id, .v (.int k a) => intT P p.1 = some k ∧ ∃ ob, st.H id = some ob ∧ ob.S = 0 ∧ ∃ l, kvOf k ob.els = some l ∧ l.length < capMax ∧ K (st.obj id ⟨ob.e, 0, kvD k (kvSet a v l)⟩)
  | _, _ => False

theorem two_cells {k : IntKind} {n : Int} {v : Value} (h : v.oneCell' = true) : ∀ x ∈ [Value.int k n, v], x.oneCell' = true := by
  intro c hc
  simp only [List.mem_cons, List.not_mem_nil, or_false] at hc
  rcases hc with rfl | rfl
  · rfl
  · exact h
theorem run_setMap {P : Program} {w : World} {r : Nat} {es : Array MapEntry} {clock : Nat} (o : Obj) (hb : w.heap[r]? = some (.map es clock)) : (setObj r o).run P w = .ok () { w with heap := w.heap.setIfInBounds r o } := by
  simp [setObj, Sem.run, hb]
theorem setHeap_grown (w : World) (g : Nat) (o : Obj) : w.grownBy { w with heap := w.heap.setIfInBounds g o } (some g) :=
  ⟨rfl, rfl, rfl, by simp, fun k _ hk => by simp only; rw [Array.getElem?_setIfInBounds_ne (fun e => hk (by rw [e]))]⟩

theorem kvSet_length (a : Int) (d : D) : ∀ l : List (Int × D), (kvSet a d l).length ≤ l.length + 1
  | [] => by simp [kvSet]
  | (b, e) :: r => by
    have := kvSet_length a d r
    unfold kvSet
    split <;> simp only [List.length_cons] <;> omega

theorem stamp_push {es : Array MapEntry} {clock : Nat} {k v : Value} (h : (∀ e ∈ es.toList, e.born < clock) ∧ (es.toList.map (·.born)).Nodup) :
    (∀ e ∈ (es.push { key := k, val := v, born := clock }).toList, e.born < clock + 1) ∧ ((es.push { key := k, val := v, born := clock }).toList.map (·.born)).Nodup := by
  rw [Array.toList_push]
  constructor
  · intro e he
    rcases List.mem_append.1 he with he | he
    · have := h.1 e he; omega
    · simp only [List.mem_singleton] at he; subst he; show clock < clock + 1; omega
  · rw [List.map_append, List.nodup_append]
    refine ⟨h.2, by simp, fun a ha b hb => ?_⟩
    obtain ⟨e, he, rfl⟩ := List.mem_map.1 ha
    simp only [List.map_cons, List.map_nil, List.mem_singleton] at hb
    subst hb
    have := h.1 e he
    omega
theorem stamp_modify {es : Array MapEntry} {clock j : Nat} {k v : Value} (h : (∀ e ∈ es.toList, e.born < clock) ∧ (es.toList.map (·.born)).Nodup) :
    (∀ e ∈ (es.modify j fun e => { e with key := k, val := v }).toList, e.born < clock) ∧ ((es.modify j fun e => { e with key := k, val := v }).toList.map (·.born)).Nodup := by
  have hb : (es.modify j fun e => { e with key := k, val := v }).toList.map (·.born) = es.toList.map (·.born) := by
    apply List.ext_getElem?
    intro i
    simp only [List.getElem?_map, Array.getElem?_toList, Array.getElem?_modify]
    by_cases hi : j = i
    · simp only [hi, if_true]; cases es[i]? <;> rfl
    · simp only [hi, if_false]
  refine ⟨fun e he => ?_, by rw [hb]; exact h.2⟩
  have : e.born ∈ es.toList.map (·.born) := by rw [← hb]; exact List.mem_map.2 ⟨e, he, rfl⟩
  obtain ⟨e', h1, h2⟩ := List.mem_map.1 this
  have := h.1 e' h1
  omega

theorem opMapUpdate_sound {P : Program} {o : Oper} {t : TypeId} {x ix v : Operand} (ho : o.op = .mapUpdate t x ix v) {K : St → D → Prop} {st : St}
    (h : opMapUpdate P t (st.ev x) (st.ev ix) (st.ev v) (fun s => K s .any) st) : OpX P o K st := by
  intro J0 ρ J B w0 a w hs Kc Q hKc
  obtain ⟨⟨kt, et⟩, hp, hva, hvs, h⟩ := h
  have hu := mapT_spec hp
  have hV := hs.ev v
  obtain ⟨_, hv1, hv2⟩ := RelD_cells hV hvs
  have hv3 := hv2 hva
  have hone : (a.eval v).oneCell' = true := hv1 _ (by rw [hv3]; simp)
  split at h
  · rename_i id k n hx hix
    obtain ⟨hk, ob, h1, hS, l, h2, hcm, hK⟩ := h
    have hku : P.underlying kt = some (.int k) := intT_spec hk
    have hX := hs.ev x
    rw [hx] at hX
    have hI := hs.ev ix
    rw [hix] at hI
    obtain ⟨g, ha, hev⟩ := hX
    obtain ⟨m1, m3, m4, g', es, clock, m6, m7, m8, m9, m5⟩ := (hs.objs id ob h1).map hS h2
    rw [ha] at m6; cases m6
    have hck := run_checkKey_int (P := P) hku false (.int k n) w
    have hgo := run_getObj_map (P := P) w g es clock m8
    have hset := fun ob' => run_setMap (P := P) ob' m8
    have hglt : g < w.heap.size := (Array.getElem?_eq_some_iff.1 m8).1
    have fin : ∀ (es' : Array MapEntry) (clock' : Nat), (execOp a.eval o).run P w = .ok .skip { w with heap := w.heap.setIfInBounds g (.map es' clock') } → ((∀ e ∈ es'.toList, e.born < clock') ∧ (es'.toList.map (·.born)).Nodup) → RelDs ρ J w (kvD k (kvSet n (st.ev v) l)) (es'.toList.map pairV) → o.wp P a w Kc Q := by
      intro es' clock' hr hst hrel
      refine wp_skip' hr (hKc _ ρ J .any undef _ hK rfl ?_ trivial)
      refine hs.modobj id ob _ g h1 (by omega) ha (setHeap_grown w g _) ?_
      refine .inr ⟨by rw [m1, hS], rfl, m3, ?_, es'.toList.map pairV, ?_, g, .map es' clock', ha, m7, by simp [hglt], hst, rfl⟩
      · have := kvSet_length n (st.ev v) l
        simp only [kvD, List.length_map]; omega
      · refine RelDs.mono (fun _ => rfl) (fun _ h => h) (fun b hb => ?_) _ _ hrel
        simp only
        rw [Array.getElem?_setIfInBounds_ne (fun e => m7 (by rw [e]; exact hb))]
    rcases kv_find n l es.toList 0 m5 with ⟨f1, f2, f3⟩ | ⟨j, e, x', f1, f2, f3, f4, f5, f6, f7⟩
    · have hfk := run_findKey_int hku f2 w
      refine fin (es.push { key := .int k n, val := a.eval v, born := clock }) (clock + 1) ?_ (stamp_push m9) ?_
      · simp [execOp, ho, hev, hI.1, Instr.mapUpdate, run_underlying hu, hgo, hck, hfk, hset]
      · rw [f3, kvD, List.map_append, Array.toList_push, List.map_append]
        exact RelDs_app _ _ _ _ m5 ⟨_, _, rfl, ⟨[.int k n, a.eval v], rfl, ⟨_, _, rfl, ⟨rfl, rfl⟩, _, _, rfl, hV, rfl⟩, two_cells hone⟩, rfl⟩
    · have hfk := run_findKey_int hku f6 w
      have hkt : (Instr.keyThatStays (.int k n) (.int k n)).run P w = .ok (.int k n) w := by
        unfold Instr.keyThatStays
        rw [if_pos]
        · rfl
        · rw [show (10000 : Nat) = 9999 + 1 from rfl]; simp [Instr.sameBits]
      obtain ⟨l1, l2, k1, k2, k3⟩ := f7 (st.ev v)
      have hje : (((es[j]?).map (·.key)).getD (.int k n)) = .int k n := by
        have : es[j]? = some e := by simpa using f2
        rw [this]; simpa using f3
      refine fin (es.modify j fun e => { e with key := .int k n, val := a.eval v }) clock ?_ (stamp_modify m9) ?_
      · simp only [Nat.zero_add] at hfk
        simp [execOp, ho, hev, hI.1, Instr.mapUpdate, run_underlying hu, hgo, hck, hfk, hje, hkt, hset]
      · rw [k3]
        have hmod : (es.modify j fun e => { e with key := .int k n, val := a.eval v }).toList = es.toList.take j ++ { e with key := .int k n, val := a.eval v } :: es.toList.drop (j + 1) := by
          apply List.ext_getElem?
          intro i
          have hj : j < es.size := by have := (List.getElem?_eq_some_iff.1 f2).1; simpa using this
          simp only [Array.getElem?_toList, Array.getElem?_modify, List.getElem?_append, List.getElem?_take, List.length_take, Array.length_toList, List.getElem?_cons, List.getElem?_drop]
          have he : es[j]? = some e := by simpa using f2
          grind
        rw [hmod, List.map_append, List.map_cons]
        have hkv : kvD k (l1 ++ (n, st.ev v) :: l2) = kvD k l1 ++ .agg [.v (.int k n), st.ev v] :: kvD k l2 := by simp [kvD]
        rw [hkv]
        have hkx : kvD k (l1 ++ (n, x') :: l2) = kvD k l1 ++ .agg [.v (.int k n), x'] :: kvD k l2 := by simp [kvD]
        have hl1 : kvD k l1 = (kvD k l).take j := by
          rw [k1, hkx, List.take_left' (by simp [kvD, k2])]
        have hl2 : kvD k l2 = (kvD k l).drop (j + 1) := by
          rw [k1, hkx, ← List.drop_drop, List.drop_left' (by simp [kvD, k2])]; rfl
        rw [hl1, hl2, List.map_take, List.map_drop]
        exact RelDs_app _ _ _ _ (RelDs_take _ _ _ m5) ⟨_, _, rfl, ⟨[.int k n, a.eval v], rfl, ⟨_, _, rfl, ⟨rfl, rfl⟩, _, _, rfl, hV, rfl⟩, two_cells hone⟩, RelDs_drop _ _ _ m5⟩
  · exact h.elim
end Go.VL

end
section
/- Calls by contract; one operation; a text. -/
namespace Go.VL
open Go Go.RowKit

def callable (P : Program) (f : FuncId) : Bool :=
  match P.funcs[f]? with
  | some fn => fn.name != "runtime.NumGoroutine" && fn.body.isSome
  | none => false

/-- WHAT A FUNCTION DOES, over values without memory: called with what reads as args it returns something that reads as a value that meets R; nothing that was there has turned. -/
def Fun (P : Program) (f : FuncId) (args : List D) (R : D → Prop) : Prop :=
  callable P f = true ∧ ∀ (J : Nat → Prop) (w : World) (vs : List Value), (∀ b, J b → b < w.heap.size) → GlobAt J w → RelPs J w args vs →
    Calls P f vs.toArray w fun e w' => ∃ y r, e = .returned y ∧ R r ∧ Below w.heap.size w w' ∧ RelP (fun b => J b ∨ (w.heap.size ≤ b ∧ b < w'.heap.size)) w' r y

theorem Fun.mono {P : Program} {f : FuncId} {args : List D} {R R' : D → Prop} (h : Fun P f args R) (hr : ∀ r, R r → R' r) : Fun P f args R' :=
  ⟨h.1, fun J w vs hJ hG hv => (h.2 J w vs hJ hG hv).mono fun _ _ ⟨y, r, h1, h2, h3, h4⟩ => ⟨y, r, h1, hr r h2, h3, h4⟩⟩

mutual
def D.flat : D → Bool
  | .v _ => true
  | .any => true
  | .agg l => D.flats l
  | .tup l => D.flats l
  | _ => false
def D.flats : List D → Bool
  | [] => true
  | d :: ds => d.flat && D.flats ds
end

mutual
theorem RelP.flat_mono {J J' : Nat → Prop} {w w' : World} : ∀ {d : D} {y : Value}, RelP J w d y → d.flat = true → RelP J' w' d y
  | .any, _, _, _ => trivial
  | .v _, _, h, _ => h
  | .agg l, y, h, hf => by
    obtain ⟨vs, h1, h2, h3⟩ := h
    exact ⟨vs, h1, RelPs.flat_mono h2 hf, h3⟩
  | .tup l, y, h, hf => by
    obtain ⟨vs, h1, h2⟩ := h
    exact ⟨vs, h1, RelPs.flat_mono h2 hf⟩
  | .nil0, _, _, hf => by cases hf
  | .lst _, _, _, hf => by cases hf
  | .ptr _, _, _, hf => by cases hf
  | .clos _ _, _, _, hf => by cases hf
  | .ref _ _, _, _, hf => by cases hf
  | .adr _ _ _, _, _, hf => by cases hf
  | .sub _ _ _, _, _, hf => by cases hf
  | .loc _ _, _, _, hf => by cases hf
  | .mp _, _, _, hf => by cases hf
theorem RelPs.flat_mono {J J' : Nat → Prop} {w w' : World} : ∀ {l : List D} {vs : List Value}, RelPs J w l vs → D.flats l = true → RelPs J' w' l vs
  | [], _, h, _ => h
  | d :: ds, vs, h, hf => by
    obtain ⟨x, xs, h1, h2, h3⟩ := h
    have hf' : d.flat = true ∧ D.flats ds = true := by simpa [D.flats] using hf
    exact ⟨x, xs, h1, RelP.flat_mono h2 hf'.1, RelPs.flat_mono h3 hf'.2⟩
end

mutual
def D.ids : D → List Nat
  | .ref i _ => [i]
  | .adr i _ _ => [i]
  | .sub i _ _ => [i]
  | .loc i _ => [i]
  | .mp i => [i]
  | .agg l => D.idss l
  | .tup l => D.idss l
  | .clos _ l => D.idss l
  | _ => []
def D.idss : List D → List Nat
  | [] => []
  | d :: ds => d.ids ++ D.idss ds
end

def frzAll : List Nat → St → List D → Option (St × List D)
  | [], st, l => some (st, l)
  | id :: ids, st, l =>
    match st.H id with
    | none => frzAll ids st l
    | some o => if D.noRefs o.els && o.els.all (fun d => d.width == o.S) then frzAll ids (st.frozen id (D.nrms o.els)) (D.frzs id (D.nrms o.els) l) else none

theorem frzAll_sim {J0 : Nat → Prop} {ρ : Nat → Loc} {B : Bound} {w0 : World} {a : Act} {w : World} : ∀ (ids : List Nat) (J : Nat → Prop) (st : St) (l : List D) (vs : List Value) (p : St × List D), Sim J0 ρ J B w0 st a w → RelDs ρ J w l vs → frzAll ids st l = some p →
    ∃ J', (∀ b, J b → J' b) ∧ Sim J0 ρ J' B w0 p.1 a w ∧ RelDs ρ J' w p.2 vs ∧ p.1.n = st.n
  | [], J, st, l, vs, p, hs, hl, h => by
    simp only [frzAll, Option.some.injEq] at h
    subst h
    exact ⟨J, fun _ h => h, hs, hl, rfl⟩
  | id :: ids, J, st, l, vs, p, hs, hl, h => by
    unfold frzAll at h
    split at h
    · exact frzAll_sim ids J st l vs p hs hl h
    · rename_i o ho
      split at h
      · rename_i hc
        simp only [Bool.and_eq_true, List.all_eq_true, beq_iff_eq] at hc
        obtain ⟨J', h1, h2, h3⟩ := hs.freeze ho hc.1 hc.2
        obtain ⟨J'', h4, h5, h6, h7⟩ := frzAll_sim ids J' _ _ vs p h2 (RelDs.frozen h1 h3 _ _ hl) h
        exact ⟨J'', fun b hb => h4 b (h1 b hb), h5, h6, h7⟩
      · cases h

def Weak (st st' : St) : Prop := ∀ (J0 : Nat → Prop) (ρ : Nat → Loc) (J : Nat → Prop) (B : Bound) (w0 : World) (a : Act) (w : World), Sim J0 ρ J B w0 st a w → ∃ ρ' J', Sim J0 ρ' J' B w0 st' a w

/-- An object by itself, with nothing in it that is owned. -/
def OwnAt (loc : Loc) (J : Nat → Prop) (w : World) (o : Own) : Prop :=
  (loc.S = o.S ∧ 0 < o.S ∧ o.els.length ≤ loc.cap ∧ loc.cap ≤ maxLen ∧ o.els.length ≤ capMax ∧
    ∃ vs : List Value, RelPs J w o.els vs ∧ (∀ x ∈ vs, x.cells.size = o.S ∧ ∀ c ∈ x.cells.toList, c.oneCell' = true) ∧
      ((loc.cap = 0 ∧ vs = []) ∨
        (0 < loc.cap ∧ ∃ g cur, loc.a = some ⟨g, 0, none⟩ ∧ ¬ J g ∧ w.heap[g]? = some (.cells cur o.e (0, 0)) ∧ cur.size = loc.cap * o.S ∧ cur.toList.take (o.els.length * o.S) = vs.flatMap fun x => x.cells.toList))) ∨
  (loc.S = o.S ∧ o.S = 0 ∧ loc.cap = 1 ∧ o.els.length ≤ capMax ∧
    ∃ vs : List Value, RelPs J w o.els vs ∧ ∃ g ob, loc.a = some ⟨g, 0, none⟩ ∧ ¬ J g ∧ w.heap[g]? = some ob ∧ KindAt J w ob vs)

theorem ObjAt.own {ρ : Nat → Loc} {J : Nat → Prop} {w : World} {id : Nat} {o : Own} (h : ObjAt ρ J w id o) (hn : D.noRefs o.els = true) : OwnAt (ρ id) J w o := by
  rcases h with ⟨h1, h2, h3, h4, h5, vs, h6, h7, h8⟩ | ⟨h1, h2, h3, h4, vs, h6, h7⟩
  · exact .inl ⟨h1, h2, h3, h4, h5, vs, RelDs.toP h6 hn, h7, h8⟩
  · exact .inr ⟨h1, h2, h3, h4, vs, RelDs.toP h6 hn, h7⟩
theorem OwnAt.obj {ρ : Nat → Loc} {J : Nat → Prop} {w : World} {id : Nat} {o : Own} (h : OwnAt (ρ id) J w o) : ObjAt ρ J w id o := by
  rcases h with ⟨h1, h2, h3, h4, h5, vs, h6, h7, h8⟩ | ⟨h1, h2, h3, h4, vs, h6, h7⟩
  · exact .inl ⟨h1, h2, h3, h4, h5, vs, RelPs.toD h6, h7, h8⟩
  · exact .inr ⟨h1, h2, h3, h4, vs, RelPs.toD h6, h7⟩

theorem D.noRef_kill : ∀ {l : List D} (id : Nat), D.noRefs l = true → D.kills id l = l := by
  have key : (∀ d : D, d.noRef = true → ∀ id, d.kill id = d) ∧ (∀ l : List D, D.noRefs l = true → ∀ id, D.kills id l = l) := by
    refine ⟨fun d => ?_, fun l => ?_⟩
    · exact D.rec (motive_1 := fun d => d.noRef = true → ∀ id, d.kill id = d) (motive_2 := fun l => D.noRefs l = true → ∀ id, D.kills id l = l)
        (fun _ _ => rfl) (fun _ _ _ => rfl) (fun _ _ => rfl) (fun _ _ _ _ => rfl) (fun l ih h id => by simp only [D.kill]; rw [ih h]) (fun l ih h id => by simp only [D.kill]; rw [ih h]) (fun _ _ _ _ => rfl)
        (fun f l ih h id => by simp only [D.kill]; rw [ih h]) (fun _ _ h => by cases h) (fun _ _ _ h => by cases h) (fun _ _ _ h => by cases h) (fun _ _ h => by cases h) (fun _ h => by cases h) (fun _ _ => rfl)
        (fun d l ih1 ih2 h id => by
          have h' : d.noRef = true ∧ D.noRefs l = true := by simpa [D.noRefs] using h
          simp only [D.kills]; rw [ih1 h'.1, ih2 h'.2]) d
    · exact D.rec_1 (motive_1 := fun d => d.noRef = true → ∀ id, d.kill id = d) (motive_2 := fun l => D.noRefs l = true → ∀ id, D.kills id l = l)
        (fun _ _ => rfl) (fun _ _ _ => rfl) (fun _ _ => rfl) (fun _ _ _ _ => rfl) (fun l ih h id => by simp only [D.kill]; rw [ih h]) (fun l ih h id => by simp only [D.kill]; rw [ih h]) (fun _ _ _ _ => rfl)
        (fun f l ih h id => by simp only [D.kill]; rw [ih h]) (fun _ _ h => by cases h) (fun _ _ _ h => by cases h) (fun _ _ _ h => by cases h) (fun _ _ h => by cases h) (fun _ h => by cases h) (fun _ _ => rfl)
        (fun d l ih1 ih2 h id => by
          have h' : d.noRef = true ∧ D.noRefs l = true := by simpa [D.noRefs] using h
          simp only [D.kills]; rw [ih1 h'.1, ih2 h'.2]) l
  intro l id h
  exact key.2 l h id

/-- A row that nothing leads to yet becomes an object. -/
theorem Sim.addobj {J0 : Nat → Prop} {ρ : Nat → Loc} {J : Nat → Prop} {B : Bound} {w0 : World} {st : St} {a : Act} {w : World} (h : Sim J0 ρ J B w0 st a w)
    (id : Nat) (o : Own) (loc : Loc) (ho : OwnAt loc J w o) (hB : ∀ g, 0 < loc.cap → loc.a = some ⟨g, 0, none⟩ → B.n ≤ g ∨ B.M g)
    (hap : ∀ i oi, st.H i = some oi → i ≠ id → 0 < (ρ i).cap → 0 < loc.cap → (ρ i).a ≠ loc.a) : Sim J0 (upd ρ id loc) J B w0 ((st.killed id).obj id o) a w := by
  have hρ : ∀ i, i ≠ id → upd ρ id loc i = ρ i := fun i hi => upd_ne _ _ _ _ hi
  have hex : ∀ i oi, ((st.killed id).obj id o).H i = some oi → i ≠ id → ∃ o', st.H i = some o' ∧ oi = { o' with els := D.kills id o'.els } := by
    intro i oi hi hid
    simp only [St.obj, St.killed, upd_ne _ _ _ _ hid, if_neg hid] at hi
    cases hH : st.H i with
    | none => rw [hH] at hi; cases hi
    | some o' => rw [hH] at hi; cases hi; exact ⟨o', rfl, rfl⟩
  refine { old := h.old, own := fun i oi g hi hc ha => ?_, lt := h.lt, slots := fun j => RelD.killed id hρ (fun _ h => h) (fun _ _ => rfl) _ _ (h.slots j), objs := fun i oi hi => ?_, apart := fun i j oi oj hi hj hne hci hcj => ?_,
           size := h.size, defers := h.defers, below := h.below, base := h.base, glob := h.glob }
  · by_cases hid : i = id
    · subst hid
      simp only [upd_same] at hc ha
      exact hB g hc ha
    · rw [hρ i hid] at hc ha
      obtain ⟨o', h1, _⟩ := hex i oi hi hid
      exact h.own i o' g h1 hc ha
  · by_cases hid : i = id
    · subst hid
      simp only [St.obj, upd_same] at hi
      cases hi
      have : OwnAt (upd ρ i loc i) J w o := by rw [upd_same]; exact ho
      exact this.obj
    · obtain ⟨o', h1, rfl⟩ := hex i oi hi hid
      exact (h.objs i o' h1).frame (hρ i hid) rfl rfl (D.kills_length _ _) (fun _ h => h) (fun _ _ => rfl) (fun vs hv => RelDs.killed id hρ (fun _ h => h) (fun _ _ => rfl) _ _ hv) fun g _ _ hn _ => ⟨hn, rfl⟩
  · by_cases hid : i = id
    · subst hid
      have hj' : j ≠ i := fun e => hne e.symm
      rw [hρ j hj'] at hcj ⊢
      simp only [upd_same] at hci ⊢
      obtain ⟨o', h1, _⟩ := hex j oj hj hj'
      exact fun e => hap j o' h1 hj' hcj hci e.symm
    · by_cases hjd : j = id
      · subst hjd
        rw [hρ i hid] at hci ⊢
        simp only [upd_same] at hcj ⊢
        obtain ⟨o', h1, _⟩ := hex i oi hi hid
        exact hap i o' h1 hid hci hcj
      · rw [hρ i hid] at hci ⊢
        rw [hρ j hjd] at hcj ⊢
        obtain ⟨o1, h1, _⟩ := hex i oi hi hid
        obtain ⟨o2, h2, _⟩ := hex j oj hj hjd
        exact h.apart i j o1 o2 h1 h2 hne hci hcj

/-- Giving up an object, as a step of one's own. -/
theorem Weak.freeze {st : St} {id : Nat} {o : Own} (ho : st.H id = some o) (hn : D.noRefs o.els = true) (hw : o.els.all (fun d => d.width == o.S) = true) : Weak st (st.frozen id (D.nrms o.els)) := by
  intro J0 ρ J B w0 a w hs
  have hw' : ∀ d ∈ o.els, d.width = o.S := by simpa using hw
  obtain ⟨J', _, h2, _⟩ := hs.freeze ho hn hw'
  exact ⟨ρ, J', h2⟩

/-- WHAT A FUNCTION DOES that hands over one list to be owned: 'R r o': the list reads as o, and the result as r, where 'ref 0 n' is that list; or (none) nothing is handed over. -/
def FunO (P : Program) (f : FuncId) (args : List D) (R : D → Option Own → Prop) : Prop :=
  callable P f = true ∧ ∀ (J : Nat → Prop) (w : World) (vs : List Value), (∀ b, J b → b < w.heap.size) → GlobAt J w → RelPs J w args vs →
    Calls P f vs.toArray w fun e w' => ∃ y r o, e = .returned y ∧ R r o ∧ Below w.heap.size w w' ∧ ∃ (J' : Nat → Prop) (loc : Loc), (∀ b, J b → J' b) ∧ (∀ b, J' b → J b ∨ (w.heap.size ≤ b ∧ b < w'.heap.size)) ∧
      RelD (fun _ => loc) J' w' r y ∧ (∀ i ∈ r.ids, i = 0) ∧
      match o with
      | none => r.noRef = true
      | some o => D.noRefs o.els = true ∧ OwnAt loc J' w' o ∧ ∀ g, 0 < loc.cap → loc.a = some ⟨g, 0, none⟩ → w.heap.size ≤ g

mutual
def D.ren (id : Nat) : D → D
  | .ref _ n => .ref id n
  | .adr _ a b => .adr id a b
  | .sub _ a b => .sub id a b
  | .loc _ l => .loc id l
  | .mp _ => .mp id
  | .agg l => .agg (D.rens id l)
  | .tup l => .tup (D.rens id l)
  | .clos f l => .clos f (D.rens id l)
  | .any => .any
  | .v x => .v x
  | .nil0 => .nil0
  | .lst l => .lst l
  | .ptr d => .ptr d
def D.rens (id : Nat) : List D → List D
  | [] => []
  | d :: ds => d.ren id :: D.rens id ds
end

mutual
theorem RelD.ren {ρ : Nat → Loc} {J : Nat → Prop} {w : World} (id : Nat) {loc : Loc} (hl : ρ id = loc) : ∀ {d : D} {y : Value}, RelD (fun _ => loc) J w d y → RelD ρ J w (d.ren id) y
  | .any, _, _ => trivial
  | .v _, _, h => h
  | .nil0, _, h => h
  | .lst _, _, h => h
  | .ptr _, _, h => h
  | .agg l, y, h => by
    obtain ⟨vs, h1, h2, h3⟩ := h
    exact ⟨vs, h1, RelDs.ren id hl h2, h3⟩
  | .tup l, y, h => by
    obtain ⟨vs, h1, h2⟩ := h
    exact ⟨vs, h1, RelDs.ren id hl h2⟩
  | .clos f caps, y, h => by
    obtain ⟨vs, h1, h2⟩ := h
    exact ⟨vs, h1, RelDs.ren id hl h2⟩
  | .ref i n, y, h => by simp only [D.ren, RelD] at h ⊢; rw [hl]; exact h
  | .adr i a b, y, h => by simp only [D.ren, RelD] at h ⊢; rw [hl]; exact h
  | .sub i a b, y, h => by simp only [D.ren, RelD] at h ⊢; rw [hl]; exact h
  | .loc i l, y, h => by simp only [D.ren, RelD] at h ⊢; rw [hl]; exact h
  | .mp i, y, h => by simp only [D.ren, RelD] at h ⊢; rw [hl]; exact h
theorem RelDs.ren {ρ : Nat → Loc} {J : Nat → Prop} {w : World} (id : Nat) {loc : Loc} (hl : ρ id = loc) : ∀ {l : List D} {vs : List Value}, RelDs (fun _ => loc) J w l vs → RelDs ρ J w (D.rens id l) vs
  | [], _, h => h
  | d :: ds, vs, h => by
    obtain ⟨x, xs, h1, h2, h3⟩ := h
    exact ⟨x, xs, h1, RelD.ren id hl h2, RelDs.ren id hl h3⟩
end

mutual
theorem RelD.back {ρ : Nat → Loc} {J : Nat → Prop} {w : World} (id : Nat) : ∀ {d : D} {y : Value}, RelD ρ J w d y → (∀ i ∈ d.ids, i = id) → RelD (fun _ => ρ id) J w (d.ren 0) y
  | .any, _, _, _ => trivial
  | .v _, _, h, _ => h
  | .nil0, _, h, _ => h
  | .lst _, _, h, _ => h
  | .ptr _, _, h, _ => h
  | .agg l, y, h, hi => by
    obtain ⟨vs, h1, h2, h3⟩ := h
    exact ⟨vs, h1, RelDs.back id h2 hi, h3⟩
  | .tup l, y, h, hi => by
    obtain ⟨vs, h1, h2⟩ := h
    exact ⟨vs, h1, RelDs.back id h2 hi⟩
  | .clos f caps, y, h, hi => by
    obtain ⟨vs, h1, h2⟩ := h
    exact ⟨vs, h1, RelDs.back id h2 hi⟩
  | .ref i n, y, h, hi => by
    have : i = id := hi i (by simp [D.ids])
    subst this; exact h
  | .adr i a b, y, h, hi => by
    have : i = id := hi i (by simp [D.ids])
    subst this; exact h
  | .sub i a b, y, h, hi => by
    have : i = id := hi i (by simp [D.ids])
    subst this; exact h
  | .loc i l, y, h, hi => by
    have : i = id := hi i (by simp [D.ids])
    subst this; exact h
  | .mp i, y, h, hi => by
    have : i = id := hi i (by simp [D.ids])
    subst this; exact h
theorem RelDs.back {ρ : Nat → Loc} {J : Nat → Prop} {w : World} (id : Nat) : ∀ {l : List D} {vs : List Value}, RelDs ρ J w l vs → (∀ i ∈ D.idss l, i = id) → RelDs (fun _ => ρ id) J w (D.rens 0 l) vs
  | [], _, h, _ => h
  | d :: ds, vs, h, hi => by
    obtain ⟨x, xs, h1, h2, h3⟩ := h
    exact ⟨x, xs, h1, RelD.back id h2 (fun i hm => hi i (by simp [D.idss, hm])), RelDs.back id h3 (fun i hm => hi i (by simp [D.idss, hm]))⟩
end

/-- Where lent objects lie. -/
def LentB (ρ : Nat → Loc) (n : Nat) : Nat → Prop := fun g => ∃ i, i < n ∧ 0 < (ρ i).cap ∧ (ρ i).a = some ⟨g, 0, none⟩
/-- WHAT A FUNCTION DOES that is lent objects (0, 1, ..), which it may change: 'R r os': what it returns, and how the objects are then. -/
def FunL (P : Program) (f : FuncId) (args : List D) (lent : List Own) (R : D → List Own → Prop) : Prop :=
  callable P f = true ∧ ∀ (J : Nat → Prop) (ρ : Nat → Loc) (w : World) (vs : List Value), (∀ b, J b → b < w.heap.size) → GlobAt J w → RelDs ρ J w args vs → (∀ i o, lent[i]? = some o → OwnAt (ρ i) J w o) →
    (∀ i j, i < lent.length → j < lent.length → i ≠ j → 0 < (ρ i).cap → 0 < (ρ j).cap → (ρ i).a ≠ (ρ j).a) →
    Calls P f vs.toArray w fun e w' => ∃ y r os, e = .returned y ∧ R r os ∧ os.length = lent.length ∧ BelowM ⟨w.heap.size, LentB ρ lent.length⟩ w w' ∧ ∃ J' : Nat → Prop, (∀ b, J b → J' b) ∧ (∀ b, J' b → J b ∨ (w.heap.size ≤ b ∧ b < w'.heap.size)) ∧
      RelP J' w' r y ∧ ∀ i o, os[i]? = some o → OwnAt (ρ i) J' w' o

mutual
def D.mv (σ : List Nat) : D → D
  | .ref i n => .ref (σ.getD i 0) n
  | .adr i a b => .adr (σ.getD i 0) a b
  | .sub i a b => .sub (σ.getD i 0) a b
  | .loc i l => .loc (σ.getD i 0) l
  | .mp i => .mp (σ.getD i 0)
  | .agg l => .agg (D.mvs σ l)
  | .tup l => .tup (D.mvs σ l)
  | .clos f l => .clos f (D.mvs σ l)
  | .any => .any
  | .v x => .v x
  | .nil0 => .nil0
  | .lst l => .lst l
  | .ptr d => .ptr d
def D.mvs (σ : List Nat) : List D → List D
  | [] => []
  | d :: ds => d.mv σ :: D.mvs σ ds
end
mutual
theorem RelD.mv {ρ : Nat → Loc} {J : Nat → Prop} {w : World} (σ : List Nat) : ∀ {d : D} {y : Value}, RelD ρ J w (d.mv σ) y → RelD (fun i => ρ (σ.getD i 0)) J w d y
  | .any, _, _ => trivial
  | .v _, _, h => h
  | .nil0, _, h => h
  | .lst _, _, h => h
  | .ptr _, _, h => h
  | .agg l, y, h => by
    obtain ⟨vs, h1, h2, h3⟩ := h
    exact ⟨vs, h1, RelDs.mv σ h2, h3⟩
  | .tup l, y, h => by
    obtain ⟨vs, h1, h2⟩ := h
    exact ⟨vs, h1, RelDs.mv σ h2⟩
  | .clos f caps, y, h => by
    obtain ⟨vs, h1, h2⟩ := h
    exact ⟨vs, h1, RelDs.mv σ h2⟩
  | .ref i n, y, h => h
  | .adr i a b, y, h => h
  | .sub i a b, y, h => h
  | .loc i l, y, h => h
  | .mp i, y, h => h
theorem RelDs.mv {ρ : Nat → Loc} {J : Nat → Prop} {w : World} (σ : List Nat) : ∀ {l : List D} {vs : List Value}, RelDs ρ J w (D.mvs σ l) vs → RelDs (fun i => ρ (σ.getD i 0)) J w l vs
  | [], _, h => h
  | d :: ds, vs, h => by
    obtain ⟨x, xs, h1, h2, h3⟩ := h
    exact ⟨x, xs, h1, RelD.mv σ h2, RelDs.mv σ h3⟩
end
mutual
theorem RelD.nrm {ρ : Nat → Loc} {J : Nat → Prop} {w : World} : ∀ {d : D} {y : Value}, RelD ρ J w d y → RelD ρ J w d.nrm y
  | .any, _, _ => trivial
  | .v x, y, h => by
    simp only [D.nrm]
    split
    · rename_i hn
      rw [nilV_spec hn] at h
      rw [h.1]
      exact RelP_nil none
    · exact h
  | .nil0, y, h => by obtain ⟨a, rfl⟩ := h; exact RelP_nil a
  | .lst _, _, h => h
  | .ptr d, y, h => RelP.nrm (d := .ptr d) h
  | .agg l, y, h => by
    obtain ⟨vs, h1, h2, h3⟩ := h
    exact ⟨vs, h1, RelDs.nrm h2, h3⟩
  | .tup l, y, h => by
    obtain ⟨vs, h1, h2⟩ := h
    exact ⟨vs, h1, RelDs.nrm h2⟩
  | .clos f caps, y, h => by
    obtain ⟨vs, h1, h2⟩ := h
    exact ⟨vs, h1, RelDs.nrm h2⟩
  | .ref i n, y, h => h
  | .adr i a b, y, h => h
  | .sub i a b, y, h => h
  | .loc i l, y, h => h
  | .mp i, y, h => h
theorem RelDs.nrm {ρ : Nat → Loc} {J : Nat → Prop} {w : World} : ∀ {l : List D} {vs : List Value}, RelDs ρ J w l vs → RelDs ρ J w (D.nrms l) vs
  | [], _, h => h
  | d :: ds, vs, h => by
    obtain ⟨x, xs, h1, h2, h3⟩ := h
    exact ⟨x, xs, h1, RelD.nrm h2, RelDs.nrm h3⟩
end
theorem nodup_inj : ∀ {l : List Nat}, l.Nodup → ∀ {i j : Nat} (hi : i < l.length) (hj : j < l.length), l[i] = l[j] → i = j
  | [], _, i, j, hi, _, _ => by simp at hi
  | a :: l, h, 0, 0, _, _, _ => rfl
  | a :: l, h, 0, j + 1, _, hj, e => by
    have h' := (List.nodup_cons.1 h).1
    simp only [List.getElem_cons_zero, List.getElem_cons_succ] at e
    exact absurd (by rw [e]; exact List.getElem_mem _) h'
  | a :: l, h, i + 1, 0, hi, _, e => by
    have h' := (List.nodup_cons.1 h).1
    simp only [List.getElem_cons_zero, List.getElem_cons_succ] at e
    exact absurd (by rw [← e]; exact List.getElem_mem _) h'
  | a :: l, h, i + 1, j + 1, hi, hj, e => by
    have h' := (List.nodup_cons.1 h).2
    simp only [List.getElem_cons_succ] at e
    rw [nodup_inj h' (by simpa using hi) (by simpa using hj) e]
/-- Objects that were lent, as they are now. -/
def setObjs (st : St) : List Nat → List Own → St
  | id :: ids, o :: os => (setObjs st ids os).obj id o
  | _, _ => st
theorem setObjs_t (st : St) : ∀ (ids : List Nat) (os : List Own), (setObjs st ids os).t = st.t
  | [], _ => by cases ‹List Own› <;> rfl
  | _ :: _, [] => rfl
  | id :: ids, o :: os => setObjs_t st ids os
theorem setObjs_n (st : St) : ∀ (ids : List Nat) (os : List Own), (setObjs st ids os).n = st.n
  | [], _ => by cases ‹List Own› <;> rfl
  | _ :: _, [] => rfl
  | id :: ids, o :: os => setObjs_n st ids os
theorem setObjs_out (st : St) (k : Nat) : ∀ (ids : List Nat) (os : List Own), k ∉ ids → (setObjs st ids os).H k = st.H k
  | [], _, _ => by cases ‹List Own› <;> rfl
  | _ :: _, [], _ => rfl
  | id :: ids, o :: os, h => by
    simp only [List.mem_cons, not_or] at h
    show upd _ id (some o) k = _
    rw [upd_ne _ _ _ _ h.1]
    exact setObjs_out st k ids os h.2
theorem setObjs_in (st : St) : ∀ (ids : List Nat) (os : List Own) (i id : Nat), os.length = ids.length → ids.Nodup → ids[i]? = some id → ∃ o, os[i]? = some o ∧ (setObjs st ids os).H id = some o
  | [], _, i, id, _, _, h => by simp at h
  | a :: ids, [], i, id, hl, _, _ => by simp at hl
  | a :: ids, o :: os, 0, id, hl, hn, h => by
    simp only [List.getElem?_cons_zero, Option.some.injEq] at h
    subst h
    exact ⟨o, rfl, upd_same _ _ _⟩
  | a :: ids, o :: os, i + 1, id, hl, hn, h => by
    simp only [List.getElem?_cons_succ] at h
    obtain ⟨h1, h2⟩ := List.nodup_cons.1 hn
    obtain ⟨o', h3, h4⟩ := setObjs_in st ids os i id (by simpa using hl) h2 h
    refine ⟨o', by simpa using h3, ?_⟩
    show upd _ a (some o) id = _
    have hm : id ∈ ids := List.mem_of_getElem? h
    rw [upd_ne _ _ _ _ (fun e => h1 (by rw [← e]; exact hm))]
    exact h4
/-- What was lent comes back. -/
theorem Sim.lentback {J0 : Nat → Prop} {ρ : Nat → Loc} {J J' : Nat → Prop} {B : Bound} {w0 : World} {st : St} {a : Act} {w w' : World} (h : Sim J0 ρ J B w0 st a w) {σ : List Nat} {os : List Own} (hnd : σ.Nodup) (hH : ∀ id ∈ σ, ∃ o, st.H id = some o)
    (hlen : os.length = σ.length) (hb : BelowM ⟨w.heap.size, LentB (fun i => ρ (σ.getD i 0)) σ.length⟩ w w') (h1 : ∀ b, J b → J' b) (h2 : ∀ b, J' b → J b ∨ (w.heap.size ≤ b ∧ b < w'.heap.size))
    (hos : ∀ i o, os[i]? = some o → OwnAt (ρ (σ.getD i 0)) J' w' o) : Sim J0 ρ J' B w0 (setObjs st σ os) a w' := by
  have hs := h.Ble
  have hget : ∀ i, i < σ.length → σ[i]? = some (σ.getD i 0) ∧ σ.getD i 0 ∈ σ := fun i hi => by
    have : σ.getD i 0 = σ[i] := by simp [List.getD, hi]
    rw [this]; exact ⟨List.getElem?_eq_getElem hi, List.getElem_mem hi⟩
  have hLJ : ∀ g, LentB (fun i => ρ (σ.getD i 0)) σ.length g → ¬ J g ∧ (B.n ≤ g ∨ B.M g) := by
    rintro g ⟨i, hi, hc, ha⟩
    obtain ⟨o, ho⟩ := hH _ (hget i hi).2
    obtain ⟨g', e1, e2, _⟩ := (h.objs _ o ho).block hc
    rw [ha] at e1
    cases e1
    exact ⟨e2, h.own _ o g ho hc ha⟩
  have hw : ∀ b, J b → w'.heap[b]? = w.heap[b]? := fun b hb' => hb.block b (h.lt b hb') fun hl => (hLJ b hl).1 hb'
  refine { old := fun b hb' => ?_, own := fun id o g hid hc ha => ?_, lt := fun b hb' => ?_, slots := fun j => ?_, objs := fun id o ho => ?_, apart := fun i j oi oj hi hj hne hci hcj => ?_,
           size := by rw [setObjs_n]; exact h.size, defers := h.defers, below := ?_, base := h.base, glob := h.glob.mono h1 hw }
  · rcases h2 b hb' with h3 | h3
    · exact h.old b h3
    · exact .inr (.inl (by omega))
  · by_cases hm : id ∈ σ
    · obtain ⟨o', ho'⟩ := hH id hm
      exact h.own id o' g ho' hc ha
    · rw [setObjs_out _ _ _ _ hm] at hid
      exact h.own id o g hid hc ha
  · rcases h2 b hb' with h3 | h3
    · have := h.lt b h3; have := hb.size; omega
    · exact h3.2
  · rw [setObjs_t]; exact RelD.mono (fun _ => rfl) h1 hw _ _ (h.slots j)
  · by_cases hm : id ∈ σ
    · obtain ⟨i, hi, rfl⟩ := List.mem_iff_getElem.1 hm
      obtain ⟨o', e1, e2⟩ := setObjs_in st σ os i σ[i] hlen hnd (List.getElem?_eq_getElem hi)
      rw [e2] at ho
      cases ho
      have := hos i o e1
      have e : σ.getD i 0 = σ[i] := by simp [List.getD, hi]
      rw [e] at this
      exact this.obj
    · rw [setObjs_out _ _ _ _ hm] at ho
      refine (h.objs id o ho).frame rfl rfl rfl rfl h1 hw (fun vs hv => RelDs.mono (fun _ => rfl) h1 hw _ _ hv) fun g hcg hag hn hg => ⟨fun hc => ?_, hb.block g hg ?_⟩
      · rcases h2 g hc with hc | hc
        · exact hn hc
        · omega
      · rintro ⟨i, hi, hc, ha⟩
        obtain ⟨o', ho'⟩ := hH _ (hget i hi).2
        exact h.apart id _ o o' ho ho' (fun e => hm (by rw [e]; exact (hget i hi).2)) hcg hc (by rw [hag]; exact ha.symm)
  · have key : ∀ k ok, (setObjs st σ os).H k = some ok → ∃ o, st.H k = some o := fun k ok hk => by
      by_cases hm : k ∈ σ
      · exact hH k hm
      · rw [setObjs_out _ _ _ _ hm] at hk; exact ⟨ok, hk⟩
    obtain ⟨o1, e1⟩ := key i oi hi
    obtain ⟨o2, e2⟩ := key j oj hj
    exact h.apart i j o1 o2 e1 e2 hne hci hcj
  · refine ⟨hb.os.trans h.below.os, hb.tape.trans h.below.tape, hb.output.trans h.below.output, Nat.le_trans h.below.size hb.size, fun k hk hm => ?_⟩
    refine (hb.block k (Nat.lt_of_lt_of_le hk hs) fun hl => ?_).trans (h.below.block k hk hm)
    rcases (hLJ k hl).2 with q | q
    · exact absurd q (Nat.not_le.2 hk)
    · exact hm q

/-- A call that is lent objects. -/
def lendK (P : Program) (g : FuncId) (all : List D) (K : St → D → Prop) (st : St) : Prop :=
  ∃ (σ : List Nat) (as : List D) (lent : List Own) (R : D → List Own → Prop), σ.Nodup ∧ (∀ id ∈ σ, id ∈ D.idss all) ∧ D.nrms all = D.mvs σ as ∧ σ.map st.H = lent.map some ∧ (∀ o ∈ lent, D.noRefs o.els = true) ∧ FunL P g as lent R ∧
    ∀ r os, R r os → r.noRef = true → K (setObjs st σ os) r
def opCall (P : Program) (f : D) (args : List D) (id : Nat) (K : St → D → Prop) (st : St) : Prop :=
  match f with
  | .clos (.func g) caps => (∃ p, frzAll (D.idss (args ++ caps)) st (args ++ caps) = some p ∧ D.noRefs p.2 = true ∧
      ((∃ R, Fun P g (D.nrms p.2) R ∧ ∀ r, R r → r.noRef = true → K (if r.flat then st else p.1) r) ∨
       (∃ R, FunO P g (D.nrms p.2) R ∧ ∀ r o, R r o → (∀ i ∈ r.ids, i = 0) → match o with | none => r.noRef = true → K p.1 r | some o => K ((p.1.killed id).obj id o) (r.ren id)))) ∨ lendK P g (args ++ caps) K st
  | _ => False

theorem opCall_sound {P : Program} {o : Oper} {f : Operand} {args : Array Operand} {ts : Array TypeId} (id : Nat) (ho : o.op = .call { callee := .value f, args := args, argTypes := ts }) {K : St → D → Prop} {st : St}
    (h : opCall P (st.ev f) (args.toList.map st.ev) id K st) : OpX P o K st := by
  intro J0 ρ J B w0 a w hs Kc Q hKc
  unfold opCall at h
  split at h
  · rename_i g caps hf
    have hc := hs.ev f
    rw [hf] at hc
    obtain ⟨cs, hev, hcs⟩ := hc
    have hall : RelDs ρ J w (args.toList.map st.ev ++ caps) (args.toList.map a.eval ++ cs) := RelDs_app _ _ _ _ (RelDs_ev hs.ev _) hcs
    have hrun : callable P g = true → (execOp a.eval o).run P w = .ok (.enter g (args.toList.map a.eval ++ cs).toArray) w := by
      intro hcal
      unfold callable at hcal
      split at hcal
      · rename_i fn hfn
        simp only [Bool.and_eq_true, bne_iff_ne, ne_eq] at hcal
        obtain ⟨hn, hb⟩ := hcal
        have hb' : fn.body.isNone = false := by cases hb2 : fn.body <;> simp [hb2] at hb ⊢
        simp only [execOp, ho, resolve, hev, Deferred.ofValue, Sem.run_bind, Sem.run_pure, Result.andThen_ok, invoke, callFunc, run_program, hfn]
        simp [hn, hb']
      · cases hcal
    unfold Oper.wp
    rcases h with ⟨p, h1, h2, h4⟩ | ⟨σ, as, lent, R, l1, l2, l3, l4, l5, ⟨hcal, hfun⟩, hk⟩
    rotate_left
    · have hlen : σ.length = lent.length := by simpa using congrArg List.length l4
      have hmv := RelDs.mv σ (l3 ▸ hall.nrm)
      have hHo : ∀ (i id : Nat), σ[i]? = some id → ∃ o, lent[i]? = some o ∧ st.H id = some o := fun i id hi => by
        have : (σ.map st.H)[i]? = (lent.map some)[i]? := by rw [l4]
        simp only [List.getElem?_map, hi, Option.map_some] at this
        cases ho : lent[i]? with
        | none => rw [ho] at this; cases this
        | some o => rw [ho] at this; exact ⟨o, rfl, by simpa using this⟩
      rw [hrun hcal]
      have hcall := hfun J (fun i => ρ (σ.getD i 0)) w _ hs.lt hs.glob hmv ?_ ?_
      · show Calls P g _ w _
        refine hcall.mono ?_
        rintro e w' ⟨y, r, os, rfl, hr, hlo, hb, J', k1, k2, k3, k4⟩
        show Kc _ _
        refine hKc _ ρ J' r y w' (hk r os hr k3.noRef) (setObjs_n _ _ _) (hs.lentback l1 (fun id hid => ?_) (by rw [hlo, hlen]) (by rw [hlen]; exact hb) k1 k2 k4) k3.toD
        obtain ⟨i, hi, rfl⟩ := List.mem_iff_getElem.1 hid
        obtain ⟨o, _, ho⟩ := hHo i σ[i] (List.getElem?_eq_getElem hi)
        exact ⟨o, ho⟩
      · intro i o hi
        have hlt : i < σ.length := by rw [hlen]; exact (List.getElem?_eq_some_iff.1 hi).1
        obtain ⟨o', h1, h2⟩ := hHo i σ[i] (List.getElem?_eq_getElem hlt)
        rw [hi] at h1
        cases h1
        have e : σ.getD i 0 = σ[i] := by simp [List.getD, hlt]
        have := (hs.objs _ _ h2).own (l5 o (List.mem_of_getElem? hi))
        show OwnAt (ρ (σ.getD i 0)) J w o
        rw [e]; exact this
      · intro i j hi hj hne hci hcj
        rw [← hlen] at hi hj
        have e1 : σ.getD i 0 = σ[i] := by simp [List.getD, hi]
        have e2 : σ.getD j 0 = σ[j] := by simp [List.getD, hj]
        obtain ⟨o1, _, h1⟩ := hHo i σ[i] (List.getElem?_eq_getElem hi)
        obtain ⟨o2, _, h2⟩ := hHo j σ[j] (List.getElem?_eq_getElem hj)
        simp only [e1, e2] at hci hcj ⊢
        exact hs.apart _ _ o1 o2 h1 h2 (fun e => hne (nodup_inj l1 hi hj e)) hci hcj
    obtain ⟨J', h5, h6, h7, h8⟩ := frzAll_sim _ J st _ _ p hs hall h1
    have hP := (RelDs.toP h7 h2).nrm
    rcases h4 with ⟨R, ⟨hcal, hfun⟩, h4⟩ | ⟨R, ⟨hcal, hfun⟩, hk⟩
    · rw [hrun hcal]
      have hcall := hfun J' w _ h6.lt h6.glob hP
      show Calls P g _ w _
      refine hcall.mono ?_
      rintro e w' ⟨y, r, rfl, hr, hb, hy⟩
      have hK := h4 r hr hy.noRef
      show Kc _ _
      by_cases hfl : r.flat = true
      · rw [if_pos hfl] at hK
        exact hKc st ρ J r y w' hK rfl (hs.grow hb (fun _ h => h) fun b hb => .inl hb) ((RelP.flat_mono hy hfl).toD)
      · rw [if_neg hfl] at hK
        exact hKc p.1 ρ _ r y w' hK h8 (h6.grow hb (fun b hb => .inl hb) fun b hb => hb) hy.toD
    · rw [hrun hcal]
      have hcall := hfun J' w _ h6.lt h6.glob hP
      show Calls P g _ w _
      refine hcall.mono ?_
      rintro e w' ⟨y, r, oo, rfl, hr, hb, J'', loc, k1, k2, k3, k4, k5⟩
      have hK := hk r oo hr k4
      show Kc _ _
      have hgrow := h6.grow hb k1 k2
      cases oo with
      | none =>
        exact hKc p.1 ρ J'' r y w' (hK k5) h8 hgrow ((RelD.toP k3 k5).toD)
      | some oo =>
        obtain ⟨k6, k7, k8⟩ := k5
        refine hKc _ (upd ρ id loc) J'' (r.ren id) y w' hK h8 (hgrow.addobj id oo loc k7 (fun g hg ha => .inl (Nat.le_trans h6.Ble (k8 g hg ha))) ?_) (RelD.ren id (by simp [upd_same]) k3)
        intro i oi hi hne hci hcl heq
        obtain ⟨g, e1, _, e3⟩ := (h6.objs i oi hi).block hci
        rw [e1] at heq
        have := k8 g hcl heq.symm
        omega
  · exact h.elim

def okDst (st : St) : Option Tmp → Prop
  | some d => d < st.n
  | none => True

def aopB (P : Program) (o : Oper) (b : Builtin) (args : List Operand) (ts : List TypeId) (K : St → D → Prop) (st : St) : Prop :=
  match b, args, ts with
  | .append, [s, x], [t, t'] => t = t' ∧ opAppend P t (st.ev s) (st.ev x) (dstOf o.dst) K st
  | .copy, [s, x], [t, _] => opCopy P t (st.ev s) (st.ev x) K st
  | .len, [x], [t] => opLenM P t (st.ev x) (K st) st
  | .min, xs, _ => opMin (xs.map st.ev) (K st)
  | .complex, xs, _ => opCx .complex (xs.map st.ev) (K st)
  | .real, xs, _ => opCx .real (xs.map st.ev) (K st)
  | .imag, xs, _ => opCx .imag (xs.map st.ev) (K st)
  | .max, xs, _ => opMax (xs.map st.ev) (K st)
  | _, _, _ => OpX P o K st

def aopC (P : Program) (o : Oper) (c : Call) (K : St → D → Prop) (st : St) : Prop :=
  match c.callee with
  | .value f => opCall P (st.ev f) (c.args.toList.map st.ev) (dstOf o.dst) K st
  | .builtin b => aopB P o b c.args.toList c.argTypes.toList K st
  | .invoke _ _ => OpX P o K st

theorem arr1 {α : Type} {a : Array α} {x : α} (h : a.toList = [x]) : a = #[x] := by rw [← Array.toArray_toList (xs := a), h]
theorem arr2 {α : Type} {a : Array α} {x y : α} (h : a.toList = [x, y]) : a = #[x, y] := by rw [← Array.toArray_toList (xs := a), h]
theorem arr0 {α : Type} {a : Array α} (h : a.toList = []) : a = #[] := by rw [← Array.toArray_toList (xs := a), h]

theorem aopC_sound {P : Program} {o : Oper} {c : Call} {K : St → D → Prop} {st : St} (ho : o.op = .call c) (h : aopC P o c K st) : OpX P o K st := by
  obtain ⟨cal, args, ts⟩ := c
  unfold aopC at h
  cases cal with
  | value f => exact opCall_sound _ ho h
  | invoke r m => exact h
  | builtin b =>
    simp only at h
    unfold aopB at h
    split at h
    · rename_i s x t t' h1 h2
      obtain ⟨rfl, h⟩ := h
      rw [arr2 h1, arr2 h2] at ho
      exact opAppend_sound _ ho h
    · rename_i s x t t' h1 h2
      rw [arr2 h1, arr2 h2] at ho
      exact opCopy_sound ho h
    · rename_i x t h1 h2
      rw [arr1 h1, arr1 h2] at ho
      exact opLenM_sound ho h
    · exact opMin_sound ho h
    · exact opCx_sound ho h
    · exact opCx_sound ho h
    · exact opCx_sound ho h
    · exact opMax_sound ho h
    · exact h

theorem frz_ofVal (id : Nat) (els : List D) (x : Value) : (D.ofVal x).frz id els = D.ofVal x := by
  cases x with
  | agg cs =>
    simp only [D.ofVal]
    split
    · simp only [D.frz, D.frzs_eq, List.map_map]
      rfl
    · rfl
  | _ => rfl
theorem globD_frz (id : Nat) (els : List D) (g : Nat) : ∀ l : List (Nat × D), (globD g l).frz id els = globD g l
  | [] => rfl
  | p :: l => by
    simp only [globD]
    split
    · rfl
    · exact globD_frz id els g l
theorem globD_ids (g : Nat) : ∀ l : List (Nat × D), (globD g l).ids = []
  | [] => rfl
  | p :: l => by
    simp only [globD]
    split
    · rfl
    · exact globD_ids g l
theorem frozen_ev (st : St) (id : Nat) (els : List D) (o : Operand) : (st.frozen id els).ev o = (st.ev o).frz id els := by
  cases o with
  | const x => exact (frz_ofVal id els x).symm
  | global g => exact (globD_frz id els g theGlobs).symm
  | _ => rfl
theorem frz_plain {id : Nat} {els : List D} : ∀ {o : Option D}, o.all D.noRef = true → o.map (D.frz id els) = o := by
  have key : (∀ d : D, d.noRef = true → d.frz id els = d) := by
    intro d
    refine D.rec (motive_1 := fun d => d.noRef = true → d.frz id els = d) (motive_2 := fun l => D.noRefs l = true → D.frzs id els l = l)
        (fun _ => rfl) (fun _ _ => rfl) (fun _ => rfl) (fun _ _ _ => rfl) (fun l ih h => by simp only [D.frz]; rw [ih h]) (fun l ih h => by simp only [D.frz]; rw [ih h]) (fun _ _ _ => rfl)
        (fun f l ih h => by simp only [D.frz]; rw [ih h]) (fun _ _ h => by cases h) (fun _ _ _ h => by cases h) (fun _ _ _ h => by cases h) (fun _ _ h => by cases h) (fun _ h => by cases h) (fun _ => rfl)
        (fun d l ih1 ih2 h => by
          have h' : d.noRef = true ∧ D.noRefs l = true := by simpa [D.noRefs] using h
          simp only [D.frzs]; rw [ih1 h'.1, ih2 h'.2]) d
  intro o h
  cases o with
  | none => rfl
  | some d => simp only [Option.all_some] at h; simp [key d h]

/-- A part of a list that begins later: what is owned is given up first. -/
def opSliceM (P : Program) (t : TypeId) (x : D) (lo hi mx : Option D) (K : St → D → Prop) (st : St) : Prop :=
  match x with
  | .ref id n => ∃ ob, st.H id = some ob ∧ D.noRefs ob.els = true ∧ ob.els.all (fun d => d.width == ob.S) = true ∧ n ≤ ob.els.length ∧ lo.all D.noRef = true ∧ hi.all D.noRef = true ∧ mx.all D.noRef = true ∧
      opSlice P t (.lst ((D.nrms ob.els).take n)) lo hi mx (K (st.frozen id (D.nrms ob.els))) (st.frozen id (D.nrms ob.els))
  | x => opSlice P t x lo hi mx (K st) st

theorem opSliceM_sound {P : Program} {o : Oper} {t : TypeId} {x : Operand} {lo hi mx : Option Operand} (ho : o.op = .slice t x lo hi mx) {K : St → D → Prop} {st : St}
    (h : opSliceM P t (st.ev x) (lo.map st.ev) (hi.map st.ev) (mx.map st.ev) K st) : OpX P o K st := by
  unfold opSliceM at h
  split at h
  · rename_i id n hx
    obtain ⟨ob, h1, h2, h3, h4, h5, h6, h7, h8⟩ := h
    have hlen : n ≤ (D.nrms ob.els).length := by simpa [D.nrms_eq] using h4
    have e1 : (st.frozen id (D.nrms ob.els)).ev x = .lst ((D.nrms ob.els).take n) := by
      rw [frozen_ev, hx]
      simp [D.frz, hlen]
    have em : ∀ o : Option Operand, (o.map st.ev).all D.noRef = true → o.map (st.frozen id (D.nrms ob.els)).ev = o.map st.ev := by
      intro o ho
      have := frz_plain (id := id) (els := D.nrms ob.els) ho
      rw [← this]
      cases o with
      | none => rfl
      | some y => simp [frozen_ev]
    have hk : OpX P o K (st.frozen id (D.nrms ob.els)) := opSlice_sound ho (by rw [e1, em lo h5, em hi h6, em mx h7]; exact h8)
    intro J0 ρ J B w0 a w hs Kc Q hKc
    obtain ⟨J', _, hs', _⟩ := hs.freeze h1 h2 (by simpa using h3)
    exact hk J0 ρ J' B w0 a w hs' Kc Q fun st' ρ' J' x y w' k1 k2 k3 k4 => hKc st' ρ' J' x y w' k1 k2 k3 k4
  · exact opSlice_sound ho h

/-- The parts of a literal, at other values. -/
def rep : List (Nat × D) → List D → List (Nat × D)
  | p :: l, d :: ds => (p.1, d) :: rep l ds
  | _, _ => []
theorem rep_map {α : Type} (f : α → Nat × D) (g : α → D) : ∀ l : List α, rep (l.map f) (l.map g) = l.map fun x => ((f x).1, g x)
  | [] => rfl
  | x :: l => by simp only [List.map_cons, rep]; rw [rep_map f g l]
theorem frzAll_ev : ∀ (ids : List Nat) (st : St) (ops : List Operand) (p : St × List D), frzAll ids st (ops.map st.ev) = some p → p.2 = ops.map p.1.ev
  | [], st, ops, p, h => by simp only [frzAll, Option.some.injEq] at h; subst h; rfl
  | id :: ids, st, ops, p, h => by
    unfold frzAll at h
    split at h
    · exact frzAll_ev ids st ops p h
    · rename_i o ho
      split at h
      · have e : D.frzs id (D.nrms o.els) (ops.map st.ev) = ops.map (st.frozen id (D.nrms o.els)).ev := by
          rw [D.frzs_eq, List.map_map]
          exact List.map_congr_left fun x _ => (frozen_ev st id _ x).symm
        rw [e] at h
        exact frzAll_ev ids _ ops p h
      · cases h

/-- A literal of a slice: what is owned and stands in it is given up first. -/
def opBuildSliceM (P : Program) (t : TypeId) (len : Nat) (parts : List (Nat × D)) (id : Nat) (K : St → D → Prop) (st : St) : Prop :=
  ∃ p, frzAll (D.idss (parts.map Prod.snd)) st (parts.map Prod.snd) = some p ∧ opBuildSlice P t len (rep parts p.2) id K p.1

theorem opBuildSliceM_sound {P : Program} {o : Oper} {t : TypeId} {len : Nat} {parts : Array (Nat × Operand)} (id : Nat) (ho : o.op = .buildSlice t len parts) {K : St → D → Prop} {st : St}
    (h : opBuildSliceM P t len (parts.toList.map fun p => (p.1, st.ev p.2)) id K st) : OpX P o K st := by
  obtain ⟨p, h1, h2⟩ := h
  have e : (parts.toList.map fun p => (p.1, st.ev p.2)).map Prod.snd = (parts.toList.map (·.2)).map st.ev := by simp [List.map_map, Function.comp_def]
  rw [e] at h1
  have e2 := frzAll_ev _ _ _ _ h1
  rw [e2, List.map_map, rep_map] at h2
  have hk : OpX P o K p.1 := opBuildSlice_sound id ho h2
  intro J0 ρ J B w0 a w hs Kc Q hKc
  obtain ⟨J', _, h6, _, h8⟩ := frzAll_sim _ J st _ _ p hs (RelDs_ev hs.ev (parts.toList.map (·.2))) h1
  exact hk J0 ρ J' B w0 a w h6 Kc Q fun st' ρ' J' x y w' k1 k2 k3 k4 => hKc st' ρ' J' x y w' k1 (k2.trans h8) k3 k4

/-- ONE OPERATION. What this text doesn't speak of is left as it is. -/
def aopx (P : Program) (o : Oper) (K : St → D → Prop) (st : St) : Prop :=
  match o.op with
  | .move x => K st (st.ev x)
  | .assign x => K st (st.ev x)
  | .pick c a b => opPick (st.ev c) (st.ev a) (st.ev b) (K st)
  | .alloc e => opAlloc P e (dstOf o.dst) K st
  | .box e x => opBox P e (st.ev x) (dstOf o.dst) K st
  | .build t parts => opBuild P t (parts.toList.map fun p => (p.1, st.ev p.2)) (K st)
  | .buildSlice t len parts => opBuildSliceM P t len (parts.toList.map fun p => (p.1, st.ev p.2)) (dstOf o.dst) K st
  | .load t x => opLoad P t (st.ev x) (K st) st
  | .store t x v => opStore P t (st.ev x) (st.ev v) (fun s => K s .any) st
  | .nilCheck x => opNilCheck (st.ev x) (K st)
  | .binOp op t x y _ => opBin P op t (st.ev x) (st.ev y) (K st)
  | .unOp op _ x => opUn op (st.ev x) (K st)
  | .convert s t x => opConvert P s t (st.ev x) (K st) st
  | .makeFunc fn first caps => first.toList = [] ∧ K st (.clos fn (caps.toList.map st.ev))
  | .makeSlice t l c => opMakeSlice P t (st.ev l) (st.ev c) (dstOf o.dst) K st
  | .slice t x lo hi mx => opSlice P t (st.ev x) (lo.map st.ev) (hi.map st.ev) (mx.map st.ev) (K st) st
  | .fieldAddr s x f => opFieldAddr P s (st.ev x) f (K st)
  | .field s x f => opField P s (st.ev x) f (K st)
  | .indexAddr t x ix => opIndexAddr P t (st.ev x) (st.ev ix) (K st) st
  | .index t x ix => opIndex P t (st.ev x) (st.ev ix) (K st)
  | .extract x i => opExtract (st.ev x) i (K st)
  | .makeMap t r => opMakeMap P t (r.map st.ev) (dstOf o.dst) K st
  | .lookup t x ix ok => opLookup P t (st.ev x) (st.ev ix) ok (K st) st
  | .mapUpdate t x ix v => opMapUpdate P t (st.ev x) (st.ev ix) (st.ev v) (fun s => K s .any) st
  | .call c => aopC P o c K st
  | _ => OpX P o K st

theorem aopx_sound {P : Program} {o : Oper} {K : St → D → Prop} {st : St} (h : aopx P o K st) : OpX P o K st := by
  unfold aopx at h
  split at h <;> rename_i ho
  · exact opMove_sound (.inl ho) h
  · exact opMove_sound (.inr ho) h
  · exact opPick_sound ho h
  · exact opAlloc_sound _ ho h
  · exact opBox_sound _ ho h
  · exact opBuild_sound ho h
  · exact opBuildSliceM_sound _ ho h
  · exact opLoad_sound ho h
  · exact opStore_sound ho h
  · exact opNilCheck_sound ho h
  · exact opBin_sound ho h
  · exact opUn_sound ho h
  · exact opConvert_sound ho h
  · obtain ⟨hf, h⟩ := h
    rw [arr0 hf] at ho
    exact opMakeFunc_sound ho h
  · exact opMakeSlice_sound _ ho h
  · exact opSlice_sound ho h
  · exact opFieldAddr_sound ho h
  · exact opField_sound ho h
  · exact opIndexAddr_sound ho h
  · exact opIndex_sound ho h
  · exact opExtract_sound ho h
  · exact opMakeMap_sound _ ho h
  · exact opLookup_sound ho h
  · exact opMapUpdate_sound ho h
  · exact aopC_sound ho h
  · exact h

/-- The same, in a region whose order is the text's. -/
def aopxM (P : Program) (o : Oper) (K : St → D → Prop) (st : St) : Prop :=
  match o.op with
  | .slice t x (some lo) hi mx => opSliceM P t (st.ev x) (some (st.ev lo)) (hi.map st.ev) (mx.map st.ev) K st
  | _ => aopx P o K st
theorem aopxM_sound {P : Program} {o : Oper} {K : St → D → Prop} {st : St} (h : aopxM P o K st) : OpX P o K st := by
  unfold aopxM at h
  split at h
  · rename_i ho
    exact opSliceM_sound ho h
  · exact aopx_sound h

def aop (P : Program) (o : Oper) (K : St → Prop) (st : St) : Prop := okDst st o.dst ∧ aopx P o (fun s x => K (s.put o.dst x)) st

theorem aop_sound {P : Program} {o : Oper} {K : St → Prop} {st : St} (h : aop P o K st) {J0 : Nat → Prop} {ρ : Nat → Loc} {J : Nat → Prop} {B : Bound} {w0 : World} {a : Act} {w : World} (hs : Sim J0 ρ J B w0 st a w)
    {Kc : Act → World → Prop} {Q : Exit → Act → World → Prop} (hk : ∀ a' w', SimE J0 B w0 K a' w' → Kc a' w') : o.wp P a w Kc Q := by
  refine aopx_sound h.2 J0 ρ J B w0 a w hs Kc Q fun st' ρ' J' x y w' hK hn hs' hx => ?_
  refine hk _ _ ⟨_, ρ', J', hK, hs'.put o.dst (fun d hd => ?_) hx⟩
  have := h.1
  rw [hd] at this
  rw [hn]; exact this

def aopM (P : Program) (o : Oper) (K : St → Prop) (st : St) : Prop := okDst st o.dst ∧ aopxM P o (fun s x => K (s.put o.dst x)) st

theorem aopM_sound {P : Program} {o : Oper} {K : St → Prop} {st : St} (h : aopM P o K st) {J0 : Nat → Prop} {ρ : Nat → Loc} {J : Nat → Prop} {B : Bound} {w0 : World} {a : Act} {w : World} (hs : Sim J0 ρ J B w0 st a w)
    {Kc : Act → World → Prop} {Q : Exit → Act → World → Prop} (hk : ∀ a' w', SimE J0 B w0 K a' w' → Kc a' w') : o.wp P a w Kc Q := by
  refine aopxM_sound h.2 J0 ρ J B w0 a w hs Kc Q fun st' ρ' J' x y w' hK hn hs' hx => ?_
  refine hk _ _ ⟨_, ρ', J', hK, hs'.put o.dst (fun d hd => ?_) hx⟩
  have := h.1
  rw [hd] at this
  rw [hn]; exact this

/-- The operations of a region, in the order of the text. -/
def guardOf (ops : List Oper) (j : Nat) : Option Tmp := (ops[j]?).bind (·.dst)

/-- What a guard's slot says: yes or no, or it was not asked. -/
def gB (want : Bool) (d : D) (b : Bool) : Prop := d = .v (.bool b) ∨ (d = .tup [] ∧ b = !want)
theorem gB.noRef {want : Bool} {d : D} {b : Bool} (h : gB want d b) : d.noRef = true := by
  rcases h with h | ⟨h, _⟩ <;> rw [h] <;> rfl

/-- One operation of a region, with its guard. -/
def opA (P : Program) (all : List Oper) (o : Oper) (K : St → Prop) (st : St) : Prop :=
  match o.guard with
  | none => aop P o K st
  | some (j, want) => ∃ d, guardOf all j = some d ∧ d < st.n ∧ ∃ b, gB want (st.t d) b ∧ (b = want → aop P o K st) ∧ (b ≠ want → okDst st o.dst ∧ K (st.put o.dst (.tup [])))

def opAM (P : Program) (all : List Oper) (o : Oper) (K : St → Prop) (st : St) : Prop :=
  match o.guard with
  | none => aopM P o K st
  | some (j, want) => ∃ d, guardOf all j = some d ∧ d < st.n ∧ ∃ b, gB want (st.t d) b ∧ (b = want → aopM P o K st) ∧ (b ≠ want → okDst st o.dst ∧ K (st.put o.dst (.tup [])))

def aops (P : Program) (all : List Oper) : List Oper → (St → Prop) → St → Prop
  | [], K, st => K st
  | o :: rest, K, st => opAM P all o (aops P all rest K) st

theorem opA_sound {P : Program} {ops : Array Oper} {Q : Exit → Act → World → Prop} {J0 : Nat → Prop} {B : Bound} {w0 : World} {o : Oper} {K : St → Prop} {st : St} {ρ : Nat → Loc} {J : Nat → Prop} {a : Act} {w : World}
    (h : opA P ops.toList o K st) (hs : Sim J0 ρ J B w0 st a w) {Kc : Act → World → Prop} (hk : ∀ a' w', SimE J0 B w0 K a' w' → Kc a' w') :
    if Region.wanted o (yielded ops a.tmps) then o.wp P a w Kc Q else Kc (a.put o.dst undef) w := by
  unfold opA at h
  split at h
  · rename_i hg
    rw [if_pos (by simp [Region.wanted, hg])]
    exact aop_sound h hs hk
  · rename_i j want hg
    obtain ⟨d, h1, hd, b, h2, h3, h4⟩ := h
    have hsl := hs.slots d
    have hlt : d < a.tmps.size := by rw [hs.size]; exact hd
    have h1' : (ops[j]?).bind (·.dst) = some d := by simpa [guardOf] using h1
    have skip : b ≠ want → Kc (a.put o.dst undef) w := by
      intro hb
      obtain ⟨h5, h6⟩ := h4 hb
      refine hk _ _ ⟨_, ρ, J, h6, hs.put o.dst (fun d' hd' => ?_) (x := .tup []) (y := undef) ⟨[], rfl, rfl⟩⟩
      rw [hd'] at h5
      exact h5
    rcases h2 with h2 | ⟨h2, hb⟩
    · rw [h2] at hsl
      have hy : yielded ops a.tmps j = some b := by
        have hv : a.tmps[d]? = some (.bool b) := by
          have := hsl.1
          simpa [hlt] using this
        unfold yielded
        rw [h1']
        simp [hv]
      by_cases hb : b = want
      · rw [if_pos (by simp [Region.wanted, hg, hy, hb])]
        exact aop_sound (h3 hb) hs hk
      · rw [if_neg (by simp [Region.wanted, hg, hy, hb])]
        exact skip hb
    · rw [h2] at hsl
      have hy : yielded ops a.tmps j = none := by
        obtain ⟨vs, e1, e2⟩ := hsl
        have e3 : vs = [] := e2
        have hv : a.tmps[d]? = some (.tuple #[]) := by
          subst e3
          simpa [hlt] using e1
        unfold yielded
        rw [h1']
        simp [hv]
      rw [if_neg (by simp [Region.wanted, hg, hy])]
      exact skip (by rw [hb]; cases want <;> simp)

theorem opAM_sound {P : Program} {ops : Array Oper} {Q : Exit → Act → World → Prop} {J0 : Nat → Prop} {B : Bound} {w0 : World} {o : Oper} {K : St → Prop} {st : St} {ρ : Nat → Loc} {J : Nat → Prop} {a : Act} {w : World}
    (h : opAM P ops.toList o K st) (hs : Sim J0 ρ J B w0 st a w) {Kc : Act → World → Prop} (hk : ∀ a' w', SimE J0 B w0 K a' w' → Kc a' w') :
    if Region.wanted o (yielded ops a.tmps) then o.wp P a w Kc Q else Kc (a.put o.dst undef) w := by
  unfold opAM at h
  split at h
  · rename_i hg
    rw [if_pos (by simp [Region.wanted, hg])]
    exact aopM_sound h hs hk
  · rename_i j want hg
    obtain ⟨d, h1, hd, b, h2, h3, h4⟩ := h
    have hsl := hs.slots d
    have hlt : d < a.tmps.size := by rw [hs.size]; exact hd
    have h1' : (ops[j]?).bind (·.dst) = some d := by simpa [guardOf] using h1
    have skip : b ≠ want → Kc (a.put o.dst undef) w := by
      intro hb
      obtain ⟨h5, h6⟩ := h4 hb
      refine hk _ _ ⟨_, ρ, J, h6, hs.put o.dst (fun d' hd' => ?_) (x := .tup []) (y := undef) ⟨[], rfl, rfl⟩⟩
      rw [hd'] at h5
      exact h5
    rcases h2 with h2 | ⟨h2, hb⟩
    · rw [h2] at hsl
      have hy : yielded ops a.tmps j = some b := by
        have hv : a.tmps[d]? = some (.bool b) := by
          have := hsl.1
          simpa [hlt] using this
        unfold yielded
        rw [h1']
        simp [hv]
      by_cases hb : b = want
      · rw [if_pos (by simp [Region.wanted, hg, hy, hb])]
        exact aopM_sound (h3 hb) hs hk
      · rw [if_neg (by simp [Region.wanted, hg, hy, hb])]
        exact skip hb
    · rw [h2] at hsl
      have hy : yielded ops a.tmps j = none := by
        obtain ⟨vs, e1, e2⟩ := hsl
        have e3 : vs = [] := e2
        have hv : a.tmps[d]? = some (.tuple #[]) := by
          subst e3
          simpa [hlt] using e1
        unfold yielded
        rw [h1']
        simp [hv]
      rw [if_neg (by simp [Region.wanted, hg, hy])]
      exact skip (by rw [hb]; cases want <;> simp)

theorem aops_sound {P : Program} {ops : Array Oper} {Q : Exit → Act → World → Prop} {J0 : Nat → Prop} {B : Bound} {w0 : World} : ∀ (l : List Oper) (K : St → Prop) (st : St) (ρ : Nat → Loc) (J : Nat → Prop) (a : Act) (w : World),
    aops P ops.toList l K st → Sim J0 ρ J B w0 st a w → (∀ a' w', SimE J0 B w0 K a' w' → Q .normal a' w') → wpList P ops Q l a w
  | [], K, st, ρ, J, a, w, h, hs, hk => hk a w ⟨st, ρ, J, h, hs⟩
  | o :: rest, K, st, ρ, J, a, w, h, hs, hk => by
    unfold wpList
    have := opAM_sound (Q := Q) (ops := ops) h hs fun a' w' ⟨st', ρ', J', h5, h6⟩ => aops_sound rest K st' ρ' J' a' w' h5 h6 hk
    split
    · rename_i hw
      rw [if_pos hw] at this
      exact .inl this
    · rename_i hw
      rw [if_neg hw] at this
      exact this

/-- The operations of a region, in whatever order. -/
def anyA (P : Program) (ops : Array Oper) (K : St → Prop) : Nat → Array Bool → St → Prop
  | 0, listed, st => Region.ready .any ops listed = [] ∧ K st
  | f + 1, listed, st => (Region.ready .any ops listed = [] → K st) ∧ ∀ i ∈ Region.ready .any ops listed, ∀ o, ops[i]? = some o → opA P ops.toList o (anyA P ops K f (listed.setIfInBounds i true)) st

theorem anyA_sound {P : Program} {ops : Array Oper} {Q : Exit → Act → World → Prop} {J0 : Nat → Prop} {B : Bound} {w0 : World} {K : St → Prop} (hk : ∀ a' w', SimE J0 B w0 K a' w' → Q .normal a' w') :
    ∀ (f : Nat) (listed : Array Bool) (st : St) (ρ : Nat → Loc) (J : Nat → Prop) (a : Act) (w : World), anyA P ops K f listed st → Sim J0 ρ J B w0 st a w → wpAny P .any ops Q f listed a w
  | 0, listed, st, ρ, J, a, w, h, hs => ⟨h.1, hk a w ⟨st, ρ, J, h.2, hs⟩⟩
  | f + 1, listed, st, ρ, J, a, w, h, hs => by
    refine ⟨fun hr => hk a w ⟨st, ρ, J, h.1 hr, hs⟩, fun i hi => ?_⟩
    unfold wpOp
    cases ho : ops[i]? with
    | none =>
      obtain ⟨_, o, ho', _⟩ := mem_ready.1 hi
      rw [ho] at ho'; cases ho'
    | some o =>
      have := opA_sound (Q := Q) (ops := ops) (h.2 i hi o ho) hs fun a' w' ⟨st', ρ', J', h5, h6⟩ => anyA_sound hk f _ st' ρ' J' a' w' h5 h6
      simp only
      split
      · rename_i hw
        rw [if_pos hw] at this
        exact .inl this
      · rename_i hw
        rw [if_neg hw] at this
        exact this


theorem Weak.refl (st : St) : Weak st st := fun _ ρ J _ _ _ _ h => ⟨ρ, J, h⟩

/-- A TEXT: N: what holds where it ends; X: where it leaves a block; R: where it returns. -/
def awp (P : Program) : Code → (St → Prop) → (Nat → St → Prop) → (St → Prop) → St → Prop
  | .skip, N, _, _, st => N st
  | .seq a b, N, X, R, st => awp P a (fun s => awp P b N X R s) X R st
  | .cond c x y, N, X, R, st => ∃ b, st.ev c = .v (.bool b) ∧ (b = true → awp P x N X R st) ∧ (b = false → awp P y N X R st)
  | .block id c, N, X, R, st => awp P c N (fun i s => if i = id then N s else X i s) R st
  | .exit id, _, X, _, st => X id st
  | .ret, _, _, R, st => R st
  | .region _ ops false, N, _, _, st => aops P ops.toList ops.toList N st
  | .region _ ops true, N, _, _, st => P.follows .mixedOrders = true ∧ anyA P ops N ops.size (Array.replicate ops.size false) st
  | .loop c, _, X, R, st => ∃ I : Nat → St → Prop, (∃ n s, Weak st s ∧ I n s) ∧ ∀ n s, I n s → awp P c (fun s' => ∃ m s'', m < n ∧ Weak s' s'' ∧ I m s'') X R s
  | .label _, N, _, _, st => N st
  | _, _, _, _, _ => False

/-- How the ends of a text are told to the machine. -/
def ends (J0 : Nat → Prop) (B : Bound) (w0 : World) (N : St → Prop) (X : Nat → St → Prop) (R : St → Prop) : Exit → Act → World → Prop
  | .normal, a, w => SimE J0 B w0 N a w
  | .exit id, a, w => SimE J0 B w0 (X id) a w
  | .ret, a, w => SimE J0 B w0 R a w
  | _, _, _ => False

theorem SimE.mono {J0 : Nat → Prop} {B : Bound} {w0 : World} {K K' : St → Prop} {a : Act} {w : World} (h : SimE J0 B w0 K a w) (hk : ∀ s, K s → K' s) : SimE J0 B w0 K' a w :=
  let ⟨st, ρ, J, h1, h2⟩ := h; ⟨st, ρ, J, hk st h1, h2⟩

theorem awp_sound {P : Program} {J0 : Nat → Prop} {B : Bound} {w0 : World} : ∀ (c : Code) (N : St → Prop) (X : Nat → St → Prop) (R : St → Prop) (st : St) (ρ : Nat → Loc) (J : Nat → Prop) (a : Act) (w : World),
    awp P c N X R st → Sim J0 ρ J B w0 st a w → c.wp P (ends J0 B w0 N X R) a w := by
  intro c
  induction c with
  | skip => intro N X R st ρ J a w h hs; exact wp_skip ⟨st, ρ, J, h, hs⟩
  | seq x y ihx ihy =>
    intro N X R st ρ J a w h hs
    refine wp_seq (wp_mono (ihx _ X R st ρ J a w h hs) ?_)
    rintro e a' w' he
    cases e with
    | normal => obtain ⟨s, ρ', J', h1, h2⟩ := he; exact ihy N X R s ρ' J' a' w' h1 h2
    | exit id => exact he
    | ret => exact he
    | goto l => exact he.elim
    | panic c => exact he.elim
    | outgrown => exact he.elim
  | cond c x y ihx ihy =>
    intro N X R st ρ J a w h hs
    obtain ⟨b, h1, h2, h3⟩ := h
    have hc := hs.ev c
    rw [h1] at hc
    refine wp_cond_split hc.1 (fun hb => ?_) fun hb => ?_
    · exact ihx N X R st ρ J a w (h2 hb) hs
    · exact ihy N X R st ρ J a w (h3 hb) hs
  | block id c ih =>
    intro N X R st ρ J a w h hs
    refine wp_block (wp_mono (ih _ _ _ st ρ J a w h hs) ?_)
    rintro e a' w' he
    cases e with
    | exit i =>
      simp only [Exit.inBlock]
      by_cases hi : i = id
      · rw [if_pos hi]
        refine SimE.mono (show SimE J0 B w0 _ a' w' from he) fun s hs' => ?_
        simp only [if_pos hi] at hs'
        exact hs'
      · rw [if_neg hi]
        refine SimE.mono (show SimE J0 B w0 _ a' w' from he) fun s hs' => ?_
        simp only [if_neg hi] at hs'
        exact hs'
    | normal => exact he
    | ret => exact he
    | goto l => exact he.elim
    | panic c => exact he.elim
    | outgrown => exact he.elim
  | exit id => intro N X R st ρ J a w h hs; exact wp_exit ⟨st, ρ, J, h, hs⟩
  | ret => intro N X R st ρ J a w h hs; exact wp_ret ⟨st, ρ, J, h, hs⟩
  | region id ops dr =>
    intro N X R st ρ J a w h hs
    cases dr with
    | true => exact wp_region_any h.1 (anyA_sound (fun a' w' h' => h') _ _ st ρ J a _ h.2 (hs.grow (Below.refl w.heap.size w).drew (fun _ h => h) fun b hb => .inl hb))
    | false => exact wp_region_list (aops_sound ops.toList N st ρ J a w h hs fun a' w' h' => h')
  | loop c ih =>
    intro N X R st ρ J a w h hs
    obtain ⟨I, ⟨n0, s, hw, hI⟩, hround⟩ := h
    obtain ⟨ρ1, J1, hs1⟩ := hw J0 ρ J B w0 a w hs
    have key : ∀ n a w, (∃ s ρ J, I n s ∧ Sim J0 ρ J B w0 s a w) → ∀ (b : Frame) (k : List Item) (cs : List Frame),
        ∃ e a' w', ends J0 B w0 N X R e a' w' ∧ Arrives P (lone (b.at a (.code c :: .inLoop c :: k)) cs w) b k cs e a' w' := by
      intro n
      induction n using Nat.strongRecOn with
      | _ n ihn =>
        rintro a w ⟨s, ρ, J, hI, hs⟩ b k cs
        obtain ⟨e, a₁, w₁, hq, harr⟩ := ih _ X R s ρ J a w (hround n s hI) hs b (.inLoop c :: k) cs
        cases e with
        | normal =>
          obtain ⟨s', ρ', J', ⟨m, s'', hlt, hw', hI'⟩, hs'⟩ := hq
          obtain ⟨ρ'', J'', hs''⟩ := hw' J0 ρ' J' B w0 a₁ w₁ hs'
          obtain ⟨e₂, a₂, w₂, hq₂, harr₂⟩ := ihn m hlt a₁ w₁ ⟨s'', ρ'', J'', hI', hs''⟩ b k cs
          exact ⟨e₂, a₂, w₂, hq₂, .of_steps (Steps.trans harr (.one step_inLoop)) harr₂⟩
        | exit id => exact ⟨.exit id, a₁, w₁, hq, .pass (x := .inLoop c) rfl (fun _ _ => .inl (by simp)) harr⟩
        | ret => exact ⟨.ret, a₁, w₁, hq, .pass (x := .inLoop c) rfl (fun _ _ => .inl (by simp)) harr⟩
        | goto l => exact hq.elim
        | panic ch => exact hq.elim
        | outgrown => exact hq.elim
    intro b k cs
    obtain ⟨e, a', w', hq, harr⟩ := key n0 a w ⟨s, ρ1, J1, hI, hs1⟩ b k cs
    exact ⟨e, a', w', hq, .of_steps (.one step_loop) harr⟩
  | label l => intro N X R st ρ J a w h hs; exact wp_label ⟨st, ρ, J, h, hs⟩
  | scope c ih => intro N X R st ρ J a w h hs; exact h.elim
  | goto l => intro N X R st ρ J a w h hs; exact h.elim
  | rangeFunc f ps x y ihx ihy => intro N X R st ρ J a w h hs; exact h.elim
  | refuse y => intro N X R st ρ J a w h hs; exact h.elim

end Go.VL

end
section
/- A function by its text. -/
namespace Go.VL
open Go Go.RowKit

def initT : Nat → List D → Nat → D
  | _, [] => fun _ => .any
  | k, d :: ds => upd (initT (k + 1) ds) k d

def St.init (args : List D) (n : Nat) : St := { t := initT 0 args, H := fun _ => none, n := n }

theorem initT_rel {ρ : Nat → Loc} {J : Nat → Prop} {w : World} : ∀ (l : List D) (vs : List Value) (k j : Nat), RelDs ρ J w l vs → k ≤ j → RelD ρ J w (initT k l j) (vs.getD (j - k) undef)
  | [], vs, k, j, _, _ => trivial
  | d :: ds, vs, k, j, h, hj => by
    obtain ⟨x, xs, rfl, h2, h3⟩ := h
    by_cases hk : j = k
    · subst hk
      simpa [initT, upd_same] using h2
    · simp only [initT, upd_ne _ _ _ _ hk]
      have := initT_rel ds xs (k + 1) j h3 (by omega)
      have e : j - k = (j - (k + 1)) + 1 := by omega
      rw [e, List.getD_cons_succ]
      exact this

/-- A result. -/
def resD (P : Program) (st : St) : ResultVar → Option D
  | .tmp t => some (st.t t)
  | .cell a t => match st.t a with
    | .adr id i o => match st.H id with
      | some ob => match ob.els[i]? with
        | some d => if okT P t = true ∧ d.width = ob.S then partOf d o (P.cellsOf t) (aggT P t) else none
        | none => none
      | none => none
    | _ => none

def resDs (P : Program) (st : St) : List ResultVar → Option (List D)
  | [] => some []
  | r :: rs => match resD P st r with
    | some d => (resDs P st rs).map (d :: ·)
    | none => none

def pack : List D → D
  | [d] => d
  | l => .tup l

def Ret (P : Program) (fn : Func) (R : D → Prop) (st : St) : Prop :=
  ∃ rs, resDs P st fn.results.toList = some rs ∧ ∃ p, frzAll (D.idss rs) st rs = some p ∧ D.noRefs p.2 = true ∧ R (pack (D.nrms p.2))

def resSem (tmps : Array Value) : ResultVar → Sem Value
  | .tmp t => pure (tmps.getD t undef)
  | .cell a t => do loadVar t (← asAddr (tmps.getD a undef))

theorem run_resD {P : Program} {J0 : Nat → Prop} {ρ : Nat → Loc} {J : Nat → Prop} {B : Bound} {w0 : World} {st : St} {a : Act} {w : World} (hs : Sim J0 ρ J B w0 st a w) {r : ResultVar} {d : D} (h : resD P st r = some d) :
    ∃ y, (resSem a.tmps r).run P w = .ok y w ∧ RelD ρ J w d y := by
  cases r with
  | tmp t =>
    simp only [resD, Option.some.injEq] at h
    subst h
    exact ⟨_, rfl, hs.slots t⟩
  | cell ad t =>
    simp only [resD] at h
    split at h
    · rename_i id i off hd
      split at h
      · rename_i ob hob
        split at h
        · rename_i e he
          split at h
          · rename_i hc
            obtain ⟨h1, h2⟩ := hc
            have hx := hs.slots ad
            rw [hd] at hx
            obtain ⟨g, h6, h7⟩ := hx
            have ho := (hs.objs id ob hob).cells (by rw [← h2]; exact partOf_pos h (okT_spec h1).1)
            obtain ⟨hcap, g', cur, vs, z, h8, h9, h10, h11, h12, h13, h14, h15, h16, h17⟩ := ho.elem he
            rw [h6] at h8; cases h8
            have hS : (ρ id).S = ob.S := ho.1
            have hz := (h15 z (List.mem_of_getElem? h13)).1
            obtain ⟨y, h18, h19⟩ := run_loadPart (P := P) h1 (g := g) (b := i * ob.S) h14 (by rw [hz, h2]) h17 h
            refine ⟨y, ?_, h19⟩
            simp only [resSem, h7, asAddr, Sem.run_bind, Sem.run_pure, Result.andThen_ok, hS, h18]
          · cases h
        · cases h
      · cases h
    · cases h

theorem run_resDs {P : Program} {J0 : Nat → Prop} {ρ : Nat → Loc} {J : Nat → Prop} {B : Bound} {w0 : World} {st : St} {a : Act} {w : World} (hs : Sim J0 ρ J B w0 st a w) : ∀ (l : List ResultVar) (rs : List D), resDs P st l = some rs →
    ∃ ys, (l.mapM (resSem a.tmps)).run P w = .ok ys w ∧ RelDs ρ J w rs ys
  | [], rs, h => by simp only [resDs, Option.some.injEq] at h; subst h; exact ⟨[], by simp, rfl⟩
  | r :: l, rs, h => by
    unfold resDs at h
    split at h
    · rename_i d hd
      simp only [Option.map_eq_some_iff] at h
      obtain ⟨rs', h1, rfl⟩ := h
      obtain ⟨y, h2, h3⟩ := run_resD (P := P) hs hd
      obtain ⟨ys, h4, h5⟩ := run_resDs hs l rs' h1
      exact ⟨y :: ys, by simp only [List.mapM_cons, Sem.run_bind, h2, Result.andThen_ok, h4, Sem.run_pure], y, ys, rfl, h3, h5⟩
    · cases h

theorem results_eq (fn : Func) (tmps : Array Value) (P : Program) (w : World) {ys : List Value} (h : (fn.results.toList.mapM (resSem tmps)).run P w = .ok ys w) :
    (results fn tmps).run P w = .ok (if h : ys.toArray.size = 1 then ys.toArray[0] else .tuple ys.toArray) w := by
  have key : ∀ (F : ResultVar → Sem Value), (∀ r, F r = resSem tmps r) →
      (fn.results.mapM F >>= fun vs => pure (if h : vs.size = 1 then vs[0] else .tuple vs) : Sem Value).run P w = .ok (if h : ys.toArray.size = 1 then ys.toArray[0] else .tuple ys.toArray) w := by
    intro F hF
    obtain rfl : F = resSem tmps := funext hF
    rw [Array.mapM_eq_mapM_toList]
    simp only [Sem.run_bind, Sem.run_map, h, Result.andThen_ok, Sem.run_pure]
  exact key _ fun r => by cases r <;> rfl

mutual
def D.wf : D → Prop
  | .lst l => l.length ≤ capMax ∧ D.wfs l
  | .agg l => D.wfs l
  | .tup l => D.wfs l
  | .clos _ l => D.wfs l
  | .ptr d => d.wf
  | _ => True
def D.wfs : List D → Prop
  | [] => True
  | d :: ds => d.wf ∧ D.wfs ds
end

mutual
theorem RelP.wf {J : Nat → Prop} {w : World} : ∀ {d : D} {y : Value}, RelP J w d y → d.wf
  | .any, _, _ => trivial
  | .v _, _, _ => trivial
  | .nil0, _, _ => trivial
  | .lst l, _, h => by obtain ⟨a, c, vs, _, _, _, h4, _, h5, _⟩ := h; exact ⟨h4, RelPs.wf h5⟩
  | .ptr d, _, h => by obtain ⟨b, o, x, _, h2, _⟩ := h; exact RelP.wf (d := d) h2
  | .agg l, _, h => by obtain ⟨vs, _, h2, _⟩ := h; exact RelPs.wf h2
  | .tup l, _, h => by obtain ⟨vs, _, h2⟩ := h; exact RelPs.wf h2
  | .clos f caps, _, h => by obtain ⟨vs, _, h2⟩ := h; exact RelPs.wf h2
  | .ref _ _, _, h => h.elim
  | .adr _ _ _, _, h => h.elim
  | .sub _ _ _, _, h => h.elim
  | .loc _ _, _, h => h.elim
  | .mp _, _, h => h.elim
theorem RelPs.wf {J : Nat → Prop} {w : World} : ∀ {l : List D} {vs : List Value}, RelPs J w l vs → D.wfs l
  | [], _, _ => trivial
  | d :: ds, vs, h => by
    obtain ⟨x, xs, h1, h2, h3⟩ := h
    exact ⟨RelP.wf h2, RelPs.wf h3⟩
end

theorem pack_rel {J : Nat → Prop} {w : World} {l : List D} {ys : List Value} (h : RelPs J w l ys) : RelP J w (pack l) (if h : ys.toArray.size = 1 then ys.toArray[0] else .tuple ys.toArray) := by
  have hl := (RelPs_get _ _ h).1
  match l, h, hl with
  | [], h, hl =>
    have : ys = [] := h
    subst this
    exact ⟨[], rfl, rfl⟩
  | [d], h, hl =>
    obtain ⟨x, xs, rfl, h2, h3⟩ := h
    have : xs = [] := h3
    subst this
    exact h2
  | d :: e :: r, h, hl =>
    have hs : ¬ (ys.toArray.size = 1) := by simp at hl ⊢; omega
    rw [dif_neg hs]
    exact ⟨ys, rfl, h⟩

theorem Fun.of_awp {P : Program} {f : FuncId} {fn : Func} {code : Code} {args : List D} {R : D → Prop} (hf : P.funcs[f]? = some fn) (hb : fn.body = some code) (hc : callable P f = true) (hn : args.length ≤ fn.ntmps)
    (h : D.wfs args → awp P code (Ret P fn R) (fun _ _ => False) (Ret P fn R) (St.init args fn.ntmps)) : Fun P f args R := by
  refine ⟨hc, fun J0 w vs hJ hG hv => ?_⟩
  have hwf := RelPs.wf hv
  have hlen := (RelPs_get _ _ hv).1
  have hs : Sim J0 (fun _ => ⟨none, 0, 0⟩) J0 (.at w.heap.size) w (St.init args fn.ntmps) { tmps := vs.toArray ++ Array.replicate (fn.ntmps - vs.toArray.size) undef, defers := [] } w := by
    refine { old := fun b hb => .inl hb, own := fun id o g hi => by simp [St.init] at hi, lt := hJ, slots := fun j => ?_, objs := fun id o hi => by simp [St.init] at hi, apart := fun i j oi oj hi => by simp [St.init] at hi, size := by simp [St.init]; omega, defers := rfl, below := BelowM.refl _ _, base := rfl, glob := hG }
    have := initT_rel (ρ := fun _ => ⟨none, 0, 0⟩) (J := J0) (w := w) args vs 0 j (RelPs.toD hv) (Nat.zero_le _)
    simp only [Nat.sub_zero] at this
    show RelD _ _ _ (initT 0 args j) _
    by_cases hj : j < vs.length
    · have e : (vs.toArray ++ Array.replicate (fn.ntmps - vs.toArray.size) undef).getD j undef = vs.getD j undef := by
        simp [Array.getElem?_append, hj]
      rw [e]; exact this
    · have e : (vs.toArray ++ Array.replicate (fn.ntmps - vs.toArray.size) undef).getD j undef = undef := by
        simp [Array.getElem?_append, hj, Array.getElem?_replicate]
        split <;> rfl
      rw [e]
      have e2 : vs.getD j undef = undef := by simp [List.getD, List.getElem?_eq_none (Nat.le_of_not_lt hj)]
      rw [e2] at this
      exact this
  have hwp := awp_sound code _ _ _ _ _ J0 _ w (h hwf) hs
  refine calls_of_wp hf hb (wp_mono hwp ?_)
  rintro e a w' he
  have fin : SimE J0 (.at w.heap.size) w (Ret P fn R) a w' → a.defers = [] ∧ ∃ v, (results fn a.tmps).run P w' = .ok v w' ∧ ∃ y r, Ending.returned v = .returned y ∧ R r ∧ Below w.heap.size w w' ∧ RelP (fun b => J0 b ∨ (w.heap.size ≤ b ∧ b < w'.heap.size)) w' r y := by
    rintro ⟨st, ρ, J, ⟨rs, h1, p, h2, h3, h4⟩, hst⟩
    refine ⟨hst.defers, ?_⟩
    obtain ⟨ys, h5, h6⟩ := run_resDs (P := P) hst _ _ h1
    obtain ⟨J', h7, h8, h9, h10⟩ := frzAll_sim _ J st rs ys p hst h6 h2
    refine ⟨_, results_eq fn a.tmps P w' h5, _, _, rfl, h4, hst.below.plain, ?_⟩
    refine RelP.mono (fun b hb => ?_) (fun _ _ => rfl) _ _ (pack_rel (RelDs.toP h9 h3).nrm)
    rcases h8.old b hb with h | h | h
    · exact .inl h
    · exact .inr ⟨h, h8.lt b hb⟩
    · exact h.elim
  cases e with
  | normal => exact fin he
  | ret => exact fin he
  | exit id => obtain ⟨_, _, _, hf, _⟩ := he; exact hf.elim
  | goto l => exact he.elim
  | panic c => exact he.elim
  | outgrown => exact he.elim

/-- Results of which one may be owned by the caller. -/
def RetO (P : Program) (fn : Func) (R : D → Option Own → Prop) (st0 : St) : Prop :=
  ∃ st, Weak st0 st ∧ ∃ rs, resDs P st fn.results.toList = some rs ∧
    ((∃ p, frzAll (D.idss rs) st rs = some p ∧ D.noRefs p.2 = true ∧ R (pack p.2) none) ∨
     (∃ id o ids p, st.H id = some o ∧ frzAll ids st rs = some p ∧ p.1.H id = some o ∧ D.noRefs o.els = true ∧ (∀ i ∈ D.idss p.2, i = id) ∧ R (pack (D.rens 0 p.2)) (some o)))

theorem pack_relD {ρ : Nat → Loc} {J : Nat → Prop} {w : World} {l : List D} {ys : List Value} (h : RelDs ρ J w l ys) : RelD ρ J w (pack l) (if h : ys.toArray.size = 1 then ys.toArray[0] else .tuple ys.toArray) := by
  have hl := (RelDs_get _ _ h).1
  match l, h, hl with
  | [], h, hl =>
    have : ys = [] := h
    subst this
    exact ⟨[], rfl, rfl⟩
  | [d], h, hl =>
    obtain ⟨x, xs, rfl, h2, h3⟩ := h
    have : xs = [] := h3
    subst this
    exact h2
  | d :: e :: r, h, hl =>
    have hs : ¬ (ys.toArray.size = 1) := by simp at hl ⊢; omega
    rw [dif_neg hs]
    exact ⟨ys, rfl, h⟩

mutual
theorem D.ids_ren0 : ∀ (d : D) (i : Nat), i ∈ (d.ren 0).ids → i = 0
  | .any, i, h => by simp [D.ren, D.ids] at h
  | .v _, i, h => by simp [D.ren, D.ids] at h
  | .nil0, i, h => by simp [D.ren, D.ids] at h
  | .lst _, i, h => by simp [D.ren, D.ids] at h
  | .ptr _, i, h => by simp [D.ren, D.ids] at h
  | .agg l, i, h => D.idss_ren0 l i (by simpa [D.ren, D.ids] using h)
  | .tup l, i, h => D.idss_ren0 l i (by simpa [D.ren, D.ids] using h)
  | .clos _ l, i, h => D.idss_ren0 l i (by simpa [D.ren, D.ids] using h)
  | .ref _ _, i, h => by simpa [D.ren, D.ids] using h
  | .adr _ _ _, i, h => by simpa [D.ren, D.ids] using h
  | .sub _ _ _, i, h => by simpa [D.ren, D.ids] using h
  | .loc _ _, i, h => by simpa [D.ren, D.ids] using h
  | .mp _, i, h => by simpa [D.ren, D.ids] using h
theorem D.idss_ren0 : ∀ (l : List D) (i : Nat), i ∈ D.idss (D.rens 0 l) → i = 0
  | [], i, h => by simp [D.rens, D.idss] at h
  | d :: ds, i, h => by
    simp only [D.rens, D.idss, List.mem_append] at h
    rcases h with h | h
    · exact D.ids_ren0 d i h
    · exact D.idss_ren0 ds i h
end

theorem pack_ids {l : List D} (h : ∀ i ∈ D.idss l, i = 0) : ∀ i ∈ (pack l).ids, i = 0 := by
  match l with
  | [] => intro i hi; simp [pack, D.ids, D.idss] at hi
  | [d] => intro i hi; exact h i (by simpa [pack, D.idss] using hi)
  | a :: b :: l => intro i hi; exact h i (by simpa [pack, D.ids] using hi)


theorem pack_noRef {l : List D} (h : D.noRefs l = true) : (pack l).noRef = true := by
  match l with
  | [] => rfl
  | [d] => simpa [pack, D.noRefs] using h
  | a :: b :: l => exact h

mutual
theorem D.noRef_ids : ∀ d : D, d.noRef = true → d.ids = []
  | .any, _ => rfl
  | .v _, _ => rfl
  | .nil0, _ => rfl
  | .lst _, _ => rfl
  | .ptr _, _ => rfl
  | .agg l, h => D.noRefs_ids l h
  | .tup l, h => D.noRefs_ids l h
  | .clos _ l, h => D.noRefs_ids l h
  | .ref _ _, h => by cases h
  | .adr _ _ _, h => by cases h
  | .sub _ _ _, h => by cases h
  | .loc _ _, h => by cases h
  | .mp _, h => by cases h
theorem D.noRefs_ids : ∀ l : List D, D.noRefs l = true → D.idss l = []
  | [], _ => rfl
  | d :: ds, h => by
    have h' : d.noRef = true ∧ D.noRefs ds = true := by simpa [D.noRefs] using h
    simp [D.idss, D.noRef_ids d h'.1, D.noRefs_ids ds h'.2]
end

theorem OwnAt.mono {loc : Loc} {J J' : Nat → Prop} {w : World} {o : Own} (h : OwnAt loc J w o) (hJ : ∀ b, J b → J' b) (hn : ∀ g, 0 < loc.cap → loc.a = some ⟨g, 0, none⟩ → ¬ J g → ¬ J' g) : OwnAt loc J' w o := by
  rcases h with ⟨h1, h2, h3, h4, h5, vs, h6, h7, h8⟩ | ⟨h1, h2, h3, h4, vs, h6, g, ob, h7, h8, h9, h10⟩
  · refine .inl ⟨h1, h2, h3, h4, h5, vs, RelPs.mono hJ (fun _ _ => rfl) _ _ h6, h7, ?_⟩
    rcases h8 with h8 | ⟨c1, g, cur, c2, c3, c4⟩
    · exact .inl h8
    · exact .inr ⟨c1, g, cur, c2, hn g c1 c2 c3, c4⟩
  · exact .inr ⟨h1, h2, h3, h4, vs, RelPs.mono hJ (fun _ _ => rfl) _ _ h6, g, ob, h7, hn g (by omega) h7 h8, h9, h10.mono hJ fun _ _ => rfl⟩

theorem FunO.of_awp {P : Program} {f : FuncId} {fn : Func} {code : Code} {args : List D} {R : D → Option Own → Prop} (hf : P.funcs[f]? = some fn) (hb : fn.body = some code) (hc : callable P f = true) (hn : args.length ≤ fn.ntmps)
    (h : D.wfs args → awp P code (RetO P fn R) (fun _ _ => False) (RetO P fn R) (St.init args fn.ntmps)) : FunO P f args R := by
  refine ⟨hc, fun J0 w vs hJ hG hv => ?_⟩
  have hwf := RelPs.wf hv
  have hlen := (RelPs_get _ _ hv).1
  have hs : Sim J0 (fun _ => ⟨none, 0, 0⟩) J0 (.at w.heap.size) w (St.init args fn.ntmps) { tmps := vs.toArray ++ Array.replicate (fn.ntmps - vs.toArray.size) undef, defers := [] } w := by
    refine { old := fun b hb => .inl hb, own := fun id o g hi => by simp [St.init] at hi, lt := hJ, slots := fun j => ?_, objs := fun id o hi => by simp [St.init] at hi, apart := fun i j oi oj hi => by simp [St.init] at hi, size := by simp [St.init]; omega, defers := rfl, below := BelowM.refl _ _, base := rfl, glob := hG }
    have := initT_rel (ρ := fun _ => ⟨none, 0, 0⟩) (J := J0) (w := w) args vs 0 j (RelPs.toD hv) (Nat.zero_le _)
    simp only [Nat.sub_zero] at this
    show RelD _ _ _ (initT 0 args j) _
    by_cases hj : j < vs.length
    · have e : (vs.toArray ++ Array.replicate (fn.ntmps - vs.toArray.size) undef).getD j undef = vs.getD j undef := by
        simp [Array.getElem?_append, hj]
      rw [e]; exact this
    · have e : (vs.toArray ++ Array.replicate (fn.ntmps - vs.toArray.size) undef).getD j undef = undef := by
        simp [Array.getElem?_append, hj, Array.getElem?_replicate]
        split <;> rfl
      rw [e]
      have e2 : vs.getD j undef = undef := by simp [List.getD, List.getElem?_eq_none (Nat.le_of_not_lt hj)]
      rw [e2] at this
      exact this
  have hwp := awp_sound code _ _ _ _ _ J0 _ w (h hwf) hs
  refine calls_of_wp hf hb (wp_mono hwp ?_)
  rintro e a w' he
  have fin : SimE J0 (.at w.heap.size) w (RetO P fn R) a w' → a.defers = [] ∧ ∃ v, (results fn a.tmps).run P w' = .ok v w' ∧ ∃ y r o, Ending.returned v = .returned y ∧ R r o ∧ Below w.heap.size w w' ∧ ∃ (J' : Nat → Prop) (loc : Loc), (∀ b, J0 b → J' b) ∧ (∀ b, J' b → J0 b ∨ (w.heap.size ≤ b ∧ b < w'.heap.size)) ∧
      RelD (fun _ => loc) J' w' r y ∧ (∀ i ∈ r.ids, i = 0) ∧
      match o with
      | none => r.noRef = true
      | some o => D.noRefs o.els = true ∧ OwnAt loc J' w' o ∧ ∀ g, 0 < loc.cap → loc.a = some ⟨g, 0, none⟩ → w.heap.size ≤ g := by
    rintro ⟨st0, ρ0, J1, ⟨st, hweak, rs, h1, hcase⟩, hst0⟩
    obtain ⟨ρ, J, hst⟩ := hweak _ _ _ _ _ _ _ hst0
    refine ⟨hst.defers, ?_⟩
    obtain ⟨ys, h5, h6⟩ := run_resDs (P := P) hst _ _ h1
    rcases hcase with ⟨p, h2, h3, h4⟩ | ⟨id, o, ids, p, k1, k2, k3, k4, k5, k6⟩
    · obtain ⟨J', h7, h8, h9, h10⟩ := frzAll_sim _ J st rs ys p hst h6 h2
      refine ⟨_, results_eq fn a.tmps P w' h5, _, _, none, rfl, h4, hst.below.plain, fun b => J0 b ∨ J' b, ⟨none, 0, 0⟩, fun b hb => .inl hb, fun b hb => ?_, ?_, ?_, ?_⟩
      · rcases hb with hb | hb
        · exact .inl hb
        · rcases h8.old b hb with h | h | h
          · exact .inl h
          · exact .inr ⟨h, h8.lt b hb⟩
          · exact h.elim
      · exact (RelP.mono (fun b hb => .inr hb) (fun _ _ => rfl) _ _ (pack_rel (RelDs.toP h9 h3))).toD
      · rw [D.noRef_ids _ (pack_noRef h3)]; simp
      · exact pack_noRef h3
    · obtain ⟨J', h7, h8, h9, h10⟩ := frzAll_sim _ J st rs ys p hst h6 k2
      have hob := (h8.objs id o k3).own k4
      have hown := h8.own id o
      refine ⟨_, results_eq fn a.tmps P w' h5, _, _, some o, rfl, k6, hst.below.plain, fun b => J0 b ∨ J' b, ρ id, fun b hb => .inl hb, fun b hb => ?_, RelD.mono (fun _ => rfl) (fun b hb => .inr hb) (fun _ _ => rfl) _ _ (pack_relD (RelDs.back id h9 k5)), pack_ids (D.idss_ren0 _), k4, ?_, fun g hg ha => (h8.own id o g k3 hg ha).elim (fun h => h) fun h => h.elim⟩
      · rcases hb with hb | hb
        · exact .inl hb
        · rcases h8.old b hb with h | h | h
          · exact .inl h
          · exact .inr ⟨h, h8.lt b hb⟩
          · exact h.elim
      · refine hob.mono (fun b hb => .inr hb) fun g c1 c2 c3 => ?_
        rintro (h | h)
        · have := hJ g h
          rcases h8.own id o g k3 c1 c2 with h9 | h9
          · have h9' : w.heap.size ≤ g := h9
            omega
          · exact h9
        · exact c3 h
  cases e with
  | normal => exact fin he
  | ret => exact fin he
  | exit id => obtain ⟨_, _, _, hf, _⟩ := he; exact hf.elim
  | goto l => exact he.elim
  | panic c => exact he.elim
  | outgrown => exact he.elim


/-- Objects that are lent, in order. -/
def lentH : Nat → List Own → Nat → Option Own
  | _, [] => fun _ => none
  | i, o :: l => fun k => if k = i then some o else lentH (i + 1) l k
theorem lentH_get : ∀ (l : List Own) (i k : Nat), i ≤ k → lentH i l k = l[k - i]?
  | [], _, _, _ => by simp [lentH]
  | o :: l, i, k, h => by
    simp only [lentH]
    split
    · rename_i e; subst e; simp
    · rw [lentH_get l (i + 1) k (by omega)]
      have e : k - i = (k - (i + 1)) + 1 := by omega
      rw [e, List.getElem?_cons_succ]
/-- Slots that no text writes bear where the lent objects lie. -/
def ghostT (ls : Nat → Loc) (t : Nat → D) : List (Nat × Nat) → Nat → D
  | [] => t
  | p :: l => fun k => if k = p.1 then .loc p.2 (ls p.2) else ghostT ls t l k
def St.initL (args : List D) (lent : List Own) (gs : List (Nat × Nat)) (ls : Nat → Loc) (n : Nat) : St := { t := ghostT ls (initT 0 args) gs, H := lentH 0 lent, n := n }
theorem ghostT_rel {J : Nat → Prop} {w : World} {ls : Nat → Loc} {t : Nat → D} {f : Nat → Value} : ∀ (gs : List (Nat × Nat)) (j : Nat), RelD ls J w (t j) (f j) → RelD ls J w (ghostT ls t gs j) (f j)
  | [], _, h => h
  | p :: l, j, h => by
    simp only [ghostT]
    split
    · rfl
    · exact ghostT_rel l j h
mutual
theorem RelD.wf {ρ : Nat → Loc} {J : Nat → Prop} {w : World} : ∀ {d : D} {y : Value}, RelD ρ J w d y → d.wf
  | .any, _, _ => trivial
  | .v _, _, _ => trivial
  | .nil0, _, _ => trivial
  | .lst l, _, h => RelP.wf (d := .lst l) h
  | .ptr d, _, h => RelP.wf (d := .ptr d) h
  | .agg l, _, h => by obtain ⟨vs, _, h2, _⟩ := h; exact RelDs.wf h2
  | .tup l, _, h => by obtain ⟨vs, _, h2⟩ := h; exact RelDs.wf h2
  | .clos f caps, _, h => by obtain ⟨vs, _, h2⟩ := h; exact RelDs.wf h2
  | .ref _ _, _, _ => trivial
  | .adr _ _ _, _, _ => trivial
  | .sub _ _ _, _, _ => trivial
  | .loc _ _, _, _ => trivial
  | .mp _, _, _ => trivial
theorem RelDs.wf {ρ : Nat → Loc} {J : Nat → Prop} {w : World} : ∀ {l : List D} {vs : List Value}, RelDs ρ J w l vs → D.wfs l
  | [], _, _ => trivial
  | d :: ds, vs, h => by
    obtain ⟨x, xs, h1, h2, h3⟩ := h
    exact ⟨RelD.wf h2, RelDs.wf h3⟩
end
def lentWf : List Own → Prop
  | [] => True
  | o :: l => (o.els.length ≤ capMax ∧ D.wfs o.els) ∧ lentWf l
theorem lentWf_of {J : Nat → Prop} {w : World} : ∀ (l : List Own), (∀ (i : Nat) (o : Own), l[i]? = some o → ∃ loc, OwnAt loc J w o) → lentWf l
  | [], _ => trivial
  | o :: l, h => by
    refine ⟨?_, lentWf_of l fun i o' hi => h (i + 1) o' (by simpa using hi)⟩
    obtain ⟨loc, h1⟩ := h 0 o (by simp)
    rcases h1 with ⟨_, _, _, _, h5, vs, h6, _⟩ | ⟨_, _, _, h4, vs, h6, _⟩
    · exact ⟨h5, RelPs.wf h6⟩
    · exact ⟨h4, RelPs.wf h6⟩
/-- What is lent goes back with what a function returns. -/
def RetL (P : Program) (fn : Func) (gs : List (Nat × Nat)) (ls : Nat → Loc) (R : D → List Own → Prop) (st0 : St) : Prop :=
  ∃ st, Weak st0 st ∧ ∃ rs, resDs P st fn.results.toList = some rs ∧ ∃ p, frzAll (D.idss rs) st rs = some p ∧ D.noRefs p.2 = true ∧ (∀ q ∈ gs, p.1.t q.1 = .loc q.2 (ls q.2)) ∧
    ∃ os, os.length = gs.length ∧ (∀ i o, os[i]? = some o → p.1.H i = some o ∧ D.noRefs o.els = true) ∧ R (pack (D.nrms p.2)) os

theorem FunL.of_awp {P : Program} {f : FuncId} {fn : Func} {code : Code} {args : List D} {lent : List Own} {R : D → List Own → Prop} (gs : List (Nat × Nat)) (hgs : gs.map (·.2) = List.range lent.length) (hf : P.funcs[f]? = some fn) (hb : fn.body = some code) (hc : callable P f = true) (hn : args.length ≤ fn.ntmps)
    (h : D.wfs args → lentWf lent → ∀ ls, awp P code (RetL P fn gs ls R) (fun _ _ => False) (RetL P fn gs ls R) (St.initL args lent gs ls fn.ntmps)) : FunL P f args lent R := by
  refine ⟨hc, fun J0 ρ0 w vs hJ hG hv hown hap => ?_⟩
  have hwf := RelDs.wf hv
  have hlen := (RelDs_get _ _ hv).1
  have hgl : gs.length = lent.length := by simpa using congrArg List.length hgs
  have hHl : ∀ id o, lentH 0 lent id = some o → lent[id]? = some o := fun id o hi => by rw [lentH_get _ _ _ (Nat.zero_le _)] at hi; simpa using hi
  have hlt : ∀ id o, lentH 0 lent id = some o → id < lent.length := fun id o hi => (List.getElem?_eq_some_iff.1 (hHl id o hi)).1
  have hs : Sim J0 ρ0 J0 ⟨w.heap.size, LentB ρ0 lent.length⟩ w (St.initL args lent gs ρ0 fn.ntmps) { tmps := vs.toArray ++ Array.replicate (fn.ntmps - vs.toArray.size) undef, defers := [] } w := by
    refine { old := fun b hb => .inl hb, own := fun id o g hi hc ha => .inr ⟨id, hlt id o hi, hc, ha⟩, lt := hJ, slots := fun j => ?_, objs := fun id o hi => (hown id o (hHl id o hi)).obj,
             apart := fun i j oi oj hi hj hne hci hcj => hap i j (hlt i oi hi) (hlt j oj hj) hne hci hcj, size := by simp [St.initL]; omega, defers := rfl, below := BelowM.refl _ _, base := rfl, glob := hG }
    refine ghostT_rel (f := fun j => (vs.toArray ++ Array.replicate (fn.ntmps - vs.toArray.size) undef).getD j undef) gs j ?_
    have := initT_rel (ρ := ρ0) (J := J0) (w := w) args vs 0 j hv (Nat.zero_le _)
    simp only [Nat.sub_zero] at this
    show RelD _ _ _ (initT 0 args j) _
    by_cases hj : j < vs.length
    · have e : (vs.toArray ++ Array.replicate (fn.ntmps - vs.toArray.size) undef).getD j undef = vs.getD j undef := by
        simp [Array.getElem?_append, hj]
      show RelD _ _ _ _ (Array.getD _ _ _)
      rw [e]; exact this
    · have e : (vs.toArray ++ Array.replicate (fn.ntmps - vs.toArray.size) undef).getD j undef = undef := by
        simp [Array.getElem?_append, hj, Array.getElem?_replicate]
        split <;> rfl
      show RelD _ _ _ _ (Array.getD _ _ _)
      rw [e]
      have e2 : vs.getD j undef = undef := by simp [List.getD, List.getElem?_eq_none (Nat.le_of_not_lt hj)]
      rw [e2] at this
      exact this
  have hwp := awp_sound code _ _ _ _ _ J0 _ w (h hwf (lentWf_of lent fun i o hi => ⟨_, hown i o hi⟩) ρ0) hs
  refine calls_of_wp hf hb (wp_mono hwp ?_)
  rintro e a w' he
  have fin : SimE J0 ⟨w.heap.size, LentB ρ0 lent.length⟩ w (RetL P fn gs ρ0 R) a w' → a.defers = [] ∧ ∃ v, (results fn a.tmps).run P w' = .ok v w' ∧ ∃ y r os, Ending.returned v = .returned y ∧ R r os ∧ os.length = lent.length ∧ BelowM ⟨w.heap.size, LentB ρ0 lent.length⟩ w w' ∧
      ∃ J' : Nat → Prop, (∀ b, J0 b → J' b) ∧ (∀ b, J' b → J0 b ∨ (w.heap.size ≤ b ∧ b < w'.heap.size)) ∧ RelP J' w' r y ∧ ∀ i o, os[i]? = some o → OwnAt (ρ0 i) J' w' o := by
    rintro ⟨st0, ρ1, J1, ⟨st, hweak, rs, h1, p, h2, h3, h4, os, h5, h6, h7⟩, hst0⟩
    obtain ⟨ρ, J, hst⟩ := hweak _ _ _ _ _ _ _ hst0
    refine ⟨hst.defers, ?_⟩
    obtain ⟨ys, k5, k6⟩ := run_resDs (P := P) hst _ _ h1
    obtain ⟨J', k7, k8, k9, k10⟩ := frzAll_sim _ J st rs ys p hst k6 h2
    have hρ : ∀ i, i < lent.length → ρ i = ρ0 i := fun i hi => by
      have hm : i ∈ gs.map (·.2) := by rw [hgs]; exact List.mem_range.2 hi
      obtain ⟨q, hq, rfl⟩ := List.mem_map.1 hm
      have := k8.slots q.1
      rw [h4 q hq] at this
      exact this
    have hosn : ∀ i o, os[i]? = some o → i < lent.length := fun i o hi => by have := (List.getElem?_eq_some_iff.1 hi).1; omega
    have hnJ : ∀ g, LentB ρ0 lent.length g → ¬ J' g := by
      rintro g ⟨i, hi, hcap, ha⟩
      have hio : i < os.length := by omega
      obtain ⟨e1, e2⟩ := h6 i os[i] (List.getElem?_eq_getElem hio)
      rw [← hρ i hi] at hcap ha
      obtain ⟨g', e3, e4, _⟩ := (k8.objs i _ e1).block hcap
      rw [ha] at e3; cases e3
      exact e4
    refine ⟨_, results_eq fn a.tmps P w' k5, _, _, os, rfl, h7, by omega, hst.below, fun b => J0 b ∨ J' b, fun b hb => .inl hb, fun b hb => ?_, ?_, fun i o hi => ?_⟩
    · rcases hb with hb | hb
      · exact .inl hb
      · rcases k8.old b hb with h | h | h
        · exact .inl h
        · exact .inr ⟨h, k8.lt b hb⟩
        · exact absurd hb (hnJ b h)
    · exact RelP.mono (fun b hb => .inr hb) (fun _ _ => rfl) _ _ (pack_rel (RelDs.toP k9 h3).nrm)
    · obtain ⟨e1, e2⟩ := h6 i o hi
      have hob := (k8.objs i o e1).own e2
      rw [hρ i (hosn i o hi)] at hob
      refine hob.mono (fun b hb => .inr hb) fun g c1 c2 c3 => ?_
      rintro (h | h)
      · obtain ⟨o', ho'⟩ : ∃ o', lent[i]? = some o' := ⟨lent[i]'(hosn i o hi), List.getElem?_eq_getElem _⟩
        obtain ⟨g', f1, f2, _⟩ := ((hown i o' ho').obj).block c1
        rw [c2] at f1; cases f1
        exact f2 h
      · exact c3 h
  cases e with
  | normal => exact fin he
  | ret => exact fin he
  | exit id => obtain ⟨_, _, _, hf, _⟩ := he; exact hf.elim
  | goto l => exact he.elim
  | panic c => exact he.elim
  | outgrown => exact he.elim

theorem OwnAt.given {loc : Loc} {J : Nat → Prop} {w : World} {o : Own} (h : OwnAt loc J w o) (_hn : D.noRefs o.els = true) (hw : ∀ d ∈ o.els, d.width = o.S) :
    ∃ J' : Nat → Prop, (∀ b, J b → J' b) ∧ (∀ b, J' b → J b ∨ (loc.a = some ⟨b, 0, none⟩ ∧ 0 < loc.cap ∧ b < w.heap.size)) ∧ Given (fun _ => loc) J' w 0 (D.nrms o.els) := by
  have h' : ObjAt (fun _ => loc) J w 0 o := OwnAt.obj (ρ := fun _ => loc) h
  obtain ⟨J', h1, h2, h3⟩ := h'.given _hn hw
  refine ⟨J', h1, fun b hb => ?_, h3⟩
  rcases h2 b hb with h2 | ⟨h4, h5⟩
  · exact .inl h2
  · obtain ⟨g, h6, _, h7⟩ := h'.block h5
    rw [h4] at h6
    cases h6
    exact .inr ⟨h4, h5, h7⟩

/-- A contract that hands over a list to be owned gives one that hands it over to be read. -/
theorem FunO.toFun {P : Program} {f : FuncId} {args : List D} {R : D → Option Own → Prop} {R' : D → Prop} (h : FunO P f args R)
    (hR : ∀ r o, R r o → match o with | none => R' r.nrm | some o => o.els.all (fun d => d.width == o.S) = true ∧ (r.frz 0 (D.nrms o.els)).noRef = true ∧ R' (r.frz 0 (D.nrms o.els)).nrm) : Fun P f args R' := by
  refine ⟨h.1, fun J w vs hJ hG hv => (h.2 J w vs hJ hG hv).mono ?_⟩
  rintro e w' ⟨y, r, o, rfl, hr, hb, J', loc, k1, k2, k3, k4, k5⟩
  have := hR r o hr
  cases o with
  | none =>
    refine ⟨y, r.nrm, rfl, this, hb, RelP.mono (fun b hb' => ?_) (fun _ _ => rfl) _ _ (RelD.toP k3 k5).nrm⟩
    exact k2 b hb'
  | some o =>
    obtain ⟨q1, q2, q3⟩ := this
    obtain ⟨g1, g2, g3⟩ := k5
    obtain ⟨J'', j1, j2, j3⟩ := OwnAt.given g2 g1 (by simpa using q1)
    refine ⟨y, _, rfl, q3, hb, RelP.mono (fun b hb' => ?_) (fun _ _ => rfl) _ _ (RelD.toP (RelD.frozen j1 j3 _ _ k3) q2).nrm⟩
    rcases j2 b hb' with h | ⟨h, hc, hlt⟩
    · exact k2 b h
    · exact .inr ⟨g3 b hc h, hlt⟩
end Go.VL

end
section
/- Rules for the walk. -/
namespace Go.VL
open Go Go.RowKit

/-- A test: what is to be shown where it says yes, and where it says no. -/
def condK (d : D) (p q : Prop) : Prop :=
  match d with
  | .v (.bool b) => (b = true → p) ∧ (b = false → q)
  | _ => False

theorem condK_eq {d : D} {p q : Prop} : condK d p q = ∃ b, d = .v (.bool b) ∧ (b = true → p) ∧ (b = false → q) := by
  apply propext
  constructor
  · intro h
    unfold condK at h
    split at h
    · exact ⟨_, rfl, h⟩
    · exact h.elim
  · rintro ⟨b, rfl, h⟩
    exact h

theorem condK_true {p q : Prop} : condK (.v (.bool true)) p q = p := by simp [condK]
theorem condK_false {p q : Prop} : condK (.v (.bool false)) p q = q := by simp [condK]
@[congr] theorem condK_congr {d d' : D} {p q : Prop} (h : d = d') : condK d p q = condK d' p q := by rw [h]

def condG (want : Bool) (d : D) (p q : Prop) : Prop :=
  match d with
  | .v (.bool b) => (b = want → p) ∧ (b ≠ want → q)
  | .tup [] => q
  | _ => False
theorem condG_eq {want : Bool} {d : D} {p q : Prop} : condG want d p q = ∃ b, gB want d b ∧ (b = want → p) ∧ (b ≠ want → q) := by
  apply propext
  constructor
  · intro h
    unfold condG at h
    split at h
    · exact ⟨_, .inl rfl, h⟩
    · exact ⟨!want, .inr ⟨rfl, rfl⟩, fun h' => by cases want <;> simp at h', fun _ => h⟩
    · exact h.elim
  · rintro ⟨b, rfl | ⟨rfl, rfl⟩, h⟩
    · exact h
    · exact h.2 (by cases want <;> simp)
def guardK (m : Option Tmp) (st : St) (want : Bool) (p q : Prop) : Prop :=
  match m with
  | some d => d < st.n ∧ condG want (st.t d) p q
  | none => False
@[congr] theorem guardK_congr {m m' : Option Tmp} {st st' : St} {want : Bool} {p q : Prop} (h : m = m') (h2 : st = st') : guardK m st want p q = guardK m' st' want p q := by rw [h, h2]
theorem guardOf_zero {o : Oper} {l : List Oper} : guardOf (o :: l) 0 = o.dst := (rfl)
theorem guardOf_succ {o : Oper} {l : List Oper} {n : Nat} : guardOf (o :: l) (n + 1) = guardOf l n := by simp [guardOf]

section
variable {P : Program} {N : St → Prop} {X : Nat → St → Prop} {R : St → Prop} {st : St}

theorem awp_cond {c : Operand} {x y : Code} : awp P (.cond c x y) N X R st = condK (st.ev c) (awp P x N X R st) (awp P y N X R st) := condK_eq.symm
theorem awp_region {id : Nat} {l : List Oper} : awp P (.region id l.toArray false) N X R st = aops P l l N st := by
  show aops P l.toArray.toList l.toArray.toList N st = _
  simp
@[congr] theorem awp_congr {c : Code} {st' : St} (h : st = st') : awp P c N X R st = awp P c N X R st' := by rw [h]

variable {all rest : List Oper} {K : St → Prop}
theorem aops_guard {dst : Option Tmp} {op : Op} {ty : TypeId} {pos : String} {af : Array Edge} {j : Nat} {want : Bool} :
    aops P all (⟨dst, op, ty, pos, af, some (j, want)⟩ :: rest) K st = guardK (guardOf all j) st want
      (okDst st dst ∧ aopxM P ⟨dst, op, ty, pos, af, some (j, want)⟩ (fun s x => aops P all rest K (s.put dst x)) st) (okDst st dst ∧ aops P all rest K (st.put dst (.tup []))) := by
  apply propext
  show (∃ d, guardOf all j = some d ∧ d < st.n ∧ ∃ b, gB want (st.t d) b ∧ (b = want → _) ∧ (b ≠ want → _)) ↔ _
  constructor
  · rintro ⟨d, h1, h2, b, h3, h4, h5⟩
    rw [h1]
    refine ⟨h2, ?_⟩
    rw [condG_eq]
    exact ⟨b, h3, h4, h5⟩
  · intro h
    unfold guardK at h
    split at h
    · rename_i d hd
      obtain ⟨h2, h3⟩ := h
      rw [condG_eq] at h3
      obtain ⟨b, h4, h5, h6⟩ := h3
      exact ⟨d, hd, h2, b, h4, h5, h6⟩
    · exact h.elim
theorem opA_guard {dst : Option Tmp} {op : Op} {ty : TypeId} {pos : String} {af : Array Edge} {j : Nat} {want : Bool} {KN : St → Prop} :
    opA P all ⟨dst, op, ty, pos, af, some (j, want)⟩ KN st = guardK (guardOf all j) st want
      (okDst st dst ∧ aopx P ⟨dst, op, ty, pos, af, some (j, want)⟩ (fun s x => KN (s.put dst x)) st) (okDst st dst ∧ KN (st.put dst (.tup []))) := by
  apply propext
  show (∃ d, guardOf all j = some d ∧ d < st.n ∧ ∃ b, gB want (st.t d) b ∧ (b = want → _) ∧ (b ≠ want → _)) ↔ _
  constructor
  · rintro ⟨d, h1, h2, b, h3, h4, h5⟩
    rw [h1]
    refine ⟨h2, ?_⟩
    rw [condG_eq]
    exact ⟨b, h3, h4, h5⟩
  · intro h
    unfold guardK at h
    split at h
    · rename_i d hd
      obtain ⟨h2, h3⟩ := h
      rw [condG_eq] at h3
      obtain ⟨b, h4, h5, h6⟩ := h3
      exact ⟨d, hd, h2, b, h4, h5, h6⟩
    · exact h.elim
@[congr] theorem aops_congr {l : List Oper} {st' : St} (h : st = st') : aops P all l K st = aops P all l K st' := by rw [h]

variable {dst : Option Tmp} {ty : TypeId} {pos : String} {af : Array Edge} {g : Option (Nat × Bool)} {K : St → D → Prop}
theorem aopx_build {t : TypeId} {l : List (Nat × Operand)} : aopx P ⟨dst, .build t l.toArray, ty, pos, af, g⟩ K st = opBuild P t (l.map fun p => (p.1, st.ev p.2)) (K st) := by
  show opBuild P t (l.toArray.toList.map _) (K st) = _
  simp
theorem aopx_buildSlice {t : TypeId} {n : Nat} {l : List (Nat × Operand)} : aopx P ⟨dst, .buildSlice t n l.toArray, ty, pos, af, g⟩ K st = opBuildSliceM P t n (l.map fun p => (p.1, st.ev p.2)) (dstOf dst) K st := by
  show opBuildSliceM P t n (l.toArray.toList.map _) _ K st = _
  simp
theorem aopx_makeFunc {fn : Fn} {l : List Operand} : aopx P ⟨dst, .makeFunc fn #[] l.toArray, ty, pos, af, g⟩ K st = K st (.clos fn (l.map st.ev)) := by
  show (_ ∧ K st (.clos fn (l.toArray.toList.map st.ev))) = _
  simp
theorem aopx_call {f : Operand} {l : List Operand} {ts : Array TypeId} : aopx P ⟨dst, .call ⟨.value f, l.toArray, ts⟩, ty, pos, af, g⟩ K st = opCall P (st.ev f) (l.map st.ev) (dstOf dst) K st := by
  show opCall P (st.ev f) (l.toArray.toList.map st.ev) (dstOf dst) K st = _
  simp
theorem aopx_append {s x : Operand} {t : TypeId} : aopx P ⟨dst, .call ⟨.builtin .append, #[s, x], #[t, t]⟩, ty, pos, af, g⟩ K st = opAppend P t (st.ev s) (st.ev x) (dstOf dst) K st := by
  show (t = t ∧ _) = _
  simp
theorem aopx_copy {s x : Operand} {t t' : TypeId} : aopx P ⟨dst, .call ⟨.builtin .copy, #[s, x], #[t, t']⟩, ty, pos, af, g⟩ K st = opCopy P t (st.ev s) (st.ev x) K st := (rfl)
theorem aopx_min {l : List Operand} {ts : Array TypeId} : aopx P ⟨dst, .call ⟨.builtin .min, l.toArray, ts⟩, ty, pos, af, g⟩ K st = opMin (l.map st.ev) (K st) := by
  show opMin (l.toArray.toList.map st.ev) (K st) = _
  simp
theorem aopx_complex {l : List Operand} {ts : Array TypeId} : aopx P ⟨dst, .call ⟨.builtin .complex, l.toArray, ts⟩, ty, pos, af, g⟩ K st = opCx .complex (l.map st.ev) (K st) := by
  show opCx .complex (l.toArray.toList.map st.ev) (K st) = _
  simp
theorem aopx_real {l : List Operand} {ts : Array TypeId} : aopx P ⟨dst, .call ⟨.builtin .real, l.toArray, ts⟩, ty, pos, af, g⟩ K st = opCx .real (l.map st.ev) (K st) := by
  show opCx .real (l.toArray.toList.map st.ev) (K st) = _
  simp
theorem aopx_imag {l : List Operand} {ts : Array TypeId} : aopx P ⟨dst, .call ⟨.builtin .imag, l.toArray, ts⟩, ty, pos, af, g⟩ K st = opCx .imag (l.map st.ev) (K st) := by
  show opCx .imag (l.toArray.toList.map st.ev) (K st) = _
  simp
theorem aopx_max {l : List Operand} {ts : Array TypeId} : aopx P ⟨dst, .call ⟨.builtin .max, l.toArray, ts⟩, ty, pos, af, g⟩ K st = opMax (l.map st.ev) (K st) := by
  show opMax (l.toArray.toList.map st.ev) (K st) = _
  simp
end

section
variable {st : St}
theorem put_t {d k : Nat} {x : D} : (st.put (some d) x).t k = if k = d then x else st.t k := (rfl)
theorem put_H {d : Option Tmp} {x : D} : (st.put d x).H = st.H := by cases d <;> rfl
theorem put_n {d : Option Tmp} {x : D} : (st.put d x).n = st.n := by cases d <;> rfl
theorem put_none {x : D} : st.put none x = st := (rfl)
theorem killed_t {id k : Nat} : (st.killed id).t k = (st.t k).kill id := (rfl)
theorem killed_H {id k : Nat} : (st.killed id).H k = if k = id then none else (st.H k).map fun o => { o with els := D.kills id o.els } := (rfl)
theorem killed_n {id : Nat} : (st.killed id).n = st.n := (rfl)
theorem obj_t {id k : Nat} {o : Own} : (st.obj id o).t k = st.t k := (rfl)
theorem obj_H {id k : Nat} {o : Own} : (st.obj id o).H k = if k = id then some o else st.H k := (rfl)
theorem obj_n {id : Nat} {o : Own} : (st.obj id o).n = st.n := (rfl)
theorem ev_tmp {k : Nat} : st.ev (.tmp k) = st.t k := (rfl)
theorem ev_const {x : Value} : st.ev (.const x) = D.ofVal x := (rfl)
theorem ev_func {f : FuncId} : st.ev (.func f) = .clos (.func f) [] := (rfl)
theorem ofVal_int {k : IntKind} {n : Int} : D.ofVal (.int k n) = .v (.int k n) := (rfl)
theorem ofVal_bool {b : Bool} : D.ofVal (.bool b) = .v (.bool b) := (rfl)
theorem ofVal_slice {a : Option Addr} {n c : Nat} : D.ofVal (.slice a n c) = .v (.slice a n c) := (rfl)
theorem initL_t {l : List D} {lent : List Own} {gs : List (Nat × Nat)} {ls : Nat → Loc} {n k : Nat} : (St.initL l lent gs ls n).t k = ghostT ls (initT 0 l) gs k := (rfl)
theorem initL_H {l : List D} {lent : List Own} {gs : List (Nat × Nat)} {ls : Nat → Loc} {n k : Nat} : (St.initL l lent gs ls n).H k = lentH 0 lent k := (rfl)
theorem initL_n {l : List D} {lent : List Own} {gs : List (Nat × Nat)} {ls : Nat → Loc} {n : Nat} : (St.initL l lent gs ls n).n = n := (rfl)
theorem ghostT_cons {ls : Nat → Loc} {t : Nat → D} {j i : Nat} {l : List (Nat × Nat)} {k : Nat} : ghostT ls t ((j, i) :: l) k = if k = j then .loc i (ls i) else ghostT ls t l k := (rfl)
theorem ghostT_nil {ls : Nat → Loc} {t : Nat → D} {k : Nat} : ghostT ls t [] k = t k := (rfl)
theorem lentH_cons {i k : Nat} {o : Own} {l : List Own} : lentH i (o :: l) k = if k = i then some o else lentH (i + 1) l k := (rfl)
theorem lentH_nil {i k : Nat} : lentH i [] k = none := (rfl)
theorem init_t {l : List D} {n k : Nat} : (St.init l n).t k = initT 0 l k := (rfl)
theorem init_H {l : List D} {n k : Nat} : (St.init l n).H k = none := (rfl)
theorem init_n {l : List D} {n : Nat} : (St.init l n).n = n := (rfl)
theorem initT_cons {j k : Nat} {d : D} {l : List D} : initT j (d :: l) k = if k = j then d else initT (j + 1) l k := (rfl)
theorem initT_nil {j k : Nat} : initT j [] k = .any := (rfl)
theorem okDst_some {d : Nat} : okDst st (some d) = (d < st.n) := (rfl)
theorem okDst_none : okDst st none = True := (rfl)
theorem dstOf_some {d : Nat} : dstOf (some d) = d := (rfl)
end

section
variable {P : Program} {t : TypeId} {k : D → Prop} {kk : IntKind} {a b : Int}
theorem bin_add : opBin P .add t (.v (.int kk a)) (.v (.int kk b)) k = k (.v (.int kk (kk.wrap (a + b)))) := by simp [opBin, abin, aint]
theorem bin_sub : opBin P .sub t (.v (.int kk a)) (.v (.int kk b)) k = k (.v (.int kk (kk.wrap (a - b)))) := by simp [opBin, abin, aint]
theorem bin_mul : opBin P .mul t (.v (.int kk a)) (.v (.int kk b)) k = k (.v (.int kk (kk.wrap (a * b)))) := by simp [opBin, abin, aint]
theorem bin_quo (h : b ≠ 0) : opBin P .quo t (.v (.int kk a)) (.v (.int kk b)) k = k (.v (.int kk (kk.wrap (a.tdiv b)))) := by simp [opBin, abin, aint, h]
theorem bin_rem (h : b ≠ 0) : opBin P .rem t (.v (.int kk a)) (.v (.int kk b)) k = k (.v (.int kk (a.tmod b))) := by simp [opBin, abin, aint, h]
theorem bin_and : opBin P .and t (.v (.int kk a)) (.v (.int kk b)) k = k (.v (.int kk (abits .and kk a b))) := by simp [opBin, abin, aint]
theorem bin_or : opBin P .or t (.v (.int kk a)) (.v (.int kk b)) k = k (.v (.int kk (abits .or kk a b))) := by simp [opBin, abin, aint]
theorem bin_xor : opBin P .xor t (.v (.int kk a)) (.v (.int kk b)) k = k (.v (.int kk (abits .xor kk a b))) := by simp [opBin, abin, aint]
theorem bin_shl {k2 : IntKind} (h : 0 ≤ b) : opBin P .shl t (.v (.int kk a)) (.v (.int k2 b)) k = k (.v (.int kk (kk.wrap (a * 2 ^ min b.toNat kk.bits)))) := by
  have : ¬ b < 0 := by omega
  simp [opBin, abin, aint, this]
theorem bin_shr {k2 : IntKind} (h : 0 ≤ b) : opBin P .shr t (.v (.int kk a)) (.v (.int k2 b)) k = k (.v (.int kk (a.fdiv (2 ^ min b.toNat kk.bits)))) := by
  have : ¬ b < 0 := by omega
  simp [opBin, abin, aint, this]
theorem bin_eql : opBin P .eql t (.v (.int kk a)) (.v (.int kk b)) k = k (.v (.bool (a == b))) := by simp [opBin, abin, aint]
theorem bin_neq : opBin P .neq t (.v (.int kk a)) (.v (.int kk b)) k = k (.v (.bool (a != b))) := by simp [opBin, abin, aint]
theorem bin_lss : opBin P .lss t (.v (.int kk a)) (.v (.int kk b)) k = k (.v (.bool (decide (a < b)))) := by simp [opBin, abin, aint]
theorem bin_leq : opBin P .leq t (.v (.int kk a)) (.v (.int kk b)) k = k (.v (.bool (decide (a ≤ b)))) := by simp [opBin, abin, aint]
theorem bin_gtr : opBin P .gtr t (.v (.int kk a)) (.v (.int kk b)) k = k (.v (.bool (decide (a > b)))) := by simp [opBin, abin, aint]
theorem bin_geq : opBin P .geq t (.v (.int kk a)) (.v (.int kk b)) k = k (.v (.bool (decide (a ≥ b)))) := by simp [opBin, abin, aint]
theorem bin_cmul {x y u v : Nat} : opBin P .mul t (.v (.complex .f64 x y)) (.v (.complex .f64 u v)) k = (match cmulB x y u v with | some p => k (.v (.complex .f64 p.1 p.2)) | none => False) := by
  unfold opBin
  simp only [abin]
  cases cmulB x y u v <;> simp [nilAsk]
theorem bin_eqb {x y : Bool} (h : isBoolT P t = true) : opBin P .eql t (.v (.bool x)) (.v (.bool y)) k = k (.v (.bool (x == y))) := by simp [opBin, abin, h]
theorem bin_neb {x y : Bool} (h : isBoolT P t = true) : opBin P .neq t (.v (.bool x)) (.v (.bool y)) k = k (.v (.bool (x != y))) := by simp [opBin, abin, h]
theorem bin_eqs {x y : ByteArray} : opBin P .eql t (.v (.string x)) (.v (.string y)) k = k (.v (.bool (x.toList == y.toList))) := by simp [opBin, abin]
theorem bin_nes {x y : ByteArray} : opBin P .neq t (.v (.string x)) (.v (.string y)) k = k (.v (.bool (!(x.toList == y.toList)))) := by simp [opBin, abin]
end

-- what comes after an operation is not looked into
section
variable {P : Program} {t u : TypeId} {K K' : D → Prop} {KS : St → D → Prop} {st st' : St} {x x' y y' z z' : D} {l l' : List D} {pl pl' : List (Nat × D)} {n : Nat}
@[congr] theorem cg_pick (h : x = x') (h2 : y = y') (h3 : z = z') : opPick x y z K = opPick x' y' z' K := by rw [h, h2, h3]
@[congr] theorem cg_alloc (h : st = st') : opAlloc P t n KS st = opAlloc P t n KS st' := by rw [h]
@[congr] theorem cg_box (h : x = x') (h2 : st = st') : opBox P t x n KS st = opBox P t x' n KS st' := by rw [h, h2]
@[congr] theorem cg_build (h : pl = pl') : opBuild P t pl K = opBuild P t pl' K := by rw [h]
@[congr] theorem cg_buildSlice {m : Nat} (h : pl = pl') (h2 : st = st') : opBuildSliceM P t m pl n KS st = opBuildSliceM P t m pl' n KS st' := by rw [h, h2]
@[congr] theorem cg_load (h : x = x') (h2 : st = st') : opLoad P t x K st = opLoad P t x' K st' := by rw [h, h2]
@[congr] theorem cg_store {K : St → Prop} (h : x = x') (h1 : y = y') (h2 : st = st') : opStore P t x y K st = opStore P t x' y' K st' := by rw [h, h1, h2]
@[congr] theorem cg_nilCheck (h : x = x') : opNilCheck x K = opNilCheck x' K := by rw [h]
@[congr] theorem cg_bin {op : BinOp} (h : x = x') (h2 : y = y') : opBin P op t x y K = opBin P op t x' y' K := by rw [h, h2]
@[congr] theorem cg_un {op : UnOp} (h : x = x') : opUn op x K = opUn op x' K := by rw [h]
@[congr] theorem cg_convert (h : x = x') (h2 : st = st') : opConvert P t u x K st = opConvert P t u x' K st' := by rw [h, h2]
@[congr] theorem cg_makeSlice (h : x = x') (h1 : y = y') (h2 : st = st') : opMakeSlice P t x y n KS st = opMakeSlice P t x' y' n KS st' := by rw [h, h1, h2]
@[congr] theorem cg_slice {lo lo' hi hi' mx mx' : Option D} (h : x = x') (h1 : lo = lo') (h2 : hi = hi') (h3 : mx = mx') (h4 : st = st') : opSlice P t x lo hi mx K st = opSlice P t x' lo' hi' mx' K st' := by rw [h, h1, h2, h3, h4]
@[congr] theorem cg_fieldAddr (h : x = x') : opFieldAddr P t x n K = opFieldAddr P t x' n K := by rw [h]
@[congr] theorem cg_field (h : x = x') : opField P t x n K = opField P t x' n K := by rw [h]
@[congr] theorem cg_indexAddr (h : x = x') (h2 : y = y') (h3 : st = st') : opIndexAddr P t x y K st = opIndexAddr P t x' y' K st' := by rw [h, h2, h3]
@[congr] theorem cg_index (h : x = x') (h2 : y = y') : opIndex P t x y K = opIndex P t x' y' K := by rw [h, h2]
@[congr] theorem cg_extract (h : x = x') : opExtract x n K = opExtract x' n K := by rw [h]
@[congr] theorem cg_call {id : Nat} (h : x = x') (h2 : l = l') (h3 : st = st') : opCall P x l id KS st = opCall P x' l' id KS st' := by rw [h, h2, h3]
@[congr] theorem cg_append (h : x = x') (h1 : y = y') (h2 : st = st') : opAppend P t x y n KS st = opAppend P t x' y' n KS st' := by rw [h, h1, h2]
@[congr] theorem cg_len (h : x = x') : opLen P t x K = opLen P t x' K := by rw [h]
@[congr] theorem cg_min (h : l = l') : opMin l K = opMin l' K := by rw [h]
@[congr] theorem cg_cx {b : Builtin} (h : l = l') : opCx b l K = opCx b l' K := by rw [h]
@[congr] theorem cg_max (h : l = l') : opMax l K = opMax l' K := by rw [h]
end

theorem i64_in {x : Int} (h0 : -9223372036854775808 ≤ x) (h1 : x ≤ 9223372036854775807) : IntKind.i64.wrap x = x := by
  rw [IntKind.wrap_i64]; omega

end Go.VL

end
