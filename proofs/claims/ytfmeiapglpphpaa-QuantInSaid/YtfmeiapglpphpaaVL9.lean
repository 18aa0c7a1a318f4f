import Derived.Test.YtfmeiapglpphpaaVL8
import Derived.Laws.FloatArith
/- The rest of what is computed; calls. -/
namespace Go.VL
open Go Go.RowKit

-- moves
theorem opMove_sound {P : Program} {o : Oper} {x : Operand} (ho : o.op = .move x ∨ o.op = .assign x) {K : St → D → Prop} {st : St} (h : K st (st.ev x)) : OpX P o K st :=
  OpX.pure _ h fun _ _ _ _ _ _ _ hs => ⟨_, by rcases ho with ho | ho <;> simp [execOp, ho], hs.ev x⟩

def opPick (c a b : D) (K : D → Prop) : Prop := ∃ t, c = .v (.bool t) ∧ K (if t then a else b)
theorem opPick_sound {P : Program} {o : Oper} {c a b : Operand} (ho : o.op = .pick c a b) {K : St → D → Prop} {st : St} (h : opPick (st.ev c) (st.ev a) (st.ev b) (K st)) : OpX P o K st := by
  obtain ⟨t, h1, h2⟩ := h
  refine OpX.pure _ h2 fun J0 ρ J B w0 ac w hs => ?_
  have hc := hs.ev c
  rw [h1] at hc
  cases t with
  | true => exact ⟨_, by simp [execOp, ho, hc.1, asBool], hs.ev a⟩
  | false => exact ⟨_, by simp [execOp, ho, hc.1, asBool], hs.ev b⟩

-- signs
def opUn (op : UnOp) (x : D) (K : D → Prop) : Prop :=
  match op, x with
  | .neg, .v (.int k n) => K (.v (.int k (k.wrap (0 - n))))
  | .xor, .v (.int k n) => K (.v (.int k (abits .xor k (if k.signed then -1 else k.max) n)))
  | .not, .v (.bool b) => K (.v (.bool (!b)))
  | _, _ => False

theorem opUn_sound {P : Program} {o : Oper} {op : UnOp} {t : TypeId} {x : Operand} (ho : o.op = .unOp op t x) {K : St → D → Prop} {st : St} (h : opUn op (st.ev x) (K st)) : OpX P o K st := by
  unfold opUn at h
  split at h
  · rename_i hx
    refine OpX.pure _ h fun J0 ρ J B w0 ac w hs => ?_
    have hc := hs.ev x
    rw [hx] at hc
    exact ⟨_, by simp [execOp, ho, hc.1, Op.unary, Op.intArith], rfl, rfl⟩
  · rename_i hx
    refine OpX.pure _ h fun J0 ρ J B w0 ac w hs => ?_
    have hc := hs.ev x
    rw [hx] at hc
    exact ⟨_, by simp [execOp, ho, hc.1, Op.unary, Op.intBits, abits], rfl, rfl⟩
  · rename_i hx
    refine OpX.pure _ h fun J0 ρ J B w0 ac w hs => ?_
    have hc := hs.ev x
    rw [hx] at hc
    exact ⟨_, by simp [execOp, ho, hc.1, Op.unary], rfl, rfl⟩
  · exact h.elim

-- conversions
def intT (P : Program) (t : TypeId) : Option IntKind := match P.underlying t with | some (.int k) => some k | _ => none
theorem intT_spec {P : Program} {t : TypeId} {k : IntKind} (h : intT P t = some k) : P.underlying t = some (.int k) := by
  unfold intT at h
  split at h
  · cases h; assumption
  · cases h
def strT (P : Program) (t : TypeId) : Bool := match P.underlying t with | some .string => true | _ => false
theorem strT_spec {P : Program} {t : TypeId} (h : strT P t = true) : P.underlying t = some .string := by
  unfold strT at h
  split at h
  · assumption
  · cases h
def fltT (P : Program) (t : TypeId) : Option FloatKind := match P.underlying t with | some (.float k) => some k | _ => none
theorem fltT_spec {P : Program} {t : TypeId} {k : FloatKind} (h : fltT P t = some k) : P.underlying t = some (.float k) := by
  unfold fltT at h
  split at h
  · cases h; assumption
  · cases h

/-- Octets as numbers. -/
def bytesOf : List D → Option (List Int)
  | [] => some []
  | .v (.int .u8 n) :: ds => (bytesOf ds).map (n :: ·)
  | _ => none

theorem bytesOf_map (l : List Int) : bytesOf (l.map fun n => .v (.int .u8 n)) = some l := by
  induction l with
  | nil => rfl
  | cons n l ih => simp [bytesOf, ih]

theorem bytesOf_rel {ρ : Nat → Loc} {J : Nat → Prop} {w : World} : ∀ {l : List D} {ns : List Int} {vs : List Value}, bytesOf l = some ns → RelDs ρ J w l vs → vs = ns.map (Value.int .u8)
  | [], ns, vs, h, hr => by cases h; exact hr
  | d :: ds, ns, vs, h, hr => by
    obtain ⟨x, xs, rfl, h2, h3⟩ := hr
    cases d with
    | v y =>
      cases y with
      | int k n =>
        cases k <;> simp only [bytesOf, Option.map_eq_some_iff, reduceCtorEq] at h
        obtain ⟨ms, hm, rfl⟩ := h
        rw [bytesOf_rel hm h3, h2.1]
        rfl
      | _ => simp [bytesOf] at h
    | _ => simp [bytesOf] at h

theorem bytesOf_mem : ∀ {l : List D} {ns : List Int}, bytesOf l = some ns → ∀ d ∈ l, d.width = 1 ∧ d.storable = true
  | [], ns, _, d, hd => by simp at hd
  | e :: ds, ns, h, d, hd => by
    cases e with
    | v y =>
      cases y with
      | int k n =>
        cases k <;> simp only [bytesOf, Option.map_eq_some_iff, reduceCtorEq] at h
        obtain ⟨ms, hm, rfl⟩ := h
        rcases List.mem_cons.1 hd with rfl | hd
        · exact ⟨rfl, rfl⟩
        · exact bytesOf_mem hm d hd
      | _ => simp [bytesOf] at h
    | _ => simp [bytesOf] at h

def opConvert (P : Program) (s t : TypeId) (x : D) (K : D → Prop) (st : St) : Prop :=
  match x with
  | .v (.int _ n) => (P.underlying s).isSome = true ∧ match intT P t with | some k => K (.v (.int k (k.wrap n))) | none => ∃ k, fltT P t = some k ∧ K (.v (.float k (k.nearest n)))
  | .v (.float f b) => (P.underlying s).isSome = true ∧ ∃ k, intT P t = some k ∧ ∃ n, floatToIntVal f b k = some n ∧ K (.v (.int k n))
  | .v (.slice none 0 0) => ∃ e, elT P s = some e ∧ intT P e = some .u8 ∧ strT P t = true ∧ K (.v (.string (strOfNums [])))
  | .nil0 => ∃ e, elT P s = some e ∧ intT P e = some .u8 ∧ strT P t = true ∧ K (.v (.string (strOfNums [])))
  | .lst l => ∃ e, elT P s = some e ∧ intT P e = some .u8 ∧ strT P t = true ∧ ∃ ns, bytesOf l = some ns ∧ K (.v (.string (strOfNums ns)))
  | .ref r n => ∃ e, elT P s = some e ∧ intT P e = some .u8 ∧ strT P t = true ∧ ∃ ob, st.H r = some ob ∧ ob.S = 1 ∧ n ≤ ob.els.length ∧ ∃ ns, bytesOf (ob.els.take n) = some ns ∧ K (.v (.string (strOfNums ns)))
  | _ => False

theorem run_bytesStr {P : Program} {w : World} {s t e : TypeId} (hs : P.underlying s = some (.slice e)) (he : P.underlying e = some (.int .u8)) (ht : P.underlying t = some .string) {a : Option Addr} {n c : Nat} {ns : List Int}
    (hl : ns.length = n) (h : ns = [] ∨ ∃ b off, a = some ⟨b, off, none⟩ ∧ ∀ (j : Nat) (u : Value), (ns.map (Value.int .u8))[j]? = some u → w.cell? ⟨b, off + j, none⟩ = some u) :
    (convert s t (.slice a n c)).run P w = .ok (.string (strOfNums ns)) w := by
  rcases h with rfl | ⟨b, off, rfl, h⟩
  · simp only [List.length_nil] at hl
    subst hl
    cases a with
    | none => exact run_convert_bytes_nil w s e hs he 0 c t ht
    | some ad =>
      rw [run_convert_bytes_string w s t e _ 0 c hs he ht, run_bytesToString w _ 0 c [] (by simp [loadCells, loadCellsFrom])]
      rfl
  · refine run_convert_bytes_arg w s e hs he b off n c ns hl (fun i hi => h i _ ?_) t ht
    have hi' : i < ns.length := by omega
    simp [List.getElem?_eq_getElem hi', List.getD]

theorem flat_ints (k : IntKind) (ns : List Int) : flat (ns.map (Value.int k)) = ns.map (Value.int k) := by
  induction ns with
  | nil => rfl
  | cons n ns ih => rw [List.map_cons, flat_cons, ih]; rfl

theorem opConvert_sound {P : Program} {o : Oper} {s t : TypeId} {x : Operand} (ho : o.op = .convert s t x) {K : St → D → Prop} {st : St} (h : opConvert P s t (st.ev x) (K st) st) : OpX P o K st := by
  unfold opConvert at h
  split at h
  · rename_i k0 n hx
    obtain ⟨h1, h2⟩ := h
    obtain ⟨ds, hds⟩ := Option.isSome_iff_exists.1 h1
    split at h2
    · rename_i k hk
      refine OpX.pure _ h2 fun J0 ρ J B w0 ac w hs => ?_
      have hc := hs.ev x
      rw [hx] at hc
      refine ⟨_, ?_, rfl, rfl⟩
      simp only [execOp, ho, hc.1, convert, Sem.run_bind, run_underlying hds, run_underlying (intT_spec hk), Result.andThen_ok]
      simp [Conv.intToInt]
    · obtain ⟨k, hk, h3⟩ := h2
      refine OpX.pure _ h3 fun J0 ρ J B w0 ac w hs => ?_
      have hc := hs.ev x
      rw [hx] at hc
      refine ⟨_, ?_, rfl, rfl⟩
      simp only [execOp, ho, hc.1, convert, Sem.run_bind, run_underlying hds, run_underlying (fltT_spec hk), Result.andThen_ok]
      simp [Conv.intToFloat]
  · rename_i f b hx
    obtain ⟨h1, k, h2, n, h3, h4⟩ := h
    refine OpX.pure _ h4 fun J0 ρ J B w0 ac w hs => ?_
    have hc := hs.ev x
    rw [hx] at hc
    have hr := run_convert_float_int (P := P) (w := w) s t f k b n h1 (intT_spec h2) h3
    exact ⟨_, by simp [execOp, ho, hc.1, hr], rfl, rfl⟩
  · rename_i hx
    obtain ⟨e, h1, h2, h3, h4⟩ := h
    refine OpX.pure _ h4 fun J0 ρ J B w0 ac w hs => ?_
    have hc := hs.ev x
    rw [hx] at hc
    have hr := run_bytesStr (P := P) (w := w) (elT_spec h1) (intT_spec h2) (strT_spec h3) (a := none) (n := 0) (c := 0) (ns := []) rfl (.inl rfl)
    exact ⟨_, by simp [execOp, ho, hc.1, hr], rfl, rfl⟩
  · rename_i hx
    obtain ⟨e, h1, h2, h3, h4⟩ := h
    refine OpX.pure _ h4 fun J0 ρ J B w0 ac w hs => ?_
    have hc := hs.ev x
    rw [hx] at hc
    obtain ⟨ad, hc⟩ := hc
    have hr := run_bytesStr (P := P) (w := w) (elT_spec h1) (intT_spec h2) (strT_spec h3) (a := ad) (n := 0) (c := 0) (ns := []) rfl (.inl rfl)
    exact ⟨_, by simp [execOp, ho, hc, hr], rfl, rfl⟩
  · rename_i l hx
    obtain ⟨e, h1, h2, h3, ns, h4, h5⟩ := h
    refine OpX.pure _ h5 fun J0 ρ J B w0 ac w hs => ?_
    have hc := hs.ev x
    rw [hx] at hc
    obtain ⟨ad, c, vs, g1, g2, g3, g4, g0, g5, g6⟩ := hc
    have hvs := bytesOf_rel h4 (RelPs.toD (ρ := ρ) g5)
    have hlen : ns.length = l.length := by have := (RelPs_get _ _ g5).1; rw [hvs] at this; simpa using this.symm
    have hr := run_bytesStr (P := P) (w := w) (elT_spec h1) (intT_spec h2) (strT_spec h3) (a := ad) (n := l.length) (c := c) (ns := ns) hlen (by
      have g6' : RowAt J w ad (flat vs) := g6
      rw [hvs, flat_ints] at g6'
      rcases g6' with g6' | ⟨b, off, g7, _, g8⟩
      · left; simpa using g6'
      · exact .inr ⟨b, off, g7, g8⟩)
    exact ⟨_, by simp [execOp, ho, g1, hr], rfl, rfl⟩
  · rename_i r n hx
    obtain ⟨e, h1, h2, h3, ob, h4, h5, h6, ns, h7, h8⟩ := h
    refine OpX.pure _ h8 fun J0 ρ J B w0 ac w hs => ?_
    have hc : ac.eval x = .slice (ρ r).a n (ρ r).cap := by have := hs.ev x; rw [hx] at this; exact this
    obtain ⟨us, g1, g2, ⟨ad, c, g3, g4⟩⟩ := itemsD_src hs (S := 1) (x := .ref r n) (y := ac.eval x) (by rw [← hx]; exact hs.ev x) (xs := ob.els.take n) (by simp [itemsD, h4, h5, h6]) (bytesOf_mem h7)
    have hvs := bytesOf_rel h7 g1
    have hlen : ns.length = (ob.els.take n).length := by have := (RelDs_get _ _ g1).1; rw [hvs] at this; simpa using this.symm
    have hr := run_bytesStr (P := P) (w := w) (elT_spec h1) (intT_spec h2) (strT_spec h3) (a := ad) (n := (ob.els.take n).length) (c := c) (ns := ns) hlen (by
      rw [hvs, flat_ints] at g4
      rcases g4 with g4 | ⟨ad', rfl, g5⟩
      · left; simpa using g4
      · by_cases hns : ns = []
        · exact .inl hns
        · have hcap := hs.objs r ob h4
          rw [hc] at g3
          simp only [Value.slice.injEq] at g3
          obtain ⟨_, _, _, _, _, vs, k6, _, k8⟩ := hcap
          rcases k8 with ⟨_, k8⟩ | ⟨_, g, cur, k9, _⟩
          · exfalso
            subst k8
            have := (RelDs_get _ _ k6).1
            have h0 : ob.els = [] := List.eq_nil_of_length_eq_zero (by simpa using this)
            rw [h0] at hlen
            exact hns (List.eq_nil_of_length_eq_zero (by simpa using hlen))
          · rw [k9] at g3
            have : ad' = ⟨g, 0, none⟩ := by simpa using g3.1.symm
            subst this
            exact .inr ⟨g, 0, rfl, fun j u hu => by have := g5 j u hu; rwa [Addr_add] at this⟩)
    exact ⟨.string (strOfNums ns), by simp only [execOp, ho, g3, Sem.run_bind, hr, Result.andThen_ok, Sem.run_pure], rfl, rfl⟩
  · exact h.elim

-- lengths
def opLen (P : Program) (t : TypeId) (x : D) (K : D → Prop) : Prop :=
  match x with
  | .lst l => sliceT P t = true ∧ K (.v (.int .i64 l.length))
  | .ref _ n => sliceT P t = true ∧ K (.v (.int .i64 n))
  | .v (.slice none 0 0) => sliceT P t = true ∧ K (.v (.int .i64 0))
  | .nil0 => sliceT P t = true ∧ K (.v (.int .i64 0))
  | .v (.string s) => strT P t = true ∧ K (.v (.int .i64 s.size))
  | .agg _ => ∃ n e, arrT P t = some (n, e) ∧ K (.v (.int .i64 n))
  | _ => False

theorem opLen_sound {P : Program} {o : Oper} {t : TypeId} {x : Operand} (ho : o.op = .call { callee := .builtin .len, args := #[x], argTypes := #[t] }) {K : St → D → Prop} {st : St} (h : opLen P t (st.ev x) (K st)) : OpX P o K st := by
  have hrunE : ∀ {ac : Act} {w : World} {r : Value}, (Builtin.len_ #[t] o.type #[ac.eval x]).run P w = .ok r w → (execOp ac.eval o).run P w = .ok (.value r) w := by
    intro ac w r h11
    simp only [execOp, ho, resolve, invoke, builtin, Sem.run_bind, Sem.run_pure, Result.andThen_ok, List.map_toArray, List.map_cons, List.map_nil, h11]
  unfold opLen at h
  split at h
  · rename_i l hx
    obtain ⟨h1, h2⟩ := h
    obtain ⟨e, he⟩ := sliceT_spec h1
    refine OpX.pure _ h2 fun J0 ρ J B w0 ac w hs => ?_
    have hc := hs.ev x
    rw [hx] at hc
    obtain ⟨ad, c, vs, g1, _⟩ := hc
    exact ⟨_, hrunE (r := .int .i64 l.length) (by simp [Builtin.len_, run_underlying he, g1, goInt]), rfl, rfl⟩
  · rename_i r n hx
    obtain ⟨h1, h2⟩ := h
    obtain ⟨e, he⟩ := sliceT_spec h1
    refine OpX.pure _ h2 fun J0 ρ J B w0 ac w hs => ?_
    have hc : ac.eval x = .slice (ρ r).a n (ρ r).cap := by have := hs.ev x; rw [hx] at this; exact this
    exact ⟨_, hrunE (r := .int .i64 n) (by simp [Builtin.len_, run_underlying he, hc, goInt]), rfl, rfl⟩
  · rename_i hx
    obtain ⟨h1, h2⟩ := h
    obtain ⟨e, he⟩ := sliceT_spec h1
    refine OpX.pure _ h2 fun J0 ρ J B w0 ac w hs => ?_
    have hc := hs.ev x
    rw [hx] at hc
    exact ⟨_, hrunE (r := .int .i64 0) (by simp [Builtin.len_, run_underlying he, hc.1, goInt]), rfl, rfl⟩
  · rename_i hx
    obtain ⟨h1, h2⟩ := h
    obtain ⟨e, he⟩ := sliceT_spec h1
    refine OpX.pure _ h2 fun J0 ρ J B w0 ac w hs => ?_
    have hc := hs.ev x
    rw [hx] at hc
    obtain ⟨ad, hc⟩ := hc
    exact ⟨_, hrunE (r := .int .i64 0) (by simp [Builtin.len_, run_underlying he, hc, goInt]), rfl, rfl⟩
  · rename_i s hx
    obtain ⟨h1, h2⟩ := h
    have he := strT_spec h1
    refine OpX.pure _ h2 fun J0 ρ J B w0 ac w hs => ?_
    have hc := hs.ev x
    rw [hx] at hc
    exact ⟨_, hrunE (r := .int .i64 s.size) (by simp [Builtin.len_, run_underlying he, hc.1, goInt]), rfl, rfl⟩
  · rename_i l hx
    obtain ⟨n, e, h1, h2⟩ := h
    have he := arrT_spec h1
    refine OpX.pure _ h2 fun J0 ρ J B w0 ac w hs => ?_
    exact ⟨_, hrunE (r := .int .i64 n) (by simp [Builtin.len_, run_underlying he, goInt]), rfl, rfl⟩
  · exact h.elim

-- the greater, and the lesser, of numbers
def minD : D → List D → Option D
  | x, [] => some x
  | .v (.int k x), .v (.int _ y) :: r => minD (.v (.int k (if y < x then y else x))) r
  | _, _ => none
def maxD : D → List D → Option D
  | x, [] => some x
  | .v (.int k x), .v (.int _ y) :: r => maxD (.v (.int k (if y > x then y else x))) r
  | _, _ => none

theorem minD_run {P : Program} {ρ : Nat → Loc} {J : Nat → Prop} {w : World} : ∀ (l : List D) (x r : D) (y : Value) (ys : List Value), minD x l = some r → RelD ρ J w x y → RelDs ρ J w l ys → ∃ z, (ys.foldlM Builtin.min2 y).run P w = .ok z w ∧ RelD ρ J w r z
  | [], x, r, y, ys, h, hx, hl => by
    simp only [RelDs] at hl
    subst hl
    simp only [minD, Option.some.injEq] at h
    subst h
    exact ⟨y, by simp, hx⟩
  | d :: ds, x, r, y, ys, h, hx, hl => by
    obtain ⟨z, zs, rfl, h2, h3⟩ := hl
    unfold minD at h
    split at h
    · exact absurd ‹d :: ds = []› (by simp)
    · rename_i k a k' b ds' h4
      cases h4
      obtain ⟨u, h5, h6⟩ := minD_run ds _ r (.int k (if b < a then b else a)) zs h ⟨rfl, rfl⟩ h3
      refine ⟨u, ?_, h6⟩
      simp only [List.foldlM_cons, Sem.run_bind, hx.1, h2.1, Builtin.min2, Sem.run_pure, Result.andThen_ok]
      exact h5
    · cases h

theorem maxD_run {P : Program} {ρ : Nat → Loc} {J : Nat → Prop} {w : World} : ∀ (l : List D) (x r : D) (y : Value) (ys : List Value), maxD x l = some r → RelD ρ J w x y → RelDs ρ J w l ys → ∃ z, (ys.foldlM Builtin.max2 y).run P w = .ok z w ∧ RelD ρ J w r z
  | [], x, r, y, ys, h, hx, hl => by
    simp only [RelDs] at hl
    subst hl
    simp only [maxD, Option.some.injEq] at h
    subst h
    exact ⟨y, by simp, hx⟩
  | d :: ds, x, r, y, ys, h, hx, hl => by
    obtain ⟨z, zs, rfl, h2, h3⟩ := hl
    unfold maxD at h
    split at h
    · exact absurd ‹d :: ds = []› (by simp)
    · rename_i k a k' b ds' h4
      cases h4
      obtain ⟨u, h5, h6⟩ := maxD_run ds _ r (.int k (if b > a then b else a)) zs h ⟨rfl, rfl⟩ h3
      refine ⟨u, ?_, h6⟩
      simp only [List.foldlM_cons, Sem.run_bind, hx.1, h2.1, Builtin.max2, Sem.run_pure, Result.andThen_ok]
      exact h5
    · cases h

theorem RelDs_ev {ρ : Nat → Loc} {J : Nat → Prop} {w : World} {st : St} {a : Act} (hs : ∀ x, RelD ρ J w (st.ev x) (a.eval x)) : ∀ (l : List Operand), RelDs ρ J w (l.map st.ev) (l.map a.eval)
  | [] => rfl
  | x :: l => ⟨_, _, rfl, hs x, RelDs_ev hs l⟩

def opMin (l : List D) (K : D → Prop) : Prop := match l with | x :: r => ∃ z, minD x r = some z ∧ K z | [] => False
def opMax (l : List D) (K : D → Prop) : Prop := match l with | x :: r => ∃ z, maxD x r = some z ∧ K z | [] => False

/-- Complex numbers and their parts. -/
def opCx (b : Builtin) (l : List D) (K : D → Prop) : Prop :=
  match b, l with
  | .complex, [.v (.float k x), .v (.float k' y)] => k = k' ∧ K (.v (.complex k x y))
  | .real, [.v (.complex k x _)] => K (.v (.float k x))
  | .imag, [.v (.complex k _ y)] => K (.v (.float k y))
  | _, _ => False

theorem opCx_sound {P : Program} {o : Oper} {b : Builtin} {xs : Array Operand} {ts : Array TypeId} (ho : o.op = .call { callee := .builtin b, args := xs, argTypes := ts }) {K : St → D → Prop} {st : St} (h : opCx b (xs.toList.map st.ev) (K st)) : OpX P o K st := by
  unfold opCx at h
  split at h
  · rename_i k x k' y hx
    obtain ⟨rfl, h2⟩ := h
    refine OpX.pure _ h2 fun J0 ρ J B w0 ac w hs => ?_
    have hl := RelDs_ev hs.ev xs.toList
    rw [hx] at hl
    obtain ⟨y1, ys, h3, h4, y2, zs, h5, h6, h7⟩ := hl
    have h7 : zs = [] := h7
    subst h7 h5
    have : xs.map ac.eval = #[.float k x, .float k y] := by
      apply Array.ext'
      simpa [h4.1, h6.1] using h3
    refine ⟨_, ?_, rfl, rfl⟩
    have h8 : ∀ (ts : Array TypeId) (ty : TypeId), Builtin.complex_ ts ty #[.float k x, .float k y] = (if k = k then pure (.complex k x y) else stuck "complex: parts of different kinds") := fun _ _ => rfl
    simp only [execOp, ho, resolve, invoke, builtin, Sem.run_bind, Sem.run_pure, Result.andThen_ok, this, h8, if_true]
  · rename_i k x y hx
    refine OpX.pure _ h fun J0 ρ J B w0 ac w hs => ?_
    have hl := RelDs_ev hs.ev xs.toList
    rw [hx] at hl
    obtain ⟨y1, ys, h3, h4, h7⟩ := hl
    have h7 : ys = [] := h7
    subst h7
    have : xs.map ac.eval = #[.complex k x y] := by
      apply Array.ext'
      simpa [h4.1] using h3
    refine ⟨_, ?_, rfl, rfl⟩
    have h8 : ∀ (ts : Array TypeId) (ty : TypeId), Builtin.real_ ts ty #[.complex k x y] = pure (.float k x) := fun _ _ => rfl
    simp only [execOp, ho, resolve, invoke, builtin, Sem.run_bind, Sem.run_pure, Result.andThen_ok, this, h8]
  · rename_i k x y hx
    refine OpX.pure _ h fun J0 ρ J B w0 ac w hs => ?_
    have hl := RelDs_ev hs.ev xs.toList
    rw [hx] at hl
    obtain ⟨y1, ys, h3, h4, h7⟩ := hl
    have h7 : ys = [] := h7
    subst h7
    have : xs.map ac.eval = #[.complex k x y] := by
      apply Array.ext'
      simpa [h4.1] using h3
    refine ⟨_, ?_, rfl, rfl⟩
    have h8 : ∀ (ts : Array TypeId) (ty : TypeId), Builtin.imag_ ts ty #[.complex k x y] = pure (.float k y) := fun _ _ => rfl
    simp only [execOp, ho, resolve, invoke, builtin, Sem.run_bind, Sem.run_pure, Result.andThen_ok, this, h8]
  · exact h.elim

theorem opMin_sound {P : Program} {o : Oper} {xs : Array Operand} {ts : Array TypeId} (ho : o.op = .call { callee := .builtin .min, args := xs, argTypes := ts }) {K : St → D → Prop} {st : St} (h : opMin (xs.toList.map st.ev) (K st)) : OpX P o K st := by
  unfold opMin at h
  split at h
  · rename_i x r hx
    obtain ⟨z, h1, h2⟩ := h
    refine OpX.pure _ h2 fun J0 ρ J B w0 ac w hs => ?_
    have hl := RelDs_ev hs.ev xs.toList
    rw [hx] at hl
    obtain ⟨y, ys, h3, h4, h5⟩ := hl
    obtain ⟨u, h6, h7⟩ := minD_run (P := P) r x z y ys h1 h4 h5
    refine ⟨u, ?_, h7⟩
    have : (xs.map ac.eval).toList = y :: ys := by simpa using h3
    simp only [execOp, ho, resolve, invoke, builtin, Sem.run_bind, Sem.run_pure, Result.andThen_ok, Builtin.min_, this, h6]
  · exact h.elim

theorem opMax_sound {P : Program} {o : Oper} {xs : Array Operand} {ts : Array TypeId} (ho : o.op = .call { callee := .builtin .max, args := xs, argTypes := ts }) {K : St → D → Prop} {st : St} (h : opMax (xs.toList.map st.ev) (K st)) : OpX P o K st := by
  unfold opMax at h
  split at h
  · rename_i x r hx
    obtain ⟨z, h1, h2⟩ := h
    refine OpX.pure _ h2 fun J0 ρ J B w0 ac w hs => ?_
    have hl := RelDs_ev hs.ev xs.toList
    rw [hx] at hl
    obtain ⟨y, ys, h3, h4, h5⟩ := hl
    obtain ⟨u, h6, h7⟩ := maxD_run (P := P) r x z y ys h1 h4 h5
    refine ⟨u, ?_, h7⟩
    have : (xs.map ac.eval).toList = y :: ys := by simpa using h3
    simp only [execOp, ho, resolve, invoke, builtin, Sem.run_bind, Sem.run_pure, Result.andThen_ok, Builtin.max_, this, h6]
  · exact h.elim

-- parts of several results
def opExtract (x : D) (i : Nat) (K : D → Prop) : Prop := match x with | .tup l => ∃ r, l[i]? = some r ∧ K r | _ => False
theorem opExtract_sound {P : Program} {o : Oper} {x : Operand} {i : Nat} (ho : o.op = .extract x i) {K : St → D → Prop} {st : St} (h : opExtract (st.ev x) i (K st)) : OpX P o K st := by
  unfold opExtract at h
  split at h
  · rename_i l hx
    obtain ⟨r, h1, h2⟩ := h
    refine OpX.pure _ h2 fun J0 ρ J B w0 ac w hs => ?_
    have hc := hs.ev x
    rw [hx] at hc
    obtain ⟨vs, h3, h4⟩ := hc
    obtain ⟨y, h5, h6⟩ := (RelDs_get _ _ h4).2 i r h1
    exact ⟨y, by simp [execOp, ho, h3, Instr.extract, h5], h6⟩
  · exact h.elim

-- function values
theorem opMakeFunc_sound {P : Program} {o : Oper} {fn : Fn} {caps : Array Operand} (ho : o.op = .makeFunc fn #[] caps) {K : St → D → Prop} {st : St} (h : K st (.clos fn (caps.toList.map st.ev))) : OpX P o K st :=
  OpX.pure _ h fun J0 ρ J B w0 ac w hs => ⟨.func fn #[] (caps.map ac.eval), by simp [execOp, ho, Instr.makeFunc], caps.toList.map ac.eval, by rw [← Array.toList_map, Array.toArray_toList], RelDs_ev hs.ev _⟩

-- a pointer that is followed
def opNilCheck (x : D) (K : D → Prop) : Prop := match x with | .ptr d => K (.ptr d) | .adr i j k => K (.adr i j k) | _ => False
theorem opNilCheck_sound {P : Program} {o : Oper} {x : Operand} (ho : o.op = .nilCheck x) {K : St → D → Prop} {st : St} (h : opNilCheck (st.ev x) (K st)) : OpX P o K st := by
  unfold opNilCheck at h
  split at h
  · rename_i d hx
    refine OpX.pure _ h fun J0 ρ J B w0 ac w hs => ?_
    have hc := hs.ev x
    rw [hx] at hc
    have hc' := hc
    obtain ⟨b, off, z, g1, _⟩ := hc
    exact ⟨_, by simp [execOp, ho, g1]; rfl, by rw [← g1]; exact hc'⟩
  · rename_i i j k hx
    refine OpX.pure _ h fun J0 ρ J B w0 ac w hs => ?_
    have hc := hs.ev x
    rw [hx] at hc
    have hc' := hc
    obtain ⟨g, _, g1⟩ := hc
    exact ⟨_, by simp [execOp, ho, g1]; rfl, by rw [← g1]; exact hc'⟩
  · exact h.elim

end Go.VL
