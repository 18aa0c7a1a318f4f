import Derived.Test.YtfmeiapglpphpaaVL23
import Derived.Carry
/- The arguments of a row: what they read as; that they read so afterwards. -/
namespace Go.VL
open Go Go.RowKit Go.WideShapes Go.ChangeShapes

section
variable {H : Type} {enc : TypeId × Value → H} {P : Program} {W : World} {r : Reach} {base : Nat}

theorem shape_of {held : Bool} {ty : Ty} {t : TypeId} {v : Value} {d : DataW H} {ps : List MemPlace} (hf : ty.fits P t = true) (hval : Value.okWide P W r base t v) (hd : DataW.Trod enc P W 0 (fun _ => true) held t v d ps) :
    (∀ l, ty = .st l → ∃ cs, v = .agg cs) ∧ ((∀ l, ty ≠ .st l) → v.cells = #[v]) := by
  cases ty with
  | int k =>
    obtain ⟨n, rfl, _⟩ := open_int (isInt_spec (by simpa [Ty.fits] using hf)) hval hd
    exact ⟨(fun l h => nomatch h), fun _ => rfl⟩
  | bool =>
    obtain ⟨n, rfl, _⟩ := open_bool (isBool_spec (by simpa [Ty.fits] using hf)) hval hd
    exact ⟨(fun l h => nomatch h), fun _ => rfl⟩
  | sl e =>
    simp only [Ty.fits] at hf
    split at hf
    · rename_i u hu
      obtain ⟨a, n, c, rfl⟩ := okWide_slice (elemOf_spec hu) hval
      exact ⟨(fun l h => nomatch h), fun _ => rfl⟩
    · cases hf
  | st l =>
    simp only [Ty.fits] at hf
    split at hf
    · rename_i fs hfs
      obtain ⟨fa, hu, _⟩ := fieldsOf_spec hfs
      obtain ⟨cs, rfl, _⟩ := okWide_struct hu hval
      exact ⟨fun _ _ => ⟨cs, rfl⟩, fun h => absurd rfl (h l)⟩
    · cases hf

def Ty.fitsAll (P : Program) : List Ty → List TypeId → Bool
  | [], [] => true
  | e :: l, t :: ts => e.fits P t && Ty.fitsAll P l ts
  | _, _ => false
def Ty.hasAll : List Ty → List D → Prop
  | [], ds => ds = []
  | e :: l, ds => ∃ c rest, ds = e.wrap c :: rest ∧ e.has c ∧ Ty.hasAll l rest

theorem args_read : ∀ (tys : List Ty) (ts : List TypeId) (vs : List Value) (ds : List (DataW H)) (p : List MemPlace), Ty.fitsAll P tys ts = true → (∀ (j : Nat) (t : TypeId) (v : Value), ts[j]? = some t → vs[j]? = some v → Value.okWide P W r base t v) →
    DataW.TrodAll enc P W 0 (fun _ => true) true ts vs ds p → ∃ Ds, RelPs (Olds W) W Ds vs ∧ Ty.hasAll tys Ds
  | [], [], vs, ds, p, _, _, h => by
    cases vs <;> cases ds <;> first | exact ⟨[], rfl, rfl⟩ | exact h.elim
  | [], _ :: _, _, _, _, h, _, _ => by simp [Ty.fitsAll] at h
  | _ :: _, [], _, _, _, h, _, _ => by simp [Ty.fitsAll] at h
  | e :: l, t :: ts, [], ds, p, _, _, h => by cases ds <;> exact h.elim
  | e :: l, t :: ts, v :: vs, [], p, _, _, h => h.elim
  | e :: l, t :: ts, v :: vs, d :: ds, p, hf, hv, h => by
    simp only [Ty.fitsAll, Bool.and_eq_true] at hf
    obtain ⟨p1, q1, h1, h2, rfl⟩ := h
    obtain ⟨s1, s2⟩ := shape_of hf.1 (hv 0 t v rfl rfl) h1
    obtain ⟨c, k1, k2⟩ := reads_arg hf.1 h1 s1 s2
    obtain ⟨Ds, g1, g2⟩ := args_read l ts vs ds q1 hf.2 (fun j t v ht hv' => hv (j + 1) t v (by simpa using ht) (by simpa using hv')) h2
    exact ⟨e.wrap c :: Ds, ⟨v, vs, rfl, k1, g1⟩, c, Ds, rfl, k2, g2⟩

theorem trodAll_lt {spare : Nat → Bool} : ∀ (ts : List TypeId) (vs : List Value) (ds : List (DataW H)) (p : List MemPlace), DataW.TrodAll enc P W 0 spare true ts vs ds p → ∀ x ∈ p, x.block < W.heap.size
  | [], vs, ds, p, h => by
    cases vs <;> cases ds <;> first | exact h.elim | (have h : p = [] := h; subst h; simp)
  | t :: ts, [], ds, p, h => by cases ds <;> exact h.elim
  | t :: ts, v :: vs, [], p, h => h.elim
  | t :: ts, v :: vs, d :: ds, p, h => by
    obtain ⟨p1, q1, ⟨m, hm⟩, h2, rfl⟩ := h
    intro x hx
    rcases List.mem_append.1 hx with hx | hx
    · exact DataW.trod_lt m _ _ _ hm x hx
    · exact trodAll_lt ts vs ds q1 h2 x hx

theorem args_back (hl : laidOutB P = true) {W' : World} (hb : Below W.heap.size W W') : ∀ (ts : List TypeId) (vs : List Value) (ds : List (DataW H)) (p : List MemPlace), (ts.all fun t => P.readableRec t && decide (t < P.types.size)) = true →
    DataW.TrodAll enc P W 0 (fun _ => true) true ts vs ds p → DataW.TrodAll enc P W' 0 (fun b => decide (b < W.heap.size)) true ts vs ds p
  | [], vs, ds, p, _, h => by
    cases vs <;> cases ds <;> first | exact h.elim | exact h
  | t :: ts, [], ds, p, _, h => by cases ds <;> exact h.elim
  | t :: ts, v :: vs, [], p, _, h => h.elim
  | t :: ts, v :: vs, d :: ds, p, ht, h => by
    have hlt := trodAll_lt _ _ _ _ h
    obtain ⟨p1, q1, h1, h2, rfl⟩ := h
    simp only [List.all_cons, Bool.and_eq_true, decide_eq_true_eq] at ht
    exact ⟨p1, q1, Below.trod hl ht.1.1 ht.1.2 h1 hb fun x hx => hlt x (by simp [hx]), args_back hl hb ts vs ds q1 ht.2 h2, rfl⟩
end

theorem trodAll_len {H : Type} {enc : TypeId × Value → H} {P : Program} {W : World} {spare : Nat → Bool} : ∀ (ts : List TypeId) (vs : List Value) (ds : List (DataW H)) (p : List MemPlace), DataW.TrodAll enc P W 0 spare true ts vs ds p → ds.length = ts.length
  | [], vs, ds, p, h => by cases vs <;> cases ds <;> first | exact h.elim | rfl
  | t :: ts, [], ds, p, h => by cases ds <;> exact h.elim
  | t :: ts, v :: vs, [], p, h => h.elim
  | t :: ts, v :: vs, d :: ds, p, h => by
    obtain ⟨p1, q1, h1, h2, rfl⟩ := h
    simp [trodAll_len ts vs ds q1 h2]
theorem cons_of {α : Type} {l : List α} {n : Nat} (h : l.length = n + 1) : ∃ a r, l = a :: r ∧ r.length = n := by
  cases l with
  | nil => cases h
  | cons a r => exact ⟨a, r, rfl, by simpa using h⟩
theorem nil_of {α : Type} {l : List α} (h : l.length = 0) : l = [] := List.eq_nil_of_length_eq_zero h
theorem has_int {k : IntKind} {ds : List D} (h : (Ty.int k).has ds) : ∃ n, (Ty.int k).wrap ds = .v (.int k n) ∧ (Lit.int k n).wf = true := by
  obtain ⟨n, rfl, h⟩ := h
  exact ⟨n, rfl, h⟩
theorem has_bool {ds : List D} (h : Ty.bool.has ds) : ∃ b, Ty.bool.wrap ds = .v (.bool b) := by
  obtain ⟨n, rfl⟩ := h
  exact ⟨n, rfl⟩
theorem wf_i64 {n : Int} (h : (Lit.int .i64 n).wf = true) : -9223372036854775808 ≤ n ∧ n ≤ 9223372036854775807 := by
  simp [Lit.wf, IntKind.min, IntKind.max, IntKind.bits, IntKind.signed] at h
  omega
theorem wf_u8 {n : Int} (h : (Lit.int .u8 n).wf = true) : 0 ≤ n ∧ n ≤ 255 := by
  simp [Lit.wf, IntKind.min, IntKind.max, IntKind.bits, IntKind.signed] at h
  omega
theorem wf_i16 {n : Int} (h : (Lit.int .i16 n).wf = true) : -32768 ≤ n ∧ n ≤ 32767 := by
  simp [Lit.wf, IntKind.min, IntKind.max, IntKind.bits, IntKind.signed] at h
  omega
theorem wf_u64 {n : Int} (h : (Lit.int .u64 n).wf = true) : 0 ≤ n ∧ n ≤ 18446744073709551615 := by
  simp [Lit.wf, IntKind.min, IntKind.max, IntKind.bits, IntKind.signed] at h
  omega
theorem r8 {l : List Int} (h : ∀ n ∈ l, (Lit.int .u8 n).wf = true) : ∀ n ∈ l, 0 ≤ n ∧ n ≤ 255 := fun n hn => wf_u8 (h n hn)
theorem r16 {l : List Int} (h : ∀ n ∈ l, (Lit.int .i16 n).wf = true) : ∀ n ∈ l, -32768 ≤ n ∧ n ≤ 32767 := fun n hn => wf_i16 (h n hn)
theorem r64 {l : List Int} (h : ∀ n ∈ l, (Lit.int .i64 n).wf = true) : ∀ n ∈ l, -9223372036854775808 ≤ n ∧ n ≤ 9223372036854775807 := fun n hn => wf_i64 (h n hn)
theorem rr8 {l : List (List Int)} (h : ∀ x ∈ l, ∀ n ∈ x, (Lit.int .u8 n).wf = true) : ∀ x ∈ l, ∀ n ∈ x, 0 ≤ n ∧ n ≤ 255 := fun x hx => r8 (h x hx)
theorem rr16 {l : List (List Int)} (h : ∀ x ∈ l, ∀ n ∈ x, (Lit.int .i16 n).wf = true) : ∀ x ∈ l, ∀ n ∈ x, -32768 ≤ n ∧ n ≤ 32767 := fun x hx => r16 (h x hx)
end Go.VL
