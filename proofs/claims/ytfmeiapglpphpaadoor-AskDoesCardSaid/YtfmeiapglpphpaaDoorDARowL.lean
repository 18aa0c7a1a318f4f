import Derived.Test.YtfmeiapglpphpaaDoorLE
import Derived.Test.YtfmeiapglpphpaaDoorDAShape
/- What is asked as an argument; a package-level variable, read. -/
namespace Go.VL
open Go Go.RowKit Go.Proofs.YtfmeiapglpphpaaDoor.T
theorem has_ask {ds : List D} (h : (Ty.st [.int .i64, .int .i64, .int .i64, .int .i64, .sl (.int .i16)]).has ds) : ∃ (k id n s : Int) (v : List Int), (Ty.st [.int .i64, .int .i64, .int .i64, .int .i64, .sl (.int .i16)]).wrap ds = askD k id n s v ∧
    (Lit.int .i64 n).wf = true ∧ ∀ x ∈ v, (Lit.int .i16 x).wf = true := by
  obtain ⟨a1, b1, rfl, h1, a2, b2, rfl, h2, a3, b3, rfl, h3, a4, b4, rfl, h4, a5, b5, rfl, h5, h6⟩ := h
  obtain ⟨k, rfl, _⟩ := h1
  obtain ⟨id, rfl, _⟩ := h2
  obtain ⟨n, rfl, hn⟩ := h3
  obtain ⟨s, rfl, _⟩ := h4
  obtain ⟨els, rfl, h5⟩ := h5
  have h6 : b5 = [] := h6
  subst h6
  obtain ⟨v, e, hv⟩ := has_ints (ds := [.lst (els.map (Ty.int .i16).wrap)]) ⟨els, rfl, h5⟩
  refine ⟨k, id, n, s, v, ?_, hn, hv⟩
  have e' : D.lst (els.map (Ty.int .i16).wrap) = .lst (ints .i16 v) := e
  show D.agg ([.v (.int .i64 k)] ++ ([.v (.int .i64 id)] ++ ([.v (.int .i64 n)] ++ ([.v (.int .i64 s)] ++ ([.lst (els.map (Ty.int .i16).wrap)] ++ []))))) = _
  rw [e']
  rfl
section
variable {P : Program} {w : World} {sp : Nat → Bool} {held : Bool} {fuel : Nat} {t : TypeId}
theorem trod_int {c : Value} {k : IntKind} {d : DataW Unit} {p : List MemPlace} (hu : P.underlying t = some (.int k)) (h : DataW.trod (fun _ => ()) P w 0 sp held fuel t [c] = some (d, p)) : ∃ n, c = .int k n ∧ d = .lit (.int k n) := by
  cases fuel with
  | zero => simp [DataW.trod] at h
  | succ fuel =>
    unfold DataW.trod at h
    rw [hu] at h
    cases c <;> simp only [reduceCtorEq] at h
    rename_i k' n
    split at h
    · rename_i q
      simp only [Option.some.injEq, Prod.mk.injEq] at h
      exact ⟨n, by rw [q.1], h.1.symm⟩
    · cases h
theorem trod_bool {c : Value} {d : DataW Unit} {p : List MemPlace} (hu : P.underlying t = some .bool) (h : DataW.trod (fun _ => ()) P w 0 sp held fuel t [c] = some (d, p)) : ∃ b, c = .bool b ∧ d = .lit (.bool b) := by
  cases fuel with
  | zero => simp [DataW.trod] at h
  | succ fuel =>
    unfold DataW.trod at h
    rw [hu] at h
    cases c <;> simp only [reduceCtorEq] at h
    rename_i b
    simp only [Option.some.injEq, Prod.mk.injEq] at h
    exact ⟨b, rfl, h.1.symm⟩
end
end Go.VL
