import Derived.Test.YtfmeiapglpphpaaDoorDARowL
import Derived.Test.YtfmeiapglpphpaaDoorDG1H
import Derived.LaidLaws
import Derived.LaidHandle
import Derived.ChangeVars
set_option linter.unusedVariables false
/- What the listed variable holds when the call begins. -/
namespace Go.Proofs.YtfmeiapglpphpaaDoor.T
open Go Go.VL Go.Proofs Go.RowKit
set_option maxRecDepth 100000
theorem list4 {α : Type} {l : List α} (h : l.length = 4) : ∃ a b c d, l = [a, b, c, d] := by
  match l, h with
  | [a, b, c, d], _ => exact ⟨a, b, c, d, rfl⟩
theorem mapM_get {α β : Type} {f : α → Option β} : ∀ {l : List α} {xs : List β}, l.mapM f = some xs → l.length = xs.length ∧ ∀ (i : Nat) (a : α), l[i]? = some a → ∃ x, xs[i]? = some x ∧ f a = some x
  | [], xs, h => by
    simp at h; subst h
    exact ⟨rfl, fun i a h => by simp at h⟩
  | a :: l, xs, h => by
    simp only [List.mapM_cons, Option.bind_eq_bind, Option.bind_eq_some_iff, Option.pure_def, Option.some.injEq] at h
    obtain ⟨x, h1, ys, h2, rfl⟩ := h
    obtain ⟨h3, h4⟩ := mapM_get h2
    refine ⟨by simp [h3], fun i b hi => ?_⟩
    cases i with
    | zero => simp at hi; subst hi; exact ⟨x, rfl, h1⟩
    | succ i => simpa using h4 i b (by simpa using hi)
theorem shape_of {W : World} {fuel : Nat} {cs : List Value} {d : DataW Unit} {p : List MemPlace} (h : DataW.trod (fun _ => ()) Tryd.prog W 0 (fun _ => true) false fuel 43 cs = some (d, p)) (hl : cs.length = 4) :
    ∃ i k s v, cs = [.int .i64 i, .int .i64 k, .int .i64 s, .bool v] ∧ d = .agg [.lit (.int .i64 i), .lit (.int .i64 k), .lit (.int .i64 s), .lit (.bool v)] := by
  have u43 : ∃ fs, Tryd.prog.underlying 43 = some (.struct fs) ∧ fs.toList.map (fun f => (f.offset, f.type)) = [(0, 3), (1, 3), (2, 3), (3, 4)] := ⟨_, rfl, by kernel_rfl⟩
  have c43 : Tryd.prog.cellsOf 43 = 4 := by kernel_rfl
  have c3 : Tryd.prog.cellsOf 3 = 1 := by kernel_rfl
  have c4 : Tryd.prog.cellsOf 4 = 1 := by kernel_rfl
  have u3 : Tryd.prog.underlying 3 = some (.int .i64) := by kernel_rfl
  have u4 : Tryd.prog.underlying 4 = some .bool := by kernel_rfl
  obtain ⟨a, b, c, e, rfl⟩ := list4 hl
  cases fuel with
  | zero => simp [DataW.trod] at h
  | succ fuel =>
    obtain ⟨fs, hfs, hfl⟩ := u43
    unfold DataW.trod at h
    rw [hfs] at h
    simp only [c43, List.length_cons, List.length_nil, Nat.zero_add, Nat.reduceAdd, if_true, Option.map_eq_some_iff] at h
    obtain ⟨xs, hm, hx⟩ := h
    have hm' : ([(0, 3), (1, 3), (2, 3), (3, 4)] : List (Nat × Nat)).mapM (fun q => DataW.trod (fun _ => ()) Tryd.prog W 0 (fun _ => true) false fuel q.2 (([a, b, c, e].drop q.1).take (Tryd.prog.cellsOf q.2))) = some xs := by
      rw [← hfl, List.mapM_map]; exact hm
    obtain ⟨hlen, hg⟩ := mapM_get hm'
    obtain ⟨x0, g0, t0⟩ := hg 0 _ rfl
    obtain ⟨x1, g1, t1⟩ := hg 1 _ rfl
    obtain ⟨x2, g2, t2⟩ := hg 2 _ rfl
    obtain ⟨x3, g3, t3⟩ := hg 3 _ rfl
    obtain ⟨y0, y1, y2, y3, rfl⟩ := list4 hlen.symm
    simp only [List.getElem?_cons_zero, List.getElem?_cons_succ, Option.some.injEq] at g0 g1 g2 g3
    subst g0 g1 g2 g3
    simp only [c3, c4, List.drop_zero, List.drop_succ_cons, List.take_succ_cons, List.take_zero] at t0 t1 t2 t3
    obtain ⟨n0, rfl, d0⟩ := trod_int u3 (d := y0.1) (p := y0.2) t0
    obtain ⟨n1, rfl, d1⟩ := trod_int u3 (d := y1.1) (p := y1.2) t1
    obtain ⟨n2, rfl, d2⟩ := trod_int u3 (d := y2.1) (p := y2.2) t2
    obtain ⟨n3, rfl, d3⟩ := trod_bool u4 (d := y3.1) (p := y3.2) t3
    refine ⟨n0, n1, n2, n3, rfl, ?_⟩
    have := congrArg Prod.fst hx
    simp only [List.map_cons, List.map_nil, d0, d1, d2, d3] at this
    exact this.symm
theorem part_of {W : World} {fuel : Nat} {l : List Value} {xs : List (DataW Unit × List MemPlace)} (hl : l.length = 36)
    (hm : (List.range 9).mapM (fun i => DataW.trod (fun _ => ()) Tryd.prog W 0 (fun _ => true) false fuel 43 ((l.drop (i * 4)).take 4)) = some xs) {i : Nat} (hi : i < 9) {a b c : Int} {e : Bool}
    (hd : (xs.map (·.1))[i]? = some (.agg [.lit (.int .i64 a), .lit (.int .i64 b), .lit (.int .i64 c), .lit (.bool e)])) : l.drop (i * 4) = [.int .i64 a, .int .i64 b, .int .i64 c, .bool e] ++ l.drop ((i + 1) * 4) := by
  obtain ⟨_, hg⟩ := mapM_get hm
  obtain ⟨x, h1, h2⟩ := hg i i (by simp [hi])
  obtain ⟨n0, n1, n2, n3, h3, h4⟩ := shape_of (d := x.1) (p := x.2) h2 (by rw [List.length_take, List.length_drop, hl]; omega)
  rw [List.getElem?_map, h1, Option.map_some, h4] at hd
  simp only [Option.some.injEq, DataW.agg.injEq, List.cons.injEq, DataW.lit.injEq, Lit.int.injEq, Lit.bool.injEq, true_and, and_true] at hd
  obtain ⟨rfl, rfl, rfl, rfl⟩ := hd
  have := List.take_append_drop 4 (l.drop (i * 4))
  rw [h3, List.drop_drop] at this
  rw [show (i + 1) * 4 = i * 4 + 4 by omega]
  exact this.symm
open Go.Proofs.YtfmeiapglpphpaaDoor in
theorem laid_of {W : World} (h : laidMetH Tryd.prog [("cuvette/ask.shapes", Rows.laid_cuvette_ask_shapes)] W) : GlobAt (Olds W) W := by
  have h' : laidMet Tryd.prog [("cuvette/ask.shapes", Rows.laid_cuvette_ask_shapes)] W := h
  obtain ⟨ps, ⟨g, t, cs, fuel, p, q, e1, e2, e3, e4, -, -⟩, -, -⟩ := h'
  have f1 : Tryd.prog.globalNamed "cuvette/ask.shapes" = some 0 := by kernel_rfl
  obtain rfl := Option.some.inj (f1.symm.trans e1)
  have f2 : (Tryd.prog.globals[0]?).map (·.type) = some 44 := by kernel_rfl
  obtain rfl := Option.some.inj (f2.symm.trans e2)
  have u44 : Tryd.prog.underlying 44 = some (.array 9 43) := by kernel_rfl
  have c44 : Tryd.prog.cellsOf 44 = 36 := by kernel_rfl
  have c43 : Tryd.prog.cellsOf 43 = 4 := by kernel_rfl
  have key : cs.toList = [.int .i64 0, .int .i64 0, .int .i64 0, .bool false, .int .i64 4, .int .i64 0, .int .i64 0, .bool true, .int .i64 4, .int .i64 0, .int .i64 0, .bool true, .int .i64 4, .int .i64 0, .int .i64 0, .bool false, .int .i64 4, .int .i64 0, .int .i64 0, .bool false,
      .int .i64 0, .int .i64 2, .int .i64 0, .bool true, .int .i64 0, .int .i64 0, .int .i64 0, .bool false, .int .i64 0, .int .i64 0, .int .i64 8, .bool false, .int .i64 0, .int .i64 0, .int .i64 0, .bool false] := by
    cases fuel with
    | zero => simp [DataW.trod] at e4
    | succ fuel =>
      unfold DataW.trod at e4
      rw [u44] at e4
      simp only [c44, c43] at e4
      split at e4
      · rename_i hl
        rw [Option.map_eq_some_iff] at e4
        obtain ⟨xs, hm, hx⟩ := e4
        have hx1 : DataW.agg (xs.map (·.1)) = Rows.laid_cuvette_ask_shapes := congrArg Prod.fst hx
        unfold Rows.laid_cuvette_ask_shapes at hx1
        have hx2 := DataW.agg.inj hx1
        have P := fun {i : Nat} (hi : i < 9) {a b c : Int} {e : Bool} hd => part_of (i := i) (a := a) (b := b) (c := c) (e := e) hl hm hi hd
        rw [hx2] at P
        have q0 := P (i := 0) (by decide) rfl
        have q1 := P (i := 1) (by decide) rfl
        have q2 := P (i := 2) (by decide) rfl
        have q3 := P (i := 3) (by decide) rfl
        have q4 := P (i := 4) (by decide) rfl
        have q5 := P (i := 5) (by decide) rfl
        have q6 := P (i := 6) (by decide) rfl
        have q7 := P (i := 7) (by decide) rfl
        have q8 := P (i := 8) (by decide) rfl
        simp only [Nat.reduceMul, Nat.reduceAdd, List.drop_zero] at q0 q1 q2 q3 q4 q5 q6 q7 q8
        have q9 : cs.toList.drop 36 = [] := List.drop_of_length_le (by rw [hl]; decide)
        rw [q0, q1, q2, q3, q4, q5, q6, q7, q8, q9]
        rfl
      · cases e4
  have hcell := World.var?_cell f1 e3
  have hs : cs.size = 36 := by rw [← Array.length_toList, key]; rfl
  intro x hx
  have hx' : x = (0, shapesD) := by
    have : theGlobs = [(0, shapesD)] := rfl
    rw [this] at hx
    exact List.mem_singleton.1 hx
  subst hx'
  refine ⟨0, 0, .agg cs, rfl, ?_, ?_, ?_, fun j u hu => ?_⟩
  · refine ⟨cs.toList, by simp, ?_, ?_⟩
    · have := RelDs_vals (ρ := fun _ => ⟨none, 0, 0⟩) (J := Olds W) (w := W) cs.toList (by rw [key]; decide)
      have hP := RelDs.toP this (by rw [key]; rfl)
      rw [key] at hP ⊢
      exact hP
    · rw [key]; decide
  · show cs.size = shapesD.width
    rw [hs]; rfl
  · show 0 < W.heap.size
    have := hcell 0
    have h0 : cs[0]? = some (.int .i64 0) := by rw [← Array.getElem?_toList, key]; rfl
    rw [h0] at this
    rcases Nat.eq_zero_or_pos W.heap.size with hz | hz
    · simp [World.cell?, Array.getElem?_eq_none (Nat.le_of_eq hz)] at this
    · exact hz
  · rw [Nat.zero_add, hcell j]
    have hcs : (Value.agg cs).cells = cs := rfl
    rw [hcs] at hu
    simpa using hu
/-- A world that meets the condition. -/
noncomputable def laidWorld (os : Os) : World :=
  let w0 := World.holding Tryd.prog os ⟨#[], #[], []⟩
  { w0 with heap := w0.heap.modify 0 fun
      | .cells _ t frozen => .cells #[.int .i64 0, .int .i64 0, .int .i64 0, .bool false, .int .i64 4, .int .i64 0, .int .i64 0, .bool true, .int .i64 4, .int .i64 0, .int .i64 0, .bool true, .int .i64 4, .int .i64 0, .int .i64 0, .bool false, .int .i64 4, .int .i64 0, .int .i64 0, .bool false,
      .int .i64 0, .int .i64 2, .int .i64 0, .bool true, .int .i64 0, .int .i64 0, .int .i64 0, .bool false, .int .i64 0, .int .i64 0, .int .i64 8, .bool false, .int .i64 0, .int .i64 0, .int .i64 0, .bool false] t frozen
      | o => o }
open Go.Proofs.YtfmeiapglpphpaaDoor in
theorem laidWorld_met (os : Os) (args : Array Value) : laidMetH Tryd.prog [("cuvette/ask.shapes", Rows.laid_cuvette_ask_shapes)] ((laidWorld os).forCall (fun _ _ => 0) ⟨#[], args, []⟩).memory :=
  (show laidMet Tryd.prog [("cuvette/ask.shapes", Rows.laid_cuvette_ask_shapes)] ((laidWorld os).forCall (fun _ _ => 0) ⟨#[], args, []⟩).memory from laidMet_of_run' 8 (by kernel_rfl) (by kernel_rfl))
end Go.Proofs.YtfmeiapglpphpaaDoor.T
