import Derived.Test.YtfmeiapglpphpaaDoorDG1F
/- Struct literals of the seat. -/
namespace Go.Proofs.YtfmeiapglpphpaaDoor.T
open Go Go.VL Go.Proofs
set_option linter.unusedVariables false
set_option maxRecDepth 100000

theorem fact_pl24 : placesT Tryd.prog 24 = some fun i => if i = 0 then some (0, 1) else if i = 1 then some (1, 1) else if i = 2 then some (2, 1) else if i = 3 then some (3, 1) else if i = 4 then some (4, 1) else none := by
  have h : ∃ fs, Tryd.prog.underlying 24 = some (.struct fs) ∧ fs.size = 5 ∧ ((fs[0]?).map fun f => (f.offset, Tryd.prog.cellsOf f.type)) = some (0, 1) ∧ ((fs[1]?).map fun f => (f.offset, Tryd.prog.cellsOf f.type)) = some (1, 1) ∧ ((fs[2]?).map fun f => (f.offset, Tryd.prog.cellsOf f.type)) = some (2, 1) ∧ ((fs[3]?).map fun f => (f.offset, Tryd.prog.cellsOf f.type)) = some (3, 1) ∧ ((fs[4]?).map fun f => (f.offset, Tryd.prog.cellsOf f.type)) = some (4, 1) := ⟨_, rfl, by kernel_rfl, by kernel_rfl, by kernel_rfl, by kernel_rfl, by kernel_rfl, by kernel_rfl⟩
  obtain ⟨fs, h1, h2, h3, h4, h5, h6, h7⟩ := h
  unfold placesT
  rw [h1]
  show (some fun (i : Nat) => (fs[i]?).map fun (f : Go.Field) => (f.offset, Tryd.prog.cellsOf f.type)) = _
  refine congrArg some (funext fun i => ?_)
  by_cases i0 : i = 0
  · subst i0; exact h3
  · by_cases i1 : i = 1
    · subst i1; exact h4
    · by_cases i2 : i = 2
      · subst i2; exact h5
      · by_cases i3 : i = 3
        · subst i3; exact h6
        · by_cases i4 : i = 4
          · subst i4; exact h7
          · rw [if_neg i0, if_neg i1, if_neg i2, if_neg i3, if_neg i4, Array.getElem?_eq_none (by omega)]; rfl
theorem ofVal24 : D.ofVal (Value.agg #[.int .i64 0, .int .i64 0, .int .i64 0, .int .i64 0, .slice none 0 0]) = .agg [.v (.int .i64 0) , .v (.int .i64 0) , .v (.int .i64 0) , .v (.int .i64 0) , .v (.slice none 0 0)] := (rfl)
theorem fact_pl25 : placesT Tryd.prog 25 = some fun i => if i = 0 then some (0, 1) else if i = 1 then some (1, 1) else if i = 2 then some (2, 1) else if i = 3 then some (3, 1) else if i = 4 then some (4, 1) else none := by
  have h : ∃ fs, Tryd.prog.underlying 25 = some (.struct fs) ∧ fs.size = 5 ∧ ((fs[0]?).map fun f => (f.offset, Tryd.prog.cellsOf f.type)) = some (0, 1) ∧ ((fs[1]?).map fun f => (f.offset, Tryd.prog.cellsOf f.type)) = some (1, 1) ∧ ((fs[2]?).map fun f => (f.offset, Tryd.prog.cellsOf f.type)) = some (2, 1) ∧ ((fs[3]?).map fun f => (f.offset, Tryd.prog.cellsOf f.type)) = some (3, 1) ∧ ((fs[4]?).map fun f => (f.offset, Tryd.prog.cellsOf f.type)) = some (4, 1) := ⟨_, rfl, by kernel_rfl, by kernel_rfl, by kernel_rfl, by kernel_rfl, by kernel_rfl, by kernel_rfl⟩
  obtain ⟨fs, h1, h2, h3, h4, h5, h6, h7⟩ := h
  unfold placesT
  rw [h1]
  show (some fun (i : Nat) => (fs[i]?).map fun (f : Go.Field) => (f.offset, Tryd.prog.cellsOf f.type)) = _
  refine congrArg some (funext fun i => ?_)
  by_cases i0 : i = 0
  · subst i0; exact h3
  · by_cases i1 : i = 1
    · subst i1; exact h4
    · by_cases i2 : i = 2
      · subst i2; exact h5
      · by_cases i3 : i = 3
        · subst i3; exact h6
        · by_cases i4 : i = 4
          · subst i4; exact h7
          · rw [if_neg i0, if_neg i1, if_neg i2, if_neg i3, if_neg i4, Array.getElem?_eq_none (by omega)]; rfl
theorem ofVal25 : D.ofVal (Value.agg #[.int .i64 0, .int .i64 0, .int .i64 0, .int .i64 0, .slice none 0 0]) = .agg [.v (.int .i64 0) , .v (.int .i64 0) , .v (.int .i64 0) , .v (.int .i64 0) , .v (.slice none 0 0)] := (rfl)
theorem fact_pl42 : placesT Tryd.prog 42 = some fun i => if i = 0 then some (0, 1) else if i = 1 then some (1, 1) else if i = 2 then some (2, 1) else if i = 3 then some (3, 1) else none := by
  have h : ∃ fs, Tryd.prog.underlying 42 = some (.struct fs) ∧ fs.size = 4 ∧ ((fs[0]?).map fun f => (f.offset, Tryd.prog.cellsOf f.type)) = some (0, 1) ∧ ((fs[1]?).map fun f => (f.offset, Tryd.prog.cellsOf f.type)) = some (1, 1) ∧ ((fs[2]?).map fun f => (f.offset, Tryd.prog.cellsOf f.type)) = some (2, 1) ∧ ((fs[3]?).map fun f => (f.offset, Tryd.prog.cellsOf f.type)) = some (3, 1) := ⟨_, rfl, by kernel_rfl, by kernel_rfl, by kernel_rfl, by kernel_rfl, by kernel_rfl⟩
  obtain ⟨fs, h1, h2, h3, h4, h5, h6⟩ := h
  unfold placesT
  rw [h1]
  show (some fun (i : Nat) => (fs[i]?).map fun (f : Go.Field) => (f.offset, Tryd.prog.cellsOf f.type)) = _
  refine congrArg some (funext fun i => ?_)
  by_cases i0 : i = 0
  · subst i0; exact h3
  · by_cases i1 : i = 1
    · subst i1; exact h4
    · by_cases i2 : i = 2
      · subst i2; exact h5
      · by_cases i3 : i = 3
        · subst i3; exact h6
        · rw [if_neg i0, if_neg i1, if_neg i2, if_neg i3, Array.getElem?_eq_none (by omega)]; rfl
theorem ofVal42 : D.ofVal (Value.agg #[.int .i64 0, .int .i64 0, .int .i64 0, .bool false]) = .agg [.v (.int .i64 0) , .v (.int .i64 0) , .v (.int .i64 0) , .v (.bool false)] := (rfl)
theorem fact_pl43 : placesT Tryd.prog 43 = some fun i => if i = 0 then some (0, 1) else if i = 1 then some (1, 1) else if i = 2 then some (2, 1) else if i = 3 then some (3, 1) else none := by
  have h : ∃ fs, Tryd.prog.underlying 43 = some (.struct fs) ∧ fs.size = 4 ∧ ((fs[0]?).map fun f => (f.offset, Tryd.prog.cellsOf f.type)) = some (0, 1) ∧ ((fs[1]?).map fun f => (f.offset, Tryd.prog.cellsOf f.type)) = some (1, 1) ∧ ((fs[2]?).map fun f => (f.offset, Tryd.prog.cellsOf f.type)) = some (2, 1) ∧ ((fs[3]?).map fun f => (f.offset, Tryd.prog.cellsOf f.type)) = some (3, 1) := ⟨_, rfl, by kernel_rfl, by kernel_rfl, by kernel_rfl, by kernel_rfl, by kernel_rfl⟩
  obtain ⟨fs, h1, h2, h3, h4, h5, h6⟩ := h
  unfold placesT
  rw [h1]
  show (some fun (i : Nat) => (fs[i]?).map fun (f : Go.Field) => (f.offset, Tryd.prog.cellsOf f.type)) = _
  refine congrArg some (funext fun i => ?_)
  by_cases i0 : i = 0
  · subst i0; exact h3
  · by_cases i1 : i = 1
    · subst i1; exact h4
    · by_cases i2 : i = 2
      · subst i2; exact h5
      · by_cases i3 : i = 3
        · subst i3; exact h6
        · rw [if_neg i0, if_neg i1, if_neg i2, if_neg i3, Array.getElem?_eq_none (by omega)]; rfl
theorem ofVal43 : D.ofVal (Value.agg #[.int .i64 0, .int .i64 0, .int .i64 0, .bool false]) = .agg [.v (.int .i64 0) , .v (.int .i64 0) , .v (.int .i64 0) , .v (.bool false)] := (rfl)
theorem fact_pl45 : placesT Tryd.prog 45 = some fun i => if i = 0 then some (0, 1) else if i = 1 then some (1, 1) else none := by
  have h : ∃ fs, Tryd.prog.underlying 45 = some (.struct fs) ∧ fs.size = 2 ∧ ((fs[0]?).map fun f => (f.offset, Tryd.prog.cellsOf f.type)) = some (0, 1) ∧ ((fs[1]?).map fun f => (f.offset, Tryd.prog.cellsOf f.type)) = some (1, 1) := ⟨_, rfl, by kernel_rfl, by kernel_rfl, by kernel_rfl⟩
  obtain ⟨fs, h1, h2, h3, h4⟩ := h
  unfold placesT
  rw [h1]
  show (some fun (i : Nat) => (fs[i]?).map fun (f : Go.Field) => (f.offset, Tryd.prog.cellsOf f.type)) = _
  refine congrArg some (funext fun i => ?_)
  by_cases i0 : i = 0
  · subst i0; exact h3
  · by_cases i1 : i = 1
    · subst i1; exact h4
    · rw [if_neg i0, if_neg i1, Array.getElem?_eq_none (by omega)]; rfl
theorem ofVal45 : D.ofVal (Value.agg #[.int .i64 0, .int .i64 0]) = .agg [.v (.int .i64 0) , .v (.int .i64 0)] := (rfl)
theorem fact_pl46 : placesT Tryd.prog 46 = some fun i => if i = 0 then some (0, 1) else if i = 1 then some (1, 1) else none := by
  have h : ∃ fs, Tryd.prog.underlying 46 = some (.struct fs) ∧ fs.size = 2 ∧ ((fs[0]?).map fun f => (f.offset, Tryd.prog.cellsOf f.type)) = some (0, 1) ∧ ((fs[1]?).map fun f => (f.offset, Tryd.prog.cellsOf f.type)) = some (1, 1) := ⟨_, rfl, by kernel_rfl, by kernel_rfl, by kernel_rfl⟩
  obtain ⟨fs, h1, h2, h3, h4⟩ := h
  unfold placesT
  rw [h1]
  show (some fun (i : Nat) => (fs[i]?).map fun (f : Go.Field) => (f.offset, Tryd.prog.cellsOf f.type)) = _
  refine congrArg some (funext fun i => ?_)
  by_cases i0 : i = 0
  · subst i0; exact h3
  · by_cases i1 : i = 1
    · subst i1; exact h4
    · rw [if_neg i0, if_neg i1, Array.getElem?_eq_none (by omega)]; rfl
theorem ofVal46 : D.ofVal (Value.agg #[.int .i64 0, .int .i64 0]) = .agg [.v (.int .i64 0) , .v (.int .i64 0)] := (rfl)
theorem aggOf_agg {l : List D} : aggOf (.agg l) = some l := (rfl)
attribute [go_sem] fact_pl24 ofVal24 fact_pl25 ofVal25 fact_pl42 ofVal42 fact_pl43 ofVal43 fact_pl45 ofVal45 fact_pl46 ofVal46 aggOf_agg fillD cellsD
end Go.Proofs.YtfmeiapglpphpaaDoor.T
