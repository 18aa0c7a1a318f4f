import Derived.Test.YtfmeiapglpphpaaG1F
/- Struct literals of the seat. -/
namespace Go.Proofs.Ytfmeiapglpphpaa.T
open Go Go.VL Go.Proofs
set_option linter.unusedVariables false
set_option maxRecDepth 100000

theorem fact_pl69 : placesT Try.prog 69 = some fun i => if i = 0 then some (0, 1) else if i = 1 then some (1, 1) else none := by
  have h : ∃ fs, Try.prog.underlying 69 = some (.struct fs) ∧ fs.size = 2 ∧ ((fs[0]?).map fun f => (f.offset, Try.prog.cellsOf f.type)) = some (0, 1) ∧ ((fs[1]?).map fun f => (f.offset, Try.prog.cellsOf f.type)) = some (1, 1) := ⟨_, rfl, by kernel_rfl, by kernel_rfl, by kernel_rfl⟩
  obtain ⟨fs, h1, h2, h3, h4⟩ := h
  unfold placesT
  rw [h1]
  show (some fun (i : Nat) => (fs[i]?).map fun (f : Go.Field) => (f.offset, Try.prog.cellsOf f.type)) = _
  refine congrArg some (funext fun i => ?_)
  by_cases i0 : i = 0
  · subst i0; exact h3
  · by_cases i1 : i = 1
    · subst i1; exact h4
    · rw [if_neg i0, if_neg i1, Array.getElem?_eq_none (by omega)]; rfl
theorem ofVal69 : D.ofVal (Value.agg #[.int .i64 0, .slice none 0 0]) = .agg [.v (.int .i64 0) , .v (.slice none 0 0)] := (rfl)
theorem fact_pl70 : placesT Try.prog 70 = some fun i => if i = 0 then some (0, 1) else if i = 1 then some (1, 1) else none := by
  have h : ∃ fs, Try.prog.underlying 70 = some (.struct fs) ∧ fs.size = 2 ∧ ((fs[0]?).map fun f => (f.offset, Try.prog.cellsOf f.type)) = some (0, 1) ∧ ((fs[1]?).map fun f => (f.offset, Try.prog.cellsOf f.type)) = some (1, 1) := ⟨_, rfl, by kernel_rfl, by kernel_rfl, by kernel_rfl⟩
  obtain ⟨fs, h1, h2, h3, h4⟩ := h
  unfold placesT
  rw [h1]
  show (some fun (i : Nat) => (fs[i]?).map fun (f : Go.Field) => (f.offset, Try.prog.cellsOf f.type)) = _
  refine congrArg some (funext fun i => ?_)
  by_cases i0 : i = 0
  · subst i0; exact h3
  · by_cases i1 : i = 1
    · subst i1; exact h4
    · rw [if_neg i0, if_neg i1, Array.getElem?_eq_none (by omega)]; rfl
theorem ofVal70 : D.ofVal (Value.agg #[.int .i64 0, .slice none 0 0]) = .agg [.v (.int .i64 0) , .v (.slice none 0 0)] := (rfl)
theorem fact_pl98 : placesT Try.prog 98 = some fun i => if i = 0 then some (0, 1) else if i = 1 then some (1, 1) else if i = 2 then some (2, 1) else none := by
  have h : ∃ fs, Try.prog.underlying 98 = some (.struct fs) ∧ fs.size = 3 ∧ ((fs[0]?).map fun f => (f.offset, Try.prog.cellsOf f.type)) = some (0, 1) ∧ ((fs[1]?).map fun f => (f.offset, Try.prog.cellsOf f.type)) = some (1, 1) ∧ ((fs[2]?).map fun f => (f.offset, Try.prog.cellsOf f.type)) = some (2, 1) := ⟨_, rfl, by kernel_rfl, by kernel_rfl, by kernel_rfl, by kernel_rfl⟩
  obtain ⟨fs, h1, h2, h3, h4, h5⟩ := h
  unfold placesT
  rw [h1]
  show (some fun (i : Nat) => (fs[i]?).map fun (f : Go.Field) => (f.offset, Try.prog.cellsOf f.type)) = _
  refine congrArg some (funext fun i => ?_)
  by_cases i0 : i = 0
  · subst i0; exact h3
  · by_cases i1 : i = 1
    · subst i1; exact h4
    · by_cases i2 : i = 2
      · subst i2; exact h5
      · rw [if_neg i0, if_neg i1, if_neg i2, Array.getElem?_eq_none (by omega)]; rfl
theorem ofVal98 : D.ofVal (Value.agg #[.int .i64 0, .slice none 0 0, .slice none 0 0]) = .agg [.v (.int .i64 0) , .v (.slice none 0 0) , .v (.slice none 0 0)] := (rfl)
theorem fact_pl99 : placesT Try.prog 99 = some fun i => if i = 0 then some (0, 1) else if i = 1 then some (1, 1) else if i = 2 then some (2, 1) else none := by
  have h : ∃ fs, Try.prog.underlying 99 = some (.struct fs) ∧ fs.size = 3 ∧ ((fs[0]?).map fun f => (f.offset, Try.prog.cellsOf f.type)) = some (0, 1) ∧ ((fs[1]?).map fun f => (f.offset, Try.prog.cellsOf f.type)) = some (1, 1) ∧ ((fs[2]?).map fun f => (f.offset, Try.prog.cellsOf f.type)) = some (2, 1) := ⟨_, rfl, by kernel_rfl, by kernel_rfl, by kernel_rfl, by kernel_rfl⟩
  obtain ⟨fs, h1, h2, h3, h4, h5⟩ := h
  unfold placesT
  rw [h1]
  show (some fun (i : Nat) => (fs[i]?).map fun (f : Go.Field) => (f.offset, Try.prog.cellsOf f.type)) = _
  refine congrArg some (funext fun i => ?_)
  by_cases i0 : i = 0
  · subst i0; exact h3
  · by_cases i1 : i = 1
    · subst i1; exact h4
    · by_cases i2 : i = 2
      · subst i2; exact h5
      · rw [if_neg i0, if_neg i1, if_neg i2, Array.getElem?_eq_none (by omega)]; rfl
theorem ofVal99 : D.ofVal (Value.agg #[.int .i64 0, .slice none 0 0, .slice none 0 0]) = .agg [.v (.int .i64 0) , .v (.slice none 0 0) , .v (.slice none 0 0)] := (rfl)
theorem fact_pl113 : placesT Try.prog 113 = some fun i => if i = 0 then some (0, 1) else if i = 1 then some (1, 1) else none := by
  have h : ∃ fs, Try.prog.underlying 113 = some (.struct fs) ∧ fs.size = 2 ∧ ((fs[0]?).map fun f => (f.offset, Try.prog.cellsOf f.type)) = some (0, 1) ∧ ((fs[1]?).map fun f => (f.offset, Try.prog.cellsOf f.type)) = some (1, 1) := ⟨_, rfl, by kernel_rfl, by kernel_rfl, by kernel_rfl⟩
  obtain ⟨fs, h1, h2, h3, h4⟩ := h
  unfold placesT
  rw [h1]
  show (some fun (i : Nat) => (fs[i]?).map fun (f : Go.Field) => (f.offset, Try.prog.cellsOf f.type)) = _
  refine congrArg some (funext fun i => ?_)
  by_cases i0 : i = 0
  · subst i0; exact h3
  · by_cases i1 : i = 1
    · subst i1; exact h4
    · rw [if_neg i0, if_neg i1, Array.getElem?_eq_none (by omega)]; rfl
theorem ofVal113 : D.ofVal (Value.agg #[.bool false, .slice none 0 0]) = .agg [.v (.bool false) , .v (.slice none 0 0)] := (rfl)
theorem fact_pl114 : placesT Try.prog 114 = some fun i => if i = 0 then some (0, 1) else if i = 1 then some (1, 1) else none := by
  have h : ∃ fs, Try.prog.underlying 114 = some (.struct fs) ∧ fs.size = 2 ∧ ((fs[0]?).map fun f => (f.offset, Try.prog.cellsOf f.type)) = some (0, 1) ∧ ((fs[1]?).map fun f => (f.offset, Try.prog.cellsOf f.type)) = some (1, 1) := ⟨_, rfl, by kernel_rfl, by kernel_rfl, by kernel_rfl⟩
  obtain ⟨fs, h1, h2, h3, h4⟩ := h
  unfold placesT
  rw [h1]
  show (some fun (i : Nat) => (fs[i]?).map fun (f : Go.Field) => (f.offset, Try.prog.cellsOf f.type)) = _
  refine congrArg some (funext fun i => ?_)
  by_cases i0 : i = 0
  · subst i0; exact h3
  · by_cases i1 : i = 1
    · subst i1; exact h4
    · rw [if_neg i0, if_neg i1, Array.getElem?_eq_none (by omega)]; rfl
theorem ofVal114 : D.ofVal (Value.agg #[.bool false, .slice none 0 0]) = .agg [.v (.bool false) , .v (.slice none 0 0)] := (rfl)
theorem fact_pl143 : placesT Try.prog 143 = some fun i => if i = 0 then some (0, 1) else if i = 1 then some (1, 1) else if i = 2 then some (2, 1) else none := by
  have h : ∃ fs, Try.prog.underlying 143 = some (.struct fs) ∧ fs.size = 3 ∧ ((fs[0]?).map fun f => (f.offset, Try.prog.cellsOf f.type)) = some (0, 1) ∧ ((fs[1]?).map fun f => (f.offset, Try.prog.cellsOf f.type)) = some (1, 1) ∧ ((fs[2]?).map fun f => (f.offset, Try.prog.cellsOf f.type)) = some (2, 1) := ⟨_, rfl, by kernel_rfl, by kernel_rfl, by kernel_rfl, by kernel_rfl⟩
  obtain ⟨fs, h1, h2, h3, h4, h5⟩ := h
  unfold placesT
  rw [h1]
  show (some fun (i : Nat) => (fs[i]?).map fun (f : Go.Field) => (f.offset, Try.prog.cellsOf f.type)) = _
  refine congrArg some (funext fun i => ?_)
  by_cases i0 : i = 0
  · subst i0; exact h3
  · by_cases i1 : i = 1
    · subst i1; exact h4
    · by_cases i2 : i = 2
      · subst i2; exact h5
      · rw [if_neg i0, if_neg i1, if_neg i2, Array.getElem?_eq_none (by omega)]; rfl
theorem ofVal143 : D.ofVal (Value.agg #[.int .i64 0, .int .i64 0, .int .i64 0]) = .agg [.v (.int .i64 0) , .v (.int .i64 0) , .v (.int .i64 0)] := (rfl)
theorem fact_pl144 : placesT Try.prog 144 = some fun i => if i = 0 then some (0, 1) else if i = 1 then some (1, 1) else if i = 2 then some (2, 1) else none := by
  have h : ∃ fs, Try.prog.underlying 144 = some (.struct fs) ∧ fs.size = 3 ∧ ((fs[0]?).map fun f => (f.offset, Try.prog.cellsOf f.type)) = some (0, 1) ∧ ((fs[1]?).map fun f => (f.offset, Try.prog.cellsOf f.type)) = some (1, 1) ∧ ((fs[2]?).map fun f => (f.offset, Try.prog.cellsOf f.type)) = some (2, 1) := ⟨_, rfl, by kernel_rfl, by kernel_rfl, by kernel_rfl, by kernel_rfl⟩
  obtain ⟨fs, h1, h2, h3, h4, h5⟩ := h
  unfold placesT
  rw [h1]
  show (some fun (i : Nat) => (fs[i]?).map fun (f : Go.Field) => (f.offset, Try.prog.cellsOf f.type)) = _
  refine congrArg some (funext fun i => ?_)
  by_cases i0 : i = 0
  · subst i0; exact h3
  · by_cases i1 : i = 1
    · subst i1; exact h4
    · by_cases i2 : i = 2
      · subst i2; exact h5
      · rw [if_neg i0, if_neg i1, if_neg i2, Array.getElem?_eq_none (by omega)]; rfl
theorem ofVal144 : D.ofVal (Value.agg #[.int .i64 0, .int .i64 0, .int .i64 0]) = .agg [.v (.int .i64 0) , .v (.int .i64 0) , .v (.int .i64 0)] := (rfl)
theorem fact_pl155 : placesT Try.prog 155 = some fun i => if i = 0 then some (0, 3) else if i = 1 then some (3, 2) else if i = 2 then some (5, 2) else if i = 3 then some (7, 1) else none := by
  have h : ∃ fs, Try.prog.underlying 155 = some (.struct fs) ∧ fs.size = 4 ∧ ((fs[0]?).map fun f => (f.offset, Try.prog.cellsOf f.type)) = some (0, 3) ∧ ((fs[1]?).map fun f => (f.offset, Try.prog.cellsOf f.type)) = some (3, 2) ∧ ((fs[2]?).map fun f => (f.offset, Try.prog.cellsOf f.type)) = some (5, 2) ∧ ((fs[3]?).map fun f => (f.offset, Try.prog.cellsOf f.type)) = some (7, 1) := ⟨_, rfl, by kernel_rfl, by kernel_rfl, by kernel_rfl, by kernel_rfl, by kernel_rfl⟩
  obtain ⟨fs, h1, h2, h3, h4, h5, h6⟩ := h
  unfold placesT
  rw [h1]
  show (some fun (i : Nat) => (fs[i]?).map fun (f : Go.Field) => (f.offset, Try.prog.cellsOf f.type)) = _
  refine congrArg some (funext fun i => ?_)
  by_cases i0 : i = 0
  · subst i0; exact h3
  · by_cases i1 : i = 1
    · subst i1; exact h4
    · by_cases i2 : i = 2
      · subst i2; exact h5
      · by_cases i3 : i = 3
        · subst i3; exact h6
        · rw [if_neg i0, if_neg i1, if_neg i2, if_neg i3, Array.getElem?_eq_none (by omega)]; rfl
theorem ofVal155 : D.ofVal (Value.agg #[.int .i64 0, .slice none 0 0, .slice none 0 0, .int .i64 0, .slice none 0 0, .int .i64 0, .slice none 0 0, .int .i64 0]) = .agg [.v (.int .i64 0) , .v (.slice none 0 0) , .v (.slice none 0 0) , .v (.int .i64 0) , .v (.slice none 0 0) , .v (.int .i64 0) , .v (.slice none 0 0) , .v (.int .i64 0)] := (rfl)
theorem fact_pl156 : placesT Try.prog 156 = some fun i => if i = 0 then some (0, 3) else if i = 1 then some (3, 2) else if i = 2 then some (5, 2) else if i = 3 then some (7, 1) else none := by
  have h : ∃ fs, Try.prog.underlying 156 = some (.struct fs) ∧ fs.size = 4 ∧ ((fs[0]?).map fun f => (f.offset, Try.prog.cellsOf f.type)) = some (0, 3) ∧ ((fs[1]?).map fun f => (f.offset, Try.prog.cellsOf f.type)) = some (3, 2) ∧ ((fs[2]?).map fun f => (f.offset, Try.prog.cellsOf f.type)) = some (5, 2) ∧ ((fs[3]?).map fun f => (f.offset, Try.prog.cellsOf f.type)) = some (7, 1) := ⟨_, rfl, by kernel_rfl, by kernel_rfl, by kernel_rfl, by kernel_rfl, by kernel_rfl⟩
  obtain ⟨fs, h1, h2, h3, h4, h5, h6⟩ := h
  unfold placesT
  rw [h1]
  show (some fun (i : Nat) => (fs[i]?).map fun (f : Go.Field) => (f.offset, Try.prog.cellsOf f.type)) = _
  refine congrArg some (funext fun i => ?_)
  by_cases i0 : i = 0
  · subst i0; exact h3
  · by_cases i1 : i = 1
    · subst i1; exact h4
    · by_cases i2 : i = 2
      · subst i2; exact h5
      · by_cases i3 : i = 3
        · subst i3; exact h6
        · rw [if_neg i0, if_neg i1, if_neg i2, if_neg i3, Array.getElem?_eq_none (by omega)]; rfl
theorem ofVal156 : D.ofVal (Value.agg #[.int .i64 0, .slice none 0 0, .slice none 0 0, .int .i64 0, .slice none 0 0, .int .i64 0, .slice none 0 0, .int .i64 0]) = .agg [.v (.int .i64 0) , .v (.slice none 0 0) , .v (.slice none 0 0) , .v (.int .i64 0) , .v (.slice none 0 0) , .v (.int .i64 0) , .v (.slice none 0 0) , .v (.int .i64 0)] := (rfl)
theorem aggOf_agg {l : List D} : aggOf (.agg l) = some l := (rfl)
attribute [go_sem] fact_pl69 ofVal69 fact_pl70 ofVal70 fact_pl98 ofVal98 fact_pl99 ofVal99 fact_pl113 ofVal113 fact_pl114 ofVal114 fact_pl143 ofVal143 fact_pl144 ofVal144 fact_pl155 ofVal155 fact_pl156 ofVal156 aggOf_agg fillD cellsD
end Go.Proofs.Ytfmeiapglpphpaa.T
