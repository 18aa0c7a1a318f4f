import Derived.Test.YtpkampecmlpfmaaK1
import Derived.RangeFuncGives
import Derived.OwnWalkIn
import Derived.TacticsInMore
import Derived.LoopNIn
import Derived.LoopIn
import Derived.Maps.AppendAt
import Derived.Shelf.Abstract
section
set_option linter.unusedSimpArgs false
set_option linter.unusedVariables false
/- Codes and boxes, walked. -/
namespace Go.Proofs.Ytpkampecmlpfmaa.T
open Go Go.VL Go.Proofs
set_option maxRecDepth 100000
set_option maxHeartbeats 4000000
def codeErr (w : Int) (cuts : List (List Int)) (v : List Int) : Int := if bookErr w cuts = 0 ∧ vecErr v = 0 ∧ v.length = cuts.length then 0 else 1
def cellAt (cuts : List (List Int)) (u : List Int) (i : Nat) : Int := (cellOf (cuts.getD i []) (u.getD i 0) : Nat)
def codeL (cuts : List (List Int)) (u : List Int) : List Int := (List.range u.length).map (cellAt cuts u)
def codeOut (w : Int) (cuts : List (List Int)) (v : List Int) : List Int := if codeErr w cuts v = 0 then codeL cuts (turnL v w.toNat) else []
theorem codeErr_zero {w : Int} {cuts : List (List Int)} {v : List Int} : codeErr w cuts v = 0 ↔ bookErr w cuts = 0 ∧ vecErr v = 0 ∧ v.length = cuts.length := by
  unfold codeErr; split
  · exact ⟨fun _ => by assumption, fun _ => rfl⟩
  · exact ⟨fun h => absurd h (by decide), fun h => by contradiction⟩
theorem codeErr_one {w : Int} {cuts : List (List Int)} {v : List Int} (h : ¬ (bookErr w cuts = 0 ∧ vecErr v = 0 ∧ v.length = cuts.length)) : codeErr w cuts v = 1 := if_neg h
theorem codeL_length {cuts : List (List Int)} {u : List Int} : (codeL cuts u).length = u.length := by simp [codeL]
theorem codeL_getD {cuts : List (List Int)} {u : List Int} {i : Nat} (h : i < u.length) : (codeL cuts u).getD i 0 = cellAt cuts u i := getD_map_range h
theorem fill_codeL {cuts : List (List Int)} {u : List Int} : fill (cellAt cuts u) (List.replicate u.length 0) u.length = codeL cuts u := by
  have := fill_all (f := cellAt cuts u) (a := List.replicate u.length 0)
  rw [List.length_replicate] at this
  exact this
theorem codeOut_octets {w : Int} {cuts : List (List Int)} {v : List Int} : Octets (codeOut w cuts v) := by
  unfold codeOut
  split
  · rename_i h
    obtain ⟨h1, h2, h3⟩ := codeErr_zero.1 h
    intro x hx
    obtain ⟨i, hi, rfl⟩ := List.mem_map.1 hx
    rw [List.mem_range, turnL_length] at hi
    have hc := book_rows h1 _ (getD_mem (d := []) (show i < cuts.length by omega))
    have := (cutsErr_zero.1 hc.2).1
    have := cellOf_le (cuts.getD i []) ((turnL v w.toNat).getD i 0)
    unfold cellAt
    omega
  · intro x hx; cases hx

theorem code_fun (w : Int) (cuts : List (List Int)) (v : List Int) (hv : I16s v) : Fun Try.prog 70 [.agg [.v (.int .i64 w), .lst (rows .i16 cuts)], .lst (ints .i16 v)] fun r => r = .tup [.lst (ints .u8 (codeOut w cuts v)), .v (.int .i64 (codeErr w cuts v))] := by
  refine Fun.of_awpI Try.func70 rfl cal70 Try.ntmps70 (by simp) fun hwf => ?_
  simp only [D.wfs, D.wf, ints_length, ints_wfs, rows_length, rows_wfs, capMax, and_true, true_and] at hwf
  unfold codeOut
  by_cases h : bookErr w cuts = 0 ∧ vecErr v = 0 ∧ v.length = cuts.length
  · rw [if_pos (codeErr_zero.2 h), codeErr_zero.2 h]
    obtain ⟨h1, h2, h3⟩ := h
    obtain ⟨b1, b2, b3, _⟩ := bookErr_zero.1 h1
    have hrows := book_rows h1
    have hmany := book_many h1
    have ht := turnErr_iff.2 ⟨h2, wayErr_zero b3⟩
    have ho := turnOut_ok (turnErr_iff.1 ht)
    have hok := turnL_ok hv (vecErr_zero.1 h2) w.toNat
    have hul := turnL_length (v := v) (w := w.toNat)
    have hur := vecOk_getD hok.2 hok.1
    generalize turnL v w.toNat = u at *
    repeat' (first | simp only [go_sem, h1, h2, ht, ho, Ret_eq Try.results70] | simp (disch := omega) only [arith, IntKind.bits, capMax, fill_len, elt_fill] | (refine opCallI_rd (by simp only [go_sem, h1, h2, ht, ho, Ret_eq Try.results70]; first | done | rfl) (quantCheck_fun w cuts) (by rintro _ rfl; rfl) ?_; rintro _ rfl) | (refine opCallI_rd (by simp only [go_sem, h1, h2, ht, ho, Ret_eq Try.results70]; first | done | rfl) (vecCheck_fun v) (by rintro _ rfl; rfl) ?_; rintro _ rfl) | (refine opCallI_gv (by simp only [go_sem, h1, h2, ht, ho, Ret_eq Try.results70]; first | done | rfl) (turn_fun v w hv) ?_; rintro _ rfl) | fail)
    refine awpI_for u.length (fun k => True) (fun k => [(44, .v (.int .i64 k))]) (fun k => [(41, ⟨5, 1, ints .u8 (fill (cellAt cuts u) (List.replicate u.length 0) k)⟩)]) [2, 8, 42, 43] [2] _ (Weak.refl _) trivial ?_ ?_ ?_
    · simp only [go_sem, Ret_eq Try.results70]
    · simp only [go_sem, fill_zero, ints_replicate, Int.toNat_natCast, Ret_eq Try.results70]
    · intro k s hk _ hs
      simp only [go_sem, Ret_eq Try.results70] at hs
      by_cases hka : k < u.length
      · have hc := hrows _ (getD_mem (d := []) (show k < cuts.length by omega))
        obtain ⟨c1, c2⟩ := cell_ok hc.2 (hur k).1
        have hcl := cellOf_le (cuts.getD k []) (u.getD k 0)
        have hce : cellAt cuts u k = (cellOf (cuts.getD k []) (u.getD k 0) : Nat) := rfl
        have e := fill_set (f := cellAt cuts u) (a := List.replicate u.length 0) (k := k) (by simpa using hka)
        have e3 : (fill (cellAt cuts u) (List.replicate u.length 0) k).length = u.length := by rw [fill_len (by simp; omega)]; simp
        rw [hce] at e
        repeat' (first | simp only [go_sem, hs, c1, c2, e, e3, Ret_eq Try.results70] | simp (disch := omega) only [arith, IntKind.bits, capMax, fill_len, elt_fill] | (refine Again.up (by omega) ?_ ?_) | (refine opCallI_rd (by simp only [go_sem, hs, c1, c2, e, e3, Ret_eq Try.results70]; first | done | rfl) (rankCell_fun (cuts.getD k []) (u.getD k 0)) (by rintro _ rfl; rfl) ?_; rintro _ rfl) | fail)
      · obtain rfl : k = u.length := by omega
        rw [fill_codeL] at hs
        have hl := codeL_length (cuts := cuts) (u := u)
        have htk : (codeL cuts u).take u.length = codeL cuts u := List.take_of_length_le (by omega)
        repeat' (first | simp only [go_sem, hs, hl, htk, Ret_eq Try.results70] | simp (disch := omega) only [arith, IntKind.bits, capMax, fill_len, elt_fill] | fail)
  · rw [codeErr_one h]
    repeat' (first | simp only [go_sem, Ret_eq Try.results70] | simp (disch := omega) only [arith, IntKind.bits, capMax, fill_len, elt_fill] | (with_reducible refine condI_bne (fun hq hqb => ?_) (fun hq hqb => ?_) <;> simp only [KP_mk, hqb]) | (refine opCallI_rd (by simp only [go_sem, Ret_eq Try.results70]; first | done | rfl) (quantCheck_fun w cuts) (by rintro _ rfl; rfl) ?_; rintro _ rfl) | (refine opCallI_rd (by simp only [go_sem, Ret_eq Try.results70]; first | done | rfl) (vecCheck_fun v) (by rintro _ rfl; rfl) ?_; rintro _ rfl) | fail)
    all_goals first | rfl | exact absurd ⟨by assumption, by assumption, by omega⟩ h
def spans (cuts : List (List Int)) (code : List Int) (i : Nat) : Prop := spanErr (cuts.getD i []) (code.getD i 0) = 0
def boxErr (w : Int) (cuts : List (List Int)) (code : List Int) : Int :=
  if bookErr w cuts ≠ 0 then 1 else if ¬ formOk cuts code then 2 else if ∃ i, i < code.length ∧ spanErr (cuts.getD i []) (code.getD i 0) ≠ 0 then 5 else 0
end Go.Proofs.Ytpkampecmlpfmaa.T

end
section
set_option linter.unusedSimpArgs false
set_option linter.unusedVariables false
/- Boxes, walked. -/
namespace Go.Proofs.Ytpkampecmlpfmaa.T
open Go Go.VL Go.Proofs
set_option maxRecDepth 100000
set_option maxHeartbeats 4000000
def lowAt (cuts : List (List Int)) (code : List Int) (i : Nat) : Int := spanLow (cuts.getD i []) (code.getD i 0)
def highAt (cuts : List (List Int)) (code : List Int) (i : Nat) : Int := spanHigh (cuts.getD i []) (code.getD i 0)
def boxL (cuts : List (List Int)) (code : List Int) : List Int := (List.range code.length).map (lowAt cuts code)
def boxH (cuts : List (List Int)) (code : List Int) : List Int := (List.range code.length).map (highAt cuts code)
def boxLow (w : Int) (cuts : List (List Int)) (code : List Int) : List Int := if boxErr w cuts code = 0 then boxL cuts code else []
def boxHigh (w : Int) (cuts : List (List Int)) (code : List Int) : List Int := if boxErr w cuts code = 0 then boxH cuts code else []
theorem fill_map {f : Nat → Int} {n : Nat} : fill f (List.replicate n 0) n = (List.range n).map f := by
  have := fill_all (f := f) (a := List.replicate n 0)
  rw [List.length_replicate] at this
  exact this
theorem box_bad {w : Int} {cuts : List (List Int)} {code : List Int} {e : Int} (h : boxErr w cuts code = e) (he : e ≠ 0) : boxLow w cuts code = [] ∧ boxHigh w cuts code = [] := by
  unfold boxLow boxHigh
  rw [h, if_neg he, if_neg he]; exact ⟨rfl, rfl⟩
theorem box_ok {w : Int} {cuts : List (List Int)} {code : List Int} (h : boxErr w cuts code = 0) : boxLow w cuts code = boxL cuts code ∧ boxHigh w cuts code = boxH cuts code := by
  unfold boxLow boxHigh
  rw [if_pos h, if_pos h]; exact ⟨rfl, rfl⟩
theorem span_or {c : List Int} {n : Int} (h : cutsErr c = 0) (h1 : 0 ≤ n) (h2 : n ≤ c.length) : spanErr c n = 0 ∨ spanErr c n = 5 := by
  rw [span_ok h h1 h2]; split <;> simp
end Go.Proofs.Ytpkampecmlpfmaa.T

end
section
/- Struct literals of the seat. -/
namespace Go.Proofs.Ytpkampecmlpfmaa.T
open Go Go.VL Go.Proofs
set_option linter.unusedVariables false
set_option maxRecDepth 100000

theorem fact_pl44 : placesT Try.prog 44 = some fun i => if i = 0 then some (0, 1) else if i = 1 then some (1, 1) else if i = 2 then some (2, 1) else none := by
  have h : ∃ fs, Try.prog.underlying 44 = some (.struct fs) ∧ fs.size = 3 ∧ ((fs[0]?).map fun f => (f.offset, Try.prog.cellsOf f.type)) = some (0, 1) ∧ ((fs[1]?).map fun f => (f.offset, Try.prog.cellsOf f.type)) = some (1, 1) ∧ ((fs[2]?).map fun f => (f.offset, Try.prog.cellsOf f.type)) = some (2, 1) := ⟨_, rfl, by kernel_rfl, by kernel_rfl, by kernel_rfl, by kernel_rfl⟩
  obtain ⟨fs, h1, h2, h3, h4, h5⟩ := h
  unfold placesT
  rw [h1]
  show (some fun (i : Nat) => (fs[i]?).map fun (f : Go.Field) => (f.offset, Try.prog.cellsOf f.type)) = _
  refine congrArg some (funext fun i => ?_)
  by_cases i0 : i = 0
  · subst i0; exact h3
  · by_cases i1 : i = 1
    · subst i1; exact h4
    · by_cases i2 : i = 2
      · subst i2; exact h5
      · rw [if_neg i0, if_neg i1, if_neg i2, Array.getElem?_eq_none (by omega)]; rfl
theorem ofVal44 : D.ofVal (Value.agg #[.int .i64 0, .slice none 0 0, .slice none 0 0]) = .agg [.v (.int .i64 0) , .v (.slice none 0 0) , .v (.slice none 0 0)] := (rfl)
theorem fact_pl45 : placesT Try.prog 45 = some fun i => if i = 0 then some (0, 1) else if i = 1 then some (1, 1) else if i = 2 then some (2, 1) else none := by
  have h : ∃ fs, Try.prog.underlying 45 = some (.struct fs) ∧ fs.size = 3 ∧ ((fs[0]?).map fun f => (f.offset, Try.prog.cellsOf f.type)) = some (0, 1) ∧ ((fs[1]?).map fun f => (f.offset, Try.prog.cellsOf f.type)) = some (1, 1) ∧ ((fs[2]?).map fun f => (f.offset, Try.prog.cellsOf f.type)) = some (2, 1) := ⟨_, rfl, by kernel_rfl, by kernel_rfl, by kernel_rfl, by kernel_rfl⟩
  obtain ⟨fs, h1, h2, h3, h4, h5⟩ := h
  unfold placesT
  rw [h1]
  show (some fun (i : Nat) => (fs[i]?).map fun (f : Go.Field) => (f.offset, Try.prog.cellsOf f.type)) = _
  refine congrArg some (funext fun i => ?_)
  by_cases i0 : i = 0
  · subst i0; exact h3
  · by_cases i1 : i = 1
    · subst i1; exact h4
    · by_cases i2 : i = 2
      · subst i2; exact h5
      · rw [if_neg i0, if_neg i1, if_neg i2, Array.getElem?_eq_none (by omega)]; rfl
theorem ofVal45 : D.ofVal (Value.agg #[.int .i64 0, .slice none 0 0, .slice none 0 0]) = .agg [.v (.int .i64 0) , .v (.slice none 0 0) , .v (.slice none 0 0)] := (rfl)
theorem fact_pl64 : placesT Try.prog 64 = some fun i => if i = 0 then some (0, 1) else if i = 1 then some (1, 1) else if i = 2 then some (2, 1) else none := by
  have h : ∃ fs, Try.prog.underlying 64 = some (.struct fs) ∧ fs.size = 3 ∧ ((fs[0]?).map fun f => (f.offset, Try.prog.cellsOf f.type)) = some (0, 1) ∧ ((fs[1]?).map fun f => (f.offset, Try.prog.cellsOf f.type)) = some (1, 1) ∧ ((fs[2]?).map fun f => (f.offset, Try.prog.cellsOf f.type)) = some (2, 1) := ⟨_, rfl, by kernel_rfl, by kernel_rfl, by kernel_rfl, by kernel_rfl⟩
  obtain ⟨fs, h1, h2, h3, h4, h5⟩ := h
  unfold placesT
  rw [h1]
  show (some fun (i : Nat) => (fs[i]?).map fun (f : Go.Field) => (f.offset, Try.prog.cellsOf f.type)) = _
  refine congrArg some (funext fun i => ?_)
  by_cases i0 : i = 0
  · subst i0; exact h3
  · by_cases i1 : i = 1
    · subst i1; exact h4
    · by_cases i2 : i = 2
      · subst i2; exact h5
      · rw [if_neg i0, if_neg i1, if_neg i2, Array.getElem?_eq_none (by omega)]; rfl
theorem ofVal64 : D.ofVal (Value.agg #[.int .i64 0, .int .i64 0, .int .i16 0]) = .agg [.v (.int .i64 0) , .v (.int .i64 0) , .v (.int .i16 0)] := (rfl)
theorem fact_pl65 : placesT Try.prog 65 = some fun i => if i = 0 then some (0, 1) else if i = 1 then some (1, 1) else if i = 2 then some (2, 1) else none := by
  have h : ∃ fs, Try.prog.underlying 65 = some (.struct fs) ∧ fs.size = 3 ∧ ((fs[0]?).map fun f => (f.offset, Try.prog.cellsOf f.type)) = some (0, 1) ∧ ((fs[1]?).map fun f => (f.offset, Try.prog.cellsOf f.type)) = some (1, 1) ∧ ((fs[2]?).map fun f => (f.offset, Try.prog.cellsOf f.type)) = some (2, 1) := ⟨_, rfl, by kernel_rfl, by kernel_rfl, by kernel_rfl, by kernel_rfl⟩
  obtain ⟨fs, h1, h2, h3, h4, h5⟩ := h
  unfold placesT
  rw [h1]
  show (some fun (i : Nat) => (fs[i]?).map fun (f : Go.Field) => (f.offset, Try.prog.cellsOf f.type)) = _
  refine congrArg some (funext fun i => ?_)
  by_cases i0 : i = 0
  · subst i0; exact h3
  · by_cases i1 : i = 1
    · subst i1; exact h4
    · by_cases i2 : i = 2
      · subst i2; exact h5
      · rw [if_neg i0, if_neg i1, if_neg i2, Array.getElem?_eq_none (by omega)]; rfl
theorem ofVal65 : D.ofVal (Value.agg #[.int .i64 0, .int .i64 0, .int .i16 0]) = .agg [.v (.int .i64 0) , .v (.int .i64 0) , .v (.int .i16 0)] := (rfl)
theorem fact_pl72 : placesT Try.prog 72 = some fun i => if i = 0 then some (0, 1) else if i = 1 then some (1, 1) else none := by
  have h : ∃ fs, Try.prog.underlying 72 = some (.struct fs) ∧ fs.size = 2 ∧ ((fs[0]?).map fun f => (f.offset, Try.prog.cellsOf f.type)) = some (0, 1) ∧ ((fs[1]?).map fun f => (f.offset, Try.prog.cellsOf f.type)) = some (1, 1) := ⟨_, rfl, by kernel_rfl, by kernel_rfl, by kernel_rfl⟩
  obtain ⟨fs, h1, h2, h3, h4⟩ := h
  unfold placesT
  rw [h1]
  show (some fun (i : Nat) => (fs[i]?).map fun (f : Go.Field) => (f.offset, Try.prog.cellsOf f.type)) = _
  refine congrArg some (funext fun i => ?_)
  by_cases i0 : i = 0
  · subst i0; exact h3
  · by_cases i1 : i = 1
    · subst i1; exact h4
    · rw [if_neg i0, if_neg i1, Array.getElem?_eq_none (by omega)]; rfl
theorem ofVal72 : D.ofVal (Value.agg #[.int .i64 0, .slice none 0 0]) = .agg [.v (.int .i64 0) , .v (.slice none 0 0)] := (rfl)
theorem fact_pl73 : placesT Try.prog 73 = some fun i => if i = 0 then some (0, 1) else if i = 1 then some (1, 1) else none := by
  have h : ∃ fs, Try.prog.underlying 73 = some (.struct fs) ∧ fs.size = 2 ∧ ((fs[0]?).map fun f => (f.offset, Try.prog.cellsOf f.type)) = some (0, 1) ∧ ((fs[1]?).map fun f => (f.offset, Try.prog.cellsOf f.type)) = some (1, 1) := ⟨_, rfl, by kernel_rfl, by kernel_rfl, by kernel_rfl⟩
  obtain ⟨fs, h1, h2, h3, h4⟩ := h
  unfold placesT
  rw [h1]
  show (some fun (i : Nat) => (fs[i]?).map fun (f : Go.Field) => (f.offset, Try.prog.cellsOf f.type)) = _
  refine congrArg some (funext fun i => ?_)
  by_cases i0 : i = 0
  · subst i0; exact h3
  · by_cases i1 : i = 1
    · subst i1; exact h4
    · rw [if_neg i0, if_neg i1, Array.getElem?_eq_none (by omega)]; rfl
theorem ofVal73 : D.ofVal (Value.agg #[.int .i64 0, .slice none 0 0]) = .agg [.v (.int .i64 0) , .v (.slice none 0 0)] := (rfl)
theorem fact_pl98 : placesT Try.prog 98 = some fun i => if i = 0 then some (0, 1) else if i = 1 then some (1, 1) else if i = 2 then some (2, 1) else none := by
  have h : ∃ fs, Try.prog.underlying 98 = some (.struct fs) ∧ fs.size = 3 ∧ ((fs[0]?).map fun f => (f.offset, Try.prog.cellsOf f.type)) = some (0, 1) ∧ ((fs[1]?).map fun f => (f.offset, Try.prog.cellsOf f.type)) = some (1, 1) ∧ ((fs[2]?).map fun f => (f.offset, Try.prog.cellsOf f.type)) = some (2, 1) := ⟨_, rfl, by kernel_rfl, by kernel_rfl, by kernel_rfl, by kernel_rfl⟩
  obtain ⟨fs, h1, h2, h3, h4, h5⟩ := h
  unfold placesT
  rw [h1]
  show (some fun (i : Nat) => (fs[i]?).map fun (f : Go.Field) => (f.offset, Try.prog.cellsOf f.type)) = _
  refine congrArg some (funext fun i => ?_)
  by_cases i0 : i = 0
  · subst i0; exact h3
  · by_cases i1 : i = 1
    · subst i1; exact h4
    · by_cases i2 : i = 2
      · subst i2; exact h5
      · rw [if_neg i0, if_neg i1, if_neg i2, Array.getElem?_eq_none (by omega)]; rfl
theorem ofVal98 : D.ofVal (Value.agg #[.int .u64 0, .int .i64 0, .slice none 0 0]) = .agg [.v (.int .u64 0) , .v (.int .i64 0) , .v (.slice none 0 0)] := (rfl)
theorem fact_pl99 : placesT Try.prog 99 = some fun i => if i = 0 then some (0, 1) else if i = 1 then some (1, 1) else if i = 2 then some (2, 1) else none := by
  have h : ∃ fs, Try.prog.underlying 99 = some (.struct fs) ∧ fs.size = 3 ∧ ((fs[0]?).map fun f => (f.offset, Try.prog.cellsOf f.type)) = some (0, 1) ∧ ((fs[1]?).map fun f => (f.offset, Try.prog.cellsOf f.type)) = some (1, 1) ∧ ((fs[2]?).map fun f => (f.offset, Try.prog.cellsOf f.type)) = some (2, 1) := ⟨_, rfl, by kernel_rfl, by kernel_rfl, by kernel_rfl, by kernel_rfl⟩
  obtain ⟨fs, h1, h2, h3, h4, h5⟩ := h
  unfold placesT
  rw [h1]
  show (some fun (i : Nat) => (fs[i]?).map fun (f : Go.Field) => (f.offset, Try.prog.cellsOf f.type)) = _
  refine congrArg some (funext fun i => ?_)
  by_cases i0 : i = 0
  · subst i0; exact h3
  · by_cases i1 : i = 1
    · subst i1; exact h4
    · by_cases i2 : i = 2
      · subst i2; exact h5
      · rw [if_neg i0, if_neg i1, if_neg i2, Array.getElem?_eq_none (by omega)]; rfl
theorem ofVal99 : D.ofVal (Value.agg #[.int .u64 0, .int .i64 0, .slice none 0 0]) = .agg [.v (.int .u64 0) , .v (.int .i64 0) , .v (.slice none 0 0)] := (rfl)
theorem aggOf_agg {l : List D} : aggOf (.agg l) = some l := (rfl)
attribute [go_sem] fact_pl44 ofVal44 fact_pl45 ofVal45 fact_pl64 ofVal64 fact_pl65 ofVal65 fact_pl72 ofVal72 fact_pl73 ofVal73 fact_pl98 ofVal98 fact_pl99 ofVal99 aggOf_agg fillD cellsD
end Go.Proofs.Ytpkampecmlpfmaa.T

end
section
set_option linter.unusedSimpArgs false
set_option linter.unusedVariables false
/- The chapter's example; small books. -/
namespace Go.Proofs.Ytpkampecmlpfmaa.T
open Go Go.VL Go.Proofs
set_option maxRecDepth 100000
set_option maxHeartbeats 4000000
def fewB (cuts : List (List Int)) : Bool := cuts.all (fun c => decide (c.length ≤ 100)) && decide (cuts.length ≤ 100)
theorem few_all {cuts : List (List Int)} (h : fewB cuts = true) : cuts.length ≤ 100 ∧ ∀ c ∈ cuts, c.length ≤ 100 := by
  unfold fewB at h
  rw [Bool.and_eq_true, List.all_eq_true, decide_eq_true_eq] at h
  exact ⟨h.2, fun c hc => by simpa using h.1 c hc⟩

theorem few_fun (w : Int) (cuts : List (List Int)) : Fun Try.prog 51 [.agg [.v (.int .i64 w), .lst (rows .i16 cuts)]] fun r => r = .v (.bool (fewB cuts)) := by
  refine Fun.of_awpI Try.func51 rfl cal51 Try.ntmps51 (by simp) fun hwf => ?_
  simp only [D.wfs, D.wf, ints_length, ints_wfs, rows_length, rows_wfs, capMax, and_true, true_and] at hwf
  repeat' (first | simp only [go_sem, Ret_eq Try.results51] | fail)
  refine awpI_for cuts.length (fun k => ∀ i, i < k → (cuts.getD i []).length ≤ 100) (fun k => [(8, .v (.int .i64 k))]) (fun _ => []) [1, 6, 7] [1] _ (Weak.refl _) (fun i hi => by omega) ?_ ?_ ?_
  · simp only [go_sem, Ret_eq Try.results51]
  · simp only [go_sem, Ret_eq Try.results51]
  · intro k s hk hQ hs
    simp only [go_sem, Ret_eq Try.results51] at hs
    by_cases hka : k < cuts.length
    · repeat' (first | simp only [go_sem, hs, Ret_eq Try.results51] | simp (disch := omega) only [arith, IntKind.bits, capMax, fill_len, elt_fill] | (with_reducible refine condI_dec (fun hq hqb => ?_) (fun hq hqb => ?_) <;> simp only [KP_mk, hqb]) | (refine Again.up (by omega) ?_ ?_) | fail)
      · symm
        unfold fewB
        rw [Bool.and_eq_false_iff]
        exact .inl (by rw [List.all_eq_false]; exact ⟨_, getD_mem (d := []) hka, by rw [decide_eq_true_eq]; omega⟩)
      · intro i hi
        by_cases hik : i = k
        · subst hik; omega
        · exact hQ i (by omega)
    · obtain rfl : k = cuts.length := by omega
      repeat' (first | simp only [go_sem, hs, Ret_eq Try.results51] | simp (disch := omega) only [arith, IntKind.bits, capMax, fill_len, elt_fill] | fail)
      unfold fewB
      have : cuts.all (fun c => decide (c.length ≤ 100)) = true := by
        rw [List.all_eq_true]
        intro c hc
        obtain ⟨i, hi, rfl⟩ := List.mem_iff_getElem.1 hc
        have := hQ i hi
        simp [List.getD, hi] at this
        simpa using this
      rw [this, Bool.true_and]
      exact decide_eq_decide.2 (by omega)
end Go.Proofs.Ytpkampecmlpfmaa.T

end
section
set_option linter.unusedSimpArgs false
set_option linter.unusedVariables false
/- Whether one of many vectors is odd, walked. -/
namespace Go.Proofs.Ytpkampecmlpfmaa.T
open Go Go.VL Go.Proofs
set_option maxRecDepth 100000
set_option maxHeartbeats 4000000
theorem anyv_take_snoc {p : List Int → Bool} {l : List (List Int)} {k : Nat} (h : k < l.length) : (l.take (k + 1)).any p = ((l.take k).any p || p (l.getD k [])) := by
  rw [take_snoc (d := []) h, List.any_append]; simp
theorem anyv_of_take {p : List Int → Bool} {l : List (List Int)} {k : Nat} (h : k < l.length) (hp : p (l.getD k []) = true) : l.any p = true := by
  rw [List.any_eq_true]
  exact ⟨_, getD_mem h, hp⟩

theorem indexFuncV_fun (l : List (List Int)) (p : List Int → Bool) (g : FuncId) (caps : List D) (hc1 : D.idss caps = []) (hc2 : D.noRefs caps = true) (hc3 : D.nrms caps = caps)
    (hg : ∀ c ∈ l, Fun Try.prog g (.lst (ints .i16 c) :: caps) fun r => r = .v (.bool (p c))) :
    Fun Try.prog 153 [.lst (rows .i16 l), .clos (.func g) caps] fun r => ∃ z : Int, r = .v (.int .i64 z) ∧ (0 ≤ z ↔ l.any p = true) := by
  refine Fun.of_awpI Try.func153 rfl cal153 Try.ntmps153 (by simp) fun hwf => ?_
  simp only [D.wfs, D.wf, ints_length, ints_wfs, rows_length, rows_wfs, capMax, and_true, true_and] at hwf
  repeat' (first | simp only [go_sem, Ret_eq Try.results153] | fail)
  refine awpI_for l.length (fun k => (l.take k).any p = false) (fun k => [(8, .v (.int .i64 k))]) (fun _ => []) [0, 1, 7] [] _ (Weak.refl _) (by simp) ?_ ?_ ?_
  · simp only [go_sem, Ret_eq Try.results153]
  · simp only [go_sem, Ret_eq Try.results153]
  · intro k s hk hQ hs
    simp only [go_sem, Ret_eq Try.results153] at hs
    by_cases hka : k < l.length
    · have hgk := hg _ (getD_mem (d := []) hka)
      have e := anyv_take_snoc (p := p) hka
      rw [hQ, Bool.false_or] at e
      have e2 := anyv_of_take (p := p) hka
      generalize p (l.getD k []) = b at *
      cases b
      · repeat' (first | simp only [go_sem, hs, hc1, hc2, hc3, Ret_eq Try.results153] | simp (disch := omega) only [arith, IntKind.bits, capMax, fill_len, elt_fill] | (refine Again.up (by omega) ?_ ?_) | (refine opCallI_rd (by simp only [go_sem, hs, hc1, hc2, hc3, Ret_eq Try.results153]; first | done | rfl) (hgk) (by rintro _ rfl; rfl) ?_; rintro _ rfl) | fail)
        exact e
      · repeat' (first | simp only [go_sem, hs, hc1, hc2, hc3, Ret_eq Try.results153] | simp (disch := omega) only [arith, IntKind.bits, capMax, fill_len, elt_fill] | (refine opCallI_rd (by simp only [go_sem, hs, hc1, hc2, hc3, Ret_eq Try.results153]; first | done | rfl) (hgk) (by rintro _ rfl; rfl) ?_; rintro _ rfl) | fail)
        exact ⟨_, rfl, fun _ => e2 rfl, fun _ => by omega⟩
    · obtain rfl : k = l.length := by omega
      rw [List.take_length] at hQ
      repeat' (first | simp only [go_sem, hs, Ret_eq Try.results153] | simp (disch := omega) only [arith, IntKind.bits, capMax, fill_len, elt_fill] | fail)
      exact ⟨_, rfl, fun h => absurd h (by decide), fun h => by rw [hQ] at h; cases h⟩

theorem containsFuncV_fun (l : List (List Int)) (p : List Int → Bool) (g : FuncId) (caps : List D) (hc1 : D.idss caps = []) (hc2 : D.noRefs caps = true) (hc3 : D.nrms caps = caps)
    (hg : ∀ c ∈ l, Fun Try.prog g (.lst (ints .i16 c) :: caps) fun r => r = .v (.bool (p c))) :
    Fun Try.prog 123 [.lst (rows .i16 l), .clos (.func g) caps] fun r => r = .v (.bool (l.any p)) := by
  refine Fun.of_awpI Try.func123 rfl cal123 Try.ntmps123 (by simp) fun hwf => ?_
  simp only [D.wfs, D.wf, ints_length, ints_wfs, rows_length, rows_wfs, capMax, and_true, true_and] at hwf
  repeat' (first | simp only [go_sem, hc1, hc2, hc3, Ret_eq Try.results123] | (refine opCallI_gv (by simp only [go_sem, hc1, hc2, hc3, Ret_eq Try.results123]; first | done | rfl) (indexFuncV_fun l p g caps hc1 hc2 hc3 hg) ?_; rintro _ ⟨z, rfl, hz⟩) | fail)
  rw [Bool.eq_iff_iff, decide_eq_true_eq]
  omega
end Go.Proofs.Ytpkampecmlpfmaa.T

end
section
set_option linter.unusedSimpArgs false
set_option linter.unusedVariables false
/- Lists looked through, and counted; walked. -/
namespace Go.Proofs.Ytpkampecmlpfmaa.T
open Go Go.VL Go.Proofs
set_option maxRecDepth 100000
set_option maxHeartbeats 8000000
theorem any16_take {p : Int → Bool} {l : List Int} {k : Nat} (h : k < l.length) : (l.take (k + 1)).any p = ((l.take k).any p || p (l.getD k 0)) := by
  rw [take_snoc (d := 0) h, List.any_append]; simp
theorem any16_of {p : Int → Bool} {l : List Int} {k : Nat} (h : k < l.length) (hp : p (l.getD k 0) = true) : l.any p = true := by
  rw [List.any_eq_true]
  exact ⟨_, getD_mem h, hp⟩

theorem indexFunc16_fun (l : List Int) (p : Int → Bool) (g : FuncId) (hg : ∀ x : Int, Fun Try.prog g [.v (.int .i16 x)] fun r => r = .v (.bool (p x))) :
    Fun Try.prog 136 [.lst (ints .i16 l), .clos (.func g) []] fun r => ∃ z : Int, r = .v (.int .i64 z) ∧ (0 ≤ z ↔ l.any p = true) := by
  refine Fun.of_awpI Try.func136 rfl cal136 Try.ntmps136 (by simp) fun hwf => ?_
  simp only [D.wfs, D.wf, ints_length, ints_wfs, rows_length, rows_wfs, capMax, and_true, true_and] at hwf
  repeat' (first | simp only [go_sem, Ret_eq Try.results136] | fail)
  refine awpI_for l.length (fun k => (l.take k).any p = false) (fun k => [(8, .v (.int .i64 k))]) (fun _ => []) [0, 1, 7] [] _ (Weak.refl _) (by simp) ?_ ?_ ?_
  · simp only [go_sem, Ret_eq Try.results136]
  · simp only [go_sem, Ret_eq Try.results136]
  · intro k s hk hQ hs
    simp only [go_sem, Ret_eq Try.results136] at hs
    by_cases hka : k < l.length
    · have hgk := hg (l.getD k 0)
      have e := any16_take (p := p) hka
      rw [hQ, Bool.false_or] at e
      have e2 := any16_of (p := p) hka
      generalize p (l.getD k 0) = b at *
      cases b
      · repeat' (first | simp only [go_sem, hs, Ret_eq Try.results136] | simp (disch := omega) only [arith, IntKind.bits, capMax, fill_len, elt_fill] | (refine Again.up (by omega) ?_ ?_) | (refine opCallI_rd (by simp only [go_sem, hs, Ret_eq Try.results136]; first | done | rfl) (hgk) (by rintro _ rfl; rfl) ?_; rintro _ rfl) | fail)
        exact e
      · repeat' (first | simp only [go_sem, hs, Ret_eq Try.results136] | simp (disch := omega) only [arith, IntKind.bits, capMax, fill_len, elt_fill] | (refine opCallI_rd (by simp only [go_sem, hs, Ret_eq Try.results136]; first | done | rfl) (hgk) (by rintro _ rfl; rfl) ?_; rintro _ rfl) | fail)
        exact ⟨_, rfl, fun _ => e2 rfl, fun _ => by omega⟩
    · obtain rfl : k = l.length := by omega
      rw [List.take_length] at hQ
      repeat' (first | simp only [go_sem, hs, Ret_eq Try.results136] | simp (disch := omega) only [arith, IntKind.bits, capMax, fill_len, elt_fill] | fail)
      exact ⟨_, rfl, fun h => absurd h (by decide), fun h => by rw [hQ] at h; cases h⟩

theorem containsFunc16_fun (l : List Int) (p : Int → Bool) (g : FuncId) (hg : ∀ x : Int, Fun Try.prog g [.v (.int .i16 x)] fun r => r = .v (.bool (p x))) :
    Fun Try.prog 87 [.lst (ints .i16 l), .clos (.func g) []] fun r => r = .v (.bool (l.any p)) := by
  refine Fun.of_awpI Try.func87 rfl cal87 Try.ntmps87 (by simp) fun hwf => ?_
  simp only [D.wfs, D.wf, ints_length, ints_wfs, rows_length, rows_wfs, capMax, and_true, true_and] at hwf
  repeat' (first | simp only [go_sem, Ret_eq Try.results87] | (refine opCallI_gv (by simp only [go_sem, Ret_eq Try.results87]; first | done | rfl) (indexFunc16_fun l p g hg) ?_; rintro _ ⟨z, rfl, hz⟩) | fail)
  rw [Bool.eq_iff_iff, decide_eq_true_eq]
  omega

theorem count_fun (c l : List Int) (hl : l.length ≤ 60000) (hcl : c.length ≤ 60000) : Fun Try.prog 29 [.lst (ints .i16 c), .lst (ints .i16 l)] fun r => r = .tup [.lst (ints .i64 (cntOut c l)), .v (.int .i64 (cntE c l))] := by
  have hch := rankCheck_fun c
  have key : ∀ e : Int, cntE c l = e → (cntE c l = e ∧ cntOut c l = if e = 0 then cntL c l else []) := fun e h => ⟨h, by unfold cntOut; rw [h]⟩
  by_cases h1 : 4096 < l.length
  · obtain ⟨k1, k2⟩ := key 3 (if_pos h1)
    rw [k1, k2, if_neg (by decide)]
    refine Fun.of_awpI Try.func29 rfl cal29 Try.ntmps29 (by simp) fun hwf => ?_
    simp only [D.wfs, D.wf, ints_length, ints_wfs, rows_length, rows_wfs, capMax, and_true, true_and] at hwf
    repeat' (first | simp only [go_sem, Ret_eq Try.results29] | simp (disch := omega) only [arith, IntKind.bits, capMax, fill_len, elt_fill] | fail)
  · have ku : cntE c l = if cutsErr c ≠ 0 ∨ l.any oddB = true then 1 else 0 := if_neg h1
    by_cases h2 : cutsErr c = 0
    · rw [h2] at hch
      by_cases h3 : l.any oddB = true
      · obtain ⟨k1, k2⟩ := key 1 (ku.trans (if_pos (.inr h3)))
        rw [k1, k2, if_neg (by decide)]
        refine Fun.of_awpI Try.func29 rfl cal29 Try.ntmps29 (by simp) fun hwf => ?_
        simp only [D.wfs, D.wf, ints_length, ints_wfs, rows_length, rows_wfs, capMax, and_true, true_and] at hwf
        repeat' (first | simp only [go_sem, Int.toNat_natCast, Ret_eq Try.results29] | simp (disch := omega) only [arith, IntKind.bits, capMax, fill_len, elt_fill] | (refine opCallI_rd (by simp only [go_sem, Int.toNat_natCast, Ret_eq Try.results29]; first | done | rfl) (hch) (by rintro _ rfl; rfl) ?_; rintro _ rfl) | fail)
        refine awpI_for l.length (fun k => (l.take k).any oddB = false) (fun k => [(25, .v (.int .i64 k))]) (fun k => [(22, ⟨3, 1, ints .i64 (cntL c (l.take k))⟩)]) [0, 6, 23, 24] [] _ (Weak.refl _) (by simp) ?_ ?_ ?_
        · simp only [go_sem, Ret_eq Try.results29]
        · simp only [go_sem, List.take_zero, cntL_nil, Ret_eq Try.results29]
        · intro k s hk hQ hs
          simp only [go_sem, Ret_eq Try.results29] at hs
          by_cases hka : k < l.length
          · have hce := rankCell_fun c (l.getD k 0)
            have e := any16_take (p := oddB) hka
            rw [hQ, Bool.false_or] at e
            have hl2 := cntL_length (c := c) (l := l.take k)
            have hcle := cellOf_le c (l.getD k 0)
            by_cases q : -32767 ≤ l.getD k 0
            · obtain ⟨c1, c2⟩ := cell_ok h2 q
              rw [c1, c2] at hce
              have es := cntL_snoc (c := c) (l := l.take k) (x := l.getD k 0)
              rw [← take_snoc (d := 0) hka] at es
              have hb : 0 ≤ (cntL c (l.take k)).getD (cellOf c (l.getD k 0)) 0 ∧ (cntL c (l.take k)).getD (cellOf c (l.getD k 0)) 0 ≤ 60000 := by
                rw [cntL_at (by omega)]
                have := List.countP_le_length (p := fun x => cellOf c x == cellOf c (l.getD k 0)) (l := l.take k)
                rw [List.length_take] at this
                omega
              have hob : oddB (l.getD k 0) = false := by unfold oddB; exact decide_eq_false (by omega)
              repeat' (first | simp only [go_sem, hs, hl2, es, Ret_eq Try.results29] | simp (disch := omega) only [arith, IntKind.bits, capMax, fill_len, elt_fill] | (refine Again.up (by omega) ?_ ?_) | (refine opCallI_rd (by simp only [go_sem, hs, hl2, es, Ret_eq Try.results29]; first | done | rfl) (hce) (by rintro _ rfl; rfl) ?_; rintro _ rfl) | fail)
              rw [e, hob]
            · obtain ⟨c1, c2⟩ := cell_bad (c := c) (x := l.getD k 0) (fun z => q z.2)
              rw [c1, c2] at hce
              repeat' (first | simp only [go_sem, hs, ints_nil, Ret_eq Try.results29] | simp (disch := omega) only [arith, IntKind.bits, capMax, fill_len, elt_fill] | (refine opCallI_rd (by simp only [go_sem, hs, ints_nil, Ret_eq Try.results29]; first | done | rfl) (hce) (by rintro _ rfl; rfl) ?_; rintro _ rfl) | fail)
          · obtain rfl : k = l.length := by omega
            rw [List.take_length, h3] at hQ
            cases hQ
      · have h3' : l.any oddB = false := by simpa using h3
        obtain ⟨k1, k2⟩ := key 0 (ku.trans (if_neg (fun z => z.elim (fun z => z h2) h3)))
        rw [k1, k2, if_pos rfl]
        refine Fun.of_awpI Try.func29 rfl cal29 Try.ntmps29 (by simp) fun hwf => ?_
        simp only [D.wfs, D.wf, ints_length, ints_wfs, rows_length, rows_wfs, capMax, and_true, true_and] at hwf
        repeat' (first | simp only [go_sem, Int.toNat_natCast, Ret_eq Try.results29] | simp (disch := omega) only [arith, IntKind.bits, capMax, fill_len, elt_fill] | (refine opCallI_rd (by simp only [go_sem, Int.toNat_natCast, Ret_eq Try.results29]; first | done | rfl) (hch) (by rintro _ rfl; rfl) ?_; rintro _ rfl) | fail)
        refine awpI_for l.length (fun k => True) (fun k => [(25, .v (.int .i64 k))]) (fun k => [(22, ⟨3, 1, ints .i64 (cntL c (l.take k))⟩)]) [0, 6, 23, 24] [] _ (Weak.refl _) trivial ?_ ?_ ?_
        · simp only [go_sem, Ret_eq Try.results29]
        · simp only [go_sem, List.take_zero, cntL_nil, Ret_eq Try.results29]
        · intro k s hk _ hs
          simp only [go_sem, Ret_eq Try.results29] at hs
          have hl2 := cntL_length (c := c) (l := l.take k)
          by_cases hka : k < l.length
          · have hce := rankCell_fun c (l.getD k 0)
            have hcle := cellOf_le c (l.getD k 0)
            have q : -32767 ≤ l.getD k 0 := by
              have := List.any_eq_false.1 h3' _ (getD_mem (d := 0) hka)
              unfold oddB at this
              rw [decide_eq_true_eq] at this; omega
            obtain ⟨c1, c2⟩ := cell_ok h2 q
            rw [c1, c2] at hce
            have es := cntL_snoc (c := c) (l := l.take k) (x := l.getD k 0)
            rw [← take_snoc (d := 0) hka] at es
            have hb : 0 ≤ (cntL c (l.take k)).getD (cellOf c (l.getD k 0)) 0 ∧ (cntL c (l.take k)).getD (cellOf c (l.getD k 0)) 0 ≤ 60000 := by
              rw [cntL_at (by omega)]
              have := List.countP_le_length (p := fun x => cellOf c x == cellOf c (l.getD k 0)) (l := l.take k)
              rw [List.length_take] at this
              omega
            repeat' (first | simp only [go_sem, hs, hl2, es, Ret_eq Try.results29] | simp (disch := omega) only [arith, IntKind.bits, capMax, fill_len, elt_fill] | (refine Again.up (by omega) ?_ ?_) | (refine opCallI_rd (by simp only [go_sem, hs, hl2, es, Ret_eq Try.results29]; first | done | rfl) (hce) (by rintro _ rfl; rfl) ?_; rintro _ rfl) | fail)
          · obtain rfl : k = l.length := by omega
            rw [List.take_length] at hs
            have hl3 := cntL_length (c := c) (l := l)
            have ht : (cntL c l).take (c.length + 1) = cntL c l := List.take_of_length_le (by omega)
            repeat' (first | simp only [go_sem, hs, hl3, ht, Ret_eq Try.results29] | simp (disch := omega) only [arith, IntKind.bits, capMax, fill_len, elt_fill] | fail)
    · obtain ⟨k1, k2⟩ := key 1 (ku.trans (if_pos (.inl h2)))
      rw [k1, k2, if_neg (by decide)]
      have h2' : cutsErr c = 1 := cutsErr_one (fun z => h2 (cutsErr_zero.2 z))
      rw [h2'] at hch
      refine Fun.of_awpI Try.func29 rfl cal29 Try.ntmps29 (by simp) fun hwf => ?_
      simp only [D.wfs, D.wf, ints_length, ints_wfs, rows_length, rows_wfs, capMax, and_true, true_and] at hwf
      repeat' (first | simp only [go_sem, Ret_eq Try.results29] | simp (disch := omega) only [arith, IntKind.bits, capMax, fill_len, elt_fill] | (refine opCallI_rd (by simp only [go_sem, Ret_eq Try.results29]; first | done | rfl) (hch) (by rintro _ rfl; rfl) ?_; rintro _ rfl) | fail)
end Go.Proofs.Ytpkampecmlpfmaa.T

end
section
set_option linter.unusedSimpArgs false
set_option linter.unusedVariables false
/- Where a list is cut, walked over what slices.Sorted does. -/
namespace Go.Proofs.Ytpkampecmlpfmaa.T
open Go Go.VL Go.Proofs
set_option maxRecDepth 100000
set_option maxHeartbeats 8000000

theorem values16_fun (l : List Int) : Fun Try.prog 90 [.lst (ints .i16 l)] fun r => r = .clos (.func 139) [.ptr (.lst (ints .i16 l))] := by
  refine Fun.of_awpI Try.func90 rfl cal90 Try.ntmps90 (by simp) fun hwf => ?_
  simp only [D.wfs, D.wf, ints_length, ints_wfs, rows_length, rows_wfs, capMax, and_true, true_and] at hwf
  repeat' (first | simp only [go_sem, Ret_eq Try.results90] | fail)
def Sorted16 : Prop := ∀ l : List Int, 1 ≤ l.length → l.length ≤ 60000 → FunO Try.prog 89 [.clos (.func 139) [.ptr (.lst (ints .i16 l))]] fun r o => r = .ref 0 l.length ∧ o = some ⟨23, 1, ints .i16 (sortI l)⟩
theorem fill_cuts {l : List Int} {n : Nat} : fill (fun i => (sortI l).getD ((i + 1) * l.length / n) 0) (List.replicate (n - 1) 0) (n - 1) = cutsL l n := by
  have := fill_all (f := fun i => (sortI l).getD ((i + 1) * l.length / n) 0) (a := List.replicate (n - 1) 0)
  rw [List.length_replicate] at this
  exact this

theorem rkCuts_fun (hS : Sorted16) (l : List Int) (cells : Int) (hl : l.length ≤ 60000) : Fun Try.prog 25 [.lst (ints .i16 l), .v (.int .i64 cells)] fun r => r = .tup [.lst (ints .i16 (rkOut l cells)), .v (.int .i64 (rkE l cells))] := by
  have hcf := containsFunc16_fun l oddB 88 (fun x => rankOdd_fun x)
  by_cases h : rkE l cells = 0
  · have e1 : rkOut l cells = cutsL l cells.toNat := if_pos h
    rw [e1, h]
    obtain ⟨h1, ⟨h2, h3⟩, h4, h5⟩ := rkE_zero.1 h
    obtain ⟨n, rfl⟩ := Int.eq_ofNat_of_zero_le (show 0 ≤ cells by omega)
    rw [Int.toNat_natCast]
    rw [h4] at hcf
    have hv := values16_fun l
    have hso := hS l h5 hl
    have hsl := sortI_length l
    have en : (n : Int) - 1 = ((n - 1 : Nat) : Int) := by omega
    have hne : ((l.length : Int) == 0) = false := beq_eq_false_iff_ne.2 (by omega)
    refine Fun.of_awpI Try.func25 rfl cal25 Try.ntmps25 (by simp) fun hwf => ?_
    simp only [D.wfs, D.wf, ints_length, ints_wfs, rows_length, rows_wfs, capMax, and_true, true_and] at hwf
    repeat' (first | simp only [go_sem, en, hne, Int.toNat_natCast, Ret_eq Try.results25] | simp (disch := omega) only [arith, IntKind.bits, capMax, fill_len, elt_fill] | (refine opCallI_rd (by simp only [go_sem, en, hne, Int.toNat_natCast, Ret_eq Try.results25]; first | done | rfl) (hcf) (by rintro _ rfl; rfl) ?_; rintro _ rfl) | (refine opCallI_gv (by simp only [go_sem, en, hne, Int.toNat_natCast, Ret_eq Try.results25]; first | done | rfl) (hv) ?_; rintro _ rfl) | (refine opCallI_ownGv (by simp only [go_sem, en, hne, Int.toNat_natCast, Ret_eq Try.results25]; first | done | rfl) (hso) ?_; rintro _ _ ⟨rfl, rfl⟩) | fail)
    refine awpI_for (n - 1) (fun k => True) (fun k => [(36, .v (.int .i64 k))]) (fun k => [(33, ⟨23, 1, ints .i16 (fill (fun i => (sortI l).getD ((i + 1) * l.length / n) 0) (List.replicate (n - 1) 0) k)⟩)]) [0, 1, 6, 7, 35] [30] _ (Weak.refl _) trivial ?_ ?_ ?_
    · simp only [go_sem, Ret_eq Try.results25]
    · simp only [go_sem, fill_zero, Ret_eq Try.results25]
    · intro k s hk _ hs
      simp only [go_sem, Ret_eq Try.results25] at hs
      by_cases hka : k < n - 1
      · have hlt := cutsL_idx (l := l) hka h5
        have e2 := fill_set (f := fun i => (sortI l).getD ((i + 1) * l.length / n) 0) (a := List.replicate (n - 1) 0) (k := k) (by simpa using hka)
        have el : (fill (fun i => (sortI l).getD ((i + 1) * l.length / n) 0) (List.replicate (n - 1) 0) k).length = n - 1 := by rw [fill_len (by simp; omega)]; simp
        have em : ((k + 1 : Nat) : Int) * (l.length : Int) = (((k + 1) * l.length : Nat) : Int) := (Int.natCast_mul _ _).symm
        have hmb : (k + 1) * l.length ≤ 16 * 4096 := Nat.mul_le_mul (by omega) h1
        have ed : (((k + 1) * l.length : Nat) : Int) / (n : Int) = (((k + 1) * l.length / n : Nat) : Int) := (Int.natCast_ediv _ _).symm
        have edt : (((k + 1) * l.length : Nat) : Int).tdiv (n : Int) = (((k + 1) * l.length / n : Nat) : Int) := by rw [Int.tdiv_eq_ediv_of_nonneg (by omega)]; exact ed
        obtain ⟨q, hq⟩ : ∃ q, (k + 1) * l.length / n = q := ⟨_, rfl⟩
        rw [hq] at e2 hlt ed edt
        repeat' (first | simp only [go_sem, hs, em, ed, edt, hsl, el, e2, Ret_eq Try.results25] | simp (disch := omega) only [arith, IntKind.bits, capMax, fill_len, elt_fill] | (refine Again.up (by omega) ?_ ?_) | fail)
      · obtain rfl : k = n - 1 := by omega
        rw [fill_cuts] at hs
        have hcl := cutsL_length (l := l) (n := n)
        have ht : (cutsL l n).take (n - 1) = cutsL l n := List.take_of_length_le (by omega)
        repeat' (first | simp only [go_sem, hs, hcl, ht, Ret_eq Try.results25] | simp (disch := omega) only [arith, IntKind.bits, capMax, fill_len, elt_fill] | fail)
  · have e1 : rkOut l cells = [] := if_neg h
    rw [e1]
    by_cases h1 : 4096 < l.length
    · rw [show rkE l cells = 3 from if_pos h1]
      refine Fun.of_awpI Try.func25 rfl cal25 Try.ntmps25 (by simp) fun hwf => ?_
      simp only [D.wfs, D.wf, ints_length, ints_wfs, rows_length, rows_wfs, capMax, and_true, true_and] at hwf
      repeat' (first | simp only [go_sem, ints_nil, Ret_eq Try.results25] | simp (disch := omega) only [arith, IntKind.bits, capMax, fill_len, elt_fill] | fail)
    · by_cases h2 : ¬ (1 ≤ cells ∧ cells ≤ 16) ∨ l.any oddB = true
      · rw [show rkE l cells = 1 from (if_neg h1).trans (if_pos h2)]
        by_cases q1 : 1 ≤ cells
        · by_cases q2 : cells ≤ 16
          · have q3 : l.any oddB = true := h2.resolve_left (fun z => z ⟨q1, q2⟩)
            rw [q3] at hcf
            refine Fun.of_awpI Try.func25 rfl cal25 Try.ntmps25 (by simp) fun hwf => ?_
            simp only [D.wfs, D.wf, ints_length, ints_wfs, rows_length, rows_wfs, capMax, and_true, true_and] at hwf
            repeat' (first | simp only [go_sem, ints_nil, Ret_eq Try.results25] | simp (disch := omega) only [arith, IntKind.bits, capMax, fill_len, elt_fill] | (refine opCallI_rd (by simp only [go_sem, ints_nil, Ret_eq Try.results25]; first | done | rfl) (hcf) (by rintro _ rfl; rfl) ?_; rintro _ rfl) | fail)
          · skip
            refine Fun.of_awpI Try.func25 rfl cal25 Try.ntmps25 (by simp) fun hwf => ?_
            simp only [D.wfs, D.wf, ints_length, ints_wfs, rows_length, rows_wfs, capMax, and_true, true_and] at hwf
            repeat' (first | simp only [go_sem, ints_nil, Ret_eq Try.results25] | simp (disch := omega) only [arith, IntKind.bits, capMax, fill_len, elt_fill] | fail)
        · skip
          refine Fun.of_awpI Try.func25 rfl cal25 Try.ntmps25 (by simp) fun hwf => ?_
          simp only [D.wfs, D.wf, ints_length, ints_wfs, rows_length, rows_wfs, capMax, and_true, true_and] at hwf
          repeat' (first | simp only [go_sem, ints_nil, Ret_eq Try.results25] | simp (disch := omega) only [arith, IntKind.bits, capMax, fill_len, elt_fill] | fail)
      · have h3 : (1 ≤ cells ∧ cells ≤ 16) ∧ l.any oddB = false := ⟨Classical.byContradiction fun q => h2 (.inl q), by
          cases e : l.any oddB with
          | false => rfl
          | true => exact absurd (.inr e) h2⟩
        obtain ⟨⟨h4, h5⟩, h6⟩ := h3
        rw [h6] at hcf
        have h7 : l.length = 0 := Classical.byContradiction fun q => h (rkE_zero.2 ⟨by omega, ⟨h4, h5⟩, h6, by omega⟩)
        rw [show rkE l cells = 5 from ((if_neg h1).trans (if_neg h2)).trans (if_pos h7)]
        refine Fun.of_awpI Try.func25 rfl cal25 Try.ntmps25 (by simp) fun hwf => ?_
        simp only [D.wfs, D.wf, ints_length, ints_wfs, rows_length, rows_wfs, capMax, and_true, true_and] at hwf
        repeat' (first | simp only [go_sem, ints_nil, h7, beq_self_eq_true, Ret_eq Try.results25] | simp (disch := omega) only [arith, IntKind.bits, capMax, fill_len, elt_fill] | (refine opCallI_rd (by simp only [go_sem, ints_nil, h7, beq_self_eq_true, Ret_eq Try.results25]; first | done | rfl) (hcf) (by rintro _ rfl; rfl) ?_; rintro _ rfl) | fail)
end Go.Proofs.Ytpkampecmlpfmaa.T

end
section
set_option linter.unusedSimpArgs false
set_option linter.unusedVariables false
/- A book's text, written and read, plainly. -/
namespace Go.Proofs.Ytpkampecmlpfmaa.T
open Go Go.VL Go.Proofs
theorem i16_fits {x : Int} (h : -32768 ≤ x ∧ x ≤ 32767) : putFit 2 x = true := by
  have e : (2 : Int) ^ (8 * 2 - 1) = 32768 := by decide
  refine (putFit_iff (w := 2) (by omega) (by decide)).2 ?_
  rw [e]; omega
theorem i64_fits {x : Int} (h : -9223372036854775808 ≤ x ∧ x ≤ 9223372036854775807) : putFit 8 x = true := by
  have e : (2 : Int) ^ (8 * 8 - 1) = 9223372036854775808 := by decide
  refine (putFit_iff (w := 8) h (by decide)).2 ?_
  rw [e]; omega
theorem all_flat {p : Int → Bool} : ∀ {c : List (List Int)}, (∀ x ∈ c, ∀ n ∈ x, p n = true) → c.flatten.all p = true := by
  intro c h
  rw [List.all_eq_true]
  intro n hn
  obtain ⟨x, hx, hn⟩ := List.mem_flatten.1 hn
  exact h x hx n hn
theorem many_le {w : Int} {cuts : List (List Int)} (h : bookErr w cuts = 0) : (1 ≤ cuts.length ∧ cuts.length ≤ 64) ∧ manyOf cuts ≤ 15 := ⟨⟨(bookErr_zero.1 h).1, (bookErr_zero.1 h).2.1⟩, book_many h⟩
theorem flat_len {w : Int} {cuts : List (List Int)} (h : bookErr w cuts = 0) : cuts.flatten.length = cuts.length * manyOf cuts := flat_length fun x hx => (book_rows h x hx).1
theorem txt_length {w : Int} {cuts : List (List Int)} (h : bookErr w cuts = 0) : (bookTxt w cuts).length = 10 + 2 * (cuts.length * manyOf cuts) := by
  unfold bookTxt
  rw [List.length_append, List.length_append, octs_length, flat_octs_length, flat_len h]; rfl
theorem txt_octets {w : Int} {cuts : List (List Int)} (h : bookErr w cuts = 0) : Octets (bookTxt w cuts) := by
  unfold bookTxt
  refine Octets.append (Octets.append (octs_octets _ _) ?_) (octs_all_octets _ _)
  have := many_le h
  intro c hc
  simp only [List.mem_cons, List.not_mem_nil, or_false] at hc
  omega
theorem txt_at {w : Int} {cuts : List (List Int)} : (bookTxt w cuts).getD 8 0 = cuts.length ∧ (bookTxt w cuts).getD 9 0 = manyOf cuts ∧ (bookTxt w cuts).drop 10 = cuts.flatten.flatMap (octs 2) := by
  have h8 : (octs 8 w).length = 8 := octs_length
  unfold bookTxt
  refine ⟨?_, ?_, ?_⟩
  · rw [List.append_assoc]
    simp only [List.getD]
    rw [List.getElem?_append_right (by omega), h8]; rfl
  · rw [List.append_assoc]
    simp only [List.getD]
    rw [List.getElem?_append_right (by omega), h8]; rfl
  · exact List.drop_left' (by rw [List.length_append, h8]; rfl)
theorem txt_back {w : Int} {cuts : List (List Int)} (h : bookErr w cuts = 0) (hw : -9223372036854775808 ≤ w ∧ w ≤ 9223372036854775807) (hr : I16r cuts) : fromOk (bookTxt w cuts) ∧ wayT (bookTxt w cuts) = w ∧ cutsT (bookTxt w cuts) = cuts := by
  obtain ⟨e1, e2, e3⟩ := txt_at (w := w) (cuts := cuts)
  have hd : dimT (bookTxt w cuts) = cuts.length := by unfold dimT; rw [e1]; rfl
  have hm : mnyT (bookTxt w cuts) = manyOf cuts := by unfold mnyT; rw [e2]; rfl
  have hway : wayT (bookTxt w cuts) = w := by
    unfold wayT bookTxt
    rw [List.append_assoc]
    refine takeNum_octs (w := 8) hw (by decide) (i64_fits hw) ?_
    have := txt_octets h
    unfold bookTxt at this
    rw [List.append_assoc] at this
    exact fun c hc => this c (List.mem_append_right _ hc)
  have hn : numsT (bookTxt w cuts) = cuts.flatten := by
    unfold numsT
    rw [hd, hm, e3, ← flat_len h]
    have := takeNums_octs (w := 2) (by decide) (r := []) (fun c hc => by cases hc) (l := cuts.flatten) (fun n hn => by
      obtain ⟨x, hx, hn⟩ := List.mem_flatten.1 hn
      have := hr x hx n hn
      omega) (all_flat fun x hx n hn => i16_fits (hr x hx n hn))
    rw [List.append_nil] at this
    exact this
  have hc : cutsT (bookTxt w cuts) = cuts := by
    unfold cutsT
    rw [hd, hm, hn]
    have := cuts_of_flat (m := manyOf cuts) cuts [] 0 (fun x hx => (book_rows h x hx).1) (by simp)
    simpa using this
  refine ⟨⟨by rw [txt_length h]; omega, by rw [txt_length h, hd, hm], by rw [hway, hc]; exact h⟩, hway, hc⟩
theorem back_txt {t : List Int} (ho : Octets t) (h : fromOk t) : bookTxt (wayT t) (cutsT t) = t := by
  obtain ⟨h1, h2, h3⟩ := h
  have hb := many_le h3
  have hd : (cutsT t).length = dimT t := cutsT_length
  have hm : manyOf (cutsT t) = mnyT t := by
    have := getD_mem (a := cutsT t) (d := []) (k := 0) (by omega)
    unfold cutsT at this
    obtain ⟨i, _, hi⟩ := List.mem_map.1 this
    show ((cutsT t).getD 0 []).length = _
    unfold cutsT
    rw [← hi]; exact cutT_length
  have o8 := (ho (t.getD 8 0) (getD_mem (by omega)))
  have o9 := (ho (t.getD 9 0) (getD_mem (by omega)))
  have e8 : ((cutsT t).length : Int) = t.getD 8 0 := by rw [hd]; unfold dimT; omega
  have e9 : (manyOf (cutsT t) : Int) = t.getD 9 0 := by rw [hm]; unfold mnyT; omega
  obtain ⟨f1, f2, f3⟩ := octs_takeNum (w := 8) (bs := t) (by decide) ho (by omega)
  unfold bookTxt
  rw [e8, e9, cutsT_flat]
  have f1' : octs 8 (wayT t) = t.take 8 := f1
  rw [f1']
  obtain ⟨g1, _⟩ := flat_takeNums (w := 2) (by decide) (dimT t * mnyT t) (bs := t.drop 10) (fun c hc => ho c (List.mem_of_mem_drop hc)) (by rw [List.length_drop]; omega)
  have g1' : (numsT t).flatMap (octs 2) = t.drop 10 := by
    unfold numsT
    refine g1.trans (List.take_of_length_le (by rw [List.length_drop]; omega))
  rw [g1']
  have t8 : t.drop 8 = t.getD 8 0 :: t.drop 9 := by rw [List.drop_eq_getElem_cons (by omega)]; simp [List.getD, show 8 < t.length by omega]
  have t9 : t.drop 9 = t.getD 9 0 :: t.drop 10 := by rw [List.drop_eq_getElem_cons (by omega)]; simp [List.getD, show 9 < t.length by omega]
  have g2 : t.take 8 ++ [t.getD 8 0, t.getD 9 0] ++ t.drop 10 = t.take 8 ++ t.drop 8 := by rw [t8, t9]; simp
  rw [g2]; exact List.take_append_drop 8 t
theorem plainCut_range {cells : Int} {k : Nat} (h : 1 ≤ cells ∧ cells ≤ 16) (hk : (k : Int) + 1 < cells) : -32767 ≤ plainCut cells k ∧ plainCut cells k ≤ 32767 := by
  unfold plainCut
  have h1 : ((k : Int) + 1) * 65536 / cells ≤ 65535 := by
    have : ((k : Int) + 1) * 65536 / cells < 65536 := Int.ediv_lt_of_lt_mul (by omega) (by omega)
    omega
  have h2 : 1 ≤ ((k : Int) + 1) * 65536 / cells := by rw [Int.le_ediv_iff_mul_le (by omega)]; omega
  omega
theorem plainCut_mono {cells : Int} {j k : Nat} (h : 1 ≤ cells) (hjk : j ≤ k) : plainCut cells j ≤ plainCut cells k := by
  unfold plainCut
  have := Int.ediv_le_ediv (c := cells) (by omega) (show ((j : Int) + 1) * 65536 ≤ ((k : Int) + 1) * 65536 by omega)
  omega
theorem plainRow_getD {cells : Int} {i : Nat} (h : i < (cells - 1).toNat) : (plainRow cells).getD i 0 = plainCut cells i := by
  have h2 : i < cells.toNat - 1 := by omega
  simp [plainRow, List.getD, h2]
theorem plainRow_ok {cells : Int} (h : 1 ≤ cells ∧ cells ≤ 16) : cutsErr (plainRow cells) = 0 := by
  have hl : (plainRow cells).length = (cells - 1).toNat := by simp [plainRow]
  rw [cutsErr_zero]
  refine ⟨by omega, fun i hi => ?_, fun h0 => ?_⟩
  · rw [plainRow_getD (by omega), plainRow_getD (by omega)]
    exact plainCut_mono h.1 (by omega)
  · rw [plainRow_getD (by omega)]
    exact (plainCut_range h (by omega)).1
theorem plain_ok {dim cells : Int} (h : sizesOk dim cells) : bookErr 0 (plainC dim cells) = 0 ∧ (manyOf (plainC dim cells) : Int) = cells - 1 ∧ ((plainC dim cells).length : Int) = dim := by
  have e : plainC dim cells = List.replicate dim.toNat (plainRow cells) := if_pos h
  obtain ⟨h1, h2⟩ := h
  have hl : (plainRow cells).length = (cells - 1).toNat := by simp [plainRow]
  have hm : manyOf (plainC dim cells) = (cells - 1).toNat := by
    rw [e]; unfold manyOf
    rw [show dim.toNat = (dim.toNat - 1) + 1 by omega, List.replicate_succ]; exact hl
  refine ⟨?_, by rw [hm]; omega, by rw [e, List.length_replicate]; omega⟩
  rw [bookErr_zero]
  refine ⟨by rw [e, List.length_replicate]; omega, by rw [e, List.length_replicate]; omega, by decide, ?_⟩
  rw [List.any_eq_false]
  intro c hc
  rw [e] at hc
  rw [List.eq_of_mem_replicate hc, hm]
  unfold oddCut
  rw [plainRow_ok h2, hl]
  simp
theorem plain_i16 {dim cells : Int} : I16r (plainC dim cells) := by
  intro c hc
  unfold plainC at hc
  split at hc
  · rename_i h
    rw [List.eq_of_mem_replicate hc]
    intro x hx
    obtain ⟨k, hk, rfl⟩ := List.mem_map.1 hx
    have := plainCut_range h.2 (k := k) (by have := List.mem_range.1 hk; omega)
    omega
  · cases hc
theorem size_plain {dim cells : Int} (h : sizesOk dim cells) : ((bookTxt 0 (plainC dim cells)).length : Int) = sizeV dim cells := by
  obtain ⟨h1, h2, h3⟩ := plain_ok h
  rw [txt_length h1]
  unfold sizeV
  rw [if_pos h, ← h2, ← h3]
  grind
end Go.Proofs.Ytpkampecmlpfmaa.T

end
section
set_option linter.unusedSimpArgs false
set_option linter.unusedVariables false
/- Lists of cuts that are filled row by row. -/
namespace Go.Proofs.Ytpkampecmlpfmaa.T
open Go Go.VL Go.Proofs
set_option maxRecDepth 100000
set_option maxHeartbeats 4000000
theorem AgainB_frz {n : Nat} {Q : Nat → Prop} {V : Nat → List (Nat × D)} {W : Nat → List (Nat × Own)} {keep hkeep : List Nat} {s0 : St} {k : Nat} {s : St} (id : Nat) (o : Own) (ho : s.H id = some o) (hn : D.noRefs o.els = true) (hw : o.els.all (fun d => d.width == o.S) = true) (h : k < n) (hQ : Q (k + 1))
    (hs : AtL V W keep hkeep s0 (k + 1) (s.frozen id (D.nrms o.els))) : @AgI s ⟨AgainW (fun k => n - k) (fun k => k ≤ n ∧ Q k) V W keep hkeep s0 k⟩ :=
  AgainW.weak (k + 1) (Weak.freeze ho hn hw) (by show n - (k + 1) < n - k; omega) ⟨h, hQ⟩ hs
def nils (m : Nat) : List D := List.replicate m (.v (.slice none 0 0))
def tab (A : List (List Int)) (m : Nat) : List D := rows .i16 A ++ nils m
def tabR (A : List (List Int)) (id len m : Nat) : List D := rows .i16 A ++ .ref id len :: nils m
def tabA (A : List (List Int)) (m : Nat) : List D := rows .i16 A ++ .any :: nils m
theorem nils_length {m : Nat} : (nils m).length = m := by simp [nils]
theorem tab_zero {m : Nat} : List.replicate m (D.v (.slice none 0 0)) = tab [] m := by simp [tab, nils, rows]
theorem tab_length {A : List (List Int)} {m : Nat} : (tab A m).length = A.length + m := by simp [tab, nils, rows]
theorem tabR_length {A : List (List Int)} {id len m : Nat} : (tabR A id len m).length = A.length + (m + 1) := by simp [tabR, nils, rows]
theorem tabA_length {A : List (List Int)} {m : Nat} : (tabA A m).length = A.length + (m + 1) := by simp [tabA, nils, rows]
theorem tab_get {A : List (List Int)} {m : Nat} : (tab A (m + 1))[A.length]? = some (.v (.slice none 0 0)) := by simp [tab, nils, rows, List.replicate_succ]
theorem tab_set {A : List (List Int)} {id len m : Nat} : (tab A (m + 1)).set A.length (.ref id len) = tabR A id len m := by
  have : (rows .i16 A).length = A.length := by simp [rows]
  unfold tab tabR
  rw [← this, List.set_append_right _ _ (Nat.le_refl _), Nat.sub_self]
  simp [nils, List.replicate_succ]
theorem tabA_set {A : List (List Int)} {id len m : Nat} : (tabA A m).set A.length (.ref id len) = tabR A id len m := by
  have : (rows .i16 A).length = A.length := by simp [rows]
  unfold tabA tabR
  rw [← this, List.set_append_right _ _ (Nat.le_refl _), Nat.sub_self]
  simp
theorem tabR_get {A : List (List Int)} {id len m : Nat} : (tabR A id len m)[A.length]? = some (.ref id len) := by
  have : (rows .i16 A).length = A.length := by simp [rows]
  unfold tabR
  rw [← this, List.getElem?_append_right (Nat.le_refl _), Nat.sub_self]
  rfl
theorem tabA_get {A : List (List Int)} {m : Nat} : (tabA A m)[A.length]? = some .any := by
  have : (rows .i16 A).length = A.length := by simp [rows]
  unfold tabA
  rw [← this, List.getElem?_append_right (Nat.le_refl _), Nat.sub_self]
  rfl
theorem tab_end {A : List (List Int)} : tab A 0 = rows .i16 A := by simp [tab, nils]
theorem nils_kills {m id : Nat} : D.kills id (nils m) = nils m := by simp [nils, D.kills_eq_map, D.kill]
theorem nils_frzs {m id : Nat} {els : List D} : D.frzs id els (nils m) = nils m := by simp [nils, D.frzs_eq, D.frz]
theorem tab_kills {A : List (List Int)} {m id : Nat} : D.kills id (tab A m) = tab A m := by
  unfold tab
  rw [D.kills_eq_map, List.map_append, ← D.kills_eq_map, ← D.kills_eq_map, nils_kills, rows_kills]
theorem tabR_kills {A : List (List Int)} {m id len : Nat} : D.kills id (tabR A id len m) = tabA A m := by
  unfold tabR tabA
  rw [D.kills_eq_map, List.map_append, ← D.kills_eq_map, rows_kills, List.map_cons, ← D.kills_eq_map, nils_kills]
  simp [D.kill]
theorem tabR_frzs {A : List (List Int)} {id m : Nat} {l : List Int} : D.frzs id (ints .i16 l) (tabR A id l.length m) = tab (A ++ [l]) m := by
  unfold tab tabR
  rw [D.frzs_eq, List.map_append, ← D.frzs_eq, rows_frzs, List.map_cons, ← D.frzs_eq, nils_frzs]
  have : (D.ref id l.length).frz id (ints .i16 l) = .lst (ints .i16 l) := by
    simp only [D.frz, if_true]
    rw [if_pos (by simp [ints])]
    congr 1
    exact List.take_of_length_le (by simp [ints])
  rw [this]
  simp [rows]
theorem nils_idss {m : Nat} : D.idss (nils m) = [] := by
  unfold nils
  induction m with
  | zero => rfl
  | succ m ih => rw [List.replicate_succ]; show _ ++ _ = _; rw [ih]; rfl
theorem idss_app : ∀ (a b : List D), D.idss (a ++ b) = D.idss a ++ D.idss b
  | [], b => rfl
  | x :: a, b => by rw [List.cons_append]; show _ ++ D.idss (a ++ b) = (_ ++ D.idss a) ++ _; rw [idss_app a b, List.append_assoc]
theorem tab_idss {A : List (List Int)} {m : Nat} : D.idss (tab A m) = [] := by unfold tab; rw [idss_app, rows_idss, nils_idss]; rfl
theorem tabR_idss {A : List (List Int)} {id len m : Nat} : D.idss (tabR A id len m) = [id] := by
  unfold tabR; rw [idss_app, rows_idss]
  show [] ++ ([id] ++ D.idss (nils m)) = _
  rw [nils_idss]; rfl
theorem tab_noRefs {A : List (List Int)} {m : Nat} : D.noRefs (tab A m) = true := by
  unfold tab nils
  rw [D.noRefs_eq, List.all_append, ← D.noRefs_eq, rows_noRefs]
  simp [D.noRef]
theorem tab_width1 {A : List (List Int)} {m : Nat} : (tab A m).all (fun d => d.width == 1) = true := by
  unfold tab nils
  rw [List.all_append, rows_width1]
  simp [D.width]
theorem tab_nrms {A : List (List Int)} {m : Nat} : D.nrms (tab A m) = rows .i16 (A ++ List.replicate m []) := by
  unfold tab nils
  rw [D.nrms_eq, List.map_append, ← D.nrms_eq, rows_nrms]
  simp [D.nrm, nilV, rows, ints]
attribute [go_sem] tab_idss tabR_idss tab_noRefs tab_width1 tab_nrms tab_zero tab_length tabR_length tabA_length tab_kills tabR_kills
theorem nums_i16 : ∀ (k : Nat) {bs : List Int}, Octets bs → 2 * k ≤ bs.length → ∀ x ∈ takeNums 2 k bs, -32768 ≤ x ∧ x ≤ 32767
  | 0, _, _, _, x, h => by cases h
  | k + 1, bs, ho, hl, x, h => by
    rw [takeNums] at h
    rcases List.mem_cons.1 h with rfl | h
    · have e := takeNum_eq (w := 2) (bs := bs) (by decide) ho (by omega)
      have hv := val_range (ho.take 2)
      rw [List.length_take, show min 2 bs.length = 2 by omega] at hv
      have := sgn_range (w := 2) (v := val (bs.take 2)) (by decide) (by omega)
      have e2 : (2 : Int) ^ (8 * 2 - 1) = 32768 := by decide
      rw [e2] at this
      have e3 : takeNum 2 bs = sgn 2 (val (bs.take 2)) := e
      rw [e3]; omega
    · refine nums_i16 k (ho.drop 2) (by rw [List.length_drop]; omega) x ?_
      simpa using h
theorem cutT_fill {l : List Int} {m i : Nat} : fill (fun j => l.getD (i * m + j) 0) (List.replicate m 0) m = cutT l m i := by
  have := fill_all (f := fun j => l.getD (i * m + j) 0) (a := List.replicate m 0)
  rw [List.length_replicate] at this
  exact this
theorem numsT_length {t : List Int} : (numsT t).length = dimT t * mnyT t := takeNums_length _ _ _
theorem cutsT_snoc {t : List Int} {k : Nat} (h : k < dimT t) : (cutsT t).take (k + 1) = (cutsT t).take k ++ [cutT (numsT t) (mnyT t) k] := by
  rw [take_snoc (d := []) (by rw [cutsT_length]; exact h)]
  congr 2
  unfold cutsT
  exact getD_map_range h
end Go.Proofs.Ytpkampecmlpfmaa.T

end
section
set_option linter.unusedSimpArgs false
set_option linter.unusedVariables false
/- A book of a sample, walked. -/
namespace Go.Proofs.Ytpkampecmlpfmaa.T
open Go Go.VL Go.Proofs
set_option maxRecDepth 100000
set_option maxHeartbeats 4000000
theorem tab_setL {A : List (List Int)} {l : List Int} {m : Nat} : (tab A (m + 1)).set A.length (.lst (ints .i16 l)) = tab (A ++ [l]) m := by
  have : (rows .i16 A).length = A.length := by simp [rows]
  unfold tab
  rw [← this, List.set_append_right _ _ (Nat.le_refl _), Nat.sub_self]
  simp [nils, rows, List.replicate_succ]
theorem okTo_tab {base m : Nat} : ∀ {A : List (List Int)}, okTos base (tab A m) = true
  | [] => by
    induction m with
    | zero => rfl
    | succ m ih => exact ih
  | _ :: A => okTo_tab (A := A)

theorem train1_fun (v : List Int) (w : Int) (cuts : List (List Int)) : Fun Try.prog 121 [.lst (ints .i16 v), .ptr (bookD w cuts)] fun r => r = .v (.bool (oddN cuts.length v)) := by
  have hv := vecCheck_fun v
  refine Fun.of_awpI Try.func121 rfl cal121 Try.ntmps121 (by simp) fun hwf => ?_
  simp only [D.wfs, D.wf, ints_length, ints_wfs, rows_length, rows_wfs, capMax, and_true, true_and] at hwf
  unfold oddN
  by_cases h1 : vecErr v = 0
  · by_cases h2 : v.length = cuts.length
    · have h2b : ((v.length : Int) != (cuts.length : Int)) = false := by rw [h2]; exact bne_self_eq_false _
      repeat' (first | simp only [go_sem, h1, h2b, Ret_eq Try.results121] | (refine opCallI_rd (by simp only [go_sem, h1, h2b, Ret_eq Try.results121]; first | done | rfl) (hv) (by rintro _ rfl; rfl) ?_; rintro _ rfl) | fail)
      all_goals simp [h1, h2]
    · have h2b : ((v.length : Int) != (cuts.length : Int)) = true := by rw [bne, beq_eq_false_iff_ne.2 (by omega)]; rfl
      repeat' (first | simp only [go_sem, h1, h2b, Ret_eq Try.results121] | (refine opCallI_rd (by simp only [go_sem, h1, h2b, Ret_eq Try.results121]; first | done | rfl) (hv) (by rintro _ rfl; rfl) ?_; rintro _ rfl) | fail)
      all_goals simp [h1, h2]
  · have h1b : (vecErr v != 0) = true := by rw [bne, beq_eq_false_iff_ne.2 h1]; rfl
    repeat' (first | simp only [go_sem, h1b, Ret_eq Try.results121] | (refine opCallI_rd (by simp only [go_sem, h1b, Ret_eq Try.results121]; first | done | rfl) (hv) (by rintro _ rfl; rfl) ?_; rintro _ rfl) | fail)
    all_goals simp [h1]

theorem cloneRow_fun (v : List Int) (hb : v.length ≤ 500) : Fun Try.prog 124 [.lst (ints .i16 v)] fun r => r = .lst (ints .i16 v) := by
  by_cases h : 1 ≤ v.length
  · skip
    refine Fun.of_awpI Try.func124 rfl cal124 Try.ntmps124 (by simp) fun hwf => ?_
    simp only [D.wfs, D.wf, ints_length, ints_wfs, rows_length, rows_wfs, capMax, and_true, true_and] at hwf
    simp only [go_sem, Ret_eq Try.results124]
    refine opBinI_isNil (by simp only [go_sem]) fun c hc => ?_
    rw [ints_isNil] at hc
    simp only [go_sem, Ret_eq Try.results124]
    refine condI_split (fun h => ?_) (fun h => ?_)
    · have hb := hc h
      subst hb
      simp at h
    · repeat' (first | simp only [go_sem, h, Ret_eq Try.results124] | simp (disch := omega) only [arith, IntKind.bits, capMax, fill_len, elt_fill] | fail)
  · obtain rfl : v = [] := List.length_eq_zero_iff.1 (by omega)
    refine Fun.of_awpI Try.func124 rfl cal124 Try.ntmps124 (by simp) fun hwf => ?_
    simp only [D.wfs, D.wf, ints_length, ints_wfs, rows_length, rows_wfs, capMax, and_true, true_and] at hwf
    simp only [go_sem, Ret_eq Try.results124]
    refine opBinI_isNil (by simp only [go_sem]) fun c hc => ?_
    simp only [go_sem, Ret_eq Try.results124]
    refine condI_split (fun h => ?_) (fun h => ?_)
    · repeat' (first | simp only [go_sem, h, Ret_eq Try.results124] | fail)
    · repeat' (first | simp only [go_sem, h, frzStep, Ret_eq Try.results124] | fail)

theorem bookTrain_fun (hS : Sorted16) (w : Int) (cuts : List (List Int)) (way : Int) (sample : List (List Int)) (hI : I16r sample) : Fun Try.prog 67 [bookD w cuts, .v (.int .i64 way), .lst (rows .i16 sample)] fun r => r = .tup [bookD (trW w cuts way sample) (trC w cuts way sample), .v (.int .i64 (trE w cuts way sample))] := by
  have hce := quantCells_fun w cuts
  have hno := not_fun way
  have hcf := containsFuncV_fun sample (oddN cuts.length) 121 [.ptr (bookD w cuts)] rfl rfl rfl fun v _ => train1_fun v w cuts
  by_cases hb : bookErr w cuts = 0
  · by_cases hw : wayErr way = 0
    · cases ha : sample.any (oddN cuts.length) with
      | true =>
        have hE : trE w cuts way sample = 1 := if_pos (.inr ha)
        rw [hE, show trW w cuts way sample = 0 from if_neg (by rw [hE]; decide), show trC w cuts way sample = [] from if_neg (by rw [hE]; decide)]
        rw [ha] at hcf
        refine Fun.of_awpI Try.func67 rfl cal67 Try.ntmps67 (by simp) fun hwf => ?_
        simp only [D.wfs, D.wf, ints_length, ints_wfs, rows_length, rows_wfs, capMax, and_true, true_and] at hwf
        repeat' (first | simp only [go_sem, hb, hw, rows_nil, Ret_eq Try.results67] | simp (disch := omega) only [arith, IntKind.bits, capMax, fill_len, elt_fill] | (refine opCallI_rd (by simp only [go_sem, hb, hw, rows_nil, Ret_eq Try.results67]; first | done | rfl) (hce) (by rintro _ rfl; rfl) ?_; rintro _ rfl) | (refine opCallI_rd (by simp only [go_sem, hb, hw, rows_nil, Ret_eq Try.results67]; first | done | rfl) (hno) (by rintro _ rfl; rfl) ?_; rintro _ rfl) | (refine opCallI_rd (by simp only [go_sem, hb, hw, rows_nil, Ret_eq Try.results67]; first | done | rfl) (hcf) (by rintro _ rfl; rfl) ?_; rintro _ rfl) | fail)
        all_goals rfl
      | false =>
        by_cases hlong : 4096 < sample.length
        · have hE : trE w cuts way sample = 3 := by
            unfold trE
            rw [if_neg, if_pos hlong]
            rintro (q | q)
            · exact q ⟨hb, hw⟩
            · rw [ha] at q; cases q
          rw [hE, show trW w cuts way sample = 0 from if_neg (by rw [hE]; decide), show trC w cuts way sample = [] from if_neg (by rw [hE]; decide)]
          rw [ha] at hcf
          refine Fun.of_awpI Try.func67 rfl cal67 Try.ntmps67 (by simp) fun hwf => ?_
          simp only [D.wfs, D.wf, ints_length, ints_wfs, rows_length, rows_wfs, capMax, and_true, true_and] at hwf
          repeat' (first | simp only [go_sem, hb, hw, rows_nil, Ret_eq Try.results67] | simp (disch := omega) only [arith, IntKind.bits, capMax, fill_len, elt_fill] | (refine opCallI_rd (by simp only [go_sem, hb, hw, rows_nil, Ret_eq Try.results67]; first | done | rfl) (hce) (by rintro _ rfl; rfl) ?_; rintro _ rfl) | (refine opCallI_rd (by simp only [go_sem, hb, hw, rows_nil, Ret_eq Try.results67]; first | done | rfl) (hno) (by rintro _ rfl; rfl) ?_; rintro _ rfl) | (refine opCallI_rd (by simp only [go_sem, hb, hw, rows_nil, Ret_eq Try.results67]; first | done | rfl) (hcf) (by rintro _ rfl; rfl) ?_; rintro _ rfl) | fail)
          all_goals rfl
        · have hsok := sampleOk_iff.1 ha
          have hE : trE w cuts way sample = 0 := trE_zero.2 ⟨hb, hw, hsok, by omega⟩
          rw [hE, show trW w cuts way sample = (if sample = [] then w else way) from if_pos hE, show trC w cuts way sample = (if sample = [] then cuts else trCuts cuts.length (manyOf cuts + 1) way sample) from if_pos hE]
          rw [ha] at hcf
          clear ha
          have hcl := (bookErr_zero.1 hb).2.1
          have hrow := book_rows hb
          have hmany := book_many hb
          by_cases h0 : sample = []
          · subst h0
            rw [if_pos rfl, if_pos rfl]
            refine Fun.of_awpI Try.func67 rfl cal67 Try.ntmps67 (by simp) fun hwf => ?_
            simp only [D.wfs, D.wf, ints_length, ints_wfs, rows_length, rows_wfs, capMax, and_true, true_and] at hwf
            repeat' (first | simp only [go_sem, hb, hw, rows_nil, Ret_eq Try.results67] | simp (disch := omega) only [arith, IntKind.bits, capMax, fill_len, elt_fill] | (refine opCallI_rd (by simp only [go_sem, hb, hw, rows_nil, Ret_eq Try.results67]; first | done | rfl) (hce) (by rintro _ rfl; rfl) ?_; rintro _ rfl) | (refine opCallI_rd (by simp only [go_sem, hb, hw, rows_nil, Ret_eq Try.results67]; first | done | rfl) (hno) (by rintro _ rfl; rfl) ?_; rintro _ rfl) | (refine opCallI_rd (by simp only [go_sem, hb, hw, rows_nil, Ret_eq Try.results67]; first | done | rfl) (hcf) (by rintro _ rfl; rfl) ?_; rintro _ rfl) | fail)
            refine awpI_for cuts.length (fun k => True) (fun k => [(64, .v (.int .i64 k))]) (fun k => match k with | 0 => [(13, ⟨73, 2, [.agg [.v (.int .i64 w), .v (.slice none 0 0)]]⟩)] | k + 1 => [(13, ⟨73, 2, [.agg [.v (.int .i64 w), .ref 73 (k + 1)]]⟩), (73, ⟨22, 1, rows .i16 (cuts.take (k + 1))⟩)]) [6, 13, 62, 63] [6] _ (Weak.refl _) trivial ?_ ?_ ?_
            · simp only [go_sem, Ret_eq Try.results67]
            · simp only [go_sem, Ret_eq Try.results67]
            · intro k s hk _ hs
              by_cases hka : k < cuts.length
              · have e := take_snoc (a := cuts) (d := []) hka
                have hcl2 := (hrow _ (getD_mem (d := []) hka)).1
                have hcn := cloneRow_fun (cuts.getD k []) (by omega)
                cases k with
                | zero =>
                  simp only [go_sem, Ret_eq Try.results67] at hs
                  repeat' (first | simp only [go_sem, hs, Ret_eq Try.results67] | simp (disch := omega) only [arith, IntKind.bits, capMax, fill_len, elt_fill] | (refine awpI_draw2 (id := 15) (.one false 2 (.two 0 3 (.two 1 3 (.only 3 (.only 4 (.only 5 (.one false 6 (.only 7 .done))))) (.fam 1 [4] [72] [71] (.only 4 (.only 5 (.one false 6 (.only 7 .done)))))) (.fam 0 [4] [72] [71] (.fam 1 [4] [72] [71] (.only 4 (.only 5 (.one false 6 (.only 7 .done)))))))) mixed (by decide +kernel) (by decide +kernel) ?_) | (refine sch2I_two ?_ ?_) | (refine Again.up (by omega) ?_ ?_) | (refine opCallI_gv (by simp only [go_sem, hs, Ret_eq Try.results67]; first | done | rfl) (hcn) ?_; rintro _ rfl) | fail)
                  all_goals exact ⟨rfl, by rw [show List.take 1 cuts = _ from e]; rfl⟩
                | succ k =>
                  simp only [go_sem, Ret_eq Try.results67] at hs
                  have hlt : (cuts.take (k + 1)).length = k + 1 := by rw [List.length_take]; omega
                  repeat' (first | simp only [go_sem, hs, e, hlt, List.length_append, Ret_eq Try.results67] | simp (disch := omega) only [arith, IntKind.bits, capMax, fill_len, elt_fill] | (refine awpI_draw2 (id := 15) (.one false 2 (.two 0 3 (.two 1 3 (.only 3 (.only 4 (.only 5 (.one false 6 (.only 7 .done))))) (.fam 1 [4] [72] [71] (.only 4 (.only 5 (.one false 6 (.only 7 .done)))))) (.fam 0 [4] [72] [71] (.fam 1 [4] [72] [71] (.only 4 (.only 5 (.one false 6 (.only 7 .done)))))))) mixed (by decide +kernel) (by decide +kernel) ?_) | (refine sch2I_two ?_ ?_) | (refine Again.up (by omega) ?_ ?_) | (refine opCallI_gv (by simp only [go_sem, hs, e, hlt, List.length_append, Ret_eq Try.results67]; first | done | rfl) (hcn) ?_; rintro _ rfl) | fail)
              · obtain rfl : k = cuts.length := by omega
                have hc1 := (bookErr_zero.1 hb).1
                cases hcu : cuts.length with
                | zero => omega
                | succ k =>
                  rw [hcu] at hs
                  simp only [go_sem, Ret_eq Try.results67] at hs
                  have hta : cuts.take (k + 1) = cuts := List.take_of_length_le (by omega)
                  repeat' (first | simp only [go_sem, hs, hta, hcu, Ret_eq Try.results67] | simp (disch := omega) only [arith, IntKind.bits, capMax, fill_len, elt_fill] | fail)
                  all_goals skip
          · rw [if_neg h0, if_neg h0]
            have hlen : 1 ≤ sample.length := by
              cases sample with
              | nil => exact absurd rfl h0
              | cons a l => simp
            refine Fun.of_awpI Try.func67 rfl cal67 Try.ntmps67 (by simp) fun hwf => ?_
            simp only [D.wfs, D.wf, ints_length, ints_wfs, rows_length, rows_wfs, capMax, and_true, true_and] at hwf
            obtain ⟨w1, w2⟩ := wayErr_zero hw
            have hTl : (turnedL way sample).length = sample.length := by simp [turnedL]
            have hc1 := (bookErr_zero.1 hb).1
            repeat' (first | simp only [go_sem, hb, hw, rows_nil, Ret_eq Try.results67] | simp (disch := omega) only [arith, IntKind.bits, capMax, fill_len, elt_fill] | (refine opCallI_rd (by simp only [go_sem, hb, hw, rows_nil, Ret_eq Try.results67]; first | done | rfl) (hce) (by rintro _ rfl; rfl) ?_; rintro _ rfl) | (refine opCallI_rd (by simp only [go_sem, hb, hw, rows_nil, Ret_eq Try.results67]; first | done | rfl) (hno) (by rintro _ rfl; rfl) ?_; rintro _ rfl) | (refine opCallI_rd (by simp only [go_sem, hb, hw, rows_nil, Ret_eq Try.results67]; first | done | rfl) (hcf) (by rintro _ rfl; rfl) ?_; rintro _ rfl) | fail)
            refine awpI_for sample.length (fun k => True) (fun k => [(83, .v (.int .i64 k))]) (fun k => (80, ⟨22, 1, refsL cuts.length fun _ => k⟩) :: colsW 23 cuts.length (turnedL way sample) fun _ => k) [1, 6, 8, 16, 81, 82] [6] _
              (Weak.adopts1 (ob := 80) (base := 1000) (n := cuts.length) (S := 1) (So := 1) (e := 23) (eo := 22) [(1, .v (.int .i64 way)), (6, .adr 6 0 0), (8, .v (.int .i64 ((manyOf cuts + 1 : Nat) : Int))), (16, .ref 80 cuts.length), (81, .lst (rows .i16 sample)), (82, .v (.int .i64 sample.length)), (83, .v (.int .i64 0))] [(6, ⟨73, 2, [.agg [.v (.int .i64 0), .v (.slice none 0 0)]]⟩)] (by decide) (by decide) (by simp only [go_sem, Ret_eq Try.results67]) (by rfl) (by simp only [go_sem, Ret_eq Try.results67]) (by rfl) (by simp only [go_sem, Ret_eq Try.results67])) trivial ?_ ?_ ?_
            · simp only [go_sem, Ret_eq Try.results67]
            · simp only [go_sem, Heaps_colsW, Ret_eq Try.results67]
              refine ⟨rfl, fun i hi => ?_⟩
              rw [if_neg (by omega), if_pos (by omega)]
              rfl
            · intro k s hk _ hs
              simp only [go_sem, Heaps_colsW, false_and, Ret_eq Try.results67] at hs
              have hco := hs.2.2.1.2
              by_cases hka : k < sample.length
              · have hvk := hsok _ (getD_mem (d := []) hka)
                have hgk : (turnedL way sample).getD k [] = turnL (sample.getD k []) way.toNat := by
                  simp [turnedL, List.getD, hka]
                have hti := turnErr_iff.2 ⟨hvk.1, w1, w2⟩
                have htu := turn_fun (sample.getD k []) way (hI.getD k)
                rw [turnOut_ok ⟨hvk.1, w1, w2⟩, hti, ← hgk] at htu
                have htl : ((turnedL way sample).getD k []).length = cuts.length := by rw [hgk, turnL_length]; exact hvk.2
                have hsn := fun i => colOf_snoc (T := turnedL way sample) (i := i) (k := k) (by omega)
                have hcln := fun i => colOf_length (T := (turnedL way sample).take k) (i := i)
                have htk : ((turnedL way sample).take k).length = k := by rw [List.length_take]; omega
                clear hgk hti
                generalize (turnedL way sample).getD k [] = tv at *
                repeat' (first | simp only [go_sem, hs, Ret_eq Try.results67] | simp (disch := omega) only [arith, IntKind.bits, capMax, fill_len, elt_fill] | (refine opCallI_gv (by simp only [go_sem, hs, Ret_eq Try.results67]; first | done | rfl) (htu) ?_; rintro _ rfl) | fail)
                refine awpI_for cuts.length (fun j => True) (fun j => [(99, .v (.int .i64 j))]) (fun j => (80, ⟨22, 1, refsL cuts.length (cntC k j)⟩) :: colsW 23 cuts.length (turnedL way sample) (cntC k j)) [1, 6, 8, 16, 81, 82, 83, 97, 98] [6] _ (Weak.refl _) trivial ?_ ?_ ?_
                · simp only [go_sem, hs, Ret_eq Try.results67]
                · rw [cntC_zero]
                  simp only [go_sem, hs, Heaps_colsW, Ret_eq Try.results67]
                  exact hco
                · intro j s2 hj _ hs2
                  simp only [go_sem, hs, Heaps_colsW, Ret_eq Try.results67] at hs2
                  by_cases hjn : j < cuts.length
                  · have g1 := refsL_get (c := cntC k j) hjn
                    have g2 := refsL_kills (c := cntC k j) hjn
                    have g3 := refsL_step (k := k) hjn
                    have g4 : cntC k j j = k := if_neg (Nat.lt_irrefl _)
                    rw [g4] at g1
                    have gl := refsL_length (n := cuts.length) (c := cntC k j)
                    have g5 : s2.H (1000 + j) = some ⟨23, 1, ints .i16 (colOf ((turnedL way sample).take k) j)⟩ := by
                      have := hs2.2.2.1.2 j hjn
                      rw [g4] at this
                      exact this
                    have g6 := refsL_any (c := cntC k j) hjn
                    repeat' (first | simp only [go_sem, hs, hs2, base_ne, base_ne', anyT_width, setPartT_xr, false_and, g6, g1, g2, g3, g4, g5, gl, hjn, htl, hcln, htk, List.length_set, List.length_append, List.length_cons, List.length_nil, Ret_eq Try.results67] | simp (disch := omega) only [arith, IntKind.bits, capMax, fill_len, elt_fill] | (refine Again.up (by omega) ?_ ?_) | fail)
                    rw [Heaps_colsW]
                    intro i hi
                    by_cases q : i = j
                    · subst q
                      have g7 : cntC k (i + 1) i = k + 1 := if_pos (by omega)
                      simp only [go_sem, base_ne, base_ne', g7, hsn, Ret_eq Try.results67]
                    · have g7 : cntC k (j + 1) i = cntC k j i := by
                        unfold cntC
                        by_cases z : i < j
                        · rw [if_pos z, if_pos (by omega)]
                        · rw [if_neg z, if_neg (by omega)]
                      have g8 : (1000 + i = 1000 + j) = False := eq_false (by omega)
                      have g9 := hs2.2.2.1.2 i hi
                      simp only [go_sem, base_ne, base_ne', g7, g8, g9, Ret_eq Try.results67]
                  · obtain rfl : j = cuts.length := by omega
                    repeat' (first | simp only [go_sem, hs, hs2, false_and, Ret_eq Try.results67] | simp (disch := omega) only [arith, IntKind.bits, capMax, fill_len, elt_fill] | (refine Again.up (by omega) ?_ ?_) | fail)
                    refine ⟨by rw [refsL_full], ?_⟩
                    rw [Heaps_colsW]
                    intro i hi
                    have := hs2.2.2.1.2 i hi
                    rw [cntC, if_pos hi] at this
                    exact this
              · obtain rfl : k = sample.length := by omega
                have gl := refsL_length (n := cuts.length) (c := fun _ => sample.length)
                have hTa : (turnedL way sample).take sample.length = turnedL way sample := List.take_of_length_le (by omega)
                rw [hTa] at hco
                repeat' (first | simp only [go_sem, hs, gl, Ret_eq Try.results67] | simp (disch := omega) only [arith, IntKind.bits, capMax, fill_len, elt_fill] | fail)
                refine awpI_for cuts.length (fun j => True) (fun j => [(123, .v (.int .i64 j))]) (fun j => [(119, ⟨22, 1, tab ((trCuts cuts.length (manyOf cuts + 1) way sample).take j) (cuts.length - j)⟩)]) [6, 8, 23, 121, 122] [6, 23, 80] _
                  (Weak.freezes1 (ob := 80) (base := 1000) (n := cuts.length) (S := 1) (So := 1) (e := 23) (eo := 22) (fun i => ints .i16 (colOf (turnedL way sample) i)) (fun _ => sample.length) [(6, .adr 6 0 0), (8, .v (.int .i64 ((manyOf cuts + 1 : Nat) : Int))), (23, .adr 23 0 0), (121, .ref 80 cuts.length), (122, .v (.int .i64 cuts.length)), (123, .v (.int .i64 0))]
                    [(6, ⟨73, 2, [.agg [.v (.int .i64 0), .v (.slice none 0 0)]]⟩), (23, ⟨73, 2, [.agg [.v (.int .i64 way), .ref 119 cuts.length]]⟩), (119, ⟨22, 1, tab [] cuts.length⟩)] (by decide) (by simp only [go_sem, hs, gl, Ret_eq Try.results67]) (by rfl) (by simp only [go_sem, hs, tab_zero, Int.toNat_natCast, Ret_eq Try.results67]) (by simp only [List.all_cons, List.all_nil, okTo_tab]; rfl) (by simp only [go_sem, hs, refsL_kept, Ret_eq Try.results67]; rfl) (fun i hi => by simp only [go_sem, hs, base_ne, hTa, hi, Ret_eq Try.results67]) (fun i hi => ⟨ints_noRefs, ints_nrms, ints_width1, by rw [ints_length, colOf_length, hTl]⟩)) trivial ?_ ?_ ?_
                · simp only [go_sem, Ret_eq Try.results67]
                · simp only [go_sem, List.take_zero, Nat.sub_zero, Ret_eq Try.results67]
                · intro j s2 hj _ hs2
                  simp only [go_sem, Ret_eq Try.results67] at hs2
                  by_cases hjn : j < cuts.length
                  · have hrk := rkCuts_fun hS (colOf (turnedL way sample) j) ((manyOf cuts + 1 : Nat) : Int) (by rw [colOf_length, hTl]; omega)
                    have hrz : rkE (colOf (turnedL way sample) j) ((manyOf cuts + 1 : Nat) : Int) = 0 := rkE_zero.2 ⟨by rw [colOf_length, hTl]; omega, by omega, col_ok hsok hI hjn, by rw [colOf_length, hTl]; omega⟩
                    have hro : rkOut (colOf (turnedL way sample) j) ((manyOf cuts + 1 : Nat) : Int) = (trCuts cuts.length (manyOf cuts + 1) way sample).getD j [] := by
                      unfold rkOut; rw [if_pos hrz, Int.toNat_natCast, trCuts_at hjn]
                    rw [hrz, hro] at hrk
                    have hcg := colsT_get (T := turnedL way sample) hjn
                    have hCl := trCuts_length (n := cuts.length) (cells := manyOf cuts + 1) (way := way) (sample := sample)
                    have e := take_snoc (a := trCuts cuts.length (manyOf cuts + 1) way sample) (d := ([] : List Int)) (k := j) (by omega)
                    obtain ⟨q, hq⟩ : ∃ q, cuts.length - j = q + 1 := ⟨cuts.length - j - 1, by omega⟩
                    have hq2 : cuts.length - (j + 1) = q := by omega
                    have htj : ((trCuts cuts.length (manyOf cuts + 1) way sample).take j).length = j := by rw [List.length_take]; omega
                    have ht1 := tab_get (A := (trCuts cuts.length (manyOf cuts + 1) way sample).take j) (m := q)
                    have ht2 := tab_setL (A := (trCuts cuts.length (manyOf cuts + 1) way sample).take j) (m := q) (l := (trCuts cuts.length (manyOf cuts + 1) way sample).getD j [])
                    have ht3 := tab_length (A := (trCuts cuts.length (manyOf cuts + 1) way sample).take j) (m := q + 1)
                    rw [htj] at ht1 ht2 ht3
                    rw [← e] at ht2
                    rw [hq] at hs2
                    repeat' (first | simp only [go_sem, hs, hs2, hcg, ht1, ht2, ht3, hq2, List.length_map, List.length_range, Ret_eq Try.results67] | simp (disch := omega) only [arith, IntKind.bits, capMax, fill_len, elt_fill] | (refine awpI_draw2 (id := 35) (.one false 3 (.one false 4 (.cal 0 [5] (.cal 1 [5] (.cal 2 [5] (.only 5 (.one false 6 (.one false 7 (.one false 9 (.cal 8 [10] (.only 10 (.one false 11 .done)))))))))))) mixed (by decide +kernel) (by decide +kernel) ?_) | (refine Again.up (by omega) ?_ ?_) | (refine opCallI_gv (by simp only [go_sem, hs, hs2, hcg, ht1, ht2, ht3, hq2, List.length_map, List.length_range, Ret_eq Try.results67]; first | done | rfl) (hrk) ?_; rintro _ rfl) | fail)
                    all_goals skip
                  · obtain rfl : j = cuts.length := by omega
                    have hCl := trCuts_length (n := cuts.length) (cells := manyOf cuts + 1) (way := way) (sample := sample)
                    have htk : (trCuts cuts.length (manyOf cuts + 1) way sample).take cuts.length = trCuts cuts.length (manyOf cuts + 1) way sample := List.take_of_length_le (by omega)
                    rw [Nat.sub_self, htk, tab_end] at hs2
                    repeat' (first | simp only [go_sem, hs, hs2, hCl, htk, Ret_eq Try.results67] | simp (disch := omega) only [arith, IntKind.bits, capMax, fill_len, elt_fill] | fail)
    · have hE : trE w cuts way sample = 1 := if_pos (.inl fun q => hw q.2)
      rw [hE, show trW w cuts way sample = 0 from if_neg (by rw [hE]; decide), show trC w cuts way sample = [] from if_neg (by rw [hE]; decide)]
      have hwb : (wayErr way != 0) = true := by rw [bne, beq_eq_false_iff_ne.2 hw]; rfl
      refine Fun.of_awpI Try.func67 rfl cal67 Try.ntmps67 (by simp) fun hwf => ?_
      simp only [D.wfs, D.wf, ints_length, ints_wfs, rows_length, rows_wfs, capMax, and_true, true_and] at hwf
      repeat' (first | simp only [go_sem, hb, hwb, rows_nil, Ret_eq Try.results67] | simp (disch := omega) only [arith, IntKind.bits, capMax, fill_len, elt_fill] | (refine opCallI_rd (by simp only [go_sem, hb, hwb, rows_nil, Ret_eq Try.results67]; first | done | rfl) (hce) (by rintro _ rfl; rfl) ?_; rintro _ rfl) | (refine opCallI_rd (by simp only [go_sem, hb, hwb, rows_nil, Ret_eq Try.results67]; first | done | rfl) (hno) (by rintro _ rfl; rfl) ?_; rintro _ rfl) | fail)
      all_goals rfl
  · have hE : trE w cuts way sample = 1 := if_pos (.inl fun q => hb q.1)
    rw [hE, show trW w cuts way sample = 0 from if_neg (by rw [hE]; decide), show trC w cuts way sample = [] from if_neg (by rw [hE]; decide)]
    have hbb : (bookErr w cuts != 0) = true := by rw [bne, beq_eq_false_iff_ne.2 hb]; rfl
    refine Fun.of_awpI Try.func67 rfl cal67 Try.ntmps67 (by simp) fun hwf => ?_
    simp only [D.wfs, D.wf, ints_length, ints_wfs, rows_length, rows_wfs, capMax, and_true, true_and] at hwf
    repeat' (first | simp only [go_sem, hbb, rows_nil, Ret_eq Try.results67] | simp (disch := omega) only [arith, IntKind.bits, capMax, fill_len, elt_fill] | (refine opCallI_rd (by simp only [go_sem, hbb, rows_nil, Ret_eq Try.results67]; first | done | rfl) (hce) (by rintro _ rfl; rfl) ?_; rintro _ rfl) | (refine opCallI_rd (by simp only [go_sem, hbb, rows_nil, Ret_eq Try.results67]; first | done | rfl) (hno) (by rintro _ rfl; rfl) ?_; rintro _ rfl) | fail)
    all_goals rfl
end Go.Proofs.Ytpkampecmlpfmaa.T

end
section
set_option linter.unusedSimpArgs false
set_option linter.unusedVariables false
/- Plain books, how long a text is, books told the same; walked. -/
namespace Go.Proofs.Ytpkampecmlpfmaa.T
open Go Go.VL Go.Proofs
set_option maxRecDepth 100000
set_option maxHeartbeats 8000000
theorem any_width : D.any.width = 1 := rfl
theorem setPart_xr {i n : Nat} : setPart .any 0 (.ref i n) = some (.ref i n) := (rfl)

theorem bwithin_fun (n m : Int) : Fun Try.prog 114 [.v (.int .i64 n), .v (.int .i64 m)] fun r => r = .v (.bool (decide (sizesOk n m))) := by
  refine Fun.of_awpI Try.func114 rfl cal114 Try.ntmps114 (by simp) fun hwf => ?_
  simp only [D.wfs, D.wf, ints_length, ints_wfs, rows_length, rows_wfs, capMax, and_true, true_and] at hwf
  by_cases h : sizesOk n m
  · rw [decide_eq_true h]
    obtain ⟨⟨h1, h2⟩, h3, h4⟩ := h
    by_cases q : m < n
    · have e : (if m < n then m else n) = m := if_pos q
      repeat' (first | simp only [go_sem, e, Ret_eq Try.results114] | simp (disch := omega) only [arith, IntKind.bits, capMax, fill_len, elt_fill] | fail)
    · have e : (if m < n then m else n) = n := if_neg q
      repeat' (first | simp only [go_sem, e, Ret_eq Try.results114] | simp (disch := omega) only [arith, IntKind.bits, capMax, fill_len, elt_fill] | fail)
  · rw [decide_eq_false h]
    by_cases q : m < n
    · have e : (if m < n then m else n) = m := if_pos q
      by_cases h1 : 1 ≤ m
      · by_cases h2 : n ≤ 64
        · have h3 : ¬ m ≤ 16 := fun r => h ⟨⟨by omega, h2⟩, h1, r⟩
          repeat' (first | simp only [go_sem, e, Ret_eq Try.results114] | simp (disch := omega) only [arith, IntKind.bits, capMax, fill_len, elt_fill] | fail)
        · repeat' (first | simp only [go_sem, e, Ret_eq Try.results114] | simp (disch := omega) only [arith, IntKind.bits, capMax, fill_len, elt_fill] | fail)
      · repeat' (first | simp only [go_sem, e, Ret_eq Try.results114] | simp (disch := omega) only [arith, IntKind.bits, capMax, fill_len, elt_fill] | fail)
    · have e : (if m < n then m else n) = n := if_neg q
      by_cases h1 : 1 ≤ n
      · by_cases h2 : n ≤ 64
        · have h3 : ¬ m ≤ 16 := fun r => h ⟨⟨h1, h2⟩, by omega, r⟩
          repeat' (first | simp only [go_sem, e, Ret_eq Try.results114] | simp (disch := omega) only [arith, IntKind.bits, capMax, fill_len, elt_fill] | fail)
        · repeat' (first | simp only [go_sem, e, Ret_eq Try.results114] | simp (disch := omega) only [arith, IntKind.bits, capMax, fill_len, elt_fill] | fail)
      · repeat' (first | simp only [go_sem, e, Ret_eq Try.results114] | simp (disch := omega) only [arith, IntKind.bits, capMax, fill_len, elt_fill] | fail)

theorem size_fun (n m : Int) : Fun Try.prog 58 [.v (.int .i64 n), .v (.int .i64 m)] fun r => r = .tup [.v (.int .i64 (sizeV n m)), .v (.int .i64 (sizeE n m))] := by
  have hb := bwithin_fun n m
  unfold sizeV sizeE
  by_cases h : sizesOk n m
  · rw [decide_eq_true h] at hb
    rw [if_pos h, if_pos h]
    obtain ⟨⟨h1, h2⟩, h3, h4⟩ := h
    have e1 : 2 * n * (m - 1) ≤ 2 * 64 * 15 := Int.mul_le_mul (by omega) (by omega) (by omega) (by omega)
    have e2 : 0 ≤ 2 * n * (m - 1) := Int.mul_nonneg (by omega) (by omega)
    refine Fun.of_awpI Try.func58 rfl cal58 Try.ntmps58 (by simp) fun hwf => ?_
    simp only [D.wfs, D.wf, ints_length, ints_wfs, rows_length, rows_wfs, capMax, and_true, true_and] at hwf
    repeat' (first | simp only [go_sem, Ret_eq Try.results58] | simp (disch := omega) only [arith, IntKind.bits, capMax, fill_len, elt_fill] | (refine opCallI_rd (by simp only [go_sem, Ret_eq Try.results58]; first | done | rfl) (hb) (by rintro _ rfl; rfl) ?_; rintro _ rfl) | fail)
  · rw [decide_eq_false h] at hb
    rw [if_neg h, if_neg h]
    refine Fun.of_awpI Try.func58 rfl cal58 Try.ntmps58 (by simp) fun hwf => ?_
    simp only [D.wfs, D.wf, ints_length, ints_wfs, rows_length, rows_wfs, capMax, and_true, true_and] at hwf
    repeat' (first | simp only [go_sem, Ret_eq Try.results58] | (refine opCallI_rd (by simp only [go_sem, Ret_eq Try.results58]; first | done | rfl) (hb) (by rintro _ rfl; rfl) ?_; rintro _ rfl) | fail)

theorem equalRow_fun (a b : List Int) : Fun Try.prog 117 [.lst (ints .i16 a), .lst (ints .i16 b)] fun r => r = .v (.bool (decide (a = b))) := by
  refine Fun.of_awpI Try.func117 rfl cal117 Try.ntmps117 (by simp) fun hwf => ?_
  simp only [D.wfs, D.wf, ints_length, ints_wfs, rows_length, rows_wfs, capMax, and_true, true_and] at hwf
  repeat' (first | simp only [go_sem, Ret_eq Try.results117] | (with_reducible refine condI_bne (fun hq hqb => ?_) (fun hq hqb => ?_) <;> simp only [KP_mk, hqb]) | fail)
  · rw [decide_eq_false]; rintro rfl; omega
  · have hl : a.length = b.length := by omega
    refine awpI_for a.length (fun k => a.take k = b.take k) (fun k => [(13, .v (.int .i64 k))]) (fun _ => []) [0, 1, 12] [] _ (Weak.refl _) (by simp) ?_ ?_ ?_
    · simp only [go_sem, Ret_eq Try.results117]
    · simp only [go_sem, Ret_eq Try.results117]
    · intro k s hk hQ hs
      simp only [go_sem, Ret_eq Try.results117] at hs
      by_cases hka : k < a.length
      · repeat' (first | simp only [go_sem, hs, Ret_eq Try.results117] | simp (disch := omega) only [arith, IntKind.bits, capMax, fill_len, elt_fill] | (with_reducible refine condI_bne (fun hq hqb => ?_) (fun hq hqb => ?_) <;> simp only [KP_mk, hqb]) | (refine awpI_draw2 (id := 6) (.one false 0 (.one false 1 (.one false 2 (.one false 3 (.one false 4 (.one false 5 (.one false 6 (.one false 7 (.one false 8 .done))))))))) mixed (by decide +kernel) (by decide +kernel) ?_) | (refine Again.up (by omega) ?_ ?_) | fail)
        · rw [decide_eq_false]; rintro rfl; simp_all
        · exact take_eq_snoc hka (by omega) hQ (by assumption)
      · obtain rfl : k = a.length := by omega
        rw [List.take_length, hl, List.take_length] at hQ
        subst hQ
        repeat' (first | simp only [go_sem, hs, Ret_eq Try.results117] | simp (disch := omega) only [arith, IntKind.bits, capMax, fill_len, elt_fill] | fail)

theorem equalRows_fun (a b : List (List Int)) : Fun Try.prog 116 [.lst (rows .i16 a), .lst (rows .i16 b), .clos (.func 117) []] fun r => r = .v (.bool (decide (a = b))) := by
  refine Fun.of_awpI Try.func116 rfl cal116 Try.ntmps116 (by simp) fun hwf => ?_
  simp only [D.wfs, D.wf, ints_length, ints_wfs, rows_length, rows_wfs, capMax, and_true, true_and] at hwf
  have hlb : b.length ≤ 9223372036854775807 := by have := hwf.2.1; exact this
  have hla : a.length ≤ 9223372036854775807 := by have := hwf.1.1; exact this
  by_cases hl : a.length = b.length
  · repeat' (first | simp only [go_sem, hl, Ret_eq Try.results116] | simp (disch := omega) only [arith, IntKind.bits, capMax, fill_len, elt_fill] | fail)
    refine awpI_for b.length (fun k => a.take k = b.take k) (fun k => [(17, .v (.int .i64 k))]) (fun _ => []) [1, 2, 15, 16] [] _ (Weak.refl _) (by simp) ?_ ?_ ?_
    · simp only [go_sem, Ret_eq Try.results116]
    · simp only [go_sem, Ret_eq Try.results116]
    · intro k s hk hQ hs
      simp only [go_sem, Ret_eq Try.results116] at hs
      by_cases hka : k < b.length
      · have e1 := take_snoc (a := a) (d := ([] : List Int)) (k := k) (by omega)
        have e2 := take_snoc (a := b) (d := ([] : List Int)) hka
        have hs1 := equalRow_fun (a.getD k []) (b.getD k [])
        by_cases hv : a.getD k [] = b.getD k []
        · rw [decide_eq_true hv] at hs1
          repeat' (first | simp only [go_sem, hs, Ret_eq Try.results116] | simp (disch := omega) only [arith, IntKind.bits, capMax, fill_len, elt_fill] | (refine Again.up (by omega) ?_ ?_) | (refine opCallI_rd (by simp only [go_sem, hs, Ret_eq Try.results116]; first | done | rfl) (hs1) (by rintro _ rfl; rfl) ?_; rintro _ rfl) | fail)
          rw [e1, e2, hQ, hv]
        · rw [decide_eq_false hv] at hs1
          have hne : a ≠ b := fun q => hv (by rw [q])
          repeat' (first | simp only [go_sem, hs, decide_eq_false hne, Ret_eq Try.results116] | simp (disch := omega) only [arith, IntKind.bits, capMax, fill_len, elt_fill] | (refine opCallI_rd (by simp only [go_sem, hs, decide_eq_false hne, Ret_eq Try.results116]; first | done | rfl) (hs1) (by rintro _ rfl; rfl) ?_; rintro _ rfl) | fail)
      · obtain rfl : k = b.length := by omega
        have hQ3 : a = b := by
          rw [List.take_length, ← hl, List.take_length] at hQ; exact hQ
        repeat' (first | simp only [go_sem, hs, decide_eq_true hQ3, Ret_eq Try.results116] | simp (disch := omega) only [arith, IntKind.bits, capMax, fill_len, elt_fill] | fail)
  · have hne : a ≠ b := fun q => hl (by rw [q])
    repeat' (first | simp only [go_sem, decide_eq_false hne, Ret_eq Try.results116] | simp (disch := omega) only [arith, IntKind.bits, capMax, fill_len, elt_fill] | fail)

theorem bookSame_fun (w : Int) (c : List (List Int)) (w2 : Int) (c2 : List (List Int)) : Fun Try.prog 62 [bookD w c, bookD w2 c2] fun r => r = .v (.bool (decide (w = w2 ∧ c = c2))) := by
  have h3 := equalRows_fun c c2
  refine Fun.of_awpI Try.func62 rfl cal62 Try.ntmps62 (by simp) fun hwf => ?_
  simp only [D.wfs, D.wf, ints_length, ints_wfs, rows_length, rows_wfs, capMax, and_true, true_and] at hwf
  by_cases g1 : w = w2
  · have b1 : (w == w2) = true := beq_iff_eq.2 g1
    have e : decide (w = w2 ∧ c = c2) = decide (c = c2) := by simp [g1]
    rw [e]
    repeat' (first | simp only [go_sem, b1, Ret_eq Try.results62] | (refine opCallI_rd (by simp only [go_sem, b1, Ret_eq Try.results62]; first | done | rfl) (h3) (by rintro _ rfl; rfl) ?_; rintro _ rfl) | fail)
  · have b1 : (w == w2) = false := beq_eq_false_iff_ne.2 g1
    rw [decide_eq_false (fun q => g1 q.1)]
    repeat' (first | simp only [go_sem, b1, Ret_eq Try.results62] | fail)

theorem plain1_fun (n : Nat) (h : 1 ≤ n ∧ n ≤ 64) : Fun Try.prog 56 [.v (.int .i64 n), .v (.int .i64 1)] fun r => r = .tup [bookD 0 (List.replicate n []), .v (.int .i64 0)] := by
  have hb := bwithin_fun n 1
  have hs0 : sizesOk n 1 := ⟨by omega, by omega⟩
  rw [decide_eq_true hs0] at hb
  refine Fun.of_awpI Try.func56 rfl cal56 Try.ntmps56 (by simp) fun hwf => ?_
  simp only [D.wfs, D.wf, ints_length, ints_wfs, rows_length, rows_wfs, capMax, and_true, true_and] at hwf
  repeat' (first | simp only [go_sem, Ret_eq Try.results56] | simp (disch := omega) only [arith, IntKind.bits, capMax, fill_len, elt_fill] | (refine opCallI_rd (by simp only [go_sem, Ret_eq Try.results56]; first | done | rfl) (hb) (by rintro _ rfl; rfl) ?_; rintro _ rfl) | fail)
  refine awpI_for n (fun k => True) (fun k => [(20, .v (.int .i64 k))]) (fun k => [(15, ⟨22, 1, tab [] n⟩)]) [1, 4, 6, 19] [4, 6] _ (Weak.refl _) trivial ?_ ?_ ?_
  · simp only [go_sem, Ret_eq Try.results56]
  · simp only [go_sem, Int.toNat_natCast, Ret_eq Try.results56]
  · intro k s hk _ hs
    simp only [go_sem, Ret_eq Try.results56] at hs
    by_cases hka : k < n
    · repeat' (first | simp only [go_sem, hs, Ret_eq Try.results56] | simp (disch := omega) only [arith, IntKind.bits, capMax, fill_len, elt_fill] | fail)
      refine awpI_for 0 (fun k => True) (fun j => [(8, .v (.int .i64 1))]) (fun j => []) [1, 4, 6, 7, 19, 20] [4, 6, 15] _ (Weak.refl _) trivial ?_ ?_ ?_
      · simp only [go_sem, hs, Ret_eq Try.results56]
      · simp only [go_sem, hs, Ret_eq Try.results56]
      · intro j s2 hj2 _ hs2
        simp only [go_sem, hs, Ret_eq Try.results56] at hs2
        repeat' (first | simp only [go_sem, hs, hs2, Ret_eq Try.results56] | simp (disch := omega) only [arith, IntKind.bits, capMax, fill_len, elt_fill] | (refine Again.up (by omega) ?_ ?_) | fail)
    · obtain rfl : k = n := by omega
      repeat' (first | simp only [go_sem, hs, List.nil_append, List.length_replicate, List.take_replicate, Nat.min_self, Ret_eq Try.results56] | simp (disch := omega) only [arith, IntKind.bits, capMax, fill_len, elt_fill] | fail)
      all_goals skip
theorem plain_fun (n : Nat) (m : Nat) (h : 1 ≤ n ∧ n ≤ 64) (hm : 2 ≤ m ∧ m ≤ 16) : Fun Try.prog 56 [.v (.int .i64 n), .v (.int .i64 m)] fun r => r = .tup [bookD 0 (List.replicate n (plainRow m)), .v (.int .i64 0)] := by
  have hb := bwithin_fun n m
  have hs0 : sizesOk n m := ⟨by omega, by omega⟩
  rw [decide_eq_true hs0] at hb
  have hrl : (plainRow m).length = m - 1 := by simp [plainRow]
  have hrg : ∀ j, j < m - 1 → (plainRow m).getD j 0 = plainCut m j := fun j hj => plainRow_getD (by omega)
  generalize plainRow m = row at *
  refine Fun.of_awpI Try.func56 rfl cal56 Try.ntmps56 (by simp) fun hwf => ?_
  simp only [D.wfs, D.wf, ints_length, ints_wfs, rows_length, rows_wfs, capMax, and_true, true_and] at hwf
  repeat' (first | simp only [go_sem, Ret_eq Try.results56] | simp (disch := omega) only [arith, IntKind.bits, capMax, fill_len, elt_fill] | (refine opCallI_rd (by simp only [go_sem, Ret_eq Try.results56]; first | done | rfl) (hb) (by rintro _ rfl; rfl) ?_; rintro _ rfl) | fail)
  refine awpI_for n (fun k => True) (fun k => [(20, .v (.int .i64 k))]) (fun k => [(15, ⟨22, 1, tab (List.replicate k row) (n - k)⟩)]) [1, 4, 6, 19] [4, 6] _ (Weak.refl _) trivial ?_ ?_ ?_
  · simp only [go_sem, Ret_eq Try.results56]
  · simp only [go_sem, Int.toNat_natCast, List.replicate_zero, Nat.sub_zero, Ret_eq Try.results56]
  · intro k s hk _ hs
    simp only [go_sem, Ret_eq Try.results56] at hs
    by_cases hka : k < n
    · obtain ⟨q, hq⟩ : ∃ q, n - k = q + 1 := ⟨n - k - 1, by omega⟩
      have hlk : (List.replicate k row).length = k := List.length_replicate
      rw [hq] at hs
      have htg0 := tab_get (A := List.replicate k row) (m := q)
      have hts := tab_set (A := List.replicate k row) (id := 43) (len := 1) (m := q)
      rw [hlk] at htg0 hts
      repeat' (first | simp only [go_sem, hs, Ret_eq Try.results56] | simp (disch := omega) only [arith, IntKind.bits, capMax, fill_len, elt_fill] | fail)
      refine awpI_for (m - 1) (fun j => True) (fun j => [(8, .v (.int .i64 ((j + 1 : Nat) : Int)))])
        (fun j => match j with | 0 => [(15, ⟨22, 1, tab (List.replicate k row) (q + 1)⟩)] | j + 1 => [(15, ⟨22, 1, tabR (List.replicate k row) 43 (j + 1) q⟩), (43, ⟨23, 1, ints .i16 (row.take (j + 1))⟩)]) [1, 4, 6, 7, 19, 20] [4, 6] _ (Weak.refl _) trivial ?_ ?_ ?_
      · simp only [go_sem, hs, Ret_eq Try.results56]
      · simp only [go_sem, hs, Ret_eq Try.results56]
      · intro j s2 hj2 _ hs2
        by_cases hja : j < m - 1
        · have et := take_snoc (a := row) (d := (0 : Int)) (k := j) (by omega)
          rw [hrg j hja] at et
          have hpr := plainCut_range (cells := m) (k := j) (by omega) (by omega)
          have ew : IntKind.i16.wrap (plainCut m j) = plainCut m j := IntWalk.i16_in _ (by omega)
          have hcut : ∀ y : Int, y = ((j : Int) + 1) * 65536 / (m : Int) → IntKind.i16.wrap (IntKind.i64.wrap (IntKind.i64.wrap y - 32768)) = plainCut m j := fun y hy => by
            have e0 : plainCut m j = y - 32768 := by rw [hy]; rfl
            rw [e0] at hpr ew ⊢
            rw [show IntKind.i64.wrap y = y from IntWalk.i64_in _ (by omega), show IntKind.i64.wrap (y - 32768) = y - 32768 from IntWalk.i64_in _ (by omega)]
            exact ew
          cases j with
          | zero =>
            simp only [go_sem, Ret_eq Try.results56] at hs2
            have hc0 := hcut (1 * 65536 / (m : Int)) (by simp)
            repeat' (first | simp only [go_sem, hs, hs2, htg0, hts, List.all_nil, List.all_cons, hc0, Ret_eq Try.results56] | simp (disch := omega) only [arith, IntKind.bits, capMax, fill_len, elt_fill] | (refine awpI_draw2 (id := 10) (.one false 8 (.one false 9 (.one false 10 (.one false 11 (.one false 12 (.one false 13 (.fam 3 [14] [42] [41] (.fam 4 [14] [42] [41] (.one true 2 (.one true 5 (.fam 6 [14] [42] [41] (.fam 7 [14] [42] [41] (.two 0 14 (.two 1 14 (.only 14 (.only 15 (.one false 16 (.only 17 .done)))) (.two 1 15 (.only 15 (.one false 16 (.only 17 .done))) (.one false 1 (.one false 16 (.only 17 .done))))) (.two 0 15 (.two 1 15 (.only 15 (.one false 16 (.only 17 .done))) (.one false 1 (.one false 16 (.only 17 .done)))) (.one false 0 (.one false 1 (.one false 16 (.only 17 .done)))))))))))))))))) mixed (by decide +kernel) (by decide +kernel) ?_) | (refine sch2I_two ?_ ?_) | (refine Again.up (by omega) ?_ ?_) | fail)
            all_goals (refine ⟨rfl, ?_⟩; rw [et]; rfl)
          | succ j =>
            simp only [go_sem, Ret_eq Try.results56] at hs2
            have hrg2 := tabR_get (A := List.replicate k row) (id := 43) (len := j + 1) (m := q)
            have hra := tabA_set (A := List.replicate k row) (id := 43) (len := j + 1 + 1) (m := q)
            have hag := tabA_get (A := List.replicate k row) (m := q)
            rw [hlk] at hrg2 hra hag
            have hc0 := hcut (((j + 1 + 1 : Nat) : Int) * 65536 / (m : Int)) (by push_cast; rfl)
            have htl : (row.take (j + 1)).length = j + 1 := by rw [List.length_take]; omega
            repeat' (first | simp only [go_sem, hs, hs2, hrg2, hra, hag, any_width, setPart_xr, List.all_nil, List.all_cons, hc0, et, htl, List.length_append, List.length_cons, List.length_nil, Ret_eq Try.results56] | simp (disch := omega) only [arith, IntKind.bits, capMax, fill_len, elt_fill] | (refine awpI_draw2 (id := 10) (.one false 8 (.one false 9 (.one false 10 (.one false 11 (.one false 12 (.one false 13 (.fam 3 [14] [42] [41] (.fam 4 [14] [42] [41] (.one true 2 (.one true 5 (.fam 6 [14] [42] [41] (.fam 7 [14] [42] [41] (.two 0 14 (.two 1 14 (.only 14 (.only 15 (.one false 16 (.only 17 .done)))) (.two 1 15 (.only 15 (.one false 16 (.only 17 .done))) (.one false 1 (.one false 16 (.only 17 .done))))) (.two 0 15 (.two 1 15 (.only 15 (.one false 16 (.only 17 .done))) (.one false 1 (.one false 16 (.only 17 .done)))) (.one false 0 (.one false 1 (.one false 16 (.only 17 .done)))))))))))))))))) mixed (by decide +kernel) (by decide +kernel) ?_) | (refine sch2I_two ?_ ?_) | (refine Again.up (by omega) ?_ ?_) | fail)
            all_goals skip
        · obtain rfl : j = m - 1 := by omega
          obtain ⟨p, hp⟩ : ∃ p, m - 1 = p + 1 := ⟨m - 2, by omega⟩
          rw [hp] at hs2
          simp only [go_sem, Ret_eq Try.results56] at hs2
          have htr : row.take (p + 1) = row := List.take_of_length_le (by omega)
          rw [htr] at hs2
          have hfz := tabR_frzs (A := List.replicate k row) (id := 43) (m := q) (l := row)
          rw [hrl, hp, ← List.replicate_succ'] at hfz
          repeat' (first | simp only [go_sem, hs, hs2, Ret_eq Try.results56] | simp (disch := omega) only [arith, IntKind.bits, capMax, fill_len, elt_fill] | fail)
          refine AgainB_frz 43 ⟨23, 1, ints .i16 row⟩ (by simp only [go_sem, hs, hs2, Ret_eq Try.results56]) (by simp only [go_sem, Ret_eq Try.results56]) (by simp only [go_sem, Ret_eq Try.results56]) hka trivial ?_
          have hm' : n - (k + 1) = q := by omega
          simp only [go_sem, hs, hs2, hfz, hm', Ret_eq Try.results56]
    · obtain rfl : k = n := by omega
      rw [Nat.sub_self] at hs
      repeat' (first | simp only [go_sem, hs, tab_end, List.length_replicate, List.take_replicate, Nat.min_self, Ret_eq Try.results56] | simp (disch := omega) only [arith, IntKind.bits, capMax, fill_len, elt_fill] | fail)
      all_goals skip
theorem plain_bad (n m : Int) (h : ¬ sizesOk n m) : Fun Try.prog 56 [.v (.int .i64 n), .v (.int .i64 m)] fun r => r = .tup [bookD 0 [], .v (.int .i64 1)] := by
  have hb := bwithin_fun n m
  rw [decide_eq_false h] at hb
  refine Fun.of_awpI Try.func56 rfl cal56 Try.ntmps56 (by simp) fun hwf => ?_
  simp only [D.wfs, D.wf, ints_length, ints_wfs, rows_length, rows_wfs, capMax, and_true, true_and] at hwf
  repeat' (first | simp only [go_sem, rows_nil, Ret_eq Try.results56] | (refine opCallI_rd (by simp only [go_sem, rows_nil, Ret_eq Try.results56]; first | done | rfl) (hb) (by rintro _ rfl; rfl) ?_; rintro _ rfl) | fail)
  all_goals rfl
end Go.Proofs.Ytpkampecmlpfmaa.T

end
section
set_option linter.unusedSimpArgs false
set_option linter.unusedVariables false
/- The chapter's example, walked. -/
namespace Go.Proofs.Ytpkampecmlpfmaa.T
open Go Go.VL Go.Proofs
set_option maxRecDepth 100000
set_option maxHeartbeats 8000000
theorem plainAll_fun (n m : Int) (h : sizesOk n m) : Fun Try.prog 56 [.v (.int .i64 n), .v (.int .i64 m)] fun r => r = .tup [bookD 0 (plainC n m), .v (.int .i64 0)] := by
  obtain ⟨⟨h1, h2⟩, h3, h4⟩ := h
  have e : plainC n m = List.replicate n.toNat (plainRow m) := if_pos ⟨⟨h1, h2⟩, h3, h4⟩
  rw [e]
  obtain ⟨a, rfl⟩ := Int.eq_ofNat_of_zero_le (show 0 ≤ n by omega)
  obtain ⟨b, rfl⟩ := Int.eq_ofNat_of_zero_le (show 0 ≤ m by omega)
  by_cases q : b = 1
  · subst q
    exact plain1_fun a (by omega)
  · exact plain_fun a b (by omega) (by omega)

theorem sameCuts_fun (a b : List Int) : Fun Try.prog 26 [.lst (ints .i16 a), .lst (ints .i16 b)] fun r => r = .v (.bool (decide (a = b))) := by
  refine Fun.of_awpI Try.func26 rfl cal26 Try.ntmps26 (by simp) fun hwf => ?_
  simp only [D.wfs, D.wf, ints_length, ints_wfs, rows_length, rows_wfs, capMax, and_true, true_and] at hwf
  repeat' (first | simp only [go_sem, Ret_eq Try.results26] | (with_reducible refine condI_bne (fun hq hqb => ?_) (fun hq hqb => ?_) <;> simp only [KP_mk, hqb]) | fail)
  · rw [decide_eq_false]; rintro rfl; omega
  · have hl : a.length = b.length := by omega
    refine awpI_for a.length (fun k => a.take k = b.take k) (fun k => [(13, .v (.int .i64 k))]) (fun _ => []) [0, 1, 12] [] _ (Weak.refl _) (by simp) ?_ ?_ ?_
    · simp only [go_sem, Ret_eq Try.results26]
    · simp only [go_sem, Ret_eq Try.results26]
    · intro k s hk hQ hs
      simp only [go_sem, Ret_eq Try.results26] at hs
      by_cases hka : k < a.length
      · repeat' (first | simp only [go_sem, hs, Ret_eq Try.results26] | simp (disch := omega) only [arith, IntKind.bits, capMax, fill_len, elt_fill] | (with_reducible refine condI_bne (fun hq hqb => ?_) (fun hq hqb => ?_) <;> simp only [KP_mk, hqb]) | (refine awpI_draw2 (id := 6) (.one false 0 (.one false 1 (.one false 2 (.one false 3 (.one false 4 (.one false 5 (.one false 6 (.one false 7 (.one false 8 .done))))))))) mixed (by decide +kernel) (by decide +kernel) ?_) | (refine Again.up (by omega) ?_ ?_) | fail)
        · rw [decide_eq_false]; rintro rfl; simp_all
        · exact take_eq_snoc hka (by omega) hQ (by assumption)
      · obtain rfl : k = a.length := by omega
        rw [List.take_length, hl, List.take_length] at hQ
        subst hQ
        repeat' (first | simp only [go_sem, hs, Ret_eq Try.results26] | simp (disch := omega) only [arith, IntKind.bits, capMax, fill_len, elt_fill] | fail)

theorem bookLive_fun : Fun Try.prog 50 [] fun r => r = .v (.bool true) := by
  have h0 := plainAll_fun 1 2 (by decide +kernel)
  rw [show plainC 1 2 = [[0]] by decide +kernel] at h0
  have h1 := sameCuts_fun [0] [0]
  rw [decide_eq_true rfl] at h1
  have h2 := bookSame_fun 0 [[0]] 0 [[0]]
  rw [decide_eq_true ⟨rfl, rfl⟩] at h2
  simp only [bookD, rows_cons, rows_nil, ints_cons, ints_nil] at h0 h1 h2
  refine Fun.of_awpI Try.func50 rfl cal50 Try.ntmps50 (by simp) fun hwf => ?_
  simp only [D.wfs, D.wf, ints_length, ints_wfs, rows_length, rows_wfs, capMax, and_true, true_and] at hwf
  repeat' (first | simp only [go_sem, beq_self_eq_true, Ret_eq Try.results50] | (refine opCallI_gv (by simp only [go_sem, beq_self_eq_true, Ret_eq Try.results50]; first | done | rfl) (h0) ?_; rintro _ rfl) | (refine opCallI_rd (by simp only [go_sem, beq_self_eq_true, Ret_eq Try.results50]; first | done | rfl) (h1) (by rintro _ rfl; rfl) ?_; rintro _ rfl) | (refine opCallI_rd (by simp only [go_sem, beq_self_eq_true, Ret_eq Try.results50]; first | done | rfl) (h2) (by rintro _ rfl; rfl) ?_; rintro _ rfl) | fail)
end Go.Proofs.Ytpkampecmlpfmaa.T

end
section
set_option linter.unusedSimpArgs false
set_option linter.unusedVariables false
/- Ways, plainly. -/
namespace Go.Proofs.Ytpkampecmlpfmaa.T
open Go Go.VL Go.Proofs
theorem bothW_nat (a b : Int) : (bothW a b).toNat = mapW add4 31 a.toNat b.toNat := by unfold bothW; rw [Int.toNat_natCast]
theorem notW_nat (a : Int) : (notW a).toNat = mapW neg4 31 a.toNat 0 := by unfold notW; rw [Int.toNat_natCast]
theorem dg_both {a b : Int} {i : Nat} (h : i < 31) : dg (bothW a b).toNat i = (dg a.toNat i + dg b.toNat i) % 4 := by rw [bothW_nat, dg_mapW _ _ _ _ _ h]; rfl
theorem dg_not {a : Int} {i : Nat} (h : i < 31) : dg (notW a).toNat i = (4 - dg a.toNat i) % 4 := by rw [notW_nat, dg_mapW _ _ _ _ _ h]; rfl
theorem dg_zero_l (i : Nat) : dg 0 i = 0 := by simp [dg]
theorem way_ext {a b : Int} (ha : 0 ≤ a ∧ a ≤ maxTwist) (hb : 0 ≤ b ∧ b ≤ maxTwist) (h : ∀ i, i < 31 → dg a.toNat i = dg b.toNat i) : a = b := by
  have : a.toNat = b.toNat := dg_ext 31 (by rw [pow31]; unfold maxTwist at ha; omega) (by rw [pow31]; unfold maxTwist at hb; omega) h
  omega
theorem zero_way : (0 : Int) ≤ 0 ∧ (0 : Int) ≤ maxTwist := by decide
theorem both_comm (a b : Int) : bothW a b = bothW b a := way_ext (bothW_range a b) (bothW_range b a) fun i hi => by rw [dg_both hi, dg_both hi, Nat.add_comm]
theorem both_assoc (a b c : Int) : bothW (bothW a b) c = bothW a (bothW b c) := way_ext (bothW_range _ _) (bothW_range _ _) fun i hi => by
  rw [dg_both hi, dg_both hi, dg_both hi, dg_both hi]; omega
theorem both_not (a : Int) : bothW a (notW a) = 0 := way_ext (bothW_range _ _) zero_way fun i hi => by
  have := dg_lt a.toNat i
  rw [dg_both hi, dg_not hi]; simp only [Int.toNat_zero, dg_zero_l]; omega
theorem both_four (a : Int) : bothW (bothW a a) (bothW a a) = 0 := way_ext (bothW_range _ _) zero_way fun i hi => by
  rw [dg_both hi, dg_both hi]; simp only [Int.toNat_zero, dg_zero_l]; omega
theorem both_zero {a : Int} (ha : 0 ≤ a ∧ a ≤ maxTwist) : bothW a 0 = a := way_ext (bothW_range _ _) ha fun i hi => by
  have := dg_lt a.toNat i
  rw [dg_both hi]; simp only [Int.toNat_zero, dg_zero_l]; omega
theorem way_zero : wayErr 0 = 0 := by decide
theorem way_both (a b : Int) : wayErr (bothW a b) = 0 := way_even (bothW_range a b)
theorem way_not (a : Int) : wayErr (notW a) = 0 := way_even (notW_range a)
end Go.Proofs.Ytpkampecmlpfmaa.T

end
section
set_option linter.unusedSimpArgs false
set_option linter.unusedVariables false
/- Vectors turned, plainly. -/
namespace Go.Proofs.Ytpkampecmlpfmaa.T
open Go Go.VL Go.Proofs
theorem turnAt_out {v : List Int} {w i : Nat} (h : ¬ (i < 62 ∧ i / 2 * 2 + 1 < v.length)) : turnAt v w i = v.getD i 0 := by unfold turnAt; rw [if_neg h]
theorem turn_split (n i : Nat) : (∃ k, k < 31 ∧ 2 * k + 1 < n ∧ (i = 2 * k ∨ i = 2 * k + 1)) ∨ ¬ (i < 62 ∧ i / 2 * 2 + 1 < n) := by
  by_cases h : i < 62 ∧ i / 2 * 2 + 1 < n
  · exact .inl ⟨i / 2, by omega, by omega, by omega⟩
  · exact .inr h
theorem rot_comp {d e f : Nat} (hd : d < 4) (he : e < 4) (hf : f = (d + e) % 4) (x y : Int) : rx e (rx d x y) (ry d x y) = rx f x y ∧ ry e (rx d x y) (ry d x y) = ry f x y := by
  subst hf
  have h1 : d = 0 ∨ d = 1 ∨ d = 2 ∨ d = 3 := by omega
  have h2 : e = 0 ∨ e = 1 ∨ e = 2 ∨ e = 3 := by omega
  rcases h1 with rfl | rfl | rfl | rfl <;> rcases h2 with rfl | rfl | rfl | rfl <;> simp [rx, ry, cs, sn]
theorem turn_turn {v : List Int} {a b c : Nat} (h : ∀ k, k < 31 → dg c k = (dg a k + dg b k) % 4) : turnL (turnL v a) b = turnL v c := by
  refine ext_getD (d := 0) (by rw [turnL_length, turnL_length, turnL_length]) fun i hi => ?_
  rw [turnL_length, turnL_length] at hi
  rw [turnL_getD (by rw [turnL_length]; exact hi), turnL_getD hi]
  rcases turn_split v.length i with ⟨k, hk, hl, hi2⟩ | ho
  · obtain ⟨r1, r2⟩ := rot_comp (dg_lt a k) (dg_lt b k) (h k hk) (v.getD (2 * k) 0) (v.getD (2 * k + 1) 0)
    rcases hi2 with rfl | rfl
    · rw [turnAt_even (by rw [turnL_length]; exact hl) hk, turnAt_even hl hk, turnL_getD (by omega), turnL_getD (by omega), turnAt_even hl hk, turnAt_odd hl hk, r1]
    · rw [turnAt_odd (by rw [turnL_length]; exact hl) hk, turnAt_odd hl hk, turnL_getD (by omega), turnL_getD (by omega), turnAt_even hl hk, turnAt_odd hl hk, r2]
  · rw [turnAt_out (by rw [turnL_length]; exact ho), turnAt_out ho, turnL_getD hi, turnAt_out ho]
theorem turn_zero {v : List Int} : turnL v 0 = v := by
  refine ext_getD (d := 0) turnL_length fun i hi => ?_
  rw [turnL_length] at hi
  rw [turnL_getD hi]
  rcases turn_split v.length i with ⟨k, hk, hl, rfl | rfl⟩ | ho
  · rw [turnAt_even hl hk, dg_zero_l]; simp [rx, cs, sn]
  · rw [turnAt_odd hl hk, dg_zero_l]; simp [ry, cs, sn]
  · rw [turnAt_out ho]
theorem turn_both {v : List Int} {a b : Int} : turnL (turnL v a.toNat) b.toNat = turnL v (bothW a b).toNat := turn_turn fun k hk => dg_both hk
theorem turn_back {v : List Int} {a : Int} : turnL (turnL v a.toNat) (notW a).toNat = v := by
  rw [turn_both, both_not]; exact turn_zero
theorem dg_two : ∀ k, k < 31 → dg 3074457345618258602 k = 2 := by decide
theorem turn_half {v : List Int} {i : Nat} (hi : i < v.length) : (turnL v 3074457345618258602).getD i 0 = if i < 62 ∧ i / 2 * 2 + 1 < v.length then - v.getD i 0 else v.getD i 0 := by
  rw [turnL_getD hi]
  rcases turn_split v.length i with ⟨k, hk, hl, rfl | rfl⟩ | ho
  · rw [turnAt_even hl hk, dg_two k hk, if_pos (by omega)]; simp [rx, cs, sn]
  · rw [turnAt_odd hl hk, dg_two k hk, if_pos (by omega)]; simp [ry, cs, sn]
  · rw [turnAt_out ho, if_neg ho]
-- how far apart
theorem sq_rot {d : Nat} (hd : d < 4) (x y x' y' : Int) : sq (rx d x y) (rx d x' y') + sq (ry d x y) (ry d x' y') = sq x x' + sq y y' := by
  have h1 : d = 0 ∨ d = 1 ∨ d = 2 ∨ d = 3 := by omega
  unfold sq
  rcases h1 with rfl | rfl | rfl | rfl <;> simp [rx, ry, cs, sn] <;> grind
theorem dot_rot {d : Nat} (hd : d < 4) (x y x' y' : Int) : rx d x y * rx d x' y' + ry d x y * ry d x' y' = x * x' + y * y' := by
  have h1 : d = 0 ∨ d = 1 ∨ d = 2 ∨ d = 3 := by omega
  rcases h1 with rfl | rfl | rfl | rfl <;> simp [rx, ry, cs, sn] <;> grind
theorem sumN_turn {ρ : Int → Int → Int} (hρ : ∀ d, d < 4 → ∀ x y x' y', ρ (rx d x y) (rx d x' y') + ρ (ry d x y) (ry d x' y') = ρ x x' + ρ y y') {a b : List Int} {w : Nat} (hl : b.length = a.length) :
    ∀ k, 2 * k ≤ a.length → sumN ρ (turnL a w) (turnL b w) (2 * k) = sumN ρ a b (2 * k)
  | 0, _ => rfl
  | k + 1, h => by
    have ih := sumN_turn hρ (w := w) hl k (by omega)
    rw [show 2 * (k + 1) = 2 * k + 1 + 1 by omega]
    simp only [sumN]
    rw [ih, turnL_getD (by omega), turnL_getD (by omega), turnL_getD (by omega), turnL_getD (by omega)]
    by_cases hk : k < 31
    · rw [turnAt_even (by omega) hk, turnAt_even (by omega) hk, turnAt_odd (by omega) hk, turnAt_odd (by omega) hk]
      have := hρ _ (dg_lt w k) (a.getD (2 * k) 0) (a.getD (2 * k + 1) 0) (b.getD (2 * k) 0) (b.getD (2 * k + 1) 0)
      omega
    · rw [turnAt_out (by omega), turnAt_out (by omega), turnAt_out (by omega), turnAt_out (by omega)]
theorem sumN_turn_all {ρ : Int → Int → Int} (hρ : ∀ d, d < 4 → ∀ x y x' y', ρ (rx d x y) (rx d x' y') + ρ (ry d x y) (ry d x' y') = ρ x x' + ρ y y') {a b : List Int} {w : Nat} (hl : b.length = a.length) :
    sumN ρ (turnL a w) (turnL b w) a.length = sumN ρ a b a.length := by
  have h := sumN_turn hρ (w := w) hl (a.length / 2) (by omega)
  by_cases h2 : a.length % 2 = 0
  · rwa [show 2 * (a.length / 2) = a.length by omega] at h
  · rw [show a.length = 2 * (a.length / 2) + 1 by omega]
    simp only [sumN]
    rw [h, turnL_getD (by omega), turnL_getD (by omega), turnAt_out (by omega), turnAt_out (by omega)]
-- cut
theorem dg_shift (w p i : Nat) : dg (w / 4 ^ p) i = dg w (p + i) := by
  unfold dg; rw [Nat.div_div_eq_div_mul, ← Nat.pow_add]
theorem turn_cut {v : List Int} {w p : Nat} (hv : v.length ≤ 62) (hp : 2 * p < v.length) : turnL v w = turnL (v.take (2 * p)) w ++ turnL (v.drop (2 * p)) (w / 4 ^ p) := by
  refine ext_getD (d := 0) (by rw [List.length_append, turnL_length, turnL_length, turnL_length, List.length_take, List.length_drop]; omega) fun i hi => ?_
  rw [turnL_length] at hi
  have gt : ∀ j, j < 2 * p → (v.take (2 * p)).getD j 0 = v.getD j 0 := fun j hj => by simp [List.getD, List.getElem?_take, hj]
  have gd : ∀ j, (v.drop (2 * p)).getD j 0 = v.getD (2 * p + j) 0 := fun j => by simp [List.getD]
  have hlt : (v.take (2 * p)).length = 2 * p := by simp; omega
  have hld : (v.drop (2 * p)).length = v.length - 2 * p := by simp
  rw [turnL_getD hi]
  by_cases h : i < 2 * p
  · rw [show (turnL (v.take (2 * p)) w ++ turnL (v.drop (2 * p)) (w / 4 ^ p)).getD i 0 = (turnL (v.take (2 * p)) w).getD i 0 by
      simp only [List.getD]; rw [List.getElem?_append_left (by rw [turnL_length, hlt]; exact h)]]
    rw [turnL_getD (by rw [hlt]; exact h)]
    rcases turn_split v.length i with ⟨k, hk, hl, rfl | rfl⟩ | ho
    · rw [turnAt_even hl hk, turnAt_even (by omega) hk, gt _ (by omega), gt _ (by omega)]
    · rw [turnAt_odd hl hk, turnAt_odd (by omega) hk, gt _ (by omega), gt _ (by omega)]
    · omega
  · rw [show (turnL (v.take (2 * p)) w ++ turnL (v.drop (2 * p)) (w / 4 ^ p)).getD i 0 = (turnL (v.drop (2 * p)) (w / 4 ^ p)).getD (i - 2 * p) 0 by
      simp only [List.getD]; rw [List.getElem?_append_right (by rw [turnL_length, hlt]; omega), turnL_length, hlt]]
    rw [turnL_getD (by omega)]
    rcases turn_split v.length i with ⟨k, hk, hl, rfl | rfl⟩ | ho
    · rw [turnAt_even hl hk, show 2 * k - 2 * p = 2 * (k - p) by omega, turnAt_even (by omega) (by omega), gd, gd, dg_shift, show p + (k - p) = k by omega, show 2 * p + 2 * (k - p) = 2 * k by omega, show 2 * p + (2 * (k - p) + 1) = 2 * k + 1 by omega]
    · rw [turnAt_odd hl hk, show 2 * k + 1 - 2 * p = 2 * (k - p) + 1 by omega, turnAt_odd (by omega) (by omega), gd, gd, dg_shift, show p + (k - p) = k by omega, show 2 * p + 2 * (k - p) = 2 * k by omega, show 2 * p + (2 * (k - p) + 1) = 2 * k + 1 by omega]
    · rw [turnAt_out ho, turnAt_out (by omega), gd, show 2 * p + (i - 2 * p) = i by omega]
end Go.Proofs.Ytpkampecmlpfmaa.T

end
section
set_option linter.unusedSimpArgs false
set_option linter.unusedVariables false
/- Laws on books of samples: of one that is turned. -/
namespace Go.Proofs.Ytpkampecmlpfmaa.T
open Go Go.VL Go.Proofs
set_option maxRecDepth 100000
set_option maxHeartbeats 8000000
def fewS8 (sample : List (List Int)) : Prop := (∀ v ∈ sample, v.length ≤ 100) ∧ (sample.length ≤ 60 ∨ 4096 < sample.length ∧ sample.length ≤ 4100)
instance (sample : List (List Int)) : Decidable (fewS8 sample) := by unfold fewS8; infer_instance

theorem few8_fun (sample : List (List Int)) : Fun Try.prog 65 [.lst (rows .i16 sample)] fun r => r = .v (.bool (decide (fewS8 sample))) := by
  refine Fun.of_awpI Try.func65 rfl cal65 Try.ntmps65 (by simp) fun hwf => ?_
  simp only [D.wfs, D.wf, ints_length, ints_wfs, rows_length, rows_wfs, capMax, and_true, true_and] at hwf
  repeat' (first | simp only [go_sem, Ret_eq Try.results65] | fail)
  refine awpI_for sample.length (fun k => ∀ v ∈ sample.take k, v.length ≤ 100) (fun k => [(7, .v (.int .i64 k))]) (fun _ => []) [0, 5, 6] [] _ (Weak.refl _) (by simp) ?_ ?_ ?_
  · simp only [go_sem, Ret_eq Try.results65]
  · simp only [go_sem, Ret_eq Try.results65]
  · intro k s hk hQ hs
    simp only [go_sem, Ret_eq Try.results65] at hs
    by_cases hka : k < sample.length
    · by_cases q : (sample.getD k []).length ≤ 100
      · repeat' (first | simp only [go_sem, hs, Ret_eq Try.results65] | simp (disch := omega) only [arith, IntKind.bits, capMax, fill_len, elt_fill] | (refine Again.up (by omega) ?_ ?_) | fail)
        rw [take_snoc (d := ([] : List Int)) hka]
        intro v hv
        rcases List.mem_append.1 hv with z | z
        · exact hQ v z
        · rw [List.mem_singleton.1 z]; exact q
      · repeat' (first | simp only [go_sem, hs, Ret_eq Try.results65] | simp (disch := omega) only [arith, IntKind.bits, capMax, fill_len, elt_fill] | fail)
        rw [decide_eq_false]
        exact fun z => q (z.1 _ (getD_mem hka))
    · obtain rfl : k = sample.length := by omega
      rw [List.take_length] at hQ
      by_cases q1 : sample.length ≤ 60
      · repeat' (first | simp only [go_sem, hs, Ret_eq Try.results65] | simp (disch := omega) only [arith, IntKind.bits, capMax, fill_len, elt_fill] | fail)
        rw [decide_eq_true]
        exact ⟨hQ, .inl q1⟩
      · by_cases q2 : 4096 < sample.length
        · by_cases q3 : sample.length ≤ 4100
          · repeat' (first | simp only [go_sem, hs, Ret_eq Try.results65] | simp (disch := omega) only [arith, IntKind.bits, capMax, fill_len, elt_fill] | fail)
            rw [decide_eq_true]
            exact ⟨hQ, .inr ⟨q2, q3⟩⟩
          · repeat' (first | simp only [go_sem, hs, Ret_eq Try.results65] | simp (disch := omega) only [arith, IntKind.bits, capMax, fill_len, elt_fill] | fail)
            rw [decide_eq_false]
            exact fun z => by have := z.2; omega
        · repeat' (first | simp only [go_sem, hs, Ret_eq Try.results65] | simp (disch := omega) only [arith, IntKind.bits, capMax, fill_len, elt_fill] | fail)
          rw [decide_eq_false]
          exact fun z => by have := z.2; omega
theorem trC_some {w : Int} {cuts : List (List Int)} {way : Int} {sample : List (List Int)} (h : trE w cuts way sample = 0) (h0 : sample ≠ []) : trC w cuts way sample = trCuts cuts.length (manyOf cuts + 1) way sample := by unfold trC; rw [if_pos h, if_neg h0]
theorem trW_some {w : Int} {cuts : List (List Int)} {way : Int} {sample : List (List Int)} (h : trE w cuts way sample = 0) (h0 : sample ≠ []) : trW w cuts way sample = way := by unfold trW; rw [if_pos h, if_neg h0]
theorem turned_zero (sample : List (List Int)) : turnedL 0 sample = sample := by
  unfold turnedL
  have : (fun v => turnL v (0 : Int).toNat) = fun v => v := by funext v; exact turn_zero
  rw [this, List.map_id']
theorem turned_ok {n : Nat} {way : Int} {sample : List (List Int)} (hs : sampleOk n sample) (hI : I16r sample) : sampleOk n (turnedL way sample) ∧ I16r (turnedL way sample) := by
  constructor
  · intro u hu
    obtain ⟨v, hv, rfl⟩ := List.mem_map.1 hu
    exact ⟨vecErr_zero.2 (turnL_ok (hI v hv) (vecErr_zero.1 (hs v hv).1) _).1, by rw [turnL_length]; exact (hs v hv).2⟩
  · intro u hu
    obtain ⟨v, hv, rfl⟩ := List.mem_map.1 hu
    exact (turnL_ok (hI v hv) (vecErr_zero.1 (hs v hv).1) _).2
theorem turned_length {way : Int} {sample : List (List Int)} : (turnedL way sample).length = sample.length := by simp [turnedL]
theorem turned_at {way : Int} {sample : List (List Int)} {k : Nat} (h : k < sample.length) : (turnedL way sample).getD k [] = turnL (sample.getD k []) way.toNat := by simp [turnedL, List.getD, h]

theorem bookTurned_law (hS : Sorted16) (w : Int) (cuts : List (List Int)) (way : Int) (sample : List (List Int)) (hI : I16r sample) : Fun Try.prog 17 [bookD w cuts, .v (.int .i64 way), .lst (rows .i16 sample)] fun r => r = .v (.bool true) := by
  have hf := few_fun w cuts
  have hf8 := few8_fun sample
  have hlv := bookLive_fun
  by_cases g1 : fewB cuts = true
  · rw [g1] at hf
    by_cases g2 : sample.length ≤ 60
    · by_cases g3 : fewS8 sample
      · rw [decide_eq_true g3] at hf8
        by_cases g4 : sample = []
        · subst g4
          refine Fun.of_awpI Try.func17 rfl cal17 Try.ntmps17 (by simp) fun hwf => ?_
          simp only [D.wfs, D.wf, ints_length, ints_wfs, rows_length, rows_wfs, capMax, and_true, true_and] at hwf
          repeat' (first | simp only [go_sem, Ret_eq Try.results17] | (refine opCallI_rd (by simp only [go_sem, Ret_eq Try.results17]; first | done | rfl) (hlv) (by rintro _ rfl; rfl) ?_; rintro _ rfl) | (refine opCallI_rd (by simp only [go_sem, Ret_eq Try.results17]; first | done | rfl) (hf) (by rintro _ rfl; rfl) ?_; rintro _ rfl) | (refine opCallI_rd (by simp only [go_sem, Ret_eq Try.results17]; first | done | rfl) (hf8) (by rintro _ rfl; rfl) ?_; rintro _ rfl) | fail)
        · have hl1 : 1 ≤ sample.length := by
            cases sample with
            | nil => exact absurd rfl g4
            | cons a l => simp
          have hl1b : ((sample.length : Int) == 0) = false := beq_eq_false_iff_ne.2 (by omega)
          have ht := bookTrain_fun hS w cuts way sample hI
          by_cases hE : trE w cuts way sample = 0
          · obtain ⟨e1, e2, e3, e4⟩ := trE_zero.1 hE
            obtain ⟨w1, w2⟩ := wayErr_zero e2
            obtain ⟨o1, o2⟩ := turned_ok (way := way) e3 hI
            rw [hE, trC_some hE g4, trW_some hE g4] at ht
            have hTl := turned_length (way := way) (sample := sample)
            have hT0 : turnedL way sample ≠ [] := fun q => by rw [q] at hTl; simp at hTl; omega
            have hE2 : trE w cuts 0 (turnedL way sample) = 0 := trE_zero.2 ⟨e1, rfl, o1, by omega⟩
            have ht2 := bookTrain_fun hS w cuts 0 (turnedL way sample) o2
            rw [hE2, trC_some hE2 hT0, trW_some hE2 hT0, show trCuts cuts.length (manyOf cuts + 1) 0 (turnedL way sample) = trCuts cuts.length (manyOf cuts + 1) way sample by unfold trCuts; rw [turned_zero]] at ht2
            have hsm := bookSame_fun way (trCuts cuts.length (manyOf cuts + 1) way sample) way (trCuts cuts.length (manyOf cuts + 1) way sample)
            rw [decide_eq_true ⟨rfl, rfl⟩] at hsm
            generalize trCuts cuts.length (manyOf cuts + 1) way sample = C at *
            refine Fun.of_awpI Try.func17 rfl cal17 Try.ntmps17 (by simp) fun hwf => ?_
            simp only [D.wfs, D.wf, ints_length, ints_wfs, rows_length, rows_wfs, capMax, and_true, true_and] at hwf
            repeat' (first | simp only [go_sem, hl1b, beq_self_eq_true, bne_self_eq_false, Ret_eq Try.results17] | simp (disch := omega) only [arith, IntKind.bits, capMax, fill_len, elt_fill] | (refine opCallI_rd (by simp only [go_sem, hl1b, beq_self_eq_true, bne_self_eq_false, Ret_eq Try.results17]; first | done | rfl) (hlv) (by rintro _ rfl; rfl) ?_; rintro _ rfl) | (refine opCallI_rd (by simp only [go_sem, hl1b, beq_self_eq_true, bne_self_eq_false, Ret_eq Try.results17]; first | done | rfl) (hf) (by rintro _ rfl; rfl) ?_; rintro _ rfl) | (refine opCallI_rd (by simp only [go_sem, hl1b, beq_self_eq_true, bne_self_eq_false, Ret_eq Try.results17]; first | done | rfl) (hf8) (by rintro _ rfl; rfl) ?_; rintro _ rfl) | (refine opCallI_gv (by simp only [go_sem, hl1b, beq_self_eq_true, bne_self_eq_false, Ret_eq Try.results17]; first | done | rfl) (ht) ?_; rintro _ rfl) | fail)
            refine awpI_for sample.length (fun k => True) (fun k => [(10, .ref 66 k), (51, .v (.int .i64 k))]) (fun k => [(66, ⟨46, 1, rows .i16 ((turnedL way sample).take k)⟩)]) [1, 3, 7, 8, 49, 50] [3, 8] _ (Weak.adopt (j := 10) 66 46 1 (by simp only [go_sem, Ret_eq Try.results17]) (by simp only [go_sem, Ret_eq Try.results17]) (by decide)) trivial ?_ ?_ ?_
            · simp only [go_sem, Ret_eq Try.results17]
            · simp only [go_sem, List.take_zero, rows_nil, Ret_eq Try.results17]
            · intro k s hk _ hs
              simp only [go_sem, Ret_eq Try.results17] at hs
              by_cases hka : k < sample.length
              · have hvk := e3 _ (getD_mem (d := []) hka)
                have htu := turn_fun (sample.getD k []) way (hI.getD k)
                rw [turnOut_ok ⟨hvk.1, w1, w2⟩, turnErr_iff.2 ⟨hvk.1, w1, w2⟩, ← turned_at hka] at htu
                have e := take_snoc (a := turnedL way sample) (d := ([] : List Int)) (k := k) (by omega)
                have htk : ((turnedL way sample).take k).length = k := by rw [List.length_take]; omega
                repeat' (first | simp only [go_sem, hs, e, htk, List.length_append, List.length_cons, List.length_nil, bne_self_eq_false, Ret_eq Try.results17] | simp (disch := omega) only [arith, IntKind.bits, capMax, fill_len, elt_fill] | (refine Again.up (by omega) ?_ ?_) | (refine opCallI_gv (by simp only [go_sem, hs, e, htk, List.length_append, List.length_cons, List.length_nil, bne_self_eq_false, Ret_eq Try.results17]; first | done | rfl) (htu) ?_; rintro _ rfl) | fail)
                all_goals skip
              · obtain rfl : k = sample.length := by omega
                have hta : (turnedL way sample).take sample.length = turnedL way sample := List.take_of_length_le (by omega)
                repeat' (first | simp only [go_sem, hs, hta, hTl, beq_self_eq_true, Ret_eq Try.results17] | simp (disch := omega) only [arith, IntKind.bits, capMax, fill_len, elt_fill] | (refine opCallI_gv (by simp only [go_sem, hs, hta, hTl, beq_self_eq_true, Ret_eq Try.results17]; first | done | rfl) (ht2) ?_; rintro _ rfl) | (refine opCallI_rd (by simp only [go_sem, hs, hta, hTl, beq_self_eq_true, Ret_eq Try.results17]; first | done | rfl) (hsm) (by rintro _ rfl; rfl) ?_; rintro _ rfl) | fail)
                all_goals skip
          · have hEb : (trE w cuts way sample != 0) = true := by rw [bne, beq_eq_false_iff_ne.2 hE]; rfl
            refine Fun.of_awpI Try.func17 rfl cal17 Try.ntmps17 (by simp) fun hwf => ?_
            simp only [D.wfs, D.wf, ints_length, ints_wfs, rows_length, rows_wfs, capMax, and_true, true_and] at hwf
            repeat' (first | simp only [go_sem, hl1b, hEb, Ret_eq Try.results17] | simp (disch := omega) only [arith, IntKind.bits, capMax, fill_len, elt_fill] | (refine opCallI_rd (by simp only [go_sem, hl1b, hEb, Ret_eq Try.results17]; first | done | rfl) (hlv) (by rintro _ rfl; rfl) ?_; rintro _ rfl) | (refine opCallI_rd (by simp only [go_sem, hl1b, hEb, Ret_eq Try.results17]; first | done | rfl) (hf) (by rintro _ rfl; rfl) ?_; rintro _ rfl) | (refine opCallI_rd (by simp only [go_sem, hl1b, hEb, Ret_eq Try.results17]; first | done | rfl) (hf8) (by rintro _ rfl; rfl) ?_; rintro _ rfl) | (refine opCallI_gv (by simp only [go_sem, hl1b, hEb, Ret_eq Try.results17]; first | done | rfl) (ht) ?_; rintro _ rfl) | fail)
      · rw [decide_eq_false g3] at hf8
        refine Fun.of_awpI Try.func17 rfl cal17 Try.ntmps17 (by simp) fun hwf => ?_
        simp only [D.wfs, D.wf, ints_length, ints_wfs, rows_length, rows_wfs, capMax, and_true, true_and] at hwf
        repeat' (first | simp only [go_sem, Ret_eq Try.results17] | simp (disch := omega) only [arith, IntKind.bits, capMax, fill_len, elt_fill] | (refine opCallI_rd (by simp only [go_sem, Ret_eq Try.results17]; first | done | rfl) (hlv) (by rintro _ rfl; rfl) ?_; rintro _ rfl) | (refine opCallI_rd (by simp only [go_sem, Ret_eq Try.results17]; first | done | rfl) (hf) (by rintro _ rfl; rfl) ?_; rintro _ rfl) | (refine opCallI_rd (by simp only [go_sem, Ret_eq Try.results17]; first | done | rfl) (hf8) (by rintro _ rfl; rfl) ?_; rintro _ rfl) | fail)
    · skip
      refine Fun.of_awpI Try.func17 rfl cal17 Try.ntmps17 (by simp) fun hwf => ?_
      simp only [D.wfs, D.wf, ints_length, ints_wfs, rows_length, rows_wfs, capMax, and_true, true_and] at hwf
      repeat' (first | simp only [go_sem, Ret_eq Try.results17] | simp (disch := omega) only [arith, IntKind.bits, capMax, fill_len, elt_fill] | (refine opCallI_rd (by simp only [go_sem, Ret_eq Try.results17]; first | done | rfl) (hlv) (by rintro _ rfl; rfl) ?_; rintro _ rfl) | (refine opCallI_rd (by simp only [go_sem, Ret_eq Try.results17]; first | done | rfl) (hf) (by rintro _ rfl; rfl) ?_; rintro _ rfl) | fail)
  · rw [show fewB cuts = false by simpa using g1] at hf
    refine Fun.of_awpI Try.func17 rfl cal17 Try.ntmps17 (by simp) fun hwf => ?_
    simp only [D.wfs, D.wf, ints_length, ints_wfs, rows_length, rows_wfs, capMax, and_true, true_and] at hwf
    repeat' (first | simp only [go_sem, Ret_eq Try.results17] | (refine opCallI_rd (by simp only [go_sem, Ret_eq Try.results17]; first | done | rfl) (hlv) (by rintro _ rfl; rfl) ?_; rintro _ rfl) | (refine opCallI_rd (by simp only [go_sem, Ret_eq Try.results17]; first | done | rfl) (hf) (by rintro _ rfl; rfl) ?_; rintro _ rfl) | fail)
end Go.Proofs.Ytpkampecmlpfmaa.T

end
section
set_option linter.unusedSimpArgs false
set_option linter.unusedVariables false
/- A book of a sample may be; how often each number was met, plainly. -/
namespace Go.Proofs.Ytpkampecmlpfmaa.T
open Go Go.VL Go.Proofs
theorem train_ok {w : Int} {cuts : List (List Int)} {way : Int} {sample : List (List Int)} (h : trE w cuts way sample = 0) (h0 : sample ≠ []) (hI : I16r sample) :
    bookErr way (trCuts cuts.length (manyOf cuts + 1) way sample) = 0 ∧ manyOf (trCuts cuts.length (manyOf cuts + 1) way sample) = manyOf cuts ∧
      ∀ i, i < cuts.length → rkE (colOf (turnedL way sample) i) ((manyOf cuts + 1 : Nat) : Int) = 0 ∧ (trCuts cuts.length (manyOf cuts + 1) way sample).getD i [] = cutsL (colOf (turnedL way sample) i) (manyOf cuts + 1) := by
  obtain ⟨e1, e2, e3, e4⟩ := trE_zero.1 h
  obtain ⟨b1, b2, b3, b4⟩ := bookErr_zero.1 e1
  have hm := book_many e1
  have hl : 1 ≤ sample.length := by
    cases sample with
    | nil => exact absurd rfl h0
    | cons a l => simp
  have hTl : (turnedL way sample).length = sample.length := by simp [turnedL]
  have hr : ∀ i, i < cuts.length → rkE (colOf (turnedL way sample) i) ((manyOf cuts + 1 : Nat) : Int) = 0 := fun i hi =>
    rkE_zero.2 ⟨by rw [colOf_length, hTl]; omega, by omega, col_ok e3 hI hi, by rw [colOf_length, hTl]; omega⟩
  have hml : manyOf (trCuts cuts.length (manyOf cuts + 1) way sample) = manyOf cuts := by
    unfold manyOf
    rw [trCuts_at b1, cutsL_length]; rfl
  refine ⟨bookErr_zero.2 ⟨by rw [trCuts_length]; exact b1, by rw [trCuts_length]; exact b2, e2, ?_⟩, hml, fun i hi => ⟨hr i hi, trCuts_at hi⟩⟩
  rw [List.any_eq_false]
  intro c hc
  obtain ⟨i, hi, rfl⟩ := List.mem_map.1 hc
  have hi := List.mem_range.1 hi
  rw [hml]
  unfold oddCut
  have h1 := cutsOk_cutsL (l := colOf (turnedL way sample) i) (n := manyOf cuts + 1) (hr i hi)
  rw [h1, cutsL_length]
  simp
theorem setN_keys {a d : Int} : ∀ l : List (Int × Int), (setN a d l).map (fun p => p.1) = if a ∈ l.map (fun p => p.1) then l.map (fun p => p.1) else l.map (fun p => p.1) ++ [a]
  | [] => by simp [setN]
  | (b, e) :: r => by
    have := setN_keys (a := a) (d := d) r
    rw [setN]
    by_cases h : a = b
    · rw [if_pos h, if_pos (by simp [h]), h]; rfl
    · rw [if_neg h, List.map_cons, this]
      by_cases h2 : a ∈ r.map (fun p => p.1)
      · rw [if_pos h2, if_pos (by rw [List.map_cons]; exact List.mem_cons_of_mem _ h2)]; rfl
      · rw [if_neg h2, if_neg (by rw [List.map_cons, List.mem_cons]; exact fun q => q.elim h h2)]; rfl
theorem lookN_setN {a b d : Int} : ∀ l, lookN a (setN b d l) = if a = b then some d else lookN a l
  | [] => by simp [setN, lookN]
  | (c, e) :: r => by
    have := lookN_setN (a := a) (b := b) (d := d) r
    unfold setN
    by_cases h : b = c
    · rw [if_pos h, lookN, lookN]
      by_cases q : a = b
      · rw [if_pos q, if_pos q]
      · rw [if_neg q, if_neg q, if_neg (by rw [← h]; exact q)]
    · rw [if_neg h, lookN, lookN, this]
      by_cases q : a = c
      · rw [if_pos q, if_pos q, if_neg (by rw [q]; exact fun z => h z.symm)]
      · rw [if_neg q, if_neg q]
/-- How often each number was met. -/
def cntM (l : List Int) : Nat → List (Int × Int)
  | 0 => []
  | k + 1 => setN (l.getD k 0) ((lookN (l.getD k 0) (cntM l k)).getD 0 + 1) (cntM l k)
theorem cntM_keys {l : List Int} : ∀ k, (cntM l k).map (fun p => p.1) = keysOf l k
  | 0 => rfl
  | k + 1 => by rw [cntM, setN_keys, cntM_keys k, keysOf]
theorem cntM_length {l : List Int} {k : Nat} : (cntM l k).length = (keysOf l k).length := by rw [← cntM_keys, List.length_map]
theorem cntM_bound {l : List Int} : ∀ k x y, lookN x (cntM l k) = some y → 0 ≤ y ∧ y ≤ k
  | 0, x, y, h => by cases h
  | k + 1, x, y, h => by
    rw [cntM, lookN_setN] at h
    split at h
    · cases h
      cases e : lookN (l.getD k 0) (cntM l k) with
      | none => simp; omega
      | some z => have := cntM_bound k _ z e; simp; omega
    · have := cntM_bound k x y h; omega
theorem cntM_get {l : List Int} {k : Nat} {x : Int} : 0 ≤ (lookN x (cntM l k)).getD 0 ∧ (lookN x (cntM l k)).getD 0 ≤ k := by
  cases e : lookN x (cntM l k) with
  | none => simp
  | some z => have := cntM_bound k _ z e; simpa using this
end Go.Proofs.Ytpkampecmlpfmaa.T

end
section
set_option linter.unusedSimpArgs false
set_option linter.unusedVariables false
/- A sample in another order; maps of what was met, plainly. -/
namespace Go.Proofs.Ytpkampecmlpfmaa.T
open Go Go.VL Go.Proofs
theorem sortI_rev (l : List Int) : sortI l.reverse = sortI l :=
  sorted_unique ((sortI_perm _).trans ((List.reverse_perm l).trans (sortI_perm l).symm)) (sortI_sorted _) (sortI_sorted _)
theorem cutsL_rev (l : List Int) (n : Nat) : cutsL l.reverse n = cutsL l n := by unfold cutsL; rw [sortI_rev, List.length_reverse]
theorem trCuts_rev {n cells : Nat} {way : Int} {sample : List (List Int)} : trCuts n cells way sample.reverse = trCuts n cells way sample := by
  unfold trCuts
  refine List.map_congr_left fun i _ => ?_
  rw [show colOf (turnedL way sample.reverse) i = (colOf (turnedL way sample) i).reverse by simp [colOf, turnedL, List.map_reverse], cutsL_rev]
theorem trE_rev {w : Int} {cuts : List (List Int)} {way : Int} {sample : List (List Int)} (h : trE w cuts way sample = 0) : trE w cuts way sample.reverse = 0 := by
  obtain ⟨e1, e2, e3, e4⟩ := trE_zero.1 h
  exact trE_zero.2 ⟨e1, e2, fun v hv => e3 v (List.mem_reverse.1 hv), by rw [List.length_reverse]; exact e4⟩
theorem revV_at {l : List (List Int)} {k : Nat} (h : k < l.length) : l.reverse.getD k [] = l.getD (l.length - 1 - k) [] := by
  simp only [List.getD]
  rw [List.getElem?_reverse h]
def noMap : D := .v (.map none)
/-- The first maps are there. -/
def mapsL (n m : Nat) : List D := ((List.range m).map fun i => .mp (1000 + i)) ++ List.replicate (n - m) noMap
def mapsF (n : Nat) : List D := (List.range n).map fun i => .mp (1000 + i)
theorem mapsL_zero {n : Nat} : List.replicate n (D.v (.map none)) = mapsL n 0 := by simp [mapsL, noMap]
theorem mapsL_all {n : Nat} : mapsL n n = mapsF n := by simp [mapsL, mapsF]
theorem mapsL_length {n m : Nat} (h : m ≤ n) : (mapsL n m).length = n := by simp [mapsL]; omega
theorem mapsF_length {n : Nat} : (mapsF n).length = n := by simp [mapsF]
theorem mapsF_get {n i : Nat} (h : i < n) : (mapsF n)[i]? = some (.mp (1000 + i)) := by simp [mapsF, h]
theorem mapsL_get {n m : Nat} (h : m < n) : (mapsL n m)[m]? = some noMap := by
  unfold mapsL
  rw [List.getElem?_append_right (by simp), List.length_map, List.length_range, Nat.sub_self, List.getElem?_replicate, if_pos (by omega)]
theorem mapsL_kills {n m id : Nat} (h : id < 1000) : D.kills id (mapsL n m) = mapsL n m := by
  rw [D.kills_eq_map, mapsL, List.map_append, List.map_map, List.map_replicate]
  congr 1
  refine List.map_congr_left fun i _ => ?_
  simp only [Function.comp, D.kill]
  rw [if_neg (by omega)]
theorem mapsF_kills {n id : Nat} (h : id < 1000) : D.kills id (mapsF n) = mapsF n := by rw [← mapsL_all, mapsL_kills h]
theorem mapsF_frzs {n id : Nat} {els : List D} : D.frzs id els (mapsF n) = mapsF n := by
  rw [D.frzs_eq, mapsF, List.map_map]
  exact List.map_congr_left fun i _ => rfl
theorem mapsL_set {n m id : Nat} (h : m < n) : (mapsL n m).set m (.mp id) = ((List.range m).map fun i => D.mp (1000 + i)) ++ .mp id :: List.replicate (n - (m + 1)) noMap := by
  have e : n - m = n - (m + 1) + 1 := by omega
  unfold mapsL
  rw [List.set_append_right _ _ (by simp), e, List.replicate_succ]
  simp
theorem noMaps_noRefs (n : Nat) : D.noRefs (List.replicate n noMap) = true := by
  induction n with
  | zero => rfl
  | succ n ih => rw [List.replicate_succ]; show (D.noRef noMap && D.noRefs _) = true; rw [ih]; rfl
def mapsW (e : TypeId) (n : Nat) (T : List (List Int)) (c : Nat → Nat) : List (Nat × Own) := (List.range n).map fun i => (1000 + i, ⟨e, 0, kvT (keysOf (colOf T i) (c i))⟩)
theorem Heaps_mapsW {s : St} {e : TypeId} {n : Nat} {T : List (List Int)} {c : Nat → Nat} : Heaps s (mapsW e n T c) = ∀ i, i < n → s.H (1000 + i) = some ⟨e, 0, kvT (keysOf (colOf T i) (c i))⟩ := by
  rw [mapsW, Heaps_range]
  simp only [List.mem_range]
theorem storable_mp {i : Nat} : (D.mp i).storable = true := (rfl)
theorem width_mp {i : Nat} : (D.mp i).width = 1 := (rfl)
theorem isAgg_mp {i : Nat} : (D.mp i).isAgg = false := (rfl)
theorem width_noMap : noMap.width = 1 := (rfl)
theorem setPart_nm {i : Nat} : setPart noMap 0 (.mp i) = some (.mp i) := (rfl)
theorem partOf_mp {i : Nat} : partOf (.mp i) 0 1 false = some (.mp i) := (rfl)
theorem kill_mp {i id : Nat} : (D.mp i).kill id = if i = id then .any else .mp i := (rfl)
theorem frz_mp {i id : Nat} {els : List D} : (D.mp i).frz id els = .mp i := (rfl)
end Go.Proofs.Ytpkampecmlpfmaa.T

end
section
set_option linter.unusedSimpArgs false
set_option linter.unusedVariables false
/- Law on books of samples: they may be, and each cut is met; in whatever order. -/
namespace Go.Proofs.Ytpkampecmlpfmaa.T
open Go Go.VL Go.Proofs
set_option maxRecDepth 100000
set_option maxHeartbeats 8000000
theorem fact_mpb8 : mapT Try.prog 40 = some (23, 4) := by kernel_rfl
theorem ofVal_map8 {m : Option Nat} : D.ofVal (.map m) = .v (.map m) := (rfl)
theorem kvT_kills8 {id : Nat} {l : List Int} : D.kills id (kvT l) = kvT l := D.noRef_kill id (kvT_noRefs l)
theorem kvT_frzs8 {id : Nat} {els : List D} {l : List Int} : D.frzs id els (kvT l) = kvT l := D.noRef_frzs _ (kvT_noRefs l) id els
theorem fact_z8 : zeroT Try.prog 40 = some (.map none) := by kernel_rfl
theorem storable_map8 {m : Option Nat} : (D.v (.map m)).storable = true := (rfl)
attribute [go_sem] fact_z8 storable_map8 fact_mpb8 ofVal_map8 kvT_of kvT_noRefs kvT_kills8 kvT_frzs8

theorem bookSample_law (hS : Sorted16) (w : Int) (cuts : List (List Int)) (way : Int) (sample : List (List Int)) (hI : I16r sample) : Fun Try.prog 16 [bookD w cuts, .v (.int .i64 way), .lst (rows .i16 sample)] fun r => r = .v (.bool true) := by
  have hf := few_fun w cuts
  have hf8 := few8_fun sample
  have hlv := bookLive_fun
  by_cases g1 : fewB cuts = true
  · rw [g1] at hf
    by_cases g2 : sample.length ≤ 60
    · by_cases g3 : fewS8 sample
      · rw [decide_eq_true g3] at hf8
        have ht := bookTrain_fun hS w cuts way sample hI
        by_cases hE : trE w cuts way sample = 0
        · obtain ⟨e1, e2, e3, e4⟩ := trE_zero.1 hE
          by_cases g4 : sample = []
          · subst g4
            rw [hE, show trC w cuts way [] = cuts by unfold trC; rw [if_pos hE, if_pos rfl], show trW w cuts way [] = w by unfold trW; rw [if_pos hE, if_pos rfl]] at ht
            have hsm := bookSame_fun w cuts w cuts
            rw [decide_eq_true ⟨rfl, rfl⟩] at hsm
            refine Fun.of_awpI Try.func16 rfl cal16 Try.ntmps16 (by simp) fun hwf => ?_
            simp only [D.wfs, D.wf, ints_length, ints_wfs, rows_length, rows_wfs, capMax, and_true, true_and] at hwf
            repeat' (first | simp only [go_sem, bne_self_eq_false, Ret_eq Try.results16] | (refine opCallI_rd (by simp only [go_sem, bne_self_eq_false, Ret_eq Try.results16]; first | done | rfl) (hlv) (by rintro _ rfl; rfl) ?_; rintro _ rfl) | (refine opCallI_rd (by simp only [go_sem, bne_self_eq_false, Ret_eq Try.results16]; first | done | rfl) (hf) (by rintro _ rfl; rfl) ?_; rintro _ rfl) | (refine opCallI_rd (by simp only [go_sem, bne_self_eq_false, Ret_eq Try.results16]; first | done | rfl) (hf8) (by rintro _ rfl; rfl) ?_; rintro _ rfl) | (refine opCallI_gv (by simp only [go_sem, bne_self_eq_false, Ret_eq Try.results16]; first | done | rfl) (ht) ?_; rintro _ rfl) | (refine opCallI_rd (by simp only [go_sem, bne_self_eq_false, Ret_eq Try.results16]; first | done | rfl) (hsm) (by rintro _ rfl; rfl) ?_; rintro _ rfl) | fail)
            all_goals first | done | (exfalso; rename ¬ _ => hq; exact hq rfl)
          · have hl1 : 1 ≤ sample.length := by
              cases sample with
              | nil => exact absurd rfl g4
              | cons a l => simp
            have hl1b : ((sample.length : Int) == 0) = false := beq_eq_false_iff_ne.2 (by omega)
            obtain ⟨w1, w2⟩ := wayErr_zero e2
            obtain ⟨k1, k2, k3⟩ := train_ok hE g4 hI
            have hmany := book_many e1
            rw [hE, trC_some hE g4, trW_some hE g4] at ht
            have hce := quantCells_fun w cuts
            rw [e1, if_pos rfl] at hce
            have hce2 := quantCells_fun way (trCuts cuts.length (manyOf cuts + 1) way sample)
            rw [k1, if_pos rfl, k2] at hce2
            have hTl := turned_length (way := way) (sample := sample)
            have hrv : sample.reverse ≠ [] := fun q => g4 (List.reverse_eq_nil_iff.1 q)
            have ht2 := bookTrain_fun hS w cuts way sample.reverse (fun v hv => hI v (List.mem_reverse.1 hv))
            rw [trE_rev hE, trC_some (trE_rev hE) hrv, trW_some (trE_rev hE) hrv, trCuts_rev] at ht2
            have hCl := trCuts_length (n := cuts.length) (cells := manyOf cuts + 1) (way := way) (sample := sample)
            have hn64 := (bookErr_zero.1 e1).2.1
            have hrl : sample.reverse.length = sample.length := List.length_reverse
            clear k1 k2
            generalize hCe : trCuts cuts.length (manyOf cuts + 1) way sample = C at *
            have hsm := bookSame_fun way C way C
            rw [decide_eq_true ⟨rfl, rfl⟩] at hsm
            refine Fun.of_awpI Try.func16 rfl cal16 Try.ntmps16 (by simp) fun hwf => ?_
            simp only [D.wfs, D.wf, ints_length, ints_wfs, rows_length, rows_wfs, capMax, and_true, true_and] at hwf
            repeat' (first | simp only [go_sem, hl1b, e1, hCl, beq_self_eq_true, bne_self_eq_false, Ret_eq Try.results16] | simp (disch := omega) only [arith, IntKind.bits, capMax, fill_len, elt_fill] | (refine opCallI_rd (by simp only [go_sem, hl1b, e1, hCl, beq_self_eq_true, bne_self_eq_false, Ret_eq Try.results16]; first | done | rfl) (hlv) (by rintro _ rfl; rfl) ?_; rintro _ rfl) | (refine opCallI_rd (by simp only [go_sem, hl1b, e1, hCl, beq_self_eq_true, bne_self_eq_false, Ret_eq Try.results16]; first | done | rfl) (hf) (by rintro _ rfl; rfl) ?_; rintro _ rfl) | (refine opCallI_rd (by simp only [go_sem, hl1b, e1, hCl, beq_self_eq_true, bne_self_eq_false, Ret_eq Try.results16]; first | done | rfl) (hf8) (by rintro _ rfl; rfl) ?_; rintro _ rfl) | (refine opCallI_gv (by simp only [go_sem, hl1b, e1, hCl, beq_self_eq_true, bne_self_eq_false, Ret_eq Try.results16]; first | done | rfl) (ht) ?_; rintro _ rfl) | (refine opCallI_rd (by simp only [go_sem, hl1b, e1, hCl, beq_self_eq_true, bne_self_eq_false, Ret_eq Try.results16]; first | done | rfl) (hce) (by rintro _ rfl; rfl) ?_; rintro _ rfl) | (refine opCallI_rd (by simp only [go_sem, hl1b, e1, hCl, beq_self_eq_true, bne_self_eq_false, Ret_eq Try.results16]; first | done | rfl) (hce2) (by rintro _ rfl; rfl) ?_; rintro _ rfl) | fail)
            refine awpI_for cuts.length (fun m => True) (fun m => [(112, .v (.int .i64 m))]) (fun m => (109, ⟨40, 1, mapsL cuts.length m⟩) :: mapsW 40 m (turnedL way sample) fun _ => 0) [1, 2, 3, 7, 8, 14, 111] [3, 8] _ (Weak.refl _) trivial ?_ ?_ ?_
            · simp only [go_sem, Ret_eq Try.results16]
            · simp only [go_sem, Heaps_mapsW, mapsL_zero, Int.toNat_natCast, hCl, Ret_eq Try.results16]
              all_goals first | done | exact fun i hi => absurd hi (Nat.not_lt_zero i)
            · intro m s hm0 _ hs
              simp only [go_sem, Heaps_mapsW, Ret_eq Try.results16] at hs
              have hco := hs.2.2.1.2
              by_cases hm : m < cuts.length
              · have m1 := mapsL_length (n := cuts.length) (m := m) (by omega)
                have m2 := mapsL_get hm
                have m3 := mapsL_set (id := 117) hm
                repeat' (first | simp only [go_sem, hs, m1, m2, m3, mapsL_kills, storable_mp, width_mp, isAgg_mp, width_noMap, setPart_nm, kill_mp, Ret_eq Try.results16] | simp (disch := omega) only [arith, IntKind.bits, capMax, fill_len, elt_fill] | fail)
                refine AgainW.weak (m + 1) (Weak.moveMap (ob := 109) (base := 1000) (m := m) (i0 := 117) (So := 1) (eo := 40) (R := List.replicate (cuts.length - (m + 1)) noMap) (fun i => ⟨40, 0, kvT (keysOf (colOf (turnedL way sample) i) 0)⟩) ⟨40, 0, []⟩
                  [(1, .v (.int .i64 way)), (2, .lst (rows .i16 sample)), (3, .adr 3 0 0), (7, .v (.bool true)), (8, .adr 8 0 0), (14, .ref 109 cuts.length), (111, .v (.int .i64 cuts.length)), (112, .v (.int .i64 ((m + 1 : Nat) : Int)))] [(3, ⟨73, 2, [bookD w cuts]⟩), (8, ⟨73, 2, [bookD way C]⟩)] (by decide) (by decide) (by simp only [go_sem, hs, Ret_eq Try.results16]) (by rfl) (by simp only [go_sem, hs, Ret_eq Try.results16]) (by rfl) (by rfl) (by decide) (by simp only [go_sem, hs, Ret_eq Try.results16]) (noMaps_noRefs _)
                  (fun i hi => by
                    have := hco i hi
                    simp only [go_sem, hs, base_ne, this, hi, Ret_eq Try.results16]) (fun i _ => kvT_noRefs _) (by simp only [go_sem, hs, Ret_eq Try.results16]) rfl) (by show cuts.length - (m + 1) < cuts.length - m; omega) ⟨by omega, trivial⟩ ?_
                simp only [go_sem, Heaps_mapsW, hs, false_and, base_ne', Ret_eq Try.results16]
                refine ⟨by rw [← List.range_succ]; rfl, fun i hi => ?_⟩
                rw [if_neg (by omega)]
                by_cases q : i < m
                · rw [if_pos (by omega), show 1000 + i - 1000 = i by omega]
                · rw [if_neg (by omega), if_pos (by omega)]; rfl
              · obtain rfl : m = cuts.length := by omega
                rw [mapsL_all] at hs
                have mfl := mapsF_length (n := cuts.length)
                repeat' (first | simp only [go_sem, hs, Ret_eq Try.results16] | simp (disch := omega) only [arith, IntKind.bits, capMax, fill_len, elt_fill] | fail)
                refine awpI_for sample.length (fun k => True) (fun k => [(16, .ref 135 k), (122, .v (.int .i64 k))]) (fun k => (135, ⟨46, 1, rows .i16 (sample.reverse.take k)⟩) :: mapsW 40 cuts.length (turnedL way sample) fun _ => k) [1, 2, 3, 7, 8, 14, 121] [3, 8, 109] _ (Weak.adopt (j := 16) 135 46 1 (by simp only [go_sem, hs, Ret_eq Try.results16]) (by simp only [go_sem, hs, Ret_eq Try.results16]) (by decide)) trivial ?_ ?_ ?_
                · simp only [go_sem, hs, Ret_eq Try.results16]
                · simp only [go_sem, hs, Heaps_mapsW, List.take_zero, rows_nil, base_ne, Ret_eq Try.results16]
                  intro i hi
                  have := hco i hi
                  simp only [go_sem, this, Ret_eq Try.results16]
                · intro k s2 hk _ hs2
                  simp only [go_sem, hs, Heaps_mapsW, mapsF_kills, Ret_eq Try.results16] at hs2
                  have hco2 := hs2.2.2.1.2
                  by_cases hka : k < sample.length
                  · have hvk := e3 _ (getD_mem (d := []) hka)
                    have htu := turn_fun (sample.getD k []) way (hI.getD k)
                    rw [turnOut_ok ⟨hvk.1, w1, w2⟩, turnErr_iff.2 ⟨hvk.1, w1, w2⟩, ← turned_at hka] at htu
                    have htl : ((turnedL way sample).getD k []).length = cuts.length := by rw [turned_at hka, turnL_length]; exact hvk.2
                    have htlb : ((((turnedL way sample).getD k []).length : Int) != (cuts.length : Int)) = false := by rw [htl]; exact bne_self_eq_false _
                    have e := take_snoc (a := sample.reverse) (d := ([] : List Int)) (k := k) (by omega)
                    rw [revV_at hka] at e
                    have ei : (sample.length : Int) - 1 - (k : Int) = ((sample.length - 1 - k : Nat) : Int) := by omega
                    have htk : (sample.reverse.take k).length = k := by rw [List.length_take]; omega
                    have hlk : ∀ j, (colOf (turnedL way sample) j).getD k 0 = ((turnedL way sample).getD k []).getD j 0 := fun j => by
                      simp [colOf, List.getD, hTl, hka]
                    generalize (turnedL way sample).getD k [] = tv at *
                    repeat' (first | simp only [go_sem, hs, hs2, ei, e, htk, mapsF_kills, mfl, htlb, bne_self_eq_false, List.length_append, List.length_cons, List.length_nil, Ret_eq Try.results16] | simp (disch := omega) only [arith, IntKind.bits, capMax, fill_len, elt_fill] | (refine opCallI_gv (by simp only [go_sem, hs, hs2, ei, e, htk, mapsF_kills, mfl, htlb, bne_self_eq_false, List.length_append, List.length_cons, List.length_nil, Ret_eq Try.results16]; first | done | rfl) (htu) ?_; rintro _ rfl) | fail)
                    refine awpI_for cuts.length (fun j => True) (fun j => [(156, .v (.int .i64 j))]) (fun j => mapsW 40 cuts.length (turnedL way sample) (cntC k j)) [1, 2, 3, 7, 8, 14, 16, 121, 122, 154, 155] [3, 8, 109, 135] _ (Weak.refl _) trivial ?_ ?_ ?_
                    · simp only [go_sem, hs, hs2, Ret_eq Try.results16]
                    · rw [cntC_zero]
                      simp only [go_sem, hs, hs2, Heaps_mapsW, base_ne, Ret_eq Try.results16]
                      intro i hi
                      have := hco2 i hi
                      simp only [go_sem, this, Ret_eq Try.results16]
                    · intro j s3 hj _ hs3
                      simp only [go_sem, hs, hs2, Heaps_mapsW, mapsF_kills, e, Ret_eq Try.results16] at hs3
                      have hco3 := hs3.2.2.1
                      by_cases hjn : j < cuts.length
                      · have g1 := mapsF_get hjn
                        have g4 : cntC k j j = k := if_neg (Nat.lt_irrefl _)
                        have g5 := hco3 j hjn
                        rw [g4] at g5
                        have hkl := keysOf_length (l := colOf (turnedL way sample) j) k
                        have hx : kvD .i16 (kvSet (tv.getD j 0) (.v (.bool true)) ((keysOf (colOf (turnedL way sample) j) k).map fun x => (x, D.v (.bool true)))) = kvT (keysOf (colOf (turnedL way sample) j) (k + 1)) := by
                          rw [← hlk j]; exact kvT_step _ _
                        repeat' (first | simp only [go_sem, hs, hs2, hs3, g1, g4, g5, hx, hjn, htl, mfl, base_ne, base_ne', storable_mp, width_mp, partOf_mp, mapsF_kills, List.length_map, Ret_eq Try.results16] | simp (disch := omega) only [arith, IntKind.bits, capMax, fill_len, elt_fill] | (refine Again.up (by omega) ?_ ?_) | fail)
                        rw [Heaps_mapsW]
                        intro i hi
                        by_cases q : i = j
                        · subst q
                          have g7 : cntC k (i + 1) i = k + 1 := if_pos (by omega)
                          simp only [go_sem, base_ne, base_ne', g7, Ret_eq Try.results16]
                        · have g7 : cntC k (j + 1) i = cntC k j i := by
                            unfold cntC
                            by_cases z : i < j
                            · rw [if_pos z, if_pos (by omega)]
                            · rw [if_neg z, if_neg (by omega)]
                          have g8 : (1000 + i = 1000 + j) = False := eq_false (by omega)
                          have g9 := hco3 i hi
                          simp only [go_sem, base_ne, base_ne', g7, g8, g9, Ret_eq Try.results16]
                      · obtain rfl : j = cuts.length := by omega
                        repeat' (first | simp only [go_sem, hs, hs2, hs3, htl, e, mapsF_kills, Ret_eq Try.results16] | simp (disch := omega) only [arith, IntKind.bits, capMax, fill_len, elt_fill] | (refine Again.up (by omega) ?_ ?_) | fail)
                        rw [Heaps_mapsW]
                        intro i hi
                        have := hco3 i hi
                        rw [cntC, if_pos hi] at this
                        exact this
                  · obtain rfl : k = sample.length := by omega
                    have hta : sample.reverse.take sample.length = sample.reverse := List.take_of_length_le (by omega)
                    rw [hta] at hs2
                    repeat' (first | simp only [go_sem, hs, hs2, Ret_eq Try.results16] | simp (disch := omega) only [arith, IntKind.bits, capMax, fill_len, elt_fill] | fail)
                    refine awpI_for cuts.length (fun i => True) (fun i => [(171, .v (.int .i64 i))]) (fun i => mapsW 40 cuts.length (turnedL way sample) fun _ => sample.length) [1, 3, 7, 8, 14, 16, 169, 170] [3, 8, 109, 135] _ (Weak.refl _) trivial ?_ ?_ ?_
                    · simp only [go_sem, hs, hs2, Ret_eq Try.results16]
                    · simp only [go_sem, hs, hs2, Heaps_mapsW, Ret_eq Try.results16]
                      exact hco2
                    · intro i s4 hi0 _ hs4
                      simp only [go_sem, hs, hs2, Heaps_mapsW, mapsF_kills, Ret_eq Try.results16] at hs4
                      have hco4 := hs4.2.2.1
                      by_cases hin : i < cuts.length
                      · obtain ⟨hrz, hci⟩ := k3 i hin
                        have hcl : (C.getD i []).length = manyOf cuts := by rw [hci, cutsL_length]; rfl
                        have hcm : ∀ j, j < manyOf cuts → (C.getD i []).getD j 0 ∈ keysOf (colOf (turnedL way sample) i) sample.length := fun j hj => by
                          rw [hci]
                          have := cutsL_mem (l := colOf (turnedL way sample) i) (n := manyOf cuts + 1) (i := j) (by omega) (by rw [colOf_length, hTl]; exact hl1)
                          obtain ⟨q, hq, e⟩ := List.mem_iff_getElem.1 this
                          rw [colOf_length, hTl] at hq
                          exact (keysOf_mem _).2 ⟨q, hq, by rw [← e]; simp [List.getD, colOf_length, hTl, hq]⟩
                        repeat' (first | simp only [go_sem, hs, hs2, hs4, hCl, Ret_eq Try.results16] | simp (disch := omega) only [arith, IntKind.bits, capMax, fill_len, elt_fill] | fail)
                        refine awpI_for (manyOf cuts) (fun j => True) (fun j => [(178, .v (.int .i64 j))]) (fun j => mapsW 40 cuts.length (turnedL way sample) fun _ => sample.length) [1, 3, 7, 8, 14, 16, 22, 169, 170, 171, 176, 177] [3, 8, 109, 135] _ (Weak.refl _) trivial ?_ ?_ ?_
                        · simp only [go_sem, hs, hs2, hs4, Ret_eq Try.results16]
                        · simp only [go_sem, hs, hs2, hs4, Heaps_mapsW, Ret_eq Try.results16]
                          exact hco4
                        · intro j s5 hj0 _ hs5
                          simp only [go_sem, hs, hs2, hs4, Heaps_mapsW, mapsF_kills, Ret_eq Try.results16] at hs5
                          have hco5 := hs5.2.2.1
                          by_cases hjn : j < manyOf cuts
                          · have g1 := mapsF_get hin
                            have g5 := hco5 i hin
                            have hf9 := kvT_find ((C.getD i []).getD j 0) (keysOf (colOf (turnedL way sample) i) sample.length)
                            rw [if_pos (hcm j hjn)] at hf9
                            repeat' (first | simp only [go_sem, hs, hs2, hs4, hs5, g1, g5, hf9, hin, hcl, mfl, partOf_mp, storable_mp, width_mp, Ret_eq Try.results16] | simp (disch := omega) only [arith, IntKind.bits, capMax, fill_len, elt_fill] | (refine Again.up (by omega) ?_ ?_) | fail)
                            rw [Heaps_mapsW]
                            exact hco5
                          · obtain rfl : j = manyOf cuts := by omega
                            repeat' (first | simp only [go_sem, hs, hs2, hs4, hs5, hcl, mapsF_kills, Ret_eq Try.results16] | simp (disch := omega) only [arith, IntKind.bits, capMax, fill_len, elt_fill] | (refine Again.up (by omega) ?_ ?_) | fail)
                            rw [Heaps_mapsW]
                            exact hco5
                      · obtain rfl : i = cuts.length := by omega
                        repeat' (first | simp only [go_sem, hs, hs2, hs4, hCl, hrl, hta, mapsF_kills, mapsF_frzs, beq_self_eq_true, Ret_eq Try.results16] | simp (disch := omega) only [arith, IntKind.bits, capMax, fill_len, elt_fill] | (refine opCallI_gv (by simp only [go_sem, hs, hs2, hs4, hCl, hrl, hta, mapsF_kills, mapsF_frzs, beq_self_eq_true, Ret_eq Try.results16]; first | done | rfl) (ht2) ?_; rintro _ rfl) | (refine opCallI_rd (by simp only [go_sem, hs, hs2, hs4, hCl, hrl, hta, mapsF_kills, mapsF_frzs, beq_self_eq_true, Ret_eq Try.results16]; first | done | rfl) (hsm) (by rintro _ rfl; rfl) ?_; rintro _ rfl) | fail)
                        all_goals skip
        · have hEb : (trE w cuts way sample != 0) = true := by rw [bne, beq_eq_false_iff_ne.2 hE]; rfl
          rw [show trC w cuts way sample = [] from if_neg hE] at ht
          simp only [bookD, rows_nil] at ht
          refine Fun.of_awpI Try.func16 rfl cal16 Try.ntmps16 (by simp) fun hwf => ?_
          simp only [D.wfs, D.wf, ints_length, ints_wfs, rows_length, rows_wfs, capMax, and_true, true_and] at hwf
          repeat' (first | simp only [go_sem, hEb, Ret_eq Try.results16] | simp (disch := omega) only [arith, IntKind.bits, capMax, fill_len, elt_fill] | (refine opCallI_rd (by simp only [go_sem, hEb, Ret_eq Try.results16]; first | done | rfl) (hlv) (by rintro _ rfl; rfl) ?_; rintro _ rfl) | (refine opCallI_rd (by simp only [go_sem, hEb, Ret_eq Try.results16]; first | done | rfl) (hf) (by rintro _ rfl; rfl) ?_; rintro _ rfl) | (refine opCallI_rd (by simp only [go_sem, hEb, Ret_eq Try.results16]; first | done | rfl) (hf8) (by rintro _ rfl; rfl) ?_; rintro _ rfl) | (refine opCallI_gv (by simp only [go_sem, hEb, Ret_eq Try.results16]; first | done | rfl) (ht) ?_; rintro _ rfl) | fail)
          all_goals skip
      · rw [decide_eq_false g3] at hf8
        refine Fun.of_awpI Try.func16 rfl cal16 Try.ntmps16 (by simp) fun hwf => ?_
        simp only [D.wfs, D.wf, ints_length, ints_wfs, rows_length, rows_wfs, capMax, and_true, true_and] at hwf
        repeat' (first | simp only [go_sem, Ret_eq Try.results16] | simp (disch := omega) only [arith, IntKind.bits, capMax, fill_len, elt_fill] | (refine opCallI_rd (by simp only [go_sem, Ret_eq Try.results16]; first | done | rfl) (hlv) (by rintro _ rfl; rfl) ?_; rintro _ rfl) | (refine opCallI_rd (by simp only [go_sem, Ret_eq Try.results16]; first | done | rfl) (hf) (by rintro _ rfl; rfl) ?_; rintro _ rfl) | (refine opCallI_rd (by simp only [go_sem, Ret_eq Try.results16]; first | done | rfl) (hf8) (by rintro _ rfl; rfl) ?_; rintro _ rfl) | fail)
    · skip
      refine Fun.of_awpI Try.func16 rfl cal16 Try.ntmps16 (by simp) fun hwf => ?_
      simp only [D.wfs, D.wf, ints_length, ints_wfs, rows_length, rows_wfs, capMax, and_true, true_and] at hwf
      repeat' (first | simp only [go_sem, Ret_eq Try.results16] | simp (disch := omega) only [arith, IntKind.bits, capMax, fill_len, elt_fill] | (refine opCallI_rd (by simp only [go_sem, Ret_eq Try.results16]; first | done | rfl) (hlv) (by rintro _ rfl; rfl) ?_; rintro _ rfl) | (refine opCallI_rd (by simp only [go_sem, Ret_eq Try.results16]; first | done | rfl) (hf) (by rintro _ rfl; rfl) ?_; rintro _ rfl) | fail)
  · rw [show fewB cuts = false by simpa using g1] at hf
    refine Fun.of_awpI Try.func16 rfl cal16 Try.ntmps16 (by simp) fun hwf => ?_
    simp only [D.wfs, D.wf, ints_length, ints_wfs, rows_length, rows_wfs, capMax, and_true, true_and] at hwf
    repeat' (first | simp only [go_sem, Ret_eq Try.results16] | (refine opCallI_rd (by simp only [go_sem, Ret_eq Try.results16]; first | done | rfl) (hlv) (by rintro _ rfl; rfl) ?_; rintro _ rfl) | (refine opCallI_rd (by simp only [go_sem, Ret_eq Try.results16]; first | done | rfl) (hf) (by rintro _ rfl; rfl) ?_; rintro _ rfl) | fail)
end Go.Proofs.Ytpkampecmlpfmaa.T

end
section
set_option linter.unusedSimpArgs false
set_option linter.unusedVariables false
/- slices.AppendSeq, slices.Collect over slices.Values: a raw walk of a range over a function. -/
namespace Go.Proofs.Ytpkampecmlpfmaa.T
open Go Go.VL Go.Proofs Go.RowKit
set_option maxRecDepth 100000
set_option maxHeartbeats 4000000
attribute [local go_sem] Oper.semAt_some
theorem info16 : (Try.prog.info? 23).map (fun i => (i.zero, i.size, i.bytes)) = some (some (.int .i16 0), 1, 2) := by kernel_rfl
theorem values1_in (F : Fence) (n : Nat) (hf : F.fn 139) (hro : F.round = none) (hn : 1 ≤ n) (l Bs Bo b off cap n0 : Nat) (zs : List Int) (hreach : zs.length ≤ 60000) (hb : b < n0) (w0 : World) (J : List Int → World → Prop)
    (hJb : ∀ pre w, J pre w → Below n0 w0 w)
    (hY : ∀ pre x W, J pre W → pre.length < zs.length → YieldAt F (n - 1) Try.prog l #[.int .i16 x] W fun e W' => e = .returned (.bool true) ∧ J (pre ++ [x]) W' ∧ KeepsWalks W W')
    (hc : ∀ j, j < zs.length → w0.cell? ⟨b, off + j, none⟩ = some (.int .i16 (zs[j]?.getD 0))) (W : World) (hBs : W.cell? ⟨Bs, Bo, none⟩ = some (.slice (some ⟨b, off, none⟩) zs.length cap)) (h0 : J [] W) :
    CallsIn F n Try.prog 139 #[.func (.yield l) #[] #[], .pointer (some ⟨Bs, Bo, none⟩)] W fun e W' => (∃ v, e = .returned v) ∧ J zs W' := by
  refine callsIn_of_wp Try.func139 rfl hf ?_ hro
  simp only [Try.ntmps139, List.size_toArray, List.length_cons, List.length_nil, Nat.reduceAdd, Nat.reduceSub, Array.replicate_succ, Array.replicate_zero, List.push_toArray, List.append_toArray, List.nil_append, List.cons_append]
  gi_wp2
  gi_loopw [7] (fun i wr => ∃ k : Nat, k ≤ zs.length ∧ i = .int .i64 k ∧ J (zs.take k) wr)
    (fun i _ => zs.length - (intOf i).toNat)
  case atStart => exact ⟨0, Nat.zero_le _, rfl, h0⟩
  case round =>
    obtain ⟨k, hk, rfl, hJs⟩ := hrel
    have hcx : k < zs.length → wr.cell? ⟨b, off + k, none⟩ = some (.int .i16 (zs[k]?.getD 0)) := fun h => ((hJb _ _ hJs).cell (p := ⟨b, off + k, none⟩) hb).trans (hc k h)
    by_cases hlt : k < zs.length
    · obtain ⟨fn, tmps, assign, body, hy, hR⟩ := hY _ zs[k] wr hJs (by rw [List.length_take]; omega)
      have hcx' := hcx hlt
      rw [show zs[k]?.getD 0 = zs[k] by simp [List.getElem?_eq_getElem hlt]] at hcx'
      gi_wp2
      refine hR.mono ?_
      rintro e W3 ⟨rfl, hJ3, hk3⟩
      gi_wp2
      go_roundw
      case rel => exact ⟨k + 1, by omega, by simp, by rw [List.take_add_one]; simpa [List.getElem?_eq_getElem hlt] using hJ3⟩
      case measure => simp [intOf]; omega
    · obtain rfl : k = zs.length := by omega
      gi_wp2
      go_end0
      rw [List.take_length] at hJs
      exact ⟨⟨_, rfl⟩, hJs⟩
/-- An iterator that gives just xs, in whatever later world, whatever the rounds keep, so they keep what lay in w. -/
def SeqB (F : Fence) (n : Nat) (g : Nat) (lb : Array Value) (xs : List Int) (N : Nat) (w : World) : Prop :=
  ∀ (l : Nat) (J : List Int → World → Prop) (W : World), Below w.heap.size w W → (∀ pre w', J pre w' → Below w.heap.size w w') →
    (∀ pre x W1, J pre W1 → pre.length < N → YieldAt F (n - 1) Try.prog l #[.int .i16 x] W1 fun e W' => e = .returned (.bool true) ∧ J (pre ++ [x]) W' ∧ KeepsWalks W1 W') →
    J [] W →
    CallsIn F n Try.prog g (#[.func (.yield l) #[] #[]] ++ lb) W fun e W' => (∃ v, e = .returned v) ∧ J xs W'
def apAssign : Code := (Code.region 2 #[{ dst := some 5, op := Op.assign (Operand.tmp 7), type := 23, pos := "iter.go:51", after := #[], guard := none }] false)
def apBody : Code := (Code.block 1 (Code.region 3 #[{ dst := some 8, op := Op.load 22 (Operand.tmp 2), type := 22, pos := "iter.go:52", after := #[], guard := none }, { dst := some 9, op := Op.move (Operand.tmp 5), type := 23, pos := "iter.go:52", after := #[], guard := none }, { dst := some 10, op := Op.buildSlice 22 1 #[(0, Operand.tmp 9)], type := 22, pos := "iter.go:52", after := #[{ on := 1, ground := Ground.data }], guard := none }, { dst := some 11, op := Op.call { callee := Callee.builtin Builtin.append, args := #[Operand.tmp 8, Operand.tmp 10], argTypes := #[22, 22] }, type := 22, pos := "iter.go:52", after := #[{ on := 0, ground := Ground.data }, { on := 2, ground := Ground.data }], guard := none }, { dst := none, op := Op.store 22 (Operand.tmp 2) (Operand.tmp 11), type := 0, pos := "iter.go:52", after := #[{ on := 3, ground := Ground.data }, { on := 3, ground := Ground.chain }, { on := 0, ground := Ground.phase }, { on := 1, ground := Ground.phase }, { on := 2, ground := Ground.phase }, { on := 3, ground := Ground.phase }], guard := none }] false))
/-- The loop's record: AppendSeq's temporaries as they stood at the entering: 's' boxed in block Bs; sv: the iterator's value. -/
def apRec (fn : FuncId) (sv : Value) (Bs D : Nat) (st : LoopState) (pend : Option Code) : Loop :=
  { state := st, pending := pend, fn, tmps := #[.slice none 0 0, sv, .pointer (some ⟨Bs, 0, none⟩), undef, .slice none 0 0, undef, sv, undef, undef, undef, undef, undef, undef], params := #[7], assign := apAssign, body := apBody, defers := D }

/-- BETWEEN TWO ROUNDS: the box holds a slice that owns, in a block of the call's own, what has come so far; IT IS nil JUST AS LONG AS NOTHING HAS COME; nothing that lay before the call has turned. -/
structure ApAt (w0 : World) (fn : FuncId) (sv : Value) (Bs l D : Nat) (ss : List Int) (W : World) : Prop where
  box : ∃ v, W.heap[Bs]? = some (.cells #[v] 22 (0, 0)) ∧ W.ownsRow w0.heap.size 23 1 v ss.length (ss.map (Value.int .i16)) ∧ (v = .slice none 0 0 ↔ ss = [])
  L : W.heap[l]? = some (.loop (apRec fn sv Bs D .ready none))
  K : W.heap[D]? = some (.deferred (some []))
  below : Below w0.heap.size w0 W

/-- A slice's own row is no walk's object: it abides an iterator's step. -/
theorem ownsRow_abides {W W' : World} {row : Option Nat} {base : Nat} {e : TypeId} {size : Nat} {v : Value} {k : Nat} {xs : List Value} (h : W.ownsRow base e size v k xs) (hg : W.grownBy W' row)
    (hrow : ∀ r, row = some r → ∃ o : Obj, W.heap[r]? = some o ∧ o.isWalk = true) : W'.ownsRow base e size v k xs := by
  refine h.kept hg ?_
  rcases h.2 with ⟨rfl, _⟩ | ⟨g, cap, cur, rfl, _, hgb, _⟩
  · exact .inl rfl
  · refine .inr fun e' => ?_
    obtain ⟨o, ho, hw⟩ := hrow g (by simpa [Value.ownBlock] using e'.symm)
    rw [hgb] at ho; cases ho; cases hw

theorem ap_abides (w0 : World) (fn : FuncId) (sv : Value) (Bs l D B : Nat) (hB : w0.heap.size ≤ B) : AbidesFrom B (ApAt w0 fn sv Bs l D) := fun s W W' row h hg hrow => by
  have hrow' : ∀ r, row = some r → ∃ o : Obj, W.heap[r]? = some o ∧ o.isWalk = true := fun r e => (hrow r e).2
  obtain ⟨v, hv, hr, hn⟩ := h.box
  exact ⟨⟨v, (grownBy_keeps hg hrow' hv rfl).trans hv, ownsRow_abides hr hg hrow', hn⟩, (grownBy_keeps hg hrow' h.L rfl).trans h.L, (grownBy_keeps hg hrow' h.K rfl).trans h.K,
    h.below.grown hg h.below.size (fun k e => Nat.le_trans hB (hrow k e).1)⟩

theorem grownBy_putObj (W : World) (l : Nat) (o : Obj) : W.grownBy (W.putObj l o) (some l) :=
  ⟨rfl, rfl, rfl, by simp, fun k _ hk => World.putObj_heap_other (fun e => hk (by rw [e]))⟩
theorem grownBy_setCell0 (W : World) (b : Nat) (v : Value) : W.grownBy (W.setCell ⟨b, 0, none⟩ v) (some b) :=
  ⟨rfl, rfl, rfl, (KeepsWalks.setCell W _ v).size, fun k _ hk => Below.heap_setCell _ _ _ k (fun e => hk (by rw [e]))⟩
/-- A slice's own row is not a block that holds something else than cells of its element's type. -/
theorem ownsRow_ne {W : World} {base : Nat} {e : TypeId} {size : Nat} {v : Value} {k : Nat} {xs : List Value} (h : W.ownsRow base e size v k xs) {j : Nat} {o : Obj} (hj : W.heap[j]? = some o) (hno : ∀ cur, o ≠ .cells cur e (0, 0)) :
    v.ownBlock = none ∨ v.ownBlock ≠ some j := by
  rcases h.2 with ⟨rfl, _⟩ | ⟨g, cap, cur, rfl, _, hgb, _⟩
  · exact .inl rfl
  · refine .inr fun e' => ?_
    have : g = j := by simpa [Value.ownBlock] using e'
    subst this; rw [hgb] at hj; cases hj; exact hno cur rfl
theorem cell_of_box {W : World} {B : Nat} {v : Value} {t : TypeId} (h : W.heap[B]? = some (.cells #[v] t (0, 0))) : W.cell? ⟨B, 0, none⟩ = some v ∧ W.frozen? ⟨B, 0, none⟩ = false := by
  constructor <;> simp [World.cell?, World.frozen?, h]

theorem heap_setCell_box {W : World} {B : Nat} {v : Value} {t : TypeId} (v' : Value) (h : W.heap[B]? = some (.cells #[v] t (0, 0))) : (W.setCell ⟨B, 0, none⟩ v').heap[B]? = some (.cells #[v'] t (0, 0)) := by
  obtain ⟨hlt, hk⟩ := Array.getElem?_eq_some_iff.1 h
  show (W.heap.modify B _)[B]? = _
  rw [Array.getElem?_eq_getElem (by rw [Array.size_modify]; exact hlt), Array.getElem_modify_self, hk]
  rfl
theorem ownsRow_not_walk {W : World} {base : Nat} {e : TypeId} {size : Nat} {v : Value} {k : Nat} {xs : List Value} (h : W.ownsRow base e size v k xs) : ∀ (j : Nat) (o : Obj), v.ownBlock = some j → W.heap[j]? = some o → o.isWalk = false := by
  intro j o hj ho
  rcases h.2 with ⟨rfl, _⟩ | ⟨g, cap, cur, rfl, _, hgb, _⟩
  · simp [Value.ownBlock] at hj
  · have : g = j := by simpa [Value.ownBlock] using hj
    subst this; rw [hgb] at ho; cases ho; rfl


set_option maxRecDepth 100000 in
set_option maxHeartbeats 2000000 in
theorem apYield (F : Fence) (m : Nat) (w0 : World) (fn : FuncId) (hfn : F.fn fn) (sv : Value) (Bs l D : Nat) (hBl : Bs ≠ l) (hDl : D ≠ l) (hDB : D ≠ Bs) (h0B : w0.heap.size ≤ Bs) (h0l : w0.heap.size ≤ l)
    (N : Nat) (hN : N ≤ maxLen) (hNb : N * 16 ≤ 140737488355328) (ss : List Int) (x : Int) (W : World) (h : ApAt w0 fn sv Bs l D ss W) (hlen : ss.length < N) :
    YieldAt F m Try.prog l #[.int .i16 x] W fun e W' => e = .returned (.bool true) ∧ ApAt w0 fn sv Bs l D (ss ++ [x]) W' ∧ KeepsWalks W W' := by
  obtain ⟨i0, hi, hz0, hz1, hz2⟩ := info_parts info16
  obtain ⟨v, hv, hrow, _⟩ := h.box
  refine ⟨fn, #[.slice none 0 0, sv, .pointer (some ⟨Bs, 0, none⟩), undef, .slice none 0 0, undef, sv, .int .i16 x, undef, undef, undef, undef, undef], apAssign, apBody, by simpa [apRec] using run_yield (P := Try.prog) (args := #[.int .i16 x]) h.L rfl, roundIn_of_wpIn hfn ?_⟩
  have hl : l < W.heap.size := (Array.getElem?_eq_some_iff.1 h.L).1
  have hbr := run_beginRound (P := Try.prog) h.L rfl
  obtain ⟨W2, hW2⟩ : ∃ W2, W.putObj l (.loop { apRec fn sv Bs D .ready none with state := .busy }) = W2 := ⟨_, rfl⟩
  rw [hW2] at hbr
  have hg2 : W.grownBy W2 (some l) := by rw [← hW2]; exact grownBy_putObj _ _ _
  have hk2 : KeepsWalks W W2 := by rw [← hW2]; exact KeepsWalks.putObj _ h.L rfl
  have hv2 : W2.heap[Bs]? = some (.cells #[v] 22 (0, 0)) := by rw [← hW2]; exact (World.putObj_heap_other hBl).trans hv
  have hK2 : W2.heap[D]? = some (.deferred (some [])) := by rw [← hW2]; exact (World.putObj_heap_other hDl).trans h.K
  have hL2 : W2.heap[l]? = some (.loop { apRec fn sv Bs D .ready none with state := .busy }) := by rw [← hW2]; exact World.putObj_heap_same hl
  have hrow2 : W2.ownsRow w0.heap.size 23 1 v ss.length (ss.map (Value.int .i16)) := hrow.kept hg2 (ownsRow_ne hrow h.L (fun cur e => by cases e))
  have hb2 : Below w0.heap.size w0 W2 := h.below.grown hg2 h.below.size (fun k e => by cases e; exact h0l)
  obtain ⟨hc2, hf2⟩ := cell_of_box hv2
  have hBlt : Bs < W2.heap.size := (Array.getElem?_eq_some_iff.1 hv2).1
  have hl2 : l < W2.heap.size := (Array.getElem?_eq_some_iff.1 hL2).1
  have hDlt : D < W2.heap.size := (Array.getElem?_eq_some_iff.1 hK2).1
  have ne_of : ∀ {j : Nat} {o : Obj}, W2.heap[j]? = some o → (∀ cur, o ≠ .cells cur 23 (0, 0)) → some j ≠ v.ownBlock := fun hj hno => by
    rcases ownsRow_ne hrow2 hj hno with e | e
    · rw [e]; simp
    · exact fun e' => e e'.symm
  clear hW2
  unfold apAssign
  gi_wp2_with (rw [Oper.semAt_eq _ _ _ (fun c h => by cases h)]; go_simp; try go_bits)
  unfold apBody
  gi_wp2_with (first
    | (gi_at_builtin; refine wpListIn_append_own _ rfl _ _ 22 rfl w0.heap.size 23 i0 (.int .i16 0) 1 2 Try.underlying22 hi hz0 hz1 hz2 rfl (by decide) _ _ _ rfl (hrow2.alloc _) ⟨W2.heap.size, 0, none⟩ 1 1 [.int .i16 x] rfl rfl (cell_one_new _ _ _) (by simp [Value.oneCell']) (by omega) (by omega) (by have := hb2.size; simp; omega) ?_; intro v' w3 hown' hg3 hnil3
       have hv3 : w3.heap[Bs]? = some (.cells #[v] 22 (0, 0)) := (hg3.block Bs (by simp; omega) (ne_of hv2 (fun cur e => by cases e))).trans ((Below.heap_alloc _ _ Bs hBlt).trans hv2)
       obtain ⟨hc3, hf3⟩ := cell_of_box hv3
       obtain ⟨g', cap', cur', rfl, hbase', hgb', hr1, hr2, hr3, hr4⟩ : ∃ g' cap' cur', v' = .slice (some ⟨g', 0, none⟩) (ss.length + 1) cap' ∧ w0.heap.size ≤ g' ∧ w3.heap[g']? = some (.cells cur' 23 (0, 0)) ∧ ss.length + 1 ≤ cap' ∧ cap' ≤ maxLen ∧ cur'.size = cap' * 1 ∧ cur'.toList.take ((ss.length + 1) * 1) = ss.map (Value.int .i16) ++ [.int .i16 x] := by
         rcases hown'.2 with ⟨_, h0⟩ | h'
         · exact absurd h0 (by omega)
         · exact h'
       simp only [Act.put, List.setIfInBounds_toArray, List.set_cons_succ, List.set_cons_zero])
    | (rw [Oper.semAt_eq _ _ _ (fun c h => by cases h)]; go_simp; try go_bits))
  have hg3' : (W2.alloc (.cells #[.int .i16 x] 23)).grownBy w3 v.ownBlock := hg3
  have hL3 : w3.heap[l]? = some (.loop { apRec fn sv Bs D .ready none with state := .busy }) := (hg3'.block l (by simp; omega) (ne_of hL2 (fun cur e => by cases e))).trans ((Below.heap_alloc _ _ l hl2).trans hL2)
  have hK3 : w3.heap[D]? = some (.deferred (some [])) := (hg3'.block D (by simp; omega) (ne_of hK2 (fun cur e => by cases e))).trans ((Below.heap_alloc _ _ D hDlt).trans hK2)
  obtain ⟨w4, hw4⟩ : ∃ w4, w3.setCell ⟨Bs, 0, none⟩ (.slice (some ⟨g', 0, none⟩) (ss.length + 1) cap') = w4 := ⟨_, rfl⟩
  rw [hw4]
  have hg4 : w3.grownBy w4 (some Bs) := by rw [← hw4]; exact grownBy_setCell0 _ _ _
  have hv4 : w4.heap[Bs]? = some (.cells #[.slice (some ⟨g', 0, none⟩) (ss.length + 1) cap'] 22 (0, 0)) := by rw [← hw4]; exact heap_setCell_box _ hv3
  have hL4 : w4.heap[l]? = some (.loop { apRec fn sv Bs D .ready none with state := .busy }) := (hg4.block l (Array.getElem?_eq_some_iff.1 hL3).1 (fun e => hBl (by cases e; rfl))).trans hL3
  have hK4 : w4.heap[D]? = some (.deferred (some [])) := (hg4.block D (Array.getElem?_eq_some_iff.1 hK3).1 (fun e => hDB (by cases e; rfl))).trans hK3
  have hrow4 := hown'.kept hg4 (ownsRow_ne hown' hv3 (fun cur e => by cases e))
  have hl4 : l < w4.heap.size := (Array.getElem?_eq_some_iff.1 hL4).1
  have hb3 : Below w0.heap.size w0 w3 := (hb2.alloc hb2.size _).grown hg3' (by have := hb2.size; simp; omega) (fun k e => (hrow2.lt k e).1)
  have hb4 : Below w0.heap.size w0 w4 := hb3.grown hg4 hb3.size (fun k e => by cases e; exact h0B)
  have hk4 : KeepsWalks W w4 := ((hk2.trans (KeepsWalks.alloc _ _)).trans (KeepsWalks.of_grownBy hg3' (ownsRow_not_walk (hrow2.alloc _)))).trans (by rw [← hw4]; exact KeepsWalks.setCell _ _ _)
  clear hw4
  refine ⟨_, _, run_endRound none hL4, rfl, ⟨⟨_, (World.putObj_heap_other hBl).trans hv4, ?_, by simp⟩, World.putObj_heap_same hl4, (World.putObj_heap_other hDl).trans hK4, hb4.grown (grownBy_putObj _ _ _) hb4.size (fun k e => by cases e; exact h0l)⟩, hk4.trans (KeepsWalks.putObj _ hL4 rfl)⟩
  have := hrow4.kept (grownBy_putObj w4 l (.loop { { apRec fn sv Bs D .ready none with state := .busy } with state := if (none : Option Code).isNone then .ready else .done, pending := none })) (ownsRow_ne hrow4 hL4 (fun cur e => by cases e))
  simpa using this



theorem appendSeq_in (F : Fence) (n : Nat) (h11 : F.fn 159) (hro : F.round = none) (hn : 2 ≤ n) (g : Nat) (lb : Array Value) (hFg : F.fn g) (eg : ∀ args w, (callFunc g args).run Try.prog w = .ok (.enter g args) w)
    (N : Nat) (hN : N ≤ maxLen) (hNb : N * 16 ≤ 140737488355328) (w : World) (ss : List Int) (hseq : SeqB F (n - 1) g lb ss N w) :
    CallsIn F n Try.prog 159 #[.slice none 0 0, .func (.func g) #[] lb] w fun e w' => ∃ (v : Value), e = .returned v ∧ w'.ownsRow w.heap.size 23 1 v ss.length (ss.map (Value.int .i16)) ∧ (v = .slice none 0 0 ↔ ss = []) ∧ Below w.heap.size w w' := by
  have h1 : 1 ≤ n := by omega
  refine callsIn_of_wp_marks Try.func159 rfl h11 ?_ hro
  simp only [Try.ntmps159, List.size_toArray, List.length_cons, List.length_nil, Nat.reduceAdd, Nat.reduceSub, Array.replicate_succ, Array.replicate_zero, List.push_toArray, List.append_toArray, List.nil_append, List.cons_append]
  gi_wp2
  refine wpIn_rangeFunc ?_
  intro fn hfn
  rw [hro]
  obtain ⟨W0, hW0⟩ : ∃ W0, w.alloc (.cells #[.slice none 0 0] 22) = W0 := ⟨_, rfl⟩
  have hs0 : W0.heap.size = w.heap.size + 1 := by rw [← hW0]; simp
  have hv0 : W0.heap[w.heap.size]? = some (.cells #[.slice none 0 0] 22 (0, 0)) := by rw [← hW0]; exact World.alloc_heap_new w _
  have hb0 : Below w.heap.size w W0 := by rw [← hW0]; exact (Below.refl _ w).alloc (Nat.le_refl _) _
  rw [hW0]
  obtain ⟨W1, hW1⟩ : ∃ W1, (W0.alloc (.deferred (some []))).alloc (.loop (apRec fn (.func (.func g) #[] lb) w.heap.size W0.heap.size .ready none)) = W1 := ⟨_, rfl⟩
  have hold : ∀ k, k < W0.heap.size → W1.heap[k]? = W0.heap[k]? := fun k hk => by
    rw [← hW1]; exact (Below.heap_alloc _ _ k (by simp; omega)).trans (Below.heap_alloc _ _ k hk)
  have hb1 : Below w.heap.size w W1 := by rw [← hW1]; exact (hb0.alloc hb0.size _).alloc (by have := hb0.size; simp; omega) _
  have hs1 : W1.heap.size = W0.heap.size + 2 := by rw [← hW1]; simp
  have hM : ApAt w fn (.func (.func g) #[] lb) w.heap.size (W0.heap.size + 1) W0.heap.size [] W1 :=
    ⟨⟨_, (hold w.heap.size (by omega)).trans hv0, ⟨rfl, .inl ⟨rfl, rfl⟩⟩, by simp⟩,
     by rw [← hW1]; have := World.alloc_heap_new (W0.alloc (.deferred (some []))) (.loop (apRec fn (.func (.func g) #[] lb) w.heap.size W0.heap.size .ready none)); rwa [World.size_alloc] at this,
     by rw [← hW1]; exact (Below.heap_alloc _ _ _ (by simp)).trans (World.alloc_heap_new W0 _), hb1⟩
  refine ⟨W0.heap.size + 1, [{ target := .collected W0.heap.size, args := #[] }], W1, { target := .fn (.func g) lb, args := #[.func (.yield (W0.heap.size + 1)) #[] #[]] }, W1, g,
    #[.func (.yield (W0.heap.size + 1)) #[] #[]] ++ lb, W1, ?_, ?_, ?_, ?_, fun _ => h1, ?_⟩
  · rw [← hW1]; exact run_enterLoop_outer _ _ _ _ _
  · simp [resolve, go_sem]
  · intro f' hf'; simp [Target.leads] at hf'; subst hf'; exact hFg
  · simp [invoke, go_sem, eg]
  · refine (hseq (W0.heap.size + 1) (ApAt w fn (.func (.func g) #[] lb) w.heap.size (W0.heap.size + 1) W0.heap.size) W1 hb1 (fun pre w h => h.below)
      (fun pre x W hJ hl => apYield F (n - 1 - 1) w fn hfn _ w.heap.size (W0.heap.size + 1) W0.heap.size (by omega) (by omega) (by omega) (Nat.le_refl _) (by omega) N hN hNb pre x W hJ hl) hM).mono ?_
    rintro e W2 ⟨⟨v0, rfl⟩, h2⟩
    obtain ⟨v, hv, hrow, hnil⟩ := h2.box
    have hend := run_endLoop (P := Try.prog) h2.L (by simp [apRec])
    obtain ⟨W3, hW3⟩ : ∃ W3, W2.putObj (W0.heap.size + 1) (.loop { apRec fn (.func (.func g) #[] lb) w.heap.size W0.heap.size .ready none with state := .exhausted }) = W3 := ⟨_, rfl⟩
    rw [hW3] at hend
    have hg3 : W2.grownBy W3 (some (W0.heap.size + 1)) := by rw [← hW3]; exact grownBy_putObj _ _ _
    have hv3 : W3.heap[w.heap.size]? = some (.cells #[v] 22 (0, 0)) := by rw [← hW3]; exact (World.putObj_heap_other (by omega)).trans hv
    have hK3 : W3.heap[W0.heap.size]? = some (.deferred (some [])) := by rw [← hW3]; exact (World.putObj_heap_other (by omega)).trans h2.K
    have hrow3 := hrow.kept hg3 (ownsRow_ne hrow h2.L (fun cur e => by cases e))
    have hb3 : Below w.heap.size w W3 := h2.below.grown hg3 h2.below.size (fun k e => by cases e; omega)
    obtain ⟨hc3, hf3⟩ := cell_of_box hv3
    clear hW3
    refine ⟨none, W3, hend, ?_⟩
    gi_wp2
    rw [← hs0]
    refine ⟨by simp, .inl ⟨_, _, rfl, run_takeDeferred hK3, ?_⟩⟩
    exact ⟨_, results_tmp rfl _ _ _, v, rfl, hrow3.kept (grownBy_putObj _ _ _) (ownsRow_ne hrow3 hK3 (fun cur e => by cases e)), hnil, hb3.grown (grownBy_putObj _ _ _) hb3.size (fun k e => by cases e; omega)⟩


theorem values_seq (F : Fence) (n : Nat) (hf : F.fn 139) (hro : F.round = none) (hn : 1 ≤ n) (Bs Bo b off cap : Nat) (zs : List Int) (hreach : zs.length ≤ 60000) (w : World) (hb : b < w.heap.size) (hBl : Bs < w.heap.size)
    (hBs : w.cell? ⟨Bs, Bo, none⟩ = some (.slice (some ⟨b, off, none⟩) zs.length cap)) (hc : ∀ j, j < zs.length → w.cell? ⟨b, off + j, none⟩ = some (.int .i16 (zs[j]?.getD 0))) :
    SeqB F n 139 #[.pointer (some ⟨Bs, Bo, none⟩)] zs zs.length w := fun l J W hW hJb hY h0 =>
  values1_in F n hf hro hn l Bs Bo b off cap w.heap.size zs hreach hb w J hJb hY hc W ((hW.cell (p := ⟨Bs, Bo, none⟩) hBl).trans hBs) h0
theorem collect_in (F : Fence) (n : Nat) (h8 : F.fn 137) (h11 : F.fn 159) (hro : F.round = none) (hn : 3 ≤ n) (g : Nat) (lb : Array Value) (hFg : F.fn g) (eg : ∀ args w, (callFunc g args).run Try.prog w = .ok (.enter g args) w)
    (N : Nat) (hN : N ≤ maxLen) (hNb : N * 16 ≤ 140737488355328) (w : World) (ss : List Int) (hseq : SeqB F (n - 1 - 1) g lb ss N w) :
    CallsIn F n Try.prog 137 #[.func (.func g) #[] lb] w fun e w' => ∃ (v : Value), e = .returned v ∧ w'.ownsRow w.heap.size 23 1 v ss.length (ss.map (Value.int .i16)) ∧ (v = .slice none 0 0 ↔ ss = []) ∧ Below w.heap.size w w' := by
  have h1 : 1 ≤ n := by omega
  refine callsIn_of_wp Try.func137 rfl h8 ?_ hro
  simp only [Try.ntmps137, List.size_toArray, List.length_cons, List.length_nil, Nat.reduceAdd, Nat.reduceSub, Array.replicate_succ, Array.replicate_zero, List.push_toArray, List.append_toArray, List.nil_append, List.cons_append]
  gi_wp2_with (gi_at_call 159; refine (appendSeq_in F (n - 1) h11 hro (by omega) g lb hFg eg N hN hNb _ ss hseq).mono ?_; rintro e w' ⟨v, rfl, hrow, hnil, hb⟩)
  go_ret
  exact ⟨v, rfl, hrow, hnil, hb⟩
theorem RelPs_ints {J : Nat → Prop} {w : World} {k : IntKind} : ∀ {l : List Int} {vs : List Value}, RelPs J w (ints k l) vs → vs = l.map (Value.int k)
  | [], _, h => h
  | x :: l, _, ⟨y, ys, h1, h2, h3⟩ => by rw [h1, RelPs_ints h3, h2.1]; rfl
theorem RelPs_of_ints {J : Nat → Prop} {w : World} {k : IntKind} : ∀ (l : List Int), RelPs J w (ints k l) (l.map (Value.int k))
  | [] => rfl
  | x :: l => ⟨_, _, rfl, ⟨rfl, rfl⟩, RelPs_of_ints l⟩
theorem flat_ints (k : IntKind) (l : List Int) : ((l.map (Value.int k)).flatMap fun x => x.cells.toList) = l.map (Value.int k) := by
  induction l with
  | nil => rfl
  | cons x l ih => simp only [List.map_cons, List.flatMap_cons, ih]; rfl
theorem collect16_fun (l : List Int) (h1 : 1 ≤ l.length) (h2 : l.length ≤ 60000) : FunO Try.prog 137 [.clos (.func 139) [.ptr (.lst (ints .i16 l))]] fun r o => r = .ref 0 l.length ∧ o = some ⟨23, 1, ints .i16 l⟩ := by
  refine ⟨by kernel_rfl, fun J w vs hJ hG hv => ?_⟩
  obtain ⟨y, ys, rfl, hy, rfl⟩ := hv
  obtain ⟨ps, rfl, hps⟩ := hy
  obtain ⟨p, qs, rfl, hp, rfl⟩ := hps
  obtain ⟨Bs, Bo, x, rfl, hx, hw, hJB, hcell⟩ := hp
  obtain ⟨a, c, us, rfl, hc1, hc2, hc3, ha, hus, hrow⟩ := hx
  have hll : (ints .i16 l).length = l.length := by simp [ints]
  rw [hll] at hc1 hc3 hcell
  obtain rfl := RelPs_ints hus
  rw [flat_ints] at hrow
  have hne : l ≠ [] := fun e => by rw [e] at h1; simp at h1
  rcases hrow with hz | ⟨b, o, rfl, hJb, hcs⟩
  · exact absurd (List.map_eq_nil_iff.1 hz) hne
  have hBs : w.cell? ⟨Bs, Bo, none⟩ = some (.slice (some ⟨b, o, none⟩) l.length c) := hcell 0 _ rfl
  have hcj : ∀ j, j < l.length → w.cell? ⟨b, o + j, none⟩ = some (.int .i16 (l[j]?.getD 0)) := fun j hj => hcs j _ (by simp [List.getElem?_map, List.getElem?_eq_getElem hj])
  have hm : maxLen = 9223372036854775807 := rfl
  have hseq := values_seq Fence.wide (3 - 1 - 1) trivial rfl (by decide) Bs Bo b o c l h2 w (hJ b hJb) (hJ Bs hJB) hBs hcj
  have key := callsIn_wide.1 (collect_in Fence.wide 3 trivial trivial rfl (by decide) 139 #[.pointer (some ⟨Bs, Bo, none⟩)] trivial (enters_of Try.func139 (by kernel_rfl) rfl) l.length (by omega) (by omega) w l hseq)
  refine key.mono ?_
  rintro e w' ⟨v, rfl, hrow, hnil, hb⟩
  rcases hrow.2 with ⟨rfl, h0⟩ | ⟨g, cap, cur, rfl, hbase, hgb, r1, r2, r3, r4⟩
  · omega
  have hgl : g < w'.heap.size := (Array.getElem?_eq_some_iff.1 hgb).1
  refine ⟨_, .ref 0 l.length, some ⟨23, 1, ints .i16 l⟩, rfl, ⟨rfl, rfl⟩, hb, J, ⟨some ⟨g, 0, none⟩, cap, 1⟩, fun _ h => h, fun _ h => .inl h, rfl, by simp [D.ids], ints_noRefs, ?_, fun g' _ e => by cases e; exact hbase⟩
  refine .inl ⟨rfl, Nat.one_pos, by rw [hll]; exact r1, r2, by rw [hll]; exact hc3, l.map (Value.int .i16), RelPs_of_ints l, ?_, .inr ⟨Nat.lt_of_lt_of_le h1 r1, g, cur, rfl, fun hj => ?_, hgb, r3, by rw [hll, flat_ints]; exact r4⟩⟩
  · intro x hx
    obtain ⟨n, _, rfl⟩ := List.mem_map.1 hx
    exact ⟨rfl, fun c hc => by simp [Value.cells] at hc; subst hc; rfl⟩
  · have := hJ g hj; omega
end Go.Proofs.Ytpkampecmlpfmaa.T

end
section
set_option linter.unusedSimpArgs false
set_option linter.unusedVariables false
/- Sorting a list by insertion, walked. -/
namespace Go.Proofs.Ytpkampecmlpfmaa.T
open Go Go.VL Go.Proofs
set_option maxRecDepth 100000
set_option maxHeartbeats 4000000
abbrev own16 (l : List Int) : Own := ⟨23, 1, ints .i16 l⟩

theorem isNaNS16_fun (x : Int) : Fun Try.prog 161 [.v (.int .i16 x)] fun r => r = .v (.bool false) := by
  refine Fun.of_awpI Try.func161 rfl cal161 Try.ntmps161 (by simp) fun hwf => ?_
  simp only [D.wfs, D.wf, ints_length, ints_wfs, rows_length, rows_wfs, capMax, and_true, true_and] at hwf
  repeat' (first | simp only [go_sem, bne_self_eq_false, Ret_eq Try.results161] | fail)

theorem lessS16_fun (x y : Int) : Fun Try.prog 140 [.v (.int .i16 x), .v (.int .i16 y)] fun r => r = .v (.bool (decide (x < y))) := by
  refine Fun.of_awpI Try.func140 rfl cal140 Try.ntmps140 (by simp) fun hwf => ?_
  simp only [D.wfs, D.wf, ints_length, ints_wfs, rows_length, rows_wfs, capMax, and_true, true_and] at hwf
  repeat' (first | simp only [go_sem, Ret_eq Try.results140] | (refine opCallI_rd (by simp only [go_sem, Ret_eq Try.results140]; first | done | rfl) (isNaNS16_fun x) (by rintro _ rfl; rfl) ?_; rintro _ rfl) | fail)

theorem insertion16 (l : List Int) (a b : Nat) (hab : a ≤ b) (hb : b ≤ l.length) (hl : l.length ≤ 1000000) : FunL Try.prog 176 [.ref 0 l.length, .v (.int .i64 a), .v (.int .i64 b)] [own16 l] fun r os =>
    r = .tup [] ∧ ∃ l', os = [own16 l'] ∧ Sw a b l l' ∧ Sd a b l' := by
  refine FunL.of_awpI [(100000, 0)] rfl Try.func176 rfl cal176 Try.ntmps176 (by simp) fun hwf hlw ls => ?_
  simp only [lentWf, D.wfs, D.wf, ints_length, ints_wfs, rows_length, rows_wfs, capMax, and_true, true_and] at hwf hlw
  repeat' (first | simp only [go_sem, Ret_eq Try.results176] | simp (disch := omega) only [arith, IntKind.bits, capMax, fill_len, elt_fill] | fail)
  refine awpI_while (σ := Nat × List Int) (fun x => b - x.1) (fun x => a + 1 ≤ x.1 ∧ Sw a b l x.2 ∧ Sd a x.1 x.2) (fun x => [(6, .v (.int .i64 x.1))]) (fun x => [(0, own16 x.2)]) [0, 1, 2, 100000] [] (a + 1, l) _ (Weak.refl _) ⟨Nat.le_refl _, .refl _, fun p q h1 h2 h3 => by omega⟩ ?_ ?_ ?_
  · simp only [go_sem, Ret_eq Try.results176]
  · simp only [go_sem, Ret_eq Try.results176]
  · rintro ⟨i, l1⟩ s ⟨hi, hsw, hsd⟩ hs
    simp only [go_sem, Ret_eq Try.results176] at hs
    dsimp only at hi hsw hsd
    have hl1 := hsw.length
    by_cases hib : i < b
    · repeat' (first | simp only [go_sem, hs, Ret_eq Try.results176] | simp (disch := omega) only [arith, IntKind.bits, capMax, fill_len, elt_fill] | fail)
      refine awpI_while (σ := Nat × List Int) (fun x => x.1) (fun x => (a ≤ x.1 ∧ x.1 ≤ i) ∧ Sw a b l x.2 ∧ Ins a x.1 i x.2) (fun x => [(7, .v (.int .i64 x.1))]) (fun x => [(0, own16 x.2)]) [0, 1, 2, 6, 100000] [] (i, l1) _ (Weak.refl _) ⟨⟨by omega, Nat.le_refl _⟩, hsw, Ins.start hsd⟩ ?_ ?_ ?_
      · simp only [go_sem, hs, Ret_eq Try.results176]
      · simp only [go_sem, hs, Ret_eq Try.results176]
      · rintro ⟨j, l2⟩ s2 ⟨⟨hj1, hj2⟩, hsw2, hins⟩ hs2
        simp only [go_sem, hs, Ret_eq Try.results176] at hs2
        dsimp only at hj1 hj2 hsw2 hins
        have hl2 := hsw2.length
        by_cases hja : a < j
        · have hls := lessS16_fun (l2.getD j 0) (l2.getD (j - 1) 0)
          have ej : (j : Int) - 1 = ((j - 1 : Nat) : Int) := by omega
          by_cases hlt : l2.getD j 0 < l2.getD (j - 1) 0
          · rw [decide_eq_true hlt] at hls
            have e1 := sw_length (l := l2) (i := j) (j := j - 1)
            have e4 : (l2.set j (l2.getD (j - 1) 0)).length = l2.length := List.length_set
            have e2 : (l2.set j (l2.getD (j - 1) 0)).set (j - 1) (l2.getD j 0) = sw l2 j (j - 1) := rfl
            have e3 := sw_comm (l := l2) (i := j) (j := j - 1)
            repeat' (first | simp only [go_sem, hs, hs2, ej, hl2, e2, e3, List.length_set, Ret_eq Try.results176] | simp (disch := omega) only [arith, IntKind.bits, capMax, fill_len, elt_fill] | (refine awpI_draw2 (id := 4) (.one false 0 (.one false 1 (.one false 2 (.one false 3 (.one false 4 (.one false 5 (.one false 6 (.one false 7 (.one false 8 (.one false 9 (.one false 10 (.one false 11 (.one false 12 (.only 13 (.one false 14 .done))))))))))))))) mixed (by decide +kernel) (by decide +kernel) ?_) | (refine awpI_draw2 (id := 6) (.one false 0 (.one false 1 (.one false 5 (.one false 6 (.one false 7 (.one false 8 (.one false 9 (.one false 10 (.one false 11 (.one false 12 (.one false 13 (.one false 14 (.mv 2 (.mv 3 (.cal 4 [15] (.only 15 (.one false 16 (.only 17 .done)))))))))))))))))) mixed (by decide +kernel) (by decide +kernel) ?_) | (refine opCallI_rd (by simp only [go_sem, hs, hs2, ej, hl2, e2, e3, List.length_set, Ret_eq Try.results176]; first | done | rfl) (hls) (by rintro _ rfl; rfl) ?_; rintro _ rfl) | fail)
            all_goals
              refine AgainW.to (j - 1, sw l2 j (j - 1)) ?_ ?_ ?_
              · show j - 1 < j; omega
              · exact ⟨⟨by show a ≤ j - 1; omega, by show j - 1 ≤ i; omega⟩, .step j (j - 1) hsw2 ⟨by omega, by omega⟩ ⟨by omega, by omega⟩ (by omega), hins.step hja hj2 (by omega) hlt⟩
              · simp only [go_sem, hs, hs2, Ret_eq Try.results176]
          · rw [decide_eq_false hlt] at hls
            repeat' (first | simp only [go_sem, hs, hs2, ej, hl2, Ret_eq Try.results176] | simp (disch := omega) only [arith, IntKind.bits, capMax, fill_len, elt_fill] | (refine awpI_draw2 (id := 4) (.one false 0 (.one false 1 (.one false 2 (.one false 3 (.one false 4 (.one false 5 (.one false 6 (.one false 7 (.one false 8 (.one false 9 (.one false 10 (.one false 11 (.one false 12 (.only 13 (.one false 14 .done))))))))))))))) mixed (by decide +kernel) (by decide +kernel) ?_) | (refine opCallI_rd (by simp only [go_sem, hs, hs2, ej, hl2, Ret_eq Try.results176]; first | done | rfl) (hls) (by rintro _ rfl; rfl) ?_; rintro _ rfl) | fail)
            all_goals
              refine AgainW.to (i + 1, l2) ?_ ?_ ?_
              · show b - (i + 1) < b - i; omega
              · exact ⟨by show a + 1 ≤ i + 1; omega, hsw2, hins.done (.inr (by omega))⟩
              · simp only [go_sem, hs, hs2, Ret_eq Try.results176]
        · repeat' (first | simp only [go_sem, hs, hs2, Ret_eq Try.results176] | simp (disch := omega) only [arith, IntKind.bits, capMax, fill_len, elt_fill] | (refine awpI_draw2 (id := 4) (.one false 0 (.one false 1 (.one false 2 (.one false 3 (.one false 4 (.one false 5 (.one false 6 (.one false 7 (.one false 8 (.one false 9 (.one false 10 (.one false 11 (.one false 12 (.only 13 (.one false 14 .done))))))))))))))) mixed (by decide +kernel) (by decide +kernel) ?_) | fail)
          all_goals
            refine AgainW.to (i + 1, l2) ?_ ?_ ?_
            · show b - (i + 1) < b - i; omega
            · exact ⟨by show a + 1 ≤ i + 1; omega, hsw2, hins.done (.inl (by omega))⟩
            · simp only [go_sem, hs, hs2, Ret_eq Try.results176]
    · repeat' (first | simp only [go_sem, hs, Ret_eq Try.results176] | simp (disch := omega) only [arith, IntKind.bits, capMax, fill_len, elt_fill] | refine RetL_calc Try.results176 rfl ?_ | fail)
      all_goals exact ⟨rfl, l1, rfl, hsw, fun p q h1 h2 h3 => hsd p q h1 h2 (by omega)⟩
end Go.Proofs.Ytpkampecmlpfmaa.T

end
