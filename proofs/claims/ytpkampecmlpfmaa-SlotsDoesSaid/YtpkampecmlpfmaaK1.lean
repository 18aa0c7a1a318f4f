import Derived.Test.YtpkampecmlpfmaaLE
import Derived.IntWalk
import Derived.Test.YtpkampecmlpfmaaProg
import Derived.Laws.FloatArith
set_option linter.unusedSimpArgs false
set_option linter.unusedVariables false
section
/- A book as an argument. -/
namespace Go.VL
open Go Go.RowKit
end Go.VL

end
section
/- What the pack functions compute. -/
namespace Go.Proofs.Ytpkampecmlpfmaa.T
open Go Go.VL Go.Proofs
theorem idx_ints {K : IntKind} {l : List Int} {k : Nat} (hk : k < l.length) : (ints K l)[(k : Int).toNat]? = some (.v (.int K l[k])) := by simp [ints, hk]
theorem idx_in {l : List Int} {k : Nat} (hk : k < l.length) : (0 : Int) ≤ k ∧ (k : Int) < l.length := by omega

end Go.Proofs.Ytpkampecmlpfmaa.T

end
section
/- Vectors, plainly. -/
namespace Go.Proofs.Ytpkampecmlpfmaa.T
open Go Go.VL Go.Proofs
def I16s (l : List Int) : Prop := ∀ x ∈ l, -32768 ≤ x ∧ x ≤ 32767
theorem I16s.at {l : List Int} (h : I16s l) {k : Nat} (hk : k < l.length) : -32768 ≤ l.getD k 0 ∧ l.getD k 0 ≤ 32767 := h _ (getD_mem hk)
theorem I16s.getD {l : List Int} (h : I16s l) (k : Nat) : -32768 ≤ l.getD k 0 ∧ l.getD k 0 ≤ 32767 := by
  by_cases hk : k < l.length
  · exact h.at hk
  · rw [show l.getD k 0 = 0 by simp [List.getD, List.getElem?_eq_none (show l.length ≤ k by omega)]]; omega
theorem I16s.take {l : List Int} (h : I16s l) (n : Nat) : I16s (l.take n) := fun x hx => h x (List.mem_of_mem_take hx)
theorem I16s.drop {l : List Int} (h : I16s l) (n : Nat) : I16s (l.drop n) := fun x hx => h x (List.mem_of_mem_drop hx)
theorem I16s.append {l m : List Int} (h : I16s l) (h' : I16s m) : I16s (l ++ m) := fun x hx => (List.mem_append.1 hx).elim (h x) (h' x)
def vecOk (l : List Int) : Bool := decide (1 ≤ l.length) && decide (l.length ≤ 64) && l.all fun x => decide (-32767 ≤ x)
def vecErr (l : List Int) : Int := if vecOk l then 0 else 1
theorem vecOk_iff {l : List Int} : vecOk l = true ↔ 1 ≤ l.length ∧ l.length ≤ 64 ∧ ∀ x ∈ l, -32767 ≤ x := by
  unfold vecOk
  simp only [Bool.and_eq_true, decide_eq_true_eq, List.all_eq_true, and_assoc]
theorem vecErr_zero {l : List Int} : vecErr l = 0 ↔ vecOk l = true := by
  unfold vecErr; split <;> simp_all
def mn (a b : Int) : Int := if b < a then b else a
def minL (l : List Int) : Int := l.foldl mn (l.getD 0 0)
theorem foldl_mn_lt (c : Int) : ∀ (l : List Int) (a : Int), (l.foldl mn a < c ↔ a < c ∨ ∃ x ∈ l, x < c)
  | [], a => by simp
  | x :: l, a => by
    rw [List.foldl_cons, foldl_mn_lt c l]
    simp only [List.mem_cons, exists_eq_or_imp]
    unfold mn
    split <;> constructor <;> rintro (h | h) <;> first | exact .inr (.inr h) | (rcases h with h | h <;> first | exact .inr h | (left; omega)) | (first | (left; omega) | (right; left; omega))
theorem minL_lt {l : List Int} (h : 0 < l.length) (c : Int) : (minL l < c ↔ ∃ x ∈ l, x < c) := by
  unfold minL
  rw [foldl_mn_lt]
  constructor
  · rintro (h1 | h1)
    · exact ⟨_, getD_mem (d := 0) h, h1⟩
    · exact h1
  · exact .inr
theorem vec_min {l : List Int} (h1 : 1 ≤ l.length) (h2 : l.length ≤ 64) : vecOk l = decide (¬ minL l < -32767) := by
  rw [Bool.eq_iff_iff, vecOk_iff, decide_eq_true_eq, minL_lt (by omega)]
  constructor
  · rintro ⟨_, _, h⟩ ⟨x, hx, hlt⟩; have := h x hx; omega
  · intro h
    refine ⟨h1, h2, fun x hx => ?_⟩
    refine Int.not_lt.1 fun hlt => h ⟨x, hx, hlt⟩
theorem vecErr_len {l : List Int} (h : ¬ (1 ≤ l.length ∧ l.length ≤ 64)) : vecErr l = 1 := by
  unfold vecErr
  rw [if_neg]
  rw [vecOk_iff]
  rintro ⟨h1, h2, _⟩
  exact h ⟨h1, h2⟩
theorem vecErr_min {l : List Int} (h1 : 1 ≤ l.length) (h2 : l.length ≤ 64) : vecErr l = if minL l < -32767 then 1 else 0 := by
  unfold vecErr
  rw [vec_min h1 h2]
  by_cases h : minL l < -32767 <;> simp [h]
theorem vecErr_at {l : List Int} {k : Nat} (hk : k < l.length) (h : l.getD k 0 < -32767) : vecErr l = 1 := by
  unfold vecErr
  rw [if_neg]
  rw [vecOk_iff]
  rintro ⟨_, _, h3⟩
  have := h3 _ (getD_mem (d := 0) hk)
  omega
theorem vecErr_all {l : List Int} (h1 : 1 ≤ l.length) (h2 : l.length ≤ 64) (h : ∀ i, i < l.length → ¬ l.getD i 0 < -32767) : vecErr l = 0 := by
  rw [vecErr_zero, vecOk_iff]
  refine ⟨h1, h2, fun x hx => ?_⟩
  obtain ⟨i, hi, rfl⟩ := List.mem_iff_getElem.1 hx
  have := h i hi
  simp [List.getD, hi] at this
  omega
end Go.Proofs.Ytpkampecmlpfmaa.T

end
section
/- Cuts, cells and spans, plainly. -/
namespace Go.Proofs.Ytpkampecmlpfmaa.T
open Go Go.VL Go.Proofs
def Rises (c : List Int) : Prop := ∀ i, i + 1 < c.length → c.getD i 0 ≤ c.getD (i + 1) 0
instance (c : List Int) : Decidable (Rises c) := by
  unfold Rises
  exact decidable_of_iff (∀ i, i < c.length - 1 → c.getD i 0 ≤ c.getD (i + 1) 0) ⟨fun h i hi => h i (by omega), fun h i hi => h i (by omega)⟩
def cutsOk (c : List Int) : Prop := c.length ≤ 15 ∧ Rises c ∧ (0 < c.length → -32767 ≤ c.getD 0 0)
instance (c : List Int) : Decidable (cutsOk c) := by unfold cutsOk; infer_instance
def cutsErr (c : List Int) : Int := if cutsOk c then 0 else 1
theorem Rises.le {c : List Int} (h : Rises c) : ∀ {i j : Nat}, i ≤ j → j < c.length → c.getD i 0 ≤ c.getD j 0 := by
  intro i j hij hj
  induction j with
  | zero => obtain rfl : i = 0 := by omega
            exact Int.le_refl _
  | succ j ih =>
    by_cases h1 : i = j + 1
    · subst h1; exact Int.le_refl _
    · exact Int.le_trans (ih (by omega) (by omega)) (h j hj)
def I16r (l : List (List Int)) : Prop := ∀ c ∈ l, I16s c
theorem I16r.getD {l : List (List Int)} (h : I16r l) (i : Nat) : I16s (l.getD i []) := by
  by_cases hi : i < l.length
  · exact h _ (getD_mem hi)
  · rw [show l.getD i [] = [] by simp [List.getD, List.getElem?_eq_none (show l.length ≤ i by omega)]]
    intro x hx; cases hx
end Go.Proofs.Ytpkampecmlpfmaa.T

end
section
set_option linter.defProp false
namespace Go.Proofs.Ytpkampecmlpfmaa.T
open Go Go.VL Go.Proofs
theorem fact_ok2 : okT Try.prog 2 = true := by kernel_rfl
theorem fact_cells2 : Program.cellsOf Try.prog 2 = 1 := by kernel_rfl
theorem fact_bytes2 : Program.bytesOf Try.prog 2 = 8 := by kernel_rfl
theorem fact_agg2 : aggT Try.prog 2 = false := by kernel_rfl
theorem fact_und2 : (Program.underlying Try.prog 2).isSome = true := by kernel_rfl
theorem fact_int2 : intT Try.prog 2 = some .i64 := by kernel_rfl
theorem fact_zok2 : zeroOK Try.prog 2 = true := by kernel_rfl
theorem fact_zero2 : zeroT Try.prog 2 = some (.int .i64 0) := by kernel_rfl
theorem fact_ok3 : okT Try.prog 3 = true := by kernel_rfl
theorem fact_cells3 : Program.cellsOf Try.prog 3 = 1 := by kernel_rfl
theorem fact_bytes3 : Program.bytesOf Try.prog 3 = 8 := by kernel_rfl
theorem fact_agg3 : aggT Try.prog 3 = false := by kernel_rfl
theorem fact_und3 : (Program.underlying Try.prog 3).isSome = true := by kernel_rfl
theorem fact_int3 : intT Try.prog 3 = some .i64 := by kernel_rfl
theorem fact_zok3 : zeroOK Try.prog 3 = true := by kernel_rfl
theorem fact_zero3 : zeroT Try.prog 3 = some (.int .i64 0) := by kernel_rfl
theorem fact_ok4 : okT Try.prog 4 = true := by kernel_rfl
theorem fact_cells4 : Program.cellsOf Try.prog 4 = 1 := by kernel_rfl
theorem fact_bytes4 : Program.bytesOf Try.prog 4 = 1 := by kernel_rfl
theorem fact_agg4 : aggT Try.prog 4 = false := by kernel_rfl
theorem fact_und4 : (Program.underlying Try.prog 4).isSome = true := by kernel_rfl
theorem fact_int4 : intT Try.prog 4 = none := by kernel_rfl
theorem fact_bool4 : isBoolT Try.prog 4 = true := by kernel_rfl
theorem fact_zok4 : zeroOK Try.prog 4 = true := by kernel_rfl
theorem fact_zero4 : zeroT Try.prog 4 = some (.bool false) := by kernel_rfl
theorem fact_ok5 : okT Try.prog 5 = true := by kernel_rfl
theorem fact_cells5 : Program.cellsOf Try.prog 5 = 1 := by kernel_rfl
theorem fact_bytes5 : Program.bytesOf Try.prog 5 = 1 := by kernel_rfl
theorem fact_agg5 : aggT Try.prog 5 = false := by kernel_rfl
theorem fact_und5 : (Program.underlying Try.prog 5).isSome = true := by kernel_rfl
theorem fact_int5 : intT Try.prog 5 = some .u8 := by kernel_rfl
theorem fact_zok5 : zeroOK Try.prog 5 = true := by kernel_rfl
theorem fact_zero5 : zeroT Try.prog 5 = some (.int .u8 0) := by kernel_rfl
theorem fact_ok9 : okT Try.prog 9 = true := by kernel_rfl
theorem fact_cells9 : Program.cellsOf Try.prog 9 = 1 := by kernel_rfl
theorem fact_bytes9 : Program.bytesOf Try.prog 9 = 16 := by kernel_rfl
theorem fact_agg9 : aggT Try.prog 9 = false := by kernel_rfl
theorem fact_und9 : (Program.underlying Try.prog 9).isSome = true := by kernel_rfl
theorem fact_int9 : intT Try.prog 9 = none := by kernel_rfl
theorem fact_str9 : strT Try.prog 9 = true := by kernel_rfl
theorem fact_zok9 : zeroOK Try.prog 9 = true := by kernel_rfl
theorem fact_zero9 : zeroT Try.prog 9 = some (.string ⟨#[]⟩) := by kernel_rfl
theorem fact_ok12 : okT Try.prog 12 = true := by kernel_rfl
theorem fact_cells12 : Program.cellsOf Try.prog 12 = 1 := by kernel_rfl
theorem fact_bytes12 : Program.bytesOf Try.prog 12 = 8 := by kernel_rfl
theorem fact_agg12 : aggT Try.prog 12 = false := by kernel_rfl
theorem fact_und12 : (Program.underlying Try.prog 12).isSome = true := by kernel_rfl
theorem fact_int12 : intT Try.prog 12 = some .u64 := by kernel_rfl
theorem fact_zok12 : zeroOK Try.prog 12 = true := by kernel_rfl
theorem fact_zero12 : zeroT Try.prog 12 = some (.int .u64 0) := by kernel_rfl
theorem fact_ok21 : okT Try.prog 21 = true := by kernel_rfl
theorem fact_cells21 : Program.cellsOf Try.prog 21 = 1 := by kernel_rfl
theorem fact_bytes21 : Program.bytesOf Try.prog 21 = 4 := by kernel_rfl
theorem fact_agg21 : aggT Try.prog 21 = false := by kernel_rfl
theorem fact_und21 : (Program.underlying Try.prog 21).isSome = true := by kernel_rfl
theorem fact_int21 : intT Try.prog 21 = some .i32 := by kernel_rfl
theorem fact_zok21 : zeroOK Try.prog 21 = true := by kernel_rfl
theorem fact_zero21 : zeroT Try.prog 21 = some (.int .i32 0) := by kernel_rfl
theorem fact_ok22 : okT Try.prog 22 = true := by kernel_rfl
theorem fact_cells22 : Program.cellsOf Try.prog 22 = 1 := by kernel_rfl
theorem fact_bytes22 : Program.bytesOf Try.prog 22 = 24 := by kernel_rfl
theorem fact_agg22 : aggT Try.prog 22 = false := by kernel_rfl
theorem fact_und22 : (Program.underlying Try.prog 22).isSome = true := by kernel_rfl
theorem fact_int22 : intT Try.prog 22 = none := by kernel_rfl
theorem fact_el22 : elT Try.prog 22 = some 23 := by kernel_rfl
theorem fact_sl22 : sliceT Try.prog 22 = true := by kernel_rfl
theorem fact_zok22 : zeroOK Try.prog 22 = true := by kernel_rfl
theorem fact_zero22 : zeroT Try.prog 22 = some (.slice none 0 0) := by kernel_rfl
theorem fact_ok23 : okT Try.prog 23 = true := by kernel_rfl
theorem fact_cells23 : Program.cellsOf Try.prog 23 = 1 := by kernel_rfl
theorem fact_bytes23 : Program.bytesOf Try.prog 23 = 2 := by kernel_rfl
theorem fact_agg23 : aggT Try.prog 23 = false := by kernel_rfl
theorem fact_und23 : (Program.underlying Try.prog 23).isSome = true := by kernel_rfl
theorem fact_int23 : intT Try.prog 23 = some .i16 := by kernel_rfl
theorem fact_zok23 : zeroOK Try.prog 23 = true := by kernel_rfl
theorem fact_zero23 : zeroT Try.prog 23 = some (.int .i16 0) := by kernel_rfl
theorem fact_ok25 : okT Try.prog 25 = true := by kernel_rfl
theorem fact_cells25 : Program.cellsOf Try.prog 25 = 1 := by kernel_rfl
theorem fact_bytes25 : Program.bytesOf Try.prog 25 = 8 := by kernel_rfl
theorem fact_agg25 : aggT Try.prog 25 = false := by kernel_rfl
theorem fact_und25 : (Program.underlying Try.prog 25).isSome = true := by kernel_rfl
theorem fact_int25 : intT Try.prog 25 = some .i64 := by kernel_rfl
theorem fact_zok25 : zeroOK Try.prog 25 = true := by kernel_rfl
theorem fact_zero25 : zeroT Try.prog 25 = some (.int .i64 0) := by kernel_rfl
theorem fact_ok36 : okT Try.prog 36 = true := by kernel_rfl
theorem fact_cells36 : Program.cellsOf Try.prog 36 = 1 := by kernel_rfl
theorem fact_bytes36 : Program.bytesOf Try.prog 36 = 24 := by kernel_rfl
theorem fact_agg36 : aggT Try.prog 36 = false := by kernel_rfl
theorem fact_und36 : (Program.underlying Try.prog 36).isSome = true := by kernel_rfl
theorem fact_int36 : intT Try.prog 36 = none := by kernel_rfl
theorem fact_el36 : elT Try.prog 36 = some 3 := by kernel_rfl
theorem fact_sl36 : sliceT Try.prog 36 = true := by kernel_rfl
theorem fact_zok36 : zeroOK Try.prog 36 = true := by kernel_rfl
theorem fact_zero36 : zeroT Try.prog 36 = some (.slice none 0 0) := by kernel_rfl
theorem fact_ok40 : okT Try.prog 40 = true := by kernel_rfl
theorem fact_cells40 : Program.cellsOf Try.prog 40 = 1 := by kernel_rfl
theorem fact_bytes40 : Program.bytesOf Try.prog 40 = 8 := by kernel_rfl
theorem fact_agg40 : aggT Try.prog 40 = false := by kernel_rfl
theorem fact_und40 : (Program.underlying Try.prog 40).isSome = true := by kernel_rfl
theorem fact_int40 : intT Try.prog 40 = none := by kernel_rfl
theorem fact_map40 : mapT Try.prog 40 = some (23, 4) := by kernel_rfl
theorem fact_ok42 : okT Try.prog 42 = true := by kernel_rfl
theorem fact_cells42 : Program.cellsOf Try.prog 42 = 1 := by kernel_rfl
theorem fact_bytes42 : Program.bytesOf Try.prog 42 = 24 := by kernel_rfl
theorem fact_agg42 : aggT Try.prog 42 = false := by kernel_rfl
theorem fact_und42 : (Program.underlying Try.prog 42).isSome = true := by kernel_rfl
theorem fact_int42 : intT Try.prog 42 = none := by kernel_rfl
theorem fact_el42 : elT Try.prog 42 = some 2 := by kernel_rfl
theorem fact_sl42 : sliceT Try.prog 42 = true := by kernel_rfl
theorem fact_zok42 : zeroOK Try.prog 42 = true := by kernel_rfl
theorem fact_zero42 : zeroT Try.prog 42 = some (.slice none 0 0) := by kernel_rfl
theorem fact_ok43 : okT Try.prog 43 = true := by kernel_rfl
theorem fact_cells43 : Program.cellsOf Try.prog 43 = 1 := by kernel_rfl
theorem fact_bytes43 : Program.bytesOf Try.prog 43 = 24 := by kernel_rfl
theorem fact_agg43 : aggT Try.prog 43 = false := by kernel_rfl
theorem fact_und43 : (Program.underlying Try.prog 43).isSome = true := by kernel_rfl
theorem fact_int43 : intT Try.prog 43 = none := by kernel_rfl
theorem fact_el43 : elT Try.prog 43 = some 46 := by kernel_rfl
theorem fact_sl43 : sliceT Try.prog 43 = true := by kernel_rfl
theorem fact_zok43 : zeroOK Try.prog 43 = true := by kernel_rfl
theorem fact_zero43 : zeroT Try.prog 43 = some (.slice none 0 0) := by kernel_rfl
theorem fact_ok44 : okT Try.prog 44 = true := by kernel_rfl
theorem fact_cells44 : Program.cellsOf Try.prog 44 = 3 := by kernel_rfl
theorem fact_bytes44 : Program.bytesOf Try.prog 44 = 56 := by kernel_rfl
theorem fact_agg44 : aggT Try.prog 44 = true := by kernel_rfl
theorem fact_und44 : (Program.underlying Try.prog 44).isSome = true := by kernel_rfl
theorem fact_int44 : intT Try.prog 44 = none := by kernel_rfl
theorem fact_zok44 : zeroOK Try.prog 44 = true := by kernel_rfl
theorem fact_zero44 : zeroT Try.prog 44 = some (.agg #[.int .i64 0, .slice none 0 0, .slice none 0 0]) := by kernel_rfl
theorem fact_fok44 : fieldsOK Try.prog 44 = true := by kernel_rfl
theorem fact_f0_44 : fieldTO Try.prog 44 0 = some (3, 0) := by kernel_rfl
theorem fact_f1_44 : fieldTO Try.prog 44 1 = some (42, 1) := by kernel_rfl
theorem fact_f2_44 : fieldTO Try.prog 44 2 = some (43, 2) := by kernel_rfl
theorem fact_ok45 : okT Try.prog 45 = true := by kernel_rfl
theorem fact_cells45 : Program.cellsOf Try.prog 45 = 3 := by kernel_rfl
theorem fact_bytes45 : Program.bytesOf Try.prog 45 = 56 := by kernel_rfl
theorem fact_agg45 : aggT Try.prog 45 = true := by kernel_rfl
theorem fact_und45 : (Program.underlying Try.prog 45).isSome = true := by kernel_rfl
theorem fact_int45 : intT Try.prog 45 = none := by kernel_rfl
theorem fact_zok45 : zeroOK Try.prog 45 = true := by kernel_rfl
theorem fact_zero45 : zeroT Try.prog 45 = some (.agg #[.int .i64 0, .slice none 0 0, .slice none 0 0]) := by kernel_rfl
theorem fact_fok45 : fieldsOK Try.prog 45 = true := by kernel_rfl
theorem fact_f0_45 : fieldTO Try.prog 45 0 = some (3, 0) := by kernel_rfl
theorem fact_f1_45 : fieldTO Try.prog 45 1 = some (42, 1) := by kernel_rfl
theorem fact_f2_45 : fieldTO Try.prog 45 2 = some (43, 2) := by kernel_rfl
theorem fact_ok46 : okT Try.prog 46 = true := by kernel_rfl
theorem fact_cells46 : Program.cellsOf Try.prog 46 = 1 := by kernel_rfl
theorem fact_bytes46 : Program.bytesOf Try.prog 46 = 24 := by kernel_rfl
theorem fact_agg46 : aggT Try.prog 46 = false := by kernel_rfl
theorem fact_und46 : (Program.underlying Try.prog 46).isSome = true := by kernel_rfl
theorem fact_int46 : intT Try.prog 46 = none := by kernel_rfl
theorem fact_el46 : elT Try.prog 46 = some 23 := by kernel_rfl
theorem fact_sl46 : sliceT Try.prog 46 = true := by kernel_rfl
theorem fact_zok46 : zeroOK Try.prog 46 = true := by kernel_rfl
theorem fact_zero46 : zeroT Try.prog 46 = some (.slice none 0 0) := by kernel_rfl
theorem fact_ok59 : okT Try.prog 59 = true := by kernel_rfl
theorem fact_cells59 : Program.cellsOf Try.prog 59 = 1 := by kernel_rfl
theorem fact_bytes59 : Program.bytesOf Try.prog 59 = 24 := by kernel_rfl
theorem fact_agg59 : aggT Try.prog 59 = false := by kernel_rfl
theorem fact_und59 : (Program.underlying Try.prog 59).isSome = true := by kernel_rfl
theorem fact_int59 : intT Try.prog 59 = none := by kernel_rfl
theorem fact_el59 : elT Try.prog 59 = some 65 := by kernel_rfl
theorem fact_sl59 : sliceT Try.prog 59 = true := by kernel_rfl
theorem fact_zok59 : zeroOK Try.prog 59 = true := by kernel_rfl
theorem fact_zero59 : zeroT Try.prog 59 = some (.slice none 0 0) := by kernel_rfl
theorem fact_ok62 : okT Try.prog 62 = true := by kernel_rfl
theorem fact_cells62 : Program.cellsOf Try.prog 62 = 1 := by kernel_rfl
theorem fact_bytes62 : Program.bytesOf Try.prog 62 = 8 := by kernel_rfl
theorem fact_agg62 : aggT Try.prog 62 = false := by kernel_rfl
theorem fact_und62 : (Program.underlying Try.prog 62).isSome = true := by kernel_rfl
theorem fact_int62 : intT Try.prog 62 = none := by kernel_rfl
theorem fact_map62 : mapT Try.prog 62 = some (2, 23) := by kernel_rfl
theorem fact_ok63 : okT Try.prog 63 = true := by kernel_rfl
theorem fact_cells63 : Program.cellsOf Try.prog 63 = 1 := by kernel_rfl
theorem fact_bytes63 : Program.bytesOf Try.prog 63 = 8 := by kernel_rfl
theorem fact_agg63 : aggT Try.prog 63 = false := by kernel_rfl
theorem fact_und63 : (Program.underlying Try.prog 63).isSome = true := by kernel_rfl
theorem fact_int63 : intT Try.prog 63 = none := by kernel_rfl
theorem fact_map63 : mapT Try.prog 63 = some (2, 3) := by kernel_rfl
theorem fact_ok64 : okT Try.prog 64 = true := by kernel_rfl
theorem fact_cells64 : Program.cellsOf Try.prog 64 = 3 := by kernel_rfl
theorem fact_bytes64 : Program.bytesOf Try.prog 64 = 24 := by kernel_rfl
theorem fact_agg64 : aggT Try.prog 64 = true := by kernel_rfl
theorem fact_und64 : (Program.underlying Try.prog 64).isSome = true := by kernel_rfl
theorem fact_int64 : intT Try.prog 64 = none := by kernel_rfl
theorem fact_zok64 : zeroOK Try.prog 64 = true := by kernel_rfl
theorem fact_zero64 : zeroT Try.prog 64 = some (.agg #[.int .i64 0, .int .i64 0, .int .i16 0]) := by kernel_rfl
theorem fact_fok64 : fieldsOK Try.prog 64 = true := by kernel_rfl
theorem fact_f0_64 : fieldTO Try.prog 64 0 = some (3, 0) := by kernel_rfl
theorem fact_f1_64 : fieldTO Try.prog 64 1 = some (2, 1) := by kernel_rfl
theorem fact_f2_64 : fieldTO Try.prog 64 2 = some (23, 2) := by kernel_rfl
theorem fact_ok65 : okT Try.prog 65 = true := by kernel_rfl
theorem fact_cells65 : Program.cellsOf Try.prog 65 = 3 := by kernel_rfl
theorem fact_bytes65 : Program.bytesOf Try.prog 65 = 24 := by kernel_rfl
theorem fact_agg65 : aggT Try.prog 65 = true := by kernel_rfl
theorem fact_und65 : (Program.underlying Try.prog 65).isSome = true := by kernel_rfl
theorem fact_int65 : intT Try.prog 65 = none := by kernel_rfl
theorem fact_zok65 : zeroOK Try.prog 65 = true := by kernel_rfl
theorem fact_zero65 : zeroT Try.prog 65 = some (.agg #[.int .i64 0, .int .i64 0, .int .i16 0]) := by kernel_rfl
theorem fact_fok65 : fieldsOK Try.prog 65 = true := by kernel_rfl
theorem fact_f0_65 : fieldTO Try.prog 65 0 = some (3, 0) := by kernel_rfl
theorem fact_f1_65 : fieldTO Try.prog 65 1 = some (2, 1) := by kernel_rfl
theorem fact_f2_65 : fieldTO Try.prog 65 2 = some (23, 2) := by kernel_rfl
theorem fact_ok71 : okT Try.prog 71 = true := by kernel_rfl
theorem fact_cells71 : Program.cellsOf Try.prog 71 = 1 := by kernel_rfl
theorem fact_bytes71 : Program.bytesOf Try.prog 71 = 24 := by kernel_rfl
theorem fact_agg71 : aggT Try.prog 71 = false := by kernel_rfl
theorem fact_und71 : (Program.underlying Try.prog 71).isSome = true := by kernel_rfl
theorem fact_int71 : intT Try.prog 71 = none := by kernel_rfl
theorem fact_el71 : elT Try.prog 71 = some 22 := by kernel_rfl
theorem fact_sl71 : sliceT Try.prog 71 = true := by kernel_rfl
theorem fact_zok71 : zeroOK Try.prog 71 = true := by kernel_rfl
theorem fact_zero71 : zeroT Try.prog 71 = some (.slice none 0 0) := by kernel_rfl
theorem fact_ok72 : okT Try.prog 72 = true := by kernel_rfl
theorem fact_cells72 : Program.cellsOf Try.prog 72 = 2 := by kernel_rfl
theorem fact_bytes72 : Program.bytesOf Try.prog 72 = 32 := by kernel_rfl
theorem fact_agg72 : aggT Try.prog 72 = true := by kernel_rfl
theorem fact_und72 : (Program.underlying Try.prog 72).isSome = true := by kernel_rfl
theorem fact_int72 : intT Try.prog 72 = none := by kernel_rfl
theorem fact_zok72 : zeroOK Try.prog 72 = true := by kernel_rfl
theorem fact_zero72 : zeroT Try.prog 72 = some (.agg #[.int .i64 0, .slice none 0 0]) := by kernel_rfl
theorem fact_fok72 : fieldsOK Try.prog 72 = true := by kernel_rfl
theorem fact_f0_72 : fieldTO Try.prog 72 0 = some (2, 0) := by kernel_rfl
theorem fact_f1_72 : fieldTO Try.prog 72 1 = some (71, 1) := by kernel_rfl
theorem fact_ok73 : okT Try.prog 73 = true := by kernel_rfl
theorem fact_cells73 : Program.cellsOf Try.prog 73 = 2 := by kernel_rfl
theorem fact_bytes73 : Program.bytesOf Try.prog 73 = 32 := by kernel_rfl
theorem fact_agg73 : aggT Try.prog 73 = true := by kernel_rfl
theorem fact_und73 : (Program.underlying Try.prog 73).isSome = true := by kernel_rfl
theorem fact_int73 : intT Try.prog 73 = none := by kernel_rfl
theorem fact_zok73 : zeroOK Try.prog 73 = true := by kernel_rfl
theorem fact_zero73 : zeroT Try.prog 73 = some (.agg #[.int .i64 0, .slice none 0 0]) := by kernel_rfl
theorem fact_fok73 : fieldsOK Try.prog 73 = true := by kernel_rfl
theorem fact_f0_73 : fieldTO Try.prog 73 0 = some (2, 0) := by kernel_rfl
theorem fact_f1_73 : fieldTO Try.prog 73 1 = some (71, 1) := by kernel_rfl
theorem fact_ok74 : okT Try.prog 74 = true := by kernel_rfl
theorem fact_cells74 : Program.cellsOf Try.prog 74 = 1 := by kernel_rfl
theorem fact_bytes74 : Program.bytesOf Try.prog 74 = 24 := by kernel_rfl
theorem fact_agg74 : aggT Try.prog 74 = false := by kernel_rfl
theorem fact_und74 : (Program.underlying Try.prog 74).isSome = true := by kernel_rfl
theorem fact_int74 : intT Try.prog 74 = none := by kernel_rfl
theorem fact_el74 : elT Try.prog 74 = some 5 := by kernel_rfl
theorem fact_sl74 : sliceT Try.prog 74 = true := by kernel_rfl
theorem fact_zok74 : zeroOK Try.prog 74 = true := by kernel_rfl
theorem fact_zero74 : zeroT Try.prog 74 = some (.slice none 0 0) := by kernel_rfl
theorem fact_ok92 : okT Try.prog 92 = true := by kernel_rfl
theorem fact_cells92 : Program.cellsOf Try.prog 92 = 1 := by kernel_rfl
theorem fact_bytes92 : Program.bytesOf Try.prog 92 = 24 := by kernel_rfl
theorem fact_agg92 : aggT Try.prog 92 = false := by kernel_rfl
theorem fact_und92 : (Program.underlying Try.prog 92).isSome = true := by kernel_rfl
theorem fact_int92 : intT Try.prog 92 = none := by kernel_rfl
theorem fact_el92 : elT Try.prog 92 = some 40 := by kernel_rfl
theorem fact_sl92 : sliceT Try.prog 92 = true := by kernel_rfl
theorem fact_zok92 : zeroOK Try.prog 92 = true := by kernel_rfl
theorem fact_zero92 : zeroT Try.prog 92 = some (.slice none 0 0) := by kernel_rfl
theorem fact_ok95 : okT Try.prog 95 = true := by kernel_rfl
theorem fact_cells95 : Program.cellsOf Try.prog 95 = 1 := by kernel_rfl
theorem fact_bytes95 : Program.bytesOf Try.prog 95 = 8 := by kernel_rfl
theorem fact_agg95 : aggT Try.prog 95 = false := by kernel_rfl
theorem fact_und95 : (Program.underlying Try.prog 95).isSome = true := by kernel_rfl
theorem fact_int95 : intT Try.prog 95 = none := by kernel_rfl
theorem fact_map95 : mapT Try.prog 95 = some (23, 3) := by kernel_rfl
theorem fact_ok97 : okT Try.prog 97 = true := by kernel_rfl
theorem fact_cells97 : Program.cellsOf Try.prog 97 = 1 := by kernel_rfl
theorem fact_bytes97 : Program.bytesOf Try.prog 97 = 8 := by kernel_rfl
theorem fact_agg97 : aggT Try.prog 97 = false := by kernel_rfl
theorem fact_und97 : (Program.underlying Try.prog 97).isSome = true := by kernel_rfl
theorem fact_int97 : intT Try.prog 97 = some .u64 := by kernel_rfl
theorem fact_zok97 : zeroOK Try.prog 97 = true := by kernel_rfl
theorem fact_zero97 : zeroT Try.prog 97 = some (.int .u64 0) := by kernel_rfl
theorem fact_ok98 : okT Try.prog 98 = true := by kernel_rfl
theorem fact_cells98 : Program.cellsOf Try.prog 98 = 3 := by kernel_rfl
theorem fact_bytes98 : Program.bytesOf Try.prog 98 = 40 := by kernel_rfl
theorem fact_agg98 : aggT Try.prog 98 = true := by kernel_rfl
theorem fact_und98 : (Program.underlying Try.prog 98).isSome = true := by kernel_rfl
theorem fact_int98 : intT Try.prog 98 = none := by kernel_rfl
theorem fact_zok98 : zeroOK Try.prog 98 = true := by kernel_rfl
theorem fact_zero98 : zeroT Try.prog 98 = some (.agg #[.int .u64 0, .int .i64 0, .slice none 0 0]) := by kernel_rfl
theorem fact_fok98 : fieldsOK Try.prog 98 = true := by kernel_rfl
theorem fact_f0_98 : fieldTO Try.prog 98 0 = some (97, 0) := by kernel_rfl
theorem fact_f1_98 : fieldTO Try.prog 98 1 = some (3, 1) := by kernel_rfl
theorem fact_f2_98 : fieldTO Try.prog 98 2 = some (43, 2) := by kernel_rfl
theorem fact_ok99 : okT Try.prog 99 = true := by kernel_rfl
theorem fact_cells99 : Program.cellsOf Try.prog 99 = 3 := by kernel_rfl
theorem fact_bytes99 : Program.bytesOf Try.prog 99 = 40 := by kernel_rfl
theorem fact_agg99 : aggT Try.prog 99 = true := by kernel_rfl
theorem fact_und99 : (Program.underlying Try.prog 99).isSome = true := by kernel_rfl
theorem fact_int99 : intT Try.prog 99 = none := by kernel_rfl
theorem fact_zok99 : zeroOK Try.prog 99 = true := by kernel_rfl
theorem fact_zero99 : zeroT Try.prog 99 = some (.agg #[.int .u64 0, .int .i64 0, .slice none 0 0]) := by kernel_rfl
theorem fact_fok99 : fieldsOK Try.prog 99 = true := by kernel_rfl
theorem fact_f0_99 : fieldTO Try.prog 99 0 = some (97, 0) := by kernel_rfl
theorem fact_f1_99 : fieldTO Try.prog 99 1 = some (3, 1) := by kernel_rfl
theorem fact_f2_99 : fieldTO Try.prog 99 2 = some (43, 2) := by kernel_rfl
theorem fact_ok115 : okT Try.prog 115 = true := by kernel_rfl
theorem fact_cells115 : Program.cellsOf Try.prog 115 = 6 := by kernel_rfl
theorem fact_bytes115 : Program.bytesOf Try.prog 115 = 80 := by kernel_rfl
theorem fact_agg115 : aggT Try.prog 115 = true := by kernel_rfl
theorem fact_und115 : (Program.underlying Try.prog 115).isSome = true := by kernel_rfl
theorem fact_int115 : intT Try.prog 115 = none := by kernel_rfl
theorem fact_arr115 : arrT Try.prog 115 = some (2, 99) := by kernel_rfl
theorem fact_zok115 : zeroOK Try.prog 115 = true := by kernel_rfl
theorem fact_zero115 : zeroT Try.prog 115 = some (.agg #[.int .u64 0, .int .i64 0, .slice none 0 0, .int .u64 0, .int .i64 0, .slice none 0 0]) := by kernel_rfl
theorem fact_fok115 : fieldsOK Try.prog 115 = true := by kernel_rfl
theorem fact_ok142 : okT Try.prog 142 = true := by kernel_rfl
theorem fact_cells142 : Program.cellsOf Try.prog 142 = 1 := by kernel_rfl
theorem fact_bytes142 : Program.bytesOf Try.prog 142 = 8 := by kernel_rfl
theorem fact_agg142 : aggT Try.prog 142 = false := by kernel_rfl
theorem fact_und142 : (Program.underlying Try.prog 142).isSome = true := by kernel_rfl
theorem fact_int142 : intT Try.prog 142 = some .u64 := by kernel_rfl
theorem fact_zok142 : zeroOK Try.prog 142 = true := by kernel_rfl
theorem fact_zero142 : zeroT Try.prog 142 = some (.int .u64 0) := by kernel_rfl
theorem fact_ok150 : okT Try.prog 150 = true := by kernel_rfl
theorem fact_cells150 : Program.cellsOf Try.prog 150 = 1 := by kernel_rfl
theorem fact_bytes150 : Program.bytesOf Try.prog 150 = 16 := by kernel_rfl
theorem fact_agg150 : aggT Try.prog 150 = false := by kernel_rfl
theorem fact_und150 : (Program.underlying Try.prog 150).isSome = true := by kernel_rfl
theorem fact_int150 : intT Try.prog 150 = none := by kernel_rfl
theorem fact_ok151 : okT Try.prog 151 = true := by kernel_rfl
theorem fact_cells151 : Program.cellsOf Try.prog 151 = 1 := by kernel_rfl
theorem fact_bytes151 : Program.bytesOf Try.prog 151 = 8 := by kernel_rfl
theorem fact_agg151 : aggT Try.prog 151 = false := by kernel_rfl
theorem fact_und151 : (Program.underlying Try.prog 151).isSome = true := by kernel_rfl
theorem fact_int151 : intT Try.prog 151 = none := by kernel_rfl
theorem fact_flt151 : fltT Try.prog 151 = some .f64 := by kernel_rfl
theorem fact_ok178 : okT Try.prog 178 = true := by kernel_rfl
theorem fact_cells178 : Program.cellsOf Try.prog 178 = 1 := by kernel_rfl
theorem fact_bytes178 : Program.bytesOf Try.prog 178 = 8 := by kernel_rfl
theorem fact_agg178 : aggT Try.prog 178 = false := by kernel_rfl
theorem fact_und178 : (Program.underlying Try.prog 178).isSome = true := by kernel_rfl
theorem fact_int178 : intT Try.prog 178 = some .i64 := by kernel_rfl
theorem fact_zok178 : zeroOK Try.prog 178 = true := by kernel_rfl
theorem fact_zero178 : zeroT Try.prog 178 = some (.int .i64 0) := by kernel_rfl
theorem fact_ok186 : okT Try.prog 186 = true := by kernel_rfl
theorem fact_cells186 : Program.cellsOf Try.prog 186 = 1 := by kernel_rfl
theorem fact_bytes186 : Program.bytesOf Try.prog 186 = 4 := by kernel_rfl
theorem fact_agg186 : aggT Try.prog 186 = false := by kernel_rfl
theorem fact_und186 : (Program.underlying Try.prog 186).isSome = true := by kernel_rfl
theorem fact_int186 : intT Try.prog 186 = some .u32 := by kernel_rfl
theorem fact_zok186 : zeroOK Try.prog 186 = true := by kernel_rfl
theorem fact_zero186 : zeroT Try.prog 186 = some (.int .u32 0) := by kernel_rfl
theorem fact_ok197 : okT Try.prog 197 = true := by kernel_rfl
theorem fact_cells197 : Program.cellsOf Try.prog 197 = 1 := by kernel_rfl
theorem fact_bytes197 : Program.bytesOf Try.prog 197 = 8 := by kernel_rfl
theorem fact_agg197 : aggT Try.prog 197 = false := by kernel_rfl
theorem fact_und197 : (Program.underlying Try.prog 197).isSome = true := by kernel_rfl
theorem fact_int197 : intT Try.prog 197 = some .u64 := by kernel_rfl
theorem fact_zok197 : zeroOK Try.prog 197 = true := by kernel_rfl
theorem fact_zero197 : zeroT Try.prog 197 = some (.int .u64 0) := by kernel_rfl
theorem cal12 : callable Try.prog 12 = true := by kernel_rfl
theorem cal31 : callable Try.prog 31 = true := by kernel_rfl
theorem cal32 : callable Try.prog 32 = true := by kernel_rfl
theorem cal33 : callable Try.prog 33 = true := by kernel_rfl
theorem cal34 : callable Try.prog 34 = true := by kernel_rfl
theorem cal35 : callable Try.prog 35 = true := by kernel_rfl
theorem cal36 : callable Try.prog 36 = true := by kernel_rfl
theorem cal37 : callable Try.prog 37 = true := by kernel_rfl
theorem cal38 : callable Try.prog 38 = true := by kernel_rfl
theorem cal39 : callable Try.prog 39 = true := by kernel_rfl
theorem cal40 : callable Try.prog 40 = true := by kernel_rfl
theorem cal41 : callable Try.prog 41 = true := by kernel_rfl
theorem cal42 : callable Try.prog 42 = true := by kernel_rfl
theorem cal43 : callable Try.prog 43 = true := by kernel_rfl
theorem cal44 : callable Try.prog 44 = true := by kernel_rfl
theorem cal45 : callable Try.prog 45 = true := by kernel_rfl
theorem cal46 : callable Try.prog 46 = true := by kernel_rfl
theorem cal47 : callable Try.prog 47 = true := by kernel_rfl
theorem cal48 : callable Try.prog 48 = true := by kernel_rfl
theorem cal49 : callable Try.prog 49 = true := by kernel_rfl
theorem cal94 : callable Try.prog 94 = true := by kernel_rfl
theorem cal95 : callable Try.prog 95 = true := by kernel_rfl
theorem cal96 : callable Try.prog 96 = true := by kernel_rfl
theorem cal97 : callable Try.prog 97 = true := by kernel_rfl
theorem cal98 : callable Try.prog 98 = true := by kernel_rfl
theorem cal99 : callable Try.prog 99 = true := by kernel_rfl
theorem cal100 : callable Try.prog 100 = true := by kernel_rfl
theorem cal101 : callable Try.prog 101 = true := by kernel_rfl
theorem cal102 : callable Try.prog 102 = true := by kernel_rfl
theorem cal103 : callable Try.prog 103 = true := by kernel_rfl
theorem cal104 : callable Try.prog 104 = true := by kernel_rfl
theorem cal105 : callable Try.prog 105 = true := by kernel_rfl
theorem cal106 : callable Try.prog 106 = true := by kernel_rfl
theorem cal107 : callable Try.prog 107 = true := by kernel_rfl
theorem cal108 : callable Try.prog 108 = true := by kernel_rfl
theorem cal122 : callable Try.prog 122 = true := by kernel_rfl
theorem cal129 : callable Try.prog 129 = true := by kernel_rfl
theorem cal141 : callable Try.prog 141 = true := by kernel_rfl
theorem cal142 : callable Try.prog 142 = true := by kernel_rfl
theorem cal143 : callable Try.prog 143 = true := by kernel_rfl
theorem cal144 : callable Try.prog 144 = true := by kernel_rfl
theorem cal145 : callable Try.prog 145 = true := by kernel_rfl
theorem cal146 : callable Try.prog 146 = true := by kernel_rfl
theorem cal152 : callable Try.prog 152 = true := by kernel_rfl
theorem cal162 : callable Try.prog 162 = true := by kernel_rfl
theorem cal163 : callable Try.prog 163 = true := by kernel_rfl
theorem cal164 : callable Try.prog 164 = true := by kernel_rfl
theorem cal165 : callable Try.prog 165 = true := by kernel_rfl
theorem cal166 : callable Try.prog 166 = true := by kernel_rfl
theorem cal167 : callable Try.prog 167 = true := by kernel_rfl
theorem cal168 : callable Try.prog 168 = true := by kernel_rfl
theorem cal169 : callable Try.prog 169 = true := by kernel_rfl
theorem cal170 : callable Try.prog 170 = true := by kernel_rfl
theorem cal174 : callable Try.prog 174 = true := by kernel_rfl
theorem cal184 : callable Try.prog 184 = true := by kernel_rfl
theorem cal185 : callable Try.prog 185 = true := by kernel_rfl
theorem cal186 : callable Try.prog 186 = true := by kernel_rfl
theorem cal187 : callable Try.prog 187 = true := by kernel_rfl
theorem cal188 : callable Try.prog 188 = true := by kernel_rfl
theorem cal189 : callable Try.prog 189 = true := by kernel_rfl
theorem cal193 : callable Try.prog 193 = true := by kernel_rfl
theorem mixed : Try.prog.follows .mixedOrders = true := by kernel_rfl
def factsT2 := (And.intro (And.intro (And.intro fact_ok2 fact_cells2) (And.intro fact_bytes2 fact_agg2)) (And.intro (And.intro fact_und2 fact_int2) (And.intro fact_zok2 fact_zero2)))
def factsT3 := (And.intro (And.intro (And.intro fact_ok3 fact_cells3) (And.intro fact_bytes3 fact_agg3)) (And.intro (And.intro fact_und3 fact_int3) (And.intro fact_zok3 fact_zero3)))
def factsT4 := (And.intro (And.intro (And.intro fact_ok4 fact_cells4) (And.intro fact_bytes4 fact_agg4)) (And.intro (And.intro fact_und4 fact_int4) (And.intro fact_bool4 (And.intro fact_zok4 fact_zero4))))
def factsT5 := (And.intro (And.intro (And.intro fact_ok5 fact_cells5) (And.intro fact_bytes5 fact_agg5)) (And.intro (And.intro fact_und5 fact_int5) (And.intro fact_zok5 fact_zero5)))
def factsT9 := (And.intro (And.intro (And.intro fact_ok9 fact_cells9) (And.intro fact_bytes9 fact_agg9)) (And.intro (And.intro fact_und9 fact_int9) (And.intro fact_str9 (And.intro fact_zok9 fact_zero9))))
def factsT12 := (And.intro (And.intro (And.intro fact_ok12 fact_cells12) (And.intro fact_bytes12 fact_agg12)) (And.intro (And.intro fact_und12 fact_int12) (And.intro fact_zok12 fact_zero12)))
def factsT21 := (And.intro (And.intro (And.intro fact_ok21 fact_cells21) (And.intro fact_bytes21 fact_agg21)) (And.intro (And.intro fact_und21 fact_int21) (And.intro fact_zok21 fact_zero21)))
def factsT22 := (And.intro (And.intro (And.intro fact_ok22 fact_cells22) (And.intro fact_bytes22 (And.intro fact_agg22 fact_und22))) (And.intro (And.intro fact_int22 fact_el22) (And.intro fact_sl22 (And.intro fact_zok22 fact_zero22))))
def factsT23 := (And.intro (And.intro (And.intro fact_ok23 fact_cells23) (And.intro fact_bytes23 fact_agg23)) (And.intro (And.intro fact_und23 fact_int23) (And.intro fact_zok23 fact_zero23)))
def factsT25 := (And.intro (And.intro (And.intro fact_ok25 fact_cells25) (And.intro fact_bytes25 fact_agg25)) (And.intro (And.intro fact_und25 fact_int25) (And.intro fact_zok25 fact_zero25)))
def factsT36 := (And.intro (And.intro (And.intro fact_ok36 fact_cells36) (And.intro fact_bytes36 (And.intro fact_agg36 fact_und36))) (And.intro (And.intro fact_int36 fact_el36) (And.intro fact_sl36 (And.intro fact_zok36 fact_zero36))))
def factsT40 := (And.intro (And.intro fact_ok40 (And.intro fact_cells40 fact_bytes40)) (And.intro (And.intro fact_agg40 fact_und40) (And.intro fact_int40 fact_map40)))
def factsT42 := (And.intro (And.intro (And.intro fact_ok42 fact_cells42) (And.intro fact_bytes42 (And.intro fact_agg42 fact_und42))) (And.intro (And.intro fact_int42 fact_el42) (And.intro fact_sl42 (And.intro fact_zok42 fact_zero42))))
def factsT43 := (And.intro (And.intro (And.intro fact_ok43 fact_cells43) (And.intro fact_bytes43 (And.intro fact_agg43 fact_und43))) (And.intro (And.intro fact_int43 fact_el43) (And.intro fact_sl43 (And.intro fact_zok43 fact_zero43))))
def factsT44 := (And.intro (And.intro (And.intro fact_ok44 (And.intro fact_cells44 fact_bytes44)) (And.intro fact_agg44 (And.intro fact_und44 fact_int44))) (And.intro (And.intro fact_zok44 (And.intro fact_zero44 fact_fok44)) (And.intro fact_f0_44 (And.intro fact_f1_44 fact_f2_44))))
def factsT45 := (And.intro (And.intro (And.intro fact_ok45 (And.intro fact_cells45 fact_bytes45)) (And.intro fact_agg45 (And.intro fact_und45 fact_int45))) (And.intro (And.intro fact_zok45 (And.intro fact_zero45 fact_fok45)) (And.intro fact_f0_45 (And.intro fact_f1_45 fact_f2_45))))
def factsT46 := (And.intro (And.intro (And.intro fact_ok46 fact_cells46) (And.intro fact_bytes46 (And.intro fact_agg46 fact_und46))) (And.intro (And.intro fact_int46 fact_el46) (And.intro fact_sl46 (And.intro fact_zok46 fact_zero46))))
def factsT59 := (And.intro (And.intro (And.intro fact_ok59 fact_cells59) (And.intro fact_bytes59 (And.intro fact_agg59 fact_und59))) (And.intro (And.intro fact_int59 fact_el59) (And.intro fact_sl59 (And.intro fact_zok59 fact_zero59))))
def factsT62 := (And.intro (And.intro fact_ok62 (And.intro fact_cells62 fact_bytes62)) (And.intro (And.intro fact_agg62 fact_und62) (And.intro fact_int62 fact_map62)))
def factsT63 := (And.intro (And.intro fact_ok63 (And.intro fact_cells63 fact_bytes63)) (And.intro (And.intro fact_agg63 fact_und63) (And.intro fact_int63 fact_map63)))
def factsT64 := (And.intro (And.intro (And.intro fact_ok64 (And.intro fact_cells64 fact_bytes64)) (And.intro fact_agg64 (And.intro fact_und64 fact_int64))) (And.intro (And.intro fact_zok64 (And.intro fact_zero64 fact_fok64)) (And.intro fact_f0_64 (And.intro fact_f1_64 fact_f2_64))))
def factsT65 := (And.intro (And.intro (And.intro fact_ok65 (And.intro fact_cells65 fact_bytes65)) (And.intro fact_agg65 (And.intro fact_und65 fact_int65))) (And.intro (And.intro fact_zok65 (And.intro fact_zero65 fact_fok65)) (And.intro fact_f0_65 (And.intro fact_f1_65 fact_f2_65))))
def factsT71 := (And.intro (And.intro (And.intro fact_ok71 fact_cells71) (And.intro fact_bytes71 (And.intro fact_agg71 fact_und71))) (And.intro (And.intro fact_int71 fact_el71) (And.intro fact_sl71 (And.intro fact_zok71 fact_zero71))))
def factsT72 := (And.intro (And.intro (And.intro fact_ok72 fact_cells72) (And.intro fact_bytes72 (And.intro fact_agg72 fact_und72))) (And.intro (And.intro fact_int72 (And.intro fact_zok72 fact_zero72)) (And.intro fact_fok72 (And.intro fact_f0_72 fact_f1_72))))
def factsT73 := (And.intro (And.intro (And.intro fact_ok73 fact_cells73) (And.intro fact_bytes73 (And.intro fact_agg73 fact_und73))) (And.intro (And.intro fact_int73 (And.intro fact_zok73 fact_zero73)) (And.intro fact_fok73 (And.intro fact_f0_73 fact_f1_73))))
def factsT74 := (And.intro (And.intro (And.intro fact_ok74 fact_cells74) (And.intro fact_bytes74 (And.intro fact_agg74 fact_und74))) (And.intro (And.intro fact_int74 fact_el74) (And.intro fact_sl74 (And.intro fact_zok74 fact_zero74))))
def factsT92 := (And.intro (And.intro (And.intro fact_ok92 fact_cells92) (And.intro fact_bytes92 (And.intro fact_agg92 fact_und92))) (And.intro (And.intro fact_int92 fact_el92) (And.intro fact_sl92 (And.intro fact_zok92 fact_zero92))))
def factsT95 := (And.intro (And.intro fact_ok95 (And.intro fact_cells95 fact_bytes95)) (And.intro (And.intro fact_agg95 fact_und95) (And.intro fact_int95 fact_map95)))
def factsT97 := (And.intro (And.intro (And.intro fact_ok97 fact_cells97) (And.intro fact_bytes97 fact_agg97)) (And.intro (And.intro fact_und97 fact_int97) (And.intro fact_zok97 fact_zero97)))
def factsT98 := (And.intro (And.intro (And.intro fact_ok98 (And.intro fact_cells98 fact_bytes98)) (And.intro fact_agg98 (And.intro fact_und98 fact_int98))) (And.intro (And.intro fact_zok98 (And.intro fact_zero98 fact_fok98)) (And.intro fact_f0_98 (And.intro fact_f1_98 fact_f2_98))))
def factsT99 := (And.intro (And.intro (And.intro fact_ok99 (And.intro fact_cells99 fact_bytes99)) (And.intro fact_agg99 (And.intro fact_und99 fact_int99))) (And.intro (And.intro fact_zok99 (And.intro fact_zero99 fact_fok99)) (And.intro fact_f0_99 (And.intro fact_f1_99 fact_f2_99))))
def factsT115 := (And.intro (And.intro (And.intro fact_ok115 fact_cells115) (And.intro fact_bytes115 (And.intro fact_agg115 fact_und115))) (And.intro (And.intro fact_int115 fact_arr115) (And.intro fact_zok115 (And.intro fact_zero115 fact_fok115))))
def factsT142 := (And.intro (And.intro (And.intro fact_ok142 fact_cells142) (And.intro fact_bytes142 fact_agg142)) (And.intro (And.intro fact_und142 fact_int142) (And.intro fact_zok142 fact_zero142)))
def factsT150 := (And.intro (And.intro fact_ok150 (And.intro fact_cells150 fact_bytes150)) (And.intro fact_agg150 (And.intro fact_und150 fact_int150)))
def factsT151 := (And.intro (And.intro fact_ok151 (And.intro fact_cells151 fact_bytes151)) (And.intro (And.intro fact_agg151 fact_und151) (And.intro fact_int151 fact_flt151)))
def factsT178 := (And.intro (And.intro (And.intro fact_ok178 fact_cells178) (And.intro fact_bytes178 fact_agg178)) (And.intro (And.intro fact_und178 fact_int178) (And.intro fact_zok178 fact_zero178)))
def factsT186 := (And.intro (And.intro (And.intro fact_ok186 fact_cells186) (And.intro fact_bytes186 fact_agg186)) (And.intro (And.intro fact_und186 fact_int186) (And.intro fact_zok186 fact_zero186)))
def factsT197 := (And.intro (And.intro (And.intro fact_ok197 fact_cells197) (And.intro fact_bytes197 fact_agg197)) (And.intro (And.intro fact_und197 fact_int197) (And.intro fact_zok197 fact_zero197)))
attribute [go_sem] factsT2 factsT3 factsT4 factsT5 factsT9 factsT12 factsT21 factsT22 factsT23 factsT25 factsT36 factsT40 factsT42 factsT43 factsT44 factsT45 factsT46 factsT59 factsT62 factsT63 factsT64 factsT65 factsT71 factsT72 factsT73 factsT74 factsT92 factsT95 factsT97 factsT98 factsT99 factsT115 factsT142 factsT150 factsT151 factsT178 factsT186 factsT197
end Go.Proofs.Ytpkampecmlpfmaa.T

end
section
set_option linter.unusedSimpArgs false
set_option linter.unusedVariables false
/- Vectors, walked. -/
namespace Go.Proofs.Ytpkampecmlpfmaa.T
open Go Go.VL Go.Proofs
set_option maxRecDepth 100000

theorem min_fun (l : List Int) (h : 1 ≤ l.length) : Fun Try.prog 152 [.lst (ints .i16 l)] fun r => r = .v (.int .i16 (minL l)) := by
  refine Fun.of_awpI Try.func152 rfl cal152 Try.ntmps152 (by simp) fun hwf => ?_
  simp only [D.wfs, D.wf, ints_length, ints_wfs, rows_length, rows_wfs, capMax, and_true, true_and] at hwf
  repeat' (first | simp only [go_sem, Ret_eq Try.results152] | simp (disch := omega) only [arith, IntKind.bits, capMax, fill_len, elt_fill] | fail)
  refine awpI_for (l.length - 1) (fun k => True) (fun k => [(3, .v (.int .i16 ((l.take (k + 1)).foldl mn (l.getD 0 0)))), (4, .v (.int .i64 ((k + 1 : Nat) : Int)))]) (fun _ => []) [0] [] _ (Weak.refl _) trivial ?_ ?_ ?_
  · simp only [go_sem, Ret_eq Try.results152]
    rw [foldl_take_snoc (d := 0) h]
    simp [mn]
  · simp only [go_sem, Ret_eq Try.results152]
  · intro k s hk _ hs
    simp only [go_sem, Ret_eq Try.results152] at hs
    by_cases hkl : k + 1 < l.length
    · have e := foldl_take_snoc (g := mn) (b := l.getD 0 0) (d := 0) hkl
      repeat' (first | simp only [go_sem, hs, minD_cons, minD_nil, Ret_eq Try.results152] | simp (disch := omega) only [arith, IntKind.bits, capMax, fill_len, elt_fill] | (refine Again.up (by omega) ?_ ?_) | fail)
      rw [e]; rfl
    · repeat' (first | simp only [go_sem, hs, Ret_eq Try.results152] | simp (disch := omega) only [arith, IntKind.bits, capMax, fill_len, elt_fill] | fail)
      rw [List.take_of_length_le (by omega)]; rfl

theorem vecCheck_fun (l : List Int) : Fun Try.prog 122 [.lst (ints .i16 l)] fun r => r = .v (.int .i64 (vecErr l)) := by
  refine Fun.of_awpI Try.func122 rfl cal122 Try.ntmps122 (by simp) fun hwf => ?_
  simp only [D.wfs, D.wf, ints_length, ints_wfs, rows_length, rows_wfs, capMax, and_true, true_and] at hwf
  repeat' (first | simp only [go_sem, Ret_eq Try.results122] | (with_reducible refine condI_dec (fun hq hqb => ?_) (fun hq hqb => ?_) <;> simp only [KP_mk, hqb]) | (refine opCallI_rd (by simp only [go_sem, Ret_eq Try.results122]; first | done | rfl) (min_fun _ (by omega)) (by rintro _ rfl; rfl) ?_; rintro _ rfl) | fail)
  · rw [vecErr_len (by omega)]
  · rw [vecErr_len (by omega)]
  · rw [vecErr_min (by omega) (by omega), if_pos (by omega)]
  · rw [vecErr_min (by omega) (by omega), if_neg (by omega)]

theorem equal16_fun (a b : List Int) : Fun Try.prog 143 [.lst (ints .i16 a), .lst (ints .i16 b)] fun r => r = .v (.bool (decide (a = b))) := by
  refine Fun.of_awpI Try.func143 rfl cal143 Try.ntmps143 (by simp) fun hwf => ?_
  simp only [D.wfs, D.wf, ints_length, ints_wfs, rows_length, rows_wfs, capMax, and_true, true_and] at hwf
  repeat' (first | simp only [go_sem, Ret_eq Try.results143] | (with_reducible refine condI_bne (fun hq hqb => ?_) (fun hq hqb => ?_) <;> simp only [KP_mk, hqb]) | fail)
  · rw [decide_eq_false]; rintro rfl; omega
  · have hl : a.length = b.length := by omega
    refine awpI_for a.length (fun k => a.take k = b.take k) (fun k => [(13, .v (.int .i64 k))]) (fun _ => []) [0, 1, 12] [] _ (Weak.refl _) (by simp) ?_ ?_ ?_
    · simp only [go_sem, Ret_eq Try.results143]
    · simp only [go_sem, Ret_eq Try.results143]
    · intro k s hk hQ hs
      simp only [go_sem, Ret_eq Try.results143] at hs
      by_cases hka : k < a.length
      · repeat' (first | simp only [go_sem, hs, Ret_eq Try.results143] | simp (disch := omega) only [arith, IntKind.bits, capMax, fill_len, elt_fill] | (with_reducible refine condI_bne (fun hq hqb => ?_) (fun hq hqb => ?_) <;> simp only [KP_mk, hqb]) | (refine awpI_draw (id := 6) (.one false 0 (.one false 1 (.one false 2 (.one false 3 (.one false 4 (.one false 5 (.one false 6 (.one false 7 (.one false 8 .done))))))))) mixed (by decide +kernel) (by decide +kernel) ?_) | (refine Again.up (by omega) ?_ ?_) | fail)
        · rw [decide_eq_false]; rintro rfl; simp_all
        · exact take_eq_snoc hka (by omega) hQ (by assumption)
      · obtain rfl : k = a.length := by omega
        rw [List.take_length, hl, List.take_length] at hQ
        subst hQ
        repeat' (first | simp only [go_sem, hs, Ret_eq Try.results143] | simp (disch := omega) only [arith, IntKind.bits, capMax, fill_len, elt_fill] | fail)

theorem vecSame_fun (a b : List Int) : Fun Try.prog 101 [.lst (ints .i16 a), .lst (ints .i16 b)] fun r => r = .v (.bool (decide (a = b))) := by
  refine Fun.of_awpI Try.func101 rfl cal101 Try.ntmps101 (by simp) fun hwf => ?_
  simp only [D.wfs, D.wf, ints_length, ints_wfs, rows_length, rows_wfs, capMax, and_true, true_and] at hwf
  repeat' (first | simp only [go_sem, Ret_eq Try.results101] | (refine opCallI_rd (by simp only [go_sem, Ret_eq Try.results101]; first | done | rfl) (equal16_fun _ _) (by rintro _ rfl; rfl) ?_; rintro _ rfl) | fail)

theorem refVecCheck_fun (l : List Int) : Fun Try.prog 108 [.lst (ints .i16 l)] fun r => r = .v (.int .i64 (vecErr l)) := by
  refine Fun.of_awpI Try.func108 rfl cal108 Try.ntmps108 (by simp) fun hwf => ?_
  simp only [D.wfs, D.wf, ints_length, ints_wfs, rows_length, rows_wfs, capMax, and_true, true_and] at hwf
  repeat' (first | simp only [go_sem, Ret_eq Try.results108] | (with_reducible refine condI_dec (fun hq hqb => ?_) (fun hq hqb => ?_) <;> simp only [KP_mk, hqb]) | fail)
  · rw [vecErr_len (by omega)]
  · rw [vecErr_len (by omega)]
  · refine awpI_for l.length (fun k => ∀ i, i < k → ¬ l.getD i 0 < -32767) (fun k => [(15, .v (.int .i64 k))]) (fun _ => []) [13, 14] [] _ (Weak.refl _) (by omega) ?_ ?_ ?_
    · simp only [go_sem, Ret_eq Try.results108]
    · simp only [go_sem, Ret_eq Try.results108]
    · intro k s hk hQ hs
      simp only [go_sem, Ret_eq Try.results108] at hs
      by_cases hka : k < l.length
      · repeat' (first | simp only [go_sem, hs, Ret_eq Try.results108] | simp (disch := omega) only [arith, IntKind.bits, capMax, fill_len, elt_fill] | (with_reducible refine condI_dec (fun hq hqb => ?_) (fun hq hqb => ?_) <;> simp only [KP_mk, hqb]) | (refine Again.up (by omega) ?_ ?_) | fail)
        · rw [vecErr_at hka (by assumption)]
        · intro i hi
          rcases Nat.lt_or_ge i k with h | h
          · exact hQ i h
          · obtain rfl : i = k := by omega
            assumption
      · obtain rfl : k = l.length := by omega
        repeat' (first | simp only [go_sem, hs, Ret_eq Try.results108] | simp (disch := omega) only [arith, IntKind.bits, capMax, fill_len, elt_fill] | fail)
        rw [vecErr_all (by omega) (by omega) hQ]

theorem refSame16_fun (a b : List Int) : Fun Try.prog 35 [.lst (ints .i16 a), .lst (ints .i16 b)] fun r => r = .v (.bool (decide (a = b))) := by
  refine Fun.of_awpI Try.func35 rfl cal35 Try.ntmps35 (by simp) fun hwf => ?_
  simp only [D.wfs, D.wf, ints_length, ints_wfs, rows_length, rows_wfs, capMax, and_true, true_and] at hwf
  repeat' (first | simp only [go_sem, Ret_eq Try.results35] | (with_reducible refine condI_bne (fun hq hqb => ?_) (fun hq hqb => ?_) <;> simp only [KP_mk, hqb]) | fail)
  · rw [decide_eq_false]; rintro rfl; omega
  · have hl : a.length = b.length := by omega
    refine awpI_for a.length (fun k => a.take k = b.take k) (fun k => [(13, .v (.int .i64 k))]) (fun _ => []) [0, 1, 12] [] _ (Weak.refl _) (by simp) ?_ ?_ ?_
    · simp only [go_sem, Ret_eq Try.results35]
    · simp only [go_sem, Ret_eq Try.results35]
    · intro k s hk hQ hs
      simp only [go_sem, Ret_eq Try.results35] at hs
      by_cases hka : k < a.length
      · repeat' (first | simp only [go_sem, hs, Ret_eq Try.results35] | simp (disch := omega) only [arith, IntKind.bits, capMax, fill_len, elt_fill] | (with_reducible refine condI_bne (fun hq hqb => ?_) (fun hq hqb => ?_) <;> simp only [KP_mk, hqb]) | (refine awpI_draw (id := 6) (.one false 0 (.one false 1 (.one false 2 (.one false 3 (.one false 4 (.one false 5 (.one false 6 (.one false 7 (.one false 8 .done))))))))) mixed (by decide +kernel) (by decide +kernel) ?_) | (refine Again.up (by omega) ?_ ?_) | fail)
        · rw [decide_eq_false]; rintro rfl; simp_all
        · exact take_eq_snoc hka (by omega) hQ (by assumption)
      · obtain rfl : k = a.length := by omega
        rw [List.take_length, hl, List.take_length] at hQ
        subst hQ
        repeat' (first | simp only [go_sem, hs, Ret_eq Try.results35] | simp (disch := omega) only [arith, IntKind.bits, capMax, fill_len, elt_fill] | fail)
end Go.Proofs.Ytpkampecmlpfmaa.T

end
section
set_option linter.unusedSimpArgs false
set_option linter.unusedVariables false
/- Cuts and cells, walked. -/
namespace Go.Proofs.Ytpkampecmlpfmaa.T
open Go Go.VL Go.Proofs
set_option maxRecDepth 100000
set_option maxHeartbeats 4000000

end Go.Proofs.Ytpkampecmlpfmaa.T

end
section
/- Whole numbers as floats: no bit is lost. -/
namespace Go.VL
open Go Ieee
/-- The word b stands for the whole number m with its sign. -/
def Stands (b : Nat) (s : Bool) (m : Nat) : Prop := m < 2 ^ 53 ∧ ∃ k : Nat, double.read b = .number s (m * 2 ^ k) (-(k : Int))
def iv (s : Bool) (m : Nat) : Int := if s then -(m : Int) else m

theorem sw : double.signWeight = 2 ^ 63 := rfl
theorem bi : double.binade = 2 ^ 52 := rfl
theorem lp : double.leastPlace = -1074 := by decide
theorem ir : double.infRung = 2047 * 2 ^ 52 := by decide

theorem read_word {s : Bool} {rung : Nat} (h : rung < 2 ^ 63) : double.word s rung / double.signWeight % 2 = s.toNat ∧ double.word s rung % double.signWeight = rung := by
  rw [sw]
  unfold Format.word
  rw [sw]
  cases s
  · simp only [Bool.false_eq_true, if_false, Bool.toNat_false]; omega
  · simp only [if_true, Bool.toNat_true]; omega

theorem cut_none (s : Bool) (n d : Nat) (hd : d ≤ (n * 2 ^ d).log2 + 2) : Toward.even.cut s (n * 2 ^ d) d = n := by
  unfold Toward.cut
  have hp : 0 < 2 ^ d := Nat.pow_pos (by decide)
  rw [Nat.min_eq_left hd, Nat.shiftLeft_eq, Nat.one_mul]
  simp only [Nat.mul_mod_left, Nat.mul_div_cancel _ hp, Nat.mul_zero]
  have h1 : decide (2 ^ d < 0) = false := by simp
  have h2 : (2 ^ d == 0) = false := by simp
  rw [h1, h2]
  rfl
theorem log2_shift {m j : Nat} (h : m ≠ 0) : (m * 2 ^ j).log2 = m.log2 + j := by
  have hp : 0 < 2 ^ j := Nat.pow_pos (by decide)
  have hN : m * 2 ^ j ≠ 0 := Nat.mul_ne_zero h (Nat.ne_of_gt hp)
  rw [Nat.log2_eq_iff hN]
  obtain ⟨h1, h2⟩ := (Nat.log2_eq_iff h).1 rfl
  constructor
  · rw [Nat.pow_add]; exact Nat.mul_le_mul_right _ h1
  · rw [show m.log2 + j + 1 = (m.log2 + 1) + j by omega, Nat.pow_add]
    exact Nat.mul_lt_mul_of_pos_right h2 hp

/-- Rounding keeps a whole number. -/
theorem write_stands (s : Bool) (m j : Nat) (hm : m < 2 ^ 53) : Stands (double.write (.number s (m * 2 ^ j) (-(j : Int)))) s m := by
  refine ⟨hm, ?_⟩
  show ∃ k : Nat, double.read (double.nearest s (m * 2 ^ j) (-(j : Int))) = _
  unfold Format.nearest
  by_cases h0 : m = 0
  · subst h0
    rw [if_pos (by simp)]
    obtain ⟨K, hK⟩ : ∃ K : Nat, K = 1074 := ⟨_, rfl⟩
    refine ⟨K, ?_⟩
    obtain ⟨h1, h2⟩ := read_word (s := s) (rung := 0) (by decide)
    unfold Format.read
    simp only [h1, h2]
    rw [if_pos (by decide), lp, Nat.zero_mul, hK]
    cases s <;> rfl
  · have hN : m * 2 ^ j ≠ 0 := Nat.mul_ne_zero h0 (Nat.ne_of_gt (Nat.pow_pos (by decide)))
    rw [if_neg hN]
    have hlog := log2_shift (j := j) h0
    obtain ⟨g1, g2⟩ := (Nat.log2_eq_iff h0).1 rfl
    have hl52 : m.log2 ≤ 52 := by
      have := (Nat.log2_lt h0).2 hm
      omega
    obtain ⟨K, hK⟩ : ∃ K, m.log2 = 52 - K ∧ K ≤ 52 := ⟨52 - m.log2, by omega, by omega⟩
    have hlast : max (-(j : Int) + ((m * 2 ^ j).log2 : Int) - (double.fractionBits : Int)) double.leastPlace = -(K : Int) := by
      rw [hlog, lp, show (double.fractionBits : Int) = 52 from rfl]
      omega
    have hM1 : 2 ^ 52 ≤ m * 2 ^ K := by
      have : 2 ^ (52 - K) * 2 ^ K ≤ m * 2 ^ K := Nat.mul_le_mul_right _ (hK.1 ▸ g1)
      rwa [← Nat.pow_add, show 52 - K + K = 52 by omega] at this
    have hM2 : m * 2 ^ K < 2 ^ 53 := by
      have : m * 2 ^ K < 2 ^ (52 - K + 1) * 2 ^ K := Nat.mul_lt_mul_of_pos_right (hK.1 ▸ g2) (Nat.pow_pos (by decide))
      rwa [← Nat.pow_add, show 52 - K + 1 + K = 53 by omega] at this
    have hkept : Toward.even.cut s ((m * 2 ^ j) <<< (-(j : Int) - -(K : Int)).toNat) (-(K : Int) - -(j : Int)).toNat = m * 2 ^ K := by
      rcases Nat.le_total j K with hjk | hjk
      · rw [show (-(j : Int) - -(K : Int)).toNat = K - j by omega, show (-(K : Int) - -(j : Int)).toNat = 0 by omega, Nat.shiftLeft_eq, Nat.mul_assoc, ← Nat.pow_add, show j + (K - j) = K by omega]
        have := cut_none s (m * 2 ^ K) 0 (by omega)
        rwa [Nat.pow_zero, Nat.mul_one] at this
      · rw [show (-(j : Int) - -(K : Int)).toNat = 0 by omega, show (-(K : Int) - -(j : Int)).toNat = j - K by omega, Nat.shiftLeft_eq, Nat.pow_zero, Nat.mul_one]
        have e : m * 2 ^ j = m * 2 ^ K * 2 ^ (j - K) := by rw [Nat.mul_assoc, ← Nat.pow_add, show K + (j - K) = j by omega]
        rw [e]
        refine cut_none s (m * 2 ^ K) (j - K) ?_
        rw [← e, hlog]
        omega
    simp only [hlast, hkept]
    refine ⟨K, ?_⟩
    generalize m * 2 ^ K = M at *
    have hrung : (-(K : Int) - double.leastPlace).toNat = 1074 - K := by rw [lp]; omega
    rw [hrung, bi, ir]
    have hbig : (1074 - K) * 2 ^ 52 + M ≤ 2047 * 2 ^ 52 := by omega
    rw [Nat.min_eq_left hbig]
    obtain ⟨h1, h2⟩ := read_word (s := s) (rung := (1074 - K) * 2 ^ 52 + M) (by omega)
    unfold Format.read
    simp only [h1, h2, bi, ir, lp]
    rw [if_neg (by omega), if_pos (by omega)]
    have e1 : 2 ^ 52 + ((1074 - K) * 2 ^ 52 + M) % 2 ^ 52 = M := by omega
    have e2 : ((1074 - K) * 2 ^ 52 + M) / 2 ^ 52 - 1 = 1074 - K := by omega
    rw [e1, e2]
    have e3 : (-1074 : Int) + ((1074 - K : Nat) : Int) = -(K : Int) := by omega
    rw [e3]
    cases s <;> rfl
theorem signed_iv (s : Bool) (m k : Nat) : signed s m k = iv s m * 2 ^ k := by
  unfold signed iv
  rw [Nat.shiftLeft_eq]
  cases s <;> simp [Int.neg_mul]
theorem mul_stands {x y m n : Nat} {s t : Bool} (hx : Stands x s m) (hy : Stands y t n) (h : m * n < 2 ^ 53) : ∃ r, double.mul x y = some r ∧ Stands r (s ^^ t) (m * n) := by
  obtain ⟨_, k, hk⟩ := hx
  obtain ⟨_, l, hl⟩ := hy
  unfold Format.mul
  rw [hk, hl]
  refine ⟨_, rfl, ?_⟩
  have := write_stands (s ^^ t) (m * n) (k + l) h
  have e1 : m * 2 ^ k * (n * 2 ^ l) = m * n * 2 ^ (k + l) := by rw [Nat.pow_add]; ac_rfl
  have e2 : -(k : Int) + -(l : Int) = -((k + l : Nat) : Int) := by omega
  rw [e1, e2]
  exact this
theorem sum_stands {x m n : Nat} {s t : Bool} {k l : Nat} (hx : double.read x = .number s (m * 2 ^ k) (-(k : Int))) {d : Datum} (hd : d = .number t (n * 2 ^ l) (-(l : Int))) (h : (iv s m + iv t n).natAbs < 2 ^ 53) :
    ∃ r u q, (((double.read x).sum d).map double.write) = some r ∧ Stands r u q ∧ iv u q = iv s m + iv t n := by
  rw [hx, hd]
  have hp : (0 : Int) < 2 ^ max k l := Int.pow_pos (by decide)
  have hb : min (-(k : Int)) (-(l : Int)) = -((max k l : Nat) : Int) := by omega
  have t1 : signed s (m * 2 ^ k) (-(k : Int) - -((max k l : Nat) : Int)).toNat = iv s m * 2 ^ max k l := by
    rw [signed_iv, show (-(k : Int) - -((max k l : Nat) : Int)).toNat = max k l - k by omega]
    have e : (2 : Int) ^ max k l = 2 ^ k * 2 ^ (max k l - k) := by rw [← Int.pow_add]; congr 1; omega
    rw [e]
    unfold iv
    cases s <;> simp [Int.mul_assoc, Int.neg_mul]
  have t2 : signed t (n * 2 ^ l) (-(l : Int) - -((max k l : Nat) : Int)).toNat = iv t n * 2 ^ max k l := by
    rw [signed_iv, show (-(l : Int) - -((max k l : Nat) : Int)).toNat = max k l - l by omega]
    have e : (2 : Int) ^ max k l = 2 ^ l * 2 ^ (max k l - l) := by rw [← Int.pow_add]; congr 1; omega
    rw [e]
    unfold iv
    cases t <;> simp [Int.mul_assoc, Int.neg_mul]
  simp only [Datum.sum, hb, t1, t2]
  rw [← Int.add_mul]
  generalize hz : iv s m + iv t n = z at *
  have e3 : (z * 2 ^ max k l).natAbs = z.natAbs * 2 ^ max k l := by rw [Int.natAbs_mul, Int.natAbs_pow]; rfl
  rw [e3]
  refine ⟨_, _, z.natAbs, rfl, write_stands _ z.natAbs (max k l) h, ?_⟩
  by_cases h0 : z = 0
  · subst h0
    unfold iv
    split <;> simp
  · have hne : z * 2 ^ max k l ≠ 0 := Int.mul_ne_zero h0 (Int.ne_of_gt hp)
    rw [if_neg hne]
    unfold iv
    by_cases hneg : z < 0
    · rw [decide_eq_true (Int.mul_neg_of_neg_of_pos hneg hp), if_pos rfl]; omega
    · have : ¬ z * 2 ^ max k l < 0 := by
        have := Int.mul_nonneg (show 0 ≤ z by omega) (Int.le_of_lt hp)
        omega
      rw [decide_eq_false this, if_neg (by decide)]; omega

/-- The word b stands for the whole number z. -/
def IV (b : Nat) (z : Int) : Prop := ∃ s m, Stands b s m ∧ iv s m = z
theorem iv_abs (s : Bool) (m : Nat) : (iv s m).natAbs = m := by unfold iv; cases s <;> simp
theorem iv_mul (s t : Bool) (m n : Nat) : iv (s ^^ t) (m * n) = iv s m * iv t n := by unfold iv; cases s <;> cases t <;> simp [Int.neg_mul, Int.mul_neg]
theorem iv_neg (s : Bool) (m : Nat) : iv (!s) m = - iv s m := by unfold iv; cases s <;> simp
theorem IV.nearest {z : Int} (h : z.natAbs < 2 ^ 53) : IV (FloatKind.f64.nearest z) z := by
  refine ⟨decide (z < 0), z.natAbs, ?_, ?_⟩
  · have := write_stands (decide (z < 0)) z.natAbs 0 h
    show Stands (double.write (.number (decide (z < 0)) z.natAbs 0)) _ _
    simpa using this
  · unfold iv
    by_cases hz : z < 0
    · rw [decide_eq_true hz, if_pos rfl]; omega
    · rw [decide_eq_false hz, if_neg (by decide)]; omega
theorem IV.mul {x y : Nat} {a b : Int} (hx : IV x a) (hy : IV y b) (h : (a * b).natAbs < 2 ^ 53) : ∃ r, double.mul x y = some r ∧ IV r (a * b) := by
  obtain ⟨s, m, h1, rfl⟩ := hx
  obtain ⟨t, n, h2, rfl⟩ := hy
  obtain ⟨r, h3, h4⟩ := mul_stands h1 h2 (by rwa [Int.natAbs_mul, iv_abs, iv_abs] at h)
  exact ⟨r, h3, _, _, h4, iv_mul s t m n⟩
theorem IV.add {x y : Nat} {a b : Int} (hx : IV x a) (hy : IV y b) (h : (a + b).natAbs < 2 ^ 53) : ∃ r, double.add x y = some r ∧ IV r (a + b) := by
  obtain ⟨s, m, ⟨_, k, h1⟩, rfl⟩ := hx
  obtain ⟨t, n, ⟨_, l, h2⟩, rfl⟩ := hy
  obtain ⟨r, u, q, h3, h4, h5⟩ := sum_stands h1 h2 h
  exact ⟨r, h3, u, q, h4, h5⟩
theorem IV.sub {x y : Nat} {a b : Int} (hx : IV x a) (hy : IV y b) (h : (a - b).natAbs < 2 ^ 53) : ∃ r, double.sub x y = some r ∧ IV r (a - b) := by
  obtain ⟨s, m, ⟨_, k, h1⟩, rfl⟩ := hx
  obtain ⟨t, n, ⟨_, l, h2⟩, rfl⟩ := hy
  have h2' : (double.read y).opposite = .number (!t) (n * 2 ^ l) (-(l : Int)) := by rw [h2]; rfl
  obtain ⟨r, u, q, h3, h4, h5⟩ := sum_stands h1 h2' (by rw [iv_neg]; exact h)
  exact ⟨r, h3, u, q, h4, by rw [h5, iv_neg]; rfl⟩
end Go.VL

end
section
/- Ways, and vectors turned, plainly. -/
namespace Go.Proofs.Ytpkampecmlpfmaa.T
open Go Go.VL Go.Proofs
def maxTwist : Int := 4611686018427387903
def dg (a i : Nat) : Nat := a / 4 ^ i % 4
def wayErr (a : Int) : Int := if 0 ≤ a ∧ a ≤ maxTwist then 0 else 1
-- turning
def cs (d : Nat) : Int := if d = 0 then 1 else if d = 2 then -1 else 0
end Go.Proofs.Ytpkampecmlpfmaa.T

end
section
set_option linter.unusedSimpArgs false
set_option linter.unusedVariables false
/- Ways and turned vectors, walked. -/
namespace Go.Proofs.Ytpkampecmlpfmaa.T
open Go Go.VL Go.Proofs
set_option maxRecDepth 100000
set_option maxHeartbeats 4000000
end Go.Proofs.Ytpkampecmlpfmaa.T

end
section
set_option linter.unusedSimpArgs false
set_option linter.unusedVariables false
/- Vectors turned, walked. -/
namespace Go.Proofs.Ytpkampecmlpfmaa.T
open Go Go.VL Go.Proofs
set_option maxRecDepth 100000
set_option maxHeartbeats 4000000
theorem clone16_fun (v : List Int) (hb : v.length ≤ 500) (h : 1 ≤ v.length) : FunO Try.prog 129 [.lst (ints .i16 v)] fun r o => r = .ref 0 v.length ∧ o = some ⟨23, 1, ints .i16 v⟩ := by
  refine FunO.of_awpI Try.func129 rfl cal129 Try.ntmps129 (by simp) fun hwf => ?_
  simp only [D.wfs, D.wf, ints_length, ints_wfs, rows_length, rows_wfs, capMax, and_true, true_and] at hwf
  simp only [go_sem, Ret_eq Try.results129]
  refine opBinI_isNil (by simp only [factsT46]) fun c hc => ?_
  rw [ints_isNil] at hc
  simp only [go_sem, Ret_eq Try.results129]
  refine condI_split (fun h => ?_) (fun h => ?_)
  · have hb := hc h
    subst hb
    simp at h
  · repeat' (first | simp only [go_sem, h, Ret_eq Try.results129] | simp (disch := omega) only [arith, IntKind.bits, capMax, fill_len, elt_fill] | refine RetO_calc Try.results129 ?_ | fail)

end Go.Proofs.Ytpkampecmlpfmaa.T

end
section
set_option linter.unusedSimpArgs false
set_option linter.unusedVariables false
/- Vectors turned back, and the chapter's example. -/
namespace Go.Proofs.Ytpkampecmlpfmaa.T
open Go Go.VL Go.Proofs
set_option maxRecDepth 100000
set_option maxHeartbeats 4000000
end Go.Proofs.Ytpkampecmlpfmaa.T

end
section
set_option linter.unusedSimpArgs false
set_option linter.unusedVariables false
/- Octets of a number, and the number of octets. -/
namespace Go.Proofs.Ytpkampecmlpfmaa.T
open Go Go.VL Go.Proofs
def val : List Int → Int
  | [] => 0
  | c :: cs => c + 256 * val cs
def Octets (l : List Int) : Prop := ∀ c ∈ l, 0 ≤ c ∧ c ≤ 255
theorem Octets.append {a b : List Int} (ha : Octets a) (hb : Octets b) : Octets (a ++ b) := fun c h => (List.mem_append.1 h).elim (ha c) (hb c)
theorem Octets.drop {a : List Int} (ha : Octets a) (n : Nat) : Octets (a.drop n) := fun c h => ha c (List.mem_of_mem_drop h)
theorem Octets.take {a : List Int} (ha : Octets a) (n : Nat) : Octets (a.take n) := fun c h => ha c (List.mem_of_mem_take h)
end Go.Proofs.Ytpkampecmlpfmaa.T

end
section
set_option linter.unusedSimpArgs false
set_option linter.unusedVariables false
/- Books, walked. -/
namespace Go.Proofs.Ytpkampecmlpfmaa.T
open Go Go.VL Go.Proofs
set_option maxRecDepth 100000
set_option maxHeartbeats 4000000
def manyOf (cuts : List (List Int)) : Nat := (cuts.getD 0 []).length
def oddCut (n : Nat) (c : List Int) : Bool := decide (c.length ≠ n) || decide (cutsErr c ≠ 0)
def bookOk (w : Int) (cuts : List (List Int)) : Prop := 1 ≤ cuts.length ∧ cuts.length ≤ 64 ∧ wayErr w = 0 ∧ cuts.any (oddCut (manyOf cuts)) = false
instance (w : Int) (cuts : List (List Int)) : Decidable (bookOk w cuts) := by unfold bookOk; infer_instance
def mx (a b : Int) : Int := if b > a then b else a
def formOk (cuts : List (List Int)) (code : List Int) : Prop := code.length = cuts.length ∧ ∀ x ∈ code, x ≤ manyOf cuts
instance (cuts : List (List Int)) (code : List Int) : Decidable (formOk cuts code) := by unfold formOk; infer_instance
end Go.Proofs.Ytpkampecmlpfmaa.T

end
section
set_option linter.unusedSimpArgs false
set_option linter.unusedVariables false
/- Codes and boxes, walked. -/
namespace Go.Proofs.Ytpkampecmlpfmaa.T
open Go Go.VL Go.Proofs
set_option maxRecDepth 100000
set_option maxHeartbeats 4000000
end Go.Proofs.Ytpkampecmlpfmaa.T

end
section
set_option linter.unusedSimpArgs false
set_option linter.unusedVariables false
/- Boxes, walked. -/
namespace Go.Proofs.Ytpkampecmlpfmaa.T
open Go Go.VL Go.Proofs
set_option maxRecDepth 100000
set_option maxHeartbeats 4000000
end Go.Proofs.Ytpkampecmlpfmaa.T

end
section
/- Struct literals of the seat. -/
namespace Go.Proofs.Ytpkampecmlpfmaa.T
open Go Go.VL Go.Proofs
set_option linter.unusedVariables false
set_option maxRecDepth 100000

theorem fact_pl44 : placesT Try.prog 44 = some fun i => if i = 0 then some (0, 1) else if i = 1 then some (1, 1) else if i = 2 then some (2, 1) else none := by
  have h : ∃ fs, Try.prog.underlying 44 = some (.struct fs) ∧ fs.size = 3 ∧ ((fs[0]?).map fun f => (f.offset, Try.prog.cellsOf f.type)) = some (0, 1) ∧ ((fs[1]?).map fun f => (f.offset, Try.prog.cellsOf f.type)) = some (1, 1) ∧ ((fs[2]?).map fun f => (f.offset, Try.prog.cellsOf f.type)) = some (2, 1) := ⟨_, rfl, by kernel_rfl, by kernel_rfl, by kernel_rfl, by kernel_rfl⟩
  obtain ⟨fs, h1, h2, h3, h4, h5⟩ := h
  unfold placesT
  rw [h1]
  show (some fun (i : Nat) => (fs[i]?).map fun (f : Go.Field) => (f.offset, Try.prog.cellsOf f.type)) = _
  refine congrArg some (funext fun i => ?_)
  by_cases i0 : i = 0
  · subst i0; exact h3
  · by_cases i1 : i = 1
    · subst i1; exact h4
    · by_cases i2 : i = 2
      · subst i2; exact h5
      · rw [if_neg i0, if_neg i1, if_neg i2, Array.getElem?_eq_none (by omega)]; rfl
theorem ofVal44 : D.ofVal (Value.agg #[.int .i64 0, .slice none 0 0, .slice none 0 0]) = .agg [.v (.int .i64 0) , .v (.slice none 0 0) , .v (.slice none 0 0)] := (rfl)
theorem fact_pl45 : placesT Try.prog 45 = some fun i => if i = 0 then some (0, 1) else if i = 1 then some (1, 1) else if i = 2 then some (2, 1) else none := by
  have h : ∃ fs, Try.prog.underlying 45 = some (.struct fs) ∧ fs.size = 3 ∧ ((fs[0]?).map fun f => (f.offset, Try.prog.cellsOf f.type)) = some (0, 1) ∧ ((fs[1]?).map fun f => (f.offset, Try.prog.cellsOf f.type)) = some (1, 1) ∧ ((fs[2]?).map fun f => (f.offset, Try.prog.cellsOf f.type)) = some (2, 1) := ⟨_, rfl, by kernel_rfl, by kernel_rfl, by kernel_rfl, by kernel_rfl⟩
  obtain ⟨fs, h1, h2, h3, h4, h5⟩ := h
  unfold placesT
  rw [h1]
  show (some fun (i : Nat) => (fs[i]?).map fun (f : Go.Field) => (f.offset, Try.prog.cellsOf f.type)) = _
  refine congrArg some (funext fun i => ?_)
  by_cases i0 : i = 0
  · subst i0; exact h3
  · by_cases i1 : i = 1
    · subst i1; exact h4
    · by_cases i2 : i = 2
      · subst i2; exact h5
      · rw [if_neg i0, if_neg i1, if_neg i2, Array.getElem?_eq_none (by omega)]; rfl
theorem ofVal45 : D.ofVal (Value.agg #[.int .i64 0, .slice none 0 0, .slice none 0 0]) = .agg [.v (.int .i64 0) , .v (.slice none 0 0) , .v (.slice none 0 0)] := (rfl)
theorem fact_pl64 : placesT Try.prog 64 = some fun i => if i = 0 then some (0, 1) else if i = 1 then some (1, 1) else if i = 2 then some (2, 1) else none := by
  have h : ∃ fs, Try.prog.underlying 64 = some (.struct fs) ∧ fs.size = 3 ∧ ((fs[0]?).map fun f => (f.offset, Try.prog.cellsOf f.type)) = some (0, 1) ∧ ((fs[1]?).map fun f => (f.offset, Try.prog.cellsOf f.type)) = some (1, 1) ∧ ((fs[2]?).map fun f => (f.offset, Try.prog.cellsOf f.type)) = some (2, 1) := ⟨_, rfl, by kernel_rfl, by kernel_rfl, by kernel_rfl, by kernel_rfl⟩
  obtain ⟨fs, h1, h2, h3, h4, h5⟩ := h
  unfold placesT
  rw [h1]
  show (some fun (i : Nat) => (fs[i]?).map fun (f : Go.Field) => (f.offset, Try.prog.cellsOf f.type)) = _
  refine congrArg some (funext fun i => ?_)
  by_cases i0 : i = 0
  · subst i0; exact h3
  · by_cases i1 : i = 1
    · subst i1; exact h4
    · by_cases i2 : i = 2
      · subst i2; exact h5
      · rw [if_neg i0, if_neg i1, if_neg i2, Array.getElem?_eq_none (by omega)]; rfl
theorem ofVal64 : D.ofVal (Value.agg #[.int .i64 0, .int .i64 0, .int .i16 0]) = .agg [.v (.int .i64 0) , .v (.int .i64 0) , .v (.int .i16 0)] := (rfl)
theorem fact_pl65 : placesT Try.prog 65 = some fun i => if i = 0 then some (0, 1) else if i = 1 then some (1, 1) else if i = 2 then some (2, 1) else none := by
  have h : ∃ fs, Try.prog.underlying 65 = some (.struct fs) ∧ fs.size = 3 ∧ ((fs[0]?).map fun f => (f.offset, Try.prog.cellsOf f.type)) = some (0, 1) ∧ ((fs[1]?).map fun f => (f.offset, Try.prog.cellsOf f.type)) = some (1, 1) ∧ ((fs[2]?).map fun f => (f.offset, Try.prog.cellsOf f.type)) = some (2, 1) := ⟨_, rfl, by kernel_rfl, by kernel_rfl, by kernel_rfl, by kernel_rfl⟩
  obtain ⟨fs, h1, h2, h3, h4, h5⟩ := h
  unfold placesT
  rw [h1]
  show (some fun (i : Nat) => (fs[i]?).map fun (f : Go.Field) => (f.offset, Try.prog.cellsOf f.type)) = _
  refine congrArg some (funext fun i => ?_)
  by_cases i0 : i = 0
  · subst i0; exact h3
  · by_cases i1 : i = 1
    · subst i1; exact h4
    · by_cases i2 : i = 2
      · subst i2; exact h5
      · rw [if_neg i0, if_neg i1, if_neg i2, Array.getElem?_eq_none (by omega)]; rfl
theorem ofVal65 : D.ofVal (Value.agg #[.int .i64 0, .int .i64 0, .int .i16 0]) = .agg [.v (.int .i64 0) , .v (.int .i64 0) , .v (.int .i16 0)] := (rfl)
theorem fact_pl72 : placesT Try.prog 72 = some fun i => if i = 0 then some (0, 1) else if i = 1 then some (1, 1) else none := by
  have h : ∃ fs, Try.prog.underlying 72 = some (.struct fs) ∧ fs.size = 2 ∧ ((fs[0]?).map fun f => (f.offset, Try.prog.cellsOf f.type)) = some (0, 1) ∧ ((fs[1]?).map fun f => (f.offset, Try.prog.cellsOf f.type)) = some (1, 1) := ⟨_, rfl, by kernel_rfl, by kernel_rfl, by kernel_rfl⟩
  obtain ⟨fs, h1, h2, h3, h4⟩ := h
  unfold placesT
  rw [h1]
  show (some fun (i : Nat) => (fs[i]?).map fun (f : Go.Field) => (f.offset, Try.prog.cellsOf f.type)) = _
  refine congrArg some (funext fun i => ?_)
  by_cases i0 : i = 0
  · subst i0; exact h3
  · by_cases i1 : i = 1
    · subst i1; exact h4
    · rw [if_neg i0, if_neg i1, Array.getElem?_eq_none (by omega)]; rfl
theorem ofVal72 : D.ofVal (Value.agg #[.int .i64 0, .slice none 0 0]) = .agg [.v (.int .i64 0) , .v (.slice none 0 0)] := (rfl)
theorem fact_pl73 : placesT Try.prog 73 = some fun i => if i = 0 then some (0, 1) else if i = 1 then some (1, 1) else none := by
  have h : ∃ fs, Try.prog.underlying 73 = some (.struct fs) ∧ fs.size = 2 ∧ ((fs[0]?).map fun f => (f.offset, Try.prog.cellsOf f.type)) = some (0, 1) ∧ ((fs[1]?).map fun f => (f.offset, Try.prog.cellsOf f.type)) = some (1, 1) := ⟨_, rfl, by kernel_rfl, by kernel_rfl, by kernel_rfl⟩
  obtain ⟨fs, h1, h2, h3, h4⟩ := h
  unfold placesT
  rw [h1]
  show (some fun (i : Nat) => (fs[i]?).map fun (f : Go.Field) => (f.offset, Try.prog.cellsOf f.type)) = _
  refine congrArg some (funext fun i => ?_)
  by_cases i0 : i = 0
  · subst i0; exact h3
  · by_cases i1 : i = 1
    · subst i1; exact h4
    · rw [if_neg i0, if_neg i1, Array.getElem?_eq_none (by omega)]; rfl
theorem ofVal73 : D.ofVal (Value.agg #[.int .i64 0, .slice none 0 0]) = .agg [.v (.int .i64 0) , .v (.slice none 0 0)] := (rfl)
theorem fact_pl98 : placesT Try.prog 98 = some fun i => if i = 0 then some (0, 1) else if i = 1 then some (1, 1) else if i = 2 then some (2, 1) else none := by
  have h : ∃ fs, Try.prog.underlying 98 = some (.struct fs) ∧ fs.size = 3 ∧ ((fs[0]?).map fun f => (f.offset, Try.prog.cellsOf f.type)) = some (0, 1) ∧ ((fs[1]?).map fun f => (f.offset, Try.prog.cellsOf f.type)) = some (1, 1) ∧ ((fs[2]?).map fun f => (f.offset, Try.prog.cellsOf f.type)) = some (2, 1) := ⟨_, rfl, by kernel_rfl, by kernel_rfl, by kernel_rfl, by kernel_rfl⟩
  obtain ⟨fs, h1, h2, h3, h4, h5⟩ := h
  unfold placesT
  rw [h1]
  show (some fun (i : Nat) => (fs[i]?).map fun (f : Go.Field) => (f.offset, Try.prog.cellsOf f.type)) = _
  refine congrArg some (funext fun i => ?_)
  by_cases i0 : i = 0
  · subst i0; exact h3
  · by_cases i1 : i = 1
    · subst i1; exact h4
    · by_cases i2 : i = 2
      · subst i2; exact h5
      · rw [if_neg i0, if_neg i1, if_neg i2, Array.getElem?_eq_none (by omega)]; rfl
theorem ofVal98 : D.ofVal (Value.agg #[.int .u64 0, .int .i64 0, .slice none 0 0]) = .agg [.v (.int .u64 0) , .v (.int .i64 0) , .v (.slice none 0 0)] := (rfl)
theorem fact_pl99 : placesT Try.prog 99 = some fun i => if i = 0 then some (0, 1) else if i = 1 then some (1, 1) else if i = 2 then some (2, 1) else none := by
  have h : ∃ fs, Try.prog.underlying 99 = some (.struct fs) ∧ fs.size = 3 ∧ ((fs[0]?).map fun f => (f.offset, Try.prog.cellsOf f.type)) = some (0, 1) ∧ ((fs[1]?).map fun f => (f.offset, Try.prog.cellsOf f.type)) = some (1, 1) ∧ ((fs[2]?).map fun f => (f.offset, Try.prog.cellsOf f.type)) = some (2, 1) := ⟨_, rfl, by kernel_rfl, by kernel_rfl, by kernel_rfl, by kernel_rfl⟩
  obtain ⟨fs, h1, h2, h3, h4, h5⟩ := h
  unfold placesT
  rw [h1]
  show (some fun (i : Nat) => (fs[i]?).map fun (f : Go.Field) => (f.offset, Try.prog.cellsOf f.type)) = _
  refine congrArg some (funext fun i => ?_)
  by_cases i0 : i = 0
  · subst i0; exact h3
  · by_cases i1 : i = 1
    · subst i1; exact h4
    · by_cases i2 : i = 2
      · subst i2; exact h5
      · rw [if_neg i0, if_neg i1, if_neg i2, Array.getElem?_eq_none (by omega)]; rfl
theorem ofVal99 : D.ofVal (Value.agg #[.int .u64 0, .int .i64 0, .slice none 0 0]) = .agg [.v (.int .u64 0) , .v (.int .i64 0) , .v (.slice none 0 0)] := (rfl)
theorem aggOf_agg {l : List D} : aggOf (.agg l) = some l := (rfl)
attribute [go_sem] fact_pl44 ofVal44 fact_pl45 ofVal45 fact_pl64 ofVal64 fact_pl65 ofVal65 fact_pl72 ofVal72 fact_pl73 ofVal73 fact_pl98 ofVal98 fact_pl99 ofVal99 aggOf_agg fillD cellsD
end Go.Proofs.Ytpkampecmlpfmaa.T

end
section
set_option linter.unusedSimpArgs false
set_option linter.unusedVariables false
/- The chapter's example; small books. -/
namespace Go.Proofs.Ytpkampecmlpfmaa.T
open Go Go.VL Go.Proofs
set_option maxRecDepth 100000
set_option maxHeartbeats 4000000
end Go.Proofs.Ytpkampecmlpfmaa.T

end
section
set_option linter.unusedSimpArgs false
set_option linter.unusedVariables false
/- Slots, walked. -/
namespace Go.Proofs.Ytpkampecmlpfmaa.T
open Go Go.VL Go.Proofs
set_option maxRecDepth 100000
set_option maxHeartbeats 4000000
theorem fact_dir : mapT Try.prog 63 = some (2, 3) := by kernel_rfl
attribute [go_sem] fact_dir
theorem ofVal_map {m : Option Nat} : D.ofVal (.map m) = .v (.map m) := (rfl)
attribute [go_sem] ofVal_map
abbrev slotsD (dim : Int) (ids : List Int) (vecs : List (List Int)) : D := .agg [.v (.int .i64 dim), .lst (ints .i64 ids), .lst (rows .i16 vecs)]
def dirN (ids : List Int) : Nat → List (Int × Int)
  | 0 => []
  | k + 1 => if ids.getD k 0 = -1 then dirN ids k else setN (ids.getD k 0) k (dirN ids k)
def slotOk (dim : Int) (ids : List Int) (vecs : List (List Int)) (k : Nat) : Prop :=
  (ids.getD k 0 = -1 ∧ (vecs.getD k []).length = 0) ∨ (lookN (ids.getD k 0) (dirN ids k) = none ∧ (0 ≤ ids.getD k 0 ∧ ids.getD k 0 ≤ 2147483647) ∧ vecErr (vecs.getD k []) = 0 ∧ ((vecs.getD k []).length : Int) = dim)
instance (dim : Int) (ids : List Int) (vecs : List (List Int)) (k : Nat) : Decidable (slotOk dim ids vecs k) := by unfold slotOk; infer_instance
def slotsOk (dim : Int) (ids : List Int) (vecs : List (List Int)) : Prop := (1 ≤ dim ∧ dim ≤ 64) ∧ (1 ≤ ids.length ∧ ids.length ≤ 256) ∧ vecs.length = ids.length ∧ ∀ k, k < ids.length → slotOk dim ids vecs k
instance (dim : Int) (ids : List Int) (vecs : List (List Int)) : Decidable (slotsOk dim ids vecs) := by unfold slotsOk; infer_instance
def slotsErr (dim : Int) (ids : List Int) (vecs : List (List Int)) : Int := if slotsOk dim ids vecs then 0 else 1

theorem within_fun (n m : Int) : Fun Try.prog 103 [.v (.int .i64 n), .v (.int .i64 m)] fun r => r = .v (.bool (decide (1 ≤ n ∧ n ≤ m))) := by
  refine Fun.of_awpI Try.func103 rfl cal103 Try.ntmps103 (by simp) fun hwf => ?_
  simp only [D.wfs, D.wf, ints_length, ints_wfs, rows_length, rows_wfs, capMax, and_true, true_and] at hwf
  by_cases h : 1 ≤ n ∧ n ≤ m
  · rw [decide_eq_true h]
    repeat' (first | simp only [go_sem, Ret_eq Try.results103] | simp (disch := omega) only [arith, IntKind.bits, capMax, fill_len, elt_fill] | fail)
  · rw [decide_eq_false h]
    by_cases h1 : 1 ≤ n
    · repeat' (first | simp only [go_sem, Ret_eq Try.results103] | simp (disch := omega) only [arith, IntKind.bits, capMax, fill_len, elt_fill] | fail)
    · repeat' (first | simp only [go_sem, Ret_eq Try.results103] | simp (disch := omega) only [arith, IntKind.bits, capMax, fill_len, elt_fill] | fail)

theorem isId_fun (n : Int) : Fun Try.prog 95 [.v (.int .i64 n)] fun r => r = .v (.bool (decide (0 ≤ n ∧ n ≤ 2147483647))) := by
  refine Fun.of_awpI Try.func95 rfl cal95 Try.ntmps95 (by simp) fun hwf => ?_
  simp only [D.wfs, D.wf, ints_length, ints_wfs, rows_length, rows_wfs, capMax, and_true, true_and] at hwf
  by_cases h : 0 ≤ n ∧ n ≤ 2147483647
  · rw [decide_eq_true h]
    repeat' (first | simp only [go_sem, Ret_eq Try.results95] | simp (disch := omega) only [arith, IntKind.bits, capMax, fill_len, elt_fill] | fail)
  · rw [decide_eq_false h]
    by_cases h1 : 0 ≤ n
    · repeat' (first | simp only [go_sem, Ret_eq Try.results95] | simp (disch := omega) only [arith, IntKind.bits, capMax, fill_len, elt_fill] | fail)
    · repeat' (first | simp only [go_sem, Ret_eq Try.results95] | simp (disch := omega) only [arith, IntKind.bits, capMax, fill_len, elt_fill] | fail)

theorem fits_slot_fun (dim : Int) (ids : List Int) (vecs : List (List Int)) (v : List Int) : Fun Try.prog 96 [slotsD dim ids vecs, .lst (ints .i16 v)] fun r => r = .v (.bool (decide (vecErr v = 0 ∧ (v.length : Int) = dim))) := by
  refine Fun.of_awpI Try.func96 rfl cal96 Try.ntmps96 (by simp) fun hwf => ?_
  simp only [D.wfs, D.wf, ints_length, ints_wfs, rows_length, rows_wfs, capMax, and_true, true_and] at hwf
  by_cases h1 : vecErr v = 0
  · by_cases h2 : (v.length : Int) = dim
    · rw [decide_eq_true ⟨h1, h2⟩]
      repeat' (first | simp only [go_sem, h1, h2, beq_self_eq_true, Ret_eq Try.results96] | (refine opCallI_rd (by simp only [go_sem, h1, h2, beq_self_eq_true, Ret_eq Try.results96]; first | done | rfl) (vecCheck_fun v) (by rintro _ rfl; rfl) ?_; rintro _ rfl) | fail)
    · rw [decide_eq_false (fun q => h2 q.2)]
      have h3 : ((v.length : Int) == dim) = false := beq_eq_false_iff_ne.2 h2
      repeat' (first | simp only [go_sem, h1, h3, beq_self_eq_true, Ret_eq Try.results96] | (refine opCallI_rd (by simp only [go_sem, h1, h3, beq_self_eq_true, Ret_eq Try.results96]; first | done | rfl) (vecCheck_fun v) (by rintro _ rfl; rfl) ?_; rintro _ rfl) | fail)
  · rw [decide_eq_false (fun q => h1 q.1)]
    have h3 : (vecErr v == 0) = false := beq_eq_false_iff_ne.2 h1
    repeat' (first | simp only [go_sem, h3, Ret_eq Try.results96] | (refine opCallI_rd (by simp only [go_sem, h3, Ret_eq Try.results96]; first | done | rfl) (vecCheck_fun v) (by rintro _ rfl; rfl) ?_; rintro _ rfl) | fail)
theorem setN_length (a d : Int) : ∀ l, (setN a d l).length ≤ l.length + 1
  | [] => by simp [setN]
  | (b, e) :: r => by
    have := setN_length a d r
    unfold setN
    split <;> simp only [List.length_cons] <;> omega
theorem dirN_length {ids : List Int} : ∀ k, (dirN ids k).length ≤ k
  | 0 => Nat.le_refl _
  | k + 1 => by
    have := dirN_length (ids := ids) k
    rw [dirN]
    split
    · omega
    · have := setN_length (ids.getD k 0) k (dirN ids k)
      omega

theorem dir_ok (dim : Int) (ids : List Int) (vecs : List (List Int)) (h : slotsOk dim ids vecs) : FunO Try.prog 94 [slotsD dim ids vecs] fun r o => r = .tup [.mp 0, .v (.bool true)] ∧ o = some ⟨63, 0, kvI .i64 .i64 (dirN ids ids.length)⟩ := by
  refine FunO.of_awpI Try.func94 rfl cal94 Try.ntmps94 (by simp) fun hwf => ?_
  simp only [D.wfs, D.wf, ints_length, ints_wfs, rows_length, rows_wfs, capMax, and_true, true_and] at hwf
  obtain ⟨h1, h2, h3, h4⟩ := h
  have hw1 := within_fun dim 64
  have hw2 := within_fun ids.length 256
  rw [decide_eq_true h1] at hw1
  rw [decide_eq_true (by omega)] at hw2
  repeat' (first | simp only [go_sem, h3, beq_self_eq_true, Ret_eq Try.results94] | simp (disch := omega) only [arith, IntKind.bits, capMax, fill_len, elt_fill] | (refine opCallI_rd (by simp only [go_sem, h3, beq_self_eq_true, Ret_eq Try.results94]; first | done | rfl) (hw1) (by rintro _ rfl; rfl) ?_; rintro _ rfl) | (refine opCallI_rd (by simp only [go_sem, h3, beq_self_eq_true, Ret_eq Try.results94]; first | done | rfl) (hw2) (by rintro _ rfl; rfl) ?_; rintro _ rfl) | fail)
  refine awpI_for ids.length (fun k => True) (fun k => [(36, .v (.int .i64 k))]) (fun k => [(32, ⟨63, 0, kvI .i64 .i64 (dirN ids k)⟩)]) [1, 4, 34, 35] [1] _ (Weak.refl _) trivial ?_ ?_ ?_
  · simp only [go_sem, Ret_eq Try.results94]
  · simp only [go_sem, Ret_eq Try.results94]
    rfl
  · intro k s hk _ hs
    simp only [go_sem, Ret_eq Try.results94] at hs
    by_cases hka : k < ids.length
    · have hl := dirN_length (ids := ids) k
      rcases h4 k hka with ⟨q1, q2⟩ | ⟨q1, q2, q3, q4⟩
      · have e : dirN ids (k + 1) = dirN ids k := by rw [dirN, if_pos q1]
        repeat' (first | simp only [go_sem, hs, q1, q2, e, beq_self_eq_true, Ret_eq Try.results94] | simp (disch := omega) only [arith, IntKind.bits, capMax, fill_len, elt_fill] | (refine Again.up (by omega) ?_ ?_) | fail)
      · have hne : ids.getD k 0 ≠ -1 := by omega
        have hb : (ids.getD k 0 == -1) = false := beq_eq_false_iff_ne.2 hne
        have e : dirN ids (k + 1) = setN (ids.getD k 0) k (dirN ids k) := by rw [dirN, if_neg hne]
        have hi := isId_fun (ids.getD k 0)
        rw [decide_eq_true q2] at hi
        have hf := fits_slot_fun dim ids vecs (vecs.getD k [])
        rw [decide_eq_true ⟨q3, q4⟩] at hf
        repeat' (first | simp only [go_sem, hs, hb, q1, e, List.length_map, Ret_eq Try.results94] | simp (disch := omega) only [arith, IntKind.bits, capMax, fill_len, elt_fill] | (refine awpI_draw2 (id := 9) (.one false 0 (.one false 1 (.one false 2 (.only 3 (.one false 4 (.one false 5 (.one false 6 (.one false 7 (.one false 8 (.one false 9 (.one false 10 (.one false 11 (.one false 12 (.only 13 (.one false 14 (.one false 15 .done)))))))))))))))) mixed (by decide +kernel) (by decide +kernel) ?_) | (refine Again.up (by omega) ?_ ?_) | (refine opCallI_rd (by simp only [go_sem, hs, hb, q1, e, List.length_map, Ret_eq Try.results94]; first | done | rfl) (hi) (by rintro _ rfl; rfl) ?_; rintro _ rfl) | (refine opCallI_rd (by simp only [go_sem, hs, hb, q1, e, List.length_map, Ret_eq Try.results94]; first | done | rfl) (hf) (by rintro _ rfl; rfl) ?_; rintro _ rfl) | fail)
    · obtain rfl : k = ids.length := by omega
      repeat' (first | simp only [go_sem, hs, Ret_eq Try.results94] | simp (disch := omega) only [arith, IntKind.bits, capMax, fill_len, elt_fill] | refine RetO_calc Try.results94 ?_ | fail)

theorem dir_bad (dim : Int) (ids : List Int) (vecs : List (List Int)) (h : ¬ slotsOk dim ids vecs) : FunO Try.prog 94 [slotsD dim ids vecs] fun r o => r = .tup [.v (.map none), .v (.bool false)] ∧ o = none := by
  refine FunO.of_awpI Try.func94 rfl cal94 Try.ntmps94 (by simp) fun hwf => ?_
  simp only [D.wfs, D.wf, ints_length, ints_wfs, rows_length, rows_wfs, capMax, and_true, true_and] at hwf
  have hw1 := within_fun dim 64
  have hw2 := within_fun ids.length 256
  by_cases h1 : 1 ≤ dim ∧ dim ≤ 64
  · rw [decide_eq_true h1] at hw1
    by_cases h2 : 1 ≤ ids.length ∧ ids.length ≤ 256
    · rw [decide_eq_true (by omega)] at hw2
      by_cases h3 : vecs.length = ids.length
      · repeat' (first | simp only [go_sem, h3, beq_self_eq_true, Ret_eq Try.results94] | simp (disch := omega) only [arith, IntKind.bits, capMax, fill_len, elt_fill] | (refine opCallI_rd (by simp only [go_sem, h3, beq_self_eq_true, Ret_eq Try.results94]; first | done | rfl) (hw1) (by rintro _ rfl; rfl) ?_; rintro _ rfl) | (refine opCallI_rd (by simp only [go_sem, h3, beq_self_eq_true, Ret_eq Try.results94]; first | done | rfl) (hw2) (by rintro _ rfl; rfl) ?_; rintro _ rfl) | fail)
        refine awpI_for ids.length (fun k => ∀ j, j < k → slotOk dim ids vecs j) (fun k => [(36, .v (.int .i64 k))]) (fun k => [(32, ⟨63, 0, kvI .i64 .i64 (dirN ids k)⟩)]) [1, 4, 34, 35] [1] _ (Weak.refl _) (fun j hj => absurd hj (Nat.not_lt_zero _)) ?_ ?_ ?_
        · simp only [go_sem, Ret_eq Try.results94]
        · simp only [go_sem, Ret_eq Try.results94]
          rfl
        · intro k s hk hQ hs
          simp only [go_sem, Ret_eq Try.results94] at hs
          by_cases hka : k < ids.length
          · have hl := dirN_length (ids := ids) k
            by_cases hok : slotOk dim ids vecs k
            · have hQ' : ∀ j, j < k + 1 → slotOk dim ids vecs j := fun j hj => by
                by_cases q : j < k
                · exact hQ j q
                · obtain rfl : j = k := by omega
                  exact hok
              rcases hok with ⟨q1, q2⟩ | ⟨q1, q2, q3, q4⟩
              · have e : dirN ids (k + 1) = dirN ids k := by rw [dirN, if_pos q1]
                repeat' (first | simp only [go_sem, hs, q1, q2, e, beq_self_eq_true, Ret_eq Try.results94] | simp (disch := omega) only [arith, IntKind.bits, capMax, fill_len, elt_fill] | (refine Again.up (by omega) ?_ ?_) | fail)
                exact hQ'
              · have hne : ids.getD k 0 ≠ -1 := by omega
                have hb : (ids.getD k 0 == -1) = false := beq_eq_false_iff_ne.2 hne
                have e : dirN ids (k + 1) = setN (ids.getD k 0) k (dirN ids k) := by rw [dirN, if_neg hne]
                have hi := isId_fun (ids.getD k 0)
                rw [decide_eq_true q2] at hi
                have hf := fits_slot_fun dim ids vecs (vecs.getD k [])
                rw [decide_eq_true ⟨q3, q4⟩] at hf
                repeat' (first | simp only [go_sem, hs, hb, q1, e, List.length_map, Ret_eq Try.results94] | simp (disch := omega) only [arith, IntKind.bits, capMax, fill_len, elt_fill] | (refine awpI_draw2 (id := 9) (.one false 0 (.one false 1 (.one false 2 (.only 3 (.one false 4 (.one false 5 (.one false 6 (.one false 7 (.one false 8 (.one false 9 (.one false 10 (.one false 11 (.one false 12 (.only 13 (.one false 14 (.one false 15 .done)))))))))))))))) mixed (by decide +kernel) (by decide +kernel) ?_) | (refine Again.up (by omega) ?_ ?_) | (refine opCallI_rd (by simp only [go_sem, hs, hb, q1, e, List.length_map, Ret_eq Try.results94]; first | done | rfl) (hi) (by rintro _ rfl; rfl) ?_; rintro _ rfl) | (refine opCallI_rd (by simp only [go_sem, hs, hb, q1, e, List.length_map, Ret_eq Try.results94]; first | done | rfl) (hf) (by rintro _ rfl; rfl) ?_; rintro _ rfl) | fail)
                exact hQ'
            · have hi := isId_fun (ids.getD k 0)
              have hf := fits_slot_fun dim ids vecs (vecs.getD k [])
              by_cases q0 : ids.getD k 0 = -1
              · have q1 : ¬ (vecs.getD k []).length = 0 := fun q => hok (.inl ⟨q0, q⟩)
                have hb : ((((vecs.getD k []).length : Nat) : Int) == 0) = false := beq_eq_false_iff_ne.2 (by omega)
                rw [decide_eq_false (by omega)] at hi
                cases hlk : lookN (ids.getD k 0) (dirN ids k) with
                | none =>
                  rw [q0] at hlk hi
                  repeat' (first | simp only [go_sem, hs, q0, hb, hlk, beq_self_eq_true, Ret_eq Try.results94] | simp (disch := omega) only [arith, IntKind.bits, capMax, fill_len, elt_fill] | refine RetO_calc Try.results94 ?_ | (refine awpI_draw2 (id := 9) (.one false 0 (.one false 1 (.one false 2 (.only 3 (.one false 4 (.one false 5 (.one false 6 (.one false 7 (.one false 8 (.one false 9 (.one false 10 (.one false 11 (.one false 12 (.only 13 (.one false 14 (.one false 15 .done)))))))))))))))) mixed (by decide +kernel) (by decide +kernel) ?_) | (refine opCallI_rd (by simp only [go_sem, hs, q0, hb, hlk, beq_self_eq_true, Ret_eq Try.results94]; first | done | rfl) (hi) (by rintro _ rfl; rfl) ?_; rintro _ rfl) | fail)
                | some x =>
                  rw [q0] at hlk hi
                  repeat' (first | simp only [go_sem, hs, q0, hb, hlk, beq_self_eq_true, Ret_eq Try.results94] | simp (disch := omega) only [arith, IntKind.bits, capMax, fill_len, elt_fill] | refine RetO_calc Try.results94 ?_ | (refine awpI_draw2 (id := 9) (.one false 0 (.one false 1 (.one false 2 (.only 3 (.one false 4 (.one false 5 (.one false 6 (.one false 7 (.one false 8 (.one false 9 (.one false 10 (.one false 11 (.one false 12 (.only 13 (.one false 14 (.one false 15 .done)))))))))))))))) mixed (by decide +kernel) (by decide +kernel) ?_) | fail)
              · have hb : (ids.getD k 0 == -1) = false := beq_eq_false_iff_ne.2 q0
                cases hlk : lookN (ids.getD k 0) (dirN ids k) with
                | some x =>
                  repeat' (first | simp only [go_sem, hs, hb, hlk, Ret_eq Try.results94] | simp (disch := omega) only [arith, IntKind.bits, capMax, fill_len, elt_fill] | refine RetO_calc Try.results94 ?_ | (refine awpI_draw2 (id := 9) (.one false 0 (.one false 1 (.one false 2 (.only 3 (.one false 4 (.one false 5 (.one false 6 (.one false 7 (.one false 8 (.one false 9 (.one false 10 (.one false 11 (.one false 12 (.only 13 (.one false 14 (.one false 15 .done)))))))))))))))) mixed (by decide +kernel) (by decide +kernel) ?_) | fail)
                | none =>
                  by_cases q2 : 0 ≤ ids.getD k 0 ∧ ids.getD k 0 ≤ 2147483647
                  · rw [decide_eq_true q2] at hi
                    rw [decide_eq_false (fun q => hok (.inr ⟨hlk, q2, q.1, q.2⟩))] at hf
                    repeat' (first | simp only [go_sem, hs, hb, hlk, Ret_eq Try.results94] | simp (disch := omega) only [arith, IntKind.bits, capMax, fill_len, elt_fill] | refine RetO_calc Try.results94 ?_ | (refine awpI_draw2 (id := 9) (.one false 0 (.one false 1 (.one false 2 (.only 3 (.one false 4 (.one false 5 (.one false 6 (.one false 7 (.one false 8 (.one false 9 (.one false 10 (.one false 11 (.one false 12 (.only 13 (.one false 14 (.one false 15 .done)))))))))))))))) mixed (by decide +kernel) (by decide +kernel) ?_) | (refine opCallI_rd (by simp only [go_sem, hs, hb, hlk, Ret_eq Try.results94]; first | done | rfl) (hi) (by rintro _ rfl; rfl) ?_; rintro _ rfl) | (refine opCallI_rd (by simp only [go_sem, hs, hb, hlk, Ret_eq Try.results94]; first | done | rfl) (hf) (by rintro _ rfl; rfl) ?_; rintro _ rfl) | fail)
                  · rw [decide_eq_false q2] at hi
                    repeat' (first | simp only [go_sem, hs, hb, hlk, Ret_eq Try.results94] | simp (disch := omega) only [arith, IntKind.bits, capMax, fill_len, elt_fill] | refine RetO_calc Try.results94 ?_ | (refine awpI_draw2 (id := 9) (.one false 0 (.one false 1 (.one false 2 (.only 3 (.one false 4 (.one false 5 (.one false 6 (.one false 7 (.one false 8 (.one false 9 (.one false 10 (.one false 11 (.one false 12 (.only 13 (.one false 14 (.one false 15 .done)))))))))))))))) mixed (by decide +kernel) (by decide +kernel) ?_) | (refine opCallI_rd (by simp only [go_sem, hs, hb, hlk, Ret_eq Try.results94]; first | done | rfl) (hi) (by rintro _ rfl; rfl) ?_; rintro _ rfl) | fail)
          · obtain rfl : k = ids.length := by omega
            exact absurd ⟨h1, h2, h3, hQ⟩ h
      · have hb : ((((vecs.length : Nat) : Int)) == ((ids.length : Nat) : Int)) = false := beq_eq_false_iff_ne.2 (by omega)
        repeat' (first | simp only [go_sem, hb, Ret_eq Try.results94] | simp (disch := omega) only [arith, IntKind.bits, capMax, fill_len, elt_fill] | refine RetO_calc Try.results94 ?_ | (refine opCallI_rd (by simp only [go_sem, hb, Ret_eq Try.results94]; first | done | rfl) (hw1) (by rintro _ rfl; rfl) ?_; rintro _ rfl) | (refine opCallI_rd (by simp only [go_sem, hb, Ret_eq Try.results94]; first | done | rfl) (hw2) (by rintro _ rfl; rfl) ?_; rintro _ rfl) | fail)
    · rw [decide_eq_false (by omega)] at hw2
      repeat' (first | simp only [go_sem, Ret_eq Try.results94] | refine RetO_calc Try.results94 ?_ | (refine opCallI_rd (by simp only [go_sem, Ret_eq Try.results94]; first | done | rfl) (hw1) (by rintro _ rfl; rfl) ?_; rintro _ rfl) | (refine opCallI_rd (by simp only [go_sem, Ret_eq Try.results94]; first | done | rfl) (hw2) (by rintro _ rfl; rfl) ?_; rintro _ rfl) | fail)
  · rw [decide_eq_false h1] at hw1
    repeat' (first | simp only [go_sem, Ret_eq Try.results94] | refine RetO_calc Try.results94 ?_ | (refine opCallI_rd (by simp only [go_sem, Ret_eq Try.results94]; first | done | rfl) (hw1) (by rintro _ rfl; rfl) ?_; rintro _ rfl) | fail)

theorem slotsCheck_fun (dim : Int) (ids : List Int) (vecs : List (List Int)) : Fun Try.prog 41 [slotsD dim ids vecs] fun r => r = .v (.int .i64 (slotsErr dim ids vecs)) := by
  refine Fun.of_awpI Try.func41 rfl cal41 Try.ntmps41 (by simp) fun hwf => ?_
  simp only [D.wfs, D.wf, ints_length, ints_wfs, rows_length, rows_wfs, capMax, and_true, true_and] at hwf
  unfold slotsErr
  by_cases h : slotsOk dim ids vecs
  · rw [if_pos h]
    have hd := dir_ok dim ids vecs h
    repeat' (first | simp only [go_sem, Ret_eq Try.results41] | (refine opCallI_ownGv (by simp only [go_sem, Ret_eq Try.results41]; first | done | rfl) (hd) ?_; rintro _ _ ⟨rfl, rfl⟩) | fail)
  · rw [if_neg h]
    have hd := dir_bad dim ids vecs h
    repeat' (first | simp only [go_sem, Ret_eq Try.results41] | (refine opCallI_ownGv (by simp only [go_sem, Ret_eq Try.results41]; first | done | rfl) (hd) ?_; rintro _ _ ⟨rfl, rfl⟩) | fail)
end Go.Proofs.Ytpkampecmlpfmaa.T

end
section
set_option linter.unusedSimpArgs false
set_option linter.unusedVariables false
/- Slots with one put or taken out, plainly. -/
namespace Go.Proofs.Ytpkampecmlpfmaa.T
open Go Go.VL Go.Proofs
theorem getDset {α : Type} {l : List α} {i j : Nat} {x d : α} (h : i < l.length) : (l.set j x).getD i d = if i = j then x else l.getD i d := by
  by_cases e : i = j
  · subst e; rw [if_pos rfl]; simp [List.getD, h]
  · rw [if_neg e]; simp only [List.getD]; rw [List.getElem?_set_ne (fun q => e q.symm)]
theorem look_set {a b d : Int} : ∀ l, lookN a (setN b d l) = if a = b then some d else lookN a l
  | [] => by simp only [setN, lookN]
  | (c, e) :: r => by
    have ih := look_set (a := a) (b := b) (d := d) r
    simp only [setN]
    by_cases h : b = c
    · rw [if_pos h]; simp only [lookN]; subst h; split <;> rfl
    · rw [if_neg h]; simp only [lookN]; rw [ih]
      by_cases h1 : a = c
      · rw [if_pos h1, if_pos h1, if_neg (fun q => h (by rw [← q, h1]))]
      · rw [if_neg h1, if_neg h1]
theorem dir_none {ids : List Int} {a : Int} : ∀ k, lookN a (dirN ids k) = none ↔ ∀ j, j < k → ids.getD j 0 = a → a = -1
  | 0 => ⟨fun _ j hj => absurd hj (Nat.not_lt_zero _), fun _ => rfl⟩
  | k + 1 => by
    have ih := dir_none (ids := ids) (a := a) k
    rw [dirN]
    by_cases h : ids.getD k 0 = -1
    · rw [if_pos h, ih]
      constructor
      · intro q j hj e
        by_cases hk : j < k
        · exact q j hk e
        · obtain rfl : j = k := by omega
          rw [← e, h]
      · exact fun q j hj => q j (by omega)
    · rw [if_neg h, look_set]
      by_cases h2 : a = ids.getD k 0
      · rw [if_pos h2]
        constructor
        · intro q; cases q
        · intro q; exact absurd (q k (by omega) h2.symm) (by rw [h2]; exact h)
      · rw [if_neg h2, ih]
        constructor
        · intro q j hj e
          by_cases hk : j < k
          · exact q j hk e
          · obtain rfl : j = k := by omega
            exact absurd e.symm h2
        · exact fun q j hj => q j (by omega)
theorem dir_some {ids : List Int} {a x : Int} : ∀ k, lookN a (dirN ids k) = some x → ∃ j : Nat, j < k ∧ x = j ∧ ids.getD j 0 = a ∧ a ≠ -1
  | 0 => fun h => by simp [dirN, lookN] at h
  | k + 1 => by
    have ih := dir_some (ids := ids) (a := a) (x := x) k
    rw [dirN]
    by_cases h : ids.getD k 0 = -1
    · rw [if_pos h]
      intro q
      obtain ⟨j, h1, h2⟩ := ih q
      exact ⟨j, by omega, h2⟩
    · rw [if_neg h, look_set]
      by_cases h2 : a = ids.getD k 0
      · rw [if_pos h2]
        intro q
        cases q
        exact ⟨k, by omega, rfl, h2.symm, by rw [h2]; exact h⟩
      · rw [if_neg h2]
        intro q
        obtain ⟨j, h1, h2⟩ := ih q
        exact ⟨j, by omega, h2⟩
theorem slots_set {dim : Int} {ids : List Int} {vecs : List (List Int)} {i : Nat} {id : Int} {v : List Int} (h : slotsOk dim ids vecs) (hi : i < ids.length)
    (hne : ∀ j, j < ids.length → j ≠ i → ids.getD j 0 = id → id = -1)
    (hn : (id = -1 ∧ v = []) ∨ ((0 ≤ id ∧ id ≤ 2147483647) ∧ vecErr v = 0 ∧ (v.length : Int) = dim)) : slotsOk dim (ids.set i id) (vecs.set i v) := by
  obtain ⟨h1, h2, h3, h4⟩ := h
  refine ⟨h1, by rw [List.length_set]; exact h2, by rw [List.length_set, List.length_set]; exact h3, ?_⟩
  intro k hk
  rw [List.length_set] at hk
  unfold slotOk
  have ev : (vecs.set i v).getD k [] = if k = i then v else vecs.getD k [] := getDset (by omega)
  have ei : (ids.set i id).getD k 0 = if k = i then id else ids.getD k 0 := getDset hk
  rw [ev, ei]
  by_cases hki : k = i
  · subst hki
    rw [if_pos rfl, if_pos rfl]
    rcases hn with ⟨n1, n2⟩ | ⟨n1, n2, n3⟩
    · exact .inl ⟨n1, by rw [n2]; rfl⟩
    · refine .inr ⟨(dir_none k).2 fun j hj e => ?_, n1, n2, n3⟩
      rw [getDset (by omega), if_neg (by omega)] at e
      exact hne j (by omega) (by omega) e
  · rw [if_neg hki, if_neg hki]
    rcases h4 k hk with q | ⟨q1, q2, q3, q4⟩
    · exact .inl q
    · refine .inr ⟨(dir_none k).2 fun j hj e => ?_, q2, q3, q4⟩
      rw [getDset (by omega)] at e
      by_cases hji : j = i
      · rw [if_pos hji] at e
        have := hne k hk hki e.symm
        omega
      · rw [if_neg hji] at e
        exact (dir_none k).1 q1 j hj e
theorem slots_ids {dim : Int} {ids : List Int} {vecs : List (List Int)} (h : slotsOk dim ids vecs) {i j : Nat} (hij : i < j) (hj : j < ids.length) (e : ids.getD i 0 = ids.getD j 0) : ids.getD j 0 = -1 := by
  rcases h.2.2.2 j hj with ⟨q, _⟩ | ⟨q, _⟩
  · exact q
  · exact (dir_none j).1 q i hij e
/-- The first place of a number; -1: none. -/
def idxI (l : List Int) (a : Int) : Int := match l.findIdx? (· == a) with | some i => i | none => -1
theorem idx_hit {l : List Int} {a : Int} {k : Nat} (hk : k < l.length) (h : l.getD k 0 = a) (hn : ∀ j, j < k → l.getD j 0 ≠ a) : idxI l a = k := by
  have : l.findIdx? (· == a) = some k := by
    rw [List.findIdx?_eq_some_iff_getElem]
    refine ⟨hk, ?_, fun j hj => ?_⟩
    · rw [← h]; simp [List.getD, hk]
    · have := hn j hj
      simp only [List.getD, List.getElem?_eq_getElem (show j < l.length by omega), Option.getD_some] at this
      simpa using this
  unfold idxI; rw [this]
theorem idx_miss {l : List Int} {a : Int} (hn : ∀ j, j < l.length → l.getD j 0 ≠ a) : idxI l a = -1 := by
  have : l.findIdx? (· == a) = none := by
    rw [List.findIdx?_eq_none_iff]
    intro x hx
    obtain ⟨j, hj, rfl⟩ := List.mem_iff_getElem.1 hx
    have := hn j hj
    simp only [List.getD, List.getElem?_eq_getElem hj, Option.getD_some] at this
    simpa using this
  unfold idxI; rw [this]
theorem idx_cases (l : List Int) (a : Int) : (∃ k : Nat, k < l.length ∧ idxI l a = k ∧ l.getD k 0 = a ∧ ∀ j, j < k → l.getD j 0 ≠ a) ∨ (idxI l a = -1 ∧ ∀ j, j < l.length → l.getD j 0 ≠ a) := by
  by_cases h : ∃ k, k < l.length ∧ l.getD k 0 = a
  · left
    have : ∃ k, (k < l.length ∧ l.getD k 0 = a) ∧ ∀ j, j < k → ¬ (j < l.length ∧ l.getD j 0 = a) := by
      obtain ⟨k, hk⟩ := h
      induction k using Nat.strongRecOn with
      | _ k ih =>
        by_cases q : ∃ j, j < k ∧ (j < l.length ∧ l.getD j 0 = a)
        · obtain ⟨j, hj, hj2⟩ := q
          exact ih j hj hj2
        · exact ⟨k, hk, fun j hj e => q ⟨j, hj, e⟩⟩
    obtain ⟨k, ⟨h1, h2⟩, h3⟩ := this
    have h4 : ∀ j, j < k → l.getD j 0 ≠ a := fun j hj e => h3 j hj ⟨by omega, e⟩
    exact ⟨k, h1, idx_hit h1 h2 h4, h2, h4⟩
  · right
    have h4 : ∀ j, j < l.length → l.getD j 0 ≠ a := fun j hj e => h ⟨j, hj, e⟩
    exact ⟨idx_miss h4, h4⟩
def idOk (id : Int) : Prop := 0 ≤ id ∧ id ≤ 2147483647
instance (id : Int) : Decidable (idOk id) := by unfold idOk; infer_instance
def dirAt (ids : List Int) (id : Int) : Option Int := lookN id (dirN ids ids.length)
def findE (dim : Int) (ids : List Int) (vecs : List (List Int)) (id : Int) : Int := if slotsOk dim ids vecs ∧ idOk id then (if (dirAt ids id).isSome then 0 else 5) else 1
def findI (dim : Int) (ids : List Int) (vecs : List (List Int)) (id : Int) : Int := if slotsOk dim ids vecs ∧ idOk id then (dirAt ids id).getD 0 else 0
def putE (dim : Int) (ids : List Int) (vecs : List (List Int)) (id : Int) (v : List Int) : Int :=
  if findE dim ids vecs id = 1 ∨ ¬ (vecErr v = 0 ∧ (v.length : Int) = dim) then 1 else if findE dim ids vecs id = 5 ∧ idxI ids (-1) < 0 then 7 else 0
def putI (dim : Int) (ids : List Int) (vecs : List (List Int)) (id : Int) (v : List Int) : Int :=
  if putE dim ids vecs id v = 0 then (if findE dim ids vecs id = 5 then idxI ids (-1) else findI dim ids vecs id) else 0
theorem find_zero {dim : Int} {ids : List Int} {vecs : List (List Int)} {id : Int} (h : findE dim ids vecs id = 0) :
    slotsOk dim ids vecs ∧ idOk id ∧ ∃ j : Nat, j < ids.length ∧ findI dim ids vecs id = j ∧ ids.getD j 0 = id := by
  unfold findE at h
  split at h
  · rename_i ok
    split at h
    · rename_i s
      obtain ⟨x, hx⟩ := Option.isSome_iff_exists.1 s
      obtain ⟨j, h1, h2, h3, _⟩ := dir_some _ hx
      refine ⟨ok.1, ok.2, j, h1, ?_, h3⟩
      unfold findI
      rw [if_pos ok, hx, ← h2]; rfl
    · cases h
  · cases h
theorem find_five {dim : Int} {ids : List Int} {vecs : List (List Int)} {id : Int} (h : findE dim ids vecs id = 5) :
    slotsOk dim ids vecs ∧ idOk id ∧ ∀ j, j < ids.length → ids.getD j 0 ≠ id := by
  unfold findE at h
  split at h
  · rename_i ok
    split at h
    · cases h
    · rename_i s
      have hn : dirAt ids id = none := by
        cases e : dirAt ids id with
        | none => rfl
        | some x => rw [e] at s; exact absurd rfl s
      refine ⟨ok.1, ok.2, fun j hj e => ?_⟩
      have := (dir_none _).1 hn j hj e
      have := ok.2.1
      omega
  · cases h
theorem find_cases (dim : Int) (ids : List Int) (vecs : List (List Int)) (id : Int) : findE dim ids vecs id = 0 ∨ findE dim ids vecs id = 1 ∨ findE dim ids vecs id = 5 := by
  unfold findE; split
  · split
    · exact .inl rfl
    · exact .inr (.inr rfl)
  · exact .inr (.inl rfl)
/-- What is put comes into a slot, and the slots may be. -/
theorem put_zero {dim : Int} {ids : List Int} {vecs : List (List Int)} {id : Int} {v : List Int} (h : putE dim ids vecs id v = 0) :
    slotsOk dim ids vecs ∧ idOk id ∧ ∃ i : Nat, i < ids.length ∧ putI dim ids vecs id v = i ∧ slotsOk dim (ids.set i id) (vecs.set i v) ∧ (ids.getD i 0 = id ∨ ids.getD i 0 = -1 ∧ ∀ j, j < ids.length → ids.getD j 0 ≠ id) := by
  have h0 := h
  unfold putE at h
  split at h
  · cases h
  · rename_i n1
    split at h
    · cases h
    · rename_i n2
      have hv : vecErr v = 0 ∧ (v.length : Int) = dim := by
        by_cases q : vecErr v = 0 ∧ (v.length : Int) = dim
        · exact q
        · exact absurd (.inr q) n1
      rcases find_cases dim ids vecs id with f | f | f
      · obtain ⟨s1, s2, j, j1, j2, j3⟩ := find_zero f
        refine ⟨s1, s2, j, j1, ?_, slots_set s1 j1 (fun k hk hkj e => ?_) (.inr ⟨s2, hv⟩), .inl j3⟩
        · unfold putI; rw [if_pos h0, if_neg (by rw [f]; decide), j2]
        · by_cases q : k < j
          · rw [← j3]; exact slots_ids s1 q j1 (by rw [e, j3])
          · rw [← e]; exact slots_ids s1 (show j < k by omega) hk (by rw [e, j3])
      · exact absurd (.inl f) n1
      · obtain ⟨s1, s2, s3⟩ := find_five f
        rcases idx_cases ids (-1) with ⟨k, k1, k2, k3, k4⟩ | ⟨k1, k2⟩
        · refine ⟨s1, s2, k, k1, ?_, slots_set s1 k1 (fun j hj _ e => absurd e (s3 j hj)) (.inr ⟨s2, hv⟩), .inr ⟨k3, s3⟩⟩
          unfold putI; rw [if_pos h0, if_pos f, k2]
        · exact absurd ⟨f, by rw [k1]; decide⟩ n2
theorem find_at {dim : Int} {ids : List Int} {vecs : List (List Int)} {i : Nat} {id : Int} (hs : slotsOk dim ids vecs) (hid : idOk id) (hi : i < ids.length) (e : ids.getD i 0 = id) : findE dim ids vecs id = 0 ∧ findI dim ids vecs id = i := by
  unfold findE findI
  have ok : slotsOk dim ids vecs ∧ idOk id := ⟨hs, hid⟩
  rw [if_pos ok, if_pos ok]
  cases hd : dirAt ids id with
  | none =>
    have := (dir_none _).1 hd i hi e
    have := hid.1
    omega
  | some x =>
    obtain ⟨j, h1, h2, h3, h4⟩ := dir_some _ hd
    refine ⟨rfl, ?_⟩
    show x = i
    rw [h2]
    by_cases q : i < j
    · exact absurd (slots_ids hs q h1 (by rw [e, h3])) (by rw [h3]; exact h4)
    · by_cases q2 : j < i
      · exact absurd (slots_ids hs q2 hi (by rw [e, h3])) (by rw [e]; exact h4)
      · have : i = j := by omega
        rw [this]
end Go.Proofs.Ytpkampecmlpfmaa.T

end
section
set_option linter.unusedSimpArgs false
set_option linter.unusedVariables false
/- Slots with one put or taken out, walked. -/
namespace Go.Proofs.Ytpkampecmlpfmaa.T
open Go Go.VL Go.Proofs
set_option maxRecDepth 100000
set_option maxHeartbeats 4000000

theorem clone16p_fun (v : List Int) (hb : v.length ≤ 500) : Fun Try.prog 129 [.lst (ints .i16 v)] fun r => r = .lst (ints .i16 v) := by
  by_cases h : 1 ≤ v.length
  · refine (clone16_fun v hb h).toFun ?_
    rintro _ _ ⟨rfl, rfl⟩
    refine ⟨by simp only [go_sem, Ret_eq Try.results129], by simp only [go_sem, Ret_eq Try.results129], ?_⟩
    simp only [go_sem, Ret_eq Try.results129]
  · obtain rfl : v = [] := List.length_eq_zero_iff.1 (by omega)
    refine Fun.of_awpI Try.func129 rfl cal129 Try.ntmps129 (by simp) fun hwf => ?_
    simp only [D.wfs, D.wf, ints_length, ints_wfs, rows_length, rows_wfs, capMax, and_true, true_and] at hwf
    simp only [go_sem, Ret_eq Try.results129]
    refine opBinI_isNil (by simp only [factsT46]) fun c hc => ?_
    simp only [go_sem, Ret_eq Try.results129]
    refine condI_split (fun h => ?_) (fun h => ?_)
    · repeat' (first | simp only [go_sem, h, Ret_eq Try.results129] | fail)
    · repeat' (first | simp only [go_sem, h, frzStep, Ret_eq Try.results129] | fail)

theorem clone64_fun (l : List Int) (hb : l.length ≤ 500) (h : 1 ≤ l.length) : FunO Try.prog 141 [.lst (ints .i64 l)] fun r o => r = .ref 0 l.length ∧ o = some ⟨2, 1, ints .i64 l⟩ := by
  refine FunO.of_awpI Try.func141 rfl cal141 Try.ntmps141 (by simp) fun hwf => ?_
  simp only [D.wfs, D.wf, ints_length, ints_wfs, rows_length, rows_wfs, capMax, and_true, true_and] at hwf
  simp only [go_sem, Ret_eq Try.results141]
  refine opBinI_isNil (by simp only [go_sem]) fun c hc => ?_
  rw [ints_isNil] at hc
  simp only [go_sem, Ret_eq Try.results141]
  refine condI_split (fun h => ?_) (fun h => ?_)
  · have hb := hc h
    subst hb
    simp at h
  · repeat' (first | simp only [go_sem, h, Ret_eq Try.results141] | simp (disch := omega) only [arith, IntKind.bits, capMax, fill_len, elt_fill] | refine RetO_calc Try.results141 ?_ | fail)

theorem cloneVecs_fun (l : List (List Int)) (hb : l.length ≤ 500) (h : 1 ≤ l.length) : FunO Try.prog 142 [.lst (rows .i16 l)] fun r o => r = .ref 0 l.length ∧ o = some ⟨46, 1, rows .i16 l⟩ := by
  refine FunO.of_awpI Try.func142 rfl cal142 Try.ntmps142 (by simp) fun hwf => ?_
  simp only [D.wfs, D.wf, ints_length, ints_wfs, rows_length, rows_wfs, capMax, and_true, true_and] at hwf
  simp only [go_sem, Ret_eq Try.results142]
  refine opBinI_isNil (by simp only [go_sem]) fun c hc => ?_
  rw [rows_isNil] at hc
  simp only [go_sem, Ret_eq Try.results142]
  refine condI_split (fun h => ?_) (fun h => ?_)
  · have hb := hc h
    subst hb
    simp at h
  · repeat' (first | simp only [go_sem, h, Ret_eq Try.results142] | simp (disch := omega) only [arith, IntKind.bits, capMax, fill_len, elt_fill] | refine RetO_calc Try.results142 ?_ | fail)

theorem index64_fun (l : List Int) (a : Int) : Fun Try.prog 97 [.lst (ints .i64 l), .v (.int .i64 a)] fun r => r = .v (.int .i64 (idxI l a)) := by
  refine Fun.of_awpI Try.func97 rfl cal97 Try.ntmps97 (by simp) fun hwf => ?_
  simp only [D.wfs, D.wf, ints_length, ints_wfs, rows_length, rows_wfs, capMax, and_true, true_and] at hwf
  repeat' (first | simp only [go_sem, Ret_eq Try.results97] | fail)
  refine awpI_for l.length (fun k => ∀ i, i < k → l.getD i 0 ≠ a) (fun k => [(8, .v (.int .i64 k))]) (fun _ => []) [0, 1, 7] [] _ (Weak.refl _) (fun i hi => absurd hi (Nat.not_lt_zero _)) ?_ ?_ ?_
  · simp only [go_sem, Ret_eq Try.results97]
  · simp only [go_sem, Ret_eq Try.results97]
  · intro k s hk hQ hs
    simp only [go_sem, Ret_eq Try.results97] at hs
    by_cases hka : k < l.length
    · by_cases q : l.getD k 0 = a
      · rw [idx_hit hka q hQ]
        have hb : (a == l.getD k 0) = true := by rw [q]; exact beq_self_eq_true a
        repeat' (first | simp only [go_sem, hs, hb, q, beq_self_eq_true, Ret_eq Try.results97] | simp (disch := omega) only [arith, IntKind.bits, capMax, fill_len, elt_fill] | fail)
      · have hb : (a == l.getD k 0) = false := beq_eq_false_iff_ne.2 (Ne.symm q)
        have hb2 : (l.getD k 0 == a) = false := beq_eq_false_iff_ne.2 q
        repeat' (first | simp only [go_sem, hs, hb, hb2, Ret_eq Try.results97] | simp (disch := omega) only [arith, IntKind.bits, capMax, fill_len, elt_fill] | (refine Again.up (by omega) ?_ ?_) | fail)
        intro i hi
        by_cases e : i < k
        · exact hQ i e
        · obtain rfl : i = k := by omega
          exact q
    · obtain rfl : k = l.length := by omega
      rw [idx_miss hQ]
      repeat' (first | simp only [go_sem, hs, Ret_eq Try.results97] | simp (disch := omega) only [arith, IntKind.bits, capMax, fill_len, elt_fill] | fail)
theorem row_same {l : List (List Int)} {i : Nat} (h : i < l.length) : l.set i (l.getD i []) = l := by
  have : l.getD i [] = l[i] := by simp [List.getD, h]
  rw [this]; exact List.set_getElem_self h

theorem with_fun (dim : Int) (ids : List Int) (vecs : List (List Int)) (i : Nat) (id : Int) (v : List Int) (h1 : 1 ≤ ids.length) (hl : ids.length ≤ 500) (h2 : vecs.length = ids.length) (hv : ∀ x ∈ vecs, x.length ≤ 500) (hv2 : v.length ≤ 500) (hi : i < ids.length) :
    Fun Try.prog 98 [slotsD dim ids vecs, .v (.int .i64 i), .v (.int .i64 id), .lst (ints .i16 v)] fun r => r = slotsD dim (ids.set i id) (vecs.set i v) := by
  refine Fun.of_awpI Try.func98 rfl cal98 Try.ntmps98 (by simp) fun hwf => ?_
  simp only [D.wfs, D.wf, ints_length, ints_wfs, rows_length, rows_wfs, capMax, and_true, true_and] at hwf
  have c1 := clone64_fun ids hl h1
  have c2 := cloneVecs_fun vecs (by omega) (by omega)
  have c3 := clone16p_fun v hv2
  repeat' (first | simp only [go_sem, Ret_eq Try.results98] | (refine awpI_draw2 (id := 1) (.one false 0 (.one false 1 (.cal 3 [2] (.cal 4 [2] (.only 2 (.cal 6 [5] (.only 5 (.only 7 (.one false 8 (.only 9 .done)))))))))) mixed (by decide +kernel) (by decide +kernel) ?_) | (refine opCallI_ownGv (by simp only [go_sem, Ret_eq Try.results98]; first | done | rfl) (c1) ?_; rintro _ _ ⟨rfl, rfl⟩) | (refine opCallI_ownGv (by simp only [go_sem, Ret_eq Try.results98]; first | done | rfl) (c2) ?_; rintro _ _ ⟨rfl, rfl⟩) | fail)
  refine awpI_for vecs.length (fun k => True) (fun k => [(22, .v (.int .i64 k))]) (fun k => [(16, ⟨46, 1, rows .i16 vecs⟩)]) [1, 2, 3, 4, 8, 20, 21] [4, 13, 8] _ (Weak.refl _) trivial ?_ ?_ ?_
  · simp only [go_sem, Ret_eq Try.results98]
  · simp only [go_sem, Ret_eq Try.results98]
  · intro k s hk _ hs
    simp only [go_sem, Ret_eq Try.results98] at hs
    by_cases hka : k < vecs.length
    · have c4 := clone16p_fun (vecs.getD k []) (hv _ (getD_mem (d := []) hka))
      have hsm := row_same (l := vecs) hka
      repeat' (first | simp only [go_sem, hs, hsm, Ret_eq Try.results98] | simp (disch := omega) only [arith, IntKind.bits, capMax, fill_len, elt_fill] | (refine awpI_draw2 (id := 5) (.one false 3 (.cal 0 [4] (.cal 1 [4] (.cal 2 [4] (.only 4 (.one false 5 (.only 6 .done))))))) mixed (by decide +kernel) (by decide +kernel) ?_) | (refine Again.up (by omega) ?_ ?_) | (refine opCallI_gv (by simp only [go_sem, hs, hsm, Ret_eq Try.results98]; first | done | rfl) (c4) ?_; rintro _ rfl) | fail)
    · obtain rfl : k = vecs.length := by omega
      have tk1 : (ids.set i id).take ids.length = ids.set i id := List.take_of_length_le (by simp)
      have tk2 : (vecs.set i v).take vecs.length = vecs.set i v := List.take_of_length_le (by simp)
      repeat' (first | simp only [go_sem, hs, List.length_set, tk1, tk2, Ret_eq Try.results98] | simp (disch := omega) only [arith, IntKind.bits, capMax, fill_len, elt_fill] | (refine awpI_draw2 (id := 7) (.one false 7 (.cal 0 [8] (.cal 1 [8] (.cal 2 [8] (.cal 6 [8] (.one true 5 (.two 3 8 (.two 4 8 (.only 8 (.one false 9 (.only 10 (.one false 11 (.only 12 .done))))) (.one false 9 (.cal 4 [10] (.only 10 (.one false 11 (.only 12 .done)))))) (.one false 9 (.cal 3 [10] (.cal 4 [10] (.only 10 (.one false 11 (.only 12 .done))))))))))))) mixed (by decide +kernel) (by decide +kernel) ?_) | (refine sch2I_two ?_ ?_) | (refine opCallI_gv (by simp only [go_sem, hs, List.length_set, tk1, tk2, Ret_eq Try.results98]; first | done | rfl) (c3) ?_; rintro _ rfl) | fail)

theorem find_fun (dim : Int) (ids : List Int) (vecs : List (List Int)) (id : Int) : Fun Try.prog 33 [slotsD dim ids vecs, .v (.int .i64 id)] fun r => r = .tup [.v (.int .i64 (findI dim ids vecs id)), .v (.int .i64 (findE dim ids vecs id))] := by
  refine Fun.of_awpI Try.func33 rfl cal33 Try.ntmps33 (by simp) fun hwf => ?_
  simp only [D.wfs, D.wf, ints_length, ints_wfs, rows_length, rows_wfs, capMax, and_true, true_and] at hwf
  have hi := isId_fun id
  by_cases h : slotsOk dim ids vecs
  · have hd := dir_ok dim ids vecs h
    by_cases h2 : idOk id
    · have h2' : 0 ≤ id ∧ id ≤ 2147483647 := h2
      rw [decide_eq_true h2'] at hi
      unfold findI findE
      rw [if_pos ⟨h, h2⟩, if_pos ⟨h, h2⟩]
      unfold dirAt
      cases hlk : lookN id (dirN ids ids.length) with
      | none =>
        repeat' (first | simp only [go_sem, hlk, Ret_eq Try.results33] | (refine opCallI_ownGv (by simp only [go_sem, hlk, Ret_eq Try.results33]; first | done | rfl) (hd) ?_; rintro _ _ ⟨rfl, rfl⟩) | (refine opCallI_rd (by simp only [go_sem, hlk, Ret_eq Try.results33]; first | done | rfl) (hi) (by rintro _ rfl; rfl) ?_; rintro _ rfl) | fail)
        all_goals simp
      | some x =>
        repeat' (first | simp only [go_sem, hlk, Ret_eq Try.results33] | (refine opCallI_ownGv (by simp only [go_sem, hlk, Ret_eq Try.results33]; first | done | rfl) (hd) ?_; rintro _ _ ⟨rfl, rfl⟩) | (refine opCallI_rd (by simp only [go_sem, hlk, Ret_eq Try.results33]; first | done | rfl) (hi) (by rintro _ rfl; rfl) ?_; rintro _ rfl) | fail)
        all_goals simp
    · have h2' : ¬ (0 ≤ id ∧ id ≤ 2147483647) := h2
      rw [decide_eq_false h2'] at hi
      unfold findI findE
      rw [if_neg (fun q => h2 q.2), if_neg (fun q => h2 q.2)]
      repeat' (first | simp only [go_sem, Ret_eq Try.results33] | (refine opCallI_ownGv (by simp only [go_sem, Ret_eq Try.results33]; first | done | rfl) (hd) ?_; rintro _ _ ⟨rfl, rfl⟩) | (refine opCallI_rd (by simp only [go_sem, Ret_eq Try.results33]; first | done | rfl) (hi) (by rintro _ rfl; rfl) ?_; rintro _ rfl) | fail)
  · have hd := dir_bad dim ids vecs h
    unfold findI findE
    rw [if_neg (fun q => h q.1), if_neg (fun q => h q.1)]
    repeat' (first | simp only [go_sem, Ret_eq Try.results33] | (refine opCallI_ownGv (by simp only [go_sem, Ret_eq Try.results33]; first | done | rfl) (hd) ?_; rintro _ _ ⟨rfl, rfl⟩) | fail)
theorem put_one {dim : Int} {ids : List Int} {vecs : List (List Int)} {id : Int} {v : List Int} (h : putE dim ids vecs id v ≠ 0) (hf : findE dim ids vecs id ≠ 1) (hv : vecErr v = 0 ∧ (v.length : Int) = dim) : putE dim ids vecs id v = 7 ∧ findE dim ids vecs id = 5 ∧ idxI ids (-1) < 0 := by
  unfold putE at *
  rw [if_neg (fun q => q.elim hf (fun q => q hv))] at h ⊢
  by_cases q : findE dim ids vecs id = 5 ∧ idxI ids (-1) < 0
  · rw [if_pos q]; exact ⟨rfl, q⟩
  · rw [if_neg q] at h; exact absurd rfl h

theorem slotsPut_fun (dim : Int) (ids : List Int) (vecs : List (List Int)) (id : Int) (v : List Int) (hv : ∀ x ∈ vecs, x.length ≤ 500) (hv2 : v.length ≤ 500) :
    Fun Try.prog 34 [slotsD dim ids vecs, .v (.int .i64 id), .lst (ints .i16 v)] fun r => r = .tup [.v (.int .i64 (putI dim ids vecs id v)),
      (if putE dim ids vecs id v = 0 then slotsD dim (ids.set (putI dim ids vecs id v).toNat id) (vecs.set (putI dim ids vecs id v).toNat v) else slotsD 0 [] []), .v (.int .i64 (putE dim ids vecs id v))] := by
  have hf := find_fun dim ids vecs id
  have hfi := fits_slot_fun dim ids vecs v
  by_cases h : putE dim ids vecs id v = 0
  · obtain ⟨s1, s2, i, i1, i2, i3, i4⟩ := put_zero h
    have hvo : vecErr v = 0 ∧ (v.length : Int) = dim := by
      by_cases q : vecErr v = 0 ∧ (v.length : Int) = dim
      · exact q
      · unfold putE at h; rw [if_pos (.inr q)] at h; cases h
    rw [decide_eq_true hvo] at hfi
    rw [h, if_pos rfl]
    have hw := with_fun dim ids vecs i id v (by omega) (by have := s1.2.1; omega) s1.2.2.1 hv hv2 i1
    rcases find_cases dim ids vecs id with f | f | f
    · have e : putI dim ids vecs id v = findI dim ids vecs id := by unfold putI; rw [if_pos h, if_neg (by rw [f]; decide)]
      rw [f] at hf
      rw [e] at i2 ⊢
      rw [i2] at hf ⊢
      rw [Int.toNat_natCast]
      refine Fun.of_awpI Try.func34 rfl cal34 Try.ntmps34 (by simp) fun hwf => ?_
      simp only [D.wfs, D.wf, ints_length, ints_wfs, rows_length, rows_wfs, capMax, and_true, true_and] at hwf
      repeat' (first | simp only [go_sem, Ret_eq Try.results34] | (refine opCallI_rd (by simp only [go_sem, Ret_eq Try.results34]; first | done | rfl) (hf) (by rintro _ rfl; rfl) ?_; rintro _ rfl) | (refine opCallI_rd (by simp only [go_sem, Ret_eq Try.results34]; first | done | rfl) (hfi) (by rintro _ rfl; rfl) ?_; rintro _ rfl) | (refine opCallI_gv (by simp only [go_sem, Ret_eq Try.results34]; first | done | rfl) (hw) ?_; rintro _ rfl) | fail)
    · unfold putE at h; rw [if_pos (.inl f)] at h; cases h
    · have e : putI dim ids vecs id v = idxI ids (-1) := by unfold putI; rw [if_pos h, if_pos f]
      have hx := index64_fun ids (-1)
      rw [f] at hf
      rw [e] at i2 ⊢
      rw [i2] at hx ⊢
      rw [Int.toNat_natCast]
      refine Fun.of_awpI Try.func34 rfl cal34 Try.ntmps34 (by simp) fun hwf => ?_
      simp only [D.wfs, D.wf, ints_length, ints_wfs, rows_length, rows_wfs, capMax, and_true, true_and] at hwf
      repeat' (first | simp only [go_sem, Ret_eq Try.results34] | simp (disch := omega) only [arith, IntKind.bits, capMax, fill_len, elt_fill] | (refine opCallI_rd (by simp only [go_sem, Ret_eq Try.results34]; first | done | rfl) (hf) (by rintro _ rfl; rfl) ?_; rintro _ rfl) | (refine opCallI_rd (by simp only [go_sem, Ret_eq Try.results34]; first | done | rfl) (hfi) (by rintro _ rfl; rfl) ?_; rintro _ rfl) | (refine opCallI_rd (by simp only [go_sem, Ret_eq Try.results34]; first | done | rfl) (hx) (by rintro _ rfl; rfl) ?_; rintro _ rfl) | (refine opCallI_gv (by simp only [go_sem, Ret_eq Try.results34]; first | done | rfl) (hw) ?_; rintro _ rfl) | fail)
  · rw [if_neg h]
    have e0 : putI dim ids vecs id v = 0 := if_neg h
    rw [e0]
    by_cases f : findE dim ids vecs id = 1
    · have e1 : putE dim ids vecs id v = 1 := if_pos (.inl f)
      rw [e1]
      rw [f] at hf
      refine Fun.of_awpI Try.func34 rfl cal34 Try.ntmps34 (by simp) fun hwf => ?_
      simp only [D.wfs, D.wf, ints_length, ints_wfs, rows_length, rows_wfs, capMax, and_true, true_and] at hwf
      repeat' (first | simp only [go_sem, ints_nil, rows_nil, Ret_eq Try.results34] | (refine opCallI_rd (by simp only [go_sem, ints_nil, rows_nil, Ret_eq Try.results34]; first | done | rfl) (hf) (by rintro _ rfl; rfl) ?_; rintro _ rfl) | fail)
      all_goals rfl
    · have hfb : (findE dim ids vecs id == 1) = false := beq_eq_false_iff_ne.2 f
      by_cases hvo : vecErr v = 0 ∧ (v.length : Int) = dim
      · obtain ⟨g1, g2, g3⟩ := put_one h f hvo
        rw [decide_eq_true hvo] at hfi
        rw [g1]
        rw [g2] at hf
        have hx := index64_fun ids (-1)
        refine Fun.of_awpI Try.func34 rfl cal34 Try.ntmps34 (by simp) fun hwf => ?_
        simp only [D.wfs, D.wf, ints_length, ints_wfs, rows_length, rows_wfs, capMax, and_true, true_and] at hwf
        repeat' (first | simp only [go_sem, ints_nil, rows_nil, Ret_eq Try.results34] | simp (disch := omega) only [arith, IntKind.bits, capMax, fill_len, elt_fill] | (refine opCallI_rd (by simp only [go_sem, ints_nil, rows_nil, Ret_eq Try.results34]; first | done | rfl) (hf) (by rintro _ rfl; rfl) ?_; rintro _ rfl) | (refine opCallI_rd (by simp only [go_sem, ints_nil, rows_nil, Ret_eq Try.results34]; first | done | rfl) (hfi) (by rintro _ rfl; rfl) ?_; rintro _ rfl) | (refine opCallI_rd (by simp only [go_sem, ints_nil, rows_nil, Ret_eq Try.results34]; first | done | rfl) (hx) (by rintro _ rfl; rfl) ?_; rintro _ rfl) | fail)
        all_goals rfl
      · rw [decide_eq_false hvo] at hfi
        have e1 : putE dim ids vecs id v = 1 := if_pos (.inr hvo)
        rw [e1]
        refine Fun.of_awpI Try.func34 rfl cal34 Try.ntmps34 (by simp) fun hwf => ?_
        simp only [D.wfs, D.wf, ints_length, ints_wfs, rows_length, rows_wfs, capMax, and_true, true_and] at hwf
        repeat' (first | simp only [go_sem, hfb, ints_nil, rows_nil, Ret_eq Try.results34] | (refine opCallI_rd (by simp only [go_sem, hfb, ints_nil, rows_nil, Ret_eq Try.results34]; first | done | rfl) (hf) (by rintro _ rfl; rfl) ?_; rintro _ rfl) | (refine opCallI_rd (by simp only [go_sem, hfb, ints_nil, rows_nil, Ret_eq Try.results34]; first | done | rfl) (hfi) (by rintro _ rfl; rfl) ?_; rintro _ rfl) | fail)
        all_goals rfl

theorem slotsDel_fun (dim : Int) (ids : List Int) (vecs : List (List Int)) (id : Int) (hv : ∀ x ∈ vecs, x.length ≤ 500) :
    Fun Try.prog 37 [slotsD dim ids vecs, .v (.int .i64 id)] fun r => r = .tup [.v (.int .i64 (findI dim ids vecs id)),
      (if findE dim ids vecs id = 0 then slotsD dim (ids.set (findI dim ids vecs id).toNat (-1)) (vecs.set (findI dim ids vecs id).toNat []) else slotsD 0 [] []), .v (.int .i64 (findE dim ids vecs id))] := by
  have hf := find_fun dim ids vecs id
  by_cases h : findE dim ids vecs id = 0
  · obtain ⟨s1, s2, i, i1, i2, i3⟩ := find_zero h
    rw [h] at hf
    rw [i2] at hf
    rw [h, i2, if_pos rfl, Int.toNat_natCast]
    have hw : Fun Try.prog 98 [slotsD dim ids vecs, .v (.int .i64 i), .v (.int .i64 (-1)), .lst []] _ := with_fun dim ids vecs i (-1) [] (by omega) (by have := s1.2.1; omega) s1.2.2.1 hv (by decide) i1
    refine Fun.of_awpI Try.func37 rfl cal37 Try.ntmps37 (by simp) fun hwf => ?_
    simp only [D.wfs, D.wf, ints_length, ints_wfs, rows_length, rows_wfs, capMax, and_true, true_and] at hwf
    repeat' (first | simp only [go_sem, beq_self_eq_true, Ret_eq Try.results37] | (refine opCallI_rd (by simp only [go_sem, beq_self_eq_true, Ret_eq Try.results37]; first | done | rfl) (hf) (by rintro _ rfl; rfl) ?_; rintro _ rfl) | (refine opCallI_gv (by simp only [go_sem, beq_self_eq_true, Ret_eq Try.results37]; first | done | rfl) (hw) ?_; rintro _ rfl) | fail)
  · rw [if_neg h]
    have hfb : (findE dim ids vecs id == 0) = false := beq_eq_false_iff_ne.2 h
    have e0 : findI dim ids vecs id = 0 := by
      unfold findI
      by_cases q : slotsOk dim ids vecs ∧ idOk id
      · unfold findE at h
        rw [if_pos q] at h ⊢
        cases e : dirAt ids id with
        | none => rfl
        | some x => rw [e] at h; exact absurd rfl h
      · rw [if_neg q]
    rw [e0] at hf ⊢
    refine Fun.of_awpI Try.func37 rfl cal37 Try.ntmps37 (by simp) fun hwf => ?_
    simp only [D.wfs, D.wf, ints_length, ints_wfs, rows_length, rows_wfs, capMax, and_true, true_and] at hwf
    repeat' (first | simp only [go_sem, hfb, ints_nil, rows_nil, Ret_eq Try.results37] | simp (disch := omega) only [arith, IntKind.bits, capMax, fill_len, elt_fill] | (refine opCallI_rd (by simp only [go_sem, hfb, ints_nil, rows_nil, Ret_eq Try.results37]; first | done | rfl) (hf) (by rintro _ rfl; rfl) ?_; rintro _ rfl) | fail)
    all_goals rfl
end Go.Proofs.Ytpkampecmlpfmaa.T

end
section
set_option linter.unusedVariables false
/- Lists of lists that are all owned, of whatever lengths. -/
namespace Go.Proofs.Ytpkampecmlpfmaa.T
open Go Go.VL Go.Proofs
def refsV (g : Nat → Nat) (m : Nat) : List D := (List.range m).map fun i => .ref (3000 + i) (g i)
theorem refsV_zero {g : Nat → Nat} : refsV g 0 = [] := rfl
theorem refsV_length {g : Nat → Nat} {m : Nat} : (refsV g m).length = m := by simp [refsV]
theorem refsV_get {g : Nat → Nat} {m i : Nat} (h : i < m) : (refsV g m)[i]? = some (.ref (3000 + i) (g i)) := by
  rw [refsV, List.getElem?_map, List.getElem?_range h]; rfl
theorem refsV_kills {g : Nat → Nat} {m id : Nat} (h : id < 3000) : D.kills id (refsV g m) = refsV g m := by
  rw [D.kills_eq_map, refsV, List.map_map]
  refine List.map_congr_left fun i _ => ?_
  simp only [Function.comp, D.kill]
  rw [if_neg (by omega)]
theorem appKills {id : Nat} {l m : List D} : D.kills id (l ++ m) = D.kills id l ++ D.kills id m := by
  rw [D.kills_eq_map, D.kills_eq_map, D.kills_eq_map, List.map_append]
theorem b3_ne {i c : Nat} (h : c < 3000) : (3000 + i = c) = False := eq_false (by omega)
theorem b3_ne' {i c : Nat} (h : c < 3000) : (c = 3000 + i) = False := eq_false (by omega)
def rowsV (e : TypeId) (n : Nat) (f : Nat → List Int) : List (Nat × Own) := (List.range n).map fun i => (3000 + i, ⟨e, 1, ints .i16 (f i)⟩)
theorem Heaps_rowsV {s : St} {e : TypeId} {n : Nat} {f : Nat → List Int} : Heaps s (rowsV e n f) = ∀ i, i < n → s.H (3000 + i) = some ⟨e, 1, ints .i16 (f i)⟩ := by
  rw [rowsV, Heaps_range]
  simp only [List.mem_range]
def lensOf (C : List (List Int)) : Nat → Nat := fun i => (C.getD i []).length
/-- A list of lists, all owned. -/
def ownV (eo ei : TypeId) (n : Nat) (C : List (List Int)) : Nat → Option Own := fun m => if m = 2000 then some ⟨eo, 1, refsV (lensOf C) n⟩ else if 3000 ≤ m ∧ m < 3000 + n then some ⟨ei, 1, ints .i16 (C.getD (m - 3000) [])⟩ else none
theorem ownV_ge {eo ei : TypeId} {n : Nat} {C : List (List Int)} : ∀ i o, ownV eo ei n C i = some o → 2000 ≤ i ∧ geTos 2000 o.els = true := by
  intro i o h
  unfold ownV at h
  by_cases h1 : i = 2000
  · rw [if_pos h1] at h; cases h
    refine ⟨by omega, ?_⟩
    have : ∀ l : List Nat, geTos 2000 (l.map fun i => D.ref (3000 + i) (lensOf C i)) = true := fun l => by
      induction l with
      | nil => rfl
      | cons x l ih => show (decide (2000 ≤ 3000 + x) && geTos 2000 _) = true; rw [ih, decide_eq_true (by omega)]; rfl
    exact this _
  · rw [if_neg h1] at h
    by_cases h2 : 3000 ≤ i ∧ i < 3000 + n
    · rw [if_pos h2] at h; cases h
      refine ⟨by omega, ?_⟩
      have : ∀ l : List Int, geTos 2000 (ints .i16 l) = true := fun l => by
        induction l with
        | nil => rfl
        | cons x l ih => exact ih
      exact this _
    · rw [if_neg h2] at h; cases h
theorem ownV_at {eo ei : TypeId} {n i : Nat} {C : List (List Int)} (h : i < n) : ownV eo ei n C (3000 + i) = some ⟨ei, 1, ints .i16 (C.getD i [])⟩ := by
  unfold ownV
  rw [if_neg (by omega), if_pos (by omega), show 3000 + i - 3000 = i by omega]
theorem ownV_out {eo ei : TypeId} {n : Nat} {C : List (List Int)} : ownV eo ei n C 2000 = some ⟨eo, 1, refsV (lensOf C) n⟩ := if_pos rfl
theorem ownV_low {eo ei : TypeId} {n m : Nat} {C : List (List Int)} (h : m < 2000) : ownV eo ei n C m = none := by
  unfold ownV
  rw [if_neg (by omega), if_neg (by omega)]
end Go.Proofs.Ytpkampecmlpfmaa.T

end
section
set_option linter.unusedSimpArgs false
set_option linter.unusedVariables false
/- Slots with one put, the lists that it gives as one's own. -/
namespace Go.Proofs.Ytpkampecmlpfmaa.T
open Go Go.VL Go.Proofs
set_option maxRecDepth 100000
set_option maxHeartbeats 8000000

theorem clone16n_fun : FunO Try.prog 129 [.lst (ints .i16 [])] fun r o => (r = .v (.slice none 0 0) ∧ o = none) ∨ (r = .ref 0 0 ∧ o = some ⟨23, 1, []⟩) := by
  refine FunO.of_awpI Try.func129 rfl cal129 Try.ntmps129 (by simp) fun hwf => ?_
  simp only [D.wfs, D.wf, ints_length, ints_wfs, rows_length, rows_wfs, capMax, and_true, true_and] at hwf
  simp only [go_sem, Ret_eq Try.results129]
  refine opBinI_isNil (by simp only [factsT46]) fun c hc => ?_
  simp only [go_sem, Ret_eq Try.results129]
  refine condI_split (fun h => ?_) (fun h => ?_)
  · repeat' (first | simp only [go_sem, h, Ret_eq Try.results129] | refine RetO_calc Try.results129 ?_ | fail)
    all_goals first | exact .inl ⟨rfl, rfl⟩ | exact .inr ⟨rfl, rfl⟩ | exact .inr trivial | skip
  · repeat' (first | simp only [go_sem, h, Ret_eq Try.results129] | refine RetO_calc Try.results129 ?_ | fail)
    all_goals first | exact .inl ⟨rfl, rfl⟩ | exact .inr ⟨rfl, rfl⟩ | exact .inr trivial | skip
theorem clone16u_fun (v : List Int) (n : Nat) (hn : v.length = n) (hb : n ≤ 500) : FunO Try.prog 129 [.lst (ints .i16 v)] fun r o => r = .ref 0 n ∧ o = some ⟨23, 1, ints .i16 v⟩ := by
  subst hn
  by_cases h : 1 ≤ v.length
  · exact clone16_fun v hb h
  · obtain rfl : v = [] := List.length_eq_zero_iff.1 (by omega)
    refine FunO.uni1 23 (S := 1) (by decide) clone16n_fun ?_
    rintro r o (⟨rfl, rfl⟩ | ⟨rfl, rfl⟩)
    · exact .inl ⟨rfl, rfl, rfl, rfl⟩
    · exact .inr ⟨rfl, rfl⟩
theorem part_len {g : Nat → Nat} {vecs : List (List Int)} {k : Nat} (h : k ≤ vecs.length) : (refsV g k ++ rows .i16 (vecs.drop k)).length = vecs.length := by
  rw [List.length_append, refsV_length, rows_length, List.length_drop]; omega
theorem part_get {g : Nat → Nat} {vecs : List (List Int)} {k : Nat} (h : k < vecs.length) : (refsV g k ++ rows .i16 (vecs.drop k))[k]? = some (.lst (ints .i16 (vecs.getD k []))) := by
  rw [List.getElem?_append_right (by rw [refsV_length]; exact Nat.le_refl _), refsV_length, Nat.sub_self, rows_get (by rw [List.length_drop]; omega)]
  simp [List.getD]
theorem part_set {g : Nat → Nat} {vecs : List (List Int)} {k : Nat} {x : D} (h : k < vecs.length) : (refsV g k ++ rows .i16 (vecs.drop k)).set k x = refsV g k ++ x :: rows .i16 (vecs.drop (k + 1)) := by
  rw [List.set_append_right _ _ (by rw [refsV_length]; exact Nat.le_refl _), refsV_length, Nat.sub_self]
  congr 1
  rw [List.drop_eq_getElem_cons h]; rfl
theorem part_kills {g : Nat → Nat} {vecs : List (List Int)} {k id : Nat} (h : id < 3000) : D.kills id (refsV g k ++ rows .i16 (vecs.drop k)) = refsV g k ++ rows .i16 (vecs.drop k) := by
  rw [appKills, refsV_kills h, D.noRef_kills _ rows_noRefs]
theorem ints_okTos {b : Nat} {e : IntKind} : ∀ {l : List Int}, okTos b (ints e l) = true
  | [] => rfl
  | _ :: l => ints_okTos (l := l)

theorem with_own (dim : Int) (ids : List Int) (vecs : List (List Int)) (i : Nat) (id : Int) (v : List Int) (h1 : 1 ≤ ids.length) (hl : ids.length ≤ 500) (h2 : vecs.length = ids.length) (hv : ∀ x ∈ vecs, x.length ≤ 500) (hv2 : v.length ≤ 500) (hi : i < ids.length) :
    FunM Try.prog 98 [slotsD dim ids vecs, .v (.int .i64 i), .v (.int .i64 id), .lst (ints .i16 v)] fun r H => r = .agg [.v (.int .i64 dim), .ref 2001 ids.length, .ref 2000 ids.length] ∧
      H = fun m => if m = 2001 then some ⟨2, 1, ints .i64 (ids.set i id)⟩ else ownV 46 23 ids.length (vecs.set i v) m := by
  have c1 := clone64_fun ids hl h1
  have c2 := cloneVecs_fun vecs (by omega) (by omega)
  refine FunM.of_awpS Try.func98 rfl cal98 Try.ntmps98 (by simp) fun hwf => ?_
  simp only [D.wfs, D.wf, ints_wfs, rows_wfs, ints_length, rows_length, and_true, true_and] at hwf
  repeat refine awpS_seq ?_
  refine awpS_last ?_
  repeat' (first | simp only [go_sem, h2, Ret_eq Try.results98] | fail)
  repeat refine awpS_seq ?_
  refine awpS_last ?_
  repeat' (first | simp only [go_sem, h2, Ret_eq Try.results98] | (refine awpI_draw2 (id := 1) (.one false 0 (.one false 1 (.cal 3 [2] (.cal 4 [2] (.only 2 (.cal 6 [5] (.only 5 (.only 7 (.one false 8 (.only 9 .done)))))))))) mixed (by decide +kernel) (by decide +kernel) ?_) | (refine opCallI_ownGv (by simp only [go_sem, h2, Ret_eq Try.results98]; first | done | rfl) (c1) ?_; rintro _ _ ⟨rfl, rfl⟩) | (refine opCallI_ownGv (by simp only [go_sem, h2, Ret_eq Try.results98]; first | done | rfl) (c2) ?_; rintro _ _ ⟨rfl, rfl⟩) | fail)
  repeat refine awpS_seq ?_
  refine awpS_last ?_
  repeat' (first | simp only [go_sem, h2, Ret_eq Try.results98] | fail)
  repeat refine awpS_seq ?_
  refine awpS_block ?_
  refine awpS_for vecs.length (fun k => True) (fun k => [(22, .v (.int .i64 k))]) (fun k => (16, ⟨46, 1, refsV (lensOf vecs) k ++ rows .i16 (vecs.drop k)⟩) :: rowsV 23 k fun i => vecs.getD i []) [1, 2, 3, 4, 8, 20, 21] [4, 13, 8] _ (Weak.refl _) trivial ?_ ?_ ?_
  · simp only [go_sem, Ret_eq Try.results98]
  · simp only [go_sem, Heaps_rowsV, refsV_zero, List.drop_zero, List.nil_append, Ret_eq Try.results98]
    exact fun i hi => absurd hi (Nat.not_lt_zero i)
  · intro k s hk _ hs
    simp only [go_sem, Heaps_rowsV, h2, Ret_eq Try.results98] at hs
    have hco := hs.2.2.1.2
    repeat refine awpS_seq ?_
    by_cases hka : k < vecs.length
    · have hpl := part_len (g := lensOf vecs) (Nat.le_of_lt hka)
      rw [h2] at hpl
      have hpg := part_get (g := lensOf vecs) hka
      have hps := fun x => part_set (g := lensOf vecs) (x := x) hka
      have hpk := fun id h => part_kills (g := lensOf vecs) (vecs := vecs) (k := k) (id := id) h
      have c4 := clone16u_fun (vecs.getD k []) (lensOf vecs k) rfl (hv _ (getD_mem (d := []) hka))
      have hki : k < ids.length := by omega
      refine awpS_last ?_
      repeat' (first | simp only [go_sem, hs, hpl, Ret_eq Try.results98] | simp (disch := omega) only [arith, IntKind.bits, capMax, fill_len, elt_fill] | fail)
      repeat refine awpS_seq ?_
      refine awpS_last ?_
      repeat' (first | simp only [go_sem, hs, hpl, Ret_eq Try.results98] | fail)
      repeat refine awpS_seq ?_
      refine awpS_block ?_
      repeat refine awpS_seq ?_
      refine awpS_last ?_
      repeat' (first | simp only [go_sem, hs, hpl, hpg, Ret_eq Try.results98] | simp (disch := omega) only [arith, IntKind.bits, capMax, fill_len, elt_fill] | fail)
      refine awpS_last ?_
      repeat' (first | simp only [go_sem, hs, hpl, hpg, hps, hpk, part_kills, refsV_kills, appKills, Ret_eq Try.results98] | simp (disch := omega) only [arith, IntKind.bits, capMax, fill_len, elt_fill] | (refine awpI_draw2 (id := 5) (.one false 3 (.cal 0 [4] (.cal 1 [4] (.cal 2 [4] (.only 4 (.one false 5 (.only 6 .done))))))) mixed (by decide +kernel) (by decide +kernel) ?_) | (refine opCallI_ownGv (by simp only [go_sem, hs, hpl, hpg, hps, hpk, part_kills, refsV_kills, appKills, Ret_eq Try.results98]; first | done | rfl) (c4) ?_; rintro _ _ ⟨rfl, rfl⟩) | fail)
      all_goals
        refine awpS_last ?_
        repeat' (first | simp only [go_sem, hs, Ret_eq Try.results98] | simp (disch := omega) only [arith, IntKind.bits, capMax, fill_len, elt_fill] | fail)
        refine AgainW.weak (k + 1) (Weak.moveRefV (ob := 16) (base := 3000) (m := k) (i0 := 31) (So := 1) (eo := 46) (R := rows .i16 (vecs.drop (k + 1))) (lensOf vecs) (fun i => ⟨23, 1, ints .i16 (vecs.getD i [])⟩) ⟨23, 1, ints .i16 (vecs.getD k [])⟩
          [(1, .v (.int .i64 i)), (2, .v (.int .i64 id)), (3, .lst (ints .i16 v)), (4, .adr 4 0 0), (8, .adr 8 0 0), (20, .ref 16 ids.length), (21, .v (.int .i64 ids.length)), (22, .v (.int .i64 ((k + 1 : Nat) : Int)))]
          [(4, ⟨45, 3, [.agg [.v (.int .i64 dim), .ref 13 ids.length, .ref 16 ids.length]]⟩), (8, ⟨45, 3, [.agg [.v (.int .i64 0), .v (.slice none 0 0), .v (.slice none 0 0)]]⟩), (13, ⟨2, 1, ints .i64 ids⟩)]
          (by decide) (by decide) (by simp only [go_sem, hs, Ret_eq Try.results98]) (by rfl) (by simp only [go_sem, hs, Ret_eq Try.results98]) (by simp only [go_sem, ints_okTos, Ret_eq Try.results98]; rfl) (by rfl) (by decide) (by simp only [go_sem, hs, Ret_eq Try.results98]; rfl) rows_noRefs
          (fun i hi => by
            have := hco i hi
            simp only [go_sem, hs, b3_ne, this, Ret_eq Try.results98]) (fun i _ => ints_noRefs) (by simp only [go_sem, hs, Ret_eq Try.results98]) ints_noRefs) (by show vecs.length - (k + 1) < vecs.length - k; omega) ⟨by omega, trivial⟩ ?_
        simp only [go_sem, Heaps_rowsV, hs, false_and, b3_ne', Ret_eq Try.results98]
        refine ⟨by rw [← List.range_succ]; rfl, fun i hi => ?_⟩
        rw [if_neg (by omega)]
        by_cases q : i < k
        · rw [if_pos (by omega), show 3000 + i - 3000 = i by omega]
        · rw [if_neg (by omega), if_pos (by omega), show i = k by omega]
    · obtain rfl : k = vecs.length := by omega
      have hdz : rows .i16 (vecs.drop vecs.length) = [] := by rw [List.drop_length]; rfl
      rw [hdz, List.append_nil] at hs
      refine awpS_last ?_
      repeat' (first | simp only [go_sem, hs, h2, Ret_eq Try.results98] | simp (disch := omega) only [arith, IntKind.bits, capMax, fill_len, elt_fill] | fail)
      repeat refine awpS_seq ?_
      refine awpS_last ?_
      repeat' (first | simp only [go_sem, hs, h2, Ret_eq Try.results98] | fail)
      repeat refine awpS_seq ?_
      have c3 := clone16u_fun v v.length rfl hv2
      have hrg := refsV_get (g := lensOf vecs) (m := ids.length) hi
      refine awpS_mono (N := fun s2 => s2.n = 46 ∧ Slots s2 [(4, .adr 4 0 0), (8, .adr 8 0 0)] ∧ Heaps s2 ((4, ⟨45, 3, [.agg [.v (.int .i64 dim), .ref 13 ids.length, .ref 16 ids.length]]⟩) :: (8, ⟨45, 3, [.agg [.v (.int .i64 0), .v (.slice none 0 0), .v (.slice none 0 0)]]⟩) :: (13, ⟨2, 1, ints .i64 (ids.set i id)⟩) :: (16, ⟨46, 1, (refsV (lensOf vecs) ids.length).set i (.ref 42 v.length)⟩) :: (42, ⟨23, 1, ints .i16 v⟩) :: rowsV 23 ids.length fun i => vecs.getD i [])) ?_ fun s2 hs2 => ?_
      · refine awpS_last ?_
        repeat' (first | simp only [go_sem, hs, h2, hrg, refsV_length, refsV_kills, Ret_eq Try.results98] | simp (disch := omega) only [arith, IntKind.bits, capMax, fill_len, elt_fill] | (refine awpI_draw2 (id := 7) (.one false 7 (.cal 0 [8] (.cal 1 [8] (.cal 2 [8] (.cal 6 [8] (.one true 5 (.two 3 8 (.two 4 8 (.only 8 (.one false 9 (.only 10 (.one false 11 (.only 12 .done))))) (.one false 9 (.cal 4 [10] (.only 10 (.one false 11 (.only 12 .done)))))) (.one false 9 (.cal 3 [10] (.cal 4 [10] (.only 10 (.one false 11 (.only 12 .done))))))))))))) mixed (by decide +kernel) (by decide +kernel) ?_) | (refine sch2I_two ?_ ?_) | (refine opCallI_ownGv (by simp only [go_sem, hs, h2, hrg, refsV_length, refsV_kills, Ret_eq Try.results98]; first | done | rfl) (c3) ?_; rintro _ _ ⟨rfl, rfl⟩) | fail)
        all_goals
          rw [Heaps_rowsV]
          intro i hi
          have := hco i (by omega)
          simp only [go_sem, hs, b3_ne, this, Ret_eq Try.results98]
      · simp only [go_sem, Heaps_rowsV, Ret_eq Try.results98] at hs2
        have hco2 := hs2.2.2.2.2.2.2.2
        refine awpS_weak (Weak.moveAt (ob := 16) (base := 3000) (n := ids.length) (i := i) (i0 := 42) (m := v.length) (So := 1) (eo := 46) (lensOf vecs) (fun i => ⟨23, 1, ints .i16 (vecs.getD i [])⟩) ⟨23, 1, ints .i16 v⟩
          [(4, .adr 4 0 0), (8, .adr 8 0 0)]
          [(4, ⟨45, 3, [.agg [.v (.int .i64 dim), .ref 13 ids.length, .ref 16 ids.length]]⟩), (8, ⟨45, 3, [.agg [.v (.int .i64 0), .v (.slice none 0 0), .v (.slice none 0 0)]]⟩), (13, ⟨2, 1, ints .i64 (ids.set i id)⟩)]
          (by decide) (by decide) (by simp only [go_sem, hs2, Ret_eq Try.results98]) (by rfl) (by simp only [go_sem, hs2, Ret_eq Try.results98]) (by simp only [go_sem, ints_okTos, Ret_eq Try.results98]; rfl) (by rfl) (by decide) (by simp only [go_sem, hs2, Ret_eq Try.results98]; rfl)
          (fun i hi => by
            have := hco2 i hi
            simp only [go_sem, hs2, this, Ret_eq Try.results98]) (fun i _ => ints_noRefs) (by simp only [go_sem, hs2, Ret_eq Try.results98]) ints_noRefs) ?_
        have hlens : ((List.range ids.length).map fun k => D.ref (3000 + k) (if k = i then v.length else lensOf vecs k)) = refsV (lensOf (vecs.set i v)) ids.length := by
          refine List.map_congr_left fun k hk => ?_
          have hk := List.mem_range.1 hk
          unfold lensOf
          rw [getDset (by omega)]
          by_cases q : k = i
          · rw [if_pos q, if_pos q]
          · rw [if_neg q, if_neg q]
        rw [hlens]
        repeat refine awpS_seq ?_
        refine awpS_last ?_
        repeat' (first | simp only [go_sem, hs2, false_and, Ret_eq Try.results98] | fail)
        refine awpS_last ?_
        repeat' (first | simp only [go_sem, hs2, false_and, Ret_eq Try.results98] | fail)
        refine RetM_calc Try.results98 (Weak.give2 (a := 13) (b := 16) (rid := 8) (So := 3) (na := ids.length) (nb := ids.length) (eb := 45) (oa := ⟨2, 1, ints .i64 (ids.set i id)⟩) (ob := ⟨46, 1, refsV (lensOf (vecs.set i v)) ids.length⟩)
            (Hx := fun m => if 3000 ≤ m ∧ m < 3000 + ids.length then some ⟨23, 1, ints .i16 ((vecs.set i v).getD (m - 3000) [])⟩ else none) [.v (.int .i64 dim)] [(8, .adr 8 0 0)]
            (by decide) (by decide) (by decide) (by decide) (by decide) (by decide) (by simp only [go_sem, Ret_eq Try.results98]) (by rfl) rfl (fun m o h => by
              by_cases q : 3000 ≤ m ∧ m < 3000 + ids.length
              · rw [if_pos q] at h; cases h
                obtain ⟨j, rfl⟩ : ∃ j, m = 3000 + j := ⟨m - 3000, by omega⟩
                refine ⟨q.1, ?_, ints_noRefs⟩
                simp only [go_sem, b3_ne, Ret_eq Try.results98]
                rw [if_pos q, show 3000 + j - 3000 = j by omega, getDset (by omega)]
                by_cases e : j = i
                · rw [if_pos (by omega), if_pos e]
                · rw [if_neg (by omega), if_neg e]
              · rw [if_neg q] at h; cases h) (by simp only [go_sem, false_and, Ret_eq Try.results98]) (by simp only [go_sem, false_and, Ret_eq Try.results98]) ints_noRefs (by simp only [go_sem, false_and, Ret_eq Try.results98]) (ToMs.range fun i _ => ToM.ref (by omega)) (ToMs.range fun i _ => ToM.ref (by omega)))
            (fun m => if m = 2001 then some ⟨2, 1, ints .i64 (ids.set i id)⟩ else ownV 46 23 ids.length (vecs.set i v) m) (ds := [.agg [.v (.int .i64 dim), .ref 2001 ids.length, .ref 2000 ids.length]]) ?_ ?_ ⟨rfl, rfl⟩
        · simp only [go_sem, resDs, resD, pickT, Ret_eq Try.results98]
          all_goals skip
        · exact fun i o h => by
            show (if i = 8 then _ else _) = some o
            rw [if_neg (by rintro rfl; rw [if_neg (by decide), ownV_low (by omega)] at h; cases h)]
            exact h
def ownS (ei ev en : TypeId) (ids : List Int) (vecs : List (List Int)) : Nat → Option Own := fun m => if m = 2001 then some ⟨ei, 1, ints .i64 ids⟩ else ownV ev en ids.length vecs m
theorem ownS_ge {ei ev en : TypeId} {ids : List Int} {vecs : List (List Int)} : ∀ i o, ownS ei ev en ids vecs i = some o → 2000 ≤ i ∧ geTos 2000 o.els = true := fun i o h => by
  unfold ownS at h
  by_cases h1 : i = 2001
  · rw [if_pos h1] at h; cases h
    refine ⟨by omega, ?_⟩
    have : ∀ l : List Int, geTos 2000 (ints .i64 l) = true := fun l => by
      induction l with
      | nil => rfl
      | cons x l ih => exact ih
    exact this _
  · rw [if_neg h1] at h
    exact ownV_ge i o h
theorem slotsPut_own (dim : Int) (ids : List Int) (vecs : List (List Int)) (id : Int) (v : List Int) (hv : ∀ x ∈ vecs, x.length ≤ 500) (hv2 : v.length ≤ 500) (h : putE dim ids vecs id v = 0) :
    FunM Try.prog 34 [slotsD dim ids vecs, .v (.int .i64 id), .lst (ints .i16 v)] fun r H => r = .tup [.v (.int .i64 (putI dim ids vecs id v)), .agg [.v (.int .i64 dim), .ref 2001 ids.length, .ref 2000 ids.length], .v (.int .i64 0)] ∧
      H = ownS 2 46 23 (ids.set (putI dim ids vecs id v).toNat id) (vecs.set (putI dim ids vecs id v).toNat v) := by
  have hf := find_fun dim ids vecs id
  have hfi := fits_slot_fun dim ids vecs v
  obtain ⟨s1, s2, i, i1, i2, i3, i4⟩ := put_zero h
  have hvo : vecErr v = 0 ∧ (v.length : Int) = dim := by
    refine Classical.byContradiction fun q => ?_
    unfold putE at h; rw [if_pos (.inr q)] at h; cases h
  rw [decide_eq_true hvo] at hfi
  have hw := with_own dim ids vecs i id v (by have := s1.2.1; omega) (by have := s1.2.1; omega) s1.2.2.1 hv hv2 i1
  have hH : (fun m => if m = 2001 then some (⟨2, 1, ints .i64 (ids.set i id)⟩ : Own) else ownV 46 23 ids.length (vecs.set i v) m) = ownS 2 46 23 (ids.set i id) (vecs.set i v) := by
    unfold ownS; rw [List.length_set]
  rw [hH] at hw
  clear hH
  have hx := index64_fun ids (-1)
  have hcase : (findE dim ids vecs id = 0 ∧ findI dim ids vecs id = i) ∨ (findE dim ids vecs id = 5 ∧ idxI ids (-1) = i) := by
    rcases find_cases dim ids vecs id with f | f | f
    · have e : putI dim ids vecs id v = findI dim ids vecs id := by unfold putI; rw [if_pos h, if_neg (by rw [f]; decide)]
      exact .inl ⟨f, by omega⟩
    · unfold putE at h; rw [if_pos (.inl f)] at h; cases h
    · have e : putI dim ids vecs id v = idxI ids (-1) := by unfold putI; rw [if_pos h, if_pos f]
      exact .inr ⟨f, by omega⟩
  rw [i2, Int.toNat_natCast]
  refine FunM.of_awpS Try.func34 rfl cal34 Try.ntmps34 (by simp) fun hwf => ?_
  simp only [D.wfs, D.wf, ints_wfs, rows_wfs, ints_length, rows_length, and_true, true_and] at hwf
  rcases hcase with ⟨f, f2⟩ | ⟨f, f2⟩
  · rw [f, f2] at hf
    repeat refine awpS_seq ?_
    first | refine awpS_block ?_ | skip
    repeat refine awpS_seq ?_
    refine awpS_last ?_
    repeat' (first | simp only [go_sem, Ret_eq Try.results34] | fail)
    repeat refine awpS_seq ?_
    first | refine awpS_block ?_ | skip
    repeat refine awpS_seq ?_
    refine awpS_last ?_
    repeat' (first | simp only [go_sem, Ret_eq Try.results34] | (refine opCallI_rd (by simp only [go_sem, Ret_eq Try.results34]; first | done | rfl) (hf) (by rintro _ rfl; rfl) ?_; rintro _ rfl) | fail)
    repeat refine awpS_seq ?_
    first | refine awpS_block ?_ | skip
    repeat refine awpS_seq ?_
    refine awpS_last ?_
    repeat' (first | simp only [go_sem, Ret_eq Try.results34] | (refine opCallI_rd (by simp only [go_sem, Ret_eq Try.results34]; first | done | rfl) (hfi) (by rintro _ rfl; rfl) ?_; rintro _ rfl) | fail)
    repeat refine awpS_seq ?_
    first | refine awpS_block ?_ | skip
    repeat refine awpS_seq ?_
    refine awpS_last ?_
    repeat' (first | simp only [go_sem, Ret_eq Try.results34] | fail)
    repeat refine awpS_seq ?_
    refine awpS_nth 5 rfl rfl ?_
    repeat' (first | simp only [go_sem, Ret_eq Try.results34] | fail)
    refine opX_callM0 (al := [slotsD dim ids vecs, .v (.int .i64 i), .v (.int .i64 id), .lst (ints .i16 v)]) 2000 [(6, .v (.int .i64 0)), (7, .adr 7 0 0), (8, .v (.int .i64 0)), (36, .v (.int .i64 i))] [(7, ⟨45, 3, [.agg [.v (.int .i64 0), .v (.slice none 0 0), .v (.slice none 0 0)]]⟩)] rfl rfl (by simp only [go_sem, Ret_eq Try.results34]) (by rfl) (by simp only [go_sem, Ret_eq Try.results34]) hw (by simp only [go_sem, Ret_eq Try.results34]) (by rfl) (by simp only [go_sem, Ret_eq Try.results34]) (by rfl) ?_ ?_
    · rintro _ _ ⟨rfl, rfl⟩
      exact ⟨rfl, ownS_ge⟩
    rintro _ _ ⟨rfl, rfl⟩
    repeat' (first | simp only [go_sem, Ret_eq Try.results34] | fail)
    refine awpS_last ?_
    repeat' (first | simp only [go_sem, Ret_eq Try.results34] | fail)
    refine RetM_calc Try.results34 (Weak.refl _) (ownS 2 46 23 (ids.set i id) (vecs.set i v)) (ds := [.v (.int .i64 i), .agg [.v (.int .i64 dim), .ref 2001 ids.length, .ref 2000 ids.length], .v (.int .i64 0)]) ?_ ?_ ⟨rfl, rfl⟩
    · simp only [go_sem, resDs, resD, pickT, Ret_eq Try.results34]
    · intro m o h
      have hm : 2000 ≤ m := (ownS_ge m o h).1
      simp only [go_sem, Ret_eq Try.results34]
      rw [if_neg (by omega), if_neg (by omega)]
      exact h
  · rw [f] at hf
    rw [f2] at hx
    repeat refine awpS_seq ?_
    first | refine awpS_block ?_ | skip
    repeat refine awpS_seq ?_
    refine awpS_last ?_
    repeat' (first | simp only [go_sem, Ret_eq Try.results34] | fail)
    repeat refine awpS_seq ?_
    first | refine awpS_block ?_ | skip
    repeat refine awpS_seq ?_
    refine awpS_last ?_
    repeat' (first | simp only [go_sem, Ret_eq Try.results34] | (refine opCallI_rd (by simp only [go_sem, Ret_eq Try.results34]; first | done | rfl) (hf) (by rintro _ rfl; rfl) ?_; rintro _ rfl) | fail)
    repeat refine awpS_seq ?_
    first | refine awpS_block ?_ | skip
    repeat refine awpS_seq ?_
    refine awpS_last ?_
    repeat' (first | simp only [go_sem, Ret_eq Try.results34] | (refine opCallI_rd (by simp only [go_sem, Ret_eq Try.results34]; first | done | rfl) (hfi) (by rintro _ rfl; rfl) ?_; rintro _ rfl) | fail)
    repeat refine awpS_seq ?_
    first | refine awpS_block ?_ | skip
    repeat refine awpS_seq ?_
    refine awpS_last ?_
    repeat' (first | simp only [go_sem, Ret_eq Try.results34] | simp (disch := omega) only [arith, IntKind.bits, capMax, fill_len, elt_fill] | (refine opCallI_rd (by simp only [go_sem, Ret_eq Try.results34]; first | done | rfl) (hx) (by rintro _ rfl; rfl) ?_; rintro _ rfl) | fail)
    repeat refine awpS_seq ?_
    refine awpS_nth 5 rfl rfl ?_
    repeat' (first | simp only [go_sem, Ret_eq Try.results34] | fail)
    refine opX_callM0 (al := [slotsD dim ids vecs, .v (.int .i64 i), .v (.int .i64 id), .lst (ints .i16 v)]) 2000 [(6, .v (.int .i64 0)), (7, .adr 7 0 0), (8, .v (.int .i64 0)), (36, .v (.int .i64 i))] [(7, ⟨45, 3, [.agg [.v (.int .i64 0), .v (.slice none 0 0), .v (.slice none 0 0)]]⟩)] rfl rfl (by simp only [go_sem, Ret_eq Try.results34]) (by rfl) (by simp only [go_sem, Ret_eq Try.results34]) hw (by simp only [go_sem, Ret_eq Try.results34]) (by rfl) (by simp only [go_sem, Ret_eq Try.results34]) (by rfl) ?_ ?_
    · rintro _ _ ⟨rfl, rfl⟩
      exact ⟨rfl, ownS_ge⟩
    rintro _ _ ⟨rfl, rfl⟩
    repeat' (first | simp only [go_sem, Ret_eq Try.results34] | fail)
    refine awpS_last ?_
    repeat' (first | simp only [go_sem, Ret_eq Try.results34] | fail)
    refine RetM_calc Try.results34 (Weak.refl _) (ownS 2 46 23 (ids.set i id) (vecs.set i v)) (ds := [.v (.int .i64 i), .agg [.v (.int .i64 dim), .ref 2001 ids.length, .ref 2000 ids.length], .v (.int .i64 0)]) ?_ ?_ ⟨rfl, rfl⟩
    · simp only [go_sem, resDs, resD, pickT, Ret_eq Try.results34]
    · intro m o h
      have hm : 2000 ≤ m := (ownS_ge m o h).1
      simp only [go_sem, Ret_eq Try.results34]
      rw [if_neg (by omega), if_neg (by omega)]
      exact h
end Go.Proofs.Ytpkampecmlpfmaa.T

end
section
set_option linter.unusedSimpArgs false
set_option linter.unusedVariables false
/- The document's check of slots, walked. -/
namespace Go.Proofs.Ytpkampecmlpfmaa.T
open Go Go.VL Go.Proofs
set_option maxRecDepth 100000
set_option maxHeartbeats 4000000

theorem refId_fun (n : Int) : Fun Try.prog 106 [.v (.int .i64 n)] fun r => r = .v (.bool (decide (0 ≤ n ∧ n ≤ 2147483647))) := by
  by_cases h1 : 0 ≤ n
  · by_cases h2 : n ≤ 2147483647
    · rw [decide_eq_true ⟨h1, h2⟩]
      refine Fun.of_awpI Try.func106 rfl cal106 Try.ntmps106 (by simp) fun hwf => ?_
      simp only [D.wfs, D.wf, ints_length, ints_wfs, rows_length, rows_wfs, capMax, and_true, true_and] at hwf
      repeat' (first | simp only [go_sem, Ret_eq Try.results106] | simp (disch := omega) only [arith, IntKind.bits, capMax, fill_len, elt_fill] | fail)
    · rw [decide_eq_false (fun q => h2 q.2)]
      refine Fun.of_awpI Try.func106 rfl cal106 Try.ntmps106 (by simp) fun hwf => ?_
      simp only [D.wfs, D.wf, ints_length, ints_wfs, rows_length, rows_wfs, capMax, and_true, true_and] at hwf
      repeat' (first | simp only [go_sem, Ret_eq Try.results106] | simp (disch := omega) only [arith, IntKind.bits, capMax, fill_len, elt_fill] | fail)
  · rw [decide_eq_false (fun q => h1 q.1)]
    refine Fun.of_awpI Try.func106 rfl cal106 Try.ntmps106 (by simp) fun hwf => ?_
    simp only [D.wfs, D.wf, ints_length, ints_wfs, rows_length, rows_wfs, capMax, and_true, true_and] at hwf
    repeat' (first | simp only [go_sem, Ret_eq Try.results106] | simp (disch := omega) only [arith, IntKind.bits, capMax, fill_len, elt_fill] | fail)

theorem refSCheck_fun (dim : Int) (ids : List Int) (vecs : List (List Int)) : Fun Try.prog 49 [slotsD dim ids vecs] fun r => r = .v (.int .i64 (slotsErr dim ids vecs)) := by
  have bad : ¬ slotsOk dim ids vecs → slotsErr dim ids vecs = 1 := fun h => if_neg h
  by_cases h1 : 1 ≤ dim
  · by_cases h2 : dim ≤ 64
    · by_cases h3 : 1 ≤ ids.length
      · by_cases h4 : ids.length ≤ 256
        · by_cases h5 : vecs.length = ids.length
          · have h5b : ((vecs.length : Int) != (ids.length : Int)) = false := by rw [h5]; exact bne_self_eq_false _
            have badk : ∀ k, k < ids.length → ¬ slotOk dim ids vecs k → slotsErr dim ids vecs = 1 := fun k hk h => bad fun q => h (q.2.2.2 k hk)
            refine Fun.of_awpI Try.func49 rfl cal49 Try.ntmps49 (by simp) fun hwf => ?_
            simp only [D.wfs, D.wf, ints_length, ints_wfs, rows_length, rows_wfs, capMax, and_true, true_and] at hwf
            repeat' (first | simp only [go_sem, h5b, Ret_eq Try.results49] | simp (disch := omega) only [arith, IntKind.bits, capMax, fill_len, elt_fill] | fail)
            refine awpI_for ids.length (fun k => ∀ j, j < k → slotOk dim ids vecs j) (fun k => [(39, .v (.int .i64 k))]) (fun _ => []) [1, 37, 38] [1] _ (Weak.refl _) (fun j hj => absurd hj (Nat.not_lt_zero j)) ?_ ?_ ?_
            · simp only [go_sem, Ret_eq Try.results49]
            · simp only [go_sem, Ret_eq Try.results49]
            · intro k s hk hQ hs
              simp only [go_sem, Ret_eq Try.results49] at hs
              by_cases hka : k < ids.length
              · have hbk := badk k hka
                have hstep : slotOk dim ids vecs k → ∀ j, j < k + 1 → slotOk dim ids vecs j := fun h j hj => by
                  by_cases q : j < k
                  · exact hQ j q
                  · rw [show j = k by omega]; exact h
                have hvk : k < vecs.length := by omega
                by_cases q0 : ids.getD k 0 = -1
                · by_cases q1 : (vecs.getD k []).length = 0
                  · repeat' (first | simp only [go_sem, hs, q0, q1, beq_self_eq_true, bne_self_eq_false, Ret_eq Try.results49] | simp (disch := omega) only [arith, IntKind.bits, capMax, fill_len, elt_fill] | (refine Again.up (by omega) ?_ ?_) | fail)
                    exact hstep (.inl ⟨q0, q1⟩)
                  · have q1b : (((vecs.getD k []).length : Int) != 0) = true := by rw [bne, beq_eq_false_iff_ne.2 (by omega)]; rfl
                    rw [hbk (by rintro (h | h); exact q1 h.2; exact absurd q0 (by have := h.2.1.1; omega))]
                    repeat' (first | simp only [go_sem, hs, q0, q1b, beq_self_eq_true, Ret_eq Try.results49] | simp (disch := omega) only [arith, IntKind.bits, capMax, fill_len, elt_fill] | fail)
                · have q0b : (ids.getD k 0 == -1) = false := beq_eq_false_iff_ne.2 q0
                  have hid := refId_fun (ids.getD k 0)
                  have hvc := refVecCheck_fun (vecs.getD k [])
                  by_cases q2 : 0 ≤ ids.getD k 0 ∧ ids.getD k 0 ≤ 2147483647
                  · rw [decide_eq_true q2] at hid
                    by_cases q3 : vecErr (vecs.getD k []) = 0
                    · rw [q3] at hvc
                      by_cases q4 : ((vecs.getD k []).length : Int) = dim
                      · have q4b : (((vecs.getD k []).length : Int) != dim) = false := by rw [q4]; exact bne_self_eq_false _
                        have htl : (ids.take k).length = k := by rw [List.length_take]; omega
                        repeat' (first | simp only [go_sem, hs, q0b, q4b, bne_self_eq_false, Ret_eq Try.results49] | simp (disch := omega) only [arith, IntKind.bits, capMax, fill_len, elt_fill] | (refine awpI_draw2 (id := 9) (.one false 0 (.only 1 (.one false 2 (.one false 3 (.one false 4 (.one false 5 (.one false 6 (.one false 7 (.one false 8 (.only 9 (.one false 10 (.one false 11 (.one false 12 (.one false 13 (.one false 14 (.one false 15 (.one false 16 (.one false 17 (.one false 18 (.one false 19 (.one false 20 (.one false 21 (.one false 22 .done))))))))))))))))))))))) mixed (by decide +kernel) (by decide +kernel) ?_) | (refine opCallI_rd (by simp only [go_sem, hs, q0b, q4b, bne_self_eq_false, Ret_eq Try.results49]; first | done | rfl) (hid) (by rintro _ rfl; rfl) ?_; rintro _ rfl) | (refine opCallI_rd (by simp only [go_sem, hs, q0b, q4b, bne_self_eq_false, Ret_eq Try.results49]; first | done | rfl) (hvc) (by rintro _ rfl; rfl) ?_; rintro _ rfl) | fail)
                        refine awpI_for k (fun j => ∀ t, t < j → ids.getD t 0 ≠ ids.getD k 0) (fun j => [(81, .v (.int .i64 j))]) (fun _ => []) [1, 4, 37, 38, 39, 79, 80] [1] _ (Weak.refl _) (fun j hj => absurd hj (Nat.not_lt_zero j)) ?_ ?_ ?_
                        · simp only [go_sem, hs, Ret_eq Try.results49]
                        · simp only [go_sem, Ret_eq Try.results49]
                        · intro j s2 hj hQ2 hs2
                          simp only [go_sem, hs, Ret_eq Try.results49] at hs2
                          by_cases hja : j < k
                          · have hgt : (ids.take k).getD j 0 = ids.getD j 0 := by simp [List.getD, List.getElem?_take_of_lt hja]
                            by_cases q5 : ids.getD j 0 = ids.getD k 0
                            · rw [hbk (by
                                rintro (h | h)
                                · exact q0 h.1
                                · exact q0 ((dir_none k).1 h.1 j hja q5))]
                              repeat' (first | simp only [go_sem, hs, hs2, htl, hgt, q5, beq_self_eq_true, Ret_eq Try.results49] | simp (disch := omega) only [arith, IntKind.bits, capMax, fill_len, elt_fill] | fail)
                            · have q5b : (ids.getD j 0 == ids.getD k 0) = false := beq_eq_false_iff_ne.2 q5
                              repeat' (first | simp only [go_sem, hs, hs2, htl, hgt, q5b, Ret_eq Try.results49] | simp (disch := omega) only [arith, IntKind.bits, capMax, fill_len, elt_fill] | (refine Again.up (by omega) ?_ ?_) | fail)
                              intro t ht
                              by_cases q : t < j
                              · exact hQ2 t q
                              · rw [show t = j by omega]; exact q5
                          · obtain rfl : j = k := by omega
                            repeat' (first | simp only [go_sem, hs, hs2, htl, Ret_eq Try.results49] | simp (disch := omega) only [arith, IntKind.bits, capMax, fill_len, elt_fill] | (refine Again.up (by omega) ?_ ?_) | fail)
                            exact hstep (.inr ⟨(dir_none j).2 fun t ht e => absurd e (hQ2 t ht), q2, q3, q4⟩)
                      · have q4b : (((vecs.getD k []).length : Int) != dim) = true := by rw [bne, beq_eq_false_iff_ne.2 q4]; rfl
                        rw [hbk (by rintro (h | h); exact q0 h.1; exact q4 h.2.2.2)]
                        repeat' (first | simp only [go_sem, hs, q0b, q4b, bne_self_eq_false, Ret_eq Try.results49] | simp (disch := omega) only [arith, IntKind.bits, capMax, fill_len, elt_fill] | (refine awpI_draw2 (id := 9) (.one false 0 (.only 1 (.one false 2 (.one false 3 (.one false 4 (.one false 5 (.one false 6 (.one false 7 (.one false 8 (.only 9 (.one false 10 (.one false 11 (.one false 12 (.one false 13 (.one false 14 (.one false 15 (.one false 16 (.one false 17 (.one false 18 (.one false 19 (.one false 20 (.one false 21 (.one false 22 .done))))))))))))))))))))))) mixed (by decide +kernel) (by decide +kernel) ?_) | (refine opCallI_rd (by simp only [go_sem, hs, q0b, q4b, bne_self_eq_false, Ret_eq Try.results49]; first | done | rfl) (hid) (by rintro _ rfl; rfl) ?_; rintro _ rfl) | (refine opCallI_rd (by simp only [go_sem, hs, q0b, q4b, bne_self_eq_false, Ret_eq Try.results49]; first | done | rfl) (hvc) (by rintro _ rfl; rfl) ?_; rintro _ rfl) | fail)
                    · have q3b : (vecErr (vecs.getD k []) != 0) = true := by rw [bne, beq_eq_false_iff_ne.2 q3]; rfl
                      rw [hbk (by rintro (h | h); exact q0 h.1; exact q3 h.2.2.1)]
                      repeat' (first | simp only [go_sem, hs, q0b, q3b, Ret_eq Try.results49] | simp (disch := omega) only [arith, IntKind.bits, capMax, fill_len, elt_fill] | (refine awpI_draw2 (id := 9) (.one false 0 (.only 1 (.one false 2 (.one false 3 (.one false 4 (.one false 5 (.one false 6 (.one false 7 (.one false 8 (.only 9 (.one false 10 (.one false 11 (.one false 12 (.one false 13 (.one false 14 (.one false 15 (.one false 16 (.one false 17 (.one false 18 (.one false 19 (.one false 20 (.one false 21 (.one false 22 .done))))))))))))))))))))))) mixed (by decide +kernel) (by decide +kernel) ?_) | (refine opCallI_rd (by simp only [go_sem, hs, q0b, q3b, Ret_eq Try.results49]; first | done | rfl) (hid) (by rintro _ rfl; rfl) ?_; rintro _ rfl) | (refine opCallI_rd (by simp only [go_sem, hs, q0b, q3b, Ret_eq Try.results49]; first | done | rfl) (hvc) (by rintro _ rfl; rfl) ?_; rintro _ rfl) | fail)
                  · rw [decide_eq_false q2] at hid
                    rw [hbk (by rintro (h | h); exact q0 h.1; exact q2 h.2.1)]
                    repeat' (first | simp only [go_sem, hs, q0b, Ret_eq Try.results49] | simp (disch := omega) only [arith, IntKind.bits, capMax, fill_len, elt_fill] | (refine awpI_draw2 (id := 9) (.one false 0 (.only 1 (.one false 2 (.one false 3 (.one false 4 (.one false 5 (.one false 6 (.one false 7 (.one false 8 (.only 9 (.one false 10 (.one false 11 (.one false 12 (.one false 13 (.one false 14 (.one false 15 (.one false 16 (.one false 17 (.one false 18 (.one false 19 (.one false 20 (.one false 21 (.one false 22 .done))))))))))))))))))))))) mixed (by decide +kernel) (by decide +kernel) ?_) | (refine opCallI_rd (by simp only [go_sem, hs, q0b, Ret_eq Try.results49]; first | done | rfl) (hid) (by rintro _ rfl; rfl) ?_; rintro _ rfl) | fail)
              · obtain rfl : k = ids.length := by omega
                rw [show slotsErr dim ids vecs = 0 from if_pos ⟨⟨h1, h2⟩, ⟨h3, h4⟩, h5, hQ⟩]
                repeat' (first | simp only [go_sem, hs, Ret_eq Try.results49] | simp (disch := omega) only [arith, IntKind.bits, capMax, fill_len, elt_fill] | fail)
          · have h5b : ((vecs.length : Int) != (ids.length : Int)) = true := by rw [bne, beq_eq_false_iff_ne.2 (by omega)]; rfl
            rw [bad fun q => h5 q.2.2.1]
            refine Fun.of_awpI Try.func49 rfl cal49 Try.ntmps49 (by simp) fun hwf => ?_
            simp only [D.wfs, D.wf, ints_length, ints_wfs, rows_length, rows_wfs, capMax, and_true, true_and] at hwf
            repeat' (first | simp only [go_sem, h5b, Ret_eq Try.results49] | simp (disch := omega) only [arith, IntKind.bits, capMax, fill_len, elt_fill] | fail)
        · rw [bad fun q => h4 q.2.1.2]
          refine Fun.of_awpI Try.func49 rfl cal49 Try.ntmps49 (by simp) fun hwf => ?_
          simp only [D.wfs, D.wf, ints_length, ints_wfs, rows_length, rows_wfs, capMax, and_true, true_and] at hwf
          repeat' (first | simp only [go_sem, Ret_eq Try.results49] | simp (disch := omega) only [arith, IntKind.bits, capMax, fill_len, elt_fill] | fail)
      · rw [bad fun q => h3 q.2.1.1]
        refine Fun.of_awpI Try.func49 rfl cal49 Try.ntmps49 (by simp) fun hwf => ?_
        simp only [D.wfs, D.wf, ints_length, ints_wfs, rows_length, rows_wfs, capMax, and_true, true_and] at hwf
        repeat' (first | simp only [go_sem, Ret_eq Try.results49] | simp (disch := omega) only [arith, IntKind.bits, capMax, fill_len, elt_fill] | fail)
    · rw [bad fun q => h2 q.1.2]
      refine Fun.of_awpI Try.func49 rfl cal49 Try.ntmps49 (by simp) fun hwf => ?_
      simp only [D.wfs, D.wf, ints_length, ints_wfs, rows_length, rows_wfs, capMax, and_true, true_and] at hwf
      repeat' (first | simp only [go_sem, Ret_eq Try.results49] | simp (disch := omega) only [arith, IntKind.bits, capMax, fill_len, elt_fill] | fail)
  · rw [bad fun q => h1 q.1.1]
    refine Fun.of_awpI Try.func49 rfl cal49 Try.ntmps49 (by simp) fun hwf => ?_
    simp only [D.wfs, D.wf, ints_length, ints_wfs, rows_length, rows_wfs, capMax, and_true, true_and] at hwf
    repeat' (first | simp only [go_sem, Ret_eq Try.results49] | simp (disch := omega) only [arith, IntKind.bits, capMax, fill_len, elt_fill] | fail)
end Go.Proofs.Ytpkampecmlpfmaa.T

end
section
/- Lists of nothing, plainly. -/
namespace Go.Proofs.Ytpkampecmlpfmaa.T
open Go Go.VL Go.Proofs
abbrev nilD : D := .v (.slice none 0 0)
theorem nil_frzs (i : Nat) (els : List D) : ∀ n, D.frzs i els (List.replicate n nilD) = List.replicate n nilD
  | 0 => rfl
  | n + 1 => by rw [List.replicate_succ]; show D.frz i els nilD :: D.frzs i els (List.replicate n nilD) = _; rw [nil_frzs i els n]; rfl
theorem nil_kills (i : Nat) : ∀ n, D.kills i (List.replicate n nilD) = List.replicate n nilD
  | 0 => rfl
  | n + 1 => by rw [List.replicate_succ]; show D.kill i nilD :: D.kills i (List.replicate n nilD) = _; rw [nil_kills i n]; rfl
theorem nil_nrms : ∀ n, D.nrms (List.replicate n nilD) = rows .i16 (List.replicate n [])
  | 0 => rfl
  | n + 1 => by rw [List.replicate_succ, List.replicate_succ]; show D.nrm nilD :: D.nrms (List.replicate n nilD) = _; rw [nil_nrms n]; rfl
theorem nil_noRefs : ∀ n, D.noRefs (List.replicate n nilD) = true
  | 0 => rfl
  | n + 1 => by rw [List.replicate_succ]; show (D.noRef nilD && D.noRefs (List.replicate n nilD)) = _; rw [nil_noRefs n]; rfl
theorem nil_width1 (n : Nat) : (List.replicate n nilD).all (fun d => d.width == 1) = true := by simp [D.width]
end Go.Proofs.Ytpkampecmlpfmaa.T

end
section
set_option linter.unusedSimpArgs false
set_option linter.unusedVariables false
/- A vector of its own. -/
namespace Go.Proofs.Ytpkampecmlpfmaa.T
open Go Go.VL Go.Proofs
set_option maxRecDepth 100000

theorem copy16_fun (v : List Int) (h : v.length ≤ 65536) : FunO Try.prog 105 [.lst (ints .i16 v)] fun r o => r = .ref 0 v.length ∧ o = some ⟨23, 1, ints .i16 v⟩ := by
  refine FunO.of_awpI Try.func105 rfl cal105 Try.ntmps105 (by simp) fun hwf => ?_
  simp only [D.wfs, D.wf, ints_length, ints_wfs, rows_length, rows_wfs, capMax, and_true, true_and] at hwf
  repeat' (first | simp only [go_sem, Ret_eq Try.results105] | simp (disch := omega) only [arith, IntKind.bits, capMax, fill_len, elt_fill] | refine RetO_calc Try.results105 ?_ | fail)
end Go.Proofs.Ytpkampecmlpfmaa.T

end
section
set_option linter.unusedSimpArgs false
set_option linter.unusedVariables false
/- The document's slots, walked. -/
namespace Go.Proofs.Ytpkampecmlpfmaa.T
open Go Go.VL Go.Proofs
set_option maxRecDepth 100000
set_option maxHeartbeats 4000000

theorem refSCopy_fun (dim : Int) (ids : List Int) (vecs : List (List Int)) (h1 : ids.length ≤ 500) (h2 : vecs.length ≤ 500) (h3 : ∀ v ∈ vecs, v.length ≤ 500) : Fun Try.prog 42 [slotsD dim ids vecs] fun r => r = slotsD dim ids vecs := by
  refine Fun.of_awpI Try.func42 rfl cal42 Try.ntmps42 (by simp) fun hwf => ?_
  simp only [D.wfs, D.wf, ints_length, ints_wfs, rows_length, rows_wfs, capMax, and_true, true_and] at hwf
  repeat' (first | simp only [go_sem, Ret_eq Try.results42] | simp (disch := omega) only [arith, IntKind.bits, capMax, fill_len, elt_fill] | (refine awpI_draw2 (id := 1) (.fam 2 [6] [3] [] (.fam 3 [6] [3] [] (.fam 0 [4, 6] [3, 10] [9] (.fam 1 [4, 6] [3, 10] [9] (.two 4 6 (.two 5 6 (.only 6 (.only 7 .done)) (.one false 5 (.only 7 .done))) (.only 4 (.one false 5 (.only 7 .done)))))))) mixed (by decide +kernel) (by decide +kernel) ?_) | (refine sch2I_two ?_ ?_) | fail)
  all_goals
    refine awpI_for vecs.length (fun k => True) (fun k => [(15, .v (.int .i64 k))]) (fun k => match k with | 0 => [(3, ⟨45, 3, [.agg [.v (.int .i64 dim), .ref 10 ids.length, .v (.slice none 0 0)]]⟩)] | k + 1 => [(3, ⟨45, 3, [.agg [.v (.int .i64 dim), .ref 10 ids.length, .ref 24 (k + 1)]]⟩), (24, ⟨46, 1, rows .i16 (vecs.take (k + 1))⟩)]) [2, 3, 13, 14] [2, 10] _ (Weak.refl _) trivial ?_ ?_ ?_
    · simp only [go_sem, Ret_eq Try.results42]
    · simp only [go_sem, Ret_eq Try.results42]
    · intro k s hk _ hs
      by_cases hka : k < vecs.length
      · have e := take_snoc (a := vecs) (d := []) hka
        have hcl := copy16_fun (vecs.getD k []) (by have := h3 _ (getD_mem (d := []) hka); omega)
        cases k with
        | zero =>
          simp only [go_sem, Ret_eq Try.results42] at hs
          repeat' (first | simp only [go_sem, hs, Ret_eq Try.results42] | simp (disch := omega) only [arith, IntKind.bits, capMax, fill_len, elt_fill] | (refine awpI_draw2 (id := 5) (.one false 2 (.fam 0 [3, 4] [22, 23] [21] (.fam 1 [3, 4] [22, 23] [21] (.only 3 (.only 4 (.only 5 (.one false 6 (.only 7 .done)))))))) mixed (by decide +kernel) (by decide +kernel) ?_) | (refine Again.up (by omega) ?_ ?_) | (refine opCallI_ownGv (by simp only [go_sem, hs, Ret_eq Try.results42]; first | done | rfl) (hcl) ?_; rintro _ _ ⟨rfl, rfl⟩) | fail)
          exact ⟨rfl, by rw [show List.take 1 vecs = _ from e]; rfl⟩
        | succ k =>
          simp only [go_sem, Ret_eq Try.results42] at hs
          have hlt : (vecs.take (k + 1)).length = k + 1 := by rw [List.length_take]; omega
          repeat' (first | simp only [go_sem, hs, e, hlt, List.length_append, Ret_eq Try.results42] | simp (disch := omega) only [arith, IntKind.bits, capMax, fill_len, elt_fill] | (refine awpI_draw2 (id := 5) (.one false 2 (.fam 0 [3, 4] [22, 23] [21] (.fam 1 [3, 4] [22, 23] [21] (.only 3 (.only 4 (.only 5 (.one false 6 (.only 7 .done)))))))) mixed (by decide +kernel) (by decide +kernel) ?_) | (refine Again.up (by omega) ?_ ?_) | (refine opCallI_ownGv (by simp only [go_sem, hs, e, hlt, List.length_append, Ret_eq Try.results42]; first | done | rfl) (hcl) ?_; rintro _ _ ⟨rfl, rfl⟩) | fail)
      · obtain rfl : k = vecs.length := by omega
        cases hcu : vecs.length with
        | zero =>
          rw [hcu] at hs
          simp only [go_sem, Ret_eq Try.results42] at hs
          repeat' (first | simp only [go_sem, hs, Ret_eq Try.results42] | fail)
          rw [List.length_eq_zero_iff.1 hcu]; rfl
        | succ k =>
          rw [hcu] at hs
          simp only [go_sem, Ret_eq Try.results42] at hs
          have hta : vecs.take (k + 1) = vecs := List.take_of_length_le (by omega)
          repeat' (first | simp only [go_sem, hs, hta, hcu, Ret_eq Try.results42] | simp (disch := omega) only [arith, IntKind.bits, capMax, fill_len, elt_fill] | fail)
theorem nil_kills1 (i n : Nat) : D.kills i (List.replicate n nilD ++ [nilD]) = List.replicate n nilD ++ [nilD] := by
  rw [← List.replicate_succ', nil_kills]

theorem refSNew_fun (n : Nat) (dim : Int) (h : 1 ≤ n ∧ n ≤ 256) (hd : 1 ≤ dim ∧ dim ≤ 64) : Fun Try.prog 43 [.v (.int .i64 n), .v (.int .i64 dim)] fun r => r = .tup [slotsD dim (List.replicate n (-1)) (List.replicate n []), .v (.int .i64 0)] := by
  refine Fun.of_awpI Try.func43 rfl cal43 Try.ntmps43 (by simp) fun hwf => ?_
  simp only [D.wfs, D.wf, ints_length, ints_wfs, rows_length, rows_wfs, capMax, and_true, true_and] at hwf
  repeat' (first | simp only [go_sem, Ret_eq Try.results43] | simp (disch := omega) only [arith, IntKind.bits, capMax, fill_len, elt_fill] | fail)
  refine awpI_for n (fun k => True) (fun k => [(25, .v (.int .i64 k))]) (fun k => match k with | 0 => [(6, ⟨45, 3, [.agg [.v (.int .i64 dim), .v (.slice none 0 0), .v (.slice none 0 0)]]⟩)] | k + 1 => [(6, ⟨45, 3, [.agg [.v (.int .i64 dim), .ref 30 (k + 1), .ref 35 (k + 1)]]⟩), (30, ⟨2, 1, ints .i64 (List.replicate (k + 1) (-1))⟩), (35, ⟨46, 1, List.replicate (k + 1) nilD⟩)]) [4, 6, 24] [4] _ (Weak.refl _) trivial ?_ ?_ ?_
  · simp only [go_sem, Ret_eq Try.results43]
  · simp only [go_sem, Ret_eq Try.results43]
  · intro k s hk _ hs
    by_cases hka : k < n
    · cases k with
      | zero =>
        simp only [go_sem, Ret_eq Try.results43] at hs
        repeat' (first | simp only [go_sem, hs, Ret_eq Try.results43] | simp (disch := omega) only [arith, IntKind.bits, capMax, fill_len, elt_fill] | (refine Again.up (by omega) ?_ ?_) | fail)
        all_goals exact ⟨rfl, rfl, rfl⟩
      | succ k =>
        simp only [go_sem, Ret_eq Try.results43] at hs
        have e1 : List.replicate (k + 1 + 1) (-1 : Int) = List.replicate (k + 1) (-1) ++ [-1] := List.replicate_succ'
        have e2 : List.replicate (k + 1 + 1) nilD = List.replicate (k + 1) nilD ++ [nilD] := List.replicate_succ'
        repeat' (first | simp only [go_sem, hs, e1, e2, List.length_append, List.length_replicate, nil_kills, nil_kills1, Ret_eq Try.results43] | simp (disch := omega) only [arith, IntKind.bits, capMax, fill_len, elt_fill] | (refine Again.up (by omega) ?_ ?_) | fail)
        all_goals skip
    · obtain rfl : k = n := by omega
      cases hcu : k with
      | zero => omega
      | succ k =>
        rw [hcu] at hs
        simp only [go_sem, Ret_eq Try.results43] at hs
        repeat' (first | simp only [go_sem, hs, hcu, nil_frzs, nil_kills, nil_nrms, nil_noRefs, nil_width1, ints_length, List.length_replicate, Ret_eq Try.results43] | simp (disch := omega) only [arith, IntKind.bits, capMax, fill_len, elt_fill] | fail)
        all_goals simp only [slotsD, List.take_replicate, Nat.min_self]

theorem refSNew_bad (n dim : Int) (h : ¬ ((1 ≤ n ∧ n ≤ 256) ∧ 1 ≤ dim ∧ dim ≤ 64)) : Fun Try.prog 43 [.v (.int .i64 n), .v (.int .i64 dim)] fun r => r = .tup [slotsD 0 [] [], .v (.int .i64 1)] := by
  refine Fun.of_awpI Try.func43 rfl cal43 Try.ntmps43 (by simp) fun hwf => ?_
  simp only [D.wfs, D.wf, ints_length, ints_wfs, rows_length, rows_wfs, capMax, and_true, true_and] at hwf
  repeat' (first | simp only [go_sem, ints_nil, rows_nil, Ret_eq Try.results43] | simp (disch := omega) only [arith, IntKind.bits, capMax, fill_len, elt_fill] | (with_reducible refine condI_dec (fun hq hqb => ?_) (fun hq hqb => ?_) <;> simp only [KP_mk, hqb]) | fail)
  all_goals first | rfl | omega

theorem refAt_fun (dim : Int) (ids : List Int) (vecs : List (List Int)) (id : Int) : Fun Try.prog 107 [slotsD dim ids vecs, .v (.int .i64 id)] fun r => r = .v (.int .i64 (idxI ids id)) := by
  refine Fun.of_awpI Try.func107 rfl cal107 Try.ntmps107 (by simp) fun hwf => ?_
  simp only [D.wfs, D.wf, ints_length, ints_wfs, rows_length, rows_wfs, capMax, and_true, true_and] at hwf
  repeat' (first | simp only [go_sem, Ret_eq Try.results107] | fail)
  refine awpI_for ids.length (fun k => ∀ i, i < k → ids.getD i 0 ≠ id) (fun k => [(10, .v (.int .i64 k))]) (fun _ => []) [1, 8, 9] [] _ (Weak.refl _) (fun i hi => absurd hi (Nat.not_lt_zero _)) ?_ ?_ ?_
  · simp only [go_sem, Ret_eq Try.results107]
  · simp only [go_sem, Ret_eq Try.results107]
  · intro k s hk hQ hs
    simp only [go_sem, Ret_eq Try.results107] at hs
    by_cases hka : k < ids.length
    · by_cases q : ids.getD k 0 = id
      · rw [idx_hit hka q hQ]
        have hb : (ids.getD k 0 == id) = true := by rw [q]; exact beq_self_eq_true id
        repeat' (first | simp only [go_sem, hs, hb, Ret_eq Try.results107] | simp (disch := omega) only [arith, IntKind.bits, capMax, fill_len, elt_fill] | fail)
      · have hb : (ids.getD k 0 == id) = false := beq_eq_false_iff_ne.2 q
        repeat' (first | simp only [go_sem, hs, hb, Ret_eq Try.results107] | simp (disch := omega) only [arith, IntKind.bits, capMax, fill_len, elt_fill] | (refine Again.up (by omega) ?_ ?_) | fail)
        intro i hi
        by_cases e : i < k
        · exact hQ i e
        · obtain rfl : i = k := by omega
          exact q
    · obtain rfl : k = ids.length := by omega
      rw [idx_miss hQ]
      repeat' (first | simp only [go_sem, hs, Ret_eq Try.results107] | simp (disch := omega) only [arith, IntKind.bits, capMax, fill_len, elt_fill] | fail)
/-- Where an id is, by the document. -/
theorem at_find {dim : Int} {ids : List Int} {vecs : List (List Int)} {id : Int} (hs : slotsOk dim ids vecs) (hid : idOk id) :
    (findE dim ids vecs id = 0 ∧ 0 ≤ idxI ids id ∧ findI dim ids vecs id = idxI ids id) ∨ (findE dim ids vecs id = 5 ∧ idxI ids id = -1 ∧ findI dim ids vecs id = 0) := by
  rcases idx_cases ids id with ⟨k, h1, h2, h3, h4⟩ | ⟨h1, h2⟩
  · obtain ⟨f1, f2⟩ := find_at hs hid h1 h3
    exact .inl ⟨f1, by omega, by rw [f2, h2]⟩
  · right
    have f : findE dim ids vecs id = 5 := by
      rcases find_cases dim ids vecs id with q | q | q
      · obtain ⟨_, _, j, j1, j2, j3⟩ := find_zero q
        exact absurd j3 (h2 j j1)
      · unfold findE at q
        rw [if_pos ⟨hs, hid⟩] at q
        split at q <;> cases q
      · exact q
    refine ⟨f, h1, ?_⟩
    unfold findI findE at *
    rw [if_pos ⟨hs, hid⟩] at f ⊢
    cases e : dirAt ids id with
    | none => rfl
    | some x => rw [e] at f; cases f

theorem refSFind_fun (dim : Int) (ids : List Int) (vecs : List (List Int)) (id : Int) : Fun Try.prog 44 [slotsD dim ids vecs, .v (.int .i64 id)] fun r => r = .tup [.v (.int .i64 (findI dim ids vecs id)), .v (.int .i64 (findE dim ids vecs id))] := by
  have hc := refSCheck_fun dim ids vecs
  have hi := refId_fun id
  have ha := refAt_fun dim ids vecs id
  by_cases h : slotsOk dim ids vecs
  · rw [show slotsErr dim ids vecs = 0 from if_pos h] at hc
    by_cases h2 : idOk id
    · rw [decide_eq_true (show 0 ≤ id ∧ id ≤ 2147483647 from h2)] at hi
      rcases at_find h h2 with ⟨f1, f2, f3⟩ | ⟨f1, f2, f3⟩
      · rw [f1, f3]
        refine Fun.of_awpI Try.func44 rfl cal44 Try.ntmps44 (by simp) fun hwf => ?_
        simp only [D.wfs, D.wf, ints_length, ints_wfs, rows_length, rows_wfs, capMax, and_true, true_and] at hwf
        repeat' (first | simp only [go_sem, bne_self_eq_false, Ret_eq Try.results44] | simp (disch := omega) only [arith, IntKind.bits, capMax, fill_len, elt_fill] | (refine opCallI_rd (by simp only [go_sem, bne_self_eq_false, Ret_eq Try.results44]; first | done | rfl) (hc) (by rintro _ rfl; rfl) ?_; rintro _ rfl) | (refine opCallI_rd (by simp only [go_sem, bne_self_eq_false, Ret_eq Try.results44]; first | done | rfl) (hi) (by rintro _ rfl; rfl) ?_; rintro _ rfl) | (refine opCallI_rd (by simp only [go_sem, bne_self_eq_false, Ret_eq Try.results44]; first | done | rfl) (ha) (by rintro _ rfl; rfl) ?_; rintro _ rfl) | fail)
      · rw [f1, f3]
        rw [f2] at ha
        refine Fun.of_awpI Try.func44 rfl cal44 Try.ntmps44 (by simp) fun hwf => ?_
        simp only [D.wfs, D.wf, ints_length, ints_wfs, rows_length, rows_wfs, capMax, and_true, true_and] at hwf
        repeat' (first | simp only [go_sem, bne_self_eq_false, Ret_eq Try.results44] | (refine opCallI_rd (by simp only [go_sem, bne_self_eq_false, Ret_eq Try.results44]; first | done | rfl) (hc) (by rintro _ rfl; rfl) ?_; rintro _ rfl) | (refine opCallI_rd (by simp only [go_sem, bne_self_eq_false, Ret_eq Try.results44]; first | done | rfl) (hi) (by rintro _ rfl; rfl) ?_; rintro _ rfl) | (refine opCallI_rd (by simp only [go_sem, bne_self_eq_false, Ret_eq Try.results44]; first | done | rfl) (ha) (by rintro _ rfl; rfl) ?_; rintro _ rfl) | fail)
    · rw [decide_eq_false (show ¬ (0 ≤ id ∧ id ≤ 2147483647) from h2)] at hi
      unfold findI findE
      rw [if_neg (fun q => h2 q.2), if_neg (fun q => h2 q.2)]
      refine Fun.of_awpI Try.func44 rfl cal44 Try.ntmps44 (by simp) fun hwf => ?_
      simp only [D.wfs, D.wf, ints_length, ints_wfs, rows_length, rows_wfs, capMax, and_true, true_and] at hwf
      repeat' (first | simp only [go_sem, bne_self_eq_false, Ret_eq Try.results44] | (refine opCallI_rd (by simp only [go_sem, bne_self_eq_false, Ret_eq Try.results44]; first | done | rfl) (hc) (by rintro _ rfl; rfl) ?_; rintro _ rfl) | (refine opCallI_rd (by simp only [go_sem, bne_self_eq_false, Ret_eq Try.results44]; first | done | rfl) (hi) (by rintro _ rfl; rfl) ?_; rintro _ rfl) | fail)
  · rw [show slotsErr dim ids vecs = 1 from if_neg h] at hc
    unfold findI findE
    rw [if_neg (fun q => h q.1), if_neg (fun q => h q.1)]
    refine Fun.of_awpI Try.func44 rfl cal44 Try.ntmps44 (by simp) fun hwf => ?_
    simp only [D.wfs, D.wf, ints_length, ints_wfs, rows_length, rows_wfs, capMax, and_true, true_and] at hwf
    repeat' (first | simp only [go_sem, Ret_eq Try.results44] | (refine opCallI_rd (by simp only [go_sem, Ret_eq Try.results44]; first | done | rfl) (hc) (by rintro _ rfl; rfl) ?_; rintro _ rfl) | fail)
end Go.Proofs.Ytpkampecmlpfmaa.T

end
