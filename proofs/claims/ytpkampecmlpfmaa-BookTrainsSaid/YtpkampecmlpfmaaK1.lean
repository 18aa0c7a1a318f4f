import Derived.Test.YtpkampecmlpfmaaLE
import Derived.IntWalk
import Derived.Test.YtpkampecmlpfmaaProg
import Derived.Laws.FloatArith
set_option linter.unusedSimpArgs false
set_option linter.unusedVariables false
section
/- What the pack functions compute. -/
namespace Go.Proofs.Ytpkampecmlpfmaa.T
open Go Go.VL Go.Proofs
def takeAcc (w : Int) (bs : List Int) : Nat → Int
  | 0 => 0
  | j + 1 => abits .or .i64 (takeAcc w bs j) (IntKind.i64.wrap (IntKind.i64.wrap (bs.getD j 0) * 2 ^ ((64 - 8 * w).toNat + 8 * j)))
def takeNum (w : Int) (bs : List Int) : Int := (takeAcc w bs w.toNat).fdiv (2 ^ (64 - 8 * w).toNat)
def takeNums (w : Int) : Nat → List Int → List Int
  | 0, _ => []
  | n + 1, bs => takeNum w bs :: takeNums w n (bs.drop w.toNat)
end Go.Proofs.Ytpkampecmlpfmaa.T

end
section
/- Vectors, plainly. -/
namespace Go.Proofs.Ytpkampecmlpfmaa.T
open Go Go.VL Go.Proofs
def I16s (l : List Int) : Prop := ∀ x ∈ l, -32768 ≤ x ∧ x ≤ 32767
theorem I16s.at {l : List Int} (h : I16s l) {k : Nat} (hk : k < l.length) : -32768 ≤ l.getD k 0 ∧ l.getD k 0 ≤ 32767 := h _ (getD_mem hk)
theorem I16s.getD {l : List Int} (h : I16s l) (k : Nat) : -32768 ≤ l.getD k 0 ∧ l.getD k 0 ≤ 32767 := by
  by_cases hk : k < l.length
  · exact h.at hk
  · rw [show l.getD k 0 = 0 by simp [List.getD, List.getElem?_eq_none (show l.length ≤ k by omega)]]; omega
theorem I16s.take {l : List Int} (h : I16s l) (n : Nat) : I16s (l.take n) := fun x hx => h x (List.mem_of_mem_take hx)
theorem I16s.drop {l : List Int} (h : I16s l) (n : Nat) : I16s (l.drop n) := fun x hx => h x (List.mem_of_mem_drop hx)
theorem I16s.append {l m : List Int} (h : I16s l) (h' : I16s m) : I16s (l ++ m) := fun x hx => (List.mem_append.1 hx).elim (h x) (h' x)
def vecOk (l : List Int) : Bool := decide (1 ≤ l.length) && decide (l.length ≤ 64) && l.all fun x => decide (-32767 ≤ x)
def vecErr (l : List Int) : Int := if vecOk l then 0 else 1
theorem vecOk_iff {l : List Int} : vecOk l = true ↔ 1 ≤ l.length ∧ l.length ≤ 64 ∧ ∀ x ∈ l, -32767 ≤ x := by
  unfold vecOk
  simp only [Bool.and_eq_true, decide_eq_true_eq, List.all_eq_true, and_assoc]
theorem vecErr_zero {l : List Int} : vecErr l = 0 ↔ vecOk l = true := by
  unfold vecErr; split <;> simp_all
def mn (a b : Int) : Int := if b < a then b else a
def minL (l : List Int) : Int := l.foldl mn (l.getD 0 0)
theorem foldl_mn_lt (c : Int) : ∀ (l : List Int) (a : Int), (l.foldl mn a < c ↔ a < c ∨ ∃ x ∈ l, x < c)
  | [], a => by simp
  | x :: l, a => by
    rw [List.foldl_cons, foldl_mn_lt c l]
    simp only [List.mem_cons, exists_eq_or_imp]
    unfold mn
    split <;> constructor <;> rintro (h | h) <;> first | exact .inr (.inr h) | (rcases h with h | h <;> first | exact .inr h | (left; omega)) | (first | (left; omega) | (right; left; omega))
theorem minL_lt {l : List Int} (h : 0 < l.length) (c : Int) : (minL l < c ↔ ∃ x ∈ l, x < c) := by
  unfold minL
  rw [foldl_mn_lt]
  constructor
  · rintro (h1 | h1)
    · exact ⟨_, getD_mem (d := 0) h, h1⟩
    · exact h1
  · exact .inr
theorem vec_min {l : List Int} (h1 : 1 ≤ l.length) (h2 : l.length ≤ 64) : vecOk l = decide (¬ minL l < -32767) := by
  rw [Bool.eq_iff_iff, vecOk_iff, decide_eq_true_eq, minL_lt (by omega)]
  constructor
  · rintro ⟨_, _, h⟩ ⟨x, hx, hlt⟩; have := h x hx; omega
  · intro h
    refine ⟨h1, h2, fun x hx => ?_⟩
    refine Int.not_lt.1 fun hlt => h ⟨x, hx, hlt⟩
theorem vecErr_len {l : List Int} (h : ¬ (1 ≤ l.length ∧ l.length ≤ 64)) : vecErr l = 1 := by
  unfold vecErr
  rw [if_neg]
  rw [vecOk_iff]
  rintro ⟨h1, h2, _⟩
  exact h ⟨h1, h2⟩
theorem vecErr_min {l : List Int} (h1 : 1 ≤ l.length) (h2 : l.length ≤ 64) : vecErr l = if minL l < -32767 then 1 else 0 := by
  unfold vecErr
  rw [vec_min h1 h2]
  by_cases h : minL l < -32767 <;> simp [h]
theorem vecErr_at {l : List Int} {k : Nat} (hk : k < l.length) (h : l.getD k 0 < -32767) : vecErr l = 1 := by
  unfold vecErr
  rw [if_neg]
  rw [vecOk_iff]
  rintro ⟨_, _, h3⟩
  have := h3 _ (getD_mem (d := 0) hk)
  omega
theorem vecErr_all {l : List Int} (h1 : 1 ≤ l.length) (h2 : l.length ≤ 64) (h : ∀ i, i < l.length → ¬ l.getD i 0 < -32767) : vecErr l = 0 := by
  rw [vecErr_zero, vecOk_iff]
  refine ⟨h1, h2, fun x hx => ?_⟩
  obtain ⟨i, hi, rfl⟩ := List.mem_iff_getElem.1 hx
  have := h i hi
  simp [List.getD, hi] at this
  omega
end Go.Proofs.Ytpkampecmlpfmaa.T

end
section
/- Cuts, cells and spans, plainly. -/
namespace Go.Proofs.Ytpkampecmlpfmaa.T
open Go Go.VL Go.Proofs
def Rises (c : List Int) : Prop := ∀ i, i + 1 < c.length → c.getD i 0 ≤ c.getD (i + 1) 0
instance (c : List Int) : Decidable (Rises c) := by
  unfold Rises
  exact decidable_of_iff (∀ i, i < c.length - 1 → c.getD i 0 ≤ c.getD (i + 1) 0) ⟨fun h i hi => h i (by omega), fun h i hi => h i (by omega)⟩
def cutsOk (c : List Int) : Prop := c.length ≤ 15 ∧ Rises c ∧ (0 < c.length → -32767 ≤ c.getD 0 0)
instance (c : List Int) : Decidable (cutsOk c) := by unfold cutsOk; infer_instance
def cutsErr (c : List Int) : Int := if cutsOk c then 0 else 1
theorem cutsErr_zero {c : List Int} : cutsErr c = 0 ↔ cutsOk c := by
  unfold cutsErr; split
  · exact ⟨fun _ => by assumption, fun _ => rfl⟩
  · exact ⟨fun h => absurd h (by decide), fun h => by contradiction⟩
theorem cutsErr_one {c : List Int} (h : ¬ cutsOk c) : cutsErr c = 1 := if_neg h
theorem Rises.le {c : List Int} (h : Rises c) : ∀ {i j : Nat}, i ≤ j → j < c.length → c.getD i 0 ≤ c.getD j 0 := by
  intro i j hij hj
  induction j with
  | zero => obtain rfl : i = 0 := by omega
            exact Int.le_refl _
  | succ j ih =>
    by_cases h1 : i = j + 1
    · subst h1; exact Int.le_refl _
    · exact Int.le_trans (ih (by omega) (by omega)) (h j hj)
/-- In which cell a number is. -/
def cellOf (c : List Int) (x : Int) : Nat := c.countP fun y => decide (y ≤ x)
theorem cellOf_spec : ∀ {c : List Int}, Rises c → ∀ (x : Int) (i : Nat), i < c.length → (c.getD i 0 ≤ x ↔ i < cellOf c x)
  | [], _, _, _, h => by simp at h
  | a :: c, hr, x, i, hi => by
    have hr' : Rises c := fun j hj => by simpa using hr (j + 1) (by simpa using hj)
    have hc : cellOf (a :: c) x = cellOf c x + if a ≤ x then 1 else 0 := by unfold cellOf; rw [List.countP_cons]; simp
    have hz : ¬ a ≤ x → cellOf c x = 0 := by
      intro ha
      unfold cellOf
      rw [List.countP_eq_zero]
      intro y hy hyx
      obtain ⟨j, hj, rfl⟩ := List.mem_iff_getElem.1 hy
      have := hr.le (i := 0) (j := j + 1) (by omega) (by simpa using hj)
      simp [List.getD, hj] at this
      simp at hyx
      omega
    rw [hc]
    cases i with
    | zero =>
      simp only [List.getD_cons_zero]
      by_cases ha : a ≤ x
      · rw [if_pos ha]; exact ⟨fun _ => by omega, fun _ => ha⟩
      · rw [if_neg ha, hz ha]; exact ⟨fun h => absurd h ha, fun h => by omega⟩
    | succ i =>
      have hi' : i < c.length := by simpa using hi
      rw [show (a :: c).getD (i + 1) 0 = c.getD i 0 by simp [List.getD]]
      have ih := cellOf_spec hr' x i hi'
      rw [ih]
      by_cases ha : a ≤ x
      · rw [if_pos ha]; omega
      · rw [if_neg ha, hz ha]; omega
def I16r (l : List (List Int)) : Prop := ∀ c ∈ l, I16s c
theorem I16r.getD {l : List (List Int)} (h : I16r l) (i : Nat) : I16s (l.getD i []) := by
  by_cases hi : i < l.length
  · exact h _ (getD_mem hi)
  · rw [show l.getD i [] = [] by simp [List.getD, List.getElem?_eq_none (show l.length ≤ i by omega)]]
    intro x hx; cases hx
end Go.Proofs.Ytpkampecmlpfmaa.T

end
section
set_option linter.defProp false
namespace Go.Proofs.Ytpkampecmlpfmaa.T
open Go Go.VL Go.Proofs
theorem fact_ok2 : okT Try.prog 2 = true := by kernel_rfl
theorem fact_cells2 : Program.cellsOf Try.prog 2 = 1 := by kernel_rfl
theorem fact_bytes2 : Program.bytesOf Try.prog 2 = 8 := by kernel_rfl
theorem fact_agg2 : aggT Try.prog 2 = false := by kernel_rfl
theorem fact_und2 : (Program.underlying Try.prog 2).isSome = true := by kernel_rfl
theorem fact_int2 : intT Try.prog 2 = some .i64 := by kernel_rfl
theorem fact_zok2 : zeroOK Try.prog 2 = true := by kernel_rfl
theorem fact_zero2 : zeroT Try.prog 2 = some (.int .i64 0) := by kernel_rfl
theorem fact_ok3 : okT Try.prog 3 = true := by kernel_rfl
theorem fact_cells3 : Program.cellsOf Try.prog 3 = 1 := by kernel_rfl
theorem fact_bytes3 : Program.bytesOf Try.prog 3 = 8 := by kernel_rfl
theorem fact_agg3 : aggT Try.prog 3 = false := by kernel_rfl
theorem fact_und3 : (Program.underlying Try.prog 3).isSome = true := by kernel_rfl
theorem fact_int3 : intT Try.prog 3 = some .i64 := by kernel_rfl
theorem fact_zok3 : zeroOK Try.prog 3 = true := by kernel_rfl
theorem fact_zero3 : zeroT Try.prog 3 = some (.int .i64 0) := by kernel_rfl
theorem fact_ok4 : okT Try.prog 4 = true := by kernel_rfl
theorem fact_cells4 : Program.cellsOf Try.prog 4 = 1 := by kernel_rfl
theorem fact_bytes4 : Program.bytesOf Try.prog 4 = 1 := by kernel_rfl
theorem fact_agg4 : aggT Try.prog 4 = false := by kernel_rfl
theorem fact_und4 : (Program.underlying Try.prog 4).isSome = true := by kernel_rfl
theorem fact_int4 : intT Try.prog 4 = none := by kernel_rfl
theorem fact_bool4 : isBoolT Try.prog 4 = true := by kernel_rfl
theorem fact_zok4 : zeroOK Try.prog 4 = true := by kernel_rfl
theorem fact_zero4 : zeroT Try.prog 4 = some (.bool false) := by kernel_rfl
theorem fact_ok5 : okT Try.prog 5 = true := by kernel_rfl
theorem fact_cells5 : Program.cellsOf Try.prog 5 = 1 := by kernel_rfl
theorem fact_bytes5 : Program.bytesOf Try.prog 5 = 1 := by kernel_rfl
theorem fact_agg5 : aggT Try.prog 5 = false := by kernel_rfl
theorem fact_und5 : (Program.underlying Try.prog 5).isSome = true := by kernel_rfl
theorem fact_int5 : intT Try.prog 5 = some .u8 := by kernel_rfl
theorem fact_zok5 : zeroOK Try.prog 5 = true := by kernel_rfl
theorem fact_zero5 : zeroT Try.prog 5 = some (.int .u8 0) := by kernel_rfl
theorem fact_ok9 : okT Try.prog 9 = true := by kernel_rfl
theorem fact_cells9 : Program.cellsOf Try.prog 9 = 1 := by kernel_rfl
theorem fact_bytes9 : Program.bytesOf Try.prog 9 = 16 := by kernel_rfl
theorem fact_agg9 : aggT Try.prog 9 = false := by kernel_rfl
theorem fact_und9 : (Program.underlying Try.prog 9).isSome = true := by kernel_rfl
theorem fact_int9 : intT Try.prog 9 = none := by kernel_rfl
theorem fact_str9 : strT Try.prog 9 = true := by kernel_rfl
theorem fact_zok9 : zeroOK Try.prog 9 = true := by kernel_rfl
theorem fact_zero9 : zeroT Try.prog 9 = some (.string ⟨#[]⟩) := by kernel_rfl
theorem fact_ok12 : okT Try.prog 12 = true := by kernel_rfl
theorem fact_cells12 : Program.cellsOf Try.prog 12 = 1 := by kernel_rfl
theorem fact_bytes12 : Program.bytesOf Try.prog 12 = 8 := by kernel_rfl
theorem fact_agg12 : aggT Try.prog 12 = false := by kernel_rfl
theorem fact_und12 : (Program.underlying Try.prog 12).isSome = true := by kernel_rfl
theorem fact_int12 : intT Try.prog 12 = some .u64 := by kernel_rfl
theorem fact_zok12 : zeroOK Try.prog 12 = true := by kernel_rfl
theorem fact_zero12 : zeroT Try.prog 12 = some (.int .u64 0) := by kernel_rfl
theorem fact_ok21 : okT Try.prog 21 = true := by kernel_rfl
theorem fact_cells21 : Program.cellsOf Try.prog 21 = 1 := by kernel_rfl
theorem fact_bytes21 : Program.bytesOf Try.prog 21 = 4 := by kernel_rfl
theorem fact_agg21 : aggT Try.prog 21 = false := by kernel_rfl
theorem fact_und21 : (Program.underlying Try.prog 21).isSome = true := by kernel_rfl
theorem fact_int21 : intT Try.prog 21 = some .i32 := by kernel_rfl
theorem fact_zok21 : zeroOK Try.prog 21 = true := by kernel_rfl
theorem fact_zero21 : zeroT Try.prog 21 = some (.int .i32 0) := by kernel_rfl
theorem fact_ok22 : okT Try.prog 22 = true := by kernel_rfl
theorem fact_cells22 : Program.cellsOf Try.prog 22 = 1 := by kernel_rfl
theorem fact_bytes22 : Program.bytesOf Try.prog 22 = 24 := by kernel_rfl
theorem fact_agg22 : aggT Try.prog 22 = false := by kernel_rfl
theorem fact_und22 : (Program.underlying Try.prog 22).isSome = true := by kernel_rfl
theorem fact_int22 : intT Try.prog 22 = none := by kernel_rfl
theorem fact_el22 : elT Try.prog 22 = some 23 := by kernel_rfl
theorem fact_sl22 : sliceT Try.prog 22 = true := by kernel_rfl
theorem fact_zok22 : zeroOK Try.prog 22 = true := by kernel_rfl
theorem fact_zero22 : zeroT Try.prog 22 = some (.slice none 0 0) := by kernel_rfl
theorem fact_ok23 : okT Try.prog 23 = true := by kernel_rfl
theorem fact_cells23 : Program.cellsOf Try.prog 23 = 1 := by kernel_rfl
theorem fact_bytes23 : Program.bytesOf Try.prog 23 = 2 := by kernel_rfl
theorem fact_agg23 : aggT Try.prog 23 = false := by kernel_rfl
theorem fact_und23 : (Program.underlying Try.prog 23).isSome = true := by kernel_rfl
theorem fact_int23 : intT Try.prog 23 = some .i16 := by kernel_rfl
theorem fact_zok23 : zeroOK Try.prog 23 = true := by kernel_rfl
theorem fact_zero23 : zeroT Try.prog 23 = some (.int .i16 0) := by kernel_rfl
theorem fact_ok25 : okT Try.prog 25 = true := by kernel_rfl
theorem fact_cells25 : Program.cellsOf Try.prog 25 = 1 := by kernel_rfl
theorem fact_bytes25 : Program.bytesOf Try.prog 25 = 8 := by kernel_rfl
theorem fact_agg25 : aggT Try.prog 25 = false := by kernel_rfl
theorem fact_und25 : (Program.underlying Try.prog 25).isSome = true := by kernel_rfl
theorem fact_int25 : intT Try.prog 25 = some .i64 := by kernel_rfl
theorem fact_zok25 : zeroOK Try.prog 25 = true := by kernel_rfl
theorem fact_zero25 : zeroT Try.prog 25 = some (.int .i64 0) := by kernel_rfl
theorem fact_ok36 : okT Try.prog 36 = true := by kernel_rfl
theorem fact_cells36 : Program.cellsOf Try.prog 36 = 1 := by kernel_rfl
theorem fact_bytes36 : Program.bytesOf Try.prog 36 = 24 := by kernel_rfl
theorem fact_agg36 : aggT Try.prog 36 = false := by kernel_rfl
theorem fact_und36 : (Program.underlying Try.prog 36).isSome = true := by kernel_rfl
theorem fact_int36 : intT Try.prog 36 = none := by kernel_rfl
theorem fact_el36 : elT Try.prog 36 = some 3 := by kernel_rfl
theorem fact_sl36 : sliceT Try.prog 36 = true := by kernel_rfl
theorem fact_zok36 : zeroOK Try.prog 36 = true := by kernel_rfl
theorem fact_zero36 : zeroT Try.prog 36 = some (.slice none 0 0) := by kernel_rfl
theorem fact_ok40 : okT Try.prog 40 = true := by kernel_rfl
theorem fact_cells40 : Program.cellsOf Try.prog 40 = 1 := by kernel_rfl
theorem fact_bytes40 : Program.bytesOf Try.prog 40 = 8 := by kernel_rfl
theorem fact_agg40 : aggT Try.prog 40 = false := by kernel_rfl
theorem fact_und40 : (Program.underlying Try.prog 40).isSome = true := by kernel_rfl
theorem fact_int40 : intT Try.prog 40 = none := by kernel_rfl
theorem fact_map40 : mapT Try.prog 40 = some (23, 4) := by kernel_rfl
theorem fact_ok42 : okT Try.prog 42 = true := by kernel_rfl
theorem fact_cells42 : Program.cellsOf Try.prog 42 = 1 := by kernel_rfl
theorem fact_bytes42 : Program.bytesOf Try.prog 42 = 24 := by kernel_rfl
theorem fact_agg42 : aggT Try.prog 42 = false := by kernel_rfl
theorem fact_und42 : (Program.underlying Try.prog 42).isSome = true := by kernel_rfl
theorem fact_int42 : intT Try.prog 42 = none := by kernel_rfl
theorem fact_el42 : elT Try.prog 42 = some 2 := by kernel_rfl
theorem fact_sl42 : sliceT Try.prog 42 = true := by kernel_rfl
theorem fact_zok42 : zeroOK Try.prog 42 = true := by kernel_rfl
theorem fact_zero42 : zeroT Try.prog 42 = some (.slice none 0 0) := by kernel_rfl
theorem fact_ok43 : okT Try.prog 43 = true := by kernel_rfl
theorem fact_cells43 : Program.cellsOf Try.prog 43 = 1 := by kernel_rfl
theorem fact_bytes43 : Program.bytesOf Try.prog 43 = 24 := by kernel_rfl
theorem fact_agg43 : aggT Try.prog 43 = false := by kernel_rfl
theorem fact_und43 : (Program.underlying Try.prog 43).isSome = true := by kernel_rfl
theorem fact_int43 : intT Try.prog 43 = none := by kernel_rfl
theorem fact_el43 : elT Try.prog 43 = some 46 := by kernel_rfl
theorem fact_sl43 : sliceT Try.prog 43 = true := by kernel_rfl
theorem fact_zok43 : zeroOK Try.prog 43 = true := by kernel_rfl
theorem fact_zero43 : zeroT Try.prog 43 = some (.slice none 0 0) := by kernel_rfl
theorem fact_ok44 : okT Try.prog 44 = true := by kernel_rfl
theorem fact_cells44 : Program.cellsOf Try.prog 44 = 3 := by kernel_rfl
theorem fact_bytes44 : Program.bytesOf Try.prog 44 = 56 := by kernel_rfl
theorem fact_agg44 : aggT Try.prog 44 = true := by kernel_rfl
theorem fact_und44 : (Program.underlying Try.prog 44).isSome = true := by kernel_rfl
theorem fact_int44 : intT Try.prog 44 = none := by kernel_rfl
theorem fact_zok44 : zeroOK Try.prog 44 = true := by kernel_rfl
theorem fact_zero44 : zeroT Try.prog 44 = some (.agg #[.int .i64 0, .slice none 0 0, .slice none 0 0]) := by kernel_rfl
theorem fact_fok44 : fieldsOK Try.prog 44 = true := by kernel_rfl
theorem fact_f0_44 : fieldTO Try.prog 44 0 = some (3, 0) := by kernel_rfl
theorem fact_f1_44 : fieldTO Try.prog 44 1 = some (42, 1) := by kernel_rfl
theorem fact_f2_44 : fieldTO Try.prog 44 2 = some (43, 2) := by kernel_rfl
theorem fact_ok45 : okT Try.prog 45 = true := by kernel_rfl
theorem fact_cells45 : Program.cellsOf Try.prog 45 = 3 := by kernel_rfl
theorem fact_bytes45 : Program.bytesOf Try.prog 45 = 56 := by kernel_rfl
theorem fact_agg45 : aggT Try.prog 45 = true := by kernel_rfl
theorem fact_und45 : (Program.underlying Try.prog 45).isSome = true := by kernel_rfl
theorem fact_int45 : intT Try.prog 45 = none := by kernel_rfl
theorem fact_zok45 : zeroOK Try.prog 45 = true := by kernel_rfl
theorem fact_zero45 : zeroT Try.prog 45 = some (.agg #[.int .i64 0, .slice none 0 0, .slice none 0 0]) := by kernel_rfl
theorem fact_fok45 : fieldsOK Try.prog 45 = true := by kernel_rfl
theorem fact_f0_45 : fieldTO Try.prog 45 0 = some (3, 0) := by kernel_rfl
theorem fact_f1_45 : fieldTO Try.prog 45 1 = some (42, 1) := by kernel_rfl
theorem fact_f2_45 : fieldTO Try.prog 45 2 = some (43, 2) := by kernel_rfl
theorem fact_ok46 : okT Try.prog 46 = true := by kernel_rfl
theorem fact_cells46 : Program.cellsOf Try.prog 46 = 1 := by kernel_rfl
theorem fact_bytes46 : Program.bytesOf Try.prog 46 = 24 := by kernel_rfl
theorem fact_agg46 : aggT Try.prog 46 = false := by kernel_rfl
theorem fact_und46 : (Program.underlying Try.prog 46).isSome = true := by kernel_rfl
theorem fact_int46 : intT Try.prog 46 = none := by kernel_rfl
theorem fact_el46 : elT Try.prog 46 = some 23 := by kernel_rfl
theorem fact_sl46 : sliceT Try.prog 46 = true := by kernel_rfl
theorem fact_zok46 : zeroOK Try.prog 46 = true := by kernel_rfl
theorem fact_zero46 : zeroT Try.prog 46 = some (.slice none 0 0) := by kernel_rfl
theorem fact_ok59 : okT Try.prog 59 = true := by kernel_rfl
theorem fact_cells59 : Program.cellsOf Try.prog 59 = 1 := by kernel_rfl
theorem fact_bytes59 : Program.bytesOf Try.prog 59 = 24 := by kernel_rfl
theorem fact_agg59 : aggT Try.prog 59 = false := by kernel_rfl
theorem fact_und59 : (Program.underlying Try.prog 59).isSome = true := by kernel_rfl
theorem fact_int59 : intT Try.prog 59 = none := by kernel_rfl
theorem fact_el59 : elT Try.prog 59 = some 65 := by kernel_rfl
theorem fact_sl59 : sliceT Try.prog 59 = true := by kernel_rfl
theorem fact_zok59 : zeroOK Try.prog 59 = true := by kernel_rfl
theorem fact_zero59 : zeroT Try.prog 59 = some (.slice none 0 0) := by kernel_rfl
theorem fact_ok62 : okT Try.prog 62 = true := by kernel_rfl
theorem fact_cells62 : Program.cellsOf Try.prog 62 = 1 := by kernel_rfl
theorem fact_bytes62 : Program.bytesOf Try.prog 62 = 8 := by kernel_rfl
theorem fact_agg62 : aggT Try.prog 62 = false := by kernel_rfl
theorem fact_und62 : (Program.underlying Try.prog 62).isSome = true := by kernel_rfl
theorem fact_int62 : intT Try.prog 62 = none := by kernel_rfl
theorem fact_map62 : mapT Try.prog 62 = some (2, 23) := by kernel_rfl
theorem fact_ok63 : okT Try.prog 63 = true := by kernel_rfl
theorem fact_cells63 : Program.cellsOf Try.prog 63 = 1 := by kernel_rfl
theorem fact_bytes63 : Program.bytesOf Try.prog 63 = 8 := by kernel_rfl
theorem fact_agg63 : aggT Try.prog 63 = false := by kernel_rfl
theorem fact_und63 : (Program.underlying Try.prog 63).isSome = true := by kernel_rfl
theorem fact_int63 : intT Try.prog 63 = none := by kernel_rfl
theorem fact_map63 : mapT Try.prog 63 = some (2, 3) := by kernel_rfl
theorem fact_ok64 : okT Try.prog 64 = true := by kernel_rfl
theorem fact_cells64 : Program.cellsOf Try.prog 64 = 3 := by kernel_rfl
theorem fact_bytes64 : Program.bytesOf Try.prog 64 = 24 := by kernel_rfl
theorem fact_agg64 : aggT Try.prog 64 = true := by kernel_rfl
theorem fact_und64 : (Program.underlying Try.prog 64).isSome = true := by kernel_rfl
theorem fact_int64 : intT Try.prog 64 = none := by kernel_rfl
theorem fact_zok64 : zeroOK Try.prog 64 = true := by kernel_rfl
theorem fact_zero64 : zeroT Try.prog 64 = some (.agg #[.int .i64 0, .int .i64 0, .int .i16 0]) := by kernel_rfl
theorem fact_fok64 : fieldsOK Try.prog 64 = true := by kernel_rfl
theorem fact_f0_64 : fieldTO Try.prog 64 0 = some (3, 0) := by kernel_rfl
theorem fact_f1_64 : fieldTO Try.prog 64 1 = some (2, 1) := by kernel_rfl
theorem fact_f2_64 : fieldTO Try.prog 64 2 = some (23, 2) := by kernel_rfl
theorem fact_ok65 : okT Try.prog 65 = true := by kernel_rfl
theorem fact_cells65 : Program.cellsOf Try.prog 65 = 3 := by kernel_rfl
theorem fact_bytes65 : Program.bytesOf Try.prog 65 = 24 := by kernel_rfl
theorem fact_agg65 : aggT Try.prog 65 = true := by kernel_rfl
theorem fact_und65 : (Program.underlying Try.prog 65).isSome = true := by kernel_rfl
theorem fact_int65 : intT Try.prog 65 = none := by kernel_rfl
theorem fact_zok65 : zeroOK Try.prog 65 = true := by kernel_rfl
theorem fact_zero65 : zeroT Try.prog 65 = some (.agg #[.int .i64 0, .int .i64 0, .int .i16 0]) := by kernel_rfl
theorem fact_fok65 : fieldsOK Try.prog 65 = true := by kernel_rfl
theorem fact_f0_65 : fieldTO Try.prog 65 0 = some (3, 0) := by kernel_rfl
theorem fact_f1_65 : fieldTO Try.prog 65 1 = some (2, 1) := by kernel_rfl
theorem fact_f2_65 : fieldTO Try.prog 65 2 = some (23, 2) := by kernel_rfl
theorem fact_ok71 : okT Try.prog 71 = true := by kernel_rfl
theorem fact_cells71 : Program.cellsOf Try.prog 71 = 1 := by kernel_rfl
theorem fact_bytes71 : Program.bytesOf Try.prog 71 = 24 := by kernel_rfl
theorem fact_agg71 : aggT Try.prog 71 = false := by kernel_rfl
theorem fact_und71 : (Program.underlying Try.prog 71).isSome = true := by kernel_rfl
theorem fact_int71 : intT Try.prog 71 = none := by kernel_rfl
theorem fact_el71 : elT Try.prog 71 = some 22 := by kernel_rfl
theorem fact_sl71 : sliceT Try.prog 71 = true := by kernel_rfl
theorem fact_zok71 : zeroOK Try.prog 71 = true := by kernel_rfl
theorem fact_zero71 : zeroT Try.prog 71 = some (.slice none 0 0) := by kernel_rfl
theorem fact_ok72 : okT Try.prog 72 = true := by kernel_rfl
theorem fact_cells72 : Program.cellsOf Try.prog 72 = 2 := by kernel_rfl
theorem fact_bytes72 : Program.bytesOf Try.prog 72 = 32 := by kernel_rfl
theorem fact_agg72 : aggT Try.prog 72 = true := by kernel_rfl
theorem fact_und72 : (Program.underlying Try.prog 72).isSome = true := by kernel_rfl
theorem fact_int72 : intT Try.prog 72 = none := by kernel_rfl
theorem fact_zok72 : zeroOK Try.prog 72 = true := by kernel_rfl
theorem fact_zero72 : zeroT Try.prog 72 = some (.agg #[.int .i64 0, .slice none 0 0]) := by kernel_rfl
theorem fact_fok72 : fieldsOK Try.prog 72 = true := by kernel_rfl
theorem fact_f0_72 : fieldTO Try.prog 72 0 = some (2, 0) := by kernel_rfl
theorem fact_f1_72 : fieldTO Try.prog 72 1 = some (71, 1) := by kernel_rfl
theorem fact_ok73 : okT Try.prog 73 = true := by kernel_rfl
theorem fact_cells73 : Program.cellsOf Try.prog 73 = 2 := by kernel_rfl
theorem fact_bytes73 : Program.bytesOf Try.prog 73 = 32 := by kernel_rfl
theorem fact_agg73 : aggT Try.prog 73 = true := by kernel_rfl
theorem fact_und73 : (Program.underlying Try.prog 73).isSome = true := by kernel_rfl
theorem fact_int73 : intT Try.prog 73 = none := by kernel_rfl
theorem fact_zok73 : zeroOK Try.prog 73 = true := by kernel_rfl
theorem fact_zero73 : zeroT Try.prog 73 = some (.agg #[.int .i64 0, .slice none 0 0]) := by kernel_rfl
theorem fact_fok73 : fieldsOK Try.prog 73 = true := by kernel_rfl
theorem fact_f0_73 : fieldTO Try.prog 73 0 = some (2, 0) := by kernel_rfl
theorem fact_f1_73 : fieldTO Try.prog 73 1 = some (71, 1) := by kernel_rfl
theorem fact_ok74 : okT Try.prog 74 = true := by kernel_rfl
theorem fact_cells74 : Program.cellsOf Try.prog 74 = 1 := by kernel_rfl
theorem fact_bytes74 : Program.bytesOf Try.prog 74 = 24 := by kernel_rfl
theorem fact_agg74 : aggT Try.prog 74 = false := by kernel_rfl
theorem fact_und74 : (Program.underlying Try.prog 74).isSome = true := by kernel_rfl
theorem fact_int74 : intT Try.prog 74 = none := by kernel_rfl
theorem fact_el74 : elT Try.prog 74 = some 5 := by kernel_rfl
theorem fact_sl74 : sliceT Try.prog 74 = true := by kernel_rfl
theorem fact_zok74 : zeroOK Try.prog 74 = true := by kernel_rfl
theorem fact_zero74 : zeroT Try.prog 74 = some (.slice none 0 0) := by kernel_rfl
theorem fact_ok92 : okT Try.prog 92 = true := by kernel_rfl
theorem fact_cells92 : Program.cellsOf Try.prog 92 = 1 := by kernel_rfl
theorem fact_bytes92 : Program.bytesOf Try.prog 92 = 24 := by kernel_rfl
theorem fact_agg92 : aggT Try.prog 92 = false := by kernel_rfl
theorem fact_und92 : (Program.underlying Try.prog 92).isSome = true := by kernel_rfl
theorem fact_int92 : intT Try.prog 92 = none := by kernel_rfl
theorem fact_el92 : elT Try.prog 92 = some 40 := by kernel_rfl
theorem fact_sl92 : sliceT Try.prog 92 = true := by kernel_rfl
theorem fact_zok92 : zeroOK Try.prog 92 = true := by kernel_rfl
theorem fact_zero92 : zeroT Try.prog 92 = some (.slice none 0 0) := by kernel_rfl
theorem fact_ok95 : okT Try.prog 95 = true := by kernel_rfl
theorem fact_cells95 : Program.cellsOf Try.prog 95 = 1 := by kernel_rfl
theorem fact_bytes95 : Program.bytesOf Try.prog 95 = 8 := by kernel_rfl
theorem fact_agg95 : aggT Try.prog 95 = false := by kernel_rfl
theorem fact_und95 : (Program.underlying Try.prog 95).isSome = true := by kernel_rfl
theorem fact_int95 : intT Try.prog 95 = none := by kernel_rfl
theorem fact_map95 : mapT Try.prog 95 = some (23, 3) := by kernel_rfl
theorem fact_ok97 : okT Try.prog 97 = true := by kernel_rfl
theorem fact_cells97 : Program.cellsOf Try.prog 97 = 1 := by kernel_rfl
theorem fact_bytes97 : Program.bytesOf Try.prog 97 = 8 := by kernel_rfl
theorem fact_agg97 : aggT Try.prog 97 = false := by kernel_rfl
theorem fact_und97 : (Program.underlying Try.prog 97).isSome = true := by kernel_rfl
theorem fact_int97 : intT Try.prog 97 = some .u64 := by kernel_rfl
theorem fact_zok97 : zeroOK Try.prog 97 = true := by kernel_rfl
theorem fact_zero97 : zeroT Try.prog 97 = some (.int .u64 0) := by kernel_rfl
theorem fact_ok98 : okT Try.prog 98 = true := by kernel_rfl
theorem fact_cells98 : Program.cellsOf Try.prog 98 = 3 := by kernel_rfl
theorem fact_bytes98 : Program.bytesOf Try.prog 98 = 40 := by kernel_rfl
theorem fact_agg98 : aggT Try.prog 98 = true := by kernel_rfl
theorem fact_und98 : (Program.underlying Try.prog 98).isSome = true := by kernel_rfl
theorem fact_int98 : intT Try.prog 98 = none := by kernel_rfl
theorem fact_zok98 : zeroOK Try.prog 98 = true := by kernel_rfl
theorem fact_zero98 : zeroT Try.prog 98 = some (.agg #[.int .u64 0, .int .i64 0, .slice none 0 0]) := by kernel_rfl
theorem fact_fok98 : fieldsOK Try.prog 98 = true := by kernel_rfl
theorem fact_f0_98 : fieldTO Try.prog 98 0 = some (97, 0) := by kernel_rfl
theorem fact_f1_98 : fieldTO Try.prog 98 1 = some (3, 1) := by kernel_rfl
theorem fact_f2_98 : fieldTO Try.prog 98 2 = some (43, 2) := by kernel_rfl
theorem fact_ok99 : okT Try.prog 99 = true := by kernel_rfl
theorem fact_cells99 : Program.cellsOf Try.prog 99 = 3 := by kernel_rfl
theorem fact_bytes99 : Program.bytesOf Try.prog 99 = 40 := by kernel_rfl
theorem fact_agg99 : aggT Try.prog 99 = true := by kernel_rfl
theorem fact_und99 : (Program.underlying Try.prog 99).isSome = true := by kernel_rfl
theorem fact_int99 : intT Try.prog 99 = none := by kernel_rfl
theorem fact_zok99 : zeroOK Try.prog 99 = true := by kernel_rfl
theorem fact_zero99 : zeroT Try.prog 99 = some (.agg #[.int .u64 0, .int .i64 0, .slice none 0 0]) := by kernel_rfl
theorem fact_fok99 : fieldsOK Try.prog 99 = true := by kernel_rfl
theorem fact_f0_99 : fieldTO Try.prog 99 0 = some (97, 0) := by kernel_rfl
theorem fact_f1_99 : fieldTO Try.prog 99 1 = some (3, 1) := by kernel_rfl
theorem fact_f2_99 : fieldTO Try.prog 99 2 = some (43, 2) := by kernel_rfl
theorem fact_ok115 : okT Try.prog 115 = true := by kernel_rfl
theorem fact_cells115 : Program.cellsOf Try.prog 115 = 6 := by kernel_rfl
theorem fact_bytes115 : Program.bytesOf Try.prog 115 = 80 := by kernel_rfl
theorem fact_agg115 : aggT Try.prog 115 = true := by kernel_rfl
theorem fact_und115 : (Program.underlying Try.prog 115).isSome = true := by kernel_rfl
theorem fact_int115 : intT Try.prog 115 = none := by kernel_rfl
theorem fact_arr115 : arrT Try.prog 115 = some (2, 99) := by kernel_rfl
theorem fact_zok115 : zeroOK Try.prog 115 = true := by kernel_rfl
theorem fact_zero115 : zeroT Try.prog 115 = some (.agg #[.int .u64 0, .int .i64 0, .slice none 0 0, .int .u64 0, .int .i64 0, .slice none 0 0]) := by kernel_rfl
theorem fact_fok115 : fieldsOK Try.prog 115 = true := by kernel_rfl
theorem fact_ok142 : okT Try.prog 142 = true := by kernel_rfl
theorem fact_cells142 : Program.cellsOf Try.prog 142 = 1 := by kernel_rfl
theorem fact_bytes142 : Program.bytesOf Try.prog 142 = 8 := by kernel_rfl
theorem fact_agg142 : aggT Try.prog 142 = false := by kernel_rfl
theorem fact_und142 : (Program.underlying Try.prog 142).isSome = true := by kernel_rfl
theorem fact_int142 : intT Try.prog 142 = some .u64 := by kernel_rfl
theorem fact_zok142 : zeroOK Try.prog 142 = true := by kernel_rfl
theorem fact_zero142 : zeroT Try.prog 142 = some (.int .u64 0) := by kernel_rfl
theorem fact_ok150 : okT Try.prog 150 = true := by kernel_rfl
theorem fact_cells150 : Program.cellsOf Try.prog 150 = 1 := by kernel_rfl
theorem fact_bytes150 : Program.bytesOf Try.prog 150 = 16 := by kernel_rfl
theorem fact_agg150 : aggT Try.prog 150 = false := by kernel_rfl
theorem fact_und150 : (Program.underlying Try.prog 150).isSome = true := by kernel_rfl
theorem fact_int150 : intT Try.prog 150 = none := by kernel_rfl
theorem fact_ok151 : okT Try.prog 151 = true := by kernel_rfl
theorem fact_cells151 : Program.cellsOf Try.prog 151 = 1 := by kernel_rfl
theorem fact_bytes151 : Program.bytesOf Try.prog 151 = 8 := by kernel_rfl
theorem fact_agg151 : aggT Try.prog 151 = false := by kernel_rfl
theorem fact_und151 : (Program.underlying Try.prog 151).isSome = true := by kernel_rfl
theorem fact_int151 : intT Try.prog 151 = none := by kernel_rfl
theorem fact_flt151 : fltT Try.prog 151 = some .f64 := by kernel_rfl
theorem fact_ok178 : okT Try.prog 178 = true := by kernel_rfl
theorem fact_cells178 : Program.cellsOf Try.prog 178 = 1 := by kernel_rfl
theorem fact_bytes178 : Program.bytesOf Try.prog 178 = 8 := by kernel_rfl
theorem fact_agg178 : aggT Try.prog 178 = false := by kernel_rfl
theorem fact_und178 : (Program.underlying Try.prog 178).isSome = true := by kernel_rfl
theorem fact_int178 : intT Try.prog 178 = some .i64 := by kernel_rfl
theorem fact_zok178 : zeroOK Try.prog 178 = true := by kernel_rfl
theorem fact_zero178 : zeroT Try.prog 178 = some (.int .i64 0) := by kernel_rfl
theorem fact_ok186 : okT Try.prog 186 = true := by kernel_rfl
theorem fact_cells186 : Program.cellsOf Try.prog 186 = 1 := by kernel_rfl
theorem fact_bytes186 : Program.bytesOf Try.prog 186 = 4 := by kernel_rfl
theorem fact_agg186 : aggT Try.prog 186 = false := by kernel_rfl
theorem fact_und186 : (Program.underlying Try.prog 186).isSome = true := by kernel_rfl
theorem fact_int186 : intT Try.prog 186 = some .u32 := by kernel_rfl
theorem fact_zok186 : zeroOK Try.prog 186 = true := by kernel_rfl
theorem fact_zero186 : zeroT Try.prog 186 = some (.int .u32 0) := by kernel_rfl
theorem fact_ok197 : okT Try.prog 197 = true := by kernel_rfl
theorem fact_cells197 : Program.cellsOf Try.prog 197 = 1 := by kernel_rfl
theorem fact_bytes197 : Program.bytesOf Try.prog 197 = 8 := by kernel_rfl
theorem fact_agg197 : aggT Try.prog 197 = false := by kernel_rfl
theorem fact_und197 : (Program.underlying Try.prog 197).isSome = true := by kernel_rfl
theorem fact_int197 : intT Try.prog 197 = some .u64 := by kernel_rfl
theorem fact_zok197 : zeroOK Try.prog 197 = true := by kernel_rfl
theorem fact_zero197 : zeroT Try.prog 197 = some (.int .u64 0) := by kernel_rfl
theorem cal15 : callable Try.prog 15 = true := by kernel_rfl
theorem cal25 : callable Try.prog 25 = true := by kernel_rfl
theorem cal26 : callable Try.prog 26 = true := by kernel_rfl
theorem cal30 : callable Try.prog 30 = true := by kernel_rfl
theorem cal50 : callable Try.prog 50 = true := by kernel_rfl
theorem cal51 : callable Try.prog 51 = true := by kernel_rfl
theorem cal56 : callable Try.prog 56 = true := by kernel_rfl
theorem cal61 : callable Try.prog 61 = true := by kernel_rfl
theorem cal62 : callable Try.prog 62 = true := by kernel_rfl
theorem cal63 : callable Try.prog 63 = true := by kernel_rfl
theorem cal64 : callable Try.prog 64 = true := by kernel_rfl
theorem cal65 : callable Try.prog 65 = true := by kernel_rfl
theorem cal66 : callable Try.prog 66 = true := by kernel_rfl
theorem cal67 : callable Try.prog 67 = true := by kernel_rfl
theorem cal68 : callable Try.prog 68 = true := by kernel_rfl
theorem cal69 : callable Try.prog 69 = true := by kernel_rfl
theorem cal87 : callable Try.prog 87 = true := by kernel_rfl
theorem cal88 : callable Try.prog 88 = true := by kernel_rfl
theorem cal89 : callable Try.prog 89 = true := by kernel_rfl
theorem cal90 : callable Try.prog 90 = true := by kernel_rfl
theorem cal93 : callable Try.prog 93 = true := by kernel_rfl
theorem cal105 : callable Try.prog 105 = true := by kernel_rfl
theorem cal108 : callable Try.prog 108 = true := by kernel_rfl
theorem cal110 : callable Try.prog 110 = true := by kernel_rfl
theorem cal114 : callable Try.prog 114 = true := by kernel_rfl
theorem cal116 : callable Try.prog 116 = true := by kernel_rfl
theorem cal117 : callable Try.prog 117 = true := by kernel_rfl
theorem cal118 : callable Try.prog 118 = true := by kernel_rfl
theorem cal119 : callable Try.prog 119 = true := by kernel_rfl
theorem cal120 : callable Try.prog 120 = true := by kernel_rfl
theorem cal121 : callable Try.prog 121 = true := by kernel_rfl
theorem cal122 : callable Try.prog 122 = true := by kernel_rfl
theorem cal123 : callable Try.prog 123 = true := by kernel_rfl
theorem cal124 : callable Try.prog 124 = true := by kernel_rfl
theorem cal125 : callable Try.prog 125 = true := by kernel_rfl
theorem cal126 : callable Try.prog 126 = true := by kernel_rfl
theorem cal127 : callable Try.prog 127 = true := by kernel_rfl
theorem cal128 : callable Try.prog 128 = true := by kernel_rfl
theorem cal129 : callable Try.prog 129 = true := by kernel_rfl
theorem cal130 : callable Try.prog 130 = true := by kernel_rfl
theorem cal136 : callable Try.prog 136 = true := by kernel_rfl
theorem cal138 : callable Try.prog 138 = true := by kernel_rfl
theorem cal140 : callable Try.prog 140 = true := by kernel_rfl
theorem cal145 : callable Try.prog 145 = true := by kernel_rfl
theorem cal149 : callable Try.prog 149 = true := by kernel_rfl
theorem cal151 : callable Try.prog 151 = true := by kernel_rfl
theorem cal152 : callable Try.prog 152 = true := by kernel_rfl
theorem cal153 : callable Try.prog 153 = true := by kernel_rfl
theorem cal154 : callable Try.prog 154 = true := by kernel_rfl
theorem cal155 : callable Try.prog 155 = true := by kernel_rfl
theorem cal160 : callable Try.prog 160 = true := by kernel_rfl
theorem cal161 : callable Try.prog 161 = true := by kernel_rfl
theorem cal176 : callable Try.prog 176 = true := by kernel_rfl
theorem cal177 : callable Try.prog 177 = true := by kernel_rfl
theorem cal178 : callable Try.prog 178 = true := by kernel_rfl
theorem cal179 : callable Try.prog 179 = true := by kernel_rfl
theorem cal180 : callable Try.prog 180 = true := by kernel_rfl
theorem cal181 : callable Try.prog 181 = true := by kernel_rfl
theorem cal182 : callable Try.prog 182 = true := by kernel_rfl
theorem cal183 : callable Try.prog 183 = true := by kernel_rfl
theorem cal185 : callable Try.prog 185 = true := by kernel_rfl
theorem cal186 : callable Try.prog 186 = true := by kernel_rfl
theorem cal190 : callable Try.prog 190 = true := by kernel_rfl
theorem cal191 : callable Try.prog 191 = true := by kernel_rfl
theorem cal192 : callable Try.prog 192 = true := by kernel_rfl
theorem cal194 : callable Try.prog 194 = true := by kernel_rfl
theorem mixed : Try.prog.follows .mixedOrders = true := by kernel_rfl
def factsT2 := (And.intro (And.intro (And.intro fact_ok2 fact_cells2) (And.intro fact_bytes2 fact_agg2)) (And.intro (And.intro fact_und2 fact_int2) (And.intro fact_zok2 fact_zero2)))
def factsT3 := (And.intro (And.intro (And.intro fact_ok3 fact_cells3) (And.intro fact_bytes3 fact_agg3)) (And.intro (And.intro fact_und3 fact_int3) (And.intro fact_zok3 fact_zero3)))
def factsT4 := (And.intro (And.intro (And.intro fact_ok4 fact_cells4) (And.intro fact_bytes4 fact_agg4)) (And.intro (And.intro fact_und4 fact_int4) (And.intro fact_bool4 (And.intro fact_zok4 fact_zero4))))
def factsT5 := (And.intro (And.intro (And.intro fact_ok5 fact_cells5) (And.intro fact_bytes5 fact_agg5)) (And.intro (And.intro fact_und5 fact_int5) (And.intro fact_zok5 fact_zero5)))
def factsT9 := (And.intro (And.intro (And.intro fact_ok9 fact_cells9) (And.intro fact_bytes9 fact_agg9)) (And.intro (And.intro fact_und9 fact_int9) (And.intro fact_str9 (And.intro fact_zok9 fact_zero9))))
def factsT12 := (And.intro (And.intro (And.intro fact_ok12 fact_cells12) (And.intro fact_bytes12 fact_agg12)) (And.intro (And.intro fact_und12 fact_int12) (And.intro fact_zok12 fact_zero12)))
def factsT21 := (And.intro (And.intro (And.intro fact_ok21 fact_cells21) (And.intro fact_bytes21 fact_agg21)) (And.intro (And.intro fact_und21 fact_int21) (And.intro fact_zok21 fact_zero21)))
def factsT22 := (And.intro (And.intro (And.intro fact_ok22 fact_cells22) (And.intro fact_bytes22 (And.intro fact_agg22 fact_und22))) (And.intro (And.intro fact_int22 fact_el22) (And.intro fact_sl22 (And.intro fact_zok22 fact_zero22))))
def factsT23 := (And.intro (And.intro (And.intro fact_ok23 fact_cells23) (And.intro fact_bytes23 fact_agg23)) (And.intro (And.intro fact_und23 fact_int23) (And.intro fact_zok23 fact_zero23)))
def factsT25 := (And.intro (And.intro (And.intro fact_ok25 fact_cells25) (And.intro fact_bytes25 fact_agg25)) (And.intro (And.intro fact_und25 fact_int25) (And.intro fact_zok25 fact_zero25)))
def factsT36 := (And.intro (And.intro (And.intro fact_ok36 fact_cells36) (And.intro fact_bytes36 (And.intro fact_agg36 fact_und36))) (And.intro (And.intro fact_int36 fact_el36) (And.intro fact_sl36 (And.intro fact_zok36 fact_zero36))))
def factsT40 := (And.intro (And.intro fact_ok40 (And.intro fact_cells40 fact_bytes40)) (And.intro (And.intro fact_agg40 fact_und40) (And.intro fact_int40 fact_map40)))
def factsT42 := (And.intro (And.intro (And.intro fact_ok42 fact_cells42) (And.intro fact_bytes42 (And.intro fact_agg42 fact_und42))) (And.intro (And.intro fact_int42 fact_el42) (And.intro fact_sl42 (And.intro fact_zok42 fact_zero42))))
def factsT43 := (And.intro (And.intro (And.intro fact_ok43 fact_cells43) (And.intro fact_bytes43 (And.intro fact_agg43 fact_und43))) (And.intro (And.intro fact_int43 fact_el43) (And.intro fact_sl43 (And.intro fact_zok43 fact_zero43))))
def factsT44 := (And.intro (And.intro (And.intro fact_ok44 (And.intro fact_cells44 fact_bytes44)) (And.intro fact_agg44 (And.intro fact_und44 fact_int44))) (And.intro (And.intro fact_zok44 (And.intro fact_zero44 fact_fok44)) (And.intro fact_f0_44 (And.intro fact_f1_44 fact_f2_44))))
def factsT45 := (And.intro (And.intro (And.intro fact_ok45 (And.intro fact_cells45 fact_bytes45)) (And.intro fact_agg45 (And.intro fact_und45 fact_int45))) (And.intro (And.intro fact_zok45 (And.intro fact_zero45 fact_fok45)) (And.intro fact_f0_45 (And.intro fact_f1_45 fact_f2_45))))
def factsT46 := (And.intro (And.intro (And.intro fact_ok46 fact_cells46) (And.intro fact_bytes46 (And.intro fact_agg46 fact_und46))) (And.intro (And.intro fact_int46 fact_el46) (And.intro fact_sl46 (And.intro fact_zok46 fact_zero46))))
def factsT59 := (And.intro (And.intro (And.intro fact_ok59 fact_cells59) (And.intro fact_bytes59 (And.intro fact_agg59 fact_und59))) (And.intro (And.intro fact_int59 fact_el59) (And.intro fact_sl59 (And.intro fact_zok59 fact_zero59))))
def factsT62 := (And.intro (And.intro fact_ok62 (And.intro fact_cells62 fact_bytes62)) (And.intro (And.intro fact_agg62 fact_und62) (And.intro fact_int62 fact_map62)))
def factsT63 := (And.intro (And.intro fact_ok63 (And.intro fact_cells63 fact_bytes63)) (And.intro (And.intro fact_agg63 fact_und63) (And.intro fact_int63 fact_map63)))
def factsT64 := (And.intro (And.intro (And.intro fact_ok64 (And.intro fact_cells64 fact_bytes64)) (And.intro fact_agg64 (And.intro fact_und64 fact_int64))) (And.intro (And.intro fact_zok64 (And.intro fact_zero64 fact_fok64)) (And.intro fact_f0_64 (And.intro fact_f1_64 fact_f2_64))))
def factsT65 := (And.intro (And.intro (And.intro fact_ok65 (And.intro fact_cells65 fact_bytes65)) (And.intro fact_agg65 (And.intro fact_und65 fact_int65))) (And.intro (And.intro fact_zok65 (And.intro fact_zero65 fact_fok65)) (And.intro fact_f0_65 (And.intro fact_f1_65 fact_f2_65))))
def factsT71 := (And.intro (And.intro (And.intro fact_ok71 fact_cells71) (And.intro fact_bytes71 (And.intro fact_agg71 fact_und71))) (And.intro (And.intro fact_int71 fact_el71) (And.intro fact_sl71 (And.intro fact_zok71 fact_zero71))))
def factsT72 := (And.intro (And.intro (And.intro fact_ok72 fact_cells72) (And.intro fact_bytes72 (And.intro fact_agg72 fact_und72))) (And.intro (And.intro fact_int72 (And.intro fact_zok72 fact_zero72)) (And.intro fact_fok72 (And.intro fact_f0_72 fact_f1_72))))
def factsT73 := (And.intro (And.intro (And.intro fact_ok73 fact_cells73) (And.intro fact_bytes73 (And.intro fact_agg73 fact_und73))) (And.intro (And.intro fact_int73 (And.intro fact_zok73 fact_zero73)) (And.intro fact_fok73 (And.intro fact_f0_73 fact_f1_73))))
def factsT74 := (And.intro (And.intro (And.intro fact_ok74 fact_cells74) (And.intro fact_bytes74 (And.intro fact_agg74 fact_und74))) (And.intro (And.intro fact_int74 fact_el74) (And.intro fact_sl74 (And.intro fact_zok74 fact_zero74))))
def factsT92 := (And.intro (And.intro (And.intro fact_ok92 fact_cells92) (And.intro fact_bytes92 (And.intro fact_agg92 fact_und92))) (And.intro (And.intro fact_int92 fact_el92) (And.intro fact_sl92 (And.intro fact_zok92 fact_zero92))))
def factsT95 := (And.intro (And.intro fact_ok95 (And.intro fact_cells95 fact_bytes95)) (And.intro (And.intro fact_agg95 fact_und95) (And.intro fact_int95 fact_map95)))
def factsT97 := (And.intro (And.intro (And.intro fact_ok97 fact_cells97) (And.intro fact_bytes97 fact_agg97)) (And.intro (And.intro fact_und97 fact_int97) (And.intro fact_zok97 fact_zero97)))
def factsT98 := (And.intro (And.intro (And.intro fact_ok98 (And.intro fact_cells98 fact_bytes98)) (And.intro fact_agg98 (And.intro fact_und98 fact_int98))) (And.intro (And.intro fact_zok98 (And.intro fact_zero98 fact_fok98)) (And.intro fact_f0_98 (And.intro fact_f1_98 fact_f2_98))))
def factsT99 := (And.intro (And.intro (And.intro fact_ok99 (And.intro fact_cells99 fact_bytes99)) (And.intro fact_agg99 (And.intro fact_und99 fact_int99))) (And.intro (And.intro fact_zok99 (And.intro fact_zero99 fact_fok99)) (And.intro fact_f0_99 (And.intro fact_f1_99 fact_f2_99))))
def factsT115 := (And.intro (And.intro (And.intro fact_ok115 fact_cells115) (And.intro fact_bytes115 (And.intro fact_agg115 fact_und115))) (And.intro (And.intro fact_int115 fact_arr115) (And.intro fact_zok115 (And.intro fact_zero115 fact_fok115))))
def factsT142 := (And.intro (And.intro (And.intro fact_ok142 fact_cells142) (And.intro fact_bytes142 fact_agg142)) (And.intro (And.intro fact_und142 fact_int142) (And.intro fact_zok142 fact_zero142)))
def factsT150 := (And.intro (And.intro fact_ok150 (And.intro fact_cells150 fact_bytes150)) (And.intro fact_agg150 (And.intro fact_und150 fact_int150)))
def factsT151 := (And.intro (And.intro fact_ok151 (And.intro fact_cells151 fact_bytes151)) (And.intro (And.intro fact_agg151 fact_und151) (And.intro fact_int151 fact_flt151)))
def factsT178 := (And.intro (And.intro (And.intro fact_ok178 fact_cells178) (And.intro fact_bytes178 fact_agg178)) (And.intro (And.intro fact_und178 fact_int178) (And.intro fact_zok178 fact_zero178)))
def factsT186 := (And.intro (And.intro (And.intro fact_ok186 fact_cells186) (And.intro fact_bytes186 fact_agg186)) (And.intro (And.intro fact_und186 fact_int186) (And.intro fact_zok186 fact_zero186)))
def factsT197 := (And.intro (And.intro (And.intro fact_ok197 fact_cells197) (And.intro fact_bytes197 fact_agg197)) (And.intro (And.intro fact_und197 fact_int197) (And.intro fact_zok197 fact_zero197)))
attribute [go_sem] factsT2 factsT3 factsT4 factsT5 factsT9 factsT12 factsT21 factsT22 factsT23 factsT25 factsT36 factsT40 factsT42 factsT43 factsT44 factsT45 factsT46 factsT59 factsT62 factsT63 factsT64 factsT65 factsT71 factsT72 factsT73 factsT74 factsT92 factsT95 factsT97 factsT98 factsT99 factsT115 factsT142 factsT150 factsT151 factsT178 factsT186 factsT197
end Go.Proofs.Ytpkampecmlpfmaa.T

end
section
set_option linter.unusedSimpArgs false
set_option linter.unusedVariables false
/- Vectors, walked. -/
namespace Go.Proofs.Ytpkampecmlpfmaa.T
open Go Go.VL Go.Proofs
set_option maxRecDepth 100000

theorem min_fun (l : List Int) (h : 1 ≤ l.length) : Fun Try.prog 152 [.lst (ints .i16 l)] fun r => r = .v (.int .i16 (minL l)) := by
  refine Fun.of_awpI Try.func152 rfl cal152 Try.ntmps152 (by simp) fun hwf => ?_
  simp only [D.wfs, D.wf, ints_length, ints_wfs, rows_length, rows_wfs, capMax, and_true, true_and] at hwf
  repeat' (first | simp only [go_sem, Ret_eq Try.results152] | simp (disch := omega) only [arith, IntKind.bits, capMax, fill_len, elt_fill] | fail)
  refine awpI_for (l.length - 1) (fun k => True) (fun k => [(3, .v (.int .i16 ((l.take (k + 1)).foldl mn (l.getD 0 0)))), (4, .v (.int .i64 ((k + 1 : Nat) : Int)))]) (fun _ => []) [0] [] _ (Weak.refl _) trivial ?_ ?_ ?_
  · simp only [go_sem, Ret_eq Try.results152]
    rw [foldl_take_snoc (d := 0) h]
    simp [mn]
  · simp only [go_sem, Ret_eq Try.results152]
  · intro k s hk _ hs
    simp only [go_sem, Ret_eq Try.results152] at hs
    by_cases hkl : k + 1 < l.length
    · have e := foldl_take_snoc (g := mn) (b := l.getD 0 0) (d := 0) hkl
      repeat' (first | simp only [go_sem, hs, minD_cons, minD_nil, Ret_eq Try.results152] | simp (disch := omega) only [arith, IntKind.bits, capMax, fill_len, elt_fill] | (refine Again.up (by omega) ?_ ?_) | fail)
      rw [e]; rfl
    · repeat' (first | simp only [go_sem, hs, Ret_eq Try.results152] | simp (disch := omega) only [arith, IntKind.bits, capMax, fill_len, elt_fill] | fail)
      rw [List.take_of_length_le (by omega)]; rfl

theorem vecCheck_fun (l : List Int) : Fun Try.prog 122 [.lst (ints .i16 l)] fun r => r = .v (.int .i64 (vecErr l)) := by
  refine Fun.of_awpI Try.func122 rfl cal122 Try.ntmps122 (by simp) fun hwf => ?_
  simp only [D.wfs, D.wf, ints_length, ints_wfs, rows_length, rows_wfs, capMax, and_true, true_and] at hwf
  repeat' (first | simp only [go_sem, Ret_eq Try.results122] | (with_reducible refine condI_dec (fun hq hqb => ?_) (fun hq hqb => ?_) <;> simp only [KP_mk, hqb]) | (refine opCallI_rd (by simp only [go_sem, Ret_eq Try.results122]; first | done | rfl) (min_fun _ (by omega)) (by rintro _ rfl; rfl) ?_; rintro _ rfl) | fail)
  · rw [vecErr_len (by omega)]
  · rw [vecErr_len (by omega)]
  · rw [vecErr_min (by omega) (by omega), if_pos (by omega)]
  · rw [vecErr_min (by omega) (by omega), if_neg (by omega)]

theorem refVecCheck_fun (l : List Int) : Fun Try.prog 108 [.lst (ints .i16 l)] fun r => r = .v (.int .i64 (vecErr l)) := by
  refine Fun.of_awpI Try.func108 rfl cal108 Try.ntmps108 (by simp) fun hwf => ?_
  simp only [D.wfs, D.wf, ints_length, ints_wfs, rows_length, rows_wfs, capMax, and_true, true_and] at hwf
  repeat' (first | simp only [go_sem, Ret_eq Try.results108] | (with_reducible refine condI_dec (fun hq hqb => ?_) (fun hq hqb => ?_) <;> simp only [KP_mk, hqb]) | fail)
  · rw [vecErr_len (by omega)]
  · rw [vecErr_len (by omega)]
  · refine awpI_for l.length (fun k => ∀ i, i < k → ¬ l.getD i 0 < -32767) (fun k => [(15, .v (.int .i64 k))]) (fun _ => []) [13, 14] [] _ (Weak.refl _) (by omega) ?_ ?_ ?_
    · simp only [go_sem, Ret_eq Try.results108]
    · simp only [go_sem, Ret_eq Try.results108]
    · intro k s hk hQ hs
      simp only [go_sem, Ret_eq Try.results108] at hs
      by_cases hka : k < l.length
      · repeat' (first | simp only [go_sem, hs, Ret_eq Try.results108] | simp (disch := omega) only [arith, IntKind.bits, capMax, fill_len, elt_fill] | (with_reducible refine condI_dec (fun hq hqb => ?_) (fun hq hqb => ?_) <;> simp only [KP_mk, hqb]) | (refine Again.up (by omega) ?_ ?_) | fail)
        · rw [vecErr_at hka (by assumption)]
        · intro i hi
          rcases Nat.lt_or_ge i k with h | h
          · exact hQ i h
          · obtain rfl : i = k := by omega
            assumption
      · obtain rfl : k = l.length := by omega
        repeat' (first | simp only [go_sem, hs, Ret_eq Try.results108] | simp (disch := omega) only [arith, IntKind.bits, capMax, fill_len, elt_fill] | fail)
        rw [vecErr_all (by omega) (by omega) hQ]

end Go.Proofs.Ytpkampecmlpfmaa.T

end
section
set_option linter.unusedSimpArgs false
set_option linter.unusedVariables false
/- Cuts and cells, walked. -/
namespace Go.Proofs.Ytpkampecmlpfmaa.T
open Go Go.VL Go.Proofs
set_option maxRecDepth 100000
set_option maxHeartbeats 4000000

theorem isNaN16_fun (x : Int) : Fun Try.prog 161 [.v (.int .i16 x)] fun r => r = .v (.bool false) := by
  refine Fun.of_awpI Try.func161 rfl cal161 Try.ntmps161 (by simp) fun hwf => ?_
  simp only [D.wfs, D.wf, ints_length, ints_wfs, rows_length, rows_wfs, capMax, and_true, true_and] at hwf
  repeat' (first | simp only [go_sem, bne_self_eq_false, Ret_eq Try.results161] | fail)

theorem less16_fun (x y : Int) : Fun Try.prog 140 [.v (.int .i16 x), .v (.int .i16 y)] fun r => r = .v (.bool (decide (x < y))) := by
  refine Fun.of_awpI Try.func140 rfl cal140 Try.ntmps140 (by simp) fun hwf => ?_
  simp only [D.wfs, D.wf, ints_length, ints_wfs, rows_length, rows_wfs, capMax, and_true, true_and] at hwf
  repeat' (first | simp only [go_sem, Ret_eq Try.results140] | (refine opCallI_rd (by simp only [go_sem, Ret_eq Try.results140]; first | done | rfl) (isNaN16_fun x) (by rintro _ rfl; rfl) ?_; rintro _ rfl) | fail)

theorem isSorted16_fun (c : List Int) : Fun Try.prog 93 [.lst (ints .i16 c)] fun r => r = .v (.bool (decide (Rises c))) := by
  refine Fun.of_awpI Try.func93 rfl cal93 Try.ntmps93 (by simp) fun hwf => ?_
  simp only [D.wfs, D.wf, ints_length, ints_wfs, rows_length, rows_wfs, capMax, and_true, true_and] at hwf
  repeat' (first | simp only [go_sem, Ret_eq Try.results93] | simp (disch := omega) only [arith, IntKind.bits, capMax, fill_len, elt_fill] | fail)
  refine awpI_for (c.length - 1) (fun k => ∀ i, i + 1 < c.length → c.length - 1 - k ≤ i → c.getD i 0 ≤ c.getD (i + 1) 0) (fun k => [(3, .v (.int .i64 (c.length - 1 - k)))]) (fun _ => []) [0] [] _ (Weak.refl _) (fun i h1 h2 => by omega) ?_ ?_ ?_
  · simp only [go_sem, Ret_eq Try.results93]
    simp
  · simp only [go_sem, Ret_eq Try.results93]
  · intro k s hk hQ hs
    simp only [go_sem, Ret_eq Try.results93] at hs
    by_cases hka : k < c.length - 1
    · have t1 : ((c.length : Int) - 1 - k).toNat = c.length - 1 - k := by omega
      have t2 : ((c.length : Int) - 1 - k - 1).toNat = c.length - 2 - k := by omega
      repeat' (first | simp only [go_sem, hs, t1, t2, Ret_eq Try.results93] | simp (disch := omega) only [arith, IntKind.bits, capMax, fill_len, elt_fill] | (with_reducible refine condI_dec (fun hq hqb => ?_) (fun hq hqb => ?_) <;> simp only [KP_mk, hqb]) | (refine awpI_draw2 (id := 4) (.one false 0 (.one false 1 (.one false 2 (.one false 3 (.one false 4 (.one false 5 (.one false 6 (.one false 7 (.one false 8 (.only 9 .done)))))))))) mixed (by decide +kernel) (by decide +kernel) ?_) | (refine Again.up (by omega) ?_ ?_) | (refine opCallI_rd (by simp only [go_sem, hs, t1, t2, Ret_eq Try.results93]; first | done | rfl) (less16_fun _ _) (by rintro _ rfl; rfl) ?_; rintro _ rfl) | fail)
      · rw [decide_eq_false]
        intro hr
        have := hr (c.length - 2 - k) (by omega)
        rw [show c.length - 2 - k + 1 = c.length - 1 - k by omega] at this
        omega
      · intro i h1 h2
        by_cases hi : i = c.length - 2 - k
        · subst hi
          rw [show c.length - 2 - k + 1 = c.length - 1 - k by omega]
          omega
        · exact hQ i h1 (by omega)
      · omega
    · repeat' (first | simp only [go_sem, hs, Ret_eq Try.results93] | simp (disch := omega) only [arith, IntKind.bits, capMax, fill_len, elt_fill] | fail)
      rw [decide_eq_true]
      exact fun i hi => hQ i hi (by omega)

theorem rankOdd_fun (x : Int) : Fun Try.prog 88 [.v (.int .i16 x)] fun r => r = .v (.bool (decide (x < -32767))) := by
  refine Fun.of_awpI Try.func88 rfl cal88 Try.ntmps88 (by simp) fun hwf => ?_
  simp only [D.wfs, D.wf, ints_length, ints_wfs, rows_length, rows_wfs, capMax, and_true, true_and] at hwf
  repeat' (first | simp only [go_sem, Ret_eq Try.results88] | fail)

theorem rankCheck_fun (c : List Int) : Fun Try.prog 30 [.lst (ints .i16 c)] fun r => r = .v (.int .i64 (cutsErr c)) := by
  refine Fun.of_awpI Try.func30 rfl cal30 Try.ntmps30 (by simp) fun hwf => ?_
  simp only [D.wfs, D.wf, ints_length, ints_wfs, rows_length, rows_wfs, capMax, and_true, true_and] at hwf
  by_cases h : Rises c
  · repeat' (first | simp only [go_sem, h, Ret_eq Try.results30] | simp (disch := omega) only [arith, IntKind.bits, capMax, fill_len, elt_fill] | (with_reducible refine condI_dec (fun hq hqb => ?_) (fun hq hqb => ?_) <;> simp only [KP_mk, hqb]) | (refine opCallI_rd (by simp only [go_sem, h, Ret_eq Try.results30]; first | done | rfl) (isSorted16_fun c) (by rintro _ rfl; rfl) ?_; rintro _ rfl) | (refine opCallI_rd (by simp only [go_sem, h, Ret_eq Try.results30]; first | done | rfl) (rankOdd_fun _) (by rintro _ rfl; rfl) ?_; rintro _ rfl) | fail)
    all_goals first | exact (cutsErr_zero.2 ⟨by omega, h, by omega⟩).symm | (rw [cutsErr_one (fun q => by have h1 := q.1; have h2 := q.2.2; omega)]; done)
  · rw [cutsErr_one (fun q => h q.2.1)]
    repeat' (first | simp only [go_sem, h, Ret_eq Try.results30] | (with_reducible refine condI_dec (fun hq hqb => ?_) (fun hq hqb => ?_) <;> simp only [KP_mk, hqb]) | (refine opCallI_rd (by simp only [go_sem, h, Ret_eq Try.results30]; first | done | rfl) (isSorted16_fun c) (by rintro _ rfl; rfl) ?_; rintro _ rfl) | fail)

end Go.Proofs.Ytpkampecmlpfmaa.T

end
section
/- Whole numbers as floats: no bit is lost. -/
namespace Go.VL
open Go Ieee
/-- The word b stands for the whole number m with its sign. -/
def Stands (b : Nat) (s : Bool) (m : Nat) : Prop := m < 2 ^ 53 ∧ ∃ k : Nat, double.read b = .number s (m * 2 ^ k) (-(k : Int))
def iv (s : Bool) (m : Nat) : Int := if s then -(m : Int) else m

theorem sw : double.signWeight = 2 ^ 63 := rfl
theorem bi : double.binade = 2 ^ 52 := rfl
theorem lp : double.leastPlace = -1074 := by decide
theorem ir : double.infRung = 2047 * 2 ^ 52 := by decide

theorem read_word {s : Bool} {rung : Nat} (h : rung < 2 ^ 63) : double.word s rung / double.signWeight % 2 = s.toNat ∧ double.word s rung % double.signWeight = rung := by
  rw [sw]
  unfold Format.word
  rw [sw]
  cases s
  · simp only [Bool.false_eq_true, if_false, Bool.toNat_false]; omega
  · simp only [if_true, Bool.toNat_true]; omega

theorem cut_none (s : Bool) (n d : Nat) (hd : d ≤ (n * 2 ^ d).log2 + 2) : Toward.even.cut s (n * 2 ^ d) d = n := by
  unfold Toward.cut
  have hp : 0 < 2 ^ d := Nat.pow_pos (by decide)
  rw [Nat.min_eq_left hd, Nat.shiftLeft_eq, Nat.one_mul]
  simp only [Nat.mul_mod_left, Nat.mul_div_cancel _ hp, Nat.mul_zero]
  have h1 : decide (2 ^ d < 0) = false := by simp
  have h2 : (2 ^ d == 0) = false := by simp
  rw [h1, h2]
  rfl
theorem log2_shift {m j : Nat} (h : m ≠ 0) : (m * 2 ^ j).log2 = m.log2 + j := by
  have hp : 0 < 2 ^ j := Nat.pow_pos (by decide)
  have hN : m * 2 ^ j ≠ 0 := Nat.mul_ne_zero h (Nat.ne_of_gt hp)
  rw [Nat.log2_eq_iff hN]
  obtain ⟨h1, h2⟩ := (Nat.log2_eq_iff h).1 rfl
  constructor
  · rw [Nat.pow_add]; exact Nat.mul_le_mul_right _ h1
  · rw [show m.log2 + j + 1 = (m.log2 + 1) + j by omega, Nat.pow_add]
    exact Nat.mul_lt_mul_of_pos_right h2 hp

/-- Rounding keeps a whole number. -/
theorem write_stands (s : Bool) (m j : Nat) (hm : m < 2 ^ 53) : Stands (double.write (.number s (m * 2 ^ j) (-(j : Int)))) s m := by
  refine ⟨hm, ?_⟩
  show ∃ k : Nat, double.read (double.nearest s (m * 2 ^ j) (-(j : Int))) = _
  unfold Format.nearest
  by_cases h0 : m = 0
  · subst h0
    rw [if_pos (by simp)]
    obtain ⟨K, hK⟩ : ∃ K : Nat, K = 1074 := ⟨_, rfl⟩
    refine ⟨K, ?_⟩
    obtain ⟨h1, h2⟩ := read_word (s := s) (rung := 0) (by decide)
    unfold Format.read
    simp only [h1, h2]
    rw [if_pos (by decide), lp, Nat.zero_mul, hK]
    cases s <;> rfl
  · have hN : m * 2 ^ j ≠ 0 := Nat.mul_ne_zero h0 (Nat.ne_of_gt (Nat.pow_pos (by decide)))
    rw [if_neg hN]
    have hlog := log2_shift (j := j) h0
    obtain ⟨g1, g2⟩ := (Nat.log2_eq_iff h0).1 rfl
    have hl52 : m.log2 ≤ 52 := by
      have := (Nat.log2_lt h0).2 hm
      omega
    obtain ⟨K, hK⟩ : ∃ K, m.log2 = 52 - K ∧ K ≤ 52 := ⟨52 - m.log2, by omega, by omega⟩
    have hlast : max (-(j : Int) + ((m * 2 ^ j).log2 : Int) - (double.fractionBits : Int)) double.leastPlace = -(K : Int) := by
      rw [hlog, lp, show (double.fractionBits : Int) = 52 from rfl]
      omega
    have hM1 : 2 ^ 52 ≤ m * 2 ^ K := by
      have : 2 ^ (52 - K) * 2 ^ K ≤ m * 2 ^ K := Nat.mul_le_mul_right _ (hK.1 ▸ g1)
      rwa [← Nat.pow_add, show 52 - K + K = 52 by omega] at this
    have hM2 : m * 2 ^ K < 2 ^ 53 := by
      have : m * 2 ^ K < 2 ^ (52 - K + 1) * 2 ^ K := Nat.mul_lt_mul_of_pos_right (hK.1 ▸ g2) (Nat.pow_pos (by decide))
      rwa [← Nat.pow_add, show 52 - K + 1 + K = 53 by omega] at this
    have hkept : Toward.even.cut s ((m * 2 ^ j) <<< (-(j : Int) - -(K : Int)).toNat) (-(K : Int) - -(j : Int)).toNat = m * 2 ^ K := by
      rcases Nat.le_total j K with hjk | hjk
      · rw [show (-(j : Int) - -(K : Int)).toNat = K - j by omega, show (-(K : Int) - -(j : Int)).toNat = 0 by omega, Nat.shiftLeft_eq, Nat.mul_assoc, ← Nat.pow_add, show j + (K - j) = K by omega]
        have := cut_none s (m * 2 ^ K) 0 (by omega)
        rwa [Nat.pow_zero, Nat.mul_one] at this
      · rw [show (-(j : Int) - -(K : Int)).toNat = 0 by omega, show (-(K : Int) - -(j : Int)).toNat = j - K by omega, Nat.shiftLeft_eq, Nat.pow_zero, Nat.mul_one]
        have e : m * 2 ^ j = m * 2 ^ K * 2 ^ (j - K) := by rw [Nat.mul_assoc, ← Nat.pow_add, show K + (j - K) = j by omega]
        rw [e]
        refine cut_none s (m * 2 ^ K) (j - K) ?_
        rw [← e, hlog]
        omega
    simp only [hlast, hkept]
    refine ⟨K, ?_⟩
    generalize m * 2 ^ K = M at *
    have hrung : (-(K : Int) - double.leastPlace).toNat = 1074 - K := by rw [lp]; omega
    rw [hrung, bi, ir]
    have hbig : (1074 - K) * 2 ^ 52 + M ≤ 2047 * 2 ^ 52 := by omega
    rw [Nat.min_eq_left hbig]
    obtain ⟨h1, h2⟩ := read_word (s := s) (rung := (1074 - K) * 2 ^ 52 + M) (by omega)
    unfold Format.read
    simp only [h1, h2, bi, ir, lp]
    rw [if_neg (by omega), if_pos (by omega)]
    have e1 : 2 ^ 52 + ((1074 - K) * 2 ^ 52 + M) % 2 ^ 52 = M := by omega
    have e2 : ((1074 - K) * 2 ^ 52 + M) / 2 ^ 52 - 1 = 1074 - K := by omega
    rw [e1, e2]
    have e3 : (-1074 : Int) + ((1074 - K : Nat) : Int) = -(K : Int) := by omega
    rw [e3]
    cases s <;> rfl
theorem signed_iv (s : Bool) (m k : Nat) : signed s m k = iv s m * 2 ^ k := by
  unfold signed iv
  rw [Nat.shiftLeft_eq]
  cases s <;> simp [Int.neg_mul]
theorem mul_stands {x y m n : Nat} {s t : Bool} (hx : Stands x s m) (hy : Stands y t n) (h : m * n < 2 ^ 53) : ∃ r, double.mul x y = some r ∧ Stands r (s ^^ t) (m * n) := by
  obtain ⟨_, k, hk⟩ := hx
  obtain ⟨_, l, hl⟩ := hy
  unfold Format.mul
  rw [hk, hl]
  refine ⟨_, rfl, ?_⟩
  have := write_stands (s ^^ t) (m * n) (k + l) h
  have e1 : m * 2 ^ k * (n * 2 ^ l) = m * n * 2 ^ (k + l) := by rw [Nat.pow_add]; ac_rfl
  have e2 : -(k : Int) + -(l : Int) = -((k + l : Nat) : Int) := by omega
  rw [e1, e2]
  exact this
theorem sum_stands {x m n : Nat} {s t : Bool} {k l : Nat} (hx : double.read x = .number s (m * 2 ^ k) (-(k : Int))) {d : Datum} (hd : d = .number t (n * 2 ^ l) (-(l : Int))) (h : (iv s m + iv t n).natAbs < 2 ^ 53) :
    ∃ r u q, (((double.read x).sum d).map double.write) = some r ∧ Stands r u q ∧ iv u q = iv s m + iv t n := by
  rw [hx, hd]
  have hp : (0 : Int) < 2 ^ max k l := Int.pow_pos (by decide)
  have hb : min (-(k : Int)) (-(l : Int)) = -((max k l : Nat) : Int) := by omega
  have t1 : signed s (m * 2 ^ k) (-(k : Int) - -((max k l : Nat) : Int)).toNat = iv s m * 2 ^ max k l := by
    rw [signed_iv, show (-(k : Int) - -((max k l : Nat) : Int)).toNat = max k l - k by omega]
    have e : (2 : Int) ^ max k l = 2 ^ k * 2 ^ (max k l - k) := by rw [← Int.pow_add]; congr 1; omega
    rw [e]
    unfold iv
    cases s <;> simp [Int.mul_assoc, Int.neg_mul]
  have t2 : signed t (n * 2 ^ l) (-(l : Int) - -((max k l : Nat) : Int)).toNat = iv t n * 2 ^ max k l := by
    rw [signed_iv, show (-(l : Int) - -((max k l : Nat) : Int)).toNat = max k l - l by omega]
    have e : (2 : Int) ^ max k l = 2 ^ l * 2 ^ (max k l - l) := by rw [← Int.pow_add]; congr 1; omega
    rw [e]
    unfold iv
    cases t <;> simp [Int.mul_assoc, Int.neg_mul]
  simp only [Datum.sum, hb, t1, t2]
  rw [← Int.add_mul]
  generalize hz : iv s m + iv t n = z at *
  have e3 : (z * 2 ^ max k l).natAbs = z.natAbs * 2 ^ max k l := by rw [Int.natAbs_mul, Int.natAbs_pow]; rfl
  rw [e3]
  refine ⟨_, _, z.natAbs, rfl, write_stands _ z.natAbs (max k l) h, ?_⟩
  by_cases h0 : z = 0
  · subst h0
    unfold iv
    split <;> simp
  · have hne : z * 2 ^ max k l ≠ 0 := Int.mul_ne_zero h0 (Int.ne_of_gt hp)
    rw [if_neg hne]
    unfold iv
    by_cases hneg : z < 0
    · rw [decide_eq_true (Int.mul_neg_of_neg_of_pos hneg hp), if_pos rfl]; omega
    · have : ¬ z * 2 ^ max k l < 0 := by
        have := Int.mul_nonneg (show 0 ≤ z by omega) (Int.le_of_lt hp)
        omega
      rw [decide_eq_false this, if_neg (by decide)]; omega

/-- The word b stands for the whole number z. -/
def IV (b : Nat) (z : Int) : Prop := ∃ s m, Stands b s m ∧ iv s m = z
theorem iv_abs (s : Bool) (m : Nat) : (iv s m).natAbs = m := by unfold iv; cases s <;> simp
theorem iv_mul (s t : Bool) (m n : Nat) : iv (s ^^ t) (m * n) = iv s m * iv t n := by unfold iv; cases s <;> cases t <;> simp [Int.neg_mul, Int.mul_neg]
theorem iv_neg (s : Bool) (m : Nat) : iv (!s) m = - iv s m := by unfold iv; cases s <;> simp
theorem IV.nearest {z : Int} (h : z.natAbs < 2 ^ 53) : IV (FloatKind.f64.nearest z) z := by
  refine ⟨decide (z < 0), z.natAbs, ?_, ?_⟩
  · have := write_stands (decide (z < 0)) z.natAbs 0 h
    show Stands (double.write (.number (decide (z < 0)) z.natAbs 0)) _ _
    simpa using this
  · unfold iv
    by_cases hz : z < 0
    · rw [decide_eq_true hz, if_pos rfl]; omega
    · rw [decide_eq_false hz, if_neg (by decide)]; omega
theorem IV.mul {x y : Nat} {a b : Int} (hx : IV x a) (hy : IV y b) (h : (a * b).natAbs < 2 ^ 53) : ∃ r, double.mul x y = some r ∧ IV r (a * b) := by
  obtain ⟨s, m, h1, rfl⟩ := hx
  obtain ⟨t, n, h2, rfl⟩ := hy
  obtain ⟨r, h3, h4⟩ := mul_stands h1 h2 (by rwa [Int.natAbs_mul, iv_abs, iv_abs] at h)
  exact ⟨r, h3, _, _, h4, iv_mul s t m n⟩
theorem IV.add {x y : Nat} {a b : Int} (hx : IV x a) (hy : IV y b) (h : (a + b).natAbs < 2 ^ 53) : ∃ r, double.add x y = some r ∧ IV r (a + b) := by
  obtain ⟨s, m, ⟨_, k, h1⟩, rfl⟩ := hx
  obtain ⟨t, n, ⟨_, l, h2⟩, rfl⟩ := hy
  obtain ⟨r, u, q, h3, h4, h5⟩ := sum_stands h1 h2 h
  exact ⟨r, h3, u, q, h4, h5⟩
theorem IV.sub {x y : Nat} {a b : Int} (hx : IV x a) (hy : IV y b) (h : (a - b).natAbs < 2 ^ 53) : ∃ r, double.sub x y = some r ∧ IV r (a - b) := by
  obtain ⟨s, m, ⟨_, k, h1⟩, rfl⟩ := hx
  obtain ⟨t, n, ⟨_, l, h2⟩, rfl⟩ := hy
  have h2' : (double.read y).opposite = .number (!t) (n * 2 ^ l) (-(l : Int)) := by rw [h2]; rfl
  obtain ⟨r, u, q, h3, h4, h5⟩ := sum_stands h1 h2' (by rw [iv_neg]; exact h)
  exact ⟨r, h3, u, q, h4, by rw [h5, iv_neg]; rfl⟩
theorem IV.toInt {x : Nat} {z : Int} (hx : IV x z) {k : IntKind} (hk : k.min ≤ z ∧ z ≤ k.max) : floatToIntVal .f64 x k = some z := by
  obtain ⟨s, m, ⟨_, l, h1⟩, rfl⟩ := hx
  have key : (FloatKind.f64.decode x).toInt .zero = some (iv s m) := by
    show (double.read x).toInt .zero = _
    rw [h1]
    unfold Datum.toInt Datum.integral
    have e0 : ((-(l : Int)).toNat) = 0 := by omega
    have e1 : (- -(l : Int)).toNat = l := by omega
    simp only [e0, e1, Nat.shiftLeft_zero]
    have hc : Toward.zero.cut s (m * 2 ^ l) l = m := by
      unfold Toward.cut
      by_cases hm : m = 0
      · subst hm; simp
      · have hle : l ≤ (m * 2 ^ l).log2 + 2 := by rw [log2_shift hm]; omega
        rw [Nat.min_eq_left hle, Nat.shiftLeft_eq, Nat.one_mul]
        simp only [Nat.mul_div_cancel _ (Nat.pow_pos (by decide : 0 < 2)), Bool.toNat_false, Nat.add_zero]
    rw [hc, signed_iv]
    simp
  unfold floatToIntVal
  rw [key]
  simp only
  rw [if_pos hk]
/-- The product of two complex numbers of whole parts. -/
theorem cmul_ok {a b c d : Nat} {p q r s : Int} (ha : IV a p) (hb : IV b q) (hc : IV c r) (hd : IV d s) (hp : p.natAbs ≤ 1000000) (hq : q.natAbs ≤ 1000000) (hr : r.natAbs ≤ 1) (hs : s.natAbs ≤ 1) :
    ∃ x y, cmulB a b c d = some (x, y) ∧ IV x (p * r - q * s) ∧ IV y (p * s + q * r) := by
  have hpow : (2 : Nat) ^ 53 = 9007199254740992 := by decide
  have small : ∀ u v : Int, u.natAbs ≤ 1000000 → v.natAbs ≤ 1 → (u * v).natAbs ≤ 1000000 := by
    intro u v hu hv
    rw [Int.natAbs_mul]
    exact Nat.le_trans (Nat.mul_le_mul hu hv) (by decide)
  have s1 := small p r hp hr
  have s2 := small q s hq hs
  have s3 := small p s hp hs
  have s4 := small q r hq hr
  obtain ⟨x1, e1, i1⟩ := IV.mul ha hc (by omega)
  obtain ⟨x2, e2, i2⟩ := IV.mul hb hd (by omega)
  obtain ⟨x3, e3, i3⟩ := IV.sub i1 i2 (by omega)
  obtain ⟨x4, e4, i4⟩ := IV.mul ha hd (by omega)
  obtain ⟨x5, e5, i5⟩ := IV.mul hb hc (by omega)
  obtain ⟨x6, e6, i6⟩ := IV.add i4 i5 (by omega)
  exact ⟨x3, x6, by unfold cmulB; rw [e1]; simp only [Option.bind_some]; rw [e2]; simp only [Option.bind_some]; rw [e3]; simp only [Option.bind_some]; rw [e4]; simp only [Option.bind_some]; rw [e5]; simp only [Option.bind_some]; rw [e6]; rfl, i3, i6⟩
end Go.VL

end
section
/- Ways, and vectors turned, plainly. -/
namespace Go.Proofs.Ytpkampecmlpfmaa.T
open Go Go.VL Go.Proofs
def maxTwist : Int := 4611686018427387903
def dg (a i : Nat) : Nat := a / 4 ^ i % 4
theorem dg_lt (a i : Nat) : dg a i < 4 := Nat.mod_lt _ (by decide)
/-- Digit by digit. -/
def mapW (f : Nat → Nat → Nat) : Nat → Nat → Nat → Nat
  | 0, _, _ => 0
  | n + 1, a, b => 4 * mapW f n (a / 4) (b / 4) + f (a % 4) (b % 4) % 4
def lowN : Nat → Nat
  | 0 => 0
  | n + 1 => 4 * lowN n + 1
theorem xor4 (a d b e : Nat) (hd : d < 4) (he : e < 4) : (4 * a + d) ^^^ (4 * b + e) = 4 * (a ^^^ b) + (d ^^^ e) := by
  have hde : d ^^^ e < 2 ^ 2 := Nat.xor_lt_two_pow (by omega) (by omega)
  apply Nat.eq_of_testBit_eq
  intro i
  have key : ∀ x y, y < 4 → ∀ i, (4 * x + y).testBit i = if i < 2 then y.testBit i else x.testBit (i - 2) := by
    intro x y hy i
    have := Nat.testBit_two_pow_mul_add x (i := 2) (b := y) (by omega) i
    simpa using this
  rw [Nat.testBit_xor, key a d hd, key b e he, key _ _ (by omega)]
  split <;> simp [Nat.testBit_xor]
theorem and4 (a d b e : Nat) (hd : d < 4) (he : e < 4) : (4 * a + d) &&& (4 * b + e) = 4 * (a &&& b) + (d &&& e) := by
  have hde : d &&& e < 2 ^ 2 := Nat.and_lt_two_pow _ (by omega)
  apply Nat.eq_of_testBit_eq
  intro i
  have key : ∀ x y, y < 4 → ∀ i, (4 * x + y).testBit i = if i < 2 then y.testBit i else x.testBit (i - 2) := by
    intro x y hy i
    have := Nat.testBit_two_pow_mul_add x (i := 2) (b := y) (by omega) i
    simpa using this
  rw [Nat.testBit_and, key a d hd, key b e he, key _ _ (by omega)]
  split <;> simp [Nat.testBit_and]
def neg4 (d _e : Nat) : Nat := 4 - d
theorem not_bits : ∀ (n a : Nat), a < 4 ^ n → a ^^^ ((a &&& lowN n) * 2) = mapW neg4 n a 0
  | 0, a, h => by simp at h; subst h; rfl
  | n + 1, a, h => by
    rw [Nat.pow_succ] at h
    have ih := not_bits n (a / 4) (by omega)
    have ea : a = 4 * (a / 4) + a % 4 := by omega
    have hd : a % 4 < 4 := by omega
    generalize a / 4 = b at *
    generalize a % 4 = d at *
    subst ea
    rw [lowN, and4 b d (lowN n) 1 hd (by omega)]
    have h1 : d &&& 1 = d % 2 := Nat.and_one_is_mod d
    rw [h1, show (4 * (b &&& lowN n) + d % 2) * 2 = 4 * ((b &&& lowN n) * 2) + (d % 2) * 2 by omega, xor4 b d _ _ hd (by omega), ih]
    rw [mapW, show (4 * b + d) / 4 = b by omega, show (4 * b + d) % 4 = d by omega]
    congr 1
    have : d = 0 ∨ d = 1 ∨ d = 2 ∨ d = 3 := by omega
    rcases this with rfl | rfl | rfl | rfl <;> rfl
theorem low31 : lowN 31 = 1537228672809129301 := by decide
theorem abits_i64_xor {x y : Nat} (hx : x < 2 ^ 62) (hy : y < 2 ^ 62) : abits .xor .i64 x y = ((x ^^^ y : Nat) : Int) := by
  have hlt : x ^^^ y < 2 ^ 62 := Nat.xor_lt_two_pow hx hy
  show IntKind.i64.wrap (((BitVec.ofInt 64 (x : Int)) ^^^ (BitVec.ofInt 64 (y : Int)) : BitVec 64).toNat : Int) = _
  rw [BitVec.ofInt_natCast, BitVec.ofInt_natCast, BitVec.toNat_xor, BitVec.toNat_ofNat, BitVec.toNat_ofNat, Nat.mod_eq_of_lt (by omega), Nat.mod_eq_of_lt (by omega)]
  exact IntWalk.i64_in _ (by omega)
theorem abits_i64_and {x y : Nat} (hx : x < 2 ^ 62) (hy : y < 2 ^ 62) : abits .and .i64 x y = ((x &&& y : Nat) : Int) := by
  have hlt : x &&& y < 2 ^ 62 := Nat.and_lt_two_pow _ hy
  show IntKind.i64.wrap (((BitVec.ofInt 64 (x : Int)) &&& (BitVec.ofInt 64 (y : Int)) : BitVec 64).toNat : Int) = _
  rw [BitVec.ofInt_natCast, BitVec.ofInt_natCast, BitVec.toNat_and, BitVec.toNat_ofNat, BitVec.toNat_ofNat, Nat.mod_eq_of_lt (by omega), Nat.mod_eq_of_lt (by omega)]
  exact IntWalk.i64_in _ (by omega)
def wayErr (a : Int) : Int := if 0 ≤ a ∧ a ≤ maxTwist then 0 else 1
def notW (a : Int) : Int := (mapW neg4 31 a.toNat 0 : Nat)
theorem pow31 : (4 : Nat) ^ 31 = 2 ^ 62 := by decide
theorem low_double {x : Nat} : (x &&& 1537228672809129301) * 2 < 2 ^ 62 := by
  have : x &&& 1537228672809129301 ≤ 1537228672809129301 := Nat.and_le_right
  omega
theorem not_run {a : Int} (h : 0 ≤ a ∧ a ≤ maxTwist) : abits .xor .i64 a (IntKind.i64.wrap (abits .and .i64 a 1537228672809129301 * 2)) = notW a := by
  unfold maxTwist at h
  obtain ⟨n, rfl⟩ : ∃ n : Nat, a = n := ⟨a.toNat, by omega⟩
  have hn : n < 2 ^ 62 := by omega
  have e : (1537228672809129301 : Int) = ((1537228672809129301 : Nat) : Int) := rfl
  rw [e, abits_i64_and hn (by omega)]
  have h2 := low_double (x := n)
  have e2 : IntKind.i64.wrap (((n &&& 1537228672809129301 : Nat) : Int) * 2) = (((n &&& 1537228672809129301) * 2 : Nat) : Int) := by
    rw [IntWalk.i64_in _ (by omega)]; rfl
  rw [e2, abits_i64_xor hn h2, ← low31, not_bits 31 n (by rw [pow31]; exact hn)]
  rfl
-- turning
def cs (d : Nat) : Int := if d = 0 then 1 else if d = 2 then -1 else 0
def sn (d : Nat) : Int := if d = 1 then 1 else if d = 3 then -1 else 0
def rx (d : Nat) (x y : Int) : Int := x * cs d - y * sn d
def ry (d : Nat) (x y : Int) : Int := x * sn d + y * cs d
def turnAt (v : List Int) (w i : Nat) : Int :=
  if i < 62 ∧ i / 2 * 2 + 1 < v.length then
    (if i % 2 = 0 then rx (dg w (i / 2)) (v.getD i 0) (v.getD (i + 1) 0) else ry (dg w (i / 2)) (v.getD (i - 1) 0) (v.getD i 0))
  else v.getD i 0
def turnL (v : List Int) (w : Nat) : List Int := (List.range v.length).map (turnAt v w)
def turnErr (v : List Int) (w : Int) : Int := if vecErr v = 0 ∧ 0 ≤ w ∧ w ≤ maxTwist then 0 else 1
def turnOut (v : List Int) (w : Int) : List Int := if turnErr v w = 0 then turnL v w.toNat else []
theorem turnL_length {v : List Int} {w : Nat} : (turnL v w).length = v.length := by simp [turnL]
theorem turnL_getD {v : List Int} {w i : Nat} (h : i < v.length) : (turnL v w).getD i 0 = turnAt v w i := getD_map_range h
theorem rot_cases {d : Nat} (hd : d < 4) (x y : Int) : (d = 0 ∧ rx d x y = x ∧ ry d x y = y) ∨ (d = 1 ∧ rx d x y = -y ∧ ry d x y = x) ∨ (d = 2 ∧ rx d x y = -x ∧ ry d x y = -y) ∨ (d = 3 ∧ rx d x y = y ∧ ry d x y = -x) := by
  have : d = 0 ∨ d = 1 ∨ d = 2 ∨ d = 3 := by omega
  rcases this with rfl | rfl | rfl | rfl <;> simp [rx, ry, cs, sn]
theorem rot_range {d : Nat} (hd : d < 4) {x y : Int} (hx : -32767 ≤ x ∧ x ≤ 32767) (hy : -32767 ≤ y ∧ y ≤ 32767) : (-32767 ≤ rx d x y ∧ rx d x y ≤ 32767) ∧ (-32767 ≤ ry d x y ∧ ry d x y ≤ 32767) := by
  rcases rot_cases hd x y with ⟨_, h1, h2⟩ | ⟨_, h1, h2⟩ | ⟨_, h1, h2⟩ | ⟨_, h1, h2⟩ <;> omega
theorem turnAt_range {v : List Int} (h : ∀ i, -32767 ≤ v.getD i 0 ∧ v.getD i 0 ≤ 32767) (w i : Nat) : -32767 ≤ turnAt v w i ∧ turnAt v w i ≤ 32767 := by
  unfold turnAt
  split
  · split
    · exact (rot_range (dg_lt _ _) (h _) (h _)).1
    · exact (rot_range (dg_lt _ _) (h _) (h _)).2
  · exact h i
theorem vecOk_getD {v : List Int} (hv : I16s v) (h : vecOk v = true) (i : Nat) : -32767 ≤ v.getD i 0 ∧ v.getD i 0 ≤ 32767 := by
  obtain ⟨_, _, h3⟩ := vecOk_iff.1 h
  have h1 := hv.getD i
  by_cases hi : i < v.length
  · have := h3 _ (getD_mem (d := 0) hi); omega
  · rw [show v.getD i 0 = 0 by simp [List.getD, List.getElem?_eq_none (show v.length ≤ i by omega)]]; omega
theorem turnL_ok {v : List Int} (hv : I16s v) (h : vecOk v = true) (w : Nat) : vecOk (turnL v w) = true ∧ I16s (turnL v w) := by
  obtain ⟨h1, h2, _⟩ := vecOk_iff.1 h
  have hr := turnAt_range (vecOk_getD hv h) w
  constructor
  · rw [vecOk_iff, turnL_length]
    refine ⟨h1, h2, fun x hx => ?_⟩
    obtain ⟨i, _, rfl⟩ := List.mem_map.1 hx
    exact (hr i).1
  · intro x hx
    obtain ⟨i, _, rfl⟩ := List.mem_map.1 hx
    have := hr i
    omega
end Go.Proofs.Ytpkampecmlpfmaa.T

end
section
set_option linter.unusedSimpArgs false
set_option linter.unusedVariables false
/- Ways and turned vectors, walked. -/
namespace Go.Proofs.Ytpkampecmlpfmaa.T
open Go Go.VL Go.Proofs
set_option maxRecDepth 100000
set_option maxHeartbeats 4000000
theorem ofVal_cx {k : FloatKind} {a b : Nat} : D.ofVal (.complex k a b) = .v (.complex k a b) := (rfl)
theorem way_odd {a : Int} (h : ¬ (0 ≤ a ∧ a ≤ maxTwist)) : wayErr a = 1 := if_neg h
theorem way_even {a : Int} (h : 0 ≤ a ∧ a ≤ maxTwist) : wayErr a = 0 := if_pos h

theorem odd_fun (a : Int) : Fun Try.prog 128 [.v (.int .i64 a)] fun r => r = .v (.bool (decide (wayErr a ≠ 0))) := by
  refine Fun.of_awpI Try.func128 rfl cal128 Try.ntmps128 (by simp) fun hwf => ?_
  simp only [D.wfs, D.wf, ints_length, ints_wfs, rows_length, rows_wfs, capMax, and_true, true_and] at hwf
  repeat' (first | simp only [go_sem, Ret_eq Try.results128] | (with_reducible refine condI_dec (fun hq hqb => ?_) (fun hq hqb => ?_) <;> simp only [KP_mk, hqb]) | fail)
  all_goals
    unfold wayErr maxTwist
    first
    | (rw [if_pos (by omega)]; rfl)
    | (rw [if_neg (by omega)]; rfl)
    | (split <;> simp <;> omega)
def oneW : Nat := 4607182418800017408
def U : Nat → Nat × Nat
  | 0 => (oneW, 0)
  | k + 1 => (cmulB (U k).1 (U k).2 0 oneW).getD (0, 0)
theorem iv_one : IV oneW 1 := by
  have := IV.nearest (z := 1) (by decide)
  rwa [show FloatKind.f64.nearest 1 = oneW by decide +kernel] at this
theorem iv_zero : IV 0 0 := by
  have := IV.nearest (z := 0) (by decide)
  rwa [show FloatKind.f64.nearest 0 = 0 by decide +kernel] at this
theorem U_ok : ∀ k, k < 4 → IV (U k).1 (cs k) ∧ IV (U k).2 (sn k)
  | 0, _ => ⟨iv_one, iv_zero⟩
  | k + 1, h => by
    obtain ⟨h1, h2⟩ := U_ok k (by omega)
    have c1 : (cs k).natAbs ≤ 1000000 := by unfold cs; split <;> (try split) <;> decide
    have c2 : (sn k).natAbs ≤ 1000000 := by unfold sn; split <;> (try split) <;> decide
    obtain ⟨x, y, e, i1, i2⟩ := cmul_ok h1 h2 iv_zero iv_one c1 c2 (by decide) (by decide)
    have e1 : U (k + 1) = (x, y) := by show (cmulB _ _ _ _).getD _ = _; rw [e]; rfl
    rw [e1]
    have : k = 0 ∨ k = 1 ∨ k = 2 := by omega
    rcases this with rfl | rfl | rfl <;> exact ⟨i1, i2⟩
theorem U_step {k : Nat} (h : k < 4) : cmulB (U k).1 (U k).2 0 oneW = some (U (k + 1)) := by
  obtain ⟨h1, h2⟩ := U_ok k (by omega)
  have c1 : (cs k).natAbs ≤ 1000000 := by unfold cs; split <;> (try split) <;> decide
  have c2 : (sn k).natAbs ≤ 1000000 := by unfold sn; split <;> (try split) <;> decide
  obtain ⟨x, y, e, i1, i2⟩ := cmul_ok h1 h2 iv_zero iv_one c1 c2 (by decide) (by decide)
  have e1 : U (k + 1) = (x, y) := by show (cmulB _ _ _ _).getD _ = _; rw [e]; rfl
  rw [e1, e]

theorem unit_fun (d : Nat) (hd : d < 4) : Fun Try.prog 130 [.v (.int .i64 d)] fun r => r = .v (.complex .f64 (U d).1 (U d).2) := by
  refine Fun.of_awpI Try.func130 rfl cal130 Try.ntmps130 (by simp) fun hwf => ?_
  simp only [D.wfs, D.wf, ints_length, ints_wfs, rows_length, rows_wfs, capMax, and_true, true_and] at hwf
  repeat' (first | simp only [go_sem, ofVal_cx, Ret_eq Try.results130] | fail)
  refine awpI_for d (fun k => True) (fun k => [(3, .v (.complex .f64 (U k).1 (U k).2)), (5, .v (.int .i64 k))]) (fun _ => []) [4] [] _ (Weak.refl _) trivial ?_ ?_ ?_
  · simp only [go_sem, Ret_eq Try.results130]
    rfl
  · simp only [go_sem, Ret_eq Try.results130]
  · intro k s hk _ hs
    simp only [go_sem, Ret_eq Try.results130] at hs
    by_cases hka : k < d
    · have e := U_step (k := k) (by omega)
      unfold oneW at e
      repeat' (first | simp only [go_sem, hs, e, ofVal_cx, Ret_eq Try.results130] | simp (disch := omega) only [arith, IntKind.bits, capMax, fill_len, elt_fill] | (refine Again.up (by omega) ?_ ?_) | fail)
    · obtain rfl : k = d := by omega
      repeat' (first | simp only [go_sem, hs, ofVal_cx, Ret_eq Try.results130] | simp (disch := omega) only [arith, IntKind.bits, capMax, fill_len, elt_fill] | fail)
theorem wayErr_zero {a : Int} (h : wayErr a = 0) : 0 ≤ a ∧ a ≤ maxTwist := by
  unfold wayErr at h
  split at h
  · assumption
  · cases h
theorem wayErr_one {a : Int} (h : wayErr a ≠ 0) : wayErr a = 1 := way_odd fun h' => h (way_even h')
def notOut (a : Int) : Int := if wayErr a = 0 then notW a else 0
theorem notOut_ok {a : Int} (h : wayErr a = 0) : notOut a = notW a := if_pos h
theorem notOut_bad {a : Int} (h : wayErr a ≠ 0) : notOut a = 0 := if_neg h

theorem not_fun (a : Int) : Fun Try.prog 118 [.v (.int .i64 a)] fun r => r = .tup [.v (.int .i64 (notOut a)), .v (.int .i64 (wayErr a))] := by
  refine Fun.of_awpI Try.func118 rfl cal118 Try.ntmps118 (by simp) fun hwf => ?_
  simp only [D.wfs, D.wf, ints_length, ints_wfs, rows_length, rows_wfs, capMax, and_true, true_and] at hwf
  by_cases h : wayErr a = 0
  · have e := not_run (wayErr_zero h)
    rw [h, notOut_ok h]
    repeat' (first | simp only [go_sem, h, e, Ret_eq Try.results118] | simp (disch := omega) only [arith, IntKind.bits, capMax, fill_len, elt_fill] | (refine opCallI_rd (by simp only [go_sem, h, e, Ret_eq Try.results118]; first | done | rfl) (odd_fun a) (by rintro _ rfl; rfl) ?_; rintro _ rfl) | fail)
  · have h1 := wayErr_one h
    rw [h1, notOut_bad h]
    repeat' (first | simp only [go_sem, h1, Ret_eq Try.results118] | simp (disch := omega) only [arith, IntKind.bits, capMax, fill_len, elt_fill] | (refine opCallI_rd (by simp only [go_sem, h1, Ret_eq Try.results118]; first | done | rfl) (odd_fun a) (by rintro _ rfl; rfl) ?_; rintro _ rfl) | fail)
    all_goals rfl
end Go.Proofs.Ytpkampecmlpfmaa.T

end
section
set_option linter.unusedSimpArgs false
set_option linter.unusedVariables false
/- Vectors turned, walked. -/
namespace Go.Proofs.Ytpkampecmlpfmaa.T
open Go Go.VL Go.Proofs
set_option maxRecDepth 100000
set_option maxHeartbeats 4000000
/-- The first k pairs turned. -/
def outK (v : List Int) (w k : Nat) : List Int := (List.range v.length).map fun i => if i < 2 * k then turnAt v w i else v.getD i 0
theorem outK_length {v : List Int} {w k : Nat} : (outK v w k).length = v.length := by simp [outK]
theorem outK_getD {v : List Int} {w k i : Nat} (h : i < v.length) : (outK v w k).getD i 0 = if i < 2 * k then turnAt v w i else v.getD i 0 := getD_map_range h
theorem outK_zero {v : List Int} {w : Nat} : outK v w 0 = v := by
  refine ext_getD (d := 0) outK_length fun i hi => ?_
  rw [outK_length] at hi
  rw [outK_getD hi, if_neg (by omega)]
theorem outK_end {v : List Int} {w k : Nat} (h : k = 31 ∨ ¬ 2 * k + 1 < v.length) : outK v w k = turnL v w := by
  refine ext_getD (d := 0) (by rw [outK_length, turnL_length]) fun i hi => ?_
  rw [outK_length] at hi
  rw [outK_getD hi, turnL_getD hi]
  split
  · rfl
  · unfold turnAt
    rw [if_neg (by omega)]
theorem getD_set {l : List Int} {i j : Nat} {x d : Int} (h : i < l.length) : (l.set j x).getD i d = if i = j then x else l.getD i d := by
  by_cases hij : i = j
  · subst hij; simp [List.getD, h]
  · rw [if_neg hij]; simp [List.getD, List.getElem?_set_ne (Ne.symm hij)]
theorem turnAt_even {v : List Int} {w k : Nat} (h : 2 * k + 1 < v.length) (hk : k < 31) : turnAt v w (2 * k) = rx (dg w k) (v.getD (2 * k) 0) (v.getD (2 * k + 1) 0) := by
  unfold turnAt
  rw [show 2 * k / 2 = k by omega, if_pos (by omega), if_pos (by omega)]
theorem turnAt_odd {v : List Int} {w k : Nat} (h : 2 * k + 1 < v.length) (hk : k < 31) : turnAt v w (2 * k + 1) = ry (dg w k) (v.getD (2 * k) 0) (v.getD (2 * k + 1) 0) := by
  unfold turnAt
  rw [show (2 * k + 1) / 2 = k by omega, if_pos (by omega), if_neg (by omega), show 2 * k + 1 - 1 = 2 * k by omega]
theorem outK_succ {v : List Int} {w k : Nat} (h : 2 * k + 1 < v.length) (hk : k < 31) :
    ((outK v w k).set (2 * k) (rx (dg w k) (v.getD (2 * k) 0) (v.getD (2 * k + 1) 0))).set (2 * k + 1) (ry (dg w k) (v.getD (2 * k) 0) (v.getD (2 * k + 1) 0)) = outK v w (k + 1) := by
  refine ext_getD (d := 0) (by simp [outK_length]) fun i hi => ?_
  rw [List.length_set, List.length_set, outK_length] at hi
  rw [getD_set (by simp [outK_length]; omega), getD_set (by rw [outK_length]; omega), outK_getD hi, outK_getD hi]
  by_cases h1 : i = 2 * k + 1
  · subst h1; rw [if_pos rfl, if_pos (by omega), turnAt_odd h hk]
  · rw [if_neg h1]
    by_cases h2 : i = 2 * k
    · subst h2; rw [if_pos rfl, if_pos (by omega), turnAt_even h hk]
    · rw [if_neg h2]
      by_cases h3 : i < 2 * k
      · rw [if_pos h3, if_pos (by omega)]
      · rw [if_neg h3, if_neg (by omega)]
theorem outK_here {v : List Int} {w k : Nat} (h : 2 * k + 1 < v.length) : (outK v w k).getD (2 * k) 0 = v.getD (2 * k) 0 ∧ (outK v w k).getD (2 * k + 1) 0 = v.getD (2 * k + 1) 0 :=
  ⟨by rw [outK_getD (by omega), if_neg (by omega)], by rw [outK_getD h, if_neg (by omega)]⟩
theorem turnErr_iff {v : List Int} {w : Int} : turnErr v w = 0 ↔ vecErr v = 0 ∧ 0 ≤ w ∧ w ≤ maxTwist := by
  unfold turnErr
  split
  · exact ⟨fun _ => by assumption, fun _ => rfl⟩
  · constructor
    · intro h; cases h
    · intro h; contradiction
theorem turnErr_bad {v : List Int} {w : Int} (h : ¬ (vecErr v = 0 ∧ 0 ≤ w ∧ w ≤ maxTwist)) : turnErr v w = 1 := if_neg h
theorem turnOut_bad {v : List Int} {w : Int} (h : ¬ (vecErr v = 0 ∧ 0 ≤ w ∧ w ≤ maxTwist)) : turnOut v w = [] := by
  unfold turnOut
  rw [turnErr_bad h]; rfl
theorem turnOut_ok {v : List Int} {w : Int} (h : vecErr v = 0 ∧ 0 ≤ w ∧ w ≤ maxTwist) : turnOut v w = turnL v w.toNat := by
  unfold turnOut
  rw [turnErr_iff.2 h]; rfl
theorem dig_run {w k : Nat} (hw : w < 2 ^ 62) : abits .and .i64 ((w : Int).fdiv (2 ^ (2 * k))) 3 = (dg w k : Nat) := by
  have e1 : ((w : Int).fdiv (2 ^ (2 * k))) = ((w / 2 ^ (2 * k) : Nat) : Int) := by
    rw [Int.fdiv_eq_ediv_of_nonneg _ (Int.le_of_lt (Int.pow_pos (by decide)))]
    rw [show ((2 : Int) ^ (2 * k)) = ((2 ^ (2 * k) : Nat) : Int) by norm_cast]
    rfl
  have h1 : w / 2 ^ (2 * k) < 2 ^ 62 := Nat.lt_of_le_of_lt (Nat.div_le_self _ _) hw
  rw [e1, show (3 : Int) = ((3 : Nat) : Int) from rfl, abits_i64_and h1 (by decide)]
  unfold dg
  rw [show (3 : Nat) = 2 ^ 2 - 1 by decide, Nat.and_two_pow_sub_one_eq_mod, show (4 : Nat) ^ k = 2 ^ (2 * k) by rw [Nat.pow_mul]]
/-- What a pair's turn is as numbers. -/
theorem rot_run {d : Nat} (hd : d < 4) {x y : Int} (hx : -32767 ≤ x ∧ x ≤ 32767) (hy : -32767 ≤ y ∧ y ≤ 32767) :
    ∃ p q, cmulB (FloatKind.f64.nearest x) (FloatKind.f64.nearest y) (U d).1 (U d).2 = some (p, q) ∧ floatToIntVal .f64 p .i16 = some (rx d x y) ∧ floatToIntVal .f64 q .i16 = some (ry d x y) := by
  obtain ⟨i1, i2⟩ := U_ok d hd
  have c1 : (cs d).natAbs ≤ 1 := by unfold cs; split <;> (try split) <;> decide
  have c2 : (sn d).natAbs ≤ 1 := by unfold sn; split <;> (try split) <;> decide
  obtain ⟨p, q, e, j1, j2⟩ := cmul_ok (IV.nearest (z := x) (by omega)) (IV.nearest (z := y) (by omega)) i1 i2 (by omega) (by omega) c1 c2
  obtain ⟨⟨r1, r2⟩, ⟨r3, r4⟩⟩ := rot_range hd hx hy
  have m1 : IntKind.i16.min = -32768 := by decide
  have m2 : IntKind.i16.max = 32767 := by decide
  exact ⟨p, q, e, j1.toInt (k := .i16) (by rw [m1, m2]; unfold rx at r1 r2; omega), j2.toInt (k := .i16) (by rw [m1, m2]; unfold ry at r3 r4; omega)⟩

theorem clone16_fun (v : List Int) (hb : v.length ≤ 500) (h : 1 ≤ v.length) : FunO Try.prog 129 [.lst (ints .i16 v)] fun r o => r = .ref 0 v.length ∧ o = some ⟨23, 1, ints .i16 v⟩ := by
  refine FunO.of_awpI Try.func129 rfl cal129 Try.ntmps129 (by simp) fun hwf => ?_
  simp only [D.wfs, D.wf, ints_length, ints_wfs, rows_length, rows_wfs, capMax, and_true, true_and] at hwf
  simp only [go_sem, Ret_eq Try.results129]
  refine opBinI_isNil (by simp only [factsT46]) fun c hc => ?_
  rw [ints_isNil] at hc
  simp only [go_sem, Ret_eq Try.results129]
  refine condI_split (fun h => ?_) (fun h => ?_)
  · have hb := hc h
    subst hb
    simp at h
  · repeat' (first | simp only [go_sem, h, Ret_eq Try.results129] | simp (disch := omega) only [arith, IntKind.bits, capMax, fill_len, elt_fill] | refine RetO_calc Try.results129 ?_ | fail)

theorem turn_own (v : List Int) (w : Int) (hv : I16s v) : FunO Try.prog 69 [.lst (ints .i16 v), .v (.int .i64 w)] fun r o =>
    (turnErr v w ≠ 0 ∧ r = .tup [.v (.slice none 0 0), .v (.int .i64 (turnErr v w))] ∧ o = none) ∨
    (turnErr v w = 0 ∧ r = .tup [.ref 0 v.length, .v (.int .i64 0)] ∧ o = some ⟨23, 1, ints .i16 (turnL v w.toNat)⟩) := by
  refine FunO.of_awpI Try.func69 rfl cal69 Try.ntmps69 (by simp) fun hwf => ?_
  simp only [D.wfs, D.wf, ints_length, ints_wfs, rows_length, rows_wfs, capMax, and_true, true_and] at hwf
  by_cases hok : vecErr v = 0 ∧ 0 ≤ w ∧ w ≤ maxTwist
  · obtain ⟨q0, q1, q2⟩ := hok
    obtain ⟨q3, q4, q5⟩ := vecOk_iff.1 (vecErr_zero.1 q0)
    have hE : turnErr v w = 0 := turnErr_iff.2 ⟨q0, q1, q2⟩
    have hW := way_even ⟨q1, q2⟩
    have hrange := vecOk_getD hv (vecErr_zero.1 q0)
    obtain ⟨w, rfl⟩ : ∃ n : Nat, w = n := ⟨w.toNat, by omega⟩
    have hw62 : w < 2 ^ 62 := by unfold maxTwist at q2; omega
    clear q5
    repeat' (first | simp only [go_sem, q0, hW, Ret_eq Try.results69] | simp (disch := omega) only [arith, IntKind.bits, capMax, fill_len, elt_fill] | (refine opCallI_rd (by simp only [go_sem, q0, hW, Ret_eq Try.results69]; first | done | rfl) (vecCheck_fun v) (by rintro _ rfl; rfl) ?_; rintro _ rfl) | (refine opCallI_rd (by simp only [go_sem, q0, hW, Ret_eq Try.results69]; first | done | rfl) (odd_fun w) (by rintro _ rfl; rfl) ?_; rintro _ rfl) | (refine opCallI_ownGv (by simp only [go_sem, q0, hW, Ret_eq Try.results69]; first | done | rfl) (clone16_fun v (by omega) (by omega)) ?_; rintro _ _ ⟨rfl, rfl⟩) | fail)
    refine awpI_for 31 (fun k => True) (fun k => [(7, .v (.int .i64 k))]) (fun k => [(17, ⟨23, 1, ints .i16 (outK v w k)⟩)]) [1, 6] [] _ (Weak.refl _) trivial ?_ ?_ ?_
    · simp only [go_sem, Ret_eq Try.results69]
    · simp only [go_sem, Ret_eq Try.results69]
      rw [outK_zero]
    · intro k s hk hQ hs
      simp only [go_sem, Ret_eq Try.results69] at hs
      have hlen : (outK v w k).length = v.length := outK_length
      by_cases hka : k < 31
      · by_cases hkb : 2 * k + 1 < v.length
        · obtain ⟨g1, g2⟩ := outK_here (w := w) hkb
          obtain ⟨p, q, e1, e2, e3⟩ := rot_run (dg_lt w k) (hrange (2 * k)) (hrange (2 * k + 1))
          have e4 := dig_run (k := k) hw62
          have e5 := outK_succ (w := w) hkb hka
          have hlen2 : ((outK v w k).set (2 * k) (rx (dg w k) (v.getD (2 * k) 0) (v.getD (2 * k + 1) 0))).length = v.length := by rw [List.length_set, hlen]
          have t1 : (2 * (k : Int)).toNat = 2 * k := by omega
          have t2 : (2 * (k : Int) + 1).toNat = 2 * k + 1 := by omega
          repeat' (first | simp only [go_sem, hs, t1, t2, e4, g1, g2, e1, e2, e3, e5, List.length_set, hlen, Ret_eq Try.results69] | simp (disch := omega) only [arith, IntKind.bits, capMax, fill_len, elt_fill] | (refine awpI_draw2 (id := 7) (.one false 14 (.one false 15 (.one false 16 (.one false 17 (.one false 18 (.cal 0 [19] (.cal 1 [19] (.cal 2 [19] (.cal 3 [19] (.cal 4 [19] (.cal 5 [19] (.cal 6 [19] (.cal 7 [19] (.cal 8 [19] (.cal 9 [19] (.cal 10 [19] (.cal 11 [19] (.cal 12 [19] (.cal 13 [19] (.only 19 (.one false 20 (.one false 21 .done)))))))))))))))))))))) mixed (by decide +kernel) (by decide +kernel) ?_) | (refine Again.up (by omega) ?_ ?_) | (refine opCallI_rd (by simp only [go_sem, hs, t1, t2, e4, g1, g2, e1, e2, e3, e5, List.length_set, hlen, Ret_eq Try.results69]; first | done | rfl) (unit_fun _ (dg_lt w k)) (by rintro _ rfl; rfl) ?_; rintro _ rfl) | fail)
        · repeat' (first | simp only [go_sem, hs, Ret_eq Try.results69] | simp (disch := omega) only [arith, IntKind.bits, capMax, fill_len, elt_fill] | refine RetO_calc Try.results69 ?_ | fail)
          rw [outK_end (.inr hkb)]
          exact .inr ⟨hE, rfl⟩
      · obtain rfl : k = 31 := by omega
        rw [outK_end (.inl rfl)] at hs
        repeat' (first | simp only [go_sem, hs, Int.cast_ofNat_Int, Ret_eq Try.results69] | simp (disch := omega) only [arith, IntKind.bits, capMax, fill_len, elt_fill] | refine RetO_calc Try.results69 ?_ | fail)
        exact .inr hE
  · have hE := turnErr_bad hok
    rw [hE]
    by_cases hv0 : vecErr v = 0
    · have hw0 : wayErr w = 1 := way_odd (fun h => hok ⟨hv0, h⟩)
      repeat' (first | simp only [go_sem, hw0, Ret_eq Try.results69] | simp (disch := omega) only [arith, IntKind.bits, capMax, fill_len, elt_fill] | refine RetO_calc Try.results69 ?_ | (refine opCallI_rd (by simp only [go_sem, hw0, Ret_eq Try.results69]; first | done | rfl) (vecCheck_fun v) (by rintro _ rfl; rfl) ?_; rintro _ rfl) | (refine opCallI_rd (by simp only [go_sem, hw0, Ret_eq Try.results69]; first | done | rfl) (odd_fun w) (by rintro _ rfl; rfl) ?_; rintro _ rfl) | fail)
      exact .inl (by decide)
    · repeat' (first | simp only [go_sem, Ret_eq Try.results69] | simp (disch := omega) only [arith, IntKind.bits, capMax, fill_len, elt_fill] | refine RetO_calc Try.results69 ?_ | (refine opCallI_rd (by simp only [go_sem, Ret_eq Try.results69]; first | done | rfl) (vecCheck_fun v) (by rintro _ rfl; rfl) ?_; rintro _ rfl) | fail)
      exact .inl (by decide)
theorem turnOut_length {v : List Int} {w : Int} (h : turnErr v w = 0) : (turnOut v w).length = v.length := by
  rw [turnOut_ok (turnErr_iff.1 h), turnL_length]
theorem turnErr_one {v : List Int} {w : Int} (h : turnErr v w ≠ 0) : turnErr v w = 1 ∧ turnOut v w = [] :=
  ⟨turnErr_bad fun h' => h (turnErr_iff.2 h'), turnOut_bad fun h' => h (turnErr_iff.2 h')⟩
theorem turn_uni (v : List Int) (w : Int) (hv : I16s v) : FunO Try.prog 69 [.lst (ints .i16 v), .v (.int .i64 w)] fun r o => r = .tup [.ref 0 (turnOut v w).length, .v (.int .i64 (turnErr v w))] ∧ o = some ⟨23, 1, ints .i16 (turnOut v w)⟩ := by
  refine (turn_own v w hv).uni 0 23 (S := 1) (by decide) ?_
  rintro r o (⟨h1, rfl, rfl⟩ | ⟨h1, rfl, rfl⟩)
  · obtain ⟨e1, e2⟩ := turnErr_one h1
    refine .inl ⟨_, rfl, rfl, rfl, ?_, ?_⟩
    · rw [e2, e1]; rfl
    · rw [e2]; rfl
  · exact .inr ⟨by rw [turnOut_length h1, h1], by rw [turnOut_ok (turnErr_iff.1 h1)]⟩
theorem turn_fun (v : List Int) (w : Int) (hv : I16s v) : Fun Try.prog 69 [.lst (ints .i16 v), .v (.int .i64 w)] fun r => r = .tup [.lst (ints .i16 (turnOut v w)), .v (.int .i64 (turnErr v w))] := by
  refine (turn_uni v w hv).toFun ?_
  rintro r o ⟨rfl, rfl⟩
  simp only [ints_nrms, ints_width1, D.frz, D.frzs, D.noRef, D.noRefs, D.nrm, D.nrms, nilV, ints_length, Nat.le_refl, ints_take, ints_noRefs, List.take_length, Bool.and_self, Bool.false_eq_true, if_true, if_false, and_self]
end Go.Proofs.Ytpkampecmlpfmaa.T

end
section
set_option linter.unusedSimpArgs false
set_option linter.unusedVariables false
/- Vectors turned back, and the chapter's example. -/
namespace Go.Proofs.Ytpkampecmlpfmaa.T
open Go Go.VL Go.Proofs
set_option maxRecDepth 100000
set_option maxHeartbeats 4000000
end Go.Proofs.Ytpkampecmlpfmaa.T

end
section
set_option linter.unusedSimpArgs false
set_option linter.unusedVariables false
/- Octets of a number, and the number of octets. -/
namespace Go.Proofs.Ytpkampecmlpfmaa.T
open Go Go.VL Go.Proofs
def val : List Int → Int
  | [] => 0
  | c :: cs => c + 256 * val cs
def Octets (l : List Int) : Prop := ∀ c ∈ l, 0 ≤ c ∧ c ≤ 255
theorem Octets.append {a b : List Int} (ha : Octets a) (hb : Octets b) : Octets (a ++ b) := fun c h => (List.mem_append.1 h).elim (ha c) (hb c)
theorem Octets.drop {a : List Int} (ha : Octets a) (n : Nat) : Octets (a.drop n) := fun c h => ha c (List.mem_of_mem_drop h)
theorem Octets.take {a : List Int} (ha : Octets a) (n : Nat) : Octets (a.take n) := fun c h => ha c (List.mem_of_mem_take h)
end Go.Proofs.Ytpkampecmlpfmaa.T

end
section
set_option linter.unusedSimpArgs false
set_option linter.unusedVariables false
/- Books, walked. -/
namespace Go.Proofs.Ytpkampecmlpfmaa.T
open Go Go.VL Go.Proofs
set_option maxRecDepth 100000
set_option maxHeartbeats 4000000
def manyOf (cuts : List (List Int)) : Nat := (cuts.getD 0 []).length
def oddCut (n : Nat) (c : List Int) : Bool := decide (c.length ≠ n) || decide (cutsErr c ≠ 0)
def bookOk (w : Int) (cuts : List (List Int)) : Prop := 1 ≤ cuts.length ∧ cuts.length ≤ 64 ∧ wayErr w = 0 ∧ cuts.any (oddCut (manyOf cuts)) = false
instance (w : Int) (cuts : List (List Int)) : Decidable (bookOk w cuts) := by unfold bookOk; infer_instance
def bookErr (w : Int) (cuts : List (List Int)) : Int := if bookOk w cuts then 0 else 1
theorem bookErr_zero {w : Int} {cuts : List (List Int)} : bookErr w cuts = 0 ↔ bookOk w cuts := by
  unfold bookErr; split
  · exact ⟨fun _ => by assumption, fun _ => rfl⟩
  · exact ⟨fun h => absurd h (by decide), fun h => by contradiction⟩
theorem bookErr_one {w : Int} {cuts : List (List Int)} (h : ¬ bookOk w cuts) : bookErr w cuts = 1 := if_neg h
theorem any_take_snoc {p : List Int → Bool} {l : List (List Int)} {k : Nat} (h : k < l.length) : (l.take (k + 1)).any p = ((l.take k).any p || p (l.getD k [])) := by
  rw [take_snoc (d := []) h, List.any_append]; simp
theorem any_of_take {p : List Int → Bool} {l : List (List Int)} {k : Nat} (h : k < l.length) (hp : p (l.getD k []) = true) : l.any p = true := by
  rw [List.any_eq_true]
  exact ⟨_, getD_mem h, hp⟩

theorem indexFunc_fun (l : List (List Int)) (p : List Int → Bool) (g : FuncId) (caps : List D) (hc1 : D.idss caps = []) (hc2 : D.noRefs caps = true) (hc3 : D.nrms caps = caps)
    (hg : ∀ c ∈ l, Fun Try.prog g (.lst (ints .i16 c) :: caps) fun r => r = .v (.bool (p c))) :
    Fun Try.prog 151 [.lst (rows .i16 l), .clos (.func g) caps] fun r => ∃ z : Int, r = .v (.int .i64 z) ∧ (0 ≤ z ↔ l.any p = true) := by
  refine Fun.of_awpI Try.func151 rfl cal151 Try.ntmps151 (by simp) fun hwf => ?_
  simp only [D.wfs, D.wf, ints_length, ints_wfs, rows_length, rows_wfs, capMax, and_true, true_and] at hwf
  repeat' (first | simp only [go_sem, Ret_eq Try.results151] | fail)
  refine awpI_for l.length (fun k => (l.take k).any p = false) (fun k => [(8, .v (.int .i64 k))]) (fun _ => []) [0, 1, 7] [] _ (Weak.refl _) (by simp) ?_ ?_ ?_
  · simp only [go_sem, Ret_eq Try.results151]
  · simp only [go_sem, Ret_eq Try.results151]
  · intro k s hk hQ hs
    simp only [go_sem, Ret_eq Try.results151] at hs
    by_cases hka : k < l.length
    · have hgk := hg _ (getD_mem (d := []) hka)
      have e := any_take_snoc (p := p) hka
      rw [hQ, Bool.false_or] at e
      have e2 := any_of_take (p := p) hka
      generalize p (l.getD k []) = b at *
      cases b
      · repeat' (first | simp only [go_sem, hs, hc1, hc2, hc3, Ret_eq Try.results151] | simp (disch := omega) only [arith, IntKind.bits, capMax, fill_len, elt_fill] | (refine Again.up (by omega) ?_ ?_) | (refine opCallI_rd (by simp only [go_sem, hs, hc1, hc2, hc3, Ret_eq Try.results151]; first | done | rfl) (hgk) (by rintro _ rfl; rfl) ?_; rintro _ rfl) | fail)
        exact e
      · repeat' (first | simp only [go_sem, hs, hc1, hc2, hc3, Ret_eq Try.results151] | simp (disch := omega) only [arith, IntKind.bits, capMax, fill_len, elt_fill] | (refine opCallI_rd (by simp only [go_sem, hs, hc1, hc2, hc3, Ret_eq Try.results151]; first | done | rfl) (hgk) (by rintro _ rfl; rfl) ?_; rintro _ rfl) | fail)
        exact ⟨_, rfl, fun _ => e2 rfl, fun _ => by omega⟩
    · obtain rfl : k = l.length := by omega
      rw [List.take_length] at hQ
      repeat' (first | simp only [go_sem, hs, Ret_eq Try.results151] | simp (disch := omega) only [arith, IntKind.bits, capMax, fill_len, elt_fill] | fail)
      exact ⟨_, rfl, fun h => absurd h (by decide), fun h => by rw [hQ] at h; cases h⟩

theorem containsFunc_fun (l : List (List Int)) (p : List Int → Bool) (g : FuncId) (caps : List D) (hc1 : D.idss caps = []) (hc2 : D.noRefs caps = true) (hc3 : D.nrms caps = caps)
    (hg : ∀ c ∈ l, Fun Try.prog g (.lst (ints .i16 c) :: caps) fun r => r = .v (.bool (p c))) :
    Fun Try.prog 119 [.lst (rows .i16 l), .clos (.func g) caps] fun r => r = .v (.bool (l.any p)) := by
  refine Fun.of_awpI Try.func119 rfl cal119 Try.ntmps119 (by simp) fun hwf => ?_
  simp only [D.wfs, D.wf, ints_length, ints_wfs, rows_length, rows_wfs, capMax, and_true, true_and] at hwf
  repeat' (first | simp only [go_sem, hc1, hc2, hc3, Ret_eq Try.results119] | (refine opCallI_gv (by simp only [go_sem, hc1, hc2, hc3, Ret_eq Try.results119]; first | done | rfl) (indexFunc_fun l p g caps hc1 hc2 hc3 hg) ?_; rintro _ ⟨z, rfl, hz⟩) | fail)
  rw [Bool.eq_iff_iff, decide_eq_true_eq]
  omega

theorem check1_fun (c : List Int) (n : Nat) : Fun Try.prog 120 [.lst (ints .i16 c), .ptr (.v (.int .i64 n))] fun r => r = .v (.bool (oddCut n c)) := by
  refine Fun.of_awpI Try.func120 rfl cal120 Try.ntmps120 (by simp) fun hwf => ?_
  simp only [D.wfs, D.wf, ints_length, ints_wfs, rows_length, rows_wfs, capMax, and_true, true_and] at hwf
  unfold oddCut
  by_cases h : c.length = n
  · repeat' (first | simp only [go_sem, Ret_eq Try.results120] | simp (disch := omega) only [arith, IntKind.bits, capMax, fill_len, elt_fill] | (refine opCallI_rd (by simp only [go_sem, Ret_eq Try.results120]; first | done | rfl) (rankCheck_fun c) (by rintro _ rfl; rfl) ?_; rintro _ rfl) | fail)
    all_goals (by_cases q : cutsErr c = 0 <;> simp [h, q])
  · repeat' (first | simp only [go_sem, Ret_eq Try.results120] | simp (disch := omega) only [arith, IntKind.bits, capMax, fill_len, elt_fill] | fail)
    all_goals (by_cases q : cutsErr c = 0 <;> simp [h, q])

theorem quantCheck_fun (w : Int) (cuts : List (List Int)) : Fun Try.prog 63 [.agg [.v (.int .i64 w), .lst (rows .i16 cuts)]] fun r => r = .v (.int .i64 (bookErr w cuts)) := by
  refine Fun.of_awpI Try.func63 rfl cal63 Try.ntmps63 (by simp) fun hwf => ?_
  simp only [D.wfs, D.wf, ints_length, ints_wfs, rows_length, rows_wfs, capMax, and_true, true_and] at hwf
  by_cases h : 1 ≤ cuts.length ∧ cuts.length ≤ 64 ∧ wayErr w = 0
  · obtain ⟨h1, h2, h3⟩ := h
    have hb : cuts.any (oddCut (manyOf cuts)) = decide (bookErr w cuts = 1) := by
      by_cases q : cuts.any (oddCut (manyOf cuts)) = true
      · rw [q, bookErr_one (fun b => by have := b.2.2.2; rw [q] at this; cases this)]; rfl
      · have q' : cuts.any (oddCut (manyOf cuts)) = false := by simpa using q
        rw [q', bookErr_zero.2 ⟨h1, h2, h3, q'⟩]; rfl
    have hg := containsFunc_fun cuts (oddCut (manyOf cuts)) 120 [.ptr (.v (.int .i64 (manyOf cuts : Nat)))] rfl rfl rfl fun c _ => check1_fun c (manyOf cuts)
    rw [hb] at hg
    have hm : manyOf cuts = (cuts.getD 0 []).length := rfl
    have hb01 : bookErr w cuts = 0 ∨ bookErr w cuts = 1 := by unfold bookErr; split <;> simp
    repeat' (first | simp only [go_sem, h3, Ret_eq Try.results63] | simp (disch := omega) only [arith, IntKind.bits, capMax, fill_len, elt_fill] | (with_reducible refine condI_dec (fun hq hqb => ?_) (fun hq hqb => ?_) <;> simp only [KP_mk, hqb]) | (refine opCallI_rd (by simp only [go_sem, h3, Ret_eq Try.results63]; first | done | rfl) (not_fun w) (by rintro _ rfl; rfl) ?_; rintro _ rfl) | (refine opCallI_rd (by simp only [go_sem, h3, Ret_eq Try.results63]; first | done | rfl) (hg) (by rintro _ rfl; rfl) ?_; rintro _ rfl) | fail)
    all_goals omega
  · have hb : bookErr w cuts = 1 := bookErr_one fun b => h ⟨b.1, b.2.1, b.2.2.1⟩
    rw [hb]
    have hw1 := wayErr_one (a := w)
    repeat' (first | simp only [go_sem, Ret_eq Try.results63] | simp (disch := omega) only [arith, IntKind.bits, capMax, fill_len, elt_fill] | (with_reducible refine condI_dec (fun hq hqb => ?_) (fun hq hqb => ?_) <;> simp only [KP_mk, hqb]) | (refine opCallI_rd (by simp only [go_sem, Ret_eq Try.results63]; first | done | rfl) (not_fun w) (by rintro _ rfl; rfl) ?_; rintro _ rfl) | fail)
    all_goals omega
theorem book_rows {w : Int} {cuts : List (List Int)} (h : bookErr w cuts = 0) : ∀ c ∈ cuts, c.length = manyOf cuts ∧ cutsErr c = 0 := by
  intro c hc
  have := (bookErr_zero.1 h).2.2.2
  rw [List.any_eq_false] at this
  have := this c hc
  unfold oddCut at this
  simpa using this
theorem book_many {w : Int} {cuts : List (List Int)} (h : bookErr w cuts = 0) : manyOf cuts ≤ 15 := by
  have h1 := (bookErr_zero.1 h).1
  have := book_rows h _ (getD_mem (d := []) (k := 0) (by omega))
  have := (cutsErr_zero.1 this.2).1
  exact this

theorem quantCells_fun (w : Int) (cuts : List (List Int)) : Fun Try.prog 64 [.agg [.v (.int .i64 w), .lst (rows .i16 cuts)]] fun r => r = .tup [.v (.int .i64 (if bookErr w cuts = 0 then manyOf cuts + 1 else 0)), .v (.int .i64 (bookErr w cuts))] := by
  refine Fun.of_awpI Try.func64 rfl cal64 Try.ntmps64 (by simp) fun hwf => ?_
  simp only [D.wfs, D.wf, ints_length, ints_wfs, rows_length, rows_wfs, capMax, and_true, true_and] at hwf
  by_cases h : bookErr w cuts = 0
  · have h1 := (bookErr_zero.1 h).1
    have hm : (cuts.getD 0 []).length = manyOf cuts := rfl
    have h2 := book_many h
    rw [if_pos h, h]
    repeat' (first | simp only [go_sem, h, hm, Ret_eq Try.results64] | simp (disch := omega) only [arith, IntKind.bits, capMax, fill_len, elt_fill] | (refine opCallI_rd (by simp only [go_sem, h, hm, Ret_eq Try.results64]; first | done | rfl) (quantCheck_fun w cuts) (by rintro _ rfl; rfl) ?_; rintro _ rfl) | fail)
  · rw [if_neg h]
    repeat' (first | simp only [go_sem, Ret_eq Try.results64] | simp (disch := omega) only [arith, IntKind.bits, capMax, fill_len, elt_fill] | (refine opCallI_rd (by simp only [go_sem, Ret_eq Try.results64]; first | done | rfl) (quantCheck_fun w cuts) (by rintro _ rfl; rfl) ?_; rintro _ rfl) | fail)
def mx (a b : Int) : Int := if b > a then b else a
def formOk (cuts : List (List Int)) (code : List Int) : Prop := code.length = cuts.length ∧ ∀ x ∈ code, x ≤ manyOf cuts
instance (cuts : List (List Int)) (code : List Int) : Decidable (formOk cuts code) := by unfold formOk; infer_instance
end Go.Proofs.Ytpkampecmlpfmaa.T

end
section
set_option linter.unusedSimpArgs false
set_option linter.unusedVariables false
/- A book's text, plainly. -/
namespace Go.Proofs.Ytpkampecmlpfmaa.T
open Go Go.VL Go.Proofs
abbrev bookD (w : Int) (cuts : List (List Int)) : D := .agg [.v (.int .i64 w), .lst (rows .i16 cuts)]
def wayT (t : List Int) : Int := takeNum 8 t
def dimT (t : List Int) : Nat := (t.getD 8 0).toNat
def mnyT (t : List Int) : Nat := (t.getD 9 0).toNat
def numsT (t : List Int) : List Int := takeNums 2 (dimT t * mnyT t) (t.drop 10)
def cutT (l : List Int) (m : Nat) (i : Nat) : List Int := (List.range m).map fun k => l.getD (i * m + k) 0
def cutsT (t : List Int) : List (List Int) := (List.range (dimT t)).map (cutT (numsT t) (mnyT t))
def fromOk (t : List Int) : Prop := 10 ≤ t.length ∧ t.length = 10 + 2 * (dimT t * mnyT t) ∧ bookErr (wayT t) (cutsT t) = 0
instance (t : List Int) : Decidable (fromOk t) := by unfold fromOk; infer_instance
def sizesOk (dim cells : Int) : Prop := (1 ≤ dim ∧ dim ≤ 64) ∧ 1 ≤ cells ∧ cells ≤ 16
instance (dim cells : Int) : Decidable (sizesOk dim cells) := by unfold sizesOk; infer_instance
def plainCut (cells : Int) (k : Nat) : Int := ((k : Int) + 1) * 65536 / cells - 32768
def plainRow (cells : Int) : List Int := (List.range (cells - 1).toNat).map (plainCut cells)
def plainC (dim cells : Int) : List (List Int) := if sizesOk dim cells then List.replicate dim.toNat (plainRow cells) else []
theorem flat_length {m : Nat} : ∀ {c : List (List Int)}, (∀ x ∈ c, x.length = m) → c.flatten.length = c.length * m
  | [], _ => by simp
  | x :: c, h => by
    rw [List.flatten_cons, List.length_append, h x List.mem_cons_self, flat_length fun y hy => h y (List.mem_cons_of_mem _ hy), List.length_cons, Nat.succ_mul, Nat.add_comm]
end Go.Proofs.Ytpkampecmlpfmaa.T

end
section
set_option linter.unusedSimpArgs false
set_option linter.unusedVariables false
/- Swaps within a span; what is sorted; plainly. -/
namespace Go.Proofs.Ytpkampecmlpfmaa.T
open Go Go.VL Go.Proofs
def sw (l : List Int) (i j : Nat) : List Int := (l.set i (l.getD j 0)).set j (l.getD i 0)
theorem sw_length {l : List Int} {i j : Nat} : (sw l i j).length = l.length := by simp [sw]
theorem set_getD {l : List Int} {i k : Nat} {x : Int} (h : i < l.length) : (l.set i x).getD k 0 = if k = i then x else l.getD k 0 := by
  simp only [List.getD, List.getElem?_set]
  by_cases e : i = k
  · subst e; simp [h]
  · rw [if_neg e, if_neg (fun q => e q.symm)]
theorem sw_getD {l : List Int} {i j k : Nat} (hi : i < l.length) (hj : j < l.length) : (sw l i j).getD k 0 = if k = j then l.getD i 0 else if k = i then l.getD j 0 else l.getD k 0 := by
  unfold sw
  rw [set_getD (by simpa using hj), set_getD hi]
theorem sw_comm {l : List Int} {i j : Nat} : (l.set j (l.getD i 0)).set i (l.getD j 0) = sw l i j := by
  unfold sw
  by_cases e : i = j
  · subst e; rfl
  · exact List.set_comm _ _ (fun q => e q.symm)
theorem sw_perm {l : List Int} {i j : Nat} (hi : i < l.length) (hj : j < l.length) : (sw l i j).Perm l := by
  rw [List.perm_iff_count]
  intro x
  unfold sw
  rw [List.count_set (by simpa using hj), List.count_set hi]
  have ei : l.getD i 0 = l[i] := by simp [List.getD, hi]
  have ej : l.getD j 0 = l[j] := by simp [List.getD, hj]
  have e3 : (l.set i (l.getD j 0))[j]'(by simpa using hj) = l[j] := by
    rw [List.getElem_set]; split
    · rw [ej]
    · rfl
  rw [e3, ei, ej]
  have hc : ∀ k (hk : k < l.length), (if (l[k] == x) = true then 1 else 0) ≤ l.count x := fun k hk => by
    split
    · rename_i q
      exact List.count_pos_iff.2 (by rw [← beq_iff_eq.1 q]; exact List.getElem_mem hk)
    · omega
  have h1 := hc i hi
  have h2 := hc j hj
  by_cases q1 : (l[i] == x) = true <;> by_cases q2 : (l[j] == x) = true <;> simp only [q1, q2, if_true, if_false, Bool.false_eq_true] at * <;> omega
/-- What comes of a list by swaps within a span. -/
inductive Sw (a b : Nat) : List Int → List Int → Prop
  | refl (l : List Int) : Sw a b l l
  | step {l l' : List Int} (i j : Nat) (h : Sw a b l l') (h1 : a ≤ i ∧ i < b) (h2 : a ≤ j ∧ j < b) (h3 : b ≤ l'.length) : Sw a b l (sw l' i j)
theorem Sw.length {a b : Nat} {l l' : List Int} (h : Sw a b l l') : l'.length = l.length := by
  induction h with
  | refl => rfl
  | step i j _ _ _ _ ih => rw [sw_length, ih]
theorem Sw.trans {a b : Nat} {l l' l'' : List Int} (h : Sw a b l l') (h' : Sw a b l' l'') : Sw a b l l'' := by
  induction h' with
  | refl => exact h
  | step i j _ h1 h2 h3 ih => exact .step i j ih h1 h2 h3
theorem Sw.mono {a b c d : Nat} {l l' : List Int} (h : Sw a b l l') (h1 : c ≤ a) (h2 : b ≤ d) (h3 : d ≤ l.length) : Sw c d l l' := by
  induction h with
  | refl => exact .refl _
  | step i j hs q1 q2 q3 ih => exact .step i j ih ⟨by omega, by omega⟩ ⟨by omega, by omega⟩ (by rw [hs.length]; exact h3)
theorem Sw.out {a b : Nat} {l l' : List Int} (h : Sw a b l l') {k : Nat} (hk : k < a ∨ b ≤ k) : l'.getD k 0 = l.getD k 0 := by
  induction h with
  | refl => rfl
  | step i j hs h1 h2 h3 ih => rw [sw_getD (by omega) (by omega), if_neg (by omega), if_neg (by omega), ih]
theorem Sw.all {a b : Nat} {l l' : List Int} (h : Sw a b l l') {P : Int → Prop} (hP : ∀ k, a ≤ k → k < b → P (l.getD k 0)) : ∀ k, a ≤ k → k < b → P (l'.getD k 0) := by
  induction h with
  | refl => exact hP
  | step i j hs h1 h2 h3 ih =>
    intro k k1 k2
    rw [sw_getD (by omega) (by omega)]
    split
    · exact ih i h1.1 h1.2
    · split
      · exact ih j h2.1 h2.2
      · exact ih k k1 k2
theorem Sw.perm {a b : Nat} {l l' : List Int} (h : Sw a b l l') : l'.Perm l := by
  induction h with
  | refl => exact .refl _
  | step i j hs h1 h2 h3 ih => exact (sw_perm (by omega) (by omega)).trans ih
def Sd (a b : Nat) (l : List Int) : Prop := ∀ p q, a ≤ p → p < q → q < b → l.getD p 0 ≤ l.getD q 0
/-- All are in order, but for those before j. -/
def Ins (a j i : Nat) (l : List Int) : Prop := ∀ p q, a ≤ p → p < q → q ≤ i → q ≠ j → l.getD p 0 ≤ l.getD q 0
theorem Ins.start {a i : Nat} {l : List Int} (h : Sd a i l) : Ins a i i l := fun p q h1 h2 h3 h4 => h p q h1 h2 (by omega)
theorem Ins.done {a j i : Nat} {l : List Int} (h : Ins a j i l) (hj : j ≤ a ∨ l.getD (j - 1) 0 ≤ l.getD j 0) : Sd a (i + 1) l := fun p q h1 h2 h3 => by
  by_cases e : q = j
  · subst e
    rcases hj with g | g
    · omega
    · by_cases e2 : p = q - 1
      · rw [e2]; exact g
      · have := h p (q - 1) h1 (by omega) (by omega) (by omega)
        omega
  · exact h p q h1 h2 (by omega) e
theorem Ins.step {a j i : Nat} {l : List Int} (h : Ins a j i l) (hj : a < j) (hji : j ≤ i) (hi : i < l.length) (hlt : l.getD j 0 < l.getD (j - 1) 0) : Ins a (j - 1) i (sw l j (j - 1)) := fun p q h1 h2 h3 h4 => by
  have e : ∀ k, (sw l j (j - 1)).getD k 0 = if k = j - 1 then l.getD j 0 else if k = j then l.getD (j - 1) 0 else l.getD k 0 := fun k => sw_getD (by omega) (by omega)
  rw [e p, e q]
  have a1 := h p q h1 h2 h3
  have a2 := h p (j - 1)
  have a3 := h j q
  have a4 := h (j - 1) q
  grind
end Go.Proofs.Ytpkampecmlpfmaa.T

end
section
set_option linter.unusedSimpArgs false
set_option linter.unusedVariables false
/- Heaps, plainly. -/
namespace Go.Proofs.Ytpkampecmlpfmaa.T
open Go Go.VL Go.Proofs
def Hp (lo hi f : Nat) (l : List Int) : Prop := ∀ k c, lo ≤ k → (c = 2 * k + 1 ∨ c = 2 * k + 2) → c < hi → l.getD (f + c) 0 ≤ l.getD (f + k) 0
structure HpEx (lo hi f r : Nat) (l : List Int) : Prop where
  h1 : ∀ k c, lo ≤ k → k ≠ r → (c = 2 * k + 1 ∨ c = 2 * k + 2) → c < hi → l.getD (f + c) 0 ≤ l.getD (f + k) 0
  h2 : ∀ g c, lo ≤ g → (r = 2 * g + 1 ∨ r = 2 * g + 2) → (c = 2 * r + 1 ∨ c = 2 * r + 2) → c < hi → l.getD (f + c) 0 ≤ l.getD (f + g) 0
theorem HpEx.start {lo hi f : Nat} {l : List Int} (h : Hp (lo + 1) hi f l) : HpEx lo hi f lo l :=
  ⟨fun k c h1 h2 h3 h4 => h k c (by omega) h3 h4, fun g c h1 h2 h3 h4 => by omega⟩
theorem HpEx.done {lo hi f r : Nat} {l : List Int} (h : HpEx lo hi f r l) (hc : ∀ c, (c = 2 * r + 1 ∨ c = 2 * r + 2) → c < hi → l.getD (f + c) 0 ≤ l.getD (f + r) 0) : Hp lo hi f l := fun k c k1 k2 k3 => by
  by_cases e : k = r
  · subst e; exact hc c k2 k3
  · exact h.h1 k c k1 e k2 k3
theorem HpEx.step {lo hi f r c : Nat} {l : List Int} (h : HpEx lo hi f r l) (hr : lo ≤ r) (hc : c = 2 * r + 1 ∨ c = 2 * r + 2) (hch : c < hi) (hd : ∀ d, (d = 2 * r + 1 ∨ d = 2 * r + 2) → d < hi → l.getD (f + d) 0 ≤ l.getD (f + c) 0)
    (hlt : l.getD (f + r) 0 < l.getD (f + c) 0) (hl : f + hi ≤ l.length) : HpEx lo hi f c (sw l (f + r) (f + c)) := by
  have e : ∀ k, (sw l (f + r) (f + c)).getD k 0 = if k = f + c then l.getD (f + r) 0 else if k = f + r then l.getD (f + c) 0 else l.getD k 0 := fun k => sw_getD (by omega) (by omega)
  constructor
  · intro k d k1 k2 k3 k4
    rw [e, e]
    rw [if_neg (show ¬ f + k = f + c by omega)]
    by_cases kr : k = r
    · subst kr
      rw [if_pos rfl]
      by_cases dc : d = c
      · subst dc; rw [if_pos rfl]; omega
      · rw [if_neg (by omega), if_neg (by omega)]
        exact hd d k3 k4
    · rw [if_neg (show ¬ f + k = f + r by omega), if_neg (show ¬ f + d = f + c by omega)]
      by_cases dr : d = r
      · subst dr
        rw [if_pos rfl]
        exact h.h2 k c k1 k3 hc hch
      · rw [if_neg (by omega)]
        exact h.h1 k d k1 kr k3 k4
  · intro g d g1 g2 g3 g4
    obtain rfl : g = r := by omega
    rw [e, e, if_neg (show ¬ f + d = f + c by omega), if_neg (show ¬ f + d = f + g by omega), if_neg (show ¬ f + g = f + c by omega), if_pos rfl]
    exact h.h1 c d (by omega) (by omega) g3 g4
theorem Hp.max {hi f : Nat} {l : List Int} (h : Hp 0 hi f l) : ∀ k, k < hi → l.getD (f + k) 0 ≤ l.getD f 0 := by
  intro k
  induction k using Nat.strongRecOn with
  | _ k ih =>
    intro hk
    by_cases e : k = 0
    · subst e; exact Int.le_refl _
    · have h1 := ih ((k - 1) / 2) (by omega) (by omega)
      have h2 := h ((k - 1) / 2) k (by omega) (by omega) hk
      omega
structure Tl (f i n : Nat) (l : List Int) : Prop where
  t1 : Sd (f + i) (f + n) l
  t2 : ∀ p q, p < i → i ≤ q → q < n → l.getD (f + p) 0 ≤ l.getD (f + q) 0
theorem Tl.step {f i n : Nat} {l l' : List Int} (h : Tl f (i + 1) n l) (hp : Hp 0 (i + 1) f l) (hn : i + 1 ≤ n) (hl : f + n ≤ l.length) (hs : Sw f (f + i) (sw l f (f + i)) l') : Tl f i n l' := by
  have e : ∀ k, (sw l f (f + i)).getD k 0 = if k = f + i then l.getD f 0 else if k = f then l.getD (f + i) 0 else l.getD k 0 := fun k => sw_getD (by omega) (by omega)
  have hm := hp.max
  have ho : ∀ k, f + i ≤ k → l'.getD k 0 = if k = f + i then l.getD f 0 else l.getD k 0 := fun k hk => by
    rw [hs.out (.inr hk), e]
    by_cases q : k = f + i
    · rw [if_pos q, if_pos q]
    · rw [if_neg q, if_neg q, if_neg (by omega)]
  have ha : ∀ q, i ≤ q → q < n → ∀ k, f ≤ k → k < f + i → l'.getD k 0 ≤ (if f + q = f + i then l.getD f 0 else l.getD (f + q) 0) := fun q q1 q2 => by
    refine hs.all (P := fun x => x ≤ _) fun k k1 k2 => ?_
    obtain ⟨k, rfl⟩ : ∃ j, k = f + j := ⟨k - f, by omega⟩
    rw [e, if_neg (by omega)]
    by_cases q3 : f + q = f + i
    · rw [if_pos q3]
      split
      · exact hm i (by omega)
      · exact hm k (by omega)
    · rw [if_neg q3]
      split
      · exact h.t2 i q (by omega) (by omega) q2
      · exact h.t2 k q (by omega) (by omega) q2
  constructor
  · intro p q p1 p2 p3
    rw [ho p p1, ho q (by omega), if_neg (show ¬ q = f + i by omega)]
    split
    · have := h.t2 0 (q - f) (by omega) (by omega) (by omega)
      rw [show f + 0 = f from rfl, show f + (q - f) = q by omega] at this
      exact this
    · exact h.t1 p q (by omega) p2 p3
  · intro p q p1 p2 p3
    rw [ho (f + q) (by omega)]
    exact ha q p2 p3 (f + p) (by omega) (by omega)
theorem Hp.swapped {i f : Nat} {l : List Int} (h : Hp 0 (i + 1) f l) (hl : f + i < l.length) : Hp 1 i f (sw l f (f + i)) := fun k c k1 k2 k3 => by
  rw [sw_getD (by omega) hl, sw_getD (by omega) hl, if_neg (by omega), if_neg (by omega), if_neg (by omega), if_neg (by omega)]
  exact h k c (by omega) k2 (by omega)
end Go.Proofs.Ytpkampecmlpfmaa.T

end
section
set_option linter.unusedSimpArgs false
set_option linter.unusedVariables false
/- Lists that are parted, plainly. -/
namespace Go.Proofs.Ytpkampecmlpfmaa.T
open Go Go.VL Go.Proofs
structure Pt (a b i j : Nat) (p : Int) (l : List Int) : Prop where
  ha : l.getD a 0 = p
  h1 : ∀ k, a < k → k < i → l.getD k 0 < p
  h2 : ∀ k, j < k → k < b → p ≤ l.getD k 0
  hi : a < i
  hij : i ≤ j + 1
  hj : j < b
theorem Pt.up {a b i j : Nat} {p : Int} {l : List Int} (h : Pt a b i j p l) (hij : i ≤ j) (hlt : l.getD i 0 < p) : Pt a b (i + 1) j p l :=
  ⟨h.ha, fun k k1 k2 => by
    by_cases e : k = i
    · subst e; exact hlt
    · exact h.h1 k k1 (by omega), h.h2, by have := h.hi; omega, by omega, h.hj⟩
theorem Pt.down {a b i j : Nat} {p : Int} {l : List Int} (h : Pt a b i j p l) (hij : i ≤ j) (hge : p ≤ l.getD j 0) : Pt a b i (j - 1) p l :=
  ⟨h.ha, h.h1, fun k k1 k2 => by
    by_cases e : k = j
    · subst e; exact hge
    · exact h.h2 k (by omega) k2, h.hi, by omega, by have := h.hj; omega⟩
theorem Pt.swap {a b i j : Nat} {p : Int} {l : List Int} (h : Pt a b i j p l) (hij : i ≤ j) (hge : p ≤ l.getD i 0) (hlt : l.getD j 0 < p) (hl : b ≤ l.length) : Pt a b (i + 1) (j - 1) p (sw l i j) := by
  have h3 := h.hi
  have h4 := h.hj
  have hne : i ≠ j := fun q => by subst q; omega
  have e : ∀ k, (sw l i j).getD k 0 = if k = j then l.getD i 0 else if k = i then l.getD j 0 else l.getD k 0 := fun k => sw_getD (by omega) (by omega)
  refine ⟨?_, fun k k1 k2 => ?_, fun k k1 k2 => ?_, by omega, by omega, by omega⟩
  · rw [e, if_neg (by omega), if_neg (by omega)]; exact h.ha
  · rw [e, if_neg (by omega)]
    split
    · exact hlt
    · exact h.h1 k k1 (by omega)
  · rw [e]
    split
    · exact hge
    · rw [if_neg (by omega)]
      exact h.h2 k (by omega) k2
structure Parted (a b m : Nat) (l : List Int) : Prop where
  h1 : a ≤ m
  h2 : m < b
  h3 : ∀ k, a ≤ k → k < m → l.getD k 0 ≤ l.getD m 0
  h4 : ∀ k, m < k → k < b → l.getD m 0 ≤ l.getD k 0
theorem Pt.fin {a b i j : Nat} {p : Int} {l : List Int} (h : Pt a b i j p l) (hij : j < i) (hl : b ≤ l.length) : Parted a b j (sw l j a) := by
  have h3 := h.hi
  have h4 := h.hj
  have h5 := h.hij
  have e : ∀ k, (sw l j a).getD k 0 = if k = a then l.getD j 0 else if k = j then l.getD a 0 else l.getD k 0 := fun k => sw_getD (by omega) (by omega)
  have ej : (sw l j a).getD j 0 = p := by
    rw [e]
    by_cases q : j = a
    · rw [if_pos q, q]; exact h.ha
    · rw [if_neg q, if_pos rfl]; exact h.ha
  refine ⟨by omega, h4, fun k k1 k2 => ?_, fun k k1 k2 => ?_⟩
  · rw [ej, e]
    split
    · have := h.h1 j (by omega) (by omega)
      omega
    · rw [if_neg (by omega)]
      have := h.h1 k (by omega) (by omega)
      omega
  · rw [ej, e, if_neg (by omega), if_neg (by omega)]
    exact h.h2 k k1 k2
structure Pe (a b i j : Nat) (p : Int) (l : List Int) : Prop where
  ha : l.getD a 0 = p
  h1 : ∀ k, a ≤ k → k < i → l.getD k 0 ≤ p
  h2 : ∀ k, j < k → k < b → p < l.getD k 0
  hi : a < i
  hij : i ≤ j + 1
  hj : j < b
theorem Pe.up {a b i j : Nat} {p : Int} {l : List Int} (h : Pe a b i j p l) (hij : i ≤ j) (hlt : l.getD i 0 ≤ p) : Pe a b (i + 1) j p l :=
  ⟨h.ha, fun k k1 k2 => by
    by_cases e : k = i
    · subst e; exact hlt
    · exact h.h1 k k1 (by omega), h.h2, by have := h.hi; omega, by omega, h.hj⟩
theorem Pe.down {a b i j : Nat} {p : Int} {l : List Int} (h : Pe a b i j p l) (hij : i ≤ j) (hge : p < l.getD j 0) : Pe a b i (j - 1) p l :=
  ⟨h.ha, h.h1, fun k k1 k2 => by
    by_cases e : k = j
    · subst e; exact hge
    · exact h.h2 k (by omega) k2, h.hi, by omega, by have := h.hj; omega⟩
theorem Pe.swap {a b i j : Nat} {p : Int} {l : List Int} (h : Pe a b i j p l) (hij : i ≤ j) (hge : p < l.getD i 0) (hlt : l.getD j 0 ≤ p) (hl : b ≤ l.length) : Pe a b (i + 1) (j - 1) p (sw l i j) := by
  have h3 := h.hi
  have h4 := h.hj
  have hne : i ≠ j := fun q => by subst q; omega
  have e : ∀ k, (sw l i j).getD k 0 = if k = j then l.getD i 0 else if k = i then l.getD j 0 else l.getD k 0 := fun k => sw_getD (by omega) (by omega)
  refine ⟨?_, fun k k1 k2 => ?_, fun k k1 k2 => ?_, by omega, by omega, by omega⟩
  · rw [e, if_neg (by omega), if_neg (by omega)]; exact h.ha
  · rw [e, if_neg (by omega)]
    split
    · exact hlt
    · exact h.h1 k k1 (by omega)
  · rw [e]
    split
    · exact hge
    · rw [if_neg (by omega)]
      exact h.h2 k (by omega) k2
structure PartEq (a b m : Nat) (p : Int) (l : List Int) : Prop where
  h1 : a < m
  h2 : m ≤ b
  h3 : ∀ k, a ≤ k → k < m → l.getD k 0 ≤ p
  h4 : ∀ k, m ≤ k → k < b → p < l.getD k 0
theorem Pe.fin {a b i j : Nat} {p : Int} {l : List Int} (h : Pe a b i j p l) (hij : j < i) : PartEq a b i p l := by
  have h3 := h.hi
  have h4 := h.hj
  have h5 := h.hij
  exact ⟨h3, by omega, h.h1, fun k k1 k2 => h.h2 k (by omega) k2⟩
end Go.Proofs.Ytpkampecmlpfmaa.T

end
section
set_option linter.unusedSimpArgs false
set_option linter.unusedVariables false
/- Sorted beginnings, plainly. -/
namespace Go.Proofs.Ytpkampecmlpfmaa.T
open Go Go.VL Go.Proofs
theorem Sd.snoc {a i : Nat} {l : List Int} (h : Sd a i l) (ha : a + 1 ≤ i) (hle : l.getD (i - 1) 0 ≤ l.getD i 0) : Sd a (i + 1) l := fun p q h1 h2 h3 => by
  by_cases e : q = i
  · subst e
    by_cases e2 : p = q - 1
    · rw [e2]; exact hle
    · have := h p (q - 1) h1 (by omega) (by omega)
      omega
  · exact h p q h1 h2 (by omega)
theorem Sd.out {a i x y : Nat} {l : List Int} (h : Sd a i l) (hx : i ≤ x) (hy : i ≤ y) (h1 : x < l.length) (h2 : y < l.length) : Sd a i (sw l x y) := fun p q p1 p2 p3 => by
  rw [sw_getD h1 h2, sw_getD h1 h2, if_neg (by omega), if_neg (by omega), if_neg (by omega), if_neg (by omega)]
  exact h p q p1 p2 p3
theorem Sd.swapped {a i : Nat} {l : List Int} (h : Sd a i l) (ha : a + 1 ≤ i) (hi : i < l.length) (hlt : l.getD i 0 < l.getD (i - 1) 0) : Ins a (i - 1) (i - 1) (sw l i (i - 1)) := fun p q p1 p2 p3 p4 => by
  have e : ∀ k, (sw l i (i - 1)).getD k 0 = if k = i - 1 then l.getD i 0 else if k = i then l.getD (i - 1) 0 else l.getD k 0 := fun k => sw_getD (by omega) (by omega)
  rw [e, e, if_neg (by omega), if_neg (by omega), if_neg (by omega), if_neg (by omega)]
  exact h p q p1 p2 (by omega)
/-- What is ahead is no greater. -/
def Ahd (a b : Nat) (l : List Int) : Prop := a = 0 ∨ ∀ k, a ≤ k → k < b → l.getD (a - 1) 0 ≤ l.getD k 0
theorem Ahd.sw {a b : Nat} {l l' : List Int} (h : Ahd a b l) (hs : Sw a b l l') : Ahd a b l' := by
  by_cases e : a = 0
  · exact .inl e
  · right
    rcases h with h | h
    · exact absurd h e
    · have := hs.all (P := fun x => l.getD (a - 1) 0 ≤ x) h
      intro k k1 k2
      rw [hs.out (k := a - 1) (by omega)]
      exact this k k1 k2
end Go.Proofs.Ytpkampecmlpfmaa.T

end
section
set_option linter.unusedSimpArgs false
set_option linter.unusedVariables false
/- What is left to be sorted, plainly. -/
namespace Go.Proofs.Ytpkampecmlpfmaa.T
open Go Go.VL Go.Proofs
/-- Once [a, b) is sorted, all of [a0, b0) is. -/
structure Rest (a0 b0 : Nat) (l0 : List Int) (a b : Nat) (l : List Int) : Prop where
  ra : a0 ≤ a
  rab : a ≤ b
  rb : b ≤ b0
  rl : b0 ≤ l0.length
  rs : Sw a0 b0 l0 l
  rd : ∀ l', Sw a b l l' → Sd a b l' → Sd a0 b0 l'
  rh : Ahd a b l
theorem Rest.start {a b : Nat} {l : List Int} (h : a ≤ b) (hb : b ≤ l.length) (hA : Ahd a b l) : Rest a b l a b l :=
  ⟨Nat.le_refl _, h, Nat.le_refl _, hb, .refl _, fun _ _ h => h, hA⟩
theorem Rest.sw {a0 b0 a b : Nat} {l0 l l' : List Int} (h : Rest a0 b0 l0 a b l) (hs : Sw a b l l') : Rest a0 b0 l0 a b l' :=
  ⟨h.ra, h.rab, h.rb, h.rl, h.rs.trans (hs.mono h.ra h.rb (by rw [h.rs.length]; exact h.rl)), fun l'' h1 h2 => h.rd l'' (hs.trans h1) h2, h.rh.sw hs⟩
theorem Rest.done {a0 b0 a b : Nat} {l0 l l' : List Int} (h : Rest a0 b0 l0 a b l) (hs : Sw a b l l') (hd : Sd a b l') : Sw a0 b0 l0 l' ∧ Sd a0 b0 l' :=
  ⟨(h.sw hs).rs, h.rd l' hs hd⟩
/-- The beginning is of the least numbers alone. -/
theorem Rest.eqPart {a0 b0 a b m : Nat} {l0 l : List Int} {p : Int} (h : Rest a0 b0 l0 a b l) (hp : PartEq a b m p l) (hge : ∀ k, a ≤ k → k < b → p ≤ l.getD k 0) : Rest a0 b0 l0 m b l := by
  have h1 := hp.h1
  have h2 := hp.h2
  refine ⟨by have := h.ra; omega, h2, h.rb, h.rl, h.rs, fun l' s1 s2 => ?_, .inr fun k k1 k2 => ?_⟩
  · have hl : b ≤ l.length := by have := h.rb; have := h.rl; rw [h.rs.length]; omega
    refine h.rd l' (s1.mono (by omega) (Nat.le_refl _) hl) fun x y x1 x2 x3 => ?_
    have hlo : ∀ k, a ≤ k → k < m → l'.getD k 0 = p := fun k k1 k2 => by
      rw [s1.out (.inl k2)]
      have := hp.h3 k k1 k2
      have := hge k k1 (by omega)
      omega
    have hhi : ∀ k, m ≤ k → k < b → p < l'.getD k 0 := s1.all (P := fun x => p < x) hp.h4
    by_cases xm : x < m
    · rw [hlo x x1 xm]
      by_cases ym : y < m
      · rw [hlo y (by omega) ym]; exact Int.le_refl _
      · have := hhi y (by omega) x3; omega
    · exact s2 x y (by omega) x2 x3
  · have e1 := hp.h3 (m - 1) (by omega) (by omega)
    have e2 := hp.h4 k k1 k2
    omega
/-- Parted, and the left part sorted. -/
theorem Rest.left {a0 b0 a b m : Nat} {l0 l l' : List Int} (h : Rest a0 b0 l0 a b l) (hp : Parted a b m l) (hs : Sw a m l l') (hd : Sd a m l') : Rest a0 b0 l0 (m + 1) b l' := by
  have h1 := hp.h1
  have h2 := hp.h2
  have hl : b ≤ l.length := by have := h.rb; have := h.rl; rw [h.rs.length]; omega
  have hl2 := hs.length
  have hsb : Sw a b l l' := hs.mono (Nat.le_refl _) (by omega) hl
  have h' := h.sw hsb
  have em : l'.getD m 0 = l.getD m 0 := hs.out (.inr (Nat.le_refl _))
  have hlo : ∀ k, a ≤ k → k < m → l'.getD k 0 ≤ l.getD m 0 := hs.all (P := fun x => x ≤ _) hp.h3
  have hhi : ∀ k, m < k → k < b → l.getD m 0 ≤ l'.getD k 0 := fun k k1 k2 => by rw [hs.out (.inr (by omega))]; exact hp.h4 k k1 k2
  refine ⟨by have := h.ra; omega, by omega, h.rb, h.rl, h'.rs, fun l'' s1 s2 => ?_, .inr fun k k1 k2 => ?_⟩
  · refine h'.rd l'' (s1.mono (by omega) (Nat.le_refl _) (by omega)) fun x y x1 x2 x3 => ?_
    have hlo2 : ∀ k, k ≤ m → l''.getD k 0 = l'.getD k 0 := fun k k1 => s1.out (.inl (by omega))
    have hhi2 : ∀ k, m + 1 ≤ k → k < b → l.getD m 0 ≤ l''.getD k 0 := s1.all (P := fun x => _ ≤ x) fun k k1 k2 => hhi k (by omega) k2
    by_cases xm : x ≤ m
    · rw [hlo2 x xm]
      have hxm : l'.getD x 0 ≤ l.getD m 0 := by
        by_cases e : x = m
        · rw [e, em]; exact Int.le_refl _
        · exact hlo x x1 (by omega)
      by_cases ym : y ≤ m
      · rw [hlo2 y ym]
        by_cases e : y = m
        · rw [e, em]; exact hxm
        · exact hd x y x1 x2 (by omega)
      · have := hhi2 y (by omega) x3; omega
    · exact s2 x y (by omega) x2 x3
  · rw [show m + 1 - 1 = m by omega, em]
    exact hhi k (by omega) k2
/-- Parted, and the right part sorted. -/
theorem Rest.right {a0 b0 a b m : Nat} {l0 l l' : List Int} (h : Rest a0 b0 l0 a b l) (hp : Parted a b m l) (hs : Sw (m + 1) b l l') (hd : Sd (m + 1) b l') : Rest a0 b0 l0 a m l' := by
  have h1 := hp.h1
  have h2 := hp.h2
  have hl : b ≤ l.length := by have := h.rb; have := h.rl; rw [h.rs.length]; omega
  have hl2 := hs.length
  have hsb : Sw a b l l' := hs.mono (by omega) (Nat.le_refl _) hl
  have h' := h.sw hsb
  have em : l'.getD m 0 = l.getD m 0 := hs.out (.inl (by omega))
  have hhi : ∀ k, m + 1 ≤ k → k < b → l.getD m 0 ≤ l'.getD k 0 := hs.all (P := fun x => _ ≤ x) fun k k1 k2 => hp.h4 k (by omega) k2
  have hlo : ∀ k, a ≤ k → k < m → l'.getD k 0 ≤ l.getD m 0 := fun k k1 k2 => by rw [hs.out (.inl (by omega))]; exact hp.h3 k k1 k2
  refine ⟨h.ra, h1, by have := h.rb; omega, h.rl, h'.rs, fun l'' s1 s2 => ?_, ?_⟩
  · refine h'.rd l'' (s1.mono (Nat.le_refl _) (by omega) (by omega)) fun x y x1 x2 x3 => ?_
    have hhi2 : ∀ k, m ≤ k → l''.getD k 0 = l'.getD k 0 := fun k k1 => s1.out (.inr k1)
    have hlo2 : ∀ k, a ≤ k → k < m → l''.getD k 0 ≤ l.getD m 0 := s1.all (P := fun x => x ≤ _) hlo
    have hge : ∀ k, m ≤ k → k < b → l.getD m 0 ≤ l''.getD k 0 := fun k k1 k2 => by
      rw [hhi2 k k1]
      by_cases e : k = m
      · rw [e, em]; exact Int.le_refl _
      · exact hhi k (by omega) k2
    by_cases ym : y < m
    · exact s2 x y x1 x2 ym
    · by_cases xm : x < m
      · have := hlo2 x x1 xm
        have := hge y (by omega) x3
        omega
      · by_cases e : x = m
        · subst e
          rw [hhi2 x (Nat.le_refl _), em]
          exact hge y (by omega) x3
        · rw [hhi2 x (by omega), hhi2 y (by omega)]
          exact hd x y (by omega) x2 x3
  · rcases h'.rh with q | q
    · exact .inl q
    · exact .inr fun k k1 k2 => q k k1 (by omega)
theorem Rest.ahead {a0 b0 a b : Nat} {l0 l : List Int} (h : Rest a0 b0 l0 a b l) (ha : 0 < a) {v : Nat} (hv : a ≤ v ∧ v < b) (hle : l.getD v 0 ≤ l.getD (a - 1) 0) : ∀ k, a ≤ k → k < b → l.getD v 0 ≤ l.getD k 0 := fun k k1 k2 => by
  rcases h.rh with q | q
  · omega
  · have := q k k1 k2; omega
end Go.Proofs.Ytpkampecmlpfmaa.T

end
section
set_option linter.unusedSimpArgs false
/- The list, sorted, plainly. -/
namespace Go.Proofs.Ytpkampecmlpfmaa.T
open Go Go.VL Go.Proofs
/-- The list, sorted. -/
def sortI (l : List Int) : List Int := l.mergeSort fun x y => decide (x ≤ y)
theorem sortI_perm (l : List Int) : (sortI l).Perm l := List.mergeSort_perm _ _
theorem sortI_sorted (l : List Int) : (sortI l).Pairwise (· ≤ ·) := by
  have := List.pairwise_mergeSort (le := fun x y : Int => decide (x ≤ y)) (fun a b c h1 h2 => by simp at *; omega) (fun a b => by simp; omega) l
  exact this.imp fun h => by simpa using h
theorem sorted_unique {l l' : List Int} (hp : l.Perm l') (h : l.Pairwise (· ≤ ·)) (h' : l'.Pairwise (· ≤ ·)) : l = l' :=
  hp.eq_of_pairwise (fun a b _ _ h1 h2 => by omega) h h'
theorem Sd.pairwise {l : List Int} (h : Sd 0 l.length l) : l.Pairwise (· ≤ ·) := by
  rw [List.pairwise_iff_getElem]
  intro i j hi hj hij
  have := h i j (Nat.zero_le _) hij hj
  simpa [List.getD, hi, hj] using this
theorem sortI_of {l l' : List Int} (h : Sw 0 l.length l l') (hd : Sd 0 l.length l') : l' = sortI l := by
  have hl := h.length
  rw [← hl] at hd
  exact sorted_unique (h.perm.trans (sortI_perm l).symm) hd.pairwise (sortI_sorted l)
end Go.Proofs.Ytpkampecmlpfmaa.T

end
section
set_option linter.unusedSimpArgs false
set_option linter.unusedVariables false
/- Where a list is cut, and how many are in each cell, plainly. -/
namespace Go.Proofs.Ytpkampecmlpfmaa.T
open Go Go.VL Go.Proofs
def oddB (x : Int) : Bool := decide (x < -32767)
def cutsL (l : List Int) (cells : Nat) : List Int := (List.range (cells - 1)).map fun i => (sortI l).getD ((i + 1) * l.length / cells) 0
def rkE (l : List Int) (cells : Int) : Int := if 4096 < l.length then 3 else if ¬ (1 ≤ cells ∧ cells ≤ 16) ∨ l.any oddB = true then 1 else if l.length = 0 then 5 else 0
def rkOut (l : List Int) (cells : Int) : List Int := if rkE l cells = 0 then cutsL l cells.toNat else []
theorem rkE_zero {l : List Int} {cells : Int} : rkE l cells = 0 ↔ l.length ≤ 4096 ∧ (1 ≤ cells ∧ cells ≤ 16) ∧ l.any oddB = false ∧ 1 ≤ l.length := by
  unfold rkE
  by_cases h1 : 4096 < l.length
  · rw [if_pos h1]; constructor
    · intro q; cases q
    · intro q; omega
  · rw [if_neg h1]
    by_cases h2 : ¬ (1 ≤ cells ∧ cells ≤ 16) ∨ l.any oddB = true
    · rw [if_pos h2]; constructor
      · intro q; cases q
      · rintro ⟨_, q1, q2, _⟩
        rcases h2 with h2 | h2
        · exact absurd q1 h2
        · rw [q2] at h2; cases h2
    · rw [if_neg h2]
      have h3 : (1 ≤ cells ∧ cells ≤ 16) ∧ l.any oddB = false := ⟨Classical.byContradiction fun q => h2 (.inl q), by
        cases e : l.any oddB with
        | false => rfl
        | true => exact absurd (.inr e) h2⟩
      by_cases h4 : l.length = 0
      · rw [if_pos h4]; constructor
        · intro q; cases q
        · intro q; omega
      · rw [if_neg h4]; exact ⟨fun _ => ⟨by omega, h3.1, h3.2, by omega⟩, fun _ => rfl⟩
theorem sortI_length (l : List Int) : (sortI l).length = l.length := (sortI_perm l).length_eq
theorem cutsL_length {l : List Int} {n : Nat} : (cutsL l n).length = n - 1 := by simp [cutsL]
theorem cutsL_at {l : List Int} {n i : Nat} (h : i < n - 1) : (cutsL l n).getD i 0 = (sortI l).getD ((i + 1) * l.length / n) 0 := by
  simp [cutsL, List.getD, h]
theorem cutsL_idx {l : List Int} {n i : Nat} (h : i < n - 1) (hl : 1 ≤ l.length) : (i + 1) * l.length / n < l.length := by
  rw [Nat.div_lt_iff_lt_mul (by omega), Nat.mul_comm]
  exact Nat.mul_lt_mul_of_pos_left (by omega) (by omega)
end Go.Proofs.Ytpkampecmlpfmaa.T

end
section
set_option linter.unusedSimpArgs false
set_option linter.unusedVariables false
/- Laws on cuts and counts, plainly. -/
namespace Go.Proofs.Ytpkampecmlpfmaa.T
open Go Go.VL Go.Proofs
end Go.Proofs.Ytpkampecmlpfmaa.T

end
section
set_option linter.unusedSimpArgs false
set_option linter.unusedVariables false
/- A list's own cuts: they may be, and their cells hold as many, plainly. -/
namespace Go.Proofs.Ytpkampecmlpfmaa.T
open Go Go.VL Go.Proofs
theorem sortI_mono {l : List Int} {i j : Nat} (h : i ≤ j) (hj : j < l.length) : (sortI l).getD i 0 ≤ (sortI l).getD j 0 := by
  have hs := sortI_length l
  have hp := List.pairwise_iff_getElem.1 (sortI_sorted l)
  by_cases e : i = j
  · subst e; exact Int.le_refl _
  · have := hp i j (by omega) (by omega) (by omega)
    simpa [List.getD, hs, hj, show i < l.length by omega] using this
theorem cutsOk_cutsL {l : List Int} {n : Nat} (h : rkE l n = 0) : cutsErr (cutsL l n) = 0 := by
  obtain ⟨_, ⟨c1, c2⟩, c3, c4⟩ := rkE_zero.1 h
  have hl := cutsL_length (l := l) (n := n)
  refine cutsErr_zero.2 ⟨by omega, fun i hi => ?_, fun hi => ?_⟩
  · rw [hl] at hi
    rw [cutsL_at (by omega), cutsL_at (by omega)]
    exact sortI_mono (Nat.div_le_div_right (Nat.mul_le_mul_right _ (by omega))) (cutsL_idx (by omega) c4)
  · rw [hl] at hi
    rw [cutsL_at hi]
    have hm := getD_mem (a := sortI l) (d := (0 : Int)) (k := (0 + 1) * l.length / n) (by rw [sortI_length]; exact cutsL_idx hi c4)
    have hx := (sortI_perm l).mem_iff.1 hm
    have := (List.any_eq_false.1 c3) _ hx
    rw [oddB, decide_eq_true_eq] at this
    omega
end Go.Proofs.Ytpkampecmlpfmaa.T

end
section
set_option linter.unusedSimpArgs false
set_option linter.unusedVariables false
/- A book of a sample, plainly. -/
namespace Go.Proofs.Ytpkampecmlpfmaa.T
open Go Go.VL Go.Proofs
/-- A sample, turned. -/
def turnedL (way : Int) (sample : List (List Int)) : List (List Int) := sample.map fun v => turnL v way.toNat
/-- The numbers that stand at one place. -/
def colOf (T : List (List Int)) (i : Nat) : List Int := T.map fun v => v.getD i 0
theorem colOf_length {T : List (List Int)} {i : Nat} : (colOf T i).length = T.length := by simp [colOf]
theorem colOf_snoc {T : List (List Int)} {i k : Nat} (h : k < T.length) : colOf (T.take (k + 1)) i = colOf (T.take k) i ++ [(T.getD k []).getD i 0] := by
  rw [take_snoc (d := ([] : List Int)) h]
  simp [colOf]
def oddN (n : Nat) (v : List Int) : Bool := decide (vecErr v ≠ 0 ∨ v.length ≠ n)
def sampleOk (n : Nat) (sample : List (List Int)) : Prop := ∀ v ∈ sample, vecErr v = 0 ∧ v.length = n
theorem sampleOk_iff {n : Nat} {sample : List (List Int)} : sample.any (oddN n) = false ↔ sampleOk n sample := by
  rw [List.any_eq_false]
  constructor
  · intro h v hv
    have := h v hv
    unfold oddN at this
    simp at this
    exact this
  · intro h v hv
    unfold oddN
    simp [h v hv]
def trE (w : Int) (cuts : List (List Int)) (way : Int) (sample : List (List Int)) : Int :=
  if ¬ (bookErr w cuts = 0 ∧ wayErr way = 0) ∨ sample.any (oddN cuts.length) = true then 1 else if 4096 < sample.length then 3 else 0
def trCuts (n cells : Nat) (way : Int) (sample : List (List Int)) : List (List Int) := (List.range n).map fun i => cutsL (colOf (turnedL way sample) i) cells
def trW (w : Int) (cuts : List (List Int)) (way : Int) (sample : List (List Int)) : Int := if trE w cuts way sample = 0 then (if sample = [] then w else way) else 0
def trC (w : Int) (cuts : List (List Int)) (way : Int) (sample : List (List Int)) : List (List Int) := if trE w cuts way sample = 0 then (if sample = [] then cuts else trCuts cuts.length (manyOf cuts + 1) way sample) else []
theorem trE_zero {w : Int} {cuts : List (List Int)} {way : Int} {sample : List (List Int)} : trE w cuts way sample = 0 ↔ bookErr w cuts = 0 ∧ wayErr way = 0 ∧ sampleOk cuts.length sample ∧ sample.length ≤ 4096 := by
  unfold trE
  by_cases h1 : ¬ (bookErr w cuts = 0 ∧ wayErr way = 0) ∨ sample.any (oddN cuts.length) = true
  · rw [if_pos h1]
    constructor
    · intro q; cases q
    · rintro ⟨a, b, c, _⟩
      rcases h1 with h1 | h1
      · exact absurd ⟨a, b⟩ h1
      · rw [sampleOk_iff.2 c] at h1; cases h1
  · rw [if_neg h1]
    have h2 : bookErr w cuts = 0 ∧ wayErr way = 0 := Classical.byContradiction fun q => h1 (.inl q)
    have h3 : sampleOk cuts.length sample := sampleOk_iff.1 (by cases q : sample.any (oddN cuts.length) with
      | false => rfl
      | true => exact absurd (.inr q) h1)
    by_cases h4 : 4096 < sample.length
    · rw [if_pos h4]
      constructor
      · intro q; cases q
      · rintro ⟨_, _, _, q⟩; omega
    · rw [if_neg h4]
      exact ⟨fun _ => ⟨h2.1, h2.2, h3, by omega⟩, fun _ => rfl⟩
theorem col_ok {n : Nat} {way : Int} {sample : List (List Int)} (hs : sampleOk n sample) (hI : I16r sample) {i : Nat} (hi : i < n) : (colOf (turnedL way sample) i).any oddB = false := by
  rw [List.any_eq_false]
  intro x hx
  simp only [colOf, turnedL, List.map_map, List.mem_map, Function.comp] at hx
  obtain ⟨v, hv, rfl⟩ := hx
  have h1 := hs v hv
  have h2 := vecOk_iff.1 (vecErr_zero.1 h1.1)
  have h3 := (vecOk_iff.1 (turnL_ok (hI v hv) (vecErr_zero.1 h1.1) way.toNat).1).2.2 _ (getD_mem (a := turnL v way.toNat) (d := (0 : Int)) (k := i) (by rw [turnL_length]; omega))
  rw [oddB, decide_eq_true_eq]
  omega
/-- The ways to the columns, so long each. -/
def refsL (n : Nat) (c : Nat → Nat) : List D := (List.range n).map fun i => .ref (1000 + i) (c i)
def cntC (k j : Nat) : Nat → Nat := fun i => if i < j then k + 1 else k
theorem cntC_zero (k : Nat) : cntC k 0 = fun _ => k := by funext i; exact if_neg (Nat.not_lt_zero _)
theorem refsL_length {n : Nat} {c : Nat → Nat} : (refsL n c).length = n := by simp [refsL]
theorem refsL_get {n j : Nat} {c : Nat → Nat} (h : j < n) : (refsL n c)[j]? = some (.ref (1000 + j) (c j)) := by simp [refsL, h]
theorem refsL_full {n k : Nat} : refsL n (cntC k n) = refsL n fun _ => k + 1 := List.map_congr_left fun i hi => by rw [cntC, if_pos (List.mem_range.1 hi)]
theorem refsL_kills {n j : Nat} {c : Nat → Nat} (h : j < n) : D.kills (1000 + j) (refsL n c) = (refsL n c).set j .any := by
  rw [D.kills_eq_map]
  apply List.ext_getElem
  · simp [refsL]
  · intro i h1 h2
    rw [List.getElem_set]
    simp only [refsL, List.getElem_map, List.getElem_range, D.kill]
    by_cases q : j = i
    · rw [if_pos q, if_pos (by omega)]
    · rw [if_neg q, if_neg (by omega)]
theorem refsL_step {n j k : Nat} (h : j < n) : ((refsL n (cntC k j)).set j .any).set j (.ref (1000 + j) (k + 1)) = refsL n (cntC k (j + 1)) := by
  rw [List.set_set]
  apply List.ext_getElem
  · simp [refsL]
  · intro i h1 h2
    rw [List.getElem_set]
    simp only [refsL, List.getElem_map, List.getElem_range, cntC]
    by_cases q : j = i
    · subst q; rw [if_pos rfl, if_pos (by omega)]
    · rw [if_neg q]
      by_cases z : i < j
      · rw [if_pos z, if_pos (by omega)]
      · rw [if_neg z, if_neg (by omega)]
def colsW (e : TypeId) (n : Nat) (T : List (List Int)) (c : Nat → Nat) : List (Nat × Own) := (List.range n).map fun i => (1000 + i, ⟨e, 1, ints .i16 (colOf (T.take (c i)) i)⟩)
theorem Heaps_colsW {s : St} {e : TypeId} {n : Nat} {T : List (List Int)} {c : Nat → Nat} : Heaps s (colsW e n T c) = ∀ i, i < n → s.H (1000 + i) = some ⟨e, 1, ints .i16 (colOf (T.take (c i)) i)⟩ := by
  rw [colsW, Heaps_range]
  simp only [List.mem_range]
theorem base_ne {i c : Nat} (h : c < 1000) : (1000 + i = c) = False := eq_false (by omega)
theorem base_ne' {i c : Nat} (h : c < 1000) : (c = 1000 + i) = False := eq_false (by omega)
theorem refsL_kept {n id : Nat} {c : Nat → Nat} (h : id < 1000) : D.kills id (refsL n c) = refsL n c := by
  rw [D.kills_eq_map, refsL, List.map_map]
  refine List.map_congr_left fun i _ => ?_
  simp only [Function.comp, D.kill]
  rw [if_neg (by omega)]
theorem refsL_any {n j : Nat} {c : Nat → Nat} (h : j < n) : ((refsL n c).set j .any)[j]? = some .any := by
  rw [List.getElem?_set_self (by rw [refsL_length]; exact h)]
theorem anyT_width : D.any.width = 1 := (rfl)
theorem setPartT_xr {i n : Nat} : setPart .any 0 (.ref i n) = some (.ref i n) := (rfl)
theorem colsT_get {n k : Nat} {T : List (List Int)} (h : k < n) : ((List.range n).map fun i => D.lst (ints .i16 (colOf T i)))[k]? = some (.lst (ints .i16 (colOf T k))) := by simp [h]
theorem trCuts_at {n cells k : Nat} {way : Int} {sample : List (List Int)} (h : k < n) : (trCuts n cells way sample).getD k [] = cutsL (colOf (turnedL way sample) k) cells := by simp [trCuts, List.getD, h]
theorem trCuts_length {n cells : Nat} {way : Int} {sample : List (List Int)} : (trCuts n cells way sample).length = n := by simp [trCuts]
end Go.Proofs.Ytpkampecmlpfmaa.T

end
section
set_option linter.unusedSimpArgs false
set_option linter.unusedVariables false
/- Codes and boxes, walked. -/
namespace Go.Proofs.Ytpkampecmlpfmaa.T
open Go Go.VL Go.Proofs
set_option maxRecDepth 100000
set_option maxHeartbeats 4000000
end Go.Proofs.Ytpkampecmlpfmaa.T

end
section
set_option linter.unusedSimpArgs false
set_option linter.unusedVariables false
/- Boxes, walked. -/
namespace Go.Proofs.Ytpkampecmlpfmaa.T
open Go Go.VL Go.Proofs
set_option maxRecDepth 100000
set_option maxHeartbeats 4000000
end Go.Proofs.Ytpkampecmlpfmaa.T

end
section
/- Struct literals of the seat. -/
namespace Go.Proofs.Ytpkampecmlpfmaa.T
open Go Go.VL Go.Proofs
set_option linter.unusedVariables false
set_option maxRecDepth 100000

theorem fact_pl44 : placesT Try.prog 44 = some fun i => if i = 0 then some (0, 1) else if i = 1 then some (1, 1) else if i = 2 then some (2, 1) else none := by
  have h : ∃ fs, Try.prog.underlying 44 = some (.struct fs) ∧ fs.size = 3 ∧ ((fs[0]?).map fun f => (f.offset, Try.prog.cellsOf f.type)) = some (0, 1) ∧ ((fs[1]?).map fun f => (f.offset, Try.prog.cellsOf f.type)) = some (1, 1) ∧ ((fs[2]?).map fun f => (f.offset, Try.prog.cellsOf f.type)) = some (2, 1) := ⟨_, rfl, by kernel_rfl, by kernel_rfl, by kernel_rfl, by kernel_rfl⟩
  obtain ⟨fs, h1, h2, h3, h4, h5⟩ := h
  unfold placesT
  rw [h1]
  show (some fun (i : Nat) => (fs[i]?).map fun (f : Go.Field) => (f.offset, Try.prog.cellsOf f.type)) = _
  refine congrArg some (funext fun i => ?_)
  by_cases i0 : i = 0
  · subst i0; exact h3
  · by_cases i1 : i = 1
    · subst i1; exact h4
    · by_cases i2 : i = 2
      · subst i2; exact h5
      · rw [if_neg i0, if_neg i1, if_neg i2, Array.getElem?_eq_none (by omega)]; rfl
theorem ofVal44 : D.ofVal (Value.agg #[.int .i64 0, .slice none 0 0, .slice none 0 0]) = .agg [.v (.int .i64 0) , .v (.slice none 0 0) , .v (.slice none 0 0)] := (rfl)
theorem fact_pl45 : placesT Try.prog 45 = some fun i => if i = 0 then some (0, 1) else if i = 1 then some (1, 1) else if i = 2 then some (2, 1) else none := by
  have h : ∃ fs, Try.prog.underlying 45 = some (.struct fs) ∧ fs.size = 3 ∧ ((fs[0]?).map fun f => (f.offset, Try.prog.cellsOf f.type)) = some (0, 1) ∧ ((fs[1]?).map fun f => (f.offset, Try.prog.cellsOf f.type)) = some (1, 1) ∧ ((fs[2]?).map fun f => (f.offset, Try.prog.cellsOf f.type)) = some (2, 1) := ⟨_, rfl, by kernel_rfl, by kernel_rfl, by kernel_rfl, by kernel_rfl⟩
  obtain ⟨fs, h1, h2, h3, h4, h5⟩ := h
  unfold placesT
  rw [h1]
  show (some fun (i : Nat) => (fs[i]?).map fun (f : Go.Field) => (f.offset, Try.prog.cellsOf f.type)) = _
  refine congrArg some (funext fun i => ?_)
  by_cases i0 : i = 0
  · subst i0; exact h3
  · by_cases i1 : i = 1
    · subst i1; exact h4
    · by_cases i2 : i = 2
      · subst i2; exact h5
      · rw [if_neg i0, if_neg i1, if_neg i2, Array.getElem?_eq_none (by omega)]; rfl
theorem ofVal45 : D.ofVal (Value.agg #[.int .i64 0, .slice none 0 0, .slice none 0 0]) = .agg [.v (.int .i64 0) , .v (.slice none 0 0) , .v (.slice none 0 0)] := (rfl)
theorem fact_pl64 : placesT Try.prog 64 = some fun i => if i = 0 then some (0, 1) else if i = 1 then some (1, 1) else if i = 2 then some (2, 1) else none := by
  have h : ∃ fs, Try.prog.underlying 64 = some (.struct fs) ∧ fs.size = 3 ∧ ((fs[0]?).map fun f => (f.offset, Try.prog.cellsOf f.type)) = some (0, 1) ∧ ((fs[1]?).map fun f => (f.offset, Try.prog.cellsOf f.type)) = some (1, 1) ∧ ((fs[2]?).map fun f => (f.offset, Try.prog.cellsOf f.type)) = some (2, 1) := ⟨_, rfl, by kernel_rfl, by kernel_rfl, by kernel_rfl, by kernel_rfl⟩
  obtain ⟨fs, h1, h2, h3, h4, h5⟩ := h
  unfold placesT
  rw [h1]
  show (some fun (i : Nat) => (fs[i]?).map fun (f : Go.Field) => (f.offset, Try.prog.cellsOf f.type)) = _
  refine congrArg some (funext fun i => ?_)
  by_cases i0 : i = 0
  · subst i0; exact h3
  · by_cases i1 : i = 1
    · subst i1; exact h4
    · by_cases i2 : i = 2
      · subst i2; exact h5
      · rw [if_neg i0, if_neg i1, if_neg i2, Array.getElem?_eq_none (by omega)]; rfl
theorem ofVal64 : D.ofVal (Value.agg #[.int .i64 0, .int .i64 0, .int .i16 0]) = .agg [.v (.int .i64 0) , .v (.int .i64 0) , .v (.int .i16 0)] := (rfl)
theorem fact_pl65 : placesT Try.prog 65 = some fun i => if i = 0 then some (0, 1) else if i = 1 then some (1, 1) else if i = 2 then some (2, 1) else none := by
  have h : ∃ fs, Try.prog.underlying 65 = some (.struct fs) ∧ fs.size = 3 ∧ ((fs[0]?).map fun f => (f.offset, Try.prog.cellsOf f.type)) = some (0, 1) ∧ ((fs[1]?).map fun f => (f.offset, Try.prog.cellsOf f.type)) = some (1, 1) ∧ ((fs[2]?).map fun f => (f.offset, Try.prog.cellsOf f.type)) = some (2, 1) := ⟨_, rfl, by kernel_rfl, by kernel_rfl, by kernel_rfl, by kernel_rfl⟩
  obtain ⟨fs, h1, h2, h3, h4, h5⟩ := h
  unfold placesT
  rw [h1]
  show (some fun (i : Nat) => (fs[i]?).map fun (f : Go.Field) => (f.offset, Try.prog.cellsOf f.type)) = _
  refine congrArg some (funext fun i => ?_)
  by_cases i0 : i = 0
  · subst i0; exact h3
  · by_cases i1 : i = 1
    · subst i1; exact h4
    · by_cases i2 : i = 2
      · subst i2; exact h5
      · rw [if_neg i0, if_neg i1, if_neg i2, Array.getElem?_eq_none (by omega)]; rfl
theorem ofVal65 : D.ofVal (Value.agg #[.int .i64 0, .int .i64 0, .int .i16 0]) = .agg [.v (.int .i64 0) , .v (.int .i64 0) , .v (.int .i16 0)] := (rfl)
theorem fact_pl72 : placesT Try.prog 72 = some fun i => if i = 0 then some (0, 1) else if i = 1 then some (1, 1) else none := by
  have h : ∃ fs, Try.prog.underlying 72 = some (.struct fs) ∧ fs.size = 2 ∧ ((fs[0]?).map fun f => (f.offset, Try.prog.cellsOf f.type)) = some (0, 1) ∧ ((fs[1]?).map fun f => (f.offset, Try.prog.cellsOf f.type)) = some (1, 1) := ⟨_, rfl, by kernel_rfl, by kernel_rfl, by kernel_rfl⟩
  obtain ⟨fs, h1, h2, h3, h4⟩ := h
  unfold placesT
  rw [h1]
  show (some fun (i : Nat) => (fs[i]?).map fun (f : Go.Field) => (f.offset, Try.prog.cellsOf f.type)) = _
  refine congrArg some (funext fun i => ?_)
  by_cases i0 : i = 0
  · subst i0; exact h3
  · by_cases i1 : i = 1
    · subst i1; exact h4
    · rw [if_neg i0, if_neg i1, Array.getElem?_eq_none (by omega)]; rfl
theorem ofVal72 : D.ofVal (Value.agg #[.int .i64 0, .slice none 0 0]) = .agg [.v (.int .i64 0) , .v (.slice none 0 0)] := (rfl)
theorem fact_pl73 : placesT Try.prog 73 = some fun i => if i = 0 then some (0, 1) else if i = 1 then some (1, 1) else none := by
  have h : ∃ fs, Try.prog.underlying 73 = some (.struct fs) ∧ fs.size = 2 ∧ ((fs[0]?).map fun f => (f.offset, Try.prog.cellsOf f.type)) = some (0, 1) ∧ ((fs[1]?).map fun f => (f.offset, Try.prog.cellsOf f.type)) = some (1, 1) := ⟨_, rfl, by kernel_rfl, by kernel_rfl, by kernel_rfl⟩
  obtain ⟨fs, h1, h2, h3, h4⟩ := h
  unfold placesT
  rw [h1]
  show (some fun (i : Nat) => (fs[i]?).map fun (f : Go.Field) => (f.offset, Try.prog.cellsOf f.type)) = _
  refine congrArg some (funext fun i => ?_)
  by_cases i0 : i = 0
  · subst i0; exact h3
  · by_cases i1 : i = 1
    · subst i1; exact h4
    · rw [if_neg i0, if_neg i1, Array.getElem?_eq_none (by omega)]; rfl
theorem ofVal73 : D.ofVal (Value.agg #[.int .i64 0, .slice none 0 0]) = .agg [.v (.int .i64 0) , .v (.slice none 0 0)] := (rfl)
theorem fact_pl98 : placesT Try.prog 98 = some fun i => if i = 0 then some (0, 1) else if i = 1 then some (1, 1) else if i = 2 then some (2, 1) else none := by
  have h : ∃ fs, Try.prog.underlying 98 = some (.struct fs) ∧ fs.size = 3 ∧ ((fs[0]?).map fun f => (f.offset, Try.prog.cellsOf f.type)) = some (0, 1) ∧ ((fs[1]?).map fun f => (f.offset, Try.prog.cellsOf f.type)) = some (1, 1) ∧ ((fs[2]?).map fun f => (f.offset, Try.prog.cellsOf f.type)) = some (2, 1) := ⟨_, rfl, by kernel_rfl, by kernel_rfl, by kernel_rfl, by kernel_rfl⟩
  obtain ⟨fs, h1, h2, h3, h4, h5⟩ := h
  unfold placesT
  rw [h1]
  show (some fun (i : Nat) => (fs[i]?).map fun (f : Go.Field) => (f.offset, Try.prog.cellsOf f.type)) = _
  refine congrArg some (funext fun i => ?_)
  by_cases i0 : i = 0
  · subst i0; exact h3
  · by_cases i1 : i = 1
    · subst i1; exact h4
    · by_cases i2 : i = 2
      · subst i2; exact h5
      · rw [if_neg i0, if_neg i1, if_neg i2, Array.getElem?_eq_none (by omega)]; rfl
theorem ofVal98 : D.ofVal (Value.agg #[.int .u64 0, .int .i64 0, .slice none 0 0]) = .agg [.v (.int .u64 0) , .v (.int .i64 0) , .v (.slice none 0 0)] := (rfl)
theorem fact_pl99 : placesT Try.prog 99 = some fun i => if i = 0 then some (0, 1) else if i = 1 then some (1, 1) else if i = 2 then some (2, 1) else none := by
  have h : ∃ fs, Try.prog.underlying 99 = some (.struct fs) ∧ fs.size = 3 ∧ ((fs[0]?).map fun f => (f.offset, Try.prog.cellsOf f.type)) = some (0, 1) ∧ ((fs[1]?).map fun f => (f.offset, Try.prog.cellsOf f.type)) = some (1, 1) ∧ ((fs[2]?).map fun f => (f.offset, Try.prog.cellsOf f.type)) = some (2, 1) := ⟨_, rfl, by kernel_rfl, by kernel_rfl, by kernel_rfl, by kernel_rfl⟩
  obtain ⟨fs, h1, h2, h3, h4, h5⟩ := h
  unfold placesT
  rw [h1]
  show (some fun (i : Nat) => (fs[i]?).map fun (f : Go.Field) => (f.offset, Try.prog.cellsOf f.type)) = _
  refine congrArg some (funext fun i => ?_)
  by_cases i0 : i = 0
  · subst i0; exact h3
  · by_cases i1 : i = 1
    · subst i1; exact h4
    · by_cases i2 : i = 2
      · subst i2; exact h5
      · rw [if_neg i0, if_neg i1, if_neg i2, Array.getElem?_eq_none (by omega)]; rfl
theorem ofVal99 : D.ofVal (Value.agg #[.int .u64 0, .int .i64 0, .slice none 0 0]) = .agg [.v (.int .u64 0) , .v (.int .i64 0) , .v (.slice none 0 0)] := (rfl)
theorem aggOf_agg {l : List D} : aggOf (.agg l) = some l := (rfl)
attribute [go_sem] fact_pl44 ofVal44 fact_pl45 ofVal45 fact_pl64 ofVal64 fact_pl65 ofVal65 fact_pl72 ofVal72 fact_pl73 ofVal73 fact_pl98 ofVal98 fact_pl99 ofVal99 aggOf_agg fillD cellsD
end Go.Proofs.Ytpkampecmlpfmaa.T

end
section
set_option linter.unusedSimpArgs false
set_option linter.unusedVariables false
/- The chapter's example; small books. -/
namespace Go.Proofs.Ytpkampecmlpfmaa.T
open Go Go.VL Go.Proofs
set_option maxRecDepth 100000
set_option maxHeartbeats 4000000
def fewB (cuts : List (List Int)) : Bool := cuts.all (fun c => decide (c.length ≤ 100)) && decide (cuts.length ≤ 100)
theorem few_all {cuts : List (List Int)} (h : fewB cuts = true) : cuts.length ≤ 100 ∧ ∀ c ∈ cuts, c.length ≤ 100 := by
  unfold fewB at h
  rw [Bool.and_eq_true, List.all_eq_true, decide_eq_true_eq] at h
  exact ⟨h.2, fun c hc => by simpa using h.1 c hc⟩

theorem few_fun (w : Int) (cuts : List (List Int)) : Fun Try.prog 51 [.agg [.v (.int .i64 w), .lst (rows .i16 cuts)]] fun r => r = .v (.bool (fewB cuts)) := by
  refine Fun.of_awpI Try.func51 rfl cal51 Try.ntmps51 (by simp) fun hwf => ?_
  simp only [D.wfs, D.wf, ints_length, ints_wfs, rows_length, rows_wfs, capMax, and_true, true_and] at hwf
  repeat' (first | simp only [go_sem, Ret_eq Try.results51] | fail)
  refine awpI_for cuts.length (fun k => ∀ i, i < k → (cuts.getD i []).length ≤ 100) (fun k => [(8, .v (.int .i64 k))]) (fun _ => []) [1, 6, 7] [1] _ (Weak.refl _) (fun i hi => by omega) ?_ ?_ ?_
  · simp only [go_sem, Ret_eq Try.results51]
  · simp only [go_sem, Ret_eq Try.results51]
  · intro k s hk hQ hs
    simp only [go_sem, Ret_eq Try.results51] at hs
    by_cases hka : k < cuts.length
    · repeat' (first | simp only [go_sem, hs, Ret_eq Try.results51] | simp (disch := omega) only [arith, IntKind.bits, capMax, fill_len, elt_fill] | (with_reducible refine condI_dec (fun hq hqb => ?_) (fun hq hqb => ?_) <;> simp only [KP_mk, hqb]) | (refine Again.up (by omega) ?_ ?_) | fail)
      · symm
        unfold fewB
        rw [Bool.and_eq_false_iff]
        exact .inl (by rw [List.all_eq_false]; exact ⟨_, getD_mem (d := []) hka, by rw [decide_eq_true_eq]; omega⟩)
      · intro i hi
        by_cases hik : i = k
        · subst hik; omega
        · exact hQ i (by omega)
    · obtain rfl : k = cuts.length := by omega
      repeat' (first | simp only [go_sem, hs, Ret_eq Try.results51] | simp (disch := omega) only [arith, IntKind.bits, capMax, fill_len, elt_fill] | fail)
      unfold fewB
      have : cuts.all (fun c => decide (c.length ≤ 100)) = true := by
        rw [List.all_eq_true]
        intro c hc
        obtain ⟨i, hi, rfl⟩ := List.mem_iff_getElem.1 hc
        have := hQ i hi
        simp [List.getD, hi] at this
        simpa using this
      rw [this, Bool.true_and]
      exact decide_eq_decide.2 (by omega)
end Go.Proofs.Ytpkampecmlpfmaa.T

end
section
set_option linter.unusedSimpArgs false
set_option linter.unusedVariables false
/- Whether one of many vectors is odd, walked. -/
namespace Go.Proofs.Ytpkampecmlpfmaa.T
open Go Go.VL Go.Proofs
set_option maxRecDepth 100000
set_option maxHeartbeats 4000000
theorem anyv_take_snoc {p : List Int → Bool} {l : List (List Int)} {k : Nat} (h : k < l.length) : (l.take (k + 1)).any p = ((l.take k).any p || p (l.getD k [])) := by
  rw [take_snoc (d := []) h, List.any_append]; simp
theorem anyv_of_take {p : List Int → Bool} {l : List (List Int)} {k : Nat} (h : k < l.length) (hp : p (l.getD k []) = true) : l.any p = true := by
  rw [List.any_eq_true]
  exact ⟨_, getD_mem h, hp⟩

theorem indexFuncV_fun (l : List (List Int)) (p : List Int → Bool) (g : FuncId) (caps : List D) (hc1 : D.idss caps = []) (hc2 : D.noRefs caps = true) (hc3 : D.nrms caps = caps)
    (hg : ∀ c ∈ l, Fun Try.prog g (.lst (ints .i16 c) :: caps) fun r => r = .v (.bool (p c))) :
    Fun Try.prog 153 [.lst (rows .i16 l), .clos (.func g) caps] fun r => ∃ z : Int, r = .v (.int .i64 z) ∧ (0 ≤ z ↔ l.any p = true) := by
  refine Fun.of_awpI Try.func153 rfl cal153 Try.ntmps153 (by simp) fun hwf => ?_
  simp only [D.wfs, D.wf, ints_length, ints_wfs, rows_length, rows_wfs, capMax, and_true, true_and] at hwf
  repeat' (first | simp only [go_sem, Ret_eq Try.results153] | fail)
  refine awpI_for l.length (fun k => (l.take k).any p = false) (fun k => [(8, .v (.int .i64 k))]) (fun _ => []) [0, 1, 7] [] _ (Weak.refl _) (by simp) ?_ ?_ ?_
  · simp only [go_sem, Ret_eq Try.results153]
  · simp only [go_sem, Ret_eq Try.results153]
  · intro k s hk hQ hs
    simp only [go_sem, Ret_eq Try.results153] at hs
    by_cases hka : k < l.length
    · have hgk := hg _ (getD_mem (d := []) hka)
      have e := anyv_take_snoc (p := p) hka
      rw [hQ, Bool.false_or] at e
      have e2 := anyv_of_take (p := p) hka
      generalize p (l.getD k []) = b at *
      cases b
      · repeat' (first | simp only [go_sem, hs, hc1, hc2, hc3, Ret_eq Try.results153] | simp (disch := omega) only [arith, IntKind.bits, capMax, fill_len, elt_fill] | (refine Again.up (by omega) ?_ ?_) | (refine opCallI_rd (by simp only [go_sem, hs, hc1, hc2, hc3, Ret_eq Try.results153]; first | done | rfl) (hgk) (by rintro _ rfl; rfl) ?_; rintro _ rfl) | fail)
        exact e
      · repeat' (first | simp only [go_sem, hs, hc1, hc2, hc3, Ret_eq Try.results153] | simp (disch := omega) only [arith, IntKind.bits, capMax, fill_len, elt_fill] | (refine opCallI_rd (by simp only [go_sem, hs, hc1, hc2, hc3, Ret_eq Try.results153]; first | done | rfl) (hgk) (by rintro _ rfl; rfl) ?_; rintro _ rfl) | fail)
        exact ⟨_, rfl, fun _ => e2 rfl, fun _ => by omega⟩
    · obtain rfl : k = l.length := by omega
      rw [List.take_length] at hQ
      repeat' (first | simp only [go_sem, hs, Ret_eq Try.results153] | simp (disch := omega) only [arith, IntKind.bits, capMax, fill_len, elt_fill] | fail)
      exact ⟨_, rfl, fun h => absurd h (by decide), fun h => by rw [hQ] at h; cases h⟩

theorem containsFuncV_fun (l : List (List Int)) (p : List Int → Bool) (g : FuncId) (caps : List D) (hc1 : D.idss caps = []) (hc2 : D.noRefs caps = true) (hc3 : D.nrms caps = caps)
    (hg : ∀ c ∈ l, Fun Try.prog g (.lst (ints .i16 c) :: caps) fun r => r = .v (.bool (p c))) :
    Fun Try.prog 123 [.lst (rows .i16 l), .clos (.func g) caps] fun r => r = .v (.bool (l.any p)) := by
  refine Fun.of_awpI Try.func123 rfl cal123 Try.ntmps123 (by simp) fun hwf => ?_
  simp only [D.wfs, D.wf, ints_length, ints_wfs, rows_length, rows_wfs, capMax, and_true, true_and] at hwf
  repeat' (first | simp only [go_sem, hc1, hc2, hc3, Ret_eq Try.results123] | (refine opCallI_gv (by simp only [go_sem, hc1, hc2, hc3, Ret_eq Try.results123]; first | done | rfl) (indexFuncV_fun l p g caps hc1 hc2 hc3 hg) ?_; rintro _ ⟨z, rfl, hz⟩) | fail)
  rw [Bool.eq_iff_iff, decide_eq_true_eq]
  omega
end Go.Proofs.Ytpkampecmlpfmaa.T

end
section
set_option linter.unusedSimpArgs false
set_option linter.unusedVariables false
/- Lists looked through, and counted; walked. -/
namespace Go.Proofs.Ytpkampecmlpfmaa.T
open Go Go.VL Go.Proofs
set_option maxRecDepth 100000
set_option maxHeartbeats 8000000
theorem any16_take {p : Int → Bool} {l : List Int} {k : Nat} (h : k < l.length) : (l.take (k + 1)).any p = ((l.take k).any p || p (l.getD k 0)) := by
  rw [take_snoc (d := 0) h, List.any_append]; simp
theorem any16_of {p : Int → Bool} {l : List Int} {k : Nat} (h : k < l.length) (hp : p (l.getD k 0) = true) : l.any p = true := by
  rw [List.any_eq_true]
  exact ⟨_, getD_mem h, hp⟩

theorem indexFunc16_fun (l : List Int) (p : Int → Bool) (g : FuncId) (hg : ∀ x : Int, Fun Try.prog g [.v (.int .i16 x)] fun r => r = .v (.bool (p x))) :
    Fun Try.prog 136 [.lst (ints .i16 l), .clos (.func g) []] fun r => ∃ z : Int, r = .v (.int .i64 z) ∧ (0 ≤ z ↔ l.any p = true) := by
  refine Fun.of_awpI Try.func136 rfl cal136 Try.ntmps136 (by simp) fun hwf => ?_
  simp only [D.wfs, D.wf, ints_length, ints_wfs, rows_length, rows_wfs, capMax, and_true, true_and] at hwf
  repeat' (first | simp only [go_sem, Ret_eq Try.results136] | fail)
  refine awpI_for l.length (fun k => (l.take k).any p = false) (fun k => [(8, .v (.int .i64 k))]) (fun _ => []) [0, 1, 7] [] _ (Weak.refl _) (by simp) ?_ ?_ ?_
  · simp only [go_sem, Ret_eq Try.results136]
  · simp only [go_sem, Ret_eq Try.results136]
  · intro k s hk hQ hs
    simp only [go_sem, Ret_eq Try.results136] at hs
    by_cases hka : k < l.length
    · have hgk := hg (l.getD k 0)
      have e := any16_take (p := p) hka
      rw [hQ, Bool.false_or] at e
      have e2 := any16_of (p := p) hka
      generalize p (l.getD k 0) = b at *
      cases b
      · repeat' (first | simp only [go_sem, hs, Ret_eq Try.results136] | simp (disch := omega) only [arith, IntKind.bits, capMax, fill_len, elt_fill] | (refine Again.up (by omega) ?_ ?_) | (refine opCallI_rd (by simp only [go_sem, hs, Ret_eq Try.results136]; first | done | rfl) (hgk) (by rintro _ rfl; rfl) ?_; rintro _ rfl) | fail)
        exact e
      · repeat' (first | simp only [go_sem, hs, Ret_eq Try.results136] | simp (disch := omega) only [arith, IntKind.bits, capMax, fill_len, elt_fill] | (refine opCallI_rd (by simp only [go_sem, hs, Ret_eq Try.results136]; first | done | rfl) (hgk) (by rintro _ rfl; rfl) ?_; rintro _ rfl) | fail)
        exact ⟨_, rfl, fun _ => e2 rfl, fun _ => by omega⟩
    · obtain rfl : k = l.length := by omega
      rw [List.take_length] at hQ
      repeat' (first | simp only [go_sem, hs, Ret_eq Try.results136] | simp (disch := omega) only [arith, IntKind.bits, capMax, fill_len, elt_fill] | fail)
      exact ⟨_, rfl, fun h => absurd h (by decide), fun h => by rw [hQ] at h; cases h⟩

theorem containsFunc16_fun (l : List Int) (p : Int → Bool) (g : FuncId) (hg : ∀ x : Int, Fun Try.prog g [.v (.int .i16 x)] fun r => r = .v (.bool (p x))) :
    Fun Try.prog 87 [.lst (ints .i16 l), .clos (.func g) []] fun r => r = .v (.bool (l.any p)) := by
  refine Fun.of_awpI Try.func87 rfl cal87 Try.ntmps87 (by simp) fun hwf => ?_
  simp only [D.wfs, D.wf, ints_length, ints_wfs, rows_length, rows_wfs, capMax, and_true, true_and] at hwf
  repeat' (first | simp only [go_sem, Ret_eq Try.results87] | (refine opCallI_gv (by simp only [go_sem, Ret_eq Try.results87]; first | done | rfl) (indexFunc16_fun l p g hg) ?_; rintro _ ⟨z, rfl, hz⟩) | fail)
  rw [Bool.eq_iff_iff, decide_eq_true_eq]
  omega

end Go.Proofs.Ytpkampecmlpfmaa.T

end
section
set_option linter.unusedSimpArgs false
set_option linter.unusedVariables false
/- Where a list is cut, walked over what slices.Sorted does. -/
namespace Go.Proofs.Ytpkampecmlpfmaa.T
open Go Go.VL Go.Proofs
set_option maxRecDepth 100000
set_option maxHeartbeats 8000000

theorem values16_fun (l : List Int) : Fun Try.prog 90 [.lst (ints .i16 l)] fun r => r = .clos (.func 139) [.ptr (.lst (ints .i16 l))] := by
  refine Fun.of_awpI Try.func90 rfl cal90 Try.ntmps90 (by simp) fun hwf => ?_
  simp only [D.wfs, D.wf, ints_length, ints_wfs, rows_length, rows_wfs, capMax, and_true, true_and] at hwf
  repeat' (first | simp only [go_sem, Ret_eq Try.results90] | fail)
def Sorted16 : Prop := ∀ l : List Int, 1 ≤ l.length → l.length ≤ 60000 → FunO Try.prog 89 [.clos (.func 139) [.ptr (.lst (ints .i16 l))]] fun r o => r = .ref 0 l.length ∧ o = some ⟨23, 1, ints .i16 (sortI l)⟩
theorem fill_cuts {l : List Int} {n : Nat} : fill (fun i => (sortI l).getD ((i + 1) * l.length / n) 0) (List.replicate (n - 1) 0) (n - 1) = cutsL l n := by
  have := fill_all (f := fun i => (sortI l).getD ((i + 1) * l.length / n) 0) (a := List.replicate (n - 1) 0)
  rw [List.length_replicate] at this
  exact this

theorem rkCuts_fun (hS : Sorted16) (l : List Int) (cells : Int) (hl : l.length ≤ 60000) : Fun Try.prog 25 [.lst (ints .i16 l), .v (.int .i64 cells)] fun r => r = .tup [.lst (ints .i16 (rkOut l cells)), .v (.int .i64 (rkE l cells))] := by
  have hcf := containsFunc16_fun l oddB 88 (fun x => rankOdd_fun x)
  by_cases h : rkE l cells = 0
  · have e1 : rkOut l cells = cutsL l cells.toNat := if_pos h
    rw [e1, h]
    obtain ⟨h1, ⟨h2, h3⟩, h4, h5⟩ := rkE_zero.1 h
    obtain ⟨n, rfl⟩ := Int.eq_ofNat_of_zero_le (show 0 ≤ cells by omega)
    rw [Int.toNat_natCast]
    rw [h4] at hcf
    have hv := values16_fun l
    have hso := hS l h5 hl
    have hsl := sortI_length l
    have en : (n : Int) - 1 = ((n - 1 : Nat) : Int) := by omega
    have hne : ((l.length : Int) == 0) = false := beq_eq_false_iff_ne.2 (by omega)
    refine Fun.of_awpI Try.func25 rfl cal25 Try.ntmps25 (by simp) fun hwf => ?_
    simp only [D.wfs, D.wf, ints_length, ints_wfs, rows_length, rows_wfs, capMax, and_true, true_and] at hwf
    repeat' (first | simp only [go_sem, en, hne, Int.toNat_natCast, Ret_eq Try.results25] | simp (disch := omega) only [arith, IntKind.bits, capMax, fill_len, elt_fill] | (refine opCallI_rd (by simp only [go_sem, en, hne, Int.toNat_natCast, Ret_eq Try.results25]; first | done | rfl) (hcf) (by rintro _ rfl; rfl) ?_; rintro _ rfl) | (refine opCallI_gv (by simp only [go_sem, en, hne, Int.toNat_natCast, Ret_eq Try.results25]; first | done | rfl) (hv) ?_; rintro _ rfl) | (refine opCallI_ownGv (by simp only [go_sem, en, hne, Int.toNat_natCast, Ret_eq Try.results25]; first | done | rfl) (hso) ?_; rintro _ _ ⟨rfl, rfl⟩) | fail)
    refine awpI_for (n - 1) (fun k => True) (fun k => [(36, .v (.int .i64 k))]) (fun k => [(33, ⟨23, 1, ints .i16 (fill (fun i => (sortI l).getD ((i + 1) * l.length / n) 0) (List.replicate (n - 1) 0) k)⟩)]) [0, 1, 6, 7, 35] [30] _ (Weak.refl _) trivial ?_ ?_ ?_
    · simp only [go_sem, Ret_eq Try.results25]
    · simp only [go_sem, fill_zero, Ret_eq Try.results25]
    · intro k s hk _ hs
      simp only [go_sem, Ret_eq Try.results25] at hs
      by_cases hka : k < n - 1
      · have hlt := cutsL_idx (l := l) hka h5
        have e2 := fill_set (f := fun i => (sortI l).getD ((i + 1) * l.length / n) 0) (a := List.replicate (n - 1) 0) (k := k) (by simpa using hka)
        have el : (fill (fun i => (sortI l).getD ((i + 1) * l.length / n) 0) (List.replicate (n - 1) 0) k).length = n - 1 := by rw [fill_len (by simp; omega)]; simp
        have em : ((k + 1 : Nat) : Int) * (l.length : Int) = (((k + 1) * l.length : Nat) : Int) := (Int.natCast_mul _ _).symm
        have hmb : (k + 1) * l.length ≤ 16 * 4096 := Nat.mul_le_mul (by omega) h1
        have ed : (((k + 1) * l.length : Nat) : Int) / (n : Int) = (((k + 1) * l.length / n : Nat) : Int) := (Int.natCast_ediv _ _).symm
        have edt : (((k + 1) * l.length : Nat) : Int).tdiv (n : Int) = (((k + 1) * l.length / n : Nat) : Int) := by rw [Int.tdiv_eq_ediv_of_nonneg (by omega)]; exact ed
        obtain ⟨q, hq⟩ : ∃ q, (k + 1) * l.length / n = q := ⟨_, rfl⟩
        rw [hq] at e2 hlt ed edt
        repeat' (first | simp only [go_sem, hs, em, ed, edt, hsl, el, e2, Ret_eq Try.results25] | simp (disch := omega) only [arith, IntKind.bits, capMax, fill_len, elt_fill] | (refine Again.up (by omega) ?_ ?_) | fail)
      · obtain rfl : k = n - 1 := by omega
        rw [fill_cuts] at hs
        have hcl := cutsL_length (l := l) (n := n)
        have ht : (cutsL l n).take (n - 1) = cutsL l n := List.take_of_length_le (by omega)
        repeat' (first | simp only [go_sem, hs, hcl, ht, Ret_eq Try.results25] | simp (disch := omega) only [arith, IntKind.bits, capMax, fill_len, elt_fill] | fail)
  · have e1 : rkOut l cells = [] := if_neg h
    rw [e1]
    by_cases h1 : 4096 < l.length
    · rw [show rkE l cells = 3 from if_pos h1]
      refine Fun.of_awpI Try.func25 rfl cal25 Try.ntmps25 (by simp) fun hwf => ?_
      simp only [D.wfs, D.wf, ints_length, ints_wfs, rows_length, rows_wfs, capMax, and_true, true_and] at hwf
      repeat' (first | simp only [go_sem, ints_nil, Ret_eq Try.results25] | simp (disch := omega) only [arith, IntKind.bits, capMax, fill_len, elt_fill] | fail)
    · by_cases h2 : ¬ (1 ≤ cells ∧ cells ≤ 16) ∨ l.any oddB = true
      · rw [show rkE l cells = 1 from (if_neg h1).trans (if_pos h2)]
        by_cases q1 : 1 ≤ cells
        · by_cases q2 : cells ≤ 16
          · have q3 : l.any oddB = true := h2.resolve_left (fun z => z ⟨q1, q2⟩)
            rw [q3] at hcf
            refine Fun.of_awpI Try.func25 rfl cal25 Try.ntmps25 (by simp) fun hwf => ?_
            simp only [D.wfs, D.wf, ints_length, ints_wfs, rows_length, rows_wfs, capMax, and_true, true_and] at hwf
            repeat' (first | simp only [go_sem, ints_nil, Ret_eq Try.results25] | simp (disch := omega) only [arith, IntKind.bits, capMax, fill_len, elt_fill] | (refine opCallI_rd (by simp only [go_sem, ints_nil, Ret_eq Try.results25]; first | done | rfl) (hcf) (by rintro _ rfl; rfl) ?_; rintro _ rfl) | fail)
          · skip
            refine Fun.of_awpI Try.func25 rfl cal25 Try.ntmps25 (by simp) fun hwf => ?_
            simp only [D.wfs, D.wf, ints_length, ints_wfs, rows_length, rows_wfs, capMax, and_true, true_and] at hwf
            repeat' (first | simp only [go_sem, ints_nil, Ret_eq Try.results25] | simp (disch := omega) only [arith, IntKind.bits, capMax, fill_len, elt_fill] | fail)
        · skip
          refine Fun.of_awpI Try.func25 rfl cal25 Try.ntmps25 (by simp) fun hwf => ?_
          simp only [D.wfs, D.wf, ints_length, ints_wfs, rows_length, rows_wfs, capMax, and_true, true_and] at hwf
          repeat' (first | simp only [go_sem, ints_nil, Ret_eq Try.results25] | simp (disch := omega) only [arith, IntKind.bits, capMax, fill_len, elt_fill] | fail)
      · have h3 : (1 ≤ cells ∧ cells ≤ 16) ∧ l.any oddB = false := ⟨Classical.byContradiction fun q => h2 (.inl q), by
          cases e : l.any oddB with
          | false => rfl
          | true => exact absurd (.inr e) h2⟩
        obtain ⟨⟨h4, h5⟩, h6⟩ := h3
        rw [h6] at hcf
        have h7 : l.length = 0 := Classical.byContradiction fun q => h (rkE_zero.2 ⟨by omega, ⟨h4, h5⟩, h6, by omega⟩)
        rw [show rkE l cells = 5 from ((if_neg h1).trans (if_neg h2)).trans (if_pos h7)]
        refine Fun.of_awpI Try.func25 rfl cal25 Try.ntmps25 (by simp) fun hwf => ?_
        simp only [D.wfs, D.wf, ints_length, ints_wfs, rows_length, rows_wfs, capMax, and_true, true_and] at hwf
        repeat' (first | simp only [go_sem, ints_nil, h7, beq_self_eq_true, Ret_eq Try.results25] | simp (disch := omega) only [arith, IntKind.bits, capMax, fill_len, elt_fill] | (refine opCallI_rd (by simp only [go_sem, ints_nil, h7, beq_self_eq_true, Ret_eq Try.results25]; first | done | rfl) (hcf) (by rintro _ rfl; rfl) ?_; rintro _ rfl) | fail)
end Go.Proofs.Ytpkampecmlpfmaa.T

end
section
set_option linter.unusedSimpArgs false
set_option linter.unusedVariables false
/- A book's text, written and read, plainly. -/
namespace Go.Proofs.Ytpkampecmlpfmaa.T
open Go Go.VL Go.Proofs
theorem plainCut_range {cells : Int} {k : Nat} (h : 1 ≤ cells ∧ cells ≤ 16) (hk : (k : Int) + 1 < cells) : -32767 ≤ plainCut cells k ∧ plainCut cells k ≤ 32767 := by
  unfold plainCut
  have h1 : ((k : Int) + 1) * 65536 / cells ≤ 65535 := by
    have : ((k : Int) + 1) * 65536 / cells < 65536 := Int.ediv_lt_of_lt_mul (by omega) (by omega)
    omega
  have h2 : 1 ≤ ((k : Int) + 1) * 65536 / cells := by rw [Int.le_ediv_iff_mul_le (by omega)]; omega
  omega
theorem plainRow_getD {cells : Int} {i : Nat} (h : i < (cells - 1).toNat) : (plainRow cells).getD i 0 = plainCut cells i := by
  have h2 : i < cells.toNat - 1 := by omega
  simp [plainRow, List.getD, h2]
end Go.Proofs.Ytpkampecmlpfmaa.T

end
section
set_option linter.unusedSimpArgs false
set_option linter.unusedVariables false
/- Lists of cuts that are filled row by row. -/
namespace Go.Proofs.Ytpkampecmlpfmaa.T
open Go Go.VL Go.Proofs
set_option maxRecDepth 100000
set_option maxHeartbeats 4000000
theorem AgainB_frz {n : Nat} {Q : Nat → Prop} {V : Nat → List (Nat × D)} {W : Nat → List (Nat × Own)} {keep hkeep : List Nat} {s0 : St} {k : Nat} {s : St} (id : Nat) (o : Own) (ho : s.H id = some o) (hn : D.noRefs o.els = true) (hw : o.els.all (fun d => d.width == o.S) = true) (h : k < n) (hQ : Q (k + 1))
    (hs : AtL V W keep hkeep s0 (k + 1) (s.frozen id (D.nrms o.els))) : @AgI s ⟨AgainW (fun k => n - k) (fun k => k ≤ n ∧ Q k) V W keep hkeep s0 k⟩ :=
  AgainW.weak (k + 1) (Weak.freeze ho hn hw) (by show n - (k + 1) < n - k; omega) ⟨h, hQ⟩ hs
def nils (m : Nat) : List D := List.replicate m (.v (.slice none 0 0))
def tab (A : List (List Int)) (m : Nat) : List D := rows .i16 A ++ nils m
def tabR (A : List (List Int)) (id len m : Nat) : List D := rows .i16 A ++ .ref id len :: nils m
def tabA (A : List (List Int)) (m : Nat) : List D := rows .i16 A ++ .any :: nils m
theorem tab_zero {m : Nat} : List.replicate m (D.v (.slice none 0 0)) = tab [] m := by simp [tab, nils, rows]
theorem tab_length {A : List (List Int)} {m : Nat} : (tab A m).length = A.length + m := by simp [tab, nils, rows]
theorem tabR_length {A : List (List Int)} {id len m : Nat} : (tabR A id len m).length = A.length + (m + 1) := by simp [tabR, nils, rows]
theorem tabA_length {A : List (List Int)} {m : Nat} : (tabA A m).length = A.length + (m + 1) := by simp [tabA, nils, rows]
theorem tab_get {A : List (List Int)} {m : Nat} : (tab A (m + 1))[A.length]? = some (.v (.slice none 0 0)) := by simp [tab, nils, rows, List.replicate_succ]
theorem tab_set {A : List (List Int)} {id len m : Nat} : (tab A (m + 1)).set A.length (.ref id len) = tabR A id len m := by
  have : (rows .i16 A).length = A.length := by simp [rows]
  unfold tab tabR
  rw [← this, List.set_append_right _ _ (Nat.le_refl _), Nat.sub_self]
  simp [nils, List.replicate_succ]
theorem tabA_set {A : List (List Int)} {id len m : Nat} : (tabA A m).set A.length (.ref id len) = tabR A id len m := by
  have : (rows .i16 A).length = A.length := by simp [rows]
  unfold tabA tabR
  rw [← this, List.set_append_right _ _ (Nat.le_refl _), Nat.sub_self]
  simp
theorem tabR_get {A : List (List Int)} {id len m : Nat} : (tabR A id len m)[A.length]? = some (.ref id len) := by
  have : (rows .i16 A).length = A.length := by simp [rows]
  unfold tabR
  rw [← this, List.getElem?_append_right (Nat.le_refl _), Nat.sub_self]
  rfl
theorem tabA_get {A : List (List Int)} {m : Nat} : (tabA A m)[A.length]? = some .any := by
  have : (rows .i16 A).length = A.length := by simp [rows]
  unfold tabA
  rw [← this, List.getElem?_append_right (Nat.le_refl _), Nat.sub_self]
  rfl
theorem tab_end {A : List (List Int)} : tab A 0 = rows .i16 A := by simp [tab, nils]
theorem nils_kills {m id : Nat} : D.kills id (nils m) = nils m := by simp [nils, D.kills_eq_map, D.kill]
theorem nils_frzs {m id : Nat} {els : List D} : D.frzs id els (nils m) = nils m := by simp [nils, D.frzs_eq, D.frz]
theorem tab_kills {A : List (List Int)} {m id : Nat} : D.kills id (tab A m) = tab A m := by
  unfold tab
  rw [D.kills_eq_map, List.map_append, ← D.kills_eq_map, ← D.kills_eq_map, nils_kills, rows_kills]
theorem tabR_kills {A : List (List Int)} {m id len : Nat} : D.kills id (tabR A id len m) = tabA A m := by
  unfold tabR tabA
  rw [D.kills_eq_map, List.map_append, ← D.kills_eq_map, rows_kills, List.map_cons, ← D.kills_eq_map, nils_kills]
  simp [D.kill]
theorem tabR_frzs {A : List (List Int)} {id m : Nat} {l : List Int} : D.frzs id (ints .i16 l) (tabR A id l.length m) = tab (A ++ [l]) m := by
  unfold tab tabR
  rw [D.frzs_eq, List.map_append, ← D.frzs_eq, rows_frzs, List.map_cons, ← D.frzs_eq, nils_frzs]
  have : (D.ref id l.length).frz id (ints .i16 l) = .lst (ints .i16 l) := by
    simp only [D.frz, if_true]
    rw [if_pos (by simp [ints])]
    congr 1
    exact List.take_of_length_le (by simp [ints])
  rw [this]
  simp [rows]
theorem nils_idss {m : Nat} : D.idss (nils m) = [] := by
  unfold nils
  induction m with
  | zero => rfl
  | succ m ih => rw [List.replicate_succ]; show _ ++ _ = _; rw [ih]; rfl
theorem idss_app : ∀ (a b : List D), D.idss (a ++ b) = D.idss a ++ D.idss b
  | [], b => rfl
  | x :: a, b => by rw [List.cons_append]; show _ ++ D.idss (a ++ b) = (_ ++ D.idss a) ++ _; rw [idss_app a b, List.append_assoc]
theorem tab_idss {A : List (List Int)} {m : Nat} : D.idss (tab A m) = [] := by unfold tab; rw [idss_app, rows_idss, nils_idss]; rfl
theorem tabR_idss {A : List (List Int)} {id len m : Nat} : D.idss (tabR A id len m) = [id] := by
  unfold tabR; rw [idss_app, rows_idss]
  show [] ++ ([id] ++ D.idss (nils m)) = _
  rw [nils_idss]; rfl
theorem tab_noRefs {A : List (List Int)} {m : Nat} : D.noRefs (tab A m) = true := by
  unfold tab nils
  rw [D.noRefs_eq, List.all_append, ← D.noRefs_eq, rows_noRefs]
  simp [D.noRef]
theorem tab_width1 {A : List (List Int)} {m : Nat} : (tab A m).all (fun d => d.width == 1) = true := by
  unfold tab nils
  rw [List.all_append, rows_width1]
  simp [D.width]
theorem tab_nrms {A : List (List Int)} {m : Nat} : D.nrms (tab A m) = rows .i16 (A ++ List.replicate m []) := by
  unfold tab nils
  rw [D.nrms_eq, List.map_append, ← D.nrms_eq, rows_nrms]
  simp [D.nrm, nilV, rows, ints]
attribute [go_sem] tab_idss tabR_idss tab_noRefs tab_width1 tab_nrms tab_zero tab_length tabR_length tabA_length tab_kills tabR_kills
end Go.Proofs.Ytpkampecmlpfmaa.T

end
section
set_option linter.unusedSimpArgs false
set_option linter.unusedVariables false
/- A book of a sample, walked. -/
namespace Go.Proofs.Ytpkampecmlpfmaa.T
open Go Go.VL Go.Proofs
set_option maxRecDepth 100000
set_option maxHeartbeats 4000000
theorem tab_setL {A : List (List Int)} {l : List Int} {m : Nat} : (tab A (m + 1)).set A.length (.lst (ints .i16 l)) = tab (A ++ [l]) m := by
  have : (rows .i16 A).length = A.length := by simp [rows]
  unfold tab
  rw [← this, List.set_append_right _ _ (Nat.le_refl _), Nat.sub_self]
  simp [nils, rows, List.replicate_succ]
theorem okTo_tab {base m : Nat} : ∀ {A : List (List Int)}, okTos base (tab A m) = true
  | [] => by
    induction m with
    | zero => rfl
    | succ m ih => exact ih
  | _ :: A => okTo_tab (A := A)

theorem train1_fun (v : List Int) (w : Int) (cuts : List (List Int)) : Fun Try.prog 121 [.lst (ints .i16 v), .ptr (bookD w cuts)] fun r => r = .v (.bool (oddN cuts.length v)) := by
  have hv := vecCheck_fun v
  refine Fun.of_awpI Try.func121 rfl cal121 Try.ntmps121 (by simp) fun hwf => ?_
  simp only [D.wfs, D.wf, ints_length, ints_wfs, rows_length, rows_wfs, capMax, and_true, true_and] at hwf
  unfold oddN
  by_cases h1 : vecErr v = 0
  · by_cases h2 : v.length = cuts.length
    · have h2b : ((v.length : Int) != (cuts.length : Int)) = false := by rw [h2]; exact bne_self_eq_false _
      repeat' (first | simp only [go_sem, h1, h2b, Ret_eq Try.results121] | (refine opCallI_rd (by simp only [go_sem, h1, h2b, Ret_eq Try.results121]; first | done | rfl) (hv) (by rintro _ rfl; rfl) ?_; rintro _ rfl) | fail)
      all_goals simp [h1, h2]
    · have h2b : ((v.length : Int) != (cuts.length : Int)) = true := by rw [bne, beq_eq_false_iff_ne.2 (by omega)]; rfl
      repeat' (first | simp only [go_sem, h1, h2b, Ret_eq Try.results121] | (refine opCallI_rd (by simp only [go_sem, h1, h2b, Ret_eq Try.results121]; first | done | rfl) (hv) (by rintro _ rfl; rfl) ?_; rintro _ rfl) | fail)
      all_goals simp [h1, h2]
  · have h1b : (vecErr v != 0) = true := by rw [bne, beq_eq_false_iff_ne.2 h1]; rfl
    repeat' (first | simp only [go_sem, h1b, Ret_eq Try.results121] | (refine opCallI_rd (by simp only [go_sem, h1b, Ret_eq Try.results121]; first | done | rfl) (hv) (by rintro _ rfl; rfl) ?_; rintro _ rfl) | fail)
    all_goals simp [h1]

theorem cloneRow_fun (v : List Int) (hb : v.length ≤ 500) : Fun Try.prog 124 [.lst (ints .i16 v)] fun r => r = .lst (ints .i16 v) := by
  by_cases h : 1 ≤ v.length
  · skip
    refine Fun.of_awpI Try.func124 rfl cal124 Try.ntmps124 (by simp) fun hwf => ?_
    simp only [D.wfs, D.wf, ints_length, ints_wfs, rows_length, rows_wfs, capMax, and_true, true_and] at hwf
    simp only [go_sem, Ret_eq Try.results124]
    refine opBinI_isNil (by simp only [go_sem]) fun c hc => ?_
    rw [ints_isNil] at hc
    simp only [go_sem, Ret_eq Try.results124]
    refine condI_split (fun h => ?_) (fun h => ?_)
    · have hb := hc h
      subst hb
      simp at h
    · repeat' (first | simp only [go_sem, h, Ret_eq Try.results124] | simp (disch := omega) only [arith, IntKind.bits, capMax, fill_len, elt_fill] | fail)
  · obtain rfl : v = [] := List.length_eq_zero_iff.1 (by omega)
    refine Fun.of_awpI Try.func124 rfl cal124 Try.ntmps124 (by simp) fun hwf => ?_
    simp only [D.wfs, D.wf, ints_length, ints_wfs, rows_length, rows_wfs, capMax, and_true, true_and] at hwf
    simp only [go_sem, Ret_eq Try.results124]
    refine opBinI_isNil (by simp only [go_sem]) fun c hc => ?_
    simp only [go_sem, Ret_eq Try.results124]
    refine condI_split (fun h => ?_) (fun h => ?_)
    · repeat' (first | simp only [go_sem, h, Ret_eq Try.results124] | fail)
    · repeat' (first | simp only [go_sem, h, frzStep, Ret_eq Try.results124] | fail)

theorem bookTrain_fun (hS : Sorted16) (w : Int) (cuts : List (List Int)) (way : Int) (sample : List (List Int)) (hI : I16r sample) : Fun Try.prog 67 [bookD w cuts, .v (.int .i64 way), .lst (rows .i16 sample)] fun r => r = .tup [bookD (trW w cuts way sample) (trC w cuts way sample), .v (.int .i64 (trE w cuts way sample))] := by
  have hce := quantCells_fun w cuts
  have hno := not_fun way
  have hcf := containsFuncV_fun sample (oddN cuts.length) 121 [.ptr (bookD w cuts)] rfl rfl rfl fun v _ => train1_fun v w cuts
  by_cases hb : bookErr w cuts = 0
  · by_cases hw : wayErr way = 0
    · cases ha : sample.any (oddN cuts.length) with
      | true =>
        have hE : trE w cuts way sample = 1 := if_pos (.inr ha)
        rw [hE, show trW w cuts way sample = 0 from if_neg (by rw [hE]; decide), show trC w cuts way sample = [] from if_neg (by rw [hE]; decide)]
        rw [ha] at hcf
        refine Fun.of_awpI Try.func67 rfl cal67 Try.ntmps67 (by simp) fun hwf => ?_
        simp only [D.wfs, D.wf, ints_length, ints_wfs, rows_length, rows_wfs, capMax, and_true, true_and] at hwf
        repeat' (first | simp only [go_sem, hb, hw, rows_nil, Ret_eq Try.results67] | simp (disch := omega) only [arith, IntKind.bits, capMax, fill_len, elt_fill] | (refine opCallI_rd (by simp only [go_sem, hb, hw, rows_nil, Ret_eq Try.results67]; first | done | rfl) (hce) (by rintro _ rfl; rfl) ?_; rintro _ rfl) | (refine opCallI_rd (by simp only [go_sem, hb, hw, rows_nil, Ret_eq Try.results67]; first | done | rfl) (hno) (by rintro _ rfl; rfl) ?_; rintro _ rfl) | (refine opCallI_rd (by simp only [go_sem, hb, hw, rows_nil, Ret_eq Try.results67]; first | done | rfl) (hcf) (by rintro _ rfl; rfl) ?_; rintro _ rfl) | fail)
        all_goals rfl
      | false =>
        by_cases hlong : 4096 < sample.length
        · have hE : trE w cuts way sample = 3 := by
            unfold trE
            rw [if_neg, if_pos hlong]
            rintro (q | q)
            · exact q ⟨hb, hw⟩
            · rw [ha] at q; cases q
          rw [hE, show trW w cuts way sample = 0 from if_neg (by rw [hE]; decide), show trC w cuts way sample = [] from if_neg (by rw [hE]; decide)]
          rw [ha] at hcf
          refine Fun.of_awpI Try.func67 rfl cal67 Try.ntmps67 (by simp) fun hwf => ?_
          simp only [D.wfs, D.wf, ints_length, ints_wfs, rows_length, rows_wfs, capMax, and_true, true_and] at hwf
          repeat' (first | simp only [go_sem, hb, hw, rows_nil, Ret_eq Try.results67] | simp (disch := omega) only [arith, IntKind.bits, capMax, fill_len, elt_fill] | (refine opCallI_rd (by simp only [go_sem, hb, hw, rows_nil, Ret_eq Try.results67]; first | done | rfl) (hce) (by rintro _ rfl; rfl) ?_; rintro _ rfl) | (refine opCallI_rd (by simp only [go_sem, hb, hw, rows_nil, Ret_eq Try.results67]; first | done | rfl) (hno) (by rintro _ rfl; rfl) ?_; rintro _ rfl) | (refine opCallI_rd (by simp only [go_sem, hb, hw, rows_nil, Ret_eq Try.results67]; first | done | rfl) (hcf) (by rintro _ rfl; rfl) ?_; rintro _ rfl) | fail)
          all_goals rfl
        · have hsok := sampleOk_iff.1 ha
          have hE : trE w cuts way sample = 0 := trE_zero.2 ⟨hb, hw, hsok, by omega⟩
          rw [hE, show trW w cuts way sample = (if sample = [] then w else way) from if_pos hE, show trC w cuts way sample = (if sample = [] then cuts else trCuts cuts.length (manyOf cuts + 1) way sample) from if_pos hE]
          rw [ha] at hcf
          clear ha
          have hcl := (bookErr_zero.1 hb).2.1
          have hrow := book_rows hb
          have hmany := book_many hb
          by_cases h0 : sample = []
          · subst h0
            rw [if_pos rfl, if_pos rfl]
            refine Fun.of_awpI Try.func67 rfl cal67 Try.ntmps67 (by simp) fun hwf => ?_
            simp only [D.wfs, D.wf, ints_length, ints_wfs, rows_length, rows_wfs, capMax, and_true, true_and] at hwf
            repeat' (first | simp only [go_sem, hb, hw, rows_nil, Ret_eq Try.results67] | simp (disch := omega) only [arith, IntKind.bits, capMax, fill_len, elt_fill] | (refine opCallI_rd (by simp only [go_sem, hb, hw, rows_nil, Ret_eq Try.results67]; first | done | rfl) (hce) (by rintro _ rfl; rfl) ?_; rintro _ rfl) | (refine opCallI_rd (by simp only [go_sem, hb, hw, rows_nil, Ret_eq Try.results67]; first | done | rfl) (hno) (by rintro _ rfl; rfl) ?_; rintro _ rfl) | (refine opCallI_rd (by simp only [go_sem, hb, hw, rows_nil, Ret_eq Try.results67]; first | done | rfl) (hcf) (by rintro _ rfl; rfl) ?_; rintro _ rfl) | fail)
            refine awpI_for cuts.length (fun k => True) (fun k => [(64, .v (.int .i64 k))]) (fun k => match k with | 0 => [(13, ⟨73, 2, [.agg [.v (.int .i64 w), .v (.slice none 0 0)]]⟩)] | k + 1 => [(13, ⟨73, 2, [.agg [.v (.int .i64 w), .ref 73 (k + 1)]]⟩), (73, ⟨22, 1, rows .i16 (cuts.take (k + 1))⟩)]) [6, 13, 62, 63] [6] _ (Weak.refl _) trivial ?_ ?_ ?_
            · simp only [go_sem, Ret_eq Try.results67]
            · simp only [go_sem, Ret_eq Try.results67]
            · intro k s hk _ hs
              by_cases hka : k < cuts.length
              · have e := take_snoc (a := cuts) (d := []) hka
                have hcl2 := (hrow _ (getD_mem (d := []) hka)).1
                have hcn := cloneRow_fun (cuts.getD k []) (by omega)
                cases k with
                | zero =>
                  simp only [go_sem, Ret_eq Try.results67] at hs
                  repeat' (first | simp only [go_sem, hs, Ret_eq Try.results67] | simp (disch := omega) only [arith, IntKind.bits, capMax, fill_len, elt_fill] | (refine awpI_draw2 (id := 15) (.one false 2 (.two 0 3 (.two 1 3 (.only 3 (.only 4 (.only 5 (.one false 6 (.only 7 .done))))) (.fam 1 [4] [72] [71] (.only 4 (.only 5 (.one false 6 (.only 7 .done)))))) (.fam 0 [4] [72] [71] (.fam 1 [4] [72] [71] (.only 4 (.only 5 (.one false 6 (.only 7 .done)))))))) mixed (by decide +kernel) (by decide +kernel) ?_) | (refine sch2I_two ?_ ?_) | (refine Again.up (by omega) ?_ ?_) | (refine opCallI_gv (by simp only [go_sem, hs, Ret_eq Try.results67]; first | done | rfl) (hcn) ?_; rintro _ rfl) | fail)
                  all_goals exact ⟨rfl, by rw [show List.take 1 cuts = _ from e]; rfl⟩
                | succ k =>
                  simp only [go_sem, Ret_eq Try.results67] at hs
                  have hlt : (cuts.take (k + 1)).length = k + 1 := by rw [List.length_take]; omega
                  repeat' (first | simp only [go_sem, hs, e, hlt, List.length_append, Ret_eq Try.results67] | simp (disch := omega) only [arith, IntKind.bits, capMax, fill_len, elt_fill] | (refine awpI_draw2 (id := 15) (.one false 2 (.two 0 3 (.two 1 3 (.only 3 (.only 4 (.only 5 (.one false 6 (.only 7 .done))))) (.fam 1 [4] [72] [71] (.only 4 (.only 5 (.one false 6 (.only 7 .done)))))) (.fam 0 [4] [72] [71] (.fam 1 [4] [72] [71] (.only 4 (.only 5 (.one false 6 (.only 7 .done)))))))) mixed (by decide +kernel) (by decide +kernel) ?_) | (refine sch2I_two ?_ ?_) | (refine Again.up (by omega) ?_ ?_) | (refine opCallI_gv (by simp only [go_sem, hs, e, hlt, List.length_append, Ret_eq Try.results67]; first | done | rfl) (hcn) ?_; rintro _ rfl) | fail)
              · obtain rfl : k = cuts.length := by omega
                have hc1 := (bookErr_zero.1 hb).1
                cases hcu : cuts.length with
                | zero => omega
                | succ k =>
                  rw [hcu] at hs
                  simp only [go_sem, Ret_eq Try.results67] at hs
                  have hta : cuts.take (k + 1) = cuts := List.take_of_length_le (by omega)
                  repeat' (first | simp only [go_sem, hs, hta, hcu, Ret_eq Try.results67] | simp (disch := omega) only [arith, IntKind.bits, capMax, fill_len, elt_fill] | fail)
                  all_goals skip
          · rw [if_neg h0, if_neg h0]
            have hlen : 1 ≤ sample.length := by
              cases sample with
              | nil => exact absurd rfl h0
              | cons a l => simp
            refine Fun.of_awpI Try.func67 rfl cal67 Try.ntmps67 (by simp) fun hwf => ?_
            simp only [D.wfs, D.wf, ints_length, ints_wfs, rows_length, rows_wfs, capMax, and_true, true_and] at hwf
            obtain ⟨w1, w2⟩ := wayErr_zero hw
            have hTl : (turnedL way sample).length = sample.length := by simp [turnedL]
            have hc1 := (bookErr_zero.1 hb).1
            repeat' (first | simp only [go_sem, hb, hw, rows_nil, Ret_eq Try.results67] | simp (disch := omega) only [arith, IntKind.bits, capMax, fill_len, elt_fill] | (refine opCallI_rd (by simp only [go_sem, hb, hw, rows_nil, Ret_eq Try.results67]; first | done | rfl) (hce) (by rintro _ rfl; rfl) ?_; rintro _ rfl) | (refine opCallI_rd (by simp only [go_sem, hb, hw, rows_nil, Ret_eq Try.results67]; first | done | rfl) (hno) (by rintro _ rfl; rfl) ?_; rintro _ rfl) | (refine opCallI_rd (by simp only [go_sem, hb, hw, rows_nil, Ret_eq Try.results67]; first | done | rfl) (hcf) (by rintro _ rfl; rfl) ?_; rintro _ rfl) | fail)
            refine awpI_for sample.length (fun k => True) (fun k => [(83, .v (.int .i64 k))]) (fun k => (80, ⟨22, 1, refsL cuts.length fun _ => k⟩) :: colsW 23 cuts.length (turnedL way sample) fun _ => k) [1, 6, 8, 16, 81, 82] [6] _
              (Weak.adopts1 (ob := 80) (base := 1000) (n := cuts.length) (S := 1) (So := 1) (e := 23) (eo := 22) [(1, .v (.int .i64 way)), (6, .adr 6 0 0), (8, .v (.int .i64 ((manyOf cuts + 1 : Nat) : Int))), (16, .ref 80 cuts.length), (81, .lst (rows .i16 sample)), (82, .v (.int .i64 sample.length)), (83, .v (.int .i64 0))] [(6, ⟨73, 2, [.agg [.v (.int .i64 0), .v (.slice none 0 0)]]⟩)] (by decide) (by decide) (by simp only [go_sem, Ret_eq Try.results67]) (by rfl) (by simp only [go_sem, Ret_eq Try.results67]) (by rfl) (by simp only [go_sem, Ret_eq Try.results67])) trivial ?_ ?_ ?_
            · simp only [go_sem, Ret_eq Try.results67]
            · simp only [go_sem, Heaps_colsW, Ret_eq Try.results67]
              refine ⟨rfl, fun i hi => ?_⟩
              rw [if_neg (by omega), if_pos (by omega)]
              rfl
            · intro k s hk _ hs
              simp only [go_sem, Heaps_colsW, false_and, Ret_eq Try.results67] at hs
              have hco := hs.2.2.1.2
              by_cases hka : k < sample.length
              · have hvk := hsok _ (getD_mem (d := []) hka)
                have hgk : (turnedL way sample).getD k [] = turnL (sample.getD k []) way.toNat := by
                  simp [turnedL, List.getD, hka]
                have hti := turnErr_iff.2 ⟨hvk.1, w1, w2⟩
                have htu := turn_fun (sample.getD k []) way (hI.getD k)
                rw [turnOut_ok ⟨hvk.1, w1, w2⟩, hti, ← hgk] at htu
                have htl : ((turnedL way sample).getD k []).length = cuts.length := by rw [hgk, turnL_length]; exact hvk.2
                have hsn := fun i => colOf_snoc (T := turnedL way sample) (i := i) (k := k) (by omega)
                have hcln := fun i => colOf_length (T := (turnedL way sample).take k) (i := i)
                have htk : ((turnedL way sample).take k).length = k := by rw [List.length_take]; omega
                clear hgk hti
                generalize (turnedL way sample).getD k [] = tv at *
                repeat' (first | simp only [go_sem, hs, Ret_eq Try.results67] | simp (disch := omega) only [arith, IntKind.bits, capMax, fill_len, elt_fill] | (refine opCallI_gv (by simp only [go_sem, hs, Ret_eq Try.results67]; first | done | rfl) (htu) ?_; rintro _ rfl) | fail)
                refine awpI_for cuts.length (fun j => True) (fun j => [(99, .v (.int .i64 j))]) (fun j => (80, ⟨22, 1, refsL cuts.length (cntC k j)⟩) :: colsW 23 cuts.length (turnedL way sample) (cntC k j)) [1, 6, 8, 16, 81, 82, 83, 97, 98] [6] _ (Weak.refl _) trivial ?_ ?_ ?_
                · simp only [go_sem, hs, Ret_eq Try.results67]
                · rw [cntC_zero]
                  simp only [go_sem, hs, Heaps_colsW, Ret_eq Try.results67]
                  exact hco
                · intro j s2 hj _ hs2
                  simp only [go_sem, hs, Heaps_colsW, Ret_eq Try.results67] at hs2
                  by_cases hjn : j < cuts.length
                  · have g1 := refsL_get (c := cntC k j) hjn
                    have g2 := refsL_kills (c := cntC k j) hjn
                    have g3 := refsL_step (k := k) hjn
                    have g4 : cntC k j j = k := if_neg (Nat.lt_irrefl _)
                    rw [g4] at g1
                    have gl := refsL_length (n := cuts.length) (c := cntC k j)
                    have g5 : s2.H (1000 + j) = some ⟨23, 1, ints .i16 (colOf ((turnedL way sample).take k) j)⟩ := by
                      have := hs2.2.2.1.2 j hjn
                      rw [g4] at this
                      exact this
                    have g6 := refsL_any (c := cntC k j) hjn
                    repeat' (first | simp only [go_sem, hs, hs2, base_ne, base_ne', anyT_width, setPartT_xr, false_and, g6, g1, g2, g3, g4, g5, gl, hjn, htl, hcln, htk, List.length_set, List.length_append, List.length_cons, List.length_nil, Ret_eq Try.results67] | simp (disch := omega) only [arith, IntKind.bits, capMax, fill_len, elt_fill] | (refine Again.up (by omega) ?_ ?_) | fail)
                    rw [Heaps_colsW]
                    intro i hi
                    by_cases q : i = j
                    · subst q
                      have g7 : cntC k (i + 1) i = k + 1 := if_pos (by omega)
                      simp only [go_sem, base_ne, base_ne', g7, hsn, Ret_eq Try.results67]
                    · have g7 : cntC k (j + 1) i = cntC k j i := by
                        unfold cntC
                        by_cases z : i < j
                        · rw [if_pos z, if_pos (by omega)]
                        · rw [if_neg z, if_neg (by omega)]
                      have g8 : (1000 + i = 1000 + j) = False := eq_false (by omega)
                      have g9 := hs2.2.2.1.2 i hi
                      simp only [go_sem, base_ne, base_ne', g7, g8, g9, Ret_eq Try.results67]
                  · obtain rfl : j = cuts.length := by omega
                    repeat' (first | simp only [go_sem, hs, hs2, false_and, Ret_eq Try.results67] | simp (disch := omega) only [arith, IntKind.bits, capMax, fill_len, elt_fill] | (refine Again.up (by omega) ?_ ?_) | fail)
                    refine ⟨by rw [refsL_full], ?_⟩
                    rw [Heaps_colsW]
                    intro i hi
                    have := hs2.2.2.1.2 i hi
                    rw [cntC, if_pos hi] at this
                    exact this
              · obtain rfl : k = sample.length := by omega
                have gl := refsL_length (n := cuts.length) (c := fun _ => sample.length)
                have hTa : (turnedL way sample).take sample.length = turnedL way sample := List.take_of_length_le (by omega)
                rw [hTa] at hco
                repeat' (first | simp only [go_sem, hs, gl, Ret_eq Try.results67] | simp (disch := omega) only [arith, IntKind.bits, capMax, fill_len, elt_fill] | fail)
                refine awpI_for cuts.length (fun j => True) (fun j => [(123, .v (.int .i64 j))]) (fun j => [(119, ⟨22, 1, tab ((trCuts cuts.length (manyOf cuts + 1) way sample).take j) (cuts.length - j)⟩)]) [6, 8, 23, 121, 122] [6, 23, 80] _
                  (Weak.freezes1 (ob := 80) (base := 1000) (n := cuts.length) (S := 1) (So := 1) (e := 23) (eo := 22) (fun i => ints .i16 (colOf (turnedL way sample) i)) (fun _ => sample.length) [(6, .adr 6 0 0), (8, .v (.int .i64 ((manyOf cuts + 1 : Nat) : Int))), (23, .adr 23 0 0), (121, .ref 80 cuts.length), (122, .v (.int .i64 cuts.length)), (123, .v (.int .i64 0))]
                    [(6, ⟨73, 2, [.agg [.v (.int .i64 0), .v (.slice none 0 0)]]⟩), (23, ⟨73, 2, [.agg [.v (.int .i64 way), .ref 119 cuts.length]]⟩), (119, ⟨22, 1, tab [] cuts.length⟩)] (by decide) (by simp only [go_sem, hs, gl, Ret_eq Try.results67]) (by rfl) (by simp only [go_sem, hs, tab_zero, Int.toNat_natCast, Ret_eq Try.results67]) (by simp only [List.all_cons, List.all_nil, okTo_tab]; rfl) (by simp only [go_sem, hs, refsL_kept, Ret_eq Try.results67]; rfl) (fun i hi => by simp only [go_sem, hs, base_ne, hTa, hi, Ret_eq Try.results67]) (fun i hi => ⟨ints_noRefs, ints_nrms, ints_width1, by rw [ints_length, colOf_length, hTl]⟩)) trivial ?_ ?_ ?_
                · simp only [go_sem, Ret_eq Try.results67]
                · simp only [go_sem, List.take_zero, Nat.sub_zero, Ret_eq Try.results67]
                · intro j s2 hj _ hs2
                  simp only [go_sem, Ret_eq Try.results67] at hs2
                  by_cases hjn : j < cuts.length
                  · have hrk := rkCuts_fun hS (colOf (turnedL way sample) j) ((manyOf cuts + 1 : Nat) : Int) (by rw [colOf_length, hTl]; omega)
                    have hrz : rkE (colOf (turnedL way sample) j) ((manyOf cuts + 1 : Nat) : Int) = 0 := rkE_zero.2 ⟨by rw [colOf_length, hTl]; omega, by omega, col_ok hsok hI hjn, by rw [colOf_length, hTl]; omega⟩
                    have hro : rkOut (colOf (turnedL way sample) j) ((manyOf cuts + 1 : Nat) : Int) = (trCuts cuts.length (manyOf cuts + 1) way sample).getD j [] := by
                      unfold rkOut; rw [if_pos hrz, Int.toNat_natCast, trCuts_at hjn]
                    rw [hrz, hro] at hrk
                    have hcg := colsT_get (T := turnedL way sample) hjn
                    have hCl := trCuts_length (n := cuts.length) (cells := manyOf cuts + 1) (way := way) (sample := sample)
                    have e := take_snoc (a := trCuts cuts.length (manyOf cuts + 1) way sample) (d := ([] : List Int)) (k := j) (by omega)
                    obtain ⟨q, hq⟩ : ∃ q, cuts.length - j = q + 1 := ⟨cuts.length - j - 1, by omega⟩
                    have hq2 : cuts.length - (j + 1) = q := by omega
                    have htj : ((trCuts cuts.length (manyOf cuts + 1) way sample).take j).length = j := by rw [List.length_take]; omega
                    have ht1 := tab_get (A := (trCuts cuts.length (manyOf cuts + 1) way sample).take j) (m := q)
                    have ht2 := tab_setL (A := (trCuts cuts.length (manyOf cuts + 1) way sample).take j) (m := q) (l := (trCuts cuts.length (manyOf cuts + 1) way sample).getD j [])
                    have ht3 := tab_length (A := (trCuts cuts.length (manyOf cuts + 1) way sample).take j) (m := q + 1)
                    rw [htj] at ht1 ht2 ht3
                    rw [← e] at ht2
                    rw [hq] at hs2
                    repeat' (first | simp only [go_sem, hs, hs2, hcg, ht1, ht2, ht3, hq2, List.length_map, List.length_range, Ret_eq Try.results67] | simp (disch := omega) only [arith, IntKind.bits, capMax, fill_len, elt_fill] | (refine awpI_draw2 (id := 35) (.one false 3 (.one false 4 (.cal 0 [5] (.cal 1 [5] (.cal 2 [5] (.only 5 (.one false 6 (.one false 7 (.one false 9 (.cal 8 [10] (.only 10 (.one false 11 .done)))))))))))) mixed (by decide +kernel) (by decide +kernel) ?_) | (refine Again.up (by omega) ?_ ?_) | (refine opCallI_gv (by simp only [go_sem, hs, hs2, hcg, ht1, ht2, ht3, hq2, List.length_map, List.length_range, Ret_eq Try.results67]; first | done | rfl) (hrk) ?_; rintro _ rfl) | fail)
                    all_goals skip
                  · obtain rfl : j = cuts.length := by omega
                    have hCl := trCuts_length (n := cuts.length) (cells := manyOf cuts + 1) (way := way) (sample := sample)
                    have htk : (trCuts cuts.length (manyOf cuts + 1) way sample).take cuts.length = trCuts cuts.length (manyOf cuts + 1) way sample := List.take_of_length_le (by omega)
                    rw [Nat.sub_self, htk, tab_end] at hs2
                    repeat' (first | simp only [go_sem, hs, hs2, hCl, htk, Ret_eq Try.results67] | simp (disch := omega) only [arith, IntKind.bits, capMax, fill_len, elt_fill] | fail)
    · have hE : trE w cuts way sample = 1 := if_pos (.inl fun q => hw q.2)
      rw [hE, show trW w cuts way sample = 0 from if_neg (by rw [hE]; decide), show trC w cuts way sample = [] from if_neg (by rw [hE]; decide)]
      have hwb : (wayErr way != 0) = true := by rw [bne, beq_eq_false_iff_ne.2 hw]; rfl
      refine Fun.of_awpI Try.func67 rfl cal67 Try.ntmps67 (by simp) fun hwf => ?_
      simp only [D.wfs, D.wf, ints_length, ints_wfs, rows_length, rows_wfs, capMax, and_true, true_and] at hwf
      repeat' (first | simp only [go_sem, hb, hwb, rows_nil, Ret_eq Try.results67] | simp (disch := omega) only [arith, IntKind.bits, capMax, fill_len, elt_fill] | (refine opCallI_rd (by simp only [go_sem, hb, hwb, rows_nil, Ret_eq Try.results67]; first | done | rfl) (hce) (by rintro _ rfl; rfl) ?_; rintro _ rfl) | (refine opCallI_rd (by simp only [go_sem, hb, hwb, rows_nil, Ret_eq Try.results67]; first | done | rfl) (hno) (by rintro _ rfl; rfl) ?_; rintro _ rfl) | fail)
      all_goals rfl
  · have hE : trE w cuts way sample = 1 := if_pos (.inl fun q => hb q.1)
    rw [hE, show trW w cuts way sample = 0 from if_neg (by rw [hE]; decide), show trC w cuts way sample = [] from if_neg (by rw [hE]; decide)]
    have hbb : (bookErr w cuts != 0) = true := by rw [bne, beq_eq_false_iff_ne.2 hb]; rfl
    refine Fun.of_awpI Try.func67 rfl cal67 Try.ntmps67 (by simp) fun hwf => ?_
    simp only [D.wfs, D.wf, ints_length, ints_wfs, rows_length, rows_wfs, capMax, and_true, true_and] at hwf
    repeat' (first | simp only [go_sem, hbb, rows_nil, Ret_eq Try.results67] | simp (disch := omega) only [arith, IntKind.bits, capMax, fill_len, elt_fill] | (refine opCallI_rd (by simp only [go_sem, hbb, rows_nil, Ret_eq Try.results67]; first | done | rfl) (hce) (by rintro _ rfl; rfl) ?_; rintro _ rfl) | (refine opCallI_rd (by simp only [go_sem, hbb, rows_nil, Ret_eq Try.results67]; first | done | rfl) (hno) (by rintro _ rfl; rfl) ?_; rintro _ rfl) | fail)
    all_goals rfl
end Go.Proofs.Ytpkampecmlpfmaa.T

end
section
set_option linter.unusedSimpArgs false
set_option linter.unusedVariables false
/- rank.Cuts, with the list that it gives as one's own. -/
namespace Go.Proofs.Ytpkampecmlpfmaa.T
open Go Go.VL Go.Proofs
set_option maxRecDepth 100000
set_option maxHeartbeats 4000000

theorem rkCuts_own (hS : Sorted16) (l : List Int) (n : Nat) (hl : l.length ≤ 60000) (h : rkE l n = 0) : FunO Try.prog 25 [.lst (ints .i16 l), .v (.int .i64 n)] fun r o => r = .tup [.ref 0 (n - 1), .v (.int .i64 0)] ∧ o = some ⟨23, 1, ints .i16 (cutsL l n)⟩ := by
  have hcf := containsFunc16_fun l oddB 88 (fun x => rankOdd_fun x)
  obtain ⟨h1, ⟨h2, h3⟩, h4, h5⟩ := rkE_zero.1 h
  rw [h4] at hcf
  have hv := values16_fun l
  have hso := hS l h5 hl
  have hsl := sortI_length l
  have en : (n : Int) - 1 = ((n - 1 : Nat) : Int) := by omega
  have hne : ((l.length : Int) == 0) = false := beq_eq_false_iff_ne.2 (by omega)
  refine FunO.of_awpI Try.func25 rfl cal25 Try.ntmps25 (by simp) fun hwf => ?_
  simp only [D.wfs, D.wf, ints_length, ints_wfs, rows_length, rows_wfs, capMax, and_true, true_and] at hwf
  repeat' (first | simp only [go_sem, en, hne, Int.toNat_natCast, Ret_eq Try.results25] | simp (disch := omega) only [arith, IntKind.bits, capMax, fill_len, elt_fill] | (refine opCallI_rd (by simp only [go_sem, en, hne, Int.toNat_natCast, Ret_eq Try.results25]; first | done | rfl) (hcf) (by rintro _ rfl; rfl) ?_; rintro _ rfl) | (refine opCallI_gv (by simp only [go_sem, en, hne, Int.toNat_natCast, Ret_eq Try.results25]; first | done | rfl) (hv) ?_; rintro _ rfl) | (refine opCallI_ownGv (by simp only [go_sem, en, hne, Int.toNat_natCast, Ret_eq Try.results25]; first | done | rfl) (hso) ?_; rintro _ _ ⟨rfl, rfl⟩) | fail)
  refine awpI_for (n - 1) (fun k => True) (fun k => [(36, .v (.int .i64 k))]) (fun k => [(33, ⟨23, 1, ints .i16 (fill (fun i => (sortI l).getD ((i + 1) * l.length / n) 0) (List.replicate (n - 1) 0) k)⟩)]) [0, 1, 6, 7, 35] [30] _ (Weak.refl _) trivial ?_ ?_ ?_
  · simp only [go_sem, Ret_eq Try.results25]
  · simp only [go_sem, fill_zero, Ret_eq Try.results25]
  · intro k s hk _ hs
    simp only [go_sem, Ret_eq Try.results25] at hs
    by_cases hka : k < n - 1
    · have hlt := cutsL_idx (l := l) hka h5
      have e2 := fill_set (f := fun i => (sortI l).getD ((i + 1) * l.length / n) 0) (a := List.replicate (n - 1) 0) (k := k) (by simpa using hka)
      have el : (fill (fun i => (sortI l).getD ((i + 1) * l.length / n) 0) (List.replicate (n - 1) 0) k).length = n - 1 := by rw [fill_len (by simp; omega)]; simp
      have em : ((k + 1 : Nat) : Int) * (l.length : Int) = (((k + 1) * l.length : Nat) : Int) := (Int.natCast_mul _ _).symm
      have hmb : (k + 1) * l.length ≤ 16 * 4096 := Nat.mul_le_mul (by omega) h1
      have ed : (((k + 1) * l.length : Nat) : Int) / (n : Int) = (((k + 1) * l.length / n : Nat) : Int) := (Int.natCast_ediv _ _).symm
      have edt : (((k + 1) * l.length : Nat) : Int).tdiv (n : Int) = (((k + 1) * l.length / n : Nat) : Int) := by rw [Int.tdiv_eq_ediv_of_nonneg (by omega)]; exact ed
      obtain ⟨q, hq⟩ : ∃ q, (k + 1) * l.length / n = q := ⟨_, rfl⟩
      rw [hq] at e2 hlt ed edt
      repeat' (first | simp only [go_sem, hs, em, ed, edt, hsl, el, e2, Ret_eq Try.results25] | simp (disch := omega) only [arith, IntKind.bits, capMax, fill_len, elt_fill] | (refine Again.up (by omega) ?_ ?_) | fail)
    · obtain rfl : k = n - 1 := by omega
      rw [fill_cuts] at hs
      have hcl := cutsL_length (l := l) (n := n)
      have ht : (cutsL l n).take (n - 1) = cutsL l n := List.take_of_length_le (by omega)
      repeat' (first | simp only [go_sem, hs, hcl, ht, Ret_eq Try.results25] | simp (disch := omega) only [arith, IntKind.bits, capMax, fill_len, elt_fill] | refine RetO_calc Try.results25 ?_ | fail)
      all_goals first | done | exact ⟨rfl, rfl⟩
end Go.Proofs.Ytpkampecmlpfmaa.T

end
