import Derived.Test.YtpkampecmlpfmaaLE
import Derived.IntWalk
import Derived.Test.YtpkampecmlpfmaaProg
import Derived.Laws.FloatArith
set_option linter.unusedSimpArgs false
set_option linter.unusedVariables false
section
/- A book as an argument. -/
namespace Go.VL
open Go Go.RowKit
theorem has_book {ds : List D} (h : (Ty.st [.int .i64, .sl (.sl (.int .i16))]).has ds) : ∃ (w : Int) (c : List (List Int)), (Ty.st [.int .i64, .sl (.sl (.int .i16))]).wrap ds = .agg [.v (.int .i64 w), .lst (rows .i16 c)] ∧
    (Lit.int .i64 w).wf = true ∧ ∀ x ∈ c, ∀ n ∈ x, (Lit.int .i16 n).wf = true := by
  obtain ⟨a, b, rfl, h1, b1, b2, rfl, h2, h3⟩ := h
  obtain ⟨w, rfl, hw⟩ := h1
  obtain ⟨els, rfl, h2⟩ := h2
  have h3 : b2 = [] := h3
  subst h3
  obtain ⟨l, e, hl⟩ := has_rows (ds := [.lst (els.map (Ty.sl (.int .i16)).wrap)]) ⟨els, rfl, h2⟩
  refine ⟨w, l, ?_, hw, hl⟩
  have e' : D.lst (els.map (Ty.sl (.int .i16)).wrap) = .lst (rows .i16 l) := e
  show D.agg ([.v (.int .i64 w)] ++ ([.lst (els.map (Ty.sl (.int .i16)).wrap)] ++ [])) = _
  rw [e']
  rfl
end Go.VL

end
section
/- What the pack functions compute. -/
namespace Go.Proofs.Ytpkampecmlpfmaa.T
open Go Go.VL Go.Proofs
def takeAcc (w : Int) (bs : List Int) : Nat → Int
  | 0 => 0
  | j + 1 => abits .or .i64 (takeAcc w bs j) (IntKind.i64.wrap (IntKind.i64.wrap (bs.getD j 0) * 2 ^ ((64 - 8 * w).toNat + 8 * j)))
def takeNum (w : Int) (bs : List Int) : Int := (takeAcc w bs w.toNat).fdiv (2 ^ (64 - 8 * w).toNat)
def takeNums (w : Int) : Nat → List Int → List Int
  | 0, _ => []
  | n + 1, bs => takeNum w bs :: takeNums w n (bs.drop w.toNat)
end Go.Proofs.Ytpkampecmlpfmaa.T

end
section
/- Vectors, plainly. -/
namespace Go.Proofs.Ytpkampecmlpfmaa.T
open Go Go.VL Go.Proofs
def I16s (l : List Int) : Prop := ∀ x ∈ l, -32768 ≤ x ∧ x ≤ 32767
theorem I16s.at {l : List Int} (h : I16s l) {k : Nat} (hk : k < l.length) : -32768 ≤ l.getD k 0 ∧ l.getD k 0 ≤ 32767 := h _ (getD_mem hk)
theorem I16s.getD {l : List Int} (h : I16s l) (k : Nat) : -32768 ≤ l.getD k 0 ∧ l.getD k 0 ≤ 32767 := by
  by_cases hk : k < l.length
  · exact h.at hk
  · rw [show l.getD k 0 = 0 by simp [List.getD, List.getElem?_eq_none (show l.length ≤ k by omega)]]; omega
theorem I16s.take {l : List Int} (h : I16s l) (n : Nat) : I16s (l.take n) := fun x hx => h x (List.mem_of_mem_take hx)
theorem I16s.drop {l : List Int} (h : I16s l) (n : Nat) : I16s (l.drop n) := fun x hx => h x (List.mem_of_mem_drop hx)
theorem I16s.append {l m : List Int} (h : I16s l) (h' : I16s m) : I16s (l ++ m) := fun x hx => (List.mem_append.1 hx).elim (h x) (h' x)
def vecOk (l : List Int) : Bool := decide (1 ≤ l.length) && decide (l.length ≤ 64) && l.all fun x => decide (-32767 ≤ x)
def vecErr (l : List Int) : Int := if vecOk l then 0 else 1
theorem vecOk_iff {l : List Int} : vecOk l = true ↔ 1 ≤ l.length ∧ l.length ≤ 64 ∧ ∀ x ∈ l, -32767 ≤ x := by
  unfold vecOk
  simp only [Bool.and_eq_true, decide_eq_true_eq, List.all_eq_true, and_assoc]
theorem vecErr_zero {l : List Int} : vecErr l = 0 ↔ vecOk l = true := by
  unfold vecErr; split <;> simp_all
def mn (a b : Int) : Int := if b < a then b else a
def minL (l : List Int) : Int := l.foldl mn (l.getD 0 0)
theorem foldl_mn_lt (c : Int) : ∀ (l : List Int) (a : Int), (l.foldl mn a < c ↔ a < c ∨ ∃ x ∈ l, x < c)
  | [], a => by simp
  | x :: l, a => by
    rw [List.foldl_cons, foldl_mn_lt c l]
    simp only [List.mem_cons, exists_eq_or_imp]
    unfold mn
    split <;> constructor <;> rintro (h | h) <;> first | exact .inr (.inr h) | (rcases h with h | h <;> first | exact .inr h | (left; omega)) | (first | (left; omega) | (right; left; omega))
theorem minL_lt {l : List Int} (h : 0 < l.length) (c : Int) : (minL l < c ↔ ∃ x ∈ l, x < c) := by
  unfold minL
  rw [foldl_mn_lt]
  constructor
  · rintro (h1 | h1)
    · exact ⟨_, getD_mem (d := 0) h, h1⟩
    · exact h1
  · exact .inr
theorem vec_min {l : List Int} (h1 : 1 ≤ l.length) (h2 : l.length ≤ 64) : vecOk l = decide (¬ minL l < -32767) := by
  rw [Bool.eq_iff_iff, vecOk_iff, decide_eq_true_eq, minL_lt (by omega)]
  constructor
  · rintro ⟨_, _, h⟩ ⟨x, hx, hlt⟩; have := h x hx; omega
  · intro h
    refine ⟨h1, h2, fun x hx => ?_⟩
    refine Int.not_lt.1 fun hlt => h ⟨x, hx, hlt⟩
theorem vecErr_len {l : List Int} (h : ¬ (1 ≤ l.length ∧ l.length ≤ 64)) : vecErr l = 1 := by
  unfold vecErr
  rw [if_neg]
  rw [vecOk_iff]
  rintro ⟨h1, h2, _⟩
  exact h ⟨h1, h2⟩
theorem vecErr_min {l : List Int} (h1 : 1 ≤ l.length) (h2 : l.length ≤ 64) : vecErr l = if minL l < -32767 then 1 else 0 := by
  unfold vecErr
  rw [vec_min h1 h2]
  by_cases h : minL l < -32767 <;> simp [h]
theorem vecErr_at {l : List Int} {k : Nat} (hk : k < l.length) (h : l.getD k 0 < -32767) : vecErr l = 1 := by
  unfold vecErr
  rw [if_neg]
  rw [vecOk_iff]
  rintro ⟨_, _, h3⟩
  have := h3 _ (getD_mem (d := 0) hk)
  omega
theorem vecErr_all {l : List Int} (h1 : 1 ≤ l.length) (h2 : l.length ≤ 64) (h : ∀ i, i < l.length → ¬ l.getD i 0 < -32767) : vecErr l = 0 := by
  rw [vecErr_zero, vecOk_iff]
  refine ⟨h1, h2, fun x hx => ?_⟩
  obtain ⟨i, hi, rfl⟩ := List.mem_iff_getElem.1 hx
  have := h i hi
  simp [List.getD, hi] at this
  omega
end Go.Proofs.Ytpkampecmlpfmaa.T

end
section
/- Cuts, cells and spans, plainly. -/
namespace Go.Proofs.Ytpkampecmlpfmaa.T
open Go Go.VL Go.Proofs
def Rises (c : List Int) : Prop := ∀ i, i + 1 < c.length → c.getD i 0 ≤ c.getD (i + 1) 0
instance (c : List Int) : Decidable (Rises c) := by
  unfold Rises
  exact decidable_of_iff (∀ i, i < c.length - 1 → c.getD i 0 ≤ c.getD (i + 1) 0) ⟨fun h i hi => h i (by omega), fun h i hi => h i (by omega)⟩
def cutsOk (c : List Int) : Prop := c.length ≤ 15 ∧ Rises c ∧ (0 < c.length → -32767 ≤ c.getD 0 0)
instance (c : List Int) : Decidable (cutsOk c) := by unfold cutsOk; infer_instance
def cutsErr (c : List Int) : Int := if cutsOk c then 0 else 1
theorem cutsErr_zero {c : List Int} : cutsErr c = 0 ↔ cutsOk c := by
  unfold cutsErr; split
  · exact ⟨fun _ => by assumption, fun _ => rfl⟩
  · exact ⟨fun h => absurd h (by decide), fun h => by contradiction⟩
theorem cutsErr_one {c : List Int} (h : ¬ cutsOk c) : cutsErr c = 1 := if_neg h
theorem Rises.le {c : List Int} (h : Rises c) : ∀ {i j : Nat}, i ≤ j → j < c.length → c.getD i 0 ≤ c.getD j 0 := by
  intro i j hij hj
  induction j with
  | zero => obtain rfl : i = 0 := by omega
            exact Int.le_refl _
  | succ j ih =>
    by_cases h1 : i = j + 1
    · subst h1; exact Int.le_refl _
    · exact Int.le_trans (ih (by omega) (by omega)) (h j hj)
/-- In which cell a number is. -/
def cellOf (c : List Int) (x : Int) : Nat := c.countP fun y => decide (y ≤ x)
theorem cellOf_spec : ∀ {c : List Int}, Rises c → ∀ (x : Int) (i : Nat), i < c.length → (c.getD i 0 ≤ x ↔ i < cellOf c x)
  | [], _, _, _, h => by simp at h
  | a :: c, hr, x, i, hi => by
    have hr' : Rises c := fun j hj => by simpa using hr (j + 1) (by simpa using hj)
    have hc : cellOf (a :: c) x = cellOf c x + if a ≤ x then 1 else 0 := by unfold cellOf; rw [List.countP_cons]; simp
    have hz : ¬ a ≤ x → cellOf c x = 0 := by
      intro ha
      unfold cellOf
      rw [List.countP_eq_zero]
      intro y hy hyx
      obtain ⟨j, hj, rfl⟩ := List.mem_iff_getElem.1 hy
      have := hr.le (i := 0) (j := j + 1) (by omega) (by simpa using hj)
      simp [List.getD, hj] at this
      simp at hyx
      omega
    rw [hc]
    cases i with
    | zero =>
      simp only [List.getD_cons_zero]
      by_cases ha : a ≤ x
      · rw [if_pos ha]; exact ⟨fun _ => by omega, fun _ => ha⟩
      · rw [if_neg ha, hz ha]; exact ⟨fun h => absurd h ha, fun h => by omega⟩
    | succ i =>
      have hi' : i < c.length := by simpa using hi
      rw [show (a :: c).getD (i + 1) 0 = c.getD i 0 by simp [List.getD]]
      have ih := cellOf_spec hr' x i hi'
      rw [ih]
      by_cases ha : a ≤ x
      · rw [if_pos ha]; omega
      · rw [if_neg ha, hz ha]; omega
def I16r (l : List (List Int)) : Prop := ∀ c ∈ l, I16s c
theorem I16r.getD {l : List (List Int)} (h : I16r l) (i : Nat) : I16s (l.getD i []) := by
  by_cases hi : i < l.length
  · exact h _ (getD_mem hi)
  · rw [show l.getD i [] = [] by simp [List.getD, List.getElem?_eq_none (show l.length ≤ i by omega)]]
    intro x hx; cases hx
end Go.Proofs.Ytpkampecmlpfmaa.T

end
section
set_option linter.defProp false
namespace Go.Proofs.Ytpkampecmlpfmaa.T
open Go Go.VL Go.Proofs
theorem fact_ok2 : okT Try.prog 2 = true := by kernel_rfl
theorem fact_cells2 : Program.cellsOf Try.prog 2 = 1 := by kernel_rfl
theorem fact_bytes2 : Program.bytesOf Try.prog 2 = 8 := by kernel_rfl
theorem fact_agg2 : aggT Try.prog 2 = false := by kernel_rfl
theorem fact_und2 : (Program.underlying Try.prog 2).isSome = true := by kernel_rfl
theorem fact_int2 : intT Try.prog 2 = some .i64 := by kernel_rfl
theorem fact_zok2 : zeroOK Try.prog 2 = true := by kernel_rfl
theorem fact_zero2 : zeroT Try.prog 2 = some (.int .i64 0) := by kernel_rfl
theorem fact_ok3 : okT Try.prog 3 = true := by kernel_rfl
theorem fact_cells3 : Program.cellsOf Try.prog 3 = 1 := by kernel_rfl
theorem fact_bytes3 : Program.bytesOf Try.prog 3 = 8 := by kernel_rfl
theorem fact_agg3 : aggT Try.prog 3 = false := by kernel_rfl
theorem fact_und3 : (Program.underlying Try.prog 3).isSome = true := by kernel_rfl
theorem fact_int3 : intT Try.prog 3 = some .i64 := by kernel_rfl
theorem fact_zok3 : zeroOK Try.prog 3 = true := by kernel_rfl
theorem fact_zero3 : zeroT Try.prog 3 = some (.int .i64 0) := by kernel_rfl
theorem fact_ok4 : okT Try.prog 4 = true := by kernel_rfl
theorem fact_cells4 : Program.cellsOf Try.prog 4 = 1 := by kernel_rfl
theorem fact_bytes4 : Program.bytesOf Try.prog 4 = 1 := by kernel_rfl
theorem fact_agg4 : aggT Try.prog 4 = false := by kernel_rfl
theorem fact_und4 : (Program.underlying Try.prog 4).isSome = true := by kernel_rfl
theorem fact_int4 : intT Try.prog 4 = none := by kernel_rfl
theorem fact_bool4 : isBoolT Try.prog 4 = true := by kernel_rfl
theorem fact_zok4 : zeroOK Try.prog 4 = true := by kernel_rfl
theorem fact_zero4 : zeroT Try.prog 4 = some (.bool false) := by kernel_rfl
theorem fact_ok5 : okT Try.prog 5 = true := by kernel_rfl
theorem fact_cells5 : Program.cellsOf Try.prog 5 = 1 := by kernel_rfl
theorem fact_bytes5 : Program.bytesOf Try.prog 5 = 1 := by kernel_rfl
theorem fact_agg5 : aggT Try.prog 5 = false := by kernel_rfl
theorem fact_und5 : (Program.underlying Try.prog 5).isSome = true := by kernel_rfl
theorem fact_int5 : intT Try.prog 5 = some .u8 := by kernel_rfl
theorem fact_zok5 : zeroOK Try.prog 5 = true := by kernel_rfl
theorem fact_zero5 : zeroT Try.prog 5 = some (.int .u8 0) := by kernel_rfl
theorem fact_ok9 : okT Try.prog 9 = true := by kernel_rfl
theorem fact_cells9 : Program.cellsOf Try.prog 9 = 1 := by kernel_rfl
theorem fact_bytes9 : Program.bytesOf Try.prog 9 = 16 := by kernel_rfl
theorem fact_agg9 : aggT Try.prog 9 = false := by kernel_rfl
theorem fact_und9 : (Program.underlying Try.prog 9).isSome = true := by kernel_rfl
theorem fact_int9 : intT Try.prog 9 = none := by kernel_rfl
theorem fact_str9 : strT Try.prog 9 = true := by kernel_rfl
theorem fact_zok9 : zeroOK Try.prog 9 = true := by kernel_rfl
theorem fact_zero9 : zeroT Try.prog 9 = some (.string ⟨#[]⟩) := by kernel_rfl
theorem fact_ok12 : okT Try.prog 12 = true := by kernel_rfl
theorem fact_cells12 : Program.cellsOf Try.prog 12 = 1 := by kernel_rfl
theorem fact_bytes12 : Program.bytesOf Try.prog 12 = 8 := by kernel_rfl
theorem fact_agg12 : aggT Try.prog 12 = false := by kernel_rfl
theorem fact_und12 : (Program.underlying Try.prog 12).isSome = true := by kernel_rfl
theorem fact_int12 : intT Try.prog 12 = some .u64 := by kernel_rfl
theorem fact_zok12 : zeroOK Try.prog 12 = true := by kernel_rfl
theorem fact_zero12 : zeroT Try.prog 12 = some (.int .u64 0) := by kernel_rfl
theorem fact_ok21 : okT Try.prog 21 = true := by kernel_rfl
theorem fact_cells21 : Program.cellsOf Try.prog 21 = 1 := by kernel_rfl
theorem fact_bytes21 : Program.bytesOf Try.prog 21 = 4 := by kernel_rfl
theorem fact_agg21 : aggT Try.prog 21 = false := by kernel_rfl
theorem fact_und21 : (Program.underlying Try.prog 21).isSome = true := by kernel_rfl
theorem fact_int21 : intT Try.prog 21 = some .i32 := by kernel_rfl
theorem fact_zok21 : zeroOK Try.prog 21 = true := by kernel_rfl
theorem fact_zero21 : zeroT Try.prog 21 = some (.int .i32 0) := by kernel_rfl
theorem fact_ok22 : okT Try.prog 22 = true := by kernel_rfl
theorem fact_cells22 : Program.cellsOf Try.prog 22 = 1 := by kernel_rfl
theorem fact_bytes22 : Program.bytesOf Try.prog 22 = 24 := by kernel_rfl
theorem fact_agg22 : aggT Try.prog 22 = false := by kernel_rfl
theorem fact_und22 : (Program.underlying Try.prog 22).isSome = true := by kernel_rfl
theorem fact_int22 : intT Try.prog 22 = none := by kernel_rfl
theorem fact_el22 : elT Try.prog 22 = some 23 := by kernel_rfl
theorem fact_sl22 : sliceT Try.prog 22 = true := by kernel_rfl
theorem fact_zok22 : zeroOK Try.prog 22 = true := by kernel_rfl
theorem fact_zero22 : zeroT Try.prog 22 = some (.slice none 0 0) := by kernel_rfl
theorem fact_ok23 : okT Try.prog 23 = true := by kernel_rfl
theorem fact_cells23 : Program.cellsOf Try.prog 23 = 1 := by kernel_rfl
theorem fact_bytes23 : Program.bytesOf Try.prog 23 = 2 := by kernel_rfl
theorem fact_agg23 : aggT Try.prog 23 = false := by kernel_rfl
theorem fact_und23 : (Program.underlying Try.prog 23).isSome = true := by kernel_rfl
theorem fact_int23 : intT Try.prog 23 = some .i16 := by kernel_rfl
theorem fact_zok23 : zeroOK Try.prog 23 = true := by kernel_rfl
theorem fact_zero23 : zeroT Try.prog 23 = some (.int .i16 0) := by kernel_rfl
theorem fact_ok25 : okT Try.prog 25 = true := by kernel_rfl
theorem fact_cells25 : Program.cellsOf Try.prog 25 = 1 := by kernel_rfl
theorem fact_bytes25 : Program.bytesOf Try.prog 25 = 8 := by kernel_rfl
theorem fact_agg25 : aggT Try.prog 25 = false := by kernel_rfl
theorem fact_und25 : (Program.underlying Try.prog 25).isSome = true := by kernel_rfl
theorem fact_int25 : intT Try.prog 25 = some .i64 := by kernel_rfl
theorem fact_zok25 : zeroOK Try.prog 25 = true := by kernel_rfl
theorem fact_zero25 : zeroT Try.prog 25 = some (.int .i64 0) := by kernel_rfl
theorem fact_ok36 : okT Try.prog 36 = true := by kernel_rfl
theorem fact_cells36 : Program.cellsOf Try.prog 36 = 1 := by kernel_rfl
theorem fact_bytes36 : Program.bytesOf Try.prog 36 = 24 := by kernel_rfl
theorem fact_agg36 : aggT Try.prog 36 = false := by kernel_rfl
theorem fact_und36 : (Program.underlying Try.prog 36).isSome = true := by kernel_rfl
theorem fact_int36 : intT Try.prog 36 = none := by kernel_rfl
theorem fact_el36 : elT Try.prog 36 = some 3 := by kernel_rfl
theorem fact_sl36 : sliceT Try.prog 36 = true := by kernel_rfl
theorem fact_zok36 : zeroOK Try.prog 36 = true := by kernel_rfl
theorem fact_zero36 : zeroT Try.prog 36 = some (.slice none 0 0) := by kernel_rfl
theorem fact_ok40 : okT Try.prog 40 = true := by kernel_rfl
theorem fact_cells40 : Program.cellsOf Try.prog 40 = 1 := by kernel_rfl
theorem fact_bytes40 : Program.bytesOf Try.prog 40 = 8 := by kernel_rfl
theorem fact_agg40 : aggT Try.prog 40 = false := by kernel_rfl
theorem fact_und40 : (Program.underlying Try.prog 40).isSome = true := by kernel_rfl
theorem fact_int40 : intT Try.prog 40 = none := by kernel_rfl
theorem fact_map40 : mapT Try.prog 40 = some (23, 4) := by kernel_rfl
theorem fact_ok42 : okT Try.prog 42 = true := by kernel_rfl
theorem fact_cells42 : Program.cellsOf Try.prog 42 = 1 := by kernel_rfl
theorem fact_bytes42 : Program.bytesOf Try.prog 42 = 24 := by kernel_rfl
theorem fact_agg42 : aggT Try.prog 42 = false := by kernel_rfl
theorem fact_und42 : (Program.underlying Try.prog 42).isSome = true := by kernel_rfl
theorem fact_int42 : intT Try.prog 42 = none := by kernel_rfl
theorem fact_el42 : elT Try.prog 42 = some 2 := by kernel_rfl
theorem fact_sl42 : sliceT Try.prog 42 = true := by kernel_rfl
theorem fact_zok42 : zeroOK Try.prog 42 = true := by kernel_rfl
theorem fact_zero42 : zeroT Try.prog 42 = some (.slice none 0 0) := by kernel_rfl
theorem fact_ok43 : okT Try.prog 43 = true := by kernel_rfl
theorem fact_cells43 : Program.cellsOf Try.prog 43 = 1 := by kernel_rfl
theorem fact_bytes43 : Program.bytesOf Try.prog 43 = 24 := by kernel_rfl
theorem fact_agg43 : aggT Try.prog 43 = false := by kernel_rfl
theorem fact_und43 : (Program.underlying Try.prog 43).isSome = true := by kernel_rfl
theorem fact_int43 : intT Try.prog 43 = none := by kernel_rfl
theorem fact_el43 : elT Try.prog 43 = some 46 := by kernel_rfl
theorem fact_sl43 : sliceT Try.prog 43 = true := by kernel_rfl
theorem fact_zok43 : zeroOK Try.prog 43 = true := by kernel_rfl
theorem fact_zero43 : zeroT Try.prog 43 = some (.slice none 0 0) := by kernel_rfl
theorem fact_ok44 : okT Try.prog 44 = true := by kernel_rfl
theorem fact_cells44 : Program.cellsOf Try.prog 44 = 3 := by kernel_rfl
theorem fact_bytes44 : Program.bytesOf Try.prog 44 = 56 := by kernel_rfl
theorem fact_agg44 : aggT Try.prog 44 = true := by kernel_rfl
theorem fact_und44 : (Program.underlying Try.prog 44).isSome = true := by kernel_rfl
theorem fact_int44 : intT Try.prog 44 = none := by kernel_rfl
theorem fact_zok44 : zeroOK Try.prog 44 = true := by kernel_rfl
theorem fact_zero44 : zeroT Try.prog 44 = some (.agg #[.int .i64 0, .slice none 0 0, .slice none 0 0]) := by kernel_rfl
theorem fact_fok44 : fieldsOK Try.prog 44 = true := by kernel_rfl
theorem fact_f0_44 : fieldTO Try.prog 44 0 = some (3, 0) := by kernel_rfl
theorem fact_f1_44 : fieldTO Try.prog 44 1 = some (42, 1) := by kernel_rfl
theorem fact_f2_44 : fieldTO Try.prog 44 2 = some (43, 2) := by kernel_rfl
theorem fact_ok45 : okT Try.prog 45 = true := by kernel_rfl
theorem fact_cells45 : Program.cellsOf Try.prog 45 = 3 := by kernel_rfl
theorem fact_bytes45 : Program.bytesOf Try.prog 45 = 56 := by kernel_rfl
theorem fact_agg45 : aggT Try.prog 45 = true := by kernel_rfl
theorem fact_und45 : (Program.underlying Try.prog 45).isSome = true := by kernel_rfl
theorem fact_int45 : intT Try.prog 45 = none := by kernel_rfl
theorem fact_zok45 : zeroOK Try.prog 45 = true := by kernel_rfl
theorem fact_zero45 : zeroT Try.prog 45 = some (.agg #[.int .i64 0, .slice none 0 0, .slice none 0 0]) := by kernel_rfl
theorem fact_fok45 : fieldsOK Try.prog 45 = true := by kernel_rfl
theorem fact_f0_45 : fieldTO Try.prog 45 0 = some (3, 0) := by kernel_rfl
theorem fact_f1_45 : fieldTO Try.prog 45 1 = some (42, 1) := by kernel_rfl
theorem fact_f2_45 : fieldTO Try.prog 45 2 = some (43, 2) := by kernel_rfl
theorem fact_ok46 : okT Try.prog 46 = true := by kernel_rfl
theorem fact_cells46 : Program.cellsOf Try.prog 46 = 1 := by kernel_rfl
theorem fact_bytes46 : Program.bytesOf Try.prog 46 = 24 := by kernel_rfl
theorem fact_agg46 : aggT Try.prog 46 = false := by kernel_rfl
theorem fact_und46 : (Program.underlying Try.prog 46).isSome = true := by kernel_rfl
theorem fact_int46 : intT Try.prog 46 = none := by kernel_rfl
theorem fact_el46 : elT Try.prog 46 = some 23 := by kernel_rfl
theorem fact_sl46 : sliceT Try.prog 46 = true := by kernel_rfl
theorem fact_zok46 : zeroOK Try.prog 46 = true := by kernel_rfl
theorem fact_zero46 : zeroT Try.prog 46 = some (.slice none 0 0) := by kernel_rfl
theorem fact_ok59 : okT Try.prog 59 = true := by kernel_rfl
theorem fact_cells59 : Program.cellsOf Try.prog 59 = 1 := by kernel_rfl
theorem fact_bytes59 : Program.bytesOf Try.prog 59 = 24 := by kernel_rfl
theorem fact_agg59 : aggT Try.prog 59 = false := by kernel_rfl
theorem fact_und59 : (Program.underlying Try.prog 59).isSome = true := by kernel_rfl
theorem fact_int59 : intT Try.prog 59 = none := by kernel_rfl
theorem fact_el59 : elT Try.prog 59 = some 65 := by kernel_rfl
theorem fact_sl59 : sliceT Try.prog 59 = true := by kernel_rfl
theorem fact_zok59 : zeroOK Try.prog 59 = true := by kernel_rfl
theorem fact_zero59 : zeroT Try.prog 59 = some (.slice none 0 0) := by kernel_rfl
theorem fact_ok62 : okT Try.prog 62 = true := by kernel_rfl
theorem fact_cells62 : Program.cellsOf Try.prog 62 = 1 := by kernel_rfl
theorem fact_bytes62 : Program.bytesOf Try.prog 62 = 8 := by kernel_rfl
theorem fact_agg62 : aggT Try.prog 62 = false := by kernel_rfl
theorem fact_und62 : (Program.underlying Try.prog 62).isSome = true := by kernel_rfl
theorem fact_int62 : intT Try.prog 62 = none := by kernel_rfl
theorem fact_map62 : mapT Try.prog 62 = some (2, 23) := by kernel_rfl
theorem fact_ok63 : okT Try.prog 63 = true := by kernel_rfl
theorem fact_cells63 : Program.cellsOf Try.prog 63 = 1 := by kernel_rfl
theorem fact_bytes63 : Program.bytesOf Try.prog 63 = 8 := by kernel_rfl
theorem fact_agg63 : aggT Try.prog 63 = false := by kernel_rfl
theorem fact_und63 : (Program.underlying Try.prog 63).isSome = true := by kernel_rfl
theorem fact_int63 : intT Try.prog 63 = none := by kernel_rfl
theorem fact_map63 : mapT Try.prog 63 = some (2, 3) := by kernel_rfl
theorem fact_ok64 : okT Try.prog 64 = true := by kernel_rfl
theorem fact_cells64 : Program.cellsOf Try.prog 64 = 3 := by kernel_rfl
theorem fact_bytes64 : Program.bytesOf Try.prog 64 = 24 := by kernel_rfl
theorem fact_agg64 : aggT Try.prog 64 = true := by kernel_rfl
theorem fact_und64 : (Program.underlying Try.prog 64).isSome = true := by kernel_rfl
theorem fact_int64 : intT Try.prog 64 = none := by kernel_rfl
theorem fact_zok64 : zeroOK Try.prog 64 = true := by kernel_rfl
theorem fact_zero64 : zeroT Try.prog 64 = some (.agg #[.int .i64 0, .int .i64 0, .int .i16 0]) := by kernel_rfl
theorem fact_fok64 : fieldsOK Try.prog 64 = true := by kernel_rfl
theorem fact_f0_64 : fieldTO Try.prog 64 0 = some (3, 0) := by kernel_rfl
theorem fact_f1_64 : fieldTO Try.prog 64 1 = some (2, 1) := by kernel_rfl
theorem fact_f2_64 : fieldTO Try.prog 64 2 = some (23, 2) := by kernel_rfl
theorem fact_ok65 : okT Try.prog 65 = true := by kernel_rfl
theorem fact_cells65 : Program.cellsOf Try.prog 65 = 3 := by kernel_rfl
theorem fact_bytes65 : Program.bytesOf Try.prog 65 = 24 := by kernel_rfl
theorem fact_agg65 : aggT Try.prog 65 = true := by kernel_rfl
theorem fact_und65 : (Program.underlying Try.prog 65).isSome = true := by kernel_rfl
theorem fact_int65 : intT Try.prog 65 = none := by kernel_rfl
theorem fact_zok65 : zeroOK Try.prog 65 = true := by kernel_rfl
theorem fact_zero65 : zeroT Try.prog 65 = some (.agg #[.int .i64 0, .int .i64 0, .int .i16 0]) := by kernel_rfl
theorem fact_fok65 : fieldsOK Try.prog 65 = true := by kernel_rfl
theorem fact_f0_65 : fieldTO Try.prog 65 0 = some (3, 0) := by kernel_rfl
theorem fact_f1_65 : fieldTO Try.prog 65 1 = some (2, 1) := by kernel_rfl
theorem fact_f2_65 : fieldTO Try.prog 65 2 = some (23, 2) := by kernel_rfl
theorem fact_ok71 : okT Try.prog 71 = true := by kernel_rfl
theorem fact_cells71 : Program.cellsOf Try.prog 71 = 1 := by kernel_rfl
theorem fact_bytes71 : Program.bytesOf Try.prog 71 = 24 := by kernel_rfl
theorem fact_agg71 : aggT Try.prog 71 = false := by kernel_rfl
theorem fact_und71 : (Program.underlying Try.prog 71).isSome = true := by kernel_rfl
theorem fact_int71 : intT Try.prog 71 = none := by kernel_rfl
theorem fact_el71 : elT Try.prog 71 = some 22 := by kernel_rfl
theorem fact_sl71 : sliceT Try.prog 71 = true := by kernel_rfl
theorem fact_zok71 : zeroOK Try.prog 71 = true := by kernel_rfl
theorem fact_zero71 : zeroT Try.prog 71 = some (.slice none 0 0) := by kernel_rfl
theorem fact_ok72 : okT Try.prog 72 = true := by kernel_rfl
theorem fact_cells72 : Program.cellsOf Try.prog 72 = 2 := by kernel_rfl
theorem fact_bytes72 : Program.bytesOf Try.prog 72 = 32 := by kernel_rfl
theorem fact_agg72 : aggT Try.prog 72 = true := by kernel_rfl
theorem fact_und72 : (Program.underlying Try.prog 72).isSome = true := by kernel_rfl
theorem fact_int72 : intT Try.prog 72 = none := by kernel_rfl
theorem fact_zok72 : zeroOK Try.prog 72 = true := by kernel_rfl
theorem fact_zero72 : zeroT Try.prog 72 = some (.agg #[.int .i64 0, .slice none 0 0]) := by kernel_rfl
theorem fact_fok72 : fieldsOK Try.prog 72 = true := by kernel_rfl
theorem fact_f0_72 : fieldTO Try.prog 72 0 = some (2, 0) := by kernel_rfl
theorem fact_f1_72 : fieldTO Try.prog 72 1 = some (71, 1) := by kernel_rfl
theorem fact_ok73 : okT Try.prog 73 = true := by kernel_rfl
theorem fact_cells73 : Program.cellsOf Try.prog 73 = 2 := by kernel_rfl
theorem fact_bytes73 : Program.bytesOf Try.prog 73 = 32 := by kernel_rfl
theorem fact_agg73 : aggT Try.prog 73 = true := by kernel_rfl
theorem fact_und73 : (Program.underlying Try.prog 73).isSome = true := by kernel_rfl
theorem fact_int73 : intT Try.prog 73 = none := by kernel_rfl
theorem fact_zok73 : zeroOK Try.prog 73 = true := by kernel_rfl
theorem fact_zero73 : zeroT Try.prog 73 = some (.agg #[.int .i64 0, .slice none 0 0]) := by kernel_rfl
theorem fact_fok73 : fieldsOK Try.prog 73 = true := by kernel_rfl
theorem fact_f0_73 : fieldTO Try.prog 73 0 = some (2, 0) := by kernel_rfl
theorem fact_f1_73 : fieldTO Try.prog 73 1 = some (71, 1) := by kernel_rfl
theorem fact_ok74 : okT Try.prog 74 = true := by kernel_rfl
theorem fact_cells74 : Program.cellsOf Try.prog 74 = 1 := by kernel_rfl
theorem fact_bytes74 : Program.bytesOf Try.prog 74 = 24 := by kernel_rfl
theorem fact_agg74 : aggT Try.prog 74 = false := by kernel_rfl
theorem fact_und74 : (Program.underlying Try.prog 74).isSome = true := by kernel_rfl
theorem fact_int74 : intT Try.prog 74 = none := by kernel_rfl
theorem fact_el74 : elT Try.prog 74 = some 5 := by kernel_rfl
theorem fact_sl74 : sliceT Try.prog 74 = true := by kernel_rfl
theorem fact_zok74 : zeroOK Try.prog 74 = true := by kernel_rfl
theorem fact_zero74 : zeroT Try.prog 74 = some (.slice none 0 0) := by kernel_rfl
theorem fact_ok92 : okT Try.prog 92 = true := by kernel_rfl
theorem fact_cells92 : Program.cellsOf Try.prog 92 = 1 := by kernel_rfl
theorem fact_bytes92 : Program.bytesOf Try.prog 92 = 24 := by kernel_rfl
theorem fact_agg92 : aggT Try.prog 92 = false := by kernel_rfl
theorem fact_und92 : (Program.underlying Try.prog 92).isSome = true := by kernel_rfl
theorem fact_int92 : intT Try.prog 92 = none := by kernel_rfl
theorem fact_el92 : elT Try.prog 92 = some 40 := by kernel_rfl
theorem fact_sl92 : sliceT Try.prog 92 = true := by kernel_rfl
theorem fact_zok92 : zeroOK Try.prog 92 = true := by kernel_rfl
theorem fact_zero92 : zeroT Try.prog 92 = some (.slice none 0 0) := by kernel_rfl
theorem fact_ok95 : okT Try.prog 95 = true := by kernel_rfl
theorem fact_cells95 : Program.cellsOf Try.prog 95 = 1 := by kernel_rfl
theorem fact_bytes95 : Program.bytesOf Try.prog 95 = 8 := by kernel_rfl
theorem fact_agg95 : aggT Try.prog 95 = false := by kernel_rfl
theorem fact_und95 : (Program.underlying Try.prog 95).isSome = true := by kernel_rfl
theorem fact_int95 : intT Try.prog 95 = none := by kernel_rfl
theorem fact_map95 : mapT Try.prog 95 = some (23, 3) := by kernel_rfl
theorem fact_ok97 : okT Try.prog 97 = true := by kernel_rfl
theorem fact_cells97 : Program.cellsOf Try.prog 97 = 1 := by kernel_rfl
theorem fact_bytes97 : Program.bytesOf Try.prog 97 = 8 := by kernel_rfl
theorem fact_agg97 : aggT Try.prog 97 = false := by kernel_rfl
theorem fact_und97 : (Program.underlying Try.prog 97).isSome = true := by kernel_rfl
theorem fact_int97 : intT Try.prog 97 = some .u64 := by kernel_rfl
theorem fact_zok97 : zeroOK Try.prog 97 = true := by kernel_rfl
theorem fact_zero97 : zeroT Try.prog 97 = some (.int .u64 0) := by kernel_rfl
theorem fact_ok98 : okT Try.prog 98 = true := by kernel_rfl
theorem fact_cells98 : Program.cellsOf Try.prog 98 = 3 := by kernel_rfl
theorem fact_bytes98 : Program.bytesOf Try.prog 98 = 40 := by kernel_rfl
theorem fact_agg98 : aggT Try.prog 98 = true := by kernel_rfl
theorem fact_und98 : (Program.underlying Try.prog 98).isSome = true := by kernel_rfl
theorem fact_int98 : intT Try.prog 98 = none := by kernel_rfl
theorem fact_zok98 : zeroOK Try.prog 98 = true := by kernel_rfl
theorem fact_zero98 : zeroT Try.prog 98 = some (.agg #[.int .u64 0, .int .i64 0, .slice none 0 0]) := by kernel_rfl
theorem fact_fok98 : fieldsOK Try.prog 98 = true := by kernel_rfl
theorem fact_f0_98 : fieldTO Try.prog 98 0 = some (97, 0) := by kernel_rfl
theorem fact_f1_98 : fieldTO Try.prog 98 1 = some (3, 1) := by kernel_rfl
theorem fact_f2_98 : fieldTO Try.prog 98 2 = some (43, 2) := by kernel_rfl
theorem fact_ok99 : okT Try.prog 99 = true := by kernel_rfl
theorem fact_cells99 : Program.cellsOf Try.prog 99 = 3 := by kernel_rfl
theorem fact_bytes99 : Program.bytesOf Try.prog 99 = 40 := by kernel_rfl
theorem fact_agg99 : aggT Try.prog 99 = true := by kernel_rfl
theorem fact_und99 : (Program.underlying Try.prog 99).isSome = true := by kernel_rfl
theorem fact_int99 : intT Try.prog 99 = none := by kernel_rfl
theorem fact_zok99 : zeroOK Try.prog 99 = true := by kernel_rfl
theorem fact_zero99 : zeroT Try.prog 99 = some (.agg #[.int .u64 0, .int .i64 0, .slice none 0 0]) := by kernel_rfl
theorem fact_fok99 : fieldsOK Try.prog 99 = true := by kernel_rfl
theorem fact_f0_99 : fieldTO Try.prog 99 0 = some (97, 0) := by kernel_rfl
theorem fact_f1_99 : fieldTO Try.prog 99 1 = some (3, 1) := by kernel_rfl
theorem fact_f2_99 : fieldTO Try.prog 99 2 = some (43, 2) := by kernel_rfl
theorem fact_ok115 : okT Try.prog 115 = true := by kernel_rfl
theorem fact_cells115 : Program.cellsOf Try.prog 115 = 6 := by kernel_rfl
theorem fact_bytes115 : Program.bytesOf Try.prog 115 = 80 := by kernel_rfl
theorem fact_agg115 : aggT Try.prog 115 = true := by kernel_rfl
theorem fact_und115 : (Program.underlying Try.prog 115).isSome = true := by kernel_rfl
theorem fact_int115 : intT Try.prog 115 = none := by kernel_rfl
theorem fact_arr115 : arrT Try.prog 115 = some (2, 99) := by kernel_rfl
theorem fact_zok115 : zeroOK Try.prog 115 = true := by kernel_rfl
theorem fact_zero115 : zeroT Try.prog 115 = some (.agg #[.int .u64 0, .int .i64 0, .slice none 0 0, .int .u64 0, .int .i64 0, .slice none 0 0]) := by kernel_rfl
theorem fact_fok115 : fieldsOK Try.prog 115 = true := by kernel_rfl
theorem fact_ok142 : okT Try.prog 142 = true := by kernel_rfl
theorem fact_cells142 : Program.cellsOf Try.prog 142 = 1 := by kernel_rfl
theorem fact_bytes142 : Program.bytesOf Try.prog 142 = 8 := by kernel_rfl
theorem fact_agg142 : aggT Try.prog 142 = false := by kernel_rfl
theorem fact_und142 : (Program.underlying Try.prog 142).isSome = true := by kernel_rfl
theorem fact_int142 : intT Try.prog 142 = some .u64 := by kernel_rfl
theorem fact_zok142 : zeroOK Try.prog 142 = true := by kernel_rfl
theorem fact_zero142 : zeroT Try.prog 142 = some (.int .u64 0) := by kernel_rfl
theorem fact_ok150 : okT Try.prog 150 = true := by kernel_rfl
theorem fact_cells150 : Program.cellsOf Try.prog 150 = 1 := by kernel_rfl
theorem fact_bytes150 : Program.bytesOf Try.prog 150 = 16 := by kernel_rfl
theorem fact_agg150 : aggT Try.prog 150 = false := by kernel_rfl
theorem fact_und150 : (Program.underlying Try.prog 150).isSome = true := by kernel_rfl
theorem fact_int150 : intT Try.prog 150 = none := by kernel_rfl
theorem fact_ok151 : okT Try.prog 151 = true := by kernel_rfl
theorem fact_cells151 : Program.cellsOf Try.prog 151 = 1 := by kernel_rfl
theorem fact_bytes151 : Program.bytesOf Try.prog 151 = 8 := by kernel_rfl
theorem fact_agg151 : aggT Try.prog 151 = false := by kernel_rfl
theorem fact_und151 : (Program.underlying Try.prog 151).isSome = true := by kernel_rfl
theorem fact_int151 : intT Try.prog 151 = none := by kernel_rfl
theorem fact_flt151 : fltT Try.prog 151 = some .f64 := by kernel_rfl
theorem fact_ok178 : okT Try.prog 178 = true := by kernel_rfl
theorem fact_cells178 : Program.cellsOf Try.prog 178 = 1 := by kernel_rfl
theorem fact_bytes178 : Program.bytesOf Try.prog 178 = 8 := by kernel_rfl
theorem fact_agg178 : aggT Try.prog 178 = false := by kernel_rfl
theorem fact_und178 : (Program.underlying Try.prog 178).isSome = true := by kernel_rfl
theorem fact_int178 : intT Try.prog 178 = some .i64 := by kernel_rfl
theorem fact_zok178 : zeroOK Try.prog 178 = true := by kernel_rfl
theorem fact_zero178 : zeroT Try.prog 178 = some (.int .i64 0) := by kernel_rfl
theorem fact_ok186 : okT Try.prog 186 = true := by kernel_rfl
theorem fact_cells186 : Program.cellsOf Try.prog 186 = 1 := by kernel_rfl
theorem fact_bytes186 : Program.bytesOf Try.prog 186 = 4 := by kernel_rfl
theorem fact_agg186 : aggT Try.prog 186 = false := by kernel_rfl
theorem fact_und186 : (Program.underlying Try.prog 186).isSome = true := by kernel_rfl
theorem fact_int186 : intT Try.prog 186 = some .u32 := by kernel_rfl
theorem fact_zok186 : zeroOK Try.prog 186 = true := by kernel_rfl
theorem fact_zero186 : zeroT Try.prog 186 = some (.int .u32 0) := by kernel_rfl
theorem fact_ok197 : okT Try.prog 197 = true := by kernel_rfl
theorem fact_cells197 : Program.cellsOf Try.prog 197 = 1 := by kernel_rfl
theorem fact_bytes197 : Program.bytesOf Try.prog 197 = 8 := by kernel_rfl
theorem fact_agg197 : aggT Try.prog 197 = false := by kernel_rfl
theorem fact_und197 : (Program.underlying Try.prog 197).isSome = true := by kernel_rfl
theorem fact_int197 : intT Try.prog 197 = some .u64 := by kernel_rfl
theorem fact_zok197 : zeroOK Try.prog 197 = true := by kernel_rfl
theorem fact_zero197 : zeroT Try.prog 197 = some (.int .u64 0) := by kernel_rfl
theorem cal22 : callable Try.prog 22 = true := by kernel_rfl
theorem cal25 : callable Try.prog 25 = true := by kernel_rfl
theorem cal26 : callable Try.prog 26 = true := by kernel_rfl
theorem cal30 : callable Try.prog 30 = true := by kernel_rfl
theorem cal32 : callable Try.prog 32 = true := by kernel_rfl
theorem cal35 : callable Try.prog 35 = true := by kernel_rfl
theorem cal41 : callable Try.prog 41 = true := by kernel_rfl
theorem cal49 : callable Try.prog 49 = true := by kernel_rfl
theorem cal51 : callable Try.prog 51 = true := by kernel_rfl
theorem cal61 : callable Try.prog 61 = true := by kernel_rfl
theorem cal63 : callable Try.prog 63 = true := by kernel_rfl
theorem cal64 : callable Try.prog 64 = true := by kernel_rfl
theorem cal66 : callable Try.prog 66 = true := by kernel_rfl
theorem cal67 : callable Try.prog 67 = true := by kernel_rfl
theorem cal68 : callable Try.prog 68 = true := by kernel_rfl
theorem cal69 : callable Try.prog 69 = true := by kernel_rfl
theorem cal71 : callable Try.prog 71 = true := by kernel_rfl
theorem cal72 : callable Try.prog 72 = true := by kernel_rfl
theorem cal73 : callable Try.prog 73 = true := by kernel_rfl
theorem cal74 : callable Try.prog 74 = true := by kernel_rfl
theorem cal75 : callable Try.prog 75 = true := by kernel_rfl
theorem cal76 : callable Try.prog 76 = true := by kernel_rfl
theorem cal77 : callable Try.prog 77 = true := by kernel_rfl
theorem cal78 : callable Try.prog 78 = true := by kernel_rfl
theorem cal79 : callable Try.prog 79 = true := by kernel_rfl
theorem cal80 : callable Try.prog 80 = true := by kernel_rfl
theorem cal81 : callable Try.prog 81 = true := by kernel_rfl
theorem cal82 : callable Try.prog 82 = true := by kernel_rfl
theorem cal83 : callable Try.prog 83 = true := by kernel_rfl
theorem cal84 : callable Try.prog 84 = true := by kernel_rfl
theorem cal85 : callable Try.prog 85 = true := by kernel_rfl
theorem cal86 : callable Try.prog 86 = true := by kernel_rfl
theorem cal87 : callable Try.prog 87 = true := by kernel_rfl
theorem cal88 : callable Try.prog 88 = true := by kernel_rfl
theorem cal89 : callable Try.prog 89 = true := by kernel_rfl
theorem cal90 : callable Try.prog 90 = true := by kernel_rfl
theorem cal93 : callable Try.prog 93 = true := by kernel_rfl
theorem cal94 : callable Try.prog 94 = true := by kernel_rfl
theorem cal95 : callable Try.prog 95 = true := by kernel_rfl
theorem cal96 : callable Try.prog 96 = true := by kernel_rfl
theorem cal100 : callable Try.prog 100 = true := by kernel_rfl
theorem cal101 : callable Try.prog 101 = true := by kernel_rfl
theorem cal103 : callable Try.prog 103 = true := by kernel_rfl
theorem cal105 : callable Try.prog 105 = true := by kernel_rfl
theorem cal106 : callable Try.prog 106 = true := by kernel_rfl
theorem cal108 : callable Try.prog 108 = true := by kernel_rfl
theorem cal110 : callable Try.prog 110 = true := by kernel_rfl
theorem cal118 : callable Try.prog 118 = true := by kernel_rfl
theorem cal119 : callable Try.prog 119 = true := by kernel_rfl
theorem cal120 : callable Try.prog 120 = true := by kernel_rfl
theorem cal121 : callable Try.prog 121 = true := by kernel_rfl
theorem cal122 : callable Try.prog 122 = true := by kernel_rfl
theorem cal123 : callable Try.prog 123 = true := by kernel_rfl
theorem cal124 : callable Try.prog 124 = true := by kernel_rfl
theorem cal125 : callable Try.prog 125 = true := by kernel_rfl
theorem cal126 : callable Try.prog 126 = true := by kernel_rfl
theorem cal127 : callable Try.prog 127 = true := by kernel_rfl
theorem cal128 : callable Try.prog 128 = true := by kernel_rfl
theorem cal129 : callable Try.prog 129 = true := by kernel_rfl
theorem cal130 : callable Try.prog 130 = true := by kernel_rfl
theorem cal131 : callable Try.prog 131 = true := by kernel_rfl
theorem cal132 : callable Try.prog 132 = true := by kernel_rfl
theorem cal133 : callable Try.prog 133 = true := by kernel_rfl
theorem cal134 : callable Try.prog 134 = true := by kernel_rfl
theorem cal135 : callable Try.prog 135 = true := by kernel_rfl
theorem cal136 : callable Try.prog 136 = true := by kernel_rfl
theorem cal138 : callable Try.prog 138 = true := by kernel_rfl
theorem cal140 : callable Try.prog 140 = true := by kernel_rfl
theorem cal143 : callable Try.prog 143 = true := by kernel_rfl
theorem cal145 : callable Try.prog 145 = true := by kernel_rfl
theorem cal149 : callable Try.prog 149 = true := by kernel_rfl
theorem cal151 : callable Try.prog 151 = true := by kernel_rfl
theorem cal152 : callable Try.prog 152 = true := by kernel_rfl
theorem cal153 : callable Try.prog 153 = true := by kernel_rfl
theorem cal154 : callable Try.prog 154 = true := by kernel_rfl
theorem cal155 : callable Try.prog 155 = true := by kernel_rfl
theorem cal156 : callable Try.prog 156 = true := by kernel_rfl
theorem cal157 : callable Try.prog 157 = true := by kernel_rfl
theorem cal158 : callable Try.prog 158 = true := by kernel_rfl
theorem cal160 : callable Try.prog 160 = true := by kernel_rfl
theorem cal161 : callable Try.prog 161 = true := by kernel_rfl
theorem cal175 : callable Try.prog 175 = true := by kernel_rfl
theorem cal176 : callable Try.prog 176 = true := by kernel_rfl
theorem cal177 : callable Try.prog 177 = true := by kernel_rfl
theorem cal178 : callable Try.prog 178 = true := by kernel_rfl
theorem cal179 : callable Try.prog 179 = true := by kernel_rfl
theorem cal180 : callable Try.prog 180 = true := by kernel_rfl
theorem cal181 : callable Try.prog 181 = true := by kernel_rfl
theorem cal182 : callable Try.prog 182 = true := by kernel_rfl
theorem cal183 : callable Try.prog 183 = true := by kernel_rfl
theorem cal185 : callable Try.prog 185 = true := by kernel_rfl
theorem cal186 : callable Try.prog 186 = true := by kernel_rfl
theorem cal190 : callable Try.prog 190 = true := by kernel_rfl
theorem cal191 : callable Try.prog 191 = true := by kernel_rfl
theorem cal192 : callable Try.prog 192 = true := by kernel_rfl
theorem cal194 : callable Try.prog 194 = true := by kernel_rfl
theorem mixed : Try.prog.follows .mixedOrders = true := by kernel_rfl
def factsT2 := (And.intro (And.intro (And.intro fact_ok2 fact_cells2) (And.intro fact_bytes2 fact_agg2)) (And.intro (And.intro fact_und2 fact_int2) (And.intro fact_zok2 fact_zero2)))
def factsT3 := (And.intro (And.intro (And.intro fact_ok3 fact_cells3) (And.intro fact_bytes3 fact_agg3)) (And.intro (And.intro fact_und3 fact_int3) (And.intro fact_zok3 fact_zero3)))
def factsT4 := (And.intro (And.intro (And.intro fact_ok4 fact_cells4) (And.intro fact_bytes4 fact_agg4)) (And.intro (And.intro fact_und4 fact_int4) (And.intro fact_bool4 (And.intro fact_zok4 fact_zero4))))
def factsT5 := (And.intro (And.intro (And.intro fact_ok5 fact_cells5) (And.intro fact_bytes5 fact_agg5)) (And.intro (And.intro fact_und5 fact_int5) (And.intro fact_zok5 fact_zero5)))
def factsT9 := (And.intro (And.intro (And.intro fact_ok9 fact_cells9) (And.intro fact_bytes9 fact_agg9)) (And.intro (And.intro fact_und9 fact_int9) (And.intro fact_str9 (And.intro fact_zok9 fact_zero9))))
def factsT12 := (And.intro (And.intro (And.intro fact_ok12 fact_cells12) (And.intro fact_bytes12 fact_agg12)) (And.intro (And.intro fact_und12 fact_int12) (And.intro fact_zok12 fact_zero12)))
def factsT21 := (And.intro (And.intro (And.intro fact_ok21 fact_cells21) (And.intro fact_bytes21 fact_agg21)) (And.intro (And.intro fact_und21 fact_int21) (And.intro fact_zok21 fact_zero21)))
def factsT22 := (And.intro (And.intro (And.intro fact_ok22 fact_cells22) (And.intro fact_bytes22 (And.intro fact_agg22 fact_und22))) (And.intro (And.intro fact_int22 fact_el22) (And.intro fact_sl22 (And.intro fact_zok22 fact_zero22))))
def factsT23 := (And.intro (And.intro (And.intro fact_ok23 fact_cells23) (And.intro fact_bytes23 fact_agg23)) (And.intro (And.intro fact_und23 fact_int23) (And.intro fact_zok23 fact_zero23)))
def factsT25 := (And.intro (And.intro (And.intro fact_ok25 fact_cells25) (And.intro fact_bytes25 fact_agg25)) (And.intro (And.intro fact_und25 fact_int25) (And.intro fact_zok25 fact_zero25)))
def factsT36 := (And.intro (And.intro (And.intro fact_ok36 fact_cells36) (And.intro fact_bytes36 (And.intro fact_agg36 fact_und36))) (And.intro (And.intro fact_int36 fact_el36) (And.intro fact_sl36 (And.intro fact_zok36 fact_zero36))))
def factsT40 := (And.intro (And.intro fact_ok40 (And.intro fact_cells40 fact_bytes40)) (And.intro (And.intro fact_agg40 fact_und40) (And.intro fact_int40 fact_map40)))
def factsT42 := (And.intro (And.intro (And.intro fact_ok42 fact_cells42) (And.intro fact_bytes42 (And.intro fact_agg42 fact_und42))) (And.intro (And.intro fact_int42 fact_el42) (And.intro fact_sl42 (And.intro fact_zok42 fact_zero42))))
def factsT43 := (And.intro (And.intro (And.intro fact_ok43 fact_cells43) (And.intro fact_bytes43 (And.intro fact_agg43 fact_und43))) (And.intro (And.intro fact_int43 fact_el43) (And.intro fact_sl43 (And.intro fact_zok43 fact_zero43))))
def factsT44 := (And.intro (And.intro (And.intro fact_ok44 (And.intro fact_cells44 fact_bytes44)) (And.intro fact_agg44 (And.intro fact_und44 fact_int44))) (And.intro (And.intro fact_zok44 (And.intro fact_zero44 fact_fok44)) (And.intro fact_f0_44 (And.intro fact_f1_44 fact_f2_44))))
def factsT45 := (And.intro (And.intro (And.intro fact_ok45 (And.intro fact_cells45 fact_bytes45)) (And.intro fact_agg45 (And.intro fact_und45 fact_int45))) (And.intro (And.intro fact_zok45 (And.intro fact_zero45 fact_fok45)) (And.intro fact_f0_45 (And.intro fact_f1_45 fact_f2_45))))
def factsT46 := (And.intro (And.intro (And.intro fact_ok46 fact_cells46) (And.intro fact_bytes46 (And.intro fact_agg46 fact_und46))) (And.intro (And.intro fact_int46 fact_el46) (And.intro fact_sl46 (And.intro fact_zok46 fact_zero46))))
def factsT59 := (And.intro (And.intro (And.intro fact_ok59 fact_cells59) (And.intro fact_bytes59 (And.intro fact_agg59 fact_und59))) (And.intro (And.intro fact_int59 fact_el59) (And.intro fact_sl59 (And.intro fact_zok59 fact_zero59))))
def factsT62 := (And.intro (And.intro fact_ok62 (And.intro fact_cells62 fact_bytes62)) (And.intro (And.intro fact_agg62 fact_und62) (And.intro fact_int62 fact_map62)))
def factsT63 := (And.intro (And.intro fact_ok63 (And.intro fact_cells63 fact_bytes63)) (And.intro (And.intro fact_agg63 fact_und63) (And.intro fact_int63 fact_map63)))
def factsT64 := (And.intro (And.intro (And.intro fact_ok64 (And.intro fact_cells64 fact_bytes64)) (And.intro fact_agg64 (And.intro fact_und64 fact_int64))) (And.intro (And.intro fact_zok64 (And.intro fact_zero64 fact_fok64)) (And.intro fact_f0_64 (And.intro fact_f1_64 fact_f2_64))))
def factsT65 := (And.intro (And.intro (And.intro fact_ok65 (And.intro fact_cells65 fact_bytes65)) (And.intro fact_agg65 (And.intro fact_und65 fact_int65))) (And.intro (And.intro fact_zok65 (And.intro fact_zero65 fact_fok65)) (And.intro fact_f0_65 (And.intro fact_f1_65 fact_f2_65))))
def factsT71 := (And.intro (And.intro (And.intro fact_ok71 fact_cells71) (And.intro fact_bytes71 (And.intro fact_agg71 fact_und71))) (And.intro (And.intro fact_int71 fact_el71) (And.intro fact_sl71 (And.intro fact_zok71 fact_zero71))))
def factsT72 := (And.intro (And.intro (And.intro fact_ok72 fact_cells72) (And.intro fact_bytes72 (And.intro fact_agg72 fact_und72))) (And.intro (And.intro fact_int72 (And.intro fact_zok72 fact_zero72)) (And.intro fact_fok72 (And.intro fact_f0_72 fact_f1_72))))
def factsT73 := (And.intro (And.intro (And.intro fact_ok73 fact_cells73) (And.intro fact_bytes73 (And.intro fact_agg73 fact_und73))) (And.intro (And.intro fact_int73 (And.intro fact_zok73 fact_zero73)) (And.intro fact_fok73 (And.intro fact_f0_73 fact_f1_73))))
def factsT74 := (And.intro (And.intro (And.intro fact_ok74 fact_cells74) (And.intro fact_bytes74 (And.intro fact_agg74 fact_und74))) (And.intro (And.intro fact_int74 fact_el74) (And.intro fact_sl74 (And.intro fact_zok74 fact_zero74))))
def factsT92 := (And.intro (And.intro (And.intro fact_ok92 fact_cells92) (And.intro fact_bytes92 (And.intro fact_agg92 fact_und92))) (And.intro (And.intro fact_int92 fact_el92) (And.intro fact_sl92 (And.intro fact_zok92 fact_zero92))))
def factsT95 := (And.intro (And.intro fact_ok95 (And.intro fact_cells95 fact_bytes95)) (And.intro (And.intro fact_agg95 fact_und95) (And.intro fact_int95 fact_map95)))
def factsT97 := (And.intro (And.intro (And.intro fact_ok97 fact_cells97) (And.intro fact_bytes97 fact_agg97)) (And.intro (And.intro fact_und97 fact_int97) (And.intro fact_zok97 fact_zero97)))
def factsT98 := (And.intro (And.intro (And.intro fact_ok98 (And.intro fact_cells98 fact_bytes98)) (And.intro fact_agg98 (And.intro fact_und98 fact_int98))) (And.intro (And.intro fact_zok98 (And.intro fact_zero98 fact_fok98)) (And.intro fact_f0_98 (And.intro fact_f1_98 fact_f2_98))))
def factsT99 := (And.intro (And.intro (And.intro fact_ok99 (And.intro fact_cells99 fact_bytes99)) (And.intro fact_agg99 (And.intro fact_und99 fact_int99))) (And.intro (And.intro fact_zok99 (And.intro fact_zero99 fact_fok99)) (And.intro fact_f0_99 (And.intro fact_f1_99 fact_f2_99))))
def factsT115 := (And.intro (And.intro (And.intro fact_ok115 fact_cells115) (And.intro fact_bytes115 (And.intro fact_agg115 fact_und115))) (And.intro (And.intro fact_int115 fact_arr115) (And.intro fact_zok115 (And.intro fact_zero115 fact_fok115))))
def factsT142 := (And.intro (And.intro (And.intro fact_ok142 fact_cells142) (And.intro fact_bytes142 fact_agg142)) (And.intro (And.intro fact_und142 fact_int142) (And.intro fact_zok142 fact_zero142)))
def factsT150 := (And.intro (And.intro fact_ok150 (And.intro fact_cells150 fact_bytes150)) (And.intro fact_agg150 (And.intro fact_und150 fact_int150)))
def factsT151 := (And.intro (And.intro fact_ok151 (And.intro fact_cells151 fact_bytes151)) (And.intro (And.intro fact_agg151 fact_und151) (And.intro fact_int151 fact_flt151)))
def factsT178 := (And.intro (And.intro (And.intro fact_ok178 fact_cells178) (And.intro fact_bytes178 fact_agg178)) (And.intro (And.intro fact_und178 fact_int178) (And.intro fact_zok178 fact_zero178)))
def factsT186 := (And.intro (And.intro (And.intro fact_ok186 fact_cells186) (And.intro fact_bytes186 fact_agg186)) (And.intro (And.intro fact_und186 fact_int186) (And.intro fact_zok186 fact_zero186)))
def factsT197 := (And.intro (And.intro (And.intro fact_ok197 fact_cells197) (And.intro fact_bytes197 fact_agg197)) (And.intro (And.intro fact_und197 fact_int197) (And.intro fact_zok197 fact_zero197)))
attribute [go_sem] factsT2 factsT3 factsT4 factsT5 factsT9 factsT12 factsT21 factsT22 factsT23 factsT25 factsT36 factsT40 factsT42 factsT43 factsT44 factsT45 factsT46 factsT59 factsT62 factsT63 factsT64 factsT65 factsT71 factsT72 factsT73 factsT74 factsT92 factsT95 factsT97 factsT98 factsT99 factsT115 factsT142 factsT150 factsT151 factsT178 factsT186 factsT197
end Go.Proofs.Ytpkampecmlpfmaa.T

end
section
set_option linter.unusedSimpArgs false
set_option linter.unusedVariables false
/- Vectors, walked. -/
namespace Go.Proofs.Ytpkampecmlpfmaa.T
open Go Go.VL Go.Proofs
set_option maxRecDepth 100000

theorem min_fun (l : List Int) (h : 1 ≤ l.length) : Fun Try.prog 152 [.lst (ints .i16 l)] fun r => r = .v (.int .i16 (minL l)) := by
  refine Fun.of_awpI Try.func152 rfl cal152 Try.ntmps152 (by simp) fun hwf => ?_
  simp only [D.wfs, D.wf, ints_length, ints_wfs, rows_length, rows_wfs, capMax, and_true, true_and] at hwf
  repeat' (first | simp only [go_sem, Ret_eq Try.results152] | simp (disch := omega) only [arith, IntKind.bits, capMax, fill_len, elt_fill] | fail)
  refine awpI_for (l.length - 1) (fun k => True) (fun k => [(3, .v (.int .i16 ((l.take (k + 1)).foldl mn (l.getD 0 0)))), (4, .v (.int .i64 ((k + 1 : Nat) : Int)))]) (fun _ => []) [0] [] _ (Weak.refl _) trivial ?_ ?_ ?_
  · simp only [go_sem, Ret_eq Try.results152]
    rw [foldl_take_snoc (d := 0) h]
    simp [mn]
  · simp only [go_sem, Ret_eq Try.results152]
  · intro k s hk _ hs
    simp only [go_sem, Ret_eq Try.results152] at hs
    by_cases hkl : k + 1 < l.length
    · have e := foldl_take_snoc (g := mn) (b := l.getD 0 0) (d := 0) hkl
      repeat' (first | simp only [go_sem, hs, minD_cons, minD_nil, Ret_eq Try.results152] | simp (disch := omega) only [arith, IntKind.bits, capMax, fill_len, elt_fill] | (refine Again.up (by omega) ?_ ?_) | fail)
      rw [e]; rfl
    · repeat' (first | simp only [go_sem, hs, Ret_eq Try.results152] | simp (disch := omega) only [arith, IntKind.bits, capMax, fill_len, elt_fill] | fail)
      rw [List.take_of_length_le (by omega)]; rfl

theorem vecCheck_fun (l : List Int) : Fun Try.prog 122 [.lst (ints .i16 l)] fun r => r = .v (.int .i64 (vecErr l)) := by
  refine Fun.of_awpI Try.func122 rfl cal122 Try.ntmps122 (by simp) fun hwf => ?_
  simp only [D.wfs, D.wf, ints_length, ints_wfs, rows_length, rows_wfs, capMax, and_true, true_and] at hwf
  repeat' (first | simp only [go_sem, Ret_eq Try.results122] | (with_reducible refine condI_dec (fun hq hqb => ?_) (fun hq hqb => ?_) <;> simp only [KP_mk, hqb]) | (refine opCallI_rd (by simp only [go_sem, Ret_eq Try.results122]; first | done | rfl) (min_fun _ (by omega)) (by rintro _ rfl; rfl) ?_; rintro _ rfl) | fail)
  · rw [vecErr_len (by omega)]
  · rw [vecErr_len (by omega)]
  · rw [vecErr_min (by omega) (by omega), if_pos (by omega)]
  · rw [vecErr_min (by omega) (by omega), if_neg (by omega)]

theorem equal16_fun (a b : List Int) : Fun Try.prog 143 [.lst (ints .i16 a), .lst (ints .i16 b)] fun r => r = .v (.bool (decide (a = b))) := by
  refine Fun.of_awpI Try.func143 rfl cal143 Try.ntmps143 (by simp) fun hwf => ?_
  simp only [D.wfs, D.wf, ints_length, ints_wfs, rows_length, rows_wfs, capMax, and_true, true_and] at hwf
  repeat' (first | simp only [go_sem, Ret_eq Try.results143] | (with_reducible refine condI_bne (fun hq hqb => ?_) (fun hq hqb => ?_) <;> simp only [KP_mk, hqb]) | fail)
  · rw [decide_eq_false]; rintro rfl; omega
  · have hl : a.length = b.length := by omega
    refine awpI_for a.length (fun k => a.take k = b.take k) (fun k => [(13, .v (.int .i64 k))]) (fun _ => []) [0, 1, 12] [] _ (Weak.refl _) (by simp) ?_ ?_ ?_
    · simp only [go_sem, Ret_eq Try.results143]
    · simp only [go_sem, Ret_eq Try.results143]
    · intro k s hk hQ hs
      simp only [go_sem, Ret_eq Try.results143] at hs
      by_cases hka : k < a.length
      · repeat' (first | simp only [go_sem, hs, Ret_eq Try.results143] | simp (disch := omega) only [arith, IntKind.bits, capMax, fill_len, elt_fill] | (with_reducible refine condI_bne (fun hq hqb => ?_) (fun hq hqb => ?_) <;> simp only [KP_mk, hqb]) | (refine awpI_draw (id := 6) (.one false 0 (.one false 1 (.one false 2 (.one false 3 (.one false 4 (.one false 5 (.one false 6 (.one false 7 (.one false 8 .done))))))))) mixed (by decide +kernel) (by decide +kernel) ?_) | (refine Again.up (by omega) ?_ ?_) | fail)
        · rw [decide_eq_false]; rintro rfl; simp_all
        · exact take_eq_snoc hka (by omega) hQ (by assumption)
      · obtain rfl : k = a.length := by omega
        rw [List.take_length, hl, List.take_length] at hQ
        subst hQ
        repeat' (first | simp only [go_sem, hs, Ret_eq Try.results143] | simp (disch := omega) only [arith, IntKind.bits, capMax, fill_len, elt_fill] | fail)

theorem vecSame_fun (a b : List Int) : Fun Try.prog 101 [.lst (ints .i16 a), .lst (ints .i16 b)] fun r => r = .v (.bool (decide (a = b))) := by
  refine Fun.of_awpI Try.func101 rfl cal101 Try.ntmps101 (by simp) fun hwf => ?_
  simp only [D.wfs, D.wf, ints_length, ints_wfs, rows_length, rows_wfs, capMax, and_true, true_and] at hwf
  repeat' (first | simp only [go_sem, Ret_eq Try.results101] | (refine opCallI_rd (by simp only [go_sem, Ret_eq Try.results101]; first | done | rfl) (equal16_fun _ _) (by rintro _ rfl; rfl) ?_; rintro _ rfl) | fail)

theorem refVecCheck_fun (l : List Int) : Fun Try.prog 108 [.lst (ints .i16 l)] fun r => r = .v (.int .i64 (vecErr l)) := by
  refine Fun.of_awpI Try.func108 rfl cal108 Try.ntmps108 (by simp) fun hwf => ?_
  simp only [D.wfs, D.wf, ints_length, ints_wfs, rows_length, rows_wfs, capMax, and_true, true_and] at hwf
  repeat' (first | simp only [go_sem, Ret_eq Try.results108] | (with_reducible refine condI_dec (fun hq hqb => ?_) (fun hq hqb => ?_) <;> simp only [KP_mk, hqb]) | fail)
  · rw [vecErr_len (by omega)]
  · rw [vecErr_len (by omega)]
  · refine awpI_for l.length (fun k => ∀ i, i < k → ¬ l.getD i 0 < -32767) (fun k => [(15, .v (.int .i64 k))]) (fun _ => []) [13, 14] [] _ (Weak.refl _) (by omega) ?_ ?_ ?_
    · simp only [go_sem, Ret_eq Try.results108]
    · simp only [go_sem, Ret_eq Try.results108]
    · intro k s hk hQ hs
      simp only [go_sem, Ret_eq Try.results108] at hs
      by_cases hka : k < l.length
      · repeat' (first | simp only [go_sem, hs, Ret_eq Try.results108] | simp (disch := omega) only [arith, IntKind.bits, capMax, fill_len, elt_fill] | (with_reducible refine condI_dec (fun hq hqb => ?_) (fun hq hqb => ?_) <;> simp only [KP_mk, hqb]) | (refine Again.up (by omega) ?_ ?_) | fail)
        · rw [vecErr_at hka (by assumption)]
        · intro i hi
          rcases Nat.lt_or_ge i k with h | h
          · exact hQ i h
          · obtain rfl : i = k := by omega
            assumption
      · obtain rfl : k = l.length := by omega
        repeat' (first | simp only [go_sem, hs, Ret_eq Try.results108] | simp (disch := omega) only [arith, IntKind.bits, capMax, fill_len, elt_fill] | fail)
        rw [vecErr_all (by omega) (by omega) hQ]

theorem refSame16_fun (a b : List Int) : Fun Try.prog 35 [.lst (ints .i16 a), .lst (ints .i16 b)] fun r => r = .v (.bool (decide (a = b))) := by
  refine Fun.of_awpI Try.func35 rfl cal35 Try.ntmps35 (by simp) fun hwf => ?_
  simp only [D.wfs, D.wf, ints_length, ints_wfs, rows_length, rows_wfs, capMax, and_true, true_and] at hwf
  repeat' (first | simp only [go_sem, Ret_eq Try.results35] | (with_reducible refine condI_bne (fun hq hqb => ?_) (fun hq hqb => ?_) <;> simp only [KP_mk, hqb]) | fail)
  · rw [decide_eq_false]; rintro rfl; omega
  · have hl : a.length = b.length := by omega
    refine awpI_for a.length (fun k => a.take k = b.take k) (fun k => [(13, .v (.int .i64 k))]) (fun _ => []) [0, 1, 12] [] _ (Weak.refl _) (by simp) ?_ ?_ ?_
    · simp only [go_sem, Ret_eq Try.results35]
    · simp only [go_sem, Ret_eq Try.results35]
    · intro k s hk hQ hs
      simp only [go_sem, Ret_eq Try.results35] at hs
      by_cases hka : k < a.length
      · repeat' (first | simp only [go_sem, hs, Ret_eq Try.results35] | simp (disch := omega) only [arith, IntKind.bits, capMax, fill_len, elt_fill] | (with_reducible refine condI_bne (fun hq hqb => ?_) (fun hq hqb => ?_) <;> simp only [KP_mk, hqb]) | (refine awpI_draw (id := 6) (.one false 0 (.one false 1 (.one false 2 (.one false 3 (.one false 4 (.one false 5 (.one false 6 (.one false 7 (.one false 8 .done))))))))) mixed (by decide +kernel) (by decide +kernel) ?_) | (refine Again.up (by omega) ?_ ?_) | fail)
        · rw [decide_eq_false]; rintro rfl; simp_all
        · exact take_eq_snoc hka (by omega) hQ (by assumption)
      · obtain rfl : k = a.length := by omega
        rw [List.take_length, hl, List.take_length] at hQ
        subst hQ
        repeat' (first | simp only [go_sem, hs, Ret_eq Try.results35] | simp (disch := omega) only [arith, IntKind.bits, capMax, fill_len, elt_fill] | fail)
end Go.Proofs.Ytpkampecmlpfmaa.T

end
section
set_option linter.unusedSimpArgs false
set_option linter.unusedVariables false
/- Cuts and cells, walked. -/
namespace Go.Proofs.Ytpkampecmlpfmaa.T
open Go Go.VL Go.Proofs
set_option maxRecDepth 100000
set_option maxHeartbeats 4000000

theorem isNaN16_fun (x : Int) : Fun Try.prog 161 [.v (.int .i16 x)] fun r => r = .v (.bool false) := by
  refine Fun.of_awpI Try.func161 rfl cal161 Try.ntmps161 (by simp) fun hwf => ?_
  simp only [D.wfs, D.wf, ints_length, ints_wfs, rows_length, rows_wfs, capMax, and_true, true_and] at hwf
  repeat' (first | simp only [go_sem, bne_self_eq_false, Ret_eq Try.results161] | fail)

theorem less16_fun (x y : Int) : Fun Try.prog 140 [.v (.int .i16 x), .v (.int .i16 y)] fun r => r = .v (.bool (decide (x < y))) := by
  refine Fun.of_awpI Try.func140 rfl cal140 Try.ntmps140 (by simp) fun hwf => ?_
  simp only [D.wfs, D.wf, ints_length, ints_wfs, rows_length, rows_wfs, capMax, and_true, true_and] at hwf
  repeat' (first | simp only [go_sem, Ret_eq Try.results140] | (refine opCallI_rd (by simp only [go_sem, Ret_eq Try.results140]; first | done | rfl) (isNaN16_fun x) (by rintro _ rfl; rfl) ?_; rintro _ rfl) | fail)

theorem isSorted16_fun (c : List Int) : Fun Try.prog 93 [.lst (ints .i16 c)] fun r => r = .v (.bool (decide (Rises c))) := by
  refine Fun.of_awpI Try.func93 rfl cal93 Try.ntmps93 (by simp) fun hwf => ?_
  simp only [D.wfs, D.wf, ints_length, ints_wfs, rows_length, rows_wfs, capMax, and_true, true_and] at hwf
  repeat' (first | simp only [go_sem, Ret_eq Try.results93] | simp (disch := omega) only [arith, IntKind.bits, capMax, fill_len, elt_fill] | fail)
  refine awpI_for (c.length - 1) (fun k => ∀ i, i + 1 < c.length → c.length - 1 - k ≤ i → c.getD i 0 ≤ c.getD (i + 1) 0) (fun k => [(3, .v (.int .i64 (c.length - 1 - k)))]) (fun _ => []) [0] [] _ (Weak.refl _) (fun i h1 h2 => by omega) ?_ ?_ ?_
  · simp only [go_sem, Ret_eq Try.results93]
    simp
  · simp only [go_sem, Ret_eq Try.results93]
  · intro k s hk hQ hs
    simp only [go_sem, Ret_eq Try.results93] at hs
    by_cases hka : k < c.length - 1
    · have t1 : ((c.length : Int) - 1 - k).toNat = c.length - 1 - k := by omega
      have t2 : ((c.length : Int) - 1 - k - 1).toNat = c.length - 2 - k := by omega
      repeat' (first | simp only [go_sem, hs, t1, t2, Ret_eq Try.results93] | simp (disch := omega) only [arith, IntKind.bits, capMax, fill_len, elt_fill] | (with_reducible refine condI_dec (fun hq hqb => ?_) (fun hq hqb => ?_) <;> simp only [KP_mk, hqb]) | (refine awpI_draw2 (id := 4) (.one false 0 (.one false 1 (.one false 2 (.one false 3 (.one false 4 (.one false 5 (.one false 6 (.one false 7 (.one false 8 (.only 9 .done)))))))))) mixed (by decide +kernel) (by decide +kernel) ?_) | (refine Again.up (by omega) ?_ ?_) | (refine opCallI_rd (by simp only [go_sem, hs, t1, t2, Ret_eq Try.results93]; first | done | rfl) (less16_fun _ _) (by rintro _ rfl; rfl) ?_; rintro _ rfl) | fail)
      · rw [decide_eq_false]
        intro hr
        have := hr (c.length - 2 - k) (by omega)
        rw [show c.length - 2 - k + 1 = c.length - 1 - k by omega] at this
        omega
      · intro i h1 h2
        by_cases hi : i = c.length - 2 - k
        · subst hi
          rw [show c.length - 2 - k + 1 = c.length - 1 - k by omega]
          omega
        · exact hQ i h1 (by omega)
      · omega
    · repeat' (first | simp only [go_sem, hs, Ret_eq Try.results93] | simp (disch := omega) only [arith, IntKind.bits, capMax, fill_len, elt_fill] | fail)
      rw [decide_eq_true]
      exact fun i hi => hQ i hi (by omega)

theorem rankOdd_fun (x : Int) : Fun Try.prog 88 [.v (.int .i16 x)] fun r => r = .v (.bool (decide (x < -32767))) := by
  refine Fun.of_awpI Try.func88 rfl cal88 Try.ntmps88 (by simp) fun hwf => ?_
  simp only [D.wfs, D.wf, ints_length, ints_wfs, rows_length, rows_wfs, capMax, and_true, true_and] at hwf
  repeat' (first | simp only [go_sem, Ret_eq Try.results88] | fail)

theorem rankCheck_fun (c : List Int) : Fun Try.prog 30 [.lst (ints .i16 c)] fun r => r = .v (.int .i64 (cutsErr c)) := by
  refine Fun.of_awpI Try.func30 rfl cal30 Try.ntmps30 (by simp) fun hwf => ?_
  simp only [D.wfs, D.wf, ints_length, ints_wfs, rows_length, rows_wfs, capMax, and_true, true_and] at hwf
  by_cases h : Rises c
  · repeat' (first | simp only [go_sem, h, Ret_eq Try.results30] | simp (disch := omega) only [arith, IntKind.bits, capMax, fill_len, elt_fill] | (with_reducible refine condI_dec (fun hq hqb => ?_) (fun hq hqb => ?_) <;> simp only [KP_mk, hqb]) | (refine opCallI_rd (by simp only [go_sem, h, Ret_eq Try.results30]; first | done | rfl) (isSorted16_fun c) (by rintro _ rfl; rfl) ?_; rintro _ rfl) | (refine opCallI_rd (by simp only [go_sem, h, Ret_eq Try.results30]; first | done | rfl) (rankOdd_fun _) (by rintro _ rfl; rfl) ?_; rintro _ rfl) | fail)
    all_goals first | exact (cutsErr_zero.2 ⟨by omega, h, by omega⟩).symm | (rw [cutsErr_one (fun q => by have h1 := q.1; have h2 := q.2.2; omega)]; done)
  · rw [cutsErr_one (fun q => h q.2.1)]
    repeat' (first | simp only [go_sem, h, Ret_eq Try.results30] | (with_reducible refine condI_dec (fun hq hqb => ?_) (fun hq hqb => ?_) <;> simp only [KP_mk, hqb]) | (refine opCallI_rd (by simp only [go_sem, h, Ret_eq Try.results30]; first | done | rfl) (isSorted16_fun c) (by rintro _ rfl; rfl) ?_; rintro _ rfl) | fail)

end Go.Proofs.Ytpkampecmlpfmaa.T

end
section
/- Whole numbers as floats: no bit is lost. -/
namespace Go.VL
open Go Ieee
/-- The word b stands for the whole number m with its sign. -/
def Stands (b : Nat) (s : Bool) (m : Nat) : Prop := m < 2 ^ 53 ∧ ∃ k : Nat, double.read b = .number s (m * 2 ^ k) (-(k : Int))
def iv (s : Bool) (m : Nat) : Int := if s then -(m : Int) else m

theorem sw : double.signWeight = 2 ^ 63 := rfl
theorem bi : double.binade = 2 ^ 52 := rfl
theorem lp : double.leastPlace = -1074 := by decide
theorem ir : double.infRung = 2047 * 2 ^ 52 := by decide

theorem read_word {s : Bool} {rung : Nat} (h : rung < 2 ^ 63) : double.word s rung / double.signWeight % 2 = s.toNat ∧ double.word s rung % double.signWeight = rung := by
  rw [sw]
  unfold Format.word
  rw [sw]
  cases s
  · simp only [Bool.false_eq_true, if_false, Bool.toNat_false]; omega
  · simp only [if_true, Bool.toNat_true]; omega

theorem cut_none (s : Bool) (n d : Nat) (hd : d ≤ (n * 2 ^ d).log2 + 2) : Toward.even.cut s (n * 2 ^ d) d = n := by
  unfold Toward.cut
  have hp : 0 < 2 ^ d := Nat.pow_pos (by decide)
  rw [Nat.min_eq_left hd, Nat.shiftLeft_eq, Nat.one_mul]
  simp only [Nat.mul_mod_left, Nat.mul_div_cancel _ hp, Nat.mul_zero]
  have h1 : decide (2 ^ d < 0) = false := by simp
  have h2 : (2 ^ d == 0) = false := by simp
  rw [h1, h2]
  rfl
theorem log2_shift {m j : Nat} (h : m ≠ 0) : (m * 2 ^ j).log2 = m.log2 + j := by
  have hp : 0 < 2 ^ j := Nat.pow_pos (by decide)
  have hN : m * 2 ^ j ≠ 0 := Nat.mul_ne_zero h (Nat.ne_of_gt hp)
  rw [Nat.log2_eq_iff hN]
  obtain ⟨h1, h2⟩ := (Nat.log2_eq_iff h).1 rfl
  constructor
  · rw [Nat.pow_add]; exact Nat.mul_le_mul_right _ h1
  · rw [show m.log2 + j + 1 = (m.log2 + 1) + j by omega, Nat.pow_add]
    exact Nat.mul_lt_mul_of_pos_right h2 hp

/-- Rounding keeps a whole number. -/
theorem write_stands (s : Bool) (m j : Nat) (hm : m < 2 ^ 53) : Stands (double.write (.number s (m * 2 ^ j) (-(j : Int)))) s m := by
  refine ⟨hm, ?_⟩
  show ∃ k : Nat, double.read (double.nearest s (m * 2 ^ j) (-(j : Int))) = _
  unfold Format.nearest
  by_cases h0 : m = 0
  · subst h0
    rw [if_pos (by simp)]
    obtain ⟨K, hK⟩ : ∃ K : Nat, K = 1074 := ⟨_, rfl⟩
    refine ⟨K, ?_⟩
    obtain ⟨h1, h2⟩ := read_word (s := s) (rung := 0) (by decide)
    unfold Format.read
    simp only [h1, h2]
    rw [if_pos (by decide), lp, Nat.zero_mul, hK]
    cases s <;> rfl
  · have hN : m * 2 ^ j ≠ 0 := Nat.mul_ne_zero h0 (Nat.ne_of_gt (Nat.pow_pos (by decide)))
    rw [if_neg hN]
    have hlog := log2_shift (j := j) h0
    obtain ⟨g1, g2⟩ := (Nat.log2_eq_iff h0).1 rfl
    have hl52 : m.log2 ≤ 52 := by
      have := (Nat.log2_lt h0).2 hm
      omega
    obtain ⟨K, hK⟩ : ∃ K, m.log2 = 52 - K ∧ K ≤ 52 := ⟨52 - m.log2, by omega, by omega⟩
    have hlast : max (-(j : Int) + ((m * 2 ^ j).log2 : Int) - (double.fractionBits : Int)) double.leastPlace = -(K : Int) := by
      rw [hlog, lp, show (double.fractionBits : Int) = 52 from rfl]
      omega
    have hM1 : 2 ^ 52 ≤ m * 2 ^ K := by
      have : 2 ^ (52 - K) * 2 ^ K ≤ m * 2 ^ K := Nat.mul_le_mul_right _ (hK.1 ▸ g1)
      rwa [← Nat.pow_add, show 52 - K + K = 52 by omega] at this
    have hM2 : m * 2 ^ K < 2 ^ 53 := by
      have : m * 2 ^ K < 2 ^ (52 - K + 1) * 2 ^ K := Nat.mul_lt_mul_of_pos_right (hK.1 ▸ g2) (Nat.pow_pos (by decide))
      rwa [← Nat.pow_add, show 52 - K + 1 + K = 53 by omega] at this
    have hkept : Toward.even.cut s ((m * 2 ^ j) <<< (-(j : Int) - -(K : Int)).toNat) (-(K : Int) - -(j : Int)).toNat = m * 2 ^ K := by
      rcases Nat.le_total j K with hjk | hjk
      · rw [show (-(j : Int) - -(K : Int)).toNat = K - j by omega, show (-(K : Int) - -(j : Int)).toNat = 0 by omega, Nat.shiftLeft_eq, Nat.mul_assoc, ← Nat.pow_add, show j + (K - j) = K by omega]
        have := cut_none s (m * 2 ^ K) 0 (by omega)
        rwa [Nat.pow_zero, Nat.mul_one] at this
      · rw [show (-(j : Int) - -(K : Int)).toNat = 0 by omega, show (-(K : Int) - -(j : Int)).toNat = j - K by omega, Nat.shiftLeft_eq, Nat.pow_zero, Nat.mul_one]
        have e : m * 2 ^ j = m * 2 ^ K * 2 ^ (j - K) := by rw [Nat.mul_assoc, ← Nat.pow_add, show K + (j - K) = j by omega]
        rw [e]
        refine cut_none s (m * 2 ^ K) (j - K) ?_
        rw [← e, hlog]
        omega
    simp only [hlast, hkept]
    refine ⟨K, ?_⟩
    generalize m * 2 ^ K = M at *
    have hrung : (-(K : Int) - double.leastPlace).toNat = 1074 - K := by rw [lp]; omega
    rw [hrung, bi, ir]
    have hbig : (1074 - K) * 2 ^ 52 + M ≤ 2047 * 2 ^ 52 := by omega
    rw [Nat.min_eq_left hbig]
    obtain ⟨h1, h2⟩ := read_word (s := s) (rung := (1074 - K) * 2 ^ 52 + M) (by omega)
    unfold Format.read
    simp only [h1, h2, bi, ir, lp]
    rw [if_neg (by omega), if_pos (by omega)]
    have e1 : 2 ^ 52 + ((1074 - K) * 2 ^ 52 + M) % 2 ^ 52 = M := by omega
    have e2 : ((1074 - K) * 2 ^ 52 + M) / 2 ^ 52 - 1 = 1074 - K := by omega
    rw [e1, e2]
    have e3 : (-1074 : Int) + ((1074 - K : Nat) : Int) = -(K : Int) := by omega
    rw [e3]
    cases s <;> rfl
theorem signed_iv (s : Bool) (m k : Nat) : signed s m k = iv s m * 2 ^ k := by
  unfold signed iv
  rw [Nat.shiftLeft_eq]
  cases s <;> simp [Int.neg_mul]
theorem mul_stands {x y m n : Nat} {s t : Bool} (hx : Stands x s m) (hy : Stands y t n) (h : m * n < 2 ^ 53) : ∃ r, double.mul x y = some r ∧ Stands r (s ^^ t) (m * n) := by
  obtain ⟨_, k, hk⟩ := hx
  obtain ⟨_, l, hl⟩ := hy
  unfold Format.mul
  rw [hk, hl]
  refine ⟨_, rfl, ?_⟩
  have := write_stands (s ^^ t) (m * n) (k + l) h
  have e1 : m * 2 ^ k * (n * 2 ^ l) = m * n * 2 ^ (k + l) := by rw [Nat.pow_add]; ac_rfl
  have e2 : -(k : Int) + -(l : Int) = -((k + l : Nat) : Int) := by omega
  rw [e1, e2]
  exact this
theorem sum_stands {x m n : Nat} {s t : Bool} {k l : Nat} (hx : double.read x = .number s (m * 2 ^ k) (-(k : Int))) {d : Datum} (hd : d = .number t (n * 2 ^ l) (-(l : Int))) (h : (iv s m + iv t n).natAbs < 2 ^ 53) :
    ∃ r u q, (((double.read x).sum d).map double.write) = some r ∧ Stands r u q ∧ iv u q = iv s m + iv t n := by
  rw [hx, hd]
  have hp : (0 : Int) < 2 ^ max k l := Int.pow_pos (by decide)
  have hb : min (-(k : Int)) (-(l : Int)) = -((max k l : Nat) : Int) := by omega
  have t1 : signed s (m * 2 ^ k) (-(k : Int) - -((max k l : Nat) : Int)).toNat = iv s m * 2 ^ max k l := by
    rw [signed_iv, show (-(k : Int) - -((max k l : Nat) : Int)).toNat = max k l - k by omega]
    have e : (2 : Int) ^ max k l = 2 ^ k * 2 ^ (max k l - k) := by rw [← Int.pow_add]; congr 1; omega
    rw [e]
    unfold iv
    cases s <;> simp [Int.mul_assoc, Int.neg_mul]
  have t2 : signed t (n * 2 ^ l) (-(l : Int) - -((max k l : Nat) : Int)).toNat = iv t n * 2 ^ max k l := by
    rw [signed_iv, show (-(l : Int) - -((max k l : Nat) : Int)).toNat = max k l - l by omega]
    have e : (2 : Int) ^ max k l = 2 ^ l * 2 ^ (max k l - l) := by rw [← Int.pow_add]; congr 1; omega
    rw [e]
    unfold iv
    cases t <;> simp [Int.mul_assoc, Int.neg_mul]
  simp only [Datum.sum, hb, t1, t2]
  rw [← Int.add_mul]
  generalize hz : iv s m + iv t n = z at *
  have e3 : (z * 2 ^ max k l).natAbs = z.natAbs * 2 ^ max k l := by rw [Int.natAbs_mul, Int.natAbs_pow]; rfl
  rw [e3]
  refine ⟨_, _, z.natAbs, rfl, write_stands _ z.natAbs (max k l) h, ?_⟩
  by_cases h0 : z = 0
  · subst h0
    unfold iv
    split <;> simp
  · have hne : z * 2 ^ max k l ≠ 0 := Int.mul_ne_zero h0 (Int.ne_of_gt hp)
    rw [if_neg hne]
    unfold iv
    by_cases hneg : z < 0
    · rw [decide_eq_true (Int.mul_neg_of_neg_of_pos hneg hp), if_pos rfl]; omega
    · have : ¬ z * 2 ^ max k l < 0 := by
        have := Int.mul_nonneg (show 0 ≤ z by omega) (Int.le_of_lt hp)
        omega
      rw [decide_eq_false this, if_neg (by decide)]; omega

/-- The word b stands for the whole number z. -/
def IV (b : Nat) (z : Int) : Prop := ∃ s m, Stands b s m ∧ iv s m = z
theorem iv_abs (s : Bool) (m : Nat) : (iv s m).natAbs = m := by unfold iv; cases s <;> simp
theorem iv_mul (s t : Bool) (m n : Nat) : iv (s ^^ t) (m * n) = iv s m * iv t n := by unfold iv; cases s <;> cases t <;> simp [Int.neg_mul, Int.mul_neg]
theorem iv_neg (s : Bool) (m : Nat) : iv (!s) m = - iv s m := by unfold iv; cases s <;> simp
theorem IV.nearest {z : Int} (h : z.natAbs < 2 ^ 53) : IV (FloatKind.f64.nearest z) z := by
  refine ⟨decide (z < 0), z.natAbs, ?_, ?_⟩
  · have := write_stands (decide (z < 0)) z.natAbs 0 h
    show Stands (double.write (.number (decide (z < 0)) z.natAbs 0)) _ _
    simpa using this
  · unfold iv
    by_cases hz : z < 0
    · rw [decide_eq_true hz, if_pos rfl]; omega
    · rw [decide_eq_false hz, if_neg (by decide)]; omega
theorem IV.mul {x y : Nat} {a b : Int} (hx : IV x a) (hy : IV y b) (h : (a * b).natAbs < 2 ^ 53) : ∃ r, double.mul x y = some r ∧ IV r (a * b) := by
  obtain ⟨s, m, h1, rfl⟩ := hx
  obtain ⟨t, n, h2, rfl⟩ := hy
  obtain ⟨r, h3, h4⟩ := mul_stands h1 h2 (by rwa [Int.natAbs_mul, iv_abs, iv_abs] at h)
  exact ⟨r, h3, _, _, h4, iv_mul s t m n⟩
theorem IV.add {x y : Nat} {a b : Int} (hx : IV x a) (hy : IV y b) (h : (a + b).natAbs < 2 ^ 53) : ∃ r, double.add x y = some r ∧ IV r (a + b) := by
  obtain ⟨s, m, ⟨_, k, h1⟩, rfl⟩ := hx
  obtain ⟨t, n, ⟨_, l, h2⟩, rfl⟩ := hy
  obtain ⟨r, u, q, h3, h4, h5⟩ := sum_stands h1 h2 h
  exact ⟨r, h3, u, q, h4, h5⟩
theorem IV.sub {x y : Nat} {a b : Int} (hx : IV x a) (hy : IV y b) (h : (a - b).natAbs < 2 ^ 53) : ∃ r, double.sub x y = some r ∧ IV r (a - b) := by
  obtain ⟨s, m, ⟨_, k, h1⟩, rfl⟩ := hx
  obtain ⟨t, n, ⟨_, l, h2⟩, rfl⟩ := hy
  have h2' : (double.read y).opposite = .number (!t) (n * 2 ^ l) (-(l : Int)) := by rw [h2]; rfl
  obtain ⟨r, u, q, h3, h4, h5⟩ := sum_stands h1 h2' (by rw [iv_neg]; exact h)
  exact ⟨r, h3, u, q, h4, by rw [h5, iv_neg]; rfl⟩
theorem IV.toInt {x : Nat} {z : Int} (hx : IV x z) {k : IntKind} (hk : k.min ≤ z ∧ z ≤ k.max) : floatToIntVal .f64 x k = some z := by
  obtain ⟨s, m, ⟨_, l, h1⟩, rfl⟩ := hx
  have key : (FloatKind.f64.decode x).toInt .zero = some (iv s m) := by
    show (double.read x).toInt .zero = _
    rw [h1]
    unfold Datum.toInt Datum.integral
    have e0 : ((-(l : Int)).toNat) = 0 := by omega
    have e1 : (- -(l : Int)).toNat = l := by omega
    simp only [e0, e1, Nat.shiftLeft_zero]
    have hc : Toward.zero.cut s (m * 2 ^ l) l = m := by
      unfold Toward.cut
      by_cases hm : m = 0
      · subst hm; simp
      · have hle : l ≤ (m * 2 ^ l).log2 + 2 := by rw [log2_shift hm]; omega
        rw [Nat.min_eq_left hle, Nat.shiftLeft_eq, Nat.one_mul]
        simp only [Nat.mul_div_cancel _ (Nat.pow_pos (by decide : 0 < 2)), Bool.toNat_false, Nat.add_zero]
    rw [hc, signed_iv]
    simp
  unfold floatToIntVal
  rw [key]
  simp only
  rw [if_pos hk]
/-- The product of two complex numbers of whole parts. -/
theorem cmul_ok {a b c d : Nat} {p q r s : Int} (ha : IV a p) (hb : IV b q) (hc : IV c r) (hd : IV d s) (hp : p.natAbs ≤ 1000000) (hq : q.natAbs ≤ 1000000) (hr : r.natAbs ≤ 1) (hs : s.natAbs ≤ 1) :
    ∃ x y, cmulB a b c d = some (x, y) ∧ IV x (p * r - q * s) ∧ IV y (p * s + q * r) := by
  have hpow : (2 : Nat) ^ 53 = 9007199254740992 := by decide
  have small : ∀ u v : Int, u.natAbs ≤ 1000000 → v.natAbs ≤ 1 → (u * v).natAbs ≤ 1000000 := by
    intro u v hu hv
    rw [Int.natAbs_mul]
    exact Nat.le_trans (Nat.mul_le_mul hu hv) (by decide)
  have s1 := small p r hp hr
  have s2 := small q s hq hs
  have s3 := small p s hp hs
  have s4 := small q r hq hr
  obtain ⟨x1, e1, i1⟩ := IV.mul ha hc (by omega)
  obtain ⟨x2, e2, i2⟩ := IV.mul hb hd (by omega)
  obtain ⟨x3, e3, i3⟩ := IV.sub i1 i2 (by omega)
  obtain ⟨x4, e4, i4⟩ := IV.mul ha hd (by omega)
  obtain ⟨x5, e5, i5⟩ := IV.mul hb hc (by omega)
  obtain ⟨x6, e6, i6⟩ := IV.add i4 i5 (by omega)
  exact ⟨x3, x6, by unfold cmulB; rw [e1]; simp only [Option.bind_some]; rw [e2]; simp only [Option.bind_some]; rw [e3]; simp only [Option.bind_some]; rw [e4]; simp only [Option.bind_some]; rw [e5]; simp only [Option.bind_some]; rw [e6]; rfl, i3, i6⟩
end Go.VL

end
section
/- Ways, and vectors turned, plainly. -/
namespace Go.Proofs.Ytpkampecmlpfmaa.T
open Go Go.VL Go.Proofs
def maxTwist : Int := 4611686018427387903
def dg (a i : Nat) : Nat := a / 4 ^ i % 4
theorem dg_lt (a i : Nat) : dg a i < 4 := Nat.mod_lt _ (by decide)
/-- Digit by digit. -/
def mapW (f : Nat → Nat → Nat) : Nat → Nat → Nat → Nat
  | 0, _, _ => 0
  | n + 1, a, b => 4 * mapW f n (a / 4) (b / 4) + f (a % 4) (b % 4) % 4
def lowN : Nat → Nat
  | 0 => 0
  | n + 1 => 4 * lowN n + 1
theorem xor4 (a d b e : Nat) (hd : d < 4) (he : e < 4) : (4 * a + d) ^^^ (4 * b + e) = 4 * (a ^^^ b) + (d ^^^ e) := by
  have hde : d ^^^ e < 2 ^ 2 := Nat.xor_lt_two_pow (by omega) (by omega)
  apply Nat.eq_of_testBit_eq
  intro i
  have key : ∀ x y, y < 4 → ∀ i, (4 * x + y).testBit i = if i < 2 then y.testBit i else x.testBit (i - 2) := by
    intro x y hy i
    have := Nat.testBit_two_pow_mul_add x (i := 2) (b := y) (by omega) i
    simpa using this
  rw [Nat.testBit_xor, key a d hd, key b e he, key _ _ (by omega)]
  split <;> simp [Nat.testBit_xor]
theorem and4 (a d b e : Nat) (hd : d < 4) (he : e < 4) : (4 * a + d) &&& (4 * b + e) = 4 * (a &&& b) + (d &&& e) := by
  have hde : d &&& e < 2 ^ 2 := Nat.and_lt_two_pow _ (by omega)
  apply Nat.eq_of_testBit_eq
  intro i
  have key : ∀ x y, y < 4 → ∀ i, (4 * x + y).testBit i = if i < 2 then y.testBit i else x.testBit (i - 2) := by
    intro x y hy i
    have := Nat.testBit_two_pow_mul_add x (i := 2) (b := y) (by omega) i
    simpa using this
  rw [Nat.testBit_and, key a d hd, key b e he, key _ _ (by omega)]
  split <;> simp [Nat.testBit_and]
def neg4 (d _e : Nat) : Nat := 4 - d
theorem not_bits : ∀ (n a : Nat), a < 4 ^ n → a ^^^ ((a &&& lowN n) * 2) = mapW neg4 n a 0
  | 0, a, h => by simp at h; subst h; rfl
  | n + 1, a, h => by
    rw [Nat.pow_succ] at h
    have ih := not_bits n (a / 4) (by omega)
    have ea : a = 4 * (a / 4) + a % 4 := by omega
    have hd : a % 4 < 4 := by omega
    generalize a / 4 = b at *
    generalize a % 4 = d at *
    subst ea
    rw [lowN, and4 b d (lowN n) 1 hd (by omega)]
    have h1 : d &&& 1 = d % 2 := Nat.and_one_is_mod d
    rw [h1, show (4 * (b &&& lowN n) + d % 2) * 2 = 4 * ((b &&& lowN n) * 2) + (d % 2) * 2 by omega, xor4 b d _ _ hd (by omega), ih]
    rw [mapW, show (4 * b + d) / 4 = b by omega, show (4 * b + d) % 4 = d by omega]
    congr 1
    have : d = 0 ∨ d = 1 ∨ d = 2 ∨ d = 3 := by omega
    rcases this with rfl | rfl | rfl | rfl <;> rfl
theorem low31 : lowN 31 = 1537228672809129301 := by decide
theorem abits_i64_xor {x y : Nat} (hx : x < 2 ^ 62) (hy : y < 2 ^ 62) : abits .xor .i64 x y = ((x ^^^ y : Nat) : Int) := by
  have hlt : x ^^^ y < 2 ^ 62 := Nat.xor_lt_two_pow hx hy
  show IntKind.i64.wrap (((BitVec.ofInt 64 (x : Int)) ^^^ (BitVec.ofInt 64 (y : Int)) : BitVec 64).toNat : Int) = _
  rw [BitVec.ofInt_natCast, BitVec.ofInt_natCast, BitVec.toNat_xor, BitVec.toNat_ofNat, BitVec.toNat_ofNat, Nat.mod_eq_of_lt (by omega), Nat.mod_eq_of_lt (by omega)]
  exact IntWalk.i64_in _ (by omega)
theorem abits_i64_and {x y : Nat} (hx : x < 2 ^ 62) (hy : y < 2 ^ 62) : abits .and .i64 x y = ((x &&& y : Nat) : Int) := by
  have hlt : x &&& y < 2 ^ 62 := Nat.and_lt_two_pow _ hy
  show IntKind.i64.wrap (((BitVec.ofInt 64 (x : Int)) &&& (BitVec.ofInt 64 (y : Int)) : BitVec 64).toNat : Int) = _
  rw [BitVec.ofInt_natCast, BitVec.ofInt_natCast, BitVec.toNat_and, BitVec.toNat_ofNat, BitVec.toNat_ofNat, Nat.mod_eq_of_lt (by omega), Nat.mod_eq_of_lt (by omega)]
  exact IntWalk.i64_in _ (by omega)
def wayErr (a : Int) : Int := if 0 ≤ a ∧ a ≤ maxTwist then 0 else 1
def notW (a : Int) : Int := (mapW neg4 31 a.toNat 0 : Nat)
theorem pow31 : (4 : Nat) ^ 31 = 2 ^ 62 := by decide
theorem low_double {x : Nat} : (x &&& 1537228672809129301) * 2 < 2 ^ 62 := by
  have : x &&& 1537228672809129301 ≤ 1537228672809129301 := Nat.and_le_right
  omega
theorem not_run {a : Int} (h : 0 ≤ a ∧ a ≤ maxTwist) : abits .xor .i64 a (IntKind.i64.wrap (abits .and .i64 a 1537228672809129301 * 2)) = notW a := by
  unfold maxTwist at h
  obtain ⟨n, rfl⟩ : ∃ n : Nat, a = n := ⟨a.toNat, by omega⟩
  have hn : n < 2 ^ 62 := by omega
  have e : (1537228672809129301 : Int) = ((1537228672809129301 : Nat) : Int) := rfl
  rw [e, abits_i64_and hn (by omega)]
  have h2 := low_double (x := n)
  have e2 : IntKind.i64.wrap (((n &&& 1537228672809129301 : Nat) : Int) * 2) = (((n &&& 1537228672809129301) * 2 : Nat) : Int) := by
    rw [IntWalk.i64_in _ (by omega)]; rfl
  rw [e2, abits_i64_xor hn h2, ← low31, not_bits 31 n (by rw [pow31]; exact hn)]
  rfl
-- turning
def cs (d : Nat) : Int := if d = 0 then 1 else if d = 2 then -1 else 0
def sn (d : Nat) : Int := if d = 1 then 1 else if d = 3 then -1 else 0
def rx (d : Nat) (x y : Int) : Int := x * cs d - y * sn d
def ry (d : Nat) (x y : Int) : Int := x * sn d + y * cs d
def turnAt (v : List Int) (w i : Nat) : Int :=
  if i < 62 ∧ i / 2 * 2 + 1 < v.length then
    (if i % 2 = 0 then rx (dg w (i / 2)) (v.getD i 0) (v.getD (i + 1) 0) else ry (dg w (i / 2)) (v.getD (i - 1) 0) (v.getD i 0))
  else v.getD i 0
def turnL (v : List Int) (w : Nat) : List Int := (List.range v.length).map (turnAt v w)
def turnErr (v : List Int) (w : Int) : Int := if vecErr v = 0 ∧ 0 ≤ w ∧ w ≤ maxTwist then 0 else 1
def turnOut (v : List Int) (w : Int) : List Int := if turnErr v w = 0 then turnL v w.toNat else []
theorem turnL_length {v : List Int} {w : Nat} : (turnL v w).length = v.length := by simp [turnL]
theorem turnL_getD {v : List Int} {w i : Nat} (h : i < v.length) : (turnL v w).getD i 0 = turnAt v w i := getD_map_range h
theorem rot_cases {d : Nat} (hd : d < 4) (x y : Int) : (d = 0 ∧ rx d x y = x ∧ ry d x y = y) ∨ (d = 1 ∧ rx d x y = -y ∧ ry d x y = x) ∨ (d = 2 ∧ rx d x y = -x ∧ ry d x y = -y) ∨ (d = 3 ∧ rx d x y = y ∧ ry d x y = -x) := by
  have : d = 0 ∨ d = 1 ∨ d = 2 ∨ d = 3 := by omega
  rcases this with rfl | rfl | rfl | rfl <;> simp [rx, ry, cs, sn]
theorem rot_range {d : Nat} (hd : d < 4) {x y : Int} (hx : -32767 ≤ x ∧ x ≤ 32767) (hy : -32767 ≤ y ∧ y ≤ 32767) : (-32767 ≤ rx d x y ∧ rx d x y ≤ 32767) ∧ (-32767 ≤ ry d x y ∧ ry d x y ≤ 32767) := by
  rcases rot_cases hd x y with ⟨_, h1, h2⟩ | ⟨_, h1, h2⟩ | ⟨_, h1, h2⟩ | ⟨_, h1, h2⟩ <;> omega
theorem turnAt_range {v : List Int} (h : ∀ i, -32767 ≤ v.getD i 0 ∧ v.getD i 0 ≤ 32767) (w i : Nat) : -32767 ≤ turnAt v w i ∧ turnAt v w i ≤ 32767 := by
  unfold turnAt
  split
  · split
    · exact (rot_range (dg_lt _ _) (h _) (h _)).1
    · exact (rot_range (dg_lt _ _) (h _) (h _)).2
  · exact h i
theorem vecOk_getD {v : List Int} (hv : I16s v) (h : vecOk v = true) (i : Nat) : -32767 ≤ v.getD i 0 ∧ v.getD i 0 ≤ 32767 := by
  obtain ⟨_, _, h3⟩ := vecOk_iff.1 h
  have h1 := hv.getD i
  by_cases hi : i < v.length
  · have := h3 _ (getD_mem (d := 0) hi); omega
  · rw [show v.getD i 0 = 0 by simp [List.getD, List.getElem?_eq_none (show v.length ≤ i by omega)]]; omega
theorem turnL_ok {v : List Int} (hv : I16s v) (h : vecOk v = true) (w : Nat) : vecOk (turnL v w) = true ∧ I16s (turnL v w) := by
  obtain ⟨h1, h2, _⟩ := vecOk_iff.1 h
  have hr := turnAt_range (vecOk_getD hv h) w
  constructor
  · rw [vecOk_iff, turnL_length]
    refine ⟨h1, h2, fun x hx => ?_⟩
    obtain ⟨i, _, rfl⟩ := List.mem_map.1 hx
    exact (hr i).1
  · intro x hx
    obtain ⟨i, _, rfl⟩ := List.mem_map.1 hx
    have := hr i
    omega
end Go.Proofs.Ytpkampecmlpfmaa.T

end
section
set_option linter.unusedSimpArgs false
set_option linter.unusedVariables false
/- Ways and turned vectors, walked. -/
namespace Go.Proofs.Ytpkampecmlpfmaa.T
open Go Go.VL Go.Proofs
set_option maxRecDepth 100000
set_option maxHeartbeats 4000000
theorem ofVal_cx {k : FloatKind} {a b : Nat} : D.ofVal (.complex k a b) = .v (.complex k a b) := (rfl)
theorem way_odd {a : Int} (h : ¬ (0 ≤ a ∧ a ≤ maxTwist)) : wayErr a = 1 := if_neg h
theorem way_even {a : Int} (h : 0 ≤ a ∧ a ≤ maxTwist) : wayErr a = 0 := if_pos h

theorem odd_fun (a : Int) : Fun Try.prog 128 [.v (.int .i64 a)] fun r => r = .v (.bool (decide (wayErr a ≠ 0))) := by
  refine Fun.of_awpI Try.func128 rfl cal128 Try.ntmps128 (by simp) fun hwf => ?_
  simp only [D.wfs, D.wf, ints_length, ints_wfs, rows_length, rows_wfs, capMax, and_true, true_and] at hwf
  repeat' (first | simp only [go_sem, Ret_eq Try.results128] | (with_reducible refine condI_dec (fun hq hqb => ?_) (fun hq hqb => ?_) <;> simp only [KP_mk, hqb]) | fail)
  all_goals
    unfold wayErr maxTwist
    first
    | (rw [if_pos (by omega)]; rfl)
    | (rw [if_neg (by omega)]; rfl)
    | (split <;> simp <;> omega)
def oneW : Nat := 4607182418800017408
def U : Nat → Nat × Nat
  | 0 => (oneW, 0)
  | k + 1 => (cmulB (U k).1 (U k).2 0 oneW).getD (0, 0)
theorem iv_one : IV oneW 1 := by
  have := IV.nearest (z := 1) (by decide)
  rwa [show FloatKind.f64.nearest 1 = oneW by decide +kernel] at this
theorem iv_zero : IV 0 0 := by
  have := IV.nearest (z := 0) (by decide)
  rwa [show FloatKind.f64.nearest 0 = 0 by decide +kernel] at this
theorem U_ok : ∀ k, k < 4 → IV (U k).1 (cs k) ∧ IV (U k).2 (sn k)
  | 0, _ => ⟨iv_one, iv_zero⟩
  | k + 1, h => by
    obtain ⟨h1, h2⟩ := U_ok k (by omega)
    have c1 : (cs k).natAbs ≤ 1000000 := by unfold cs; split <;> (try split) <;> decide
    have c2 : (sn k).natAbs ≤ 1000000 := by unfold sn; split <;> (try split) <;> decide
    obtain ⟨x, y, e, i1, i2⟩ := cmul_ok h1 h2 iv_zero iv_one c1 c2 (by decide) (by decide)
    have e1 : U (k + 1) = (x, y) := by show (cmulB _ _ _ _).getD _ = _; rw [e]; rfl
    rw [e1]
    have : k = 0 ∨ k = 1 ∨ k = 2 := by omega
    rcases this with rfl | rfl | rfl <;> exact ⟨i1, i2⟩
theorem U_step {k : Nat} (h : k < 4) : cmulB (U k).1 (U k).2 0 oneW = some (U (k + 1)) := by
  obtain ⟨h1, h2⟩ := U_ok k (by omega)
  have c1 : (cs k).natAbs ≤ 1000000 := by unfold cs; split <;> (try split) <;> decide
  have c2 : (sn k).natAbs ≤ 1000000 := by unfold sn; split <;> (try split) <;> decide
  obtain ⟨x, y, e, i1, i2⟩ := cmul_ok h1 h2 iv_zero iv_one c1 c2 (by decide) (by decide)
  have e1 : U (k + 1) = (x, y) := by show (cmulB _ _ _ _).getD _ = _; rw [e]; rfl
  rw [e1, e]

theorem unit_fun (d : Nat) (hd : d < 4) : Fun Try.prog 130 [.v (.int .i64 d)] fun r => r = .v (.complex .f64 (U d).1 (U d).2) := by
  refine Fun.of_awpI Try.func130 rfl cal130 Try.ntmps130 (by simp) fun hwf => ?_
  simp only [D.wfs, D.wf, ints_length, ints_wfs, rows_length, rows_wfs, capMax, and_true, true_and] at hwf
  repeat' (first | simp only [go_sem, ofVal_cx, Ret_eq Try.results130] | fail)
  refine awpI_for d (fun k => True) (fun k => [(3, .v (.complex .f64 (U k).1 (U k).2)), (5, .v (.int .i64 k))]) (fun _ => []) [4] [] _ (Weak.refl _) trivial ?_ ?_ ?_
  · simp only [go_sem, Ret_eq Try.results130]
    rfl
  · simp only [go_sem, Ret_eq Try.results130]
  · intro k s hk _ hs
    simp only [go_sem, Ret_eq Try.results130] at hs
    by_cases hka : k < d
    · have e := U_step (k := k) (by omega)
      unfold oneW at e
      repeat' (first | simp only [go_sem, hs, e, ofVal_cx, Ret_eq Try.results130] | simp (disch := omega) only [arith, IntKind.bits, capMax, fill_len, elt_fill] | (refine Again.up (by omega) ?_ ?_) | fail)
    · obtain rfl : k = d := by omega
      repeat' (first | simp only [go_sem, hs, ofVal_cx, Ret_eq Try.results130] | simp (disch := omega) only [arith, IntKind.bits, capMax, fill_len, elt_fill] | fail)
theorem wayErr_zero {a : Int} (h : wayErr a = 0) : 0 ≤ a ∧ a ≤ maxTwist := by
  unfold wayErr at h
  split at h
  · assumption
  · cases h
theorem wayErr_one {a : Int} (h : wayErr a ≠ 0) : wayErr a = 1 := way_odd fun h' => h (way_even h')
def notOut (a : Int) : Int := if wayErr a = 0 then notW a else 0
theorem notOut_ok {a : Int} (h : wayErr a = 0) : notOut a = notW a := if_pos h
theorem notOut_bad {a : Int} (h : wayErr a ≠ 0) : notOut a = 0 := if_neg h

theorem not_fun (a : Int) : Fun Try.prog 118 [.v (.int .i64 a)] fun r => r = .tup [.v (.int .i64 (notOut a)), .v (.int .i64 (wayErr a))] := by
  refine Fun.of_awpI Try.func118 rfl cal118 Try.ntmps118 (by simp) fun hwf => ?_
  simp only [D.wfs, D.wf, ints_length, ints_wfs, rows_length, rows_wfs, capMax, and_true, true_and] at hwf
  by_cases h : wayErr a = 0
  · have e := not_run (wayErr_zero h)
    rw [h, notOut_ok h]
    repeat' (first | simp only [go_sem, h, e, Ret_eq Try.results118] | simp (disch := omega) only [arith, IntKind.bits, capMax, fill_len, elt_fill] | (refine opCallI_rd (by simp only [go_sem, h, e, Ret_eq Try.results118]; first | done | rfl) (odd_fun a) (by rintro _ rfl; rfl) ?_; rintro _ rfl) | fail)
  · have h1 := wayErr_one h
    rw [h1, notOut_bad h]
    repeat' (first | simp only [go_sem, h1, Ret_eq Try.results118] | simp (disch := omega) only [arith, IntKind.bits, capMax, fill_len, elt_fill] | (refine opCallI_rd (by simp only [go_sem, h1, Ret_eq Try.results118]; first | done | rfl) (odd_fun a) (by rintro _ rfl; rfl) ?_; rintro _ rfl) | fail)
    all_goals rfl
end Go.Proofs.Ytpkampecmlpfmaa.T

end
section
set_option linter.unusedSimpArgs false
set_option linter.unusedVariables false
/- Vectors turned, walked. -/
namespace Go.Proofs.Ytpkampecmlpfmaa.T
open Go Go.VL Go.Proofs
set_option maxRecDepth 100000
set_option maxHeartbeats 4000000
/-- The first k pairs turned. -/
def outK (v : List Int) (w k : Nat) : List Int := (List.range v.length).map fun i => if i < 2 * k then turnAt v w i else v.getD i 0
theorem outK_length {v : List Int} {w k : Nat} : (outK v w k).length = v.length := by simp [outK]
theorem outK_getD {v : List Int} {w k i : Nat} (h : i < v.length) : (outK v w k).getD i 0 = if i < 2 * k then turnAt v w i else v.getD i 0 := getD_map_range h
theorem outK_zero {v : List Int} {w : Nat} : outK v w 0 = v := by
  refine ext_getD (d := 0) outK_length fun i hi => ?_
  rw [outK_length] at hi
  rw [outK_getD hi, if_neg (by omega)]
theorem outK_end {v : List Int} {w k : Nat} (h : k = 31 ∨ ¬ 2 * k + 1 < v.length) : outK v w k = turnL v w := by
  refine ext_getD (d := 0) (by rw [outK_length, turnL_length]) fun i hi => ?_
  rw [outK_length] at hi
  rw [outK_getD hi, turnL_getD hi]
  split
  · rfl
  · unfold turnAt
    rw [if_neg (by omega)]
theorem getD_set {l : List Int} {i j : Nat} {x d : Int} (h : i < l.length) : (l.set j x).getD i d = if i = j then x else l.getD i d := by
  by_cases hij : i = j
  · subst hij; simp [List.getD, h]
  · rw [if_neg hij]; simp [List.getD, List.getElem?_set_ne (Ne.symm hij)]
theorem turnAt_even {v : List Int} {w k : Nat} (h : 2 * k + 1 < v.length) (hk : k < 31) : turnAt v w (2 * k) = rx (dg w k) (v.getD (2 * k) 0) (v.getD (2 * k + 1) 0) := by
  unfold turnAt
  rw [show 2 * k / 2 = k by omega, if_pos (by omega), if_pos (by omega)]
theorem turnAt_odd {v : List Int} {w k : Nat} (h : 2 * k + 1 < v.length) (hk : k < 31) : turnAt v w (2 * k + 1) = ry (dg w k) (v.getD (2 * k) 0) (v.getD (2 * k + 1) 0) := by
  unfold turnAt
  rw [show (2 * k + 1) / 2 = k by omega, if_pos (by omega), if_neg (by omega), show 2 * k + 1 - 1 = 2 * k by omega]
theorem outK_succ {v : List Int} {w k : Nat} (h : 2 * k + 1 < v.length) (hk : k < 31) :
    ((outK v w k).set (2 * k) (rx (dg w k) (v.getD (2 * k) 0) (v.getD (2 * k + 1) 0))).set (2 * k + 1) (ry (dg w k) (v.getD (2 * k) 0) (v.getD (2 * k + 1) 0)) = outK v w (k + 1) := by
  refine ext_getD (d := 0) (by simp [outK_length]) fun i hi => ?_
  rw [List.length_set, List.length_set, outK_length] at hi
  rw [getD_set (by simp [outK_length]; omega), getD_set (by rw [outK_length]; omega), outK_getD hi, outK_getD hi]
  by_cases h1 : i = 2 * k + 1
  · subst h1; rw [if_pos rfl, if_pos (by omega), turnAt_odd h hk]
  · rw [if_neg h1]
    by_cases h2 : i = 2 * k
    · subst h2; rw [if_pos rfl, if_pos (by omega), turnAt_even h hk]
    · rw [if_neg h2]
      by_cases h3 : i < 2 * k
      · rw [if_pos h3, if_pos (by omega)]
      · rw [if_neg h3, if_neg (by omega)]
theorem outK_here {v : List Int} {w k : Nat} (h : 2 * k + 1 < v.length) : (outK v w k).getD (2 * k) 0 = v.getD (2 * k) 0 ∧ (outK v w k).getD (2 * k + 1) 0 = v.getD (2 * k + 1) 0 :=
  ⟨by rw [outK_getD (by omega), if_neg (by omega)], by rw [outK_getD h, if_neg (by omega)]⟩
theorem turnErr_iff {v : List Int} {w : Int} : turnErr v w = 0 ↔ vecErr v = 0 ∧ 0 ≤ w ∧ w ≤ maxTwist := by
  unfold turnErr
  split
  · exact ⟨fun _ => by assumption, fun _ => rfl⟩
  · constructor
    · intro h; cases h
    · intro h; contradiction
theorem turnErr_bad {v : List Int} {w : Int} (h : ¬ (vecErr v = 0 ∧ 0 ≤ w ∧ w ≤ maxTwist)) : turnErr v w = 1 := if_neg h
theorem turnOut_bad {v : List Int} {w : Int} (h : ¬ (vecErr v = 0 ∧ 0 ≤ w ∧ w ≤ maxTwist)) : turnOut v w = [] := by
  unfold turnOut
  rw [turnErr_bad h]; rfl
theorem turnOut_ok {v : List Int} {w : Int} (h : vecErr v = 0 ∧ 0 ≤ w ∧ w ≤ maxTwist) : turnOut v w = turnL v w.toNat := by
  unfold turnOut
  rw [turnErr_iff.2 h]; rfl
theorem dig_run {w k : Nat} (hw : w < 2 ^ 62) : abits .and .i64 ((w : Int).fdiv (2 ^ (2 * k))) 3 = (dg w k : Nat) := by
  have e1 : ((w : Int).fdiv (2 ^ (2 * k))) = ((w / 2 ^ (2 * k) : Nat) : Int) := by
    rw [Int.fdiv_eq_ediv_of_nonneg _ (Int.le_of_lt (Int.pow_pos (by decide)))]
    rw [show ((2 : Int) ^ (2 * k)) = ((2 ^ (2 * k) : Nat) : Int) by norm_cast]
    rfl
  have h1 : w / 2 ^ (2 * k) < 2 ^ 62 := Nat.lt_of_le_of_lt (Nat.div_le_self _ _) hw
  rw [e1, show (3 : Int) = ((3 : Nat) : Int) from rfl, abits_i64_and h1 (by decide)]
  unfold dg
  rw [show (3 : Nat) = 2 ^ 2 - 1 by decide, Nat.and_two_pow_sub_one_eq_mod, show (4 : Nat) ^ k = 2 ^ (2 * k) by rw [Nat.pow_mul]]
/-- What a pair's turn is as numbers. -/
theorem rot_run {d : Nat} (hd : d < 4) {x y : Int} (hx : -32767 ≤ x ∧ x ≤ 32767) (hy : -32767 ≤ y ∧ y ≤ 32767) :
    ∃ p q, cmulB (FloatKind.f64.nearest x) (FloatKind.f64.nearest y) (U d).1 (U d).2 = some (p, q) ∧ floatToIntVal .f64 p .i16 = some (rx d x y) ∧ floatToIntVal .f64 q .i16 = some (ry d x y) := by
  obtain ⟨i1, i2⟩ := U_ok d hd
  have c1 : (cs d).natAbs ≤ 1 := by unfold cs; split <;> (try split) <;> decide
  have c2 : (sn d).natAbs ≤ 1 := by unfold sn; split <;> (try split) <;> decide
  obtain ⟨p, q, e, j1, j2⟩ := cmul_ok (IV.nearest (z := x) (by omega)) (IV.nearest (z := y) (by omega)) i1 i2 (by omega) (by omega) c1 c2
  obtain ⟨⟨r1, r2⟩, ⟨r3, r4⟩⟩ := rot_range hd hx hy
  have m1 : IntKind.i16.min = -32768 := by decide
  have m2 : IntKind.i16.max = 32767 := by decide
  exact ⟨p, q, e, j1.toInt (k := .i16) (by rw [m1, m2]; unfold rx at r1 r2; omega), j2.toInt (k := .i16) (by rw [m1, m2]; unfold ry at r3 r4; omega)⟩

theorem clone16_fun (v : List Int) (hb : v.length ≤ 500) (h : 1 ≤ v.length) : FunO Try.prog 129 [.lst (ints .i16 v)] fun r o => r = .ref 0 v.length ∧ o = some ⟨23, 1, ints .i16 v⟩ := by
  refine FunO.of_awpI Try.func129 rfl cal129 Try.ntmps129 (by simp) fun hwf => ?_
  simp only [D.wfs, D.wf, ints_length, ints_wfs, rows_length, rows_wfs, capMax, and_true, true_and] at hwf
  simp only [go_sem, Ret_eq Try.results129]
  refine opBinI_isNil (by simp only [factsT46]) fun c hc => ?_
  rw [ints_isNil] at hc
  simp only [go_sem, Ret_eq Try.results129]
  refine condI_split (fun h => ?_) (fun h => ?_)
  · have hb := hc h
    subst hb
    simp at h
  · repeat' (first | simp only [go_sem, h, Ret_eq Try.results129] | simp (disch := omega) only [arith, IntKind.bits, capMax, fill_len, elt_fill] | refine RetO_calc Try.results129 ?_ | fail)

theorem turn_own (v : List Int) (w : Int) (hv : I16s v) : FunO Try.prog 69 [.lst (ints .i16 v), .v (.int .i64 w)] fun r o =>
    (turnErr v w ≠ 0 ∧ r = .tup [.v (.slice none 0 0), .v (.int .i64 (turnErr v w))] ∧ o = none) ∨
    (turnErr v w = 0 ∧ r = .tup [.ref 0 v.length, .v (.int .i64 0)] ∧ o = some ⟨23, 1, ints .i16 (turnL v w.toNat)⟩) := by
  refine FunO.of_awpI Try.func69 rfl cal69 Try.ntmps69 (by simp) fun hwf => ?_
  simp only [D.wfs, D.wf, ints_length, ints_wfs, rows_length, rows_wfs, capMax, and_true, true_and] at hwf
  by_cases hok : vecErr v = 0 ∧ 0 ≤ w ∧ w ≤ maxTwist
  · obtain ⟨q0, q1, q2⟩ := hok
    obtain ⟨q3, q4, q5⟩ := vecOk_iff.1 (vecErr_zero.1 q0)
    have hE : turnErr v w = 0 := turnErr_iff.2 ⟨q0, q1, q2⟩
    have hW := way_even ⟨q1, q2⟩
    have hrange := vecOk_getD hv (vecErr_zero.1 q0)
    obtain ⟨w, rfl⟩ : ∃ n : Nat, w = n := ⟨w.toNat, by omega⟩
    have hw62 : w < 2 ^ 62 := by unfold maxTwist at q2; omega
    clear q5
    repeat' (first | simp only [go_sem, q0, hW, Ret_eq Try.results69] | simp (disch := omega) only [arith, IntKind.bits, capMax, fill_len, elt_fill] | (refine opCallI_rd (by simp only [go_sem, q0, hW, Ret_eq Try.results69]; first | done | rfl) (vecCheck_fun v) (by rintro _ rfl; rfl) ?_; rintro _ rfl) | (refine opCallI_rd (by simp only [go_sem, q0, hW, Ret_eq Try.results69]; first | done | rfl) (odd_fun w) (by rintro _ rfl; rfl) ?_; rintro _ rfl) | (refine opCallI_ownGv (by simp only [go_sem, q0, hW, Ret_eq Try.results69]; first | done | rfl) (clone16_fun v (by omega) (by omega)) ?_; rintro _ _ ⟨rfl, rfl⟩) | fail)
    refine awpI_for 31 (fun k => True) (fun k => [(7, .v (.int .i64 k))]) (fun k => [(17, ⟨23, 1, ints .i16 (outK v w k)⟩)]) [1, 6] [] _ (Weak.refl _) trivial ?_ ?_ ?_
    · simp only [go_sem, Ret_eq Try.results69]
    · simp only [go_sem, Ret_eq Try.results69]
      rw [outK_zero]
    · intro k s hk hQ hs
      simp only [go_sem, Ret_eq Try.results69] at hs
      have hlen : (outK v w k).length = v.length := outK_length
      by_cases hka : k < 31
      · by_cases hkb : 2 * k + 1 < v.length
        · obtain ⟨g1, g2⟩ := outK_here (w := w) hkb
          obtain ⟨p, q, e1, e2, e3⟩ := rot_run (dg_lt w k) (hrange (2 * k)) (hrange (2 * k + 1))
          have e4 := dig_run (k := k) hw62
          have e5 := outK_succ (w := w) hkb hka
          have hlen2 : ((outK v w k).set (2 * k) (rx (dg w k) (v.getD (2 * k) 0) (v.getD (2 * k + 1) 0))).length = v.length := by rw [List.length_set, hlen]
          have t1 : (2 * (k : Int)).toNat = 2 * k := by omega
          have t2 : (2 * (k : Int) + 1).toNat = 2 * k + 1 := by omega
          repeat' (first | simp only [go_sem, hs, t1, t2, e4, g1, g2, e1, e2, e3, e5, List.length_set, hlen, Ret_eq Try.results69] | simp (disch := omega) only [arith, IntKind.bits, capMax, fill_len, elt_fill] | (refine awpI_draw2 (id := 7) (.one false 14 (.one false 15 (.one false 16 (.one false 17 (.one false 18 (.cal 0 [19] (.cal 1 [19] (.cal 2 [19] (.cal 3 [19] (.cal 4 [19] (.cal 5 [19] (.cal 6 [19] (.cal 7 [19] (.cal 8 [19] (.cal 9 [19] (.cal 10 [19] (.cal 11 [19] (.cal 12 [19] (.cal 13 [19] (.only 19 (.one false 20 (.one false 21 .done)))))))))))))))))))))) mixed (by decide +kernel) (by decide +kernel) ?_) | (refine Again.up (by omega) ?_ ?_) | (refine opCallI_rd (by simp only [go_sem, hs, t1, t2, e4, g1, g2, e1, e2, e3, e5, List.length_set, hlen, Ret_eq Try.results69]; first | done | rfl) (unit_fun _ (dg_lt w k)) (by rintro _ rfl; rfl) ?_; rintro _ rfl) | fail)
        · repeat' (first | simp only [go_sem, hs, Ret_eq Try.results69] | simp (disch := omega) only [arith, IntKind.bits, capMax, fill_len, elt_fill] | refine RetO_calc Try.results69 ?_ | fail)
          rw [outK_end (.inr hkb)]
          exact .inr ⟨hE, rfl⟩
      · obtain rfl : k = 31 := by omega
        rw [outK_end (.inl rfl)] at hs
        repeat' (first | simp only [go_sem, hs, Int.cast_ofNat_Int, Ret_eq Try.results69] | simp (disch := omega) only [arith, IntKind.bits, capMax, fill_len, elt_fill] | refine RetO_calc Try.results69 ?_ | fail)
        exact .inr hE
  · have hE := turnErr_bad hok
    rw [hE]
    by_cases hv0 : vecErr v = 0
    · have hw0 : wayErr w = 1 := way_odd (fun h => hok ⟨hv0, h⟩)
      repeat' (first | simp only [go_sem, hw0, Ret_eq Try.results69] | simp (disch := omega) only [arith, IntKind.bits, capMax, fill_len, elt_fill] | refine RetO_calc Try.results69 ?_ | (refine opCallI_rd (by simp only [go_sem, hw0, Ret_eq Try.results69]; first | done | rfl) (vecCheck_fun v) (by rintro _ rfl; rfl) ?_; rintro _ rfl) | (refine opCallI_rd (by simp only [go_sem, hw0, Ret_eq Try.results69]; first | done | rfl) (odd_fun w) (by rintro _ rfl; rfl) ?_; rintro _ rfl) | fail)
      exact .inl (by decide)
    · repeat' (first | simp only [go_sem, Ret_eq Try.results69] | simp (disch := omega) only [arith, IntKind.bits, capMax, fill_len, elt_fill] | refine RetO_calc Try.results69 ?_ | (refine opCallI_rd (by simp only [go_sem, Ret_eq Try.results69]; first | done | rfl) (vecCheck_fun v) (by rintro _ rfl; rfl) ?_; rintro _ rfl) | fail)
      exact .inl (by decide)
theorem turnOut_length {v : List Int} {w : Int} (h : turnErr v w = 0) : (turnOut v w).length = v.length := by
  rw [turnOut_ok (turnErr_iff.1 h), turnL_length]
theorem turnErr_one {v : List Int} {w : Int} (h : turnErr v w ≠ 0) : turnErr v w = 1 ∧ turnOut v w = [] :=
  ⟨turnErr_bad fun h' => h (turnErr_iff.2 h'), turnOut_bad fun h' => h (turnErr_iff.2 h')⟩
theorem turn_uni (v : List Int) (w : Int) (hv : I16s v) : FunO Try.prog 69 [.lst (ints .i16 v), .v (.int .i64 w)] fun r o => r = .tup [.ref 0 (turnOut v w).length, .v (.int .i64 (turnErr v w))] ∧ o = some ⟨23, 1, ints .i16 (turnOut v w)⟩ := by
  refine (turn_own v w hv).uni 0 23 (S := 1) (by decide) ?_
  rintro r o (⟨h1, rfl, rfl⟩ | ⟨h1, rfl, rfl⟩)
  · obtain ⟨e1, e2⟩ := turnErr_one h1
    refine .inl ⟨_, rfl, rfl, rfl, ?_, ?_⟩
    · rw [e2, e1]; rfl
    · rw [e2]; rfl
  · exact .inr ⟨by rw [turnOut_length h1, h1], by rw [turnOut_ok (turnErr_iff.1 h1)]⟩
theorem turn_fun (v : List Int) (w : Int) (hv : I16s v) : Fun Try.prog 69 [.lst (ints .i16 v), .v (.int .i64 w)] fun r => r = .tup [.lst (ints .i16 (turnOut v w)), .v (.int .i64 (turnErr v w))] := by
  refine (turn_uni v w hv).toFun ?_
  rintro r o ⟨rfl, rfl⟩
  simp only [ints_nrms, ints_width1, D.frz, D.frzs, D.noRef, D.noRefs, D.nrm, D.nrms, nilV, ints_length, Nat.le_refl, ints_take, ints_noRefs, List.take_length, Bool.and_self, Bool.false_eq_true, if_true, if_false, and_self]
end Go.Proofs.Ytpkampecmlpfmaa.T

end
section
set_option linter.unusedSimpArgs false
set_option linter.unusedVariables false
/- Vectors turned back, and the chapter's example. -/
namespace Go.Proofs.Ytpkampecmlpfmaa.T
open Go Go.VL Go.Proofs
set_option maxRecDepth 100000
set_option maxHeartbeats 4000000
end Go.Proofs.Ytpkampecmlpfmaa.T

end
section
set_option linter.unusedSimpArgs false
set_option linter.unusedVariables false
/- Octets of a number, and the number of octets. -/
namespace Go.Proofs.Ytpkampecmlpfmaa.T
open Go Go.VL Go.Proofs
def val : List Int → Int
  | [] => 0
  | c :: cs => c + 256 * val cs
def Octets (l : List Int) : Prop := ∀ c ∈ l, 0 ≤ c ∧ c ≤ 255
theorem Octets.append {a b : List Int} (ha : Octets a) (hb : Octets b) : Octets (a ++ b) := fun c h => (List.mem_append.1 h).elim (ha c) (hb c)
theorem Octets.drop {a : List Int} (ha : Octets a) (n : Nat) : Octets (a.drop n) := fun c h => ha c (List.mem_of_mem_drop h)
theorem Octets.take {a : List Int} (ha : Octets a) (n : Nat) : Octets (a.take n) := fun c h => ha c (List.mem_of_mem_take h)
end Go.Proofs.Ytpkampecmlpfmaa.T

end
section
set_option linter.unusedSimpArgs false
set_option linter.unusedVariables false
/- Books, walked. -/
namespace Go.Proofs.Ytpkampecmlpfmaa.T
open Go Go.VL Go.Proofs
set_option maxRecDepth 100000
set_option maxHeartbeats 4000000
def manyOf (cuts : List (List Int)) : Nat := (cuts.getD 0 []).length
def oddCut (n : Nat) (c : List Int) : Bool := decide (c.length ≠ n) || decide (cutsErr c ≠ 0)
def bookOk (w : Int) (cuts : List (List Int)) : Prop := 1 ≤ cuts.length ∧ cuts.length ≤ 64 ∧ wayErr w = 0 ∧ cuts.any (oddCut (manyOf cuts)) = false
instance (w : Int) (cuts : List (List Int)) : Decidable (bookOk w cuts) := by unfold bookOk; infer_instance
def bookErr (w : Int) (cuts : List (List Int)) : Int := if bookOk w cuts then 0 else 1
theorem bookErr_zero {w : Int} {cuts : List (List Int)} : bookErr w cuts = 0 ↔ bookOk w cuts := by
  unfold bookErr; split
  · exact ⟨fun _ => by assumption, fun _ => rfl⟩
  · exact ⟨fun h => absurd h (by decide), fun h => by contradiction⟩
theorem bookErr_one {w : Int} {cuts : List (List Int)} (h : ¬ bookOk w cuts) : bookErr w cuts = 1 := if_neg h
theorem any_take_snoc {p : List Int → Bool} {l : List (List Int)} {k : Nat} (h : k < l.length) : (l.take (k + 1)).any p = ((l.take k).any p || p (l.getD k [])) := by
  rw [take_snoc (d := []) h, List.any_append]; simp
theorem any_of_take {p : List Int → Bool} {l : List (List Int)} {k : Nat} (h : k < l.length) (hp : p (l.getD k []) = true) : l.any p = true := by
  rw [List.any_eq_true]
  exact ⟨_, getD_mem h, hp⟩

theorem indexFunc_fun (l : List (List Int)) (p : List Int → Bool) (g : FuncId) (caps : List D) (hc1 : D.idss caps = []) (hc2 : D.noRefs caps = true) (hc3 : D.nrms caps = caps)
    (hg : ∀ c ∈ l, Fun Try.prog g (.lst (ints .i16 c) :: caps) fun r => r = .v (.bool (p c))) :
    Fun Try.prog 151 [.lst (rows .i16 l), .clos (.func g) caps] fun r => ∃ z : Int, r = .v (.int .i64 z) ∧ (0 ≤ z ↔ l.any p = true) := by
  refine Fun.of_awpI Try.func151 rfl cal151 Try.ntmps151 (by simp) fun hwf => ?_
  simp only [D.wfs, D.wf, ints_length, ints_wfs, rows_length, rows_wfs, capMax, and_true, true_and] at hwf
  repeat' (first | simp only [go_sem, Ret_eq Try.results151] | fail)
  refine awpI_for l.length (fun k => (l.take k).any p = false) (fun k => [(8, .v (.int .i64 k))]) (fun _ => []) [0, 1, 7] [] _ (Weak.refl _) (by simp) ?_ ?_ ?_
  · simp only [go_sem, Ret_eq Try.results151]
  · simp only [go_sem, Ret_eq Try.results151]
  · intro k s hk hQ hs
    simp only [go_sem, Ret_eq Try.results151] at hs
    by_cases hka : k < l.length
    · have hgk := hg _ (getD_mem (d := []) hka)
      have e := any_take_snoc (p := p) hka
      rw [hQ, Bool.false_or] at e
      have e2 := any_of_take (p := p) hka
      generalize p (l.getD k []) = b at *
      cases b
      · repeat' (first | simp only [go_sem, hs, hc1, hc2, hc3, Ret_eq Try.results151] | simp (disch := omega) only [arith, IntKind.bits, capMax, fill_len, elt_fill] | (refine Again.up (by omega) ?_ ?_) | (refine opCallI_rd (by simp only [go_sem, hs, hc1, hc2, hc3, Ret_eq Try.results151]; first | done | rfl) (hgk) (by rintro _ rfl; rfl) ?_; rintro _ rfl) | fail)
        exact e
      · repeat' (first | simp only [go_sem, hs, hc1, hc2, hc3, Ret_eq Try.results151] | simp (disch := omega) only [arith, IntKind.bits, capMax, fill_len, elt_fill] | (refine opCallI_rd (by simp only [go_sem, hs, hc1, hc2, hc3, Ret_eq Try.results151]; first | done | rfl) (hgk) (by rintro _ rfl; rfl) ?_; rintro _ rfl) | fail)
        exact ⟨_, rfl, fun _ => e2 rfl, fun _ => by omega⟩
    · obtain rfl : k = l.length := by omega
      rw [List.take_length] at hQ
      repeat' (first | simp only [go_sem, hs, Ret_eq Try.results151] | simp (disch := omega) only [arith, IntKind.bits, capMax, fill_len, elt_fill] | fail)
      exact ⟨_, rfl, fun h => absurd h (by decide), fun h => by rw [hQ] at h; cases h⟩

theorem containsFunc_fun (l : List (List Int)) (p : List Int → Bool) (g : FuncId) (caps : List D) (hc1 : D.idss caps = []) (hc2 : D.noRefs caps = true) (hc3 : D.nrms caps = caps)
    (hg : ∀ c ∈ l, Fun Try.prog g (.lst (ints .i16 c) :: caps) fun r => r = .v (.bool (p c))) :
    Fun Try.prog 119 [.lst (rows .i16 l), .clos (.func g) caps] fun r => r = .v (.bool (l.any p)) := by
  refine Fun.of_awpI Try.func119 rfl cal119 Try.ntmps119 (by simp) fun hwf => ?_
  simp only [D.wfs, D.wf, ints_length, ints_wfs, rows_length, rows_wfs, capMax, and_true, true_and] at hwf
  repeat' (first | simp only [go_sem, hc1, hc2, hc3, Ret_eq Try.results119] | (refine opCallI_gv (by simp only [go_sem, hc1, hc2, hc3, Ret_eq Try.results119]; first | done | rfl) (indexFunc_fun l p g caps hc1 hc2 hc3 hg) ?_; rintro _ ⟨z, rfl, hz⟩) | fail)
  rw [Bool.eq_iff_iff, decide_eq_true_eq]
  omega

theorem check1_fun (c : List Int) (n : Nat) : Fun Try.prog 120 [.lst (ints .i16 c), .ptr (.v (.int .i64 n))] fun r => r = .v (.bool (oddCut n c)) := by
  refine Fun.of_awpI Try.func120 rfl cal120 Try.ntmps120 (by simp) fun hwf => ?_
  simp only [D.wfs, D.wf, ints_length, ints_wfs, rows_length, rows_wfs, capMax, and_true, true_and] at hwf
  unfold oddCut
  by_cases h : c.length = n
  · repeat' (first | simp only [go_sem, Ret_eq Try.results120] | simp (disch := omega) only [arith, IntKind.bits, capMax, fill_len, elt_fill] | (refine opCallI_rd (by simp only [go_sem, Ret_eq Try.results120]; first | done | rfl) (rankCheck_fun c) (by rintro _ rfl; rfl) ?_; rintro _ rfl) | fail)
    all_goals (by_cases q : cutsErr c = 0 <;> simp [h, q])
  · repeat' (first | simp only [go_sem, Ret_eq Try.results120] | simp (disch := omega) only [arith, IntKind.bits, capMax, fill_len, elt_fill] | fail)
    all_goals (by_cases q : cutsErr c = 0 <;> simp [h, q])

theorem quantCheck_fun (w : Int) (cuts : List (List Int)) : Fun Try.prog 63 [.agg [.v (.int .i64 w), .lst (rows .i16 cuts)]] fun r => r = .v (.int .i64 (bookErr w cuts)) := by
  refine Fun.of_awpI Try.func63 rfl cal63 Try.ntmps63 (by simp) fun hwf => ?_
  simp only [D.wfs, D.wf, ints_length, ints_wfs, rows_length, rows_wfs, capMax, and_true, true_and] at hwf
  by_cases h : 1 ≤ cuts.length ∧ cuts.length ≤ 64 ∧ wayErr w = 0
  · obtain ⟨h1, h2, h3⟩ := h
    have hb : cuts.any (oddCut (manyOf cuts)) = decide (bookErr w cuts = 1) := by
      by_cases q : cuts.any (oddCut (manyOf cuts)) = true
      · rw [q, bookErr_one (fun b => by have := b.2.2.2; rw [q] at this; cases this)]; rfl
      · have q' : cuts.any (oddCut (manyOf cuts)) = false := by simpa using q
        rw [q', bookErr_zero.2 ⟨h1, h2, h3, q'⟩]; rfl
    have hg := containsFunc_fun cuts (oddCut (manyOf cuts)) 120 [.ptr (.v (.int .i64 (manyOf cuts : Nat)))] rfl rfl rfl fun c _ => check1_fun c (manyOf cuts)
    rw [hb] at hg
    have hm : manyOf cuts = (cuts.getD 0 []).length := rfl
    have hb01 : bookErr w cuts = 0 ∨ bookErr w cuts = 1 := by unfold bookErr; split <;> simp
    repeat' (first | simp only [go_sem, h3, Ret_eq Try.results63] | simp (disch := omega) only [arith, IntKind.bits, capMax, fill_len, elt_fill] | (with_reducible refine condI_dec (fun hq hqb => ?_) (fun hq hqb => ?_) <;> simp only [KP_mk, hqb]) | (refine opCallI_rd (by simp only [go_sem, h3, Ret_eq Try.results63]; first | done | rfl) (not_fun w) (by rintro _ rfl; rfl) ?_; rintro _ rfl) | (refine opCallI_rd (by simp only [go_sem, h3, Ret_eq Try.results63]; first | done | rfl) (hg) (by rintro _ rfl; rfl) ?_; rintro _ rfl) | fail)
    all_goals omega
  · have hb : bookErr w cuts = 1 := bookErr_one fun b => h ⟨b.1, b.2.1, b.2.2.1⟩
    rw [hb]
    have hw1 := wayErr_one (a := w)
    repeat' (first | simp only [go_sem, Ret_eq Try.results63] | simp (disch := omega) only [arith, IntKind.bits, capMax, fill_len, elt_fill] | (with_reducible refine condI_dec (fun hq hqb => ?_) (fun hq hqb => ?_) <;> simp only [KP_mk, hqb]) | (refine opCallI_rd (by simp only [go_sem, Ret_eq Try.results63]; first | done | rfl) (not_fun w) (by rintro _ rfl; rfl) ?_; rintro _ rfl) | fail)
    all_goals omega
theorem book_rows {w : Int} {cuts : List (List Int)} (h : bookErr w cuts = 0) : ∀ c ∈ cuts, c.length = manyOf cuts ∧ cutsErr c = 0 := by
  intro c hc
  have := (bookErr_zero.1 h).2.2.2
  rw [List.any_eq_false] at this
  have := this c hc
  unfold oddCut at this
  simpa using this
theorem book_many {w : Int} {cuts : List (List Int)} (h : bookErr w cuts = 0) : manyOf cuts ≤ 15 := by
  have h1 := (bookErr_zero.1 h).1
  have := book_rows h _ (getD_mem (d := []) (k := 0) (by omega))
  have := (cutsErr_zero.1 this.2).1
  exact this

theorem quantCells_fun (w : Int) (cuts : List (List Int)) : Fun Try.prog 64 [.agg [.v (.int .i64 w), .lst (rows .i16 cuts)]] fun r => r = .tup [.v (.int .i64 (if bookErr w cuts = 0 then manyOf cuts + 1 else 0)), .v (.int .i64 (bookErr w cuts))] := by
  refine Fun.of_awpI Try.func64 rfl cal64 Try.ntmps64 (by simp) fun hwf => ?_
  simp only [D.wfs, D.wf, ints_length, ints_wfs, rows_length, rows_wfs, capMax, and_true, true_and] at hwf
  by_cases h : bookErr w cuts = 0
  · have h1 := (bookErr_zero.1 h).1
    have hm : (cuts.getD 0 []).length = manyOf cuts := rfl
    have h2 := book_many h
    rw [if_pos h, h]
    repeat' (first | simp only [go_sem, h, hm, Ret_eq Try.results64] | simp (disch := omega) only [arith, IntKind.bits, capMax, fill_len, elt_fill] | (refine opCallI_rd (by simp only [go_sem, h, hm, Ret_eq Try.results64]; first | done | rfl) (quantCheck_fun w cuts) (by rintro _ rfl; rfl) ?_; rintro _ rfl) | fail)
  · rw [if_neg h]
    repeat' (first | simp only [go_sem, Ret_eq Try.results64] | simp (disch := omega) only [arith, IntKind.bits, capMax, fill_len, elt_fill] | (refine opCallI_rd (by simp only [go_sem, Ret_eq Try.results64]; first | done | rfl) (quantCheck_fun w cuts) (by rintro _ rfl; rfl) ?_; rintro _ rfl) | fail)
def mx (a b : Int) : Int := if b > a then b else a
def formOk (cuts : List (List Int)) (code : List Int) : Prop := code.length = cuts.length ∧ ∀ x ∈ code, x ≤ manyOf cuts
instance (cuts : List (List Int)) (code : List Int) : Decidable (formOk cuts code) := by unfold formOk; infer_instance
end Go.Proofs.Ytpkampecmlpfmaa.T

end
section
set_option linter.unusedSimpArgs false
set_option linter.unusedVariables false
/- Codes and boxes, walked. -/
namespace Go.Proofs.Ytpkampecmlpfmaa.T
open Go Go.VL Go.Proofs
set_option maxRecDepth 100000
set_option maxHeartbeats 4000000
end Go.Proofs.Ytpkampecmlpfmaa.T

end
section
set_option linter.unusedSimpArgs false
set_option linter.unusedVariables false
/- Boxes, walked. -/
namespace Go.Proofs.Ytpkampecmlpfmaa.T
open Go Go.VL Go.Proofs
set_option maxRecDepth 100000
set_option maxHeartbeats 4000000
end Go.Proofs.Ytpkampecmlpfmaa.T

end
section
/- Struct literals of the seat. -/
namespace Go.Proofs.Ytpkampecmlpfmaa.T
open Go Go.VL Go.Proofs
set_option linter.unusedVariables false
set_option maxRecDepth 100000

theorem fact_pl44 : placesT Try.prog 44 = some fun i => if i = 0 then some (0, 1) else if i = 1 then some (1, 1) else if i = 2 then some (2, 1) else none := by
  have h : ∃ fs, Try.prog.underlying 44 = some (.struct fs) ∧ fs.size = 3 ∧ ((fs[0]?).map fun f => (f.offset, Try.prog.cellsOf f.type)) = some (0, 1) ∧ ((fs[1]?).map fun f => (f.offset, Try.prog.cellsOf f.type)) = some (1, 1) ∧ ((fs[2]?).map fun f => (f.offset, Try.prog.cellsOf f.type)) = some (2, 1) := ⟨_, rfl, by kernel_rfl, by kernel_rfl, by kernel_rfl, by kernel_rfl⟩
  obtain ⟨fs, h1, h2, h3, h4, h5⟩ := h
  unfold placesT
  rw [h1]
  show (some fun (i : Nat) => (fs[i]?).map fun (f : Go.Field) => (f.offset, Try.prog.cellsOf f.type)) = _
  refine congrArg some (funext fun i => ?_)
  by_cases i0 : i = 0
  · subst i0; exact h3
  · by_cases i1 : i = 1
    · subst i1; exact h4
    · by_cases i2 : i = 2
      · subst i2; exact h5
      · rw [if_neg i0, if_neg i1, if_neg i2, Array.getElem?_eq_none (by omega)]; rfl
theorem ofVal44 : D.ofVal (Value.agg #[.int .i64 0, .slice none 0 0, .slice none 0 0]) = .agg [.v (.int .i64 0) , .v (.slice none 0 0) , .v (.slice none 0 0)] := (rfl)
theorem fact_pl45 : placesT Try.prog 45 = some fun i => if i = 0 then some (0, 1) else if i = 1 then some (1, 1) else if i = 2 then some (2, 1) else none := by
  have h : ∃ fs, Try.prog.underlying 45 = some (.struct fs) ∧ fs.size = 3 ∧ ((fs[0]?).map fun f => (f.offset, Try.prog.cellsOf f.type)) = some (0, 1) ∧ ((fs[1]?).map fun f => (f.offset, Try.prog.cellsOf f.type)) = some (1, 1) ∧ ((fs[2]?).map fun f => (f.offset, Try.prog.cellsOf f.type)) = some (2, 1) := ⟨_, rfl, by kernel_rfl, by kernel_rfl, by kernel_rfl, by kernel_rfl⟩
  obtain ⟨fs, h1, h2, h3, h4, h5⟩ := h
  unfold placesT
  rw [h1]
  show (some fun (i : Nat) => (fs[i]?).map fun (f : Go.Field) => (f.offset, Try.prog.cellsOf f.type)) = _
  refine congrArg some (funext fun i => ?_)
  by_cases i0 : i = 0
  · subst i0; exact h3
  · by_cases i1 : i = 1
    · subst i1; exact h4
    · by_cases i2 : i = 2
      · subst i2; exact h5
      · rw [if_neg i0, if_neg i1, if_neg i2, Array.getElem?_eq_none (by omega)]; rfl
theorem ofVal45 : D.ofVal (Value.agg #[.int .i64 0, .slice none 0 0, .slice none 0 0]) = .agg [.v (.int .i64 0) , .v (.slice none 0 0) , .v (.slice none 0 0)] := (rfl)
theorem fact_pl64 : placesT Try.prog 64 = some fun i => if i = 0 then some (0, 1) else if i = 1 then some (1, 1) else if i = 2 then some (2, 1) else none := by
  have h : ∃ fs, Try.prog.underlying 64 = some (.struct fs) ∧ fs.size = 3 ∧ ((fs[0]?).map fun f => (f.offset, Try.prog.cellsOf f.type)) = some (0, 1) ∧ ((fs[1]?).map fun f => (f.offset, Try.prog.cellsOf f.type)) = some (1, 1) ∧ ((fs[2]?).map fun f => (f.offset, Try.prog.cellsOf f.type)) = some (2, 1) := ⟨_, rfl, by kernel_rfl, by kernel_rfl, by kernel_rfl, by kernel_rfl⟩
  obtain ⟨fs, h1, h2, h3, h4, h5⟩ := h
  unfold placesT
  rw [h1]
  show (some fun (i : Nat) => (fs[i]?).map fun (f : Go.Field) => (f.offset, Try.prog.cellsOf f.type)) = _
  refine congrArg some (funext fun i => ?_)
  by_cases i0 : i = 0
  · subst i0; exact h3
  · by_cases i1 : i = 1
    · subst i1; exact h4
    · by_cases i2 : i = 2
      · subst i2; exact h5
      · rw [if_neg i0, if_neg i1, if_neg i2, Array.getElem?_eq_none (by omega)]; rfl
theorem ofVal64 : D.ofVal (Value.agg #[.int .i64 0, .int .i64 0, .int .i16 0]) = .agg [.v (.int .i64 0) , .v (.int .i64 0) , .v (.int .i16 0)] := (rfl)
theorem fact_pl65 : placesT Try.prog 65 = some fun i => if i = 0 then some (0, 1) else if i = 1 then some (1, 1) else if i = 2 then some (2, 1) else none := by
  have h : ∃ fs, Try.prog.underlying 65 = some (.struct fs) ∧ fs.size = 3 ∧ ((fs[0]?).map fun f => (f.offset, Try.prog.cellsOf f.type)) = some (0, 1) ∧ ((fs[1]?).map fun f => (f.offset, Try.prog.cellsOf f.type)) = some (1, 1) ∧ ((fs[2]?).map fun f => (f.offset, Try.prog.cellsOf f.type)) = some (2, 1) := ⟨_, rfl, by kernel_rfl, by kernel_rfl, by kernel_rfl, by kernel_rfl⟩
  obtain ⟨fs, h1, h2, h3, h4, h5⟩ := h
  unfold placesT
  rw [h1]
  show (some fun (i : Nat) => (fs[i]?).map fun (f : Go.Field) => (f.offset, Try.prog.cellsOf f.type)) = _
  refine congrArg some (funext fun i => ?_)
  by_cases i0 : i = 0
  · subst i0; exact h3
  · by_cases i1 : i = 1
    · subst i1; exact h4
    · by_cases i2 : i = 2
      · subst i2; exact h5
      · rw [if_neg i0, if_neg i1, if_neg i2, Array.getElem?_eq_none (by omega)]; rfl
theorem ofVal65 : D.ofVal (Value.agg #[.int .i64 0, .int .i64 0, .int .i16 0]) = .agg [.v (.int .i64 0) , .v (.int .i64 0) , .v (.int .i16 0)] := (rfl)
theorem fact_pl72 : placesT Try.prog 72 = some fun i => if i = 0 then some (0, 1) else if i = 1 then some (1, 1) else none := by
  have h : ∃ fs, Try.prog.underlying 72 = some (.struct fs) ∧ fs.size = 2 ∧ ((fs[0]?).map fun f => (f.offset, Try.prog.cellsOf f.type)) = some (0, 1) ∧ ((fs[1]?).map fun f => (f.offset, Try.prog.cellsOf f.type)) = some (1, 1) := ⟨_, rfl, by kernel_rfl, by kernel_rfl, by kernel_rfl⟩
  obtain ⟨fs, h1, h2, h3, h4⟩ := h
  unfold placesT
  rw [h1]
  show (some fun (i : Nat) => (fs[i]?).map fun (f : Go.Field) => (f.offset, Try.prog.cellsOf f.type)) = _
  refine congrArg some (funext fun i => ?_)
  by_cases i0 : i = 0
  · subst i0; exact h3
  · by_cases i1 : i = 1
    · subst i1; exact h4
    · rw [if_neg i0, if_neg i1, Array.getElem?_eq_none (by omega)]; rfl
theorem ofVal72 : D.ofVal (Value.agg #[.int .i64 0, .slice none 0 0]) = .agg [.v (.int .i64 0) , .v (.slice none 0 0)] := (rfl)
theorem fact_pl73 : placesT Try.prog 73 = some fun i => if i = 0 then some (0, 1) else if i = 1 then some (1, 1) else none := by
  have h : ∃ fs, Try.prog.underlying 73 = some (.struct fs) ∧ fs.size = 2 ∧ ((fs[0]?).map fun f => (f.offset, Try.prog.cellsOf f.type)) = some (0, 1) ∧ ((fs[1]?).map fun f => (f.offset, Try.prog.cellsOf f.type)) = some (1, 1) := ⟨_, rfl, by kernel_rfl, by kernel_rfl, by kernel_rfl⟩
  obtain ⟨fs, h1, h2, h3, h4⟩ := h
  unfold placesT
  rw [h1]
  show (some fun (i : Nat) => (fs[i]?).map fun (f : Go.Field) => (f.offset, Try.prog.cellsOf f.type)) = _
  refine congrArg some (funext fun i => ?_)
  by_cases i0 : i = 0
  · subst i0; exact h3
  · by_cases i1 : i = 1
    · subst i1; exact h4
    · rw [if_neg i0, if_neg i1, Array.getElem?_eq_none (by omega)]; rfl
theorem ofVal73 : D.ofVal (Value.agg #[.int .i64 0, .slice none 0 0]) = .agg [.v (.int .i64 0) , .v (.slice none 0 0)] := (rfl)
theorem fact_pl98 : placesT Try.prog 98 = some fun i => if i = 0 then some (0, 1) else if i = 1 then some (1, 1) else if i = 2 then some (2, 1) else none := by
  have h : ∃ fs, Try.prog.underlying 98 = some (.struct fs) ∧ fs.size = 3 ∧ ((fs[0]?).map fun f => (f.offset, Try.prog.cellsOf f.type)) = some (0, 1) ∧ ((fs[1]?).map fun f => (f.offset, Try.prog.cellsOf f.type)) = some (1, 1) ∧ ((fs[2]?).map fun f => (f.offset, Try.prog.cellsOf f.type)) = some (2, 1) := ⟨_, rfl, by kernel_rfl, by kernel_rfl, by kernel_rfl, by kernel_rfl⟩
  obtain ⟨fs, h1, h2, h3, h4, h5⟩ := h
  unfold placesT
  rw [h1]
  show (some fun (i : Nat) => (fs[i]?).map fun (f : Go.Field) => (f.offset, Try.prog.cellsOf f.type)) = _
  refine congrArg some (funext fun i => ?_)
  by_cases i0 : i = 0
  · subst i0; exact h3
  · by_cases i1 : i = 1
    · subst i1; exact h4
    · by_cases i2 : i = 2
      · subst i2; exact h5
      · rw [if_neg i0, if_neg i1, if_neg i2, Array.getElem?_eq_none (by omega)]; rfl
theorem ofVal98 : D.ofVal (Value.agg #[.int .u64 0, .int .i64 0, .slice none 0 0]) = .agg [.v (.int .u64 0) , .v (.int .i64 0) , .v (.slice none 0 0)] := (rfl)
theorem fact_pl99 : placesT Try.prog 99 = some fun i => if i = 0 then some (0, 1) else if i = 1 then some (1, 1) else if i = 2 then some (2, 1) else none := by
  have h : ∃ fs, Try.prog.underlying 99 = some (.struct fs) ∧ fs.size = 3 ∧ ((fs[0]?).map fun f => (f.offset, Try.prog.cellsOf f.type)) = some (0, 1) ∧ ((fs[1]?).map fun f => (f.offset, Try.prog.cellsOf f.type)) = some (1, 1) ∧ ((fs[2]?).map fun f => (f.offset, Try.prog.cellsOf f.type)) = some (2, 1) := ⟨_, rfl, by kernel_rfl, by kernel_rfl, by kernel_rfl, by kernel_rfl⟩
  obtain ⟨fs, h1, h2, h3, h4, h5⟩ := h
  unfold placesT
  rw [h1]
  show (some fun (i : Nat) => (fs[i]?).map fun (f : Go.Field) => (f.offset, Try.prog.cellsOf f.type)) = _
  refine congrArg some (funext fun i => ?_)
  by_cases i0 : i = 0
  · subst i0; exact h3
  · by_cases i1 : i = 1
    · subst i1; exact h4
    · by_cases i2 : i = 2
      · subst i2; exact h5
      · rw [if_neg i0, if_neg i1, if_neg i2, Array.getElem?_eq_none (by omega)]; rfl
theorem ofVal99 : D.ofVal (Value.agg #[.int .u64 0, .int .i64 0, .slice none 0 0]) = .agg [.v (.int .u64 0) , .v (.int .i64 0) , .v (.slice none 0 0)] := (rfl)
theorem aggOf_agg {l : List D} : aggOf (.agg l) = some l := (rfl)
attribute [go_sem] fact_pl44 ofVal44 fact_pl45 ofVal45 fact_pl64 ofVal64 fact_pl65 ofVal65 fact_pl72 ofVal72 fact_pl73 ofVal73 fact_pl98 ofVal98 fact_pl99 ofVal99 aggOf_agg fillD cellsD
end Go.Proofs.Ytpkampecmlpfmaa.T

end
section
set_option linter.unusedSimpArgs false
set_option linter.unusedVariables false
/- The chapter's example; small books. -/
namespace Go.Proofs.Ytpkampecmlpfmaa.T
open Go Go.VL Go.Proofs
set_option maxRecDepth 100000
set_option maxHeartbeats 4000000
def fewB (cuts : List (List Int)) : Bool := cuts.all (fun c => decide (c.length ≤ 100)) && decide (cuts.length ≤ 100)
theorem few_fun (w : Int) (cuts : List (List Int)) : Fun Try.prog 51 [.agg [.v (.int .i64 w), .lst (rows .i16 cuts)]] fun r => r = .v (.bool (fewB cuts)) := by
  refine Fun.of_awpI Try.func51 rfl cal51 Try.ntmps51 (by simp) fun hwf => ?_
  simp only [D.wfs, D.wf, ints_length, ints_wfs, rows_length, rows_wfs, capMax, and_true, true_and] at hwf
  repeat' (first | simp only [go_sem, Ret_eq Try.results51] | fail)
  refine awpI_for cuts.length (fun k => ∀ i, i < k → (cuts.getD i []).length ≤ 100) (fun k => [(8, .v (.int .i64 k))]) (fun _ => []) [1, 6, 7] [1] _ (Weak.refl _) (fun i hi => by omega) ?_ ?_ ?_
  · simp only [go_sem, Ret_eq Try.results51]
  · simp only [go_sem, Ret_eq Try.results51]
  · intro k s hk hQ hs
    simp only [go_sem, Ret_eq Try.results51] at hs
    by_cases hka : k < cuts.length
    · repeat' (first | simp only [go_sem, hs, Ret_eq Try.results51] | simp (disch := omega) only [arith, IntKind.bits, capMax, fill_len, elt_fill] | (with_reducible refine condI_dec (fun hq hqb => ?_) (fun hq hqb => ?_) <;> simp only [KP_mk, hqb]) | (refine Again.up (by omega) ?_ ?_) | fail)
      · symm
        unfold fewB
        rw [Bool.and_eq_false_iff]
        exact .inl (by rw [List.all_eq_false]; exact ⟨_, getD_mem (d := []) hka, by rw [decide_eq_true_eq]; omega⟩)
      · intro i hi
        by_cases hik : i = k
        · subst hik; omega
        · exact hQ i (by omega)
    · obtain rfl : k = cuts.length := by omega
      repeat' (first | simp only [go_sem, hs, Ret_eq Try.results51] | simp (disch := omega) only [arith, IntKind.bits, capMax, fill_len, elt_fill] | fail)
      unfold fewB
      have : cuts.all (fun c => decide (c.length ≤ 100)) = true := by
        rw [List.all_eq_true]
        intro c hc
        obtain ⟨i, hi, rfl⟩ := List.mem_iff_getElem.1 hc
        have := hQ i hi
        simp [List.getD, hi] at this
        simpa using this
      rw [this, Bool.true_and]
      exact decide_eq_decide.2 (by omega)
end Go.Proofs.Ytpkampecmlpfmaa.T

end
section
set_option linter.unusedSimpArgs false
set_option linter.unusedVariables false
/- Slots, walked. -/
namespace Go.Proofs.Ytpkampecmlpfmaa.T
open Go Go.VL Go.Proofs
set_option maxRecDepth 100000
set_option maxHeartbeats 4000000
theorem fact_dir : mapT Try.prog 63 = some (2, 3) := by kernel_rfl
attribute [go_sem] fact_dir
theorem ofVal_map {m : Option Nat} : D.ofVal (.map m) = .v (.map m) := (rfl)
attribute [go_sem] ofVal_map
abbrev slotsD (dim : Int) (ids : List Int) (vecs : List (List Int)) : D := .agg [.v (.int .i64 dim), .lst (ints .i64 ids), .lst (rows .i16 vecs)]
def dirN (ids : List Int) : Nat → List (Int × Int)
  | 0 => []
  | k + 1 => if ids.getD k 0 = -1 then dirN ids k else setN (ids.getD k 0) k (dirN ids k)
def slotOk (dim : Int) (ids : List Int) (vecs : List (List Int)) (k : Nat) : Prop :=
  (ids.getD k 0 = -1 ∧ (vecs.getD k []).length = 0) ∨ (lookN (ids.getD k 0) (dirN ids k) = none ∧ (0 ≤ ids.getD k 0 ∧ ids.getD k 0 ≤ 2147483647) ∧ vecErr (vecs.getD k []) = 0 ∧ ((vecs.getD k []).length : Int) = dim)
instance (dim : Int) (ids : List Int) (vecs : List (List Int)) (k : Nat) : Decidable (slotOk dim ids vecs k) := by unfold slotOk; infer_instance
def slotsOk (dim : Int) (ids : List Int) (vecs : List (List Int)) : Prop := (1 ≤ dim ∧ dim ≤ 64) ∧ (1 ≤ ids.length ∧ ids.length ≤ 256) ∧ vecs.length = ids.length ∧ ∀ k, k < ids.length → slotOk dim ids vecs k
instance (dim : Int) (ids : List Int) (vecs : List (List Int)) : Decidable (slotsOk dim ids vecs) := by unfold slotsOk; infer_instance
def slotsErr (dim : Int) (ids : List Int) (vecs : List (List Int)) : Int := if slotsOk dim ids vecs then 0 else 1

theorem within_fun (n m : Int) : Fun Try.prog 103 [.v (.int .i64 n), .v (.int .i64 m)] fun r => r = .v (.bool (decide (1 ≤ n ∧ n ≤ m))) := by
  refine Fun.of_awpI Try.func103 rfl cal103 Try.ntmps103 (by simp) fun hwf => ?_
  simp only [D.wfs, D.wf, ints_length, ints_wfs, rows_length, rows_wfs, capMax, and_true, true_and] at hwf
  by_cases h : 1 ≤ n ∧ n ≤ m
  · rw [decide_eq_true h]
    repeat' (first | simp only [go_sem, Ret_eq Try.results103] | simp (disch := omega) only [arith, IntKind.bits, capMax, fill_len, elt_fill] | fail)
  · rw [decide_eq_false h]
    by_cases h1 : 1 ≤ n
    · repeat' (first | simp only [go_sem, Ret_eq Try.results103] | simp (disch := omega) only [arith, IntKind.bits, capMax, fill_len, elt_fill] | fail)
    · repeat' (first | simp only [go_sem, Ret_eq Try.results103] | simp (disch := omega) only [arith, IntKind.bits, capMax, fill_len, elt_fill] | fail)

theorem isId_fun (n : Int) : Fun Try.prog 95 [.v (.int .i64 n)] fun r => r = .v (.bool (decide (0 ≤ n ∧ n ≤ 2147483647))) := by
  refine Fun.of_awpI Try.func95 rfl cal95 Try.ntmps95 (by simp) fun hwf => ?_
  simp only [D.wfs, D.wf, ints_length, ints_wfs, rows_length, rows_wfs, capMax, and_true, true_and] at hwf
  by_cases h : 0 ≤ n ∧ n ≤ 2147483647
  · rw [decide_eq_true h]
    repeat' (first | simp only [go_sem, Ret_eq Try.results95] | simp (disch := omega) only [arith, IntKind.bits, capMax, fill_len, elt_fill] | fail)
  · rw [decide_eq_false h]
    by_cases h1 : 0 ≤ n
    · repeat' (first | simp only [go_sem, Ret_eq Try.results95] | simp (disch := omega) only [arith, IntKind.bits, capMax, fill_len, elt_fill] | fail)
    · repeat' (first | simp only [go_sem, Ret_eq Try.results95] | simp (disch := omega) only [arith, IntKind.bits, capMax, fill_len, elt_fill] | fail)

theorem fits_slot_fun (dim : Int) (ids : List Int) (vecs : List (List Int)) (v : List Int) : Fun Try.prog 96 [slotsD dim ids vecs, .lst (ints .i16 v)] fun r => r = .v (.bool (decide (vecErr v = 0 ∧ (v.length : Int) = dim))) := by
  refine Fun.of_awpI Try.func96 rfl cal96 Try.ntmps96 (by simp) fun hwf => ?_
  simp only [D.wfs, D.wf, ints_length, ints_wfs, rows_length, rows_wfs, capMax, and_true, true_and] at hwf
  by_cases h1 : vecErr v = 0
  · by_cases h2 : (v.length : Int) = dim
    · rw [decide_eq_true ⟨h1, h2⟩]
      repeat' (first | simp only [go_sem, h1, h2, beq_self_eq_true, Ret_eq Try.results96] | (refine opCallI_rd (by simp only [go_sem, h1, h2, beq_self_eq_true, Ret_eq Try.results96]; first | done | rfl) (vecCheck_fun v) (by rintro _ rfl; rfl) ?_; rintro _ rfl) | fail)
    · rw [decide_eq_false (fun q => h2 q.2)]
      have h3 : ((v.length : Int) == dim) = false := beq_eq_false_iff_ne.2 h2
      repeat' (first | simp only [go_sem, h1, h3, beq_self_eq_true, Ret_eq Try.results96] | (refine opCallI_rd (by simp only [go_sem, h1, h3, beq_self_eq_true, Ret_eq Try.results96]; first | done | rfl) (vecCheck_fun v) (by rintro _ rfl; rfl) ?_; rintro _ rfl) | fail)
  · rw [decide_eq_false (fun q => h1 q.1)]
    have h3 : (vecErr v == 0) = false := beq_eq_false_iff_ne.2 h1
    repeat' (first | simp only [go_sem, h3, Ret_eq Try.results96] | (refine opCallI_rd (by simp only [go_sem, h3, Ret_eq Try.results96]; first | done | rfl) (vecCheck_fun v) (by rintro _ rfl; rfl) ?_; rintro _ rfl) | fail)
theorem setN_length (a d : Int) : ∀ l, (setN a d l).length ≤ l.length + 1
  | [] => by simp [setN]
  | (b, e) :: r => by
    have := setN_length a d r
    unfold setN
    split <;> simp only [List.length_cons] <;> omega
theorem dirN_length {ids : List Int} : ∀ k, (dirN ids k).length ≤ k
  | 0 => Nat.le_refl _
  | k + 1 => by
    have := dirN_length (ids := ids) k
    rw [dirN]
    split
    · omega
    · have := setN_length (ids.getD k 0) k (dirN ids k)
      omega

theorem dir_ok (dim : Int) (ids : List Int) (vecs : List (List Int)) (h : slotsOk dim ids vecs) : FunO Try.prog 94 [slotsD dim ids vecs] fun r o => r = .tup [.mp 0, .v (.bool true)] ∧ o = some ⟨63, 0, kvI .i64 .i64 (dirN ids ids.length)⟩ := by
  refine FunO.of_awpI Try.func94 rfl cal94 Try.ntmps94 (by simp) fun hwf => ?_
  simp only [D.wfs, D.wf, ints_length, ints_wfs, rows_length, rows_wfs, capMax, and_true, true_and] at hwf
  obtain ⟨h1, h2, h3, h4⟩ := h
  have hw1 := within_fun dim 64
  have hw2 := within_fun ids.length 256
  rw [decide_eq_true h1] at hw1
  rw [decide_eq_true (by omega)] at hw2
  repeat' (first | simp only [go_sem, h3, beq_self_eq_true, Ret_eq Try.results94] | simp (disch := omega) only [arith, IntKind.bits, capMax, fill_len, elt_fill] | (refine opCallI_rd (by simp only [go_sem, h3, beq_self_eq_true, Ret_eq Try.results94]; first | done | rfl) (hw1) (by rintro _ rfl; rfl) ?_; rintro _ rfl) | (refine opCallI_rd (by simp only [go_sem, h3, beq_self_eq_true, Ret_eq Try.results94]; first | done | rfl) (hw2) (by rintro _ rfl; rfl) ?_; rintro _ rfl) | fail)
  refine awpI_for ids.length (fun k => True) (fun k => [(36, .v (.int .i64 k))]) (fun k => [(32, ⟨63, 0, kvI .i64 .i64 (dirN ids k)⟩)]) [1, 4, 34, 35] [1] _ (Weak.refl _) trivial ?_ ?_ ?_
  · simp only [go_sem, Ret_eq Try.results94]
  · simp only [go_sem, Ret_eq Try.results94]
    rfl
  · intro k s hk _ hs
    simp only [go_sem, Ret_eq Try.results94] at hs
    by_cases hka : k < ids.length
    · have hl := dirN_length (ids := ids) k
      rcases h4 k hka with ⟨q1, q2⟩ | ⟨q1, q2, q3, q4⟩
      · have e : dirN ids (k + 1) = dirN ids k := by rw [dirN, if_pos q1]
        repeat' (first | simp only [go_sem, hs, q1, q2, e, beq_self_eq_true, Ret_eq Try.results94] | simp (disch := omega) only [arith, IntKind.bits, capMax, fill_len, elt_fill] | (refine Again.up (by omega) ?_ ?_) | fail)
      · have hne : ids.getD k 0 ≠ -1 := by omega
        have hb : (ids.getD k 0 == -1) = false := beq_eq_false_iff_ne.2 hne
        have e : dirN ids (k + 1) = setN (ids.getD k 0) k (dirN ids k) := by rw [dirN, if_neg hne]
        have hi := isId_fun (ids.getD k 0)
        rw [decide_eq_true q2] at hi
        have hf := fits_slot_fun dim ids vecs (vecs.getD k [])
        rw [decide_eq_true ⟨q3, q4⟩] at hf
        repeat' (first | simp only [go_sem, hs, hb, q1, e, List.length_map, Ret_eq Try.results94] | simp (disch := omega) only [arith, IntKind.bits, capMax, fill_len, elt_fill] | (refine awpI_draw2 (id := 9) (.one false 0 (.one false 1 (.one false 2 (.only 3 (.one false 4 (.one false 5 (.one false 6 (.one false 7 (.one false 8 (.one false 9 (.one false 10 (.one false 11 (.one false 12 (.only 13 (.one false 14 (.one false 15 .done)))))))))))))))) mixed (by decide +kernel) (by decide +kernel) ?_) | (refine Again.up (by omega) ?_ ?_) | (refine opCallI_rd (by simp only [go_sem, hs, hb, q1, e, List.length_map, Ret_eq Try.results94]; first | done | rfl) (hi) (by rintro _ rfl; rfl) ?_; rintro _ rfl) | (refine opCallI_rd (by simp only [go_sem, hs, hb, q1, e, List.length_map, Ret_eq Try.results94]; first | done | rfl) (hf) (by rintro _ rfl; rfl) ?_; rintro _ rfl) | fail)
    · obtain rfl : k = ids.length := by omega
      repeat' (first | simp only [go_sem, hs, Ret_eq Try.results94] | simp (disch := omega) only [arith, IntKind.bits, capMax, fill_len, elt_fill] | refine RetO_calc Try.results94 ?_ | fail)

theorem dir_bad (dim : Int) (ids : List Int) (vecs : List (List Int)) (h : ¬ slotsOk dim ids vecs) : FunO Try.prog 94 [slotsD dim ids vecs] fun r o => r = .tup [.v (.map none), .v (.bool false)] ∧ o = none := by
  refine FunO.of_awpI Try.func94 rfl cal94 Try.ntmps94 (by simp) fun hwf => ?_
  simp only [D.wfs, D.wf, ints_length, ints_wfs, rows_length, rows_wfs, capMax, and_true, true_and] at hwf
  have hw1 := within_fun dim 64
  have hw2 := within_fun ids.length 256
  by_cases h1 : 1 ≤ dim ∧ dim ≤ 64
  · rw [decide_eq_true h1] at hw1
    by_cases h2 : 1 ≤ ids.length ∧ ids.length ≤ 256
    · rw [decide_eq_true (by omega)] at hw2
      by_cases h3 : vecs.length = ids.length
      · repeat' (first | simp only [go_sem, h3, beq_self_eq_true, Ret_eq Try.results94] | simp (disch := omega) only [arith, IntKind.bits, capMax, fill_len, elt_fill] | (refine opCallI_rd (by simp only [go_sem, h3, beq_self_eq_true, Ret_eq Try.results94]; first | done | rfl) (hw1) (by rintro _ rfl; rfl) ?_; rintro _ rfl) | (refine opCallI_rd (by simp only [go_sem, h3, beq_self_eq_true, Ret_eq Try.results94]; first | done | rfl) (hw2) (by rintro _ rfl; rfl) ?_; rintro _ rfl) | fail)
        refine awpI_for ids.length (fun k => ∀ j, j < k → slotOk dim ids vecs j) (fun k => [(36, .v (.int .i64 k))]) (fun k => [(32, ⟨63, 0, kvI .i64 .i64 (dirN ids k)⟩)]) [1, 4, 34, 35] [1] _ (Weak.refl _) (fun j hj => absurd hj (Nat.not_lt_zero _)) ?_ ?_ ?_
        · simp only [go_sem, Ret_eq Try.results94]
        · simp only [go_sem, Ret_eq Try.results94]
          rfl
        · intro k s hk hQ hs
          simp only [go_sem, Ret_eq Try.results94] at hs
          by_cases hka : k < ids.length
          · have hl := dirN_length (ids := ids) k
            by_cases hok : slotOk dim ids vecs k
            · have hQ' : ∀ j, j < k + 1 → slotOk dim ids vecs j := fun j hj => by
                by_cases q : j < k
                · exact hQ j q
                · obtain rfl : j = k := by omega
                  exact hok
              rcases hok with ⟨q1, q2⟩ | ⟨q1, q2, q3, q4⟩
              · have e : dirN ids (k + 1) = dirN ids k := by rw [dirN, if_pos q1]
                repeat' (first | simp only [go_sem, hs, q1, q2, e, beq_self_eq_true, Ret_eq Try.results94] | simp (disch := omega) only [arith, IntKind.bits, capMax, fill_len, elt_fill] | (refine Again.up (by omega) ?_ ?_) | fail)
                exact hQ'
              · have hne : ids.getD k 0 ≠ -1 := by omega
                have hb : (ids.getD k 0 == -1) = false := beq_eq_false_iff_ne.2 hne
                have e : dirN ids (k + 1) = setN (ids.getD k 0) k (dirN ids k) := by rw [dirN, if_neg hne]
                have hi := isId_fun (ids.getD k 0)
                rw [decide_eq_true q2] at hi
                have hf := fits_slot_fun dim ids vecs (vecs.getD k [])
                rw [decide_eq_true ⟨q3, q4⟩] at hf
                repeat' (first | simp only [go_sem, hs, hb, q1, e, List.length_map, Ret_eq Try.results94] | simp (disch := omega) only [arith, IntKind.bits, capMax, fill_len, elt_fill] | (refine awpI_draw2 (id := 9) (.one false 0 (.one false 1 (.one false 2 (.only 3 (.one false 4 (.one false 5 (.one false 6 (.one false 7 (.one false 8 (.one false 9 (.one false 10 (.one false 11 (.one false 12 (.only 13 (.one false 14 (.one false 15 .done)))))))))))))))) mixed (by decide +kernel) (by decide +kernel) ?_) | (refine Again.up (by omega) ?_ ?_) | (refine opCallI_rd (by simp only [go_sem, hs, hb, q1, e, List.length_map, Ret_eq Try.results94]; first | done | rfl) (hi) (by rintro _ rfl; rfl) ?_; rintro _ rfl) | (refine opCallI_rd (by simp only [go_sem, hs, hb, q1, e, List.length_map, Ret_eq Try.results94]; first | done | rfl) (hf) (by rintro _ rfl; rfl) ?_; rintro _ rfl) | fail)
                exact hQ'
            · have hi := isId_fun (ids.getD k 0)
              have hf := fits_slot_fun dim ids vecs (vecs.getD k [])
              by_cases q0 : ids.getD k 0 = -1
              · have q1 : ¬ (vecs.getD k []).length = 0 := fun q => hok (.inl ⟨q0, q⟩)
                have hb : ((((vecs.getD k []).length : Nat) : Int) == 0) = false := beq_eq_false_iff_ne.2 (by omega)
                rw [decide_eq_false (by omega)] at hi
                cases hlk : lookN (ids.getD k 0) (dirN ids k) with
                | none =>
                  rw [q0] at hlk hi
                  repeat' (first | simp only [go_sem, hs, q0, hb, hlk, beq_self_eq_true, Ret_eq Try.results94] | simp (disch := omega) only [arith, IntKind.bits, capMax, fill_len, elt_fill] | refine RetO_calc Try.results94 ?_ | (refine awpI_draw2 (id := 9) (.one false 0 (.one false 1 (.one false 2 (.only 3 (.one false 4 (.one false 5 (.one false 6 (.one false 7 (.one false 8 (.one false 9 (.one false 10 (.one false 11 (.one false 12 (.only 13 (.one false 14 (.one false 15 .done)))))))))))))))) mixed (by decide +kernel) (by decide +kernel) ?_) | (refine opCallI_rd (by simp only [go_sem, hs, q0, hb, hlk, beq_self_eq_true, Ret_eq Try.results94]; first | done | rfl) (hi) (by rintro _ rfl; rfl) ?_; rintro _ rfl) | fail)
                | some x =>
                  rw [q0] at hlk hi
                  repeat' (first | simp only [go_sem, hs, q0, hb, hlk, beq_self_eq_true, Ret_eq Try.results94] | simp (disch := omega) only [arith, IntKind.bits, capMax, fill_len, elt_fill] | refine RetO_calc Try.results94 ?_ | (refine awpI_draw2 (id := 9) (.one false 0 (.one false 1 (.one false 2 (.only 3 (.one false 4 (.one false 5 (.one false 6 (.one false 7 (.one false 8 (.one false 9 (.one false 10 (.one false 11 (.one false 12 (.only 13 (.one false 14 (.one false 15 .done)))))))))))))))) mixed (by decide +kernel) (by decide +kernel) ?_) | fail)
              · have hb : (ids.getD k 0 == -1) = false := beq_eq_false_iff_ne.2 q0
                cases hlk : lookN (ids.getD k 0) (dirN ids k) with
                | some x =>
                  repeat' (first | simp only [go_sem, hs, hb, hlk, Ret_eq Try.results94] | simp (disch := omega) only [arith, IntKind.bits, capMax, fill_len, elt_fill] | refine RetO_calc Try.results94 ?_ | (refine awpI_draw2 (id := 9) (.one false 0 (.one false 1 (.one false 2 (.only 3 (.one false 4 (.one false 5 (.one false 6 (.one false 7 (.one false 8 (.one false 9 (.one false 10 (.one false 11 (.one false 12 (.only 13 (.one false 14 (.one false 15 .done)))))))))))))))) mixed (by decide +kernel) (by decide +kernel) ?_) | fail)
                | none =>
                  by_cases q2 : 0 ≤ ids.getD k 0 ∧ ids.getD k 0 ≤ 2147483647
                  · rw [decide_eq_true q2] at hi
                    rw [decide_eq_false (fun q => hok (.inr ⟨hlk, q2, q.1, q.2⟩))] at hf
                    repeat' (first | simp only [go_sem, hs, hb, hlk, Ret_eq Try.results94] | simp (disch := omega) only [arith, IntKind.bits, capMax, fill_len, elt_fill] | refine RetO_calc Try.results94 ?_ | (refine awpI_draw2 (id := 9) (.one false 0 (.one false 1 (.one false 2 (.only 3 (.one false 4 (.one false 5 (.one false 6 (.one false 7 (.one false 8 (.one false 9 (.one false 10 (.one false 11 (.one false 12 (.only 13 (.one false 14 (.one false 15 .done)))))))))))))))) mixed (by decide +kernel) (by decide +kernel) ?_) | (refine opCallI_rd (by simp only [go_sem, hs, hb, hlk, Ret_eq Try.results94]; first | done | rfl) (hi) (by rintro _ rfl; rfl) ?_; rintro _ rfl) | (refine opCallI_rd (by simp only [go_sem, hs, hb, hlk, Ret_eq Try.results94]; first | done | rfl) (hf) (by rintro _ rfl; rfl) ?_; rintro _ rfl) | fail)
                  · rw [decide_eq_false q2] at hi
                    repeat' (first | simp only [go_sem, hs, hb, hlk, Ret_eq Try.results94] | simp (disch := omega) only [arith, IntKind.bits, capMax, fill_len, elt_fill] | refine RetO_calc Try.results94 ?_ | (refine awpI_draw2 (id := 9) (.one false 0 (.one false 1 (.one false 2 (.only 3 (.one false 4 (.one false 5 (.one false 6 (.one false 7 (.one false 8 (.one false 9 (.one false 10 (.one false 11 (.one false 12 (.only 13 (.one false 14 (.one false 15 .done)))))))))))))))) mixed (by decide +kernel) (by decide +kernel) ?_) | (refine opCallI_rd (by simp only [go_sem, hs, hb, hlk, Ret_eq Try.results94]; first | done | rfl) (hi) (by rintro _ rfl; rfl) ?_; rintro _ rfl) | fail)
          · obtain rfl : k = ids.length := by omega
            exact absurd ⟨h1, h2, h3, hQ⟩ h
      · have hb : ((((vecs.length : Nat) : Int)) == ((ids.length : Nat) : Int)) = false := beq_eq_false_iff_ne.2 (by omega)
        repeat' (first | simp only [go_sem, hb, Ret_eq Try.results94] | simp (disch := omega) only [arith, IntKind.bits, capMax, fill_len, elt_fill] | refine RetO_calc Try.results94 ?_ | (refine opCallI_rd (by simp only [go_sem, hb, Ret_eq Try.results94]; first | done | rfl) (hw1) (by rintro _ rfl; rfl) ?_; rintro _ rfl) | (refine opCallI_rd (by simp only [go_sem, hb, Ret_eq Try.results94]; first | done | rfl) (hw2) (by rintro _ rfl; rfl) ?_; rintro _ rfl) | fail)
    · rw [decide_eq_false (by omega)] at hw2
      repeat' (first | simp only [go_sem, Ret_eq Try.results94] | refine RetO_calc Try.results94 ?_ | (refine opCallI_rd (by simp only [go_sem, Ret_eq Try.results94]; first | done | rfl) (hw1) (by rintro _ rfl; rfl) ?_; rintro _ rfl) | (refine opCallI_rd (by simp only [go_sem, Ret_eq Try.results94]; first | done | rfl) (hw2) (by rintro _ rfl; rfl) ?_; rintro _ rfl) | fail)
  · rw [decide_eq_false h1] at hw1
    repeat' (first | simp only [go_sem, Ret_eq Try.results94] | refine RetO_calc Try.results94 ?_ | (refine opCallI_rd (by simp only [go_sem, Ret_eq Try.results94]; first | done | rfl) (hw1) (by rintro _ rfl; rfl) ?_; rintro _ rfl) | fail)

theorem slotsCheck_fun (dim : Int) (ids : List Int) (vecs : List (List Int)) : Fun Try.prog 41 [slotsD dim ids vecs] fun r => r = .v (.int .i64 (slotsErr dim ids vecs)) := by
  refine Fun.of_awpI Try.func41 rfl cal41 Try.ntmps41 (by simp) fun hwf => ?_
  simp only [D.wfs, D.wf, ints_length, ints_wfs, rows_length, rows_wfs, capMax, and_true, true_and] at hwf
  unfold slotsErr
  by_cases h : slotsOk dim ids vecs
  · rw [if_pos h]
    have hd := dir_ok dim ids vecs h
    repeat' (first | simp only [go_sem, Ret_eq Try.results41] | (refine opCallI_ownGv (by simp only [go_sem, Ret_eq Try.results41]; first | done | rfl) (hd) ?_; rintro _ _ ⟨rfl, rfl⟩) | fail)
  · rw [if_neg h]
    have hd := dir_bad dim ids vecs h
    repeat' (first | simp only [go_sem, Ret_eq Try.results41] | (refine opCallI_ownGv (by simp only [go_sem, Ret_eq Try.results41]; first | done | rfl) (hd) ?_; rintro _ _ ⟨rfl, rfl⟩) | fail)
end Go.Proofs.Ytpkampecmlpfmaa.T

end
section
set_option linter.unusedSimpArgs false
set_option linter.unusedVariables false
/- What a step gathers, plainly. -/
namespace Go.Proofs.Ytpkampecmlpfmaa.T
open Go Go.VL Go.Proofs
abbrev trainD (x a : Int) (s : List (List Int)) : D := .agg [.v (.int .u64 x), .v (.int .i64 a), .lst (rows .i16 s)]
def nxt (x : Int) : Int := (x * 6364136223846793005 + 1442695040888963407) % 18446744073709551616
theorem nxt_range (x : Int) : 0 ≤ nxt x ∧ nxt x < 18446744073709551616 := by unfold nxt; omega
def nx (x : Int) : Nat → Int
  | 0 => x
  | k + 1 => nxt (nx x k)
theorem nx_range {x : Int} (h : 0 ≤ x ∧ x < 18446744073709551616) : ∀ k, 0 ≤ nx x k ∧ nx x k < 18446744073709551616
  | 0 => h
  | k + 1 => nxt_range _
def lotOf (x b : Int) : Int := x / 8589934592 % b
theorem lotOf_range {x b : Int} (h : 1 ≤ b) : 0 ≤ lotOf x b ∧ lotOf x b < b := ⟨Int.emod_nonneg _ (by omega), Int.emod_lt_of_pos _ (by omega)⟩
def lotsL (x b : Int) : Nat → List Int
  | 0 => []
  | k + 1 => lotsL x b k ++ [lotOf (nx x (k + 1)) b]
theorem lotsL_length (x b : Int) : ∀ k, (lotsL x b k).length = k
  | 0 => rfl
  | k + 1 => by rw [lotsL, List.length_append, lotsL_length x b k]; rfl
theorem lotsL_mem {x b : Int} (hb : 1 ≤ b) : ∀ k, ∀ i ∈ lotsL x b k, 0 ≤ i ∧ i < b
  | 0, i, h => absurd h List.not_mem_nil
  | k + 1, i, h => by
    rcases List.mem_append.1 h with h | h
    · exact lotsL_mem hb k i h
    · rw [List.mem_singleton.1 h]; exact lotOf_range hb
def gat (ids : List Int) (vecs : List (List Int)) : List Int → List (List Int)
  | [] => []
  | i :: l => if ids.getD i.toNat 0 = -1 then gat ids vecs l else vecs.getD i.toNat [] :: gat ids vecs l
theorem gat_append {ids : List Int} {vecs : List (List Int)} {m : List Int} : ∀ l, gat ids vecs (l ++ m) = gat ids vecs l ++ gat ids vecs m
  | [] => rfl
  | i :: l => by
    have ih := gat_append (ids := ids) (vecs := vecs) (m := m) l
    rw [List.cons_append]
    simp only [gat]
    rw [ih]
    split <;> rfl
theorem gat_length {ids : List Int} {vecs : List (List Int)} : ∀ l, (gat ids vecs l).length ≤ l.length
  | [] => Nat.le_refl _
  | i :: l => by
    have ih := gat_length (ids := ids) (vecs := vecs) l
    simp only [gat]
    split <;> simp only [List.length_cons] <;> omega
theorem gat_mem {ids : List Int} {vecs : List (List Int)} {v : List Int} : ∀ l, v ∈ gat ids vecs l → ∃ i ∈ l, ids.getD i.toNat 0 ≠ -1 ∧ v = vecs.getD i.toNat []
  | [], h => absurd h List.not_mem_nil
  | i :: l, h => by
    simp only [gat] at h
    split at h
    · obtain ⟨j, h1, h2⟩ := gat_mem l h
      exact ⟨j, List.mem_cons_of_mem _ h1, h2⟩
    · rename_i q
      rcases List.mem_cons.1 h with h | h
      · exact ⟨i, List.mem_cons_self, q, h⟩
      · obtain ⟨j, h1, h2⟩ := gat_mem l h
        exact ⟨j, List.mem_cons_of_mem _ h1, h2⟩
def trainOk (a : Int) (s : List (List Int)) : Prop := (s.length : Int) ≤ a ∧ a ≤ 4096 ∧ ∀ v ∈ s, vecErr v = 0
instance (a : Int) (s : List (List Int)) : Decidable (trainOk a s) := by unfold trainOk; infer_instance
def chkOk (a : Int) (s : List (List Int)) (budget all : Int) : Prop := trainOk a s ∧ (1 ≤ budget ∧ budget ≤ 1024) ∧ 0 ≤ all ∧ all ≤ 4096
instance (a : Int) (s : List (List Int)) (budget all : Int) : Decidable (chkOk a s budget all) := by unfold chkOk; infer_instance
def stepN (a budget all : Int) : Nat := (min budget (max (all - a) 0)).toNat
theorem stepN_le {a budget all : Int} (h : 0 ≤ budget) : (stepN a budget all : Int) ≤ budget ∧ (stepN a budget all : Int) ≤ max (all - a) 0 := by unfold stepN; omega
def gathered (x : Int) (ids : List Int) (vecs : List (List Int)) (n : Nat) : List (List Int) := gat ids vecs (lotsL x ids.length n)
theorem gathered_length {x : Int} {ids : List Int} {vecs : List (List Int)} {n : Nat} : (gathered x ids vecs n).length ≤ n := by
  have := gat_length (ids := ids) (vecs := vecs) (lotsL x ids.length n)
  rw [lotsL_length] at this; exact this
theorem gathered_mem {dim x : Int} {ids : List Int} {vecs : List (List Int)} {n : Nat} {v : List Int} (hs : slotsOk dim ids vecs) (h : v ∈ gathered x ids vecs n) : ∃ j, j < ids.length ∧ ids.getD j 0 ≠ -1 ∧ v = vecs.getD j [] ∧ vecErr v = 0 := by
  obtain ⟨i, h1, h2, h3⟩ := gat_mem _ h
  have h4 := lotsL_mem (by have := hs.2.1; omega) _ _ h1
  refine ⟨i.toNat, by omega, h2, h3, ?_⟩
  rw [h3]
  rcases hs.2.2.2 i.toNat (by omega) with ⟨q, _⟩ | ⟨_, _, q, _⟩
  · exact absurd q h2
  · exact q
theorem step_ok {dim x a budget all : Int} {s : List (List Int)} {ids : List Int} {vecs : List (List Int)} (hs : slotsOk dim ids vecs) (h : chkOk a s budget all) : trainOk (a + stepN a budget all) (s ++ gathered x ids vecs (stepN a budget all)) := by
  obtain ⟨⟨h1, h2, h3⟩, h4, h5⟩ := h
  have e := stepN_le (a := a) (all := all) (show 0 ≤ budget by omega)
  have g := gathered_length (x := x) (ids := ids) (vecs := vecs) (n := stepN a budget all)
  refine ⟨by rw [List.length_append]; omega, by omega, fun v hv => ?_⟩
  rcases List.mem_append.1 hv with q | q
  · exact h3 v q
  · obtain ⟨_, _, _, _, r⟩ := gathered_mem hs q
    exact r
end Go.Proofs.Ytpkampecmlpfmaa.T

end
section
set_option linter.unusedSimpArgs false
set_option linter.unusedVariables false
/- Slots with one put or taken out, plainly. -/
namespace Go.Proofs.Ytpkampecmlpfmaa.T
open Go Go.VL Go.Proofs
theorem look_set {a b d : Int} : ∀ l, lookN a (setN b d l) = if a = b then some d else lookN a l
  | [] => by simp only [setN, lookN]
  | (c, e) :: r => by
    have ih := look_set (a := a) (b := b) (d := d) r
    simp only [setN]
    by_cases h : b = c
    · rw [if_pos h]; simp only [lookN]; subst h; split <;> rfl
    · rw [if_neg h]; simp only [lookN]; rw [ih]
      by_cases h1 : a = c
      · rw [if_pos h1, if_pos h1, if_neg (fun q => h (by rw [← q, h1]))]
      · rw [if_neg h1, if_neg h1]
theorem dir_none {ids : List Int} {a : Int} : ∀ k, lookN a (dirN ids k) = none ↔ ∀ j, j < k → ids.getD j 0 = a → a = -1
  | 0 => ⟨fun _ j hj => absurd hj (Nat.not_lt_zero _), fun _ => rfl⟩
  | k + 1 => by
    have ih := dir_none (ids := ids) (a := a) k
    rw [dirN]
    by_cases h : ids.getD k 0 = -1
    · rw [if_pos h, ih]
      constructor
      · intro q j hj e
        by_cases hk : j < k
        · exact q j hk e
        · obtain rfl : j = k := by omega
          rw [← e, h]
      · exact fun q j hj => q j (by omega)
    · rw [if_neg h, look_set]
      by_cases h2 : a = ids.getD k 0
      · rw [if_pos h2]
        constructor
        · intro q; cases q
        · intro q; exact absurd (q k (by omega) h2.symm) (by rw [h2]; exact h)
      · rw [if_neg h2, ih]
        constructor
        · intro q j hj e
          by_cases hk : j < k
          · exact q j hk e
          · obtain rfl : j = k := by omega
            exact absurd e.symm h2
        · exact fun q j hj => q j (by omega)
def idOk (id : Int) : Prop := 0 ≤ id ∧ id ≤ 2147483647
instance (id : Int) : Decidable (idOk id) := by unfold idOk; infer_instance
end Go.Proofs.Ytpkampecmlpfmaa.T

end
section
set_option linter.unusedSimpArgs false
set_option linter.unusedVariables false
/- Slots with one put or taken out, walked. -/
namespace Go.Proofs.Ytpkampecmlpfmaa.T
open Go Go.VL Go.Proofs
set_option maxRecDepth 100000
set_option maxHeartbeats 4000000

end Go.Proofs.Ytpkampecmlpfmaa.T

end
section
set_option linter.unusedSimpArgs false
set_option linter.unusedVariables false
/- Slots, and lists of vectors, the same, walked. -/
namespace Go.Proofs.Ytpkampecmlpfmaa.T
open Go Go.VL Go.Proofs
set_option maxRecDepth 100000
set_option maxHeartbeats 4000000

theorem equalVecs_fun (a b : List (List Int)) : Fun Try.prog 100 [.lst (rows .i16 a), .lst (rows .i16 b), .clos (.func 101) []] fun r => r = .v (.bool (decide (a = b))) := by
  refine Fun.of_awpI Try.func100 rfl cal100 Try.ntmps100 (by simp) fun hwf => ?_
  simp only [D.wfs, D.wf, ints_length, ints_wfs, rows_length, rows_wfs, capMax, and_true, true_and] at hwf
  have hlb : b.length ≤ 9223372036854775807 := by have := hwf.2.1; exact this
  have hla : a.length ≤ 9223372036854775807 := by have := hwf.1.1; exact this
  by_cases hl : a.length = b.length
  · repeat' (first | simp only [go_sem, hl, Ret_eq Try.results100] | simp (disch := omega) only [arith, IntKind.bits, capMax, fill_len, elt_fill] | fail)
    refine awpI_for b.length (fun k => a.take k = b.take k) (fun k => [(17, .v (.int .i64 k))]) (fun _ => []) [1, 2, 15, 16] [] _ (Weak.refl _) (by simp) ?_ ?_ ?_
    · simp only [go_sem, Ret_eq Try.results100]
    · simp only [go_sem, Ret_eq Try.results100]
    · intro k s hk hQ hs
      simp only [go_sem, Ret_eq Try.results100] at hs
      by_cases hka : k < b.length
      · have e1 := take_snoc (a := a) (d := ([] : List Int)) (k := k) (by omega)
        have e2 := take_snoc (a := b) (d := ([] : List Int)) hka
        have hs1 := vecSame_fun (a.getD k []) (b.getD k [])
        by_cases hv : a.getD k [] = b.getD k []
        · rw [decide_eq_true hv] at hs1
          repeat' (first | simp only [go_sem, hs, Ret_eq Try.results100] | simp (disch := omega) only [arith, IntKind.bits, capMax, fill_len, elt_fill] | (refine Again.up (by omega) ?_ ?_) | (refine opCallI_rd (by simp only [go_sem, hs, Ret_eq Try.results100]; first | done | rfl) (hs1) (by rintro _ rfl; rfl) ?_; rintro _ rfl) | fail)
          rw [e1, e2, hQ, hv]
        · rw [decide_eq_false hv] at hs1
          have hne : a ≠ b := fun q => hv (by rw [q])
          repeat' (first | simp only [go_sem, hs, decide_eq_false hne, Ret_eq Try.results100] | simp (disch := omega) only [arith, IntKind.bits, capMax, fill_len, elt_fill] | (refine opCallI_rd (by simp only [go_sem, hs, decide_eq_false hne, Ret_eq Try.results100]; first | done | rfl) (hs1) (by rintro _ rfl; rfl) ?_; rintro _ rfl) | fail)
      · obtain rfl : k = b.length := by omega
        have hQ3 : a = b := by
          rw [List.take_length, ← hl, List.take_length] at hQ; exact hQ
        repeat' (first | simp only [go_sem, hs, decide_eq_true hQ3, Ret_eq Try.results100] | simp (disch := omega) only [arith, IntKind.bits, capMax, fill_len, elt_fill] | fail)
  · have hne : a ≠ b := fun q => hl (by rw [q])
    repeat' (first | simp only [go_sem, decide_eq_false hne, Ret_eq Try.results100] | simp (disch := omega) only [arith, IntKind.bits, capMax, fill_len, elt_fill] | fail)

end Go.Proofs.Ytpkampecmlpfmaa.T

end
section
set_option linter.unusedSimpArgs false
set_option linter.unusedVariables false
/- Lots, and what is checked ahead of a step, walked. -/
namespace Go.Proofs.Ytpkampecmlpfmaa.T
open Go Go.VL Go.Proofs
set_option maxRecDepth 100000
set_option maxHeartbeats 4000000

theorem next_fun (x : Int) : Fun Try.prog 175 [.v (.int .u64 x)] fun r => r = .v (.int .u64 (nxt x)) := by
  refine Fun.of_awpI Try.func175 rfl cal175 Try.ntmps175 (by simp) fun hwf => ?_
  simp only [D.wfs, D.wf, ints_length, ints_wfs, rows_length, rows_wfs, capMax, and_true, true_and] at hwf
  repeat' (first | simp only [go_sem, Ret_eq Try.results175] | fail)
  rw [IntKind.wrap_u64, IntKind.wrap_u64]
  unfold nxt
  omega

theorem bound_fun (n : Int) : Fun Try.prog 156 [.v (.int .i64 n)] fun r => r = .v (.bool (decide (1 ≤ n ∧ n ≤ 2147483648))) := by
  refine Fun.of_awpI Try.func156 rfl cal156 Try.ntmps156 (by simp) fun hwf => ?_
  simp only [D.wfs, D.wf, ints_length, ints_wfs, rows_length, rows_wfs, capMax, and_true, true_and] at hwf
  by_cases h : 1 ≤ n ∧ n ≤ 2147483648
  · rw [decide_eq_true h]
    repeat' (first | simp only [go_sem, Ret_eq Try.results156] | simp (disch := omega) only [arith, IntKind.bits, capMax, fill_len, elt_fill] | fail)
  · rw [decide_eq_false h]
    by_cases h1 : 1 ≤ n
    · repeat' (first | simp only [go_sem, Ret_eq Try.results156] | simp (disch := omega) only [arith, IntKind.bits, capMax, fill_len, elt_fill] | fail)
    · repeat' (first | simp only [go_sem, Ret_eq Try.results156] | simp (disch := omega) only [arith, IntKind.bits, capMax, fill_len, elt_fill] | fail)

theorem lot_fun (x b : Int) (h : 1 ≤ b ∧ b ≤ 2147483648) : Fun Try.prog 157 [.v (.int .u64 x), .v (.int .i64 b)] fun r => r = .tup [.v (.int .i64 (lotOf (nxt x) b)), .v (.int .u64 (nxt x)), .v (.int .i64 0)] := by
  have hb := bound_fun b
  rw [decide_eq_true h] at hb
  have hr := nxt_range x
  have hl := lotOf_range (x := nxt x) h.1
  have hn := next_fun x
  unfold lotOf at hl
  show Fun Try.prog 157 [.v (.int .u64 x), .v (.int .i64 b)] fun r => r = .tup [.v (.int .i64 (nxt x / 8589934592 % b)), .v (.int .u64 (nxt x)), .v (.int .i64 0)]
  generalize nxt x = y at *
  have e1 : y.fdiv 8589934592 = y / 8589934592 := Int.fdiv_eq_ediv_of_nonneg _ (by decide)
  have e2 : (y / 8589934592).tmod b = y / 8589934592 % b := Int.tmod_eq_emod_of_nonneg (by omega)
  have e3 : IntKind.i64.wrap (y / 8589934592 % b) = y / 8589934592 % b := IntWalk.i64_in _ (by omega)
  refine Fun.of_awpI Try.func157 rfl cal157 Try.ntmps157 (by simp) fun hwf => ?_
  simp only [D.wfs, D.wf, ints_length, ints_wfs, rows_length, rows_wfs, capMax, and_true, true_and] at hwf
  repeat' (first | simp only [go_sem, e1, e2, e3, Ret_eq Try.results157] | simp (disch := omega) only [arith, IntKind.bits, capMax, fill_len, elt_fill] | (refine opCallI_rd (by simp only [go_sem, e1, e2, e3, Ret_eq Try.results157]; first | done | rfl) (hb) (by rintro _ rfl; rfl) ?_; rintro _ rfl) | (refine opCallI_rd (by simp only [go_sem, e1, e2, e3, Ret_eq Try.results157]; first | done | rfl) (hn) (by rintro _ rfl; rfl) ?_; rintro _ rfl) | fail)

theorem lots_own (x b : Int) (n : Nat) (h : 1 ≤ b ∧ b ≤ 2147483648) (hn : n ≤ 4096) : FunO Try.prog 132 [.v (.int .u64 x), .v (.int .i64 n), .v (.int .i64 b)] fun r o => r = .tup [.ref 0 n, .v (.int .u64 (nx x n)), .v (.int .i64 0)] ∧ o = some ⟨3, 1, ints .i64 (lotsL x b n)⟩ := by
  have hb := bound_fun b
  rw [decide_eq_true h] at hb
  refine FunO.of_awpI Try.func132 rfl cal132 Try.ntmps132 (by simp) fun hwf => ?_
  simp only [D.wfs, D.wf, ints_length, ints_wfs, rows_length, rows_wfs, capMax, and_true, true_and] at hwf
  repeat' (first | simp only [go_sem, Ret_eq Try.results132] | simp (disch := omega) only [arith, IntKind.bits, capMax, fill_len, elt_fill] | (refine opCallI_rd (by simp only [go_sem, Ret_eq Try.results132]; first | done | rfl) (hb) (by rintro _ rfl; rfl) ?_; rintro _ rfl) | fail)
  refine awpI_for n (fun k => True) (fun k => [(0, .v (.int .u64 (nx x k))), (6, .ref 39 k), (24, .v (.int .i64 k))]) (fun k => [(39, ⟨3, 1, ints .i64 (lotsL x b k)⟩)]) [2, 23] [] _ (Weak.adopt (j := 6) 39 3 1 (by simp only [go_sem, Ret_eq Try.results132]) (by simp only [go_sem, Ret_eq Try.results132]) (by decide)) trivial ?_ ?_ ?_
  · simp only [go_sem, nx, Ret_eq Try.results132]
  · simp only [go_sem, lotsL, ints_nil, Ret_eq Try.results132]
  · intro k s hk _ hs
    simp only [go_sem, Ret_eq Try.results132] at hs
    by_cases hka : k < n
    · have hl := lot_fun (nx x k) b h
      have e1 : lotsL x b (k + 1) = lotsL x b k ++ [lotOf (nxt (nx x k)) b] := rfl
      have e2 : nx x (k + 1) = nxt (nx x k) := rfl
      have hle := lotsL_length x b k
      repeat' (first | simp only [go_sem, hs, e1, e2, hle, List.length_append, Ret_eq Try.results132] | simp (disch := omega) only [arith, IntKind.bits, capMax, fill_len, elt_fill] | (refine Again.up (by omega) ?_ ?_) | (refine opCallI_rd (by simp only [go_sem, hs, e1, e2, hle, List.length_append, Ret_eq Try.results132]; first | done | rfl) (hl) (by rintro _ rfl; rfl) ?_; rintro _ rfl) | fail)
    · obtain rfl : k = n := by omega
      have hle := lotsL_length x b k
      repeat' (first | simp only [go_sem, hs, hle, Ret_eq Try.results132] | simp (disch := omega) only [arith, IntKind.bits, capMax, fill_len, elt_fill] | refine RetO_calc Try.results132 ?_ | fail)
theorem lots_fun (x b : Int) (n : Nat) (h : 1 ≤ b ∧ b ≤ 2147483648) (hn : n ≤ 4096) : Fun Try.prog 132 [.v (.int .u64 x), .v (.int .i64 n), .v (.int .i64 b)] fun r => r = .tup [.lst (ints .i64 (lotsL x b n)), .v (.int .u64 (nx x n)), .v (.int .i64 0)] := by
  refine (lots_own x b n h hn).toFun ?_
  rintro r o ⟨rfl, rfl⟩
  have hle := lotsL_length x b n
  have ht : (lotsL x b n).take n = lotsL x b n := List.take_of_length_le (by omega)
  refine ⟨by simp only [go_sem, hle, ht, Ret_eq Try.results132], by simp only [go_sem, hle, ht, Ret_eq Try.results132], ?_⟩
  simp only [go_sem, hle, ht, Ret_eq Try.results132]
end Go.Proofs.Ytpkampecmlpfmaa.T

end
section
set_option linter.unusedSimpArgs false
set_option linter.unusedVariables false
/- Whether one of many vectors is odd, walked. -/
namespace Go.Proofs.Ytpkampecmlpfmaa.T
open Go Go.VL Go.Proofs
set_option maxRecDepth 100000
set_option maxHeartbeats 4000000
theorem anyv_take_snoc {p : List Int → Bool} {l : List (List Int)} {k : Nat} (h : k < l.length) : (l.take (k + 1)).any p = ((l.take k).any p || p (l.getD k [])) := by
  rw [take_snoc (d := []) h, List.any_append]; simp
theorem anyv_of_take {p : List Int → Bool} {l : List (List Int)} {k : Nat} (h : k < l.length) (hp : p (l.getD k []) = true) : l.any p = true := by
  rw [List.any_eq_true]
  exact ⟨_, getD_mem h, hp⟩

theorem indexFuncV_fun (l : List (List Int)) (p : List Int → Bool) (g : FuncId) (caps : List D) (hc1 : D.idss caps = []) (hc2 : D.noRefs caps = true) (hc3 : D.nrms caps = caps)
    (hg : ∀ c ∈ l, Fun Try.prog g (.lst (ints .i16 c) :: caps) fun r => r = .v (.bool (p c))) :
    Fun Try.prog 153 [.lst (rows .i16 l), .clos (.func g) caps] fun r => ∃ z : Int, r = .v (.int .i64 z) ∧ (0 ≤ z ↔ l.any p = true) := by
  refine Fun.of_awpI Try.func153 rfl cal153 Try.ntmps153 (by simp) fun hwf => ?_
  simp only [D.wfs, D.wf, ints_length, ints_wfs, rows_length, rows_wfs, capMax, and_true, true_and] at hwf
  repeat' (first | simp only [go_sem, Ret_eq Try.results153] | fail)
  refine awpI_for l.length (fun k => (l.take k).any p = false) (fun k => [(8, .v (.int .i64 k))]) (fun _ => []) [0, 1, 7] [] _ (Weak.refl _) (by simp) ?_ ?_ ?_
  · simp only [go_sem, Ret_eq Try.results153]
  · simp only [go_sem, Ret_eq Try.results153]
  · intro k s hk hQ hs
    simp only [go_sem, Ret_eq Try.results153] at hs
    by_cases hka : k < l.length
    · have hgk := hg _ (getD_mem (d := []) hka)
      have e := anyv_take_snoc (p := p) hka
      rw [hQ, Bool.false_or] at e
      have e2 := anyv_of_take (p := p) hka
      generalize p (l.getD k []) = b at *
      cases b
      · repeat' (first | simp only [go_sem, hs, hc1, hc2, hc3, Ret_eq Try.results153] | simp (disch := omega) only [arith, IntKind.bits, capMax, fill_len, elt_fill] | (refine Again.up (by omega) ?_ ?_) | (refine opCallI_rd (by simp only [go_sem, hs, hc1, hc2, hc3, Ret_eq Try.results153]; first | done | rfl) (hgk) (by rintro _ rfl; rfl) ?_; rintro _ rfl) | fail)
        exact e
      · repeat' (first | simp only [go_sem, hs, hc1, hc2, hc3, Ret_eq Try.results153] | simp (disch := omega) only [arith, IntKind.bits, capMax, fill_len, elt_fill] | (refine opCallI_rd (by simp only [go_sem, hs, hc1, hc2, hc3, Ret_eq Try.results153]; first | done | rfl) (hgk) (by rintro _ rfl; rfl) ?_; rintro _ rfl) | fail)
        exact ⟨_, rfl, fun _ => e2 rfl, fun _ => by omega⟩
    · obtain rfl : k = l.length := by omega
      rw [List.take_length] at hQ
      repeat' (first | simp only [go_sem, hs, Ret_eq Try.results153] | simp (disch := omega) only [arith, IntKind.bits, capMax, fill_len, elt_fill] | fail)
      exact ⟨_, rfl, fun h => absurd h (by decide), fun h => by rw [hQ] at h; cases h⟩

theorem containsFuncV_fun (l : List (List Int)) (p : List Int → Bool) (g : FuncId) (caps : List D) (hc1 : D.idss caps = []) (hc2 : D.noRefs caps = true) (hc3 : D.nrms caps = caps)
    (hg : ∀ c ∈ l, Fun Try.prog g (.lst (ints .i16 c) :: caps) fun r => r = .v (.bool (p c))) :
    Fun Try.prog 123 [.lst (rows .i16 l), .clos (.func g) caps] fun r => r = .v (.bool (l.any p)) := by
  refine Fun.of_awpI Try.func123 rfl cal123 Try.ntmps123 (by simp) fun hwf => ?_
  simp only [D.wfs, D.wf, ints_length, ints_wfs, rows_length, rows_wfs, capMax, and_true, true_and] at hwf
  repeat' (first | simp only [go_sem, hc1, hc2, hc3, Ret_eq Try.results123] | (refine opCallI_gv (by simp only [go_sem, hc1, hc2, hc3, Ret_eq Try.results123]; first | done | rfl) (indexFuncV_fun l p g caps hc1 hc2 hc3 hg) ?_; rintro _ ⟨z, rfl, hz⟩) | fail)
  rw [Bool.eq_iff_iff, decide_eq_true_eq]
  omega
end Go.Proofs.Ytpkampecmlpfmaa.T

end
section
set_option linter.unusedSimpArgs false
set_option linter.unusedVariables false
/- Few slots, walked. -/
namespace Go.Proofs.Ytpkampecmlpfmaa.T
open Go Go.VL Go.Proofs
set_option maxRecDepth 100000
set_option maxHeartbeats 4000000
def fewSlots (ids : List Int) (vecs : List (List Int)) : Prop := (∀ v ∈ vecs, v.length ≤ 100) ∧ ((ids.length ≤ 60 ∧ vecs.length ≤ 60) ∨ (ids.length = 257 ∧ vecs.length = 257))
instance (ids : List Int) (vecs : List (List Int)) : Decidable (fewSlots ids vecs) := by unfold fewSlots; infer_instance

theorem fewSlots_fun (dim : Int) (ids : List Int) (vecs : List (List Int)) : Fun Try.prog 32 [slotsD dim ids vecs] fun r => r = .v (.bool (decide (fewSlots ids vecs))) := by
  refine Fun.of_awpI Try.func32 rfl cal32 Try.ntmps32 (by simp) fun hwf => ?_
  simp only [D.wfs, D.wf, ints_length, ints_wfs, rows_length, rows_wfs, capMax, and_true, true_and] at hwf
  repeat' (first | simp only [go_sem, Ret_eq Try.results32] | fail)
  refine awpI_for vecs.length (fun k => ∀ i, i < k → (vecs.getD i []).length ≤ 100) (fun k => [(8, .v (.int .i64 k))]) (fun _ => []) [1, 6, 7] [1] _ (Weak.refl _) (fun i hi => absurd hi (Nat.not_lt_zero _)) ?_ ?_ ?_
  · simp only [go_sem, Ret_eq Try.results32]
  · simp only [go_sem, Ret_eq Try.results32]
  · intro k s hk hQ hs
    simp only [go_sem, Ret_eq Try.results32] at hs
    by_cases hka : k < vecs.length
    · by_cases q : (vecs.getD k []).length ≤ 100
      · repeat' (first | simp only [go_sem, hs, Ret_eq Try.results32] | simp (disch := omega) only [arith, IntKind.bits, capMax, fill_len, elt_fill] | (refine Again.up (by omega) ?_ ?_) | fail)
        intro i hi
        by_cases e : i < k
        · exact hQ i e
        · obtain rfl : i = k := by omega
          exact q
      · have hne : ¬ fewSlots ids vecs := fun r => q (r.1 _ (getD_mem (d := []) hka))
        rw [decide_eq_false hne]
        repeat' (first | simp only [go_sem, hs, Ret_eq Try.results32] | simp (disch := omega) only [arith, IntKind.bits, capMax, fill_len, elt_fill] | fail)
    · obtain rfl : k = vecs.length := by omega
      have hall : ∀ v ∈ vecs, v.length ≤ 100 := by
        intro v hv
        obtain ⟨i, hi, rfl⟩ := List.mem_iff_getElem.1 hv
        have := hQ i hi
        simpa [List.getD, hi] using this
      by_cases a : ids.length ≤ 60 ∧ vecs.length ≤ 60
      · rw [decide_eq_true ⟨hall, .inl a⟩]
        repeat' (first | simp only [go_sem, hs, Ret_eq Try.results32] | simp (disch := omega) only [arith, IntKind.bits, capMax, fill_len, elt_fill] | fail)
      · by_cases b : ids.length = 257 ∧ vecs.length = 257
        · rw [decide_eq_true ⟨hall, .inr b⟩]
          obtain ⟨b1, b2⟩ := b
          repeat' (first | simp only [go_sem, hs, b1, b2, Ret_eq Try.results32] | fail)
        · have hne : ¬ fewSlots ids vecs := fun r => r.2.elim a b
          rw [decide_eq_false hne]
          by_cases c1 : ids.length = 257
          · have hbe : ((vecs.length : Int) == 257) = false := beq_eq_false_iff_ne.2 (by omega)
            repeat' (first | simp only [go_sem, hs, c1, hbe, Ret_eq Try.results32] | simp (disch := omega) only [arith, IntKind.bits, capMax, fill_len, elt_fill] | fail)
          · have hbe : ((ids.length : Int) == 257) = false := beq_eq_false_iff_ne.2 (by omega)
            by_cases c2 : ids.length ≤ 60
            · repeat' (first | simp only [go_sem, hs, hbe, Ret_eq Try.results32] | simp (disch := omega) only [arith, IntKind.bits, capMax, fill_len, elt_fill] | fail)
            · repeat' (first | simp only [go_sem, hs, hbe, Ret_eq Try.results32] | simp (disch := omega) only [arith, IntKind.bits, capMax, fill_len, elt_fill] | fail)
end Go.Proofs.Ytpkampecmlpfmaa.T

end
section
set_option linter.unusedSimpArgs false
set_option linter.unusedVariables false
/- What gathers a sample: checked, told the same, new, few; walked. -/
namespace Go.Proofs.Ytpkampecmlpfmaa.T
open Go Go.VL Go.Proofs
set_option maxRecDepth 100000
set_option maxHeartbeats 4000000
def oddV (v : List Int) : Bool := decide (vecErr v ≠ 0)
theorem oddV_none {s : List (List Int)} : s.any oddV = false ↔ ∀ v ∈ s, vecErr v = 0 := by
  rw [List.any_eq_false]
  constructor
  · intro h v hv
    have := h v hv
    unfold oddV at this
    simpa using this
  · intro h v hv
    unfold oddV
    simp [h v hv]

theorem trainOdd_fun (v : List Int) : Fun Try.prog 133 [.lst (ints .i16 v)] fun r => r = .v (.bool (oddV v)) := by
  refine Fun.of_awpI Try.func133 rfl cal133 Try.ntmps133 (by simp) fun hwf => ?_
  simp only [D.wfs, D.wf, ints_length, ints_wfs, rows_length, rows_wfs, capMax, and_true, true_and] at hwf
  unfold oddV
  by_cases h : vecErr v = 0
  · repeat' (first | simp only [go_sem, h, Ret_eq Try.results133] | (refine opCallI_rd (by simp only [go_sem, h, Ret_eq Try.results133]; first | done | rfl) (vecCheck_fun v) (by rintro _ rfl; rfl) ?_; rintro _ rfl) | fail)
    all_goals simp
  · have hb : (vecErr v == 0) = false := beq_eq_false_iff_ne.2 h
    repeat' (first | simp only [go_sem, hb, Ret_eq Try.results133] | (refine opCallI_rd (by simp only [go_sem, hb, Ret_eq Try.results133]; first | done | rfl) (vecCheck_fun v) (by rintro _ rfl; rfl) ?_; rintro _ rfl) | fail)
    all_goals simp [h]
def trainE (a : Int) (s : List (List Int)) : Int := if trainOk a s then 0 else 1

theorem trainCheck_fun (x a : Int) (s : List (List Int)) : Fun Try.prog 75 [trainD x a s] fun r => r = .v (.int .i64 (trainE a s)) := by
  have hc := containsFuncV_fun s oddV 133 [] rfl rfl rfl (fun c _ => trainOdd_fun c)
  refine Fun.of_awpI Try.func75 rfl cal75 Try.ntmps75 (by simp) fun hwf => ?_
  simp only [D.wfs, D.wf, ints_length, ints_wfs, rows_length, rows_wfs, capMax, and_true, true_and] at hwf
  unfold trainE
  by_cases h1 : (s.length : Int) ≤ a
  · by_cases h2 : a ≤ 4096
    · by_cases h3 : s.any oddV = false
      · rw [if_pos ⟨h1, h2, oddV_none.1 h3⟩]
        rw [h3] at hc
        repeat' (first | simp only [go_sem, Ret_eq Try.results75] | simp (disch := omega) only [arith, IntKind.bits, capMax, fill_len, elt_fill] | (refine opCallI_rd (by simp only [go_sem, Ret_eq Try.results75]; first | done | rfl) (hc) (by rintro _ rfl; rfl) ?_; rintro _ rfl) | fail)
      · rw [if_neg (fun q => h3 (oddV_none.2 q.2.2))]
        have h4 : s.any oddV = true := by simpa using h3
        rw [h4] at hc
        repeat' (first | simp only [go_sem, Ret_eq Try.results75] | simp (disch := omega) only [arith, IntKind.bits, capMax, fill_len, elt_fill] | (refine opCallI_rd (by simp only [go_sem, Ret_eq Try.results75]; first | done | rfl) (hc) (by rintro _ rfl; rfl) ?_; rintro _ rfl) | fail)
    · rw [if_neg (fun q => h2 q.2.1)]
      repeat' (first | simp only [go_sem, Ret_eq Try.results75] | simp (disch := omega) only [arith, IntKind.bits, capMax, fill_len, elt_fill] | fail)
  · rw [if_neg (fun q => h1 q.1)]
    repeat' (first | simp only [go_sem, Ret_eq Try.results75] | simp (disch := omega) only [arith, IntKind.bits, capMax, fill_len, elt_fill] | fail)
def chkE (a : Int) (s : List (List Int)) (budget all : Int) : Int := if chkOk a s budget all then 0 else 1

theorem chk_fun (x a : Int) (s : List (List Int)) (budget all : Int) : Fun Try.prog 131 [trainD x a s, .v (.int .i64 budget), .v (.int .i64 all)] fun r => r = .v (.int .i64 (chkE a s budget all)) := by
  have hc := trainCheck_fun x a s
  refine Fun.of_awpI Try.func131 rfl cal131 Try.ntmps131 (by simp) fun hwf => ?_
  simp only [D.wfs, D.wf, ints_length, ints_wfs, rows_length, rows_wfs, capMax, and_true, true_and] at hwf
  unfold chkE
  by_cases h1 : trainOk a s
  · have e1 : trainE a s = 0 := if_pos h1
    rw [e1] at hc
    by_cases h2 : 1 ≤ budget
    · by_cases h3 : budget ≤ 1024
      · by_cases h4 : 0 ≤ all
        · by_cases h5 : all ≤ 4096
          · rw [if_pos ⟨h1, ⟨h2, h3⟩, h4, h5⟩]
            repeat' (first | simp only [go_sem, Ret_eq Try.results131] | simp (disch := omega) only [arith, IntKind.bits, capMax, fill_len, elt_fill] | (refine opCallI_rd (by simp only [go_sem, Ret_eq Try.results131]; first | done | rfl) (hc) (by rintro _ rfl; rfl) ?_; rintro _ rfl) | fail)
          · rw [if_neg (fun q => h5 q.2.2.2)]
            repeat' (first | simp only [go_sem, Ret_eq Try.results131] | simp (disch := omega) only [arith, IntKind.bits, capMax, fill_len, elt_fill] | (refine opCallI_rd (by simp only [go_sem, Ret_eq Try.results131]; first | done | rfl) (hc) (by rintro _ rfl; rfl) ?_; rintro _ rfl) | fail)
        · rw [if_neg (fun q => h4 q.2.2.1)]
          repeat' (first | simp only [go_sem, Ret_eq Try.results131] | simp (disch := omega) only [arith, IntKind.bits, capMax, fill_len, elt_fill] | (refine opCallI_rd (by simp only [go_sem, Ret_eq Try.results131]; first | done | rfl) (hc) (by rintro _ rfl; rfl) ?_; rintro _ rfl) | fail)
      · rw [if_neg (fun q => h3 q.2.1.2)]
        repeat' (first | simp only [go_sem, Ret_eq Try.results131] | simp (disch := omega) only [arith, IntKind.bits, capMax, fill_len, elt_fill] | (refine opCallI_rd (by simp only [go_sem, Ret_eq Try.results131]; first | done | rfl) (hc) (by rintro _ rfl; rfl) ?_; rintro _ rfl) | fail)
    · rw [if_neg (fun q => h2 q.2.1.1)]
      repeat' (first | simp only [go_sem, Ret_eq Try.results131] | simp (disch := omega) only [arith, IntKind.bits, capMax, fill_len, elt_fill] | (refine opCallI_rd (by simp only [go_sem, Ret_eq Try.results131]; first | done | rfl) (hc) (by rintro _ rfl; rfl) ?_; rintro _ rfl) | fail)
  · have e1 : trainE a s = 1 := if_neg h1
    rw [e1] at hc
    rw [if_neg (fun q => h1 q.1)]
    repeat' (first | simp only [go_sem, Ret_eq Try.results131] | (refine opCallI_rd (by simp only [go_sem, Ret_eq Try.results131]; first | done | rfl) (hc) (by rintro _ rfl; rfl) ?_; rintro _ rfl) | fail)

theorem trainSame_fun (x a : Int) (s : List (List Int)) (x2 a2 : Int) (s2 : List (List Int)) : Fun Try.prog 76 [trainD x a s, trainD x2 a2 s2] fun r => r = .v (.bool (decide (x = x2 ∧ a = a2 ∧ s = s2))) := by
  have h3 := equalVecs_fun s s2
  refine Fun.of_awpI Try.func76 rfl cal76 Try.ntmps76 (by simp) fun hwf => ?_
  simp only [D.wfs, D.wf, ints_length, ints_wfs, rows_length, rows_wfs, capMax, and_true, true_and] at hwf
  by_cases g1 : x = x2
  · have b1 : (x == x2) = true := beq_iff_eq.2 g1
    by_cases g2 : a = a2
    · have b2 : (a == a2) = true := beq_iff_eq.2 g2
      have e : decide (x = x2 ∧ a = a2 ∧ s = s2) = decide (s = s2) := by simp [g1, g2]
      rw [e]
      repeat' (first | simp only [go_sem, b1, b2, Ret_eq Try.results76] | (refine opCallI_rd (by simp only [go_sem, b1, b2, Ret_eq Try.results76]; first | done | rfl) (h3) (by rintro _ rfl; rfl) ?_; rintro _ rfl) | fail)
    · have b2 : (a == a2) = false := beq_eq_false_iff_ne.2 g2
      rw [decide_eq_false (fun q => g2 q.2.1)]
      repeat' (first | simp only [go_sem, b1, b2, Ret_eq Try.results76] | fail)
  · have b1 : (x == x2) = false := beq_eq_false_iff_ne.2 g1
    rw [decide_eq_false (fun q => g1 q.1)]
    repeat' (first | simp only [go_sem, b1, Ret_eq Try.results76] | fail)

theorem trainNew_fun (n : Int) (h : 0 ≤ n ∧ n ≤ 9223372036854775807) : Fun Try.prog 77 [.v (.int .i64 n)] fun r => r = .tup [trainD n 0 [], .v (.int .i64 0)] := by
  refine Fun.of_awpI Try.func77 rfl cal77 Try.ntmps77 (by simp) fun hwf => ?_
  simp only [D.wfs, D.wf, ints_length, ints_wfs, rows_length, rows_wfs, capMax, and_true, true_and] at hwf
  repeat' (first | simp only [go_sem, rows_nil, Ret_eq Try.results77] | simp (disch := omega) only [arith, IntKind.bits, capMax, fill_len, elt_fill] | fail)
  all_goals rfl

theorem steps_fun (x a : Int) (s : List (List Int)) (budget all : Int) : Fun Try.prog 82 [trainD x a s, .v (.int .i64 budget), .v (.int .i64 all)] fun r => r = .tup [.v (.int .i64 (if chkOk a s budget all then (max (all - a) 0 + budget - 1) / budget else 0)), .v (.int .i64 (chkE a s budget all))] := by
  have hc := chk_fun x a s budget all
  refine Fun.of_awpI Try.func82 rfl cal82 Try.ntmps82 (by simp) fun hwf => ?_
  simp only [D.wfs, D.wf, ints_length, ints_wfs, rows_length, rows_wfs, capMax, and_true, true_and] at hwf
  by_cases h : chkOk a s budget all
  · have e1 : chkE a s budget all = 0 := if_pos h
    rw [e1] at hc ⊢
    rw [if_pos h]
    obtain ⟨⟨h1, h2, h3⟩, h4, h5⟩ := h
    have e2 : (max (all - a) 0 + budget - 1).tdiv budget = (max (all - a) 0 + budget - 1) / budget := Int.tdiv_eq_ediv_of_nonneg (by omega)
    have e3 : 0 ≤ (max (all - a) 0 + budget - 1) / budget := Int.ediv_nonneg (by omega) (by omega)
    have e4 : (max (all - a) 0 + budget - 1) / budget ≤ max (all - a) 0 + budget - 1 := Int.ediv_le_self _ (by omega)
    have eM : (if 0 > all - a then (0 : Int) else all - a) = max (all - a) 0 := by split <;> omega
    repeat' (first | simp only [go_sem, e2, Ret_eq Try.results82] | simp (disch := omega) only [arith, IntKind.bits, capMax, fill_len, elt_fill] | (refine opCallI_rd (by simp only [go_sem, e2, Ret_eq Try.results82]; first | done | rfl) (hc) (by rintro _ rfl; rfl) ?_; rintro _ rfl) | fail)
    rw [eM, show IntKind.i64.wrap ((max (all - a) 0 + budget - 1) / budget) = (max (all - a) 0 + budget - 1) / budget from IntWalk.i64_in _ (by omega)]
  · have e1 : chkE a s budget all = 1 := if_neg h
    rw [e1] at hc ⊢
    rw [if_neg h]
    repeat' (first | simp only [go_sem, Ret_eq Try.results82] | (refine opCallI_rd (by simp only [go_sem, Ret_eq Try.results82]; first | done | rfl) (hc) (by rintro _ rfl; rfl) ?_; rintro _ rfl) | fail)

theorem trainLive_fun : Fun Try.prog 71 [] fun r => r = .v (.bool true) := by
  have h0 := trainNew_fun 5 (by decide)
  have h1 := steps_fun 5 0 [] 3 7
  rw [if_pos (by decide +kernel), show chkE 0 [] 3 7 = 0 by decide +kernel] at h1
  simp only [trainD, rows_nil] at h0 h1
  refine Fun.of_awpI Try.func71 rfl cal71 Try.ntmps71 (by simp) fun hwf => ?_
  simp only [D.wfs, D.wf, ints_length, ints_wfs, rows_length, rows_wfs, capMax, and_true, true_and] at hwf
  repeat' (first | simp only [go_sem, Ret_eq Try.results71] | simp (disch := omega) only [arith, IntKind.bits, capMax, fill_len, elt_fill] | (refine opCallI_gv (by simp only [go_sem, Ret_eq Try.results71]; first | done | rfl) (h0) ?_; rintro _ rfl) | (refine opCallI_rd (by simp only [go_sem, Ret_eq Try.results71]; first | done | rfl) (h1) (by rintro _ rfl; rfl) ?_; rintro _ rfl) | fail)
def fewT (s : List (List Int)) : Prop := (∀ v ∈ s, v.length ≤ 100) ∧ s.length ≤ 100
instance (s : List (List Int)) : Decidable (fewT s) := by unfold fewT; infer_instance

theorem fewT_fun (x a : Int) (s : List (List Int)) : Fun Try.prog 72 [trainD x a s] fun r => r = .v (.bool (decide (fewT s))) := by
  refine Fun.of_awpI Try.func72 rfl cal72 Try.ntmps72 (by simp) fun hwf => ?_
  simp only [D.wfs, D.wf, ints_length, ints_wfs, rows_length, rows_wfs, capMax, and_true, true_and] at hwf
  repeat' (first | simp only [go_sem, Ret_eq Try.results72] | fail)
  refine awpI_for s.length (fun k => ∀ i, i < k → (s.getD i []).length ≤ 100) (fun k => [(8, .v (.int .i64 k))]) (fun _ => []) [1, 6, 7] [1] _ (Weak.refl _) (fun i hi => absurd hi (Nat.not_lt_zero _)) ?_ ?_ ?_
  · simp only [go_sem, Ret_eq Try.results72]
  · simp only [go_sem, Ret_eq Try.results72]
  · intro k st hk hQ hs
    simp only [go_sem, Ret_eq Try.results72] at hs
    by_cases hka : k < s.length
    · by_cases q : (s.getD k []).length ≤ 100
      · repeat' (first | simp only [go_sem, hs, Ret_eq Try.results72] | simp (disch := omega) only [arith, IntKind.bits, capMax, fill_len, elt_fill] | (refine Again.up (by omega) ?_ ?_) | fail)
        intro i hi
        by_cases e : i < k
        · exact hQ i e
        · obtain rfl : i = k := by omega
          exact q
      · have hne : ¬ fewT s := fun r => q (r.1 _ (getD_mem (d := []) hka))
        rw [decide_eq_false hne]
        repeat' (first | simp only [go_sem, hs, Ret_eq Try.results72] | simp (disch := omega) only [arith, IntKind.bits, capMax, fill_len, elt_fill] | fail)
    · obtain rfl : k = s.length := by omega
      have hall : ∀ v ∈ s, v.length ≤ 100 := by
        intro v hv
        obtain ⟨i, hi, rfl⟩ := List.mem_iff_getElem.1 hv
        have := hQ i hi
        simpa [List.getD, hi] using this
      by_cases a : s.length ≤ 100
      · rw [decide_eq_true ⟨hall, a⟩]
        repeat' (first | simp only [go_sem, hs, Ret_eq Try.results72] | simp (disch := omega) only [arith, IntKind.bits, capMax, fill_len, elt_fill] | fail)
        exact decide_eq_true (by omega)
      · rw [decide_eq_false (fun q => a q.2)]
        repeat' (first | simp only [go_sem, hs, Ret_eq Try.results72] | simp (disch := omega) only [arith, IntKind.bits, capMax, fill_len, elt_fill] | fail)
        exact decide_eq_false (by omega)

theorem sameVecs_fun (a b : List (List Int)) : Fun Try.prog 74 [.lst (rows .i16 a), .lst (rows .i16 b)] fun r => r = .v (.bool (decide (a = b))) := by
  refine Fun.of_awpI Try.func74 rfl cal74 Try.ntmps74 (by simp) fun hwf => ?_
  simp only [D.wfs, D.wf, ints_length, ints_wfs, rows_length, rows_wfs, capMax, and_true, true_and] at hwf
  by_cases hl : a.length = b.length
  · repeat' (first | simp only [go_sem, hl, bne_self_eq_false, Ret_eq Try.results74] | fail)
    refine awpI_for b.length (fun k => a.take k = b.take k) (fun k => [(13, .v (.int .i64 k))]) (fun _ => []) [0, 1, 12] [] _ (Weak.refl _) (by simp) ?_ ?_ ?_
    · simp only [go_sem, Ret_eq Try.results74]
    · simp only [go_sem, Ret_eq Try.results74]
    · intro k s hk hQ hs
      simp only [go_sem, Ret_eq Try.results74] at hs
      by_cases hka : k < b.length
      · have hka2 : k < a.length := by omega
        have e1 := take_snoc (a := a) (d := ([] : List Int)) hka2
        have e2 := take_snoc (a := b) (d := ([] : List Int)) hka
        have hs1 := refSame16_fun (a.getD k []) (b.getD k [])
        by_cases hv : a.getD k [] = b.getD k []
        · rw [decide_eq_true hv] at hs1
          repeat' (first | simp only [go_sem, hs, Ret_eq Try.results74] | simp (disch := omega) only [arith, IntKind.bits, capMax, fill_len, elt_fill] | (refine awpI_draw2 (id := 6) (.one false 0 (.one false 1 (.one false 2 (.one false 3 (.one false 4 (.one false 5 (.one false 6 (.one false 7 (.only 8 (.one false 9 .done)))))))))) mixed (by decide +kernel) (by decide +kernel) ?_) | (refine Again.up (by omega) ?_ ?_) | (refine opCallI_rd (by simp only [go_sem, hs, Ret_eq Try.results74]; first | done | rfl) (hs1) (by rintro _ rfl; rfl) ?_; rintro _ rfl) | fail)
          rw [e1, e2, hQ, hv]
        · rw [decide_eq_false hv] at hs1
          have hne : a ≠ b := fun q => hv (by rw [q])
          repeat' (first | simp only [go_sem, hs, decide_eq_false hne, Ret_eq Try.results74] | simp (disch := omega) only [arith, IntKind.bits, capMax, fill_len, elt_fill] | (refine awpI_draw2 (id := 6) (.one false 0 (.one false 1 (.one false 2 (.one false 3 (.one false 4 (.one false 5 (.one false 6 (.one false 7 (.only 8 (.one false 9 .done)))))))))) mixed (by decide +kernel) (by decide +kernel) ?_) | (refine opCallI_rd (by simp only [go_sem, hs, decide_eq_false hne, Ret_eq Try.results74]; first | done | rfl) (hs1) (by rintro _ rfl; rfl) ?_; rintro _ rfl) | fail)
      · obtain rfl : k = b.length := by omega
        have hQ3 : a = b := by
          rw [List.take_length, ← hl, List.take_length] at hQ; exact hQ
        repeat' (first | simp only [go_sem, hs, decide_eq_true hQ3, Ret_eq Try.results74] | simp (disch := omega) only [arith, IntKind.bits, capMax, fill_len, elt_fill] | fail)
  · have hne : a ≠ b := fun q => hl (by rw [q])
    have hb : ((a.length : Int) == (b.length : Int)) = false := beq_eq_false_iff_ne.2 (by omega)
    repeat' (first | simp only [go_sem, decide_eq_false hne, hb, Ret_eq Try.results74] | simp (disch := omega) only [arith, IntKind.bits, capMax, fill_len, elt_fill] | fail)
end Go.Proofs.Ytpkampecmlpfmaa.T

end
section
set_option linter.unusedSimpArgs false
set_option linter.unusedVariables false
/- A step, walked. -/
namespace Go.Proofs.Ytpkampecmlpfmaa.T
open Go Go.VL Go.Proofs
set_option maxRecDepth 100000
set_option maxHeartbeats 8000000
theorem step_bad (x a : Int) (s : List (List Int)) (dim : Int) (ids : List Int) (vecs : List (List Int)) (budget all : Int) (h : ¬ (chkOk a s budget all ∧ slotsOk dim ids vecs)) :
    Fun Try.prog 73 [trainD x a s, slotsD dim ids vecs, .v (.int .i64 budget), .v (.int .i64 all)] fun r => r = .tup [trainD 0 0 [], .v (.bool false), .v (.int .i64 1)] := by
  have hc1 := chk_fun x a s budget all
  have hc2 := slotsCheck_fun dim ids vecs
  by_cases hk : chkOk a s budget all
  · rw [show chkE a s budget all = 0 from if_pos hk] at hc1
    rw [show slotsErr dim ids vecs = 1 from if_neg (fun q => h ⟨hk, q⟩)] at hc2
    refine Fun.of_awpI Try.func73 rfl cal73 Try.ntmps73 (by simp) fun hwf => ?_
    simp only [D.wfs, D.wf, ints_length, ints_wfs, rows_length, rows_wfs, capMax, and_true, true_and] at hwf
    repeat' (first | simp only [go_sem, rows_nil, Ret_eq Try.results73] | (refine opCallI_rd (by simp only [go_sem, rows_nil, Ret_eq Try.results73]; first | done | rfl) (hc1) (by rintro _ rfl; rfl) ?_; rintro _ rfl) | (refine opCallI_rd (by simp only [go_sem, rows_nil, Ret_eq Try.results73]; first | done | rfl) (hc2) (by rintro _ rfl; rfl) ?_; rintro _ rfl) | fail)
    all_goals rfl
  · rw [show chkE a s budget all = 1 from if_neg hk] at hc1
    refine Fun.of_awpI Try.func73 rfl cal73 Try.ntmps73 (by simp) fun hwf => ?_
    simp only [D.wfs, D.wf, ints_length, ints_wfs, rows_length, rows_wfs, capMax, and_true, true_and] at hwf
    repeat' (first | simp only [go_sem, rows_nil, Ret_eq Try.results73] | (refine opCallI_rd (by simp only [go_sem, rows_nil, Ret_eq Try.results73]; first | done | rfl) (hc1) (by rintro _ rfl; rfl) ?_; rintro _ rfl) | fail)
    all_goals rfl
end Go.Proofs.Ytpkampecmlpfmaa.T

end
section
set_option linter.unusedVariables false
/- Lists of lists that are all owned, of whatever lengths. -/
namespace Go.Proofs.Ytpkampecmlpfmaa.T
open Go Go.VL Go.Proofs
def refsV (g : Nat → Nat) (m : Nat) : List D := (List.range m).map fun i => .ref (3000 + i) (g i)
theorem refsV_zero {g : Nat → Nat} : refsV g 0 = [] := rfl
theorem refsV_length {g : Nat → Nat} {m : Nat} : (refsV g m).length = m := by simp [refsV]
theorem refsV_get {g : Nat → Nat} {m i : Nat} (h : i < m) : (refsV g m)[i]? = some (.ref (3000 + i) (g i)) := by
  rw [refsV, List.getElem?_map, List.getElem?_range h]; rfl
theorem refsV_kills {g : Nat → Nat} {m id : Nat} (h : id < 3000) : D.kills id (refsV g m) = refsV g m := by
  rw [D.kills_eq_map, refsV, List.map_map]
  refine List.map_congr_left fun i _ => ?_
  simp only [Function.comp, D.kill]
  rw [if_neg (by omega)]
theorem appKills {id : Nat} {l m : List D} : D.kills id (l ++ m) = D.kills id l ++ D.kills id m := by
  rw [D.kills_eq_map, D.kills_eq_map, D.kills_eq_map, List.map_append]
theorem b3_ne {i c : Nat} (h : c < 3000) : (3000 + i = c) = False := eq_false (by omega)
theorem b3_ne' {i c : Nat} (h : c < 3000) : (c = 3000 + i) = False := eq_false (by omega)
def rowsV (e : TypeId) (n : Nat) (f : Nat → List Int) : List (Nat × Own) := (List.range n).map fun i => (3000 + i, ⟨e, 1, ints .i16 (f i)⟩)
theorem Heaps_rowsV {s : St} {e : TypeId} {n : Nat} {f : Nat → List Int} : Heaps s (rowsV e n f) = ∀ i, i < n → s.H (3000 + i) = some ⟨e, 1, ints .i16 (f i)⟩ := by
  rw [rowsV, Heaps_range]
  simp only [List.mem_range]
def lensOf (C : List (List Int)) : Nat → Nat := fun i => (C.getD i []).length
/-- A list of lists, all owned. -/
def ownV (eo ei : TypeId) (n : Nat) (C : List (List Int)) : Nat → Option Own := fun m => if m = 2000 then some ⟨eo, 1, refsV (lensOf C) n⟩ else if 3000 ≤ m ∧ m < 3000 + n then some ⟨ei, 1, ints .i16 (C.getD (m - 3000) [])⟩ else none
theorem ownV_ge {eo ei : TypeId} {n : Nat} {C : List (List Int)} : ∀ i o, ownV eo ei n C i = some o → 2000 ≤ i ∧ geTos 2000 o.els = true := by
  intro i o h
  unfold ownV at h
  by_cases h1 : i = 2000
  · rw [if_pos h1] at h; cases h
    refine ⟨by omega, ?_⟩
    have : ∀ l : List Nat, geTos 2000 (l.map fun i => D.ref (3000 + i) (lensOf C i)) = true := fun l => by
      induction l with
      | nil => rfl
      | cons x l ih => show (decide (2000 ≤ 3000 + x) && geTos 2000 _) = true; rw [ih, decide_eq_true (by omega)]; rfl
    exact this _
  · rw [if_neg h1] at h
    by_cases h2 : 3000 ≤ i ∧ i < 3000 + n
    · rw [if_pos h2] at h; cases h
      refine ⟨by omega, ?_⟩
      have : ∀ l : List Int, geTos 2000 (ints .i16 l) = true := fun l => by
        induction l with
        | nil => rfl
        | cons x l ih => exact ih
      exact this _
    · rw [if_neg h2] at h; cases h
theorem ownV_at {eo ei : TypeId} {n i : Nat} {C : List (List Int)} (h : i < n) : ownV eo ei n C (3000 + i) = some ⟨ei, 1, ints .i16 (C.getD i [])⟩ := by
  unfold ownV
  rw [if_neg (by omega), if_pos (by omega), show 3000 + i - 3000 = i by omega]
theorem ownV_out {eo ei : TypeId} {n : Nat} {C : List (List Int)} : ownV eo ei n C 2000 = some ⟨eo, 1, refsV (lensOf C) n⟩ := if_pos rfl
theorem ownV_low {eo ei : TypeId} {n m : Nat} {C : List (List Int)} (h : m < 2000) : ownV eo ei n C m = none := by
  unfold ownV
  rw [if_neg (by omega), if_neg (by omega)]
/-- What is handed over: an object in which the list of lists stands last. -/
theorem giveV {st : St} {n ob rid So : Nat} {C : List (List Int)} {eo ei eb : TypeId} (A : List D) (l : List (Nat × D)) (hob : ob < 2000) (hr : rid < 2000) (hne : ob ≠ rid) (hl : Slots st l) (hok : l.all (fun p => okTo 2000 p.2) = true) (hA : D.noRefs A = true)
    (hb : st.H rid = some ⟨eb, So, [.agg (A ++ [.ref ob n])]⟩) (ho : st.H ob = some ⟨eo, 1, refsV (lensOf C) n⟩) (hc : ∀ i, i < n → st.H (3000 + i) = some ⟨ei, 1, ints .i16 (C.getD i [])⟩) :
    Weak st ⟨pickT l, fun m => if m = rid then some ⟨eb, So, [.agg (A ++ [.ref 2000 n])]⟩ else ownV eo ei n C m, st.n⟩ := by
  refine Weak.move ob 2000 rfl (fun k => ?_) fun m o' hm => ?_
  · rcases pickT_of (k := k) hl hok with q | ⟨q, q2⟩
    · show ToM _ _ _ (pickT _ k); rw [q]; exact ToM.any
    · show ToM _ _ _ (pickT _ k); rw [q]; exact okTo.toM (Nat.le_refl _) q2
  · simp only at hm
    by_cases h1 : m = rid
    · rw [if_pos h1] at hm; cases hm
      exact ⟨.inr (by omega), ⟨eb, So, [.agg (A ++ [.ref ob n])]⟩, by rw [if_neg (by omega), h1]; exact hb, rfl, rfl, ⟨ToM.agg (ToMs.app (ToMs.plain hA) ⟨ToM.refTo, trivial⟩), trivial⟩⟩
    · rw [if_neg h1] at hm
      unfold ownV at hm
      by_cases h2 : m = 2000
      · rw [if_pos h2] at hm; cases hm
        exact ⟨.inl h2, _, by rw [if_pos h2]; exact ho, rfl, rfl, ToMs.range fun i _ => ToM.ref (by omega)⟩
      · rw [if_neg h2] at hm
        by_cases h3 : 3000 ≤ m ∧ m < 3000 + n
        · rw [if_pos h3] at hm; cases hm
          refine ⟨.inr (by omega), _, by rw [if_neg h2]; have := hc (m - 3000) (by omega); rw [show 3000 + (m - 3000) = m by omega] at this; exact this, rfl, rfl, ToMs.plain ints_noRefs⟩
        · rw [if_neg h3] at hm; cases hm
end Go.Proofs.Ytpkampecmlpfmaa.T

end
