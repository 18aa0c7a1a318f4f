import Derived.Test.YtpkampecmlpfmaaEQBook
set_option linter.unusedSimpArgs false
set_option linter.unusedVariables false
/- A book's text, plainly. -/
namespace Go.Proofs.Ytpkampecmlpfmaa.T
open Go Go.VL Go.Proofs
abbrev bookD (w : Int) (cuts : List (List Int)) : D := .agg [.v (.int .i64 w), .lst (rows .i16 cuts)]
def bookTxt (w : Int) (cuts : List (List Int)) : List Int := octs 8 w ++ [(cuts.length : Int), (manyOf cuts : Int)] ++ cuts.flatten.flatMap (octs 2)
def bytesB (w : Int) (cuts : List (List Int)) : List Int := if bookErr w cuts = 0 then bookTxt w cuts else []
def wayT (t : List Int) : Int := takeNum 8 t
def dimT (t : List Int) : Nat := (t.getD 8 0).toNat
def mnyT (t : List Int) : Nat := (t.getD 9 0).toNat
def numsT (t : List Int) : List Int := takeNums 2 (dimT t * mnyT t) (t.drop 10)
def cutT (l : List Int) (m : Nat) (i : Nat) : List Int := (List.range m).map fun k => l.getD (i * m + k) 0
def cutsT (t : List Int) : List (List Int) := (List.range (dimT t)).map (cutT (numsT t) (mnyT t))
def fromOk (t : List Int) : Prop := 10 ≤ t.length ∧ t.length = 10 + 2 * (dimT t * mnyT t) ∧ bookErr (wayT t) (cutsT t) = 0
instance (t : List Int) : Decidable (fromOk t) := by unfold fromOk; infer_instance
def fromE (t : List Int) : Int := if fromOk t then 0 else 2
def fromW (t : List Int) : Int := if fromOk t then wayT t else 0
def fromC (t : List Int) : List (List Int) := if fromOk t then cutsT t else []
def sizesOk (dim cells : Int) : Prop := (1 ≤ dim ∧ dim ≤ 64) ∧ 1 ≤ cells ∧ cells ≤ 16
instance (dim cells : Int) : Decidable (sizesOk dim cells) := by unfold sizesOk; infer_instance
def sizeE (dim cells : Int) : Int := if sizesOk dim cells then 0 else 1
def sizeV (dim cells : Int) : Int := if sizesOk dim cells then 10 + 2 * dim * (cells - 1) else 0
def plainCut (cells : Int) (k : Nat) : Int := ((k : Int) + 1) * 65536 / cells - 32768
def plainRow (cells : Int) : List Int := (List.range (cells - 1).toNat).map (plainCut cells)
def plainC (dim cells : Int) : List (List Int) := if sizesOk dim cells then List.replicate dim.toNat (plainRow cells) else []
theorem cutT_length {l : List Int} {m i : Nat} : (cutT l m i).length = m := by simp [cutT]
theorem cutsT_length {t : List Int} : (cutsT t).length = dimT t := by simp [cutsT]
theorem flat_cuts (l : List Int) (m : Nat) : ∀ d, ((List.range d).map (cutT l m)).flatten = (List.range (d * m)).map fun k => l.getD k 0
  | 0 => by simp
  | d + 1 => by
    rw [List.range_succ, List.map_append, List.flatten_append, flat_cuts l m d, Nat.succ_mul, List.range_add, List.map_append]
    simp only [List.map_cons, List.map_nil, List.flatten_cons, List.flatten_nil, List.append_nil, List.map_map]
    rfl
theorem range_getD (l : List Int) : ((List.range l.length).map fun k => l.getD k 0) = l := by
  apply List.ext_getElem
  · simp
  · intro i h1 h2
    simp [List.getD, h2]
theorem cutsT_flat {t : List Int} : (cutsT t).flatten = numsT t := by
  unfold cutsT
  rw [flat_cuts]
  have h : (numsT t).length = dimT t * mnyT t := takeNums_length _ _ _
  rw [← h]; exact range_getD _
theorem flat_length {m : Nat} : ∀ {c : List (List Int)}, (∀ x ∈ c, x.length = m) → c.flatten.length = c.length * m
  | [], _ => by simp
  | x :: c, h => by
    rw [List.flatten_cons, List.length_append, h x List.mem_cons_self, flat_length fun y hy => h y (List.mem_cons_of_mem _ hy), List.length_cons, Nat.succ_mul, Nat.add_comm]
theorem range_map_row {m : Nat} {x : List Int} (h : x.length = m) (l r : List Int) : ((List.range m).map fun k => (l ++ x ++ r).getD (l.length + k) 0) = x := by
  apply List.ext_getElem
  · simp [h]
  · intro i h1 h2
    simp only [List.getElem_map, List.getElem_range, List.getD]
    rw [List.append_assoc, List.getElem?_append_right (by omega), show l.length + i - l.length = i by omega, List.getElem?_append_left h2, List.getElem?_eq_getElem h2]
    rfl
theorem cuts_of_flat {m : Nat} : ∀ (c : List (List Int)) (l : List Int) (n : Nat), (∀ x ∈ c, x.length = m) → l.length = n * m → ((List.range c.length).map fun i => cutT (l ++ c.flatten) m (n + i)) = c
  | [], _, _, _, _ => rfl
  | x :: c, l, n, h, hl => by
    have hx := h x List.mem_cons_self
    rw [List.length_cons, List.range_succ_eq_map, List.map_cons, List.map_map, List.flatten_cons]
    congr 1
    · unfold cutT
      rw [show n + 0 = n from rfl, ← hl, ← List.append_assoc]
      exact range_map_row hx l c.flatten
    · have := cuts_of_flat c (l ++ x) (n + 1) (fun y hy => h y (List.mem_cons_of_mem _ hy)) (by rw [List.length_append, hx, hl, Nat.succ_mul])
      rw [List.append_assoc] at this
      rw [← this]
      rw [this]
      refine Eq.trans ?_ this
      apply List.map_congr_left
      intro i hi
      show cutT _ m (n + (i + 1)) = cutT _ m (n + 1 + i)
      rw [show n + (i + 1) = n + 1 + i by omega]
end Go.Proofs.Ytpkampecmlpfmaa.T
