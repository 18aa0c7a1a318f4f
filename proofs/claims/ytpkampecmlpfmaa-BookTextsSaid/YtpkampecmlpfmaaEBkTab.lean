import Derived.Test.YtpkampecmlpfmaaLE
import Derived.Test.YtpkampecmlpfmaaEBkBytes
import Derived.Test.YtpkampecmlpfmaaEPTake
set_option linter.unusedSimpArgs false
set_option linter.unusedVariables false
/- Lists of cuts that are filled row by row. -/
namespace Go.Proofs.Ytpkampecmlpfmaa.T
open Go Go.VL Go.Proofs
set_option maxRecDepth 100000
set_option maxHeartbeats 4000000
theorem AgainB_frz {n : Nat} {Q : Nat → Prop} {V : Nat → List (Nat × D)} {W : Nat → List (Nat × Own)} {keep hkeep : List Nat} {s0 : St} {k : Nat} {s : St} (id : Nat) (o : Own) (ho : s.H id = some o) (hn : D.noRefs o.els = true) (hw : o.els.all (fun d => d.width == o.S) = true) (h : k < n) (hQ : Q (k + 1))
    (hs : AtL V W keep hkeep s0 (k + 1) (s.frozen id (D.nrms o.els))) : @AgI s ⟨AgainW (fun k => n - k) (fun k => k ≤ n ∧ Q k) V W keep hkeep s0 k⟩ :=
  AgainW.weak (k + 1) (Weak.freeze ho hn hw) (by show n - (k + 1) < n - k; omega) ⟨h, hQ⟩ hs
def nils (m : Nat) : List D := List.replicate m (.v (.slice none 0 0))
def tab (A : List (List Int)) (m : Nat) : List D := rows .i16 A ++ nils m
def tabR (A : List (List Int)) (id len m : Nat) : List D := rows .i16 A ++ .ref id len :: nils m
def tabA (A : List (List Int)) (m : Nat) : List D := rows .i16 A ++ .any :: nils m
theorem nils_length {m : Nat} : (nils m).length = m := by simp [nils]
theorem tab_zero {m : Nat} : List.replicate m (D.v (.slice none 0 0)) = tab [] m := by simp [tab, nils, rows]
theorem tab_length {A : List (List Int)} {m : Nat} : (tab A m).length = A.length + m := by simp [tab, nils, rows]
theorem tabR_length {A : List (List Int)} {id len m : Nat} : (tabR A id len m).length = A.length + (m + 1) := by simp [tabR, nils, rows]
theorem tabA_length {A : List (List Int)} {m : Nat} : (tabA A m).length = A.length + (m + 1) := by simp [tabA, nils, rows]
theorem tab_get {A : List (List Int)} {m : Nat} : (tab A (m + 1))[A.length]? = some (.v (.slice none 0 0)) := by simp [tab, nils, rows, List.replicate_succ]
theorem tab_set {A : List (List Int)} {id len m : Nat} : (tab A (m + 1)).set A.length (.ref id len) = tabR A id len m := by
  have : (rows .i16 A).length = A.length := by simp [rows]
  unfold tab tabR
  rw [← this, List.set_append_right _ _ (Nat.le_refl _), Nat.sub_self]
  simp [nils, List.replicate_succ]
theorem tabA_set {A : List (List Int)} {id len m : Nat} : (tabA A m).set A.length (.ref id len) = tabR A id len m := by
  have : (rows .i16 A).length = A.length := by simp [rows]
  unfold tabA tabR
  rw [← this, List.set_append_right _ _ (Nat.le_refl _), Nat.sub_self]
  simp
theorem tabR_get {A : List (List Int)} {id len m : Nat} : (tabR A id len m)[A.length]? = some (.ref id len) := by
  have : (rows .i16 A).length = A.length := by simp [rows]
  unfold tabR
  rw [← this, List.getElem?_append_right (Nat.le_refl _), Nat.sub_self]
  rfl
theorem tabA_get {A : List (List Int)} {m : Nat} : (tabA A m)[A.length]? = some .any := by
  have : (rows .i16 A).length = A.length := by simp [rows]
  unfold tabA
  rw [← this, List.getElem?_append_right (Nat.le_refl _), Nat.sub_self]
  rfl
theorem tab_end {A : List (List Int)} : tab A 0 = rows .i16 A := by simp [tab, nils]
theorem nils_kills {m id : Nat} : D.kills id (nils m) = nils m := by simp [nils, D.kills_eq_map, D.kill]
theorem nils_frzs {m id : Nat} {els : List D} : D.frzs id els (nils m) = nils m := by simp [nils, D.frzs_eq, D.frz]
theorem tab_kills {A : List (List Int)} {m id : Nat} : D.kills id (tab A m) = tab A m := by
  unfold tab
  rw [D.kills_eq_map, List.map_append, ← D.kills_eq_map, ← D.kills_eq_map, nils_kills, rows_kills]
theorem tabR_kills {A : List (List Int)} {m id len : Nat} : D.kills id (tabR A id len m) = tabA A m := by
  unfold tabR tabA
  rw [D.kills_eq_map, List.map_append, ← D.kills_eq_map, rows_kills, List.map_cons, ← D.kills_eq_map, nils_kills]
  simp [D.kill]
theorem tabR_frzs {A : List (List Int)} {id m : Nat} {l : List Int} : D.frzs id (ints .i16 l) (tabR A id l.length m) = tab (A ++ [l]) m := by
  unfold tab tabR
  rw [D.frzs_eq, List.map_append, ← D.frzs_eq, rows_frzs, List.map_cons, ← D.frzs_eq, nils_frzs]
  have : (D.ref id l.length).frz id (ints .i16 l) = .lst (ints .i16 l) := by
    simp only [D.frz, if_true]
    rw [if_pos (by simp [ints])]
    congr 1
    exact List.take_of_length_le (by simp [ints])
  rw [this]
  simp [rows]
theorem nils_idss {m : Nat} : D.idss (nils m) = [] := by
  unfold nils
  induction m with
  | zero => rfl
  | succ m ih => rw [List.replicate_succ]; show _ ++ _ = _; rw [ih]; rfl
theorem idss_app : ∀ (a b : List D), D.idss (a ++ b) = D.idss a ++ D.idss b
  | [], b => rfl
  | x :: a, b => by rw [List.cons_append]; show _ ++ D.idss (a ++ b) = (_ ++ D.idss a) ++ _; rw [idss_app a b, List.append_assoc]
theorem tab_idss {A : List (List Int)} {m : Nat} : D.idss (tab A m) = [] := by unfold tab; rw [idss_app, rows_idss, nils_idss]; rfl
theorem tabR_idss {A : List (List Int)} {id len m : Nat} : D.idss (tabR A id len m) = [id] := by
  unfold tabR; rw [idss_app, rows_idss]
  show [] ++ ([id] ++ D.idss (nils m)) = _
  rw [nils_idss]; rfl
theorem tab_noRefs {A : List (List Int)} {m : Nat} : D.noRefs (tab A m) = true := by
  unfold tab nils
  rw [D.noRefs_eq, List.all_append, ← D.noRefs_eq, rows_noRefs]
  simp [D.noRef]
theorem tab_width1 {A : List (List Int)} {m : Nat} : (tab A m).all (fun d => d.width == 1) = true := by
  unfold tab nils
  rw [List.all_append, rows_width1]
  simp [D.width]
theorem tab_nrms {A : List (List Int)} {m : Nat} : D.nrms (tab A m) = rows .i16 (A ++ List.replicate m []) := by
  unfold tab nils
  rw [D.nrms_eq, List.map_append, ← D.nrms_eq, rows_nrms]
  simp [D.nrm, nilV, rows, ints]
attribute [go_sem] tab_idss tabR_idss tab_noRefs tab_width1 tab_nrms tab_zero tab_length tabR_length tabA_length tab_kills tabR_kills
theorem nums_i16 : ∀ (k : Nat) {bs : List Int}, Octets bs → 2 * k ≤ bs.length → ∀ x ∈ takeNums 2 k bs, -32768 ≤ x ∧ x ≤ 32767
  | 0, _, _, _, x, h => by cases h
  | k + 1, bs, ho, hl, x, h => by
    rw [takeNums] at h
    rcases List.mem_cons.1 h with rfl | h
    · have e := takeNum_eq (w := 2) (bs := bs) (by decide) ho (by omega)
      have hv := val_range (ho.take 2)
      rw [List.length_take, show min 2 bs.length = 2 by omega] at hv
      have := sgn_range (w := 2) (v := val (bs.take 2)) (by decide) (by omega)
      have e2 : (2 : Int) ^ (8 * 2 - 1) = 32768 := by decide
      rw [e2] at this
      have e3 : takeNum 2 bs = sgn 2 (val (bs.take 2)) := e
      rw [e3]; omega
    · refine nums_i16 k (ho.drop 2) (by rw [List.length_drop]; omega) x ?_
      simpa using h
theorem cutT_fill {l : List Int} {m i : Nat} : fill (fun j => l.getD (i * m + j) 0) (List.replicate m 0) m = cutT l m i := by
  have := fill_all (f := fun j => l.getD (i * m + j) 0) (a := List.replicate m 0)
  rw [List.length_replicate] at this
  exact this
theorem numsT_length {t : List Int} : (numsT t).length = dimT t * mnyT t := takeNums_length _ _ _
theorem cutsT_snoc {t : List Int} {k : Nat} (h : k < dimT t) : (cutsT t).take (k + 1) = (cutsT t).take k ++ [cutT (numsT t) (mnyT t) k] := by
  rw [take_snoc (d := []) (by rw [cutsT_length]; exact h)]
  congr 2
  unfold cutsT
  exact getD_map_range h
end Go.Proofs.Ytpkampecmlpfmaa.T
