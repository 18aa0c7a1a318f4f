import Derived.Test.YtpkampecmlpfmaaEBkM
set_option linter.unusedSimpArgs false
set_option linter.unusedVariables false
/- A book's text, written and read, plainly. -/
namespace Go.Proofs.Ytpkampecmlpfmaa.T
open Go Go.VL Go.Proofs
theorem i16_fits {x : Int} (h : -32768 ≤ x ∧ x ≤ 32767) : putFit 2 x = true := by
  have e : (2 : Int) ^ (8 * 2 - 1) = 32768 := by decide
  refine (putFit_iff (w := 2) (by omega) (by decide)).2 ?_
  rw [e]; omega
theorem i64_fits {x : Int} (h : -9223372036854775808 ≤ x ∧ x ≤ 9223372036854775807) : putFit 8 x = true := by
  have e : (2 : Int) ^ (8 * 8 - 1) = 9223372036854775808 := by decide
  refine (putFit_iff (w := 8) h (by decide)).2 ?_
  rw [e]; omega
theorem all_flat {p : Int → Bool} : ∀ {c : List (List Int)}, (∀ x ∈ c, ∀ n ∈ x, p n = true) → c.flatten.all p = true := by
  intro c h
  rw [List.all_eq_true]
  intro n hn
  obtain ⟨x, hx, hn⟩ := List.mem_flatten.1 hn
  exact h x hx n hn
theorem many_le {w : Int} {cuts : List (List Int)} (h : bookErr w cuts = 0) : (1 ≤ cuts.length ∧ cuts.length ≤ 64) ∧ manyOf cuts ≤ 15 := ⟨⟨(bookErr_zero.1 h).1, (bookErr_zero.1 h).2.1⟩, book_many h⟩
theorem flat_len {w : Int} {cuts : List (List Int)} (h : bookErr w cuts = 0) : cuts.flatten.length = cuts.length * manyOf cuts := flat_length fun x hx => (book_rows h x hx).1
theorem txt_length {w : Int} {cuts : List (List Int)} (h : bookErr w cuts = 0) : (bookTxt w cuts).length = 10 + 2 * (cuts.length * manyOf cuts) := by
  unfold bookTxt
  rw [List.length_append, List.length_append, octs_length, flat_octs_length, flat_len h]; rfl
theorem txt_octets {w : Int} {cuts : List (List Int)} (h : bookErr w cuts = 0) : Octets (bookTxt w cuts) := by
  unfold bookTxt
  refine Octets.append (Octets.append (octs_octets _ _) ?_) (octs_all_octets _ _)
  have := many_le h
  intro c hc
  simp only [List.mem_cons, List.not_mem_nil, or_false] at hc
  omega
theorem txt_at {w : Int} {cuts : List (List Int)} : (bookTxt w cuts).getD 8 0 = cuts.length ∧ (bookTxt w cuts).getD 9 0 = manyOf cuts ∧ (bookTxt w cuts).drop 10 = cuts.flatten.flatMap (octs 2) := by
  have h8 : (octs 8 w).length = 8 := octs_length
  unfold bookTxt
  refine ⟨?_, ?_, ?_⟩
  · rw [List.append_assoc]
    simp only [List.getD]
    rw [List.getElem?_append_right (by omega), h8]; rfl
  · rw [List.append_assoc]
    simp only [List.getD]
    rw [List.getElem?_append_right (by omega), h8]; rfl
  · exact List.drop_left' (by rw [List.length_append, h8]; rfl)
theorem txt_back {w : Int} {cuts : List (List Int)} (h : bookErr w cuts = 0) (hw : -9223372036854775808 ≤ w ∧ w ≤ 9223372036854775807) (hr : I16r cuts) : fromOk (bookTxt w cuts) ∧ wayT (bookTxt w cuts) = w ∧ cutsT (bookTxt w cuts) = cuts := by
  obtain ⟨e1, e2, e3⟩ := txt_at (w := w) (cuts := cuts)
  have hd : dimT (bookTxt w cuts) = cuts.length := by unfold dimT; rw [e1]; rfl
  have hm : mnyT (bookTxt w cuts) = manyOf cuts := by unfold mnyT; rw [e2]; rfl
  have hway : wayT (bookTxt w cuts) = w := by
    unfold wayT bookTxt
    rw [List.append_assoc]
    refine takeNum_octs (w := 8) hw (by decide) (i64_fits hw) ?_
    have := txt_octets h
    unfold bookTxt at this
    rw [List.append_assoc] at this
    exact fun c hc => this c (List.mem_append_right _ hc)
  have hn : numsT (bookTxt w cuts) = cuts.flatten := by
    unfold numsT
    rw [hd, hm, e3, ← flat_len h]
    have := takeNums_octs (w := 2) (by decide) (r := []) (fun c hc => by cases hc) (l := cuts.flatten) (fun n hn => by
      obtain ⟨x, hx, hn⟩ := List.mem_flatten.1 hn
      have := hr x hx n hn
      omega) (all_flat fun x hx n hn => i16_fits (hr x hx n hn))
    rw [List.append_nil] at this
    exact this
  have hc : cutsT (bookTxt w cuts) = cuts := by
    unfold cutsT
    rw [hd, hm, hn]
    have := cuts_of_flat (m := manyOf cuts) cuts [] 0 (fun x hx => (book_rows h x hx).1) (by simp)
    simpa using this
  refine ⟨⟨by rw [txt_length h]; omega, by rw [txt_length h, hd, hm], by rw [hway, hc]; exact h⟩, hway, hc⟩
theorem back_txt {t : List Int} (ho : Octets t) (h : fromOk t) : bookTxt (wayT t) (cutsT t) = t := by
  obtain ⟨h1, h2, h3⟩ := h
  have hb := many_le h3
  have hd : (cutsT t).length = dimT t := cutsT_length
  have hm : manyOf (cutsT t) = mnyT t := by
    have := getD_mem (a := cutsT t) (d := []) (k := 0) (by omega)
    unfold cutsT at this
    obtain ⟨i, _, hi⟩ := List.mem_map.1 this
    show ((cutsT t).getD 0 []).length = _
    unfold cutsT
    rw [← hi]; exact cutT_length
  have o8 := (ho (t.getD 8 0) (getD_mem (by omega)))
  have o9 := (ho (t.getD 9 0) (getD_mem (by omega)))
  have e8 : ((cutsT t).length : Int) = t.getD 8 0 := by rw [hd]; unfold dimT; omega
  have e9 : (manyOf (cutsT t) : Int) = t.getD 9 0 := by rw [hm]; unfold mnyT; omega
  obtain ⟨f1, f2, f3⟩ := octs_takeNum (w := 8) (bs := t) (by decide) ho (by omega)
  unfold bookTxt
  rw [e8, e9, cutsT_flat]
  have f1' : octs 8 (wayT t) = t.take 8 := f1
  rw [f1']
  obtain ⟨g1, _⟩ := flat_takeNums (w := 2) (by decide) (dimT t * mnyT t) (bs := t.drop 10) (fun c hc => ho c (List.mem_of_mem_drop hc)) (by rw [List.length_drop]; omega)
  have g1' : (numsT t).flatMap (octs 2) = t.drop 10 := by
    unfold numsT
    refine g1.trans (List.take_of_length_le (by rw [List.length_drop]; omega))
  rw [g1']
  have t8 : t.drop 8 = t.getD 8 0 :: t.drop 9 := by rw [List.drop_eq_getElem_cons (by omega)]; simp [List.getD, show 8 < t.length by omega]
  have t9 : t.drop 9 = t.getD 9 0 :: t.drop 10 := by rw [List.drop_eq_getElem_cons (by omega)]; simp [List.getD, show 9 < t.length by omega]
  have g2 : t.take 8 ++ [t.getD 8 0, t.getD 9 0] ++ t.drop 10 = t.take 8 ++ t.drop 8 := by rw [t8, t9]; simp
  rw [g2]; exact List.take_append_drop 8 t
theorem plainCut_range {cells : Int} {k : Nat} (h : 1 ≤ cells ∧ cells ≤ 16) (hk : (k : Int) + 1 < cells) : -32767 ≤ plainCut cells k ∧ plainCut cells k ≤ 32767 := by
  unfold plainCut
  have h1 : ((k : Int) + 1) * 65536 / cells ≤ 65535 := by
    have : ((k : Int) + 1) * 65536 / cells < 65536 := Int.ediv_lt_of_lt_mul (by omega) (by omega)
    omega
  have h2 : 1 ≤ ((k : Int) + 1) * 65536 / cells := by rw [Int.le_ediv_iff_mul_le (by omega)]; omega
  omega
theorem plainCut_mono {cells : Int} {j k : Nat} (h : 1 ≤ cells) (hjk : j ≤ k) : plainCut cells j ≤ plainCut cells k := by
  unfold plainCut
  have := Int.ediv_le_ediv (c := cells) (by omega) (show ((j : Int) + 1) * 65536 ≤ ((k : Int) + 1) * 65536 by omega)
  omega
theorem plainRow_getD {cells : Int} {i : Nat} (h : i < (cells - 1).toNat) : (plainRow cells).getD i 0 = plainCut cells i := by
  have h2 : i < cells.toNat - 1 := by omega
  simp [plainRow, List.getD, h2]
theorem plainRow_ok {cells : Int} (h : 1 ≤ cells ∧ cells ≤ 16) : cutsErr (plainRow cells) = 0 := by
  have hl : (plainRow cells).length = (cells - 1).toNat := by simp [plainRow]
  rw [cutsErr_zero]
  refine ⟨by omega, fun i hi => ?_, fun h0 => ?_⟩
  · rw [plainRow_getD (by omega), plainRow_getD (by omega)]
    exact plainCut_mono h.1 (by omega)
  · rw [plainRow_getD (by omega)]
    exact (plainCut_range h (by omega)).1
theorem plain_ok {dim cells : Int} (h : sizesOk dim cells) : bookErr 0 (plainC dim cells) = 0 ∧ (manyOf (plainC dim cells) : Int) = cells - 1 ∧ ((plainC dim cells).length : Int) = dim := by
  have e : plainC dim cells = List.replicate dim.toNat (plainRow cells) := if_pos h
  obtain ⟨h1, h2⟩ := h
  have hl : (plainRow cells).length = (cells - 1).toNat := by simp [plainRow]
  have hm : manyOf (plainC dim cells) = (cells - 1).toNat := by
    rw [e]; unfold manyOf
    rw [show dim.toNat = (dim.toNat - 1) + 1 by omega, List.replicate_succ]; exact hl
  refine ⟨?_, by rw [hm]; omega, by rw [e, List.length_replicate]; omega⟩
  rw [bookErr_zero]
  refine ⟨by rw [e, List.length_replicate]; omega, by rw [e, List.length_replicate]; omega, by decide, ?_⟩
  rw [List.any_eq_false]
  intro c hc
  rw [e] at hc
  rw [List.eq_of_mem_replicate hc, hm]
  unfold oddCut
  rw [plainRow_ok h2, hl]
  simp
theorem plain_i16 {dim cells : Int} : I16r (plainC dim cells) := by
  intro c hc
  unfold plainC at hc
  split at hc
  · rename_i h
    rw [List.eq_of_mem_replicate hc]
    intro x hx
    obtain ⟨k, hk, rfl⟩ := List.mem_map.1 hx
    have := plainCut_range h.2 (k := k) (by have := List.mem_range.1 hk; omega)
    omega
  · cases hc
theorem size_plain {dim cells : Int} (h : sizesOk dim cells) : ((bookTxt 0 (plainC dim cells)).length : Int) = sizeV dim cells := by
  obtain ⟨h1, h2, h3⟩ := plain_ok h
  rw [txt_length h1]
  unfold sizeV
  rw [if_pos h, ← h2, ← h3]
  grind
end Go.Proofs.Ytpkampecmlpfmaa.T
