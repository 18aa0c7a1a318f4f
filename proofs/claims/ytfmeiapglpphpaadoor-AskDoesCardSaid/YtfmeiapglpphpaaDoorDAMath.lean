import Derived.Test.YtfmeiapglpphpaaDoorDAReadM
/- What is asked as a text, read again, plainly. -/
namespace Go.Proofs.YtfmeiapglpphpaaDoor.T
open Go Go.VL Go.Proofs
def numIn (k id n s : Int) : Int := if shI k = 4 then id else if shK k = 2 then n else if shS k = 8 then s else 0
def tailIn (k : Int) (v : List Int) : List Int := if shV k then v.flatMap (octs 2) else []
structure Good (k id n s : Int) (v : List Int) : Prop where
  kind : kindOk k
  num : -9223372036854775808 ≤ numIn k id n s ∧ numIn k id n s ≤ 9223372036854775807
  fit : readW k ≠ 0 → putFit (readW k) (numIn k id n s) = true
  z1 : shI k ≠ 4 → id = 0
  z2 : shK k ≠ 2 → n = 0
  z3 : shS k ≠ 8 → s = 0
  i16 : I16s v
  vec : shV k = true → 1 ≤ v.length ∧ v.length ≤ 64
  no : shV k = false → v = []
theorem readW_cases {k : Int} (h : kindOk k) : readW k = 0 ∨ (1 ≤ readW k ∧ readW k ≤ 8) := by
  unfold readW
  rcases shapes_five h with ⟨e1, e2, e3, _⟩ | ⟨e1, e2, e3, _⟩ | ⟨e1, e2, e3, _⟩ | ⟨e1, e2, e3, _⟩ | ⟨e1, e2, e3, _⟩ <;> rw [e1, e2, e3] <;> decide
theorem put_one {k w x : Int} : putOut [k] w [x] = k :: octs w.toNat x := by simp [putOut]
theorem text_shape {k id n s : Int} {v : List Int} (h : kindOk k) : askText k id n s v = k :: (octs (readW k).toNat (numIn k id n s) ++ tailIn k v) := by
  unfold askText askHead readW numIn tailIn
  rcases shapes_five h with ⟨e1, e2, e3, _⟩ | ⟨e1, e2, e3, _⟩ | ⟨e1, e2, e3, _⟩ | ⟨e1, e2, e3, _⟩ | ⟨e1, e2, e3, _⟩ <;> simp only [e1, e2, e3, if_true, if_false, Int.reduceEq, put_one] <;> rfl
theorem tail_octets {k : Int} {v : List Int} : Octets (tailIn k v) := by
  unfold tailIn; split
  · exact octs_all_octets 2 v
  · intro c hc; cases hc
theorem tail_len {k : Int} {v : List Int} : (tailIn k v).length = if shV k then 2 * v.length else 0 := by
  unfold tailIn; split
  · exact flat_octs_length
  · rfl
section
variable {k id n s : Int} {v : List Int} (g : Good k id n s v)
include g
theorem text_octets : Octets (askText k id n s v) := by
  rw [text_shape g.kind]
  have hk := g.kind
  unfold kindOk at hk
  intro c hc
  rcases List.mem_cons.1 hc with rfl | hc
  · omega
  · refine ((octs_octets _ _).append (b := tailIn k v) ?_) c hc
    unfold tailIn; split
    · exact octs_all_octets 2 v
    · intro c hc; cases hc
theorem text_head : (askText k id n s v).getD 0 0 = k := by rw [text_shape g.kind]; rfl
theorem text_drop : (askText k id n s v).drop 1 = octs (readW k).toNat (numIn k id n s) ++ tailIn k v := by rw [text_shape g.kind]; rfl
theorem text_tail : tailOf (askText k id n s v) = tailIn k v := by
  unfold tailOf
  rw [text_head g, text_drop g, List.drop_left' octs_length]
theorem text_num (hw : readW k ≠ 0) : numOf (askText k id n s v) = numIn k id n s := by
  unfold numOf
  rw [text_head g, text_drop g]
  have hb := (readW_cases g.kind).resolve_left hw
  have hf := g.fit hw
  obtain ⟨w, hwe⟩ := Int.eq_ofNat_of_zero_le (show 0 ≤ readW k by omega)
  rw [hwe] at hb hf ⊢
  rw [Int.toNat_natCast]
  exact takeNum_octs g.num (by omega) hf (tail_octets)
theorem text_id : rId (askText k id n s v) = id := by
  unfold rId
  rw [text_head g]
  split
  · rename_i h
    rw [text_num g (by unfold readW; rw [if_pos h]; decide)]
    unfold numIn; rw [if_pos h]
  · rename_i h; exact (g.z1 h).symm
theorem text_k : rK (askText k id n s v) = n := by
  unfold rK
  rw [text_head g]
  split
  · rename_i h
    have h1 : shI k ≠ 4 := by rcases shapes_five g.kind with ⟨e1, e2, e3, _⟩ | ⟨e1, e2, e3, _⟩ | ⟨e1, e2, e3, _⟩ | ⟨e1, e2, e3, _⟩ | ⟨e1, e2, e3, _⟩ <;> omega
    rw [text_num g (by unfold readW; rw [if_neg h1, if_pos h]; decide)]
    unfold numIn; rw [if_neg h1, if_pos h]
  · rename_i h; exact (g.z2 h).symm
theorem text_seed : rSeed (askText k id n s v) = s := by
  unfold rSeed
  rw [text_head g]
  split
  · rename_i h
    have h1 : shI k ≠ 4 ∧ shK k ≠ 2 := by rcases shapes_five g.kind with ⟨e1, e2, e3, _⟩ | ⟨e1, e2, e3, _⟩ | ⟨e1, e2, e3, _⟩ | ⟨e1, e2, e3, _⟩ | ⟨e1, e2, e3, _⟩ <;> omega
    rw [text_num g (by unfold readW; rw [if_neg h1.1, if_neg h1.2, if_pos h]; decide)]
    unfold numIn; rw [if_neg h1.1, if_neg h1.2, if_pos h]
  · rename_i h; exact (g.z3 h).symm
theorem text_v : rV (askText k id n s v) = v := by
  unfold rV
  rw [text_tail g, tail_len]
  unfold tailIn
  cases hV : shV k with
  | true =>
    simp only [if_true]
    have hf : v.all (putFit 2) = true := by
      rw [List.all_eq_true]
      intro x hx
      have := g.i16 x hx
      exact (putFit_iff (w := 2) (by omega) (by omega)).2 (by simp; omega)
    have := takeNums_octs (w := 2) (by decide) (r := []) (fun c hc => by cases hc) (l := v) (fun x hx => by have := g.i16 x hx; omega) hf
    rw [List.append_nil] at this
    rw [show 2 * v.length / 2 = v.length by omega]
    exact this
  | false =>
    rw [g.no hV]; rfl
theorem text_form : formOf (askText k id n s v) := by
  unfold formOf
  rw [text_head g, text_tail g, tail_len, text_drop g]
  refine ⟨by rw [text_shape g.kind]; simp, g.kind, by rw [List.length_append, octs_length]; omega, ?_⟩
  cases hV : shV k with
  | true =>
    have := g.vec hV
    simp only [if_true]
    exact ⟨by omega, by omega, (decide_eq_true (by omega)).symm⟩
  | false => simp
theorem text_read {dim slots : Int} (hs : sizesOk dim slots) : readErr (askText k id n s v) dim slots = askErr k id n s v dim slots := by
  rw [read_ok hs (text_form g), text_head g, text_id g, text_k g, text_seed g, text_v g]
theorem text_len : (askText k id n s v).length = 1 + (readW k).toNat + (if shV k then 2 * v.length else 0) := by
  rw [text_shape g.kind, List.length_cons, List.length_append, octs_length, tail_len]; omega
end
theorem good_of {k id n s : Int} {v : List Int} {dim slots : Int} (h : askErr k id n s v dim slots = 0) (hv : I16s v) (hn : -9223372036854775808 ≤ n ∧ n ≤ 9223372036854775807) : Good k id n s v := by
  obtain ⟨hz, hk, h1, h2, h3, h4⟩ := askErr_ok h
  unfold namedP at h1 h2 h3
  unfold vOk at h4
  have hzs := hz.2
  refine ⟨hk, ?_, ?_, fun q => ?_, fun q => ?_, fun q => ?_, hv, fun q => ?_, fun q => ?_⟩
  · unfold numIn
    rcases shapes_five hk with ⟨e1, e2, e3, _⟩ | ⟨e1, e2, e3, _⟩ | ⟨e1, e2, e3, _⟩ | ⟨e1, e2, e3, _⟩ | ⟨e1, e2, e3, _⟩ <;> simp only [e1, e2, e3, if_true, if_false, Int.reduceEq] at h1 h2 h3 ⊢ <;> omega
  · intro _
    unfold readW numIn
    rcases shapes_five hk with ⟨e1, e2, e3, _⟩ | ⟨e1, e2, e3, _⟩ | ⟨e1, e2, e3, _⟩ | ⟨e1, e2, e3, _⟩ | ⟨e1, e2, e3, _⟩ <;> simp only [e1, e2, e3, if_true, if_false, Int.reduceEq] at h1 h2 h3 ⊢
    · exact (putFit_iff (w := 4) (by omega) (by omega)).2 (by simp; omega)
    · exact (putFit_iff (w := 4) (by omega) (by omega)).2 (by simp; omega)
    · exact (putFit_iff (w := 2) (by omega) (by omega)).2 (by simp; omega)
    · decide
    · exact (putFit_iff (w := 8) (by omega) (by omega)).2 (by simp; omega)
  · rcases shapes_five hk with ⟨e1, e2, e3, _⟩ | ⟨e1, e2, e3, _⟩ | ⟨e1, e2, e3, _⟩ | ⟨e1, e2, e3, _⟩ | ⟨e1, e2, e3, _⟩ <;> simp only [e1, e2, e3, if_true, if_false, Int.reduceEq] at h1 h2 h3 q ⊢ <;> omega
  · rcases shapes_five hk with ⟨e1, e2, e3, _⟩ | ⟨e1, e2, e3, _⟩ | ⟨e1, e2, e3, _⟩ | ⟨e1, e2, e3, _⟩ | ⟨e1, e2, e3, _⟩ <;> simp only [e1, e2, e3, if_true, if_false, Int.reduceEq] at h1 h2 h3 q ⊢ <;> omega
  · rcases shapes_five hk with ⟨e1, e2, e3, _⟩ | ⟨e1, e2, e3, _⟩ | ⟨e1, e2, e3, _⟩ | ⟨e1, e2, e3, _⟩ | ⟨e1, e2, e3, _⟩ <;> simp only [e1, e2, e3, if_true, if_false, Int.reduceEq] at h1 h2 h3 q ⊢ <;> omega
  · rw [if_pos q] at h4
    have := vecOk_iff.1 (vecErr_zero.1 h4.2)
    exact ⟨this.1, this.2.1⟩
  · rw [if_neg (by rw [q]; decide)] at h4
    exact List.length_eq_zero_iff.1 h4
/-- What is read is written. -/
theorem read_text {b : List Int} (hf : formOf b) (ho : Octets b) : askText (b.getD 0 0) (rId b) (rK b) (rSeed b) (rV b) = b := by
  obtain ⟨f1, f2, f3, f4, f5, f6⟩ := hf
  rw [text_shape f2]
  have hnum : readW (b.getD 0 0) ≠ 0 → numIn (b.getD 0 0) (rId b) (rK b) (rSeed b) = numOf b := by
    unfold numIn rId rK rSeed readW
    rcases shapes_five f2 with ⟨e1, e2, e3, _⟩ | ⟨e1, e2, e3, _⟩ | ⟨e1, e2, e3, _⟩ | ⟨e1, e2, e3, _⟩ | ⟨e1, e2, e3, _⟩ <;> simp only [e1, e2, e3, if_true, if_false, Int.reduceEq, ne_eq, not_true_eq_false, false_implies, implies_true]
  have ht : tailIn (b.getD 0 0) (rV b) = tailOf b := by
    unfold tailIn rV
    have hoT : Octets (tailOf b) := (ho.drop _).drop _
    cases hV : shV (b.getD 0 0) with
    | true =>
      have := (flat_takeNums (w := 2) (by decide) ((tailOf b).length / 2) hoT (by omega)).1
      simp only [if_true]
      rw [show ((2 : Nat) : Int) = 2 from rfl] at this
      rw [this]
      exact List.take_of_length_le (by omega)
    | false =>
      rw [hV] at f6
      have := of_decide_eq_false f6.symm
      simp only [Bool.false_eq_true, if_false]
      exact (List.length_eq_zero_iff.1 (by omega)).symm
  have hq : octs (readW (b.getD 0 0)).toNat (numIn (b.getD 0 0) (rId b) (rK b) (rSeed b)) = (b.drop 1).take (readW (b.getD 0 0)).toNat := by
    rcases readW_cases f2 with h | h
    · rw [h]; simp [octs]
    · rw [hnum (by omega)]
      unfold numOf
      obtain ⟨w, hwe⟩ := Int.eq_ofNat_of_zero_le (show 0 ≤ readW (b.getD 0 0) by omega)
      rw [hwe] at h f3 ⊢
      rw [Int.toNat_natCast] at f3 ⊢
      exact (octs_takeNum (by omega) (ho.drop 1) f3).1
  rw [hq, ht]
  unfold tailOf
  rw [List.take_append_drop]
  cases b with
  | nil => simp at f1
  | cons x l => rfl
end Go.Proofs.YtfmeiapglpphpaaDoor.T
