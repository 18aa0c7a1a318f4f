import Derived.Test.YtfmeiapglpphpaaVL6
/- Literals, new slices, and the rest of what is computed at once. -/
namespace Go.VL
open Go Go.RowKit

theorem foldl_put : ∀ (l : List Value) (k off : Nat) (cs : Array Value), off + k + l.length ≤ cs.size →
    ((l.zipIdx k).foldl (fun (cs : Array Value) (p : Value × Nat) => cs.setIfInBounds (off + p.2) p.1) cs).toList = cs.toList.take (off + k) ++ l ++ cs.toList.drop (off + k + l.length)
  | [], k, off, cs, _ => by simp
  | c :: l, k, off, cs, h => by
    simp only [List.length_cons] at h
    simp only [List.zipIdx_cons, List.foldl_cons]
    rw [foldl_put l (k + 1) off _ (by simp; omega)]
    simp only [Array.toList_setIfInBounds]
    apply List.ext_getElem?
    intro j
    simp only [List.getElem?_append, List.getElem?_take, List.getElem?_drop, List.length_append, List.length_take, List.length_set, List.getElem?_set, List.length_cons]
    grind

theorem foldl_cells (v : Value) (off : Nat) (cs : Array Value) (h : off + v.cells.size ≤ cs.size) :
    (v.cells.zipIdx.foldl (fun cs (c, j) => cs.setIfInBounds (off + j) c) cs).toList = cs.toList.take off ++ v.cells.toList ++ cs.toList.drop (off + v.cells.size) := by
  have := foldl_put v.cells.toList 0 off cs (by simpa using h)
  rw [← Array.foldl_toList, Array.toList_zipIdx]
  simpa using this

theorem fill_seq {S : Nat} : ∀ (ps : List (Nat × Value)) (k : Nat) (cells : Array Value), (∀ (j : Nat) (p : Nat × Value), ps[j]? = some p → p.1 = k + j ∧ p.2.cells.size = S) → cells.size = (k + ps.length) * S →
    ∃ r, Instr.fill (fun i => some (i * S, S)) cells ps = some r ∧ r.toList = cells.toList.take (k * S) ++ flat (ps.map (·.2))
  | [], k, cells, _, hs => ⟨cells, rfl, by simp [flat]; rw [List.take_of_length_le]; simp at hs; simp [hs]⟩
  | (i, v) :: ps, k, cells, hp, hs => by
    obtain ⟨h1, h2⟩ := hp 0 (i, v) rfl
    simp only [Nat.add_zero] at h1 h2
    subst h1
    have hle : i * S + v.cells.size ≤ cells.size := by
      rw [hs, h2, List.length_cons]
      have : (i + 1) * S ≤ (i + (ps.length + 1)) * S := Nat.mul_le_mul_right _ (by omega)
      rw [Nat.add_mul, Nat.one_mul] at this
      exact this
    have hf := foldl_cells v (i * S) cells hle
    generalize hc : v.cells.zipIdx.foldl (fun cs (c, j) => cs.setIfInBounds (i * S + j) c) cells = cells' at hf
    have hlen : cells'.size = cells.size := by
      have := congrArg List.length hf
      simp only [Array.length_toList, List.length_append, List.length_take, List.length_drop] at this
      omega
    obtain ⟨r, h3, h4⟩ := fill_seq ps (i + 1) cells' (fun j p hj => by have := hp (j + 1) p (by simpa using hj); exact ⟨by omega, this.2⟩) (by rw [hlen, hs, List.length_cons]; congr 1; omega)
    refine ⟨r, ?_, ?_⟩
    · unfold Instr.fill
      have : ¬ (v.cells.size ≠ S ∨ i * S + v.cells.size > cells.size) := by omega
      simp only [h2, ne_eq, not_true_eq_false, decide_false, Bool.false_or]
      rw [if_neg (by simp; omega), hc]
      exact h3
    · rw [h4, hf, List.map_cons, flat_cons, Nat.add_mul, Nat.one_mul, ← h2]
      simp only [List.take_append, List.length_take, Array.length_toList, List.append_assoc]
      have e1 : min (i * v.cells.size) cells.size = i * v.cells.size := by rw [h2]; omega
      have e2 : List.take v.cells.size v.cells.toList = v.cells.toList := List.take_of_length_le (by simp)
      simp [e1, e2, List.take_take]

/-- A literal of a slice: its elements stand in their order. -/
def inOrder (k : Nat) : List (Nat × D) → Bool
  | [] => true
  | (i, _) :: r => i == k && inOrder (k + 1) r

theorem inOrder_spec : ∀ (l : List (Nat × D)) (k : Nat), inOrder k l = true → ∀ (j : Nat) (p : Nat × D), l[j]? = some p → p.1 = k + j
  | [], _, _, j, p, h => by simp at h
  | (i, d) :: r, k, h, j, p, hp => by
    simp only [inOrder, Bool.and_eq_true, beq_iff_eq] at h
    cases j with
    | zero => simp only [List.getElem?_cons_zero, Option.some.injEq] at hp; subst hp; exact h.1
    | succ j =>
      have := inOrder_spec r (k + 1) h.2 j p (by simpa using hp)
      omega

def opBuildSlice (P : Program) (t : TypeId) (len : Nat) (parts : List (Nat × D)) (id : Nat) (K : St → D → Prop) (st : St) : Prop :=
  ∃ e, elT P t = some e ∧ 0 < P.cellsOf e ∧ len * P.cellsOf e ≤ 16777216 ∧ parts.length = len ∧ inOrder 0 parts = true ∧ (∀ p ∈ parts, p.2.storable = true ∧ p.2.width = P.cellsOf e ∧ p.2.noRef = true) ∧ (zeroT P e).isSome = true ∧
    if len = 0 then K ((st.killed id).obj id ⟨e, P.cellsOf e, []⟩) (.ref id 0) else K st (.lst (parts.map (·.2)))

theorem RelPs_of {J : Nat → Prop} {w : World} {st : St} {a : Act} {ρ : Nat → Loc} (hs : ∀ x, RelD ρ J w (st.ev x) (a.eval x)) : ∀ (l : List (Nat × Operand)), (∀ p ∈ l, (st.ev p.2).noRef = true) → RelPs J w (l.map fun p => st.ev p.2) (l.map fun p => a.eval p.2)
  | [], _ => rfl
  | p :: l, h => ⟨_, _, rfl, (hs p.2).toP (h p (by simp)), RelPs_of hs l fun q hq => h q (by simp [hq])⟩

theorem opBuildSlice_sound {P : Program} {o : Oper} {t : TypeId} {len : Nat} {parts : Array (Nat × Operand)} (id : Nat) (ho : o.op = .buildSlice t len parts) {K : St → D → Prop} {st : St}
    (h : opBuildSlice P t len (parts.toList.map fun p => (p.1, st.ev p.2)) id K st) : OpX P o K st := by
  intro J0 ρ J B w0 a w hs Kc Q hKc
  obtain ⟨e, h1, hS, h2, h3, h4, h5, h6, h7⟩ := h
  have he := elT_spec h1
  obtain ⟨z, hz⟩ := Option.isSome_iff_exists.1 h6
  have hpl : parts.toList.length = len := by simpa using h3
  have hparts : ∀ (j : Nat) (p : Nat × Value), (parts.toList.map fun p => (p.1, a.eval p.2))[j]? = some p → p.1 = 0 + j ∧ p.2.cells.size = P.cellsOf e := by
    intro j p hp
    simp only [List.getElem?_map, Option.map_eq_some_iff] at hp
    obtain ⟨q, hq, rfl⟩ := hp
    have hm : (q.1, st.ev q.2) ∈ parts.toList.map fun p => (p.1, st.ev p.2) := List.mem_map.2 ⟨q, List.mem_of_getElem? hq, rfl⟩
    obtain ⟨h8, h9, _⟩ := h5 _ hm
    have := inOrder_spec _ 0 h4 j (q.1, st.ev q.2) (by simp [hq])
    exact ⟨this, by rw [(RelD_cells (hs.ev q.2) h8).1, h9]⟩
  generalize hcs : (Array.range (len * P.cellsOf e)).map (fun j => (if len * P.cellsOf e = 0 then #[] else z.cells)[j % (if len * P.cellsOf e = 0 then #[] else z.cells).size]!) = cells0
  have hcs' : cells0.size = (0 + (parts.toList.map fun p => (p.1, a.eval p.2)).length) * P.cellsOf e := by rw [← hcs]; simp [hpl]
  obtain ⟨r, hr, hrl⟩ := fill_seq _ 0 cells0 hparts hcs'
  have hrl' : r.toList = flat (parts.toList.map fun p => a.eval p.2) := by simpa [Function.comp_def] using hrl
  have hrun : (execOp a.eval o).run P w = .ok (.value (.slice (some ⟨w.heap.size, 0, none⟩) len len)) (w.alloc (.cells r e)) := by
    have h2' : ¬ (16777216 < len * P.cellsOf e) := by omega
    simp only [execOp, ho, Instr.buildSlice, Sem.run_bind, run_underlying he, Result.andThen_ok, run_size hS]
    by_cases h0 : len * P.cellsOf e = 0
    · have hc0 : cells0 = #[] := by
        apply Array.eq_empty_of_size_eq_zero
        rw [hcs']
        simpa [hpl] using h0
      rw [hc0] at hr
      simp [h0, newRow, show Array.range 0 = #[] from rfl, hr]
    · simp only [h0, if_false] at hcs hr
      have hpm : (parts.map fun x => (x.1, a.eval x.2)).toList = parts.toList.map fun p => (p.1, a.eval p.2) := by simp
      simp [h0, h2', run_zero hz, newRow, hcs, hr]
  have hlt : len ≤ 16777216 := Nat.le_trans (Nat.le_mul_of_pos_right len hS) h2
  have hrs : r.size = len * P.cellsOf e := by
    have := congrArg List.length hrl'
    rw [flat_length (S := P.cellsOf e)] at this
    · simpa [hpl] using this
    · intro y hy
      obtain ⟨q, hq, rfl⟩ := List.mem_map.1 hy
      have hm : (q.1, st.ev q.2) ∈ parts.toList.map fun p => (p.1, st.ev p.2) := List.mem_map.2 ⟨q, hq, rfl⟩
      obtain ⟨h8, h9, _⟩ := h5 _ hm
      rw [(RelD_cells (hs.ev q.2) h8).1, h9]
  split at h7
  · rename_i hl0
    subst hl0
    have hp0 : parts.toList = [] := List.eq_nil_of_length_eq_zero hpl
    refine wp_value hrun (hKc _ (upd ρ id ⟨some ⟨w.heap.size, 0, none⟩, 0, P.cellsOf e⟩) J (.ref id 0) _ _ h7 rfl ?_ ?_)
    · refine hs.reobj id ⟨e, P.cellsOf e, []⟩ _ none (World.grownBy_alloc w _ none) (fun k hk => by cases hk) (fun g hg1 hg2 => by simp at hg1) ?_
      exact ⟨by simp [upd_same], hS, by simp, by simp [upd_same, maxLen], by simp, [], rfl, by simp, .inl ⟨by simp [upd_same], rfl⟩⟩
    · simp [RelD, upd_same]
  · rename_i hl0
    have hb : Below w.heap.size w (w.alloc (.cells r e)) := (Below.refl _ _).alloc (Nat.le_refl _) _
    refine wp_value hrun (hKc st ρ (fun b => J b ∨ b = w.heap.size) _ _ _ h7 rfl (hs.grow hb (fun b hb => .inl hb) ?_) ?_)
    · rintro b (hb | rfl)
      · exact .inl hb
      · exact .inr ⟨Nat.le_refl _, by simp⟩
    · have hrel : RelPs J w (parts.toList.map fun p => st.ev p.2) (parts.toList.map fun p => a.eval p.2) :=
        RelPs_of hs.ev _ fun q hq => by
          have hm : (q.1, st.ev q.2) ∈ parts.toList.map fun p => (p.1, st.ev p.2) := List.mem_map.2 ⟨q, hq, rfl⟩
          exact (h5 _ hm).2.2
      have hll : ((parts.toList.map fun p => (p.1, st.ev p.2)).map fun x => x.2).length = len := by simpa using hpl
      refine ⟨some ⟨w.heap.size, 0, none⟩, len, parts.toList.map fun p => a.eval p.2, by rw [hll], by rw [hll]; exact Nat.le_refl _, by simp only [maxLen]; omega, by rw [hll]; simp only [capMax]; omega, by simp, ?_, .inr ⟨w.heap.size, 0, rfl, .inr rfl, fun j u hu => ?_⟩⟩
      · have : (parts.toList.map fun p => (p.1, st.ev p.2)).map (fun x => x.2) = parts.toList.map fun p => st.ev p.2 := by simp [Function.comp_def]
        rw [this]
        exact RelPs.mono (fun b hb => .inl hb) (fun b hb' => hb.block b (hs.lt b hb')) _ _ hrel
      · have hu' : r.toList[j]? = some u := by rw [hrl']; exact hu
        rw [Nat.zero_add, World.cell?_alloc_new]
        simpa using hu'

/-- make. -/
def opMakeSlice (P : Program) (t : TypeId) (l c : D) (id : Nat) (K : St → D → Prop) (st : St) : Prop :=
  match l, c with
  | .v (.int _ n), .v (.int _ m) => ∃ e, elT P t = some e ∧ 0 < P.cellsOf e ∧ n = m ∧ 0 ≤ n ∧ n * P.bytesOf e ≤ 140737488355328 ∧ n ≤ capMax ∧ ∃ z, zeroT P e = some z ∧ (D.ofVal z).storable = true ∧ (D.ofVal z).width = P.cellsOf e ∧
      K ((st.killed id).obj id ⟨e, P.cellsOf e, List.replicate n.toNat (D.ofVal z)⟩) (.ref id n.toNat)
  | _, _ => False

theorem RelDs_replicate {ρ : Nat → Loc} {J : Nat → Prop} {w : World} {d : D} {x : Value} (h : RelD ρ J w d x) : ∀ n : Nat, RelDs ρ J w (List.replicate n d) (List.replicate n x)
  | 0 => rfl
  | n + 1 => ⟨x, List.replicate n x, rfl, h, RelDs_replicate h n⟩

theorem kills_replicate (id : Nat) (d : D) (h : d.kill id = d) : ∀ n : Nat, D.kills id (List.replicate n d) = List.replicate n d
  | 0 => rfl
  | n + 1 => by rw [List.replicate_succ, D.kills, h, kills_replicate id d h n]

theorem flat_replicate (x : Value) : ∀ n : Nat, flat (List.replicate n x) = (List.replicate n x.cells.toList).flatten
  | 0 => rfl
  | n + 1 => by rw [List.replicate_succ, flat_cons, flat_replicate x n, List.replicate_succ, List.flatten_cons]

theorem madeCells_flat (x : Value) {S : Nat} (hS : 0 < S) (hx : x.cells.size = S) (n : Nat) : (madeCells x.cells (n * S)).toList = flat (List.replicate n x) := by
  have hsz : ∀ y ∈ List.replicate n x, y.cells.size = S := by
    intro y hy; rw [(List.mem_replicate.1 hy).2]; exact hx
  apply List.ext_getElem?
  intro k
  by_cases hk : k < n * S
  · have hi : k / S < n := Nat.div_lt_of_lt_mul (by rw [Nat.mul_comm]; exact hk)
    have hj : k % S < S := Nat.mod_lt _ hS
    have := flat_get (List.replicate n x) hsz (k / S) (k % S) x (by simp [hi]) hj
    rw [Nat.mul_comm (k / S) S, Nat.div_add_mod] at this
    rw [this]
    have hlt : k % x.cells.size < x.cells.size := by rw [hx]; exact hj
    have hkm : k < (madeCells x.cells (n * S)).size := by rw [size_madeCells]; exact hk
    simp only [Array.getElem?_toList, Array.getElem?_eq_getElem hkm]
    simp [madeCells, hlt]
    rw [Array.getElem?_eq_getElem (by rw [hx]; exact hj)]
    simp [hx]
  · rw [List.getElem?_eq_none, List.getElem?_eq_none]
    · rw [flat_length _ hsz]; simp; omega
    · simp [size_madeCells]; omega

theorem opMakeSlice_sound {P : Program} {o : Oper} {t : TypeId} {l c : Operand} (id : Nat) (ho : o.op = .makeSlice t l c) {K : St → D → Prop} {st : St}
    (h : opMakeSlice P t (st.ev l) (st.ev c) id K st) : OpX P o K st := by
  intro J0 ρ J B w0 a w hs Kc Q hKc
  unfold opMakeSlice at h
  split at h
  · rename_i kl n kc m hl hc
    obtain ⟨e, h1, hS, rfl, h2, h3, h4, z, hz, h5, h6, h7⟩ := h
    have he := elT_spec h1
    have h8 := hs.ev l
    have h9 := hs.ev c
    rw [hl] at h8
    rw [hc] at h9
    obtain ⟨i, hi, his⟩ := info_of_cells hS
    have hzi : i.zero = some z := by simpa [zeroT, hi] using hz
    have hby : P.bytesOf e = i.bytes := by simp [Program.bytesOf, hi]
    have h3' : (i.bytes : Int) * n ≤ 281474976710656 := by rw [← hby, Int.mul_comm]; omega
    simp only [capMax] at h4
    have hr := run_make (P := P) (w := w) t e i z he hi hzi kl kc n n h2 (Int.le_refl _) h3' (by omega)
    obtain ⟨hz1, hz2, _⟩ := RelD_cells (RelD_ofVal (ρ := ρ) (J := J) (w := w) z) h5
    have hrun : (execOp a.eval o).run P w = .ok (.value (.slice (some ⟨w.heap.size, 0, none⟩) n.toNat n.toNat)) (w.alloc (.cells (madeCells z.cells (n.toNat * i.size)) e)) := by
      simp [execOp, ho, h8.1, h9.1, hr]
    rw [his] at hrun
    have hzs : z.cells.size = P.cellsOf e := by rw [hz1, h6]
    by_cases hn0 : n.toNat = 0
    · rw [hn0] at h7 hrun
      refine wp_value hrun (hKc _ (upd ρ id ⟨some ⟨w.heap.size, 0, none⟩, 0, P.cellsOf e⟩) J (.ref id 0) _ _ h7 rfl ?_ ?_)
      · refine hs.reobj id _ _ none (World.grownBy_alloc w _ none) (fun k hk => by cases hk) (fun g hg1 hg2 => by simp at hg1) ?_
        exact ⟨by simp [upd_same], hS, by simp, by simp [upd_same, maxLen], by simp, [], rfl, by simp, .inl ⟨by simp [upd_same], rfl⟩⟩
      · simp [RelD, upd_same]
    · have key := hs.newobj id e (P.cellsOf e) n.toNat (madeCells z.cells (n.toNat * P.cellsOf e)) (List.replicate n.toNat (D.ofVal z)) (List.replicate n.toNat z) (World.grownBy_alloc w _ none) (heap_alloc_new w (.cells (madeCells z.cells (n.toNat * P.cellsOf e)) e)) hS
        (by simp) (by simp only [maxLen]; omega) (by omega) (by simp [capMax]; omega) (size_madeCells _ _) (RelDs_replicate (RelD_ofVal z) _) (by
          intro y hy; rw [(List.mem_replicate.1 hy).2]; exact ⟨hzs, hz2⟩)
        (by rw [List.length_replicate, ← madeCells_flat z hS hzs, List.take_of_length_le]; simp [size_madeCells])
      rw [kills_replicate id _ (kill_ofVal id z)] at key
      exact wp_value hrun (hKc _ _ J (.ref id n.toNat) _ _ h7 rfl key (by simp [RelD, upd_same]))
  · exact h.elim

end Go.VL
