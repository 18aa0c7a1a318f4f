import Derived.Test.YtfmeiapglpphpaaVL7
/- append. -/
namespace Go.VL
open Go Go.RowKit

/-- What a second argument of append reads as: so many elements, whose cells lie at b. -/
structure Src (w : World) (y : Value) (m : Nat) (news : List Value) : Prop where
  ex : ∃ b c, y = .slice b m c ∧ (news = [] ∨ ∃ ad, b = some ad ∧ ∀ (j : Nat) (u : Value), news[j]? = some u → w.cell? (ad.add j) = some u)

theorem run_first {P : Program} {w : World} {S m l c : Nat} {b : Option Addr} {news : List Value} (hl : news.length = m * S)
    (h : news = [] ∨ ∃ ad, b = some ad ∧ ∀ (j : Nat) (u : Value), news[j]? = some u → w.cell? (ad.add j) = some u) :
    (Builtin.firstCells S m (.slice b l c)).run P w = .ok news.toArray w := by
  rcases h with rfl | ⟨ad, rfl, h⟩
  · cases b with
    | none => simp [Builtin.firstCells]
    | some ad => exact run_firstCells_some w S m ad l c [] hl (by simp)
  · exact run_firstCells_some w S m ad l c news hl h

theorem run_append_room' {P : Program} {w : World} {t e : TypeId} {S : Nat} (ty : TypeId) (ht : P.underlying t = some (.slice e)) (hS : 0 < P.cellsOf e) (hSS : P.cellsOf e = S)
    {g n cap m c : Nat} {b : Option Addr} {cur : Array Value} {news : List Value} (hg : w.heap[g]? = some (.cells cur e (0, 0))) (hl : news.length = m * S)
    (hb : news = [] ∨ ∃ ad, b = some ad ∧ ∀ (j : Nat) (u : Value), news[j]? = some u → w.cell? (ad.add j) = some u) (h1 : ∀ u ∈ news, u.oneCell' = true) (hroom : n + m ≤ cap) (hfit : n * S + news.length ≤ cur.size) :
    (Builtin.append_ #[t, t] ty #[.slice (some ⟨g, 0, none⟩) n cap, .slice b m c]).run P w =
      .ok (.slice (some ⟨g, 0, none⟩) (n + m) cap) (w.setRow g (cur.toList.take (n * S) ++ news ++ cur.toList.drop (n * S + news.length)).toArray) := by
  subst hSS
  have hf := run_first (P := P) (w := w) (l := m) (c := c) hl hb
  have hst := run_storeCells_at P g (n * P.cellsOf e) e news 0 cur w hg (by simpa using hfit) h1
  simp only [Nat.add_zero] at hst
  simp [Builtin.append_, run_underlying ht, run_size hS, Builtin.lenOf, hroom, hf, Addr_add, hst]

theorem run_append_none' {P : Program} {w : World} {t e : TypeId} (ty : TypeId) (ht : P.underlying t = some (.slice e)) (hS : 0 < P.cellsOf e)
    {a b : Option Addr} {c : Nat} : (Builtin.append_ #[t, t] ty #[.slice a 0 0, .slice b 0 c]).run P w = .ok (.slice a 0 0) w := by
  have hf := run_first (P := P) (w := w) (S := P.cellsOf e) (m := 0) (l := 0) (c := c) (b := b) (news := []) (by simp) (.inl rfl)
  cases a <;> simp [Builtin.append_, run_underlying ht, run_size hS, Builtin.lenOf, hf, storeCells]

theorem run_append_grow' {P : Program} {w : World} {t e : TypeId} {S bytes : Nat} {z : Value} (ty : TypeId) (ht : P.underlying t = some (.slice e)) (hS : 0 < P.cellsOf e) (hSS : P.cellsOf e = S) (hz : zeroT P e = some z) (hby : P.bytesOf e = bytes)
    {n cap m c : Nat} {a b : Option Addr} {olds news : List Value} (hlo : olds.length = n * S) (hl : news.length = m * S)
    (ha : olds = [] ∨ ∃ ad, a = some ad ∧ ∀ (j : Nat) (u : Value), olds[j]? = some u → w.cell? (ad.add j) = some u)
    (hb : news = [] ∨ ∃ ad, b = some ad ∧ ∀ (j : Nat) (u : Value), news[j]? = some u → w.cell? (ad.add j) = some u)
    (hgr : cap < n + m) (h63 : n + m ≤ maxLen) (hbytes : (n + m) * bytes ≤ 140737488355328) :
    (Builtin.append_ #[t, t] ty #[.slice a n cap, .slice b m c]).run P w =
      .ok (.slice (some ⟨w.heap.size, 0, none⟩) (n + m) (grownCap w (n + m) cap e))
        (w.drew.alloc (.cells (olds.toArray ++ news.toArray ++ Builtin.zeroCells z.cells (grownCap w (n + m) cap e - (n + m))) e)) := by
  subst hSS
  obtain ⟨i, hi, his⟩ := info_of_cells hS
  have hby' : i.bytes = bytes := by rw [← hby]; simp [Program.bytesOf, hi]
  rw [← his] at hlo hl
  have hf := run_first (P := P) (w := w.drew) (l := m) (c := c) hl hb
  have hfo := run_first (P := P) (w := w.drew) (l := n) (c := cap) hlo ha
  have hn : ¬ (n + m ≤ cap) := by omega
  have hfit := growslice_fits hgr hbytes
  rw [← hby'] at hfit
  have h48' : ¬ (281474976710656 < Builtin.nextslicecap (n + m) cap * i.bytes) := by omega
  simp only [maxLen] at h63
  have h63' : ¬ (9223372036854775807 < ((n : Int) + (m : Int))) := by omega
  have hz' : i.zero = some z := by simpa [zeroT, hi] using hz
  simp [Builtin.append_, run_underlying ht, sizeOf, typeInfo, zeroValue, hi, hz', Builtin.lenOf, hn, h63', h48', Question.forced, hf, hfo, newRow, grownCap]
  congr 2
  apply Array.ext'
  simp [List.append_assoc]

def zeroOK (P : Program) (t : TypeId) : Bool := match zeroT P t with | some z => (D.ofVal z).storable && (D.ofVal z).width == P.cellsOf t | none => false
theorem zeroOK_spec {P : Program} {t : TypeId} (h : zeroOK P t = true) : ∃ z, zeroT P t = some z ∧ z.cells.size = P.cellsOf t := by
  unfold zeroOK at h
  split at h
  · rename_i z hz
    simp only [Bool.and_eq_true, beq_iff_eq] at h
    obtain ⟨h1, _, _⟩ := RelD_cells (RelD_ofVal (ρ := fun _ => ⟨none, 0, 0⟩) (J := fun _ => False) (w := default) z) h.1
    exact ⟨z, hz, by rw [h1, h.2]⟩
  · cases h

def baseD (e : TypeId) (S : Nat) (st : St) (id : Nat) (s : D) : Option (Nat × List D) :=
  match s with
  | .v (.slice none 0 0) => some (id, [])
  | .nil0 => some (id, [])
  | .ref r n => match st.H r with | some o => if n = o.els.length ∧ o.S = S ∧ o.e = e then some (r, o.els) else none | none => none
  | _ => none

def itemsD (S : Nat) (st : St) (x : D) : Option (List D) :=
  match x with
  | .lst l => some l
  | .v (.slice none 0 0) => some []
  | .nil0 => some []
  | .ref r n => match st.H r with | some o => if n ≤ o.els.length ∧ o.S = S then some (o.els.take n) else none | none => none
  | _ => none

def opAppend (P : Program) (t : TypeId) (s x : D) (id : Nat) (K : St → D → Prop) (st : St) : Prop :=
  ∃ e, elT P t = some e ∧ 0 < P.cellsOf e ∧ ∃ b, baseD e (P.cellsOf e) st id s = some b ∧ ∃ xs, itemsD (P.cellsOf e) st x = some xs ∧ (∀ d ∈ xs, d.width = P.cellsOf e ∧ d.storable = true) ∧
    (b.2 ++ xs).length * P.bytesOf e ≤ 140737488355328 ∧ (b.2 ++ xs).length ≤ capMax ∧ zeroOK P e = true ∧ D.kills b.1 (b.2 ++ xs) = b.2 ++ xs ∧
    K ((st.killed b.1).obj b.1 ⟨e, P.cellsOf e, b.2 ++ xs⟩) (.ref b.1 (b.2 ++ xs).length)

/-- What the second argument reads as. -/
theorem itemsD_src {ρ : Nat → Loc} {J0 J : Nat → Prop} {B : Nat} {w0 w : World} {st : St} {a : Act} (hs : Sim J0 ρ J B w0 st a w) {S : Nat} {x : D} {y : Value} (hx : RelD ρ J w x y) {xs : List D}
    (h : itemsD S st x = some xs) (hw : ∀ d ∈ xs, d.width = S ∧ d.storable = true) :
    ∃ us, RelDs ρ J w xs us ∧ (∀ u ∈ us, u.cells.size = S ∧ ∀ c ∈ u.cells.toList, c.oneCell' = true) ∧ Src w y xs.length (flat us) := by
  unfold itemsD at h
  split at h
  · rename_i l
    cases h
    obtain ⟨ad, c, vs, h1, h2, h3, h4, h0, h5, h6⟩ := hx
    refine ⟨vs, RelPs.toD h5, RelPs_sizes h5 hw, ⟨ad, c, h1, ?_⟩⟩
    rcases h6 with h6 | ⟨b, off, rfl, _, h7⟩
    · exact .inl h6
    · exact .inr ⟨_, rfl, fun j u hu => by rw [Addr_add]; exact h7 j u hu⟩
  · cases h
    exact ⟨[], rfl, by simp, ⟨none, 0, hx.1, .inl rfl⟩⟩
  · cases h
    obtain ⟨ad, h1⟩ := hx
    exact ⟨[], rfl, by simp, ⟨ad, 0, h1, .inl rfl⟩⟩
  · rename_i r n
    split at h
    · rename_i o ho
      split at h
      · rename_i hn
        cases h
        obtain ⟨hn1, hn2⟩ := hn
        obtain ⟨h1, h2, h3, h4, h5, vs, h6, h7, h8⟩ := hs.objs r o ho
        have hx' : y = .slice (ρ r).a n (ρ r).cap := hx
        refine ⟨vs.take n, RelDs_take _ _ _ h6, fun u hu => ?_, ?_⟩
        · have := h7 u (List.mem_of_mem_take hu)
          rw [hn2] at this; exact this
        · refine ⟨(ρ r).a, (ρ r).cap, by rw [hx', List.length_take, Nat.min_eq_left hn1], ?_⟩
          rcases h8 with ⟨_, rfl⟩ | ⟨_, g, cur, h10, _, h12, h13, h14⟩
          · exact .inl (by simp [flat])
          · refine .inr ⟨_, h10, fun j u hu => ?_⟩
            rw [Addr_add, Nat.zero_add, cell_of_row w g _ cur o.e (0, 0) h12]
            rw [flat_take (S := o.S) n vs fun z hz => (h7 z hz).1, List.getElem?_take] at hu
            split at hu
            · have h14' : cur.toList.take (o.els.length * o.S) = flat vs := h14
              rw [← h14', List.getElem?_take] at hu
              split at hu
              · simpa using hu
              · cases hu
            · cases hu
      · cases h
    · cases h
  · cases h

theorem opAppend_sound {P : Program} {o : Oper} {t : TypeId} {s x : Operand} (id : Nat) (ho : o.op = .call { callee := .builtin .append, args := #[s, x], argTypes := #[t, t] }) {K : St → D → Prop} {st : St}
    (h : opAppend P t (st.ev s) (st.ev x) id K st) : OpX P o K st := by
  intro J0 ρ J B w0 a w hs Kc Q hKc
  obtain ⟨e, h1, hS, b, h2, xs, h3, h4, h5, h6, h7, h8, h9⟩ := h
  have he := elT_spec h1
  obtain ⟨z, hz, hzs⟩ := zeroOK_spec h7
  obtain ⟨us, hus, husz, ⟨ad, c, hy, hsrc⟩⟩ := itemsD_src hs (hs.ev x) h3 h4
  have hul : us.length = xs.length := (RelDs_get _ _ hus).1.symm
  have hnl : (flat us).length = xs.length * P.cellsOf e := by rw [flat_length us fun u hu => (husz u hu).1, hul]
  have hone : ∀ u ∈ flat us, u.oneCell' = true := by
    intro u hu
    obtain ⟨v, hv, huv⟩ := List.mem_flatMap.1 hu
    exact (husz v hv).2 u huv
  have hrunE : ∀ {v r : Value} {w' : World}, a.eval s = v → (Builtin.append_ #[t, t] o.type #[v, a.eval x]).run P w = .ok r w' → (execOp a.eval o).run P w = .ok (.value r) w' := by
    intro v r w' h10 h11
    simp only [execOp, ho, resolve, invoke, builtin, Sem.run_bind, Sem.run_pure, Result.andThen_ok, List.map_toArray, List.map_cons, List.map_nil, h10, h11]
  have hmax : (b.2 ++ xs).length ≤ maxLen := by simp only [capMax] at h6; simp only [maxLen]; omega
  -- a new row
  have grow : ∀ (base : Option Addr) (cap : Nat) (vs : List Value), a.eval s = .slice base b.2.length cap → RelDs ρ J w b.2 vs → (∀ u ∈ vs, u.cells.size = P.cellsOf e ∧ ∀ c ∈ u.cells.toList, c.oneCell' = true) →
      (flat vs = [] ∨ ∃ ad, base = some ad ∧ ∀ (j : Nat) (u : Value), (flat vs)[j]? = some u → w.cell? (ad.add j) = some u) → cap < b.2.length + xs.length → o.wp P a w Kc Q := by
    intro base cap vs h10 h11 h12 h13 h14
    have hvl : vs.length = b.2.length := (RelDs_get _ _ h11).1.symm
    have hol : (flat vs).length = b.2.length * P.cellsOf e := by rw [flat_length vs fun u hu => (h12 u hu).1, hvl]
    have hr := run_append_grow' (P := P) (w := w) o.type he hS rfl hz rfl (c := c) hol hnl h13 hsrc h14 (by rw [List.length_append] at hmax; exact hmax) (by rw [List.length_append] at h5; exact h5)
    rw [← hy] at hr
    generalize hcp : grownCap w (b.2.length + xs.length) cap e = cp at hr
    have hcp1 : b.2.length + xs.length ≤ cp := by rw [← hcp]; exact grownCap_ge _ _ _ _
    have hcp2 : cp ≤ maxLen := by rw [← hcp]; exact grownCap_le_maxLen _ _ _ _ (by rw [List.length_append] at hmax; exact hmax)
    have hall : ∀ u ∈ vs ++ us, u.cells.size = P.cellsOf e ∧ ∀ c ∈ u.cells.toList, c.oneCell' = true := by
      intro u hu
      rcases List.mem_append.1 hu with hu | hu
      · exact h12 u hu
      · exact husz u hu
    have key := hs.newobj b.1 e (P.cellsOf e) cp ((flat vs).toArray ++ (flat us).toArray ++ Builtin.zeroCells z.cells (cp - (b.2.length + xs.length))) (b.2 ++ xs) (vs ++ us)
      (grownBy_drew_alloc w _ none) (by have := heap_alloc_new w.drew (.cells ((flat vs).toArray ++ (flat us).toArray ++ Builtin.zeroCells z.cells (cp - (b.2.length + xs.length))) e); exact this) hS (by rw [List.length_append]; exact hcp1) hcp2 (by omega) h6
      (by simp only [Array.size_append, List.size_toArray, size_zeroCells, hzs, hol, hnl, ← Nat.add_mul]; congr 1; omega) (RelDs_app _ _ _ _ h11 hus) hall
      (by rw [flat_append]; simp only [Array.toList_append]; rw [List.take_append_of_le_length (by simp [hol, hnl, Nat.add_mul]), List.take_of_length_le (by simp [hol, hnl, Nat.add_mul])])
    rw [h8] at key
    refine wp_value (hrunE h10 hr) (hKc _ _ J _ _ _ h9 rfl key ?_)
    simp [RelD, upd_same]
  have none' : ∀ base, a.eval s = .slice base 0 0 → b.1 = id → b.2 = [] → o.wp P a w Kc Q := by
    intro base h10 h11 h12
    by_cases hm : xs = []
    · subst hm
      rw [h12] at h9 h8
      have hus0 : us = [] := List.eq_nil_of_length_eq_zero (by simpa using hul)
      have hr := run_append_none' (P := P) (w := w) (t := t) o.type he hS (a := base) (b := ad) (c := c)
      have hy' : a.eval x = .slice ad 0 c := by rw [hy]; rfl
      rw [← hy'] at hr
      refine wp_value (hrunE h10 hr) (hKc _ (upd ρ b.1 ⟨base, 0, P.cellsOf e⟩) J _ _ _ h9 rfl ?_ (by simp [RelD, upd_same]))
      refine hs.reobj b.1 _ _ none ⟨rfl, rfl, rfl, Nat.le_refl _, fun _ _ _ => rfl⟩ (fun k hk => by cases hk) (fun g hg1 hg2 => by simp at hg1) ?_
      exact ⟨by simp [upd_same], hS, by simp, by simp [upd_same, maxLen], by simp, [], rfl, by simp, .inl ⟨by simp [upd_same], rfl⟩⟩
    · have hxl : 0 < xs.length := List.length_pos_iff.2 hm
      exact grow base 0 [] (by rw [h10, h12]; rfl) (by rw [h12]; rfl) (by simp) (.inl rfl) (by omega)
  unfold baseD at h2
  split at h2
  · rename_i hsv
    cases h2
    have h10 := hs.ev s
    rw [hsv] at h10
    exact none' none h10.1 rfl rfl
  · rename_i hsv
    cases h2
    have h10 := hs.ev s
    rw [hsv] at h10
    obtain ⟨base, h10⟩ := h10
    exact none' base h10 rfl rfl
  · rename_i r n hsv
    split at h2
    · rename_i ob hob
      split at h2
      · rename_i hc
        cases h2
        obtain ⟨hn, hSo, heo⟩ := hc
        have h10 := hs.ev s
        rw [hsv] at h10
        have h10' : a.eval s = .slice (ρ r).a n (ρ r).cap := h10
        subst hn
        obtain ⟨g1, g2, g3, g4, g5, vs, g6, g7, g8⟩ := hs.objs r ob hob
        rw [hSo] at g1 g2 g7 g8
        rw [heo] at g8
        rcases g8 with ⟨g8, rfl⟩ | ⟨g9, g, cur, g10, g11, g12, g13, g14⟩
        · have hn0 : ob.els = [] := by
            have := (RelDs_get _ _ g6).1
            exact List.eq_nil_of_length_eq_zero (by simpa using this)
          by_cases hm : xs = []
          · subst hm
            simp only [hn0] at h9 h8 h10'
            have hr := run_append_none' (P := P) (w := w) (t := t) o.type he hS (a := (ρ r).a) (b := ad) (c := c)
            have hy' : a.eval x = .slice ad 0 c := by rw [hy]; rfl
            rw [← hy'] at hr
            have h10'' : a.eval s = .slice (ρ r).a 0 0 := by rw [h10', g8]; rfl
            refine wp_value (hrunE h10'' hr) (hKc _ (upd ρ r ⟨(ρ r).a, 0, P.cellsOf e⟩) J _ _ _ h9 rfl ?_ (by simp [RelD, upd_same]))
            refine hs.reobj r _ _ none ⟨rfl, rfl, rfl, Nat.le_refl _, fun _ _ _ => rfl⟩ (fun k hk => by cases hk) (fun g hg1 hg2 => by simp at hg1) ?_
            exact ⟨by simp [upd_same], hS, by simp, by simp [upd_same, maxLen], by simp, [], rfl, by simp, .inl ⟨by simp [upd_same], rfl⟩⟩
          · have hxl : 0 < xs.length := List.length_pos_iff.2 hm
            exact grow (ρ r).a (ρ r).cap [] h10' g6 (by simp) (.inl rfl) (by rw [g8]; simp only; omega)
        · have hvl : vs.length = ob.els.length := (RelDs_get _ _ g6).1.symm
          have g14' : cur.toList.take (ob.els.length * P.cellsOf e) = flat vs := g14
          by_cases hroom : ob.els.length + xs.length ≤ (ρ r).cap
          · have hfit : ob.els.length * P.cellsOf e + (flat us).length ≤ cur.size := by
              rw [hnl, g13, ← Nat.add_mul]; exact Nat.mul_le_mul_right _ hroom
            have hr := run_append_room' (P := P) (w := w) o.type he hS rfl (n := ob.els.length) (cap := (ρ r).cap) (c := c) g12 hnl hsrc hone hroom hfit
            rw [← hy] at hr
            rw [g10] at h10'
            have hJw : ∀ b', J b' → (w.setRow g (cur.toList.take (ob.els.length * P.cellsOf e) ++ flat us ++ cur.toList.drop (ob.els.length * P.cellsOf e + (flat us).length)).toArray).heap[b']? = w.heap[b']? :=
              fun b' hb' => setRow_other w g b' _ (fun e' => g11 (e' ▸ hb'))
            refine wp_value (hrunE h10' hr) (hKc _ (upd ρ r (ρ r)) J _ _ _ h9 rfl ?_ (by simp [RelD, upd_same, g10]))
            refine hs.reobj r _ _ (some g) (grownBy_setRow w g _) (fun k hk => by cases hk; exact .inr ⟨ob, hob, g9, g10⟩) (fun g' hg1 hg2 => by rw [g10] at hg2; cases hg2; exact .inr rfl) ?_
            refine ⟨by simpa [upd_same] using g1, hS, by simpa [upd_same] using hroom, by simpa [upd_same] using g4, h6, vs ++ us, ?_, ?_, .inr ⟨by simpa [upd_same] using g9, g, _, by simpa [upd_same] using g10, g11, setRow_heap w g cur _ e _ g12, ?_, ?_⟩⟩
            · have hupd : upd ρ r (ρ r) = ρ := by funext j; by_cases hj : j = r <;> simp [upd, hj]
              rw [hupd]
              exact RelDs.mono (fun _ => rfl) (fun _ h => h) hJw _ _ (RelDs_app _ _ _ _ g6 hus)
            · intro u hu
              rcases List.mem_append.1 hu with hu | hu
              · exact g7 u hu
              · exact husz u hu
            · simp only [upd_same, List.size_toArray, List.length_append, List.length_take, List.length_drop, Array.length_toList]
              rw [← g13]; omega
            · show _ = flat (vs ++ us)
              have hfl : (flat vs).length = ob.els.length * P.cellsOf e := by rw [flat_length vs fun u hu => (g7 u hu).1, hvl]
              rw [flat_append, g14']
              simp only []
              rw [List.take_append_of_le_length (by simp [hfl, hnl, Nat.add_mul]), List.take_of_length_le (by simp [hfl, hnl, Nat.add_mul])]
          · refine grow (ρ r).a (ρ r).cap vs h10' g6 g7 (.inr ⟨_, g10, fun j u hu => ?_⟩) (by simp only; omega)
            rw [Addr_add, Nat.zero_add, cell_of_row w g _ cur e (0, 0) g12]
            rw [← g14', List.getElem?_take] at hu
            split at hu
            · simpa using hu
            · cases hu
      · cases h2
    · cases h2
  · cases h2

end Go.VL
