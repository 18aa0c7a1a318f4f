import Derived.Test.YtpkampecmlpfmaaLE
import Derived.Test.YtpkampecmlpfmaaESNew
import Derived.Test.YtpkampecmlpfmaaESLive
import Derived.Test.YtpkampecmlpfmaaESMapM
set_option linter.unusedSimpArgs false
set_option linter.unusedVariables false
/- Law on slots: they have just what a map would. -/
namespace Go.Proofs.Ytpkampecmlpfmaa.T
open Go Go.VL Go.Proofs
set_option maxRecDepth 100000
set_option maxHeartbeats 8000000
abbrev OpV := Int × Int × Int
def opvD (o : OpV) : D := .agg [.v (.int .i64 o.1), .v (.int .i64 o.2.1), .v (.int .i16 o.2.2)]
instance : PlainD opvD 3 := ⟨fun _ => rfl, fun _ => rfl, fun _ => rfl, fun _ => rfl⟩
theorem opv_get {l : List OpV} {i : Nat} (h : i < l.length) : (gl opvD l)[i]? = some (.agg [.v (.int .i64 (l.getD i (0, 0, 0)).1), .v (.int .i64 (l.getD i (0, 0, 0)).2.1), .v (.int .i16 (l.getD i (0, 0, 0)).2.2)]) := gl_get h
theorem gl_opvWfs {l : List OpV} : D.wfs (gl opvD l) = True := by
  induction l with
  | nil => rfl
  | cons o l ih => rw [gl_cons, D.wfs, ih]; simp [opvD, D.wf, D.wfs]
theorem fact_m16 : mapT Try.prog 62 = some (2, 23) := by kernel_rfl
attribute [go_sem] fact_m16 gl_opvWfs
theorem rows_short {dim : Int} {ids : List Int} {vecs : List (List Int)} (h : slotsOk dim ids vecs) : ∀ x ∈ vecs, x.length ≤ 500 := fun x hx => by
  obtain ⟨j, hj, e⟩ := List.mem_iff_getElem.1 hx
  have e2 : vecs.getD j [] = x := by rw [← e]; simp [List.getD, hj]
  have hd := h.1
  rcases h.2.2.2 j (by rw [← h.2.2.1]; exact hj) with ⟨_, q⟩ | ⟨_, _, _, q⟩
  · rw [e2] at q; omega
  · rw [e2] at q; omega
theorem vec_one {x : Int} : (vecErr [x] = 0 ∧ (([x] : List Int).length : Int) = 1) ↔ -32767 ≤ x := by
  rw [vecErr_zero, vecOk_iff]
  simp
theorem live_mem {I : List Int} {V : List (List Int)} {H A : List (Int × Int)} (h : MInv I V H A) {id : Int} (hm : id ∈ liveL I) :
    ∃ (j : Nat) (x : Int), j < I.length ∧ V.getD j [] = [x] ∧ lookN id H = some x ∧ lookN id A = some (j : Int) ∧ findE 1 I V id = 0 ∧ findI 1 I V id = j := by
  have hk : id ∈ keysF I := (sortI_perm _).mem_iff.1 hm
  obtain ⟨hm2, hne⟩ := keysF_mem.1 hk
  obtain ⟨j, j1, j2⟩ := mem_at.1 hm2
  obtain ⟨⟨x, x1, x2⟩, x3⟩ := h.2.2.2 j j1 (by rw [j2]; exact hne)
  rw [j2] at x2 x3
  have hid : idOk id := by
    rcases h.1.2.2.2 j j1 with ⟨q, _⟩ | ⟨_, q, _⟩
    · rw [j2] at q; exact absurd q hne
    · rw [j2] at q; exact q
  obtain ⟨f1, f2⟩ := find_at h.1 hid j1 j2
  exact ⟨j, x, j1, x1, x2, x3, f1, f2⟩
theorem live_length {I : List Int} {V : List (List Int)} {H A : List (Int × Int)} (h : MInv I V H A) : (liveL I).length = H.length := by
  rw [h.size]; exact (sortI_perm _).length_eq

theorem slotsMap_law (many : Int) (ops : List OpV) : Fun Try.prog 11 [.v (.int .i64 many), .lst (gl opvD ops)] fun r => r = .v (.bool true) := by
  by_cases g1 : 1 ≤ many
  · by_cases g2 : many ≤ 20
    · by_cases g3 : ops.length ≤ 100
      · obtain ⟨n, rfl⟩ := Int.eq_ofNat_of_zero_le (show 0 ≤ many by omega)
        have hnew := slotsNew_fun n 1 (by omega) (by omega)
        have h0 : MInv (List.replicate n (-1)) (List.replicate n []) [] [] := by
          refine ⟨⟨by omega, by rw [List.length_replicate]; omega, by rw [List.length_replicate, List.length_replicate], fun k hk => ?_⟩, ?_, ?_, fun j hj hne => ?_⟩
          · rw [List.length_replicate] at hk
            exact .inl ⟨by simp [List.getD, hk], by simp [List.getD, hk]⟩
          · simp [keysF]
          · simp [keysF]
          · rw [List.length_replicate] at hj
            exact absurd (by simp [List.getD, hj]) hne
        refine Fun.of_awpI Try.func11 rfl cal11 Try.ntmps11 (by simp) fun hwf => ?_
        simp only [D.wfs, D.wf, ints_length, ints_wfs, rows_length, rows_wfs, capMax, and_true, true_and] at hwf
        repeat' (first | simp only [go_sem, beq_self_eq_true, bne_self_eq_false, Ret_eq Try.results11] | simp (disch := omega) only [arith, IntKind.bits, capMax, fill_len, elt_fill] | (refine opCallI_rd (by simp only [go_sem, beq_self_eq_true, bne_self_eq_false, Ret_eq Try.results11]; first | done | rfl) (slotsLive_fun) (by rintro _ rfl; rfl) ?_; rintro _ rfl) | (refine opCallI_gv (by simp only [go_sem, beq_self_eq_true, bne_self_eq_false, Ret_eq Try.results11]; first | done | rfl) (hnew) ?_; rintro _ rfl) | fail)
        refine awpI_while (σ := Nat × List Int × List (List Int) × List (Int × Int) × List (Int × Int)) (fun x => ops.length - x.1) (fun x => x.1 ≤ ops.length ∧ x.2.1.length = n ∧ MInv x.2.1 x.2.2.1 x.2.2.2.1 x.2.2.2.2) (fun x => [(57, .v (.int .i64 x.1))]) (fun x => [(6, ⟨45, 3, [slotsD 1 x.2.1 x.2.2.1]⟩), (53, ⟨62, 0, kvI .i64 .i16 x.2.2.2.1⟩), (54, ⟨63, 0, kvI .i64 .i64 x.2.2.2.2⟩)]) [0, 5, 6, 8, 9, 55, 56] [] (0, List.replicate n (-1), List.replicate n [], [], []) _ (Weak.refl _) ⟨Nat.zero_le _, List.length_replicate, h0⟩ ?_ ?_ ?_
        · simp only [go_sem, Ret_eq Try.results11]
        · simp only [go_sem, kvI_nil, Ret_eq Try.results11]
        · rintro ⟨k, ids, vecs, has, at0⟩ s ⟨hk, hlen, hI⟩ hs
          simp only [go_sem, Ret_eq Try.results11] at hs
          dsimp only at hk hlen hI
          have hvl : vecs.length = ids.length := hI.1.2.2.1
          have h0l : has.length ≤ 256 := by have := hI.size; have := keysF_count ids; omega
          have h0a : at0.length ≤ 256 := by have := hI.2.2.1.length_eq; have := keysF_count ids; simp at *; omega
          by_cases hka : k < ops.length
          · have hog := opv_get hka
            generalize ops.getD k (0, 0, 0) = o at *
            obtain ⟨kind, id, x⟩ := o
            dsimp only at hog
            have hthere := hI.there id
            by_cases hkd : Int.tmod kind 3 = 0
            · skip
              have hkb : (Int.tmod kind 3 != 0) = false := by rw [bne, hkd]; rfl
              have hd := slotsDel_fun 1 ids vecs id (rows_short hI.1)
              by_cases hf : findE 1 ids vecs id = 0
              · obtain ⟨i, i1, i2, i3, i4, i5⟩ := hI.del hf
                obtain ⟨d1, d2⟩ := (find_zero hf).2.1
                obtain ⟨y, hl⟩ := Option.isSome_iff_exists.1 (hthere.2 i4)
                rw [hf, if_pos rfl, i2, Int.toNat_natCast] at hd
                have n1 : (ids.set i (-1)).length = n := by rw [List.length_set]; exact hlen
                clear hthere
                repeat' (first | simp only [go_sem, hs, hog, hkb, hl, i3, List.length_map, beq_self_eq_true, bne_self_eq_false, Ret_eq Try.results11] | simp (disch := omega) only [arith, IntKind.bits, capMax, fill_len, elt_fill] | (refine opCallI_gv (by simp only [go_sem, hs, hog, hkb, hl, i3, List.length_map, beq_self_eq_true, bne_self_eq_false, Ret_eq Try.results11]; first | done | rfl) (hd) ?_; rintro _ rfl) | fail)
                refine opI_delete_of (id := 53) (k := .i64) (n := id) (l := has.map fun p => (p.1, .v (.int .i16 p.2))) (by simp only [go_sem, hs, Ret_eq Try.results11]) (by simp only [go_sem, hs, Ret_eq Try.results11]) fact_m16 (by simp only [go_sem, hs, Ret_eq Try.results11]) (by simp only [go_sem, hs, Ret_eq Try.results11]; rfl) rfl kvI_of ?_
                repeat' (first | simp only [go_sem, hs, hog, Ret_eq Try.results11] | fail)
                refine opI_delete_of (id := 54) (k := .i64) (n := id) (l := at0.map fun p => (p.1, .v (.int .i64 p.2))) (by simp only [go_sem, hs, Ret_eq Try.results11]) (by simp only [go_sem, hs, Ret_eq Try.results11]) fact_dir (by simp only [go_sem, hs, Ret_eq Try.results11]) (by simp only [go_sem, hs, Ret_eq Try.results11]; rfl) rfl kvI_of ?_
                repeat' (first | simp only [go_sem, hs, hog, Ret_eq Try.results11] | fail)
                have hl2 := slotsLiveIds_fun 1 (ids.set i (-1)) (vecs.set i [])
                rw [if_pos i5.1, show slotsErr 1 (ids.set i (-1)) (vecs.set i []) = 0 from if_pos i5.1] at hl2
                have hck := slotsCheck_fun 1 (ids.set i (-1)) (vecs.set i [])
                rw [show slotsErr 1 (ids.set i (-1)) (vecs.set i []) = 0 from if_pos i5.1] at hck
                have hll := live_length i5
                have hmem := fun z => live_mem (id := z) i5
                have hVl : List.length (vecs.set i []) = n := by rw [i5.1.2.2.1]; exact n1
                have hLb : (liveL (ids.set i (-1))).length ≤ 256 := by
                  have h1 := i5.size
                  have h2 := keysF_count (ids.set i (-1))
                  have h3 := n1
                  omega
                generalize liveL (ids.set i (-1)) = L at *
                have hlb : ((L.length : Int) != (List.length (delN id has) : Int)) = false := by rw [hll]; exact bne_self_eq_false _
                repeat' (first | simp only [go_sem, hs, hlb, beq_self_eq_true, bne_self_eq_false, List.length_map, Ret_eq Try.results11] | (refine opCallI_gv (by simp only [go_sem, hs, hlb, beq_self_eq_true, bne_self_eq_false, List.length_map, Ret_eq Try.results11]; first | done | rfl) (hl2) ?_; rintro _ rfl) | (refine opCallI_rd (by simp only [go_sem, hs, hlb, beq_self_eq_true, bne_self_eq_false, List.length_map, Ret_eq Try.results11]; first | done | rfl) (hck) (by rintro _ rfl; rfl) ?_; rintro _ rfl) | fail)
                refine awpI_for L.length (fun k => True) (fun k => [(204, .v (.int .i64 k))]) (fun _ => []) [0, 5, 6, 8, 9, 55, 56, 57, 202, 203] [6, 53, 54] _ (Weak.refl _) trivial ?_ ?_ ?_
                · simp only [go_sem, hs, Ret_eq Try.results11]
                · simp only [go_sem, hs, Ret_eq Try.results11]
                · intro k2 s2 hk2 _ hs2
                  simp only [go_sem, hs, Ret_eq Try.results11] at hs2
                  by_cases hkb2 : k2 < L.length
                  · obtain ⟨j, y2, j1, j2, j3, j4, j5, j6⟩ := hmem _ (getD_mem (d := (0 : Int)) hkb2)
                    have hf2 := find_fun 1 (ids.set i (-1)) (vecs.set i []) (L.getD k2 0)
                    rw [j5, j6] at hf2
                    have hsv := refSame16_fun [y2] [y2]
                    rw [decide_eq_true rfl] at hsv
                    simp only [ints_cons, ints_nil] at hsv
                    repeat' (first | simp only [go_sem, hs, hs2, j2, j3, j4, hVl, ints_cons, ints_nil, List.length_map, beq_self_eq_true, bne_self_eq_false, Ret_eq Try.results11] | simp (disch := omega) only [arith, IntKind.bits, capMax, fill_len, elt_fill] | (refine Again.up (by omega) ?_ ?_) | (refine opCallI_rd (by simp only [go_sem, hs, hs2, j2, j3, j4, hVl, ints_cons, ints_nil, List.length_map, beq_self_eq_true, bne_self_eq_false, Ret_eq Try.results11]; first | done | rfl) (hf2) (by rintro _ rfl; rfl) ?_; rintro _ rfl) | (refine opCallI_rd (by simp only [go_sem, hs, hs2, j2, j3, j4, hVl, ints_cons, ints_nil, List.length_map, beq_self_eq_true, bne_self_eq_false, Ret_eq Try.results11]; first | done | rfl) (hsv) (by rintro _ rfl; rfl) ?_; rintro _ rfl) | fail)
                    all_goals skip
                  · obtain rfl : k2 = L.length := by omega
                    repeat' (first | simp only [go_sem, hs, hs2, Ret_eq Try.results11] | simp (disch := omega) only [arith, IntKind.bits, capMax, fill_len, elt_fill] | fail)
                    all_goals
                      refine AgainW.to (k + 1, (ids.set i (-1)), (vecs.set i []), (delN id has), (delN id at0)) ?_ ?_ ?_
                      · show ops.length - (k + 1) < ops.length - k; omega
                      · exact ⟨by show k + 1 ≤ ops.length; omega, n1, i5⟩
                      · simp only [go_sem, hs, hs2, Ret_eq Try.results11]
              · have hl : lookN id has = none := by
                  cases e : lookN id has with
                  | none => rfl
                  | some y =>
                    have hm := hthere.1 (by rw [e]; rfl)
                    obtain ⟨_, _, _, _, _, _, q, _⟩ := live_mem hI ((sortI_perm _).mem_iff.2 (keysF_mem.2 hm) : id ∈ liveL ids)
                    exact absurd q hf
                have hfb : (findE 1 ids vecs id == 0) = false := beq_eq_false_iff_ne.2 hf
                have hfb2 : (findE 1 ids vecs id != 0) = true := by rw [bne, hfb]; rfl
                rw [if_neg hf] at hd
                simp only [slotsD, rows_nil, ints_nil] at hd
                generalize findE 1 ids vecs id = E at *
                generalize findI 1 ids vecs id = F at *
                repeat' (first | simp only [go_sem, hs, hog, hkb, hl, hfb, hfb2, List.length_map, beq_self_eq_true, bne_self_eq_false, Ret_eq Try.results11] | simp (disch := omega) only [arith, IntKind.bits, capMax, fill_len, elt_fill] | (with_reducible refine condI_dec (fun hq hqb => ?_) (fun hq hqb => ?_) <;> simp only [KP_mk, hqb]) | (refine opCallI_gv (by simp only [go_sem, hs, hog, hkb, hl, hfb, hfb2, List.length_map, beq_self_eq_true, bne_self_eq_false, Ret_eq Try.results11]; first | done | rfl) (hd) ?_; rintro _ rfl) | fail)
                all_goals
                  refine AgainW.to (k + 1, ids, vecs, has, at0) ?_ ?_ ?_
                  · show ops.length - (k + 1) < ops.length - k; omega
                  · exact ⟨by show k + 1 ≤ ops.length; omega, hlen, hI⟩
                  · simp only [go_sem, hs, Ret_eq Try.results11]
            · skip
              have hkb : (Int.tmod kind 3 != 0) = true := by rw [bne, beq_eq_false_iff_ne.2 hkd]; rfl
              have hp := slotsPut_fun 1 ids vecs id [x] (rows_short hI.1) (by simp)
              by_cases hid : 0 ≤ id ∧ id ≤ 2147483647
              · obtain ⟨d1, d2⟩ := hid
                by_cases hx : -32767 ≤ x
                · have hdx : decide (x < -32767) = false := decide_eq_false (by omega)
                  have hE := put_may hI.1 (show idOk id from ⟨d1, d2⟩) (vec_one.2 hx)
                  cases hl : lookN id has with
                  | some y =>
                    have hm := hthere.1 (by rw [hl]; rfl)
                    rw [if_pos (.inl hm.1)] at hE
                    obtain ⟨i, i1, i2, i3, i4⟩ := hI.put hE
                    have ha := i3 y hl
                    rw [hE, if_pos rfl, i2, Int.toNat_natCast] at hp
                    simp only [ints_cons, ints_nil] at hp
                    have n1 : (ids.set i id).length = n := by rw [List.length_set]; exact hlen
                    clear hE hthere
                    repeat' (first | simp only [go_sem, hs, hog, hkb, hl, hdx, ha, List.length_map, beq_self_eq_true, bne_self_eq_false, Ret_eq Try.results11] | simp (disch := omega) only [arith, IntKind.bits, capMax, fill_len, elt_fill] | (refine opCallI_gv (by simp only [go_sem, hs, hog, hkb, hl, hdx, ha, List.length_map, beq_self_eq_true, bne_self_eq_false, Ret_eq Try.results11]; first | done | rfl) (hp) ?_; rintro _ rfl) | fail)
                    have hl2 := slotsLiveIds_fun 1 (ids.set i id) (vecs.set i [x])
                    rw [if_pos i4.1, show slotsErr 1 (ids.set i id) (vecs.set i [x]) = 0 from if_pos i4.1] at hl2
                    have hck := slotsCheck_fun 1 (ids.set i id) (vecs.set i [x])
                    rw [show slotsErr 1 (ids.set i id) (vecs.set i [x]) = 0 from if_pos i4.1] at hck
                    have hll := live_length i4
                    have hmem := fun z => live_mem (id := z) i4
                    have hVl : List.length (vecs.set i [x]) = n := by rw [i4.1.2.2.1]; exact n1
                    have hLb : (liveL (ids.set i id)).length ≤ 256 := by
                      have h1 := i4.size
                      have h2 := keysF_count (ids.set i id)
                      have h3 := n1
                      omega
                    generalize liveL (ids.set i id) = L at *
                    have hlb : ((L.length : Int) != (List.length (setN id x has) : Int)) = false := by rw [hll]; exact bne_self_eq_false _
                    repeat' (first | simp only [go_sem, hs, hlb, beq_self_eq_true, bne_self_eq_false, List.length_map, Ret_eq Try.results11] | (refine opCallI_gv (by simp only [go_sem, hs, hlb, beq_self_eq_true, bne_self_eq_false, List.length_map, Ret_eq Try.results11]; first | done | rfl) (hl2) ?_; rintro _ rfl) | (refine opCallI_rd (by simp only [go_sem, hs, hlb, beq_self_eq_true, bne_self_eq_false, List.length_map, Ret_eq Try.results11]; first | done | rfl) (hck) (by rintro _ rfl; rfl) ?_; rintro _ rfl) | fail)
                    refine awpI_for L.length (fun k => True) (fun k => [(204, .v (.int .i64 k))]) (fun _ => []) [0, 5, 6, 8, 9, 55, 56, 57, 202, 203] [6, 53, 54] _ (Weak.refl _) trivial ?_ ?_ ?_
                    · simp only [go_sem, hs, Ret_eq Try.results11]
                    · simp only [go_sem, hs, Ret_eq Try.results11]
                    · intro k2 s2 hk2 _ hs2
                      simp only [go_sem, hs, Ret_eq Try.results11] at hs2
                      by_cases hkb2 : k2 < L.length
                      · obtain ⟨j, y2, j1, j2, j3, j4, j5, j6⟩ := hmem _ (getD_mem (d := (0 : Int)) hkb2)
                        have hf2 := find_fun 1 (ids.set i id) (vecs.set i [x]) (L.getD k2 0)
                        rw [j5, j6] at hf2
                        have hsv := refSame16_fun [y2] [y2]
                        rw [decide_eq_true rfl] at hsv
                        simp only [ints_cons, ints_nil] at hsv
                        repeat' (first | simp only [go_sem, hs, hs2, j2, j3, j4, hVl, ints_cons, ints_nil, List.length_map, beq_self_eq_true, bne_self_eq_false, Ret_eq Try.results11] | simp (disch := omega) only [arith, IntKind.bits, capMax, fill_len, elt_fill] | (refine Again.up (by omega) ?_ ?_) | (refine opCallI_rd (by simp only [go_sem, hs, hs2, j2, j3, j4, hVl, ints_cons, ints_nil, List.length_map, beq_self_eq_true, bne_self_eq_false, Ret_eq Try.results11]; first | done | rfl) (hf2) (by rintro _ rfl; rfl) ?_; rintro _ rfl) | (refine opCallI_rd (by simp only [go_sem, hs, hs2, j2, j3, j4, hVl, ints_cons, ints_nil, List.length_map, beq_self_eq_true, bne_self_eq_false, Ret_eq Try.results11]; first | done | rfl) (hsv) (by rintro _ rfl; rfl) ?_; rintro _ rfl) | fail)
                        all_goals skip
                      · obtain rfl : k2 = L.length := by omega
                        repeat' (first | simp only [go_sem, hs, hs2, Ret_eq Try.results11] | simp (disch := omega) only [arith, IntKind.bits, capMax, fill_len, elt_fill] | fail)
                        all_goals
                          refine AgainW.to (k + 1, (ids.set i id), (vecs.set i [x]), (setN id x has), (setN id i at0)) ?_ ?_ ?_
                          · show ops.length - (k + 1) < ops.length - k; omega
                          · exact ⟨by show k + 1 ≤ ops.length; omega, n1, i4⟩
                          · simp only [go_sem, hs, hs2, Ret_eq Try.results11]
                  | none =>
                    have hm : id ∉ ids := fun q => by
                      have := hthere.2 ⟨q, by omega⟩
                      rw [hl] at this; cases this
                    by_cases hc : 0 < ids.count (-1)
                    · rw [if_pos (.inr hc)] at hE
                      have hfu : ¬ has.length = ids.length := fun q => hI.full.1 q hc
                      have hfb : ((has.length : Int) == (n : Int)) = false := beq_eq_false_iff_ne.2 (by omega)
                      obtain ⟨i, i1, i2, i3, i4⟩ := hI.put hE
                      rw [hE, if_pos rfl, i2, Int.toNat_natCast] at hp
                      simp only [ints_cons, ints_nil] at hp
                      have n1 : (ids.set i id).length = n := by rw [List.length_set]; exact hlen
                      clear hE hthere
                      repeat' (first | simp only [go_sem, hs, hog, hkb, hl, hdx, hfb, List.length_map, beq_self_eq_true, bne_self_eq_false, Ret_eq Try.results11] | simp (disch := omega) only [arith, IntKind.bits, capMax, fill_len, elt_fill] | (refine opCallI_gv (by simp only [go_sem, hs, hog, hkb, hl, hdx, hfb, List.length_map, beq_self_eq_true, bne_self_eq_false, Ret_eq Try.results11]; first | done | rfl) (hp) ?_; rintro _ rfl) | fail)
                      have hl2 := slotsLiveIds_fun 1 (ids.set i id) (vecs.set i [x])
                      rw [if_pos i4.1, show slotsErr 1 (ids.set i id) (vecs.set i [x]) = 0 from if_pos i4.1] at hl2
                      have hck := slotsCheck_fun 1 (ids.set i id) (vecs.set i [x])
                      rw [show slotsErr 1 (ids.set i id) (vecs.set i [x]) = 0 from if_pos i4.1] at hck
                      have hll := live_length i4
                      have hmem := fun z => live_mem (id := z) i4
                      have hVl : List.length (vecs.set i [x]) = n := by rw [i4.1.2.2.1]; exact n1
                      have hLb : (liveL (ids.set i id)).length ≤ 256 := by
                        have h1 := i4.size
                        have h2 := keysF_count (ids.set i id)
                        have h3 := n1
                        omega
                      generalize liveL (ids.set i id) = L at *
                      have hlb : ((L.length : Int) != (List.length (setN id x has) : Int)) = false := by rw [hll]; exact bne_self_eq_false _
                      repeat' (first | simp only [go_sem, hs, hlb, beq_self_eq_true, bne_self_eq_false, List.length_map, Ret_eq Try.results11] | (refine opCallI_gv (by simp only [go_sem, hs, hlb, beq_self_eq_true, bne_self_eq_false, List.length_map, Ret_eq Try.results11]; first | done | rfl) (hl2) ?_; rintro _ rfl) | (refine opCallI_rd (by simp only [go_sem, hs, hlb, beq_self_eq_true, bne_self_eq_false, List.length_map, Ret_eq Try.results11]; first | done | rfl) (hck) (by rintro _ rfl; rfl) ?_; rintro _ rfl) | fail)
                      refine awpI_for L.length (fun k => True) (fun k => [(204, .v (.int .i64 k))]) (fun _ => []) [0, 5, 6, 8, 9, 55, 56, 57, 202, 203] [6, 53, 54] _ (Weak.refl _) trivial ?_ ?_ ?_
                      · simp only [go_sem, hs, Ret_eq Try.results11]
                      · simp only [go_sem, hs, Ret_eq Try.results11]
                      · intro k2 s2 hk2 _ hs2
                        simp only [go_sem, hs, Ret_eq Try.results11] at hs2
                        by_cases hkb2 : k2 < L.length
                        · obtain ⟨j, y2, j1, j2, j3, j4, j5, j6⟩ := hmem _ (getD_mem (d := (0 : Int)) hkb2)
                          have hf2 := find_fun 1 (ids.set i id) (vecs.set i [x]) (L.getD k2 0)
                          rw [j5, j6] at hf2
                          have hsv := refSame16_fun [y2] [y2]
                          rw [decide_eq_true rfl] at hsv
                          simp only [ints_cons, ints_nil] at hsv
                          repeat' (first | simp only [go_sem, hs, hs2, j2, j3, j4, hVl, ints_cons, ints_nil, List.length_map, beq_self_eq_true, bne_self_eq_false, Ret_eq Try.results11] | simp (disch := omega) only [arith, IntKind.bits, capMax, fill_len, elt_fill] | (refine Again.up (by omega) ?_ ?_) | (refine opCallI_rd (by simp only [go_sem, hs, hs2, j2, j3, j4, hVl, ints_cons, ints_nil, List.length_map, beq_self_eq_true, bne_self_eq_false, Ret_eq Try.results11]; first | done | rfl) (hf2) (by rintro _ rfl; rfl) ?_; rintro _ rfl) | (refine opCallI_rd (by simp only [go_sem, hs, hs2, j2, j3, j4, hVl, ints_cons, ints_nil, List.length_map, beq_self_eq_true, bne_self_eq_false, Ret_eq Try.results11]; first | done | rfl) (hsv) (by rintro _ rfl; rfl) ?_; rintro _ rfl) | fail)
                          all_goals skip
                        · obtain rfl : k2 = L.length := by omega
                          repeat' (first | simp only [go_sem, hs, hs2, Ret_eq Try.results11] | simp (disch := omega) only [arith, IntKind.bits, capMax, fill_len, elt_fill] | fail)
                          all_goals
                            refine AgainW.to (k + 1, (ids.set i id), (vecs.set i [x]), (setN id x has), (setN id i at0)) ?_ ?_ ?_
                            · show ops.length - (k + 1) < ops.length - k; omega
                            · exact ⟨by show k + 1 ≤ ops.length; omega, n1, i4⟩
                            · simp only [go_sem, hs, hs2, Ret_eq Try.results11]
                    · rw [if_neg (fun q => q.elim hm hc)] at hE
                      have hfu : has.length = n := by rw [← hlen]; exact hI.full.2 hc
                      have hfb : ((has.length : Int) == (n : Int)) = true := beq_iff_eq.2 (by omega)
                      rw [hE, if_neg (by decide), show putI 1 ids vecs id [x] = 0 from if_neg (by rw [hE]; decide)] at hp
                      simp only [slotsD, rows_nil, ints_cons, ints_nil] at hp
                      clear hE hthere
                      repeat' (first | simp only [go_sem, hs, hog, hkb, hl, hdx, hfb, List.length_map, beq_self_eq_true, bne_self_eq_false, Ret_eq Try.results11] | simp (disch := omega) only [arith, IntKind.bits, capMax, fill_len, elt_fill] | (refine opCallI_gv (by simp only [go_sem, hs, hog, hkb, hl, hdx, hfb, List.length_map, beq_self_eq_true, bne_self_eq_false, Ret_eq Try.results11]; first | done | rfl) (hp) ?_; rintro _ rfl) | fail)
                      all_goals
                        refine AgainW.to (k + 1, ids, vecs, has, at0) ?_ ?_ ?_
                        · show ops.length - (k + 1) < ops.length - k; omega
                        · exact ⟨by show k + 1 ≤ ops.length; omega, hlen, hI⟩
                        · simp only [go_sem, hs, Ret_eq Try.results11]
                · have hdx : decide (x < -32767) = true := decide_eq_true (by omega)
                  have hE : putE 1 ids vecs id [x] = 1 := if_pos (.inr fun q => hx (vec_one.1 q))
                  rw [hE, if_neg (by decide), show putI 1 ids vecs id [x] = 0 from if_neg (by rw [hE]; decide)] at hp
                  simp only [slotsD, rows_nil, ints_cons, ints_nil] at hp
                  clear hE hthere
                  cases hl : lookN id has with
                  | some y =>
                    repeat' (first | simp only [go_sem, hs, hog, hkb, hl, hdx, List.length_map, beq_self_eq_true, bne_self_eq_false, Ret_eq Try.results11] | simp (disch := omega) only [arith, IntKind.bits, capMax, fill_len, elt_fill] | (refine opCallI_gv (by simp only [go_sem, hs, hog, hkb, hl, hdx, List.length_map, beq_self_eq_true, bne_self_eq_false, Ret_eq Try.results11]; first | done | rfl) (hp) ?_; rintro _ rfl) | fail)
                    all_goals
                      refine AgainW.to (k + 1, ids, vecs, has, at0) ?_ ?_ ?_
                      · show ops.length - (k + 1) < ops.length - k; omega
                      · exact ⟨by show k + 1 ≤ ops.length; omega, hlen, hI⟩
                      · simp only [go_sem, hs, Ret_eq Try.results11]
                  | none =>
                    repeat' (first | simp only [go_sem, hs, hog, hkb, hl, hdx, List.length_map, beq_self_eq_true, bne_self_eq_false, Ret_eq Try.results11] | simp (disch := omega) only [arith, IntKind.bits, capMax, fill_len, elt_fill] | (refine opCallI_gv (by simp only [go_sem, hs, hog, hkb, hl, hdx, List.length_map, beq_self_eq_true, bne_self_eq_false, Ret_eq Try.results11]; first | done | rfl) (hp) ?_; rintro _ rfl) | fail)
                    all_goals
                      refine AgainW.to (k + 1, ids, vecs, has, at0) ?_ ?_ ?_
                      · show ops.length - (k + 1) < ops.length - k; omega
                      · exact ⟨by show k + 1 ≤ ops.length; omega, hlen, hI⟩
                      · simp only [go_sem, hs, Ret_eq Try.results11]
              · have hf1 : findE 1 ids vecs id = 1 := if_neg fun q => hid q.2
                have hE : putE 1 ids vecs id [x] = 1 := if_pos (.inl hf1)
                rw [hE, if_neg (by decide), show putI 1 ids vecs id [x] = 0 from if_neg (by rw [hE]; decide)] at hp
                simp only [slotsD, rows_nil, ints_cons, ints_nil] at hp
                clear hE hthere hf1
                by_cases d1 : 0 ≤ id
                · have d2 : ¬ id ≤ 2147483647 := fun q => hid ⟨d1, q⟩
                  cases hl : lookN id has with
                  | some y =>
                    repeat' (first | simp only [go_sem, hs, hog, hkb, hl, List.length_map, beq_self_eq_true, bne_self_eq_false, Ret_eq Try.results11] | simp (disch := omega) only [arith, IntKind.bits, capMax, fill_len, elt_fill] | (refine opCallI_gv (by simp only [go_sem, hs, hog, hkb, hl, List.length_map, beq_self_eq_true, bne_self_eq_false, Ret_eq Try.results11]; first | done | rfl) (hp) ?_; rintro _ rfl) | fail)
                    all_goals
                      refine AgainW.to (k + 1, ids, vecs, has, at0) ?_ ?_ ?_
                      · show ops.length - (k + 1) < ops.length - k; omega
                      · exact ⟨by show k + 1 ≤ ops.length; omega, hlen, hI⟩
                      · simp only [go_sem, hs, Ret_eq Try.results11]
                  | none =>
                    repeat' (first | simp only [go_sem, hs, hog, hkb, hl, List.length_map, beq_self_eq_true, bne_self_eq_false, Ret_eq Try.results11] | simp (disch := omega) only [arith, IntKind.bits, capMax, fill_len, elt_fill] | (refine opCallI_gv (by simp only [go_sem, hs, hog, hkb, hl, List.length_map, beq_self_eq_true, bne_self_eq_false, Ret_eq Try.results11]; first | done | rfl) (hp) ?_; rintro _ rfl) | fail)
                    all_goals
                      refine AgainW.to (k + 1, ids, vecs, has, at0) ?_ ?_ ?_
                      · show ops.length - (k + 1) < ops.length - k; omega
                      · exact ⟨by show k + 1 ≤ ops.length; omega, hlen, hI⟩
                      · simp only [go_sem, hs, Ret_eq Try.results11]
                · cases hl : lookN id has with
                  | some y =>
                    repeat' (first | simp only [go_sem, hs, hog, hkb, hl, List.length_map, beq_self_eq_true, bne_self_eq_false, Ret_eq Try.results11] | simp (disch := omega) only [arith, IntKind.bits, capMax, fill_len, elt_fill] | (refine opCallI_gv (by simp only [go_sem, hs, hog, hkb, hl, List.length_map, beq_self_eq_true, bne_self_eq_false, Ret_eq Try.results11]; first | done | rfl) (hp) ?_; rintro _ rfl) | fail)
                    all_goals
                      refine AgainW.to (k + 1, ids, vecs, has, at0) ?_ ?_ ?_
                      · show ops.length - (k + 1) < ops.length - k; omega
                      · exact ⟨by show k + 1 ≤ ops.length; omega, hlen, hI⟩
                      · simp only [go_sem, hs, Ret_eq Try.results11]
                  | none =>
                    repeat' (first | simp only [go_sem, hs, hog, hkb, hl, List.length_map, beq_self_eq_true, bne_self_eq_false, Ret_eq Try.results11] | simp (disch := omega) only [arith, IntKind.bits, capMax, fill_len, elt_fill] | (refine opCallI_gv (by simp only [go_sem, hs, hog, hkb, hl, List.length_map, beq_self_eq_true, bne_self_eq_false, Ret_eq Try.results11]; first | done | rfl) (hp) ?_; rintro _ rfl) | fail)
                    all_goals
                      refine AgainW.to (k + 1, ids, vecs, has, at0) ?_ ?_ ?_
                      · show ops.length - (k + 1) < ops.length - k; omega
                      · exact ⟨by show k + 1 ≤ ops.length; omega, hlen, hI⟩
                      · simp only [go_sem, hs, Ret_eq Try.results11]
          · obtain rfl : k = ops.length := by omega
            repeat' (first | simp only [go_sem, hs, Ret_eq Try.results11] | simp (disch := omega) only [arith, IntKind.bits, capMax, fill_len, elt_fill] | fail)
            all_goals skip
      · skip
        refine Fun.of_awpI Try.func11 rfl cal11 Try.ntmps11 (by simp) fun hwf => ?_
        simp only [D.wfs, D.wf, ints_length, ints_wfs, rows_length, rows_wfs, capMax, and_true, true_and] at hwf
        repeat' (first | simp only [go_sem, Ret_eq Try.results11] | simp (disch := omega) only [arith, IntKind.bits, capMax, fill_len, elt_fill] | (refine opCallI_rd (by simp only [go_sem, Ret_eq Try.results11]; first | done | rfl) (slotsLive_fun) (by rintro _ rfl; rfl) ?_; rintro _ rfl) | fail)
    · skip
      refine Fun.of_awpI Try.func11 rfl cal11 Try.ntmps11 (by simp) fun hwf => ?_
      simp only [D.wfs, D.wf, ints_length, ints_wfs, rows_length, rows_wfs, capMax, and_true, true_and] at hwf
      repeat' (first | simp only [go_sem, Ret_eq Try.results11] | simp (disch := omega) only [arith, IntKind.bits, capMax, fill_len, elt_fill] | (refine opCallI_rd (by simp only [go_sem, Ret_eq Try.results11]; first | done | rfl) (slotsLive_fun) (by rintro _ rfl; rfl) ?_; rintro _ rfl) | fail)
  · skip
    refine Fun.of_awpI Try.func11 rfl cal11 Try.ntmps11 (by simp) fun hwf => ?_
    simp only [D.wfs, D.wf, ints_length, ints_wfs, rows_length, rows_wfs, capMax, and_true, true_and] at hwf
    repeat' (first | simp only [go_sem, Ret_eq Try.results11] | simp (disch := omega) only [arith, IntKind.bits, capMax, fill_len, elt_fill] | (refine opCallI_rd (by simp only [go_sem, Ret_eq Try.results11]; first | done | rfl) (slotsLive_fun) (by rintro _ rfl; rfl) ?_; rintro _ rfl) | fail)
end Go.Proofs.Ytpkampecmlpfmaa.T
