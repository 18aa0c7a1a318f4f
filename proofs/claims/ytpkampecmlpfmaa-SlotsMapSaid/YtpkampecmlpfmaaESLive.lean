import Derived.Test.YtpkampecmlpfmaaLE
import Derived.Test.YtpkampecmlpfmaaESPut
import Derived.Test.YtpkampecmlpfmaaEB64
set_option linter.unusedSimpArgs false
set_option linter.unusedVariables false
/- All ids, walked. -/
namespace Go.Proofs.Ytpkampecmlpfmaa.T
open Go Go.VL Go.Proofs
set_option maxRecDepth 100000
set_option maxHeartbeats 4000000
def liveL (ids : List Int) : List Int := sortI (ids.filter fun x => !(x == -1))
theorem setN_new {a d : Int} : ∀ {l : List (Int × Int)}, lookN a l = none → setN a d l = l ++ [(a, d)]
  | [], _ => rfl
  | (b, e) :: r, h => by
    rw [lookN] at h
    split at h
    · cases h
    · rename_i hne
      rw [setN, if_neg hne, setN_new h]; rfl
theorem dir_keys {dim : Int} {ids : List Int} {vecs : List (List Int)} (h : slotsOk dim ids vecs) : ∀ k, k ≤ ids.length → (dirN ids k).map (fun p => p.1) = (ids.take k).filter fun x => !(x == -1)
  | 0, _ => by simp [dirN]
  | k + 1, hk => by
    have ih := dir_keys h k (by omega)
    rw [dirN, take_snoc (d := (0 : Int)) (by omega), List.filter_append, ← ih]
    by_cases q : ids.getD k 0 = -1
    · rw [if_pos q, q]; simp
    · rw [if_neg q]
      have h3 := (h.2.2.2 k (by omega)).resolve_left fun z => q z.1
      have q2 : (ids.getD k 0 == -1) = false := beq_eq_false_iff_ne.2 q
      rw [setN_new h3.1, List.map_append, List.filter_cons_of_pos (by rw [q2]; rfl)]; rfl
theorem fact_it : mapT Try.prog 63 = some (2, 3) := by kernel_rfl
def ivD (l : List (Int × Int)) : List (Int × D) := l.map fun p => (p.1, .v (.int .i64 p.2))
theorem ivD_app (l r : List (Int × Int)) : ivD l ++ ivD r = ivD (l ++ r) := (List.map_append).symm
theorem it_kills (id : Nat) (t : TypeId) (a x : Int) (l : List (Int × Int)) : D.kills id (iterO t .i64 (D.agg [.v (.int .i64 a), .v (.int .i64 x)]) (ivD l)).els = (iterO t .i64 (D.agg [.v (.int .i64 a), .v (.int .i64 x)]) (ivD l)).els := by
  have h : D.noRefs (kvD .i64 (ivD l)) = true := kvI_noRefs (k := .i64) (k2 := .i64) (l := l)
  have h2 := D.noRef_kill id h
  simp only [iterO, D.kills, D.kill]
  rw [h2]
theorem ivD_split {rest : List (Int × Int)} {l1 l2 : List (Int × D)} {a : Int} {d : D} (h : ivD rest = l1 ++ (a, d) :: l2) : ∃ r1 x r2, rest = r1 ++ (a, x) :: r2 ∧ d = .v (.int .i64 x) ∧ l1 = ivD r1 ∧ l2 = ivD r2 := by
  unfold ivD at h
  obtain ⟨r1, r2', e1, e2, e3⟩ := List.map_eq_append_iff.1 h
  obtain ⟨p, r2, e4, e5, e6⟩ := List.map_eq_cons_iff.1 e3
  cases e5
  exact ⟨r1, p.2, r2, by rw [e1, e4], rfl, e2.symm, e6.symm⟩

theorem slotsLiveIds_fun (dim : Int) (ids : List Int) (vecs : List (List Int)) : Fun Try.prog 38 [slotsD dim ids vecs] fun r => r = .tup [.lst (ints .i64 (if slotsOk dim ids vecs then liveL ids else [])), .v (.int .i64 (slotsErr dim ids vecs))] := by
  by_cases h : slotsOk dim ids vecs
  · have hd := dir_ok dim ids vecs h
    have hk := dir_keys h ids.length (Nat.le_refl _)
    rw [List.take_length] at hk
    have hn := dirN_length (ids := ids) ids.length
    have h256 := h.2.1.2
    rw [if_pos h, show slotsErr dim ids vecs = 0 from if_pos h]
    generalize dirN ids ids.length = M at *
    refine Fun.of_awpI Try.func38 rfl cal38 Try.ntmps38 (by simp) fun hwf => ?_
    simp only [D.wfs, D.wf, ints_length, ints_wfs, rows_length, rows_wfs, capMax, and_true, true_and] at hwf
    repeat' (first | simp only [go_sem, List.length_map, Ret_eq Try.results38] | simp (disch := omega) only [arith, IntKind.bits, capMax, fill_len, elt_fill] | (refine opCallI_ownGv (by simp only [go_sem, List.length_map, Ret_eq Try.results38]; first | done | rfl) (hd) ?_; rintro _ _ ⟨rfl, rfl⟩) | fail)
    have hkv : ∀ l : List (Int × Int), kvI .i64 .i64 l = kvD .i64 (ivD l) := fun _ => rfl
    refine opI_range_of (m := 10) (k := .i64) (l := ivD M) (by simp only [go_sem, Ret_eq Try.results38]) (fact_it) (by simp only [go_sem, Ret_eq Try.results38]; rfl) rfl (kvOf_kvD _) kvI_noRefs (by rw [ivD, List.length_map]; simp only [capMax]; omega) ?_
    repeat' (first | simp only [go_sem, Ret_eq Try.results38] | fail)
    refine awpI_while (σ := List (Int × Int) × List Int × D) (fun x => x.1.length) (fun x => (x.2.1 ++ x.1.map (fun p => p.1)).Perm (M.map fun p => p.1)) (fun x => [(6, .ref 17 x.2.1.length)]) (fun x => [(17, own64 x.2.1), (19, iterO 63 .i64 x.2.2 (ivD x.1))]) [19] [] (M, [], .any) _ (Weak.refl _) ?_ ?_ ?_ ?_
    · simp
    · simp only [go_sem, Ret_eq Try.results38]
    · simp only [go_sem, List.replicate_zero, ints_nil, own64, List.length_nil, Ret_eq Try.results38]
    · rintro ⟨rest, got, cur⟩ s hQ hs
      simp only [go_sem, Ret_eq Try.results38] at hs
      repeat' (first | simp only [go_sem, hs, Ret_eq Try.results38] | fail)
      refine opI_next_of (id := 19) (t := 63) (k := .i64) (cur := cur) (l := ivD rest) (by simp only [go_sem, hs, Ret_eq Try.results38]) (by simp only [go_sem, hs, Ret_eq Try.results38]) (fun h0 => ?_) (fun l1 a d l2 he => ?_)
      · have hr0 : rest = [] := by cases rest with
          | nil => rfl
          | cons p r => cases h0
        subst hr0
        have hgl : got.length = M.length := by simpa using hQ.length_eq
        have hgs : sortI got = liveL ids := by
          refine sorted_unique ((sortI_perm got).trans ?_) (sortI_sorted got) (sortI_sorted _)
          have h4 : got.Perm (M.map fun p => p.1) := by simpa using hQ
          rw [hk] at h4
          exact h4.trans (sortI_perm _).symm
        have hso := sort64 got (by omega)
        repeat' (first | simp only [go_sem, hs, Ret_eq Try.results38] | fail)
        refine opCallI_lend [17] (by simp only [go_sem, hs, Ret_eq Try.results38]; first | done | rfl) (by simp only [go_sem, hs, Ret_eq Try.results38]; first | done | rfl) (by decide) (by simp only [go_sem, hs, Ret_eq Try.results38]; first | done | decide) (by simp only [go_sem, hs, Ret_eq Try.results38]; first | done | decide) hso ?_
        rintro _ _ ⟨rfl, rfl⟩
        have hsl : (sortI got).length = got.length := (sortI_perm got).length_eq
        rw [hgs] at hsl
        have htk : (liveL ids).take got.length = liveL ids := List.take_of_length_le (by omega)
        rw [hgs]
        repeat' (first | simp only [go_sem, hs, hsl, htk, Ret_eq Try.results38] | fail)
      · obtain ⟨r1, x, r2, rfl, rfl, rfl, rfl⟩ := ivD_split he
        have hml : got.length + (r1.length + 1 + r2.length) = M.length := by
          have := hQ.length_eq
          simp at this; omega
        repeat' (first | simp only [go_sem, hs, Ret_eq Try.results38] | fail)
        refine opI_entry_of (id := 19) (t := 63) (k := .i64) (n := a) (d := .v (.int .i64 x)) (l := ivD r1 ++ ivD r2) (by simp only [go_sem, hs, Ret_eq Try.results38]) (by simp only [go_sem, hs, Ret_eq Try.results38]) ?_
        repeat' (first | simp only [go_sem, hs, List.length_append, List.length_cons, List.length_nil, Ret_eq Try.results38] | simp (disch := omega) only [arith, IntKind.bits, capMax, fill_len, elt_fill] | fail)
        all_goals
          refine AgainW.to (r1 ++ r2, got ++ [a], D.agg [.v (.int .i64 a), .v (.int .i64 x)]) ?_ ?_ ?_
          · simp
          · dsimp only at hQ ⊢
            refine List.Perm.trans ?_ hQ
            simp only [List.map_append, List.map_cons, List.append_assoc, List.singleton_append]
            exact (List.perm_middle.symm).append_left _
          · simp only [go_sem, hs, ivD_app, it_kills, List.length_append, List.length_cons, List.length_nil, Ret_eq Try.results38]
  · rw [if_neg h, show slotsErr dim ids vecs = 1 from if_neg h]
    have hd := dir_bad dim ids vecs h
    refine Fun.of_awpI Try.func38 rfl cal38 Try.ntmps38 (by simp) fun hwf => ?_
    simp only [D.wfs, D.wf, ints_length, ints_wfs, rows_length, rows_wfs, capMax, and_true, true_and] at hwf
    repeat' (first | simp only [go_sem, Ret_eq Try.results38] | (refine opCallI_ownGv (by simp only [go_sem, Ret_eq Try.results38]; first | done | rfl) (hd) ?_; rintro _ _ ⟨rfl, rfl⟩) | fail)
end Go.Proofs.Ytpkampecmlpfmaa.T
