import Derived.Test.YtpkampecmlpfmaaLE
import Derived.Test.YtpkampecmlpfmaaEPClone
import Derived.Test.YtpkampecmlpfmaaEPSpec
set_option linter.unusedSimpArgs false
set_option linter.unusedVariables false
/- Numbers put. -/
namespace Go.Proofs.Ytpkampecmlpfmaa.T
open Go Go.VL Go.Proofs
set_option maxRecDepth 100000

theorem wide_fun (n : Int) : Fun Try.prog 147 [.v (.int .i64 n)] fun r => r = .v (.bool (decide (1 ≤ n ∧ n ≤ 8))) := by
  refine Fun.of_awpI Try.func147 rfl cal147 Try.ntmps147 (by simp) fun hwf => ?_
  simp only [go_sem, Ret_eq Try.results147]
  refine condI_split (fun h => ?_) (fun h => ?_)
  · simp only [go_sem, h, Ret_eq Try.results147]
    simp at h ⊢; simp [h]
  · simp only [go_sem, h, Ret_eq Try.results147]
    simp at h ⊢; omega

theorem put_fun (b : List Int) (width : Int) (l : List Int) : FunO Try.prog 109 [.lst (ints .u8 b), .v (.int .i64 width), .lst (ints .i64 l)] fun r o =>
    (putErr b width l ≠ 0 ∧ r = .tup [.v (.slice none 0 0), .v (.int .i64 (putErr b width l))] ∧ o = none) ∨
    (putErr b width l = 0 ∧ r = .tup [.ref 0 (putOut b width l).length, .v (.int .i64 0)] ∧ o = some ⟨5, 1, ints .u8 (putOut b width l)⟩) := by
  refine FunO.of_awpI Try.func109 rfl cal109 Try.ntmps109 (by simp) fun hwf => ?_
  simp only [D.wfs, D.wf, ints_length, ints_wfs, capMax, and_true] at hwf
  obtain ⟨hwb, -, hwl⟩ := hwf
  simp only [go_sem, Ret_eq Try.results109]
  refine opCallI_plain (by simp only [go_sem, Ret_eq Try.results109]) (by simp only [go_sem, Ret_eq Try.results109]) (wide_fun width) ?_
  rintro _ rfl
  simp only [go_sem, Ret_eq Try.results109]
  by_cases hw : 1 ≤ width ∧ width ≤ 8
  · have e1 : IntKind.i64.wrap (8 * width) = 8 * width := IntWalk.i64_in _ (by omega)
    have e2 : IntKind.i64.wrap (64 - 8 * width) = 64 - 8 * width := IntWalk.i64_in _ (by omega)
    simp only [go_sem, hw, e1, e2, Ret_eq Try.results109]
    refine awpI_count l.length (fun k s => (l.take k).all (putFit width) = true ∧ At s 71 [(0, .lst (ints .u8 b)), (1, .v (.int .i64 width)), (2, .lst (ints .i64 l)), (8, .v (.int .i64 (64 - 8 * width))), (21, .lst (ints .i64 l)), (22, .v (.int .i64 l.length)), (23, .v (.int .i64 k))] []) _ (Weak.refl _) ?_ ?_
    · refine ⟨by simp, ?_⟩
      simp only [go_sem, Ret_eq Try.results109]
      try simp
    · rintro k s hk ⟨hp, hs⟩
      simp only [At, Slots_cons, Slots_nil, Heaps_nil, and_true] at hs
      simp only [go_sem, hs, Ret_eq Try.results109]
      refine condI_split (fun h => ?_) (fun h => ?_)
      · have hk' : k < l.length := by simp at h; omega
        have h0 : (0 : Int) ≤ 64 - 8 * width := by omega
        have hm : min (64 - 8 * width).toNat 64 = (64 - 8 * width).toNat := by omega
        simp only [go_sem, hs, idx_ints hk', idx_in hk', h0, hm, Ret_eq Try.results109]
        refine condI_split (fun hf => ?_) (fun hf => ?_)
        · simp only [go_sem, hs, Ret_eq Try.results109]
          have he : putErr b width l = 4 := by
            unfold putErr
            rw [if_neg (by simpa using hw), if_pos (all_of_fail hk' (by unfold putFit; simpa using hf))]
          exact RetO_plain Try.results109 (ds := [.v (.slice none 0 0), .v (.int .i64 4)]) (by simp only [go_sem, Ret_eq Try.results109]) _ rfl (by simp only [go_sem, Ret_eq Try.results109]) (.inl ⟨by rw [he]; decide, by rw [he]; rfl, rfl⟩)
        · have e3 : IntKind.i64.wrap ((k : Int) + 1) = ((k + 1 : Nat) : Int) := by rw [IntWalk.i64_in _ (by omega)]; rfl
          simp only [go_sem, hs, e3, Ret_eq Try.results109]
          refine Next.to hk' ⟨?_, ?_⟩
          · rw [all_take_succ hk', hp]
            unfold putFit
            simpa using hf
          · simp only [go_sem, hs, Ret_eq Try.results109]
      · have hkl : k = l.length := by simp at h; omega
        subst hkl
        rw [List.take_length] at hp
        simp only [go_sem, hs, Ret_eq Try.results109]
        have e4 : IntKind.i64.wrap (width * l.length) = width * l.length ∨ 65536 < l.length := by
          rcases Nat.lt_or_ge 65536 l.length with h | h
          · exact .inr h
          · left
            have : width * l.length ≤ 8 * l.length := Int.mul_le_mul_of_nonneg_right hw.2 (by omega)
            have : 0 ≤ width * l.length := Int.mul_nonneg (by omega) (by omega)
            exact IntWalk.i64_in _ (by omega)
        refine condI_split (fun h1 => ?_) (fun h1 => ?_)
        · simp only [go_sem, hs, h1, Ret_eq Try.results109]
          have he : putErr b width l = 3 := by
            unfold putErr
            rw [if_neg (by simpa using hw), if_neg (by simp [hp]), if_pos (.inl (by simp at h1; omega))]
          exact RetO_plain Try.results109 (ds := [.v (.slice none 0 0), .v (.int .i64 3)]) (by simp only [go_sem, Ret_eq Try.results109]) _ rfl (by simp only [go_sem, Ret_eq Try.results109]) (.inl ⟨by rw [he]; decide, by rw [he]; rfl, rfl⟩)
        · have h1' : l.length ≤ 65536 := by simp at h1; omega
          have e4 := e4.resolve_right (by omega)
          have hub : width * l.length ≤ 8 * l.length := Int.mul_le_mul_of_nonneg_right hw.2 (by omega)
          have hlb : 0 ≤ width * l.length := Int.mul_nonneg (by omega) (by omega)
          have e5 : IntKind.i64.wrap (65536 - width * l.length) = 65536 - width * l.length := IntWalk.i64_in _ (by omega)
          simp only [go_sem, hs, e4, e5, h1, Ret_eq Try.results109]
          refine condI_split (fun h2 => ?_) (fun h2 => ?_)
          · simp only [go_sem, hs, h2, Ret_eq Try.results109]
            have he : putErr b width l = 3 := by
              unfold putErr
              rw [if_neg (by simpa using hw), if_neg (by simp [hp]), if_pos (.inr (by simp at h2; omega))]
            exact RetO_plain Try.results109 (ds := [.v (.slice none 0 0), .v (.int .i64 3)]) (by simp only [go_sem, Ret_eq Try.results109]) _ rfl (by simp only [go_sem, Ret_eq Try.results109]) (.inl ⟨by rw [he]; decide, by rw [he]; rfl, rfl⟩)
          · have h2' : (b.length : Int) ≤ 65536 - width * l.length := by simp at h2; omega
            have he : putErr b width l = 0 := by
              unfold putErr
              rw [if_neg (by simpa using hw), if_neg (by simp [hp]), if_neg (by omega)]
            simp only [go_sem, hs, h2, Ret_eq Try.results109]
            refine opCallI_own_plain (by simp only [go_sem, Ret_eq Try.results109]) (by simp only [go_sem, Ret_eq Try.results109]) (clone_fun b (by omega)) ?_
            rintro _ _ ⟨rfl, rfl⟩
            simp only [go_sem, hs, Ret_eq Try.results109]
            have hub2 : width.toNat * l.length ≤ 65536 ∧ b.length + width.toNat * l.length ≤ 65536 := by
              have : ((width.toNat * l.length : Nat) : Int) = width * l.length := by
                rw [Int.natCast_mul, Int.toNat_of_nonneg (by omega)]
              omega
            refine awpI_count l.length (fun k s => At s 71 [(1, .v (.int .i64 width)), (50, .lst (ints .i64 l)), (51, .v (.int .i64 l.length)), (52, .v (.int .i64 k)), (11, .ref 49 (b ++ (l.take k).flatMap (octs width.toNat)).length)]
              [(49, ⟨5, 1, ints .u8 (b ++ (l.take k).flatMap (octs width.toNat))⟩)]) _ (Weak.refl _) ?_ ?_
            · simp only [go_sem, hs, List.take_zero, List.flatMap_nil, Ret_eq Try.results109]
              try simp
            · clear hs s
              rintro k s hk hs
              simp only [At, Slots_cons, Slots_nil, Heaps_cons, Heaps_nil, and_true] at hs
              simp only [go_sem, hs, Ret_eq Try.results109]
              refine condI_split (fun h3 => ?_) (fun h3 => ?_)
              · have hk' : k < l.length := by simp at h3; omega
                have hlk : (b ++ (l.take k).flatMap (octs width.toNat)).length + width.toNat ≤ 65536 := by
                  rw [List.length_append, flat_octs_length, List.length_take, Nat.min_eq_left hk]
                  have : width.toNat * (k + 1) ≤ width.toNat * l.length := Nat.mul_le_mul_left _ hk'
                  rw [Nat.mul_succ] at this
                  omega
                generalize hacc : b ++ (l.take k).flatMap (octs width.toNat) = acc at *
                simp only [go_sem, hs, idx_ints hk', idx_in hk', Ret_eq Try.results109]
                refine awpI_count width.toNat (fun j s => At s 71 [(1, .v (.int .i64 width)), (13, .v (.int .i64 l[k])), (50, .lst (ints .i64 l)), (51, .v (.int .i64 l.length)), (52, .v (.int .i64 k)), (56, .v (.int .i64 width)), (57, .v (.int .i64 j)), (11, .ref 49 (acc ++ octs j l[k]).length)]
                  [(49, ⟨5, 1, ints .u8 (acc ++ octs j l[k])⟩)]) _ (Weak.refl _) ?_ ?_
                · simp only [go_sem, hs, Ret_eq Try.results109]
                  simp [octs]
                · clear hs s
                  rintro j s hj hs
                  simp only [At, Slots_cons, Slots_nil, Heaps_cons, Heaps_nil, and_true] at hs
                  simp only [go_sem, hs, Ret_eq Try.results109]
                  refine condI_split (fun h4 => ?_) (fun h4 => ?_)
                  · have hj' : j < width.toNat := by simp at h4; omega
                    have e6 : IntKind.i64.wrap (8 * (j : Int)) = ((8 * j : Nat) : Int) := by rw [IntWalk.i64_in _ (by omega)]; rfl
                    have h0 : (0 : Int) ≤ ((8 * j : Nat) : Int) := by omega
                    have hm : min ((8 * j : Nat) : Int).toNat 64 = 8 * j := by omega
                    have e7 : IntKind.i64.wrap ((j : Int) + 1) = ((j + 1 : Nat) : Int) := by rw [IntWalk.i64_in _ (by omega)]; rfl
                    simp only [go_sem, hs, e6, h0, hm, Ret_eq Try.results109]
                    have ho : acc ++ (octs j l[k] ++ [IntKind.u8.wrap (l[k].fdiv (2 ^ (8 * j)))]) = acc ++ octs (j + 1) l[k] := by rw [octs_succ]; rfl
                    rw [ho]
                    refine reqI_of (by simp only [List.length_append, octs_length, capMax]; omega) ?_
                    simp only [go_sem, hs, e7, Ret_eq Try.results109]
                    refine Next.to hj' ?_
                    simp only [go_sem, hs, Ret_eq Try.results109]
                    simp only [ho, and_self]
                  · have hjw : j = width.toNat := by simp at h4; omega
                    subst hjw
                    have e8 : IntKind.i64.wrap ((k : Int) + 1) = ((k + 1 : Nat) : Int) := by rw [IntWalk.i64_in _ (by omega)]; rfl
                    simp only [go_sem, hs, e8, Ret_eq Try.results109]
                    refine Next.to hk' ?_
                    rw [flatMap_take_succ hk', ← List.append_assoc, hacc]
                    simp only [go_sem, hs, Ret_eq Try.results109]
              · have hkl : k = l.length := by simp at h3; omega
                subst hkl
                rw [List.take_length] at hs
                simp only [go_sem, hs, Ret_eq Try.results109]
                exact RetO_own Try.results109 (ds := [.ref 49 (putOut b width l).length, .v (.int .i64 0)]) (by simp only [go_sem, hs, Ret_eq Try.results109]; rfl) 49 ⟨5, 1, ints .u8 (putOut b width l)⟩ (by simp only [go_sem, hs, Ret_eq Try.results109]; rfl) (by simp only [go_sem, Ret_eq Try.results109]) [] _ rfl (by simp only [go_sem, hs, Ret_eq Try.results109]; rfl) (by intro i hi; simpa [D.idss, D.ids] using hi) (.inr ⟨he, rfl, rfl⟩)
  · simp only [go_sem, hw, Ret_eq Try.results109]
    have he : putErr b width l = 1 := by simp [putErr, hw]
    exact RetO_plain Try.results109 (ds := [.v (.slice none 0 0), .v (.int .i64 1)]) (by simp only [go_sem, Ret_eq Try.results109]) _ rfl (by simp only [go_sem, Ret_eq Try.results109]) (.inl ⟨by rw [he]; decide, by rw [he]; rfl, rfl⟩)
end Go.Proofs.Ytpkampecmlpfmaa.T
