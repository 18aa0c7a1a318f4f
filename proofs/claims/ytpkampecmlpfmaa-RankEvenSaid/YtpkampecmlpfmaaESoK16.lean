import Derived.Test.YtpkampecmlpfmaaLE
import Derived.Test.YtpkampecmlpfmaaESoJ16
import Derived.Test.YtpkampecmlpfmaaESoM6
set_option linter.unusedSimpArgs false
set_option linter.unusedVariables false
/- slices.Sort, walked. -/
namespace Go.Proofs.Ytpkampecmlpfmaa.T
open Go Go.VL Go.Proofs
set_option maxRecDepth 100000
set_option maxHeartbeats 8000000

theorem sort16 (l : List Int) (hl : l.length ≤ 60000) : FunL Try.prog 138 [.ref 0 l.length] [own16 l] fun r os => r = .tup [] ∧ os = [own16 (sortI l)] := by
  refine FunL.of_awpI [(100000, 0)] rfl Try.func138 rfl cal138 Try.ntmps138 (by simp) fun hwf hlw ls => ?_
  simp only [lentWf, D.wfs, D.wf, ints_length, ints_wfs, rows_length, rows_wfs, capMax, and_true, true_and] at hwf hlw
  have hbl := bitsLen_fun l.length (by omega)
  repeat' (first | simp only [go_sem, Ret_eq Try.results138] | simp (disch := omega) only [arith, IntKind.bits, capMax, fill_len, elt_fill] | (with_reducible refine condI_beq (fun hq hqb => ?_) (fun hq hqb => ?_) <;> simp only [KP_mk, hqb]) | (with_reducible refine condI_bne (fun hq hqb => ?_) (fun hq hqb => ?_) <;> simp only [KP_mk, hqb]) | (with_reducible refine condI_dec (fun hq hqb => ?_) (fun hq hqb => ?_) <;> simp only [KP_mk, hqb]) | (with_reducible refine condI_b (fun hqb => ?_) (fun hqb => ?_) <;> simp only [KP_mk, hqb]) | refine RetO_calc Try.results138 ?_ | refine RetL_calc Try.results138 rfl ?_ | (refine Again.up (by omega) ?_ ?_) | exact trivial | (refine opCallI_rd (by simp only [go_sem, Ret_eq Try.results138]; first | done | rfl) (hbl) (by rintro _ rfl; rfl) ?_; rintro _ ⟨n, rfl, hn⟩) | (refine opCallI_gv (by simp only [go_sem, Ret_eq Try.results138]; first | done | rfl) (hbl) ?_; rintro _ ⟨n, rfl, hn⟩) | fail)
  have hp : SortsL16 _ l 0 l.length n := pdq16 l.length l 0 l.length n (by omega) (Nat.zero_le _) (Nat.le_refl _) hl (by have := hn.1; omega) (.inl rfl)
  unfold SortsL16 at hp
  rw [show ((0 : Nat) : Int) = 0 from rfl] at hp
  refine opCallI_lend [0] (by simp only [go_sem, Ret_eq Try.results138]; first | done | rfl) (by simp only [go_sem, Ret_eq Try.results138]; first | done | rfl) (by decide) (by simp only [go_sem, Ret_eq Try.results138]; first | done | decide) (by simp only [go_sem, Ret_eq Try.results138]; first | done | decide) hp ?_
  rintro _ _ ⟨rfl, l2, rfl, s2, d2⟩
  have e := sortI_of s2 d2
  subst e
  repeat' (first | simp only [go_sem, Ret_eq Try.results138] | simp (disch := omega) only [arith, IntKind.bits, capMax, fill_len, elt_fill] | (with_reducible refine condI_beq (fun hq hqb => ?_) (fun hq hqb => ?_) <;> simp only [KP_mk, hqb]) | (with_reducible refine condI_bne (fun hq hqb => ?_) (fun hq hqb => ?_) <;> simp only [KP_mk, hqb]) | (with_reducible refine condI_dec (fun hq hqb => ?_) (fun hq hqb => ?_) <;> simp only [KP_mk, hqb]) | (with_reducible refine condI_b (fun hqb => ?_) (fun hqb => ?_) <;> simp only [KP_mk, hqb]) | refine RetO_calc Try.results138 ?_ | refine RetL_calc Try.results138 rfl ?_ | (refine Again.up (by omega) ?_ ?_) | exact trivial | fail)
  all_goals first | exact ⟨rfl, rfl⟩ | rfl
end Go.Proofs.Ytpkampecmlpfmaa.T
