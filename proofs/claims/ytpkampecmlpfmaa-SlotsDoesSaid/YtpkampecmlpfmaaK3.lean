import Derived.Test.YtpkampecmlpfmaaK2
set_option linter.unusedSimpArgs false
set_option linter.unusedVariables false
section
set_option linter.unusedSimpArgs false
set_option linter.unusedVariables false
/- A list sorted; walked. -/
namespace Go.Proofs.Ytpkampecmlpfmaa.T
open Go Go.VL Go.Proofs
set_option maxRecDepth 100000
set_option maxHeartbeats 16000000
def SortsL64 (f : FuncId) (l : List Int) (a b lim : Nat) : Prop := FunL Try.prog f [.ref 0 l.length, .v (.int .i64 a), .v (.int .i64 b), .v (.int .i64 lim)] [own64 l] fun r os =>
    r = .tup [] ∧ ∃ l', os = [own64 l'] ∧ Sw a b l l' ∧ Sd a b l'

theorem pdq64 (n : Nat) : ∀ (l : List Int) (a b lim : Nat), b - a ≤ n → a ≤ b → b ≤ l.length → l.length ≤ 60000 → lim ≤ 60000 → Ahd a b l → SortsL64 144 l a b lim := by
  induction n using Nat.strongRecOn with
  | _ n ih =>
  intro l a b lim0 hn hab hb hl hli hA
  unfold SortsL64
  refine FunL.of_awpI [(100000, 0)] rfl Try.func144 rfl cal144 Try.ntmps144 (by simp) fun hwf hlw ls => ?_
  simp only [lentWf, D.wfs, D.wf, ints_length, ints_wfs, rows_length, rows_wfs, capMax, and_true, true_and] at hwf hlw
  repeat' (first | simp only [go_sem, Ret_eq Try.results144] | fail)
  refine awpI_while (σ := Nat × Nat × Nat × Bool × Bool × List Int) (fun x => x.2.1 - x.1) (fun x => Rest a b l x.1 x.2.1 x.2.2.2.2.2 ∧ x.2.2.1 ≤ 60000) (fun x => [(1, .v (.int .i64 x.1)), (2, .v (.int .i64 x.2.1)), (3, .v (.int .i64 x.2.2.1)), (8, .v (.bool x.2.2.2.1)), (9, .v (.bool x.2.2.2.2.1))]) (fun x => [(0, own64 x.2.2.2.2.2)]) [0, 100000] [] (a, b, lim0, true, true, l) _ (Weak.refl _) ⟨Rest.start hab hb hA, hli⟩ ?_ ?_ ?_
  · simp only [go_sem, Ret_eq Try.results144]
  · simp only [go_sem, Ret_eq Try.results144]
  · rintro ⟨a1, b1, lim, wb, wp, l1⟩ s ⟨hR, hlim⟩ hs
    simp only [go_sem, Ret_eq Try.results144] at hs
    dsimp only at hR hlim
    have hl1 := hR.rs.length
    have r1 := hR.ra
    have r2 := hR.rab
    have r3 := hR.rb
    have ebl : (b1 : Int) - (a1 : Int) = ((b1 - a1 : Nat) : Int) := by omega
    by_cases h12 : b1 - a1 ≤ 12
    · have hin := insertion64 l1 a1 b1 r2 (by omega) (by omega)
      rw [hl1] at hin
      repeat' (first | simp only [go_sem, hs, ebl, Ret_eq Try.results144] | simp (disch := omega) only [arith, IntKind.bits, capMax, fill_len, elt_fill] | refine RetL_calc Try.results144 rfl ?_ | (refine opCallI_lend [0] (by simp only [go_sem, hs, ebl, Ret_eq Try.results144]; first | done | rfl) (by simp only [go_sem, hs, ebl, Ret_eq Try.results144]; first | done | rfl) (by decide) (by simp only [go_sem, hs, ebl, Ret_eq Try.results144]; first | done | decide) (by simp only [go_sem, hs, ebl, Ret_eq Try.results144]; first | done | decide) (hin) ?_; rintro _ _ ⟨rfl, l2, rfl, s2, d2⟩) | fail)
      all_goals exact ⟨rfl, l2, rfl, hR.done s2 d2⟩
    · by_cases hlim0 : lim = 0
      · subst hlim0
        have hin := heap64 l1 a1 b1 (by omega) (by omega) (by omega)
        rw [hl1] at hin
        repeat' (first | simp only [go_sem, hs, ebl, beq_self_eq_true, Ret_eq Try.results144] | simp (disch := omega) only [arith, IntKind.bits, capMax, fill_len, elt_fill] | refine RetL_calc Try.results144 rfl ?_ | (refine opCallI_lend [0] (by simp only [go_sem, hs, ebl, beq_self_eq_true, Ret_eq Try.results144]; first | done | rfl) (by simp only [go_sem, hs, ebl, beq_self_eq_true, Ret_eq Try.results144]; first | done | rfl) (by decide) (by simp only [go_sem, hs, ebl, beq_self_eq_true, Ret_eq Try.results144]; first | done | decide) (by simp only [go_sem, hs, ebl, beq_self_eq_true, Ret_eq Try.results144]; first | done | decide) (hin) ?_; rintro _ _ ⟨rfl, l2, rfl, s2, d2⟩) | fail)
        all_goals exact ⟨rfl, l2, rfl, hR.done s2 d2⟩
      · have hlb : ((lim : Int) == 0) = false := beq_eq_false_iff_ne.2 (by omega)
        have elim : (lim : Int) - 1 = ((lim - 1 : Nat) : Int) := by omega
        cases wb with
        | false =>
          have hbr := break64 l1 a1 b1 r2 (by omega) (by omega)
          rw [hl1] at hbr
          repeat' (first | simp only [go_sem, hs, ebl, hlb, elim, Ret_eq Try.results144] | simp (disch := omega) only [arith, IntKind.bits, capMax, fill_len, elt_fill] | (refine opCallI_lend [0] (by simp only [go_sem, hs, ebl, hlb, elim, Ret_eq Try.results144]; first | done | rfl) (by simp only [go_sem, hs, ebl, hlb, elim, Ret_eq Try.results144]; first | done | rfl) (by decide) (by simp only [go_sem, hs, ebl, hlb, elim, Ret_eq Try.results144]; first | done | decide) (by simp only [go_sem, hs, ebl, hlb, elim, Ret_eq Try.results144]; first | done | decide) (hbr) ?_; rintro _ _ ⟨rfl, l2, rfl, s2⟩) | fail)
          have hR2 := hR.sw s2
          have hl2 := hR2.rs.length
          have hch := choose64 l2 a1 b1 (by omega) (by omega) (by omega)
          rw [hl2] at hch
          refine opCallI_lend [0] (by simp only [go_sem, hs, ebl, hlb, elim, Ret_eq Try.results144]; first | done | rfl) (by simp only [go_sem, hs, ebl, hlb, elim, Ret_eq Try.results144]; first | done | rfl) (by decide) (by simp only [go_sem, hs, ebl, hlb, elim, Ret_eq Try.results144]; first | done | decide) (by simp only [go_sem, hs, ebl, hlb, elim, Ret_eq Try.results144]; first | done | decide) (hch) ?_
          rintro _ _ ⟨x, h, rfl, rfl, hx1, hx2⟩
          by_cases hh : h = 2
          · subst hh
            have hrv := reverse64 l2 a1 b1 r2 (by omega) (by omega) (by omega)
            rw [hl2] at hrv
            repeat' (first | simp only [go_sem, hs, ebl, hlb, elim, beq_self_eq_true, Ret_eq Try.results144] | fail)
            refine opCallI_lend [0] (by simp only [go_sem, hs, ebl, hlb, elim, Ret_eq Try.results144]; first | done | rfl) (by simp only [go_sem, hs, ebl, hlb, elim, Ret_eq Try.results144]; first | done | rfl) (by decide) (by simp only [go_sem, hs, ebl, hlb, elim, Ret_eq Try.results144]; first | done | decide) (by simp only [go_sem, hs, ebl, hlb, elim, Ret_eq Try.results144]; first | done | decide) (hrv) ?_
            rintro _ _ ⟨rfl, l3, rfl, s3⟩
            have hR3 := hR2.sw s3
            have ev : (b1 : Int) - 1 - ((x : Int) - (a1 : Int)) = ((b1 - 1 - (x - a1) : Nat) : Int) := by omega
            have hv : a1 ≤ b1 - 1 - (x - a1) ∧ b1 - 1 - (x - a1) < b1 := by omega
            generalize b1 - 1 - (x - a1) = v at *
            have hL : l3.length = l.length := hR3.rs.length
            by_cases ha : 0 < a1
            · have ea : (a1 : Int) - 1 = ((a1 - 1 : Nat) : Int) := by omega
              have hls := lessS64_fun (l3.getD (a1 - 1) 0) (l3.getD v 0)
              by_cases hlt : l3.getD (a1 - 1) 0 < l3.getD v 0
              · rw [decide_eq_true hlt] at hls
                repeat' (first | simp only [go_sem, hs, ebl, hlb, elim, ev, ea, hL, Ret_eq Try.results144] | simp (disch := omega) only [arith, IntKind.bits, capMax, fill_len, elt_fill] | (refine awpI_draw2 (id := 17) (.one false 0 (.one false 1 (.one false 2 (.one false 3 (.one false 4 (.one false 5 (.one false 6 (.one false 7 (.one false 8 (.one false 9 (.one false 10 (.one false 11 (.only 12 (.one false 13 (.one false 14 .done))))))))))))))) mixed (by decide +kernel) (by decide +kernel) ?_) | (refine opCallI_rd (by simp only [go_sem, hs, ebl, hlb, elim, ev, ea, hL, Ret_eq Try.results144]; first | done | rfl) (hls) (by rintro _ rfl; rfl) ?_; rintro _ rfl) | fail)
                have hpt := part64 l3 a1 b1 v hv (by omega) (by omega)
                rw [hL] at hpt
                refine opCallI_lend [0] (by simp only [go_sem, hs, ebl, hlb, elim, ev, ea, Ret_eq Try.results144]; first | done | rfl) (by simp only [go_sem, hs, ebl, hlb, elim, ev, ea, Ret_eq Try.results144]; first | done | rfl) (by decide) (by simp only [go_sem, hs, ebl, hlb, elim, ev, ea, Ret_eq Try.results144]; first | done | decide) (by simp only [go_sem, hs, ebl, hlb, elim, ev, ea, Ret_eq Try.results144]; first | done | decide) (hpt) ?_
                rintro _ _ ⟨m, t, rfl, l5, rfl, s5, p5⟩
                have hR5 := hR3.sw s5
                have hl5 := hR5.rs.length
                have q1 := p5.h1
                have q2 := p5.h2
                have em1 : (m : Int) - (a1 : Int) = ((m - a1 : Nat) : Int) := by omega
                have em2 : (b1 : Int) - (m : Int) = ((b1 - m : Nat) : Int) := by omega
                have em3 : ((b1 - a1 : Nat) : Int).tdiv 8 = ((b1 - a1 : Nat) : Int) / 8 := Int.tdiv_eq_ediv_of_nonneg (by omega)
                have hA5 := hR5.rh
                have hAl : Ahd a1 m l5 := by
                  rcases hA5 with z | z
                  · exact .inl z
                  · exact .inr fun k k1 k2 => z k k1 (by omega)
                have hAr : Ahd (m + 1) b1 l5 := .inr fun k k1 k2 => by
                  rw [show m + 1 - 1 = m by omega]
                  exact p5.h4 k (by omega) k2
                by_cases hsm : m - a1 < b1 - m
                · have hrec : SortsL64 _ l5 a1 m (lim - 1) := ih (m - a1) (by omega) l5 a1 m (lim - 1) (Nat.le_refl _) q1 (by omega) (by omega) (by omega) hAl
                  unfold SortsL64 at hrec
                  rw [hl5] at hrec
                  repeat' (first | simp only [go_sem, hs, ebl, hlb, elim, ev, ea, em1, em2, em3, Ret_eq Try.results144] | simp (disch := omega) only [arith, IntKind.bits, capMax, fill_len, elt_fill] | fail)
                  refine opCallI_lend [0] (by simp only [go_sem, hs, ebl, hlb, elim, ev, ea, em1, em2, em3, Ret_eq Try.results144]; first | done | rfl) (by simp only [go_sem, hs, ebl, hlb, elim, ev, ea, em1, em2, em3, Ret_eq Try.results144]; first | done | rfl) (by decide) (by simp only [go_sem, hs, ebl, hlb, elim, ev, ea, em1, em2, em3, Ret_eq Try.results144]; first | done | decide) (by simp only [go_sem, hs, ebl, hlb, elim, ev, ea, em1, em2, em3, Ret_eq Try.results144]; first | done | decide) (hrec) ?_
                  rintro _ _ ⟨rfl, l6, rfl, s6, d6⟩
                  repeat' (first | simp only [go_sem, hs, ebl, hlb, elim, ev, ea, em1, em2, em3, Ret_eq Try.results144] | simp (disch := omega) only [arith, IntKind.bits, capMax, fill_len, elt_fill] | fail)
                  refine AgainW.to (m + 1, b1, (lim - 1), decide (((b1 - a1 : Nat) : Int) / 8 ≤ ((m - a1 : Nat) : Int)), t, l6) ?_ ?_ ?_
                  · show b1 - (m + 1) < b1 - a1; omega
                  · exact ⟨hR5.left p5 s6 d6, by show (lim - 1) ≤ 60000; omega⟩
                  · simp only [go_sem, hs, ebl, hlb, elim, ev, ea, em1, em2, em3, Ret_eq Try.results144]
                · have hrec : SortsL64 _ l5 (m + 1) b1 (lim - 1) := ih (b1 - (m + 1)) (by omega) l5 (m + 1) b1 (lim - 1) (Nat.le_refl _) (by omega) (by omega) (by omega) (by omega) hAr
                  unfold SortsL64 at hrec
                  rw [hl5] at hrec
                  repeat' (first | simp only [go_sem, hs, ebl, hlb, elim, ev, ea, em1, em2, em3, Ret_eq Try.results144] | simp (disch := omega) only [arith, IntKind.bits, capMax, fill_len, elt_fill] | fail)
                  refine opCallI_lend [0] (by simp only [go_sem, hs, ebl, hlb, elim, ev, ea, em1, em2, em3, Ret_eq Try.results144]; first | done | rfl) (by simp only [go_sem, hs, ebl, hlb, elim, ev, ea, em1, em2, em3, Ret_eq Try.results144]; first | done | rfl) (by decide) (by simp only [go_sem, hs, ebl, hlb, elim, ev, ea, em1, em2, em3, Ret_eq Try.results144]; first | done | decide) (by simp only [go_sem, hs, ebl, hlb, elim, ev, ea, em1, em2, em3, Ret_eq Try.results144]; first | done | decide) (hrec) ?_
                  rintro _ _ ⟨rfl, l6, rfl, s6, d6⟩
                  repeat' (first | simp only [go_sem, hs, ebl, hlb, elim, ev, ea, em1, em2, em3, Ret_eq Try.results144] | fail)
                  refine AgainW.to (a1, m, (lim - 1), decide (((b1 - a1 : Nat) : Int) / 8 ≤ ((b1 - m : Nat) : Int)), t, l6) ?_ ?_ ?_
                  · show m - a1 < b1 - a1; omega
                  · exact ⟨hR5.right p5 s6 d6, by show (lim - 1) ≤ 60000; omega⟩
                  · simp only [go_sem, hs, ebl, hlb, elim, ev, ea, em1, em2, em3, Ret_eq Try.results144]
              · rw [decide_eq_false hlt] at hls
                repeat' (first | simp only [go_sem, hs, ebl, hlb, elim, ev, ea, hL, Ret_eq Try.results144] | simp (disch := omega) only [arith, IntKind.bits, capMax, fill_len, elt_fill] | (refine awpI_draw2 (id := 17) (.one false 0 (.one false 1 (.one false 2 (.one false 3 (.one false 4 (.one false 5 (.one false 6 (.one false 7 (.one false 8 (.one false 9 (.one false 10 (.one false 11 (.only 12 (.one false 13 (.one false 14 .done))))))))))))))) mixed (by decide +kernel) (by decide +kernel) ?_) | (refine opCallI_rd (by simp only [go_sem, hs, ebl, hlb, elim, ev, ea, hL, Ret_eq Try.results144]; first | done | rfl) (hls) (by rintro _ rfl; rfl) ?_; rintro _ rfl) | fail)
                have hpe := partEq64 l3 a1 b1 v hv (by omega) (by omega)
                rw [hL] at hpe
                refine opCallI_lend [0] (by simp only [go_sem, hs, ebl, hlb, elim, ev, ea, Ret_eq Try.results144]; first | done | rfl) (by simp only [go_sem, hs, ebl, hlb, elim, ev, ea, Ret_eq Try.results144]; first | done | rfl) (by decide) (by simp only [go_sem, hs, ebl, hlb, elim, ev, ea, Ret_eq Try.results144]; first | done | decide) (by simp only [go_sem, hs, ebl, hlb, elim, ev, ea, Ret_eq Try.results144]; first | done | decide) (hpe) ?_
                rintro _ _ ⟨m, rfl, l5, rfl, s5, p5⟩
                repeat' (first | simp only [go_sem, hs, ebl, hlb, elim, ev, ea, Ret_eq Try.results144] | fail)
                refine AgainW.to (m, b1, (lim - 1), false, wp, l5) ?_ ?_ ?_
                · show b1 - m < b1 - a1; have := p5.h1; have := p5.h2; omega
                · exact ⟨(hR3.sw s5).eqPart p5 (s5.all (P := fun z => _ ≤ z) (hR3.ahead ha hv (by omega))), by show (lim - 1) ≤ 60000; omega⟩
                · simp only [go_sem, hs, ebl, hlb, elim, ev, ea, Ret_eq Try.results144]
            · repeat' (first | simp only [go_sem, hs, ebl, hlb, elim, ev, Ret_eq Try.results144] | simp (disch := omega) only [arith, IntKind.bits, capMax, fill_len, elt_fill] | (refine awpI_draw2 (id := 17) (.one false 0 (.one false 1 (.one false 2 (.one false 3 (.one false 4 (.one false 5 (.one false 6 (.one false 7 (.one false 8 (.one false 9 (.one false 10 (.one false 11 (.only 12 (.one false 13 (.one false 14 .done))))))))))))))) mixed (by decide +kernel) (by decide +kernel) ?_) | fail)
              have hpt := part64 l3 a1 b1 v hv (by omega) (by omega)
              rw [hL] at hpt
              refine opCallI_lend [0] (by simp only [go_sem, hs, ebl, hlb, elim, ev, Ret_eq Try.results144]; first | done | rfl) (by simp only [go_sem, hs, ebl, hlb, elim, ev, Ret_eq Try.results144]; first | done | rfl) (by decide) (by simp only [go_sem, hs, ebl, hlb, elim, ev, Ret_eq Try.results144]; first | done | decide) (by simp only [go_sem, hs, ebl, hlb, elim, ev, Ret_eq Try.results144]; first | done | decide) (hpt) ?_
              rintro _ _ ⟨m, t, rfl, l5, rfl, s5, p5⟩
              have hR5 := hR3.sw s5
              have hl5 := hR5.rs.length
              have q1 := p5.h1
              have q2 := p5.h2
              have em1 : (m : Int) - (a1 : Int) = ((m - a1 : Nat) : Int) := by omega
              have em2 : (b1 : Int) - (m : Int) = ((b1 - m : Nat) : Int) := by omega
              have em3 : ((b1 - a1 : Nat) : Int).tdiv 8 = ((b1 - a1 : Nat) : Int) / 8 := Int.tdiv_eq_ediv_of_nonneg (by omega)
              have hA5 := hR5.rh
              have hAl : Ahd a1 m l5 := by
                rcases hA5 with z | z
                · exact .inl z
                · exact .inr fun k k1 k2 => z k k1 (by omega)
              have hAr : Ahd (m + 1) b1 l5 := .inr fun k k1 k2 => by
                rw [show m + 1 - 1 = m by omega]
                exact p5.h4 k (by omega) k2
              by_cases hsm : m - a1 < b1 - m
              · have hrec : SortsL64 _ l5 a1 m (lim - 1) := ih (m - a1) (by omega) l5 a1 m (lim - 1) (Nat.le_refl _) q1 (by omega) (by omega) (by omega) hAl
                unfold SortsL64 at hrec
                rw [hl5] at hrec
                repeat' (first | simp only [go_sem, hs, ebl, hlb, elim, ev, em1, em2, em3, Ret_eq Try.results144] | simp (disch := omega) only [arith, IntKind.bits, capMax, fill_len, elt_fill] | fail)
                refine opCallI_lend [0] (by simp only [go_sem, hs, ebl, hlb, elim, ev, em1, em2, em3, Ret_eq Try.results144]; first | done | rfl) (by simp only [go_sem, hs, ebl, hlb, elim, ev, em1, em2, em3, Ret_eq Try.results144]; first | done | rfl) (by decide) (by simp only [go_sem, hs, ebl, hlb, elim, ev, em1, em2, em3, Ret_eq Try.results144]; first | done | decide) (by simp only [go_sem, hs, ebl, hlb, elim, ev, em1, em2, em3, Ret_eq Try.results144]; first | done | decide) (hrec) ?_
                rintro _ _ ⟨rfl, l6, rfl, s6, d6⟩
                repeat' (first | simp only [go_sem, hs, ebl, hlb, elim, ev, em1, em2, em3, Ret_eq Try.results144] | simp (disch := omega) only [arith, IntKind.bits, capMax, fill_len, elt_fill] | fail)
                refine AgainW.to (m + 1, b1, (lim - 1), decide (((b1 - a1 : Nat) : Int) / 8 ≤ ((m - a1 : Nat) : Int)), t, l6) ?_ ?_ ?_
                · show b1 - (m + 1) < b1 - a1; omega
                · exact ⟨hR5.left p5 s6 d6, by show (lim - 1) ≤ 60000; omega⟩
                · simp only [go_sem, hs, ebl, hlb, elim, ev, em1, em2, em3, Ret_eq Try.results144]
              · have hrec : SortsL64 _ l5 (m + 1) b1 (lim - 1) := ih (b1 - (m + 1)) (by omega) l5 (m + 1) b1 (lim - 1) (Nat.le_refl _) (by omega) (by omega) (by omega) (by omega) hAr
                unfold SortsL64 at hrec
                rw [hl5] at hrec
                repeat' (first | simp only [go_sem, hs, ebl, hlb, elim, ev, em1, em2, em3, Ret_eq Try.results144] | simp (disch := omega) only [arith, IntKind.bits, capMax, fill_len, elt_fill] | fail)
                refine opCallI_lend [0] (by simp only [go_sem, hs, ebl, hlb, elim, ev, em1, em2, em3, Ret_eq Try.results144]; first | done | rfl) (by simp only [go_sem, hs, ebl, hlb, elim, ev, em1, em2, em3, Ret_eq Try.results144]; first | done | rfl) (by decide) (by simp only [go_sem, hs, ebl, hlb, elim, ev, em1, em2, em3, Ret_eq Try.results144]; first | done | decide) (by simp only [go_sem, hs, ebl, hlb, elim, ev, em1, em2, em3, Ret_eq Try.results144]; first | done | decide) (hrec) ?_
                rintro _ _ ⟨rfl, l6, rfl, s6, d6⟩
                repeat' (first | simp only [go_sem, hs, ebl, hlb, elim, ev, em1, em2, em3, Ret_eq Try.results144] | fail)
                refine AgainW.to (a1, m, (lim - 1), decide (((b1 - a1 : Nat) : Int) / 8 ≤ ((b1 - m : Nat) : Int)), t, l6) ?_ ?_ ?_
                · show m - a1 < b1 - a1; omega
                · exact ⟨hR5.right p5 s6 d6, by show (lim - 1) ≤ 60000; omega⟩
                · simp only [go_sem, hs, ebl, hlb, elim, ev, em1, em2, em3, Ret_eq Try.results144]
          · have hhb : (h == 2) = false := beq_eq_false_iff_ne.2 hh
            have hv : a1 ≤ x ∧ x < b1 := ⟨hx1, hx2⟩
            have hL : l2.length = l.length := hR2.rs.length
            by_cases ha : 0 < a1
            · have ea : (a1 : Int) - 1 = ((a1 - 1 : Nat) : Int) := by omega
              have hls := lessS64_fun (l2.getD (a1 - 1) 0) (l2.getD x 0)
              by_cases hlt : l2.getD (a1 - 1) 0 < l2.getD x 0
              · rw [decide_eq_true hlt] at hls
                repeat' (first | simp only [go_sem, hs, ebl, hlb, elim, hhb, ea, hL, Ret_eq Try.results144] | simp (disch := omega) only [arith, IntKind.bits, capMax, fill_len, elt_fill] | (refine awpI_draw2 (id := 17) (.one false 0 (.one false 1 (.one false 2 (.one false 3 (.one false 4 (.one false 5 (.one false 6 (.one false 7 (.one false 8 (.one false 9 (.one false 10 (.one false 11 (.only 12 (.one false 13 (.one false 14 .done))))))))))))))) mixed (by decide +kernel) (by decide +kernel) ?_) | (refine opCallI_rd (by simp only [go_sem, hs, ebl, hlb, elim, hhb, ea, hL, Ret_eq Try.results144]; first | done | rfl) (hls) (by rintro _ rfl; rfl) ?_; rintro _ rfl) | fail)
                have hpt := part64 l2 a1 b1 x hv (by omega) (by omega)
                rw [hL] at hpt
                refine opCallI_lend [0] (by simp only [go_sem, hs, ebl, hlb, elim, hhb, ea, Ret_eq Try.results144]; first | done | rfl) (by simp only [go_sem, hs, ebl, hlb, elim, hhb, ea, Ret_eq Try.results144]; first | done | rfl) (by decide) (by simp only [go_sem, hs, ebl, hlb, elim, hhb, ea, Ret_eq Try.results144]; first | done | decide) (by simp only [go_sem, hs, ebl, hlb, elim, hhb, ea, Ret_eq Try.results144]; first | done | decide) (hpt) ?_
                rintro _ _ ⟨m, t, rfl, l5, rfl, s5, p5⟩
                have hR5 := hR2.sw s5
                have hl5 := hR5.rs.length
                have q1 := p5.h1
                have q2 := p5.h2
                have em1 : (m : Int) - (a1 : Int) = ((m - a1 : Nat) : Int) := by omega
                have em2 : (b1 : Int) - (m : Int) = ((b1 - m : Nat) : Int) := by omega
                have em3 : ((b1 - a1 : Nat) : Int).tdiv 8 = ((b1 - a1 : Nat) : Int) / 8 := Int.tdiv_eq_ediv_of_nonneg (by omega)
                have hA5 := hR5.rh
                have hAl : Ahd a1 m l5 := by
                  rcases hA5 with z | z
                  · exact .inl z
                  · exact .inr fun k k1 k2 => z k k1 (by omega)
                have hAr : Ahd (m + 1) b1 l5 := .inr fun k k1 k2 => by
                  rw [show m + 1 - 1 = m by omega]
                  exact p5.h4 k (by omega) k2
                by_cases hsm : m - a1 < b1 - m
                · have hrec : SortsL64 _ l5 a1 m (lim - 1) := ih (m - a1) (by omega) l5 a1 m (lim - 1) (Nat.le_refl _) q1 (by omega) (by omega) (by omega) hAl
                  unfold SortsL64 at hrec
                  rw [hl5] at hrec
                  repeat' (first | simp only [go_sem, hs, ebl, hlb, elim, hhb, ea, em1, em2, em3, Ret_eq Try.results144] | simp (disch := omega) only [arith, IntKind.bits, capMax, fill_len, elt_fill] | fail)
                  refine opCallI_lend [0] (by simp only [go_sem, hs, ebl, hlb, elim, hhb, ea, em1, em2, em3, Ret_eq Try.results144]; first | done | rfl) (by simp only [go_sem, hs, ebl, hlb, elim, hhb, ea, em1, em2, em3, Ret_eq Try.results144]; first | done | rfl) (by decide) (by simp only [go_sem, hs, ebl, hlb, elim, hhb, ea, em1, em2, em3, Ret_eq Try.results144]; first | done | decide) (by simp only [go_sem, hs, ebl, hlb, elim, hhb, ea, em1, em2, em3, Ret_eq Try.results144]; first | done | decide) (hrec) ?_
                  rintro _ _ ⟨rfl, l6, rfl, s6, d6⟩
                  repeat' (first | simp only [go_sem, hs, ebl, hlb, elim, hhb, ea, em1, em2, em3, Ret_eq Try.results144] | simp (disch := omega) only [arith, IntKind.bits, capMax, fill_len, elt_fill] | fail)
                  refine AgainW.to (m + 1, b1, (lim - 1), decide (((b1 - a1 : Nat) : Int) / 8 ≤ ((m - a1 : Nat) : Int)), t, l6) ?_ ?_ ?_
                  · show b1 - (m + 1) < b1 - a1; omega
                  · exact ⟨hR5.left p5 s6 d6, by show (lim - 1) ≤ 60000; omega⟩
                  · simp only [go_sem, hs, ebl, hlb, elim, hhb, ea, em1, em2, em3, Ret_eq Try.results144]
                · have hrec : SortsL64 _ l5 (m + 1) b1 (lim - 1) := ih (b1 - (m + 1)) (by omega) l5 (m + 1) b1 (lim - 1) (Nat.le_refl _) (by omega) (by omega) (by omega) (by omega) hAr
                  unfold SortsL64 at hrec
                  rw [hl5] at hrec
                  repeat' (first | simp only [go_sem, hs, ebl, hlb, elim, hhb, ea, em1, em2, em3, Ret_eq Try.results144] | simp (disch := omega) only [arith, IntKind.bits, capMax, fill_len, elt_fill] | fail)
                  refine opCallI_lend [0] (by simp only [go_sem, hs, ebl, hlb, elim, hhb, ea, em1, em2, em3, Ret_eq Try.results144]; first | done | rfl) (by simp only [go_sem, hs, ebl, hlb, elim, hhb, ea, em1, em2, em3, Ret_eq Try.results144]; first | done | rfl) (by decide) (by simp only [go_sem, hs, ebl, hlb, elim, hhb, ea, em1, em2, em3, Ret_eq Try.results144]; first | done | decide) (by simp only [go_sem, hs, ebl, hlb, elim, hhb, ea, em1, em2, em3, Ret_eq Try.results144]; first | done | decide) (hrec) ?_
                  rintro _ _ ⟨rfl, l6, rfl, s6, d6⟩
                  repeat' (first | simp only [go_sem, hs, ebl, hlb, elim, hhb, ea, em1, em2, em3, Ret_eq Try.results144] | fail)
                  refine AgainW.to (a1, m, (lim - 1), decide (((b1 - a1 : Nat) : Int) / 8 ≤ ((b1 - m : Nat) : Int)), t, l6) ?_ ?_ ?_
                  · show m - a1 < b1 - a1; omega
                  · exact ⟨hR5.right p5 s6 d6, by show (lim - 1) ≤ 60000; omega⟩
                  · simp only [go_sem, hs, ebl, hlb, elim, hhb, ea, em1, em2, em3, Ret_eq Try.results144]
              · rw [decide_eq_false hlt] at hls
                repeat' (first | simp only [go_sem, hs, ebl, hlb, elim, hhb, ea, hL, Ret_eq Try.results144] | simp (disch := omega) only [arith, IntKind.bits, capMax, fill_len, elt_fill] | (refine awpI_draw2 (id := 17) (.one false 0 (.one false 1 (.one false 2 (.one false 3 (.one false 4 (.one false 5 (.one false 6 (.one false 7 (.one false 8 (.one false 9 (.one false 10 (.one false 11 (.only 12 (.one false 13 (.one false 14 .done))))))))))))))) mixed (by decide +kernel) (by decide +kernel) ?_) | (refine opCallI_rd (by simp only [go_sem, hs, ebl, hlb, elim, hhb, ea, hL, Ret_eq Try.results144]; first | done | rfl) (hls) (by rintro _ rfl; rfl) ?_; rintro _ rfl) | fail)
                have hpe := partEq64 l2 a1 b1 x hv (by omega) (by omega)
                rw [hL] at hpe
                refine opCallI_lend [0] (by simp only [go_sem, hs, ebl, hlb, elim, hhb, ea, Ret_eq Try.results144]; first | done | rfl) (by simp only [go_sem, hs, ebl, hlb, elim, hhb, ea, Ret_eq Try.results144]; first | done | rfl) (by decide) (by simp only [go_sem, hs, ebl, hlb, elim, hhb, ea, Ret_eq Try.results144]; first | done | decide) (by simp only [go_sem, hs, ebl, hlb, elim, hhb, ea, Ret_eq Try.results144]; first | done | decide) (hpe) ?_
                rintro _ _ ⟨m, rfl, l5, rfl, s5, p5⟩
                repeat' (first | simp only [go_sem, hs, ebl, hlb, elim, hhb, ea, Ret_eq Try.results144] | fail)
                refine AgainW.to (m, b1, (lim - 1), false, wp, l5) ?_ ?_ ?_
                · show b1 - m < b1 - a1; have := p5.h1; have := p5.h2; omega
                · exact ⟨(hR2.sw s5).eqPart p5 (s5.all (P := fun z => _ ≤ z) (hR2.ahead ha hv (by omega))), by show (lim - 1) ≤ 60000; omega⟩
                · simp only [go_sem, hs, ebl, hlb, elim, hhb, ea, Ret_eq Try.results144]
            · repeat' (first | simp only [go_sem, hs, ebl, hlb, elim, hhb, Ret_eq Try.results144] | simp (disch := omega) only [arith, IntKind.bits, capMax, fill_len, elt_fill] | (refine awpI_draw2 (id := 17) (.one false 0 (.one false 1 (.one false 2 (.one false 3 (.one false 4 (.one false 5 (.one false 6 (.one false 7 (.one false 8 (.one false 9 (.one false 10 (.one false 11 (.only 12 (.one false 13 (.one false 14 .done))))))))))))))) mixed (by decide +kernel) (by decide +kernel) ?_) | fail)
              have hpt := part64 l2 a1 b1 x hv (by omega) (by omega)
              rw [hL] at hpt
              refine opCallI_lend [0] (by simp only [go_sem, hs, ebl, hlb, elim, hhb, Ret_eq Try.results144]; first | done | rfl) (by simp only [go_sem, hs, ebl, hlb, elim, hhb, Ret_eq Try.results144]; first | done | rfl) (by decide) (by simp only [go_sem, hs, ebl, hlb, elim, hhb, Ret_eq Try.results144]; first | done | decide) (by simp only [go_sem, hs, ebl, hlb, elim, hhb, Ret_eq Try.results144]; first | done | decide) (hpt) ?_
              rintro _ _ ⟨m, t, rfl, l5, rfl, s5, p5⟩
              have hR5 := hR2.sw s5
              have hl5 := hR5.rs.length
              have q1 := p5.h1
              have q2 := p5.h2
              have em1 : (m : Int) - (a1 : Int) = ((m - a1 : Nat) : Int) := by omega
              have em2 : (b1 : Int) - (m : Int) = ((b1 - m : Nat) : Int) := by omega
              have em3 : ((b1 - a1 : Nat) : Int).tdiv 8 = ((b1 - a1 : Nat) : Int) / 8 := Int.tdiv_eq_ediv_of_nonneg (by omega)
              have hA5 := hR5.rh
              have hAl : Ahd a1 m l5 := by
                rcases hA5 with z | z
                · exact .inl z
                · exact .inr fun k k1 k2 => z k k1 (by omega)
              have hAr : Ahd (m + 1) b1 l5 := .inr fun k k1 k2 => by
                rw [show m + 1 - 1 = m by omega]
                exact p5.h4 k (by omega) k2
              by_cases hsm : m - a1 < b1 - m
              · have hrec : SortsL64 _ l5 a1 m (lim - 1) := ih (m - a1) (by omega) l5 a1 m (lim - 1) (Nat.le_refl _) q1 (by omega) (by omega) (by omega) hAl
                unfold SortsL64 at hrec
                rw [hl5] at hrec
                repeat' (first | simp only [go_sem, hs, ebl, hlb, elim, hhb, em1, em2, em3, Ret_eq Try.results144] | simp (disch := omega) only [arith, IntKind.bits, capMax, fill_len, elt_fill] | fail)
                refine opCallI_lend [0] (by simp only [go_sem, hs, ebl, hlb, elim, hhb, em1, em2, em3, Ret_eq Try.results144]; first | done | rfl) (by simp only [go_sem, hs, ebl, hlb, elim, hhb, em1, em2, em3, Ret_eq Try.results144]; first | done | rfl) (by decide) (by simp only [go_sem, hs, ebl, hlb, elim, hhb, em1, em2, em3, Ret_eq Try.results144]; first | done | decide) (by simp only [go_sem, hs, ebl, hlb, elim, hhb, em1, em2, em3, Ret_eq Try.results144]; first | done | decide) (hrec) ?_
                rintro _ _ ⟨rfl, l6, rfl, s6, d6⟩
                repeat' (first | simp only [go_sem, hs, ebl, hlb, elim, hhb, em1, em2, em3, Ret_eq Try.results144] | simp (disch := omega) only [arith, IntKind.bits, capMax, fill_len, elt_fill] | fail)
                refine AgainW.to (m + 1, b1, (lim - 1), decide (((b1 - a1 : Nat) : Int) / 8 ≤ ((m - a1 : Nat) : Int)), t, l6) ?_ ?_ ?_
                · show b1 - (m + 1) < b1 - a1; omega
                · exact ⟨hR5.left p5 s6 d6, by show (lim - 1) ≤ 60000; omega⟩
                · simp only [go_sem, hs, ebl, hlb, elim, hhb, em1, em2, em3, Ret_eq Try.results144]
              · have hrec : SortsL64 _ l5 (m + 1) b1 (lim - 1) := ih (b1 - (m + 1)) (by omega) l5 (m + 1) b1 (lim - 1) (Nat.le_refl _) (by omega) (by omega) (by omega) (by omega) hAr
                unfold SortsL64 at hrec
                rw [hl5] at hrec
                repeat' (first | simp only [go_sem, hs, ebl, hlb, elim, hhb, em1, em2, em3, Ret_eq Try.results144] | simp (disch := omega) only [arith, IntKind.bits, capMax, fill_len, elt_fill] | fail)
                refine opCallI_lend [0] (by simp only [go_sem, hs, ebl, hlb, elim, hhb, em1, em2, em3, Ret_eq Try.results144]; first | done | rfl) (by simp only [go_sem, hs, ebl, hlb, elim, hhb, em1, em2, em3, Ret_eq Try.results144]; first | done | rfl) (by decide) (by simp only [go_sem, hs, ebl, hlb, elim, hhb, em1, em2, em3, Ret_eq Try.results144]; first | done | decide) (by simp only [go_sem, hs, ebl, hlb, elim, hhb, em1, em2, em3, Ret_eq Try.results144]; first | done | decide) (hrec) ?_
                rintro _ _ ⟨rfl, l6, rfl, s6, d6⟩
                repeat' (first | simp only [go_sem, hs, ebl, hlb, elim, hhb, em1, em2, em3, Ret_eq Try.results144] | fail)
                refine AgainW.to (a1, m, (lim - 1), decide (((b1 - a1 : Nat) : Int) / 8 ≤ ((b1 - m : Nat) : Int)), t, l6) ?_ ?_ ?_
                · show m - a1 < b1 - a1; omega
                · exact ⟨hR5.right p5 s6 d6, by show (lim - 1) ≤ 60000; omega⟩
                · simp only [go_sem, hs, ebl, hlb, elim, hhb, em1, em2, em3, Ret_eq Try.results144]
        | true =>
          have hR2 := hR
          have hl2 := hl1
          have hch := choose64 l1 a1 b1 (by omega) (by omega) (by omega)
          rw [hl1] at hch
          repeat' (first | simp only [go_sem, hs, ebl, hlb, elim, Ret_eq Try.results144] | simp (disch := omega) only [arith, IntKind.bits, capMax, fill_len, elt_fill] | fail)
          refine opCallI_lend [0] (by simp only [go_sem, hs, ebl, hlb, elim, Ret_eq Try.results144]; first | done | rfl) (by simp only [go_sem, hs, ebl, hlb, elim, Ret_eq Try.results144]; first | done | rfl) (by decide) (by simp only [go_sem, hs, ebl, hlb, elim, Ret_eq Try.results144]; first | done | decide) (by simp only [go_sem, hs, ebl, hlb, elim, Ret_eq Try.results144]; first | done | decide) (hch) ?_
          rintro _ _ ⟨x, h, rfl, rfl, hx1, hx2⟩
          by_cases hh : h = 2
          · subst hh
            have hrv := reverse64 l1 a1 b1 r2 (by omega) (by omega) (by omega)
            rw [hl2] at hrv
            repeat' (first | simp only [go_sem, hs, ebl, hlb, elim, beq_self_eq_true, Ret_eq Try.results144] | fail)
            refine opCallI_lend [0] (by simp only [go_sem, hs, ebl, hlb, elim, Ret_eq Try.results144]; first | done | rfl) (by simp only [go_sem, hs, ebl, hlb, elim, Ret_eq Try.results144]; first | done | rfl) (by decide) (by simp only [go_sem, hs, ebl, hlb, elim, Ret_eq Try.results144]; first | done | decide) (by simp only [go_sem, hs, ebl, hlb, elim, Ret_eq Try.results144]; first | done | decide) (hrv) ?_
            rintro _ _ ⟨rfl, l3, rfl, s3⟩
            have hR3 := hR2.sw s3
            have ev : (b1 : Int) - 1 - ((x : Int) - (a1 : Int)) = ((b1 - 1 - (x - a1) : Nat) : Int) := by omega
            have hv : a1 ≤ b1 - 1 - (x - a1) ∧ b1 - 1 - (x - a1) < b1 := by omega
            generalize b1 - 1 - (x - a1) = v at *
            cases wp with
            | true =>
              have hL : l3.length = l.length := hR3.rs.length
              have hpa := partial64 l3 a1 b1 (by omega) (by omega) (by omega) hR3.rh
              rw [hL] at hpa
              repeat' (first | simp only [go_sem, hs, ebl, hlb, elim, ev, beq_self_eq_true, Ret_eq Try.results144] | simp (disch := omega) only [arith, IntKind.bits, capMax, fill_len, elt_fill] | fail)
              refine opCallI_lend [0] (by simp only [go_sem, hs, ebl, hlb, elim, ev, Ret_eq Try.results144]; first | done | rfl) (by simp only [go_sem, hs, ebl, hlb, elim, ev, Ret_eq Try.results144]; first | done | rfl) (by decide) (by simp only [go_sem, hs, ebl, hlb, elim, ev, Ret_eq Try.results144]; first | done | decide) (by simp only [go_sem, hs, ebl, hlb, elim, ev, Ret_eq Try.results144]; first | done | decide) (hpa) ?_
              rintro _ _ ⟨t0, rfl, l4, rfl, s4, d4⟩
              have hR4 := hR3.sw s4
              cases t0 with
              | true =>
                repeat' (first | simp only [go_sem, hs, ebl, hlb, elim, ev, Ret_eq Try.results144] | refine RetL_calc Try.results144 rfl ?_ | fail)
                all_goals exact ⟨rfl, l4, rfl, hR3.done s4 (d4 rfl)⟩
              | false =>
                have hL : l4.length = l.length := hR4.rs.length
                by_cases ha : 0 < a1
                · have ea : (a1 : Int) - 1 = ((a1 - 1 : Nat) : Int) := by omega
                  have hls := lessS64_fun (l4.getD (a1 - 1) 0) (l4.getD v 0)
                  by_cases hlt : l4.getD (a1 - 1) 0 < l4.getD v 0
                  · rw [decide_eq_true hlt] at hls
                    repeat' (first | simp only [go_sem, hs, ebl, hlb, elim, ev, ea, hL, Ret_eq Try.results144] | simp (disch := omega) only [arith, IntKind.bits, capMax, fill_len, elt_fill] | (refine awpI_draw2 (id := 17) (.one false 0 (.one false 1 (.one false 2 (.one false 3 (.one false 4 (.one false 5 (.one false 6 (.one false 7 (.one false 8 (.one false 9 (.one false 10 (.one false 11 (.only 12 (.one false 13 (.one false 14 .done))))))))))))))) mixed (by decide +kernel) (by decide +kernel) ?_) | (refine opCallI_rd (by simp only [go_sem, hs, ebl, hlb, elim, ev, ea, hL, Ret_eq Try.results144]; first | done | rfl) (hls) (by rintro _ rfl; rfl) ?_; rintro _ rfl) | fail)
                    have hpt := part64 l4 a1 b1 v hv (by omega) (by omega)
                    rw [hL] at hpt
                    refine opCallI_lend [0] (by simp only [go_sem, hs, ebl, hlb, elim, ev, ea, Ret_eq Try.results144]; first | done | rfl) (by simp only [go_sem, hs, ebl, hlb, elim, ev, ea, Ret_eq Try.results144]; first | done | rfl) (by decide) (by simp only [go_sem, hs, ebl, hlb, elim, ev, ea, Ret_eq Try.results144]; first | done | decide) (by simp only [go_sem, hs, ebl, hlb, elim, ev, ea, Ret_eq Try.results144]; first | done | decide) (hpt) ?_
                    rintro _ _ ⟨m, t, rfl, l5, rfl, s5, p5⟩
                    have hR5 := hR4.sw s5
                    have hl5 := hR5.rs.length
                    have q1 := p5.h1
                    have q2 := p5.h2
                    have em1 : (m : Int) - (a1 : Int) = ((m - a1 : Nat) : Int) := by omega
                    have em2 : (b1 : Int) - (m : Int) = ((b1 - m : Nat) : Int) := by omega
                    have em3 : ((b1 - a1 : Nat) : Int).tdiv 8 = ((b1 - a1 : Nat) : Int) / 8 := Int.tdiv_eq_ediv_of_nonneg (by omega)
                    have hA5 := hR5.rh
                    have hAl : Ahd a1 m l5 := by
                      rcases hA5 with z | z
                      · exact .inl z
                      · exact .inr fun k k1 k2 => z k k1 (by omega)
                    have hAr : Ahd (m + 1) b1 l5 := .inr fun k k1 k2 => by
                      rw [show m + 1 - 1 = m by omega]
                      exact p5.h4 k (by omega) k2
                    by_cases hsm : m - a1 < b1 - m
                    · have hrec : SortsL64 _ l5 a1 m lim := ih (m - a1) (by omega) l5 a1 m lim (Nat.le_refl _) q1 (by omega) (by omega) (by omega) hAl
                      unfold SortsL64 at hrec
                      rw [hl5] at hrec
                      repeat' (first | simp only [go_sem, hs, ebl, hlb, elim, ev, ea, em1, em2, em3, Ret_eq Try.results144] | simp (disch := omega) only [arith, IntKind.bits, capMax, fill_len, elt_fill] | fail)
                      refine opCallI_lend [0] (by simp only [go_sem, hs, ebl, hlb, elim, ev, ea, em1, em2, em3, Ret_eq Try.results144]; first | done | rfl) (by simp only [go_sem, hs, ebl, hlb, elim, ev, ea, em1, em2, em3, Ret_eq Try.results144]; first | done | rfl) (by decide) (by simp only [go_sem, hs, ebl, hlb, elim, ev, ea, em1, em2, em3, Ret_eq Try.results144]; first | done | decide) (by simp only [go_sem, hs, ebl, hlb, elim, ev, ea, em1, em2, em3, Ret_eq Try.results144]; first | done | decide) (hrec) ?_
                      rintro _ _ ⟨rfl, l6, rfl, s6, d6⟩
                      repeat' (first | simp only [go_sem, hs, ebl, hlb, elim, ev, ea, em1, em2, em3, Ret_eq Try.results144] | simp (disch := omega) only [arith, IntKind.bits, capMax, fill_len, elt_fill] | fail)
                      refine AgainW.to (m + 1, b1, lim, decide (((b1 - a1 : Nat) : Int) / 8 ≤ ((m - a1 : Nat) : Int)), t, l6) ?_ ?_ ?_
                      · show b1 - (m + 1) < b1 - a1; omega
                      · exact ⟨hR5.left p5 s6 d6, by show lim ≤ 60000; omega⟩
                      · simp only [go_sem, hs, ebl, hlb, elim, ev, ea, em1, em2, em3, Ret_eq Try.results144]
                    · have hrec : SortsL64 _ l5 (m + 1) b1 lim := ih (b1 - (m + 1)) (by omega) l5 (m + 1) b1 lim (Nat.le_refl _) (by omega) (by omega) (by omega) (by omega) hAr
                      unfold SortsL64 at hrec
                      rw [hl5] at hrec
                      repeat' (first | simp only [go_sem, hs, ebl, hlb, elim, ev, ea, em1, em2, em3, Ret_eq Try.results144] | simp (disch := omega) only [arith, IntKind.bits, capMax, fill_len, elt_fill] | fail)
                      refine opCallI_lend [0] (by simp only [go_sem, hs, ebl, hlb, elim, ev, ea, em1, em2, em3, Ret_eq Try.results144]; first | done | rfl) (by simp only [go_sem, hs, ebl, hlb, elim, ev, ea, em1, em2, em3, Ret_eq Try.results144]; first | done | rfl) (by decide) (by simp only [go_sem, hs, ebl, hlb, elim, ev, ea, em1, em2, em3, Ret_eq Try.results144]; first | done | decide) (by simp only [go_sem, hs, ebl, hlb, elim, ev, ea, em1, em2, em3, Ret_eq Try.results144]; first | done | decide) (hrec) ?_
                      rintro _ _ ⟨rfl, l6, rfl, s6, d6⟩
                      repeat' (first | simp only [go_sem, hs, ebl, hlb, elim, ev, ea, em1, em2, em3, Ret_eq Try.results144] | fail)
                      refine AgainW.to (a1, m, lim, decide (((b1 - a1 : Nat) : Int) / 8 ≤ ((b1 - m : Nat) : Int)), t, l6) ?_ ?_ ?_
                      · show m - a1 < b1 - a1; omega
                      · exact ⟨hR5.right p5 s6 d6, by show lim ≤ 60000; omega⟩
                      · simp only [go_sem, hs, ebl, hlb, elim, ev, ea, em1, em2, em3, Ret_eq Try.results144]
                  · rw [decide_eq_false hlt] at hls
                    repeat' (first | simp only [go_sem, hs, ebl, hlb, elim, ev, ea, hL, Ret_eq Try.results144] | simp (disch := omega) only [arith, IntKind.bits, capMax, fill_len, elt_fill] | (refine awpI_draw2 (id := 17) (.one false 0 (.one false 1 (.one false 2 (.one false 3 (.one false 4 (.one false 5 (.one false 6 (.one false 7 (.one false 8 (.one false 9 (.one false 10 (.one false 11 (.only 12 (.one false 13 (.one false 14 .done))))))))))))))) mixed (by decide +kernel) (by decide +kernel) ?_) | (refine opCallI_rd (by simp only [go_sem, hs, ebl, hlb, elim, ev, ea, hL, Ret_eq Try.results144]; first | done | rfl) (hls) (by rintro _ rfl; rfl) ?_; rintro _ rfl) | fail)
                    have hpe := partEq64 l4 a1 b1 v hv (by omega) (by omega)
                    rw [hL] at hpe
                    refine opCallI_lend [0] (by simp only [go_sem, hs, ebl, hlb, elim, ev, ea, Ret_eq Try.results144]; first | done | rfl) (by simp only [go_sem, hs, ebl, hlb, elim, ev, ea, Ret_eq Try.results144]; first | done | rfl) (by decide) (by simp only [go_sem, hs, ebl, hlb, elim, ev, ea, Ret_eq Try.results144]; first | done | decide) (by simp only [go_sem, hs, ebl, hlb, elim, ev, ea, Ret_eq Try.results144]; first | done | decide) (hpe) ?_
                    rintro _ _ ⟨m, rfl, l5, rfl, s5, p5⟩
                    repeat' (first | simp only [go_sem, hs, ebl, hlb, elim, ev, ea, Ret_eq Try.results144] | fail)
                    refine AgainW.to (m, b1, lim, true, true, l5) ?_ ?_ ?_
                    · show b1 - m < b1 - a1; have := p5.h1; have := p5.h2; omega
                    · exact ⟨(hR4.sw s5).eqPart p5 (s5.all (P := fun z => _ ≤ z) (hR4.ahead ha hv (by omega))), by show lim ≤ 60000; omega⟩
                    · simp only [go_sem, hs, ebl, hlb, elim, ev, ea, Ret_eq Try.results144]
                · repeat' (first | simp only [go_sem, hs, ebl, hlb, elim, ev, Ret_eq Try.results144] | simp (disch := omega) only [arith, IntKind.bits, capMax, fill_len, elt_fill] | (refine awpI_draw2 (id := 17) (.one false 0 (.one false 1 (.one false 2 (.one false 3 (.one false 4 (.one false 5 (.one false 6 (.one false 7 (.one false 8 (.one false 9 (.one false 10 (.one false 11 (.only 12 (.one false 13 (.one false 14 .done))))))))))))))) mixed (by decide +kernel) (by decide +kernel) ?_) | fail)
                  have hpt := part64 l4 a1 b1 v hv (by omega) (by omega)
                  rw [hL] at hpt
                  refine opCallI_lend [0] (by simp only [go_sem, hs, ebl, hlb, elim, ev, Ret_eq Try.results144]; first | done | rfl) (by simp only [go_sem, hs, ebl, hlb, elim, ev, Ret_eq Try.results144]; first | done | rfl) (by decide) (by simp only [go_sem, hs, ebl, hlb, elim, ev, Ret_eq Try.results144]; first | done | decide) (by simp only [go_sem, hs, ebl, hlb, elim, ev, Ret_eq Try.results144]; first | done | decide) (hpt) ?_
                  rintro _ _ ⟨m, t, rfl, l5, rfl, s5, p5⟩
                  have hR5 := hR4.sw s5
                  have hl5 := hR5.rs.length
                  have q1 := p5.h1
                  have q2 := p5.h2
                  have em1 : (m : Int) - (a1 : Int) = ((m - a1 : Nat) : Int) := by omega
                  have em2 : (b1 : Int) - (m : Int) = ((b1 - m : Nat) : Int) := by omega
                  have em3 : ((b1 - a1 : Nat) : Int).tdiv 8 = ((b1 - a1 : Nat) : Int) / 8 := Int.tdiv_eq_ediv_of_nonneg (by omega)
                  have hA5 := hR5.rh
                  have hAl : Ahd a1 m l5 := by
                    rcases hA5 with z | z
                    · exact .inl z
                    · exact .inr fun k k1 k2 => z k k1 (by omega)
                  have hAr : Ahd (m + 1) b1 l5 := .inr fun k k1 k2 => by
                    rw [show m + 1 - 1 = m by omega]
                    exact p5.h4 k (by omega) k2
                  by_cases hsm : m - a1 < b1 - m
                  · have hrec : SortsL64 _ l5 a1 m lim := ih (m - a1) (by omega) l5 a1 m lim (Nat.le_refl _) q1 (by omega) (by omega) (by omega) hAl
                    unfold SortsL64 at hrec
                    rw [hl5] at hrec
                    repeat' (first | simp only [go_sem, hs, ebl, hlb, elim, ev, em1, em2, em3, Ret_eq Try.results144] | simp (disch := omega) only [arith, IntKind.bits, capMax, fill_len, elt_fill] | fail)
                    refine opCallI_lend [0] (by simp only [go_sem, hs, ebl, hlb, elim, ev, em1, em2, em3, Ret_eq Try.results144]; first | done | rfl) (by simp only [go_sem, hs, ebl, hlb, elim, ev, em1, em2, em3, Ret_eq Try.results144]; first | done | rfl) (by decide) (by simp only [go_sem, hs, ebl, hlb, elim, ev, em1, em2, em3, Ret_eq Try.results144]; first | done | decide) (by simp only [go_sem, hs, ebl, hlb, elim, ev, em1, em2, em3, Ret_eq Try.results144]; first | done | decide) (hrec) ?_
                    rintro _ _ ⟨rfl, l6, rfl, s6, d6⟩
                    repeat' (first | simp only [go_sem, hs, ebl, hlb, elim, ev, em1, em2, em3, Ret_eq Try.results144] | simp (disch := omega) only [arith, IntKind.bits, capMax, fill_len, elt_fill] | fail)
                    refine AgainW.to (m + 1, b1, lim, decide (((b1 - a1 : Nat) : Int) / 8 ≤ ((m - a1 : Nat) : Int)), t, l6) ?_ ?_ ?_
                    · show b1 - (m + 1) < b1 - a1; omega
                    · exact ⟨hR5.left p5 s6 d6, by show lim ≤ 60000; omega⟩
                    · simp only [go_sem, hs, ebl, hlb, elim, ev, em1, em2, em3, Ret_eq Try.results144]
                  · have hrec : SortsL64 _ l5 (m + 1) b1 lim := ih (b1 - (m + 1)) (by omega) l5 (m + 1) b1 lim (Nat.le_refl _) (by omega) (by omega) (by omega) (by omega) hAr
                    unfold SortsL64 at hrec
                    rw [hl5] at hrec
                    repeat' (first | simp only [go_sem, hs, ebl, hlb, elim, ev, em1, em2, em3, Ret_eq Try.results144] | simp (disch := omega) only [arith, IntKind.bits, capMax, fill_len, elt_fill] | fail)
                    refine opCallI_lend [0] (by simp only [go_sem, hs, ebl, hlb, elim, ev, em1, em2, em3, Ret_eq Try.results144]; first | done | rfl) (by simp only [go_sem, hs, ebl, hlb, elim, ev, em1, em2, em3, Ret_eq Try.results144]; first | done | rfl) (by decide) (by simp only [go_sem, hs, ebl, hlb, elim, ev, em1, em2, em3, Ret_eq Try.results144]; first | done | decide) (by simp only [go_sem, hs, ebl, hlb, elim, ev, em1, em2, em3, Ret_eq Try.results144]; first | done | decide) (hrec) ?_
                    rintro _ _ ⟨rfl, l6, rfl, s6, d6⟩
                    repeat' (first | simp only [go_sem, hs, ebl, hlb, elim, ev, em1, em2, em3, Ret_eq Try.results144] | fail)
                    refine AgainW.to (a1, m, lim, decide (((b1 - a1 : Nat) : Int) / 8 ≤ ((b1 - m : Nat) : Int)), t, l6) ?_ ?_ ?_
                    · show m - a1 < b1 - a1; omega
                    · exact ⟨hR5.right p5 s6 d6, by show lim ≤ 60000; omega⟩
                    · simp only [go_sem, hs, ebl, hlb, elim, ev, em1, em2, em3, Ret_eq Try.results144]
            | false =>
              have hL : l3.length = l.length := hR3.rs.length
              by_cases ha : 0 < a1
              · have ea : (a1 : Int) - 1 = ((a1 - 1 : Nat) : Int) := by omega
                have hls := lessS64_fun (l3.getD (a1 - 1) 0) (l3.getD v 0)
                by_cases hlt : l3.getD (a1 - 1) 0 < l3.getD v 0
                · rw [decide_eq_true hlt] at hls
                  repeat' (first | simp only [go_sem, hs, ebl, hlb, elim, ev, beq_self_eq_true, ea, hL, Ret_eq Try.results144] | simp (disch := omega) only [arith, IntKind.bits, capMax, fill_len, elt_fill] | (refine awpI_draw2 (id := 17) (.one false 0 (.one false 1 (.one false 2 (.one false 3 (.one false 4 (.one false 5 (.one false 6 (.one false 7 (.one false 8 (.one false 9 (.one false 10 (.one false 11 (.only 12 (.one false 13 (.one false 14 .done))))))))))))))) mixed (by decide +kernel) (by decide +kernel) ?_) | (refine opCallI_rd (by simp only [go_sem, hs, ebl, hlb, elim, ev, beq_self_eq_true, ea, hL, Ret_eq Try.results144]; first | done | rfl) (hls) (by rintro _ rfl; rfl) ?_; rintro _ rfl) | fail)
                  have hpt := part64 l3 a1 b1 v hv (by omega) (by omega)
                  rw [hL] at hpt
                  refine opCallI_lend [0] (by simp only [go_sem, hs, ebl, hlb, elim, ev, beq_self_eq_true, ea, Ret_eq Try.results144]; first | done | rfl) (by simp only [go_sem, hs, ebl, hlb, elim, ev, beq_self_eq_true, ea, Ret_eq Try.results144]; first | done | rfl) (by decide) (by simp only [go_sem, hs, ebl, hlb, elim, ev, beq_self_eq_true, ea, Ret_eq Try.results144]; first | done | decide) (by simp only [go_sem, hs, ebl, hlb, elim, ev, beq_self_eq_true, ea, Ret_eq Try.results144]; first | done | decide) (hpt) ?_
                  rintro _ _ ⟨m, t, rfl, l5, rfl, s5, p5⟩
                  have hR5 := hR3.sw s5
                  have hl5 := hR5.rs.length
                  have q1 := p5.h1
                  have q2 := p5.h2
                  have em1 : (m : Int) - (a1 : Int) = ((m - a1 : Nat) : Int) := by omega
                  have em2 : (b1 : Int) - (m : Int) = ((b1 - m : Nat) : Int) := by omega
                  have em3 : ((b1 - a1 : Nat) : Int).tdiv 8 = ((b1 - a1 : Nat) : Int) / 8 := Int.tdiv_eq_ediv_of_nonneg (by omega)
                  have hA5 := hR5.rh
                  have hAl : Ahd a1 m l5 := by
                    rcases hA5 with z | z
                    · exact .inl z
                    · exact .inr fun k k1 k2 => z k k1 (by omega)
                  have hAr : Ahd (m + 1) b1 l5 := .inr fun k k1 k2 => by
                    rw [show m + 1 - 1 = m by omega]
                    exact p5.h4 k (by omega) k2
                  by_cases hsm : m - a1 < b1 - m
                  · have hrec : SortsL64 _ l5 a1 m lim := ih (m - a1) (by omega) l5 a1 m lim (Nat.le_refl _) q1 (by omega) (by omega) (by omega) hAl
                    unfold SortsL64 at hrec
                    rw [hl5] at hrec
                    repeat' (first | simp only [go_sem, hs, ebl, hlb, elim, ev, beq_self_eq_true, ea, em1, em2, em3, Ret_eq Try.results144] | simp (disch := omega) only [arith, IntKind.bits, capMax, fill_len, elt_fill] | fail)
                    refine opCallI_lend [0] (by simp only [go_sem, hs, ebl, hlb, elim, ev, beq_self_eq_true, ea, em1, em2, em3, Ret_eq Try.results144]; first | done | rfl) (by simp only [go_sem, hs, ebl, hlb, elim, ev, beq_self_eq_true, ea, em1, em2, em3, Ret_eq Try.results144]; first | done | rfl) (by decide) (by simp only [go_sem, hs, ebl, hlb, elim, ev, beq_self_eq_true, ea, em1, em2, em3, Ret_eq Try.results144]; first | done | decide) (by simp only [go_sem, hs, ebl, hlb, elim, ev, beq_self_eq_true, ea, em1, em2, em3, Ret_eq Try.results144]; first | done | decide) (hrec) ?_
                    rintro _ _ ⟨rfl, l6, rfl, s6, d6⟩
                    repeat' (first | simp only [go_sem, hs, ebl, hlb, elim, ev, beq_self_eq_true, ea, em1, em2, em3, Ret_eq Try.results144] | simp (disch := omega) only [arith, IntKind.bits, capMax, fill_len, elt_fill] | fail)
                    refine AgainW.to (m + 1, b1, lim, decide (((b1 - a1 : Nat) : Int) / 8 ≤ ((m - a1 : Nat) : Int)), t, l6) ?_ ?_ ?_
                    · show b1 - (m + 1) < b1 - a1; omega
                    · exact ⟨hR5.left p5 s6 d6, by show lim ≤ 60000; omega⟩
                    · simp only [go_sem, hs, ebl, hlb, elim, ev, beq_self_eq_true, ea, em1, em2, em3, Ret_eq Try.results144]
                  · have hrec : SortsL64 _ l5 (m + 1) b1 lim := ih (b1 - (m + 1)) (by omega) l5 (m + 1) b1 lim (Nat.le_refl _) (by omega) (by omega) (by omega) (by omega) hAr
                    unfold SortsL64 at hrec
                    rw [hl5] at hrec
                    repeat' (first | simp only [go_sem, hs, ebl, hlb, elim, ev, beq_self_eq_true, ea, em1, em2, em3, Ret_eq Try.results144] | simp (disch := omega) only [arith, IntKind.bits, capMax, fill_len, elt_fill] | fail)
                    refine opCallI_lend [0] (by simp only [go_sem, hs, ebl, hlb, elim, ev, beq_self_eq_true, ea, em1, em2, em3, Ret_eq Try.results144]; first | done | rfl) (by simp only [go_sem, hs, ebl, hlb, elim, ev, beq_self_eq_true, ea, em1, em2, em3, Ret_eq Try.results144]; first | done | rfl) (by decide) (by simp only [go_sem, hs, ebl, hlb, elim, ev, beq_self_eq_true, ea, em1, em2, em3, Ret_eq Try.results144]; first | done | decide) (by simp only [go_sem, hs, ebl, hlb, elim, ev, beq_self_eq_true, ea, em1, em2, em3, Ret_eq Try.results144]; first | done | decide) (hrec) ?_
                    rintro _ _ ⟨rfl, l6, rfl, s6, d6⟩
                    repeat' (first | simp only [go_sem, hs, ebl, hlb, elim, ev, beq_self_eq_true, ea, em1, em2, em3, Ret_eq Try.results144] | fail)
                    refine AgainW.to (a1, m, lim, decide (((b1 - a1 : Nat) : Int) / 8 ≤ ((b1 - m : Nat) : Int)), t, l6) ?_ ?_ ?_
                    · show m - a1 < b1 - a1; omega
                    · exact ⟨hR5.right p5 s6 d6, by show lim ≤ 60000; omega⟩
                    · simp only [go_sem, hs, ebl, hlb, elim, ev, beq_self_eq_true, ea, em1, em2, em3, Ret_eq Try.results144]
                · rw [decide_eq_false hlt] at hls
                  repeat' (first | simp only [go_sem, hs, ebl, hlb, elim, ev, beq_self_eq_true, ea, hL, Ret_eq Try.results144] | simp (disch := omega) only [arith, IntKind.bits, capMax, fill_len, elt_fill] | (refine awpI_draw2 (id := 17) (.one false 0 (.one false 1 (.one false 2 (.one false 3 (.one false 4 (.one false 5 (.one false 6 (.one false 7 (.one false 8 (.one false 9 (.one false 10 (.one false 11 (.only 12 (.one false 13 (.one false 14 .done))))))))))))))) mixed (by decide +kernel) (by decide +kernel) ?_) | (refine opCallI_rd (by simp only [go_sem, hs, ebl, hlb, elim, ev, beq_self_eq_true, ea, hL, Ret_eq Try.results144]; first | done | rfl) (hls) (by rintro _ rfl; rfl) ?_; rintro _ rfl) | fail)
                  have hpe := partEq64 l3 a1 b1 v hv (by omega) (by omega)
                  rw [hL] at hpe
                  refine opCallI_lend [0] (by simp only [go_sem, hs, ebl, hlb, elim, ev, beq_self_eq_true, ea, Ret_eq Try.results144]; first | done | rfl) (by simp only [go_sem, hs, ebl, hlb, elim, ev, beq_self_eq_true, ea, Ret_eq Try.results144]; first | done | rfl) (by decide) (by simp only [go_sem, hs, ebl, hlb, elim, ev, beq_self_eq_true, ea, Ret_eq Try.results144]; first | done | decide) (by simp only [go_sem, hs, ebl, hlb, elim, ev, beq_self_eq_true, ea, Ret_eq Try.results144]; first | done | decide) (hpe) ?_
                  rintro _ _ ⟨m, rfl, l5, rfl, s5, p5⟩
                  repeat' (first | simp only [go_sem, hs, ebl, hlb, elim, ev, beq_self_eq_true, ea, Ret_eq Try.results144] | fail)
                  refine AgainW.to (m, b1, lim, true, false, l5) ?_ ?_ ?_
                  · show b1 - m < b1 - a1; have := p5.h1; have := p5.h2; omega
                  · exact ⟨(hR3.sw s5).eqPart p5 (s5.all (P := fun z => _ ≤ z) (hR3.ahead ha hv (by omega))), by show lim ≤ 60000; omega⟩
                  · simp only [go_sem, hs, ebl, hlb, elim, ev, beq_self_eq_true, ea, Ret_eq Try.results144]
              · repeat' (first | simp only [go_sem, hs, ebl, hlb, elim, ev, beq_self_eq_true, Ret_eq Try.results144] | simp (disch := omega) only [arith, IntKind.bits, capMax, fill_len, elt_fill] | (refine awpI_draw2 (id := 17) (.one false 0 (.one false 1 (.one false 2 (.one false 3 (.one false 4 (.one false 5 (.one false 6 (.one false 7 (.one false 8 (.one false 9 (.one false 10 (.one false 11 (.only 12 (.one false 13 (.one false 14 .done))))))))))))))) mixed (by decide +kernel) (by decide +kernel) ?_) | fail)
                have hpt := part64 l3 a1 b1 v hv (by omega) (by omega)
                rw [hL] at hpt
                refine opCallI_lend [0] (by simp only [go_sem, hs, ebl, hlb, elim, ev, beq_self_eq_true, Ret_eq Try.results144]; first | done | rfl) (by simp only [go_sem, hs, ebl, hlb, elim, ev, beq_self_eq_true, Ret_eq Try.results144]; first | done | rfl) (by decide) (by simp only [go_sem, hs, ebl, hlb, elim, ev, beq_self_eq_true, Ret_eq Try.results144]; first | done | decide) (by simp only [go_sem, hs, ebl, hlb, elim, ev, beq_self_eq_true, Ret_eq Try.results144]; first | done | decide) (hpt) ?_
                rintro _ _ ⟨m, t, rfl, l5, rfl, s5, p5⟩
                have hR5 := hR3.sw s5
                have hl5 := hR5.rs.length
                have q1 := p5.h1
                have q2 := p5.h2
                have em1 : (m : Int) - (a1 : Int) = ((m - a1 : Nat) : Int) := by omega
                have em2 : (b1 : Int) - (m : Int) = ((b1 - m : Nat) : Int) := by omega
                have em3 : ((b1 - a1 : Nat) : Int).tdiv 8 = ((b1 - a1 : Nat) : Int) / 8 := Int.tdiv_eq_ediv_of_nonneg (by omega)
                have hA5 := hR5.rh
                have hAl : Ahd a1 m l5 := by
                  rcases hA5 with z | z
                  · exact .inl z
                  · exact .inr fun k k1 k2 => z k k1 (by omega)
                have hAr : Ahd (m + 1) b1 l5 := .inr fun k k1 k2 => by
                  rw [show m + 1 - 1 = m by omega]
                  exact p5.h4 k (by omega) k2
                by_cases hsm : m - a1 < b1 - m
                · have hrec : SortsL64 _ l5 a1 m lim := ih (m - a1) (by omega) l5 a1 m lim (Nat.le_refl _) q1 (by omega) (by omega) (by omega) hAl
                  unfold SortsL64 at hrec
                  rw [hl5] at hrec
                  repeat' (first | simp only [go_sem, hs, ebl, hlb, elim, ev, beq_self_eq_true, em1, em2, em3, Ret_eq Try.results144] | simp (disch := omega) only [arith, IntKind.bits, capMax, fill_len, elt_fill] | fail)
                  refine opCallI_lend [0] (by simp only [go_sem, hs, ebl, hlb, elim, ev, beq_self_eq_true, em1, em2, em3, Ret_eq Try.results144]; first | done | rfl) (by simp only [go_sem, hs, ebl, hlb, elim, ev, beq_self_eq_true, em1, em2, em3, Ret_eq Try.results144]; first | done | rfl) (by decide) (by simp only [go_sem, hs, ebl, hlb, elim, ev, beq_self_eq_true, em1, em2, em3, Ret_eq Try.results144]; first | done | decide) (by simp only [go_sem, hs, ebl, hlb, elim, ev, beq_self_eq_true, em1, em2, em3, Ret_eq Try.results144]; first | done | decide) (hrec) ?_
                  rintro _ _ ⟨rfl, l6, rfl, s6, d6⟩
                  repeat' (first | simp only [go_sem, hs, ebl, hlb, elim, ev, beq_self_eq_true, em1, em2, em3, Ret_eq Try.results144] | simp (disch := omega) only [arith, IntKind.bits, capMax, fill_len, elt_fill] | fail)
                  refine AgainW.to (m + 1, b1, lim, decide (((b1 - a1 : Nat) : Int) / 8 ≤ ((m - a1 : Nat) : Int)), t, l6) ?_ ?_ ?_
                  · show b1 - (m + 1) < b1 - a1; omega
                  · exact ⟨hR5.left p5 s6 d6, by show lim ≤ 60000; omega⟩
                  · simp only [go_sem, hs, ebl, hlb, elim, ev, beq_self_eq_true, em1, em2, em3, Ret_eq Try.results144]
                · have hrec : SortsL64 _ l5 (m + 1) b1 lim := ih (b1 - (m + 1)) (by omega) l5 (m + 1) b1 lim (Nat.le_refl _) (by omega) (by omega) (by omega) (by omega) hAr
                  unfold SortsL64 at hrec
                  rw [hl5] at hrec
                  repeat' (first | simp only [go_sem, hs, ebl, hlb, elim, ev, beq_self_eq_true, em1, em2, em3, Ret_eq Try.results144] | simp (disch := omega) only [arith, IntKind.bits, capMax, fill_len, elt_fill] | fail)
                  refine opCallI_lend [0] (by simp only [go_sem, hs, ebl, hlb, elim, ev, beq_self_eq_true, em1, em2, em3, Ret_eq Try.results144]; first | done | rfl) (by simp only [go_sem, hs, ebl, hlb, elim, ev, beq_self_eq_true, em1, em2, em3, Ret_eq Try.results144]; first | done | rfl) (by decide) (by simp only [go_sem, hs, ebl, hlb, elim, ev, beq_self_eq_true, em1, em2, em3, Ret_eq Try.results144]; first | done | decide) (by simp only [go_sem, hs, ebl, hlb, elim, ev, beq_self_eq_true, em1, em2, em3, Ret_eq Try.results144]; first | done | decide) (hrec) ?_
                  rintro _ _ ⟨rfl, l6, rfl, s6, d6⟩
                  repeat' (first | simp only [go_sem, hs, ebl, hlb, elim, ev, beq_self_eq_true, em1, em2, em3, Ret_eq Try.results144] | fail)
                  refine AgainW.to (a1, m, lim, decide (((b1 - a1 : Nat) : Int) / 8 ≤ ((b1 - m : Nat) : Int)), t, l6) ?_ ?_ ?_
                  · show m - a1 < b1 - a1; omega
                  · exact ⟨hR5.right p5 s6 d6, by show lim ≤ 60000; omega⟩
                  · simp only [go_sem, hs, ebl, hlb, elim, ev, beq_self_eq_true, em1, em2, em3, Ret_eq Try.results144]
          · have hhb : (h == 2) = false := beq_eq_false_iff_ne.2 hh
            have hv : a1 ≤ x ∧ x < b1 := ⟨hx1, hx2⟩
            by_cases h1 : h = 1
            · subst h1
              cases wp with
              | true =>
                have hL : l1.length = l.length := hR2.rs.length
                have hpa := partial64 l1 a1 b1 (by omega) (by omega) (by omega) hR2.rh
                rw [hL] at hpa
                repeat' (first | simp only [go_sem, hs, ebl, hlb, elim, hhb, beq_self_eq_true, Ret_eq Try.results144] | fail)
                refine opCallI_lend [0] (by simp only [go_sem, hs, ebl, hlb, elim, hhb, Ret_eq Try.results144]; first | done | rfl) (by simp only [go_sem, hs, ebl, hlb, elim, hhb, Ret_eq Try.results144]; first | done | rfl) (by decide) (by simp only [go_sem, hs, ebl, hlb, elim, hhb, Ret_eq Try.results144]; first | done | decide) (by simp only [go_sem, hs, ebl, hlb, elim, hhb, Ret_eq Try.results144]; first | done | decide) (hpa) ?_
                rintro _ _ ⟨t0, rfl, l4, rfl, s4, d4⟩
                have hR4 := hR2.sw s4
                cases t0 with
                | true =>
                  repeat' (first | simp only [go_sem, hs, ebl, hlb, elim, hhb, Ret_eq Try.results144] | refine RetL_calc Try.results144 rfl ?_ | fail)
                  all_goals exact ⟨rfl, l4, rfl, hR2.done s4 (d4 rfl)⟩
                | false =>
                  have hL : l4.length = l.length := hR4.rs.length
                  by_cases ha : 0 < a1
                  · have ea : (a1 : Int) - 1 = ((a1 - 1 : Nat) : Int) := by omega
                    have hls := lessS64_fun (l4.getD (a1 - 1) 0) (l4.getD x 0)
                    by_cases hlt : l4.getD (a1 - 1) 0 < l4.getD x 0
                    · rw [decide_eq_true hlt] at hls
                      repeat' (first | simp only [go_sem, hs, ebl, hlb, elim, hhb, ea, hL, Ret_eq Try.results144] | simp (disch := omega) only [arith, IntKind.bits, capMax, fill_len, elt_fill] | (refine awpI_draw2 (id := 17) (.one false 0 (.one false 1 (.one false 2 (.one false 3 (.one false 4 (.one false 5 (.one false 6 (.one false 7 (.one false 8 (.one false 9 (.one false 10 (.one false 11 (.only 12 (.one false 13 (.one false 14 .done))))))))))))))) mixed (by decide +kernel) (by decide +kernel) ?_) | (refine opCallI_rd (by simp only [go_sem, hs, ebl, hlb, elim, hhb, ea, hL, Ret_eq Try.results144]; first | done | rfl) (hls) (by rintro _ rfl; rfl) ?_; rintro _ rfl) | fail)
                      have hpt := part64 l4 a1 b1 x hv (by omega) (by omega)
                      rw [hL] at hpt
                      refine opCallI_lend [0] (by simp only [go_sem, hs, ebl, hlb, elim, hhb, ea, Ret_eq Try.results144]; first | done | rfl) (by simp only [go_sem, hs, ebl, hlb, elim, hhb, ea, Ret_eq Try.results144]; first | done | rfl) (by decide) (by simp only [go_sem, hs, ebl, hlb, elim, hhb, ea, Ret_eq Try.results144]; first | done | decide) (by simp only [go_sem, hs, ebl, hlb, elim, hhb, ea, Ret_eq Try.results144]; first | done | decide) (hpt) ?_
                      rintro _ _ ⟨m, t, rfl, l5, rfl, s5, p5⟩
                      have hR5 := hR4.sw s5
                      have hl5 := hR5.rs.length
                      have q1 := p5.h1
                      have q2 := p5.h2
                      have em1 : (m : Int) - (a1 : Int) = ((m - a1 : Nat) : Int) := by omega
                      have em2 : (b1 : Int) - (m : Int) = ((b1 - m : Nat) : Int) := by omega
                      have em3 : ((b1 - a1 : Nat) : Int).tdiv 8 = ((b1 - a1 : Nat) : Int) / 8 := Int.tdiv_eq_ediv_of_nonneg (by omega)
                      have hA5 := hR5.rh
                      have hAl : Ahd a1 m l5 := by
                        rcases hA5 with z | z
                        · exact .inl z
                        · exact .inr fun k k1 k2 => z k k1 (by omega)
                      have hAr : Ahd (m + 1) b1 l5 := .inr fun k k1 k2 => by
                        rw [show m + 1 - 1 = m by omega]
                        exact p5.h4 k (by omega) k2
                      by_cases hsm : m - a1 < b1 - m
                      · have hrec : SortsL64 _ l5 a1 m lim := ih (m - a1) (by omega) l5 a1 m lim (Nat.le_refl _) q1 (by omega) (by omega) (by omega) hAl
                        unfold SortsL64 at hrec
                        rw [hl5] at hrec
                        repeat' (first | simp only [go_sem, hs, ebl, hlb, elim, hhb, ea, em1, em2, em3, Ret_eq Try.results144] | simp (disch := omega) only [arith, IntKind.bits, capMax, fill_len, elt_fill] | fail)
                        refine opCallI_lend [0] (by simp only [go_sem, hs, ebl, hlb, elim, hhb, ea, em1, em2, em3, Ret_eq Try.results144]; first | done | rfl) (by simp only [go_sem, hs, ebl, hlb, elim, hhb, ea, em1, em2, em3, Ret_eq Try.results144]; first | done | rfl) (by decide) (by simp only [go_sem, hs, ebl, hlb, elim, hhb, ea, em1, em2, em3, Ret_eq Try.results144]; first | done | decide) (by simp only [go_sem, hs, ebl, hlb, elim, hhb, ea, em1, em2, em3, Ret_eq Try.results144]; first | done | decide) (hrec) ?_
                        rintro _ _ ⟨rfl, l6, rfl, s6, d6⟩
                        repeat' (first | simp only [go_sem, hs, ebl, hlb, elim, hhb, ea, em1, em2, em3, Ret_eq Try.results144] | simp (disch := omega) only [arith, IntKind.bits, capMax, fill_len, elt_fill] | fail)
                        refine AgainW.to (m + 1, b1, lim, decide (((b1 - a1 : Nat) : Int) / 8 ≤ ((m - a1 : Nat) : Int)), t, l6) ?_ ?_ ?_
                        · show b1 - (m + 1) < b1 - a1; omega
                        · exact ⟨hR5.left p5 s6 d6, by show lim ≤ 60000; omega⟩
                        · simp only [go_sem, hs, ebl, hlb, elim, hhb, ea, em1, em2, em3, Ret_eq Try.results144]
                      · have hrec : SortsL64 _ l5 (m + 1) b1 lim := ih (b1 - (m + 1)) (by omega) l5 (m + 1) b1 lim (Nat.le_refl _) (by omega) (by omega) (by omega) (by omega) hAr
                        unfold SortsL64 at hrec
                        rw [hl5] at hrec
                        repeat' (first | simp only [go_sem, hs, ebl, hlb, elim, hhb, ea, em1, em2, em3, Ret_eq Try.results144] | simp (disch := omega) only [arith, IntKind.bits, capMax, fill_len, elt_fill] | fail)
                        refine opCallI_lend [0] (by simp only [go_sem, hs, ebl, hlb, elim, hhb, ea, em1, em2, em3, Ret_eq Try.results144]; first | done | rfl) (by simp only [go_sem, hs, ebl, hlb, elim, hhb, ea, em1, em2, em3, Ret_eq Try.results144]; first | done | rfl) (by decide) (by simp only [go_sem, hs, ebl, hlb, elim, hhb, ea, em1, em2, em3, Ret_eq Try.results144]; first | done | decide) (by simp only [go_sem, hs, ebl, hlb, elim, hhb, ea, em1, em2, em3, Ret_eq Try.results144]; first | done | decide) (hrec) ?_
                        rintro _ _ ⟨rfl, l6, rfl, s6, d6⟩
                        repeat' (first | simp only [go_sem, hs, ebl, hlb, elim, hhb, ea, em1, em2, em3, Ret_eq Try.results144] | fail)
                        refine AgainW.to (a1, m, lim, decide (((b1 - a1 : Nat) : Int) / 8 ≤ ((b1 - m : Nat) : Int)), t, l6) ?_ ?_ ?_
                        · show m - a1 < b1 - a1; omega
                        · exact ⟨hR5.right p5 s6 d6, by show lim ≤ 60000; omega⟩
                        · simp only [go_sem, hs, ebl, hlb, elim, hhb, ea, em1, em2, em3, Ret_eq Try.results144]
                    · rw [decide_eq_false hlt] at hls
                      repeat' (first | simp only [go_sem, hs, ebl, hlb, elim, hhb, ea, hL, Ret_eq Try.results144] | simp (disch := omega) only [arith, IntKind.bits, capMax, fill_len, elt_fill] | (refine awpI_draw2 (id := 17) (.one false 0 (.one false 1 (.one false 2 (.one false 3 (.one false 4 (.one false 5 (.one false 6 (.one false 7 (.one false 8 (.one false 9 (.one false 10 (.one false 11 (.only 12 (.one false 13 (.one false 14 .done))))))))))))))) mixed (by decide +kernel) (by decide +kernel) ?_) | (refine opCallI_rd (by simp only [go_sem, hs, ebl, hlb, elim, hhb, ea, hL, Ret_eq Try.results144]; first | done | rfl) (hls) (by rintro _ rfl; rfl) ?_; rintro _ rfl) | fail)
                      have hpe := partEq64 l4 a1 b1 x hv (by omega) (by omega)
                      rw [hL] at hpe
                      refine opCallI_lend [0] (by simp only [go_sem, hs, ebl, hlb, elim, hhb, ea, Ret_eq Try.results144]; first | done | rfl) (by simp only [go_sem, hs, ebl, hlb, elim, hhb, ea, Ret_eq Try.results144]; first | done | rfl) (by decide) (by simp only [go_sem, hs, ebl, hlb, elim, hhb, ea, Ret_eq Try.results144]; first | done | decide) (by simp only [go_sem, hs, ebl, hlb, elim, hhb, ea, Ret_eq Try.results144]; first | done | decide) (hpe) ?_
                      rintro _ _ ⟨m, rfl, l5, rfl, s5, p5⟩
                      repeat' (first | simp only [go_sem, hs, ebl, hlb, elim, hhb, ea, Ret_eq Try.results144] | fail)
                      refine AgainW.to (m, b1, lim, true, true, l5) ?_ ?_ ?_
                      · show b1 - m < b1 - a1; have := p5.h1; have := p5.h2; omega
                      · exact ⟨(hR4.sw s5).eqPart p5 (s5.all (P := fun z => _ ≤ z) (hR4.ahead ha hv (by omega))), by show lim ≤ 60000; omega⟩
                      · simp only [go_sem, hs, ebl, hlb, elim, hhb, ea, Ret_eq Try.results144]
                  · repeat' (first | simp only [go_sem, hs, ebl, hlb, elim, hhb, Ret_eq Try.results144] | simp (disch := omega) only [arith, IntKind.bits, capMax, fill_len, elt_fill] | (refine awpI_draw2 (id := 17) (.one false 0 (.one false 1 (.one false 2 (.one false 3 (.one false 4 (.one false 5 (.one false 6 (.one false 7 (.one false 8 (.one false 9 (.one false 10 (.one false 11 (.only 12 (.one false 13 (.one false 14 .done))))))))))))))) mixed (by decide +kernel) (by decide +kernel) ?_) | fail)
                    have hpt := part64 l4 a1 b1 x hv (by omega) (by omega)
                    rw [hL] at hpt
                    refine opCallI_lend [0] (by simp only [go_sem, hs, ebl, hlb, elim, hhb, Ret_eq Try.results144]; first | done | rfl) (by simp only [go_sem, hs, ebl, hlb, elim, hhb, Ret_eq Try.results144]; first | done | rfl) (by decide) (by simp only [go_sem, hs, ebl, hlb, elim, hhb, Ret_eq Try.results144]; first | done | decide) (by simp only [go_sem, hs, ebl, hlb, elim, hhb, Ret_eq Try.results144]; first | done | decide) (hpt) ?_
                    rintro _ _ ⟨m, t, rfl, l5, rfl, s5, p5⟩
                    have hR5 := hR4.sw s5
                    have hl5 := hR5.rs.length
                    have q1 := p5.h1
                    have q2 := p5.h2
                    have em1 : (m : Int) - (a1 : Int) = ((m - a1 : Nat) : Int) := by omega
                    have em2 : (b1 : Int) - (m : Int) = ((b1 - m : Nat) : Int) := by omega
                    have em3 : ((b1 - a1 : Nat) : Int).tdiv 8 = ((b1 - a1 : Nat) : Int) / 8 := Int.tdiv_eq_ediv_of_nonneg (by omega)
                    have hA5 := hR5.rh
                    have hAl : Ahd a1 m l5 := by
                      rcases hA5 with z | z
                      · exact .inl z
                      · exact .inr fun k k1 k2 => z k k1 (by omega)
                    have hAr : Ahd (m + 1) b1 l5 := .inr fun k k1 k2 => by
                      rw [show m + 1 - 1 = m by omega]
                      exact p5.h4 k (by omega) k2
                    by_cases hsm : m - a1 < b1 - m
                    · have hrec : SortsL64 _ l5 a1 m lim := ih (m - a1) (by omega) l5 a1 m lim (Nat.le_refl _) q1 (by omega) (by omega) (by omega) hAl
                      unfold SortsL64 at hrec
                      rw [hl5] at hrec
                      repeat' (first | simp only [go_sem, hs, ebl, hlb, elim, hhb, em1, em2, em3, Ret_eq Try.results144] | simp (disch := omega) only [arith, IntKind.bits, capMax, fill_len, elt_fill] | fail)
                      refine opCallI_lend [0] (by simp only [go_sem, hs, ebl, hlb, elim, hhb, em1, em2, em3, Ret_eq Try.results144]; first | done | rfl) (by simp only [go_sem, hs, ebl, hlb, elim, hhb, em1, em2, em3, Ret_eq Try.results144]; first | done | rfl) (by decide) (by simp only [go_sem, hs, ebl, hlb, elim, hhb, em1, em2, em3, Ret_eq Try.results144]; first | done | decide) (by simp only [go_sem, hs, ebl, hlb, elim, hhb, em1, em2, em3, Ret_eq Try.results144]; first | done | decide) (hrec) ?_
                      rintro _ _ ⟨rfl, l6, rfl, s6, d6⟩
                      repeat' (first | simp only [go_sem, hs, ebl, hlb, elim, hhb, em1, em2, em3, Ret_eq Try.results144] | simp (disch := omega) only [arith, IntKind.bits, capMax, fill_len, elt_fill] | fail)
                      refine AgainW.to (m + 1, b1, lim, decide (((b1 - a1 : Nat) : Int) / 8 ≤ ((m - a1 : Nat) : Int)), t, l6) ?_ ?_ ?_
                      · show b1 - (m + 1) < b1 - a1; omega
                      · exact ⟨hR5.left p5 s6 d6, by show lim ≤ 60000; omega⟩
                      · simp only [go_sem, hs, ebl, hlb, elim, hhb, em1, em2, em3, Ret_eq Try.results144]
                    · have hrec : SortsL64 _ l5 (m + 1) b1 lim := ih (b1 - (m + 1)) (by omega) l5 (m + 1) b1 lim (Nat.le_refl _) (by omega) (by omega) (by omega) (by omega) hAr
                      unfold SortsL64 at hrec
                      rw [hl5] at hrec
                      repeat' (first | simp only [go_sem, hs, ebl, hlb, elim, hhb, em1, em2, em3, Ret_eq Try.results144] | simp (disch := omega) only [arith, IntKind.bits, capMax, fill_len, elt_fill] | fail)
                      refine opCallI_lend [0] (by simp only [go_sem, hs, ebl, hlb, elim, hhb, em1, em2, em3, Ret_eq Try.results144]; first | done | rfl) (by simp only [go_sem, hs, ebl, hlb, elim, hhb, em1, em2, em3, Ret_eq Try.results144]; first | done | rfl) (by decide) (by simp only [go_sem, hs, ebl, hlb, elim, hhb, em1, em2, em3, Ret_eq Try.results144]; first | done | decide) (by simp only [go_sem, hs, ebl, hlb, elim, hhb, em1, em2, em3, Ret_eq Try.results144]; first | done | decide) (hrec) ?_
                      rintro _ _ ⟨rfl, l6, rfl, s6, d6⟩
                      repeat' (first | simp only [go_sem, hs, ebl, hlb, elim, hhb, em1, em2, em3, Ret_eq Try.results144] | fail)
                      refine AgainW.to (a1, m, lim, decide (((b1 - a1 : Nat) : Int) / 8 ≤ ((b1 - m : Nat) : Int)), t, l6) ?_ ?_ ?_
                      · show m - a1 < b1 - a1; omega
                      · exact ⟨hR5.right p5 s6 d6, by show lim ≤ 60000; omega⟩
                      · simp only [go_sem, hs, ebl, hlb, elim, hhb, em1, em2, em3, Ret_eq Try.results144]
              | false =>
                have hL : l1.length = l.length := hR2.rs.length
                by_cases ha : 0 < a1
                · have ea : (a1 : Int) - 1 = ((a1 - 1 : Nat) : Int) := by omega
                  have hls := lessS64_fun (l1.getD (a1 - 1) 0) (l1.getD x 0)
                  by_cases hlt : l1.getD (a1 - 1) 0 < l1.getD x 0
                  · rw [decide_eq_true hlt] at hls
                    repeat' (first | simp only [go_sem, hs, ebl, hlb, elim, hhb, beq_self_eq_true, ea, hL, Ret_eq Try.results144] | simp (disch := omega) only [arith, IntKind.bits, capMax, fill_len, elt_fill] | (refine awpI_draw2 (id := 17) (.one false 0 (.one false 1 (.one false 2 (.one false 3 (.one false 4 (.one false 5 (.one false 6 (.one false 7 (.one false 8 (.one false 9 (.one false 10 (.one false 11 (.only 12 (.one false 13 (.one false 14 .done))))))))))))))) mixed (by decide +kernel) (by decide +kernel) ?_) | (refine opCallI_rd (by simp only [go_sem, hs, ebl, hlb, elim, hhb, beq_self_eq_true, ea, hL, Ret_eq Try.results144]; first | done | rfl) (hls) (by rintro _ rfl; rfl) ?_; rintro _ rfl) | fail)
                    have hpt := part64 l1 a1 b1 x hv (by omega) (by omega)
                    rw [hL] at hpt
                    refine opCallI_lend [0] (by simp only [go_sem, hs, ebl, hlb, elim, hhb, beq_self_eq_true, ea, Ret_eq Try.results144]; first | done | rfl) (by simp only [go_sem, hs, ebl, hlb, elim, hhb, beq_self_eq_true, ea, Ret_eq Try.results144]; first | done | rfl) (by decide) (by simp only [go_sem, hs, ebl, hlb, elim, hhb, beq_self_eq_true, ea, Ret_eq Try.results144]; first | done | decide) (by simp only [go_sem, hs, ebl, hlb, elim, hhb, beq_self_eq_true, ea, Ret_eq Try.results144]; first | done | decide) (hpt) ?_
                    rintro _ _ ⟨m, t, rfl, l5, rfl, s5, p5⟩
                    have hR5 := hR2.sw s5
                    have hl5 := hR5.rs.length
                    have q1 := p5.h1
                    have q2 := p5.h2
                    have em1 : (m : Int) - (a1 : Int) = ((m - a1 : Nat) : Int) := by omega
                    have em2 : (b1 : Int) - (m : Int) = ((b1 - m : Nat) : Int) := by omega
                    have em3 : ((b1 - a1 : Nat) : Int).tdiv 8 = ((b1 - a1 : Nat) : Int) / 8 := Int.tdiv_eq_ediv_of_nonneg (by omega)
                    have hA5 := hR5.rh
                    have hAl : Ahd a1 m l5 := by
                      rcases hA5 with z | z
                      · exact .inl z
                      · exact .inr fun k k1 k2 => z k k1 (by omega)
                    have hAr : Ahd (m + 1) b1 l5 := .inr fun k k1 k2 => by
                      rw [show m + 1 - 1 = m by omega]
                      exact p5.h4 k (by omega) k2
                    by_cases hsm : m - a1 < b1 - m
                    · have hrec : SortsL64 _ l5 a1 m lim := ih (m - a1) (by omega) l5 a1 m lim (Nat.le_refl _) q1 (by omega) (by omega) (by omega) hAl
                      unfold SortsL64 at hrec
                      rw [hl5] at hrec
                      repeat' (first | simp only [go_sem, hs, ebl, hlb, elim, hhb, beq_self_eq_true, ea, em1, em2, em3, Ret_eq Try.results144] | simp (disch := omega) only [arith, IntKind.bits, capMax, fill_len, elt_fill] | fail)
                      refine opCallI_lend [0] (by simp only [go_sem, hs, ebl, hlb, elim, hhb, beq_self_eq_true, ea, em1, em2, em3, Ret_eq Try.results144]; first | done | rfl) (by simp only [go_sem, hs, ebl, hlb, elim, hhb, beq_self_eq_true, ea, em1, em2, em3, Ret_eq Try.results144]; first | done | rfl) (by decide) (by simp only [go_sem, hs, ebl, hlb, elim, hhb, beq_self_eq_true, ea, em1, em2, em3, Ret_eq Try.results144]; first | done | decide) (by simp only [go_sem, hs, ebl, hlb, elim, hhb, beq_self_eq_true, ea, em1, em2, em3, Ret_eq Try.results144]; first | done | decide) (hrec) ?_
                      rintro _ _ ⟨rfl, l6, rfl, s6, d6⟩
                      repeat' (first | simp only [go_sem, hs, ebl, hlb, elim, hhb, beq_self_eq_true, ea, em1, em2, em3, Ret_eq Try.results144] | simp (disch := omega) only [arith, IntKind.bits, capMax, fill_len, elt_fill] | fail)
                      refine AgainW.to (m + 1, b1, lim, decide (((b1 - a1 : Nat) : Int) / 8 ≤ ((m - a1 : Nat) : Int)), t, l6) ?_ ?_ ?_
                      · show b1 - (m + 1) < b1 - a1; omega
                      · exact ⟨hR5.left p5 s6 d6, by show lim ≤ 60000; omega⟩
                      · simp only [go_sem, hs, ebl, hlb, elim, hhb, beq_self_eq_true, ea, em1, em2, em3, Ret_eq Try.results144]
                    · have hrec : SortsL64 _ l5 (m + 1) b1 lim := ih (b1 - (m + 1)) (by omega) l5 (m + 1) b1 lim (Nat.le_refl _) (by omega) (by omega) (by omega) (by omega) hAr
                      unfold SortsL64 at hrec
                      rw [hl5] at hrec
                      repeat' (first | simp only [go_sem, hs, ebl, hlb, elim, hhb, beq_self_eq_true, ea, em1, em2, em3, Ret_eq Try.results144] | simp (disch := omega) only [arith, IntKind.bits, capMax, fill_len, elt_fill] | fail)
                      refine opCallI_lend [0] (by simp only [go_sem, hs, ebl, hlb, elim, hhb, beq_self_eq_true, ea, em1, em2, em3, Ret_eq Try.results144]; first | done | rfl) (by simp only [go_sem, hs, ebl, hlb, elim, hhb, beq_self_eq_true, ea, em1, em2, em3, Ret_eq Try.results144]; first | done | rfl) (by decide) (by simp only [go_sem, hs, ebl, hlb, elim, hhb, beq_self_eq_true, ea, em1, em2, em3, Ret_eq Try.results144]; first | done | decide) (by simp only [go_sem, hs, ebl, hlb, elim, hhb, beq_self_eq_true, ea, em1, em2, em3, Ret_eq Try.results144]; first | done | decide) (hrec) ?_
                      rintro _ _ ⟨rfl, l6, rfl, s6, d6⟩
                      repeat' (first | simp only [go_sem, hs, ebl, hlb, elim, hhb, beq_self_eq_true, ea, em1, em2, em3, Ret_eq Try.results144] | fail)
                      refine AgainW.to (a1, m, lim, decide (((b1 - a1 : Nat) : Int) / 8 ≤ ((b1 - m : Nat) : Int)), t, l6) ?_ ?_ ?_
                      · show m - a1 < b1 - a1; omega
                      · exact ⟨hR5.right p5 s6 d6, by show lim ≤ 60000; omega⟩
                      · simp only [go_sem, hs, ebl, hlb, elim, hhb, beq_self_eq_true, ea, em1, em2, em3, Ret_eq Try.results144]
                  · rw [decide_eq_false hlt] at hls
                    repeat' (first | simp only [go_sem, hs, ebl, hlb, elim, hhb, beq_self_eq_true, ea, hL, Ret_eq Try.results144] | simp (disch := omega) only [arith, IntKind.bits, capMax, fill_len, elt_fill] | (refine awpI_draw2 (id := 17) (.one false 0 (.one false 1 (.one false 2 (.one false 3 (.one false 4 (.one false 5 (.one false 6 (.one false 7 (.one false 8 (.one false 9 (.one false 10 (.one false 11 (.only 12 (.one false 13 (.one false 14 .done))))))))))))))) mixed (by decide +kernel) (by decide +kernel) ?_) | (refine opCallI_rd (by simp only [go_sem, hs, ebl, hlb, elim, hhb, beq_self_eq_true, ea, hL, Ret_eq Try.results144]; first | done | rfl) (hls) (by rintro _ rfl; rfl) ?_; rintro _ rfl) | fail)
                    have hpe := partEq64 l1 a1 b1 x hv (by omega) (by omega)
                    rw [hL] at hpe
                    refine opCallI_lend [0] (by simp only [go_sem, hs, ebl, hlb, elim, hhb, beq_self_eq_true, ea, Ret_eq Try.results144]; first | done | rfl) (by simp only [go_sem, hs, ebl, hlb, elim, hhb, beq_self_eq_true, ea, Ret_eq Try.results144]; first | done | rfl) (by decide) (by simp only [go_sem, hs, ebl, hlb, elim, hhb, beq_self_eq_true, ea, Ret_eq Try.results144]; first | done | decide) (by simp only [go_sem, hs, ebl, hlb, elim, hhb, beq_self_eq_true, ea, Ret_eq Try.results144]; first | done | decide) (hpe) ?_
                    rintro _ _ ⟨m, rfl, l5, rfl, s5, p5⟩
                    repeat' (first | simp only [go_sem, hs, ebl, hlb, elim, hhb, beq_self_eq_true, ea, Ret_eq Try.results144] | fail)
                    refine AgainW.to (m, b1, lim, true, false, l5) ?_ ?_ ?_
                    · show b1 - m < b1 - a1; have := p5.h1; have := p5.h2; omega
                    · exact ⟨(hR2.sw s5).eqPart p5 (s5.all (P := fun z => _ ≤ z) (hR2.ahead ha hv (by omega))), by show lim ≤ 60000; omega⟩
                    · simp only [go_sem, hs, ebl, hlb, elim, hhb, beq_self_eq_true, ea, Ret_eq Try.results144]
                · repeat' (first | simp only [go_sem, hs, ebl, hlb, elim, hhb, beq_self_eq_true, Ret_eq Try.results144] | simp (disch := omega) only [arith, IntKind.bits, capMax, fill_len, elt_fill] | (refine awpI_draw2 (id := 17) (.one false 0 (.one false 1 (.one false 2 (.one false 3 (.one false 4 (.one false 5 (.one false 6 (.one false 7 (.one false 8 (.one false 9 (.one false 10 (.one false 11 (.only 12 (.one false 13 (.one false 14 .done))))))))))))))) mixed (by decide +kernel) (by decide +kernel) ?_) | fail)
                  have hpt := part64 l1 a1 b1 x hv (by omega) (by omega)
                  rw [hL] at hpt
                  refine opCallI_lend [0] (by simp only [go_sem, hs, ebl, hlb, elim, hhb, beq_self_eq_true, Ret_eq Try.results144]; first | done | rfl) (by simp only [go_sem, hs, ebl, hlb, elim, hhb, beq_self_eq_true, Ret_eq Try.results144]; first | done | rfl) (by decide) (by simp only [go_sem, hs, ebl, hlb, elim, hhb, beq_self_eq_true, Ret_eq Try.results144]; first | done | decide) (by simp only [go_sem, hs, ebl, hlb, elim, hhb, beq_self_eq_true, Ret_eq Try.results144]; first | done | decide) (hpt) ?_
                  rintro _ _ ⟨m, t, rfl, l5, rfl, s5, p5⟩
                  have hR5 := hR2.sw s5
                  have hl5 := hR5.rs.length
                  have q1 := p5.h1
                  have q2 := p5.h2
                  have em1 : (m : Int) - (a1 : Int) = ((m - a1 : Nat) : Int) := by omega
                  have em2 : (b1 : Int) - (m : Int) = ((b1 - m : Nat) : Int) := by omega
                  have em3 : ((b1 - a1 : Nat) : Int).tdiv 8 = ((b1 - a1 : Nat) : Int) / 8 := Int.tdiv_eq_ediv_of_nonneg (by omega)
                  have hA5 := hR5.rh
                  have hAl : Ahd a1 m l5 := by
                    rcases hA5 with z | z
                    · exact .inl z
                    · exact .inr fun k k1 k2 => z k k1 (by omega)
                  have hAr : Ahd (m + 1) b1 l5 := .inr fun k k1 k2 => by
                    rw [show m + 1 - 1 = m by omega]
                    exact p5.h4 k (by omega) k2
                  by_cases hsm : m - a1 < b1 - m
                  · have hrec : SortsL64 _ l5 a1 m lim := ih (m - a1) (by omega) l5 a1 m lim (Nat.le_refl _) q1 (by omega) (by omega) (by omega) hAl
                    unfold SortsL64 at hrec
                    rw [hl5] at hrec
                    repeat' (first | simp only [go_sem, hs, ebl, hlb, elim, hhb, beq_self_eq_true, em1, em2, em3, Ret_eq Try.results144] | simp (disch := omega) only [arith, IntKind.bits, capMax, fill_len, elt_fill] | fail)
                    refine opCallI_lend [0] (by simp only [go_sem, hs, ebl, hlb, elim, hhb, beq_self_eq_true, em1, em2, em3, Ret_eq Try.results144]; first | done | rfl) (by simp only [go_sem, hs, ebl, hlb, elim, hhb, beq_self_eq_true, em1, em2, em3, Ret_eq Try.results144]; first | done | rfl) (by decide) (by simp only [go_sem, hs, ebl, hlb, elim, hhb, beq_self_eq_true, em1, em2, em3, Ret_eq Try.results144]; first | done | decide) (by simp only [go_sem, hs, ebl, hlb, elim, hhb, beq_self_eq_true, em1, em2, em3, Ret_eq Try.results144]; first | done | decide) (hrec) ?_
                    rintro _ _ ⟨rfl, l6, rfl, s6, d6⟩
                    repeat' (first | simp only [go_sem, hs, ebl, hlb, elim, hhb, beq_self_eq_true, em1, em2, em3, Ret_eq Try.results144] | simp (disch := omega) only [arith, IntKind.bits, capMax, fill_len, elt_fill] | fail)
                    refine AgainW.to (m + 1, b1, lim, decide (((b1 - a1 : Nat) : Int) / 8 ≤ ((m - a1 : Nat) : Int)), t, l6) ?_ ?_ ?_
                    · show b1 - (m + 1) < b1 - a1; omega
                    · exact ⟨hR5.left p5 s6 d6, by show lim ≤ 60000; omega⟩
                    · simp only [go_sem, hs, ebl, hlb, elim, hhb, beq_self_eq_true, em1, em2, em3, Ret_eq Try.results144]
                  · have hrec : SortsL64 _ l5 (m + 1) b1 lim := ih (b1 - (m + 1)) (by omega) l5 (m + 1) b1 lim (Nat.le_refl _) (by omega) (by omega) (by omega) (by omega) hAr
                    unfold SortsL64 at hrec
                    rw [hl5] at hrec
                    repeat' (first | simp only [go_sem, hs, ebl, hlb, elim, hhb, beq_self_eq_true, em1, em2, em3, Ret_eq Try.results144] | simp (disch := omega) only [arith, IntKind.bits, capMax, fill_len, elt_fill] | fail)
                    refine opCallI_lend [0] (by simp only [go_sem, hs, ebl, hlb, elim, hhb, beq_self_eq_true, em1, em2, em3, Ret_eq Try.results144]; first | done | rfl) (by simp only [go_sem, hs, ebl, hlb, elim, hhb, beq_self_eq_true, em1, em2, em3, Ret_eq Try.results144]; first | done | rfl) (by decide) (by simp only [go_sem, hs, ebl, hlb, elim, hhb, beq_self_eq_true, em1, em2, em3, Ret_eq Try.results144]; first | done | decide) (by simp only [go_sem, hs, ebl, hlb, elim, hhb, beq_self_eq_true, em1, em2, em3, Ret_eq Try.results144]; first | done | decide) (hrec) ?_
                    rintro _ _ ⟨rfl, l6, rfl, s6, d6⟩
                    repeat' (first | simp only [go_sem, hs, ebl, hlb, elim, hhb, beq_self_eq_true, em1, em2, em3, Ret_eq Try.results144] | fail)
                    refine AgainW.to (a1, m, lim, decide (((b1 - a1 : Nat) : Int) / 8 ≤ ((b1 - m : Nat) : Int)), t, l6) ?_ ?_ ?_
                    · show m - a1 < b1 - a1; omega
                    · exact ⟨hR5.right p5 s6 d6, by show lim ≤ 60000; omega⟩
                    · simp only [go_sem, hs, ebl, hlb, elim, hhb, beq_self_eq_true, em1, em2, em3, Ret_eq Try.results144]
            · have h1b : (h == 1) = false := beq_eq_false_iff_ne.2 h1
              cases wp with
              | true =>
                have hL : l1.length = l.length := hR2.rs.length
                by_cases ha : 0 < a1
                · have ea : (a1 : Int) - 1 = ((a1 - 1 : Nat) : Int) := by omega
                  have hls := lessS64_fun (l1.getD (a1 - 1) 0) (l1.getD x 0)
                  by_cases hlt : l1.getD (a1 - 1) 0 < l1.getD x 0
                  · rw [decide_eq_true hlt] at hls
                    repeat' (first | simp only [go_sem, hs, ebl, hlb, elim, hhb, h1b, ea, hL, Ret_eq Try.results144] | simp (disch := omega) only [arith, IntKind.bits, capMax, fill_len, elt_fill] | (refine awpI_draw2 (id := 17) (.one false 0 (.one false 1 (.one false 2 (.one false 3 (.one false 4 (.one false 5 (.one false 6 (.one false 7 (.one false 8 (.one false 9 (.one false 10 (.one false 11 (.only 12 (.one false 13 (.one false 14 .done))))))))))))))) mixed (by decide +kernel) (by decide +kernel) ?_) | (refine opCallI_rd (by simp only [go_sem, hs, ebl, hlb, elim, hhb, h1b, ea, hL, Ret_eq Try.results144]; first | done | rfl) (hls) (by rintro _ rfl; rfl) ?_; rintro _ rfl) | fail)
                    have hpt := part64 l1 a1 b1 x hv (by omega) (by omega)
                    rw [hL] at hpt
                    refine opCallI_lend [0] (by simp only [go_sem, hs, ebl, hlb, elim, hhb, h1b, ea, Ret_eq Try.results144]; first | done | rfl) (by simp only [go_sem, hs, ebl, hlb, elim, hhb, h1b, ea, Ret_eq Try.results144]; first | done | rfl) (by decide) (by simp only [go_sem, hs, ebl, hlb, elim, hhb, h1b, ea, Ret_eq Try.results144]; first | done | decide) (by simp only [go_sem, hs, ebl, hlb, elim, hhb, h1b, ea, Ret_eq Try.results144]; first | done | decide) (hpt) ?_
                    rintro _ _ ⟨m, t, rfl, l5, rfl, s5, p5⟩
                    have hR5 := hR2.sw s5
                    have hl5 := hR5.rs.length
                    have q1 := p5.h1
                    have q2 := p5.h2
                    have em1 : (m : Int) - (a1 : Int) = ((m - a1 : Nat) : Int) := by omega
                    have em2 : (b1 : Int) - (m : Int) = ((b1 - m : Nat) : Int) := by omega
                    have em3 : ((b1 - a1 : Nat) : Int).tdiv 8 = ((b1 - a1 : Nat) : Int) / 8 := Int.tdiv_eq_ediv_of_nonneg (by omega)
                    have hA5 := hR5.rh
                    have hAl : Ahd a1 m l5 := by
                      rcases hA5 with z | z
                      · exact .inl z
                      · exact .inr fun k k1 k2 => z k k1 (by omega)
                    have hAr : Ahd (m + 1) b1 l5 := .inr fun k k1 k2 => by
                      rw [show m + 1 - 1 = m by omega]
                      exact p5.h4 k (by omega) k2
                    by_cases hsm : m - a1 < b1 - m
                    · have hrec : SortsL64 _ l5 a1 m lim := ih (m - a1) (by omega) l5 a1 m lim (Nat.le_refl _) q1 (by omega) (by omega) (by omega) hAl
                      unfold SortsL64 at hrec
                      rw [hl5] at hrec
                      repeat' (first | simp only [go_sem, hs, ebl, hlb, elim, hhb, h1b, ea, em1, em2, em3, Ret_eq Try.results144] | simp (disch := omega) only [arith, IntKind.bits, capMax, fill_len, elt_fill] | fail)
                      refine opCallI_lend [0] (by simp only [go_sem, hs, ebl, hlb, elim, hhb, h1b, ea, em1, em2, em3, Ret_eq Try.results144]; first | done | rfl) (by simp only [go_sem, hs, ebl, hlb, elim, hhb, h1b, ea, em1, em2, em3, Ret_eq Try.results144]; first | done | rfl) (by decide) (by simp only [go_sem, hs, ebl, hlb, elim, hhb, h1b, ea, em1, em2, em3, Ret_eq Try.results144]; first | done | decide) (by simp only [go_sem, hs, ebl, hlb, elim, hhb, h1b, ea, em1, em2, em3, Ret_eq Try.results144]; first | done | decide) (hrec) ?_
                      rintro _ _ ⟨rfl, l6, rfl, s6, d6⟩
                      repeat' (first | simp only [go_sem, hs, ebl, hlb, elim, hhb, h1b, ea, em1, em2, em3, Ret_eq Try.results144] | simp (disch := omega) only [arith, IntKind.bits, capMax, fill_len, elt_fill] | fail)
                      refine AgainW.to (m + 1, b1, lim, decide (((b1 - a1 : Nat) : Int) / 8 ≤ ((m - a1 : Nat) : Int)), t, l6) ?_ ?_ ?_
                      · show b1 - (m + 1) < b1 - a1; omega
                      · exact ⟨hR5.left p5 s6 d6, by show lim ≤ 60000; omega⟩
                      · simp only [go_sem, hs, ebl, hlb, elim, hhb, h1b, ea, em1, em2, em3, Ret_eq Try.results144]
                    · have hrec : SortsL64 _ l5 (m + 1) b1 lim := ih (b1 - (m + 1)) (by omega) l5 (m + 1) b1 lim (Nat.le_refl _) (by omega) (by omega) (by omega) (by omega) hAr
                      unfold SortsL64 at hrec
                      rw [hl5] at hrec
                      repeat' (first | simp only [go_sem, hs, ebl, hlb, elim, hhb, h1b, ea, em1, em2, em3, Ret_eq Try.results144] | simp (disch := omega) only [arith, IntKind.bits, capMax, fill_len, elt_fill] | fail)
                      refine opCallI_lend [0] (by simp only [go_sem, hs, ebl, hlb, elim, hhb, h1b, ea, em1, em2, em3, Ret_eq Try.results144]; first | done | rfl) (by simp only [go_sem, hs, ebl, hlb, elim, hhb, h1b, ea, em1, em2, em3, Ret_eq Try.results144]; first | done | rfl) (by decide) (by simp only [go_sem, hs, ebl, hlb, elim, hhb, h1b, ea, em1, em2, em3, Ret_eq Try.results144]; first | done | decide) (by simp only [go_sem, hs, ebl, hlb, elim, hhb, h1b, ea, em1, em2, em3, Ret_eq Try.results144]; first | done | decide) (hrec) ?_
                      rintro _ _ ⟨rfl, l6, rfl, s6, d6⟩
                      repeat' (first | simp only [go_sem, hs, ebl, hlb, elim, hhb, h1b, ea, em1, em2, em3, Ret_eq Try.results144] | fail)
                      refine AgainW.to (a1, m, lim, decide (((b1 - a1 : Nat) : Int) / 8 ≤ ((b1 - m : Nat) : Int)), t, l6) ?_ ?_ ?_
                      · show m - a1 < b1 - a1; omega
                      · exact ⟨hR5.right p5 s6 d6, by show lim ≤ 60000; omega⟩
                      · simp only [go_sem, hs, ebl, hlb, elim, hhb, h1b, ea, em1, em2, em3, Ret_eq Try.results144]
                  · rw [decide_eq_false hlt] at hls
                    repeat' (first | simp only [go_sem, hs, ebl, hlb, elim, hhb, h1b, ea, hL, Ret_eq Try.results144] | simp (disch := omega) only [arith, IntKind.bits, capMax, fill_len, elt_fill] | (refine awpI_draw2 (id := 17) (.one false 0 (.one false 1 (.one false 2 (.one false 3 (.one false 4 (.one false 5 (.one false 6 (.one false 7 (.one false 8 (.one false 9 (.one false 10 (.one false 11 (.only 12 (.one false 13 (.one false 14 .done))))))))))))))) mixed (by decide +kernel) (by decide +kernel) ?_) | (refine opCallI_rd (by simp only [go_sem, hs, ebl, hlb, elim, hhb, h1b, ea, hL, Ret_eq Try.results144]; first | done | rfl) (hls) (by rintro _ rfl; rfl) ?_; rintro _ rfl) | fail)
                    have hpe := partEq64 l1 a1 b1 x hv (by omega) (by omega)
                    rw [hL] at hpe
                    refine opCallI_lend [0] (by simp only [go_sem, hs, ebl, hlb, elim, hhb, h1b, ea, Ret_eq Try.results144]; first | done | rfl) (by simp only [go_sem, hs, ebl, hlb, elim, hhb, h1b, ea, Ret_eq Try.results144]; first | done | rfl) (by decide) (by simp only [go_sem, hs, ebl, hlb, elim, hhb, h1b, ea, Ret_eq Try.results144]; first | done | decide) (by simp only [go_sem, hs, ebl, hlb, elim, hhb, h1b, ea, Ret_eq Try.results144]; first | done | decide) (hpe) ?_
                    rintro _ _ ⟨m, rfl, l5, rfl, s5, p5⟩
                    repeat' (first | simp only [go_sem, hs, ebl, hlb, elim, hhb, h1b, ea, Ret_eq Try.results144] | fail)
                    refine AgainW.to (m, b1, lim, true, true, l5) ?_ ?_ ?_
                    · show b1 - m < b1 - a1; have := p5.h1; have := p5.h2; omega
                    · exact ⟨(hR2.sw s5).eqPart p5 (s5.all (P := fun z => _ ≤ z) (hR2.ahead ha hv (by omega))), by show lim ≤ 60000; omega⟩
                    · simp only [go_sem, hs, ebl, hlb, elim, hhb, h1b, ea, Ret_eq Try.results144]
                · repeat' (first | simp only [go_sem, hs, ebl, hlb, elim, hhb, h1b, Ret_eq Try.results144] | simp (disch := omega) only [arith, IntKind.bits, capMax, fill_len, elt_fill] | (refine awpI_draw2 (id := 17) (.one false 0 (.one false 1 (.one false 2 (.one false 3 (.one false 4 (.one false 5 (.one false 6 (.one false 7 (.one false 8 (.one false 9 (.one false 10 (.one false 11 (.only 12 (.one false 13 (.one false 14 .done))))))))))))))) mixed (by decide +kernel) (by decide +kernel) ?_) | fail)
                  have hpt := part64 l1 a1 b1 x hv (by omega) (by omega)
                  rw [hL] at hpt
                  refine opCallI_lend [0] (by simp only [go_sem, hs, ebl, hlb, elim, hhb, h1b, Ret_eq Try.results144]; first | done | rfl) (by simp only [go_sem, hs, ebl, hlb, elim, hhb, h1b, Ret_eq Try.results144]; first | done | rfl) (by decide) (by simp only [go_sem, hs, ebl, hlb, elim, hhb, h1b, Ret_eq Try.results144]; first | done | decide) (by simp only [go_sem, hs, ebl, hlb, elim, hhb, h1b, Ret_eq Try.results144]; first | done | decide) (hpt) ?_
                  rintro _ _ ⟨m, t, rfl, l5, rfl, s5, p5⟩
                  have hR5 := hR2.sw s5
                  have hl5 := hR5.rs.length
                  have q1 := p5.h1
                  have q2 := p5.h2
                  have em1 : (m : Int) - (a1 : Int) = ((m - a1 : Nat) : Int) := by omega
                  have em2 : (b1 : Int) - (m : Int) = ((b1 - m : Nat) : Int) := by omega
                  have em3 : ((b1 - a1 : Nat) : Int).tdiv 8 = ((b1 - a1 : Nat) : Int) / 8 := Int.tdiv_eq_ediv_of_nonneg (by omega)
                  have hA5 := hR5.rh
                  have hAl : Ahd a1 m l5 := by
                    rcases hA5 with z | z
                    · exact .inl z
                    · exact .inr fun k k1 k2 => z k k1 (by omega)
                  have hAr : Ahd (m + 1) b1 l5 := .inr fun k k1 k2 => by
                    rw [show m + 1 - 1 = m by omega]
                    exact p5.h4 k (by omega) k2
                  by_cases hsm : m - a1 < b1 - m
                  · have hrec : SortsL64 _ l5 a1 m lim := ih (m - a1) (by omega) l5 a1 m lim (Nat.le_refl _) q1 (by omega) (by omega) (by omega) hAl
                    unfold SortsL64 at hrec
                    rw [hl5] at hrec
                    repeat' (first | simp only [go_sem, hs, ebl, hlb, elim, hhb, h1b, em1, em2, em3, Ret_eq Try.results144] | simp (disch := omega) only [arith, IntKind.bits, capMax, fill_len, elt_fill] | fail)
                    refine opCallI_lend [0] (by simp only [go_sem, hs, ebl, hlb, elim, hhb, h1b, em1, em2, em3, Ret_eq Try.results144]; first | done | rfl) (by simp only [go_sem, hs, ebl, hlb, elim, hhb, h1b, em1, em2, em3, Ret_eq Try.results144]; first | done | rfl) (by decide) (by simp only [go_sem, hs, ebl, hlb, elim, hhb, h1b, em1, em2, em3, Ret_eq Try.results144]; first | done | decide) (by simp only [go_sem, hs, ebl, hlb, elim, hhb, h1b, em1, em2, em3, Ret_eq Try.results144]; first | done | decide) (hrec) ?_
                    rintro _ _ ⟨rfl, l6, rfl, s6, d6⟩
                    repeat' (first | simp only [go_sem, hs, ebl, hlb, elim, hhb, h1b, em1, em2, em3, Ret_eq Try.results144] | simp (disch := omega) only [arith, IntKind.bits, capMax, fill_len, elt_fill] | fail)
                    refine AgainW.to (m + 1, b1, lim, decide (((b1 - a1 : Nat) : Int) / 8 ≤ ((m - a1 : Nat) : Int)), t, l6) ?_ ?_ ?_
                    · show b1 - (m + 1) < b1 - a1; omega
                    · exact ⟨hR5.left p5 s6 d6, by show lim ≤ 60000; omega⟩
                    · simp only [go_sem, hs, ebl, hlb, elim, hhb, h1b, em1, em2, em3, Ret_eq Try.results144]
                  · have hrec : SortsL64 _ l5 (m + 1) b1 lim := ih (b1 - (m + 1)) (by omega) l5 (m + 1) b1 lim (Nat.le_refl _) (by omega) (by omega) (by omega) (by omega) hAr
                    unfold SortsL64 at hrec
                    rw [hl5] at hrec
                    repeat' (first | simp only [go_sem, hs, ebl, hlb, elim, hhb, h1b, em1, em2, em3, Ret_eq Try.results144] | simp (disch := omega) only [arith, IntKind.bits, capMax, fill_len, elt_fill] | fail)
                    refine opCallI_lend [0] (by simp only [go_sem, hs, ebl, hlb, elim, hhb, h1b, em1, em2, em3, Ret_eq Try.results144]; first | done | rfl) (by simp only [go_sem, hs, ebl, hlb, elim, hhb, h1b, em1, em2, em3, Ret_eq Try.results144]; first | done | rfl) (by decide) (by simp only [go_sem, hs, ebl, hlb, elim, hhb, h1b, em1, em2, em3, Ret_eq Try.results144]; first | done | decide) (by simp only [go_sem, hs, ebl, hlb, elim, hhb, h1b, em1, em2, em3, Ret_eq Try.results144]; first | done | decide) (hrec) ?_
                    rintro _ _ ⟨rfl, l6, rfl, s6, d6⟩
                    repeat' (first | simp only [go_sem, hs, ebl, hlb, elim, hhb, h1b, em1, em2, em3, Ret_eq Try.results144] | fail)
                    refine AgainW.to (a1, m, lim, decide (((b1 - a1 : Nat) : Int) / 8 ≤ ((b1 - m : Nat) : Int)), t, l6) ?_ ?_ ?_
                    · show m - a1 < b1 - a1; omega
                    · exact ⟨hR5.right p5 s6 d6, by show lim ≤ 60000; omega⟩
                    · simp only [go_sem, hs, ebl, hlb, elim, hhb, h1b, em1, em2, em3, Ret_eq Try.results144]
              | false =>
                have hL : l1.length = l.length := hR2.rs.length
                by_cases ha : 0 < a1
                · have ea : (a1 : Int) - 1 = ((a1 - 1 : Nat) : Int) := by omega
                  have hls := lessS64_fun (l1.getD (a1 - 1) 0) (l1.getD x 0)
                  by_cases hlt : l1.getD (a1 - 1) 0 < l1.getD x 0
                  · rw [decide_eq_true hlt] at hls
                    repeat' (first | simp only [go_sem, hs, ebl, hlb, elim, hhb, h1b, ea, hL, Ret_eq Try.results144] | simp (disch := omega) only [arith, IntKind.bits, capMax, fill_len, elt_fill] | (refine awpI_draw2 (id := 17) (.one false 0 (.one false 1 (.one false 2 (.one false 3 (.one false 4 (.one false 5 (.one false 6 (.one false 7 (.one false 8 (.one false 9 (.one false 10 (.one false 11 (.only 12 (.one false 13 (.one false 14 .done))))))))))))))) mixed (by decide +kernel) (by decide +kernel) ?_) | (refine opCallI_rd (by simp only [go_sem, hs, ebl, hlb, elim, hhb, h1b, ea, hL, Ret_eq Try.results144]; first | done | rfl) (hls) (by rintro _ rfl; rfl) ?_; rintro _ rfl) | fail)
                    have hpt := part64 l1 a1 b1 x hv (by omega) (by omega)
                    rw [hL] at hpt
                    refine opCallI_lend [0] (by simp only [go_sem, hs, ebl, hlb, elim, hhb, h1b, ea, Ret_eq Try.results144]; first | done | rfl) (by simp only [go_sem, hs, ebl, hlb, elim, hhb, h1b, ea, Ret_eq Try.results144]; first | done | rfl) (by decide) (by simp only [go_sem, hs, ebl, hlb, elim, hhb, h1b, ea, Ret_eq Try.results144]; first | done | decide) (by simp only [go_sem, hs, ebl, hlb, elim, hhb, h1b, ea, Ret_eq Try.results144]; first | done | decide) (hpt) ?_
                    rintro _ _ ⟨m, t, rfl, l5, rfl, s5, p5⟩
                    have hR5 := hR2.sw s5
                    have hl5 := hR5.rs.length
                    have q1 := p5.h1
                    have q2 := p5.h2
                    have em1 : (m : Int) - (a1 : Int) = ((m - a1 : Nat) : Int) := by omega
                    have em2 : (b1 : Int) - (m : Int) = ((b1 - m : Nat) : Int) := by omega
                    have em3 : ((b1 - a1 : Nat) : Int).tdiv 8 = ((b1 - a1 : Nat) : Int) / 8 := Int.tdiv_eq_ediv_of_nonneg (by omega)
                    have hA5 := hR5.rh
                    have hAl : Ahd a1 m l5 := by
                      rcases hA5 with z | z
                      · exact .inl z
                      · exact .inr fun k k1 k2 => z k k1 (by omega)
                    have hAr : Ahd (m + 1) b1 l5 := .inr fun k k1 k2 => by
                      rw [show m + 1 - 1 = m by omega]
                      exact p5.h4 k (by omega) k2
                    by_cases hsm : m - a1 < b1 - m
                    · have hrec : SortsL64 _ l5 a1 m lim := ih (m - a1) (by omega) l5 a1 m lim (Nat.le_refl _) q1 (by omega) (by omega) (by omega) hAl
                      unfold SortsL64 at hrec
                      rw [hl5] at hrec
                      repeat' (first | simp only [go_sem, hs, ebl, hlb, elim, hhb, h1b, ea, em1, em2, em3, Ret_eq Try.results144] | simp (disch := omega) only [arith, IntKind.bits, capMax, fill_len, elt_fill] | fail)
                      refine opCallI_lend [0] (by simp only [go_sem, hs, ebl, hlb, elim, hhb, h1b, ea, em1, em2, em3, Ret_eq Try.results144]; first | done | rfl) (by simp only [go_sem, hs, ebl, hlb, elim, hhb, h1b, ea, em1, em2, em3, Ret_eq Try.results144]; first | done | rfl) (by decide) (by simp only [go_sem, hs, ebl, hlb, elim, hhb, h1b, ea, em1, em2, em3, Ret_eq Try.results144]; first | done | decide) (by simp only [go_sem, hs, ebl, hlb, elim, hhb, h1b, ea, em1, em2, em3, Ret_eq Try.results144]; first | done | decide) (hrec) ?_
                      rintro _ _ ⟨rfl, l6, rfl, s6, d6⟩
                      repeat' (first | simp only [go_sem, hs, ebl, hlb, elim, hhb, h1b, ea, em1, em2, em3, Ret_eq Try.results144] | simp (disch := omega) only [arith, IntKind.bits, capMax, fill_len, elt_fill] | fail)
                      refine AgainW.to (m + 1, b1, lim, decide (((b1 - a1 : Nat) : Int) / 8 ≤ ((m - a1 : Nat) : Int)), t, l6) ?_ ?_ ?_
                      · show b1 - (m + 1) < b1 - a1; omega
                      · exact ⟨hR5.left p5 s6 d6, by show lim ≤ 60000; omega⟩
                      · simp only [go_sem, hs, ebl, hlb, elim, hhb, h1b, ea, em1, em2, em3, Ret_eq Try.results144]
                    · have hrec : SortsL64 _ l5 (m + 1) b1 lim := ih (b1 - (m + 1)) (by omega) l5 (m + 1) b1 lim (Nat.le_refl _) (by omega) (by omega) (by omega) (by omega) hAr
                      unfold SortsL64 at hrec
                      rw [hl5] at hrec
                      repeat' (first | simp only [go_sem, hs, ebl, hlb, elim, hhb, h1b, ea, em1, em2, em3, Ret_eq Try.results144] | simp (disch := omega) only [arith, IntKind.bits, capMax, fill_len, elt_fill] | fail)
                      refine opCallI_lend [0] (by simp only [go_sem, hs, ebl, hlb, elim, hhb, h1b, ea, em1, em2, em3, Ret_eq Try.results144]; first | done | rfl) (by simp only [go_sem, hs, ebl, hlb, elim, hhb, h1b, ea, em1, em2, em3, Ret_eq Try.results144]; first | done | rfl) (by decide) (by simp only [go_sem, hs, ebl, hlb, elim, hhb, h1b, ea, em1, em2, em3, Ret_eq Try.results144]; first | done | decide) (by simp only [go_sem, hs, ebl, hlb, elim, hhb, h1b, ea, em1, em2, em3, Ret_eq Try.results144]; first | done | decide) (hrec) ?_
                      rintro _ _ ⟨rfl, l6, rfl, s6, d6⟩
                      repeat' (first | simp only [go_sem, hs, ebl, hlb, elim, hhb, h1b, ea, em1, em2, em3, Ret_eq Try.results144] | fail)
                      refine AgainW.to (a1, m, lim, decide (((b1 - a1 : Nat) : Int) / 8 ≤ ((b1 - m : Nat) : Int)), t, l6) ?_ ?_ ?_
                      · show m - a1 < b1 - a1; omega
                      · exact ⟨hR5.right p5 s6 d6, by show lim ≤ 60000; omega⟩
                      · simp only [go_sem, hs, ebl, hlb, elim, hhb, h1b, ea, em1, em2, em3, Ret_eq Try.results144]
                  · rw [decide_eq_false hlt] at hls
                    repeat' (first | simp only [go_sem, hs, ebl, hlb, elim, hhb, h1b, ea, hL, Ret_eq Try.results144] | simp (disch := omega) only [arith, IntKind.bits, capMax, fill_len, elt_fill] | (refine awpI_draw2 (id := 17) (.one false 0 (.one false 1 (.one false 2 (.one false 3 (.one false 4 (.one false 5 (.one false 6 (.one false 7 (.one false 8 (.one false 9 (.one false 10 (.one false 11 (.only 12 (.one false 13 (.one false 14 .done))))))))))))))) mixed (by decide +kernel) (by decide +kernel) ?_) | (refine opCallI_rd (by simp only [go_sem, hs, ebl, hlb, elim, hhb, h1b, ea, hL, Ret_eq Try.results144]; first | done | rfl) (hls) (by rintro _ rfl; rfl) ?_; rintro _ rfl) | fail)
                    have hpe := partEq64 l1 a1 b1 x hv (by omega) (by omega)
                    rw [hL] at hpe
                    refine opCallI_lend [0] (by simp only [go_sem, hs, ebl, hlb, elim, hhb, h1b, ea, Ret_eq Try.results144]; first | done | rfl) (by simp only [go_sem, hs, ebl, hlb, elim, hhb, h1b, ea, Ret_eq Try.results144]; first | done | rfl) (by decide) (by simp only [go_sem, hs, ebl, hlb, elim, hhb, h1b, ea, Ret_eq Try.results144]; first | done | decide) (by simp only [go_sem, hs, ebl, hlb, elim, hhb, h1b, ea, Ret_eq Try.results144]; first | done | decide) (hpe) ?_
                    rintro _ _ ⟨m, rfl, l5, rfl, s5, p5⟩
                    repeat' (first | simp only [go_sem, hs, ebl, hlb, elim, hhb, h1b, ea, Ret_eq Try.results144] | fail)
                    refine AgainW.to (m, b1, lim, true, false, l5) ?_ ?_ ?_
                    · show b1 - m < b1 - a1; have := p5.h1; have := p5.h2; omega
                    · exact ⟨(hR2.sw s5).eqPart p5 (s5.all (P := fun z => _ ≤ z) (hR2.ahead ha hv (by omega))), by show lim ≤ 60000; omega⟩
                    · simp only [go_sem, hs, ebl, hlb, elim, hhb, h1b, ea, Ret_eq Try.results144]
                · repeat' (first | simp only [go_sem, hs, ebl, hlb, elim, hhb, h1b, Ret_eq Try.results144] | simp (disch := omega) only [arith, IntKind.bits, capMax, fill_len, elt_fill] | (refine awpI_draw2 (id := 17) (.one false 0 (.one false 1 (.one false 2 (.one false 3 (.one false 4 (.one false 5 (.one false 6 (.one false 7 (.one false 8 (.one false 9 (.one false 10 (.one false 11 (.only 12 (.one false 13 (.one false 14 .done))))))))))))))) mixed (by decide +kernel) (by decide +kernel) ?_) | fail)
                  have hpt := part64 l1 a1 b1 x hv (by omega) (by omega)
                  rw [hL] at hpt
                  refine opCallI_lend [0] (by simp only [go_sem, hs, ebl, hlb, elim, hhb, h1b, Ret_eq Try.results144]; first | done | rfl) (by simp only [go_sem, hs, ebl, hlb, elim, hhb, h1b, Ret_eq Try.results144]; first | done | rfl) (by decide) (by simp only [go_sem, hs, ebl, hlb, elim, hhb, h1b, Ret_eq Try.results144]; first | done | decide) (by simp only [go_sem, hs, ebl, hlb, elim, hhb, h1b, Ret_eq Try.results144]; first | done | decide) (hpt) ?_
                  rintro _ _ ⟨m, t, rfl, l5, rfl, s5, p5⟩
                  have hR5 := hR2.sw s5
                  have hl5 := hR5.rs.length
                  have q1 := p5.h1
                  have q2 := p5.h2
                  have em1 : (m : Int) - (a1 : Int) = ((m - a1 : Nat) : Int) := by omega
                  have em2 : (b1 : Int) - (m : Int) = ((b1 - m : Nat) : Int) := by omega
                  have em3 : ((b1 - a1 : Nat) : Int).tdiv 8 = ((b1 - a1 : Nat) : Int) / 8 := Int.tdiv_eq_ediv_of_nonneg (by omega)
                  have hA5 := hR5.rh
                  have hAl : Ahd a1 m l5 := by
                    rcases hA5 with z | z
                    · exact .inl z
                    · exact .inr fun k k1 k2 => z k k1 (by omega)
                  have hAr : Ahd (m + 1) b1 l5 := .inr fun k k1 k2 => by
                    rw [show m + 1 - 1 = m by omega]
                    exact p5.h4 k (by omega) k2
                  by_cases hsm : m - a1 < b1 - m
                  · have hrec : SortsL64 _ l5 a1 m lim := ih (m - a1) (by omega) l5 a1 m lim (Nat.le_refl _) q1 (by omega) (by omega) (by omega) hAl
                    unfold SortsL64 at hrec
                    rw [hl5] at hrec
                    repeat' (first | simp only [go_sem, hs, ebl, hlb, elim, hhb, h1b, em1, em2, em3, Ret_eq Try.results144] | simp (disch := omega) only [arith, IntKind.bits, capMax, fill_len, elt_fill] | fail)
                    refine opCallI_lend [0] (by simp only [go_sem, hs, ebl, hlb, elim, hhb, h1b, em1, em2, em3, Ret_eq Try.results144]; first | done | rfl) (by simp only [go_sem, hs, ebl, hlb, elim, hhb, h1b, em1, em2, em3, Ret_eq Try.results144]; first | done | rfl) (by decide) (by simp only [go_sem, hs, ebl, hlb, elim, hhb, h1b, em1, em2, em3, Ret_eq Try.results144]; first | done | decide) (by simp only [go_sem, hs, ebl, hlb, elim, hhb, h1b, em1, em2, em3, Ret_eq Try.results144]; first | done | decide) (hrec) ?_
                    rintro _ _ ⟨rfl, l6, rfl, s6, d6⟩
                    repeat' (first | simp only [go_sem, hs, ebl, hlb, elim, hhb, h1b, em1, em2, em3, Ret_eq Try.results144] | simp (disch := omega) only [arith, IntKind.bits, capMax, fill_len, elt_fill] | fail)
                    refine AgainW.to (m + 1, b1, lim, decide (((b1 - a1 : Nat) : Int) / 8 ≤ ((m - a1 : Nat) : Int)), t, l6) ?_ ?_ ?_
                    · show b1 - (m + 1) < b1 - a1; omega
                    · exact ⟨hR5.left p5 s6 d6, by show lim ≤ 60000; omega⟩
                    · simp only [go_sem, hs, ebl, hlb, elim, hhb, h1b, em1, em2, em3, Ret_eq Try.results144]
                  · have hrec : SortsL64 _ l5 (m + 1) b1 lim := ih (b1 - (m + 1)) (by omega) l5 (m + 1) b1 lim (Nat.le_refl _) (by omega) (by omega) (by omega) (by omega) hAr
                    unfold SortsL64 at hrec
                    rw [hl5] at hrec
                    repeat' (first | simp only [go_sem, hs, ebl, hlb, elim, hhb, h1b, em1, em2, em3, Ret_eq Try.results144] | simp (disch := omega) only [arith, IntKind.bits, capMax, fill_len, elt_fill] | fail)
                    refine opCallI_lend [0] (by simp only [go_sem, hs, ebl, hlb, elim, hhb, h1b, em1, em2, em3, Ret_eq Try.results144]; first | done | rfl) (by simp only [go_sem, hs, ebl, hlb, elim, hhb, h1b, em1, em2, em3, Ret_eq Try.results144]; first | done | rfl) (by decide) (by simp only [go_sem, hs, ebl, hlb, elim, hhb, h1b, em1, em2, em3, Ret_eq Try.results144]; first | done | decide) (by simp only [go_sem, hs, ebl, hlb, elim, hhb, h1b, em1, em2, em3, Ret_eq Try.results144]; first | done | decide) (hrec) ?_
                    rintro _ _ ⟨rfl, l6, rfl, s6, d6⟩
                    repeat' (first | simp only [go_sem, hs, ebl, hlb, elim, hhb, h1b, em1, em2, em3, Ret_eq Try.results144] | fail)
                    refine AgainW.to (a1, m, lim, decide (((b1 - a1 : Nat) : Int) / 8 ≤ ((b1 - m : Nat) : Int)), t, l6) ?_ ?_ ?_
                    · show m - a1 < b1 - a1; omega
                    · exact ⟨hR5.right p5 s6 d6, by show lim ≤ 60000; omega⟩
                    · simp only [go_sem, hs, ebl, hlb, elim, hhb, h1b, em1, em2, em3, Ret_eq Try.results144]
end Go.Proofs.Ytpkampecmlpfmaa.T

end
section
set_option linter.unusedSimpArgs false
/- The list, sorted, plainly. -/
namespace Go.Proofs.Ytpkampecmlpfmaa.T
open Go Go.VL Go.Proofs
/-- The list, sorted. -/
def sortI (l : List Int) : List Int := l.mergeSort fun x y => decide (x ≤ y)
theorem sortI_perm (l : List Int) : (sortI l).Perm l := List.mergeSort_perm _ _
theorem sortI_sorted (l : List Int) : (sortI l).Pairwise (· ≤ ·) := by
  have := List.pairwise_mergeSort (le := fun x y : Int => decide (x ≤ y)) (fun a b c h1 h2 => by simp at *; omega) (fun a b => by simp; omega) l
  exact this.imp fun h => by simpa using h
theorem sorted_unique {l l' : List Int} (hp : l.Perm l') (h : l.Pairwise (· ≤ ·)) (h' : l'.Pairwise (· ≤ ·)) : l = l' :=
  hp.eq_of_pairwise (fun a b _ _ h1 h2 => by omega) h h'
theorem Sd.pairwise {l : List Int} (h : Sd 0 l.length l) : l.Pairwise (· ≤ ·) := by
  rw [List.pairwise_iff_getElem]
  intro i j hi hj hij
  have := h i j (Nat.zero_le _) hij hj
  simpa [List.getD, hi, hj] using this
theorem sortI_of {l l' : List Int} (h : Sw 0 l.length l l') (hd : Sd 0 l.length l') : l' = sortI l := by
  have hl := h.length
  rw [← hl] at hd
  exact sorted_unique (h.perm.trans (sortI_perm l).symm) hd.pairwise (sortI_sorted l)
end Go.Proofs.Ytpkampecmlpfmaa.T

end
section
set_option linter.unusedSimpArgs false
set_option linter.unusedVariables false
/- slices.Sort, walked. -/
namespace Go.Proofs.Ytpkampecmlpfmaa.T
open Go Go.VL Go.Proofs
set_option maxRecDepth 100000
set_option maxHeartbeats 8000000

theorem sort64 (l : List Int) (hl : l.length ≤ 60000) : FunL Try.prog 102 [.ref 0 l.length] [own64 l] fun r os => r = .tup [] ∧ os = [own64 (sortI l)] := by
  refine FunL.of_awpI [(100000, 0)] rfl Try.func102 rfl cal102 Try.ntmps102 (by simp) fun hwf hlw ls => ?_
  simp only [lentWf, D.wfs, D.wf, ints_length, ints_wfs, rows_length, rows_wfs, capMax, and_true, true_and] at hwf hlw
  have hbl := bitsLen_fun l.length (by omega)
  repeat' (first | simp only [go_sem, Ret_eq Try.results102] | simp (disch := omega) only [arith, IntKind.bits, capMax, fill_len, elt_fill] | (refine opCallI_gv (by simp only [go_sem, Ret_eq Try.results102]; first | done | rfl) (hbl) ?_; rintro _ ⟨n, rfl, hn⟩) | fail)
  have hp : SortsL64 _ l 0 l.length n := pdq64 l.length l 0 l.length n (by omega) (Nat.zero_le _) (Nat.le_refl _) hl (by have := hn.1; omega) (.inl rfl)
  unfold SortsL64 at hp
  rw [show ((0 : Nat) : Int) = 0 from rfl] at hp
  refine opCallI_lend [0] (by simp only [go_sem, Ret_eq Try.results102]; first | done | rfl) (by simp only [go_sem, Ret_eq Try.results102]; first | done | rfl) (by decide) (by simp only [go_sem, Ret_eq Try.results102]; first | done | decide) (by simp only [go_sem, Ret_eq Try.results102]; first | done | decide) hp ?_
  rintro _ _ ⟨rfl, l2, rfl, s2, d2⟩
  have e := sortI_of s2 d2
  subst e
  repeat' (first | simp only [go_sem, Ret_eq Try.results102] | refine RetL_calc Try.results102 rfl ?_ | fail)
  all_goals first | exact ⟨rfl, rfl⟩ | rfl
end Go.Proofs.Ytpkampecmlpfmaa.T

end
section
set_option linter.unusedSimpArgs false
set_option linter.unusedVariables false
/- All ids, walked. -/
namespace Go.Proofs.Ytpkampecmlpfmaa.T
open Go Go.VL Go.Proofs
set_option maxRecDepth 100000
set_option maxHeartbeats 4000000
def liveL (ids : List Int) : List Int := sortI (ids.filter fun x => !(x == -1))
theorem setN_new {a d : Int} : ∀ {l : List (Int × Int)}, lookN a l = none → setN a d l = l ++ [(a, d)]
  | [], _ => rfl
  | (b, e) :: r, h => by
    rw [lookN] at h
    split at h
    · cases h
    · rename_i hne
      rw [setN, if_neg hne, setN_new h]; rfl
theorem dir_keys {dim : Int} {ids : List Int} {vecs : List (List Int)} (h : slotsOk dim ids vecs) : ∀ k, k ≤ ids.length → (dirN ids k).map (fun p => p.1) = (ids.take k).filter fun x => !(x == -1)
  | 0, _ => by simp [dirN]
  | k + 1, hk => by
    have ih := dir_keys h k (by omega)
    rw [dirN, take_snoc (d := (0 : Int)) (by omega), List.filter_append, ← ih]
    by_cases q : ids.getD k 0 = -1
    · rw [if_pos q, q]; simp
    · rw [if_neg q]
      have h3 := (h.2.2.2 k (by omega)).resolve_left fun z => q z.1
      have q2 : (ids.getD k 0 == -1) = false := beq_eq_false_iff_ne.2 q
      rw [setN_new h3.1, List.map_append, List.filter_cons_of_pos (by rw [q2]; rfl)]; rfl
theorem fact_it : mapT Try.prog 63 = some (2, 3) := by kernel_rfl
def ivD (l : List (Int × Int)) : List (Int × D) := l.map fun p => (p.1, .v (.int .i64 p.2))
theorem ivD_app (l r : List (Int × Int)) : ivD l ++ ivD r = ivD (l ++ r) := (List.map_append).symm
theorem it_kills (id : Nat) (t : TypeId) (a x : Int) (l : List (Int × Int)) : D.kills id (iterO t .i64 (D.agg [.v (.int .i64 a), .v (.int .i64 x)]) (ivD l)).els = (iterO t .i64 (D.agg [.v (.int .i64 a), .v (.int .i64 x)]) (ivD l)).els := by
  have h : D.noRefs (kvD .i64 (ivD l)) = true := kvI_noRefs (k := .i64) (k2 := .i64) (l := l)
  have h2 := D.noRef_kill id h
  simp only [iterO, D.kills, D.kill]
  rw [h2]
theorem ivD_split {rest : List (Int × Int)} {l1 l2 : List (Int × D)} {a : Int} {d : D} (h : ivD rest = l1 ++ (a, d) :: l2) : ∃ r1 x r2, rest = r1 ++ (a, x) :: r2 ∧ d = .v (.int .i64 x) ∧ l1 = ivD r1 ∧ l2 = ivD r2 := by
  unfold ivD at h
  obtain ⟨r1, r2', e1, e2, e3⟩ := List.map_eq_append_iff.1 h
  obtain ⟨p, r2, e4, e5, e6⟩ := List.map_eq_cons_iff.1 e3
  cases e5
  exact ⟨r1, p.2, r2, by rw [e1, e4], rfl, e2.symm, e6.symm⟩

theorem slotsLiveIds_fun (dim : Int) (ids : List Int) (vecs : List (List Int)) : Fun Try.prog 38 [slotsD dim ids vecs] fun r => r = .tup [.lst (ints .i64 (if slotsOk dim ids vecs then liveL ids else [])), .v (.int .i64 (slotsErr dim ids vecs))] := by
  by_cases h : slotsOk dim ids vecs
  · have hd := dir_ok dim ids vecs h
    have hk := dir_keys h ids.length (Nat.le_refl _)
    rw [List.take_length] at hk
    have hn := dirN_length (ids := ids) ids.length
    have h256 := h.2.1.2
    rw [if_pos h, show slotsErr dim ids vecs = 0 from if_pos h]
    generalize dirN ids ids.length = M at *
    refine Fun.of_awpI Try.func38 rfl cal38 Try.ntmps38 (by simp) fun hwf => ?_
    simp only [D.wfs, D.wf, ints_length, ints_wfs, rows_length, rows_wfs, capMax, and_true, true_and] at hwf
    repeat' (first | simp only [go_sem, List.length_map, Ret_eq Try.results38] | simp (disch := omega) only [arith, IntKind.bits, capMax, fill_len, elt_fill] | (refine opCallI_ownGv (by simp only [go_sem, List.length_map, Ret_eq Try.results38]; first | done | rfl) (hd) ?_; rintro _ _ ⟨rfl, rfl⟩) | fail)
    have hkv : ∀ l : List (Int × Int), kvI .i64 .i64 l = kvD .i64 (ivD l) := fun _ => rfl
    refine opI_range_of (m := 10) (k := .i64) (l := ivD M) (by simp only [go_sem, Ret_eq Try.results38]) (fact_it) (by simp only [go_sem, Ret_eq Try.results38]; rfl) rfl (kvOf_kvD _) kvI_noRefs (by rw [ivD, List.length_map]; simp only [capMax]; omega) ?_
    repeat' (first | simp only [go_sem, Ret_eq Try.results38] | fail)
    refine awpI_while (σ := List (Int × Int) × List Int × D) (fun x => x.1.length) (fun x => (x.2.1 ++ x.1.map (fun p => p.1)).Perm (M.map fun p => p.1)) (fun x => [(6, .ref 17 x.2.1.length)]) (fun x => [(17, own64 x.2.1), (19, iterO 63 .i64 x.2.2 (ivD x.1))]) [19] [] (M, [], .any) _ (Weak.refl _) ?_ ?_ ?_ ?_
    · simp
    · simp only [go_sem, Ret_eq Try.results38]
    · simp only [go_sem, List.replicate_zero, ints_nil, own64, List.length_nil, Ret_eq Try.results38]
    · rintro ⟨rest, got, cur⟩ s hQ hs
      simp only [go_sem, Ret_eq Try.results38] at hs
      repeat' (first | simp only [go_sem, hs, Ret_eq Try.results38] | fail)
      refine opI_next_of (id := 19) (t := 63) (k := .i64) (cur := cur) (l := ivD rest) (by simp only [go_sem, hs, Ret_eq Try.results38]) (by simp only [go_sem, hs, Ret_eq Try.results38]) (fun h0 => ?_) (fun l1 a d l2 he => ?_)
      · have hr0 : rest = [] := by cases rest with
          | nil => rfl
          | cons p r => cases h0
        subst hr0
        have hgl : got.length = M.length := by simpa using hQ.length_eq
        have hgs : sortI got = liveL ids := by
          refine sorted_unique ((sortI_perm got).trans ?_) (sortI_sorted got) (sortI_sorted _)
          have h4 : got.Perm (M.map fun p => p.1) := by simpa using hQ
          rw [hk] at h4
          exact h4.trans (sortI_perm _).symm
        have hso := sort64 got (by omega)
        repeat' (first | simp only [go_sem, hs, Ret_eq Try.results38] | fail)
        refine opCallI_lend [17] (by simp only [go_sem, hs, Ret_eq Try.results38]; first | done | rfl) (by simp only [go_sem, hs, Ret_eq Try.results38]; first | done | rfl) (by decide) (by simp only [go_sem, hs, Ret_eq Try.results38]; first | done | decide) (by simp only [go_sem, hs, Ret_eq Try.results38]; first | done | decide) hso ?_
        rintro _ _ ⟨rfl, rfl⟩
        have hsl : (sortI got).length = got.length := (sortI_perm got).length_eq
        rw [hgs] at hsl
        have htk : (liveL ids).take got.length = liveL ids := List.take_of_length_le (by omega)
        rw [hgs]
        repeat' (first | simp only [go_sem, hs, hsl, htk, Ret_eq Try.results38] | fail)
      · obtain ⟨r1, x, r2, rfl, rfl, rfl, rfl⟩ := ivD_split he
        have hml : got.length + (r1.length + 1 + r2.length) = M.length := by
          have := hQ.length_eq
          simp at this; omega
        repeat' (first | simp only [go_sem, hs, Ret_eq Try.results38] | fail)
        refine opI_entry_of (id := 19) (t := 63) (k := .i64) (n := a) (d := .v (.int .i64 x)) (l := ivD r1 ++ ivD r2) (by simp only [go_sem, hs, Ret_eq Try.results38]) (by simp only [go_sem, hs, Ret_eq Try.results38]) ?_
        repeat' (first | simp only [go_sem, hs, List.length_append, List.length_cons, List.length_nil, Ret_eq Try.results38] | simp (disch := omega) only [arith, IntKind.bits, capMax, fill_len, elt_fill] | fail)
        all_goals
          refine AgainW.to (r1 ++ r2, got ++ [a], D.agg [.v (.int .i64 a), .v (.int .i64 x)]) ?_ ?_ ?_
          · simp
          · dsimp only at hQ ⊢
            refine List.Perm.trans ?_ hQ
            simp only [List.map_append, List.map_cons, List.append_assoc, List.singleton_append]
            exact (List.perm_middle.symm).append_left _
          · simp only [go_sem, hs, ivD_app, it_kills, List.length_append, List.length_cons, List.length_nil, Ret_eq Try.results38]
  · rw [if_neg h, show slotsErr dim ids vecs = 1 from if_neg h]
    have hd := dir_bad dim ids vecs h
    refine Fun.of_awpI Try.func38 rfl cal38 Try.ntmps38 (by simp) fun hwf => ?_
    simp only [D.wfs, D.wf, ints_length, ints_wfs, rows_length, rows_wfs, capMax, and_true, true_and] at hwf
    repeat' (first | simp only [go_sem, Ret_eq Try.results38] | (refine opCallI_ownGv (by simp only [go_sem, Ret_eq Try.results38]; first | done | rfl) (hd) ?_; rintro _ _ ⟨rfl, rfl⟩) | fail)
end Go.Proofs.Ytpkampecmlpfmaa.T

end
section
set_option linter.unusedSimpArgs false
set_option linter.unusedVariables false
/- Octets copied. -/
namespace Go.Proofs.Ytpkampecmlpfmaa.T
open Go Go.VL Go.Proofs
set_option maxRecDepth 100000

end Go.Proofs.Ytpkampecmlpfmaa.T

end
section
set_option linter.unusedSimpArgs false
set_option linter.unusedVariables false
/- Numbers put. -/
namespace Go.Proofs.Ytpkampecmlpfmaa.T
open Go Go.VL Go.Proofs
set_option maxRecDepth 100000

end Go.Proofs.Ytpkampecmlpfmaa.T

end
section
set_option linter.unusedSimpArgs false
set_option linter.unusedVariables false
/- Numbers taken. -/
namespace Go.Proofs.Ytpkampecmlpfmaa.T
open Go Go.VL Go.Proofs
set_option maxRecDepth 100000
set_option maxHeartbeats 4000000

end Go.Proofs.Ytpkampecmlpfmaa.T

end
section
set_option linter.unusedSimpArgs false
set_option linter.unusedVariables false
/- The law's guard. -/
namespace Go.Proofs.Ytpkampecmlpfmaa.T
open Go Go.VL Go.Proofs
set_option maxRecDepth 100000
end Go.Proofs.Ytpkampecmlpfmaa.T

end
section
set_option linter.unusedSimpArgs false
set_option linter.unusedVariables false
/- Lists of numbers compared. -/
namespace Go.Proofs.Ytpkampecmlpfmaa.T
open Go Go.VL Go.Proofs
set_option maxRecDepth 100000

theorem sameInts_fun (a b : List Int) : Fun Try.prog 39 [.lst (ints .i64 a), .lst (ints .i64 b)] fun r => r = .v (.bool (decide (a = b))) := by
  refine Fun.of_awpI Try.func39 rfl cal39 Try.ntmps39 (by simp) fun hwf => ?_
  simp only [D.wfs, D.wf, ints_length, ints_wfs, capMax, and_true] at hwf
  simp only [go_sem, Ret_eq Try.results39]
  refine condI_split (fun h => ?_) (fun h => ?_)
  · have hne : a ≠ b := by rintro rfl; simp at h
    simp only [go_sem, h, decide_eq_false hne, Ret_eq Try.results39]
  · have hlen : a.length = b.length := by simp at h; omega
    simp only [go_sem, h, Ret_eq Try.results39]
    refine awpI_count a.length (fun k s => a.take k = b.take k ∧ At s 26 [(0, .lst (ints .i64 a)), (1, .lst (ints .i64 b)), (12, .v (.int .i64 a.length)), (13, .v (.int .i64 k))] []) _ (Weak.refl _) ?_ ?_
    · refine ⟨rfl, ?_⟩
      simp only [go_sem, Ret_eq Try.results39]
      try simp
    · rintro k s hk ⟨hp, hs⟩
      simp only [At, Slots_cons, Slots_nil, Heaps_nil, and_true] at hs
      simp only [go_sem, hs, Ret_eq Try.results39]
      refine condI_split (fun h5 => ?_) (fun h5 => ?_)
      · have hk1 : k < a.length := by simp at h5; omega
        have hk2 : k < b.length := by omega
        simp only [go_sem, hs, Ret_eq Try.results39]
        refine awpI_draw (.one false 0 (.one false 1 (.one false 2 (.one false 3 (.one false 4 (.one false 5 (.one false 6 (.one false 7 (.one false 8 .done))))))))) mixed (by decide +kernel) (by decide +kernel) ?_
        simp only [go_sem, hs, idx_ints hk1, idx_in hk1, idx_ints hk2, idx_in hk2, Ret_eq Try.results39]
        refine condI_split (fun h6 => ?_) (fun h6 => ?_)
        · have hne : a ≠ b := by rintro rfl; simp at h6
          simp only [go_sem, h6, hs, decide_eq_false hne, Ret_eq Try.results39]
        · have e : IntKind.i64.wrap ((k : Int) + 1) = ((k + 1 : Nat) : Int) := by rw [IntWalk.i64_in _ (by omega)]; rfl
          simp only [go_sem, h6, hs, e, Ret_eq Try.results39]
          refine Next.to hk1 ⟨?_, ?_⟩
          · have h7 : a[k] = b[k] := by simpa using h6
            rw [List.take_succ_eq_append_getElem hk1, List.take_succ_eq_append_getElem hk2, hp, h7]
          · simp only [go_sem, hs, Ret_eq Try.results39]
      · have hab : a = b := by
          have hka : k = a.length := by simp at h5; omega
          subst hka
          rw [List.take_length, hlen, List.take_length] at hp
          exact hp
        simp only [go_sem, h5, hs, decide_eq_true hab, Ret_eq Try.results39]
end Go.Proofs.Ytpkampecmlpfmaa.T

end
section
set_option linter.unusedSimpArgs false
set_option linter.unusedVariables false
/- Where a list is cut, and how many are in each cell, plainly. -/
namespace Go.Proofs.Ytpkampecmlpfmaa.T
open Go Go.VL Go.Proofs
theorem sortI_length (l : List Int) : (sortI l).length = l.length := (sortI_perm l).length_eq
end Go.Proofs.Ytpkampecmlpfmaa.T

end
section
set_option linter.unusedSimpArgs false
set_option linter.unusedVariables false
/- Laws on cuts and counts, plainly. -/
namespace Go.Proofs.Ytpkampecmlpfmaa.T
open Go Go.VL Go.Proofs
end Go.Proofs.Ytpkampecmlpfmaa.T

end
section
set_option linter.unusedSimpArgs false
set_option linter.unusedVariables false
/- A list's own cuts: they may be, and their cells hold as many, plainly. -/
namespace Go.Proofs.Ytpkampecmlpfmaa.T
open Go Go.VL Go.Proofs
theorem sortI_mono {l : List Int} {i j : Nat} (h : i ≤ j) (hj : j < l.length) : (sortI l).getD i 0 ≤ (sortI l).getD j 0 := by
  have hs := sortI_length l
  have hp := List.pairwise_iff_getElem.1 (sortI_sorted l)
  by_cases e : i = j
  · subst e; exact Int.le_refl _
  · have := hp i j (by omega) (by omega) (by omega)
    simpa [List.getD, hs, hj, show i < l.length by omega] using this
theorem sortI_strict {l : List Int} (hn : l.Nodup) {i j : Nat} (h : i < j) (hj : j < l.length) : (sortI l).getD i 0 < (sortI l).getD j 0 := by
  have hs := sortI_length l
  have h1 := sortI_mono (l := l) (Nat.le_of_lt h) hj
  have h2 : (sortI l).Nodup := (sortI_perm l).nodup_iff.2 hn
  have h3 : (sortI l).getD i 0 ≠ (sortI l).getD j 0 := by
    have := List.pairwise_iff_getElem.1 h2 i j (by omega) (by omega) h
    simpa [List.getD, hs, hj, show i < l.length by omega] using this
  omega
end Go.Proofs.Ytpkampecmlpfmaa.T

end
section
set_option linter.unusedSimpArgs false
set_option linter.unusedVariables false
/- The document's list of all ids, and whether slots are the same, walked. -/
namespace Go.Proofs.Ytpkampecmlpfmaa.T
open Go Go.VL Go.Proofs
set_option maxRecDepth 100000
set_option maxHeartbeats 4000000
def bestF (last : Int) (ids : List Int) : Nat → Int
  | 0 => -1
  | j + 1 => if last < ids.getD j 0 ∧ (bestF last ids j < 0 ∨ ids.getD j 0 < bestF last ids j) then ids.getD j 0 else bestF last ids j
theorem bestF_spec {last : Int} {ids : List Int} (hl : -1 ≤ last) : ∀ j, j ≤ ids.length → (bestF last ids j = -1 ∧ ∀ i, i < j → ¬ last < ids.getD i 0) ∨ ((∃ i, i < j ∧ ids.getD i 0 = bestF last ids j) ∧ last < bestF last ids j ∧ ∀ i, i < j → last < ids.getD i 0 → bestF last ids j ≤ ids.getD i 0)
  | 0, _ => .inl ⟨rfl, fun i hi => absurd hi (Nat.not_lt_zero i)⟩
  | j + 1, hj => by
    have ih := bestF_spec (ids := ids) hl j (by omega)
    rw [bestF]
    by_cases h : last < ids.getD j 0 ∧ (bestF last ids j < 0 ∨ ids.getD j 0 < bestF last ids j)
    · rw [if_pos h]
      right
      refine ⟨⟨j, by omega, rfl⟩, h.1, fun i hi hx => ?_⟩
      by_cases e : i = j
      · rw [e]; exact Int.le_refl _
      · rcases ih with ⟨a, b⟩ | ⟨_, b, c⟩
        · exact absurd hx (b i (by omega))
        · have := c i (by omega) hx
          rcases h.2 with z | z <;> omega
    · rw [if_neg h]
      rcases ih with ⟨a, b⟩ | ⟨⟨i0, a, a2⟩, b, c⟩
      · refine .inl ⟨a, fun i hi hx => ?_⟩
        by_cases e : i = j
        · rw [e] at hx; exact h ⟨hx, .inl (by omega)⟩
        · exact b i (by omega) hx
      · refine .inr ⟨⟨i0, by omega, a2⟩, b, fun i hi hx => ?_⟩
        by_cases e : i = j
        · rw [e] at hx ⊢
          by_cases q : ids.getD j 0 < bestF last ids j
          · exact absurd ⟨hx, .inr q⟩ h
          · omega
        · exact c i (by omega) hx
theorem ids_ge {dim : Int} {ids : List Int} {vecs : List (List Int)} (h : slotsOk dim ids vecs) {i : Nat} (hi : i < ids.length) : -1 ≤ ids.getD i 0 := by
  rcases h.2.2.2 i hi with ⟨q, _⟩ | ⟨_, q, _⟩
  · omega
  · have := q.1; omega
theorem keys_nodup {dim : Int} {ids : List Int} {vecs : List (List Int)} (h : slotsOk dim ids vecs) : (ids.filter fun x => !(x == -1)).Nodup := by
  rw [List.Nodup, List.pairwise_filter, List.pairwise_iff_getElem]
  intro i j hi hj hij hx hy e
  have := slots_ids h hij hj (by simp only [List.getD, List.getElem?_eq_getElem hi, List.getElem?_eq_getElem hj, Option.getD_some]; exact e)
  simp only [List.getD, List.getElem?_eq_getElem hj, Option.getD_some] at this
  rw [this] at hy
  simp at hy
theorem live_mem {ids : List Int} {x : Int} : x ∈ liveL ids ↔ x ∈ ids ∧ x ≠ -1 := by
  unfold liveL
  rw [(sortI_perm _).mem_iff]
  simp
def lastF (L : List Int) (k : Nat) : Int := if k = 0 then -1 else L.getD (k - 1) 0
/-- The next one of all ids. -/
theorem live_pick {dim : Int} {ids : List Int} {vecs : List (List Int)} (h : slotsOk dim ids vecs) {k : Nat} (hk : k ≤ (liveL ids).length) :
    -1 ≤ lastF (liveL ids) k ∧ ((bestF (lastF (liveL ids) k) ids ids.length = -1 ∧ k = (liveL ids).length) ∨ (k < (liveL ids).length ∧ bestF (lastF (liveL ids) k) ids ids.length = (liveL ids).getD k 0 ∧ 0 ≤ (liveL ids).getD k 0)) := by
  have hS : ∀ {i j : Nat}, i < j → j < (liveL ids).length → (liveL ids).getD i 0 < (liveL ids).getD j 0 := fun hij hj => by
    unfold liveL at *
    exact sortI_strict (keys_nodup h) hij (by rw [sortI_length] at hj; exact hj)
  have hG : ∀ {i : Nat}, i < (liveL ids).length → (∃ j, j < ids.length ∧ ids.getD j 0 = (liveL ids).getD i 0) ∧ 0 ≤ (liveL ids).getD i 0 := fun {i} hi => by
    obtain ⟨m1, m2⟩ := live_mem.1 (getD_mem (a := liveL ids) (d := (0 : Int)) hi)
    obtain ⟨j, hj, e⟩ := List.mem_iff_getElem.1 m1
    have e2 : ids.getD j 0 = (liveL ids).getD i 0 := by rw [← e]; simp [List.getD, hj]
    refine ⟨⟨j, hj, e2⟩, ?_⟩
    have := ids_ge h hj
    omega
  have hl : -1 ≤ lastF (liveL ids) k := by
    unfold lastF
    by_cases q : k = 0
    · rw [if_pos q]; omega
    · rw [if_neg q]; have := (hG (i := k - 1) (by omega)).2; omega
  refine ⟨hl, ?_⟩
  have hin : ∀ {x : Int}, (∃ i, i < ids.length ∧ ids.getD i 0 = x) → x ≠ -1 → ∃ j, j < (liveL ids).length ∧ (liveL ids).getD j 0 = x := fun {x} ⟨i, hi, e⟩ hx => by
    have : x ∈ liveL ids := live_mem.2 ⟨by rw [← e]; exact getD_mem hi, hx⟩
    obtain ⟨j, hj, e2⟩ := List.mem_iff_getElem.1 this
    exact ⟨j, hj, by rw [← e2]; simp [List.getD, hj]⟩
  have hlo : ∀ {j : Nat}, j < k → (liveL ids).getD j 0 ≤ lastF (liveL ids) k := fun {j} hj => by
    unfold lastF
    rw [if_neg (by omega)]
    by_cases q : j = k - 1
    · rw [q]; exact Int.le_refl _
    · exact Int.le_of_lt (hS (by omega) (by omega))
  have sp := bestF_spec hl ids.length (Nat.le_refl _)
  generalize bestF (lastF (liveL ids) k) ids ids.length = B at *
  by_cases hkl : k < (liveL ids).length
  · right
    obtain ⟨⟨i, hi, e⟩, h0⟩ := hG hkl
    have hlt : lastF (liveL ids) k < (liveL ids).getD k 0 := by
      unfold lastF
      by_cases q : k = 0
      · rw [if_pos q]; omega
      · rw [if_neg q]; exact hS (by omega) hkl
    refine ⟨hkl, ?_, h0⟩
    rcases sp with ⟨_, b⟩ | ⟨a, b, c⟩
    · exact absurd (by rw [e]; exact hlt) (b i hi)
    · obtain ⟨j, hj, e2⟩ := hin a (by omega)
      have h3 := c i hi (by rw [e]; exact hlt)
      by_cases q : j < k
      · have := hlo q; omega
      · by_cases q2 : j = k
        · rw [← e2, q2]
        · have := hS (i := k) (j := j) (by omega) hj
          omega
  · left
    rcases sp with ⟨a, b⟩ | ⟨a, b, c⟩
    · exact ⟨a, by omega⟩
    · obtain ⟨j, hj, e2⟩ := hin a (by omega)
      have := hlo (j := j) (by omega)
      omega
theorem live_len {ids : List Int} : (liveL ids).length ≤ ids.length := by
  unfold liveL; rw [sortI_length]; exact List.length_filter_le _ _

theorem refSLive_fun (dim : Int) (ids : List Int) (vecs : List (List Int)) : Fun Try.prog 47 [slotsD dim ids vecs] fun r => r = .tup [.lst (ints .i64 (if slotsOk dim ids vecs then liveL ids else [])), .v (.int .i64 (slotsErr dim ids vecs))] := by
  have hc := refSCheck_fun dim ids vecs
  by_cases h : slotsOk dim ids vecs
  · rw [show slotsErr dim ids vecs = 0 from if_pos h] at hc
    rw [if_pos h, show slotsErr dim ids vecs = 0 from if_pos h]
    have hp := fun k => live_pick (k := k) h
    have hll := live_len (ids := ids)
    have h256 := h.2.1.2
    generalize liveL ids = L at *
    refine Fun.of_awpI Try.func47 rfl cal47 Try.ntmps47 (by simp) fun hwf => ?_
    simp only [D.wfs, D.wf, ints_length, ints_wfs, rows_length, rows_wfs, capMax, and_true, true_and] at hwf
    repeat' (first | simp only [go_sem, bne_self_eq_false, Ret_eq Try.results47] | (refine opCallI_rd (by simp only [go_sem, bne_self_eq_false, Ret_eq Try.results47]; first | done | rfl) (hc) (by rintro _ rfl; rfl) ?_; rintro _ rfl) | fail)
    refine awpI_for ids.length (fun k => k ≤ L.length) (fun k => [(4, .ref 52 k), (15, .v (.int .i64 k))]) (fun k => [(52, ⟨2, 1, ints .i64 (L.take k)⟩)]) [1, 14] [1] _ (Weak.adopt (j := 4) 52 2 1 (by simp only [go_sem, Ret_eq Try.results47]) (by simp only [go_sem, Ret_eq Try.results47]) (by decide)) (Nat.zero_le _) ?_ ?_ ?_
    · simp only [go_sem, Ret_eq Try.results47]
    · simp only [go_sem, List.take_zero, ints_nil, Ret_eq Try.results47]
    · intro k s hk hQ hs
      simp only [go_sem, Ret_eq Try.results47] at hs
      obtain ⟨p1, p2⟩ := hp k hQ
      have hlk : (L.take k).length = k := by rw [List.length_take]; omega
      by_cases hka : k < ids.length
      · have hloop : ∀ s1, s1.n = s.n → Slots s1 [(1, .adr 1 0 0), (4, .ref 52 k), (5, .v (.int .i64 (lastF L k))), (14, .v (.int .i64 ids.length)), (15, .v (.int .i64 k))] → True := fun _ _ _ => trivial
        clear hloop
        have go : lastF L k = if k = 0 then -1 else L.getD (k - 1) 0 := rfl
        by_cases hk0 : k = 0
        · rw [if_pos hk0] at go
          subst hk0
          repeat' (first | simp only [go_sem, hs, Ret_eq Try.results47] | simp (disch := omega) only [arith, IntKind.bits, capMax, fill_len, elt_fill] | fail)
          refine awpI_for ids.length (fun _ => True) (fun j => [(6, .v (.int .i64 (bestF (-1) ids j))), (29, .v (.int .i64 j))]) (fun _ => []) [1, 4, 5, 14, 15, 27, 28] [1, 52] _ (Weak.refl _) trivial ?_ ?_ ?_
          · simp only [go_sem, hs, bestF, Ret_eq Try.results47]
          · simp only [go_sem, Ret_eq Try.results47]
          · intro j s2 hj _ hs2
            simp only [go_sem, hs, Ret_eq Try.results47] at hs2
            by_cases hja : j < ids.length
            · have hb : bestF (-1) ids (j + 1) = if -1 < ids.getD j 0 ∧ (bestF (-1) ids j < 0 ∨ ids.getD j 0 < bestF (-1) ids j) then ids.getD j 0 else bestF (-1) ids j := rfl
              by_cases q1 : -1 < ids.getD j 0
              · by_cases q2 : bestF (-1) ids j < 0
                · rw [if_pos ⟨q1, .inl q2⟩] at hb
                  repeat' (first | simp only [go_sem, hs, hs2, hb, Ret_eq Try.results47] | simp (disch := omega) only [arith, IntKind.bits, capMax, fill_len, elt_fill] | (refine Again.up (by omega) ?_ ?_) | fail)
                · by_cases q3 : ids.getD j 0 < bestF (-1) ids j
                  · rw [if_pos ⟨q1, .inr q3⟩] at hb
                    repeat' (first | simp only [go_sem, hs, hs2, hb, Ret_eq Try.results47] | simp (disch := omega) only [arith, IntKind.bits, capMax, fill_len, elt_fill] | (refine Again.up (by omega) ?_ ?_) | fail)
                  · rw [if_neg (fun z => z.2.elim q2 q3)] at hb
                    repeat' (first | simp only [go_sem, hs, hs2, hb, Ret_eq Try.results47] | simp (disch := omega) only [arith, IntKind.bits, capMax, fill_len, elt_fill] | (refine Again.up (by omega) ?_ ?_) | fail)
              · rw [if_neg (fun z => q1 z.1)] at hb
                repeat' (first | simp only [go_sem, hs, hs2, hb, Ret_eq Try.results47] | simp (disch := omega) only [arith, IntKind.bits, capMax, fill_len, elt_fill] | (refine Again.up (by omega) ?_ ?_) | fail)
            · obtain rfl : j = ids.length := by omega
              rw [go] at p2
              rcases p2 with ⟨b1, b2⟩ | ⟨b1, b2, b3⟩
              · rw [b1] at hs2
                have hL0 : L = [] := List.length_eq_zero_iff.1 b2.symm
                subst hL0
                repeat' (first | simp only [go_sem, hs, hs2, hlk, frzStep, Ret_eq Try.results47] | simp (disch := omega) only [arith, IntKind.bits, capMax, fill_len, elt_fill] | fail)
              · have e := take_snoc (a := L) (d := (0 : Int)) (k := 0) b1
                rw [b2] at hs2
                repeat' (first | simp only [go_sem, hs, hs2, hlk, e, List.length_append, List.length_cons, List.length_nil, Ret_eq Try.results47] | simp (disch := omega) only [arith, IntKind.bits, capMax, fill_len, elt_fill] | (refine Again.up (by omega) ?_ ?_) | fail)
                all_goals first | omega | exact ⟨rfl, rfl⟩ | skip
        · rw [if_neg hk0] at go
          have hgt : (L.take k).getD (k - 1) 0 = L.getD (k - 1) 0 := by simp [List.getD, List.getElem?_take_of_lt (show k - 1 < k by omega)]
          have hk1 : ((k : Int) - 1) = ((k - 1 : Nat) : Int) := by omega
          repeat' (first | simp only [go_sem, hs, hlk, hk1, hgt, Ret_eq Try.results47] | simp (disch := omega) only [arith, IntKind.bits, capMax, fill_len, elt_fill] | fail)
          rw [← go]
          refine awpI_for ids.length (fun _ => True) (fun j => [(6, .v (.int .i64 (bestF (lastF L k) ids j))), (29, .v (.int .i64 j))]) (fun _ => []) [1, 4, 5, 14, 15, 27, 28] [1, 52] _ (Weak.refl _) trivial ?_ ?_ ?_
          · simp only [go_sem, hs, bestF, Ret_eq Try.results47]
          · simp only [go_sem, Ret_eq Try.results47]
          · intro j s2 hj _ hs2
            simp only [go_sem, hs, Ret_eq Try.results47] at hs2
            by_cases hja : j < ids.length
            · have hb : bestF (lastF L k) ids (j + 1) = if lastF L k < ids.getD j 0 ∧ (bestF (lastF L k) ids j < 0 ∨ ids.getD j 0 < bestF (lastF L k) ids j) then ids.getD j 0 else bestF (lastF L k) ids j := rfl
              by_cases q1 : lastF L k < ids.getD j 0
              · by_cases q2 : bestF (lastF L k) ids j < 0
                · rw [if_pos ⟨q1, .inl q2⟩] at hb
                  repeat' (first | simp only [go_sem, hs, hs2, hb, Ret_eq Try.results47] | simp (disch := omega) only [arith, IntKind.bits, capMax, fill_len, elt_fill] | (refine Again.up (by omega) ?_ ?_) | fail)
                · by_cases q3 : ids.getD j 0 < bestF (lastF L k) ids j
                  · rw [if_pos ⟨q1, .inr q3⟩] at hb
                    repeat' (first | simp only [go_sem, hs, hs2, hb, Ret_eq Try.results47] | simp (disch := omega) only [arith, IntKind.bits, capMax, fill_len, elt_fill] | (refine Again.up (by omega) ?_ ?_) | fail)
                  · rw [if_neg (fun z => z.2.elim q2 q3)] at hb
                    repeat' (first | simp only [go_sem, hs, hs2, hb, Ret_eq Try.results47] | simp (disch := omega) only [arith, IntKind.bits, capMax, fill_len, elt_fill] | (refine Again.up (by omega) ?_ ?_) | fail)
              · rw [if_neg (fun z => q1 z.1)] at hb
                repeat' (first | simp only [go_sem, hs, hs2, hb, Ret_eq Try.results47] | simp (disch := omega) only [arith, IntKind.bits, capMax, fill_len, elt_fill] | (refine Again.up (by omega) ?_ ?_) | fail)
            · obtain rfl : j = ids.length := by omega
              rcases p2 with ⟨b1, b2⟩ | ⟨b1, b2, b3⟩
              · rw [b1] at hs2
                have ht : L.take k = L := List.take_of_length_le (by omega)
                have hLk : L.length = k := b2.symm
                repeat' (first | simp only [go_sem, hs, hs2, hlk, ht, hLk, Ret_eq Try.results47] | simp (disch := omega) only [arith, IntKind.bits, capMax, fill_len, elt_fill] | fail)
              · have e := take_snoc (a := L) (d := (0 : Int)) (k := k) b1
                rw [b2] at hs2
                repeat' (first | simp only [go_sem, hs, hs2, hlk, e, List.length_append, List.length_cons, List.length_nil, Ret_eq Try.results47] | simp (disch := omega) only [arith, IntKind.bits, capMax, fill_len, elt_fill] | (refine Again.up (by omega) ?_ ?_) | fail)
                all_goals first | omega | exact ⟨rfl, rfl⟩ | skip
      · obtain rfl : k = ids.length := by omega
        have ht : L.take ids.length = L := List.take_of_length_le (by omega)
        have hLk : L.length = ids.length := by omega
        repeat' (first | simp only [go_sem, hs, ht, hLk, Ret_eq Try.results47] | simp (disch := omega) only [arith, IntKind.bits, capMax, fill_len, elt_fill] | fail)
  · rw [show slotsErr dim ids vecs = 1 from if_neg h] at hc
    rw [if_neg h, show slotsErr dim ids vecs = 1 from if_neg h]
    refine Fun.of_awpI Try.func47 rfl cal47 Try.ntmps47 (by simp) fun hwf => ?_
    simp only [D.wfs, D.wf, ints_length, ints_wfs, rows_length, rows_wfs, capMax, and_true, true_and] at hwf
    repeat' (first | simp only [go_sem, ints_nil, Ret_eq Try.results47] | (refine opCallI_rd (by simp only [go_sem, ints_nil, Ret_eq Try.results47]; first | done | rfl) (hc) (by rintro _ rfl; rfl) ?_; rintro _ rfl) | fail)
    all_goals first | done | rfl

theorem refSSame_fun (d : Int) (a : List Int) (v : List (List Int)) (d2 : Int) (a2 : List Int) (v2 : List (List Int)) : Fun Try.prog 48 [slotsD d a v, slotsD d2 a2 v2] fun r => r = .v (.bool (decide (d = d2 ∧ a = a2 ∧ v = v2))) := by
  have hsi := sameInts_fun a a2
  refine Fun.of_awpI Try.func48 rfl cal48 Try.ntmps48 (by simp) fun hwf => ?_
  simp only [D.wfs, D.wf, ints_length, ints_wfs, rows_length, rows_wfs, capMax, and_true, true_and] at hwf
  by_cases g1 : d = d2
  · have b1 : (d != d2) = false := by rw [g1]; exact bne_self_eq_false _
    by_cases g2 : a = a2
    · rw [decide_eq_true g2] at hsi
      by_cases hl : v.length = v2.length
      · have hlb : ((v.length : Int) != (v2.length : Int)) = false := by rw [hl]; exact bne_self_eq_false _
        repeat' (first | simp only [go_sem, b1, hlb, Ret_eq Try.results48] | (refine opCallI_rd (by simp only [go_sem, b1, hlb, Ret_eq Try.results48]; first | done | rfl) (hsi) (by rintro _ rfl; rfl) ?_; rintro _ rfl) | fail)
        refine awpI_for v.length (fun k => v.take k = v2.take k) (fun k => [(31, .v (.int .i64 k))]) (fun _ => []) [2, 3, 30] [2, 3] _ (Weak.refl _) (by simp) ?_ ?_ ?_
        · simp only [go_sem, Ret_eq Try.results48]
        · simp only [go_sem, Ret_eq Try.results48]
        · intro k s hk hQ hs
          simp only [go_sem, Ret_eq Try.results48] at hs
          by_cases hka : k < v.length
          · have hka2 : k < v2.length := by omega
            have e1 := take_snoc (a := v) (d := ([] : List Int)) hka
            have e2 := take_snoc (a := v2) (d := ([] : List Int)) hka2
            have hs1 := refSame16_fun (v.getD k []) (v2.getD k [])
            by_cases hv : v.getD k [] = v2.getD k []
            · rw [decide_eq_true hv] at hs1
              repeat' (first | simp only [go_sem, hs, Ret_eq Try.results48] | simp (disch := omega) only [arith, IntKind.bits, capMax, fill_len, elt_fill] | (refine awpI_draw2 (id := 6) (.one false 0 (.one false 1 (.one false 2 (.one false 3 (.one false 4 (.one false 5 (.one false 6 (.one false 7 (.one false 8 (.one false 9 (.only 10 (.one false 11 .done)))))))))))) mixed (by decide +kernel) (by decide +kernel) ?_) | (refine Again.up (by omega) ?_ ?_) | (refine opCallI_rd (by simp only [go_sem, hs, Ret_eq Try.results48]; first | done | rfl) (hs1) (by rintro _ rfl; rfl) ?_; rintro _ rfl) | fail)
              all_goals rw [e1, e2, hQ, hv]
            · rw [decide_eq_false hv] at hs1
              rw [decide_eq_false (fun q : d = d2 ∧ a = a2 ∧ v = v2 => hv (by rw [q.2.2]))]
              repeat' (first | simp only [go_sem, hs, Ret_eq Try.results48] | simp (disch := omega) only [arith, IntKind.bits, capMax, fill_len, elt_fill] | (refine awpI_draw2 (id := 6) (.one false 0 (.one false 1 (.one false 2 (.one false 3 (.one false 4 (.one false 5 (.one false 6 (.one false 7 (.one false 8 (.one false 9 (.only 10 (.one false 11 .done)))))))))))) mixed (by decide +kernel) (by decide +kernel) ?_) | (refine opCallI_rd (by simp only [go_sem, hs, Ret_eq Try.results48]; first | done | rfl) (hs1) (by rintro _ rfl; rfl) ?_; rintro _ rfl) | fail)
          · obtain rfl : k = v.length := by omega
            have hQ3 : v = v2 := by
              rw [List.take_length, hl, List.take_length] at hQ; exact hQ
            rw [decide_eq_true (show d = d2 ∧ a = a2 ∧ v = v2 from ⟨g1, g2, hQ3⟩)]
            repeat' (first | simp only [go_sem, hs, Ret_eq Try.results48] | simp (disch := omega) only [arith, IntKind.bits, capMax, fill_len, elt_fill] | fail)
      · have hlb : ((v.length : Int) != (v2.length : Int)) = true := by rw [bne, beq_eq_false_iff_ne.2 (by omega)]; rfl
        rw [decide_eq_false (fun q : d = d2 ∧ a = a2 ∧ v = v2 => hl (by rw [q.2.2]))]
        repeat' (first | simp only [go_sem, b1, hlb, Ret_eq Try.results48] | (refine opCallI_rd (by simp only [go_sem, b1, hlb, Ret_eq Try.results48]; first | done | rfl) (hsi) (by rintro _ rfl; rfl) ?_; rintro _ rfl) | fail)
    · rw [decide_eq_false g2] at hsi
      rw [decide_eq_false (fun q : d = d2 ∧ a = a2 ∧ v = v2 => g2 q.2.1)]
      repeat' (first | simp only [go_sem, b1, Ret_eq Try.results48] | (refine opCallI_rd (by simp only [go_sem, b1, Ret_eq Try.results48]; first | done | rfl) (hsi) (by rintro _ rfl; rfl) ?_; rintro _ rfl) | fail)
  · have b1 : (d != d2) = true := by rw [bne, beq_eq_false_iff_ne.2 g1]; rfl
    rw [decide_eq_false (fun q : d = d2 ∧ a = a2 ∧ v = v2 => g1 q.1)]
    repeat' (first | simp only [go_sem, b1, Ret_eq Try.results48] | fail)
end Go.Proofs.Ytpkampecmlpfmaa.T

end
section
set_option linter.unusedSimpArgs false
set_option linter.unusedVariables false
/- Ways, plainly. -/
namespace Go.Proofs.Ytpkampecmlpfmaa.T
open Go Go.VL Go.Proofs
end Go.Proofs.Ytpkampecmlpfmaa.T

end
section
set_option linter.unusedSimpArgs false
set_option linter.unusedVariables false
/- Vectors turned, plainly. -/
namespace Go.Proofs.Ytpkampecmlpfmaa.T
open Go Go.VL Go.Proofs
-- how far apart
-- cut
end Go.Proofs.Ytpkampecmlpfmaa.T

end
section
set_option linter.unusedSimpArgs false
set_option linter.unusedVariables false
/- Codes and boxes, plainly. -/
namespace Go.Proofs.Ytpkampecmlpfmaa.T
open Go Go.VL Go.Proofs
end Go.Proofs.Ytpkampecmlpfmaa.T

end
section
set_option linter.unusedSimpArgs false
set_option linter.unusedVariables false
/- How far a code may be: places, walked. -/
namespace Go.Proofs.Ytpkampecmlpfmaa.T
open Go Go.VL Go.Proofs
set_option maxRecDepth 100000
set_option maxHeartbeats 4000000
abbrev Place := Int × Int × Int
def placeD (p : Place) : D := .agg [.v (.int .i64 p.1), .v (.int .i64 p.2.1), .v (.int .i64 p.2.2)]
instance : PlainD placeD 3 := ⟨fun _ => rfl, fun _ => rfl, fun _ => rfl, fun _ => rfl⟩
def far (x lo hi : Int) : Int := mx (mx (lo - x) (x - hi)) 0
end Go.Proofs.Ytpkampecmlpfmaa.T

end
section
set_option linter.unusedSimpArgs false
set_option linter.unusedVariables false
/- Places of a vector at a code's box, walked. -/
namespace Go.Proofs.Ytpkampecmlpfmaa.T
open Go Go.VL Go.Proofs
set_option maxRecDepth 100000
set_option maxHeartbeats 4000000
end Go.Proofs.Ytpkampecmlpfmaa.T

end
section
set_option linter.unusedSimpArgs false
set_option linter.unusedVariables false
/- The least and the greatest distance, walked. -/
namespace Go.Proofs.Ytpkampecmlpfmaa.T
open Go Go.VL Go.Proofs
set_option maxRecDepth 100000
set_option maxHeartbeats 4000000
end Go.Proofs.Ytpkampecmlpfmaa.T

end
section
set_option linter.unusedSimpArgs false
set_option linter.unusedVariables false
/- slices.Repeat, of one number, walked. -/
namespace Go.Proofs.Ytpkampecmlpfmaa.T
open Go Go.VL Go.Proofs
set_option maxRecDepth 100000
set_option maxHeartbeats 4000000
theorem and32 {y : Int} (h : 0 ≤ y ∧ y < 18446744073709551616) : abits .and .u64 y 4294967295 = y % 4294967296 := by
  obtain ⟨n, rfl⟩ := Int.eq_ofNat_of_zero_le h.1
  have hn : n < 18446744073709551616 := by omega
  simp only [abits]
  have e1 : BitVec.ofInt IntKind.u64.bits (n : Int) = BitVec.ofNat 64 n := by simp [IntKind.bits]
  have e2 : BitVec.ofInt IntKind.u64.bits 4294967295 = BitVec.ofNat 64 4294967295 := by rfl
  rw [e1, e2]
  show IntKind.u64.wrap ((BitVec.ofNat 64 n &&& BitVec.ofNat 64 4294967295).toNat : Int) = _
  rw [BitVec.toNat_and, BitVec.toNat_ofNat, BitVec.toNat_ofNat, Nat.mod_eq_of_lt (by omega)]
  have : n &&& (4294967295 % 2 ^ 64) = n % 4294967296 := by
    have := Nat.and_two_pow_sub_one_eq_mod n 32
    simpa using this
  rw [this]
  have : n % 4294967296 < 4294967296 := Nat.mod_lt _ (by decide)
  rw [IntKind.wrap_u64]
  omega

theorem mul64_fun (x y : Int) (hx : 0 ≤ x ∧ x < 2147483648) (hy : 0 ≤ y ∧ y < 2147483648) : Fun Try.prog 174 [.v (.int .u64 x), .v (.int .u64 y)] fun r => r = .tup [.v (.int .u64 0), .v (.int .u64 (x * y))] := by
  refine Fun.of_awpI Try.func174 rfl cal174 Try.ntmps174 (by simp) fun hwf => ?_
  simp only [D.wfs, D.wf, ints_length, ints_wfs, rows_length, rows_wfs, capMax, and_true, true_and] at hwf
  have h1 : 0 ≤ x * y := Int.mul_nonneg hx.1 hy.1
  have h2 : x * y ≤ 2147483648 * 2147483648 := Int.mul_le_mul (by omega) (by omega) hy.1 (by omega)
  have ax := and32 (y := x) (by omega)
  have ay := and32 (y := y) (by omega)
  have mx : x % 4294967296 = x := by omega
  have my : y % 4294967296 = y := by omega
  have sx : x.fdiv 4294967296 = 0 := by rw [Int.fdiv_eq_ediv_of_nonneg _ (by decide)]; omega
  have sy : y.fdiv 4294967296 = 0 := by rw [Int.fdiv_eq_ediv_of_nonneg _ (by decide)]; omega
  have hp : 0 ≤ (x * y).fdiv 4294967296 ∧ (x * y).fdiv 4294967296 < 2147483648 := by rw [Int.fdiv_eq_ediv_of_nonneg _ (by decide)]; omega
  have az := and32 (y := (x * y).fdiv 4294967296) (by omega)
  have mz : (x * y).fdiv 4294967296 % 4294967296 = (x * y).fdiv 4294967296 := by omega
  have sz : ((x * y).fdiv 4294967296).fdiv 4294967296 = 0 := by rw [Int.fdiv_eq_ediv_of_nonneg _ (by decide)]; omega
  repeat' (first | simp only [go_sem, ax, ay, mx, my, sx, sy, az, mz, sz, Int.zero_mul, Int.mul_zero, Int.zero_add, Int.add_zero, Ret_eq Try.results174] | simp (disch := omega) only [arith, IntKind.bits, capMax, fill_len, elt_fill] | fail)

theorem mul_fun (x y : Int) (hx : 0 ≤ x ∧ x < 2147483648) (hy : 0 ≤ y ∧ y < 2147483648) : Fun Try.prog 146 [.v (.int .u64 x), .v (.int .u64 y)] fun r => r = .tup [.v (.int .u64 0), .v (.int .u64 (x * y))] := by
  refine Fun.of_awpI Try.func146 rfl cal146 Try.ntmps146 (by simp) fun hwf => ?_
  simp only [D.wfs, D.wf, ints_length, ints_wfs, rows_length, rows_wfs, capMax, and_true, true_and] at hwf
  repeat' (first | simp only [go_sem, Ret_eq Try.results146] | (refine opCallI_rd (by simp only [go_sem, Ret_eq Try.results146]; first | done | rfl) (mul64_fun x y hx hy) (by rintro _ rfl; rfl) ?_; rintro _ rfl) | fail)
def gr (n k : Nat) : Nat := Nat.min (2 ^ k) n
def rep (a : Int) (n m : Nat) : List Int := List.replicate m a ++ List.replicate (n - m) 0
theorem gr_zero {n : Nat} (h : 1 ≤ n) : gr n 0 = 1 := by unfold gr; exact Nat.min_eq_left (by simpa using h)
theorem gr_le {n k : Nat} : gr n k ≤ n := Nat.min_le_right _ _
theorem gr_pos {n k : Nat} (h : 1 ≤ n) : 1 ≤ gr n k := by
  have := Nat.one_le_two_pow (n := k)
  unfold gr
  rw [show Nat.min (2 ^ k) n = min (2 ^ k) n from rfl]
  omega
theorem gr_lt {n k : Nat} (h : gr n k < n) : k < n := by
  unfold gr at h
  rw [show Nat.min (2 ^ k) n = min (2 ^ k) n from rfl] at h
  have := Nat.lt_two_pow_self (n := k)
  omega
theorem gr_succ {n k : Nat} : gr n (k + 1) = gr n k + Nat.min (gr n k) (n - gr n k) := by
  unfold gr
  simp only [show ∀ a b : Nat, Nat.min a b = min a b from fun _ _ => rfl, Nat.pow_succ]
  omega
theorem rep_length {a : Int} {n m : Nat} (h : m ≤ n) : (rep a n m).length = n := by simp [rep]; omega
theorem rep_take {a : Int} {n m : Nat} : (rep a n m).take m = List.replicate m a := by simp [rep]
theorem rep_all {a : Int} {n : Nat} : rep a n n = List.replicate n a := by simp [rep]
theorem rep_step {a : Int} {n m : Nat} (h : m ≤ n) : List.replicate m a ++ (List.replicate m a).take (n - m) ++ (rep a n m).drop (m + Nat.min m (n - m)) = rep a n (m + Nat.min m (n - m)) := by
  simp only [show ∀ a b : Nat, Nat.min a b = min a b from fun _ _ => rfl]
  unfold rep
  apply List.ext_getElem?
  intro i
  simp only [List.getElem?_append, List.getElem?_take, List.getElem?_drop, List.length_append, List.length_take, List.length_replicate, List.getElem?_replicate]
  grind
theorem rep_first {a : Int} {n : Nat} (h : 1 ≤ n) : a :: (List.replicate n (0 : Int)).drop 1 = rep a n 1 := by
  obtain ⟨m, rfl⟩ : ∃ m, n = m + 1 := ⟨n - 1, by omega⟩
  simp [rep, List.replicate_succ]

theorem repeat64_fun (a : Int) (n : Nat) (h : 1 ≤ n ∧ n ≤ 65536) : FunO Try.prog 104 [.lst (ints .i64 [a]), .v (.int .i64 n)] fun r o => r = .ref 0 n ∧ o = some ⟨2, 1, ints .i64 (List.replicate n a)⟩ := by
  refine FunO.of_awpI Try.func104 rfl cal104 Try.ntmps104 (by simp) fun hwf => ?_
  simp only [D.wfs, D.wf, ints_length, ints_wfs, rows_length, rows_wfs, capMax, and_true, true_and] at hwf
  have h1n : Nat.min 1 n = 1 := Nat.min_eq_left h.1
  have ht1 : [a].take n = [a] := List.take_of_length_le (by simpa using h.1)
  have hf := rep_first (a := a) h.1
  have hg1 := gr_zero h.1
  repeat' (first | simp only [go_sem, Int.one_mul, Int.toNat_natCast, List.length_replicate, Ret_eq Try.results104] | simp (disch := omega) only [arith, IntKind.bits, capMax, fill_len, elt_fill] | (refine opCallI_rd (by simp only [go_sem, Int.one_mul, Int.toNat_natCast, List.length_replicate, Ret_eq Try.results104]; first | done | rfl) (mul_fun 1 n (by omega) (by omega)) (by rintro _ rfl; rfl) ?_; rintro _ rfl) | fail)
  refine awpI_for n (fun k => True) (fun k => [(8, .v (.int .i64 (gr n k)))]) (fun k => [(30, ⟨2, 1, ints .i64 (rep a n (gr n k))⟩)]) [7] [] _ (Weak.refl _) trivial ?_ ?_ ?_
  · simp only [go_sem, hg1, h1n, Ret_eq Try.results104]
  · simp only [go_sem, hg1, ht1, List.length_replicate, List.singleton_append, hf, Ret_eq Try.results104]
  · intro k s hk _ hs
    simp only [go_sem, Ret_eq Try.results104] at hs
    have g1 := gr_le (n := n) (k := k)
    have g2 := gr_pos (k := k) h.1
    have g3 := gr_lt (n := n) (k := k)
    have g4 := gr_succ (n := n) (k := k)
    generalize hm : gr n k = m at *
    have e1 := rep_length (a := a) g1
    have e2 := rep_take (a := a) (n := n) (m := m)
    have e3 := rep_step (a := a) g1
    by_cases hka : m < n
    · have g5 : (n : Int) - m = ((n - m : Nat) : Int) := by omega
      repeat' (first | simp only [go_sem, hs, g1, g5, e1, e2, e3, List.length_replicate, List.length_take, List.drop_zero, Int.toNat_natCast, Ret_eq Try.results104] | simp (disch := omega) only [arith, IntKind.bits, capMax, fill_len, elt_fill] | (refine awpI_draw2 (id := 9) (.one false 1 (.one false 2 (.one false 3 (.one false 4 (.one false 5 (.one false 6 (.one true 0 (.only 7 (.one false 8 (.one false 9 .done)))))))))) mixed (by decide +kernel) (by decide +kernel) ?_) | (refine Again.up (by omega) ?_ ?_) | fail)
      have g6 : Nat.min m (n - m) ≤ m := Nat.min_le_left _ _
      refine ⟨?_, ?_⟩
      · rw [g4, IntKind.wrap_i64, Int.natCast_add]; omega
      · rw [g4, ← e3, List.append_assoc, show min (n - m) m = Nat.min m (n - m) from Nat.min_comm _ _]
    · obtain rfl : m = n := by omega
      repeat' (first | simp only [go_sem, hs, rep_all, Ret_eq Try.results104] | simp (disch := omega) only [arith, IntKind.bits, capMax, fill_len, elt_fill] | refine RetO_calc Try.results104 ?_ | fail)
end Go.Proofs.Ytpkampecmlpfmaa.T

end
section
set_option linter.unusedSimpArgs false
set_option linter.unusedVariables false
/- New slots, and the chapter's example, walked. -/
namespace Go.Proofs.Ytpkampecmlpfmaa.T
open Go Go.VL Go.Proofs
set_option maxRecDepth 100000
set_option maxHeartbeats 4000000

theorem slotsNew_fun (n : Nat) (dim : Int) (h : 1 ≤ n ∧ n ≤ 256) (hd : 1 ≤ dim ∧ dim ≤ 64) : Fun Try.prog 40 [.v (.int .i64 n), .v (.int .i64 dim)] fun r => r = .tup [slotsD dim (List.replicate n (-1)) (List.replicate n []), .v (.int .i64 0)] := by
  have w1 := within_fun n 256
  have w2 := within_fun dim 64
  rw [decide_eq_true (by omega)] at w1 w2
  have hr := repeat64_fun (-1) n (by omega)
  simp only [ints_cons, ints_nil] at hr
  refine Fun.of_awpI Try.func40 rfl cal40 Try.ntmps40 (by simp) fun hwf => ?_
  simp only [D.wfs, D.wf, ints_length, ints_wfs, rows_length, rows_wfs, capMax, and_true, true_and] at hwf
  repeat' (first | simp only [go_sem, nil_frzs, nil_kills, nil_nrms, nil_noRefs, nil_width1, ints_length, List.length_replicate, Ret_eq Try.results40] | simp (disch := omega) only [arith, IntKind.bits, capMax, fill_len, elt_fill] | (refine awpI_draw2 (id := 3) (.one true 0 (.one true 2 (.one true 4 (.two 1 5 (.two 3 5 (.only 5 (.one false 6 (.only 7 (.one false 8 .done)))) (.only 3 (.one false 6 (.only 7 (.one false 8 .done))))) (.only 1 (.only 3 (.one false 6 (.only 7 (.one false 8 .done))))))))) mixed (by decide +kernel) (by decide +kernel) ?_) | (refine sch2I_two ?_ ?_) | (refine opCallI_rd (by simp only [go_sem, nil_frzs, nil_kills, nil_nrms, nil_noRefs, nil_width1, ints_length, List.length_replicate, Ret_eq Try.results40]; first | done | rfl) (w1) (by rintro _ rfl; rfl) ?_; rintro _ rfl) | (refine opCallI_rd (by simp only [go_sem, nil_frzs, nil_kills, nil_nrms, nil_noRefs, nil_width1, ints_length, List.length_replicate, Ret_eq Try.results40]; first | done | rfl) (w2) (by rintro _ rfl; rfl) ?_; rintro _ rfl) | (refine opCallI_ownGv (by simp only [go_sem, nil_frzs, nil_kills, nil_nrms, nil_noRefs, nil_width1, ints_length, List.length_replicate, Ret_eq Try.results40]; first | done | rfl) (hr) ?_; rintro _ _ ⟨rfl, rfl⟩) | fail)
  all_goals simp only [List.take_replicate, Nat.min_self]

theorem slotsNew_bad (n dim : Int) (h : ¬ ((1 ≤ n ∧ n ≤ 256) ∧ 1 ≤ dim ∧ dim ≤ 64)) : Fun Try.prog 40 [.v (.int .i64 n), .v (.int .i64 dim)] fun r => r = .tup [slotsD 0 [] [], .v (.int .i64 1)] := by
  have w1 := within_fun n 256
  have w2 := within_fun dim 64
  by_cases g : 1 ≤ n ∧ n ≤ 256
  · rw [decide_eq_true g] at w1
    rw [decide_eq_false (fun q => h ⟨g, q⟩)] at w2
    refine Fun.of_awpI Try.func40 rfl cal40 Try.ntmps40 (by simp) fun hwf => ?_
    simp only [D.wfs, D.wf, ints_length, ints_wfs, rows_length, rows_wfs, capMax, and_true, true_and] at hwf
    repeat' (first | simp only [go_sem, ints_nil, rows_nil, Ret_eq Try.results40] | (refine opCallI_rd (by simp only [go_sem, ints_nil, rows_nil, Ret_eq Try.results40]; first | done | rfl) (w1) (by rintro _ rfl; rfl) ?_; rintro _ rfl) | (refine opCallI_rd (by simp only [go_sem, ints_nil, rows_nil, Ret_eq Try.results40]; first | done | rfl) (w2) (by rintro _ rfl; rfl) ?_; rintro _ rfl) | fail)
    all_goals rfl
  · rw [decide_eq_false g] at w1
    refine Fun.of_awpI Try.func40 rfl cal40 Try.ntmps40 (by simp) fun hwf => ?_
    simp only [D.wfs, D.wf, ints_length, ints_wfs, rows_length, rows_wfs, capMax, and_true, true_and] at hwf
    repeat' (first | simp only [go_sem, ints_nil, rows_nil, Ret_eq Try.results40] | (refine opCallI_rd (by simp only [go_sem, ints_nil, rows_nil, Ret_eq Try.results40]; first | done | rfl) (w1) (by rintro _ rfl; rfl) ?_; rintro _ rfl) | fail)
    all_goals rfl

theorem slotsLive_fun : Fun Try.prog 31 [] fun r => r = .v (.bool true) := by
  have h0 := slotsNew_fun 2 1 (by decide) (by decide)
  have p1 := slotsPut_fun 1 [-1, -1] [[], []] 7 [1] (by decide) (by decide)
  rw [show putE 1 [-1, -1] [[], []] 7 [1] = 0 by decide +kernel, show putI 1 [-1, -1] [[], []] 7 [1] = 0 by decide +kernel] at p1
  have p2 := slotsPut_fun 1 [7, -1] [[1], []] 3 [2] (by decide) (by decide)
  rw [show putE 1 [7, -1] [[1], []] 3 [2] = 0 by decide +kernel, show putI 1 [7, -1] [[1], []] 3 [2] = 1 by decide +kernel] at p2
  have p3 := slotsDel_fun 1 [7, 3] [[1], [2]] 7 (by decide)
  rw [show findE 1 [7, 3] [[1], [2]] 7 = 0 by decide +kernel, show findI 1 [7, 3] [[1], [2]] 7 = 0 by decide +kernel] at p3
  have p4 := slotsPut_fun 1 [-1, 3] [[], [2]] 9 [4] (by decide) (by decide)
  rw [show putE 1 [-1, 3] [[], [2]] 9 [4] = 0 by decide +kernel, show putI 1 [-1, 3] [[], [2]] 9 [4] = 0 by decide +kernel] at p4
  have hs := sameInts_fun [9, 3] [9, 3]
  rw [decide_eq_true rfl] at hs
  simp only [if_true, Int.toNat_zero, Int.toNat_one, List.set, List.replicate, slotsD, ints_cons, ints_nil, rows_cons, rows_nil] at h0 p1 p2 p3 p4 hs
  refine Fun.of_awpI Try.func31 rfl cal31 Try.ntmps31 (by simp) fun hwf => ?_
  simp only [D.wfs, D.wf, ints_length, ints_wfs, rows_length, rows_wfs, capMax, and_true, true_and] at hwf
  repeat' (first | simp only [go_sem, beq_self_eq_true, ints_cons, ints_nil, Ret_eq Try.results31] | (refine opCallI_gv (by simp only [go_sem, beq_self_eq_true, ints_cons, ints_nil, Ret_eq Try.results31]; first | done | rfl) (h0) ?_; rintro _ rfl) | (refine opCallI_gv (by simp only [go_sem, beq_self_eq_true, ints_cons, ints_nil, Ret_eq Try.results31]; first | done | rfl) (p1) ?_; rintro _ rfl) | (refine opCallI_gv (by simp only [go_sem, beq_self_eq_true, ints_cons, ints_nil, Ret_eq Try.results31]; first | done | rfl) (p2) ?_; rintro _ rfl) | (refine opCallI_gv (by simp only [go_sem, beq_self_eq_true, ints_cons, ints_nil, Ret_eq Try.results31]; first | done | rfl) (p3) ?_; rintro _ rfl) | (refine opCallI_gv (by simp only [go_sem, beq_self_eq_true, ints_cons, ints_nil, Ret_eq Try.results31]; first | done | rfl) (p4) ?_; rintro _ rfl) | (refine opCallI_rd (by simp only [go_sem, beq_self_eq_true, ints_cons, ints_nil, Ret_eq Try.results31]; first | done | rfl) (hs) (by rintro _ rfl; rfl) ?_; rintro _ rfl) | fail)
end Go.Proofs.Ytpkampecmlpfmaa.T

end
section
set_option linter.unusedSimpArgs false
set_option linter.unusedVariables false
/- Slots, and lists of vectors, the same, walked. -/
namespace Go.Proofs.Ytpkampecmlpfmaa.T
open Go Go.VL Go.Proofs
set_option maxRecDepth 100000
set_option maxHeartbeats 4000000

theorem equal64_fun (a b : List Int) : Fun Try.prog 99 [.lst (ints .i64 a), .lst (ints .i64 b)] fun r => r = .v (.bool (decide (a = b))) := by
  refine Fun.of_awpI Try.func99 rfl cal99 Try.ntmps99 (by simp) fun hwf => ?_
  simp only [D.wfs, D.wf, ints_length, ints_wfs, rows_length, rows_wfs, capMax, and_true, true_and] at hwf
  repeat' (first | simp only [go_sem, Ret_eq Try.results99] | (with_reducible refine condI_bne (fun hq hqb => ?_) (fun hq hqb => ?_) <;> simp only [KP_mk, hqb]) | fail)
  · rw [decide_eq_false]; rintro rfl; omega
  · have hl : a.length = b.length := by omega
    refine awpI_for a.length (fun k => a.take k = b.take k) (fun k => [(13, .v (.int .i64 k))]) (fun _ => []) [0, 1, 12] [] _ (Weak.refl _) (by simp) ?_ ?_ ?_
    · simp only [go_sem, Ret_eq Try.results99]
    · simp only [go_sem, Ret_eq Try.results99]
    · intro k s hk hQ hs
      simp only [go_sem, Ret_eq Try.results99] at hs
      by_cases hka : k < a.length
      · repeat' (first | simp only [go_sem, hs, Ret_eq Try.results99] | simp (disch := omega) only [arith, IntKind.bits, capMax, fill_len, elt_fill] | (with_reducible refine condI_bne (fun hq hqb => ?_) (fun hq hqb => ?_) <;> simp only [KP_mk, hqb]) | (refine awpI_draw2 (id := 6) (.one false 0 (.one false 1 (.one false 2 (.one false 3 (.one false 4 (.one false 5 (.one false 6 (.one false 7 (.one false 8 .done))))))))) mixed (by decide +kernel) (by decide +kernel) ?_) | (refine Again.up (by omega) ?_ ?_) | fail)
        · rw [decide_eq_false]; rintro rfl; simp_all
        · exact take_eq_snoc hka (by omega) hQ (by assumption)
      · obtain rfl : k = a.length := by omega
        rw [List.take_length, hl, List.take_length] at hQ
        subst hQ
        repeat' (first | simp only [go_sem, hs, Ret_eq Try.results99] | simp (disch := omega) only [arith, IntKind.bits, capMax, fill_len, elt_fill] | fail)

theorem equalVecs_fun (a b : List (List Int)) : Fun Try.prog 100 [.lst (rows .i16 a), .lst (rows .i16 b), .clos (.func 101) []] fun r => r = .v (.bool (decide (a = b))) := by
  refine Fun.of_awpI Try.func100 rfl cal100 Try.ntmps100 (by simp) fun hwf => ?_
  simp only [D.wfs, D.wf, ints_length, ints_wfs, rows_length, rows_wfs, capMax, and_true, true_and] at hwf
  have hlb : b.length ≤ 9223372036854775807 := by have := hwf.2.1; exact this
  have hla : a.length ≤ 9223372036854775807 := by have := hwf.1.1; exact this
  by_cases hl : a.length = b.length
  · repeat' (first | simp only [go_sem, hl, Ret_eq Try.results100] | simp (disch := omega) only [arith, IntKind.bits, capMax, fill_len, elt_fill] | fail)
    refine awpI_for b.length (fun k => a.take k = b.take k) (fun k => [(17, .v (.int .i64 k))]) (fun _ => []) [1, 2, 15, 16] [] _ (Weak.refl _) (by simp) ?_ ?_ ?_
    · simp only [go_sem, Ret_eq Try.results100]
    · simp only [go_sem, Ret_eq Try.results100]
    · intro k s hk hQ hs
      simp only [go_sem, Ret_eq Try.results100] at hs
      by_cases hka : k < b.length
      · have e1 := take_snoc (a := a) (d := ([] : List Int)) (k := k) (by omega)
        have e2 := take_snoc (a := b) (d := ([] : List Int)) hka
        have hs1 := vecSame_fun (a.getD k []) (b.getD k [])
        by_cases hv : a.getD k [] = b.getD k []
        · rw [decide_eq_true hv] at hs1
          repeat' (first | simp only [go_sem, hs, Ret_eq Try.results100] | simp (disch := omega) only [arith, IntKind.bits, capMax, fill_len, elt_fill] | (refine Again.up (by omega) ?_ ?_) | (refine opCallI_rd (by simp only [go_sem, hs, Ret_eq Try.results100]; first | done | rfl) (hs1) (by rintro _ rfl; rfl) ?_; rintro _ rfl) | fail)
          rw [e1, e2, hQ, hv]
        · rw [decide_eq_false hv] at hs1
          have hne : a ≠ b := fun q => hv (by rw [q])
          repeat' (first | simp only [go_sem, hs, decide_eq_false hne, Ret_eq Try.results100] | simp (disch := omega) only [arith, IntKind.bits, capMax, fill_len, elt_fill] | (refine opCallI_rd (by simp only [go_sem, hs, decide_eq_false hne, Ret_eq Try.results100]; first | done | rfl) (hs1) (by rintro _ rfl; rfl) ?_; rintro _ rfl) | fail)
      · obtain rfl : k = b.length := by omega
        have hQ3 : a = b := by
          rw [List.take_length, ← hl, List.take_length] at hQ; exact hQ
        repeat' (first | simp only [go_sem, hs, decide_eq_true hQ3, Ret_eq Try.results100] | simp (disch := omega) only [arith, IntKind.bits, capMax, fill_len, elt_fill] | fail)
  · have hne : a ≠ b := fun q => hl (by rw [q])
    repeat' (first | simp only [go_sem, decide_eq_false hne, Ret_eq Try.results100] | simp (disch := omega) only [arith, IntKind.bits, capMax, fill_len, elt_fill] | fail)

theorem slotsSame_fun (d : Int) (a : List Int) (v : List (List Int)) (d2 : Int) (a2 : List Int) (v2 : List (List Int)) : Fun Try.prog 36 [slotsD d a v, slotsD d2 a2 v2] fun r => r = .v (.bool (decide (d = d2 ∧ a = a2 ∧ v = v2))) := by
  have h2 := equal64_fun a a2
  have h3 := equalVecs_fun v v2
  refine Fun.of_awpI Try.func36 rfl cal36 Try.ntmps36 (by simp) fun hwf => ?_
  simp only [D.wfs, D.wf, ints_length, ints_wfs, rows_length, rows_wfs, capMax, and_true, true_and] at hwf
  by_cases g1 : d = d2
  · have b1 : (d == d2) = true := beq_iff_eq.2 g1
    by_cases g2 : a = a2
    · rw [decide_eq_true g2] at h2
      have e : decide (d = d2 ∧ a = a2 ∧ v = v2) = decide (v = v2) := by simp [g1, g2]
      rw [e]
      repeat' (first | simp only [go_sem, b1, Ret_eq Try.results36] | (refine opCallI_rd (by simp only [go_sem, b1, Ret_eq Try.results36]; first | done | rfl) (h2) (by rintro _ rfl; rfl) ?_; rintro _ rfl) | (refine opCallI_rd (by simp only [go_sem, b1, Ret_eq Try.results36]; first | done | rfl) (h3) (by rintro _ rfl; rfl) ?_; rintro _ rfl) | fail)
    · rw [decide_eq_false g2] at h2
      rw [decide_eq_false (fun q => g2 q.2.1)]
      repeat' (first | simp only [go_sem, b1, Ret_eq Try.results36] | (refine opCallI_rd (by simp only [go_sem, b1, Ret_eq Try.results36]; first | done | rfl) (h2) (by rintro _ rfl; rfl) ?_; rintro _ rfl) | fail)
  · have b1 : (d == d2) = false := beq_eq_false_iff_ne.2 g1
    rw [decide_eq_false (fun q => g1 q.1)]
    repeat' (first | simp only [go_sem, b1, Ret_eq Try.results36] | fail)
end Go.Proofs.Ytpkampecmlpfmaa.T

end
section
set_option linter.unusedSimpArgs false
set_option linter.unusedVariables false
/- Few slots, walked. -/
namespace Go.Proofs.Ytpkampecmlpfmaa.T
open Go Go.VL Go.Proofs
set_option maxRecDepth 100000
set_option maxHeartbeats 4000000
def fewSlots (ids : List Int) (vecs : List (List Int)) : Prop := (∀ v ∈ vecs, v.length ≤ 100) ∧ ((ids.length ≤ 60 ∧ vecs.length ≤ 60) ∨ (ids.length = 257 ∧ vecs.length = 257))
instance (ids : List Int) (vecs : List (List Int)) : Decidable (fewSlots ids vecs) := by unfold fewSlots; infer_instance

theorem fewSlots_fun (dim : Int) (ids : List Int) (vecs : List (List Int)) : Fun Try.prog 32 [slotsD dim ids vecs] fun r => r = .v (.bool (decide (fewSlots ids vecs))) := by
  refine Fun.of_awpI Try.func32 rfl cal32 Try.ntmps32 (by simp) fun hwf => ?_
  simp only [D.wfs, D.wf, ints_length, ints_wfs, rows_length, rows_wfs, capMax, and_true, true_and] at hwf
  repeat' (first | simp only [go_sem, Ret_eq Try.results32] | fail)
  refine awpI_for vecs.length (fun k => ∀ i, i < k → (vecs.getD i []).length ≤ 100) (fun k => [(8, .v (.int .i64 k))]) (fun _ => []) [1, 6, 7] [1] _ (Weak.refl _) (fun i hi => absurd hi (Nat.not_lt_zero _)) ?_ ?_ ?_
  · simp only [go_sem, Ret_eq Try.results32]
  · simp only [go_sem, Ret_eq Try.results32]
  · intro k s hk hQ hs
    simp only [go_sem, Ret_eq Try.results32] at hs
    by_cases hka : k < vecs.length
    · by_cases q : (vecs.getD k []).length ≤ 100
      · repeat' (first | simp only [go_sem, hs, Ret_eq Try.results32] | simp (disch := omega) only [arith, IntKind.bits, capMax, fill_len, elt_fill] | (refine Again.up (by omega) ?_ ?_) | fail)
        intro i hi
        by_cases e : i < k
        · exact hQ i e
        · obtain rfl : i = k := by omega
          exact q
      · have hne : ¬ fewSlots ids vecs := fun r => q (r.1 _ (getD_mem (d := []) hka))
        rw [decide_eq_false hne]
        repeat' (first | simp only [go_sem, hs, Ret_eq Try.results32] | simp (disch := omega) only [arith, IntKind.bits, capMax, fill_len, elt_fill] | fail)
    · obtain rfl : k = vecs.length := by omega
      have hall : ∀ v ∈ vecs, v.length ≤ 100 := by
        intro v hv
        obtain ⟨i, hi, rfl⟩ := List.mem_iff_getElem.1 hv
        have := hQ i hi
        simpa [List.getD, hi] using this
      by_cases a : ids.length ≤ 60 ∧ vecs.length ≤ 60
      · rw [decide_eq_true ⟨hall, .inl a⟩]
        repeat' (first | simp only [go_sem, hs, Ret_eq Try.results32] | simp (disch := omega) only [arith, IntKind.bits, capMax, fill_len, elt_fill] | fail)
      · by_cases b : ids.length = 257 ∧ vecs.length = 257
        · rw [decide_eq_true ⟨hall, .inr b⟩]
          obtain ⟨b1, b2⟩ := b
          repeat' (first | simp only [go_sem, hs, b1, b2, Ret_eq Try.results32] | fail)
        · have hne : ¬ fewSlots ids vecs := fun r => r.2.elim a b
          rw [decide_eq_false hne]
          by_cases c1 : ids.length = 257
          · have hbe : ((vecs.length : Int) == 257) = false := beq_eq_false_iff_ne.2 (by omega)
            repeat' (first | simp only [go_sem, hs, c1, hbe, Ret_eq Try.results32] | simp (disch := omega) only [arith, IntKind.bits, capMax, fill_len, elt_fill] | fail)
          · have hbe : ((ids.length : Int) == 257) = false := beq_eq_false_iff_ne.2 (by omega)
            by_cases c2 : ids.length ≤ 60
            · repeat' (first | simp only [go_sem, hs, hbe, Ret_eq Try.results32] | simp (disch := omega) only [arith, IntKind.bits, capMax, fill_len, elt_fill] | fail)
            · repeat' (first | simp only [go_sem, hs, hbe, Ret_eq Try.results32] | simp (disch := omega) only [arith, IntKind.bits, capMax, fill_len, elt_fill] | fail)
end Go.Proofs.Ytpkampecmlpfmaa.T

end
section
set_option linter.unusedSimpArgs false
set_option linter.unusedVariables false
/- Law on slots: any id found, put, and taken out, and all ids. -/
namespace Go.Proofs.Ytpkampecmlpfmaa.T
open Go Go.VL Go.Proofs
set_option maxRecDepth 100000
set_option maxHeartbeats 8000000
theorem new_both (n dim : Int) : ∃ d ids vecs e, (Fun Try.prog 40 [.v (.int .i64 n), .v (.int .i64 dim)] fun r => r = .tup [slotsD d ids vecs, .v (.int .i64 e)]) ∧ Fun Try.prog 43 [.v (.int .i64 n), .v (.int .i64 dim)] fun r => r = .tup [slotsD d ids vecs, .v (.int .i64 e)] := by
  by_cases h : (1 ≤ n ∧ n ≤ 256) ∧ 1 ≤ dim ∧ dim ≤ 64
  · obtain ⟨m, rfl⟩ : ∃ m : Nat, n = m := ⟨n.toNat, by omega⟩
    exact ⟨_, _, _, _, slotsNew_fun m dim ⟨by omega, by omega⟩ h.2, refSNew_fun m dim ⟨by omega, by omega⟩ h.2⟩
  · exact ⟨_, _, _, _, slotsNew_bad n dim h, refSNew_bad n dim h⟩
theorem del_both (dim : Int) (ids : List Int) (vecs : List (List Int)) (id : Int) (hv : ∀ x ∈ vecs, x.length ≤ 500) : ∃ i d ids' vecs' e, (Fun Try.prog 37 [slotsD dim ids vecs, .v (.int .i64 id)] fun r => r = .tup [.v (.int .i64 i), slotsD d ids' vecs', .v (.int .i64 e)]) ∧
    Fun Try.prog 46 [slotsD dim ids vecs, .v (.int .i64 id)] fun r => r = .tup [.v (.int .i64 i), slotsD d ids' vecs', .v (.int .i64 e)] := by
  have h1 := slotsDel_fun dim ids vecs id hv
  have h2 := refSDel_fun dim ids vecs id hv
  by_cases h : findE dim ids vecs id = 0
  · rw [if_pos h] at h1 h2
    exact ⟨_, _, _, _, _, h1, h2⟩
  · rw [if_neg h] at h1 h2
    exact ⟨_, _, _, _, _, h1, h2⟩
theorem b3_lt {i : Nat} : (3000 + i < 2000) = False := eq_false (by omega)
theorem ownS_at {ei ev en : TypeId} {ids : List Int} {vecs : List (List Int)} {i : Nat} (h : i < ids.length) : ownS ei ev en ids vecs (3000 + i) = some ⟨en, 1, ints .i16 (vecs.getD i [])⟩ := by
  unfold ownS; rw [if_neg (by omega), ownV_at h]
theorem ownS_out {ei ev en : TypeId} {ids : List Int} {vecs : List (List Int)} : ownS ei ev en ids vecs 2000 = some ⟨ev, 1, refsV (lensOf vecs) ids.length⟩ := by
  unfold ownS; rw [if_neg (by omega), ownV_out]
theorem ownS_ids {ei ev en : TypeId} {ids : List Int} {vecs : List (List Int)} : ownS ei ev en ids vecs 2001 = some ⟨ei, 1, ints .i64 ids⟩ := by
  unfold ownS; rw [if_pos rfl]
def incX (x : Int) : Int := IntKind.wrap .i16 (x + 1)
def incY (x : Int) : Int := IntKind.wrap .i64 (x + 1)
def rowY (c : List Int) : List Int := fill (fun t => incX (c.getD t 0)) c c.length

theorem slotsDoes_law (many dim0 : Int) (dim : Int) (ids : List Int) (vecs : List (List Int)) (dim2 : Int) (ids2 : List Int) (vecs2 : List (List Int)) (id : Int) (v : List Int) : Fun Try.prog 12 [.v (.int .i64 many), .v (.int .i64 dim0), slotsD dim ids vecs, slotsD dim2 ids2 vecs2, .v (.int .i64 id), .lst (ints .i16 v)] fun r => r = .v (.bool true) := by
  have hl := slotsLive_fun
  have hf1 := fewSlots_fun dim ids vecs
  by_cases g1 : fewSlots ids vecs
  · rw [decide_eq_true g1] at hf1
    have hf2 := fewSlots_fun dim2 ids2 vecs2
    by_cases g2 : fewSlots ids2 vecs2
    · rw [decide_eq_true g2] at hf2
      by_cases g3 : v.length ≤ 300
      · have hv : ∀ x ∈ vecs, x.length ≤ 500 := fun x hx => by have := g1.1 x hx; omega
        have hle : ids.length ≤ 500 ∧ vecs.length ≤ 500 := by have := g1.2; omega
        have hcp := refSCopy_fun dim ids vecs hle.1 hle.2 hv
        obtain ⟨da, ia, va, ea, hn1, hn2⟩ := new_both many dim0
        have hfa := find_fun dim ids vecs id
        have hfb := refSFind_fun dim ids vecs id
        obtain ⟨di, dm, im, vm, dq, hd1, hd2⟩ := del_both dim ids vecs id hv
        have hl1 := slotsLiveIds_fun dim ids vecs
        have hl2 := refSLive_fun dim ids vecs
        have hsi := sameInts_fun (if slotsOk dim ids vecs then liveL ids else []) (if slotsOk dim ids vecs then liveL ids else [])
        rw [decide_eq_true rfl] at hsi
        have hs1 := refSSame_fun da ia va da ia va
        rw [decide_eq_true ⟨rfl, rfl, rfl⟩] at hs1
        have hs3 := refSSame_fun dm im vm dm im vm
        rw [decide_eq_true ⟨rfl, rfl, rfl⟩] at hs3
        have hs4 := refSSame_fun dim ids vecs dim ids vecs
        rw [decide_eq_true ⟨rfl, rfl, rfl⟩] at hs4
        have hs5 := refSSame_fun dim ids vecs dim2 ids2 vecs2
        have hs6 := slotsSame_fun dim ids vecs dim2 ids2 vecs2
        have hc1 := slotsCheck_fun dim ids vecs
        have hc2 := refSCheck_fun dim ids vecs
        have hp1 := slotsPut_fun dim ids vecs id v hv (by omega)
        have hp2 := refSPut_fun dim ids vecs id v hv (by omega)
        by_cases z : putE dim ids vecs id v = 0
        · have hpo := slotsPut_own dim ids vecs id v hv (by omega) z
          obtain ⟨s1, s2, i, i1, i2, i3, i4⟩ := put_zero z
          have hvl := s1.2.2.1
          rw [i2, Int.toNat_natCast] at hpo
          rw [z, if_pos rfl, i2, Int.toNat_natCast] at hp2
          have hs2 := refSSame_fun dim (ids.set i id) (vecs.set i v) dim (ids.set i id) (vecs.set i v)
          rw [decide_eq_true ⟨rfl, rfl, rfl⟩] at hs2
          clear hp1
          have hIl : (ids.set i id).length = ids.length := List.length_set
          have hCle : (vecs.set i v).length = ids.length := by rw [List.length_set, hvl]
          have hb500 : ∀ x ∈ vecs.set i v, x.length ≤ 500 := fun x hx => by
            rcases List.mem_or_eq_of_mem_set hx with q | q
            · exact hv x q
            · rw [q]; omega
          have hI1 := s1.2.1
          generalize ids.set i id = I at *
          generalize vecs.set i v = C at *
          rw [← hIl] at hpo
          have hCl2 : C.length = I.length := by omega
          have hI500 : I.length ≤ 500 := by omega
          clear hIl hCle
          generalize hre : findE dim ids vecs id = fe at *
          generalize findI dim ids vecs id = fi at *
          generalize slotsErr dim ids vecs = se at *
          generalize (if slotsOk dim ids vecs then liveL ids else []) = lv at *
          generalize decide (dim = dim2 ∧ ids = ids2 ∧ vecs = vecs2) = sm at *
          refine Fun.of_awpS Try.func12 rfl cal12 Try.ntmps12 (by simp) fun hwf => ?_
          simp only [D.wfs, D.wf, ints_wfs, rows_wfs, ints_length, rows_length, and_true, true_and] at hwf
          repeat refine awpS_seq ?_
          refine awpS_last ?_
          repeat' (first | simp only [go_sem, beq_self_eq_true, Ret_eq Try.results12] | fail)
          repeat refine awpS_seq ?_
          refine awpS_last ?_
          repeat' (first | simp only [go_sem, beq_self_eq_true, Ret_eq Try.results12] | (refine opCallI_rd (by simp only [go_sem, beq_self_eq_true, Ret_eq Try.results12]; first | done | rfl) (hl) (by rintro _ rfl; rfl) ?_; rintro _ rfl) | fail)
          repeat refine awpS_seq ?_
          refine awpS_last ?_
          repeat' (first | simp only [go_sem, beq_self_eq_true, Ret_eq Try.results12] | fail)
          repeat refine awpS_seq ?_
          refine awpS_last ?_
          repeat' (first | simp only [go_sem, beq_self_eq_true, Ret_eq Try.results12] | fail)
          repeat refine awpS_seq ?_
          refine awpS_last ?_
          repeat' (first | simp only [go_sem, beq_self_eq_true, Ret_eq Try.results12] | simp (disch := omega) only [arith, IntKind.bits, capMax, fill_len, elt_fill] | (refine opCallI_rd (by simp only [go_sem, beq_self_eq_true, Ret_eq Try.results12]; first | done | rfl) (hf1) (by rintro _ rfl; rfl) ?_; rintro _ rfl) | (refine opCallI_rd (by simp only [go_sem, beq_self_eq_true, Ret_eq Try.results12]; first | done | rfl) (hf2) (by rintro _ rfl; rfl) ?_; rintro _ rfl) | fail)
          repeat refine awpS_seq ?_
          refine awpS_last ?_
          repeat' (first | simp only [go_sem, beq_self_eq_true, Ret_eq Try.results12] | fail)
          repeat refine awpS_seq ?_
          refine awpS_last ?_
          repeat' (first | simp only [go_sem, beq_self_eq_true, Ret_eq Try.results12] | (refine opCallI_gv (by simp only [go_sem, beq_self_eq_true, Ret_eq Try.results12]; first | done | rfl) (hcp) ?_; rintro _ rfl) | fail)
          repeat refine awpS_seq ?_
          refine awpS_last ?_
          repeat' (first | simp only [go_sem, beq_self_eq_true, Ret_eq Try.results12] | (refine opCallI_gv (by simp only [go_sem, beq_self_eq_true, Ret_eq Try.results12]; first | done | rfl) (hn1) ?_; rintro _ rfl) | fail)
          repeat refine awpS_seq ?_
          refine awpS_last ?_
          repeat' (first | simp only [go_sem, beq_self_eq_true, Ret_eq Try.results12] | (refine opCallI_gv (by simp only [go_sem, beq_self_eq_true, Ret_eq Try.results12]; first | done | rfl) (hn2) ?_; rintro _ rfl) | fail)
          repeat refine awpS_seq ?_
          refine awpS_last ?_
          repeat' (first | simp only [go_sem, beq_self_eq_true, Ret_eq Try.results12] | (refine opCallI_rd (by simp only [go_sem, beq_self_eq_true, Ret_eq Try.results12]; first | done | rfl) (hfa) (by rintro _ rfl; rfl) ?_; rintro _ rfl) | fail)
          repeat refine awpS_seq ?_
          refine awpS_last ?_
          repeat' (first | simp only [go_sem, beq_self_eq_true, Ret_eq Try.results12] | (refine opCallI_rd (by simp only [go_sem, beq_self_eq_true, Ret_eq Try.results12]; first | done | rfl) (hfb) (by rintro _ rfl; rfl) ?_; rintro _ rfl) | fail)
          repeat refine awpS_seq ?_
          refine awpS_nth 3 rfl rfl ?_
          repeat' (first | simp only [go_sem, Ret_eq Try.results12] | fail)
          refine opX_callM0 (al := [slotsD dim ids vecs, .v (.int .i64 id), .lst (ints .i16 v)]) 2000 [(4, .v (.int .i64 id)), (5, .lst (ints .i16 v)), (8, .adr 8 0 0), (9, .adr 9 0 0), (13, .v (.bool true)), (14, .adr 14 0 0), (15, .adr 15 0 0), (16, .v (.int .i64 ea)), (17, .adr 17 0 0), (18, .v (.int .i64 ea)), (19, .v (.int .i64 fi)), (20, .v (.int .i64 fe)), (21, .v (.int .i64 fi)), (22, .v (.int .i64 fe))]
            [(8, ⟨45, 3, [slotsD dim ids vecs]⟩), (9, ⟨45, 3, [slotsD dim2 ids2 vecs2]⟩), (14, ⟨45, 3, [slotsD dim ids vecs]⟩), (15, ⟨45, 3, [slotsD da ia va]⟩), (17, ⟨45, 3, [slotsD da ia va]⟩)] rfl rfl (by simp only [go_sem, Ret_eq Try.results12]) (by rfl) (by simp only [go_sem, Ret_eq Try.results12]) hpo (by simp only [go_sem, Ret_eq Try.results12]) (by rfl) (by simp only [go_sem, Ret_eq Try.results12]) (by rfl) ?_ ?_
          · rintro _ _ ⟨rfl, rfl⟩
            exact ⟨rfl, ownS_ge⟩
          rintro _ _ ⟨rfl, rfl⟩
          repeat' (first | simp only [go_sem, Ret_eq Try.results12] | fail)
          repeat refine awpS_seq ?_
          refine awpS_last ?_
          repeat' (first | simp only [go_sem, Ret_eq Try.results12] | (refine opCallI_gv (by simp only [go_sem, Ret_eq Try.results12]; first | done | rfl) (hp2) ?_; rintro _ rfl) | fail)
          repeat refine awpS_seq ?_
          refine awpS_last ?_
          repeat' (first | simp only [go_sem, Ret_eq Try.results12] | (refine opCallI_gv (by simp only [go_sem, Ret_eq Try.results12]; first | done | rfl) (hd1) ?_; rintro _ rfl) | fail)
          repeat refine awpS_seq ?_
          refine awpS_last ?_
          repeat' (first | simp only [go_sem, Ret_eq Try.results12] | (refine opCallI_gv (by simp only [go_sem, Ret_eq Try.results12]; first | done | rfl) (hd2) ?_; rintro _ rfl) | fail)
          repeat refine awpS_seq ?_
          refine awpS_last ?_
          repeat' (first | simp only [go_sem, Ret_eq Try.results12] | (refine opCallI_gv (by simp only [go_sem, Ret_eq Try.results12]; first | done | rfl) (hl1) ?_; rintro _ rfl) | fail)
          repeat refine awpS_seq ?_
          refine awpS_last ?_
          repeat' (first | simp only [go_sem, Ret_eq Try.results12] | (refine opCallI_gv (by simp only [go_sem, Ret_eq Try.results12]; first | done | rfl) (hl2) ?_; rintro _ rfl) | fail)
          repeat refine awpS_seq ?_
          refine awpS_nthG 26 rfl rfl rfl ?_
          repeat' (first | simp only [go_sem, beq_self_eq_true, Ret_eq Try.results12] | (refine opCallI_rd (by simp only [go_sem, beq_self_eq_true, Ret_eq Try.results12]; first | done | rfl) (hs1) (by rintro _ rfl; rfl) ?_; rintro _ rfl) | fail)
          have htk : C.take I.length = C := List.take_of_length_le (by omega)
          have hCl : (List.range I.length).map (fun i => D.lst (ints .i16 (C.getD i []))) = rows .i16 C := by
            refine List.ext_getElem? fun i => ?_
            rw [List.getElem?_map]
            by_cases q : i < I.length
            · rw [List.getElem?_range q, rows_get (by omega)]; rfl
            · rw [List.getElem?_eq_none (by simp; omega), List.getElem?_eq_none (by rw [rows_length]; omega)]; rfl
          refine opX_look (Weak.freezes1 (ob := 2000) (base := 3000) (n := I.length) (S := 1) (So := 1) (e := 23) (eo := 46) (fun i => ints .i16 (C.getD i [])) (lensOf C) [(149, .agg [.v (.int .i64 dim), .ref 2001 I.length, .ref 2000 I.length]), (150, slotsD dim I C)] [(2001, ⟨2, 1, ints .i64 I⟩)]
            (by decide) (by simp only [go_sem, Ret_eq Try.results12]) (by rfl) (by simp only [go_sem, ownS, Ret_eq Try.results12]) (by simp only [go_sem, ints_okTos, Ret_eq Try.results12]) (by simp only [go_sem, ownS, ownV_out, refsV_kills, Ret_eq Try.results12]; rfl) (fun j hj => by
              simp only [go_sem, b3_ne, b3_lt, ownS_at hj, Ret_eq Try.results12]) (fun j hj => ⟨ints_noRefs, ints_nrms, ints_width1, by rw [ints_length]; rfl⟩)) rfl rfl (by simp only [go_sem, hCl, hCl2, htk, Ret_eq Try.results12]; first | done | rfl) hs2 (by rintro _ rfl; rfl) ?_
          rintro _ rfl
          repeat' (first | simp only [go_sem, beq_self_eq_true, Ret_eq Try.results12] | (refine opCallI_rd (by simp only [go_sem, beq_self_eq_true, Ret_eq Try.results12]; first | done | rfl) (hs3) (by rintro _ rfl; rfl) ?_; rintro _ rfl) | (refine opCallI_rd (by simp only [go_sem, beq_self_eq_true, Ret_eq Try.results12]; first | done | rfl) (hsi) (by rintro _ rfl; rfl) ?_; rintro _ rfl) | fail)
          repeat refine awpS_seq ?_
          refine awpS_last ?_
          repeat' (first | simp only [go_sem, ownS_out, ownS_ids, refsV_kills, refsV_length, Ret_eq Try.results12] | fail)
          repeat refine awpS_seq ?_
          refine awpS_last ?_
          repeat' (first | simp only [go_sem, ownS_out, ownS_ids, refsV_kills, refsV_length, Ret_eq Try.results12] | fail)
          refine awpI_for I.length (fun _ => True) (fun i => [(186, .v (.int .i64 i))]) (fun i => (2001, ⟨2, 1, ints .i64 (fill (fun t => incY (I.getD t 0)) I i)⟩) :: rowsV 23 I.length fun j => if j < i then rowY (C.getD j []) else C.getD j []) [8, 9, 13, 14, 24, 39, 185] [8, 9, 14, 24, 2000] _ (Weak.refl _) trivial ?_ ?_ ?_
          · simp only [go_sem, Ret_eq Try.results12]
          · simp only [go_sem, Heaps_rowsV, ownS_ids, fill_zero, ints_kills, Ret_eq Try.results12]
            intro j hj
            simp only [go_sem, b3_ne, b3_lt, ownS_at hj, ints_kills, Ret_eq Try.results12]
            rw [if_neg (Nat.not_lt_zero j)]
          · intro i s hi _ hs
            simp only [go_sem, Heaps_rowsV, ownS_out, refsV_kills, Ret_eq Try.results12] at hs
            have hco := hs.2.2.1.2
            by_cases hin : i < I.length
            · have mg := refsV_get (g := lensOf C) hin
              have hci := hco i hin
              rw [if_neg (Nat.lt_irrefl i)] at hci
              have hl0 : (C.getD i []).length = lensOf C i := rfl
              have hlb : lensOf C i ≤ 500 := hb500 _ (getD_mem (by omega))
              have hry : rowY (C.getD i []) = fill (fun t => incX ((C.getD i []).getD t 0)) (C.getD i []) (lensOf C i) := rfl
              have hfI : (fill (fun t => incY (I.getD t 0)) I i).length = I.length := fill_len (by omega)
              have haI : (fill (fun t => incY (I.getD t 0)) I i).getD i 0 = I.getD i 0 := fill_at hin
              have hsI := fill_set (f := fun t => incY (I.getD t 0)) (a := I) hin
              rw [show incY (I.getD i 0) = IntKind.wrap .i64 (I.getD i 0 + 1) from rfl] at hsI
              repeat' (first | simp only [go_sem, hs, mg, hci, hl0, b3_ne, refsV_length, Ret_eq Try.results12] | simp (disch := omega) only [arith, IntKind.bits, capMax, fill_len, elt_fill] | fail)
              refine awpI_for (lensOf C i) (fun _ => True) (fun k => [(195, .v (.int .i64 k))]) (fun k => rowsV 23 I.length fun j => if j < i then rowY (C.getD j []) else if j = i then fill (fun t => incX ((C.getD i []).getD t 0)) (C.getD i []) k else C.getD j []) [8, 9, 13, 14, 24, 39, 40, 185, 186, 194] [8, 9, 14, 24, 2000, 2001] _ (Weak.refl _) trivial ?_ ?_ ?_
              · simp only [go_sem, hs, Ret_eq Try.results12]
              · rw [Heaps_rowsV]
                intro j hj
                have := hco j hj
                simp only [go_sem, hs, b3_ne, this, fill_zero, Ret_eq Try.results12]
                by_cases q : j < i
                · rw [if_pos q, if_pos q]
                · rw [if_neg q, if_neg q]
                  by_cases q2 : j = i
                  · rw [if_pos q2, q2]
                  · rw [if_neg q2]
              · intro k s2 hk _ hs2
                simp only [go_sem, hs, Heaps_rowsV, refsV_kills, Ret_eq Try.results12] at hs2
                have hco2 := hs2.2.2.1
                by_cases hkm : k < lensOf C i
                · have hc2 := hco2 i hin
                  rw [if_neg (Nat.lt_irrefl i), if_pos rfl] at hc2
                  have hfl : (fill (fun t => incX ((C.getD i []).getD t 0)) (C.getD i []) k).length = lensOf C i := by rw [fill_len (by omega), hl0]
                  have hat : (fill (fun t => incX ((C.getD i []).getD t 0)) (C.getD i []) k).getD k 0 = (C.getD i []).getD k 0 := fill_at (by omega)
                  have hst := fill_set (f := fun t => incX ((C.getD i []).getD t 0)) (a := C.getD i []) (k := k) (by omega)
                  rw [show incX ((C.getD i []).getD k 0) = IntKind.wrap .i16 ((C.getD i []).getD k 0 + 1) from rfl] at hst
                  repeat' (first | simp only [go_sem, hs, hs2, mg, hc2, hfl, hat, b3_ne, b3_ne', refsV_length, Ret_eq Try.results12] | simp (disch := omega) only [arith, IntKind.bits, capMax, fill_len, elt_fill] | (refine Again.up (by omega) ?_ ?_) | fail)
                  all_goals
                    rw [Heaps_rowsV]
                    intro j hj
                    have := hco2 j hj
                    simp only [go_sem, hs2, b3_ne, this, Ret_eq Try.results12]
                    by_cases q2 : j = i
                    · subst q2
                      rw [if_pos rfl, if_neg (Nat.lt_irrefl j), if_pos rfl, hst]
                    · rw [if_neg (by omega), if_neg q2, if_neg q2]
                · obtain rfl : k = lensOf C i := by omega
                  have hc2 := hco2 i hin
                  rw [if_neg (Nat.lt_irrefl i), if_pos rfl] at hc2
                  repeat' (first | simp only [go_sem, hs, hs2, mg, hc2, hfI, haI, hsI, b3_ne, b3_ne', refsV_length, Ret_eq Try.results12] | simp (disch := omega) only [arith, IntKind.bits, capMax, fill_len, elt_fill] | (refine Again.up (by omega) ?_ ?_) | fail)
                  refine ⟨?_, by simp only [go_sem, ownS_out, refsV_kills, Ret_eq Try.results12]⟩
                  rw [Heaps_rowsV]
                  intro j hj
                  have := hco2 j hj
                  simp only [go_sem, hs2, b3_ne, this, Ret_eq Try.results12]
                  by_cases q : j < i
                  · rw [if_pos q, if_pos (by omega)]
                  · rw [if_neg q]
                    by_cases q2 : j = i
                    · rw [if_pos q2, if_pos (by omega), q2, hry]
                    · rw [if_neg q2, if_neg (by omega)]
            · obtain rfl : i = I.length := by omega
              repeat' (first | simp only [go_sem, hs, Ret_eq Try.results12] | simp (disch := omega) only [arith, IntKind.bits, capMax, fill_len, elt_fill] | fail)
              repeat refine awpS_seq ?_
              refine awpS_last ?_
              repeat' (first | simp only [go_sem, hs, beq_self_eq_true, Ret_eq Try.results12] | (refine awpI_draw2 (id := 28) (.one false 0 (.one false 1 (.one false 2 (.one false 3 (.one false 4 (.one false 5 (.cal 7 [6] (.only 6 (.only 8 (.one false 9 (.one false 10 (.one false 11 (.one false 12 (.one false 13 (.cal 15 [14] (.cal 16 [14] (.only 14 (.only 17 (.one false 18 (.one false 19 (.one false 20 (.one false 21 (.one false 22 (.only 23 (.one false 24 (.one false 25 .done)))))))))))))))))))))))))) mixed (by decide +kernel) (by decide +kernel) ?_) | (refine opCallI_rd (by simp only [go_sem, hs, beq_self_eq_true, Ret_eq Try.results12]; first | done | rfl) (hc1) (by rintro _ rfl; rfl) ?_; rintro _ rfl) | (refine opCallI_rd (by simp only [go_sem, hs, beq_self_eq_true, Ret_eq Try.results12]; first | done | rfl) (hc2) (by rintro _ rfl; rfl) ?_; rintro _ rfl) | (refine opCallI_rd (by simp only [go_sem, hs, beq_self_eq_true, Ret_eq Try.results12]; first | done | rfl) (hs6) (by rintro _ rfl; rfl) ?_; rintro _ rfl) | (refine opCallI_rd (by simp only [go_sem, hs, beq_self_eq_true, Ret_eq Try.results12]; first | done | rfl) (hs5) (by rintro _ rfl; rfl) ?_; rintro _ rfl) | (refine opCallI_rd (by simp only [go_sem, hs, beq_self_eq_true, Ret_eq Try.results12]; first | done | rfl) (hs4) (by rintro _ rfl; rfl) ?_; rintro _ rfl) | fail)
              all_goals
                refine awpS_last ?_
                repeat' (first | simp only [go_sem, hs, beq_self_eq_true, Ret_eq Try.results12] | fail)
        · rw [if_neg z, show putI dim ids vecs id v = 0 from if_neg z] at hp1 hp2
          have hs2 := refSSame_fun 0 [] [] 0 [] []
          rw [decide_eq_true ⟨rfl, rfl, rfl⟩] at hs2
          generalize putE dim ids vecs id v = pe at *
          generalize findE dim ids vecs id = fe at *
          generalize findI dim ids vecs id = fi at *
          generalize slotsErr dim ids vecs = se at *
          generalize (if slotsOk dim ids vecs then liveL ids else []) = lv at *
          generalize decide (dim = dim2 ∧ ids = ids2 ∧ vecs = vecs2) = sm at *
          simp only [slotsD, ints_nil, rows_nil] at hp1 hp2 hs2
          refine Fun.of_awpI Try.func12 rfl cal12 Try.ntmps12 (by simp) fun hwf => ?_
          simp only [D.wfs, D.wf, ints_length, ints_wfs, rows_length, rows_wfs, capMax, and_true, true_and] at hwf
          repeat' (first | simp only [go_sem, beq_self_eq_true, Ret_eq Try.results12] | simp (disch := omega) only [arith, IntKind.bits, capMax, fill_len, elt_fill] | (refine opCallI_rd (by simp only [go_sem, beq_self_eq_true, Ret_eq Try.results12]; first | done | rfl) (hl) (by rintro _ rfl; rfl) ?_; rintro _ rfl) | (refine opCallI_rd (by simp only [go_sem, beq_self_eq_true, Ret_eq Try.results12]; first | done | rfl) (hf1) (by rintro _ rfl; rfl) ?_; rintro _ rfl) | (refine opCallI_rd (by simp only [go_sem, beq_self_eq_true, Ret_eq Try.results12]; first | done | rfl) (hf2) (by rintro _ rfl; rfl) ?_; rintro _ rfl) | (refine opCallI_gv (by simp only [go_sem, beq_self_eq_true, Ret_eq Try.results12]; first | done | rfl) (hcp) ?_; rintro _ rfl) | (refine opCallI_gv (by simp only [go_sem, beq_self_eq_true, Ret_eq Try.results12]; first | done | rfl) (hn1) ?_; rintro _ rfl) | (refine opCallI_gv (by simp only [go_sem, beq_self_eq_true, Ret_eq Try.results12]; first | done | rfl) (hn2) ?_; rintro _ rfl) | (refine opCallI_rd (by simp only [go_sem, beq_self_eq_true, Ret_eq Try.results12]; first | done | rfl) (hfa) (by rintro _ rfl; rfl) ?_; rintro _ rfl) | (refine opCallI_rd (by simp only [go_sem, beq_self_eq_true, Ret_eq Try.results12]; first | done | rfl) (hfb) (by rintro _ rfl; rfl) ?_; rintro _ rfl) | (refine opCallI_gv (by simp only [go_sem, beq_self_eq_true, Ret_eq Try.results12]; first | done | rfl) (hp1) ?_; rintro _ rfl) | (refine opCallI_gv (by simp only [go_sem, beq_self_eq_true, Ret_eq Try.results12]; first | done | rfl) (hp2) ?_; rintro _ rfl) | (refine opCallI_gv (by simp only [go_sem, beq_self_eq_true, Ret_eq Try.results12]; first | done | rfl) (hd1) ?_; rintro _ rfl) | (refine opCallI_gv (by simp only [go_sem, beq_self_eq_true, Ret_eq Try.results12]; first | done | rfl) (hd2) ?_; rintro _ rfl) | (refine opCallI_gv (by simp only [go_sem, beq_self_eq_true, Ret_eq Try.results12]; first | done | rfl) (hl1) ?_; rintro _ rfl) | (refine opCallI_gv (by simp only [go_sem, beq_self_eq_true, Ret_eq Try.results12]; first | done | rfl) (hl2) ?_; rintro _ rfl) | (refine opCallI_rd (by simp only [go_sem, beq_self_eq_true, Ret_eq Try.results12]; first | done | rfl) (hs1) (by rintro _ rfl; rfl) ?_; rintro _ rfl) | (refine opCallI_rd (by simp only [go_sem, beq_self_eq_true, Ret_eq Try.results12]; first | done | rfl) (hs2) (by rintro _ rfl; rfl) ?_; rintro _ rfl) | (refine opCallI_rd (by simp only [go_sem, beq_self_eq_true, Ret_eq Try.results12]; first | done | rfl) (hs3) (by rintro _ rfl; rfl) ?_; rintro _ rfl) | (refine opCallI_rd (by simp only [go_sem, beq_self_eq_true, Ret_eq Try.results12]; first | done | rfl) (hsi) (by rintro _ rfl; rfl) ?_; rintro _ rfl) | fail)
          refine awpI_for 0 (fun _ => True) (fun _ => [(186, .v (.int .i64 0))]) (fun _ => []) [8, 9, 13, 14, 24, 39, 185] [8, 9, 14, 24] _ (Weak.refl _) trivial ?_ ?_ ?_
          · simp only [go_sem, Ret_eq Try.results12]
          · simp only [go_sem, Ret_eq Try.results12]
          · intro k2 s hk2 _ hs
            simp only [go_sem, Ret_eq Try.results12] at hs
            repeat' (first | simp only [go_sem, hs, beq_self_eq_true, Ret_eq Try.results12] | (refine awpI_draw2 (id := 28) (.one false 0 (.one false 1 (.one false 2 (.one false 3 (.one false 4 (.one false 5 (.cal 7 [6] (.only 6 (.only 8 (.one false 9 (.one false 10 (.one false 11 (.one false 12 (.one false 13 (.cal 15 [14] (.cal 16 [14] (.only 14 (.only 17 (.one false 18 (.one false 19 (.one false 20 (.one false 21 (.one false 22 (.only 23 (.one false 24 (.one false 25 .done)))))))))))))))))))))))))) mixed (by decide +kernel) (by decide +kernel) ?_) | (refine opCallI_rd (by simp only [go_sem, hs, beq_self_eq_true, Ret_eq Try.results12]; first | done | rfl) (hc1) (by rintro _ rfl; rfl) ?_; rintro _ rfl) | (refine opCallI_rd (by simp only [go_sem, hs, beq_self_eq_true, Ret_eq Try.results12]; first | done | rfl) (hc2) (by rintro _ rfl; rfl) ?_; rintro _ rfl) | (refine opCallI_rd (by simp only [go_sem, hs, beq_self_eq_true, Ret_eq Try.results12]; first | done | rfl) (hs6) (by rintro _ rfl; rfl) ?_; rintro _ rfl) | (refine opCallI_rd (by simp only [go_sem, hs, beq_self_eq_true, Ret_eq Try.results12]; first | done | rfl) (hs5) (by rintro _ rfl; rfl) ?_; rintro _ rfl) | (refine opCallI_rd (by simp only [go_sem, hs, beq_self_eq_true, Ret_eq Try.results12]; first | done | rfl) (hs4) (by rintro _ rfl; rfl) ?_; rintro _ rfl) | fail)
            all_goals skip
      · skip
        refine Fun.of_awpI Try.func12 rfl cal12 Try.ntmps12 (by simp) fun hwf => ?_
        simp only [D.wfs, D.wf, ints_length, ints_wfs, rows_length, rows_wfs, capMax, and_true, true_and] at hwf
        repeat' (first | simp only [go_sem, Ret_eq Try.results12] | simp (disch := omega) only [arith, IntKind.bits, capMax, fill_len, elt_fill] | (refine opCallI_rd (by simp only [go_sem, Ret_eq Try.results12]; first | done | rfl) (hl) (by rintro _ rfl; rfl) ?_; rintro _ rfl) | (refine opCallI_rd (by simp only [go_sem, Ret_eq Try.results12]; first | done | rfl) (hf1) (by rintro _ rfl; rfl) ?_; rintro _ rfl) | (refine opCallI_rd (by simp only [go_sem, Ret_eq Try.results12]; first | done | rfl) (hf2) (by rintro _ rfl; rfl) ?_; rintro _ rfl) | fail)
    · rw [decide_eq_false g2] at hf2
      refine Fun.of_awpI Try.func12 rfl cal12 Try.ntmps12 (by simp) fun hwf => ?_
      simp only [D.wfs, D.wf, ints_length, ints_wfs, rows_length, rows_wfs, capMax, and_true, true_and] at hwf
      repeat' (first | simp only [go_sem, Ret_eq Try.results12] | (refine opCallI_rd (by simp only [go_sem, Ret_eq Try.results12]; first | done | rfl) (hl) (by rintro _ rfl; rfl) ?_; rintro _ rfl) | (refine opCallI_rd (by simp only [go_sem, Ret_eq Try.results12]; first | done | rfl) (hf1) (by rintro _ rfl; rfl) ?_; rintro _ rfl) | (refine opCallI_rd (by simp only [go_sem, Ret_eq Try.results12]; first | done | rfl) (hf2) (by rintro _ rfl; rfl) ?_; rintro _ rfl) | fail)
  · rw [decide_eq_false g1] at hf1
    refine Fun.of_awpI Try.func12 rfl cal12 Try.ntmps12 (by simp) fun hwf => ?_
    simp only [D.wfs, D.wf, ints_length, ints_wfs, rows_length, rows_wfs, capMax, and_true, true_and] at hwf
    repeat' (first | simp only [go_sem, Ret_eq Try.results12] | (refine opCallI_rd (by simp only [go_sem, Ret_eq Try.results12]; first | done | rfl) (hl) (by rintro _ rfl; rfl) ?_; rintro _ rfl) | (refine opCallI_rd (by simp only [go_sem, Ret_eq Try.results12]; first | done | rfl) (hf1) (by rintro _ rfl; rfl) ?_; rintro _ rfl) | fail)
end Go.Proofs.Ytpkampecmlpfmaa.T

end
section
/- Slots, and what gathers a sample, as arguments. -/
namespace Go.VL
open Go Go.RowKit Go.Proofs.Ytpkampecmlpfmaa.T
theorem has_slots {ds : List D} (h : (Ty.st [.int .i64, .sl (.int .i64), .sl (.sl (.int .i16))]).has ds) : ∃ (w : Int) (l : List Int) (c : List (List Int)), (Ty.st [.int .i64, .sl (.int .i64), .sl (.sl (.int .i16))]).wrap ds = .agg [.v (.int .i64 w), .lst (ints .i64 l), .lst (rows .i16 c)] ∧
    (Lit.int .i64 w).wf = true ∧ (∀ n ∈ l, (Lit.int .i64 n).wf = true) ∧ ∀ x ∈ c, ∀ n ∈ x, (Lit.int .i16 n).wf = true := by
  obtain ⟨a, b, rfl, h1, b1, b2, rfl, h2, b3, b4, rfl, h4, h5⟩ := h
  obtain ⟨w, rfl, hw⟩ := h1
  obtain ⟨els, rfl, h2⟩ := h2
  obtain ⟨els4, rfl, h4⟩ := h4
  have h5 : b4 = [] := h5
  subst h5
  obtain ⟨l, e, hl⟩ := has_ints (ds := [.lst (els.map (Ty.int .i64).wrap)]) ⟨els, rfl, h2⟩
  obtain ⟨c, e4, hc⟩ := has_rows (ds := [.lst (els4.map (Ty.sl (.int .i16)).wrap)]) ⟨els4, rfl, h4⟩
  refine ⟨w, l, c, ?_, hw, hl, hc⟩
  have e' : D.lst (els.map (Ty.int .i64).wrap) = .lst (ints .i64 l) := e
  have e4' : D.lst (els4.map (Ty.sl (.int .i16)).wrap) = .lst (rows .i16 c) := e4
  show D.agg ([.v (.int .i64 w)] ++ ([.lst (els.map (Ty.int .i64).wrap)] ++ ([.lst (els4.map (Ty.sl (.int .i16)).wrap)] ++ []))) = _
  rw [e', e4']
  rfl
end Go.VL

end
