import Derived.Test.YtpkampecmlpfmaaK3
section
set_option linter.unusedSimpArgs false
set_option linter.unusedVariables false
/- A list sorted; walked. -/
namespace Go.Proofs.Ytpkampecmlpfmaa.T
open Go Go.VL Go.Proofs
set_option maxRecDepth 100000
set_option maxHeartbeats 16000000
def SortsL16 (f : FuncId) (l : List Int) (a b lim : Nat) : Prop := FunL Try.prog f [.ref 0 l.length, .v (.int .i64 a), .v (.int .i64 b), .v (.int .i64 lim)] [own16 l] fun r os =>
    r = .tup [] ∧ ∃ l', os = [own16 l'] ∧ Sw a b l l' ∧ Sd a b l'

theorem pdq16 (n : Nat) : ∀ (l : List Int) (a b lim : Nat), b - a ≤ n → a ≤ b → b ≤ l.length → l.length ≤ 60000 → lim ≤ 60000 → Ahd a b l → SortsL16 160 l a b lim := by
  induction n using Nat.strongRecOn with
  | _ n ih =>
  intro l a b lim0 hn hab hb hl hli hA
  unfold SortsL16
  refine FunL.of_awpI [(100000, 0)] rfl Try.func160 rfl cal160 Try.ntmps160 (by simp) fun hwf hlw ls => ?_
  simp only [lentWf, D.wfs, D.wf, ints_length, ints_wfs, rows_length, rows_wfs, capMax, and_true, true_and] at hwf hlw
  repeat' (first | simp only [go_sem, Ret_eq Try.results160] | fail)
  refine awpI_while (σ := Nat × Nat × Nat × Bool × Bool × List Int) (fun x => x.2.1 - x.1) (fun x => Rest a b l x.1 x.2.1 x.2.2.2.2.2 ∧ x.2.2.1 ≤ 60000) (fun x => [(1, .v (.int .i64 x.1)), (2, .v (.int .i64 x.2.1)), (3, .v (.int .i64 x.2.2.1)), (8, .v (.bool x.2.2.2.1)), (9, .v (.bool x.2.2.2.2.1))]) (fun x => [(0, own16 x.2.2.2.2.2)]) [0, 100000] [] (a, b, lim0, true, true, l) _ (Weak.refl _) ⟨Rest.start hab hb hA, hli⟩ ?_ ?_ ?_
  · simp only [go_sem, Ret_eq Try.results160]
  · simp only [go_sem, Ret_eq Try.results160]
  · rintro ⟨a1, b1, lim, wb, wp, l1⟩ s ⟨hR, hlim⟩ hs
    simp only [go_sem, Ret_eq Try.results160] at hs
    dsimp only at hR hlim
    have hl1 := hR.rs.length
    have r1 := hR.ra
    have r2 := hR.rab
    have r3 := hR.rb
    have ebl : (b1 : Int) - (a1 : Int) = ((b1 - a1 : Nat) : Int) := by omega
    by_cases h12 : b1 - a1 ≤ 12
    · have hin := insertion16 l1 a1 b1 r2 (by omega) (by omega)
      rw [hl1] at hin
      repeat' (first | simp only [go_sem, hs, ebl, Ret_eq Try.results160] | simp (disch := omega) only [arith, IntKind.bits, capMax, fill_len, elt_fill] | refine RetL_calc Try.results160 rfl ?_ | (refine opCallI_lend [0] (by simp only [go_sem, hs, ebl, Ret_eq Try.results160]; first | done | rfl) (by simp only [go_sem, hs, ebl, Ret_eq Try.results160]; first | done | rfl) (by decide) (by simp only [go_sem, hs, ebl, Ret_eq Try.results160]; first | done | decide) (by simp only [go_sem, hs, ebl, Ret_eq Try.results160]; first | done | decide) (hin) ?_; rintro _ _ ⟨rfl, l2, rfl, s2, d2⟩) | fail)
      all_goals exact ⟨rfl, l2, rfl, hR.done s2 d2⟩
    · by_cases hlim0 : lim = 0
      · subst hlim0
        have hin := heap16 l1 a1 b1 (by omega) (by omega) (by omega)
        rw [hl1] at hin
        repeat' (first | simp only [go_sem, hs, ebl, beq_self_eq_true, Ret_eq Try.results160] | simp (disch := omega) only [arith, IntKind.bits, capMax, fill_len, elt_fill] | refine RetL_calc Try.results160 rfl ?_ | (refine opCallI_lend [0] (by simp only [go_sem, hs, ebl, beq_self_eq_true, Ret_eq Try.results160]; first | done | rfl) (by simp only [go_sem, hs, ebl, beq_self_eq_true, Ret_eq Try.results160]; first | done | rfl) (by decide) (by simp only [go_sem, hs, ebl, beq_self_eq_true, Ret_eq Try.results160]; first | done | decide) (by simp only [go_sem, hs, ebl, beq_self_eq_true, Ret_eq Try.results160]; first | done | decide) (hin) ?_; rintro _ _ ⟨rfl, l2, rfl, s2, d2⟩) | fail)
        all_goals exact ⟨rfl, l2, rfl, hR.done s2 d2⟩
      · have hlb : ((lim : Int) == 0) = false := beq_eq_false_iff_ne.2 (by omega)
        have elim : (lim : Int) - 1 = ((lim - 1 : Nat) : Int) := by omega
        cases wb with
        | false =>
          have hbr := break16 l1 a1 b1 r2 (by omega) (by omega)
          rw [hl1] at hbr
          repeat' (first | simp only [go_sem, hs, ebl, hlb, elim, Ret_eq Try.results160] | simp (disch := omega) only [arith, IntKind.bits, capMax, fill_len, elt_fill] | (refine opCallI_lend [0] (by simp only [go_sem, hs, ebl, hlb, elim, Ret_eq Try.results160]; first | done | rfl) (by simp only [go_sem, hs, ebl, hlb, elim, Ret_eq Try.results160]; first | done | rfl) (by decide) (by simp only [go_sem, hs, ebl, hlb, elim, Ret_eq Try.results160]; first | done | decide) (by simp only [go_sem, hs, ebl, hlb, elim, Ret_eq Try.results160]; first | done | decide) (hbr) ?_; rintro _ _ ⟨rfl, l2, rfl, s2⟩) | fail)
          have hR2 := hR.sw s2
          have hl2 := hR2.rs.length
          have hch := choose16 l2 a1 b1 (by omega) (by omega) (by omega)
          rw [hl2] at hch
          refine opCallI_lend [0] (by simp only [go_sem, hs, ebl, hlb, elim, Ret_eq Try.results160]; first | done | rfl) (by simp only [go_sem, hs, ebl, hlb, elim, Ret_eq Try.results160]; first | done | rfl) (by decide) (by simp only [go_sem, hs, ebl, hlb, elim, Ret_eq Try.results160]; first | done | decide) (by simp only [go_sem, hs, ebl, hlb, elim, Ret_eq Try.results160]; first | done | decide) (hch) ?_
          rintro _ _ ⟨x, h, rfl, rfl, hx1, hx2⟩
          by_cases hh : h = 2
          · subst hh
            have hrv := reverse16 l2 a1 b1 r2 (by omega) (by omega) (by omega)
            rw [hl2] at hrv
            repeat' (first | simp only [go_sem, hs, ebl, hlb, elim, beq_self_eq_true, Ret_eq Try.results160] | fail)
            refine opCallI_lend [0] (by simp only [go_sem, hs, ebl, hlb, elim, Ret_eq Try.results160]; first | done | rfl) (by simp only [go_sem, hs, ebl, hlb, elim, Ret_eq Try.results160]; first | done | rfl) (by decide) (by simp only [go_sem, hs, ebl, hlb, elim, Ret_eq Try.results160]; first | done | decide) (by simp only [go_sem, hs, ebl, hlb, elim, Ret_eq Try.results160]; first | done | decide) (hrv) ?_
            rintro _ _ ⟨rfl, l3, rfl, s3⟩
            have hR3 := hR2.sw s3
            have ev : (b1 : Int) - 1 - ((x : Int) - (a1 : Int)) = ((b1 - 1 - (x - a1) : Nat) : Int) := by omega
            have hv : a1 ≤ b1 - 1 - (x - a1) ∧ b1 - 1 - (x - a1) < b1 := by omega
            generalize b1 - 1 - (x - a1) = v at *
            have hL : l3.length = l.length := hR3.rs.length
            by_cases ha : 0 < a1
            · have ea : (a1 : Int) - 1 = ((a1 - 1 : Nat) : Int) := by omega
              have hls := lessS16_fun (l3.getD (a1 - 1) 0) (l3.getD v 0)
              by_cases hlt : l3.getD (a1 - 1) 0 < l3.getD v 0
              · rw [decide_eq_true hlt] at hls
                repeat' (first | simp only [go_sem, hs, ebl, hlb, elim, ev, ea, hL, Ret_eq Try.results160] | simp (disch := omega) only [arith, IntKind.bits, capMax, fill_len, elt_fill] | (refine awpI_draw2 (id := 17) (.one false 0 (.one false 1 (.one false 2 (.one false 3 (.one false 4 (.one false 5 (.one false 6 (.one false 7 (.one false 8 (.one false 9 (.one false 10 (.one false 11 (.only 12 (.one false 13 (.one false 14 .done))))))))))))))) mixed (by decide +kernel) (by decide +kernel) ?_) | (refine opCallI_rd (by simp only [go_sem, hs, ebl, hlb, elim, ev, ea, hL, Ret_eq Try.results160]; first | done | rfl) (hls) (by rintro _ rfl; rfl) ?_; rintro _ rfl) | fail)
                have hpt := part16 l3 a1 b1 v hv (by omega) (by omega)
                rw [hL] at hpt
                refine opCallI_lend [0] (by simp only [go_sem, hs, ebl, hlb, elim, ev, ea, Ret_eq Try.results160]; first | done | rfl) (by simp only [go_sem, hs, ebl, hlb, elim, ev, ea, Ret_eq Try.results160]; first | done | rfl) (by decide) (by simp only [go_sem, hs, ebl, hlb, elim, ev, ea, Ret_eq Try.results160]; first | done | decide) (by simp only [go_sem, hs, ebl, hlb, elim, ev, ea, Ret_eq Try.results160]; first | done | decide) (hpt) ?_
                rintro _ _ ⟨m, t, rfl, l5, rfl, s5, p5⟩
                have hR5 := hR3.sw s5
                have hl5 := hR5.rs.length
                have q1 := p5.h1
                have q2 := p5.h2
                have em1 : (m : Int) - (a1 : Int) = ((m - a1 : Nat) : Int) := by omega
                have em2 : (b1 : Int) - (m : Int) = ((b1 - m : Nat) : Int) := by omega
                have em3 : ((b1 - a1 : Nat) : Int).tdiv 8 = ((b1 - a1 : Nat) : Int) / 8 := Int.tdiv_eq_ediv_of_nonneg (by omega)
                have hA5 := hR5.rh
                have hAl : Ahd a1 m l5 := by
                  rcases hA5 with z | z
                  · exact .inl z
                  · exact .inr fun k k1 k2 => z k k1 (by omega)
                have hAr : Ahd (m + 1) b1 l5 := .inr fun k k1 k2 => by
                  rw [show m + 1 - 1 = m by omega]
                  exact p5.h4 k (by omega) k2
                by_cases hsm : m - a1 < b1 - m
                · have hrec : SortsL16 _ l5 a1 m (lim - 1) := ih (m - a1) (by omega) l5 a1 m (lim - 1) (Nat.le_refl _) q1 (by omega) (by omega) (by omega) hAl
                  unfold SortsL16 at hrec
                  rw [hl5] at hrec
                  repeat' (first | simp only [go_sem, hs, ebl, hlb, elim, ev, ea, em1, em2, em3, Ret_eq Try.results160] | simp (disch := omega) only [arith, IntKind.bits, capMax, fill_len, elt_fill] | fail)
                  refine opCallI_lend [0] (by simp only [go_sem, hs, ebl, hlb, elim, ev, ea, em1, em2, em3, Ret_eq Try.results160]; first | done | rfl) (by simp only [go_sem, hs, ebl, hlb, elim, ev, ea, em1, em2, em3, Ret_eq Try.results160]; first | done | rfl) (by decide) (by simp only [go_sem, hs, ebl, hlb, elim, ev, ea, em1, em2, em3, Ret_eq Try.results160]; first | done | decide) (by simp only [go_sem, hs, ebl, hlb, elim, ev, ea, em1, em2, em3, Ret_eq Try.results160]; first | done | decide) (hrec) ?_
                  rintro _ _ ⟨rfl, l6, rfl, s6, d6⟩
                  repeat' (first | simp only [go_sem, hs, ebl, hlb, elim, ev, ea, em1, em2, em3, Ret_eq Try.results160] | simp (disch := omega) only [arith, IntKind.bits, capMax, fill_len, elt_fill] | fail)
                  refine AgainW.to (m + 1, b1, (lim - 1), decide (((b1 - a1 : Nat) : Int) / 8 ≤ ((m - a1 : Nat) : Int)), t, l6) ?_ ?_ ?_
                  · show b1 - (m + 1) < b1 - a1; omega
                  · exact ⟨hR5.left p5 s6 d6, by show (lim - 1) ≤ 60000; omega⟩
                  · simp only [go_sem, hs, ebl, hlb, elim, ev, ea, em1, em2, em3, Ret_eq Try.results160]
                · have hrec : SortsL16 _ l5 (m + 1) b1 (lim - 1) := ih (b1 - (m + 1)) (by omega) l5 (m + 1) b1 (lim - 1) (Nat.le_refl _) (by omega) (by omega) (by omega) (by omega) hAr
                  unfold SortsL16 at hrec
                  rw [hl5] at hrec
                  repeat' (first | simp only [go_sem, hs, ebl, hlb, elim, ev, ea, em1, em2, em3, Ret_eq Try.results160] | simp (disch := omega) only [arith, IntKind.bits, capMax, fill_len, elt_fill] | fail)
                  refine opCallI_lend [0] (by simp only [go_sem, hs, ebl, hlb, elim, ev, ea, em1, em2, em3, Ret_eq Try.results160]; first | done | rfl) (by simp only [go_sem, hs, ebl, hlb, elim, ev, ea, em1, em2, em3, Ret_eq Try.results160]; first | done | rfl) (by decide) (by simp only [go_sem, hs, ebl, hlb, elim, ev, ea, em1, em2, em3, Ret_eq Try.results160]; first | done | decide) (by simp only [go_sem, hs, ebl, hlb, elim, ev, ea, em1, em2, em3, Ret_eq Try.results160]; first | done | decide) (hrec) ?_
                  rintro _ _ ⟨rfl, l6, rfl, s6, d6⟩
                  repeat' (first | simp only [go_sem, hs, ebl, hlb, elim, ev, ea, em1, em2, em3, Ret_eq Try.results160] | fail)
                  refine AgainW.to (a1, m, (lim - 1), decide (((b1 - a1 : Nat) : Int) / 8 ≤ ((b1 - m : Nat) : Int)), t, l6) ?_ ?_ ?_
                  · show m - a1 < b1 - a1; omega
                  · exact ⟨hR5.right p5 s6 d6, by show (lim - 1) ≤ 60000; omega⟩
                  · simp only [go_sem, hs, ebl, hlb, elim, ev, ea, em1, em2, em3, Ret_eq Try.results160]
              · rw [decide_eq_false hlt] at hls
                repeat' (first | simp only [go_sem, hs, ebl, hlb, elim, ev, ea, hL, Ret_eq Try.results160] | simp (disch := omega) only [arith, IntKind.bits, capMax, fill_len, elt_fill] | (refine awpI_draw2 (id := 17) (.one false 0 (.one false 1 (.one false 2 (.one false 3 (.one false 4 (.one false 5 (.one false 6 (.one false 7 (.one false 8 (.one false 9 (.one false 10 (.one false 11 (.only 12 (.one false 13 (.one false 14 .done))))))))))))))) mixed (by decide +kernel) (by decide +kernel) ?_) | (refine opCallI_rd (by simp only [go_sem, hs, ebl, hlb, elim, ev, ea, hL, Ret_eq Try.results160]; first | done | rfl) (hls) (by rintro _ rfl; rfl) ?_; rintro _ rfl) | fail)
                have hpe := partEq16 l3 a1 b1 v hv (by omega) (by omega)
                rw [hL] at hpe
                refine opCallI_lend [0] (by simp only [go_sem, hs, ebl, hlb, elim, ev, ea, Ret_eq Try.results160]; first | done | rfl) (by simp only [go_sem, hs, ebl, hlb, elim, ev, ea, Ret_eq Try.results160]; first | done | rfl) (by decide) (by simp only [go_sem, hs, ebl, hlb, elim, ev, ea, Ret_eq Try.results160]; first | done | decide) (by simp only [go_sem, hs, ebl, hlb, elim, ev, ea, Ret_eq Try.results160]; first | done | decide) (hpe) ?_
                rintro _ _ ⟨m, rfl, l5, rfl, s5, p5⟩
                repeat' (first | simp only [go_sem, hs, ebl, hlb, elim, ev, ea, Ret_eq Try.results160] | fail)
                refine AgainW.to (m, b1, (lim - 1), false, wp, l5) ?_ ?_ ?_
                · show b1 - m < b1 - a1; have := p5.h1; have := p5.h2; omega
                · exact ⟨(hR3.sw s5).eqPart p5 (s5.all (P := fun z => _ ≤ z) (hR3.ahead ha hv (by omega))), by show (lim - 1) ≤ 60000; omega⟩
                · simp only [go_sem, hs, ebl, hlb, elim, ev, ea, Ret_eq Try.results160]
            · repeat' (first | simp only [go_sem, hs, ebl, hlb, elim, ev, Ret_eq Try.results160] | simp (disch := omega) only [arith, IntKind.bits, capMax, fill_len, elt_fill] | (refine awpI_draw2 (id := 17) (.one false 0 (.one false 1 (.one false 2 (.one false 3 (.one false 4 (.one false 5 (.one false 6 (.one false 7 (.one false 8 (.one false 9 (.one false 10 (.one false 11 (.only 12 (.one false 13 (.one false 14 .done))))))))))))))) mixed (by decide +kernel) (by decide +kernel) ?_) | fail)
              have hpt := part16 l3 a1 b1 v hv (by omega) (by omega)
              rw [hL] at hpt
              refine opCallI_lend [0] (by simp only [go_sem, hs, ebl, hlb, elim, ev, Ret_eq Try.results160]; first | done | rfl) (by simp only [go_sem, hs, ebl, hlb, elim, ev, Ret_eq Try.results160]; first | done | rfl) (by decide) (by simp only [go_sem, hs, ebl, hlb, elim, ev, Ret_eq Try.results160]; first | done | decide) (by simp only [go_sem, hs, ebl, hlb, elim, ev, Ret_eq Try.results160]; first | done | decide) (hpt) ?_
              rintro _ _ ⟨m, t, rfl, l5, rfl, s5, p5⟩
              have hR5 := hR3.sw s5
              have hl5 := hR5.rs.length
              have q1 := p5.h1
              have q2 := p5.h2
              have em1 : (m : Int) - (a1 : Int) = ((m - a1 : Nat) : Int) := by omega
              have em2 : (b1 : Int) - (m : Int) = ((b1 - m : Nat) : Int) := by omega
              have em3 : ((b1 - a1 : Nat) : Int).tdiv 8 = ((b1 - a1 : Nat) : Int) / 8 := Int.tdiv_eq_ediv_of_nonneg (by omega)
              have hA5 := hR5.rh
              have hAl : Ahd a1 m l5 := by
                rcases hA5 with z | z
                · exact .inl z
                · exact .inr fun k k1 k2 => z k k1 (by omega)
              have hAr : Ahd (m + 1) b1 l5 := .inr fun k k1 k2 => by
                rw [show m + 1 - 1 = m by omega]
                exact p5.h4 k (by omega) k2
              by_cases hsm : m - a1 < b1 - m
              · have hrec : SortsL16 _ l5 a1 m (lim - 1) := ih (m - a1) (by omega) l5 a1 m (lim - 1) (Nat.le_refl _) q1 (by omega) (by omega) (by omega) hAl
                unfold SortsL16 at hrec
                rw [hl5] at hrec
                repeat' (first | simp only [go_sem, hs, ebl, hlb, elim, ev, em1, em2, em3, Ret_eq Try.results160] | simp (disch := omega) only [arith, IntKind.bits, capMax, fill_len, elt_fill] | fail)
                refine opCallI_lend [0] (by simp only [go_sem, hs, ebl, hlb, elim, ev, em1, em2, em3, Ret_eq Try.results160]; first | done | rfl) (by simp only [go_sem, hs, ebl, hlb, elim, ev, em1, em2, em3, Ret_eq Try.results160]; first | done | rfl) (by decide) (by simp only [go_sem, hs, ebl, hlb, elim, ev, em1, em2, em3, Ret_eq Try.results160]; first | done | decide) (by simp only [go_sem, hs, ebl, hlb, elim, ev, em1, em2, em3, Ret_eq Try.results160]; first | done | decide) (hrec) ?_
                rintro _ _ ⟨rfl, l6, rfl, s6, d6⟩
                repeat' (first | simp only [go_sem, hs, ebl, hlb, elim, ev, em1, em2, em3, Ret_eq Try.results160] | simp (disch := omega) only [arith, IntKind.bits, capMax, fill_len, elt_fill] | fail)
                refine AgainW.to (m + 1, b1, (lim - 1), decide (((b1 - a1 : Nat) : Int) / 8 ≤ ((m - a1 : Nat) : Int)), t, l6) ?_ ?_ ?_
                · show b1 - (m + 1) < b1 - a1; omega
                · exact ⟨hR5.left p5 s6 d6, by show (lim - 1) ≤ 60000; omega⟩
                · simp only [go_sem, hs, ebl, hlb, elim, ev, em1, em2, em3, Ret_eq Try.results160]
              · have hrec : SortsL16 _ l5 (m + 1) b1 (lim - 1) := ih (b1 - (m + 1)) (by omega) l5 (m + 1) b1 (lim - 1) (Nat.le_refl _) (by omega) (by omega) (by omega) (by omega) hAr
                unfold SortsL16 at hrec
                rw [hl5] at hrec
                repeat' (first | simp only [go_sem, hs, ebl, hlb, elim, ev, em1, em2, em3, Ret_eq Try.results160] | simp (disch := omega) only [arith, IntKind.bits, capMax, fill_len, elt_fill] | fail)
                refine opCallI_lend [0] (by simp only [go_sem, hs, ebl, hlb, elim, ev, em1, em2, em3, Ret_eq Try.results160]; first | done | rfl) (by simp only [go_sem, hs, ebl, hlb, elim, ev, em1, em2, em3, Ret_eq Try.results160]; first | done | rfl) (by decide) (by simp only [go_sem, hs, ebl, hlb, elim, ev, em1, em2, em3, Ret_eq Try.results160]; first | done | decide) (by simp only [go_sem, hs, ebl, hlb, elim, ev, em1, em2, em3, Ret_eq Try.results160]; first | done | decide) (hrec) ?_
                rintro _ _ ⟨rfl, l6, rfl, s6, d6⟩
                repeat' (first | simp only [go_sem, hs, ebl, hlb, elim, ev, em1, em2, em3, Ret_eq Try.results160] | fail)
                refine AgainW.to (a1, m, (lim - 1), decide (((b1 - a1 : Nat) : Int) / 8 ≤ ((b1 - m : Nat) : Int)), t, l6) ?_ ?_ ?_
                · show m - a1 < b1 - a1; omega
                · exact ⟨hR5.right p5 s6 d6, by show (lim - 1) ≤ 60000; omega⟩
                · simp only [go_sem, hs, ebl, hlb, elim, ev, em1, em2, em3, Ret_eq Try.results160]
          · have hhb : (h == 2) = false := beq_eq_false_iff_ne.2 hh
            have hv : a1 ≤ x ∧ x < b1 := ⟨hx1, hx2⟩
            have hL : l2.length = l.length := hR2.rs.length
            by_cases ha : 0 < a1
            · have ea : (a1 : Int) - 1 = ((a1 - 1 : Nat) : Int) := by omega
              have hls := lessS16_fun (l2.getD (a1 - 1) 0) (l2.getD x 0)
              by_cases hlt : l2.getD (a1 - 1) 0 < l2.getD x 0
              · rw [decide_eq_true hlt] at hls
                repeat' (first | simp only [go_sem, hs, ebl, hlb, elim, hhb, ea, hL, Ret_eq Try.results160] | simp (disch := omega) only [arith, IntKind.bits, capMax, fill_len, elt_fill] | (refine awpI_draw2 (id := 17) (.one false 0 (.one false 1 (.one false 2 (.one false 3 (.one false 4 (.one false 5 (.one false 6 (.one false 7 (.one false 8 (.one false 9 (.one false 10 (.one false 11 (.only 12 (.one false 13 (.one false 14 .done))))))))))))))) mixed (by decide +kernel) (by decide +kernel) ?_) | (refine opCallI_rd (by simp only [go_sem, hs, ebl, hlb, elim, hhb, ea, hL, Ret_eq Try.results160]; first | done | rfl) (hls) (by rintro _ rfl; rfl) ?_; rintro _ rfl) | fail)
                have hpt := part16 l2 a1 b1 x hv (by omega) (by omega)
                rw [hL] at hpt
                refine opCallI_lend [0] (by simp only [go_sem, hs, ebl, hlb, elim, hhb, ea, Ret_eq Try.results160]; first | done | rfl) (by simp only [go_sem, hs, ebl, hlb, elim, hhb, ea, Ret_eq Try.results160]; first | done | rfl) (by decide) (by simp only [go_sem, hs, ebl, hlb, elim, hhb, ea, Ret_eq Try.results160]; first | done | decide) (by simp only [go_sem, hs, ebl, hlb, elim, hhb, ea, Ret_eq Try.results160]; first | done | decide) (hpt) ?_
                rintro _ _ ⟨m, t, rfl, l5, rfl, s5, p5⟩
                have hR5 := hR2.sw s5
                have hl5 := hR5.rs.length
                have q1 := p5.h1
                have q2 := p5.h2
                have em1 : (m : Int) - (a1 : Int) = ((m - a1 : Nat) : Int) := by omega
                have em2 : (b1 : Int) - (m : Int) = ((b1 - m : Nat) : Int) := by omega
                have em3 : ((b1 - a1 : Nat) : Int).tdiv 8 = ((b1 - a1 : Nat) : Int) / 8 := Int.tdiv_eq_ediv_of_nonneg (by omega)
                have hA5 := hR5.rh
                have hAl : Ahd a1 m l5 := by
                  rcases hA5 with z | z
                  · exact .inl z
                  · exact .inr fun k k1 k2 => z k k1 (by omega)
                have hAr : Ahd (m + 1) b1 l5 := .inr fun k k1 k2 => by
                  rw [show m + 1 - 1 = m by omega]
                  exact p5.h4 k (by omega) k2
                by_cases hsm : m - a1 < b1 - m
                · have hrec : SortsL16 _ l5 a1 m (lim - 1) := ih (m - a1) (by omega) l5 a1 m (lim - 1) (Nat.le_refl _) q1 (by omega) (by omega) (by omega) hAl
                  unfold SortsL16 at hrec
                  rw [hl5] at hrec
                  repeat' (first | simp only [go_sem, hs, ebl, hlb, elim, hhb, ea, em1, em2, em3, Ret_eq Try.results160] | simp (disch := omega) only [arith, IntKind.bits, capMax, fill_len, elt_fill] | fail)
                  refine opCallI_lend [0] (by simp only [go_sem, hs, ebl, hlb, elim, hhb, ea, em1, em2, em3, Ret_eq Try.results160]; first | done | rfl) (by simp only [go_sem, hs, ebl, hlb, elim, hhb, ea, em1, em2, em3, Ret_eq Try.results160]; first | done | rfl) (by decide) (by simp only [go_sem, hs, ebl, hlb, elim, hhb, ea, em1, em2, em3, Ret_eq Try.results160]; first | done | decide) (by simp only [go_sem, hs, ebl, hlb, elim, hhb, ea, em1, em2, em3, Ret_eq Try.results160]; first | done | decide) (hrec) ?_
                  rintro _ _ ⟨rfl, l6, rfl, s6, d6⟩
                  repeat' (first | simp only [go_sem, hs, ebl, hlb, elim, hhb, ea, em1, em2, em3, Ret_eq Try.results160] | simp (disch := omega) only [arith, IntKind.bits, capMax, fill_len, elt_fill] | fail)
                  refine AgainW.to (m + 1, b1, (lim - 1), decide (((b1 - a1 : Nat) : Int) / 8 ≤ ((m - a1 : Nat) : Int)), t, l6) ?_ ?_ ?_
                  · show b1 - (m + 1) < b1 - a1; omega
                  · exact ⟨hR5.left p5 s6 d6, by show (lim - 1) ≤ 60000; omega⟩
                  · simp only [go_sem, hs, ebl, hlb, elim, hhb, ea, em1, em2, em3, Ret_eq Try.results160]
                · have hrec : SortsL16 _ l5 (m + 1) b1 (lim - 1) := ih (b1 - (m + 1)) (by omega) l5 (m + 1) b1 (lim - 1) (Nat.le_refl _) (by omega) (by omega) (by omega) (by omega) hAr
                  unfold SortsL16 at hrec
                  rw [hl5] at hrec
                  repeat' (first | simp only [go_sem, hs, ebl, hlb, elim, hhb, ea, em1, em2, em3, Ret_eq Try.results160] | simp (disch := omega) only [arith, IntKind.bits, capMax, fill_len, elt_fill] | fail)
                  refine opCallI_lend [0] (by simp only [go_sem, hs, ebl, hlb, elim, hhb, ea, em1, em2, em3, Ret_eq Try.results160]; first | done | rfl) (by simp only [go_sem, hs, ebl, hlb, elim, hhb, ea, em1, em2, em3, Ret_eq Try.results160]; first | done | rfl) (by decide) (by simp only [go_sem, hs, ebl, hlb, elim, hhb, ea, em1, em2, em3, Ret_eq Try.results160]; first | done | decide) (by simp only [go_sem, hs, ebl, hlb, elim, hhb, ea, em1, em2, em3, Ret_eq Try.results160]; first | done | decide) (hrec) ?_
                  rintro _ _ ⟨rfl, l6, rfl, s6, d6⟩
                  repeat' (first | simp only [go_sem, hs, ebl, hlb, elim, hhb, ea, em1, em2, em3, Ret_eq Try.results160] | fail)
                  refine AgainW.to (a1, m, (lim - 1), decide (((b1 - a1 : Nat) : Int) / 8 ≤ ((b1 - m : Nat) : Int)), t, l6) ?_ ?_ ?_
                  · show m - a1 < b1 - a1; omega
                  · exact ⟨hR5.right p5 s6 d6, by show (lim - 1) ≤ 60000; omega⟩
                  · simp only [go_sem, hs, ebl, hlb, elim, hhb, ea, em1, em2, em3, Ret_eq Try.results160]
              · rw [decide_eq_false hlt] at hls
                repeat' (first | simp only [go_sem, hs, ebl, hlb, elim, hhb, ea, hL, Ret_eq Try.results160] | simp (disch := omega) only [arith, IntKind.bits, capMax, fill_len, elt_fill] | (refine awpI_draw2 (id := 17) (.one false 0 (.one false 1 (.one false 2 (.one false 3 (.one false 4 (.one false 5 (.one false 6 (.one false 7 (.one false 8 (.one false 9 (.one false 10 (.one false 11 (.only 12 (.one false 13 (.one false 14 .done))))))))))))))) mixed (by decide +kernel) (by decide +kernel) ?_) | (refine opCallI_rd (by simp only [go_sem, hs, ebl, hlb, elim, hhb, ea, hL, Ret_eq Try.results160]; first | done | rfl) (hls) (by rintro _ rfl; rfl) ?_; rintro _ rfl) | fail)
                have hpe := partEq16 l2 a1 b1 x hv (by omega) (by omega)
                rw [hL] at hpe
                refine opCallI_lend [0] (by simp only [go_sem, hs, ebl, hlb, elim, hhb, ea, Ret_eq Try.results160]; first | done | rfl) (by simp only [go_sem, hs, ebl, hlb, elim, hhb, ea, Ret_eq Try.results160]; first | done | rfl) (by decide) (by simp only [go_sem, hs, ebl, hlb, elim, hhb, ea, Ret_eq Try.results160]; first | done | decide) (by simp only [go_sem, hs, ebl, hlb, elim, hhb, ea, Ret_eq Try.results160]; first | done | decide) (hpe) ?_
                rintro _ _ ⟨m, rfl, l5, rfl, s5, p5⟩
                repeat' (first | simp only [go_sem, hs, ebl, hlb, elim, hhb, ea, Ret_eq Try.results160] | fail)
                refine AgainW.to (m, b1, (lim - 1), false, wp, l5) ?_ ?_ ?_
                · show b1 - m < b1 - a1; have := p5.h1; have := p5.h2; omega
                · exact ⟨(hR2.sw s5).eqPart p5 (s5.all (P := fun z => _ ≤ z) (hR2.ahead ha hv (by omega))), by show (lim - 1) ≤ 60000; omega⟩
                · simp only [go_sem, hs, ebl, hlb, elim, hhb, ea, Ret_eq Try.results160]
            · repeat' (first | simp only [go_sem, hs, ebl, hlb, elim, hhb, Ret_eq Try.results160] | simp (disch := omega) only [arith, IntKind.bits, capMax, fill_len, elt_fill] | (refine awpI_draw2 (id := 17) (.one false 0 (.one false 1 (.one false 2 (.one false 3 (.one false 4 (.one false 5 (.one false 6 (.one false 7 (.one false 8 (.one false 9 (.one false 10 (.one false 11 (.only 12 (.one false 13 (.one false 14 .done))))))))))))))) mixed (by decide +kernel) (by decide +kernel) ?_) | fail)
              have hpt := part16 l2 a1 b1 x hv (by omega) (by omega)
              rw [hL] at hpt
              refine opCallI_lend [0] (by simp only [go_sem, hs, ebl, hlb, elim, hhb, Ret_eq Try.results160]; first | done | rfl) (by simp only [go_sem, hs, ebl, hlb, elim, hhb, Ret_eq Try.results160]; first | done | rfl) (by decide) (by simp only [go_sem, hs, ebl, hlb, elim, hhb, Ret_eq Try.results160]; first | done | decide) (by simp only [go_sem, hs, ebl, hlb, elim, hhb, Ret_eq Try.results160]; first | done | decide) (hpt) ?_
              rintro _ _ ⟨m, t, rfl, l5, rfl, s5, p5⟩
              have hR5 := hR2.sw s5
              have hl5 := hR5.rs.length
              have q1 := p5.h1
              have q2 := p5.h2
              have em1 : (m : Int) - (a1 : Int) = ((m - a1 : Nat) : Int) := by omega
              have em2 : (b1 : Int) - (m : Int) = ((b1 - m : Nat) : Int) := by omega
              have em3 : ((b1 - a1 : Nat) : Int).tdiv 8 = ((b1 - a1 : Nat) : Int) / 8 := Int.tdiv_eq_ediv_of_nonneg (by omega)
              have hA5 := hR5.rh
              have hAl : Ahd a1 m l5 := by
                rcases hA5 with z | z
                · exact .inl z
                · exact .inr fun k k1 k2 => z k k1 (by omega)
              have hAr : Ahd (m + 1) b1 l5 := .inr fun k k1 k2 => by
                rw [show m + 1 - 1 = m by omega]
                exact p5.h4 k (by omega) k2
              by_cases hsm : m - a1 < b1 - m
              · have hrec : SortsL16 _ l5 a1 m (lim - 1) := ih (m - a1) (by omega) l5 a1 m (lim - 1) (Nat.le_refl _) q1 (by omega) (by omega) (by omega) hAl
                unfold SortsL16 at hrec
                rw [hl5] at hrec
                repeat' (first | simp only [go_sem, hs, ebl, hlb, elim, hhb, em1, em2, em3, Ret_eq Try.results160] | simp (disch := omega) only [arith, IntKind.bits, capMax, fill_len, elt_fill] | fail)
                refine opCallI_lend [0] (by simp only [go_sem, hs, ebl, hlb, elim, hhb, em1, em2, em3, Ret_eq Try.results160]; first | done | rfl) (by simp only [go_sem, hs, ebl, hlb, elim, hhb, em1, em2, em3, Ret_eq Try.results160]; first | done | rfl) (by decide) (by simp only [go_sem, hs, ebl, hlb, elim, hhb, em1, em2, em3, Ret_eq Try.results160]; first | done | decide) (by simp only [go_sem, hs, ebl, hlb, elim, hhb, em1, em2, em3, Ret_eq Try.results160]; first | done | decide) (hrec) ?_
                rintro _ _ ⟨rfl, l6, rfl, s6, d6⟩
                repeat' (first | simp only [go_sem, hs, ebl, hlb, elim, hhb, em1, em2, em3, Ret_eq Try.results160] | simp (disch := omega) only [arith, IntKind.bits, capMax, fill_len, elt_fill] | fail)
                refine AgainW.to (m + 1, b1, (lim - 1), decide (((b1 - a1 : Nat) : Int) / 8 ≤ ((m - a1 : Nat) : Int)), t, l6) ?_ ?_ ?_
                · show b1 - (m + 1) < b1 - a1; omega
                · exact ⟨hR5.left p5 s6 d6, by show (lim - 1) ≤ 60000; omega⟩
                · simp only [go_sem, hs, ebl, hlb, elim, hhb, em1, em2, em3, Ret_eq Try.results160]
              · have hrec : SortsL16 _ l5 (m + 1) b1 (lim - 1) := ih (b1 - (m + 1)) (by omega) l5 (m + 1) b1 (lim - 1) (Nat.le_refl _) (by omega) (by omega) (by omega) (by omega) hAr
                unfold SortsL16 at hrec
                rw [hl5] at hrec
                repeat' (first | simp only [go_sem, hs, ebl, hlb, elim, hhb, em1, em2, em3, Ret_eq Try.results160] | simp (disch := omega) only [arith, IntKind.bits, capMax, fill_len, elt_fill] | fail)
                refine opCallI_lend [0] (by simp only [go_sem, hs, ebl, hlb, elim, hhb, em1, em2, em3, Ret_eq Try.results160]; first | done | rfl) (by simp only [go_sem, hs, ebl, hlb, elim, hhb, em1, em2, em3, Ret_eq Try.results160]; first | done | rfl) (by decide) (by simp only [go_sem, hs, ebl, hlb, elim, hhb, em1, em2, em3, Ret_eq Try.results160]; first | done | decide) (by simp only [go_sem, hs, ebl, hlb, elim, hhb, em1, em2, em3, Ret_eq Try.results160]; first | done | decide) (hrec) ?_
                rintro _ _ ⟨rfl, l6, rfl, s6, d6⟩
                repeat' (first | simp only [go_sem, hs, ebl, hlb, elim, hhb, em1, em2, em3, Ret_eq Try.results160] | fail)
                refine AgainW.to (a1, m, (lim - 1), decide (((b1 - a1 : Nat) : Int) / 8 ≤ ((b1 - m : Nat) : Int)), t, l6) ?_ ?_ ?_
                · show m - a1 < b1 - a1; omega
                · exact ⟨hR5.right p5 s6 d6, by show (lim - 1) ≤ 60000; omega⟩
                · simp only [go_sem, hs, ebl, hlb, elim, hhb, em1, em2, em3, Ret_eq Try.results160]
        | true =>
          have hR2 := hR
          have hl2 := hl1
          have hch := choose16 l1 a1 b1 (by omega) (by omega) (by omega)
          rw [hl1] at hch
          repeat' (first | simp only [go_sem, hs, ebl, hlb, elim, Ret_eq Try.results160] | simp (disch := omega) only [arith, IntKind.bits, capMax, fill_len, elt_fill] | fail)
          refine opCallI_lend [0] (by simp only [go_sem, hs, ebl, hlb, elim, Ret_eq Try.results160]; first | done | rfl) (by simp only [go_sem, hs, ebl, hlb, elim, Ret_eq Try.results160]; first | done | rfl) (by decide) (by simp only [go_sem, hs, ebl, hlb, elim, Ret_eq Try.results160]; first | done | decide) (by simp only [go_sem, hs, ebl, hlb, elim, Ret_eq Try.results160]; first | done | decide) (hch) ?_
          rintro _ _ ⟨x, h, rfl, rfl, hx1, hx2⟩
          by_cases hh : h = 2
          · subst hh
            have hrv := reverse16 l1 a1 b1 r2 (by omega) (by omega) (by omega)
            rw [hl2] at hrv
            repeat' (first | simp only [go_sem, hs, ebl, hlb, elim, beq_self_eq_true, Ret_eq Try.results160] | fail)
            refine opCallI_lend [0] (by simp only [go_sem, hs, ebl, hlb, elim, Ret_eq Try.results160]; first | done | rfl) (by simp only [go_sem, hs, ebl, hlb, elim, Ret_eq Try.results160]; first | done | rfl) (by decide) (by simp only [go_sem, hs, ebl, hlb, elim, Ret_eq Try.results160]; first | done | decide) (by simp only [go_sem, hs, ebl, hlb, elim, Ret_eq Try.results160]; first | done | decide) (hrv) ?_
            rintro _ _ ⟨rfl, l3, rfl, s3⟩
            have hR3 := hR2.sw s3
            have ev : (b1 : Int) - 1 - ((x : Int) - (a1 : Int)) = ((b1 - 1 - (x - a1) : Nat) : Int) := by omega
            have hv : a1 ≤ b1 - 1 - (x - a1) ∧ b1 - 1 - (x - a1) < b1 := by omega
            generalize b1 - 1 - (x - a1) = v at *
            cases wp with
            | true =>
              have hL : l3.length = l.length := hR3.rs.length
              have hpa := partial16 l3 a1 b1 (by omega) (by omega) (by omega) hR3.rh
              rw [hL] at hpa
              repeat' (first | simp only [go_sem, hs, ebl, hlb, elim, ev, beq_self_eq_true, Ret_eq Try.results160] | simp (disch := omega) only [arith, IntKind.bits, capMax, fill_len, elt_fill] | fail)
              refine opCallI_lend [0] (by simp only [go_sem, hs, ebl, hlb, elim, ev, Ret_eq Try.results160]; first | done | rfl) (by simp only [go_sem, hs, ebl, hlb, elim, ev, Ret_eq Try.results160]; first | done | rfl) (by decide) (by simp only [go_sem, hs, ebl, hlb, elim, ev, Ret_eq Try.results160]; first | done | decide) (by simp only [go_sem, hs, ebl, hlb, elim, ev, Ret_eq Try.results160]; first | done | decide) (hpa) ?_
              rintro _ _ ⟨t0, rfl, l4, rfl, s4, d4⟩
              have hR4 := hR3.sw s4
              cases t0 with
              | true =>
                repeat' (first | simp only [go_sem, hs, ebl, hlb, elim, ev, Ret_eq Try.results160] | refine RetL_calc Try.results160 rfl ?_ | fail)
                all_goals exact ⟨rfl, l4, rfl, hR3.done s4 (d4 rfl)⟩
              | false =>
                have hL : l4.length = l.length := hR4.rs.length
                by_cases ha : 0 < a1
                · have ea : (a1 : Int) - 1 = ((a1 - 1 : Nat) : Int) := by omega
                  have hls := lessS16_fun (l4.getD (a1 - 1) 0) (l4.getD v 0)
                  by_cases hlt : l4.getD (a1 - 1) 0 < l4.getD v 0
                  · rw [decide_eq_true hlt] at hls
                    repeat' (first | simp only [go_sem, hs, ebl, hlb, elim, ev, ea, hL, Ret_eq Try.results160] | simp (disch := omega) only [arith, IntKind.bits, capMax, fill_len, elt_fill] | (refine awpI_draw2 (id := 17) (.one false 0 (.one false 1 (.one false 2 (.one false 3 (.one false 4 (.one false 5 (.one false 6 (.one false 7 (.one false 8 (.one false 9 (.one false 10 (.one false 11 (.only 12 (.one false 13 (.one false 14 .done))))))))))))))) mixed (by decide +kernel) (by decide +kernel) ?_) | (refine opCallI_rd (by simp only [go_sem, hs, ebl, hlb, elim, ev, ea, hL, Ret_eq Try.results160]; first | done | rfl) (hls) (by rintro _ rfl; rfl) ?_; rintro _ rfl) | fail)
                    have hpt := part16 l4 a1 b1 v hv (by omega) (by omega)
                    rw [hL] at hpt
                    refine opCallI_lend [0] (by simp only [go_sem, hs, ebl, hlb, elim, ev, ea, Ret_eq Try.results160]; first | done | rfl) (by simp only [go_sem, hs, ebl, hlb, elim, ev, ea, Ret_eq Try.results160]; first | done | rfl) (by decide) (by simp only [go_sem, hs, ebl, hlb, elim, ev, ea, Ret_eq Try.results160]; first | done | decide) (by simp only [go_sem, hs, ebl, hlb, elim, ev, ea, Ret_eq Try.results160]; first | done | decide) (hpt) ?_
                    rintro _ _ ⟨m, t, rfl, l5, rfl, s5, p5⟩
                    have hR5 := hR4.sw s5
                    have hl5 := hR5.rs.length
                    have q1 := p5.h1
                    have q2 := p5.h2
                    have em1 : (m : Int) - (a1 : Int) = ((m - a1 : Nat) : Int) := by omega
                    have em2 : (b1 : Int) - (m : Int) = ((b1 - m : Nat) : Int) := by omega
                    have em3 : ((b1 - a1 : Nat) : Int).tdiv 8 = ((b1 - a1 : Nat) : Int) / 8 := Int.tdiv_eq_ediv_of_nonneg (by omega)
                    have hA5 := hR5.rh
                    have hAl : Ahd a1 m l5 := by
                      rcases hA5 with z | z
                      · exact .inl z
                      · exact .inr fun k k1 k2 => z k k1 (by omega)
                    have hAr : Ahd (m + 1) b1 l5 := .inr fun k k1 k2 => by
                      rw [show m + 1 - 1 = m by omega]
                      exact p5.h4 k (by omega) k2
                    by_cases hsm : m - a1 < b1 - m
                    · have hrec : SortsL16 _ l5 a1 m lim := ih (m - a1) (by omega) l5 a1 m lim (Nat.le_refl _) q1 (by omega) (by omega) (by omega) hAl
                      unfold SortsL16 at hrec
                      rw [hl5] at hrec
                      repeat' (first | simp only [go_sem, hs, ebl, hlb, elim, ev, ea, em1, em2, em3, Ret_eq Try.results160] | simp (disch := omega) only [arith, IntKind.bits, capMax, fill_len, elt_fill] | fail)
                      refine opCallI_lend [0] (by simp only [go_sem, hs, ebl, hlb, elim, ev, ea, em1, em2, em3, Ret_eq Try.results160]; first | done | rfl) (by simp only [go_sem, hs, ebl, hlb, elim, ev, ea, em1, em2, em3, Ret_eq Try.results160]; first | done | rfl) (by decide) (by simp only [go_sem, hs, ebl, hlb, elim, ev, ea, em1, em2, em3, Ret_eq Try.results160]; first | done | decide) (by simp only [go_sem, hs, ebl, hlb, elim, ev, ea, em1, em2, em3, Ret_eq Try.results160]; first | done | decide) (hrec) ?_
                      rintro _ _ ⟨rfl, l6, rfl, s6, d6⟩
                      repeat' (first | simp only [go_sem, hs, ebl, hlb, elim, ev, ea, em1, em2, em3, Ret_eq Try.results160] | simp (disch := omega) only [arith, IntKind.bits, capMax, fill_len, elt_fill] | fail)
                      refine AgainW.to (m + 1, b1, lim, decide (((b1 - a1 : Nat) : Int) / 8 ≤ ((m - a1 : Nat) : Int)), t, l6) ?_ ?_ ?_
                      · show b1 - (m + 1) < b1 - a1; omega
                      · exact ⟨hR5.left p5 s6 d6, by show lim ≤ 60000; omega⟩
                      · simp only [go_sem, hs, ebl, hlb, elim, ev, ea, em1, em2, em3, Ret_eq Try.results160]
                    · have hrec : SortsL16 _ l5 (m + 1) b1 lim := ih (b1 - (m + 1)) (by omega) l5 (m + 1) b1 lim (Nat.le_refl _) (by omega) (by omega) (by omega) (by omega) hAr
                      unfold SortsL16 at hrec
                      rw [hl5] at hrec
                      repeat' (first | simp only [go_sem, hs, ebl, hlb, elim, ev, ea, em1, em2, em3, Ret_eq Try.results160] | simp (disch := omega) only [arith, IntKind.bits, capMax, fill_len, elt_fill] | fail)
                      refine opCallI_lend [0] (by simp only [go_sem, hs, ebl, hlb, elim, ev, ea, em1, em2, em3, Ret_eq Try.results160]; first | done | rfl) (by simp only [go_sem, hs, ebl, hlb, elim, ev, ea, em1, em2, em3, Ret_eq Try.results160]; first | done | rfl) (by decide) (by simp only [go_sem, hs, ebl, hlb, elim, ev, ea, em1, em2, em3, Ret_eq Try.results160]; first | done | decide) (by simp only [go_sem, hs, ebl, hlb, elim, ev, ea, em1, em2, em3, Ret_eq Try.results160]; first | done | decide) (hrec) ?_
                      rintro _ _ ⟨rfl, l6, rfl, s6, d6⟩
                      repeat' (first | simp only [go_sem, hs, ebl, hlb, elim, ev, ea, em1, em2, em3, Ret_eq Try.results160] | fail)
                      refine AgainW.to (a1, m, lim, decide (((b1 - a1 : Nat) : Int) / 8 ≤ ((b1 - m : Nat) : Int)), t, l6) ?_ ?_ ?_
                      · show m - a1 < b1 - a1; omega
                      · exact ⟨hR5.right p5 s6 d6, by show lim ≤ 60000; omega⟩
                      · simp only [go_sem, hs, ebl, hlb, elim, ev, ea, em1, em2, em3, Ret_eq Try.results160]
                  · rw [decide_eq_false hlt] at hls
                    repeat' (first | simp only [go_sem, hs, ebl, hlb, elim, ev, ea, hL, Ret_eq Try.results160] | simp (disch := omega) only [arith, IntKind.bits, capMax, fill_len, elt_fill] | (refine awpI_draw2 (id := 17) (.one false 0 (.one false 1 (.one false 2 (.one false 3 (.one false 4 (.one false 5 (.one false 6 (.one false 7 (.one false 8 (.one false 9 (.one false 10 (.one false 11 (.only 12 (.one false 13 (.one false 14 .done))))))))))))))) mixed (by decide +kernel) (by decide +kernel) ?_) | (refine opCallI_rd (by simp only [go_sem, hs, ebl, hlb, elim, ev, ea, hL, Ret_eq Try.results160]; first | done | rfl) (hls) (by rintro _ rfl; rfl) ?_; rintro _ rfl) | fail)
                    have hpe := partEq16 l4 a1 b1 v hv (by omega) (by omega)
                    rw [hL] at hpe
                    refine opCallI_lend [0] (by simp only [go_sem, hs, ebl, hlb, elim, ev, ea, Ret_eq Try.results160]; first | done | rfl) (by simp only [go_sem, hs, ebl, hlb, elim, ev, ea, Ret_eq Try.results160]; first | done | rfl) (by decide) (by simp only [go_sem, hs, ebl, hlb, elim, ev, ea, Ret_eq Try.results160]; first | done | decide) (by simp only [go_sem, hs, ebl, hlb, elim, ev, ea, Ret_eq Try.results160]; first | done | decide) (hpe) ?_
                    rintro _ _ ⟨m, rfl, l5, rfl, s5, p5⟩
                    repeat' (first | simp only [go_sem, hs, ebl, hlb, elim, ev, ea, Ret_eq Try.results160] | fail)
                    refine AgainW.to (m, b1, lim, true, true, l5) ?_ ?_ ?_
                    · show b1 - m < b1 - a1; have := p5.h1; have := p5.h2; omega
                    · exact ⟨(hR4.sw s5).eqPart p5 (s5.all (P := fun z => _ ≤ z) (hR4.ahead ha hv (by omega))), by show lim ≤ 60000; omega⟩
                    · simp only [go_sem, hs, ebl, hlb, elim, ev, ea, Ret_eq Try.results160]
                · repeat' (first | simp only [go_sem, hs, ebl, hlb, elim, ev, Ret_eq Try.results160] | simp (disch := omega) only [arith, IntKind.bits, capMax, fill_len, elt_fill] | (refine awpI_draw2 (id := 17) (.one false 0 (.one false 1 (.one false 2 (.one false 3 (.one false 4 (.one false 5 (.one false 6 (.one false 7 (.one false 8 (.one false 9 (.one false 10 (.one false 11 (.only 12 (.one false 13 (.one false 14 .done))))))))))))))) mixed (by decide +kernel) (by decide +kernel) ?_) | fail)
                  have hpt := part16 l4 a1 b1 v hv (by omega) (by omega)
                  rw [hL] at hpt
                  refine opCallI_lend [0] (by simp only [go_sem, hs, ebl, hlb, elim, ev, Ret_eq Try.results160]; first | done | rfl) (by simp only [go_sem, hs, ebl, hlb, elim, ev, Ret_eq Try.results160]; first | done | rfl) (by decide) (by simp only [go_sem, hs, ebl, hlb, elim, ev, Ret_eq Try.results160]; first | done | decide) (by simp only [go_sem, hs, ebl, hlb, elim, ev, Ret_eq Try.results160]; first | done | decide) (hpt) ?_
                  rintro _ _ ⟨m, t, rfl, l5, rfl, s5, p5⟩
                  have hR5 := hR4.sw s5
                  have hl5 := hR5.rs.length
                  have q1 := p5.h1
                  have q2 := p5.h2
                  have em1 : (m : Int) - (a1 : Int) = ((m - a1 : Nat) : Int) := by omega
                  have em2 : (b1 : Int) - (m : Int) = ((b1 - m : Nat) : Int) := by omega
                  have em3 : ((b1 - a1 : Nat) : Int).tdiv 8 = ((b1 - a1 : Nat) : Int) / 8 := Int.tdiv_eq_ediv_of_nonneg (by omega)
                  have hA5 := hR5.rh
                  have hAl : Ahd a1 m l5 := by
                    rcases hA5 with z | z
                    · exact .inl z
                    · exact .inr fun k k1 k2 => z k k1 (by omega)
                  have hAr : Ahd (m + 1) b1 l5 := .inr fun k k1 k2 => by
                    rw [show m + 1 - 1 = m by omega]
                    exact p5.h4 k (by omega) k2
                  by_cases hsm : m - a1 < b1 - m
                  · have hrec : SortsL16 _ l5 a1 m lim := ih (m - a1) (by omega) l5 a1 m lim (Nat.le_refl _) q1 (by omega) (by omega) (by omega) hAl
                    unfold SortsL16 at hrec
                    rw [hl5] at hrec
                    repeat' (first | simp only [go_sem, hs, ebl, hlb, elim, ev, em1, em2, em3, Ret_eq Try.results160] | simp (disch := omega) only [arith, IntKind.bits, capMax, fill_len, elt_fill] | fail)
                    refine opCallI_lend [0] (by simp only [go_sem, hs, ebl, hlb, elim, ev, em1, em2, em3, Ret_eq Try.results160]; first | done | rfl) (by simp only [go_sem, hs, ebl, hlb, elim, ev, em1, em2, em3, Ret_eq Try.results160]; first | done | rfl) (by decide) (by simp only [go_sem, hs, ebl, hlb, elim, ev, em1, em2, em3, Ret_eq Try.results160]; first | done | decide) (by simp only [go_sem, hs, ebl, hlb, elim, ev, em1, em2, em3, Ret_eq Try.results160]; first | done | decide) (hrec) ?_
                    rintro _ _ ⟨rfl, l6, rfl, s6, d6⟩
                    repeat' (first | simp only [go_sem, hs, ebl, hlb, elim, ev, em1, em2, em3, Ret_eq Try.results160] | simp (disch := omega) only [arith, IntKind.bits, capMax, fill_len, elt_fill] | fail)
                    refine AgainW.to (m + 1, b1, lim, decide (((b1 - a1 : Nat) : Int) / 8 ≤ ((m - a1 : Nat) : Int)), t, l6) ?_ ?_ ?_
                    · show b1 - (m + 1) < b1 - a1; omega
                    · exact ⟨hR5.left p5 s6 d6, by show lim ≤ 60000; omega⟩
                    · simp only [go_sem, hs, ebl, hlb, elim, ev, em1, em2, em3, Ret_eq Try.results160]
                  · have hrec : SortsL16 _ l5 (m + 1) b1 lim := ih (b1 - (m + 1)) (by omega) l5 (m + 1) b1 lim (Nat.le_refl _) (by omega) (by omega) (by omega) (by omega) hAr
                    unfold SortsL16 at hrec
                    rw [hl5] at hrec
                    repeat' (first | simp only [go_sem, hs, ebl, hlb, elim, ev, em1, em2, em3, Ret_eq Try.results160] | simp (disch := omega) only [arith, IntKind.bits, capMax, fill_len, elt_fill] | fail)
                    refine opCallI_lend [0] (by simp only [go_sem, hs, ebl, hlb, elim, ev, em1, em2, em3, Ret_eq Try.results160]; first | done | rfl) (by simp only [go_sem, hs, ebl, hlb, elim, ev, em1, em2, em3, Ret_eq Try.results160]; first | done | rfl) (by decide) (by simp only [go_sem, hs, ebl, hlb, elim, ev, em1, em2, em3, Ret_eq Try.results160]; first | done | decide) (by simp only [go_sem, hs, ebl, hlb, elim, ev, em1, em2, em3, Ret_eq Try.results160]; first | done | decide) (hrec) ?_
                    rintro _ _ ⟨rfl, l6, rfl, s6, d6⟩
                    repeat' (first | simp only [go_sem, hs, ebl, hlb, elim, ev, em1, em2, em3, Ret_eq Try.results160] | fail)
                    refine AgainW.to (a1, m, lim, decide (((b1 - a1 : Nat) : Int) / 8 ≤ ((b1 - m : Nat) : Int)), t, l6) ?_ ?_ ?_
                    · show m - a1 < b1 - a1; omega
                    · exact ⟨hR5.right p5 s6 d6, by show lim ≤ 60000; omega⟩
                    · simp only [go_sem, hs, ebl, hlb, elim, ev, em1, em2, em3, Ret_eq Try.results160]
            | false =>
              have hL : l3.length = l.length := hR3.rs.length
              by_cases ha : 0 < a1
              · have ea : (a1 : Int) - 1 = ((a1 - 1 : Nat) : Int) := by omega
                have hls := lessS16_fun (l3.getD (a1 - 1) 0) (l3.getD v 0)
                by_cases hlt : l3.getD (a1 - 1) 0 < l3.getD v 0
                · rw [decide_eq_true hlt] at hls
                  repeat' (first | simp only [go_sem, hs, ebl, hlb, elim, ev, beq_self_eq_true, ea, hL, Ret_eq Try.results160] | simp (disch := omega) only [arith, IntKind.bits, capMax, fill_len, elt_fill] | (refine awpI_draw2 (id := 17) (.one false 0 (.one false 1 (.one false 2 (.one false 3 (.one false 4 (.one false 5 (.one false 6 (.one false 7 (.one false 8 (.one false 9 (.one false 10 (.one false 11 (.only 12 (.one false 13 (.one false 14 .done))))))))))))))) mixed (by decide +kernel) (by decide +kernel) ?_) | (refine opCallI_rd (by simp only [go_sem, hs, ebl, hlb, elim, ev, beq_self_eq_true, ea, hL, Ret_eq Try.results160]; first | done | rfl) (hls) (by rintro _ rfl; rfl) ?_; rintro _ rfl) | fail)
                  have hpt := part16 l3 a1 b1 v hv (by omega) (by omega)
                  rw [hL] at hpt
                  refine opCallI_lend [0] (by simp only [go_sem, hs, ebl, hlb, elim, ev, beq_self_eq_true, ea, Ret_eq Try.results160]; first | done | rfl) (by simp only [go_sem, hs, ebl, hlb, elim, ev, beq_self_eq_true, ea, Ret_eq Try.results160]; first | done | rfl) (by decide) (by simp only [go_sem, hs, ebl, hlb, elim, ev, beq_self_eq_true, ea, Ret_eq Try.results160]; first | done | decide) (by simp only [go_sem, hs, ebl, hlb, elim, ev, beq_self_eq_true, ea, Ret_eq Try.results160]; first | done | decide) (hpt) ?_
                  rintro _ _ ⟨m, t, rfl, l5, rfl, s5, p5⟩
                  have hR5 := hR3.sw s5
                  have hl5 := hR5.rs.length
                  have q1 := p5.h1
                  have q2 := p5.h2
                  have em1 : (m : Int) - (a1 : Int) = ((m - a1 : Nat) : Int) := by omega
                  have em2 : (b1 : Int) - (m : Int) = ((b1 - m : Nat) : Int) := by omega
                  have em3 : ((b1 - a1 : Nat) : Int).tdiv 8 = ((b1 - a1 : Nat) : Int) / 8 := Int.tdiv_eq_ediv_of_nonneg (by omega)
                  have hA5 := hR5.rh
                  have hAl : Ahd a1 m l5 := by
                    rcases hA5 with z | z
                    · exact .inl z
                    · exact .inr fun k k1 k2 => z k k1 (by omega)
                  have hAr : Ahd (m + 1) b1 l5 := .inr fun k k1 k2 => by
                    rw [show m + 1 - 1 = m by omega]
                    exact p5.h4 k (by omega) k2
                  by_cases hsm : m - a1 < b1 - m
                  · have hrec : SortsL16 _ l5 a1 m lim := ih (m - a1) (by omega) l5 a1 m lim (Nat.le_refl _) q1 (by omega) (by omega) (by omega) hAl
                    unfold SortsL16 at hrec
                    rw [hl5] at hrec
                    repeat' (first | simp only [go_sem, hs, ebl, hlb, elim, ev, beq_self_eq_true, ea, em1, em2, em3, Ret_eq Try.results160] | simp (disch := omega) only [arith, IntKind.bits, capMax, fill_len, elt_fill] | fail)
                    refine opCallI_lend [0] (by simp only [go_sem, hs, ebl, hlb, elim, ev, beq_self_eq_true, ea, em1, em2, em3, Ret_eq Try.results160]; first | done | rfl) (by simp only [go_sem, hs, ebl, hlb, elim, ev, beq_self_eq_true, ea, em1, em2, em3, Ret_eq Try.results160]; first | done | rfl) (by decide) (by simp only [go_sem, hs, ebl, hlb, elim, ev, beq_self_eq_true, ea, em1, em2, em3, Ret_eq Try.results160]; first | done | decide) (by simp only [go_sem, hs, ebl, hlb, elim, ev, beq_self_eq_true, ea, em1, em2, em3, Ret_eq Try.results160]; first | done | decide) (hrec) ?_
                    rintro _ _ ⟨rfl, l6, rfl, s6, d6⟩
                    repeat' (first | simp only [go_sem, hs, ebl, hlb, elim, ev, beq_self_eq_true, ea, em1, em2, em3, Ret_eq Try.results160] | simp (disch := omega) only [arith, IntKind.bits, capMax, fill_len, elt_fill] | fail)
                    refine AgainW.to (m + 1, b1, lim, decide (((b1 - a1 : Nat) : Int) / 8 ≤ ((m - a1 : Nat) : Int)), t, l6) ?_ ?_ ?_
                    · show b1 - (m + 1) < b1 - a1; omega
                    · exact ⟨hR5.left p5 s6 d6, by show lim ≤ 60000; omega⟩
                    · simp only [go_sem, hs, ebl, hlb, elim, ev, beq_self_eq_true, ea, em1, em2, em3, Ret_eq Try.results160]
                  · have hrec : SortsL16 _ l5 (m + 1) b1 lim := ih (b1 - (m + 1)) (by omega) l5 (m + 1) b1 lim (Nat.le_refl _) (by omega) (by omega) (by omega) (by omega) hAr
                    unfold SortsL16 at hrec
                    rw [hl5] at hrec
                    repeat' (first | simp only [go_sem, hs, ebl, hlb, elim, ev, beq_self_eq_true, ea, em1, em2, em3, Ret_eq Try.results160] | simp (disch := omega) only [arith, IntKind.bits, capMax, fill_len, elt_fill] | fail)
                    refine opCallI_lend [0] (by simp only [go_sem, hs, ebl, hlb, elim, ev, beq_self_eq_true, ea, em1, em2, em3, Ret_eq Try.results160]; first | done | rfl) (by simp only [go_sem, hs, ebl, hlb, elim, ev, beq_self_eq_true, ea, em1, em2, em3, Ret_eq Try.results160]; first | done | rfl) (by decide) (by simp only [go_sem, hs, ebl, hlb, elim, ev, beq_self_eq_true, ea, em1, em2, em3, Ret_eq Try.results160]; first | done | decide) (by simp only [go_sem, hs, ebl, hlb, elim, ev, beq_self_eq_true, ea, em1, em2, em3, Ret_eq Try.results160]; first | done | decide) (hrec) ?_
                    rintro _ _ ⟨rfl, l6, rfl, s6, d6⟩
                    repeat' (first | simp only [go_sem, hs, ebl, hlb, elim, ev, beq_self_eq_true, ea, em1, em2, em3, Ret_eq Try.results160] | fail)
                    refine AgainW.to (a1, m, lim, decide (((b1 - a1 : Nat) : Int) / 8 ≤ ((b1 - m : Nat) : Int)), t, l6) ?_ ?_ ?_
                    · show m - a1 < b1 - a1; omega
                    · exact ⟨hR5.right p5 s6 d6, by show lim ≤ 60000; omega⟩
                    · simp only [go_sem, hs, ebl, hlb, elim, ev, beq_self_eq_true, ea, em1, em2, em3, Ret_eq Try.results160]
                · rw [decide_eq_false hlt] at hls
                  repeat' (first | simp only [go_sem, hs, ebl, hlb, elim, ev, beq_self_eq_true, ea, hL, Ret_eq Try.results160] | simp (disch := omega) only [arith, IntKind.bits, capMax, fill_len, elt_fill] | (refine awpI_draw2 (id := 17) (.one false 0 (.one false 1 (.one false 2 (.one false 3 (.one false 4 (.one false 5 (.one false 6 (.one false 7 (.one false 8 (.one false 9 (.one false 10 (.one false 11 (.only 12 (.one false 13 (.one false 14 .done))))))))))))))) mixed (by decide +kernel) (by decide +kernel) ?_) | (refine opCallI_rd (by simp only [go_sem, hs, ebl, hlb, elim, ev, beq_self_eq_true, ea, hL, Ret_eq Try.results160]; first | done | rfl) (hls) (by rintro _ rfl; rfl) ?_; rintro _ rfl) | fail)
                  have hpe := partEq16 l3 a1 b1 v hv (by omega) (by omega)
                  rw [hL] at hpe
                  refine opCallI_lend [0] (by simp only [go_sem, hs, ebl, hlb, elim, ev, beq_self_eq_true, ea, Ret_eq Try.results160]; first | done | rfl) (by simp only [go_sem, hs, ebl, hlb, elim, ev, beq_self_eq_true, ea, Ret_eq Try.results160]; first | done | rfl) (by decide) (by simp only [go_sem, hs, ebl, hlb, elim, ev, beq_self_eq_true, ea, Ret_eq Try.results160]; first | done | decide) (by simp only [go_sem, hs, ebl, hlb, elim, ev, beq_self_eq_true, ea, Ret_eq Try.results160]; first | done | decide) (hpe) ?_
                  rintro _ _ ⟨m, rfl, l5, rfl, s5, p5⟩
                  repeat' (first | simp only [go_sem, hs, ebl, hlb, elim, ev, beq_self_eq_true, ea, Ret_eq Try.results160] | fail)
                  refine AgainW.to (m, b1, lim, true, false, l5) ?_ ?_ ?_
                  · show b1 - m < b1 - a1; have := p5.h1; have := p5.h2; omega
                  · exact ⟨(hR3.sw s5).eqPart p5 (s5.all (P := fun z => _ ≤ z) (hR3.ahead ha hv (by omega))), by show lim ≤ 60000; omega⟩
                  · simp only [go_sem, hs, ebl, hlb, elim, ev, beq_self_eq_true, ea, Ret_eq Try.results160]
              · repeat' (first | simp only [go_sem, hs, ebl, hlb, elim, ev, beq_self_eq_true, Ret_eq Try.results160] | simp (disch := omega) only [arith, IntKind.bits, capMax, fill_len, elt_fill] | (refine awpI_draw2 (id := 17) (.one false 0 (.one false 1 (.one false 2 (.one false 3 (.one false 4 (.one false 5 (.one false 6 (.one false 7 (.one false 8 (.one false 9 (.one false 10 (.one false 11 (.only 12 (.one false 13 (.one false 14 .done))))))))))))))) mixed (by decide +kernel) (by decide +kernel) ?_) | fail)
                have hpt := part16 l3 a1 b1 v hv (by omega) (by omega)
                rw [hL] at hpt
                refine opCallI_lend [0] (by simp only [go_sem, hs, ebl, hlb, elim, ev, beq_self_eq_true, Ret_eq Try.results160]; first | done | rfl) (by simp only [go_sem, hs, ebl, hlb, elim, ev, beq_self_eq_true, Ret_eq Try.results160]; first | done | rfl) (by decide) (by simp only [go_sem, hs, ebl, hlb, elim, ev, beq_self_eq_true, Ret_eq Try.results160]; first | done | decide) (by simp only [go_sem, hs, ebl, hlb, elim, ev, beq_self_eq_true, Ret_eq Try.results160]; first | done | decide) (hpt) ?_
                rintro _ _ ⟨m, t, rfl, l5, rfl, s5, p5⟩
                have hR5 := hR3.sw s5
                have hl5 := hR5.rs.length
                have q1 := p5.h1
                have q2 := p5.h2
                have em1 : (m : Int) - (a1 : Int) = ((m - a1 : Nat) : Int) := by omega
                have em2 : (b1 : Int) - (m : Int) = ((b1 - m : Nat) : Int) := by omega
                have em3 : ((b1 - a1 : Nat) : Int).tdiv 8 = ((b1 - a1 : Nat) : Int) / 8 := Int.tdiv_eq_ediv_of_nonneg (by omega)
                have hA5 := hR5.rh
                have hAl : Ahd a1 m l5 := by
                  rcases hA5 with z | z
                  · exact .inl z
                  · exact .inr fun k k1 k2 => z k k1 (by omega)
                have hAr : Ahd (m + 1) b1 l5 := .inr fun k k1 k2 => by
                  rw [show m + 1 - 1 = m by omega]
                  exact p5.h4 k (by omega) k2
                by_cases hsm : m - a1 < b1 - m
                · have hrec : SortsL16 _ l5 a1 m lim := ih (m - a1) (by omega) l5 a1 m lim (Nat.le_refl _) q1 (by omega) (by omega) (by omega) hAl
                  unfold SortsL16 at hrec
                  rw [hl5] at hrec
                  repeat' (first | simp only [go_sem, hs, ebl, hlb, elim, ev, beq_self_eq_true, em1, em2, em3, Ret_eq Try.results160] | simp (disch := omega) only [arith, IntKind.bits, capMax, fill_len, elt_fill] | fail)
                  refine opCallI_lend [0] (by simp only [go_sem, hs, ebl, hlb, elim, ev, beq_self_eq_true, em1, em2, em3, Ret_eq Try.results160]; first | done | rfl) (by simp only [go_sem, hs, ebl, hlb, elim, ev, beq_self_eq_true, em1, em2, em3, Ret_eq Try.results160]; first | done | rfl) (by decide) (by simp only [go_sem, hs, ebl, hlb, elim, ev, beq_self_eq_true, em1, em2, em3, Ret_eq Try.results160]; first | done | decide) (by simp only [go_sem, hs, ebl, hlb, elim, ev, beq_self_eq_true, em1, em2, em3, Ret_eq Try.results160]; first | done | decide) (hrec) ?_
                  rintro _ _ ⟨rfl, l6, rfl, s6, d6⟩
                  repeat' (first | simp only [go_sem, hs, ebl, hlb, elim, ev, beq_self_eq_true, em1, em2, em3, Ret_eq Try.results160] | simp (disch := omega) only [arith, IntKind.bits, capMax, fill_len, elt_fill] | fail)
                  refine AgainW.to (m + 1, b1, lim, decide (((b1 - a1 : Nat) : Int) / 8 ≤ ((m - a1 : Nat) : Int)), t, l6) ?_ ?_ ?_
                  · show b1 - (m + 1) < b1 - a1; omega
                  · exact ⟨hR5.left p5 s6 d6, by show lim ≤ 60000; omega⟩
                  · simp only [go_sem, hs, ebl, hlb, elim, ev, beq_self_eq_true, em1, em2, em3, Ret_eq Try.results160]
                · have hrec : SortsL16 _ l5 (m + 1) b1 lim := ih (b1 - (m + 1)) (by omega) l5 (m + 1) b1 lim (Nat.le_refl _) (by omega) (by omega) (by omega) (by omega) hAr
                  unfold SortsL16 at hrec
                  rw [hl5] at hrec
                  repeat' (first | simp only [go_sem, hs, ebl, hlb, elim, ev, beq_self_eq_true, em1, em2, em3, Ret_eq Try.results160] | simp (disch := omega) only [arith, IntKind.bits, capMax, fill_len, elt_fill] | fail)
                  refine opCallI_lend [0] (by simp only [go_sem, hs, ebl, hlb, elim, ev, beq_self_eq_true, em1, em2, em3, Ret_eq Try.results160]; first | done | rfl) (by simp only [go_sem, hs, ebl, hlb, elim, ev, beq_self_eq_true, em1, em2, em3, Ret_eq Try.results160]; first | done | rfl) (by decide) (by simp only [go_sem, hs, ebl, hlb, elim, ev, beq_self_eq_true, em1, em2, em3, Ret_eq Try.results160]; first | done | decide) (by simp only [go_sem, hs, ebl, hlb, elim, ev, beq_self_eq_true, em1, em2, em3, Ret_eq Try.results160]; first | done | decide) (hrec) ?_
                  rintro _ _ ⟨rfl, l6, rfl, s6, d6⟩
                  repeat' (first | simp only [go_sem, hs, ebl, hlb, elim, ev, beq_self_eq_true, em1, em2, em3, Ret_eq Try.results160] | fail)
                  refine AgainW.to (a1, m, lim, decide (((b1 - a1 : Nat) : Int) / 8 ≤ ((b1 - m : Nat) : Int)), t, l6) ?_ ?_ ?_
                  · show m - a1 < b1 - a1; omega
                  · exact ⟨hR5.right p5 s6 d6, by show lim ≤ 60000; omega⟩
                  · simp only [go_sem, hs, ebl, hlb, elim, ev, beq_self_eq_true, em1, em2, em3, Ret_eq Try.results160]
          · have hhb : (h == 2) = false := beq_eq_false_iff_ne.2 hh
            have hv : a1 ≤ x ∧ x < b1 := ⟨hx1, hx2⟩
            by_cases h1 : h = 1
            · subst h1
              cases wp with
              | true =>
                have hL : l1.length = l.length := hR2.rs.length
                have hpa := partial16 l1 a1 b1 (by omega) (by omega) (by omega) hR2.rh
                rw [hL] at hpa
                repeat' (first | simp only [go_sem, hs, ebl, hlb, elim, hhb, beq_self_eq_true, Ret_eq Try.results160] | fail)
                refine opCallI_lend [0] (by simp only [go_sem, hs, ebl, hlb, elim, hhb, Ret_eq Try.results160]; first | done | rfl) (by simp only [go_sem, hs, ebl, hlb, elim, hhb, Ret_eq Try.results160]; first | done | rfl) (by decide) (by simp only [go_sem, hs, ebl, hlb, elim, hhb, Ret_eq Try.results160]; first | done | decide) (by simp only [go_sem, hs, ebl, hlb, elim, hhb, Ret_eq Try.results160]; first | done | decide) (hpa) ?_
                rintro _ _ ⟨t0, rfl, l4, rfl, s4, d4⟩
                have hR4 := hR2.sw s4
                cases t0 with
                | true =>
                  repeat' (first | simp only [go_sem, hs, ebl, hlb, elim, hhb, Ret_eq Try.results160] | refine RetL_calc Try.results160 rfl ?_ | fail)
                  all_goals exact ⟨rfl, l4, rfl, hR2.done s4 (d4 rfl)⟩
                | false =>
                  have hL : l4.length = l.length := hR4.rs.length
                  by_cases ha : 0 < a1
                  · have ea : (a1 : Int) - 1 = ((a1 - 1 : Nat) : Int) := by omega
                    have hls := lessS16_fun (l4.getD (a1 - 1) 0) (l4.getD x 0)
                    by_cases hlt : l4.getD (a1 - 1) 0 < l4.getD x 0
                    · rw [decide_eq_true hlt] at hls
                      repeat' (first | simp only [go_sem, hs, ebl, hlb, elim, hhb, ea, hL, Ret_eq Try.results160] | simp (disch := omega) only [arith, IntKind.bits, capMax, fill_len, elt_fill] | (refine awpI_draw2 (id := 17) (.one false 0 (.one false 1 (.one false 2 (.one false 3 (.one false 4 (.one false 5 (.one false 6 (.one false 7 (.one false 8 (.one false 9 (.one false 10 (.one false 11 (.only 12 (.one false 13 (.one false 14 .done))))))))))))))) mixed (by decide +kernel) (by decide +kernel) ?_) | (refine opCallI_rd (by simp only [go_sem, hs, ebl, hlb, elim, hhb, ea, hL, Ret_eq Try.results160]; first | done | rfl) (hls) (by rintro _ rfl; rfl) ?_; rintro _ rfl) | fail)
                      have hpt := part16 l4 a1 b1 x hv (by omega) (by omega)
                      rw [hL] at hpt
                      refine opCallI_lend [0] (by simp only [go_sem, hs, ebl, hlb, elim, hhb, ea, Ret_eq Try.results160]; first | done | rfl) (by simp only [go_sem, hs, ebl, hlb, elim, hhb, ea, Ret_eq Try.results160]; first | done | rfl) (by decide) (by simp only [go_sem, hs, ebl, hlb, elim, hhb, ea, Ret_eq Try.results160]; first | done | decide) (by simp only [go_sem, hs, ebl, hlb, elim, hhb, ea, Ret_eq Try.results160]; first | done | decide) (hpt) ?_
                      rintro _ _ ⟨m, t, rfl, l5, rfl, s5, p5⟩
                      have hR5 := hR4.sw s5
                      have hl5 := hR5.rs.length
                      have q1 := p5.h1
                      have q2 := p5.h2
                      have em1 : (m : Int) - (a1 : Int) = ((m - a1 : Nat) : Int) := by omega
                      have em2 : (b1 : Int) - (m : Int) = ((b1 - m : Nat) : Int) := by omega
                      have em3 : ((b1 - a1 : Nat) : Int).tdiv 8 = ((b1 - a1 : Nat) : Int) / 8 := Int.tdiv_eq_ediv_of_nonneg (by omega)
                      have hA5 := hR5.rh
                      have hAl : Ahd a1 m l5 := by
                        rcases hA5 with z | z
                        · exact .inl z
                        · exact .inr fun k k1 k2 => z k k1 (by omega)
                      have hAr : Ahd (m + 1) b1 l5 := .inr fun k k1 k2 => by
                        rw [show m + 1 - 1 = m by omega]
                        exact p5.h4 k (by omega) k2
                      by_cases hsm : m - a1 < b1 - m
                      · have hrec : SortsL16 _ l5 a1 m lim := ih (m - a1) (by omega) l5 a1 m lim (Nat.le_refl _) q1 (by omega) (by omega) (by omega) hAl
                        unfold SortsL16 at hrec
                        rw [hl5] at hrec
                        repeat' (first | simp only [go_sem, hs, ebl, hlb, elim, hhb, ea, em1, em2, em3, Ret_eq Try.results160] | simp (disch := omega) only [arith, IntKind.bits, capMax, fill_len, elt_fill] | fail)
                        refine opCallI_lend [0] (by simp only [go_sem, hs, ebl, hlb, elim, hhb, ea, em1, em2, em3, Ret_eq Try.results160]; first | done | rfl) (by simp only [go_sem, hs, ebl, hlb, elim, hhb, ea, em1, em2, em3, Ret_eq Try.results160]; first | done | rfl) (by decide) (by simp only [go_sem, hs, ebl, hlb, elim, hhb, ea, em1, em2, em3, Ret_eq Try.results160]; first | done | decide) (by simp only [go_sem, hs, ebl, hlb, elim, hhb, ea, em1, em2, em3, Ret_eq Try.results160]; first | done | decide) (hrec) ?_
                        rintro _ _ ⟨rfl, l6, rfl, s6, d6⟩
                        repeat' (first | simp only [go_sem, hs, ebl, hlb, elim, hhb, ea, em1, em2, em3, Ret_eq Try.results160] | simp (disch := omega) only [arith, IntKind.bits, capMax, fill_len, elt_fill] | fail)
                        refine AgainW.to (m + 1, b1, lim, decide (((b1 - a1 : Nat) : Int) / 8 ≤ ((m - a1 : Nat) : Int)), t, l6) ?_ ?_ ?_
                        · show b1 - (m + 1) < b1 - a1; omega
                        · exact ⟨hR5.left p5 s6 d6, by show lim ≤ 60000; omega⟩
                        · simp only [go_sem, hs, ebl, hlb, elim, hhb, ea, em1, em2, em3, Ret_eq Try.results160]
                      · have hrec : SortsL16 _ l5 (m + 1) b1 lim := ih (b1 - (m + 1)) (by omega) l5 (m + 1) b1 lim (Nat.le_refl _) (by omega) (by omega) (by omega) (by omega) hAr
                        unfold SortsL16 at hrec
                        rw [hl5] at hrec
                        repeat' (first | simp only [go_sem, hs, ebl, hlb, elim, hhb, ea, em1, em2, em3, Ret_eq Try.results160] | simp (disch := omega) only [arith, IntKind.bits, capMax, fill_len, elt_fill] | fail)
                        refine opCallI_lend [0] (by simp only [go_sem, hs, ebl, hlb, elim, hhb, ea, em1, em2, em3, Ret_eq Try.results160]; first | done | rfl) (by simp only [go_sem, hs, ebl, hlb, elim, hhb, ea, em1, em2, em3, Ret_eq Try.results160]; first | done | rfl) (by decide) (by simp only [go_sem, hs, ebl, hlb, elim, hhb, ea, em1, em2, em3, Ret_eq Try.results160]; first | done | decide) (by simp only [go_sem, hs, ebl, hlb, elim, hhb, ea, em1, em2, em3, Ret_eq Try.results160]; first | done | decide) (hrec) ?_
                        rintro _ _ ⟨rfl, l6, rfl, s6, d6⟩
                        repeat' (first | simp only [go_sem, hs, ebl, hlb, elim, hhb, ea, em1, em2, em3, Ret_eq Try.results160] | fail)
                        refine AgainW.to (a1, m, lim, decide (((b1 - a1 : Nat) : Int) / 8 ≤ ((b1 - m : Nat) : Int)), t, l6) ?_ ?_ ?_
                        · show m - a1 < b1 - a1; omega
                        · exact ⟨hR5.right p5 s6 d6, by show lim ≤ 60000; omega⟩
                        · simp only [go_sem, hs, ebl, hlb, elim, hhb, ea, em1, em2, em3, Ret_eq Try.results160]
                    · rw [decide_eq_false hlt] at hls
                      repeat' (first | simp only [go_sem, hs, ebl, hlb, elim, hhb, ea, hL, Ret_eq Try.results160] | simp (disch := omega) only [arith, IntKind.bits, capMax, fill_len, elt_fill] | (refine awpI_draw2 (id := 17) (.one false 0 (.one false 1 (.one false 2 (.one false 3 (.one false 4 (.one false 5 (.one false 6 (.one false 7 (.one false 8 (.one false 9 (.one false 10 (.one false 11 (.only 12 (.one false 13 (.one false 14 .done))))))))))))))) mixed (by decide +kernel) (by decide +kernel) ?_) | (refine opCallI_rd (by simp only [go_sem, hs, ebl, hlb, elim, hhb, ea, hL, Ret_eq Try.results160]; first | done | rfl) (hls) (by rintro _ rfl; rfl) ?_; rintro _ rfl) | fail)
                      have hpe := partEq16 l4 a1 b1 x hv (by omega) (by omega)
                      rw [hL] at hpe
                      refine opCallI_lend [0] (by simp only [go_sem, hs, ebl, hlb, elim, hhb, ea, Ret_eq Try.results160]; first | done | rfl) (by simp only [go_sem, hs, ebl, hlb, elim, hhb, ea, Ret_eq Try.results160]; first | done | rfl) (by decide) (by simp only [go_sem, hs, ebl, hlb, elim, hhb, ea, Ret_eq Try.results160]; first | done | decide) (by simp only [go_sem, hs, ebl, hlb, elim, hhb, ea, Ret_eq Try.results160]; first | done | decide) (hpe) ?_
                      rintro _ _ ⟨m, rfl, l5, rfl, s5, p5⟩
                      repeat' (first | simp only [go_sem, hs, ebl, hlb, elim, hhb, ea, Ret_eq Try.results160] | fail)
                      refine AgainW.to (m, b1, lim, true, true, l5) ?_ ?_ ?_
                      · show b1 - m < b1 - a1; have := p5.h1; have := p5.h2; omega
                      · exact ⟨(hR4.sw s5).eqPart p5 (s5.all (P := fun z => _ ≤ z) (hR4.ahead ha hv (by omega))), by show lim ≤ 60000; omega⟩
                      · simp only [go_sem, hs, ebl, hlb, elim, hhb, ea, Ret_eq Try.results160]
                  · repeat' (first | simp only [go_sem, hs, ebl, hlb, elim, hhb, Ret_eq Try.results160] | simp (disch := omega) only [arith, IntKind.bits, capMax, fill_len, elt_fill] | (refine awpI_draw2 (id := 17) (.one false 0 (.one false 1 (.one false 2 (.one false 3 (.one false 4 (.one false 5 (.one false 6 (.one false 7 (.one false 8 (.one false 9 (.one false 10 (.one false 11 (.only 12 (.one false 13 (.one false 14 .done))))))))))))))) mixed (by decide +kernel) (by decide +kernel) ?_) | fail)
                    have hpt := part16 l4 a1 b1 x hv (by omega) (by omega)
                    rw [hL] at hpt
                    refine opCallI_lend [0] (by simp only [go_sem, hs, ebl, hlb, elim, hhb, Ret_eq Try.results160]; first | done | rfl) (by simp only [go_sem, hs, ebl, hlb, elim, hhb, Ret_eq Try.results160]; first | done | rfl) (by decide) (by simp only [go_sem, hs, ebl, hlb, elim, hhb, Ret_eq Try.results160]; first | done | decide) (by simp only [go_sem, hs, ebl, hlb, elim, hhb, Ret_eq Try.results160]; first | done | decide) (hpt) ?_
                    rintro _ _ ⟨m, t, rfl, l5, rfl, s5, p5⟩
                    have hR5 := hR4.sw s5
                    have hl5 := hR5.rs.length
                    have q1 := p5.h1
                    have q2 := p5.h2
                    have em1 : (m : Int) - (a1 : Int) = ((m - a1 : Nat) : Int) := by omega
                    have em2 : (b1 : Int) - (m : Int) = ((b1 - m : Nat) : Int) := by omega
                    have em3 : ((b1 - a1 : Nat) : Int).tdiv 8 = ((b1 - a1 : Nat) : Int) / 8 := Int.tdiv_eq_ediv_of_nonneg (by omega)
                    have hA5 := hR5.rh
                    have hAl : Ahd a1 m l5 := by
                      rcases hA5 with z | z
                      · exact .inl z
                      · exact .inr fun k k1 k2 => z k k1 (by omega)
                    have hAr : Ahd (m + 1) b1 l5 := .inr fun k k1 k2 => by
                      rw [show m + 1 - 1 = m by omega]
                      exact p5.h4 k (by omega) k2
                    by_cases hsm : m - a1 < b1 - m
                    · have hrec : SortsL16 _ l5 a1 m lim := ih (m - a1) (by omega) l5 a1 m lim (Nat.le_refl _) q1 (by omega) (by omega) (by omega) hAl
                      unfold SortsL16 at hrec
                      rw [hl5] at hrec
                      repeat' (first | simp only [go_sem, hs, ebl, hlb, elim, hhb, em1, em2, em3, Ret_eq Try.results160] | simp (disch := omega) only [arith, IntKind.bits, capMax, fill_len, elt_fill] | fail)
                      refine opCallI_lend [0] (by simp only [go_sem, hs, ebl, hlb, elim, hhb, em1, em2, em3, Ret_eq Try.results160]; first | done | rfl) (by simp only [go_sem, hs, ebl, hlb, elim, hhb, em1, em2, em3, Ret_eq Try.results160]; first | done | rfl) (by decide) (by simp only [go_sem, hs, ebl, hlb, elim, hhb, em1, em2, em3, Ret_eq Try.results160]; first | done | decide) (by simp only [go_sem, hs, ebl, hlb, elim, hhb, em1, em2, em3, Ret_eq Try.results160]; first | done | decide) (hrec) ?_
                      rintro _ _ ⟨rfl, l6, rfl, s6, d6⟩
                      repeat' (first | simp only [go_sem, hs, ebl, hlb, elim, hhb, em1, em2, em3, Ret_eq Try.results160] | simp (disch := omega) only [arith, IntKind.bits, capMax, fill_len, elt_fill] | fail)
                      refine AgainW.to (m + 1, b1, lim, decide (((b1 - a1 : Nat) : Int) / 8 ≤ ((m - a1 : Nat) : Int)), t, l6) ?_ ?_ ?_
                      · show b1 - (m + 1) < b1 - a1; omega
                      · exact ⟨hR5.left p5 s6 d6, by show lim ≤ 60000; omega⟩
                      · simp only [go_sem, hs, ebl, hlb, elim, hhb, em1, em2, em3, Ret_eq Try.results160]
                    · have hrec : SortsL16 _ l5 (m + 1) b1 lim := ih (b1 - (m + 1)) (by omega) l5 (m + 1) b1 lim (Nat.le_refl _) (by omega) (by omega) (by omega) (by omega) hAr
                      unfold SortsL16 at hrec
                      rw [hl5] at hrec
                      repeat' (first | simp only [go_sem, hs, ebl, hlb, elim, hhb, em1, em2, em3, Ret_eq Try.results160] | simp (disch := omega) only [arith, IntKind.bits, capMax, fill_len, elt_fill] | fail)
                      refine opCallI_lend [0] (by simp only [go_sem, hs, ebl, hlb, elim, hhb, em1, em2, em3, Ret_eq Try.results160]; first | done | rfl) (by simp only [go_sem, hs, ebl, hlb, elim, hhb, em1, em2, em3, Ret_eq Try.results160]; first | done | rfl) (by decide) (by simp only [go_sem, hs, ebl, hlb, elim, hhb, em1, em2, em3, Ret_eq Try.results160]; first | done | decide) (by simp only [go_sem, hs, ebl, hlb, elim, hhb, em1, em2, em3, Ret_eq Try.results160]; first | done | decide) (hrec) ?_
                      rintro _ _ ⟨rfl, l6, rfl, s6, d6⟩
                      repeat' (first | simp only [go_sem, hs, ebl, hlb, elim, hhb, em1, em2, em3, Ret_eq Try.results160] | fail)
                      refine AgainW.to (a1, m, lim, decide (((b1 - a1 : Nat) : Int) / 8 ≤ ((b1 - m : Nat) : Int)), t, l6) ?_ ?_ ?_
                      · show m - a1 < b1 - a1; omega
                      · exact ⟨hR5.right p5 s6 d6, by show lim ≤ 60000; omega⟩
                      · simp only [go_sem, hs, ebl, hlb, elim, hhb, em1, em2, em3, Ret_eq Try.results160]
              | false =>
                have hL : l1.length = l.length := hR2.rs.length
                by_cases ha : 0 < a1
                · have ea : (a1 : Int) - 1 = ((a1 - 1 : Nat) : Int) := by omega
                  have hls := lessS16_fun (l1.getD (a1 - 1) 0) (l1.getD x 0)
                  by_cases hlt : l1.getD (a1 - 1) 0 < l1.getD x 0
                  · rw [decide_eq_true hlt] at hls
                    repeat' (first | simp only [go_sem, hs, ebl, hlb, elim, hhb, beq_self_eq_true, ea, hL, Ret_eq Try.results160] | simp (disch := omega) only [arith, IntKind.bits, capMax, fill_len, elt_fill] | (refine awpI_draw2 (id := 17) (.one false 0 (.one false 1 (.one false 2 (.one false 3 (.one false 4 (.one false 5 (.one false 6 (.one false 7 (.one false 8 (.one false 9 (.one false 10 (.one false 11 (.only 12 (.one false 13 (.one false 14 .done))))))))))))))) mixed (by decide +kernel) (by decide +kernel) ?_) | (refine opCallI_rd (by simp only [go_sem, hs, ebl, hlb, elim, hhb, beq_self_eq_true, ea, hL, Ret_eq Try.results160]; first | done | rfl) (hls) (by rintro _ rfl; rfl) ?_; rintro _ rfl) | fail)
                    have hpt := part16 l1 a1 b1 x hv (by omega) (by omega)
                    rw [hL] at hpt
                    refine opCallI_lend [0] (by simp only [go_sem, hs, ebl, hlb, elim, hhb, beq_self_eq_true, ea, Ret_eq Try.results160]; first | done | rfl) (by simp only [go_sem, hs, ebl, hlb, elim, hhb, beq_self_eq_true, ea, Ret_eq Try.results160]; first | done | rfl) (by decide) (by simp only [go_sem, hs, ebl, hlb, elim, hhb, beq_self_eq_true, ea, Ret_eq Try.results160]; first | done | decide) (by simp only [go_sem, hs, ebl, hlb, elim, hhb, beq_self_eq_true, ea, Ret_eq Try.results160]; first | done | decide) (hpt) ?_
                    rintro _ _ ⟨m, t, rfl, l5, rfl, s5, p5⟩
                    have hR5 := hR2.sw s5
                    have hl5 := hR5.rs.length
                    have q1 := p5.h1
                    have q2 := p5.h2
                    have em1 : (m : Int) - (a1 : Int) = ((m - a1 : Nat) : Int) := by omega
                    have em2 : (b1 : Int) - (m : Int) = ((b1 - m : Nat) : Int) := by omega
                    have em3 : ((b1 - a1 : Nat) : Int).tdiv 8 = ((b1 - a1 : Nat) : Int) / 8 := Int.tdiv_eq_ediv_of_nonneg (by omega)
                    have hA5 := hR5.rh
                    have hAl : Ahd a1 m l5 := by
                      rcases hA5 with z | z
                      · exact .inl z
                      · exact .inr fun k k1 k2 => z k k1 (by omega)
                    have hAr : Ahd (m + 1) b1 l5 := .inr fun k k1 k2 => by
                      rw [show m + 1 - 1 = m by omega]
                      exact p5.h4 k (by omega) k2
                    by_cases hsm : m - a1 < b1 - m
                    · have hrec : SortsL16 _ l5 a1 m lim := ih (m - a1) (by omega) l5 a1 m lim (Nat.le_refl _) q1 (by omega) (by omega) (by omega) hAl
                      unfold SortsL16 at hrec
                      rw [hl5] at hrec
                      repeat' (first | simp only [go_sem, hs, ebl, hlb, elim, hhb, beq_self_eq_true, ea, em1, em2, em3, Ret_eq Try.results160] | simp (disch := omega) only [arith, IntKind.bits, capMax, fill_len, elt_fill] | fail)
                      refine opCallI_lend [0] (by simp only [go_sem, hs, ebl, hlb, elim, hhb, beq_self_eq_true, ea, em1, em2, em3, Ret_eq Try.results160]; first | done | rfl) (by simp only [go_sem, hs, ebl, hlb, elim, hhb, beq_self_eq_true, ea, em1, em2, em3, Ret_eq Try.results160]; first | done | rfl) (by decide) (by simp only [go_sem, hs, ebl, hlb, elim, hhb, beq_self_eq_true, ea, em1, em2, em3, Ret_eq Try.results160]; first | done | decide) (by simp only [go_sem, hs, ebl, hlb, elim, hhb, beq_self_eq_true, ea, em1, em2, em3, Ret_eq Try.results160]; first | done | decide) (hrec) ?_
                      rintro _ _ ⟨rfl, l6, rfl, s6, d6⟩
                      repeat' (first | simp only [go_sem, hs, ebl, hlb, elim, hhb, beq_self_eq_true, ea, em1, em2, em3, Ret_eq Try.results160] | simp (disch := omega) only [arith, IntKind.bits, capMax, fill_len, elt_fill] | fail)
                      refine AgainW.to (m + 1, b1, lim, decide (((b1 - a1 : Nat) : Int) / 8 ≤ ((m - a1 : Nat) : Int)), t, l6) ?_ ?_ ?_
                      · show b1 - (m + 1) < b1 - a1; omega
                      · exact ⟨hR5.left p5 s6 d6, by show lim ≤ 60000; omega⟩
                      · simp only [go_sem, hs, ebl, hlb, elim, hhb, beq_self_eq_true, ea, em1, em2, em3, Ret_eq Try.results160]
                    · have hrec : SortsL16 _ l5 (m + 1) b1 lim := ih (b1 - (m + 1)) (by omega) l5 (m + 1) b1 lim (Nat.le_refl _) (by omega) (by omega) (by omega) (by omega) hAr
                      unfold SortsL16 at hrec
                      rw [hl5] at hrec
                      repeat' (first | simp only [go_sem, hs, ebl, hlb, elim, hhb, beq_self_eq_true, ea, em1, em2, em3, Ret_eq Try.results160] | simp (disch := omega) only [arith, IntKind.bits, capMax, fill_len, elt_fill] | fail)
                      refine opCallI_lend [0] (by simp only [go_sem, hs, ebl, hlb, elim, hhb, beq_self_eq_true, ea, em1, em2, em3, Ret_eq Try.results160]; first | done | rfl) (by simp only [go_sem, hs, ebl, hlb, elim, hhb, beq_self_eq_true, ea, em1, em2, em3, Ret_eq Try.results160]; first | done | rfl) (by decide) (by simp only [go_sem, hs, ebl, hlb, elim, hhb, beq_self_eq_true, ea, em1, em2, em3, Ret_eq Try.results160]; first | done | decide) (by simp only [go_sem, hs, ebl, hlb, elim, hhb, beq_self_eq_true, ea, em1, em2, em3, Ret_eq Try.results160]; first | done | decide) (hrec) ?_
                      rintro _ _ ⟨rfl, l6, rfl, s6, d6⟩
                      repeat' (first | simp only [go_sem, hs, ebl, hlb, elim, hhb, beq_self_eq_true, ea, em1, em2, em3, Ret_eq Try.results160] | fail)
                      refine AgainW.to (a1, m, lim, decide (((b1 - a1 : Nat) : Int) / 8 ≤ ((b1 - m : Nat) : Int)), t, l6) ?_ ?_ ?_
                      · show m - a1 < b1 - a1; omega
                      · exact ⟨hR5.right p5 s6 d6, by show lim ≤ 60000; omega⟩
                      · simp only [go_sem, hs, ebl, hlb, elim, hhb, beq_self_eq_true, ea, em1, em2, em3, Ret_eq Try.results160]
                  · rw [decide_eq_false hlt] at hls
                    repeat' (first | simp only [go_sem, hs, ebl, hlb, elim, hhb, beq_self_eq_true, ea, hL, Ret_eq Try.results160] | simp (disch := omega) only [arith, IntKind.bits, capMax, fill_len, elt_fill] | (refine awpI_draw2 (id := 17) (.one false 0 (.one false 1 (.one false 2 (.one false 3 (.one false 4 (.one false 5 (.one false 6 (.one false 7 (.one false 8 (.one false 9 (.one false 10 (.one false 11 (.only 12 (.one false 13 (.one false 14 .done))))))))))))))) mixed (by decide +kernel) (by decide +kernel) ?_) | (refine opCallI_rd (by simp only [go_sem, hs, ebl, hlb, elim, hhb, beq_self_eq_true, ea, hL, Ret_eq Try.results160]; first | done | rfl) (hls) (by rintro _ rfl; rfl) ?_; rintro _ rfl) | fail)
                    have hpe := partEq16 l1 a1 b1 x hv (by omega) (by omega)
                    rw [hL] at hpe
                    refine opCallI_lend [0] (by simp only [go_sem, hs, ebl, hlb, elim, hhb, beq_self_eq_true, ea, Ret_eq Try.results160]; first | done | rfl) (by simp only [go_sem, hs, ebl, hlb, elim, hhb, beq_self_eq_true, ea, Ret_eq Try.results160]; first | done | rfl) (by decide) (by simp only [go_sem, hs, ebl, hlb, elim, hhb, beq_self_eq_true, ea, Ret_eq Try.results160]; first | done | decide) (by simp only [go_sem, hs, ebl, hlb, elim, hhb, beq_self_eq_true, ea, Ret_eq Try.results160]; first | done | decide) (hpe) ?_
                    rintro _ _ ⟨m, rfl, l5, rfl, s5, p5⟩
                    repeat' (first | simp only [go_sem, hs, ebl, hlb, elim, hhb, beq_self_eq_true, ea, Ret_eq Try.results160] | fail)
                    refine AgainW.to (m, b1, lim, true, false, l5) ?_ ?_ ?_
                    · show b1 - m < b1 - a1; have := p5.h1; have := p5.h2; omega
                    · exact ⟨(hR2.sw s5).eqPart p5 (s5.all (P := fun z => _ ≤ z) (hR2.ahead ha hv (by omega))), by show lim ≤ 60000; omega⟩
                    · simp only [go_sem, hs, ebl, hlb, elim, hhb, beq_self_eq_true, ea, Ret_eq Try.results160]
                · repeat' (first | simp only [go_sem, hs, ebl, hlb, elim, hhb, beq_self_eq_true, Ret_eq Try.results160] | simp (disch := omega) only [arith, IntKind.bits, capMax, fill_len, elt_fill] | (refine awpI_draw2 (id := 17) (.one false 0 (.one false 1 (.one false 2 (.one false 3 (.one false 4 (.one false 5 (.one false 6 (.one false 7 (.one false 8 (.one false 9 (.one false 10 (.one false 11 (.only 12 (.one false 13 (.one false 14 .done))))))))))))))) mixed (by decide +kernel) (by decide +kernel) ?_) | fail)
                  have hpt := part16 l1 a1 b1 x hv (by omega) (by omega)
                  rw [hL] at hpt
                  refine opCallI_lend [0] (by simp only [go_sem, hs, ebl, hlb, elim, hhb, beq_self_eq_true, Ret_eq Try.results160]; first | done | rfl) (by simp only [go_sem, hs, ebl, hlb, elim, hhb, beq_self_eq_true, Ret_eq Try.results160]; first | done | rfl) (by decide) (by simp only [go_sem, hs, ebl, hlb, elim, hhb, beq_self_eq_true, Ret_eq Try.results160]; first | done | decide) (by simp only [go_sem, hs, ebl, hlb, elim, hhb, beq_self_eq_true, Ret_eq Try.results160]; first | done | decide) (hpt) ?_
                  rintro _ _ ⟨m, t, rfl, l5, rfl, s5, p5⟩
                  have hR5 := hR2.sw s5
                  have hl5 := hR5.rs.length
                  have q1 := p5.h1
                  have q2 := p5.h2
                  have em1 : (m : Int) - (a1 : Int) = ((m - a1 : Nat) : Int) := by omega
                  have em2 : (b1 : Int) - (m : Int) = ((b1 - m : Nat) : Int) := by omega
                  have em3 : ((b1 - a1 : Nat) : Int).tdiv 8 = ((b1 - a1 : Nat) : Int) / 8 := Int.tdiv_eq_ediv_of_nonneg (by omega)
                  have hA5 := hR5.rh
                  have hAl : Ahd a1 m l5 := by
                    rcases hA5 with z | z
                    · exact .inl z
                    · exact .inr fun k k1 k2 => z k k1 (by omega)
                  have hAr : Ahd (m + 1) b1 l5 := .inr fun k k1 k2 => by
                    rw [show m + 1 - 1 = m by omega]
                    exact p5.h4 k (by omega) k2
                  by_cases hsm : m - a1 < b1 - m
                  · have hrec : SortsL16 _ l5 a1 m lim := ih (m - a1) (by omega) l5 a1 m lim (Nat.le_refl _) q1 (by omega) (by omega) (by omega) hAl
                    unfold SortsL16 at hrec
                    rw [hl5] at hrec
                    repeat' (first | simp only [go_sem, hs, ebl, hlb, elim, hhb, beq_self_eq_true, em1, em2, em3, Ret_eq Try.results160] | simp (disch := omega) only [arith, IntKind.bits, capMax, fill_len, elt_fill] | fail)
                    refine opCallI_lend [0] (by simp only [go_sem, hs, ebl, hlb, elim, hhb, beq_self_eq_true, em1, em2, em3, Ret_eq Try.results160]; first | done | rfl) (by simp only [go_sem, hs, ebl, hlb, elim, hhb, beq_self_eq_true, em1, em2, em3, Ret_eq Try.results160]; first | done | rfl) (by decide) (by simp only [go_sem, hs, ebl, hlb, elim, hhb, beq_self_eq_true, em1, em2, em3, Ret_eq Try.results160]; first | done | decide) (by simp only [go_sem, hs, ebl, hlb, elim, hhb, beq_self_eq_true, em1, em2, em3, Ret_eq Try.results160]; first | done | decide) (hrec) ?_
                    rintro _ _ ⟨rfl, l6, rfl, s6, d6⟩
                    repeat' (first | simp only [go_sem, hs, ebl, hlb, elim, hhb, beq_self_eq_true, em1, em2, em3, Ret_eq Try.results160] | simp (disch := omega) only [arith, IntKind.bits, capMax, fill_len, elt_fill] | fail)
                    refine AgainW.to (m + 1, b1, lim, decide (((b1 - a1 : Nat) : Int) / 8 ≤ ((m - a1 : Nat) : Int)), t, l6) ?_ ?_ ?_
                    · show b1 - (m + 1) < b1 - a1; omega
                    · exact ⟨hR5.left p5 s6 d6, by show lim ≤ 60000; omega⟩
                    · simp only [go_sem, hs, ebl, hlb, elim, hhb, beq_self_eq_true, em1, em2, em3, Ret_eq Try.results160]
                  · have hrec : SortsL16 _ l5 (m + 1) b1 lim := ih (b1 - (m + 1)) (by omega) l5 (m + 1) b1 lim (Nat.le_refl _) (by omega) (by omega) (by omega) (by omega) hAr
                    unfold SortsL16 at hrec
                    rw [hl5] at hrec
                    repeat' (first | simp only [go_sem, hs, ebl, hlb, elim, hhb, beq_self_eq_true, em1, em2, em3, Ret_eq Try.results160] | simp (disch := omega) only [arith, IntKind.bits, capMax, fill_len, elt_fill] | fail)
                    refine opCallI_lend [0] (by simp only [go_sem, hs, ebl, hlb, elim, hhb, beq_self_eq_true, em1, em2, em3, Ret_eq Try.results160]; first | done | rfl) (by simp only [go_sem, hs, ebl, hlb, elim, hhb, beq_self_eq_true, em1, em2, em3, Ret_eq Try.results160]; first | done | rfl) (by decide) (by simp only [go_sem, hs, ebl, hlb, elim, hhb, beq_self_eq_true, em1, em2, em3, Ret_eq Try.results160]; first | done | decide) (by simp only [go_sem, hs, ebl, hlb, elim, hhb, beq_self_eq_true, em1, em2, em3, Ret_eq Try.results160]; first | done | decide) (hrec) ?_
                    rintro _ _ ⟨rfl, l6, rfl, s6, d6⟩
                    repeat' (first | simp only [go_sem, hs, ebl, hlb, elim, hhb, beq_self_eq_true, em1, em2, em3, Ret_eq Try.results160] | fail)
                    refine AgainW.to (a1, m, lim, decide (((b1 - a1 : Nat) : Int) / 8 ≤ ((b1 - m : Nat) : Int)), t, l6) ?_ ?_ ?_
                    · show m - a1 < b1 - a1; omega
                    · exact ⟨hR5.right p5 s6 d6, by show lim ≤ 60000; omega⟩
                    · simp only [go_sem, hs, ebl, hlb, elim, hhb, beq_self_eq_true, em1, em2, em3, Ret_eq Try.results160]
            · have h1b : (h == 1) = false := beq_eq_false_iff_ne.2 h1
              cases wp with
              | true =>
                have hL : l1.length = l.length := hR2.rs.length
                by_cases ha : 0 < a1
                · have ea : (a1 : Int) - 1 = ((a1 - 1 : Nat) : Int) := by omega
                  have hls := lessS16_fun (l1.getD (a1 - 1) 0) (l1.getD x 0)
                  by_cases hlt : l1.getD (a1 - 1) 0 < l1.getD x 0
                  · rw [decide_eq_true hlt] at hls
                    repeat' (first | simp only [go_sem, hs, ebl, hlb, elim, hhb, h1b, ea, hL, Ret_eq Try.results160] | simp (disch := omega) only [arith, IntKind.bits, capMax, fill_len, elt_fill] | (refine awpI_draw2 (id := 17) (.one false 0 (.one false 1 (.one false 2 (.one false 3 (.one false 4 (.one false 5 (.one false 6 (.one false 7 (.one false 8 (.one false 9 (.one false 10 (.one false 11 (.only 12 (.one false 13 (.one false 14 .done))))))))))))))) mixed (by decide +kernel) (by decide +kernel) ?_) | (refine opCallI_rd (by simp only [go_sem, hs, ebl, hlb, elim, hhb, h1b, ea, hL, Ret_eq Try.results160]; first | done | rfl) (hls) (by rintro _ rfl; rfl) ?_; rintro _ rfl) | fail)
                    have hpt := part16 l1 a1 b1 x hv (by omega) (by omega)
                    rw [hL] at hpt
                    refine opCallI_lend [0] (by simp only [go_sem, hs, ebl, hlb, elim, hhb, h1b, ea, Ret_eq Try.results160]; first | done | rfl) (by simp only [go_sem, hs, ebl, hlb, elim, hhb, h1b, ea, Ret_eq Try.results160]; first | done | rfl) (by decide) (by simp only [go_sem, hs, ebl, hlb, elim, hhb, h1b, ea, Ret_eq Try.results160]; first | done | decide) (by simp only [go_sem, hs, ebl, hlb, elim, hhb, h1b, ea, Ret_eq Try.results160]; first | done | decide) (hpt) ?_
                    rintro _ _ ⟨m, t, rfl, l5, rfl, s5, p5⟩
                    have hR5 := hR2.sw s5
                    have hl5 := hR5.rs.length
                    have q1 := p5.h1
                    have q2 := p5.h2
                    have em1 : (m : Int) - (a1 : Int) = ((m - a1 : Nat) : Int) := by omega
                    have em2 : (b1 : Int) - (m : Int) = ((b1 - m : Nat) : Int) := by omega
                    have em3 : ((b1 - a1 : Nat) : Int).tdiv 8 = ((b1 - a1 : Nat) : Int) / 8 := Int.tdiv_eq_ediv_of_nonneg (by omega)
                    have hA5 := hR5.rh
                    have hAl : Ahd a1 m l5 := by
                      rcases hA5 with z | z
                      · exact .inl z
                      · exact .inr fun k k1 k2 => z k k1 (by omega)
                    have hAr : Ahd (m + 1) b1 l5 := .inr fun k k1 k2 => by
                      rw [show m + 1 - 1 = m by omega]
                      exact p5.h4 k (by omega) k2
                    by_cases hsm : m - a1 < b1 - m
                    · have hrec : SortsL16 _ l5 a1 m lim := ih (m - a1) (by omega) l5 a1 m lim (Nat.le_refl _) q1 (by omega) (by omega) (by omega) hAl
                      unfold SortsL16 at hrec
                      rw [hl5] at hrec
                      repeat' (first | simp only [go_sem, hs, ebl, hlb, elim, hhb, h1b, ea, em1, em2, em3, Ret_eq Try.results160] | simp (disch := omega) only [arith, IntKind.bits, capMax, fill_len, elt_fill] | fail)
                      refine opCallI_lend [0] (by simp only [go_sem, hs, ebl, hlb, elim, hhb, h1b, ea, em1, em2, em3, Ret_eq Try.results160]; first | done | rfl) (by simp only [go_sem, hs, ebl, hlb, elim, hhb, h1b, ea, em1, em2, em3, Ret_eq Try.results160]; first | done | rfl) (by decide) (by simp only [go_sem, hs, ebl, hlb, elim, hhb, h1b, ea, em1, em2, em3, Ret_eq Try.results160]; first | done | decide) (by simp only [go_sem, hs, ebl, hlb, elim, hhb, h1b, ea, em1, em2, em3, Ret_eq Try.results160]; first | done | decide) (hrec) ?_
                      rintro _ _ ⟨rfl, l6, rfl, s6, d6⟩
                      repeat' (first | simp only [go_sem, hs, ebl, hlb, elim, hhb, h1b, ea, em1, em2, em3, Ret_eq Try.results160] | simp (disch := omega) only [arith, IntKind.bits, capMax, fill_len, elt_fill] | fail)
                      refine AgainW.to (m + 1, b1, lim, decide (((b1 - a1 : Nat) : Int) / 8 ≤ ((m - a1 : Nat) : Int)), t, l6) ?_ ?_ ?_
                      · show b1 - (m + 1) < b1 - a1; omega
                      · exact ⟨hR5.left p5 s6 d6, by show lim ≤ 60000; omega⟩
                      · simp only [go_sem, hs, ebl, hlb, elim, hhb, h1b, ea, em1, em2, em3, Ret_eq Try.results160]
                    · have hrec : SortsL16 _ l5 (m + 1) b1 lim := ih (b1 - (m + 1)) (by omega) l5 (m + 1) b1 lim (Nat.le_refl _) (by omega) (by omega) (by omega) (by omega) hAr
                      unfold SortsL16 at hrec
                      rw [hl5] at hrec
                      repeat' (first | simp only [go_sem, hs, ebl, hlb, elim, hhb, h1b, ea, em1, em2, em3, Ret_eq Try.results160] | simp (disch := omega) only [arith, IntKind.bits, capMax, fill_len, elt_fill] | fail)
                      refine opCallI_lend [0] (by simp only [go_sem, hs, ebl, hlb, elim, hhb, h1b, ea, em1, em2, em3, Ret_eq Try.results160]; first | done | rfl) (by simp only [go_sem, hs, ebl, hlb, elim, hhb, h1b, ea, em1, em2, em3, Ret_eq Try.results160]; first | done | rfl) (by decide) (by simp only [go_sem, hs, ebl, hlb, elim, hhb, h1b, ea, em1, em2, em3, Ret_eq Try.results160]; first | done | decide) (by simp only [go_sem, hs, ebl, hlb, elim, hhb, h1b, ea, em1, em2, em3, Ret_eq Try.results160]; first | done | decide) (hrec) ?_
                      rintro _ _ ⟨rfl, l6, rfl, s6, d6⟩
                      repeat' (first | simp only [go_sem, hs, ebl, hlb, elim, hhb, h1b, ea, em1, em2, em3, Ret_eq Try.results160] | fail)
                      refine AgainW.to (a1, m, lim, decide (((b1 - a1 : Nat) : Int) / 8 ≤ ((b1 - m : Nat) : Int)), t, l6) ?_ ?_ ?_
                      · show m - a1 < b1 - a1; omega
                      · exact ⟨hR5.right p5 s6 d6, by show lim ≤ 60000; omega⟩
                      · simp only [go_sem, hs, ebl, hlb, elim, hhb, h1b, ea, em1, em2, em3, Ret_eq Try.results160]
                  · rw [decide_eq_false hlt] at hls
                    repeat' (first | simp only [go_sem, hs, ebl, hlb, elim, hhb, h1b, ea, hL, Ret_eq Try.results160] | simp (disch := omega) only [arith, IntKind.bits, capMax, fill_len, elt_fill] | (refine awpI_draw2 (id := 17) (.one false 0 (.one false 1 (.one false 2 (.one false 3 (.one false 4 (.one false 5 (.one false 6 (.one false 7 (.one false 8 (.one false 9 (.one false 10 (.one false 11 (.only 12 (.one false 13 (.one false 14 .done))))))))))))))) mixed (by decide +kernel) (by decide +kernel) ?_) | (refine opCallI_rd (by simp only [go_sem, hs, ebl, hlb, elim, hhb, h1b, ea, hL, Ret_eq Try.results160]; first | done | rfl) (hls) (by rintro _ rfl; rfl) ?_; rintro _ rfl) | fail)
                    have hpe := partEq16 l1 a1 b1 x hv (by omega) (by omega)
                    rw [hL] at hpe
                    refine opCallI_lend [0] (by simp only [go_sem, hs, ebl, hlb, elim, hhb, h1b, ea, Ret_eq Try.results160]; first | done | rfl) (by simp only [go_sem, hs, ebl, hlb, elim, hhb, h1b, ea, Ret_eq Try.results160]; first | done | rfl) (by decide) (by simp only [go_sem, hs, ebl, hlb, elim, hhb, h1b, ea, Ret_eq Try.results160]; first | done | decide) (by simp only [go_sem, hs, ebl, hlb, elim, hhb, h1b, ea, Ret_eq Try.results160]; first | done | decide) (hpe) ?_
                    rintro _ _ ⟨m, rfl, l5, rfl, s5, p5⟩
                    repeat' (first | simp only [go_sem, hs, ebl, hlb, elim, hhb, h1b, ea, Ret_eq Try.results160] | fail)
                    refine AgainW.to (m, b1, lim, true, true, l5) ?_ ?_ ?_
                    · show b1 - m < b1 - a1; have := p5.h1; have := p5.h2; omega
                    · exact ⟨(hR2.sw s5).eqPart p5 (s5.all (P := fun z => _ ≤ z) (hR2.ahead ha hv (by omega))), by show lim ≤ 60000; omega⟩
                    · simp only [go_sem, hs, ebl, hlb, elim, hhb, h1b, ea, Ret_eq Try.results160]
                · repeat' (first | simp only [go_sem, hs, ebl, hlb, elim, hhb, h1b, Ret_eq Try.results160] | simp (disch := omega) only [arith, IntKind.bits, capMax, fill_len, elt_fill] | (refine awpI_draw2 (id := 17) (.one false 0 (.one false 1 (.one false 2 (.one false 3 (.one false 4 (.one false 5 (.one false 6 (.one false 7 (.one false 8 (.one false 9 (.one false 10 (.one false 11 (.only 12 (.one false 13 (.one false 14 .done))))))))))))))) mixed (by decide +kernel) (by decide +kernel) ?_) | fail)
                  have hpt := part16 l1 a1 b1 x hv (by omega) (by omega)
                  rw [hL] at hpt
                  refine opCallI_lend [0] (by simp only [go_sem, hs, ebl, hlb, elim, hhb, h1b, Ret_eq Try.results160]; first | done | rfl) (by simp only [go_sem, hs, ebl, hlb, elim, hhb, h1b, Ret_eq Try.results160]; first | done | rfl) (by decide) (by simp only [go_sem, hs, ebl, hlb, elim, hhb, h1b, Ret_eq Try.results160]; first | done | decide) (by simp only [go_sem, hs, ebl, hlb, elim, hhb, h1b, Ret_eq Try.results160]; first | done | decide) (hpt) ?_
                  rintro _ _ ⟨m, t, rfl, l5, rfl, s5, p5⟩
                  have hR5 := hR2.sw s5
                  have hl5 := hR5.rs.length
                  have q1 := p5.h1
                  have q2 := p5.h2
                  have em1 : (m : Int) - (a1 : Int) = ((m - a1 : Nat) : Int) := by omega
                  have em2 : (b1 : Int) - (m : Int) = ((b1 - m : Nat) : Int) := by omega
                  have em3 : ((b1 - a1 : Nat) : Int).tdiv 8 = ((b1 - a1 : Nat) : Int) / 8 := Int.tdiv_eq_ediv_of_nonneg (by omega)
                  have hA5 := hR5.rh
                  have hAl : Ahd a1 m l5 := by
                    rcases hA5 with z | z
                    · exact .inl z
                    · exact .inr fun k k1 k2 => z k k1 (by omega)
                  have hAr : Ahd (m + 1) b1 l5 := .inr fun k k1 k2 => by
                    rw [show m + 1 - 1 = m by omega]
                    exact p5.h4 k (by omega) k2
                  by_cases hsm : m - a1 < b1 - m
                  · have hrec : SortsL16 _ l5 a1 m lim := ih (m - a1) (by omega) l5 a1 m lim (Nat.le_refl _) q1 (by omega) (by omega) (by omega) hAl
                    unfold SortsL16 at hrec
                    rw [hl5] at hrec
                    repeat' (first | simp only [go_sem, hs, ebl, hlb, elim, hhb, h1b, em1, em2, em3, Ret_eq Try.results160] | simp (disch := omega) only [arith, IntKind.bits, capMax, fill_len, elt_fill] | fail)
                    refine opCallI_lend [0] (by simp only [go_sem, hs, ebl, hlb, elim, hhb, h1b, em1, em2, em3, Ret_eq Try.results160]; first | done | rfl) (by simp only [go_sem, hs, ebl, hlb, elim, hhb, h1b, em1, em2, em3, Ret_eq Try.results160]; first | done | rfl) (by decide) (by simp only [go_sem, hs, ebl, hlb, elim, hhb, h1b, em1, em2, em3, Ret_eq Try.results160]; first | done | decide) (by simp only [go_sem, hs, ebl, hlb, elim, hhb, h1b, em1, em2, em3, Ret_eq Try.results160]; first | done | decide) (hrec) ?_
                    rintro _ _ ⟨rfl, l6, rfl, s6, d6⟩
                    repeat' (first | simp only [go_sem, hs, ebl, hlb, elim, hhb, h1b, em1, em2, em3, Ret_eq Try.results160] | simp (disch := omega) only [arith, IntKind.bits, capMax, fill_len, elt_fill] | fail)
                    refine AgainW.to (m + 1, b1, lim, decide (((b1 - a1 : Nat) : Int) / 8 ≤ ((m - a1 : Nat) : Int)), t, l6) ?_ ?_ ?_
                    · show b1 - (m + 1) < b1 - a1; omega
                    · exact ⟨hR5.left p5 s6 d6, by show lim ≤ 60000; omega⟩
                    · simp only [go_sem, hs, ebl, hlb, elim, hhb, h1b, em1, em2, em3, Ret_eq Try.results160]
                  · have hrec : SortsL16 _ l5 (m + 1) b1 lim := ih (b1 - (m + 1)) (by omega) l5 (m + 1) b1 lim (Nat.le_refl _) (by omega) (by omega) (by omega) (by omega) hAr
                    unfold SortsL16 at hrec
                    rw [hl5] at hrec
                    repeat' (first | simp only [go_sem, hs, ebl, hlb, elim, hhb, h1b, em1, em2, em3, Ret_eq Try.results160] | simp (disch := omega) only [arith, IntKind.bits, capMax, fill_len, elt_fill] | fail)
                    refine opCallI_lend [0] (by simp only [go_sem, hs, ebl, hlb, elim, hhb, h1b, em1, em2, em3, Ret_eq Try.results160]; first | done | rfl) (by simp only [go_sem, hs, ebl, hlb, elim, hhb, h1b, em1, em2, em3, Ret_eq Try.results160]; first | done | rfl) (by decide) (by simp only [go_sem, hs, ebl, hlb, elim, hhb, h1b, em1, em2, em3, Ret_eq Try.results160]; first | done | decide) (by simp only [go_sem, hs, ebl, hlb, elim, hhb, h1b, em1, em2, em3, Ret_eq Try.results160]; first | done | decide) (hrec) ?_
                    rintro _ _ ⟨rfl, l6, rfl, s6, d6⟩
                    repeat' (first | simp only [go_sem, hs, ebl, hlb, elim, hhb, h1b, em1, em2, em3, Ret_eq Try.results160] | fail)
                    refine AgainW.to (a1, m, lim, decide (((b1 - a1 : Nat) : Int) / 8 ≤ ((b1 - m : Nat) : Int)), t, l6) ?_ ?_ ?_
                    · show m - a1 < b1 - a1; omega
                    · exact ⟨hR5.right p5 s6 d6, by show lim ≤ 60000; omega⟩
                    · simp only [go_sem, hs, ebl, hlb, elim, hhb, h1b, em1, em2, em3, Ret_eq Try.results160]
              | false =>
                have hL : l1.length = l.length := hR2.rs.length
                by_cases ha : 0 < a1
                · have ea : (a1 : Int) - 1 = ((a1 - 1 : Nat) : Int) := by omega
                  have hls := lessS16_fun (l1.getD (a1 - 1) 0) (l1.getD x 0)
                  by_cases hlt : l1.getD (a1 - 1) 0 < l1.getD x 0
                  · rw [decide_eq_true hlt] at hls
                    repeat' (first | simp only [go_sem, hs, ebl, hlb, elim, hhb, h1b, ea, hL, Ret_eq Try.results160] | simp (disch := omega) only [arith, IntKind.bits, capMax, fill_len, elt_fill] | (refine awpI_draw2 (id := 17) (.one false 0 (.one false 1 (.one false 2 (.one false 3 (.one false 4 (.one false 5 (.one false 6 (.one false 7 (.one false 8 (.one false 9 (.one false 10 (.one false 11 (.only 12 (.one false 13 (.one false 14 .done))))))))))))))) mixed (by decide +kernel) (by decide +kernel) ?_) | (refine opCallI_rd (by simp only [go_sem, hs, ebl, hlb, elim, hhb, h1b, ea, hL, Ret_eq Try.results160]; first | done | rfl) (hls) (by rintro _ rfl; rfl) ?_; rintro _ rfl) | fail)
                    have hpt := part16 l1 a1 b1 x hv (by omega) (by omega)
                    rw [hL] at hpt
                    refine opCallI_lend [0] (by simp only [go_sem, hs, ebl, hlb, elim, hhb, h1b, ea, Ret_eq Try.results160]; first | done | rfl) (by simp only [go_sem, hs, ebl, hlb, elim, hhb, h1b, ea, Ret_eq Try.results160]; first | done | rfl) (by decide) (by simp only [go_sem, hs, ebl, hlb, elim, hhb, h1b, ea, Ret_eq Try.results160]; first | done | decide) (by simp only [go_sem, hs, ebl, hlb, elim, hhb, h1b, ea, Ret_eq Try.results160]; first | done | decide) (hpt) ?_
                    rintro _ _ ⟨m, t, rfl, l5, rfl, s5, p5⟩
                    have hR5 := hR2.sw s5
                    have hl5 := hR5.rs.length
                    have q1 := p5.h1
                    have q2 := p5.h2
                    have em1 : (m : Int) - (a1 : Int) = ((m - a1 : Nat) : Int) := by omega
                    have em2 : (b1 : Int) - (m : Int) = ((b1 - m : Nat) : Int) := by omega
                    have em3 : ((b1 - a1 : Nat) : Int).tdiv 8 = ((b1 - a1 : Nat) : Int) / 8 := Int.tdiv_eq_ediv_of_nonneg (by omega)
                    have hA5 := hR5.rh
                    have hAl : Ahd a1 m l5 := by
                      rcases hA5 with z | z
                      · exact .inl z
                      · exact .inr fun k k1 k2 => z k k1 (by omega)
                    have hAr : Ahd (m + 1) b1 l5 := .inr fun k k1 k2 => by
                      rw [show m + 1 - 1 = m by omega]
                      exact p5.h4 k (by omega) k2
                    by_cases hsm : m - a1 < b1 - m
                    · have hrec : SortsL16 _ l5 a1 m lim := ih (m - a1) (by omega) l5 a1 m lim (Nat.le_refl _) q1 (by omega) (by omega) (by omega) hAl
                      unfold SortsL16 at hrec
                      rw [hl5] at hrec
                      repeat' (first | simp only [go_sem, hs, ebl, hlb, elim, hhb, h1b, ea, em1, em2, em3, Ret_eq Try.results160] | simp (disch := omega) only [arith, IntKind.bits, capMax, fill_len, elt_fill] | fail)
                      refine opCallI_lend [0] (by simp only [go_sem, hs, ebl, hlb, elim, hhb, h1b, ea, em1, em2, em3, Ret_eq Try.results160]; first | done | rfl) (by simp only [go_sem, hs, ebl, hlb, elim, hhb, h1b, ea, em1, em2, em3, Ret_eq Try.results160]; first | done | rfl) (by decide) (by simp only [go_sem, hs, ebl, hlb, elim, hhb, h1b, ea, em1, em2, em3, Ret_eq Try.results160]; first | done | decide) (by simp only [go_sem, hs, ebl, hlb, elim, hhb, h1b, ea, em1, em2, em3, Ret_eq Try.results160]; first | done | decide) (hrec) ?_
                      rintro _ _ ⟨rfl, l6, rfl, s6, d6⟩
                      repeat' (first | simp only [go_sem, hs, ebl, hlb, elim, hhb, h1b, ea, em1, em2, em3, Ret_eq Try.results160] | simp (disch := omega) only [arith, IntKind.bits, capMax, fill_len, elt_fill] | fail)
                      refine AgainW.to (m + 1, b1, lim, decide (((b1 - a1 : Nat) : Int) / 8 ≤ ((m - a1 : Nat) : Int)), t, l6) ?_ ?_ ?_
                      · show b1 - (m + 1) < b1 - a1; omega
                      · exact ⟨hR5.left p5 s6 d6, by show lim ≤ 60000; omega⟩
                      · simp only [go_sem, hs, ebl, hlb, elim, hhb, h1b, ea, em1, em2, em3, Ret_eq Try.results160]
                    · have hrec : SortsL16 _ l5 (m + 1) b1 lim := ih (b1 - (m + 1)) (by omega) l5 (m + 1) b1 lim (Nat.le_refl _) (by omega) (by omega) (by omega) (by omega) hAr
                      unfold SortsL16 at hrec
                      rw [hl5] at hrec
                      repeat' (first | simp only [go_sem, hs, ebl, hlb, elim, hhb, h1b, ea, em1, em2, em3, Ret_eq Try.results160] | simp (disch := omega) only [arith, IntKind.bits, capMax, fill_len, elt_fill] | fail)
                      refine opCallI_lend [0] (by simp only [go_sem, hs, ebl, hlb, elim, hhb, h1b, ea, em1, em2, em3, Ret_eq Try.results160]; first | done | rfl) (by simp only [go_sem, hs, ebl, hlb, elim, hhb, h1b, ea, em1, em2, em3, Ret_eq Try.results160]; first | done | rfl) (by decide) (by simp only [go_sem, hs, ebl, hlb, elim, hhb, h1b, ea, em1, em2, em3, Ret_eq Try.results160]; first | done | decide) (by simp only [go_sem, hs, ebl, hlb, elim, hhb, h1b, ea, em1, em2, em3, Ret_eq Try.results160]; first | done | decide) (hrec) ?_
                      rintro _ _ ⟨rfl, l6, rfl, s6, d6⟩
                      repeat' (first | simp only [go_sem, hs, ebl, hlb, elim, hhb, h1b, ea, em1, em2, em3, Ret_eq Try.results160] | fail)
                      refine AgainW.to (a1, m, lim, decide (((b1 - a1 : Nat) : Int) / 8 ≤ ((b1 - m : Nat) : Int)), t, l6) ?_ ?_ ?_
                      · show m - a1 < b1 - a1; omega
                      · exact ⟨hR5.right p5 s6 d6, by show lim ≤ 60000; omega⟩
                      · simp only [go_sem, hs, ebl, hlb, elim, hhb, h1b, ea, em1, em2, em3, Ret_eq Try.results160]
                  · rw [decide_eq_false hlt] at hls
                    repeat' (first | simp only [go_sem, hs, ebl, hlb, elim, hhb, h1b, ea, hL, Ret_eq Try.results160] | simp (disch := omega) only [arith, IntKind.bits, capMax, fill_len, elt_fill] | (refine awpI_draw2 (id := 17) (.one false 0 (.one false 1 (.one false 2 (.one false 3 (.one false 4 (.one false 5 (.one false 6 (.one false 7 (.one false 8 (.one false 9 (.one false 10 (.one false 11 (.only 12 (.one false 13 (.one false 14 .done))))))))))))))) mixed (by decide +kernel) (by decide +kernel) ?_) | (refine opCallI_rd (by simp only [go_sem, hs, ebl, hlb, elim, hhb, h1b, ea, hL, Ret_eq Try.results160]; first | done | rfl) (hls) (by rintro _ rfl; rfl) ?_; rintro _ rfl) | fail)
                    have hpe := partEq16 l1 a1 b1 x hv (by omega) (by omega)
                    rw [hL] at hpe
                    refine opCallI_lend [0] (by simp only [go_sem, hs, ebl, hlb, elim, hhb, h1b, ea, Ret_eq Try.results160]; first | done | rfl) (by simp only [go_sem, hs, ebl, hlb, elim, hhb, h1b, ea, Ret_eq Try.results160]; first | done | rfl) (by decide) (by simp only [go_sem, hs, ebl, hlb, elim, hhb, h1b, ea, Ret_eq Try.results160]; first | done | decide) (by simp only [go_sem, hs, ebl, hlb, elim, hhb, h1b, ea, Ret_eq Try.results160]; first | done | decide) (hpe) ?_
                    rintro _ _ ⟨m, rfl, l5, rfl, s5, p5⟩
                    repeat' (first | simp only [go_sem, hs, ebl, hlb, elim, hhb, h1b, ea, Ret_eq Try.results160] | fail)
                    refine AgainW.to (m, b1, lim, true, false, l5) ?_ ?_ ?_
                    · show b1 - m < b1 - a1; have := p5.h1; have := p5.h2; omega
                    · exact ⟨(hR2.sw s5).eqPart p5 (s5.all (P := fun z => _ ≤ z) (hR2.ahead ha hv (by omega))), by show lim ≤ 60000; omega⟩
                    · simp only [go_sem, hs, ebl, hlb, elim, hhb, h1b, ea, Ret_eq Try.results160]
                · repeat' (first | simp only [go_sem, hs, ebl, hlb, elim, hhb, h1b, Ret_eq Try.results160] | simp (disch := omega) only [arith, IntKind.bits, capMax, fill_len, elt_fill] | (refine awpI_draw2 (id := 17) (.one false 0 (.one false 1 (.one false 2 (.one false 3 (.one false 4 (.one false 5 (.one false 6 (.one false 7 (.one false 8 (.one false 9 (.one false 10 (.one false 11 (.only 12 (.one false 13 (.one false 14 .done))))))))))))))) mixed (by decide +kernel) (by decide +kernel) ?_) | fail)
                  have hpt := part16 l1 a1 b1 x hv (by omega) (by omega)
                  rw [hL] at hpt
                  refine opCallI_lend [0] (by simp only [go_sem, hs, ebl, hlb, elim, hhb, h1b, Ret_eq Try.results160]; first | done | rfl) (by simp only [go_sem, hs, ebl, hlb, elim, hhb, h1b, Ret_eq Try.results160]; first | done | rfl) (by decide) (by simp only [go_sem, hs, ebl, hlb, elim, hhb, h1b, Ret_eq Try.results160]; first | done | decide) (by simp only [go_sem, hs, ebl, hlb, elim, hhb, h1b, Ret_eq Try.results160]; first | done | decide) (hpt) ?_
                  rintro _ _ ⟨m, t, rfl, l5, rfl, s5, p5⟩
                  have hR5 := hR2.sw s5
                  have hl5 := hR5.rs.length
                  have q1 := p5.h1
                  have q2 := p5.h2
                  have em1 : (m : Int) - (a1 : Int) = ((m - a1 : Nat) : Int) := by omega
                  have em2 : (b1 : Int) - (m : Int) = ((b1 - m : Nat) : Int) := by omega
                  have em3 : ((b1 - a1 : Nat) : Int).tdiv 8 = ((b1 - a1 : Nat) : Int) / 8 := Int.tdiv_eq_ediv_of_nonneg (by omega)
                  have hA5 := hR5.rh
                  have hAl : Ahd a1 m l5 := by
                    rcases hA5 with z | z
                    · exact .inl z
                    · exact .inr fun k k1 k2 => z k k1 (by omega)
                  have hAr : Ahd (m + 1) b1 l5 := .inr fun k k1 k2 => by
                    rw [show m + 1 - 1 = m by omega]
                    exact p5.h4 k (by omega) k2
                  by_cases hsm : m - a1 < b1 - m
                  · have hrec : SortsL16 _ l5 a1 m lim := ih (m - a1) (by omega) l5 a1 m lim (Nat.le_refl _) q1 (by omega) (by omega) (by omega) hAl
                    unfold SortsL16 at hrec
                    rw [hl5] at hrec
                    repeat' (first | simp only [go_sem, hs, ebl, hlb, elim, hhb, h1b, em1, em2, em3, Ret_eq Try.results160] | simp (disch := omega) only [arith, IntKind.bits, capMax, fill_len, elt_fill] | fail)
                    refine opCallI_lend [0] (by simp only [go_sem, hs, ebl, hlb, elim, hhb, h1b, em1, em2, em3, Ret_eq Try.results160]; first | done | rfl) (by simp only [go_sem, hs, ebl, hlb, elim, hhb, h1b, em1, em2, em3, Ret_eq Try.results160]; first | done | rfl) (by decide) (by simp only [go_sem, hs, ebl, hlb, elim, hhb, h1b, em1, em2, em3, Ret_eq Try.results160]; first | done | decide) (by simp only [go_sem, hs, ebl, hlb, elim, hhb, h1b, em1, em2, em3, Ret_eq Try.results160]; first | done | decide) (hrec) ?_
                    rintro _ _ ⟨rfl, l6, rfl, s6, d6⟩
                    repeat' (first | simp only [go_sem, hs, ebl, hlb, elim, hhb, h1b, em1, em2, em3, Ret_eq Try.results160] | simp (disch := omega) only [arith, IntKind.bits, capMax, fill_len, elt_fill] | fail)
                    refine AgainW.to (m + 1, b1, lim, decide (((b1 - a1 : Nat) : Int) / 8 ≤ ((m - a1 : Nat) : Int)), t, l6) ?_ ?_ ?_
                    · show b1 - (m + 1) < b1 - a1; omega
                    · exact ⟨hR5.left p5 s6 d6, by show lim ≤ 60000; omega⟩
                    · simp only [go_sem, hs, ebl, hlb, elim, hhb, h1b, em1, em2, em3, Ret_eq Try.results160]
                  · have hrec : SortsL16 _ l5 (m + 1) b1 lim := ih (b1 - (m + 1)) (by omega) l5 (m + 1) b1 lim (Nat.le_refl _) (by omega) (by omega) (by omega) (by omega) hAr
                    unfold SortsL16 at hrec
                    rw [hl5] at hrec
                    repeat' (first | simp only [go_sem, hs, ebl, hlb, elim, hhb, h1b, em1, em2, em3, Ret_eq Try.results160] | simp (disch := omega) only [arith, IntKind.bits, capMax, fill_len, elt_fill] | fail)
                    refine opCallI_lend [0] (by simp only [go_sem, hs, ebl, hlb, elim, hhb, h1b, em1, em2, em3, Ret_eq Try.results160]; first | done | rfl) (by simp only [go_sem, hs, ebl, hlb, elim, hhb, h1b, em1, em2, em3, Ret_eq Try.results160]; first | done | rfl) (by decide) (by simp only [go_sem, hs, ebl, hlb, elim, hhb, h1b, em1, em2, em3, Ret_eq Try.results160]; first | done | decide) (by simp only [go_sem, hs, ebl, hlb, elim, hhb, h1b, em1, em2, em3, Ret_eq Try.results160]; first | done | decide) (hrec) ?_
                    rintro _ _ ⟨rfl, l6, rfl, s6, d6⟩
                    repeat' (first | simp only [go_sem, hs, ebl, hlb, elim, hhb, h1b, em1, em2, em3, Ret_eq Try.results160] | fail)
                    refine AgainW.to (a1, m, lim, decide (((b1 - a1 : Nat) : Int) / 8 ≤ ((b1 - m : Nat) : Int)), t, l6) ?_ ?_ ?_
                    · show m - a1 < b1 - a1; omega
                    · exact ⟨hR5.right p5 s6 d6, by show lim ≤ 60000; omega⟩
                    · simp only [go_sem, hs, ebl, hlb, elim, hhb, h1b, em1, em2, em3, Ret_eq Try.results160]
end Go.Proofs.Ytpkampecmlpfmaa.T

end
section
set_option linter.unusedSimpArgs false
set_option linter.unusedVariables false
/- slices.Sort, walked. -/
namespace Go.Proofs.Ytpkampecmlpfmaa.T
open Go Go.VL Go.Proofs
set_option maxRecDepth 100000
set_option maxHeartbeats 8000000

theorem sort16 (l : List Int) (hl : l.length ≤ 60000) : FunL Try.prog 138 [.ref 0 l.length] [own16 l] fun r os => r = .tup [] ∧ os = [own16 (sortI l)] := by
  refine FunL.of_awpI [(100000, 0)] rfl Try.func138 rfl cal138 Try.ntmps138 (by simp) fun hwf hlw ls => ?_
  simp only [lentWf, D.wfs, D.wf, ints_length, ints_wfs, rows_length, rows_wfs, capMax, and_true, true_and] at hwf hlw
  have hbl := bitsLen_fun l.length (by omega)
  repeat' (first | simp only [go_sem, Ret_eq Try.results138] | simp (disch := omega) only [arith, IntKind.bits, capMax, fill_len, elt_fill] | (refine opCallI_gv (by simp only [go_sem, Ret_eq Try.results138]; first | done | rfl) (hbl) ?_; rintro _ ⟨n, rfl, hn⟩) | fail)
  have hp : SortsL16 _ l 0 l.length n := pdq16 l.length l 0 l.length n (by omega) (Nat.zero_le _) (Nat.le_refl _) hl (by have := hn.1; omega) (.inl rfl)
  unfold SortsL16 at hp
  rw [show ((0 : Nat) : Int) = 0 from rfl] at hp
  refine opCallI_lend [0] (by simp only [go_sem, Ret_eq Try.results138]; first | done | rfl) (by simp only [go_sem, Ret_eq Try.results138]; first | done | rfl) (by decide) (by simp only [go_sem, Ret_eq Try.results138]; first | done | decide) (by simp only [go_sem, Ret_eq Try.results138]; first | done | decide) hp ?_
  rintro _ _ ⟨rfl, l2, rfl, s2, d2⟩
  have e := sortI_of s2 d2
  subst e
  repeat' (first | simp only [go_sem, Ret_eq Try.results138] | refine RetL_calc Try.results138 rfl ?_ | fail)
  all_goals first | exact ⟨rfl, rfl⟩ | rfl
end Go.Proofs.Ytpkampecmlpfmaa.T

end
section
set_option linter.unusedSimpArgs false
set_option linter.unusedVariables false
/- slices.Sorted over slices.Values at int16, walked. -/
namespace Go.Proofs.Ytpkampecmlpfmaa.T
open Go Go.VL Go.Proofs
set_option maxRecDepth 100000
set_option maxHeartbeats 8000000

theorem sorted16 : Sorted16 := by
  intro l h1 h2
  have hcol := collect16_fun l h1 h2
  have hso := sort16 l h2
  have hsl := sortI_length l
  refine FunO.of_awpI Try.func89 rfl cal89 Try.ntmps89 (by simp) fun hwf => ?_
  simp only [D.wfs, D.wf, ints_length, ints_wfs, rows_length, rows_wfs, capMax, and_true, true_and] at hwf
  repeat' (first | simp only [go_sem, Ret_eq Try.results89] | (refine opCallI_ownGv (by simp only [go_sem, Ret_eq Try.results89]; first | done | rfl) (hcol) ?_; rintro _ _ ⟨rfl, rfl⟩) | fail)
  refine opCallI_lend [5] (by simp only [go_sem, Ret_eq Try.results89]; first | done | rfl) (by simp only [go_sem, Ret_eq Try.results89]; first | done | rfl) (by decide) (by simp only [go_sem, Ret_eq Try.results89]; first | done | decide) (by simp only [go_sem, Ret_eq Try.results89]; first | done | decide) hso ?_
  rintro _ _ ⟨rfl, rfl⟩
  repeat' (first | simp only [go_sem, hsl, Ret_eq Try.results89] | refine RetO_calc Try.results89 ?_ | fail)
end Go.Proofs.Ytpkampecmlpfmaa.T

end
section
/- A book as an argument. -/
namespace Go.VL
open Go Go.RowKit
theorem has_book {ds : List D} (h : (Ty.st [.int .i64, .sl (.sl (.int .i16))]).has ds) : ∃ (w : Int) (c : List (List Int)), (Ty.st [.int .i64, .sl (.sl (.int .i16))]).wrap ds = .agg [.v (.int .i64 w), .lst (rows .i16 c)] ∧
    (Lit.int .i64 w).wf = true ∧ ∀ x ∈ c, ∀ n ∈ x, (Lit.int .i16 n).wf = true := by
  obtain ⟨a, b, rfl, h1, b1, b2, rfl, h2, h3⟩ := h
  obtain ⟨w, rfl, hw⟩ := h1
  obtain ⟨els, rfl, h2⟩ := h2
  have h3 : b2 = [] := h3
  subst h3
  obtain ⟨l, e, hl⟩ := has_rows (ds := [.lst (els.map (Ty.sl (.int .i16)).wrap)]) ⟨els, rfl, h2⟩
  refine ⟨w, l, ?_, hw, hl⟩
  have e' : D.lst (els.map (Ty.sl (.int .i16)).wrap) = .lst (rows .i16 l) := e
  show D.agg ([.v (.int .i64 w)] ++ ([.lst (els.map (Ty.sl (.int .i16)).wrap)] ++ [])) = _
  rw [e']
  rfl
end Go.VL

end
