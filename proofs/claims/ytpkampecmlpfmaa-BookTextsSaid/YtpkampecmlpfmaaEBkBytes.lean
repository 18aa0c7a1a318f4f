import Derived.Test.YtpkampecmlpfmaaLE
import Derived.Test.YtpkampecmlpfmaaEBkL
import Derived.Test.YtpkampecmlpfmaaEPPut
import Derived.Test.YtpkampecmlpfmaaEQLive
set_option linter.unusedSimpArgs false
set_option linter.unusedVariables false
/- A book, written; walked. -/
namespace Go.Proofs.Ytpkampecmlpfmaa.T
open Go Go.VL Go.Proofs
set_option maxRecDepth 100000
set_option maxHeartbeats 8000000
theorem putp_fun (b : List Int) (w : Int) (l : List Int) (h : putErr b w l = 0) : Fun Try.prog 109 [.lst (ints .u8 b), .v (.int .i64 w), .lst (ints .i64 l)] fun r => r = .tup [.lst (ints .u8 (putOut b w l)), .v (.int .i64 0)] := by
  refine (put_fun b w l).toFun ?_
  rintro r o (⟨h1, _⟩ | ⟨_, rfl, rfl⟩)
  · exact absurd h h1
  · refine ⟨by simp only [go_sem, List.take_length], by simp only [go_sem, List.take_length], ?_⟩
    simp only [go_sem, List.take_length]
theorem put2_fun (b : List Int) (x : Int) (hx : -32768 ≤ x ∧ x ≤ 32767) (hb : b.length ≤ 65534) : Fun Try.prog 109 [.lst (ints .u8 b), .v (.int .i64 2), .lst [.v (.int .i64 x)]] fun r => r = .tup [.lst (ints .u8 (b ++ octs 2 x)), .v (.int .i64 0)] := by
  have e : putErr b 2 [x] = 0 := by
    unfold putErr
    rw [if_neg (by decide), if_neg (by simp [i16_fits hx]), if_neg (by simp only [List.length_cons, List.length_nil]; omega)]
  have h := putp_fun b 2 [x] e
  have e2 : putOut b 2 [x] = b ++ octs 2 x := by unfold putOut; simp
  rw [e2] at h
  exact h
theorem FunO_mono {P : Program} {f : FuncId} {args : List D} {R R' : D → Option Own → Prop} (h : FunO P f args R) (hr : ∀ r o, R r o → R' r o) : FunO P f args R' :=
  ⟨h.1, fun J w vs hJ hG hv => (h.2 J w vs hJ hG hv).mono fun _ _ ⟨y, r, o, h1, h2, h3⟩ => ⟨y, r, o, h1, hr r o h2, h3⟩⟩
theorem put8_own (w : Int) (hw : -9223372036854775808 ≤ w ∧ w ≤ 9223372036854775807) : FunO Try.prog 109 [.lst [], .v (.int .i64 8), .lst [.v (.int .i64 w)]] fun r o => r = .tup [.ref 0 8, .v (.int .i64 0)] ∧ o = some ⟨5, 1, ints .u8 (octs 8 w)⟩ := by
  have h := put_fun [] 8 [w]
  have e : putErr [] 8 [w] = 0 := by
    unfold putErr
    rw [if_neg (by decide), if_neg (by simp [i64_fits hw]), if_neg (by simp)]
  have e2 : putOut [] 8 [w] = octs 8 w := by unfold putOut; simp
  rw [e, e2, octs_length] at h
  refine FunO_mono h ?_
  rintro r o (⟨h1, _⟩ | ⟨_, rfl, rfl⟩)
  · exact absurd rfl h1
  · exact ⟨rfl, rfl⟩
theorem flat_row_le {w : Int} {cuts : List (List Int)} (h : bookErr w cuts = 0) (k : Nat) : (cuts.take k).flatten.length ≤ 960 := by
  have h1 := flat_length (m := manyOf cuts) (c := cuts.take k) fun x hx => (book_rows h x (List.mem_of_mem_take hx)).1
  have h2 := many_le h
  rw [h1, List.length_take]
  have : min k cuts.length * manyOf cuts ≤ 64 * 15 := Nat.mul_le_mul (by omega) h2.2
  omega

theorem bytes_fun (w : Int) (cuts : List (List Int)) (hw : -9223372036854775808 ≤ w ∧ w ≤ 9223372036854775807) (hr : I16r cuts) : Fun Try.prog 52 [bookD w cuts] fun r => r = .tup [.lst (ints .u8 (bytesB w cuts)), .v (.int .i64 (bookErr w cuts))] := by
  have hc := quantCells_fun w cuts
  by_cases h : bookErr w cuts = 0
  · have e : bytesB w cuts = bookTxt w cuts := if_pos h
    rw [e, h]
    rw [h, if_pos rfl] at hc
    have hm := many_le h
    have hp := put8_own w hw
    have h8 : (octs 8 w).length = 8 := octs_length
    have e1 : IntKind.u8.wrap (cuts.length : Int) = cuts.length := by rw [IntKind.wrap_u8]; omega
    have e2 : IntKind.u8.wrap (manyOf cuts : Int) = manyOf cuts := by rw [IntKind.wrap_u8]; omega
    have e3 : ((manyOf cuts + 1 : Nat) : Int) - 1 = manyOf cuts := by omega
    obtain ⟨H, hHe⟩ : ∃ H, H = octs 8 w ++ [(cuts.length : Int), (manyOf cuts : Int)] := ⟨_, rfl⟩
    have hH : H.length = 10 := by rw [hHe, List.length_append, h8]; rfl
    have hHt : H.take 10 = H := List.take_of_length_le (by omega)
    have e4 : ints .u8 (octs 8 w) ++ [D.v (.int .u8 (cuts.length : Int)), D.v (.int .u8 (manyOf cuts : Int))] = ints .u8 H := by rw [hHe]; simp [ints]
    have e5 : bookTxt w cuts = H ++ cuts.flatten.flatMap (octs 2) := by rw [hHe]; rfl
    rw [e5]
    refine Fun.of_awpI Try.func52 rfl cal52 Try.ntmps52 (by simp) fun hwf => ?_
    simp only [D.wfs, D.wf, ints_length, ints_wfs, rows_length, rows_wfs, capMax, and_true, true_and] at hwf
    repeat' (first | simp only [go_sem, e1, e2, e3, e4, h8, List.length_append, Ret_eq Try.results52] | simp (disch := omega) only [arith, IntKind.bits, capMax, fill_len, elt_fill] | (with_reducible refine condI_beq (fun hq hqb => ?_) (fun hq hqb => ?_) <;> simp only [KP_mk, hqb]) | (with_reducible refine condI_bne (fun hq hqb => ?_) (fun hq hqb => ?_) <;> simp only [KP_mk, hqb]) | (with_reducible refine condI_dec (fun hq hqb => ?_) (fun hq hqb => ?_) <;> simp only [KP_mk, hqb]) | (with_reducible refine condI_b (fun hqb => ?_) (fun hqb => ?_) <;> simp only [KP_mk, hqb]) | refine RetO_calc Try.results52 ?_ | refine RetL_calc Try.results52 rfl ?_ | (refine Again.up (by omega) ?_ ?_) | exact trivial | (refine opCallI_rd (by simp only [go_sem, e1, e2, e3, e4, h8, List.length_append, Ret_eq Try.results52]; first | done | rfl) (hc) (by rintro _ rfl; rfl) ?_; rintro _ rfl) | (refine opCallI_gv (by simp only [go_sem, e1, e2, e3, e4, h8, List.length_append, Ret_eq Try.results52]; first | done | rfl) (hc) ?_; rintro _ rfl) | (refine opCallI_ownGv (by simp only [go_sem, e1, e2, e3, e4, h8, List.length_append, Ret_eq Try.results52]; first | done | rfl) (hp) ?_; rintro _ _ ⟨rfl, rfl⟩) | fail)
    refine awpI_for cuts.length (fun k => True) (fun k => [(6, .lst (ints .u8 (H ++ (cuts.take k).flatten.flatMap (octs 2)))), (42, .v (.int .i64 k))]) (fun _ => []) [40, 41] [] _ (Weak.freeze (id := 23) (o := ⟨5, 1, ints .u8 (H)⟩) (by simp only [go_sem, Ret_eq Try.results52]) ints_noRefs ints_width1) trivial ?_ ?_ ?_
    · simp only [go_sem, List.take_zero, List.flatten_nil, List.flatMap_nil, hH, hHt, Ret_eq Try.results52]
    · simp only [go_sem, Ret_eq Try.results52]
    · intro k s hk _ hs
      simp only [go_sem, Ret_eq Try.results52] at hs
      by_cases hka : k < cuts.length
      · have et := take_snoc (a := cuts) (d := ([] : List Int)) hka
        have ef : (cuts.take (k + 1)).flatten = (cuts.take k).flatten ++ cuts.getD k [] := by rw [et]; simp
        have hfl := flat_row_le h k
        have hrk := hr.getD k
        have hrl := (cutsErr_zero.1 (book_rows h _ (getD_mem (d := []) hka)).2).1
        obtain ⟨c, hc0⟩ : ∃ c, cuts.getD k [] = c := ⟨_, rfl⟩
        rw [hc0] at ef hrk hrl
        generalize (cuts.take k).flatten = F at *
        repeat' (first | simp only [go_sem, hs, hc0, Ret_eq Try.results52] | simp (disch := omega) only [arith, IntKind.bits, capMax, fill_len, elt_fill] | (with_reducible refine condI_beq (fun hq hqb => ?_) (fun hq hqb => ?_) <;> simp only [KP_mk, hqb]) | (with_reducible refine condI_bne (fun hq hqb => ?_) (fun hq hqb => ?_) <;> simp only [KP_mk, hqb]) | (with_reducible refine condI_dec (fun hq hqb => ?_) (fun hq hqb => ?_) <;> simp only [KP_mk, hqb]) | (with_reducible refine condI_b (fun hqb => ?_) (fun hqb => ?_) <;> simp only [KP_mk, hqb]) | refine RetO_calc Try.results52 ?_ | refine RetL_calc Try.results52 rfl ?_ | (refine Again.up (by omega) ?_ ?_) | exact trivial | fail)
        refine awpI_for c.length (fun j => True) (fun j => [(6, .lst (ints .u8 (H ++ (F ++ c.take j).flatMap (octs 2)))), (48, .v (.int .i64 j))]) (fun _ => []) [40, 41, 42, 46, 47] [] _ (Weak.refl _) trivial ?_ ?_ ?_
        · simp only [go_sem, hs, List.take_zero, Ret_eq Try.results52]
        · simp only [go_sem, hs, Ret_eq Try.results52]
        · intro j s2 hj2 _ hs2
          simp only [go_sem, hs, Ret_eq Try.results52] at hs2
          by_cases hja : j < c.length
          · have et2 := take_snoc (a := c) (d := (0 : Int)) hja
            have hx := hrk.at hja
            have hl2 : (H ++ (F ++ c.take j).flatMap (octs 2)).length ≤ 65534 := by
              simp only [List.length_append, hH, flat_octs_length, List.length_take]
              omega
            have hp2 := put2_fun _ (c.getD j 0) hx hl2
            have ef2 : (F ++ c.take (j + 1)).flatMap (octs 2) = (F ++ c.take j).flatMap (octs 2) ++ octs 2 (c.getD j 0) := by rw [et2, ← List.append_assoc, List.flatMap_append]; simp
            rw [List.append_assoc, ← ef2] at hp2
            have ew : IntKind.i64.wrap (c.getD j 0) = c.getD j 0 := IntWalk.i64_in _ (by omega)
            repeat' (first | simp only [go_sem, hs, hs2, hc0, ew, Ret_eq Try.results52] | simp (disch := omega) only [arith, IntKind.bits, capMax, fill_len, elt_fill] | (with_reducible refine condI_beq (fun hq hqb => ?_) (fun hq hqb => ?_) <;> simp only [KP_mk, hqb]) | (with_reducible refine condI_bne (fun hq hqb => ?_) (fun hq hqb => ?_) <;> simp only [KP_mk, hqb]) | (with_reducible refine condI_dec (fun hq hqb => ?_) (fun hq hqb => ?_) <;> simp only [KP_mk, hqb]) | (with_reducible refine condI_b (fun hqb => ?_) (fun hqb => ?_) <;> simp only [KP_mk, hqb]) | refine RetO_calc Try.results52 ?_ | refine RetL_calc Try.results52 rfl ?_ | (refine Again.up (by omega) ?_ ?_) | exact trivial | (refine opCallI_rd (by simp only [go_sem, hs, hs2, hc0, ew, Ret_eq Try.results52]; first | done | rfl) (hp2) (by rintro _ rfl; rfl) ?_; rintro _ rfl) | (refine opCallI_gv (by simp only [go_sem, hs, hs2, hc0, ew, Ret_eq Try.results52]; first | done | rfl) (hp2) ?_; rintro _ rfl) | fail)
          · obtain rfl : j = c.length := by omega
            rw [List.take_length] at hs2
            repeat' (first | simp only [go_sem, hs, hs2, ef, Ret_eq Try.results52] | simp (disch := omega) only [arith, IntKind.bits, capMax, fill_len, elt_fill] | (with_reducible refine condI_beq (fun hq hqb => ?_) (fun hq hqb => ?_) <;> simp only [KP_mk, hqb]) | (with_reducible refine condI_bne (fun hq hqb => ?_) (fun hq hqb => ?_) <;> simp only [KP_mk, hqb]) | (with_reducible refine condI_dec (fun hq hqb => ?_) (fun hq hqb => ?_) <;> simp only [KP_mk, hqb]) | (with_reducible refine condI_b (fun hqb => ?_) (fun hqb => ?_) <;> simp only [KP_mk, hqb]) | refine RetO_calc Try.results52 ?_ | refine RetL_calc Try.results52 rfl ?_ | (refine Again.up (by omega) ?_ ?_) | exact trivial | fail)
      · obtain rfl : k = cuts.length := by omega
        rw [List.take_length] at hs
        repeat' (first | simp only [go_sem, hs, Ret_eq Try.results52] | simp (disch := omega) only [arith, IntKind.bits, capMax, fill_len, elt_fill] | (with_reducible refine condI_beq (fun hq hqb => ?_) (fun hq hqb => ?_) <;> simp only [KP_mk, hqb]) | (with_reducible refine condI_bne (fun hq hqb => ?_) (fun hq hqb => ?_) <;> simp only [KP_mk, hqb]) | (with_reducible refine condI_dec (fun hq hqb => ?_) (fun hq hqb => ?_) <;> simp only [KP_mk, hqb]) | (with_reducible refine condI_b (fun hqb => ?_) (fun hqb => ?_) <;> simp only [KP_mk, hqb]) | refine RetO_calc Try.results52 ?_ | refine RetL_calc Try.results52 rfl ?_ | (refine Again.up (by omega) ?_ ?_) | exact trivial | fail)
  · have e : bytesB w cuts = [] := if_neg h
    have h1 : bookErr w cuts = 1 := by unfold bookErr at *; split at h <;> simp_all
    rw [e, h1]
    rw [h1] at hc
    refine Fun.of_awpI Try.func52 rfl cal52 Try.ntmps52 (by simp) fun hwf => ?_
    simp only [D.wfs, D.wf, ints_length, ints_wfs, rows_length, rows_wfs, capMax, and_true, true_and] at hwf
    repeat' (first | simp only [go_sem, Ret_eq Try.results52] | simp (disch := omega) only [arith, IntKind.bits, capMax, fill_len, elt_fill] | (with_reducible refine condI_beq (fun hq hqb => ?_) (fun hq hqb => ?_) <;> simp only [KP_mk, hqb]) | (with_reducible refine condI_bne (fun hq hqb => ?_) (fun hq hqb => ?_) <;> simp only [KP_mk, hqb]) | (with_reducible refine condI_dec (fun hq hqb => ?_) (fun hq hqb => ?_) <;> simp only [KP_mk, hqb]) | (with_reducible refine condI_b (fun hqb => ?_) (fun hqb => ?_) <;> simp only [KP_mk, hqb]) | refine RetO_calc Try.results52 ?_ | refine RetL_calc Try.results52 rfl ?_ | (refine Again.up (by omega) ?_ ?_) | exact trivial | (refine opCallI_rd (by simp only [go_sem, Ret_eq Try.results52]; first | done | rfl) (hc) (by rintro _ rfl; rfl) ?_; rintro _ rfl) | (refine opCallI_gv (by simp only [go_sem, Ret_eq Try.results52]; first | done | rfl) (hc) ?_; rintro _ rfl) | fail)
end Go.Proofs.Ytpkampecmlpfmaa.T
