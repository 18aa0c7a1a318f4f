import Derived.Test.YtpkampecmlpfmaaLE
import Derived.Test.YtpkampecmlpfmaaEQRank
import Derived.Test.YtpkampecmlpfmaaETMore
import Derived.Test.YtpkampecmlpfmaaEPMath
set_option linter.unusedSimpArgs false
set_option linter.unusedVariables false
/- Books, walked. -/
namespace Go.Proofs.Ytpkampecmlpfmaa.T
open Go Go.VL Go.Proofs
set_option maxRecDepth 100000
set_option maxHeartbeats 4000000
def manyOf (cuts : List (List Int)) : Nat := (cuts.getD 0 []).length
def oddCut (n : Nat) (c : List Int) : Bool := decide (c.length ≠ n) || decide (cutsErr c ≠ 0)
def bookOk (w : Int) (cuts : List (List Int)) : Prop := 1 ≤ cuts.length ∧ cuts.length ≤ 64 ∧ wayErr w = 0 ∧ cuts.any (oddCut (manyOf cuts)) = false
instance (w : Int) (cuts : List (List Int)) : Decidable (bookOk w cuts) := by unfold bookOk; infer_instance
def bookErr (w : Int) (cuts : List (List Int)) : Int := if bookOk w cuts then 0 else 1
theorem bookErr_zero {w : Int} {cuts : List (List Int)} : bookErr w cuts = 0 ↔ bookOk w cuts := by
  unfold bookErr; split
  · exact ⟨fun _ => by assumption, fun _ => rfl⟩
  · exact ⟨fun h => absurd h (by decide), fun h => by contradiction⟩
theorem bookErr_one {w : Int} {cuts : List (List Int)} (h : ¬ bookOk w cuts) : bookErr w cuts = 1 := if_neg h
theorem any_take_snoc {p : List Int → Bool} {l : List (List Int)} {k : Nat} (h : k < l.length) : (l.take (k + 1)).any p = ((l.take k).any p || p (l.getD k [])) := by
  rw [take_snoc (d := []) h, List.any_append]; simp
theorem any_of_take {p : List Int → Bool} {l : List (List Int)} {k : Nat} (h : k < l.length) (hp : p (l.getD k []) = true) : l.any p = true := by
  rw [List.any_eq_true]
  exact ⟨_, getD_mem h, hp⟩

theorem indexFunc_fun (l : List (List Int)) (p : List Int → Bool) (g : FuncId) (caps : List D) (hc1 : D.idss caps = []) (hc2 : D.noRefs caps = true) (hc3 : D.nrms caps = caps)
    (hg : ∀ c ∈ l, Fun Try.prog g (.lst (ints .i16 c) :: caps) fun r => r = .v (.bool (p c))) :
    Fun Try.prog 151 [.lst (rows .i16 l), .clos (.func g) caps] fun r => ∃ z : Int, r = .v (.int .i64 z) ∧ (0 ≤ z ↔ l.any p = true) := by
  refine Fun.of_awpI Try.func151 rfl cal151 Try.ntmps151 (by simp) fun hwf => ?_
  simp only [D.wfs, D.wf, ints_length, ints_wfs, rows_length, rows_wfs, capMax, and_true, true_and] at hwf
  repeat' (first | simp only [go_sem, Ret_eq Try.results151] | fail)
  refine awpI_for l.length (fun k => (l.take k).any p = false) (fun k => [(8, .v (.int .i64 k))]) (fun _ => []) [0, 1, 7] [] _ (Weak.refl _) (by simp) ?_ ?_ ?_
  · simp only [go_sem, Ret_eq Try.results151]
  · simp only [go_sem, Ret_eq Try.results151]
  · intro k s hk hQ hs
    simp only [go_sem, Ret_eq Try.results151] at hs
    by_cases hka : k < l.length
    · have hgk := hg _ (getD_mem (d := []) hka)
      have e := any_take_snoc (p := p) hka
      rw [hQ, Bool.false_or] at e
      have e2 := any_of_take (p := p) hka
      generalize p (l.getD k []) = b at *
      cases b
      · repeat' (first | simp only [go_sem, hs, hc1, hc2, hc3, Ret_eq Try.results151] | simp (disch := omega) only [arith, IntKind.bits, capMax, fill_len, elt_fill] | (refine Again.up (by omega) ?_ ?_) | (refine opCallI_rd (by simp only [go_sem, hs, hc1, hc2, hc3, Ret_eq Try.results151]; first | done | rfl) (hgk) (by rintro _ rfl; rfl) ?_; rintro _ rfl) | fail)
        exact e
      · repeat' (first | simp only [go_sem, hs, hc1, hc2, hc3, Ret_eq Try.results151] | simp (disch := omega) only [arith, IntKind.bits, capMax, fill_len, elt_fill] | (refine opCallI_rd (by simp only [go_sem, hs, hc1, hc2, hc3, Ret_eq Try.results151]; first | done | rfl) (hgk) (by rintro _ rfl; rfl) ?_; rintro _ rfl) | fail)
        exact ⟨_, rfl, fun _ => e2 rfl, fun _ => by omega⟩
    · obtain rfl : k = l.length := by omega
      rw [List.take_length] at hQ
      repeat' (first | simp only [go_sem, hs, Ret_eq Try.results151] | simp (disch := omega) only [arith, IntKind.bits, capMax, fill_len, elt_fill] | fail)
      exact ⟨_, rfl, fun h => absurd h (by decide), fun h => by rw [hQ] at h; cases h⟩

theorem containsFunc_fun (l : List (List Int)) (p : List Int → Bool) (g : FuncId) (caps : List D) (hc1 : D.idss caps = []) (hc2 : D.noRefs caps = true) (hc3 : D.nrms caps = caps)
    (hg : ∀ c ∈ l, Fun Try.prog g (.lst (ints .i16 c) :: caps) fun r => r = .v (.bool (p c))) :
    Fun Try.prog 119 [.lst (rows .i16 l), .clos (.func g) caps] fun r => r = .v (.bool (l.any p)) := by
  refine Fun.of_awpI Try.func119 rfl cal119 Try.ntmps119 (by simp) fun hwf => ?_
  simp only [D.wfs, D.wf, ints_length, ints_wfs, rows_length, rows_wfs, capMax, and_true, true_and] at hwf
  repeat' (first | simp only [go_sem, hc1, hc2, hc3, Ret_eq Try.results119] | (refine opCallI_gv (by simp only [go_sem, hc1, hc2, hc3, Ret_eq Try.results119]; first | done | rfl) (indexFunc_fun l p g caps hc1 hc2 hc3 hg) ?_; rintro _ ⟨z, rfl, hz⟩) | fail)
  rw [Bool.eq_iff_iff, decide_eq_true_eq]
  omega

theorem check1_fun (c : List Int) (n : Nat) : Fun Try.prog 120 [.lst (ints .i16 c), .ptr (.v (.int .i64 n))] fun r => r = .v (.bool (oddCut n c)) := by
  refine Fun.of_awpI Try.func120 rfl cal120 Try.ntmps120 (by simp) fun hwf => ?_
  simp only [D.wfs, D.wf, ints_length, ints_wfs, rows_length, rows_wfs, capMax, and_true, true_and] at hwf
  unfold oddCut
  by_cases h : c.length = n
  · repeat' (first | simp only [go_sem, Ret_eq Try.results120] | simp (disch := omega) only [arith, IntKind.bits, capMax, fill_len, elt_fill] | (refine opCallI_rd (by simp only [go_sem, Ret_eq Try.results120]; first | done | rfl) (rankCheck_fun c) (by rintro _ rfl; rfl) ?_; rintro _ rfl) | fail)
    all_goals (by_cases q : cutsErr c = 0 <;> simp [h, q])
  · repeat' (first | simp only [go_sem, Ret_eq Try.results120] | simp (disch := omega) only [arith, IntKind.bits, capMax, fill_len, elt_fill] | fail)
    all_goals (by_cases q : cutsErr c = 0 <;> simp [h, q])

theorem quantCheck_fun (w : Int) (cuts : List (List Int)) : Fun Try.prog 63 [.agg [.v (.int .i64 w), .lst (rows .i16 cuts)]] fun r => r = .v (.int .i64 (bookErr w cuts)) := by
  refine Fun.of_awpI Try.func63 rfl cal63 Try.ntmps63 (by simp) fun hwf => ?_
  simp only [D.wfs, D.wf, ints_length, ints_wfs, rows_length, rows_wfs, capMax, and_true, true_and] at hwf
  by_cases h : 1 ≤ cuts.length ∧ cuts.length ≤ 64 ∧ wayErr w = 0
  · obtain ⟨h1, h2, h3⟩ := h
    have hb : cuts.any (oddCut (manyOf cuts)) = decide (bookErr w cuts = 1) := by
      by_cases q : cuts.any (oddCut (manyOf cuts)) = true
      · rw [q, bookErr_one (fun b => by have := b.2.2.2; rw [q] at this; cases this)]; rfl
      · have q' : cuts.any (oddCut (manyOf cuts)) = false := by simpa using q
        rw [q', bookErr_zero.2 ⟨h1, h2, h3, q'⟩]; rfl
    have hg := containsFunc_fun cuts (oddCut (manyOf cuts)) 120 [.ptr (.v (.int .i64 (manyOf cuts : Nat)))] rfl rfl rfl fun c _ => check1_fun c (manyOf cuts)
    rw [hb] at hg
    have hm : manyOf cuts = (cuts.getD 0 []).length := rfl
    have hb01 : bookErr w cuts = 0 ∨ bookErr w cuts = 1 := by unfold bookErr; split <;> simp
    repeat' (first | simp only [go_sem, h3, Ret_eq Try.results63] | simp (disch := omega) only [arith, IntKind.bits, capMax, fill_len, elt_fill] | (with_reducible refine condI_dec (fun hq hqb => ?_) (fun hq hqb => ?_) <;> simp only [KP_mk, hqb]) | (refine opCallI_rd (by simp only [go_sem, h3, Ret_eq Try.results63]; first | done | rfl) (not_fun w) (by rintro _ rfl; rfl) ?_; rintro _ rfl) | (refine opCallI_rd (by simp only [go_sem, h3, Ret_eq Try.results63]; first | done | rfl) (hg) (by rintro _ rfl; rfl) ?_; rintro _ rfl) | fail)
    all_goals omega
  · have hb : bookErr w cuts = 1 := bookErr_one fun b => h ⟨b.1, b.2.1, b.2.2.1⟩
    rw [hb]
    have hw1 := wayErr_one (a := w)
    repeat' (first | simp only [go_sem, Ret_eq Try.results63] | simp (disch := omega) only [arith, IntKind.bits, capMax, fill_len, elt_fill] | (with_reducible refine condI_dec (fun hq hqb => ?_) (fun hq hqb => ?_) <;> simp only [KP_mk, hqb]) | (refine opCallI_rd (by simp only [go_sem, Ret_eq Try.results63]; first | done | rfl) (not_fun w) (by rintro _ rfl; rfl) ?_; rintro _ rfl) | fail)
    all_goals omega
theorem book_rows {w : Int} {cuts : List (List Int)} (h : bookErr w cuts = 0) : ∀ c ∈ cuts, c.length = manyOf cuts ∧ cutsErr c = 0 := by
  intro c hc
  have := (bookErr_zero.1 h).2.2.2
  rw [List.any_eq_false] at this
  have := this c hc
  unfold oddCut at this
  simpa using this
theorem book_many {w : Int} {cuts : List (List Int)} (h : bookErr w cuts = 0) : manyOf cuts ≤ 15 := by
  have h1 := (bookErr_zero.1 h).1
  have := book_rows h _ (getD_mem (d := []) (k := 0) (by omega))
  have := (cutsErr_zero.1 this.2).1
  exact this

theorem quantCells_fun (w : Int) (cuts : List (List Int)) : Fun Try.prog 64 [.agg [.v (.int .i64 w), .lst (rows .i16 cuts)]] fun r => r = .tup [.v (.int .i64 (if bookErr w cuts = 0 then manyOf cuts + 1 else 0)), .v (.int .i64 (bookErr w cuts))] := by
  refine Fun.of_awpI Try.func64 rfl cal64 Try.ntmps64 (by simp) fun hwf => ?_
  simp only [D.wfs, D.wf, ints_length, ints_wfs, rows_length, rows_wfs, capMax, and_true, true_and] at hwf
  by_cases h : bookErr w cuts = 0
  · have h1 := (bookErr_zero.1 h).1
    have hm : (cuts.getD 0 []).length = manyOf cuts := rfl
    have h2 := book_many h
    rw [if_pos h, h]
    repeat' (first | simp only [go_sem, h, hm, Ret_eq Try.results64] | simp (disch := omega) only [arith, IntKind.bits, capMax, fill_len, elt_fill] | (refine opCallI_rd (by simp only [go_sem, h, hm, Ret_eq Try.results64]; first | done | rfl) (quantCheck_fun w cuts) (by rintro _ rfl; rfl) ?_; rintro _ rfl) | fail)
  · rw [if_neg h]
    repeat' (first | simp only [go_sem, Ret_eq Try.results64] | simp (disch := omega) only [arith, IntKind.bits, capMax, fill_len, elt_fill] | (refine opCallI_rd (by simp only [go_sem, Ret_eq Try.results64]; first | done | rfl) (quantCheck_fun w cuts) (by rintro _ rfl; rfl) ?_; rintro _ rfl) | fail)
def mx (a b : Int) : Int := if b > a then b else a
def maxL (l : List Int) : Int := l.foldl mx (l.getD 0 0)
theorem mx_le (a b B : Int) : mx a b ≤ B ↔ a ≤ B ∧ b ≤ B := by unfold mx; split <;> omega
theorem foldl_mx_le {l : List Int} {B : Int} : ∀ {a : Int}, l.foldl mx a ≤ B ↔ a ≤ B ∧ ∀ x ∈ l, x ≤ B := by
  induction l with
  | nil => intro a; simp
  | cons y l ih => intro a; rw [List.foldl_cons, ih, mx_le]; simp [and_assoc]
theorem maxL_le {l : List Int} {B : Int} (h : 1 ≤ l.length) : maxL l ≤ B ↔ ∀ x ∈ l, x ≤ B := by
  unfold maxL
  rw [foldl_mx_le]
  exact ⟨fun q => q.2, fun q => ⟨q _ (getD_mem (by omega)), q⟩⟩
theorem maxL_range {l : List Int} (hl : Octets l) (h : 1 ≤ l.length) : 0 ≤ maxL l ∧ maxL l ≤ 255 := by
  have h1 : maxL l ≤ 255 := (maxL_le h).2 fun x hx => by have := hl x hx; omega
  have h2 : ¬ maxL l ≤ -1 := fun q => by
    have := (maxL_le h).1 q _ (getD_mem (d := 0) (k := 0) (by omega))
    have := hl _ (getD_mem (d := 0) (k := 0) (by omega))
    omega
  omega
def formOk (cuts : List (List Int)) (code : List Int) : Prop := code.length = cuts.length ∧ ∀ x ∈ code, x ≤ manyOf cuts
instance (cuts : List (List Int)) (code : List Int) : Decidable (formOk cuts code) := by unfold formOk; infer_instance
end Go.Proofs.Ytpkampecmlpfmaa.T
