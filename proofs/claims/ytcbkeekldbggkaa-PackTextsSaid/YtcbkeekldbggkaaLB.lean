import Derived.Test.YtcbkeekldbggkaaLC
import Derived.ProofKit
import Derived.OpenShut
import Derived.ShutString
import Derived.ChangeOld
import Derived.JoinedOf
set_option linter.unusedSimpArgs false
set_option linter.unusedVariables false
section
/- What the operations ask, one thing behind another. -/
namespace Go.VL
open Go Go.RowKit

def bindP {α : Type} (o : Option α) (k : α → Prop) : Prop :=
  match o with
  | some x => k x
  | none => False
@[congr] theorem bindP_congr {α : Type} {o o' : Option α} {k : α → Prop} (h : o = o') : bindP o k = bindP o' k := by rw [h]
theorem bindP_eq {α : Type} {o : Option α} {k : α → Prop} : bindP o k = ∃ x, o = some x ∧ k x := by
  apply propext
  cases o <;> simp [bindP]
def reqP (p q : Prop) : Prop := p ∧ q
@[congr] theorem reqP_congr {p p' q : Prop} (h : p = p') : reqP p q = reqP p' q := by rw [h]
section
variable {P : Program} {t u : TypeId} {K : D → Prop} {KS : St → D → Prop} {st : St} {x y d : D} {l xs : List D} {id i o n : Nat}

theorem opPick_eq {b : Bool} : opPick (.v (.bool b)) x y K = K (if b then x else y) := by simp [opPick]

theorem opAlloc_eq : opAlloc P t id KS st = bindP (zeroT P t) fun z => reqP ((D.ofVal z).storable = true ∧ (D.ofVal z).width = P.cellsOf t ∧ 0 < P.cellsOf t) (KS ((st.killed id).obj id ⟨t, P.cellsOf t, [D.ofVal z]⟩) (.adr id 0 0)) := by
  rw [bindP_eq]; simp [opAlloc, reqP, and_assoc]
theorem opBox_eq : opBox P t x id KS st = reqP (x.storable = true ∧ x.width = P.cellsOf t ∧ 0 < P.cellsOf t) (KS ((st.killed id).obj id ⟨t, P.cellsOf t, [x.kill id]⟩) (.adr id 0 0)) := by
  simp [opBox, reqP, and_assoc]

def aggOf : D → Option (List D)
  | .agg l => some l
  | _ => none
theorem opBuild_eq {pl : List (Nat × D)} : opBuild P t pl K = reqP (fieldsOK P t = true) (bindP (placesT P t) fun p => bindP (zeroT P t) fun z => bindP (aggOf (D.ofVal z)) fun zs => bindP (fillD p zs pl) fun r => K (.agg r)) := by
  simp only [bindP_eq, opBuild, reqP]
  have : ∀ z zs, aggOf (D.ofVal z) = some zs ↔ D.ofVal z = .agg zs := by
    intro z zs
    cases D.ofVal z <;> simp [aggOf]
  simp only [this]
theorem opBuildSlice_eq {pl : List (Nat × D)} : opBuildSliceM P t n pl id KS st = bindP (frzAll (D.idss (pl.map Prod.snd)) st (pl.map Prod.snd)) fun q => bindP (elT P t) fun e => reqP (0 < P.cellsOf e ∧ n * P.cellsOf e ≤ 16777216 ∧ (rep pl q.2).length = n ∧ inOrder 0 (rep pl q.2) = true ∧ (∀ p ∈ rep pl q.2, p.2.storable = true ∧ p.2.width = P.cellsOf e ∧ p.2.noRef = true) ∧ (zeroT P e).isSome = true)
    (if n = 0 then KS ((q.1.killed id).obj id ⟨e, P.cellsOf e, []⟩) (.ref id 0) else KS q.1 (.lst ((rep pl q.2).map (·.2)))) := by
  simp only [bindP_eq, opBuildSliceM, opBuildSlice, reqP, and_assoc]

theorem opLoad_ptr : opLoad P t (.ptr d) K st = reqP (okT P t = true ∧ d.width = P.cellsOf t) (bindP (partOf d 0 (P.cellsOf t) (aggT P t)) K) := by
  simp only [bindP_eq, opLoad, reqP, and_assoc]
theorem opLoad_adr : opLoad P t (.adr id i o) K st = bindP (st.H id) fun ob => bindP (ob.els[i]?) fun d => reqP (okT P t = true ∧ d.width = ob.S) (bindP (partOf d o (P.cellsOf t) (aggT P t)) K) := by
  simp only [bindP_eq, opLoad, reqP, and_assoc]
theorem opStore_adr {K : St → Prop} : opStore P t (.adr id i o) x K st = bindP (st.H id) fun ob => bindP (ob.els[i]?) fun d => reqP (okT P t = true ∧ d.width = ob.S ∧ x.storable = true ∧ x.width = P.cellsOf t) (bindP (setPart d o x) fun d' => K (st.obj id { ob with els := ob.els.set i d' })) := by
  simp only [bindP_eq, opStore, reqP, and_assoc]
theorem opNilCheck_ptr : opNilCheck (.ptr d) K = K (.ptr d) := (rfl)
theorem opNilCheck_adr : opNilCheck (.adr id i o) K = K (.adr id i o) := (rfl)

theorem opUn_neg {k : IntKind} {a : Int} : opUn .neg (.v (.int k a)) K = K (.v (.int k (k.wrap (0 - a)))) := (rfl)
theorem opUn_xor {k : IntKind} {a : Int} : opUn .xor (.v (.int k a)) K = K (.v (.int k (abits .xor k (if k.signed then -1 else k.max) a))) := (rfl)
theorem opUn_not {b : Bool} : opUn .not (.v (.bool b)) K = K (.v (.bool (!b))) := (rfl)

theorem opConvert_int {k k' : IntKind} {a : Int} (h : (P.underlying t).isSome = true) (h2 : intT P u = some k') : opConvert P t u (.v (.int k a)) K st = K (.v (.int k' (k'.wrap a))) := by
  simp [opConvert, h, h2]
theorem opConvert_flt {k : IntKind} {f : FloatKind} {a : Int} (h : (P.underlying t).isSome = true) (h2 : intT P u = none) (h3 : fltT P u = some f) : opConvert P t u (.v (.int k a)) K st = K (.v (.float f (f.nearest a))) := by
  simp [opConvert, h, h2, h3]
theorem opConvert_lst : opConvert P t u (.lst l) K st = bindP (elT P t) fun e => reqP (intT P e = some .u8 ∧ strT P u = true) (bindP (bytesOf l) fun ns => K (.v (.string (strOfNums ns)))) := by
  simp only [bindP_eq, opConvert, reqP, and_assoc]
theorem opConvert_nil : opConvert P t u (.v (.slice none 0 0)) K st = bindP (elT P t) fun e => reqP (intT P e = some .u8 ∧ strT P u = true) (K (.v (.string (strOfNums [])))) := by
  simp only [bindP_eq, opConvert, reqP, and_assoc]
theorem opConvert_nil0 : opConvert P t u .nil0 K st = bindP (elT P t) fun e => reqP (intT P e = some .u8 ∧ strT P u = true) (K (.v (.string (strOfNums [])))) := by
  simp only [bindP_eq, opConvert, reqP, and_assoc]
theorem opConvert_ref : opConvert P t u (.ref id n) K st = bindP (elT P t) fun e => reqP (intT P e = some .u8 ∧ strT P u = true) (bindP (st.H id) fun ob => reqP (ob.S = 1 ∧ n ≤ ob.els.length) (bindP (bytesOf (ob.els.take n)) fun ns => K (.v (.string (strOfNums ns))))) := by
  simp only [bindP_eq, opConvert, reqP, and_assoc]

theorem opMakeSlice_eq {k k' : IntKind} {a b : Int} : opMakeSlice P t (.v (.int k a)) (.v (.int k' b)) id KS st = bindP (elT P t) fun e => reqP (0 < P.cellsOf e) (reqP (a ≤ b ∧ 0 ≤ a ∧ b * P.bytesOf e ≤ 140737488355328 ∧ b ≤ capMax) (bindP (zeroT P e) fun z => reqP ((D.ofVal z).storable = true ∧ (D.ofVal z).width = P.cellsOf e)
    (KS ((st.killed id).obj id ⟨e, P.cellsOf e, List.replicate a.toNat (D.ofVal z)⟩) (.ref id a.toNat)))) := by
  simp only [bindP_eq, opMakeSlice, reqP, and_assoc]

theorem opSlice_lst {lo hi : Option D} : opSlice P t (.lst l) lo hi none K st = bindP (elT P t) fun e => reqP (0 < P.cellsOf e ∧ ∀ d ∈ l, d.width = P.cellsOf e ∧ d.storable = true) (bindP (bndD lo 0) fun i => bindP (bndD hi l.length) fun j => reqP (0 ≤ i ∧ i ≤ j ∧ j ≤ l.length) (K (.lst ((l.take j.toNat).drop i.toNat)))) := by
  simp only [bindP_eq, opSlice, reqP, and_assoc]
theorem opSlice_lst3 {lo hi : Option D} {m : D} : opSlice P t (.lst l) lo hi (some m) K st = bindP (elT P t) fun e => reqP (0 < P.cellsOf e ∧ ∀ d ∈ l, d.width = P.cellsOf e ∧ d.storable = true) (bindP (bndD lo 0) fun i => bindP (bndD hi l.length) fun j => reqP (0 ≤ i ∧ i ≤ j ∧ j ≤ l.length ∧ hi.isSome = true) (bindP (intD m) fun k => reqP (j ≤ k ∧ k ≤ l.length) (if k = i then K .nil0 else K (.lst ((l.take j.toNat).drop i.toNat))))) := by
  simp only [bindP_eq, opSlice, reqP, and_assoc]
theorem opSlice_ref {hi : Option D} : opSlice P t (.ref id n) none hi none K st = bindP (elT P t) fun e => reqP (0 < P.cellsOf e) (bindP (bndD hi n) fun j => reqP (0 ≤ j ∧ j ≤ n) (bindP (st.H id) fun ob => reqP (ob.S = P.cellsOf e ∧ n ≤ ob.els.length) (K (.ref id j.toNat)))) := by
  simp only [bindP_eq, opSlice, reqP, and_assoc, Option.isNone_none, true_and, bndD]
  apply propext
  constructor
  · rintro ⟨e, h1, h2, i, h3, j, h4, h5, h6, h7, ⟨ob, h8, h9, h10⟩, h11⟩
    cases h3
    exact ⟨e, h1, h2, j, h4, h6, h7, ob, h8, h9, h10, h11⟩
  · rintro ⟨e, h1, h2, j, h4, h6, h7, ob, h8, h9, h10, h11⟩
    exact ⟨e, h1, h2, 0, rfl, j, h4, Int.le_refl _, h6, h7, ⟨ob, h8, h9, h10⟩, h11⟩
theorem opSlice_refS {lo : D} {hi : Option D} : opSlice P t (.ref id n) (some lo) hi none K st = bindP (elT P t) fun e => reqP (0 < P.cellsOf e) (bindP (bndD (some lo) 0) fun i => bindP (bndD hi n) fun j => reqP (0 ≤ i ∧ i ≤ j ∧ j ≤ n) (bindP (st.H id) fun ob => reqP (ob.S = P.cellsOf e ∧ n ≤ ob.els.length) (K (.sub id i.toNat (j - i).toNat)))) := by
  simp only [bindP_eq, opSlice, reqP, and_assoc, Option.isNone_none, true_and]
  apply propext
  constructor
  · rintro ⟨e, h1, h2, i, h3, j, h4, h5, h6, h7, ⟨ob, h8, h9, h10⟩, h11⟩
    exact ⟨e, h1, h2, i, h3, j, h4, h5, h6, h7, ob, h8, h9, h10, h11⟩
  · rintro ⟨e, h1, h2, i, h3, j, h4, h5, h6, h7, ob, h8, h9, h10, h11⟩
    exact ⟨e, h1, h2, i, h3, j, h4, h5, h6, h7, ⟨ob, h8, h9, h10⟩, h11⟩
theorem opSlice_sub {b : Nat} {lo hi : Option D} : opSlice P t (.sub id b n) lo hi none K st = bindP (elT P t) fun e => reqP (0 < P.cellsOf e) (bindP (bndD lo 0) fun i => bindP (bndD hi n) fun j => reqP (0 ≤ i ∧ i ≤ j ∧ j ≤ n) (bindP (st.H id) fun ob => reqP (ob.S = P.cellsOf e) (K (.sub id (b + i.toNat) (j - i).toNat)))) := by
  simp only [bindP_eq, opSlice, reqP, and_assoc, Option.isNone_none, true_and]
  apply propext
  constructor
  · rintro ⟨e, h1, h2, i, h3, j, h4, h5, h6, h7, ⟨ob, h8, h9⟩, h11⟩
    exact ⟨e, h1, h2, i, h3, j, h4, h5, h6, h7, ob, h8, h9, h11⟩
  · rintro ⟨e, h1, h2, i, h3, j, h4, h5, h6, h7, ob, h8, h9, h11⟩
    exact ⟨e, h1, h2, i, h3, j, h4, h5, h6, h7, ⟨ob, h8, h9⟩, h11⟩
theorem opSlice_nil {lo hi : Option D} : opSlice P t (.v (.slice none 0 0)) lo hi none K st = bindP (elT P t) fun e => reqP (0 < P.cellsOf e) (bindP (bndD lo 0) fun i => reqP (i = 0) (bindP (bndD hi 0) fun j => reqP (j = 0) (K (.v (.slice none 0 0))))) := by
  simp only [bindP_eq, opSlice, reqP, Option.isNone_none, true_and]
theorem bndD_none {z : Int} : bndD none z = some z := (rfl)
theorem bndD_some {z i : Int} {k : IntKind} : bndD (some (.v (.int k i))) z = some i := (rfl)
theorem intD_int {i : Int} {k : IntKind} : intD (.v (.int k i)) = some i := (rfl)

theorem opFieldAddr_adr {f : Nat} : opFieldAddr P t (.adr id i o) f K = bindP (fieldT P t f) fun fl => reqP (okT P fl.type = true) (K (.adr id i (o + fl.offset))) := by
  simp only [bindP_eq, opFieldAddr, reqP]
theorem opFieldAddr_ptr {f : Nat} : opFieldAddr P t (.ptr d) f K = bindP (fieldT P t f) fun fl => reqP (okT P fl.type = true) (bindP (partOf d fl.offset (P.cellsOf fl.type) (aggT P fl.type)) fun r => reqP (r.width = P.cellsOf fl.type ∧ (aggT P fl.type = false → r.isAgg = false ∧ r.storable = true)) (K (.ptr r))) := by
  simp only [bindP_eq, opFieldAddr, reqP, and_assoc]
theorem opField_agg {f : Nat} : opField P t (.agg l) f K = bindP (fieldT P t f) fun fl => reqP (okT P fl.type = true) (bindP (partOf (.agg l) fl.offset (P.cellsOf fl.type) (aggT P fl.type)) K) := by
  simp only [bindP_eq, opField, reqP]

theorem opIndexAddr_lst {k : IntKind} {a : Int} : opIndexAddr P t (.lst l) (.v (.int k a)) K st = bindP (elT P t) fun e => reqP (0 < P.cellsOf e ∧ ∀ d ∈ l, d.width = P.cellsOf e ∧ d.storable = true) (reqP (0 ≤ a ∧ a < l.length) (bindP (l[a.toNat]?) fun d => K (.ptr d))) := by
  simp only [bindP_eq, opIndexAddr, reqP, and_assoc]
  apply propext
  constructor
  · rintro ⟨e, h1, h2, h3, h4, h5, d, h6, h7⟩; exact ⟨e, h1, h4, h5, h2, h3, d, h6, h7⟩
  · rintro ⟨e, h1, h4, h5, h2, h3, d, h6, h7⟩; exact ⟨e, h1, h2, h3, h4, h5, d, h6, h7⟩
theorem opIndexAddr_ref {k : IntKind} {a : Int} : opIndexAddr P t (.ref id n) (.v (.int k a)) K st = bindP (elT P t) fun e => reqP (0 < P.cellsOf e) (reqP (0 ≤ a ∧ a < n) (bindP (st.H id) fun ob => reqP (ob.S = P.cellsOf e ∧ n ≤ ob.els.length) (K (.adr id a.toNat 0)))) := by
  simp only [bindP_eq, opIndexAddr, reqP, and_assoc]
  apply propext
  constructor
  · rintro ⟨e, h1, h2, h3, h4, ob, h5, h6, h7, h8⟩; exact ⟨e, h1, h4, h2, h3, ob, h5, h6, h7, h8⟩
  · rintro ⟨e, h1, h4, h2, h3, ob, h5, h6, h7, h8⟩; exact ⟨e, h1, h2, h3, h4, ob, h5, h6, h7, h8⟩
theorem opIndexAddr_sub {k : IntKind} {a : Int} {b : Nat} : opIndexAddr P t (.sub id b n) (.v (.int k a)) K st = bindP (elT P t) fun e => reqP (0 < P.cellsOf e) (reqP (0 ≤ a ∧ a < n) (bindP (st.H id) fun ob => reqP (ob.S = P.cellsOf e ∧ b + n ≤ ob.els.length) (K (.adr id (b + a.toNat) 0)))) := by
  simp only [bindP_eq, opIndexAddr, reqP, and_assoc]
  apply propext
  constructor
  · rintro ⟨e, h1, h2, h3, h4, h5⟩; exact ⟨e, h1, h4, h2, h3, h5⟩
  · rintro ⟨e, h1, h4, h2, h3, h5⟩; exact ⟨e, h1, h2, h3, h4, h5⟩
theorem opIndexAddr_adr {k : IntKind} {a : Int} : opIndexAddr P t (.adr id i o) (.v (.int k a)) K st = bindP (arrT P t) fun ne => reqP (0 < P.cellsOf ne.2) (reqP (0 ≤ a ∧ a < ne.1) (K (.adr id i (o + a.toNat * P.cellsOf ne.2)))) := by
  simp only [bindP_eq, opIndexAddr, reqP, and_assoc, Prod.exists]
  apply propext
  constructor
  · rintro ⟨m, e, h1, h2, h3, h4, h5⟩; exact ⟨m, e, h1, h4, h2, h3, h5⟩
  · rintro ⟨m, e, h1, h4, h2, h3, h5⟩; exact ⟨m, e, h1, h2, h3, h4, h5⟩
theorem opIndexAddr_ptr {k : IntKind} {a : Int} : opIndexAddr P t (.ptr d) (.v (.int k a)) K st = bindP (arrT P t) fun ne => reqP (0 < P.cellsOf ne.2) (reqP (0 ≤ a ∧ a < ne.1) (bindP (partOf d (a.toNat * P.cellsOf ne.2) (P.cellsOf ne.2) (aggT P ne.2)) fun r => reqP (r.width = P.cellsOf ne.2 ∧ (aggT P ne.2 = false → r.isAgg = false ∧ r.storable = true)) (K (.ptr r)))) := by
  simp only [bindP_eq, opIndexAddr, reqP, and_assoc, Prod.exists]
  apply propext
  constructor
  · rintro ⟨m, e, h1, h2, h3, h4, r, h5, h6, h7, h8⟩; exact ⟨m, e, h1, h4, h2, h3, r, h5, h6, h7, h8⟩
  · rintro ⟨m, e, h1, h4, h2, h3, r, h5, h6, h7, h8⟩; exact ⟨m, e, h1, h2, h3, h4, r, h5, h6, h7, h8⟩
theorem opIndex_agg {k : IntKind} {a : Int} : opIndex P t (.agg l) (.v (.int k a)) K = bindP (arrT P t) fun ne => reqP (0 ≤ a ∧ a < ne.1 ∧ okT P ne.2 = true) (bindP (partOf (.agg l) (a.toNat * P.cellsOf ne.2) (P.cellsOf ne.2) (aggT P ne.2)) K) := by
  simp only [bindP_eq, opIndex, reqP, and_assoc, Prod.exists]
theorem opExtract_tup : opExtract (.tup l) i K = bindP (l[i]?) K := by
  simp only [bindP_eq, opExtract]

theorem opLen_lst (h : sliceT P t = true) : opLen P t (.lst l) K = K (.v (.int .i64 l.length)) := by simp [opLen, h]
theorem opLen_sub {b : Nat} (h : sliceT P t = true) : opLen P t (.sub id b n) K = K (.v (.int .i64 n)) := by simp [opLen, h]
theorem opLen_ref (h : sliceT P t = true) : opLen P t (.ref id n) K = K (.v (.int .i64 n)) := by simp [opLen, h]
theorem opLen_nil (h : sliceT P t = true) : opLen P t (.v (.slice none 0 0)) K = K (.v (.int .i64 0)) := by simp [opLen, h]
theorem opLen_nil0 (h : sliceT P t = true) : opLen P t .nil0 K = K (.v (.int .i64 0)) := by simp [opLen, h]
theorem opLen_str {s : ByteArray} (h : strT P t = true) : opLen P t (.v (.string s)) K = K (.v (.int .i64 s.size)) := by simp [opLen, h]
theorem opCx_complex {k : FloatKind} {a b : Nat} : opCx .complex [.v (.float k a), .v (.float k b)] K = K (.v (.complex k a b)) := by simp [opCx]
theorem opCx_real {k : FloatKind} {a b : Nat} : opCx .real [.v (.complex k a b)] K = K (.v (.float k a)) := (rfl)
theorem opCx_imag {k : FloatKind} {a b : Nat} : opCx .imag [.v (.complex k a b)] K = K (.v (.float k b)) := (rfl)
theorem opConvert_f2i {f : FloatKind} {b : Nat} (h : (P.underlying t).isSome = true) {k' : IntKind} (h2 : intT P u = some k') : opConvert P t u (.v (.float f b)) K st = bindP (floatToIntVal f b k') fun n => K (.v (.int k' n)) := by
  simp [bindP_eq, opConvert, h, h2]
theorem bin_cmulP {x y z w : Nat} : opBin P .mul t (.v (.complex .f64 x y)) (.v (.complex .f64 z w)) K = bindP (cmulB x y z w) fun p => K (.v (.complex .f64 p.1 p.2)) := by
  rw [bin_cmul, bindP_eq]
  cases cmulB x y z w <;> simp
theorem opMin_eq : opMin (x :: l) K = bindP (minD x l) K := by simp only [bindP_eq, opMin]
theorem opMax_eq : opMax (x :: l) K = bindP (maxD x l) K := by simp only [bindP_eq, opMax]
theorem minD_nil : minD x [] = some x := by cases x <;> first | rfl | (rename_i v; cases v <;> rfl)
theorem minD_cons {k k' : IntKind} {a b : Int} : minD (.v (.int k a)) (.v (.int k' b) :: l) = minD (.v (.int k (if b < a then b else a))) l := (rfl)
theorem maxD_nil : maxD x [] = some x := by cases x <;> first | rfl | (rename_i v; cases v <;> rfl)
theorem maxD_cons {k k' : IntKind} {a b : Int} : maxD (.v (.int k a)) (.v (.int k' b) :: l) = maxD (.v (.int k (if b > a then b else a))) l := (rfl)

theorem opCopy_ref : opCopy P t (.ref id n) y KS st = bindP (elT P t) fun e => reqP (0 < P.cellsOf e) (bindP (itemsD (P.cellsOf e) st y) fun xs => reqP (∀ d ∈ xs, d.width = P.cellsOf e ∧ d.storable = true) (bindP (st.H id) fun ob => reqP (ob.S = P.cellsOf e ∧ ob.e = e ∧ n ≤ ob.els.length)
    (KS (st.obj id ⟨ob.e, ob.S, putAt ob.els 0 (xs.take n)⟩) (.v (.int .i64 (Nat.min xs.length n)))))) := by
  simp only [bindP_eq, opCopy, reqP, and_assoc]
theorem opCopy_sub {b : Nat} : opCopy P t (.sub id b n) y KS st = bindP (elT P t) fun e => reqP (0 < P.cellsOf e) (bindP (itemsD (P.cellsOf e) st y) fun xs => reqP (∀ d ∈ xs, d.width = P.cellsOf e ∧ d.storable = true) (bindP (st.H id) fun ob => reqP (ob.S = P.cellsOf e ∧ ob.e = e ∧ b + n ≤ ob.els.length)
    (KS (st.obj id ⟨ob.e, ob.S, putAt ob.els b (xs.take n)⟩) (.v (.int .i64 (Nat.min xs.length n)))))) := by
  simp only [bindP_eq, opCopy, reqP, and_assoc]
theorem opAppend_eq : opAppend P t x y id KS st = bindP (elT P t) fun e => reqP (0 < P.cellsOf e ∧ zeroOK P e = true) (bindP (baseD e (P.cellsOf e) st id x) fun b => bindP (itemsD (P.cellsOf e) st y) fun xs =>
    reqP ((∀ d ∈ xs, d.width = P.cellsOf e ∧ d.storable = true) ∧ D.kills b.1 (b.2 ++ xs) = b.2 ++ xs) (reqP ((b.2 ++ xs).length * P.bytesOf e ≤ 140737488355328 ∧ (b.2 ++ xs).length ≤ capMax)
    (KS ((st.killed b.1).obj b.1 ⟨e, P.cellsOf e, b.2 ++ xs⟩) (.ref b.1 (b.2 ++ xs).length)))) := by
  simp only [bindP_eq, opAppend, reqP, and_assoc]
  apply propext
  constructor
  · rintro ⟨e, h1, h2, b, h3, xs, h4, h5, h6, h7, h8, h9, h10⟩; exact ⟨e, h1, h2, h8, b, h3, xs, h4, h5, h9, h6, h7, h10⟩
  · rintro ⟨e, h1, h2, h8, b, h3, xs, h4, h5, h9, h6, h7, h10⟩; exact ⟨e, h1, h2, b, h3, xs, h4, h5, h6, h7, h8, h9, h10⟩
theorem baseD_nil {e : TypeId} {S : Nat} : baseD e S st id (.v (.slice none 0 0)) = some (id, []) := (rfl)
theorem baseD_nil0 {e : TypeId} {S : Nat} : baseD e S st id .nil0 = some (id, []) := (rfl)
theorem itemsD_lst {S : Nat} : itemsD S st (.lst l) = some l := (rfl)
theorem itemsD_nil {S : Nat} : itemsD S st (.v (.slice none 0 0)) = some [] := (rfl)
theorem itemsD_nil0 {S : Nat} : itemsD S st .nil0 = some [] := (rfl)

/-- A call, by the contract of what is called. -/
theorem opCall_of {g : FuncId} {caps args : List D} {p : St × List D} {R : D → Prop} (h1 : frzAll (D.idss (args ++ caps)) st (args ++ caps) = some p) (h2 : D.noRefs p.2 = true) (hf : Fun P g (D.nrms p.2) R)
    (hk : ∀ r, R r → KS (if r.flat then st else p.1) r) : opCall P (.clos (.func g) caps) args id KS st := .inl ⟨p, h1, h2, .inl ⟨R, hf, fun r hr _ => hk r hr⟩⟩
/-- The same, where nothing that is owned is handed over. -/
theorem opCall_plain {g : FuncId} {caps args : List D} {R : D → Prop} (h1 : D.idss (args ++ caps) = []) (h2 : D.noRefs (args ++ caps) = true) (hf : Fun P g (D.nrms (args ++ caps)) R)
    (hk : ∀ r, R r → KS st r) : opCall P (.clos (.func g) caps) args id KS st := .inl ⟨(st, args ++ caps), by rw [h1]; rfl, h2, .inl ⟨R, hf, fun r hr _ => by simpa using hk r hr⟩⟩

/-- A call that hands over a list to be owned. -/
theorem opCall_own {g : FuncId} {caps args : List D} {p : St × List D} {R : D → Option Own → Prop} (h1 : frzAll (D.idss (args ++ caps)) st (args ++ caps) = some p) (h2 : D.noRefs p.2 = true) (hf : FunO P g (D.nrms p.2) R)
    (hk : ∀ r o, R r o → match o with | none => KS p.1 r | some o => KS ((p.1.killed id).obj id o) (r.ren id)) : opCall P (.clos (.func g) caps) args id KS st := .inl ⟨p, h1, h2, .inr ⟨R, hf, fun r o hr _ => by have := hk r o hr; cases o <;> first | exact fun _ => this | exact this⟩⟩
theorem opCall_own_plain {g : FuncId} {caps args : List D} {R : D → Option Own → Prop} (h1 : D.idss (args ++ caps) = []) (h2 : D.noRefs (args ++ caps) = true) (hf : FunO P g (D.nrms (args ++ caps)) R)
    (hk : ∀ r o, R r o → match o with | none => KS st r | some o => KS ((st.killed id).obj id o) (r.ren id)) : opCall P (.clos (.func g) caps) args id KS st := .inl ⟨(st, args ++ caps), by rw [h1]; rfl, h2, .inr ⟨R, hf, fun r o hr _ => by have := hk r o hr; cases o <;> first | exact fun _ => this | exact this⟩⟩
end

-- parts
theorem partOf_v {x : Value} : partOf (.v x) 0 1 false = some (.v x) := (rfl)
theorem partOf_lst {l : List D} : partOf (.lst l) 0 1 false = some (.lst l) := (rfl)
theorem partOf_ref {i n : Nat} : partOf (.ref i n) 0 1 false = some (.ref i n) := (rfl)
theorem partOf_adr {i n m : Nat} : partOf (.adr i n m) 0 1 false = some (.adr i n m) := (rfl)
theorem partOf_nil0 : partOf .nil0 0 1 false = some .nil0 := (rfl)
theorem partOf_agg1 {l : List D} {o : Nat} : partOf (.agg l) o 1 false = l[o]? := (rfl)
theorem partOf_aggA {l : List D} {o n : Nat} : partOf (.agg l) o n true = if o + n ≤ l.length then some (.agg ((l.drop o).take n)) else none := (rfl)

end Go.VL

end
section
/- Loops; lists of numbers, and lists of these. -/
namespace Go.VL
open Go Go.RowKit

theorem awp_loop {P : Program} {c : Code} {N : St → Prop} {X : Nat → St → Prop} {R : St → Prop} {st : St} (I : Nat → St → Prop) (n : Nat) (s : St) (hw : Weak st s) (hI : I n s)
    (hr : ∀ n s, I n s → awp P c (fun s' => ∃ m s'', m < n ∧ Weak s' s'' ∧ I m s'') X R s) : awp P (.loop c) N X R st := ⟨I, ⟨n, s, hw, hI⟩, hr⟩

def Next (I : Nat → St → Prop) (n k : Nat) (s' : St) : Prop := ∃ m s'', m < n - k ∧ Weak s' s'' ∧ ∃ k', k' + m = n ∧ I k' s''
theorem Next.mk {I : Nat → St → Prop} {n k : Nat} {s' s'' : St} (h : k < n) (hw : Weak s' s'') (hI : I (k + 1) s'') : Next I n k s' := ⟨n - (k + 1), s'', by omega, hw, k + 1, by omega, hI⟩
theorem Next.to {I : Nat → St → Prop} {n k : Nat} {s' : St} (h : k < n) (hI : I (k + 1) s') : Next I n k s' := Next.mk h (Weak.refl _) hI

/-- A loop that counts up to n. -/
theorem awp_count {P : Program} {c : Code} {N : St → Prop} {X : Nat → St → Prop} {R : St → Prop} {st : St} (n : Nat) (I : Nat → St → Prop) (s : St) (hw : Weak st s) (hI : I 0 s)
    (hr : ∀ k s, k ≤ n → I k s → awp P c (Next I n k) X R s) : awp P (.loop c) N X R st := by
  refine ⟨fun m s => ∃ k, k + m = n ∧ I k s, ⟨n, s, hw, 0, by omega, hI⟩, ?_⟩
  rintro m s ⟨k, hk, hI⟩
  have h := hr k s (by omega) hI
  have e : (fun s' => ∃ m' s'', m' < m ∧ Weak s' s'' ∧ ∃ k', k' + m' = n ∧ I k' s'') = Next I n k := by
    funext s'
    have : n - k = m := by omega
    simp only [Next, this]
  rw [e]; exact h

/-- What is nil is an object with nothing in it. -/
def St.adopt (st : St) (j id : Nat) (e : TypeId) (S : Nat) : St := ((st.killed id).obj id ⟨e, S, []⟩).put (some j) (.ref id 0)

theorem Weak.adopt {st : St} {j : Nat} (id : Nat) (e : TypeId) (S : Nat) (h : st.t j = .v (.slice none 0 0)) (hj : j < st.n) (hS : 0 < S) : Weak st (st.adopt j id e S) := by
  intro J0 ρ J B w0 a w hs
  have h1 := hs.slots j
  rw [h] at h1
  have key := hs.reobj id ⟨e, S, []⟩ ⟨none, 0, S⟩ none ⟨rfl, rfl, rfl, Nat.le_refl _, fun _ _ _ => rfl⟩ (fun k hk => by cases hk) (fun g hg1 hg2 => by simp at hg1)
    (.inl ⟨by simp [upd_same], hS, by simp, by simp [upd_same, maxLen], by simp, [], rfl, by simp, .inl ⟨by simp [upd_same], rfl⟩⟩)
  refine ⟨upd ρ id ⟨none, 0, S⟩, J, ?_⟩
  have hput := key.put (some j) (fun d hd => by cases hd; exact hj) (x := .ref id 0) (y := .slice none 0 0) (by simp [RelD, upd_same])
  have hst : (a.put (some j) (.slice none 0 0)) = a := by
    have hlt : j < a.tmps.size := by rw [hs.size]; exact hj
    have hg : a.tmps[j] = .slice none 0 0 := by
      have := h1.1
      simpa [hlt] using this
    cases a with
    | mk tm df =>
      simp only [Act.put]
      congr 1
      apply Array.ext
      · simp
      · intro i h1' h2'
        by_cases hi : j = i
        · subst hi; simpa using hg.symm
        · rw [Array.getElem_setIfInBounds_ne _ hi]
  rw [hst] at hput
  exact hput

theorem Weak.trans {a b c : St} (h : Weak a b) (h' : Weak b c) : Weak a c := fun J0 ρ J B w0 ac w hs =>
  let ⟨ρ1, J1, h1⟩ := h J0 ρ J B w0 ac w hs; h' J0 ρ1 J1 B w0 ac w h1

-- lists of numbers
def ints (k : IntKind) (l : List Int) : List D := l.map fun n => .v (.int k n)
section
variable {k : IntKind} {l m : List Int} {x : Int} {n i id : Nat}
theorem ints_length : (ints k l).length = l.length := by simp [ints]
theorem ints_nil : ints k [] = [] := (rfl)
theorem ints_cons : ints k (x :: l) = .v (.int k x) :: ints k l := (rfl)
theorem ints_append : ints k l ++ ints k m = ints k (l ++ m) := by simp [ints]
theorem ints_snoc : ints k l ++ [.v (.int k x)] = ints k (l ++ [x]) := by simp [ints]
theorem ints_take : (ints k l).take n = ints k (l.take n) := by simp [ints]
theorem ints_drop : (ints k l).drop n = ints k (l.drop n) := by simp [ints]
theorem ints_set : (ints k l).set i (.v (.int k x)) = ints k (l.set i x) := by simp [ints]
theorem ints_get (h : i < l.length) : (ints k l)[i]? = some (.v (.int k (l.getD i 0))) := by simp [ints, h]
theorem ints_ok : (∀ d ∈ ints k l, d.width = 1 ∧ d.storable = true) = True := by
  simp only [eq_iff_iff, iff_true]
  intro d hd
  obtain ⟨y, _, rfl⟩ := List.mem_map.1 hd
  exact ⟨rfl, rfl⟩
theorem ints_kills : D.kills id (ints k l) = ints k l := by rw [D.kills_eq_map]; simp [ints, D.kill]
theorem ints_frzs {els : List D} : D.frzs id els (ints k l) = ints k l := by rw [D.frzs_eq]; simp [ints, D.frz]
theorem ints_nrms : D.nrms (ints k l) = ints k l := by rw [D.nrms_eq]; simp [ints, D.nrm, nilV]
theorem ints_noRefs : D.noRefs (ints k l) = true := by rw [D.noRefs_eq]; simp [ints, D.noRef]
theorem ints_idss : D.idss (ints k l) = [] := by
  induction l with
  | nil => rfl
  | cons x l ih => rw [ints_cons, D.idss, ih]; rfl
theorem ints_wfs : D.wfs (ints k l) := by
  induction l with
  | nil => trivial
  | cons x l ih => exact ⟨trivial, ih⟩
theorem ints_replicate : List.replicate n (D.v (.int k x)) = ints k (List.replicate n x) := by simp [ints]
theorem ints_bytes {l : List Int} : bytesOf (ints .u8 l) = some l := bytesOf_map l
end

-- lists of lists
def rows (k : IntKind) (ll : List (List Int)) : List D := ll.map fun l => .lst (ints k l)
section
variable {k : IntKind} {l m : List (List Int)} {x : List Int} {n i id : Nat}
theorem rows_length : (rows k l).length = l.length := by simp [rows]
theorem rows_cons : rows k (x :: l) = .lst (ints k x) :: rows k l := (rfl)
theorem rows_append : rows k l ++ rows k m = rows k (l ++ m) := by simp [rows]
theorem rows_snoc : rows k l ++ [.lst (ints k x)] = rows k (l ++ [x]) := by simp [rows]
theorem rows_take : (rows k l).take n = rows k (l.take n) := by simp [rows]
theorem rows_drop : (rows k l).drop n = rows k (l.drop n) := by simp [rows]
theorem rows_set : (rows k l).set i (.lst (ints k x)) = rows k (l.set i x) := by simp [rows]
theorem rows_get (h : i < l.length) : (rows k l)[i]? = some (.lst (ints k (l.getD i []))) := by simp [rows, h]
theorem rows_ok : (∀ d ∈ rows k l, d.width = 1 ∧ d.storable = true) = True := by
  simp only [eq_iff_iff, iff_true]
  intro d hd
  obtain ⟨y, _, rfl⟩ := List.mem_map.1 hd
  exact ⟨rfl, rfl⟩
theorem rows_kills : D.kills id (rows k l) = rows k l := by rw [D.kills_eq_map]; simp [rows, D.kill]
theorem rows_frzs {els : List D} : D.frzs id els (rows k l) = rows k l := by rw [D.frzs_eq]; simp [rows, D.frz]
theorem rows_nrms : D.nrms (rows k l) = rows k l := by rw [D.nrms_eq]; simp [rows, D.nrm]
theorem rows_noRefs : D.noRefs (rows k l) = true := by rw [D.noRefs_eq]; simp [rows, D.noRef]
theorem rows_idss : D.idss (rows k l) = [] := by
  induction l with
  | nil => rfl
  | cons x l ih => rw [rows_cons, D.idss, ih]; rfl
theorem rows_wfs : D.wfs (rows k l) ↔ ∀ r ∈ l, r.length ≤ capMax := by
  induction l with
  | nil => simp [rows, D.wfs]
  | cons x l ih => rw [rows_cons, D.wfs, ih]; simp [D.wf, ints_length, ints_wfs]
end

end Go.VL

end
section
/- The same rules, with what comes after kept out of simp's sight. -/
namespace Go.VL
open Go Go.RowKit

class KD where
  f : D → Prop
class KSD where
  f : St → D → Prop
class KN where
  f : St → Prop
class KX where
  f : Nat → St → Prop
class KP where
  f : Prop
class KF (α : Type) where
  f : α → Prop
class KL where
  l : List Oper

theorem KD_mk {g : D → Prop} {d : D} : @KD.f ⟨g⟩ d = g d := (rfl)
theorem KSD_mk {g : St → D → Prop} {s : St} {d : D} : @KSD.f ⟨g⟩ s d = g s d := (rfl)
theorem KN_mk {g : St → Prop} {s : St} : @KN.f ⟨g⟩ s = g s := (rfl)
theorem KX_mk {g : Nat → St → Prop} {i : Nat} {s : St} : @KX.f ⟨g⟩ i s = g i s := (rfl)
theorem KP_mk {p : Prop} : @KP.f ⟨p⟩ = p := (rfl)
theorem KF_mk {α : Type} {g : α → Prop} {a : α} : @KF.f α ⟨g⟩ a = g a := (rfl)

def bindI {α : Type} (o : Option α) [k : KF α] : Prop := bindP o k.f
theorem bindI_some {α : Type} {x : α} {k : KF α} : @bindI α (some x) k = k.f x := (rfl)
theorem bindI_none {α : Type} {k : KF α} : @bindI α none k = False := (rfl)
def reqI (p : Prop) [q : KP] : Prop := p ∧ q.f
theorem reqI_true {q : KP} : @reqI True q = q.f := by simp [reqI]
theorem reqI_of {p : Prop} {q : KP} (hp : p) (hq : q.f) : @reqI p q := ⟨hp, hq⟩
def condI (d : D) [p : KP] [q : KP] : Prop := condK d p.f q.f
theorem condI_true {p q : KP} : @condI (.v (.bool true)) p q = p.f := condK_true
theorem condI_false {p q : KP} : @condI (.v (.bool false)) p q = q.f := condK_false
theorem condI_split {b : Bool} {p q : KP} (h1 : b = true → p.f) (h2 : b = false → q.f) : @condI (.v (.bool b)) p q := ⟨h1, h2⟩
def opPickI (c a b : D) [K : KD] : Prop := opPick c a b K.f
def opAllocI (P : Program) (e : TypeId) (id : Nat) (st : St) [K : KSD] : Prop := opAlloc P e id K.f st
def opBoxI (P : Program) (e : TypeId) (v : D) (id : Nat) (st : St) [K : KSD] : Prop := opBox P e v id K.f st
def opBuildI (P : Program) (t : TypeId) (pl : List (Nat × D)) [K : KD] : Prop := opBuild P t pl K.f
def opBuildSliceI (P : Program) (t : TypeId) (n : Nat) (pl : List (Nat × D)) (id : Nat) (st : St) [K : KSD] : Prop := opBuildSliceM P t n pl id K.f st
def opLoadI (P : Program) (t : TypeId) (x : D) (st : St) [K : KD] : Prop := opLoad P t x K.f st
def opStoreI (P : Program) (t : TypeId) (x v : D) (st : St) [K : KN] : Prop := opStore P t x v K.f st
def opNilCheckI (x : D) [K : KD] : Prop := opNilCheck x K.f
def opBinI (P : Program) (op : BinOp) (t : TypeId) (x y : D) [K : KD] : Prop := opBin P op t x y K.f
def opUnI (op : UnOp) (x : D) [K : KD] : Prop := opUn op x K.f
def opConvertI (P : Program) (s t : TypeId) (x : D) (st : St) [K : KD] : Prop := opConvert P s t x K.f st
def opMakeSliceI (P : Program) (t : TypeId) (l c : D) (id : Nat) (st : St) [K : KSD] : Prop := opMakeSlice P t l c id K.f st
def opSliceI (P : Program) (t : TypeId) (x : D) (lo hi mx : Option D) (st : St) [K : KD] : Prop := opSlice P t x lo hi mx K.f st
def opSliceMI (P : Program) (t : TypeId) (x : D) (lo hi mx : Option D) (st : St) [K : KSD] : Prop := opSliceM P t x lo hi mx K.f st
def opFieldAddrI (P : Program) (s : TypeId) (x : D) (f : Nat) [K : KD] : Prop := opFieldAddr P s x f K.f
def opFieldI (P : Program) (s : TypeId) (x : D) (f : Nat) [K : KD] : Prop := opField P s x f K.f
def opIndexAddrI (P : Program) (t : TypeId) (x ix : D) (st : St) [K : KD] : Prop := opIndexAddr P t x ix K.f st
def opIndexI (P : Program) (t : TypeId) (x ix : D) [K : KD] : Prop := opIndex P t x ix K.f
def opExtractI (x : D) (i : Nat) [K : KD] : Prop := opExtract x i K.f
def opCallI (P : Program) (f : D) (args : List D) (id : Nat) (st : St) [K : KSD] : Prop := opCall P f args id K.f st
def opAppendI (P : Program) (t : TypeId) (s x : D) (id : Nat) (st : St) [K : KSD] : Prop := opAppend P t s x id K.f st
def opCopyI (P : Program) (t : TypeId) (s x : D) (st : St) [K : KSD] : Prop := opCopy P t s x K.f st
def opMakeMapI (P : Program) (t : TypeId) (r : Option D) (id : Nat) (st : St) [K : KSD] : Prop := opMakeMap P t r id K.f st
def opLookupI (P : Program) (t : TypeId) (x ix : D) (ok : Bool) (st : St) [K : KD] : Prop := opLookup P t x ix ok K.f st
def opMapUpdateI (P : Program) (t : TypeId) (x ix v : D) (st : St) [K : KN] : Prop := opMapUpdate P t x ix v K.f st
def opLenI (P : Program) (t : TypeId) (x : D) (st : St) [K : KD] : Prop := opLenM P t x K.f st
def opMinI (l : List D) [K : KD] : Prop := opMin l K.f
def opCxI (b : Builtin) (l : List D) [K : KD] : Prop := opCx b l K.f
def opMaxI (l : List D) [K : KD] : Prop := opMax l K.f

def awpI (P : Program) (c : Code) (st : St) [N : KN] [X : KX] [R : KN] : Prop := awp P c N.f X.f R.f st
def opsI (P : Program) (l : List Oper) (st : St) [all : KL] [K : KN] : Prop := aops P all.l l K.f st
/-- Whether it is a part of a list that begins later. -/
def cutsLo : Op → Bool
  | .slice _ _ (some _) _ _ => true
  | _ => false
def opMI (P : Program) (o : Oper) (st : St) [K : KSD] : Prop := aopxM P o K.f st
def opI (P : Program) (o : Oper) (st : St) [K : KSD] : Prop := aopx P o K.f st
def guardI (m : Option Tmp) (st : St) (want : Bool) [p : KP] [q : KP] : Prop := guardK m st want p.f q.f
def condGI (want : Bool) (d : D) [p : KP] [q : KP] : Prop := condG want d p.f q.f
theorem condGI_t {b : Bool} {p q : KP} : @condGI true (.v (.bool b)) p q = @condI (.v (.bool b)) p q := by
  cases b <;> simp [condGI, condG, condI, condK]
theorem condGI_f {b : Bool} {p q : KP} : @condGI false (.v (.bool b)) p q = @condI (.v (.bool b)) q p := by
  cases b <;> simp [condGI, condG, condI, condK]
theorem condGI_u {want : Bool} {p q : KP} : @condGI want (.tup []) p q = q.f := (rfl)
theorem guardI_t {d : Nat} {st : St} {p q : KP} : @guardI (some d) st true p q = (d < st.n ∧ @condGI true (st.t d) p q) := (rfl)
theorem guardI_f {d : Nat} {st : St} {p q : KP} : @guardI (some d) st false p q = (d < st.n ∧ @condGI false (st.t d) p q) := (rfl)

section
variable {P : Program} {N R : KN} {X : KX} {st : St}
theorem awpI_skip : @awpI P .skip st N X R = N.f st := (rfl)
theorem awpI_seq {a b : Code} : @awpI P (.seq a b) st N X R = @awpI P a st ⟨fun s => @awpI P b s N X R⟩ X R := (rfl)
theorem awpI_cond {c : Operand} {x y : Code} : @awpI P (.cond c x y) st N X R = @condI (st.ev c) ⟨@awpI P x st N X R⟩ ⟨@awpI P y st N X R⟩ := awp_cond
theorem awpI_block {id : Nat} {c : Code} : @awpI P (.block id c) st N X R = @awpI P c st N ⟨fun i s => if i = id then N.f s else X.f i s⟩ R := (rfl)
theorem awpI_exit {id : Nat} : @awpI P (.exit id) st N X R = X.f id st := (rfl)
theorem awpI_ret : @awpI P .ret st N X R = R.f st := (rfl)
theorem awpI_region {id : Nat} {l : List Oper} : @awpI P (.region id l.toArray false) st N X R = @opsI P l st ⟨l⟩ N := awp_region
theorem awpI_label {l : Nat} : @awpI P (.label l) st N X R = N.f st := (rfl)

variable {all : KL} {rest : List Oper} {K : KN}
theorem opsI_nil : @opsI P [] st all K = K.f st := (rfl)
theorem opsI_cons {dst : Option Tmp} {op : Op} {ty : TypeId} {pos : String} {af : Array Edge} :
    @opsI P (⟨dst, op, ty, pos, af, none⟩ :: rest) st all K = (okDst st dst ∧ @opMI P ⟨dst, op, ty, pos, af, none⟩ st ⟨fun s x => @opsI P rest (s.put dst x) all K⟩) := (rfl)
theorem opsI_guard {dst : Option Tmp} {op : Op} {ty : TypeId} {pos : String} {af : Array Edge} {j : Nat} {want : Bool} :
    @opsI P (⟨dst, op, ty, pos, af, some (j, want)⟩ :: rest) st all K = @guardI (guardOf all.l j) st want
      ⟨okDst st dst ∧ @opMI P ⟨dst, op, ty, pos, af, some (j, want)⟩ st ⟨fun s x => @opsI P rest (s.put dst x) all K⟩⟩ ⟨okDst st dst ∧ @opsI P rest (st.put dst (.tup [])) all K⟩ := aops_guard
theorem KL_mk {l : List Oper} : @KL.l ⟨l⟩ = l := (rfl)

variable {dst : Option Tmp} {ty : TypeId} {pos : String} {af : Array Edge} {g : Option (Nat × Bool)} {K : KSD}
theorem opI_move {x : Operand} : @opI P ⟨dst, .move x, ty, pos, af, g⟩ st K = K.f st (st.ev x) := (rfl)
theorem opI_assign {x : Operand} : @opI P ⟨dst, .assign x, ty, pos, af, g⟩ st K = K.f st (st.ev x) := (rfl)
theorem opI_pick {c a b : Operand} : @opI P ⟨dst, .pick c a b, ty, pos, af, g⟩ st K = @opPickI (st.ev c) (st.ev a) (st.ev b) ⟨K.f st⟩ := (rfl)
theorem opI_alloc {e : TypeId} : @opI P ⟨dst, .alloc e, ty, pos, af, g⟩ st K = @opAllocI P e (dstOf dst) st K := (rfl)
theorem opI_box {e : TypeId} {x : Operand} : @opI P ⟨dst, .box e x, ty, pos, af, g⟩ st K = @opBoxI P e (st.ev x) (dstOf dst) st K := (rfl)
theorem opI_build {t : TypeId} {l : List (Nat × Operand)} : @opI P ⟨dst, .build t l.toArray, ty, pos, af, g⟩ st K = @opBuildI P t (l.map fun p => (p.1, st.ev p.2)) ⟨K.f st⟩ := aopx_build
theorem opI_buildSlice {t : TypeId} {n : Nat} {l : List (Nat × Operand)} : @opI P ⟨dst, .buildSlice t n l.toArray, ty, pos, af, g⟩ st K = @opBuildSliceI P t n (l.map fun p => (p.1, st.ev p.2)) (dstOf dst) st K := aopx_buildSlice
theorem opI_load {t : TypeId} {x : Operand} : @opI P ⟨dst, .load t x, ty, pos, af, g⟩ st K = @opLoadI P t (st.ev x) st ⟨K.f st⟩ := (rfl)
theorem opI_store {t : TypeId} {x v : Operand} : @opI P ⟨dst, .store t x v, ty, pos, af, g⟩ st K = @opStoreI P t (st.ev x) (st.ev v) st ⟨fun s => K.f s .any⟩ := (rfl)
theorem opI_nilCheck {x : Operand} : @opI P ⟨dst, .nilCheck x, ty, pos, af, g⟩ st K = @opNilCheckI (st.ev x) ⟨K.f st⟩ := (rfl)
theorem opI_binOp {op : BinOp} {t u : TypeId} {x y : Operand} : @opI P ⟨dst, .binOp op t x y u, ty, pos, af, g⟩ st K = @opBinI P op t (st.ev x) (st.ev y) ⟨K.f st⟩ := (rfl)
theorem opI_unOp {op : UnOp} {t : TypeId} {x : Operand} : @opI P ⟨dst, .unOp op t x, ty, pos, af, g⟩ st K = @opUnI op (st.ev x) ⟨K.f st⟩ := (rfl)
theorem opI_convert {s t : TypeId} {x : Operand} : @opI P ⟨dst, .convert s t x, ty, pos, af, g⟩ st K = @opConvertI P s t (st.ev x) st ⟨K.f st⟩ := (rfl)
theorem opI_makeFunc {fn : Fn} {l : List Operand} : @opI P ⟨dst, .makeFunc fn #[] l.toArray, ty, pos, af, g⟩ st K = K.f st (.clos fn (l.map st.ev)) := aopx_makeFunc
theorem opI_makeSlice {t : TypeId} {l c : Operand} : @opI P ⟨dst, .makeSlice t l c, ty, pos, af, g⟩ st K = @opMakeSliceI P t (st.ev l) (st.ev c) (dstOf dst) st K := (rfl)
theorem opI_slice {t : TypeId} {x : Operand} {lo hi mx : Option Operand} : @opI P ⟨dst, .slice t x lo hi mx, ty, pos, af, g⟩ st K = @opSliceI P t (st.ev x) (lo.map st.ev) (hi.map st.ev) (mx.map st.ev) st ⟨K.f st⟩ := (rfl)
theorem opMI_sliceM {t : TypeId} {x lo : Operand} {hi mx : Option Operand} : @opMI P ⟨dst, .slice t x (some lo) hi mx, ty, pos, af, g⟩ st K = @opSliceMI P t (st.ev x) (some (st.ev lo)) (hi.map st.ev) (mx.map st.ev) st K := (rfl)
theorem opMI_other {op : Op} (h : cutsLo op = false) : @opMI P ⟨dst, op, ty, pos, af, g⟩ st K = @opI P ⟨dst, op, ty, pos, af, g⟩ st K := by
  unfold opMI opI aopxM
  split
  · rename_i ho; rw [show op = _ from ho] at h; cases h
  · rfl
theorem cuts_move {x : Operand} : cutsLo (.move x) = false := (rfl)
theorem cuts_assign {x : Operand} : cutsLo (.assign x) = false := (rfl)
theorem cuts_pick {x y z : Operand} : cutsLo (.pick x y z) = false := (rfl)
theorem cuts_alloc {t : TypeId} : cutsLo (.alloc t) = false := (rfl)
theorem cuts_box {t : TypeId} {x : Operand} : cutsLo (.box t x) = false := (rfl)
theorem cuts_build {t : TypeId} {l : Array (Nat × Operand)} : cutsLo (.build t l) = false := (rfl)
theorem cuts_buildSlice {t : TypeId} {n : Nat} {l : Array (Nat × Operand)} : cutsLo (.buildSlice t n l) = false := (rfl)
theorem cuts_load {t : TypeId} {x : Operand} : cutsLo (.load t x) = false := (rfl)
theorem cuts_store {t : TypeId} {x y : Operand} : cutsLo (.store t x y) = false := (rfl)
theorem cuts_nilCheck {x : Operand} : cutsLo (.nilCheck x) = false := (rfl)
theorem cuts_binOp {o : BinOp} {t u : TypeId} {x y : Operand} : cutsLo (.binOp o t x y u) = false := (rfl)
theorem cuts_unOp {o : UnOp} {t : TypeId} {x : Operand} : cutsLo (.unOp o t x) = false := (rfl)
theorem cuts_convert {t u : TypeId} {x : Operand} : cutsLo (.convert t u x) = false := (rfl)
theorem cuts_makeFunc {f : Fn} {l m : Array Operand} : cutsLo (.makeFunc f l m) = false := (rfl)
theorem cuts_makeSlice {t : TypeId} {x y : Operand} : cutsLo (.makeSlice t x y) = false := (rfl)
theorem cuts_slice {t : TypeId} {x : Operand} {hi mx : Option Operand} : cutsLo (.slice t x none hi mx) = false := (rfl)
theorem cuts_fieldAddr {t : TypeId} {x : Operand} {n : Nat} : cutsLo (.fieldAddr t x n) = false := (rfl)
theorem cuts_field {t : TypeId} {x : Operand} {n : Nat} : cutsLo (.field t x n) = false := (rfl)
theorem cuts_indexAddr {t : TypeId} {x y : Operand} : cutsLo (.indexAddr t x y) = false := (rfl)
theorem cuts_index {t : TypeId} {x y : Operand} : cutsLo (.index t x y) = false := (rfl)
theorem cuts_extract {x : Operand} {n : Nat} : cutsLo (.extract x n) = false := (rfl)
theorem cuts_call {c : Call} : cutsLo (.call c) = false := (rfl)
theorem opI_fieldAddr {s : TypeId} {x : Operand} {f : Nat} : @opI P ⟨dst, .fieldAddr s x f, ty, pos, af, g⟩ st K = @opFieldAddrI P s (st.ev x) f ⟨K.f st⟩ := (rfl)
theorem opI_field {s : TypeId} {x : Operand} {f : Nat} : @opI P ⟨dst, .field s x f, ty, pos, af, g⟩ st K = @opFieldI P s (st.ev x) f ⟨K.f st⟩ := (rfl)
theorem opI_indexAddr {t : TypeId} {x ix : Operand} : @opI P ⟨dst, .indexAddr t x ix, ty, pos, af, g⟩ st K = @opIndexAddrI P t (st.ev x) (st.ev ix) st ⟨K.f st⟩ := (rfl)
theorem opI_index {t : TypeId} {x ix : Operand} : @opI P ⟨dst, .index t x ix, ty, pos, af, g⟩ st K = @opIndexI P t (st.ev x) (st.ev ix) ⟨K.f st⟩ := (rfl)
theorem opI_extract {x : Operand} {i : Nat} : @opI P ⟨dst, .extract x i, ty, pos, af, g⟩ st K = @opExtractI (st.ev x) i ⟨K.f st⟩ := (rfl)
theorem opI_call {f : Operand} {l : List Operand} {ts : Array TypeId} : @opI P ⟨dst, .call ⟨.value f, l.toArray, ts⟩, ty, pos, af, g⟩ st K = @opCallI P (st.ev f) (l.map st.ev) (dstOf dst) st K := aopx_call
theorem opI_append {s x : Operand} {t : TypeId} : @opI P ⟨dst, .call ⟨.builtin .append, #[s, x], #[t, t]⟩, ty, pos, af, g⟩ st K = @opAppendI P t (st.ev s) (st.ev x) (dstOf dst) st K := aopx_append
theorem opI_makeMap {t : TypeId} {r : Option Operand} : @opI P ⟨dst, .makeMap t r, ty, pos, af, g⟩ st K = @opMakeMapI P t (r.map st.ev) (dstOf dst) st K := (rfl)
theorem opI_lookup {t : TypeId} {x ix : Operand} {ok : Bool} : @opI P ⟨dst, .lookup t x ix ok, ty, pos, af, g⟩ st K = @opLookupI P t (st.ev x) (st.ev ix) ok st ⟨K.f st⟩ := (rfl)
theorem opI_mapUpdate {t : TypeId} {x ix v : Operand} : @opI P ⟨dst, .mapUpdate t x ix v, ty, pos, af, g⟩ st K = @opMapUpdateI P t (st.ev x) (st.ev ix) (st.ev v) st ⟨fun s => K.f s .any⟩ := (rfl)
theorem cuts_makeMap {t : TypeId} {r : Option Operand} : cutsLo (.makeMap t r) = false := (rfl)
theorem cuts_lookup {t : TypeId} {x ix : Operand} {ok : Bool} : cutsLo (.lookup t x ix ok) = false := (rfl)
theorem cuts_mapUpdate {t : TypeId} {x ix v : Operand} : cutsLo (.mapUpdate t x ix v) = false := (rfl)
theorem opI_copy {s x : Operand} {t t' : TypeId} : @opI P ⟨dst, .call ⟨.builtin .copy, #[s, x], #[t, t']⟩, ty, pos, af, g⟩ st K = @opCopyI P t (st.ev s) (st.ev x) st K := aopx_copy
theorem opI_len {x : Operand} {t : TypeId} : @opI P ⟨dst, .call ⟨.builtin .len, #[x], #[t]⟩, ty, pos, af, g⟩ st K = @opLenI P t (st.ev x) st ⟨K.f st⟩ := (rfl)
theorem opI_complex {l : List Operand} {ts : Array TypeId} : @opI P ⟨dst, .call ⟨.builtin .complex, l.toArray, ts⟩, ty, pos, af, g⟩ st K = @opCxI .complex (l.map st.ev) ⟨K.f st⟩ := aopx_complex
theorem opI_real {l : List Operand} {ts : Array TypeId} : @opI P ⟨dst, .call ⟨.builtin .real, l.toArray, ts⟩, ty, pos, af, g⟩ st K = @opCxI .real (l.map st.ev) ⟨K.f st⟩ := aopx_real
theorem opI_imag {l : List Operand} {ts : Array TypeId} : @opI P ⟨dst, .call ⟨.builtin .imag, l.toArray, ts⟩, ty, pos, af, g⟩ st K = @opCxI .imag (l.map st.ev) ⟨K.f st⟩ := aopx_imag
theorem opI_min {l : List Operand} {ts : Array TypeId} : @opI P ⟨dst, .call ⟨.builtin .min, l.toArray, ts⟩, ty, pos, af, g⟩ st K = @opMinI (l.map st.ev) ⟨K.f st⟩ := aopx_min
theorem opI_max {l : List Operand} {ts : Array TypeId} : @opI P ⟨dst, .call ⟨.builtin .max, l.toArray, ts⟩, ty, pos, af, g⟩ st K = @opMaxI (l.map st.ev) ⟨K.f st⟩ := aopx_max
end

section
variable {P : Program} {t : TypeId} {k : KD} {kk : IntKind} {a b : Int}
theorem binI_add : @opBinI P .add t (.v (.int kk a)) (.v (.int kk b)) k = k.f (.v (.int kk (kk.wrap (a + b)))) := bin_add
theorem binI_sub : @opBinI P .sub t (.v (.int kk a)) (.v (.int kk b)) k = k.f (.v (.int kk (kk.wrap (a - b)))) := bin_sub
theorem binI_mul : @opBinI P .mul t (.v (.int kk a)) (.v (.int kk b)) k = k.f (.v (.int kk (kk.wrap (a * b)))) := bin_mul
theorem binI_and : @opBinI P .and t (.v (.int kk a)) (.v (.int kk b)) k = k.f (.v (.int kk (abits .and kk a b))) := bin_and
theorem binI_or : @opBinI P .or t (.v (.int kk a)) (.v (.int kk b)) k = k.f (.v (.int kk (abits .or kk a b))) := bin_or
theorem binI_xor : @opBinI P .xor t (.v (.int kk a)) (.v (.int kk b)) k = k.f (.v (.int kk (abits .xor kk a b))) := bin_xor
theorem binI_eql : @opBinI P .eql t (.v (.int kk a)) (.v (.int kk b)) k = k.f (.v (.bool (a == b))) := bin_eql
theorem binI_neq : @opBinI P .neq t (.v (.int kk a)) (.v (.int kk b)) k = k.f (.v (.bool (a != b))) := bin_neq
theorem binI_lss : @opBinI P .lss t (.v (.int kk a)) (.v (.int kk b)) k = k.f (.v (.bool (decide (a < b)))) := bin_lss
theorem binI_leq : @opBinI P .leq t (.v (.int kk a)) (.v (.int kk b)) k = k.f (.v (.bool (decide (a ≤ b)))) := bin_leq
theorem binI_gtr : @opBinI P .gtr t (.v (.int kk a)) (.v (.int kk b)) k = k.f (.v (.bool (decide (a > b)))) := bin_gtr
theorem binI_geq : @opBinI P .geq t (.v (.int kk a)) (.v (.int kk b)) k = k.f (.v (.bool (decide (a ≥ b)))) := bin_geq
theorem binI_quo (h : b ≠ 0) : @opBinI P .quo t (.v (.int kk a)) (.v (.int kk b)) k = k.f (.v (.int kk (kk.wrap (a.tdiv b)))) := bin_quo h
theorem binI_rem (h : b ≠ 0) : @opBinI P .rem t (.v (.int kk a)) (.v (.int kk b)) k = k.f (.v (.int kk (a.tmod b))) := bin_rem h
theorem binI_shl {k2 : IntKind} (h : 0 ≤ b) : @opBinI P .shl t (.v (.int kk a)) (.v (.int k2 b)) k = k.f (.v (.int kk (kk.wrap (a * 2 ^ min b.toNat kk.bits)))) := bin_shl h
theorem binI_shr {k2 : IntKind} (h : 0 ≤ b) : @opBinI P .shr t (.v (.int kk a)) (.v (.int k2 b)) k = k.f (.v (.int kk (a.fdiv (2 ^ min b.toNat kk.bits)))) := bin_shr h
theorem binI_eqb {x y : Bool} (h : isBoolT P t = true) : @opBinI P .eql t (.v (.bool x)) (.v (.bool y)) k = k.f (.v (.bool (x == y))) := bin_eqb h
theorem binI_neb {x y : Bool} (h : isBoolT P t = true) : @opBinI P .neq t (.v (.bool x)) (.v (.bool y)) k = k.f (.v (.bool (x != y))) := bin_neb h
theorem binI_eqs {x y : ByteArray} : @opBinI P .eql t (.v (.string x)) (.v (.string y)) k = k.f (.v (.bool (x.toList == y.toList))) := bin_eqs
theorem binI_nes {x y : ByteArray} : @opBinI P .neq t (.v (.string x)) (.v (.string y)) k = k.f (.v (.bool (!(x.toList == y.toList)))) := bin_nes
end

def fieldTO (P : Program) (t : TypeId) (f : Nat) : Option (TypeId × Nat) := (fieldT P t f).map fun f => (f.type, f.offset)
section
variable {P : Program} {t u : TypeId} {K : KD} {KS : KSD} {st : St} {x y d : D} {l xs : List D} {id i o n : Nat}
theorem opPickI_eq {b : Bool} : @opPickI (.v (.bool b)) x y K = K.f (if b then x else y) := opPick_eq
theorem opAllocI_eq : @opAllocI P t id st KS = @bindI _ (zeroT P t) ⟨fun z => @reqI ((D.ofVal z).storable = true ∧ (D.ofVal z).width = P.cellsOf t ∧ 0 < P.cellsOf t) ⟨KS.f ((st.killed id).obj id ⟨t, P.cellsOf t, [D.ofVal z]⟩) (.adr id 0 0)⟩⟩ := opAlloc_eq
theorem opBoxI_eq : @opBoxI P t x id st KS = @reqI (x.storable = true ∧ x.width = P.cellsOf t ∧ 0 < P.cellsOf t) ⟨KS.f ((st.killed id).obj id ⟨t, P.cellsOf t, [x.kill id]⟩) (.adr id 0 0)⟩ := opBox_eq
theorem opBuildI_eq {pl : List (Nat × D)} : @opBuildI P t pl K = @reqI (fieldsOK P t = true) ⟨@bindI _ (placesT P t) ⟨fun p => @bindI _ (zeroT P t) ⟨fun z => @bindI _ (aggOf (D.ofVal z)) ⟨fun zs => @bindI _ (fillD p zs pl) ⟨fun r => K.f (.agg r)⟩⟩⟩⟩⟩ := opBuild_eq
theorem opBuildSliceI_eq {pl : List (Nat × D)} : @opBuildSliceI P t n pl id st KS = @bindI _ (frzAll (D.idss (pl.map Prod.snd)) st (pl.map Prod.snd)) ⟨fun q => @bindI _ (elT P t) ⟨fun e => @reqI (0 < P.cellsOf e ∧ n * P.cellsOf e ≤ 16777216 ∧ (rep pl q.2).length = n ∧ inOrder 0 (rep pl q.2) = true ∧ (∀ p ∈ rep pl q.2, p.2.storable = true ∧ p.2.width = P.cellsOf e ∧ p.2.noRef = true) ∧ (zeroT P e).isSome = true) ⟨if n = 0 then KS.f ((q.1.killed id).obj id ⟨e, P.cellsOf e, []⟩) (.ref id 0) else KS.f q.1 (.lst ((rep pl q.2).map (·.2)))⟩⟩⟩ := opBuildSlice_eq
theorem rep_cons {i : Nat} {x d : D} {l : List (Nat × D)} {ds : List D} : rep ((i, x) :: l) (d :: ds) = (i, d) :: rep l ds := (rfl)
theorem rep_nil : rep [] [] = [] := (rfl)
theorem opLoadI_ptr : @opLoadI P t (.ptr d) st K = @reqI (okT P t = true ∧ d.width = P.cellsOf t) ⟨@bindI _ (partOf d 0 (P.cellsOf t) (aggT P t)) ⟨K.f⟩⟩ := opLoad_ptr
theorem opLoadI_adr : @opLoadI P t (.adr id i o) st K = @bindI _ (st.H id) ⟨fun ob => @bindI _ (ob.els[i]?) ⟨fun d => @reqI (okT P t = true ∧ d.width = ob.S) ⟨@bindI _ (partOf d o (P.cellsOf t) (aggT P t)) ⟨K.f⟩⟩⟩⟩ := opLoad_adr
theorem opStoreI_adr {K : KN} : @opStoreI P t (.adr id i o) x st K = @bindI _ (st.H id) ⟨fun ob => @bindI _ (ob.els[i]?) ⟨fun d => @reqI (okT P t = true ∧ d.width = ob.S ∧ x.storable = true ∧ x.width = P.cellsOf t) ⟨@bindI _ (setPart d o x) ⟨fun d' => K.f (st.obj id { ob with els := ob.els.set i d' })⟩⟩⟩⟩ := opStore_adr
theorem opNilCheckI_ptr : @opNilCheckI (.ptr d) K = K.f (.ptr d) := opNilCheck_ptr
theorem opNilCheckI_adr : @opNilCheckI (.adr id i o) K = K.f (.adr id i o) := opNilCheck_adr
theorem opUnI_neg {k : IntKind} {a : Int} : @opUnI .neg (.v (.int k a)) K = K.f (.v (.int k (k.wrap (0 - a)))) := opUn_neg
theorem opUnI_xor {k : IntKind} {a : Int} : @opUnI .xor (.v (.int k a)) K = K.f (.v (.int k (abits .xor k (if k.signed then -1 else k.max) a))) := opUn_xor
theorem opUnI_not {b : Bool} : @opUnI .not (.v (.bool b)) K = K.f (.v (.bool (!b))) := opUn_not
theorem opConvertI_int {k k' : IntKind} {a : Int} (h : (P.underlying t).isSome = true) (h2 : intT P u = some k') : @opConvertI P t u (.v (.int k a)) st K = K.f (.v (.int k' (k'.wrap a))) := opConvert_int h h2
theorem opConvertI_flt {k : IntKind} {f : FloatKind} {a : Int} (h : (P.underlying t).isSome = true) (h2 : intT P u = none) (h3 : fltT P u = some f) : @opConvertI P t u (.v (.int k a)) st K = K.f (.v (.float f (f.nearest a))) := opConvert_flt h h2 h3
theorem opConvertI_lst : @opConvertI P t u (.lst l) st K = @bindI _ (elT P t) ⟨fun e => @reqI (intT P e = some .u8 ∧ strT P u = true) ⟨@bindI _ (bytesOf l) ⟨fun ns => K.f (.v (.string (strOfNums ns)))⟩⟩⟩ := opConvert_lst
theorem opConvertI_nil : @opConvertI P t u (.v (.slice none 0 0)) st K = @bindI _ (elT P t) ⟨fun e => @reqI (intT P e = some .u8 ∧ strT P u = true) ⟨K.f (.v (.string (strOfNums [])))⟩⟩ := opConvert_nil
theorem opConvertI_nil0 : @opConvertI P t u .nil0 st K = @bindI _ (elT P t) ⟨fun e => @reqI (intT P e = some .u8 ∧ strT P u = true) ⟨K.f (.v (.string (strOfNums [])))⟩⟩ := opConvert_nil0
theorem opConvertI_ref : @opConvertI P t u (.ref id n) st K = @bindI _ (elT P t) ⟨fun e => @reqI (intT P e = some .u8 ∧ strT P u = true) ⟨@bindI _ (st.H id) ⟨fun ob => @reqI (ob.S = 1 ∧ n ≤ ob.els.length) ⟨@bindI _ (bytesOf (ob.els.take n)) ⟨fun ns => K.f (.v (.string (strOfNums ns)))⟩⟩⟩⟩⟩ := opConvert_ref
theorem opMakeSliceI_eq {k k' : IntKind} {a b : Int} : @opMakeSliceI P t (.v (.int k a)) (.v (.int k' b)) id st KS = @bindI _ (elT P t) ⟨fun e => @reqI (0 < P.cellsOf e) ⟨@reqI (a ≤ b ∧ 0 ≤ a ∧ b * P.bytesOf e ≤ 140737488355328 ∧ b ≤ capMax) ⟨@bindI _ (zeroT P e) ⟨fun z => @reqI ((D.ofVal z).storable = true ∧ (D.ofVal z).width = P.cellsOf e) ⟨KS.f ((st.killed id).obj id ⟨e, P.cellsOf e, List.replicate a.toNat (D.ofVal z)⟩) (.ref id a.toNat)⟩⟩⟩⟩⟩ := opMakeSlice_eq
theorem opSliceI_lst {lo hi : Option D} : @opSliceI P t (.lst l) lo hi none st K = @bindI _ (elT P t) ⟨fun e => @reqI (0 < P.cellsOf e ∧ ∀ d ∈ l, d.width = P.cellsOf e ∧ d.storable = true) ⟨@bindI _ (bndD lo 0) ⟨fun i => @bindI _ (bndD hi l.length) ⟨fun j => @reqI (0 ≤ i ∧ i ≤ j ∧ j ≤ l.length) ⟨K.f (.lst ((l.take j.toNat).drop i.toNat))⟩⟩⟩⟩⟩ := opSlice_lst
theorem opSliceI_lst3 {lo hi : Option D} {m : D} : @opSliceI P t (.lst l) lo hi (some m) st K = @bindI _ (elT P t) ⟨fun e => @reqI (0 < P.cellsOf e ∧ ∀ d ∈ l, d.width = P.cellsOf e ∧ d.storable = true) ⟨@bindI _ (bndD lo 0) ⟨fun i => @bindI _ (bndD hi l.length) ⟨fun j => @reqI (0 ≤ i ∧ i ≤ j ∧ j ≤ l.length ∧ hi.isSome = true) ⟨@bindI _ (intD m) ⟨fun k => @reqI (j ≤ k ∧ k ≤ l.length) ⟨if k = i then K.f .nil0 else K.f (.lst ((l.take j.toNat).drop i.toNat))⟩⟩⟩⟩⟩⟩⟩ := opSlice_lst3
theorem opSliceI_ref {hi : Option D} : @opSliceI P t (.ref id n) none hi none st K = @bindI _ (elT P t) ⟨fun e => @reqI (0 < P.cellsOf e) ⟨@bindI _ (bndD hi n) ⟨fun j => @reqI (0 ≤ j ∧ j ≤ n) ⟨@bindI _ (st.H id) ⟨fun ob => @reqI (ob.S = P.cellsOf e ∧ n ≤ ob.els.length) ⟨K.f (.ref id j.toNat)⟩⟩⟩⟩⟩⟩ := opSlice_ref
theorem opSliceI_refS {lo : D} {hi : Option D} : @opSliceI P t (.ref id n) (some lo) hi none st K = @bindI _ (elT P t) ⟨fun e => @reqI (0 < P.cellsOf e) ⟨@bindI _ (bndD (some lo) 0) ⟨fun i => @bindI _ (bndD hi n) ⟨fun j => @reqI (0 ≤ i ∧ i ≤ j ∧ j ≤ n) ⟨@bindI _ (st.H id) ⟨fun ob => @reqI (ob.S = P.cellsOf e ∧ n ≤ ob.els.length) ⟨K.f (.sub id i.toNat (j - i).toNat)⟩⟩⟩⟩⟩⟩⟩ := opSlice_refS
theorem opSliceI_sub {b : Nat} {lo hi : Option D} : @opSliceI P t (.sub id b n) lo hi none st K = @bindI _ (elT P t) ⟨fun e => @reqI (0 < P.cellsOf e) ⟨@bindI _ (bndD lo 0) ⟨fun i => @bindI _ (bndD hi n) ⟨fun j => @reqI (0 ≤ i ∧ i ≤ j ∧ j ≤ n) ⟨@bindI _ (st.H id) ⟨fun ob => @reqI (ob.S = P.cellsOf e) ⟨K.f (.sub id (b + i.toNat) (j - i).toNat)⟩⟩⟩⟩⟩⟩⟩ := opSlice_sub
theorem opSliceMI_sub {b : Nat} {lo hi mx : Option D} : @opSliceMI P t (.sub id b n) lo hi mx st KS = @opSliceI P t (.sub id b n) lo hi mx st ⟨KS.f st⟩ := (rfl)
theorem opSliceI_nil {lo hi : Option D} : @opSliceI P t (.v (.slice none 0 0)) lo hi none st K = @bindI _ (elT P t) ⟨fun e => @reqI (0 < P.cellsOf e) ⟨@bindI _ (bndD lo 0) ⟨fun i => @reqI (i = 0) ⟨@bindI _ (bndD hi 0) ⟨fun j => @reqI (j = 0) ⟨K.f (.v (.slice none 0 0))⟩⟩⟩⟩⟩⟩ := opSlice_nil
theorem opSliceMI_lst {lo hi mx : Option D} : @opSliceMI P t (.lst l) lo hi mx st KS = @opSliceI P t (.lst l) lo hi mx st ⟨KS.f st⟩ := (rfl)
theorem opSliceMI_nil {lo hi mx : Option D} : @opSliceMI P t (.v (.slice none 0 0)) lo hi mx st KS = @opSliceI P t (.v (.slice none 0 0)) lo hi mx st ⟨KS.f st⟩ := (rfl)
theorem opSliceMI_ref {lo hi mx : Option D} : @opSliceMI P t (.ref id n) lo hi mx st KS = @bindI _ (st.H id) ⟨fun ob => @reqI (D.noRefs ob.els = true ∧ ob.els.all (fun d => d.width == ob.S) = true ∧ n ≤ ob.els.length ∧ lo.all D.noRef = true ∧ hi.all D.noRef = true ∧ mx.all D.noRef = true)
    ⟨@opSliceI P t (.lst ((D.nrms ob.els).take n)) lo hi mx (st.frozen id (D.nrms ob.els)) ⟨KS.f (st.frozen id (D.nrms ob.els))⟩⟩⟩ := by
  apply propext
  simp only [opSliceMI, opSliceM, bindI, bindP_eq, reqI, opSliceI, and_assoc]
theorem opFieldAddrI_adr {f : Nat} : @opFieldAddrI P t (.adr id i o) f K = @bindI _ (fieldTO P t f) ⟨fun fl => @reqI (okT P fl.1 = true) ⟨K.f (.adr id i (o + fl.2))⟩⟩ := by
  refine opFieldAddr_adr.trans ?_
  show bindP (fieldT P t f) _ = bindP (fieldTO P t f) _
  unfold fieldTO
  cases fieldT P t f <;> rfl
theorem opFieldAddrI_ptr {f : Nat} : @opFieldAddrI P t (.ptr d) f K = @bindI _ (fieldTO P t f) ⟨fun fl => @reqI (okT P fl.1 = true) ⟨@bindI _ (partOf d fl.2 (P.cellsOf fl.1) (aggT P fl.1)) ⟨fun r => @reqI (r.width = P.cellsOf fl.1 ∧ (aggT P fl.1 = false → r.isAgg = false ∧ r.storable = true)) ⟨K.f (.ptr r)⟩⟩⟩⟩ := by
  refine opFieldAddr_ptr.trans ?_
  show bindP (fieldT P t f) _ = bindP (fieldTO P t f) _
  unfold fieldTO
  cases fieldT P t f <;> rfl
theorem opFieldI_agg {f : Nat} : @opFieldI P t (.agg l) f K = @bindI _ (fieldTO P t f) ⟨fun fl => @reqI (okT P fl.1 = true) ⟨@bindI _ (partOf (.agg l) fl.2 (P.cellsOf fl.1) (aggT P fl.1)) ⟨K.f⟩⟩⟩ := by
  refine opField_agg.trans ?_
  show bindP (fieldT P t f) _ = bindP (fieldTO P t f) _
  unfold fieldTO
  cases fieldT P t f <;> rfl
theorem opIndexAddrI_lst {k : IntKind} {a : Int} : @opIndexAddrI P t (.lst l) (.v (.int k a)) st K = @bindI _ (elT P t) ⟨fun e => @reqI (0 < P.cellsOf e ∧ ∀ d ∈ l, d.width = P.cellsOf e ∧ d.storable = true) ⟨@reqI (0 ≤ a ∧ a < l.length) ⟨@bindI _ (l[a.toNat]?) ⟨fun d => K.f (.ptr d)⟩⟩⟩⟩ := opIndexAddr_lst
theorem opIndexAddrI_sub {k : IntKind} {a : Int} {b : Nat} : @opIndexAddrI P t (.sub id b n) (.v (.int k a)) st K = @bindI _ (elT P t) ⟨fun e => @reqI (0 < P.cellsOf e) ⟨@reqI (0 ≤ a ∧ a < n) ⟨@bindI _ (st.H id) ⟨fun ob => @reqI (ob.S = P.cellsOf e ∧ b + n ≤ ob.els.length) ⟨K.f (.adr id (b + a.toNat) 0)⟩⟩⟩⟩⟩ := opIndexAddr_sub
theorem opIndexAddrI_ref {k : IntKind} {a : Int} : @opIndexAddrI P t (.ref id n) (.v (.int k a)) st K = @bindI _ (elT P t) ⟨fun e => @reqI (0 < P.cellsOf e) ⟨@reqI (0 ≤ a ∧ a < n) ⟨@bindI _ (st.H id) ⟨fun ob => @reqI (ob.S = P.cellsOf e ∧ n ≤ ob.els.length) ⟨K.f (.adr id a.toNat 0)⟩⟩⟩⟩⟩ := opIndexAddr_ref
theorem opIndexAddrI_adr {k : IntKind} {a : Int} : @opIndexAddrI P t (.adr id i o) (.v (.int k a)) st K = @bindI _ (arrT P t) ⟨fun ne => @reqI (0 < P.cellsOf ne.2) ⟨@reqI (0 ≤ a ∧ a < ne.1) ⟨K.f (.adr id i (o + a.toNat * P.cellsOf ne.2))⟩⟩⟩ := opIndexAddr_adr
theorem opIndexAddrI_ptr {k : IntKind} {a : Int} : @opIndexAddrI P t (.ptr d) (.v (.int k a)) st K = @bindI _ (arrT P t) ⟨fun ne => @reqI (0 < P.cellsOf ne.2) ⟨@reqI (0 ≤ a ∧ a < ne.1) ⟨@bindI _ (partOf d (a.toNat * P.cellsOf ne.2) (P.cellsOf ne.2) (aggT P ne.2)) ⟨fun r => @reqI (r.width = P.cellsOf ne.2 ∧ (aggT P ne.2 = false → r.isAgg = false ∧ r.storable = true)) ⟨K.f (.ptr r)⟩⟩⟩⟩⟩ := opIndexAddr_ptr
theorem opIndexI_agg {k : IntKind} {a : Int} : @opIndexI P t (.agg l) (.v (.int k a)) K = @bindI _ (arrT P t) ⟨fun ne => @reqI (0 ≤ a ∧ a < ne.1 ∧ okT P ne.2 = true) ⟨@bindI _ (partOf (.agg l) (a.toNat * P.cellsOf ne.2) (P.cellsOf ne.2) (aggT P ne.2)) ⟨K.f⟩⟩⟩ := opIndex_agg
theorem opExtractI_tup : @opExtractI (.tup l) i K = @bindI _ (l[i]?) ⟨K.f⟩ := opExtract_tup
theorem opLenI_lst (h : sliceT P t = true) : @opLenI P t (.lst l) st K = K.f (.v (.int .i64 l.length)) := opLen_lst h
theorem opLenI_sub {b : Nat} (h : sliceT P t = true) : @opLenI P t (.sub id b n) st K = K.f (.v (.int .i64 n)) := opLen_sub (id := id) (b := b) h
theorem opLenI_ref (h : sliceT P t = true) : @opLenI P t (.ref id n) st K = K.f (.v (.int .i64 n)) := opLen_ref (id := id) h
theorem opLenI_nil (h : sliceT P t = true) : @opLenI P t (.v (.slice none 0 0)) st K = K.f (.v (.int .i64 0)) := opLen_nil h
theorem opLenI_nil0 (h : sliceT P t = true) : @opLenI P t .nil0 st K = K.f (.v (.int .i64 0)) := opLen_nil0 h
theorem opLenI_mp : @opLenI P t (.mp id) st K = @bindI _ (mapT P t) ⟨fun p => @bindI _ (intT P p.1) ⟨fun k => @bindI _ (st.H id) ⟨fun ob => @reqI (ob.S = 0) ⟨@bindI _ (kvOf k ob.els) ⟨fun l => K.f (.v (.int .i64 l.length))⟩⟩⟩⟩⟩ := by
  simp only [opLenI, opLenM, bindI, bindP_eq, reqI]
theorem opLenI_str {s : ByteArray} (h : strT P t = true) : @opLenI P t (.v (.string s)) st K = K.f (.v (.int .i64 s.size)) := opLen_str h
theorem opCxI_complex {k : FloatKind} {a b : Nat} : @opCxI .complex [.v (.float k a), .v (.float k b)] K = K.f (.v (.complex k a b)) := opCx_complex
theorem opCxI_real {k : FloatKind} {a b : Nat} : @opCxI .real [.v (.complex k a b)] K = K.f (.v (.float k a)) := opCx_real
theorem opCxI_imag {k : FloatKind} {a b : Nat} : @opCxI .imag [.v (.complex k a b)] K = K.f (.v (.float k b)) := opCx_imag
theorem opConvertI_f2i {f : FloatKind} {b : Nat} (h : (P.underlying t).isSome = true) {k' : IntKind} (h2 : intT P u = some k') : @opConvertI P t u (.v (.float f b)) st K = @bindI _ (floatToIntVal f b k') ⟨fun n => K.f (.v (.int k' n))⟩ := opConvert_f2i h h2
theorem binI_cmul {x y z w : Nat} : @opBinI P .mul t (.v (.complex .f64 x y)) (.v (.complex .f64 z w)) K = @bindI _ (cmulB x y z w) ⟨fun p => K.f (.v (.complex .f64 p.1 p.2))⟩ := bin_cmulP
theorem opMinI_eq : @opMinI (x :: l) K = @bindI _ (minD x l) ⟨K.f⟩ := opMin_eq
theorem opMaxI_eq : @opMaxI (x :: l) K = @bindI _ (maxD x l) ⟨K.f⟩ := opMax_eq
theorem opCopyI_ref : @opCopyI P t (.ref id n) y st KS = @bindI _ (elT P t) ⟨fun e => @reqI (0 < P.cellsOf e) ⟨@bindI _ (itemsD (P.cellsOf e) st y) ⟨fun xs => @reqI (∀ d ∈ xs, d.width = P.cellsOf e ∧ d.storable = true) ⟨@bindI _ (st.H id) ⟨fun ob => @reqI (ob.S = P.cellsOf e ∧ ob.e = e ∧ n ≤ ob.els.length) ⟨KS.f (st.obj id ⟨ob.e, ob.S, putAt ob.els 0 (xs.take n)⟩) (.v (.int .i64 (Nat.min xs.length n)))⟩⟩⟩⟩⟩⟩ := opCopy_ref
theorem opCopyI_sub {b : Nat} : @opCopyI P t (.sub id b n) y st KS = @bindI _ (elT P t) ⟨fun e => @reqI (0 < P.cellsOf e) ⟨@bindI _ (itemsD (P.cellsOf e) st y) ⟨fun xs => @reqI (∀ d ∈ xs, d.width = P.cellsOf e ∧ d.storable = true) ⟨@bindI _ (st.H id) ⟨fun ob => @reqI (ob.S = P.cellsOf e ∧ ob.e = e ∧ b + n ≤ ob.els.length) ⟨KS.f (st.obj id ⟨ob.e, ob.S, putAt ob.els b (xs.take n)⟩) (.v (.int .i64 (Nat.min xs.length n)))⟩⟩⟩⟩⟩⟩ := opCopy_sub
theorem opMakeMapI_eq {k : IntKind} {n : Int} : @opMakeMapI P t (some (.v (.int k n))) id st KS = @bindI _ (mapT P t) ⟨fun _ => KS.f ((st.killed id).obj id ⟨t, 0, []⟩) (.mp id)⟩ := by
  simp only [opMakeMapI, opMakeMap, bindI, bindP_eq, Option.isSome_iff_exists]
  apply propext
  constructor
  · rintro ⟨⟨p, h1⟩, _, h3⟩; exact ⟨p, h1, h3⟩
  · rintro ⟨p, h1, h3⟩; exact ⟨⟨p, h1⟩, (fun d hd => by cases hd; exact ⟨n, rfl⟩), h3⟩
theorem opMakeMapI_none : @opMakeMapI P t none id st KS = @bindI _ (mapT P t) ⟨fun _ => KS.f ((st.killed id).obj id ⟨t, 0, []⟩) (.mp id)⟩ := by
  simp only [opMakeMapI, opMakeMap, bindI, bindP_eq, Option.isSome_iff_exists]
  apply propext
  constructor
  · rintro ⟨⟨p, h1⟩, _, h3⟩; exact ⟨p, h1, h3⟩
  · rintro ⟨p, h1, h3⟩; exact ⟨⟨p, h1⟩, (fun d hd => by cases hd), h3⟩
/-- What a look at a map answers. -/
def kvAsk (P : Program) (e : TypeId) (ok : Bool) (r : Option D) [K : KD] : Prop :=
  match r with
  | some d => K.f (if ok then .tup [d, .v (.bool true)] else d)
  | none => ∃ z, zeroT P e = some z ∧ K.f (if ok then .tup [D.ofVal z, .v (.bool false)] else D.ofVal z)
theorem kvAsk_some {e : TypeId} {d : D} : @kvAsk P e true (some d) K = K.f (.tup [d, .v (.bool true)]) := (rfl)
theorem kvAsk_none {e : TypeId} : @kvAsk P e true none K = @bindI _ (zeroT P e) ⟨fun z => K.f (.tup [D.ofVal z, .v (.bool false)])⟩ := by
  simp only [kvAsk, bindI, bindP_eq, if_true]
theorem kvAsk_some' {e : TypeId} {d : D} : @kvAsk P e false (some d) K = K.f d := (rfl)
theorem kvAsk_none' {e : TypeId} : @kvAsk P e false none K = @bindI _ (zeroT P e) ⟨fun z => K.f (D.ofVal z)⟩ := by
  simp only [kvAsk, bindI, bindP_eq, Bool.false_eq_true, if_false]
theorem opLookupI_mp {k : IntKind} {a : Int} {ok : Bool} : @opLookupI P t (.mp id) (.v (.int k a)) ok st K = @bindI _ (mapT P t) ⟨fun p => @reqI (intT P p.1 = some k) ⟨@bindI _ (st.H id) ⟨fun ob => @reqI (ob.S = 0) ⟨@bindI _ (kvOf k ob.els) ⟨fun l => @kvAsk P p.2 ok (kvFind a l) K⟩⟩⟩⟩⟩ := by
  simp only [opLookupI, opLookup, bindI, bindP_eq, reqI, kvAsk]
  rfl
theorem opMapUpdateI_mp {k : IntKind} {a : Int} {v : D} {KN' : KN} : @opMapUpdateI P t (.mp id) (.v (.int k a)) v st KN' = @bindI _ (mapT P t) ⟨fun p => @reqI (v.isAgg = false ∧ v.storable = true) ⟨@reqI (intT P p.1 = some k) ⟨@bindI _ (st.H id) ⟨fun ob => @reqI (ob.S = 0) ⟨@bindI _ (kvOf k ob.els) ⟨fun l => @reqI (l.length < capMax) ⟨KN'.f (st.obj id ⟨ob.e, 0, kvD k (kvSet a v l)⟩)⟩⟩⟩⟩⟩⟩⟩ := by
  simp only [opMapUpdateI, opMapUpdate, bindI, bindP_eq, reqI, and_assoc]
theorem opAppendI_eq : @opAppendI P t x y id st KS = @bindI _ (elT P t) ⟨fun e => @reqI (0 < P.cellsOf e ∧ zeroOK P e = true) ⟨@bindI _ (baseD e (P.cellsOf e) st id x) ⟨fun b => @bindI _ (itemsD (P.cellsOf e) st y) ⟨fun xs => @reqI ((∀ d ∈ xs, d.width = P.cellsOf e ∧ d.storable = true) ∧ D.kills b.1 (b.2 ++ xs) = b.2 ++ xs) ⟨@reqI ((b.2 ++ xs).length * P.bytesOf e ≤ 140737488355328 ∧ (b.2 ++ xs).length ≤ capMax) ⟨KS.f ((st.killed b.1).obj b.1 ⟨e, P.cellsOf e, b.2 ++ xs⟩) (.ref b.1 (b.2 ++ xs).length)⟩⟩⟩⟩⟩⟩ := opAppend_eq

theorem opCallI_of {g : FuncId} {caps args : List D} {p : St × List D} {R : D → Prop} (h1 : frzAll (D.idss (args ++ caps)) st (args ++ caps) = some p) (h2 : D.noRefs p.2 = true) (hf : Fun P g (D.nrms p.2) R)
    (hk : ∀ r, R r → KS.f (if r.flat then st else p.1) r) : @opCallI P (.clos (.func g) caps) args id st KS := opCall_of h1 h2 hf hk
theorem setObjs_cons {id : Nat} {ids : List Nat} {o : Own} {os : List Own} : setObjs st (id :: ids) (o :: os) = (setObjs st ids os).obj id o := (rfl)
theorem setObjs_nil : setObjs st [] [] = st := (rfl)
/-- The same, where nothing that is owned is handed over. -/
theorem opCallI_plain {g : FuncId} {caps args : List D} {R : D → Prop} (h1 : D.idss (args ++ caps) = []) (h2 : D.noRefs (args ++ caps) = true) (hf : Fun P g (D.nrms (args ++ caps)) R)
    (hk : ∀ r, R r → KS.f st r) : @opCallI P (.clos (.func g) caps) args id st KS := opCall_plain h1 h2 hf hk
theorem opCallI_own {g : FuncId} {caps args : List D} {p : St × List D} {R : D → Option Own → Prop} (h1 : frzAll (D.idss (args ++ caps)) st (args ++ caps) = some p) (h2 : D.noRefs p.2 = true) (hf : FunO P g (D.nrms p.2) R)
    (hk : ∀ r o, R r o → match o with | none => KS.f p.1 r | some o => KS.f ((p.1.killed id).obj id o) (r.ren id)) : @opCallI P (.clos (.func g) caps) args id st KS := opCall_own h1 h2 hf hk
theorem opCallI_own_plain {g : FuncId} {caps args : List D} {R : D → Option Own → Prop} (h1 : D.idss (args ++ caps) = []) (h2 : D.noRefs (args ++ caps) = true) (hf : FunO P g (D.nrms (args ++ caps)) R)
    (hk : ∀ r o, R r o → match o with | none => KS.f st r | some o => KS.f ((st.killed id).obj id o) (r.ren id)) : @opCallI P (.clos (.func g) caps) args id st KS := opCall_own_plain h1 h2 hf hk
end

theorem Fun.of_awpI {P : Program} {f : FuncId} {fn : Func} {code : Code} {args : List D} {R : D → Prop} {n : Nat} (hf : P.funcs[f]? = some fn) (hb : fn.body = some code) (hc : callable P f = true) (hn : fn.ntmps = n) (hl : args.length ≤ n)
    (h : D.wfs args → @awpI P code (St.init args n) ⟨Ret P fn R⟩ ⟨fun _ _ => False⟩ ⟨Ret P fn R⟩) : Fun P f args R := by
  subst hn
  exact Fun.of_awp hf hb hc hl h

theorem FunO.of_awpI {P : Program} {f : FuncId} {fn : Func} {code : Code} {args : List D} {R : D → Option Own → Prop} {n : Nat} (hf : P.funcs[f]? = some fn) (hb : fn.body = some code) (hc : callable P f = true) (hn : fn.ntmps = n) (hl : args.length ≤ n)
    (h : D.wfs args → @awpI P code (St.init args n) ⟨RetO P fn R⟩ ⟨fun _ _ => False⟩ ⟨RetO P fn R⟩) : FunO P f args R := by
  subst hn
  exact FunO.of_awp hf hb hc hl h

theorem FunL.of_awpI {P : Program} {f : FuncId} {fn : Func} {code : Code} {args : List D} {lent : List Own} {R : D → List Own → Prop} (gs : List (Nat × Nat)) (hgs : gs.map (·.2) = List.range lent.length) {n : Nat} (hf : P.funcs[f]? = some fn) (hb : fn.body = some code) (hc : callable P f = true) (hn : fn.ntmps = n) (hl : args.length ≤ n)
    (h : D.wfs args → lentWf lent → ∀ ls, @awpI P code (St.initL args lent gs ls n) ⟨RetL P fn gs ls R⟩ ⟨fun _ _ => False⟩ ⟨RetL P fn gs ls R⟩) : FunL P f args lent R := by
  subst hn
  exact FunL.of_awp gs hgs hf hb hc hl h

theorem awpI_count {P : Program} {c : Code} {N R : KN} {X : KX} {st : St} (n : Nat) (I : Nat → St → Prop) (s : St) (hw : Weak st s) (hI : I 0 s)
    (hr : ∀ k s, k ≤ n → I k s → @awpI P c s ⟨Next I n k⟩ X R) : @awpI P (.loop c) st N X R := awp_count n I s hw hI hr
theorem awpI_loop {P : Program} {c : Code} {N R : KN} {X : KX} {st : St} (I : Nat → St → Prop) (n : Nat) (s : St) (hw : Weak st s) (hI : I n s)
    (hr : ∀ n s, I n s → @awpI P c s ⟨fun s' => ∃ m s'', m < n ∧ Weak s' s'' ∧ I m s''⟩ X R) : @awpI P (.loop c) st N X R := awp_loop I n s hw hI hr

end Go.VL

end
section
/- Returns. -/
namespace Go.VL
open Go Go.RowKit

theorem resDs_nil {P : Program} {st : St} : resDs P st [] = some [] := (rfl)
theorem resDs_tmp {P : Program} {st : St} {t : Tmp} {l : List ResultVar} : resDs P st (.tmp t :: l) = (resDs P st l).map (st.t t :: ·) := (rfl)
/-- A result that lies in a cell of one's own. -/
def cellD (P : Program) (t : TypeId) (st : St) : D → Option D
  | .adr id i o => (st.H id).bind fun ob => (ob.els[i]?).bind fun d => if okT P t = true ∧ d.width = ob.S then partOf d o (P.cellsOf t) (aggT P t) else none
  | _ => none
theorem cellD_adr {P : Program} {t : TypeId} {st : St} {id i o : Nat} : cellD P t st (.adr id i o) = (st.H id).bind fun ob => (ob.els[i]?).bind fun d => if okT P t = true ∧ d.width = ob.S then partOf d o (P.cellsOf t) (aggT P t) else none := (rfl)
theorem resDs_cell {P : Program} {st : St} {a : Tmp} {t : TypeId} {l : List ResultVar} : resDs P st (.cell a t :: l) = (cellD P t st (st.t a)).bind fun d => (resDs P st l).map (d :: ·) := by
  have e : resD P st (.cell a t) = cellD P t st (st.t a) := by
    show (match st.t a with | .adr id i o => (match st.H id with | some ob => (match ob.els[i]? with | some d => if okT P t = true ∧ d.width = ob.S then partOf d o (P.cellsOf t) (aggT P t) else none | none => none) | none => none) | _ => none) = _
    cases st.t a <;> try rfl
    rename_i id i o
    simp only [cellD]
    cases st.H id with
    | none => rfl
    | some ob =>
      simp only [Option.bind_some]
      cases ob.els[i]? <;> rfl
  show (match resD P st (.cell a t) with | some d => (resDs P st l).map (d :: ·) | none => none) = _
  rw [e]
  cases cellD P t st (st.t a) <;> rfl
theorem pack_one {d : D} : pack [d] = d := (rfl)
theorem pack_two {a b : D} {l : List D} : pack (a :: b :: l) = .tup (a :: b :: l) := (rfl)
theorem frzAll_nil {st : St} {l : List D} : frzAll [] st l = some (st, l) := (rfl)

def frzStep (o : Option Own) (id : Nat) (ids : List Nat) (st : St) (l : List D) : Option (St × List D) :=
  match o with
  | none => frzAll ids st l
  | some o => if D.noRefs o.els && o.els.all (fun d => d.width == o.S) then frzAll ids (st.frozen id (D.nrms o.els)) (D.frzs id (D.nrms o.els) l) else none
theorem frzAll_cons {id : Nat} {ids : List Nat} {st : St} {l : List D} : frzAll (id :: ids) st l = frzStep (st.H id) id ids st l := by
  unfold frzAll frzStep; cases st.H id <;> rfl
theorem frzStep_none {id : Nat} {ids : List Nat} {st : St} {l : List D} : frzStep none id ids st l = frzAll ids st l := (rfl)
theorem frzStep_some {id : Nat} {ids : List Nat} {st : St} {l : List D} {o : Own} (h1 : D.noRefs o.els = true) (h2 : o.els.all (fun d => d.width == o.S) = true) :
    frzStep (some o) id ids st l = frzAll ids (st.frozen id (D.nrms o.els)) (D.frzs id (D.nrms o.els) l) := by simp [frzStep, h1, h2]
theorem frozen_t {st : St} {id k : Nat} {els : List D} : (st.frozen id els).t k = (st.t k).frz id els := (rfl)
theorem frozen_H {st : St} {id k : Nat} {els : List D} : (st.frozen id els).H k = if k = id then none else (st.H k).map fun o => { o with els := D.frzs id els o.els } := (rfl)
theorem frozen_n {st : St} {id : Nat} {els : List D} : (st.frozen id els).n = st.n := (rfl)
theorem frz_sub' {id i lo n : Nat} {els : List D} : D.frz id els (.sub i lo n) = if i = id then (if lo + n ≤ els.length then .lst ((els.drop lo).take n) else .any) else .sub i lo n := (rfl)
theorem frz_ref {id i n : Nat} {els : List D} : D.frz id els (.ref i n) = if i = id then (if n ≤ els.length then .lst (els.take n) else .any) else .ref i n := (rfl)
theorem ints_width1 {k : IntKind} {l : List Int} : (ints k l).all (fun d => d.width == 1) = true := by simp [ints, D.width]
theorem rows_width1 {k : IntKind} {l : List (List Int)} : (rows k l).all (fun d => d.width == 1) = true := by simp [rows, D.width]

theorem Ret_eq {P : Program} {fn : Func} {R : D → Prop} {st : St} {rs : List ResultVar} (h : fn.results = rs.toArray) :
    Ret P fn R st = @bindI _ (resDs P st rs) ⟨fun ds => @bindI _ (frzAll (D.idss ds) st ds) ⟨fun p => @reqI (D.noRefs p.2 = true) ⟨R (pack (D.nrms p.2))⟩⟩⟩ := by
  unfold Ret bindI
  rw [h]
  simp only [bindP_eq, reqI]


/-- What the slots hold. -/
def Slots (s : St) : List (Nat × D) → Prop
  | [] => True
  | p :: l => s.t p.1 = p.2 ∧ Slots s l
theorem Slots_nil {s : St} : Slots s [] = True := (rfl)
theorem Slots_cons {s : St} {j : Nat} {d : D} {l : List (Nat × D)} : Slots s ((j, d) :: l) = (s.t j = d ∧ Slots s l) := (rfl)

/-- A result that is handed over to be owned. -/
theorem RetO_own {P : Program} {fn : Func} {R : D → Option Own → Prop} {st : St} {rs : List ResultVar} {ds : List D} (h : fn.results = rs.toArray) (hd : resDs P st rs = some ds) (id : Nat) (o : Own) (ho : st.H id = some o) (hn : D.noRefs o.els = true)
    (ids : List Nat) (p : St × List D) (hp : frzAll ids st ds = some p) (hH : p.1.H id = some o) (hi : ∀ i ∈ D.idss p.2, i = id) (hR : R (pack (D.rens 0 p.2)) (some o)) : RetO P fn R st :=
  ⟨st, Weak.refl _, ds, by rw [h]; exact hd, .inr ⟨id, o, ids, p, ho, hp, hH, hn, hi, hR⟩⟩
theorem RetO_plain {P : Program} {fn : Func} {R : D → Option Own → Prop} {st : St} {rs : List ResultVar} {ds : List D} (h : fn.results = rs.toArray) (hd : resDs P st rs = some ds) (p : St × List D) (hp : frzAll (D.idss ds) st ds = some p)
    (hn : D.noRefs p.2 = true) (hR : R (pack p.2) none) : RetO P fn R st := ⟨st, Weak.refl _, ds, by rw [h]; exact hd, .inl ⟨p, hp, hn, hR⟩⟩
theorem RetO.weak {P : Program} {fn : Func} {R : D → Option Own → Prop} {st s : St} (hw : Weak st s) (h : RetO P fn R s) : RetO P fn R st :=
  let ⟨s', h1, h2⟩ := h; ⟨s', hw.trans h1, h2⟩

/-- What objects there are. -/
def Heaps (s : St) : List (Nat × Own) → Prop
  | [] => True
  | p :: l => s.H p.1 = some p.2 ∧ Heaps s l
theorem Heaps_nil {s : St} : Heaps s [] = True := (rfl)
theorem Heaps_cons {s : St} {j : Nat} {o : Own} {l : List (Nat × Own)} : Heaps s ((j, o) :: l) = (s.H j = some o ∧ Heaps s l) := (rfl)
def At (s : St) (n : Nat) (l : List (Nat × D)) (h : List (Nat × Own)) : Prop := s.n = n ∧ Slots s l ∧ Heaps s h
theorem adopt_t {st : St} {j id k : Nat} {e : TypeId} {S : Nat} : (st.adopt j id e S).t k = if k = j then .ref id 0 else (st.t k).kill id := by
  unfold St.adopt
  simp only [St.put, St.obj, St.killed, upd]
theorem adopt_H {st : St} {j id k : Nat} {e : TypeId} {S : Nat} : (st.adopt j id e S).H k = if k = id then some ⟨e, S, []⟩ else (st.H k).map fun o => { o with els := D.kills id o.els } := by
  unfold St.adopt
  simp only [St.put, St.obj, St.killed, upd]
  split <;> simp_all
theorem adopt_n {st : St} {j id : Nat} {e : TypeId} {S : Nat} : (st.adopt j id e S).n = st.n := (rfl)
end Go.VL

end
section
/- Regions that draw their order: one order serves. -/
namespace Go.VL
open Go Go.RowKit

-- what does not name an owned thing stays as it is
mutual
theorem D.noRef_kill1 : ∀ (d : D), d.noRef = true → ∀ id, d.kill id = d
  | .any, _, _ => rfl
  | .v _, _, _ => rfl
  | .nil0, _, _ => rfl
  | .lst _, _, _ => rfl
  | .ptr _, _, _ => rfl
  | .agg l, h, id => by simp only [D.kill]; rw [D.noRef_kills l h id]
  | .tup l, h, id => by simp only [D.kill]; rw [D.noRef_kills l h id]
  | .clos _ l, h, id => by simp only [D.kill]; rw [D.noRef_kills l h id]
  | .ref _ _, h, _ => by cases h
  | .adr _ _ _, h, _ => by cases h
theorem D.noRef_kills : ∀ (l : List D), D.noRefs l = true → ∀ id, D.kills id l = l
  | [], _, _ => rfl
  | d :: ds, h, id => by
    have h' : d.noRef = true ∧ D.noRefs ds = true := by simpa [D.noRefs] using h
    simp only [D.kills]; rw [D.noRef_kill1 d h'.1, D.noRef_kills ds h'.2]
end
mutual
theorem D.noRef_frz1 : ∀ (d : D), d.noRef = true → ∀ id els, d.frz id els = d
  | .any, _, _, _ => rfl
  | .v _, _, _, _ => rfl
  | .nil0, _, _, _ => rfl
  | .lst _, _, _, _ => rfl
  | .ptr _, _, _, _ => rfl
  | .agg l, h, id, els => by simp only [D.frz]; rw [D.noRef_frzs l h id els]
  | .tup l, h, id, els => by simp only [D.frz]; rw [D.noRef_frzs l h id els]
  | .clos _ l, h, id, els => by simp only [D.frz]; rw [D.noRef_frzs l h id els]
  | .ref _ _, h, _, _ => by cases h
  | .adr _ _ _, h, _, _ => by cases h
theorem D.noRef_frzs : ∀ (l : List D), D.noRefs l = true → ∀ id els, D.frzs id els l = l
  | [], _, _, _ => rfl
  | d :: ds, h, id, els => by
    have h' : d.noRef = true ∧ D.noRefs ds = true := by simpa [D.noRefs] using h
    simp only [D.frzs]; rw [D.noRef_frz1 d h'.1, D.noRef_frzs ds h'.2]
end

/-- An effect on all slots alike. -/
def Nice (τ : D → D) : Prop := ∀ d, d.noRef = true → τ d = d
theorem Nice.id : Nice id := fun _ _ => rfl
theorem Nice.comp {τ σ : D → D} (h : Nice τ) (k : Nice σ) : Nice (τ ∘ σ) := fun d hd => by simp only [Function.comp]; rw [k d hd, h d hd]
theorem Nice.kill (i : Nat) : Nice (D.kill i) := fun d hd => D.noRef_kill1 d hd i
theorem Nice.frz (i : Nat) (els : List D) : Nice (D.frz i els) := fun d hd => D.noRef_frz1 d hd i els

/-- What one operation does to a state, told of two states at once. -/
def Both (K : St → D → Prop) (t : Nat → D) (t' : Nat → D) (n : Nat) : St → D → Prop := fun s d => ∃ τ, Nice τ ∧ s.t = τ ∘ t' ∧ s.n = n ∧ K ⟨τ ∘ t, s.H, s.n⟩ d

section
variable {P : Program} {K K' : St → D → Prop} {t t' : Nat → D} {H : Nat → Option Own} {n : Nat} {id : Nat} {ty : TypeId}

theorem both_same {d : D} (h : K ⟨t, H, n⟩ d) : Both K t t' n ⟨t', H, n⟩ d := ⟨_root_.id, Nice.id, rfl, rfl, h⟩
theorem both_kill {d : D} {o : Own} (h : K (((⟨t, H, n⟩ : St).killed id).obj id o) d) : Both K t t' n (((⟨t', H, n⟩ : St).killed id).obj id o) d := ⟨D.kill id, Nice.kill id, rfl, rfl, h⟩

theorem opBox_both (hk : ∀ s d, Both K t t' n s d → K' s d) {v : D} (h : opBox P ty v id K ⟨t, H, n⟩) : opBox P ty v id K' ⟨t', H, n⟩ :=
  ⟨h.1, h.2.1, h.2.2.1, hk _ _ (both_kill h.2.2.2)⟩
theorem opAlloc_both (hk : ∀ s d, Both K t t' n s d → K' s d) (h : opAlloc P ty id K ⟨t, H, n⟩) : opAlloc P ty id K' ⟨t', H, n⟩ := by
  obtain ⟨z, h1, h2, h3, h4, h5⟩ := h
  exact ⟨z, h1, h2, h3, h4, hk _ _ (both_kill h5)⟩
theorem opBuildSlice_both (hk : ∀ s d, Both K t t' n s d → K' s d) {len : Nat} {parts : List (Nat × D)} (h : opBuildSlice P ty len parts id K ⟨t, H, n⟩) : opBuildSlice P ty len parts id K' ⟨t', H, n⟩ := by
  obtain ⟨e, h1, h2, h3, h4, h5, h6, h7, h8⟩ := h
  refine ⟨e, h1, h2, h3, h4, h5, h6, h7, ?_⟩
  split
  · rename_i hl
    rw [if_pos hl] at h8
    exact hk _ _ (both_kill h8)
  · rename_i hl
    rw [if_neg hl] at h8
    exact hk _ _ (both_same h8)
theorem opMakeSlice_both (hk : ∀ s d, Both K t t' n s d → K' s d) {l c : D} (h : opMakeSlice P ty l c id K ⟨t, H, n⟩) : opMakeSlice P ty l c id K' ⟨t', H, n⟩ := by
  unfold opMakeSlice at *
  split at h
  · obtain ⟨e, h1, h2, h3, h4, h5, h6, z, h7, h8, h9, h10⟩ := h
    exact ⟨e, h1, h2, h3, h4, h5, h6, z, h7, h8, h9, hk _ _ (both_kill h10)⟩
  · exact h.elim
theorem opAppend_both (hk : ∀ s d, Both K t t' n s d → K' s d) {x y : D} (h : opAppend P ty x y id K ⟨t, H, n⟩) : opAppend P ty x y id K' ⟨t', H, n⟩ := by
  obtain ⟨e, h1, h2, b, h3, xs, h4, h5, h6, h7, h8, h9, h10⟩ := h
  exact ⟨e, h1, h2, b, h3, xs, h4, h5, h6, h7, h8, h9, hk _ _ (both_kill h10)⟩
theorem opCopy_both (hk : ∀ s d, Both K t t' n s d → K' s d) {x y : D} (h : opCopy P ty x y K ⟨t, H, n⟩) : opCopy P ty x y K' ⟨t', H, n⟩ := by
  obtain ⟨e, h1, h2, xs, h3, h4, h5⟩ := h
  refine ⟨e, h1, h2, xs, h3, h4, ?_⟩
  split at h5
  · obtain ⟨ob, g1, g2, g3, g4, g5⟩ := h5
    exact ⟨ob, g1, g2, g3, g4, hk _ _ ⟨_root_.id, Nice.id, rfl, rfl, g5⟩⟩
  · obtain ⟨ob, g1, g2, g3, g4, g5⟩ := h5
    exact ⟨ob, g1, g2, g3, g4, hk _ _ ⟨_root_.id, Nice.id, rfl, rfl, g5⟩⟩
  · exact h5.elim
theorem opStore_both (hk : ∀ s d, Both K t t' n s d → K' s d) {x v : D} (h : opStore P ty x v (fun s => K s .any) ⟨t, H, n⟩) : opStore P ty x v (fun s => K' s .any) ⟨t', H, n⟩ := by
  unfold opStore at *
  split at h
  · obtain ⟨ob, h1, d, h2, h3, h4, h5, h6, d', h7, h8⟩ := h
    exact ⟨ob, h1, d, h2, h3, h4, h5, h6, d', h7, hk _ _ ⟨_root_.id, Nice.id, rfl, rfl, h8⟩⟩
  · exact h.elim

theorem frzAll_both : ∀ (ids : List Nat) (t t' : Nat → D) (H : Nat → Option Own) (n : Nat) (l : List D) (p : St × List D), frzAll ids ⟨t, H, n⟩ l = some p →
    ∃ τ, Nice τ ∧ p.1.t = τ ∘ t ∧ p.1.n = n ∧ frzAll ids ⟨t', H, n⟩ l = some (⟨τ ∘ t', p.1.H, p.1.n⟩, p.2)
  | [], t, t', H, n, l, p, h => by
    simp only [frzAll, Option.some.injEq] at h
    subst h
    exact ⟨_root_.id, Nice.id, rfl, rfl, rfl⟩
  | i :: ids, t, t', H, n, l, p, h => by
    unfold frzAll at h ⊢
    simp only at h ⊢
    cases ho : H i with
    | none =>
      rw [ho] at h
      exact frzAll_both ids t t' H n l p h
    | some o =>
      rw [ho] at h
      simp only at h ⊢
      split at h
      · rename_i hc
        rw [if_pos hc]
        obtain ⟨τ, h1, h2, hn, h3⟩ := frzAll_both ids (fun j => (t j).frz i (D.nrms o.els)) (fun j => (t' j).frz i (D.nrms o.els)) _ n _ p h
        exact ⟨τ ∘ D.frz i (D.nrms o.els), h1.comp (Nice.frz _ _), h2, hn, h3⟩
      · cases h

theorem opBuildSliceM_both (hk : ∀ s d, Both K t t' n s d → K' s d) {len : Nat} {parts : List (Nat × D)} (h : opBuildSliceM P ty len parts id K ⟨t, H, n⟩) : opBuildSliceM P ty len parts id K' ⟨t', H, n⟩ := by
  obtain ⟨p, h1, h2⟩ := h
  obtain ⟨τ, k1, k2, kn, k3⟩ := frzAll_both _ t t' H n _ p h1
  refine ⟨_, k3, ?_⟩
  obtain ⟨⟨pt, pH, pn⟩, pl⟩ := p
  simp only at k2 kn
  subst k2 kn
  refine opBuildSlice_both (K := K) (t := τ ∘ t) (t' := τ ∘ t') (n := pn) ?_ h2
  rintro s d ⟨σ, g1, g2, g3, g4⟩
  exact hk s d ⟨σ ∘ τ, g1.comp k1, g2, g3, g4⟩
theorem setObjs_HH (H : Nat → Option Own) (n : Nat) (t t' : Nat → D) : ∀ (σ : List Nat) (os : List Own), (setObjs ⟨t, H, n⟩ σ os).H = (setObjs ⟨t', H, n⟩ σ os).H
  | [], _ => by cases ‹List Own› <;> rfl
  | _ :: _, [] => rfl
  | id :: ids, o :: os => by show upd _ id (some o) = upd _ id (some o); rw [setObjs_HH H n t t' ids os]
theorem opCall_both (hk : ∀ s d, Both K t t' n s d → K' s d) {f : D} {args : List D} (h : opCall P f args id K ⟨t, H, n⟩) : opCall P f args id K' ⟨t', H, n⟩ := by
  unfold opCall at *
  split at h
  · rcases h with ⟨p, h1, h2, h3⟩ | ⟨σ, as, lent, R, l1, l2, l3, l4, l5, l6, l7⟩
    rotate_left
    · refine .inr ⟨σ, as, lent, R, l1, l2, l3, l4, l5, l6, fun r os hr hnr => hk _ _ ⟨_root_.id, fun _ _ => rfl, setObjs_t _ _ _, setObjs_n _ _ _, ?_⟩⟩
      have e : ∀ u : Nat → D, setObjs ⟨u, H, n⟩ σ os = ⟨u, (setObjs ⟨u, H, n⟩ σ os).H, n⟩ := fun u => by
        have h1 := setObjs_t ⟨u, H, n⟩ σ os
        have h2 := setObjs_n ⟨u, H, n⟩ σ os
        generalize setObjs ⟨u, H, n⟩ σ os = z at *
        obtain ⟨zt, zH, zn⟩ := z
        simp only at h1 h2 ⊢
        rw [h1, h2]
      have eH : (setObjs ⟨t', H, n⟩ σ os).H = (setObjs ⟨t, H, n⟩ σ os).H := setObjs_HH H n t' t σ os
      have := l7 r os hr hnr
      rw [e t] at this
      have en : (setObjs ⟨t', H, n⟩ σ os).n = n := setObjs_n _ _ _
      show K ⟨t, (setObjs ⟨t', H, n⟩ σ os).H, (setObjs ⟨t', H, n⟩ σ os).n⟩ r
      rw [en, eH]; exact this
    refine .inl ?_
    obtain ⟨τ, k1, k2, kn, k3⟩ := frzAll_both _ t t' H n _ p h1
    refine ⟨_, k3, h2, ?_⟩
    rcases h3 with ⟨R, h4, h5⟩ | ⟨R, h4, h5⟩
    · refine .inl ⟨R, h4, fun r hr hnr => ?_⟩
      have := h5 r hr hnr
      split
      · rename_i hf
        rw [if_pos hf] at this
        exact hk _ _ (both_same this)
      · rename_i hf
        rw [if_neg hf] at this
        exact hk _ _ ⟨τ, k1, rfl, kn, by rw [← k2]; exact this⟩
    · refine .inr ⟨R, h4, fun r o hr hnr => ?_⟩
      have := h5 r o hr hnr
      cases o with
      | none => exact fun hn => hk _ _ ⟨τ, k1, rfl, kn, by rw [← k2]; exact this hn⟩
      | some o =>
        refine hk _ _ ⟨D.kill id ∘ τ, (Nice.kill id).comp k1, rfl, kn, ?_⟩
        obtain ⟨⟨pt, pH, pn⟩, pl⟩ := p
        simp only at k2
        subst k2
        exact this
  · exact h.elim
end

-- the quiet ones
def qop (P : Program) (o : Oper) (e : Operand → D) (H : Nat → Option Own) (k : D → Prop) : Prop :=
  match o.op with
  | .move x => k (e x)
  | .assign x => k (e x)
  | .pick c a b => opPick (e c) (e a) (e b) k
  | .build t parts => opBuild P t (parts.toList.map fun p => (p.1, e p.2)) k
  | .load t x => opLoad P t (e x) k ⟨fun _ => .any, H, 0⟩
  | .nilCheck x => opNilCheck (e x) k
  | .binOp op t x y _ => opBin P op t (e x) (e y) k
  | .unOp op _ x => opUn op (e x) k
  | .convert s t x => opConvert P s t (e x) k ⟨fun _ => .any, H, 0⟩
  | .makeFunc fn first caps => first.toList = [] ∧ k (.clos fn (caps.toList.map e))
  | .slice t x lo hi mx => opSlice P t (e x) (lo.map e) (hi.map e) (mx.map e) k ⟨fun _ => .any, H, 0⟩
  | .fieldAddr s x f => opFieldAddr P s (e x) f k
  | .field s x f => opField P s (e x) f k
  | .indexAddr t x ix => opIndexAddr P t (e x) (e ix) k ⟨fun _ => .any, H, 0⟩
  | .index t x ix => opIndex P t (e x) (e ix) k
  | .extract x i => opExtract (e x) i k
  | .call ⟨.builtin .len, args, ts⟩ => match args.toList, ts.toList with
    | [x], [t] => opLenM P t (e x) k ⟨fun _ => .any, H, 0⟩
    | _, _ => False
  | .call ⟨.builtin .min, args, _⟩ => opMin (args.toList.map e) k
  | .call ⟨.builtin .imag, args, _⟩ => opCx .imag (args.toList.map e) k
  | .call ⟨.builtin .real, args, _⟩ => opCx .real (args.toList.map e) k
  | .call ⟨.builtin .complex, args, _⟩ => opCx .complex (args.toList.map e) k
  | .call ⟨.builtin .max, args, _⟩ => opMax (args.toList.map e) k
  | _ => False

/-- Operations that leave what is owned alone. -/
def quiet (o : Oper) : Bool :=
  match o.op with
  | .move _ => true
  | .assign _ => true
  | .pick .. => true
  | .build .. => true
  | .load .. => true
  | .nilCheck _ => true
  | .binOp .. => true
  | .unOp .. => true
  | .convert .. => true
  | .makeFunc .. => true
  | .slice .. => true
  | .fieldAddr .. => true
  | .field .. => true
  | .indexAddr .. => true
  | .index .. => true
  | .extract .. => true
  | .call ⟨.builtin .len, args, ts⟩ => args.size == 1 && ts.size == 1
  | .call ⟨.builtin .min, _, _⟩ => true
  | .call ⟨.builtin .imag, _, _⟩ => true
  | .call ⟨.builtin .real, _, _⟩ => true
  | .call ⟨.builtin .complex, _, _⟩ => true
  | .call ⟨.builtin .max, _, _⟩ => true
  | _ => false

theorem aopx_quiet {P : Program} {o : Oper} (hq : quiet o = true) {K : St → D → Prop} {st : St} : aopx P o K st = qop P o st.ev st.H (K st) := by
  unfold quiet at hq
  unfold aopx qop
  obtain ⟨dst, op, ty, pos, af, g⟩ := o
  cases op
  case call c =>
    obtain ⟨cal, args, ts⟩ := c
    cases cal
    case builtin b =>
      cases b
      case len =>
        simp only [Bool.and_eq_true, beq_iff_eq] at hq
        obtain ⟨l⟩ := args
        obtain ⟨l'⟩ := ts
        match l, l', hq with
        | [x], [t], _ => rfl
      all_goals first
        | rfl
        | exact absurd hq (by simp)
    all_goals exact absurd hq (by simp)
  all_goals first
    | rfl
    | exact absurd hq (by simp)

section
variable {P : Program} {t : TypeId} {k : D → Prop} {st : St}
theorem opPick_det {c a b : D} (h : opPick c a b k) : ∃ d, k d ∧ ∀ k' : D → Prop, k' d → opPick c a b k' := by
  obtain ⟨x, h1, h2⟩ := h; exact ⟨_, h2, fun _ hk => ⟨x, h1, hk⟩⟩
theorem opBuild_det {l : List (Nat × D)} (h : opBuild P t l k) : ∃ d, k d ∧ ∀ k' : D → Prop, k' d → opBuild P t l k' := by
  obtain ⟨h1, pl, h2, z, h3, zs, h4, r, h5, h6⟩ := h; exact ⟨_, h6, fun _ hk => ⟨h1, pl, h2, z, h3, zs, h4, r, h5, hk⟩⟩
theorem opLoad_det {x : D} (h : opLoad P t x k st) : ∃ d, k d ∧ ∀ k' : D → Prop, k' d → opLoad P t x k' st := by
  unfold opLoad at *
  split at h
  · obtain ⟨h1, h2, r, h3, h4⟩ := h; exact ⟨_, h4, fun _ hk => ⟨h1, h2, r, h3, hk⟩⟩
  · obtain ⟨ob, h1, d, h2, h3, h4, r, h5, h6⟩ := h; exact ⟨_, h6, fun _ hk => ⟨ob, h1, d, h2, h3, h4, r, h5, hk⟩⟩
  · exact h.elim
theorem opNilCheck_det {x : D} (h : opNilCheck x k) : ∃ d, k d ∧ ∀ k' : D → Prop, k' d → opNilCheck x k' := by
  unfold opNilCheck at *
  split at h
  · exact ⟨_, h, fun _ hk => hk⟩
  · exact ⟨_, h, fun _ hk => hk⟩
  · exact h.elim
theorem opUn_det {op : UnOp} {x : D} (h : opUn op x k) : ∃ d, k d ∧ ∀ k' : D → Prop, k' d → opUn op x k' := by
  unfold opUn at *
  split at h
  · exact ⟨_, h, fun _ hk => hk⟩
  · exact ⟨_, h, fun _ hk => hk⟩
  · exact ⟨_, h, fun _ hk => hk⟩
  · exact h.elim
theorem opConvert_det {s : TypeId} {x : D} (h : opConvert P s t x k st) : ∃ d, k d ∧ ∀ k' : D → Prop, k' d → opConvert P s t x k' st := by
  unfold opConvert at *
  split at h
  · obtain ⟨h1, h2⟩ := h
    split at h2
    · rename_i q hq; exact ⟨_, h2, fun _ hk => ⟨h1, hk⟩⟩
    · obtain ⟨q, h3, h4⟩ := h2; exact ⟨_, h4, fun _ hk => ⟨h1, q, h3, hk⟩⟩
  · obtain ⟨h1, q, h2, n, h3, h4⟩ := h; exact ⟨_, h4, fun _ hk => ⟨h1, q, h2, n, h3, hk⟩⟩
  · obtain ⟨e, h1, h2, h3, h4⟩ := h; exact ⟨_, h4, fun _ hk => ⟨e, h1, h2, h3, hk⟩⟩
  · obtain ⟨e, h1, h2, h3, h4⟩ := h; exact ⟨_, h4, fun _ hk => ⟨e, h1, h2, h3, hk⟩⟩
  · obtain ⟨e, h1, h2, h3, ns, h4, h5⟩ := h; exact ⟨_, h5, fun _ hk => ⟨e, h1, h2, h3, ns, h4, hk⟩⟩
  · obtain ⟨e, h1, h2, h3, ob, h4, h5, h6, ns, h7, h8⟩ := h; exact ⟨_, h8, fun _ hk => ⟨e, h1, h2, h3, ob, h4, h5, h6, ns, h7, hk⟩⟩
  · exact h.elim
theorem opSlice_det {x : D} {lo hi mx : Option D} (h : opSlice P t x lo hi mx k st) : ∃ d, k d ∧ ∀ k' : D → Prop, k' d → opSlice P t x lo hi mx k' st := by
  unfold opSlice at *
  obtain ⟨e, h1, h2, h⟩ := h
  split at h
  · obtain ⟨h3, i, h4, j, h5, h6, h7, h8, h9⟩ := h
    split at h9
    · exact ⟨_, h9, fun _ hk => ⟨e, h1, h2, h3, i, h4, j, h5, h6, h7, h8, hk⟩⟩
    · obtain ⟨g1, q, g2, g3, g4, g5⟩ := h9
      by_cases hq : q = i
      · rw [if_pos hq] at g5
        exact ⟨_, g5, fun _ hk => ⟨e, h1, h2, h3, i, h4, j, h5, h6, h7, h8, g1, q, g2, g3, g4, by rw [if_pos hq]; exact hk⟩⟩
      · rw [if_neg hq] at g5
        exact ⟨_, g5, fun _ hk => ⟨e, h1, h2, h3, i, h4, j, h5, h6, h7, h8, g1, q, g2, g3, g4, by rw [if_neg hq]; exact hk⟩⟩
  · obtain ⟨i, h4, j, h6, h7, h8, h9, h10, h11, h12⟩ := h
    exact ⟨_, h12, fun _ hk => ⟨e, h1, h2, i, h4, j, h6, h7, h8, h9, h10, h11, hk⟩⟩
  · obtain ⟨i, h4, j, h6, h7, h8, h9, h10, h11, h12⟩ := h
    exact ⟨_, h12, fun _ hk => ⟨e, h1, h2, i, h4, j, h6, h7, h8, h9, h10, h11, hk⟩⟩
  · obtain ⟨i, h4, h5, j, h6, h7, h8, h9⟩ := h
    exact ⟨_, h9, fun _ hk => ⟨e, h1, h2, i, h4, h5, j, h6, h7, h8, hk⟩⟩
  · exact h.elim
theorem opFieldAddr_det {x : D} {f : Nat} (h : opFieldAddr P t x f k) : ∃ d, k d ∧ ∀ k' : D → Prop, k' d → opFieldAddr P t x f k' := by
  unfold opFieldAddr at *
  split at h
  · obtain ⟨fl, h1, h2, h3⟩ := h; exact ⟨_, h3, fun _ hk => ⟨fl, h1, h2, hk⟩⟩
  · obtain ⟨fl, h1, h2, r, h3, h4, h5, h6⟩ := h; exact ⟨_, h6, fun _ hk => ⟨fl, h1, h2, r, h3, h4, h5, hk⟩⟩
  · exact h.elim
theorem opField_det {x : D} {f : Nat} (h : opField P t x f k) : ∃ d, k d ∧ ∀ k' : D → Prop, k' d → opField P t x f k' := by
  unfold opField at *
  split at h
  · obtain ⟨fl, h1, h2, r, h3, h4⟩ := h; exact ⟨_, h4, fun _ hk => ⟨fl, h1, h2, r, h3, hk⟩⟩
  · exact h.elim
theorem opIndexAddr_det {x i : D} (h : opIndexAddr P t x i k st) : ∃ d, k d ∧ ∀ k' : D → Prop, k' d → opIndexAddr P t x i k' st := by
  unfold opIndexAddr at *
  split at h
  · split at h
    · obtain ⟨e, h1, h2, h3, h4, h5, d, h6, h7⟩ := h; exact ⟨_, h7, fun _ hk => ⟨e, h1, h2, h3, h4, h5, d, h6, hk⟩⟩
    · obtain ⟨e, h1, h2, h3, h4, ob, h5, h6, h7, h8⟩ := h; exact ⟨_, h8, fun _ hk => ⟨e, h1, h2, h3, h4, ob, h5, h6, h7, hk⟩⟩
    · obtain ⟨e, h1, h2, h3, h4, ob, h5, h6, h7, h8⟩ := h; exact ⟨_, h8, fun _ hk => ⟨e, h1, h2, h3, h4, ob, h5, h6, h7, hk⟩⟩
    · obtain ⟨n, e, h1, h2, h3, h4, h5⟩ := h; exact ⟨_, h5, fun _ hk => ⟨n, e, h1, h2, h3, h4, hk⟩⟩
    · obtain ⟨n, e, h1, h2, h3, h4, r, h5, h6, h7, h8⟩ := h; exact ⟨_, h8, fun _ hk => ⟨n, e, h1, h2, h3, h4, r, h5, h6, h7, hk⟩⟩
    · exact h.elim
  · exact h.elim
theorem opIndex_det {x i : D} (h : opIndex P t x i k) : ∃ d, k d ∧ ∀ k' : D → Prop, k' d → opIndex P t x i k' := by
  unfold opIndex at *
  split at h
  · obtain ⟨n, e, h1, h2, h3, h4, r, h5, h6⟩ := h; exact ⟨_, h6, fun _ hk => ⟨n, e, h1, h2, h3, h4, r, h5, hk⟩⟩
  · exact h.elim
theorem opExtract_det {x : D} {i : Nat} (h : opExtract x i k) : ∃ d, k d ∧ ∀ k' : D → Prop, k' d → opExtract x i k' := by
  unfold opExtract at *
  split at h
  · obtain ⟨r, h1, h2⟩ := h; exact ⟨_, h2, fun _ hk => ⟨r, h1, hk⟩⟩
  · exact h.elim
theorem opLen_det {x : D} (h : opLen P t x k) : ∃ d, k d ∧ ∀ k' : D → Prop, k' d → opLen P t x k' := by
  unfold opLen at *
  split at h
  · exact ⟨_, h.2, fun _ hk => ⟨h.1, hk⟩⟩
  · exact ⟨_, h.2, fun _ hk => ⟨h.1, hk⟩⟩
  · exact ⟨_, h.2, fun _ hk => ⟨h.1, hk⟩⟩
  · exact ⟨_, h.2, fun _ hk => ⟨h.1, hk⟩⟩
  · exact ⟨_, h.2, fun _ hk => ⟨h.1, hk⟩⟩
  · exact ⟨_, h.2, fun _ hk => ⟨h.1, hk⟩⟩
  · obtain ⟨n, e, h1, h2⟩ := h; exact ⟨_, h2, fun _ hk => ⟨n, e, h1, hk⟩⟩
  · exact h.elim
theorem opCx_det {b : Builtin} {l : List D} (h : opCx b l k) : ∃ d, k d ∧ ∀ k' : D → Prop, k' d → opCx b l k' := by
  unfold opCx at *
  split at h
  · obtain ⟨h1, h2⟩ := h; exact ⟨_, h2, fun _ hk => ⟨h1, hk⟩⟩
  · exact ⟨_, h, fun _ hk => hk⟩
  · exact ⟨_, h, fun _ hk => hk⟩
  · exact h.elim
theorem opMin_det {l : List D} (h : opMin l k) : ∃ d, k d ∧ ∀ k' : D → Prop, k' d → opMin l k' := by
  unfold opMin at *
  split at h
  · obtain ⟨z, h1, h2⟩ := h; exact ⟨_, h2, fun _ hk => ⟨z, h1, hk⟩⟩
  · exact h.elim
theorem opLenM_det {x : D} {st : St} (h : opLenM P t x k st) : ∃ d, k d ∧ ∀ k' : D → Prop, k' d → opLenM P t x k' st := by
  unfold opLenM at *
  split at h
  · obtain ⟨p, h1, kk, h6, ob, h2, h3, l, h4, h5⟩ := h; exact ⟨_, h5, fun _ hk => ⟨p, h1, kk, h6, ob, h2, h3, l, h4, hk⟩⟩
  · obtain ⟨d, h1, h2⟩ := opLen_det h
    exact ⟨d, h1, fun k' hk => h2 k' hk⟩
theorem opMax_det {l : List D} (h : opMax l k) : ∃ d, k d ∧ ∀ k' : D → Prop, k' d → opMax l k' := by
  unfold opMax at *
  split at h
  · obtain ⟨z, h1, h2⟩ := h; exact ⟨_, h2, fun _ hk => ⟨z, h1, hk⟩⟩
  · exact h.elim
def D.isNil : D → Bool
  | .v (.slice none 0 0) => true
  | _ => false
theorem opBin_det {op : BinOp} {x y : D} (hy : y.isNil = false) (h : opBin P op t x y k) : ∃ d, k d ∧ ∀ k' : D → Prop, k' d → opBin P op t x y k' := by
  have key : ∀ {q : D → Prop}, ¬ nilAsk P op t x y q := by
    intro q hq
    unfold nilAsk at hq
    split at hq
    · cases hy
    · cases hy
    · cases hy
    · cases hy
    · exact hq
  unfold opBin at *
  split at h
  · rename_i a b
    cases hab : abin P op t a b with
    | some r => rw [hab] at h; exact ⟨_, h, fun _ hk => by simpa only [hab] using hk⟩
    | none => rw [hab] at h; exact absurd h key
  · exact absurd h key
end

def qok (o : Oper) (e : Operand → D) : Bool :=
  match o.op with
  | .binOp _ _ _ y _ => !(e y).isNil
  | _ => true

theorem qop_det {P : Program} {o : Oper} {e : Operand → D} {H : Nat → Option Own} {k : D → Prop} (hn : qok o e = true) (h : qop P o e H k) : ∃ d, k d ∧ ∀ k' : D → Prop, k' d → qop P o e H k' := by
  unfold qop at h
  split at h <;> rename_i ho
  · exact ⟨_, h, fun k' hk => by simp only [qop, ho]; exact hk⟩
  · exact ⟨_, h, fun k' hk => by simp only [qop, ho]; exact hk⟩
  · obtain ⟨d, h1, h2⟩ := opPick_det h; exact ⟨d, h1, fun k' hk => by simp only [qop, ho]; exact h2 k' hk⟩
  · obtain ⟨d, h1, h2⟩ := opBuild_det h; exact ⟨d, h1, fun k' hk => by simp only [qop, ho]; exact h2 k' hk⟩
  · obtain ⟨d, h1, h2⟩ := opLoad_det h; exact ⟨d, h1, fun k' hk => by simp only [qop, ho]; exact h2 k' hk⟩
  · obtain ⟨d, h1, h2⟩ := opNilCheck_det h; exact ⟨d, h1, fun k' hk => by simp only [qop, ho]; exact h2 k' hk⟩
  · have hy : (e ‹Operand›).isNil = false := by
      simp only [qok, ho] at hn
      simpa using hn
    obtain ⟨d, h1, h2⟩ := opBin_det hy h; exact ⟨d, h1, fun k' hk => by simp only [qop, ho]; exact h2 k' hk⟩
  · obtain ⟨d, h1, h2⟩ := opUn_det h; exact ⟨d, h1, fun k' hk => by simp only [qop, ho]; exact h2 k' hk⟩
  · obtain ⟨d, h1, h2⟩ := opConvert_det h; exact ⟨d, h1, fun k' hk => by simp only [qop, ho]; exact h2 k' hk⟩
  · exact ⟨_, h.2, fun k' hk => by simp only [qop, ho]; exact ⟨h.1, hk⟩⟩
  · obtain ⟨d, h1, h2⟩ := opSlice_det h; exact ⟨d, h1, fun k' hk => by simp only [qop, ho]; exact h2 k' hk⟩
  · obtain ⟨d, h1, h2⟩ := opFieldAddr_det h; exact ⟨d, h1, fun k' hk => by simp only [qop, ho]; exact h2 k' hk⟩
  · obtain ⟨d, h1, h2⟩ := opField_det h; exact ⟨d, h1, fun k' hk => by simp only [qop, ho]; exact h2 k' hk⟩
  · obtain ⟨d, h1, h2⟩ := opIndexAddr_det h; exact ⟨d, h1, fun k' hk => by simp only [qop, ho]; exact h2 k' hk⟩
  · obtain ⟨d, h1, h2⟩ := opIndex_det h; exact ⟨d, h1, fun k' hk => by simp only [qop, ho]; exact h2 k' hk⟩
  · obtain ⟨d, h1, h2⟩ := opExtract_det h; exact ⟨d, h1, fun k' hk => by simp only [qop, ho]; exact h2 k' hk⟩
  · split at h
    · rename_i h1' h2'
      obtain ⟨d, h1, h2⟩ := opLenM_det h; exact ⟨d, h1, fun k' hk => by simp only [qop, ho, h1', h2']; exact h2 k' hk⟩
    · exact h.elim
  · obtain ⟨d, h1, h2⟩ := opMin_det h; exact ⟨d, h1, fun k' hk => by simp only [qop, ho]; exact h2 k' hk⟩
  · obtain ⟨d, h1, h2⟩ := opCx_det h; exact ⟨d, h1, fun k' hk => by simp only [qop, ho]; exact h2 k' hk⟩
  · obtain ⟨d, h1, h2⟩ := opCx_det h; exact ⟨d, h1, fun k' hk => by simp only [qop, ho]; exact h2 k' hk⟩
  · obtain ⟨d, h1, h2⟩ := opCx_det h; exact ⟨d, h1, fun k' hk => by simp only [qop, ho]; exact h2 k' hk⟩
  · obtain ⟨d, h1, h2⟩ := opMax_det h; exact ⟨d, h1, fun k' hk => by simp only [qop, ho]; exact h2 k' hk⟩
  · exact h.elim

theorem map_ev {e e' : Operand → D} : ∀ (l : List Operand), (∀ x ∈ l, e x = e' x) → l.map e = l.map e' := fun _ h => List.map_congr_left h

theorem qop_ev {P : Program} {o : Oper} {e e' : Operand → D} {H : Nat → Option Own} {k : D → Prop} (he : ∀ x ∈ o.op.operands, e x = e' x) (h : qop P o e H k) : qop P o e' H k := by
  obtain ⟨dst, op, ty, pos, af, g⟩ := o
  cases op
  case call c =>
    obtain ⟨cal, args, ts⟩ := c
    cases cal
    case builtin b =>
      have ha : ∀ x ∈ args.toList, e x = e' x := fun x hx => he x (by simpa [Op.operands, Call.operands] using hx)
      cases b
      case len =>
        obtain ⟨l⟩ := args
        obtain ⟨l'⟩ := ts
        simp only [qop] at h ⊢
        match l, l', h, ha with
        | [x], [t], h, ha => show opLenM P t (e' x) k _; rw [← ha x (by simp)]; exact h
      case min => simp only [qop] at h ⊢; rw [← map_ev _ ha]; exact h
      case complex => simp only [qop] at h ⊢; rw [← map_ev _ ha]; exact h
      case real => simp only [qop] at h ⊢; rw [← map_ev _ ha]; exact h
      case imag => simp only [qop] at h ⊢; rw [← map_ev _ ha]; exact h
      case max => simp only [qop] at h ⊢; rw [← map_ev _ ha]; exact h
      all_goals exact h.elim
    all_goals exact h.elim
  case build t ps =>
    simp only [qop] at h ⊢
    rw [← List.map_congr_left (f := fun p : Nat × Operand => (p.1, e p.2)) fun p hp => by rw [he p.2 (by simp [Op.operands]; exact ⟨p.1, by simpa using hp⟩)]]
    exact h
  case makeFunc fn first caps =>
    simp only [qop] at h ⊢
    rw [← map_ev _ fun x hx => he x (by simp [Op.operands]; exact .inr (by simpa using hx))]
    exact h
  case slice t x lo hi mx =>
    simp only [qop] at h ⊢
    have h0 := he x (by simp [Op.operands])
    have h1 : lo.map e = lo.map e' := by
      cases lo with
      | none => rfl
      | some y => simp [he y (by simp [Op.operands])]
    have h2 : hi.map e = hi.map e' := by
      cases hi with
      | none => rfl
      | some y => simp [he y (by simp [Op.operands])]
    have h3 : mx.map e = mx.map e' := by
      cases mx with
      | none => rfl
      | some y => simp [he y (by simp [Op.operands])]
    rw [← h0, ← h1, ← h2, ← h3]
    exact h
  case pick c a b => simp only [qop] at h ⊢; rw [← he c (by simp [Op.operands]), ← he a (by simp [Op.operands]), ← he b (by simp [Op.operands])]; exact h
  case binOp op t x y t' => simp only [qop] at h ⊢; rw [← he x (by simp [Op.operands]), ← he y (by simp [Op.operands])]; exact h
  case indexAddr t x y => simp only [qop] at h ⊢; rw [← he x (by simp [Op.operands]), ← he y (by simp [Op.operands])]; exact h
  case index t x y => simp only [qop] at h ⊢; rw [← he x (by simp [Op.operands]), ← he y (by simp [Op.operands])]; exact h
  all_goals first
    | exact h.elim
    | (rename_i x; simp only [qop] at h ⊢; rw [← he x (by simp [Op.operands])]; exact h)
    | (rename_i x _; simp only [qop] at h ⊢; rw [← he x (by simp [Op.operands])]; exact h)
    | (rename_i x _ _; simp only [qop] at h ⊢; rw [← he x (by simp [Op.operands])]; exact h)

theorem opConvert_vst {P : Program} {s t : TypeId} {u : Value} {k : D → Prop} {st st' : St} (h : opConvert P s t (.v u) k st) : opConvert P s t (.v u) k st' := by
  unfold opConvert at *
  split at h <;> first
    | exact h
    | (rename_i heq; cases heq)
theorem opSlice_vst {P : Program} {t : TypeId} {lo hi mx : Option D} {u : Value} {k : D → Prop} {st st' : St} (h : opSlice P t (.v u) lo hi mx k st) : opSlice P t (.v u) lo hi mx k st' := by
  unfold opSlice at *
  obtain ⟨e, h1, h2, h⟩ := h
  refine ⟨e, h1, h2, ?_⟩
  split at h <;> first
    | exact h
    | (rename_i heq; cases heq)

theorem noRef_of_H {x : D} (hx : x.noRef = true) : (∀ i n, x ≠ .ref i n) ∧ (∀ i j n, x ≠ .adr i j n) ∧ ∀ i j n, x ≠ .sub i j n := ⟨(fun i n h => by subst h; cases hx), (fun i j n h => by subst h; cases hx), (fun i j n h => by subst h; cases hx)⟩

theorem opLenM_H {P : Program} {t : TypeId} {x : D} {k : D → Prop} {st st' : St} (hx : x.noRef = true) (h : opLenM P t x k st) : opLenM P t x k st' := by
  cases x
  case mp id => cases hx
  all_goals exact h
theorem qop_H {P : Program} {o : Oper} {e : Operand → D} {H H' : Nat → Option Own} {k : D → Prop} (he : ∀ x ∈ o.op.operands, (e x).noRef = true) (h : qop P o e H k) : qop P o e H' k := by
  obtain ⟨dst, op, ty, pos, af, g⟩ := o
  cases op
  case load t x =>
    have hx := noRef_of_H (he x (by simp [Op.operands]))
    simp only [qop] at h ⊢
    cases hv : e x
    case ref i n => exact absurd hv (hx.1 i n)
    case adr i j n => exact absurd hv (hx.2.1 i j n)
    case sub i j n => exact absurd hv (hx.2.2 i j n)
    all_goals (rw [hv] at h; exact h)
  case convert s t x =>
    have hx := noRef_of_H (he x (by simp [Op.operands]))
    simp only [qop] at h ⊢
    cases hv : e x
    case ref i n => exact absurd hv (hx.1 i n)
    case adr i j n => exact absurd hv (hx.2.1 i j n)
    case sub i j n => exact absurd hv (hx.2.2 i j n)
    case v u => rw [hv] at h; exact opConvert_vst h
    all_goals (rw [hv] at h; exact h)
  case slice t x lo hi mx =>
    have hx := noRef_of_H (he x (by simp [Op.operands]))
    simp only [qop] at h ⊢
    cases hv : e x
    case ref i n => exact absurd hv (hx.1 i n)
    case adr i j n => exact absurd hv (hx.2.1 i j n)
    case sub i j n => exact absurd hv (hx.2.2 i j n)
    case v u => rw [hv] at h; exact opSlice_vst h
    all_goals (rw [hv] at h; exact h)
  case indexAddr t x y =>
    have hx := noRef_of_H (he x (by simp [Op.operands]))
    simp only [qop] at h ⊢
    cases hv : e x
    case ref i n => exact absurd hv (hx.1 i n)
    case adr i j n => exact absurd hv (hx.2.1 i j n)
    case sub i j n => exact absurd hv (hx.2.2 i j n)
    all_goals (rw [hv] at h; exact h)
  case call c =>
    obtain ⟨cal, args, ts⟩ := c
    cases cal
    case builtin b =>
      cases b
      case len =>
        obtain ⟨l⟩ := args
        obtain ⟨l'⟩ := ts
        simp only [qop] at h ⊢
        match l, l', h, he with
        | [x], [t], h, he => exact opLenM_H (he x (by simp [Op.operands, Call.operands])) h
      all_goals exact h
    all_goals exact h
  all_goals exact h
end Go.VL

end
section
/- Regions that draw their order: what may be taken first. -/
namespace Go.VL
open Go Go.RowKit

theorem nilAsk_mono {P : Program} {op : BinOp} {t : TypeId} {x y : D} {k k' : D → Prop} (hk : ∀ d, k d → k' d) (h : nilAsk P op t x y k) : nilAsk P op t x y k' := by
  unfold nilAsk at *
  split at h
  · exact ⟨h.1, hk _ h.2⟩
  · exact ⟨h.1, hk _ h.2⟩
  · exact ⟨h.1, fun b hb => hk _ (h.2 b hb)⟩
  · exact ⟨h.1, fun b hb => hk _ (h.2 b hb)⟩
  · exact h.elim
theorem opBin_mono {P : Program} {op : BinOp} {t : TypeId} {x y : D} {k k' : D → Prop} (hk : ∀ d, k d → k' d) (h : opBin P op t x y k) : opBin P op t x y k' := by
  unfold opBin at *
  split at h
  · rename_i a b
    cases hab : abin P op t a b with
    | some r => simp only [hab] at h ⊢; exact hk _ h
    | none => simp only [hab] at h ⊢; exact nilAsk_mono hk h
  · exact nilAsk_mono hk h
theorem qop_mono {P : Program} {o : Oper} {e : Operand → D} {H : Nat → Option Own} {k k' : D → Prop} (hk : ∀ d, k d → k' d) (h : qop P o e H k) : qop P o e H k' := by
  by_cases hb : ∃ op t x y u, o.op = .binOp op t x y u
  · obtain ⟨op, t, x, y, u, ho⟩ := hb
    simp only [qop, ho] at h ⊢
    exact opBin_mono hk h
  · have hq : qok o e = true := by
      unfold qok
      split
      · rename_i ho; exact absurd ⟨_, _, _, _, _, ho⟩ hb
      · rfl
    obtain ⟨d, h1, h2⟩ := qop_det hq h
    exact h2 k' (hk d h1)

/-- Operations that may turn what is owned. -/
def loud (o : Oper) : Bool :=
  match o.op with
  | .alloc _ => true
  | .box .. => true
  | .buildSlice .. => true
  | .makeSlice .. => true
  | .store .. => true
  | .call ⟨.value _, _, _⟩ => true
  | .call ⟨.builtin .append, args, ts⟩ => args.size == 2 && ts.size == 2
  | .call ⟨.builtin .copy, args, ts⟩ => args.size == 2 && ts.size == 2
  | _ => false

theorem aopx_loud {P : Program} {o : Oper} (hq : loud o = true) {K K' : St → D → Prop} {t t' : Nat → D} {H : Nat → Option Own} {n : Nat} (hk : ∀ s d, Both K t t' n s d → K' s d) (he : ∀ x ∈ o.op.operands, (⟨t, H, n⟩ : St).ev x = (⟨t', H, n⟩ : St).ev x)
    (h : aopx P o K ⟨t, H, n⟩) : aopx P o K' ⟨t', H, n⟩ := by
  obtain ⟨dst, op, ty, pos, af, g⟩ := o
  cases op
  case alloc e => exact opAlloc_both hk h
  case box e x =>
    have := he x (by simp [Op.operands])
    exact (by rw [← this]; exact opBox_both hk h : opBox P e ((⟨t', H, n⟩ : St).ev x) (dstOf dst) K' ⟨t', H, n⟩)
  case buildSlice t1 len ps =>
    have hps : (ps.toList.map fun p => (p.1, (⟨t, H, n⟩ : St).ev p.2)) = ps.toList.map fun p => (p.1, (⟨t', H, n⟩ : St).ev p.2) :=
      List.map_congr_left fun p hp => by rw [he p.2 (by simp [Op.operands]; exact ⟨p.1, by simpa using hp⟩)]
    exact (by rw [← hps]; exact opBuildSliceM_both hk h : opBuildSliceM P t1 len (ps.toList.map fun p => (p.1, (⟨t', H, n⟩ : St).ev p.2)) (dstOf dst) K' ⟨t', H, n⟩)
  case makeSlice t1 l c =>
    have h1 := he l (by simp [Op.operands])
    have h2 := he c (by simp [Op.operands])
    exact (by rw [← h1, ← h2]; exact opMakeSlice_both hk h : opMakeSlice P t1 ((⟨t', H, n⟩ : St).ev l) ((⟨t', H, n⟩ : St).ev c) (dstOf dst) K' ⟨t', H, n⟩)
  case store t1 l c =>
    have h1 := he l (by simp [Op.operands])
    have h2 := he c (by simp [Op.operands])
    exact (by rw [← h1, ← h2]; exact opStore_both hk h : opStore P t1 ((⟨t', H, n⟩ : St).ev l) ((⟨t', H, n⟩ : St).ev c) (fun s => K' s .any) ⟨t', H, n⟩)
  case call c =>
    obtain ⟨cal, args, ts⟩ := c
    cases cal
    case value f =>
      have h1 := he f (by simp [Op.operands, Call.operands])
      have h2 : args.toList.map (⟨t, H, n⟩ : St).ev = args.toList.map (⟨t', H, n⟩ : St).ev := map_ev _ fun x hx => he x (by simp [Op.operands, Call.operands]; exact .inr (by simpa using hx))
      exact (by rw [← h1, ← h2]; exact opCall_both hk h : opCall P ((⟨t', H, n⟩ : St).ev f) (args.toList.map (⟨t', H, n⟩ : St).ev) (dstOf dst) K' ⟨t', H, n⟩)
    case builtin b =>
      cases b
      case append =>
        simp only [loud, Bool.and_eq_true, beq_iff_eq] at hq
        obtain ⟨l⟩ := args
        obtain ⟨l'⟩ := ts
        match l, l', hq, h, he with
        | [x, y], [t1, t2], _, h, he =>
          have h1 := he x (by simp [Op.operands, Call.operands])
          have h2 := he y (by simp [Op.operands, Call.operands])
          have h' : t1 = t2 ∧ opAppend P t1 ((⟨t, H, n⟩ : St).ev x) ((⟨t, H, n⟩ : St).ev y) (dstOf dst) K ⟨t, H, n⟩ := h
          rw [h1, h2] at h'
          exact (⟨h'.1, opAppend_both hk h'.2⟩ : t1 = t2 ∧ opAppend P t1 ((⟨t', H, n⟩ : St).ev x) ((⟨t', H, n⟩ : St).ev y) (dstOf dst) K' ⟨t', H, n⟩)
      case copy =>
        simp only [loud, Bool.and_eq_true, beq_iff_eq] at hq
        obtain ⟨l⟩ := args
        obtain ⟨l'⟩ := ts
        match l, l', hq, h, he with
        | [x, y], [t1, t2], _, h, he =>
          have h1 := he x (by simp [Op.operands, Call.operands])
          have h2 := he y (by simp [Op.operands, Call.operands])
          have h' : opCopy P t1 ((⟨t, H, n⟩ : St).ev x) ((⟨t, H, n⟩ : St).ev y) K ⟨t, H, n⟩ := h
          rw [h1, h2] at h'
          exact (opCopy_both hk h' : opCopy P t1 ((⟨t', H, n⟩ : St).ev x) ((⟨t', H, n⟩ : St).ev y) K' ⟨t', H, n⟩)
      all_goals exact absurd hq (by simp [loud])
    all_goals exact absurd hq (by simp [loud])
  all_goals exact absurd hq (by simp [loud])

/-- How a state s comes of st by an operation that writes dst. -/
structure Ext (dst : Option Tmp) (q : Bool) (st s : St) : Prop where
  n : s.n = st.n
  keep : ∀ k, dst ≠ some k → (st.t k).noRef = true → s.t k = st.t k
  same : q = true → s.H = st.H ∧ ∀ k, dst ≠ some k → s.t k = st.t k

theorem put_t_ne {st : St} {dst : Option Tmp} {x : D} {k : Nat} (h : dst ≠ some k) : (st.put dst x).t k = st.t k := by
  cases dst with
  | none => rfl
  | some d => exact upd_ne _ _ _ _ (fun e => h (by rw [e]))
theorem put_H' {st : St} {dst : Option Tmp} {x : D} : (st.put dst x).H = st.H := by cases dst <;> rfl
theorem put_n' {st : St} {dst : Option Tmp} {x : D} : (st.put dst x).n = st.n := by cases dst <;> rfl
theorem put_comm {st : St} {a b : Option Tmp} {x y : D} (h : ∀ d, a = some d → b ≠ some d) : (st.put a x).put b y = (st.put b y).put a x := by
  cases a with
  | none => rfl
  | some i =>
    cases b with
    | none => rfl
    | some j =>
      have hne : j ≠ i := fun e => h i rfl (by rw [e])
      simp only [St.put]
      congr 1
      funext k
      by_cases hi : k = i
      · subst hi; rw [upd_ne _ _ _ _ (Ne.symm hne), upd_same, upd_same]
      · by_cases hj : k = j
        · subst hj; rw [upd_same, upd_ne _ _ _ _ hne, upd_same]
        · rw [upd_ne _ _ _ _ hj, upd_ne _ _ _ _ hi, upd_ne _ _ _ _ hi, upd_ne _ _ _ _ hj]

theorem ev_of_t {s s' : St} {x : Operand} (h : ∀ k, x = .tmp k → s.t k = s'.t k) : s.ev x = s'.ev x := by
  cases x with
  | tmp k => exact h k rfl
  | _ => rfl

section
variable {P : Program} {ops : Array Oper}

theorem looks_operand {o : Oper} {k : Tmp} (h : Operand.tmp k ∈ o.op.operands) : k ∈ o.looksAt ops :=
  List.mem_append_left _ (List.mem_filterMap.2 ⟨.tmp k, by simpa using h, rfl⟩)
theorem looks_guard {o : Oper} {g : Nat} {want : Bool} {d : Tmp} (hg : o.guard = some (g, want)) (h : guardOf ops.toList g = some d) : d ∈ o.looksAt ops := by
  refine List.mem_append_right _ ?_
  rw [hg]
  have h' : (ops[g]?).bind (·.dst) = some d := by simpa [guardOf] using h
  simp [h']

/-- An operation that another has nothing to do with: the other's slot may be written first. -/
theorem opA_swap {oi oj : Oper} {K K' : St → Prop} {st : St} {d : D} (hK' : ∀ s, K (s.put oi.dst d) ∧ Ext oj.dst (quiet oj) st s → K' s) (hap : oi.apart ops oj = true) (hcl : quiet oj = true ∨ loud oj = true) (hd : d.noRef = true ∨ quiet oj = true)
    (h : opA P ops.toList oj K (st.put oi.dst d)) : opA P ops.toList oj K' st := by
  obtain ⟨h1, h2, h3⟩ := Oper.apart_spec hap
  have hop : ∀ x ∈ oj.op.operands, (st.put oi.dst d).ev x = st.ev x := fun x hx => ev_of_t fun k hk => by
    subst hk
    exact put_t_ne fun e => h1 k e (looks_operand hx)
  have hok : okDst (st.put oi.dst d) oj.dst → okDst st oj.dst := by
    unfold okDst; rw [put_n']; exact id
  have hmain : aop P oj K (st.put oi.dst d) → aop P oj K' st := by
    rintro ⟨ha, hb⟩
    refine ⟨hok ha, ?_⟩
    by_cases hq : quiet oj = true
    · rw [aopx_quiet hq] at hb ⊢
      rw [put_H'] at hb
      refine qop_mono (fun x hx => ?_) (qop_ev hop hb)
      refine hK' _ ⟨by rw [put_comm fun e he h' => h2 e h' he]; exact hx, ?_⟩
      exact ⟨put_n', fun k hk _ => put_t_ne hk, fun _ => ⟨put_H', fun k hk => put_t_ne hk⟩⟩
    · have hl := hcl.resolve_left hq
      have hnd := hd.resolve_right hq
      have e1 : st.put oi.dst d = ⟨(st.put oi.dst d).t, st.H, st.n⟩ := by
        conv => lhs; rw [show st.put oi.dst d = ⟨(st.put oi.dst d).t, (st.put oi.dst d).H, (st.put oi.dst d).n⟩ from rfl]
        rw [put_H', put_n']
      rw [e1] at hb
      refine aopx_loud (t' := st.t) hl ?_ (fun x hx => by
        have := hop x hx
        rw [e1] at this
        exact this) hb
      rintro s x ⟨τ, k1, k2, k3, k4⟩
      have e2 : s.put oj.dst x = ⟨(s.put oj.dst x).t, s.H, st.n⟩ := by
        conv => lhs; rw [show s.put oj.dst x = ⟨(s.put oj.dst x).t, (s.put oj.dst x).H, (s.put oj.dst x).n⟩ from rfl]
        rw [put_H', put_n', k3]
      refine hK' _ ⟨?_, by rw [put_n', k3], fun k hk hn => ?_, fun h => absurd h hq⟩
      · have e3 : (s.put oj.dst x).put oi.dst d = (⟨τ ∘ (st.put oi.dst d).t, s.H, s.n⟩ : St).put oj.dst x := by
          rw [put_comm fun e he h' => h2 e h' he]
          congr 1
          cases hdi : oi.dst with
          | none =>
            obtain ⟨s1, s2, s3⟩ := s
            simp only [St.put] at k2 ⊢
            rw [k2]
          | some i =>
            simp only [St.put]
            congr 1
            rw [k2]
            funext k
            by_cases hk : k = i
            · subst hk; simp [upd_same, k1 d hnd]
            · simp [upd_ne _ _ _ _ hk]
        rw [e3]; exact k4
      · rw [put_t_ne hk, k2]
        exact k1 _ hn
  unfold opA at h ⊢
  split at h
  · exact hmain h
  · rename_i g want hg
    obtain ⟨dg, g1, g2, b, g3, g4, g5⟩ := h
    refine ⟨dg, g1, by rw [put_n'] at g2; exact g2, b, ?_, fun hb => hmain (g4 hb), fun hb => ?_⟩
    · rw [put_t_ne fun e => h1 dg e (looks_guard hg g1)] at g3; exact g3
    · obtain ⟨g6, g7⟩ := g5 hb
      exact ⟨hok g6, hK' _ ⟨by rw [put_comm fun e he h' => h2 e h' he]; exact g7, put_n', fun k hk _ => put_t_ne hk, fun _ => ⟨put_H', fun k hk => put_t_ne hk⟩⟩⟩

/-- In this state a quiet operation leaves d. -/
def Gives (P : Program) (ops : Array Oper) (o : Oper) (d : D) (st : St) : Prop :=
  okDst st o.dst ∧ match o.guard with
  | none => qop P o st.ev st.H (· = d)
  | some (j, want) => ∃ g, guardOf ops.toList j = some g ∧ g < st.n ∧ ∃ b, gB want (st.t g) b ∧ (b = want → qop P o st.ev st.H (· = d)) ∧ (b ≠ want → d = .tup [])

theorem Gives.use {o : Oper} {d : D} {st : St} {K : St → Prop} (hq : quiet o = true) (h : Gives P ops o d st) (hK : K (st.put o.dst d)) : opA P ops.toList o K st := by
  obtain ⟨h1, h2⟩ := h
  have key : qop P o st.ev st.H (· = d) → aop P o K st := fun hx => ⟨h1, by rw [aopx_quiet hq]; exact qop_mono (fun x hx => by subst hx; exact hK) hx⟩
  unfold opA
  split
  · rename_i hg
    rw [hg] at h2
    exact key h2
  · rename_i j want hg
    rw [hg] at h2
    obtain ⟨g, g1, g2, b, g3, g4, g5⟩ := h2
    exact ⟨g, g1, g2, b, g3, fun hb => key (g4 hb), fun hb => ⟨h1, by rw [← g5 hb]; exact hK⟩⟩

theorem Gives.of {o : Oper} {st : St} {K : St → Prop} (hq : quiet o = true) (hn : qok o st.ev = true) (h : opA P ops.toList o K st) : ∃ d, Gives P ops o d st ∧ K (st.put o.dst d) := by
  have key : aop P o K st → ∃ d, okDst st o.dst ∧ qop P o st.ev st.H (· = d) ∧ K (st.put o.dst d) := by
    rintro ⟨h1, h2⟩
    rw [aopx_quiet hq] at h2
    obtain ⟨d, h3, h4⟩ := qop_det hn h2
    exact ⟨d, h1, h4 _ rfl, h3⟩
  unfold opA at h
  split at h
  · rename_i hg
    obtain ⟨d, h1, h2, h3⟩ := key h
    exact ⟨d, ⟨h1, by rw [hg]; exact h2⟩, h3⟩
  · rename_i j want hg
    obtain ⟨g, g1, g2, b, g3, g4, g5⟩ := h
    by_cases hb : b = want
    · obtain ⟨d, h1, h2, h3⟩ := key (g4 hb)
      exact ⟨d, ⟨h1, by rw [hg]; exact ⟨g, g1, g2, b, g3, fun _ => h2, fun h => absurd hb h⟩⟩, h3⟩
    · obtain ⟨h1, h2⟩ := g5 hb
      exact ⟨.tup [], ⟨h1, by rw [hg]; exact ⟨g, g1, g2, b, g3, fun h => absurd h hb, fun _ => rfl⟩⟩, h2⟩

/-- All that it looks at names nothing owned. -/
def plain (o : Oper) (st : St) : Bool := o.op.operands.toList.all fun x => (st.ev x).noRef

theorem Gives.ext {oi oj : Oper} {d : D} {st s : St} (hap : oi.apart ops oj = true) (hr : plain oi st = true ∨ quiet oj = true) (he : Ext oj.dst (quiet oj) st s) (h : Gives P ops oi d st) : Gives P ops oi d s := by
  obtain ⟨a1, a2, a3⟩ := Oper.apart_spec hap
  obtain ⟨h1, h2⟩ := h
  have hev : ∀ x ∈ oi.op.operands, st.ev x = s.ev x := fun x hx => ev_of_t fun k hk => by
    subst hk
    have hne : oj.dst ≠ some k := fun e => a3 k e (looks_operand hx)
    rcases hr with hr | hr
    · have : (st.ev (.tmp k)).noRef = true := by
        simp only [plain, List.all_eq_true] at hr
        exact hr _ (by simpa using hx)
      exact (he.keep k hne this).symm
    · exact ((he.same hr).2 k hne).symm
  have hq : qop P oi st.ev st.H (· = d) → qop P oi s.ev s.H (· = d) := fun hx => by
    rcases hr with hr | hr
    · have hpl : ∀ x ∈ oi.op.operands, (s.ev x).noRef = true := fun x hx => by
        rw [← hev x hx]
        simp only [plain, List.all_eq_true] at hr
        exact hr _ (by simpa using hx)
      exact qop_H hpl (qop_ev hev hx)
    · rw [(he.same hr).1]
      exact qop_ev hev hx
  refine ⟨by unfold okDst at *; rw [he.n]; exact h1, ?_⟩
  split
  · rename_i hg
    rw [hg] at h2
    exact hq h2
  · rename_i j want hg
    rw [hg] at h2
    obtain ⟨g, g1, g2, b, g3, g4, g5⟩ := h2
    refine ⟨g, g1, by rw [he.n]; exact g2, b, ?_, fun hb => hq (g4 hb), g5⟩
    have hne : oj.dst ≠ some g := fun e => a3 g e (looks_guard hg g1)
    rw [he.keep g hne g3.noRef]
    exact g3

theorem plain_ext {oi oj : Oper} {st s : St} (hap : oi.apart ops oj = true) (he : Ext oj.dst (quiet oj) st s) (h : plain oi st = true) : plain oi s = true := by
  obtain ⟨a1, a2, a3⟩ := Oper.apart_spec hap
  simp only [plain, List.all_eq_true] at *
  intro x hx
  have := h x hx
  rw [← ev_of_t (s := st) (s' := s) (x := x) fun k hk => ?_]
  · exact this
  · subst hk
    exact (he.keep k (fun e => a3 k e (looks_operand (by simpa using hx))) this).symm

/-- **A quiet operation that may come up now may be taken first.** W: those that wait for it. -/
theorem anyA_first {i : Nat} {oi : Oper} {d : D} {K : St → Prop} {rob : Bool} {W : Nat → Prop} (hi : ops[i]? = some oi) (hq : quiet oi = true) :
    ∀ (fuel : Nat) (listed : Array Bool) (st : St),
      (∀ j, W j → listed.getD j true = false ∧ ∃ oj, ops[j]? = some oj ∧ ∃ e ∈ oj.after, Region.binds .any e = true ∧ (e.on = i ∨ W e.on)) →
      (∀ j oj, ops[j]? = some oj → j ≠ i → listed.getD j true = false → ¬ W j → oi.apart ops oj = true ∧ (quiet oj = true ∨ loud oj = true) ∧ (rob = true ∨ quiet oj = true)) →
      i ∈ Region.ready .any ops listed → Gives P ops oi d st → (rob = true → plain oi st = true ∧ d.noRef = true) →
      anyA P ops K fuel (listed.setIfInBounds i true) (st.put oi.dst d) → anyA P ops K (fuel + 1) listed st := by
  intro fuel
  induction fuel with
  | zero =>
    intro listed st _ _ hr hy _ H
    refine ⟨fun h => (by rw [h] at hr; cases hr), fun j hj o ho => ?_⟩
    by_cases hji : j = i
    · subst hji
      rw [hi] at ho; cases ho
      exact hy.use hq H
    · have := ready_mono hj hji
      rw [H.1] at this
      cases this
  | succ fuel ih =>
    intro listed st hW hfree hr hy hrob H
    refine ⟨fun h => (by rw [h] at hr; cases hr), fun j hj o ho => ?_⟩
    by_cases hji : j = i
    · subst hji
      rw [hi] at ho; cases ho
      exact hy.use hq H
    · have h1 := H.2 j (ready_mono hj hji) o ho
      obtain ⟨hjun, oj, hoj, hall⟩ := mem_ready.1 hj
      rw [ho] at hoj; cases hoj
      have hin : ∀ m, listed.getD m true = false → listed.getD m false = true → False := fun m h h' => by
        rcases Nat.lt_or_ge m listed.size with h2 | h2
        · simp [h2] at h h'; rw [h] at h'; cases h'
        · simp [Array.getElem?_eq_none h2] at h
      have hnW : ¬ W j := fun hw => by
        obtain ⟨_, o', ho', e, he, hb, hon⟩ := hW j hw
        rw [ho] at ho'; cases ho'
        have hl := hall e he hb
        rcases hon with rfl | hon
        · exact hin _ (mem_ready.1 hr).1 hl
        · exact hin _ (hW _ hon).1 hl
      obtain ⟨f1, f2, f3⟩ := hfree j o ho hji hjun hnW
      have hd : d.noRef = true ∨ quiet o = true := f3.imp (fun h => (hrob h).2) id
      have hkey : ∀ s, (anyA P ops K fuel ((listed.setIfInBounds i true).setIfInBounds j true) (s.put oi.dst d) ∧ Ext o.dst (quiet o) st s) → anyA P ops K (fuel + 1) (listed.setIfInBounds j true) s := by
        rintro s ⟨k1, k2⟩
        refine ih (listed.setIfInBounds j true) s (fun m hm => ?_) (fun m om hm hmi hun hnw => ?_) (ready_mono hr (Ne.symm hji)) (hy.ext f1 (f3.imp (fun h => (hrob h).1) id) k2) (fun h => ⟨plain_ext f1 k2 (hrob h).1, (hrob h).2⟩) ?_
        · obtain ⟨g1, g2⟩ := hW m hm
          have hne : j ≠ m := fun e => hnW (e ▸ hm)
          exact ⟨by rw [getD_set_ne true hne]; exact g1, g2⟩
        · have hne : j ≠ m := fun e => by
            subst e
            have hlt : j < listed.size := by
              rcases Nat.lt_or_ge j listed.size with h' | h'
              · exact h'
              · simp [Array.getElem?_eq_none h'] at hjun
            simp [hlt] at hun
          exact hfree m om hm hmi (by rw [getD_set_ne true hne] at hun; exact hun) hnw
        · rw [Array.setIfInBounds_comm _ _ hji]; exact k1
      exact opA_swap hkey f1 f2 hd h1
end
end Go.VL

end
section
/- Regions that draw their order: a schedule that serves. -/
namespace Go.VL
open Go Go.RowKit

inductive Sch where
  | done
  | one (rob : Bool) (i : Nat) (s : Sch)
  | only (i : Nat) (s : Sch)
  | two (i j : Nat) (s s' : Sch)

/-- Those that wait for i. -/
def waits (ops : Array Oper) (listed : Array Bool) (i : Nat) : Nat → Array Bool → Array Bool
  | 0, W => W
  | f + 1, W => waits ops listed i f ((List.range ops.size).foldl (fun W j => match ops[j]? with
    | some o => if !listed.getD j true && o.after.any (fun e => Region.binds .any e && (e.on == i || W.getD e.on false)) then W.setIfInBounds j true else W
    | none => W) W)

def waitsOK (ops : Array Oper) (listed : Array Bool) (i : Nat) (W : Array Bool) : Bool :=
  W.size == ops.size && (List.range ops.size).all fun j => !W.getD j false || (!listed.getD j true && match ops[j]? with
    | some o => o.after.any fun e => Region.binds .any e && (e.on == i || W.getD e.on false)
    | none => false)

def freeOK (ops : Array Oper) (listed : Array Bool) (rob : Bool) (i : Nat) (oi : Oper) (W : Array Bool) : Bool :=
  (List.range ops.size).all fun j => j == i || listed.getD j true || W.getD j false || match ops[j]? with
    | some o => oi.apart ops o && (quiet o || loud o) && (rob || quiet o)
    | none => true

/-- What the slot that was written names. -/
def robDst (o : Oper) (s : St) : Bool := match o.dst with | some k => (s.t k).noRef | none => false

def schK (P : Program) (ops : Array Oper) (K : St → Prop) : Sch → St → Prop
  | .done, st => K st
  | .one rob i s, st => ∃ o, ops[i]? = some o ∧ qok o st.ev = true ∧ (rob = true → plain o st = true) ∧ opA P ops.toList o (fun s' => (rob = true → robDst o s' = true) ∧ schK P ops K s s') st
  | .only i s, st => ∃ o, ops[i]? = some o ∧ opA P ops.toList o (schK P ops K s) st
  | .two i j s s', st => (∃ o, ops[i]? = some o ∧ opA P ops.toList o (schK P ops K s) st) ∧ ∃ o, ops[j]? = some o ∧ opA P ops.toList o (schK P ops K s') st

theorem opA_mono {P : Program} {ops : Array Oper} {o : Oper} {K K' : St → Prop} {st : St} (hK : ∀ s, K s → K' s) (h : opA P ops.toList o K st) (hcl : quiet o = true ∨ loud o = true) : opA P ops.toList o K' st := by
  have key : aop P o K st → aop P o K' st := by
    rintro ⟨h1, h2⟩
    refine ⟨h1, ?_⟩
    rcases hcl with hq | hl
    · rw [aopx_quiet hq] at h2 ⊢
      exact qop_mono (fun x hx => hK _ hx) h2
    · refine aopx_loud (t := st.t) (t' := st.t) (n := st.n) (H := st.H) hl ?_ (fun _ _ => rfl) h2
      rintro s x ⟨τ, k1, k2, k3, k4⟩
      have : s = ⟨τ ∘ st.t, s.H, s.n⟩ := by
        obtain ⟨a, b, c⟩ := s
        simp only at k2
        rw [k2]
      rw [this]
      exact hK _ k4
  unfold opA at *
  split at h
  · exact key h
  · obtain ⟨g, g1, g2, b, g3, g4, g5⟩ := h
    exact ⟨g, g1, g2, b, g3, fun hb => key (g4 hb), fun hb => ⟨(g5 hb).1, hK _ (g5 hb).2⟩⟩

def allKnown (l : List Oper) : Bool := l.all fun o => quiet o || loud o

-- the walk's rules
def op1I (P : Program) (o : Oper) (st : St) [all : KL] [K : KN] : Prop := opA P all.l o K.f st
def schI (P : Program) (s : Sch) (st : St) [all : KL] [K : KN] : Prop := schK P all.l.toArray K.f s st

section
variable {P : Program} {st : St} {all : KL} {K : KN} {i j : Nat} {s s' : Sch}
theorem schI_done : @schI P .done st all K = K.f st := (rfl)
theorem opA_ops {o : Oper} {K : St → Prop} : opA P all.l.toArray.toList o K st = @op1I P o st all ⟨K⟩ := (rfl)
theorem op1I_plain {dst : Option Tmp} {op : Op} {ty : TypeId} {pos : String} {af : Array Edge} :
    @op1I P ⟨dst, op, ty, pos, af, none⟩ st all K = (okDst st dst ∧ @opI P ⟨dst, op, ty, pos, af, none⟩ st ⟨fun s x => K.f (s.put dst x)⟩) := (rfl)
theorem op1I_guard {dst : Option Tmp} {op : Op} {ty : TypeId} {pos : String} {af : Array Edge} {j : Nat} {want : Bool} :
    @op1I P ⟨dst, op, ty, pos, af, some (j, want)⟩ st all K = @guardI (guardOf all.l j) st want
      ⟨okDst st dst ∧ @opI P ⟨dst, op, ty, pos, af, some (j, want)⟩ st ⟨fun s x => K.f (s.put dst x)⟩⟩ ⟨okDst st dst ∧ K.f (st.put dst (.tup []))⟩ := opA_guard
theorem schI_one : @schI P (.one false i s) st all K = @bindI _ (all.l[i]?) ⟨fun o => @reqI (qok o st.ev = true) ⟨@op1I P o st all ⟨fun s' => @schI P s s' all K⟩⟩⟩ := by
  apply propext
  simp only [bindI, bindP_eq, reqI, schI, schK, ← opA_ops, Bool.false_eq_true, false_implies, true_and, List.getElem?_toArray]
theorem schI_rob : @schI P (.one true i s) st all K = @bindI _ (all.l[i]?) ⟨fun o => @reqI (qok o st.ev = true) ⟨@reqI (plain o st = true) ⟨@op1I P o st all ⟨fun s' => @reqI (robDst o s' = true) ⟨@schI P s s' all K⟩⟩⟩⟩⟩ := by
  apply propext
  simp only [bindI, bindP_eq, reqI, schI, schK, ← opA_ops, true_implies, List.getElem?_toArray]
theorem schI_only : @schI P (.only i s) st all K = @bindI _ (all.l[i]?) ⟨fun o => @op1I P o st all ⟨fun s' => @schI P s s' all K⟩⟩ := by
  apply propext
  simp only [bindI, bindP_eq, schI, schK, ← opA_ops, List.getElem?_toArray]
end

theorem opBinI_isNil {P : Program} {t : TypeId} {l : List D} {K : KD} (h : sliceT P t = true) (hk : ∀ b : Bool, (b = true → l = []) → K.f (.v (.bool b))) : @opBinI P .eql t (.lst l) (.v (.slice none 0 0)) K := ⟨h, hk⟩
theorem ints_isNil {k : IntKind} {l : List Int} : (ints k l = []) = (l = []) := by cases l <;> simp [ints]
def baseStep (o : Option Own) (e : TypeId) (S r n : Nat) : Option (Nat × List D) :=
  match o with
  | some o => if n = o.els.length ∧ o.S = S ∧ o.e = e then some (r, o.els) else none
  | none => none
theorem baseD_ref {e : TypeId} {S r n id : Nat} {st : St} : baseD e S st id (.ref r n) = baseStep (st.H r) e S r n := (rfl)
theorem baseStep_some {e e' : TypeId} {S S' r n : Nat} {els : List D} : baseStep (some ⟨e', S', els⟩) e S r n = if n = els.length ∧ S' = S ∧ e' = e then some (r, els) else none := (rfl)
def itemsStep (o : Option Own) (S n : Nat) : Option (List D) :=
  match o with
  | some o => if n ≤ o.els.length ∧ o.S = S then some (o.els.take n) else none
  | none => none
theorem itemsD_ref {S r n : Nat} {st : St} : itemsD S st (.ref r n) = itemsStep (st.H r) S n := (rfl)
theorem itemsStep_some {e' : TypeId} {S S' n : Nat} {els : List D} : itemsStep (some ⟨e', S', els⟩) S n = if n ≤ els.length ∧ S' = S then some (els.take n) else none := (rfl)

def itemsStepS (o : Option Own) (S lo n : Nat) : Option (List D) :=
  match o with
  | some o => if lo + n ≤ o.els.length ∧ o.S = S then some ((o.els.drop lo).take n) else none
  | none => none
theorem itemsD_sub {S r lo n : Nat} {st : St} : itemsD S st (.sub r lo n) = itemsStepS (st.H r) S lo n := (rfl)
theorem itemsStepS_some {e' : TypeId} {S S' lo n : Nat} {els : List D} : itemsStepS (some ⟨e', S', els⟩) S lo n = if lo + n ≤ els.length ∧ S' = S then some ((els.drop lo).take n) else none := (rfl)
theorem putAt_def {l ys : List D} {lo : Nat} : putAt l lo ys = l.take lo ++ ys ++ l.drop (lo + ys.length) := (rfl)
theorem width_sub {i b n : Nat} : (D.sub i b n).width = 1 := (rfl)
theorem storable_sub {i b n : Nat} : (D.sub i b n).storable = true := (rfl)

theorem width_v {x : Value} : (D.v x).width = 1 := (rfl)
theorem width_lst {l : List D} : (D.lst l).width = 1 := (rfl)
theorem width_nil0 : D.nil0.width = 1 := (rfl)
theorem width_ref {i n : Nat} : (D.ref i n).width = 1 := (rfl)
theorem width_adr {i n m : Nat} : (D.adr i n m).width = 1 := (rfl)
theorem width_ptr {d : D} : (D.ptr d).width = 1 := (rfl)
theorem width_clos {f : Fn} {l : List D} : (D.clos f l).width = 1 := (rfl)
theorem width_agg {l : List D} : (D.agg l).width = l.length := (rfl)
theorem storable_int {k : IntKind} {n : Int} : (D.v (.int k n)).storable = true := (rfl)
theorem storable_bool {b : Bool} : (D.v (.bool b)).storable = true := (rfl)
theorem storable_str {s : ByteArray} : (D.v (.string s)).storable = true := (rfl)
theorem storable_slice {a : Option Addr} {n c : Nat} : (D.v (.slice a n c)).storable = true := (rfl)
theorem storable_lst {l : List D} : (D.lst l).storable = true := (rfl)
theorem storable_nil0 : D.nil0.storable = true := (rfl)
theorem storable_ref {i n : Nat} : (D.ref i n).storable = true := (rfl)
theorem storable_adr {i n m : Nat} : (D.adr i n m).storable = true := (rfl)
theorem storable_ptr {d : D} : (D.ptr d).storable = true := (rfl)
theorem storable_clos {f : Fn} {l : List D} : (D.clos f l).storable = true := (rfl)
theorem storable_agg {l : List D} : (D.agg l).storable = true := (rfl)

end Go.VL

end
section
/- From a function's contract to a row. -/
namespace Go.VL
open Go Go.RowKit

theorem Fun.calls {P : Program} {f : FuncId} {args : List D} (h : Fun P f args fun r => r = .v (.bool true)) (J : Nat → Prop) (w : World) (vs : List Value) (hJ : ∀ b, J b → b < w.heap.size) (hv : RelPs J w args vs) (hG : GlobAt J w := by intro p hp; cases hp) :
    Calls P f vs.toArray w fun e w' => e = .returned (.bool true) ∧ Below w.heap.size w w' := by
  refine (h.2 J w vs hJ hG hv).mono ?_
  rintro e w' ⟨y, r, rfl, rfl, hb, hy⟩
  obtain ⟨rfl, _⟩ := hy
  exact ⟨rfl, hb⟩

theorem RelPs.nil {J : Nat → Prop} {w : World} : RelPs J w [] [] := rfl
theorem RelPs.cons {J : Nat → Prop} {w : World} {d : D} {ds : List D} {y : Value} {ys : List Value} (h : RelP J w d y) (hs : RelPs J w ds ys) : RelPs J w (d :: ds) (y :: ys) := ⟨y, ys, rfl, h, hs⟩
theorem RelP.int {J : Nat → Prop} {w : World} {k : IntKind} {n : Int} : RelP J w (.v (.int k n)) (.int k n) := ⟨rfl, rfl⟩

/-- A list of numbers that came in. -/
theorem RelP.ints_nil {J : Nat → Prop} {w : World} {k : IntKind} : RelP J w (.lst (ints k [])) (.slice none 0 0) :=
  ⟨none, 0, [], rfl, Nat.le_refl _, Nat.zero_le _, Nat.zero_le _, fun _ => rfl, rfl, .inl rfl⟩
/-- All blocks that there are. -/
def Olds (w : World) (b : Nat) : Prop := b < w.heap.size
theorem cells_ints (k : IntKind) (l : List Int) : ((l.map (Value.int k)).flatMap fun x => x.cells.toList) = l.map (Value.int k) := by
  induction l with
  | nil => rfl
  | cons x l ih => rw [List.map_cons, List.flatMap_cons, ih]; rfl
theorem RelPs_ints {J : Nat → Prop} {w : World} (k : IntKind) : ∀ l : List Int, RelPs J w (ints k l) (l.map fun n => Value.int k n)
  | [] => rfl
  | n :: l => ⟨_, _, rfl, ⟨rfl, rfl⟩, RelPs_ints k l⟩
theorem RelP.ints {J : Nat → Prop} {w : World} {k : IntKind} {a : Addr} {len cap : Nat} {zs : List Int} (hl : len ≤ cap) (hc : cap ≤ maxLen) (hz : zs.length = cap) (hcell : ∀ i, i < zs.length → w.cell? (a.add i) = some (.int k (zs.getD i 0))) (hJ : 0 < len → J a.block) : RelP J w (.lst (VL.ints k (zs.take len))) (.slice (some a) len cap) := by
  have hlen : (VL.ints k (zs.take len)).length = len := by rw [ints_length]; simp; omega
  refine ⟨some a, cap, (zs.take len).map fun n => Value.int k n, by rw [hlen], by rw [hlen]; exact hl, hc, by rw [hlen]; exact Nat.le_trans hl hc, (fun h => by cases h), RelPs_ints k _, ?_⟩
  rw [cells_ints]
  by_cases h0 : len = 0
  · left; subst h0; simp
  · right
    have h1 := hcell 0 (by omega)
    obtain ⟨b, off, spot⟩ := a
    have hs : spot = none := by simpa [Addr.add] using World.cell?_spot h1
    subst hs
    refine ⟨b, off, rfl, hJ (by omega), fun j u hu => ?_⟩
    rw [List.getElem?_map, List.getElem?_take] at hu
    split at hu
    · have hj : j < zs.length := by omega
      rw [List.getElem?_eq_getElem hj] at hu
      simp only [Option.map_some, Option.some.injEq] at hu
      subst hu
      have := hcell j hj
      have e : (⟨b, off, none⟩ : Addr).add j = ⟨b, off + j, none⟩ := by
        unfold Addr.add
        split
        · rename_i h; subst h; simp
        · rfl
      rw [e] at this
      simpa [List.getD, hj] using this
    · cases hu

-- the words of a program's head
def joinW : List (List Char) → List Char
  | [] => []
  | [w] => w
  | w :: v :: r => w ++ (Char.ofNat 32) :: joinW (v :: r)
theorem ws_cons {c : Char} {r w : List Char} {ws : List (List Char)} (hc : c ≠ (Char.ofNat 32)) (h : wordsSigns r = w :: ws) : wordsSigns (c :: r) = (c :: w) :: ws := by
  conv => lhs; unfold wordsSigns
  split
  · rename_i heq; cases heq
  · rename_i heq; cases heq; exact absurd rfl hc
  · rename_i c' r' _ heq
    cases heq
    rw [h]
theorem ws_word : ∀ (w r : List Char), (w.all fun c => c != (Char.ofNat 32)) = true → wordsSigns (w ++ (Char.ofNat 32) :: r) = w :: wordsSigns r
  | [], r, _ => rfl
  | c :: w, r, h => by
    simp only [List.all_cons, Bool.and_eq_true, bne_iff_ne, ne_eq] at h
    exact ws_cons h.1 (ws_word w r h.2)
theorem ws_last : ∀ (w : List Char), (w.all fun c => c != (Char.ofNat 32)) = true → wordsSigns w = [w]
  | [], _ => rfl
  | c :: w, h => by
    simp only [List.all_cons, Bool.and_eq_true, bne_iff_ne, ne_eq] at h
    exact ws_cons h.1 (ws_last w h.2)
theorem ws_join : ∀ (l : List (List Char)), l ≠ [] → (l.all fun w => w.all fun c => c != (Char.ofNat 32)) = true → wordsSigns (joinW l) = l
  | [], h, _ => absurd rfl h
  | [w], _, h => ws_last w (by simpa using h)
  | w :: v :: r, _, h => by
    rw [List.all_cons, Bool.and_eq_true] at h
    show wordsSigns (w ++ (Char.ofNat 32) :: joinW (v :: r)) = _
    rw [ws_word w _ h.1, ws_join (v :: r) (by simp) h.2]

theorem mayEnter_of {P : Program} {w r : List (List Char)} (h : wordsSigns P.initOrder.toList = w) (hb : behindMainWord w = [(Char.ofNat 99), (Char.ofNat 117), (Char.ofNat 116)] :: r) (hs : stripLifts liftWords ([(Char.ofNat 99), (Char.ofNat 117), (Char.ofNat 116)] :: r) = ([], [(Char.ofNat 99), (Char.ofNat 117), (Char.ofNat 116)] :: r))
    (h1 : P.laysLater = false) (h2 : P.bearsReflect = false) (h3 : P.doorFits [] = true) : P.mayEnter = true := by
  unfold Program.mayEnter; rw [h, hb]
  have n1 : (([(Char.ofNat 99), (Char.ofNat 117), (Char.ofNat 116)] : List Char) == "gc".toList) = false := by decide
  have n2 : (([(Char.ofNat 99), (Char.ofNat 117), (Char.ofNat 116)] : List Char) == "spec".toList) = false := by decide
  have n4 : (([(Char.ofNat 99), (Char.ofNat 117), (Char.ofNat 116)] : List Char) == "carried".toList) = false := by decide
  simp only [n1, n2, n4, hs, h1, h2, h3, List.head?_cons, Bool.false_and, Bool.or_false, Bool.false_or, Bool.not_false, Bool.or_true, Bool.and_true]
  decide
theorem make_of {P : Program} {w r : List (List Char)} (h : wordsSigns P.initOrder.toList = w) (hb : behindMainWord w = [(Char.ofNat 99), (Char.ofNat 117), (Char.ofNat 116)] :: r) : P.make = some .cut := by
  unfold Program.make; rw [h, hb]
  have n1 : (([(Char.ofNat 99), (Char.ofNat 117), (Char.ofNat 116)] : List Char) == "gc".toList) = false := by decide
  have n2 : (([(Char.ofNat 99), (Char.ofNat 117), (Char.ofNat 116)] : List Char) == "spec".toList) = false := by decide
  have n3 : (([(Char.ofNat 99), (Char.ofNat 117), (Char.ofNat 116)] : List Char) == "cut".toList) = true := by decide
  simp only [n1, n2, n3, Bool.false_or, Bool.true_or, Bool.false_eq_true, if_false, if_true]

theorem joined_of {P : Program} {f : FuncId} {fn : Func} {s : ChangeSpec} {c : OpenClaim} (h0 : c.wf (OpenSpec.ofChange s) = true) (h1 : laidOutB P = true) (h2 : mapsRowed P = true) (h3 : fn.params.all (P.readableRec ·) = true) (h4 : namedTie P c.named s.vars = true) (h5 : (c.stops == []) = true) (h6 : (P.stops == []) = true) (h7 : (c.knobs == []) = true) (h8 : (P.stopKnobs == []) = true) (h9 : (c.inPlace == P.inPlace f) = true) (h10 : (c.unfollowed == P.unfollowed f) = true) (h11 : (c.recurses == P.recurses f) = true) (h12 : (c.named == P.varsNamed f) = true) (h13 : (c.maps == (fn.params.toList ++ s.plain.varTypes P).any (P.mapsRec ·)) = true) (h14 : (c.ifaces == (fn.params.toList ++ s.plain.varTypes P).any (P.ifacesRec ·)) = true) (h15 : (c.mapsOut == P.mapsAmong fn.resultTypes.toList) = true) (h16 : (c.loops == (fn.params.toList ++ s.plain.varTypes P).any (P.loopsFrom ·)) = true) (h17 : (c.wideKeys == (fn.params.toList ++ s.plain.varTypes P ++ fn.resultTypes.toList).any (P.wideKeysFrom ·)) = true) (h18 : s.vars.all (P.varReadable ·) = true) (h19 : fn.resultTypes.all (fun t => P.readableRec t && decide (t < P.types.size)) = true) (h20 : (c.ifacesOut == fn.resultTypes.toList.any (P.ifacesRec ·)) = true) (h21 : (c.loopsOut == fn.resultTypes.toList.any (P.loopsFrom ·)) = true) (h22 : (c.plainKeys == P.plainKeys) = true) (h23 : c.shortTexts.isNone = true) (h24 : P.stopsHeard = true) (h25 : P.mayEnter = true) (h26 : P.liftsFinal = c.lifted) (h27 : P.make = some c.make) (h28 : c.domain.isEmpty = true) (h28k : c.kinds = []) (h29 : (c.pinned == c.pinnedBy) = true) (h30 : (c.veiled == (fn.params.toList ++ s.plain.varTypes P ++ fn.resultTypes.toList).any (P.veiledRec ·)) = true) (h31 : c.veiledFits P fn.params.toList (fn.params.toList ++ s.plain.varTypes P ++ fn.resultTypes.toList) = true) : joinedFacts P f fn s c = true := by
  unfold joinedFacts
  rw [h26, h27, h28k, h0, h1, h2, h3, h4, h5, h6, h7, h8, h9, h10, h11, h12, h13, h14, h15, h16, h17, h18, h19, h20, h21, h22, h23, h24, h25, h28, h29, h30, h31]
  simp
end Go.VL

end
section
/- Aids for the walks: tests told as propositions, loops with what stays as it was, calls and returns. -/
namespace Go.VL
open Go Go.RowKit

theorem condI_dec {c : Prop} [Decidable c] {p q : KP} (h1 : c → decide c = true → p.f) (h2 : ¬ c → decide c = false → q.f) : @condI (.v (.bool (decide c))) p q :=
  condI_split (fun h => h1 (of_decide_eq_true h) h) (fun h => h2 (of_decide_eq_false h) h)
theorem condI_beq {α : Type} [BEq α] [LawfulBEq α] {a b : α} {p q : KP} (h1 : a = b → (a == b) = true → p.f) (h2 : a ≠ b → (a == b) = false → q.f) : @condI (.v (.bool (a == b))) p q :=
  condI_split (fun h => h1 (eq_of_beq h) h) (fun h => h2 (by simpa using h) h)
theorem condI_bne {α : Type} [BEq α] [LawfulBEq α] {a b : α} {p q : KP} (h1 : a ≠ b → (a != b) = true → p.f) (h2 : a = b → (a != b) = false → q.f) : @condI (.v (.bool (a != b))) p q :=
  condI_split (fun h => h1 (by simpa using h) h) (fun h => h2 (by simpa using h) h)
theorem condI_not {b : Bool} {p q : KP} : @condI (.v (.bool (!b))) p q = @condI (.v (.bool b)) q p := by
  cases b <;> simp [condI_true, condI_false]
theorem condI_b {b : Bool} {p q : KP} (h1 : b = true → p.f) (h2 : b = false → q.f) : @condI (.v (.bool b)) p q := ⟨h1, h2⟩
theorem reqI_t {p : Prop} {q : KP} (h : p) : @reqI p q = q.f := by simp [reqI, h]

/-- Slots that are as they were in another state. -/
def KeepS (s s0 : St) : List Nat → Prop
  | [] => True
  | j :: l => s.t j = s0.t j ∧ KeepS s s0 l
def KeepH (s s0 : St) : List Nat → Prop
  | [] => True
  | j :: l => s.H j = s0.H j ∧ KeepH s s0 l
theorem KeepS_nil {s s0 : St} : KeepS s s0 [] = True := (rfl)
theorem KeepS_cons {s s0 : St} {j : Nat} {l : List Nat} : KeepS s s0 (j :: l) = (s.t j = s0.t j ∧ KeepS s s0 l) := (rfl)
theorem KeepH_nil {s s0 : St} : KeepH s s0 [] = True := (rfl)
theorem KeepH_cons {s s0 : St} {j : Nat} {l : List Nat} : KeepH s s0 (j :: l) = (s.H j = s0.H j ∧ KeepH s s0 l) := (rfl)
theorem KeepS_refl (s : St) : ∀ l, KeepS s s l
  | [] => trivial
  | _ :: l => ⟨rfl, KeepS_refl s l⟩
theorem KeepH_refl (s : St) : ∀ l, KeepH s s l
  | [] => trivial
  | _ :: l => ⟨rfl, KeepH_refl s l⟩

/-- What holds at a loop's head, of a state that x tells. -/
def AtL {σ : Type} (V : σ → List (Nat × D)) (W : σ → List (Nat × Own)) (keep hkeep : List Nat) (s0 : St) (x : σ) (s : St) : Prop :=
  s.n = s0.n ∧ Slots s (V x) ∧ Heaps s (W x) ∧ KeepS s s0 keep ∧ KeepH s s0 hkeep

def AgainW {σ : Type} (μ : σ → Nat) (Q : σ → Prop) (V : σ → List (Nat × D)) (W : σ → List (Nat × Own)) (keep hkeep : List Nat) (s0 : St) (x : σ) (s : St) : Prop :=
  ∃ x' s', μ x' < μ x ∧ Q x' ∧ Weak s s' ∧ AtL V W keep hkeep s0 x' s'
/-- The same, out of simp's sight. -/
def AgI (s : St) [K : KN] : Prop := K.f s
theorem AgainW.to {σ : Type} {μ : σ → Nat} {Q : σ → Prop} {V : σ → List (Nat × D)} {W : σ → List (Nat × Own)} {keep hkeep : List Nat} {s0 : St} {x : σ} {s : St} (x' : σ) (h : μ x' < μ x) (hQ : Q x')
    (hs : AtL V W keep hkeep s0 x' s) : @AgI s ⟨AgainW μ Q V W keep hkeep s0 x⟩ := ⟨x', s, h, hQ, Weak.refl _, hs⟩
theorem AgainW.weak {σ : Type} {μ : σ → Nat} {Q : σ → Prop} {V : σ → List (Nat × D)} {W : σ → List (Nat × Own)} {keep hkeep : List Nat} {s0 : St} {x : σ} {s s' : St} (x' : σ) (hw : Weak s s') (h : μ x' < μ x) (hQ : Q x')
    (hs : AtL V W keep hkeep s0 x' s') : @AgI s ⟨AgainW μ Q V W keep hkeep s0 x⟩ := ⟨x', s', h, hQ, hw, hs⟩

/-- A loop: what x tells of the slots that a round writes; what is kept; a measure. -/
theorem awpI_while {P : Program} {c : Code} {N R : KN} {X : KX} {st : St} {σ : Type} (μ : σ → Nat) (Q : σ → Prop) (V : σ → List (Nat × D)) (W : σ → List (Nat × Own)) (keep hkeep : List Nat) (x0 : σ) (s0 : St) (hw : Weak st s0)
    (hQ : Q x0) (hV : Slots s0 (V x0)) (hW : Heaps s0 (W x0))
    (hr : ∀ x s, Q x → AtL V W keep hkeep s0 x s → @awpI P c s ⟨fun s => @AgI s ⟨AgainW μ Q V W keep hkeep s0 x⟩⟩ X R) : @awpI P (.loop c) st N X R := by
  refine awpI_loop (fun n s => ∃ x, n = μ x ∧ Q x ∧ AtL V W keep hkeep s0 x s) (μ x0) s0 hw ⟨x0, rfl, hQ, rfl, hV, hW, KeepS_refl _ _, KeepH_refl _ _⟩ ?_
  rintro n s ⟨x, rfl, hq, hs⟩
  have key : @awpI P c s ⟨AgainW μ Q V W keep hkeep s0 x⟩ X R := hr x s hq hs
  have e : (AgainW μ Q V W keep hkeep s0 x) = fun s' => ∃ m s'', m < μ x ∧ Weak s' s'' ∧ ∃ x', m = μ x' ∧ Q x' ∧ AtL V W keep hkeep s0 x' s'' := by
    funext s'
    apply propext
    constructor
    · rintro ⟨x', s'', h1, h2, h3, h4⟩; exact ⟨μ x', s'', h1, h3, x', rfl, h2, h4⟩
    · rintro ⟨m, s'', h1, h3, x', rfl, h2, h4⟩; exact ⟨x', s'', h1, h2, h3, h4⟩
  rw [e] at key
  exact key

/-- A loop that counts up to n. -/
theorem awpI_for {P : Program} {c : Code} {N R : KN} {X : KX} {st : St} (n : Nat) (Q : Nat → Prop) (V : Nat → List (Nat × D)) (W : Nat → List (Nat × Own)) (keep hkeep : List Nat) (s0 : St) (hw : Weak st s0)
    (hQ : Q 0) (hV : Slots s0 (V 0)) (hW : Heaps s0 (W 0))
    (hr : ∀ k s, k ≤ n → Q k → AtL V W keep hkeep s0 k s → @awpI P c s ⟨fun s => @AgI s ⟨AgainW (fun k => n - k) (fun k => k ≤ n ∧ Q k) V W keep hkeep s0 k⟩⟩ X R) : @awpI P (.loop c) st N X R :=
  awpI_while (fun k => n - k) (fun k => k ≤ n ∧ Q k) V W keep hkeep 0 s0 hw ⟨Nat.zero_le _, hQ⟩ hV hW fun k s hq hs => hr k s hq.1 hq.2 hs
theorem Again.up {n : Nat} {Q : Nat → Prop} {V : Nat → List (Nat × D)} {W : Nat → List (Nat × Own)} {keep hkeep : List Nat} {s0 : St} {k : Nat} {s : St} (h : k < n) (hQ : Q (k + 1))
    (hs : AtL V W keep hkeep s0 (k + 1) s) : @AgI s ⟨AgainW (fun k => n - k) (fun k => k ≤ n ∧ Q k) V W keep hkeep s0 k⟩ := ⟨k + 1, s, by show n - (k + 1) < n - k; omega, ⟨h, hQ⟩, Weak.refl _, hs⟩

section
variable {P : Program} {st : St} {KS : KSD} {id : Nat}
end

section
variable {P : Program} {st : St} {KS : KSD} {id : Nat}
/-- A call that only looks at what is owned: its result is plain. -/
theorem opCallI_rd {g : FuncId} {caps args as : List D} {R : D → Prop} (h : @bindI _ (frzAll (D.idss (args ++ caps)) st (args ++ caps)) ⟨fun p => D.noRefs p.2 = true ∧ D.nrms p.2 = as⟩) (hf : Fun P g as R)
    (hfl : ∀ r, R r → r.flat = true) (hk : ∀ r, R r → KS.f st r) : @opCallI P (.clos (.func g) caps) args id st KS := by
  unfold bindI at h
  rw [bindP_eq] at h
  obtain ⟨p, h1, h2, h3⟩ := h
  refine opCallI_of h1 h2 (h3 ▸ hf) fun r hr => ?_
  rw [if_pos (hfl r hr)]
  exact hk r hr
/-- A call that is given what is owned. -/
theorem opCallI_gv {g : FuncId} {caps args as : List D} {st' : St} {R : D → Prop} (h : @bindI _ (frzAll (D.idss (args ++ caps)) st (args ++ caps)) ⟨fun p => D.noRefs p.2 = true ∧ D.nrms p.2 = as ∧ p.1 = st'⟩) (hf : Fun P g as R)
    (hk : ∀ r, R r → KS.f (if r.flat then st else st') r) : @opCallI P (.clos (.func g) caps) args id st KS := by
  unfold bindI at h
  rw [bindP_eq] at h
  obtain ⟨p, h1, h2, h3, h4⟩ := h
  refine opCallI_of h1 h2 (h3 ▸ hf) fun r hr => ?_
  have := hk r hr
  rw [h4]; exact this
theorem opCallI_ownGv {g : FuncId} {caps args as : List D} {st' : St} {R : D → Option Own → Prop} (h : @bindI _ (frzAll (D.idss (args ++ caps)) st (args ++ caps)) ⟨fun p => D.noRefs p.2 = true ∧ D.nrms p.2 = as ∧ p.1 = st'⟩) (hf : FunO P g as R)
    (hk : ∀ r o, R r o → match o with | none => KS.f st' r | some o => KS.f ((st'.killed id).obj id o) (r.ren id)) : @opCallI P (.clos (.func g) caps) args id st KS := by
  unfold bindI at h
  rw [bindP_eq] at h
  obtain ⟨p, h1, h2, h3, h4⟩ := h
  subst h4
  exact opCallI_own h1 h2 (h3 ▸ hf) hk
end

/-- A result, handed over as what it is: owned where it is one owned list. -/
def retO (st : St) (ds : List D) (R : D → Option Own → Prop) : List Nat → Prop
  | [] => D.noRefs ds = true ∧ R (pack ds) none
  | id :: l => (∀ i ∈ l, i = id) ∧ ∃ o, st.H id = some o ∧ D.noRefs o.els = true ∧ R (pack (D.rens 0 ds)) (some o)
theorem RetO_calc {P : Program} {fn : Func} {R : D → Option Own → Prop} {st : St} {rs : List ResultVar} (h : fn.results = rs.toArray)
    (hr : @bindI _ (resDs P st rs) ⟨fun ds => retO st ds R (D.idss ds)⟩) : RetO P fn R st := by
  unfold bindI at hr
  rw [bindP_eq] at hr
  obtain ⟨ds, h1, h2⟩ := hr
  have h2 : retO st ds R (D.idss ds) := h2
  cases hi : D.idss ds with
  | nil =>
    rw [hi] at h2
    obtain ⟨h3, h4⟩ := h2
    exact RetO_plain h h1 (st, ds) (by rw [hi]; rfl) h3 h4
  | cons id l =>
    rw [hi] at h2
    obtain ⟨h3, o, h4, h5, h6⟩ := h2
    refine RetO_own h h1 id o h4 h5 [] (st, ds) rfl h4 ?_ h6
    rw [hi]
    intro i hm
    rcases List.mem_cons.1 hm with h | h
    · exact h
    · exact h3 i h
/-- Objects as they are at a return. -/
def takeH (st : St) : List (Nat × Nat) → (List Own → Prop) → Prop
  | [], K => K []
  | q :: l, K => @bindI _ (st.H q.2) ⟨fun o => @reqI (D.noRefs o.els = true) ⟨takeH st l fun os => K (o :: os)⟩⟩
theorem takeH_cons {st : St} {q : Nat × Nat} {l : List (Nat × Nat)} {K : List Own → Prop} : takeH st (q :: l) K = @bindI _ (st.H q.2) ⟨fun o => @reqI (D.noRefs o.els = true) ⟨takeH st l fun os => K (o :: os)⟩⟩ := (rfl)
theorem takeH_nil {st : St} {K : List Own → Prop} : takeH st [] K = K [] := (rfl)
def ghostOk (st : St) (ls : Nat → Loc) : List (Nat × Nat) → Prop
  | [] => True
  | q :: l => st.t q.1 = .loc q.2 (ls q.2) ∧ ghostOk st ls l
theorem ghostOk_cons {st : St} {ls : Nat → Loc} {q : Nat × Nat} {l : List (Nat × Nat)} : ghostOk st ls (q :: l) = (st.t q.1 = .loc q.2 (ls q.2) ∧ ghostOk st ls l) := (rfl)
theorem ghostOk_nil {st : St} {ls : Nat → Loc} : ghostOk st ls [] = True := (rfl)
theorem retO_nil {R : D → Option Own → Prop} {st : St} {ds : List D} : retO st ds R [] = (D.noRefs ds = true ∧ R (pack ds) none) := (rfl)
theorem retO_cons {R : D → Option Own → Prop} {st : St} {ds : List D} {id : Nat} {l : List Nat} : retO st ds R (id :: l) = ((∀ i ∈ l, i = id) ∧ @bindI _ (st.H id) ⟨fun o => @reqI (D.noRefs o.els = true) ⟨R (pack (D.rens 0 ds)) (some o)⟩⟩) := by
  simp only [bindI, bindP_eq, reqI, retO]

theorem condI_dec_t {c : Prop} [Decidable c] {p q : KP} (h : c) : @condI (.v (.bool (decide c))) p q = p.f := by rw [decide_eq_true h, condI_true]
theorem condI_dec_f {c : Prop} [Decidable c] {p q : KP} (h : ¬ c) : @condI (.v (.bool (decide c))) p q = q.f := by rw [decide_eq_false h, condI_false]
theorem condI_beq_t {a b : Int} {p q : KP} (h : a = b) : @condI (.v (.bool (a == b))) p q = p.f := by subst h; rw [beq_self_eq_true, condI_true]
theorem condI_beq_f {a b : Int} {p q : KP} (h : ¬ a = b) : @condI (.v (.bool (a == b))) p q = q.f := by rw [beq_eq_false_iff_ne.2 h, condI_false]
theorem condI_bne_t {a b : Int} {p q : KP} (h : ¬ a = b) : @condI (.v (.bool (a != b))) p q = p.f := by rw [bne_iff_ne.2 h, condI_true]
theorem condI_bne_f {a b : Int} {p q : KP} (h : a = b) : @condI (.v (.bool (a != b))) p q = q.f := by subst h; rw [bne_self_eq_false, condI_false]
theorem elt_ints {K : IntKind} {l : List Int} {i : Nat} (h : i < l.length) : (ints K l)[i]? = some (.v (.int K (l.getD i 0))) := ints_get h
theorem elt_rows {K : IntKind} {l : List (List Int)} {i : Nat} (h : i < l.length) : (rows K l)[i]? = some (.lst (ints K (l.getD i []))) := rows_get h
theorem tdiv_pos {a b : Int} (h : 0 ≤ a) : a.tdiv b = a / b := Int.tdiv_eq_ediv_of_nonneg h
theorem tmod_pos {a b : Int} (h : 0 ≤ a) : a.tmod b = a % b := Int.tmod_eq_emod_of_nonneg h
theorem setPart_vv {a b : Value} : setPart (.v a) 0 (.v b) = some (.v b) := (rfl)
theorem setPart_vl {a : Value} {l : List D} : setPart (.v a) 0 (.lst l) = some (.lst l) := (rfl)
theorem setPart_vr {a : Value} {i n : Nat} : setPart (.v a) 0 (.ref i n) = some (.ref i n) := (rfl)
theorem setPart_ll {l m : List D} : setPart (.lst m) 0 (.lst l) = some (.lst l) := (rfl)
theorem setPart_lr {l : List D} {i n : Nat} : setPart (.lst l) 0 (.ref i n) = some (.ref i n) := (rfl)
theorem setPart_rr {j m i n : Nat} : setPart (.ref j m) 0 (.ref i n) = some (.ref i n) := (rfl)
theorem setPart_rl {j m : Nat} {l : List D} : setPart (.ref j m) 0 (.lst l) = some (.lst l) := (rfl)
theorem setPart_lv {l : List D} {a : Value} : setPart (.lst l) 0 (.v a) = some (.v a) := (rfl)
theorem setPart_av {l : List D} {o : Nat} {b : Value} : setPart (.agg l) o (.v b) = if o < l.length then some (.agg (l.set o (.v b))) else none := (rfl)
theorem setPart_al {l m : List D} {o : Nat} : setPart (.agg l) o (.lst m) = if o < l.length then some (.agg (l.set o (.lst m))) else none := (rfl)
theorem setPart_ar {l : List D} {o i n : Nat} : setPart (.agg l) o (.ref i n) = if o < l.length then some (.agg (l.set o (.ref i n))) else none := (rfl)
theorem setPart_aa {l m : List D} {o : Nat} : setPart (.agg l) o (.agg m) = if o + m.length ≤ l.length then some (.agg (l.take o ++ m ++ l.drop (o + m.length))) else none := (rfl)
theorem vdec_t {c : Prop} [Decidable c] (h : c) : D.v (.bool (decide c)) = D.v (.bool true) := by rw [decide_eq_true h]
theorem vdec_f {c : Prop} [Decidable c] (h : ¬ c) : D.v (.bool (decide c)) = D.v (.bool false) := by rw [decide_eq_false h]
theorem vbeq_t {a b : Int} (h : a = b) : D.v (.bool (a == b)) = D.v (.bool true) := by subst h; rw [beq_self_eq_true]
theorem vbeq_f {a b : Int} (h : ¬ a = b) : D.v (.bool (a == b)) = D.v (.bool false) := by rw [beq_eq_false_iff_ne.2 h]
theorem vbne_t {a b : Int} (h : ¬ a = b) : D.v (.bool (a != b)) = D.v (.bool true) := by rw [bne_iff_ne.2 h]
theorem vbne_f {a b : Int} (h : a = b) : D.v (.bool (a != b)) = D.v (.bool false) := by subst h; rw [bne_self_eq_false]
section
variable {x y : D}
theorem pick_dec_t {c : Prop} [Decidable c] (h : c) : (if decide c = true then x else y) = x := by rw [if_pos (decide_eq_true h)]
theorem pick_dec_f {c : Prop} [Decidable c] (h : ¬ c) : (if decide c = true then x else y) = y := by rw [if_neg (by simp [h])]
theorem pick_beq_t {a b : Int} (h : a = b) : (if (a == b) = true then x else y) = x := by subst h; simp
theorem pick_beq_f {a b : Int} (h : ¬ a = b) : (if (a == b) = true then x else y) = y := by simp [h]
theorem pick_bne_t {a b : Int} (h : ¬ a = b) : (if (a != b) = true then x else y) = x := by simp [h]
theorem pick_bne_f {a b : Int} (h : a = b) : (if (a != b) = true then x else y) = y := by simp [h]
end
theorem upd_t {f : Nat → D} {j k : Nat} {x : D} : upd f j x k = if k = j then x else f k := (rfl)
theorem nat_succ {k : Nat} : ((k : Int) + 1) = ((k + 1 : Nat) : Int) := rfl
end Go.VL

end
