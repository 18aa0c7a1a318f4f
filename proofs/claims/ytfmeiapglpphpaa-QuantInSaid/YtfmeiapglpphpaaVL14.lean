import Derived.Test.YtfmeiapglpphpaaVL13
/- What the operations ask, one thing behind another. -/
namespace Go.VL
open Go Go.RowKit

def bindP {α : Type} (o : Option α) (k : α → Prop) : Prop :=
  match o with
  | some x => k x
  | none => False
theorem bindP_some {α : Type} {x : α} {k : α → Prop} : bindP (some x) k = k x := (rfl)
theorem bindP_none {α : Type} {k : α → Prop} : bindP none k = False := (rfl)
@[congr] theorem bindP_congr {α : Type} {o o' : Option α} {k : α → Prop} (h : o = o') : bindP o k = bindP o' k := by rw [h]
theorem bindP_eq {α : Type} {o : Option α} {k : α → Prop} : bindP o k = ∃ x, o = some x ∧ k x := by
  apply propext
  cases o <;> simp [bindP]
theorem bindP_of {α : Type} {o : Option α} {k : α → Prop} {x : α} (h : o = some x) (hk : k x) : bindP o k := by rw [h]; exact hk

def reqP (p q : Prop) : Prop := p ∧ q
theorem reqP_true {q : Prop} : reqP True q = q := by simp [reqP]
@[congr] theorem reqP_congr {p p' q : Prop} (h : p = p') : reqP p q = reqP p' q := by rw [h]
theorem reqP_of {p q : Prop} (hp : p) (hq : q) : reqP p q := ⟨hp, hq⟩

section
variable {P : Program} {t u : TypeId} {K : D → Prop} {KS : St → D → Prop} {st : St} {x y d : D} {l xs : List D} {id i o n : Nat}

theorem opPick_eq {b : Bool} : opPick (.v (.bool b)) x y K = K (if b then x else y) := by simp [opPick]

theorem opAlloc_eq : opAlloc P t id KS st = bindP (zeroT P t) fun z => reqP ((D.ofVal z).storable = true ∧ (D.ofVal z).width = P.cellsOf t ∧ 0 < P.cellsOf t) (KS ((st.killed id).obj id ⟨t, P.cellsOf t, [D.ofVal z]⟩) (.adr id 0 0)) := by
  rw [bindP_eq]; simp [opAlloc, reqP, and_assoc]
theorem opBox_eq : opBox P t x id KS st = reqP (x.storable = true ∧ x.width = P.cellsOf t ∧ 0 < P.cellsOf t) (KS ((st.killed id).obj id ⟨t, P.cellsOf t, [x.kill id]⟩) (.adr id 0 0)) := by
  simp [opBox, reqP, and_assoc]

def aggOf : D → Option (List D)
  | .agg l => some l
  | _ => none
theorem opBuild_eq {pl : List (Nat × D)} : opBuild P t pl K = reqP (fieldsOK P t = true) (bindP (placesT P t) fun p => bindP (zeroT P t) fun z => bindP (aggOf (D.ofVal z)) fun zs => bindP (fillD p zs pl) fun r => K (.agg r)) := by
  simp only [bindP_eq, opBuild, reqP]
  have : ∀ z zs, aggOf (D.ofVal z) = some zs ↔ D.ofVal z = .agg zs := by
    intro z zs
    cases D.ofVal z <;> simp [aggOf]
  simp only [this]
theorem opBuildSlice_eq {pl : List (Nat × D)} : opBuildSlice P t n pl id KS st = bindP (elT P t) fun e => reqP (0 < P.cellsOf e ∧ n * P.cellsOf e ≤ 16777216 ∧ pl.length = n ∧ inOrder 0 pl = true ∧ (∀ p ∈ pl, p.2.storable = true ∧ p.2.width = P.cellsOf e ∧ p.2.noRef = true) ∧ (zeroT P e).isSome = true)
    (if n = 0 then KS ((st.killed id).obj id ⟨e, P.cellsOf e, []⟩) (.ref id 0) else KS st (.lst (pl.map (·.2)))) := by
  simp only [bindP_eq, opBuildSlice, reqP, and_assoc]

theorem opLoad_ptr : opLoad P t (.ptr d) K st = reqP (okT P t = true ∧ d.width = P.cellsOf t) (bindP (partOf d 0 (P.cellsOf t) (aggT P t)) K) := by
  simp only [bindP_eq, opLoad, reqP, and_assoc]
theorem opLoad_adr : opLoad P t (.adr id i o) K st = bindP (st.H id) fun ob => bindP (ob.els[i]?) fun d => reqP (okT P t = true ∧ d.width = ob.S) (bindP (partOf d o (P.cellsOf t) (aggT P t)) K) := by
  simp only [bindP_eq, opLoad, reqP, and_assoc]
theorem opStore_adr {K : St → Prop} : opStore P t (.adr id i o) x K st = bindP (st.H id) fun ob => bindP (ob.els[i]?) fun d => reqP (okT P t = true ∧ d.width = ob.S ∧ x.storable = true ∧ x.width = P.cellsOf t) (bindP (setPart d o x) fun d' => K (st.obj id { ob with els := ob.els.set i d' })) := by
  simp only [bindP_eq, opStore, reqP, and_assoc]
theorem opNilCheck_ptr : opNilCheck (.ptr d) K = K (.ptr d) := (rfl)
theorem opNilCheck_adr : opNilCheck (.adr id i o) K = K (.adr id i o) := (rfl)

theorem opUn_neg {k : IntKind} {a : Int} : opUn .neg (.v (.int k a)) K = K (.v (.int k (k.wrap (0 - a)))) := (rfl)
theorem opUn_xor {k : IntKind} {a : Int} : opUn .xor (.v (.int k a)) K = K (.v (.int k (abits .xor k (if k.signed then -1 else k.max) a))) := (rfl)
theorem opUn_not {b : Bool} : opUn .not (.v (.bool b)) K = K (.v (.bool (!b))) := (rfl)

theorem opConvert_int {k k' : IntKind} {a : Int} (h : (P.underlying t).isSome = true) (h2 : intT P u = some k') : opConvert P t u (.v (.int k a)) K st = K (.v (.int k' (k'.wrap a))) := by
  simp [opConvert, h, h2]
theorem opConvert_flt {k : IntKind} {f : FloatKind} {a : Int} (h : (P.underlying t).isSome = true) (h2 : intT P u = none) (h3 : fltT P u = some f) : opConvert P t u (.v (.int k a)) K st = K (.v (.float f (f.nearest a))) := by
  simp [opConvert, h, h2, h3]
theorem opConvert_lst : opConvert P t u (.lst l) K st = bindP (elT P t) fun e => reqP (intT P e = some .u8 ∧ strT P u = true) (bindP (bytesOf l) fun ns => K (.v (.string (strOfNums ns)))) := by
  simp only [bindP_eq, opConvert, reqP, and_assoc]
theorem opConvert_nil : opConvert P t u (.v (.slice none 0 0)) K st = bindP (elT P t) fun e => reqP (intT P e = some .u8 ∧ strT P u = true) (K (.v (.string (strOfNums [])))) := by
  simp only [bindP_eq, opConvert, reqP, and_assoc]
theorem opConvert_nil0 : opConvert P t u .nil0 K st = bindP (elT P t) fun e => reqP (intT P e = some .u8 ∧ strT P u = true) (K (.v (.string (strOfNums [])))) := by
  simp only [bindP_eq, opConvert, reqP, and_assoc]
theorem opConvert_ref : opConvert P t u (.ref id n) K st = bindP (elT P t) fun e => reqP (intT P e = some .u8 ∧ strT P u = true) (bindP (st.H id) fun ob => reqP (ob.S = 1 ∧ n ≤ ob.els.length) (bindP (bytesOf (ob.els.take n)) fun ns => K (.v (.string (strOfNums ns))))) := by
  simp only [bindP_eq, opConvert, reqP, and_assoc]

theorem opMakeSlice_eq {k k' : IntKind} {a b : Int} : opMakeSlice P t (.v (.int k a)) (.v (.int k' b)) id KS st = bindP (elT P t) fun e => reqP (0 < P.cellsOf e) (reqP (a = b ∧ 0 ≤ a ∧ a * P.bytesOf e ≤ 140737488355328 ∧ a ≤ capMax) (bindP (zeroT P e) fun z => reqP ((D.ofVal z).storable = true ∧ (D.ofVal z).width = P.cellsOf e)
    (KS ((st.killed id).obj id ⟨e, P.cellsOf e, List.replicate a.toNat (D.ofVal z)⟩) (.ref id a.toNat)))) := by
  simp only [bindP_eq, opMakeSlice, reqP, and_assoc]

theorem opSlice_lst {lo hi : Option D} : opSlice P t (.lst l) lo hi none K st = bindP (elT P t) fun e => reqP (0 < P.cellsOf e ∧ ∀ d ∈ l, d.width = P.cellsOf e ∧ d.storable = true) (bindP (bndD lo 0) fun i => bindP (bndD hi l.length) fun j => reqP (0 ≤ i ∧ i ≤ j ∧ j ≤ l.length) (K (.lst ((l.take j.toNat).drop i.toNat)))) := by
  simp only [bindP_eq, opSlice, reqP, and_assoc]
theorem opSlice_lst3 {lo hi : Option D} {m : D} : opSlice P t (.lst l) lo hi (some m) K st = bindP (elT P t) fun e => reqP (0 < P.cellsOf e ∧ ∀ d ∈ l, d.width = P.cellsOf e ∧ d.storable = true) (bindP (bndD lo 0) fun i => bindP (bndD hi l.length) fun j => reqP (0 ≤ i ∧ i ≤ j ∧ j ≤ l.length ∧ hi.isSome = true) (bindP (intD m) fun k => reqP (j ≤ k ∧ k ≤ l.length) (if k = i then K .nil0 else K (.lst ((l.take j.toNat).drop i.toNat))))) := by
  simp only [bindP_eq, opSlice, reqP, and_assoc]
theorem opSlice_ref {lo hi : Option D} : opSlice P t (.ref id n) lo hi none K st = bindP (elT P t) fun e => reqP (0 < P.cellsOf e) (bindP (bndD lo 0) fun i => reqP (i = 0) (bindP (bndD hi n) fun j => reqP (0 ≤ j ∧ j ≤ n) (bindP (st.H id) fun ob => reqP (n ≤ ob.els.length) (K (.ref id j.toNat))))) := by
  simp only [bindP_eq, opSlice, reqP, and_assoc, Option.isNone_none, true_and]
  apply propext
  constructor
  · rintro ⟨e, h1, h2, i, h3, h4, j, h5, h6, h7, ⟨ob, h8, h9⟩, h10⟩
    exact ⟨e, h1, h2, i, h3, h4, j, h5, h6, h7, ob, h8, h9, h10⟩
  · rintro ⟨e, h1, h2, i, h3, h4, j, h5, h6, h7, ob, h8, h9, h10⟩
    exact ⟨e, h1, h2, i, h3, h4, j, h5, h6, h7, ⟨ob, h8, h9⟩, h10⟩
theorem opSlice_nil {lo hi : Option D} : opSlice P t (.v (.slice none 0 0)) lo hi none K st = bindP (elT P t) fun e => reqP (0 < P.cellsOf e) (bindP (bndD lo 0) fun i => reqP (i = 0) (bindP (bndD hi 0) fun j => reqP (j = 0) (K (.v (.slice none 0 0))))) := by
  simp only [bindP_eq, opSlice, reqP, Option.isNone_none, true_and]
theorem bndD_none {z : Int} : bndD none z = some z := (rfl)
theorem bndD_some {z i : Int} {k : IntKind} : bndD (some (.v (.int k i))) z = some i := (rfl)
theorem intD_int {i : Int} {k : IntKind} : intD (.v (.int k i)) = some i := (rfl)

theorem opFieldAddr_adr {f : Nat} : opFieldAddr P t (.adr id i o) f K = bindP (fieldT P t f) fun fl => reqP (okT P fl.type = true) (K (.adr id i (o + fl.offset))) := by
  simp only [bindP_eq, opFieldAddr, reqP]
theorem opFieldAddr_ptr {f : Nat} : opFieldAddr P t (.ptr d) f K = bindP (fieldT P t f) fun fl => reqP (okT P fl.type = true) (bindP (partOf d fl.offset (P.cellsOf fl.type) (aggT P fl.type)) fun r => reqP (r.width = P.cellsOf fl.type ∧ (aggT P fl.type = false → r.isAgg = false ∧ r.storable = true)) (K (.ptr r))) := by
  simp only [bindP_eq, opFieldAddr, reqP, and_assoc]
theorem opField_agg {f : Nat} : opField P t (.agg l) f K = bindP (fieldT P t f) fun fl => reqP (okT P fl.type = true) (bindP (partOf (.agg l) fl.offset (P.cellsOf fl.type) (aggT P fl.type)) K) := by
  simp only [bindP_eq, opField, reqP]

theorem opIndexAddr_lst {k : IntKind} {a : Int} : opIndexAddr P t (.lst l) (.v (.int k a)) K st = bindP (elT P t) fun e => reqP (0 < P.cellsOf e ∧ ∀ d ∈ l, d.width = P.cellsOf e ∧ d.storable = true) (reqP (0 ≤ a ∧ a < l.length) (bindP (l[a.toNat]?) fun d => K (.ptr d))) := by
  simp only [bindP_eq, opIndexAddr, reqP, and_assoc]
  apply propext
  constructor
  · rintro ⟨e, h1, h2, h3, h4, h5, d, h6, h7⟩; exact ⟨e, h1, h4, h5, h2, h3, d, h6, h7⟩
  · rintro ⟨e, h1, h4, h5, h2, h3, d, h6, h7⟩; exact ⟨e, h1, h2, h3, h4, h5, d, h6, h7⟩
theorem opIndexAddr_ref {k : IntKind} {a : Int} : opIndexAddr P t (.ref id n) (.v (.int k a)) K st = bindP (elT P t) fun e => reqP (0 < P.cellsOf e) (reqP (0 ≤ a ∧ a < n) (bindP (st.H id) fun ob => reqP (ob.S = P.cellsOf e ∧ n ≤ ob.els.length) (K (.adr id a.toNat 0)))) := by
  simp only [bindP_eq, opIndexAddr, reqP, and_assoc]
  apply propext
  constructor
  · rintro ⟨e, h1, h2, h3, h4, ob, h5, h6, h7, h8⟩; exact ⟨e, h1, h4, h2, h3, ob, h5, h6, h7, h8⟩
  · rintro ⟨e, h1, h4, h2, h3, ob, h5, h6, h7, h8⟩; exact ⟨e, h1, h2, h3, h4, ob, h5, h6, h7, h8⟩
theorem opIndexAddr_adr {k : IntKind} {a : Int} : opIndexAddr P t (.adr id i o) (.v (.int k a)) K st = bindP (arrT P t) fun ne => reqP (0 < P.cellsOf ne.2) (reqP (0 ≤ a ∧ a < ne.1) (K (.adr id i (o + a.toNat * P.cellsOf ne.2)))) := by
  simp only [bindP_eq, opIndexAddr, reqP, and_assoc, Prod.exists]
  apply propext
  constructor
  · rintro ⟨m, e, h1, h2, h3, h4, h5⟩; exact ⟨m, e, h1, h4, h2, h3, h5⟩
  · rintro ⟨m, e, h1, h4, h2, h3, h5⟩; exact ⟨m, e, h1, h2, h3, h4, h5⟩
theorem opIndexAddr_ptr {k : IntKind} {a : Int} : opIndexAddr P t (.ptr d) (.v (.int k a)) K st = bindP (arrT P t) fun ne => reqP (0 < P.cellsOf ne.2) (reqP (0 ≤ a ∧ a < ne.1) (bindP (partOf d (a.toNat * P.cellsOf ne.2) (P.cellsOf ne.2) (aggT P ne.2)) fun r => reqP (r.width = P.cellsOf ne.2 ∧ (aggT P ne.2 = false → r.isAgg = false ∧ r.storable = true)) (K (.ptr r)))) := by
  simp only [bindP_eq, opIndexAddr, reqP, and_assoc, Prod.exists]
  apply propext
  constructor
  · rintro ⟨m, e, h1, h2, h3, h4, r, h5, h6, h7, h8⟩; exact ⟨m, e, h1, h4, h2, h3, r, h5, h6, h7, h8⟩
  · rintro ⟨m, e, h1, h4, h2, h3, r, h5, h6, h7, h8⟩; exact ⟨m, e, h1, h2, h3, h4, r, h5, h6, h7, h8⟩
theorem opIndex_agg {k : IntKind} {a : Int} : opIndex P t (.agg l) (.v (.int k a)) K = bindP (arrT P t) fun ne => reqP (0 ≤ a ∧ a < ne.1 ∧ okT P ne.2 = true) (bindP (partOf (.agg l) (a.toNat * P.cellsOf ne.2) (P.cellsOf ne.2) (aggT P ne.2)) K) := by
  simp only [bindP_eq, opIndex, reqP, and_assoc, Prod.exists]
theorem opExtract_tup : opExtract (.tup l) i K = bindP (l[i]?) K := by
  simp only [bindP_eq, opExtract]

theorem opLen_lst (h : sliceT P t = true) : opLen P t (.lst l) K = K (.v (.int .i64 l.length)) := by simp [opLen, h]
theorem opLen_ref (h : sliceT P t = true) : opLen P t (.ref id n) K = K (.v (.int .i64 n)) := by simp [opLen, h]
theorem opLen_nil (h : sliceT P t = true) : opLen P t (.v (.slice none 0 0)) K = K (.v (.int .i64 0)) := by simp [opLen, h]
theorem opLen_nil0 (h : sliceT P t = true) : opLen P t .nil0 K = K (.v (.int .i64 0)) := by simp [opLen, h]
theorem opLen_str {s : ByteArray} (h : strT P t = true) : opLen P t (.v (.string s)) K = K (.v (.int .i64 s.size)) := by simp [opLen, h]
theorem opCx_complex {k : FloatKind} {a b : Nat} : opCx .complex [.v (.float k a), .v (.float k b)] K = K (.v (.complex k a b)) := by simp [opCx]
theorem opCx_real {k : FloatKind} {a b : Nat} : opCx .real [.v (.complex k a b)] K = K (.v (.float k a)) := (rfl)
theorem opCx_imag {k : FloatKind} {a b : Nat} : opCx .imag [.v (.complex k a b)] K = K (.v (.float k b)) := (rfl)
theorem opConvert_f2i {f : FloatKind} {b : Nat} (h : (P.underlying t).isSome = true) {k' : IntKind} (h2 : intT P u = some k') : opConvert P t u (.v (.float f b)) K st = bindP (floatToIntVal f b k') fun n => K (.v (.int k' n)) := by
  simp [bindP_eq, opConvert, h, h2]
theorem bin_cmulP {x y z w : Nat} : opBin P .mul t (.v (.complex .f64 x y)) (.v (.complex .f64 z w)) K = bindP (cmulB x y z w) fun p => K (.v (.complex .f64 p.1 p.2)) := by
  rw [bin_cmul, bindP_eq]
  cases cmulB x y z w <;> simp
theorem opMin_eq : opMin (x :: l) K = bindP (minD x l) K := by simp only [bindP_eq, opMin]
theorem opMax_eq : opMax (x :: l) K = bindP (maxD x l) K := by simp only [bindP_eq, opMax]
theorem minD_nil : minD x [] = some x := by cases x <;> first | rfl | (rename_i v; cases v <;> rfl)
theorem minD_cons {k k' : IntKind} {a b : Int} : minD (.v (.int k a)) (.v (.int k' b) :: l) = minD (.v (.int k (if b < a then b else a))) l := (rfl)
theorem maxD_nil : maxD x [] = some x := by cases x <;> first | rfl | (rename_i v; cases v <;> rfl)
theorem maxD_cons {k k' : IntKind} {a b : Int} : maxD (.v (.int k a)) (.v (.int k' b) :: l) = maxD (.v (.int k (if b > a then b else a))) l := (rfl)

theorem opAppend_eq : opAppend P t x y id KS st = bindP (elT P t) fun e => reqP (0 < P.cellsOf e ∧ zeroOK P e = true) (bindP (baseD e (P.cellsOf e) st id x) fun b => bindP (itemsD (P.cellsOf e) st y) fun xs =>
    reqP ((∀ d ∈ xs, d.width = P.cellsOf e ∧ d.storable = true) ∧ D.kills b.1 (b.2 ++ xs) = b.2 ++ xs) (reqP ((b.2 ++ xs).length * P.bytesOf e ≤ 140737488355328 ∧ (b.2 ++ xs).length ≤ capMax)
    (KS ((st.killed b.1).obj b.1 ⟨e, P.cellsOf e, b.2 ++ xs⟩) (.ref b.1 (b.2 ++ xs).length)))) := by
  simp only [bindP_eq, opAppend, reqP, and_assoc]
  apply propext
  constructor
  · rintro ⟨e, h1, h2, b, h3, xs, h4, h5, h6, h7, h8, h9, h10⟩; exact ⟨e, h1, h2, h8, b, h3, xs, h4, h5, h9, h6, h7, h10⟩
  · rintro ⟨e, h1, h2, h8, b, h3, xs, h4, h5, h9, h6, h7, h10⟩; exact ⟨e, h1, h2, b, h3, xs, h4, h5, h6, h7, h8, h9, h10⟩
theorem baseD_nil {e : TypeId} {S : Nat} : baseD e S st id (.v (.slice none 0 0)) = some (id, []) := (rfl)
theorem baseD_nil0 {e : TypeId} {S : Nat} : baseD e S st id .nil0 = some (id, []) := (rfl)
theorem itemsD_lst {S : Nat} : itemsD S st (.lst l) = some l := (rfl)
theorem itemsD_nil {S : Nat} : itemsD S st (.v (.slice none 0 0)) = some [] := (rfl)
theorem itemsD_nil0 {S : Nat} : itemsD S st .nil0 = some [] := (rfl)

/-- A call, by the contract of what is called. -/
theorem opCall_of {g : FuncId} {caps args : List D} {p : St × List D} {R : D → Prop} (h1 : frzAll (D.idss (args ++ caps)) st (args ++ caps) = some p) (h2 : D.noRefs p.2 = true) (hf : Fun P g (D.nrms p.2) R)
    (hk : ∀ r, R r → KS (if r.flat then st else p.1) r) : opCall P (.clos (.func g) caps) args id KS st := ⟨p, h1, h2, .inl ⟨R, hf, hk⟩⟩
/-- The same, where nothing that is owned is handed over. -/
theorem opCall_plain {g : FuncId} {caps args : List D} {R : D → Prop} (h1 : D.idss (args ++ caps) = []) (h2 : D.noRefs (args ++ caps) = true) (hf : Fun P g (D.nrms (args ++ caps)) R)
    (hk : ∀ r, R r → KS st r) : opCall P (.clos (.func g) caps) args id KS st := ⟨(st, args ++ caps), by rw [h1]; rfl, h2, .inl ⟨R, hf, fun r hr => by simpa using hk r hr⟩⟩

/-- A call that hands over a list to be owned. -/
theorem opCall_own {g : FuncId} {caps args : List D} {p : St × List D} {R : D → Option Own → Prop} (h1 : frzAll (D.idss (args ++ caps)) st (args ++ caps) = some p) (h2 : D.noRefs p.2 = true) (hf : FunO P g (D.nrms p.2) R)
    (hk : ∀ r o, R r o → match o with | none => KS p.1 r | some o => KS ((p.1.killed id).obj id o) (r.ren id)) : opCall P (.clos (.func g) caps) args id KS st := ⟨p, h1, h2, .inr ⟨R, hf, hk⟩⟩
theorem opCall_own_plain {g : FuncId} {caps args : List D} {R : D → Option Own → Prop} (h1 : D.idss (args ++ caps) = []) (h2 : D.noRefs (args ++ caps) = true) (hf : FunO P g (D.nrms (args ++ caps)) R)
    (hk : ∀ r o, R r o → match o with | none => KS st r | some o => KS ((st.killed id).obj id o) (r.ren id)) : opCall P (.clos (.func g) caps) args id KS st := ⟨(st, args ++ caps), by rw [h1]; rfl, h2, .inr ⟨R, hf, hk⟩⟩
end

-- parts
theorem partOf_v {x : Value} : partOf (.v x) 0 1 false = some (.v x) := (rfl)
theorem partOf_lst {l : List D} : partOf (.lst l) 0 1 false = some (.lst l) := (rfl)
theorem partOf_ref {i n : Nat} : partOf (.ref i n) 0 1 false = some (.ref i n) := (rfl)
theorem partOf_adr {i n m : Nat} : partOf (.adr i n m) 0 1 false = some (.adr i n m) := (rfl)
theorem partOf_nil0 : partOf .nil0 0 1 false = some .nil0 := (rfl)
theorem partOf_agg1 {l : List D} {o : Nat} : partOf (.agg l) o 1 false = l[o]? := (rfl)
theorem partOf_aggA {l : List D} {o n : Nat} : partOf (.agg l) o n true = if o + n ≤ l.length then some (.agg ((l.drop o).take n)) else none := (rfl)

end Go.VL
