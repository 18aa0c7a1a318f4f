import Derived.Test.YtfmeiapglpphpaaVL15
/- The same rules, with what comes after kept out of simp's sight. -/
namespace Go.VL
open Go Go.RowKit

class KD where
  f : D → Prop
class KSD where
  f : St → D → Prop
class KN where
  f : St → Prop
class KX where
  f : Nat → St → Prop
class KP where
  f : Prop
class KF (α : Type) where
  f : α → Prop
class KL where
  l : List Oper

theorem KD_mk {g : D → Prop} {d : D} : @KD.f ⟨g⟩ d = g d := (rfl)
theorem KSD_mk {g : St → D → Prop} {s : St} {d : D} : @KSD.f ⟨g⟩ s d = g s d := (rfl)
theorem KN_mk {g : St → Prop} {s : St} : @KN.f ⟨g⟩ s = g s := (rfl)
theorem KX_mk {g : Nat → St → Prop} {i : Nat} {s : St} : @KX.f ⟨g⟩ i s = g i s := (rfl)
theorem KP_mk {p : Prop} : @KP.f ⟨p⟩ = p := (rfl)
theorem KF_mk {α : Type} {g : α → Prop} {a : α} : @KF.f α ⟨g⟩ a = g a := (rfl)

def bindI {α : Type} (o : Option α) [k : KF α] : Prop := bindP o k.f
theorem bindI_some {α : Type} {x : α} {k : KF α} : @bindI α (some x) k = k.f x := (rfl)
theorem bindI_none {α : Type} {k : KF α} : @bindI α none k = False := (rfl)
theorem bindI_of {α : Type} {o : Option α} {k : KF α} {x : α} (h : o = some x) (hk : k.f x) : @bindI α o k := bindP_of h hk
def reqI (p : Prop) [q : KP] : Prop := p ∧ q.f
theorem reqI_true {q : KP} : @reqI True q = q.f := by simp [reqI]
theorem reqI_of {p : Prop} {q : KP} (hp : p) (hq : q.f) : @reqI p q := ⟨hp, hq⟩
def condI (d : D) [p : KP] [q : KP] : Prop := condK d p.f q.f
theorem condI_true {p q : KP} : @condI (.v (.bool true)) p q = p.f := condK_true
theorem condI_false {p q : KP} : @condI (.v (.bool false)) p q = q.f := condK_false
theorem condI_split {b : Bool} {p q : KP} (h1 : b = true → p.f) (h2 : b = false → q.f) : @condI (.v (.bool b)) p q := ⟨h1, h2⟩
theorem condI_yes {b : Bool} {p q : KP} (h : b = true) (h1 : p.f) : @condI (.v (.bool b)) p q := by subst h; rw [condI_true]; exact h1
theorem condI_no {b : Bool} {p q : KP} (h : b = false) (h1 : q.f) : @condI (.v (.bool b)) p q := by subst h; rw [condI_false]; exact h1

def opPickI (c a b : D) [K : KD] : Prop := opPick c a b K.f
def opAllocI (P : Program) (e : TypeId) (id : Nat) (st : St) [K : KSD] : Prop := opAlloc P e id K.f st
def opBoxI (P : Program) (e : TypeId) (v : D) (id : Nat) (st : St) [K : KSD] : Prop := opBox P e v id K.f st
def opBuildI (P : Program) (t : TypeId) (pl : List (Nat × D)) [K : KD] : Prop := opBuild P t pl K.f
def opBuildSliceI (P : Program) (t : TypeId) (n : Nat) (pl : List (Nat × D)) (id : Nat) (st : St) [K : KSD] : Prop := opBuildSlice P t n pl id K.f st
def opLoadI (P : Program) (t : TypeId) (x : D) (st : St) [K : KD] : Prop := opLoad P t x K.f st
def opStoreI (P : Program) (t : TypeId) (x v : D) (st : St) [K : KN] : Prop := opStore P t x v K.f st
def opNilCheckI (x : D) [K : KD] : Prop := opNilCheck x K.f
def opBinI (P : Program) (op : BinOp) (t : TypeId) (x y : D) [K : KD] : Prop := opBin P op t x y K.f
def opUnI (op : UnOp) (x : D) [K : KD] : Prop := opUn op x K.f
def opConvertI (P : Program) (s t : TypeId) (x : D) (st : St) [K : KD] : Prop := opConvert P s t x K.f st
def opMakeSliceI (P : Program) (t : TypeId) (l c : D) (id : Nat) (st : St) [K : KSD] : Prop := opMakeSlice P t l c id K.f st
def opSliceI (P : Program) (t : TypeId) (x : D) (lo hi mx : Option D) (st : St) [K : KD] : Prop := opSlice P t x lo hi mx K.f st
def opSliceMI (P : Program) (t : TypeId) (x : D) (lo hi mx : Option D) (st : St) [K : KSD] : Prop := opSliceM P t x lo hi mx K.f st
def opFieldAddrI (P : Program) (s : TypeId) (x : D) (f : Nat) [K : KD] : Prop := opFieldAddr P s x f K.f
def opFieldI (P : Program) (s : TypeId) (x : D) (f : Nat) [K : KD] : Prop := opField P s x f K.f
def opIndexAddrI (P : Program) (t : TypeId) (x ix : D) (st : St) [K : KD] : Prop := opIndexAddr P t x ix K.f st
def opIndexI (P : Program) (t : TypeId) (x ix : D) [K : KD] : Prop := opIndex P t x ix K.f
def opExtractI (x : D) (i : Nat) [K : KD] : Prop := opExtract x i K.f
def opCallI (P : Program) (f : D) (args : List D) (id : Nat) (st : St) [K : KSD] : Prop := opCall P f args id K.f st
def opAppendI (P : Program) (t : TypeId) (s x : D) (id : Nat) (st : St) [K : KSD] : Prop := opAppend P t s x id K.f st
def opLenI (P : Program) (t : TypeId) (x : D) [K : KD] : Prop := opLen P t x K.f
def opMinI (l : List D) [K : KD] : Prop := opMin l K.f
def opCxI (b : Builtin) (l : List D) [K : KD] : Prop := opCx b l K.f
def opMaxI (l : List D) [K : KD] : Prop := opMax l K.f

def awpI (P : Program) (c : Code) (st : St) [N : KN] [X : KX] [R : KN] : Prop := awp P c N.f X.f R.f st
def opsI (P : Program) (l : List Oper) (st : St) [all : KL] [K : KN] : Prop := aops P all.l l K.f st
/-- Whether it is a part of a list that begins later. -/
def cutsLo : Op → Bool
  | .slice _ _ (some _) _ _ => true
  | _ => false
def opMI (P : Program) (o : Oper) (st : St) [K : KSD] : Prop := aopxM P o K.f st
def opI (P : Program) (o : Oper) (st : St) [K : KSD] : Prop := aopx P o K.f st
def guardI (m : Option Tmp) (st : St) (want : Bool) [p : KP] [q : KP] : Prop := guardK m st want p.f q.f
def condGI (want : Bool) (d : D) [p : KP] [q : KP] : Prop := condG want d p.f q.f
theorem condGI_t {b : Bool} {p q : KP} : @condGI true (.v (.bool b)) p q = @condI (.v (.bool b)) p q := by
  cases b <;> simp [condGI, condG, condI, condK]
theorem condGI_f {b : Bool} {p q : KP} : @condGI false (.v (.bool b)) p q = @condI (.v (.bool b)) q p := by
  cases b <;> simp [condGI, condG, condI, condK]
theorem condGI_u {want : Bool} {p q : KP} : @condGI want (.tup []) p q = q.f := (rfl)
theorem guardI_t {d : Nat} {st : St} {p q : KP} : @guardI (some d) st true p q = (d < st.n ∧ @condGI true (st.t d) p q) := (rfl)
theorem guardI_f {d : Nat} {st : St} {p q : KP} : @guardI (some d) st false p q = (d < st.n ∧ @condGI false (st.t d) p q) := (rfl)

section
variable {P : Program} {N R : KN} {X : KX} {st : St}
theorem awpI_skip : @awpI P .skip st N X R = N.f st := (rfl)
theorem awpI_seq {a b : Code} : @awpI P (.seq a b) st N X R = @awpI P a st ⟨fun s => @awpI P b s N X R⟩ X R := (rfl)
theorem awpI_cond {c : Operand} {x y : Code} : @awpI P (.cond c x y) st N X R = @condI (st.ev c) ⟨@awpI P x st N X R⟩ ⟨@awpI P y st N X R⟩ := awp_cond
theorem awpI_block {id : Nat} {c : Code} : @awpI P (.block id c) st N X R = @awpI P c st N ⟨fun i s => if i = id then N.f s else X.f i s⟩ R := (rfl)
theorem awpI_exit {id : Nat} : @awpI P (.exit id) st N X R = X.f id st := (rfl)
theorem awpI_ret : @awpI P .ret st N X R = R.f st := (rfl)
theorem awpI_region {id : Nat} {l : List Oper} : @awpI P (.region id l.toArray false) st N X R = @opsI P l st ⟨l⟩ N := awp_region
theorem awpI_label {l : Nat} : @awpI P (.label l) st N X R = N.f st := (rfl)

variable {all : KL} {rest : List Oper} {K : KN}
theorem opsI_nil : @opsI P [] st all K = K.f st := (rfl)
theorem opsI_cons {dst : Option Tmp} {op : Op} {ty : TypeId} {pos : String} {af : Array Edge} :
    @opsI P (⟨dst, op, ty, pos, af, none⟩ :: rest) st all K = (okDst st dst ∧ @opMI P ⟨dst, op, ty, pos, af, none⟩ st ⟨fun s x => @opsI P rest (s.put dst x) all K⟩) := (rfl)
theorem opsI_guard {dst : Option Tmp} {op : Op} {ty : TypeId} {pos : String} {af : Array Edge} {j : Nat} {want : Bool} :
    @opsI P (⟨dst, op, ty, pos, af, some (j, want)⟩ :: rest) st all K = @guardI (guardOf all.l j) st want
      ⟨okDst st dst ∧ @opMI P ⟨dst, op, ty, pos, af, some (j, want)⟩ st ⟨fun s x => @opsI P rest (s.put dst x) all K⟩⟩ ⟨okDst st dst ∧ @opsI P rest (st.put dst (.tup [])) all K⟩ := aops_guard
theorem KL_mk {l : List Oper} : @KL.l ⟨l⟩ = l := (rfl)

variable {dst : Option Tmp} {ty : TypeId} {pos : String} {af : Array Edge} {g : Option (Nat × Bool)} {K : KSD}
theorem opI_move {x : Operand} : @opI P ⟨dst, .move x, ty, pos, af, g⟩ st K = K.f st (st.ev x) := (rfl)
theorem opI_assign {x : Operand} : @opI P ⟨dst, .assign x, ty, pos, af, g⟩ st K = K.f st (st.ev x) := (rfl)
theorem opI_pick {c a b : Operand} : @opI P ⟨dst, .pick c a b, ty, pos, af, g⟩ st K = @opPickI (st.ev c) (st.ev a) (st.ev b) ⟨K.f st⟩ := (rfl)
theorem opI_alloc {e : TypeId} : @opI P ⟨dst, .alloc e, ty, pos, af, g⟩ st K = @opAllocI P e (dstOf dst) st K := (rfl)
theorem opI_box {e : TypeId} {x : Operand} : @opI P ⟨dst, .box e x, ty, pos, af, g⟩ st K = @opBoxI P e (st.ev x) (dstOf dst) st K := (rfl)
theorem opI_build {t : TypeId} {l : List (Nat × Operand)} : @opI P ⟨dst, .build t l.toArray, ty, pos, af, g⟩ st K = @opBuildI P t (l.map fun p => (p.1, st.ev p.2)) ⟨K.f st⟩ := aopx_build
theorem opI_buildSlice {t : TypeId} {n : Nat} {l : List (Nat × Operand)} : @opI P ⟨dst, .buildSlice t n l.toArray, ty, pos, af, g⟩ st K = @opBuildSliceI P t n (l.map fun p => (p.1, st.ev p.2)) (dstOf dst) st K := aopx_buildSlice
theorem opI_load {t : TypeId} {x : Operand} : @opI P ⟨dst, .load t x, ty, pos, af, g⟩ st K = @opLoadI P t (st.ev x) st ⟨K.f st⟩ := (rfl)
theorem opI_store {t : TypeId} {x v : Operand} : @opI P ⟨dst, .store t x v, ty, pos, af, g⟩ st K = @opStoreI P t (st.ev x) (st.ev v) st ⟨fun s => K.f s .any⟩ := (rfl)
theorem opI_nilCheck {x : Operand} : @opI P ⟨dst, .nilCheck x, ty, pos, af, g⟩ st K = @opNilCheckI (st.ev x) ⟨K.f st⟩ := (rfl)
theorem opI_binOp {op : BinOp} {t u : TypeId} {x y : Operand} : @opI P ⟨dst, .binOp op t x y u, ty, pos, af, g⟩ st K = @opBinI P op t (st.ev x) (st.ev y) ⟨K.f st⟩ := (rfl)
theorem opI_unOp {op : UnOp} {t : TypeId} {x : Operand} : @opI P ⟨dst, .unOp op t x, ty, pos, af, g⟩ st K = @opUnI op (st.ev x) ⟨K.f st⟩ := (rfl)
theorem opI_convert {s t : TypeId} {x : Operand} : @opI P ⟨dst, .convert s t x, ty, pos, af, g⟩ st K = @opConvertI P s t (st.ev x) st ⟨K.f st⟩ := (rfl)
theorem opI_makeFunc {fn : Fn} {l : List Operand} : @opI P ⟨dst, .makeFunc fn #[] l.toArray, ty, pos, af, g⟩ st K = K.f st (.clos fn (l.map st.ev)) := aopx_makeFunc
theorem opI_makeSlice {t : TypeId} {l c : Operand} : @opI P ⟨dst, .makeSlice t l c, ty, pos, af, g⟩ st K = @opMakeSliceI P t (st.ev l) (st.ev c) (dstOf dst) st K := (rfl)
theorem opI_slice {t : TypeId} {x : Operand} {lo hi mx : Option Operand} : @opI P ⟨dst, .slice t x lo hi mx, ty, pos, af, g⟩ st K = @opSliceI P t (st.ev x) (lo.map st.ev) (hi.map st.ev) (mx.map st.ev) st ⟨K.f st⟩ := (rfl)
theorem opMI_sliceM {t : TypeId} {x lo : Operand} {hi mx : Option Operand} : @opMI P ⟨dst, .slice t x (some lo) hi mx, ty, pos, af, g⟩ st K = @opSliceMI P t (st.ev x) (some (st.ev lo)) (hi.map st.ev) (mx.map st.ev) st K := (rfl)
theorem opMI_other {op : Op} (h : cutsLo op = false) : @opMI P ⟨dst, op, ty, pos, af, g⟩ st K = @opI P ⟨dst, op, ty, pos, af, g⟩ st K := by
  unfold opMI opI aopxM
  split
  · rename_i ho; rw [show op = _ from ho] at h; cases h
  · rfl
theorem cuts_move {x : Operand} : cutsLo (.move x) = false := (rfl)
theorem cuts_assign {x : Operand} : cutsLo (.assign x) = false := (rfl)
theorem cuts_pick {x y z : Operand} : cutsLo (.pick x y z) = false := (rfl)
theorem cuts_alloc {t : TypeId} : cutsLo (.alloc t) = false := (rfl)
theorem cuts_box {t : TypeId} {x : Operand} : cutsLo (.box t x) = false := (rfl)
theorem cuts_build {t : TypeId} {l : Array (Nat × Operand)} : cutsLo (.build t l) = false := (rfl)
theorem cuts_buildSlice {t : TypeId} {n : Nat} {l : Array (Nat × Operand)} : cutsLo (.buildSlice t n l) = false := (rfl)
theorem cuts_load {t : TypeId} {x : Operand} : cutsLo (.load t x) = false := (rfl)
theorem cuts_store {t : TypeId} {x y : Operand} : cutsLo (.store t x y) = false := (rfl)
theorem cuts_nilCheck {x : Operand} : cutsLo (.nilCheck x) = false := (rfl)
theorem cuts_binOp {o : BinOp} {t u : TypeId} {x y : Operand} : cutsLo (.binOp o t x y u) = false := (rfl)
theorem cuts_unOp {o : UnOp} {t : TypeId} {x : Operand} : cutsLo (.unOp o t x) = false := (rfl)
theorem cuts_convert {t u : TypeId} {x : Operand} : cutsLo (.convert t u x) = false := (rfl)
theorem cuts_makeFunc {f : Fn} {l m : Array Operand} : cutsLo (.makeFunc f l m) = false := (rfl)
theorem cuts_makeSlice {t : TypeId} {x y : Operand} : cutsLo (.makeSlice t x y) = false := (rfl)
theorem cuts_slice {t : TypeId} {x : Operand} {hi mx : Option Operand} : cutsLo (.slice t x none hi mx) = false := (rfl)
theorem cuts_fieldAddr {t : TypeId} {x : Operand} {n : Nat} : cutsLo (.fieldAddr t x n) = false := (rfl)
theorem cuts_field {t : TypeId} {x : Operand} {n : Nat} : cutsLo (.field t x n) = false := (rfl)
theorem cuts_indexAddr {t : TypeId} {x y : Operand} : cutsLo (.indexAddr t x y) = false := (rfl)
theorem cuts_index {t : TypeId} {x y : Operand} : cutsLo (.index t x y) = false := (rfl)
theorem cuts_extract {x : Operand} {n : Nat} : cutsLo (.extract x n) = false := (rfl)
theorem cuts_call {c : Call} : cutsLo (.call c) = false := (rfl)
theorem opI_fieldAddr {s : TypeId} {x : Operand} {f : Nat} : @opI P ⟨dst, .fieldAddr s x f, ty, pos, af, g⟩ st K = @opFieldAddrI P s (st.ev x) f ⟨K.f st⟩ := (rfl)
theorem opI_field {s : TypeId} {x : Operand} {f : Nat} : @opI P ⟨dst, .field s x f, ty, pos, af, g⟩ st K = @opFieldI P s (st.ev x) f ⟨K.f st⟩ := (rfl)
theorem opI_indexAddr {t : TypeId} {x ix : Operand} : @opI P ⟨dst, .indexAddr t x ix, ty, pos, af, g⟩ st K = @opIndexAddrI P t (st.ev x) (st.ev ix) st ⟨K.f st⟩ := (rfl)
theorem opI_index {t : TypeId} {x ix : Operand} : @opI P ⟨dst, .index t x ix, ty, pos, af, g⟩ st K = @opIndexI P t (st.ev x) (st.ev ix) ⟨K.f st⟩ := (rfl)
theorem opI_extract {x : Operand} {i : Nat} : @opI P ⟨dst, .extract x i, ty, pos, af, g⟩ st K = @opExtractI (st.ev x) i ⟨K.f st⟩ := (rfl)
theorem opI_call {f : Operand} {l : List Operand} {ts : Array TypeId} : @opI P ⟨dst, .call ⟨.value f, l.toArray, ts⟩, ty, pos, af, g⟩ st K = @opCallI P (st.ev f) (l.map st.ev) (dstOf dst) st K := aopx_call
theorem opI_append {s x : Operand} {t : TypeId} : @opI P ⟨dst, .call ⟨.builtin .append, #[s, x], #[t, t]⟩, ty, pos, af, g⟩ st K = @opAppendI P t (st.ev s) (st.ev x) (dstOf dst) st K := aopx_append
theorem opI_len {x : Operand} {t : TypeId} : @opI P ⟨dst, .call ⟨.builtin .len, #[x], #[t]⟩, ty, pos, af, g⟩ st K = @opLenI P t (st.ev x) ⟨K.f st⟩ := (rfl)
theorem opI_complex {l : List Operand} {ts : Array TypeId} : @opI P ⟨dst, .call ⟨.builtin .complex, l.toArray, ts⟩, ty, pos, af, g⟩ st K = @opCxI .complex (l.map st.ev) ⟨K.f st⟩ := aopx_complex
theorem opI_real {l : List Operand} {ts : Array TypeId} : @opI P ⟨dst, .call ⟨.builtin .real, l.toArray, ts⟩, ty, pos, af, g⟩ st K = @opCxI .real (l.map st.ev) ⟨K.f st⟩ := aopx_real
theorem opI_imag {l : List Operand} {ts : Array TypeId} : @opI P ⟨dst, .call ⟨.builtin .imag, l.toArray, ts⟩, ty, pos, af, g⟩ st K = @opCxI .imag (l.map st.ev) ⟨K.f st⟩ := aopx_imag
theorem opI_min {l : List Operand} {ts : Array TypeId} : @opI P ⟨dst, .call ⟨.builtin .min, l.toArray, ts⟩, ty, pos, af, g⟩ st K = @opMinI (l.map st.ev) ⟨K.f st⟩ := aopx_min
theorem opI_max {l : List Operand} {ts : Array TypeId} : @opI P ⟨dst, .call ⟨.builtin .max, l.toArray, ts⟩, ty, pos, af, g⟩ st K = @opMaxI (l.map st.ev) ⟨K.f st⟩ := aopx_max
end

section
variable {P : Program} {t : TypeId} {k : KD} {kk : IntKind} {a b : Int}
theorem binI_add : @opBinI P .add t (.v (.int kk a)) (.v (.int kk b)) k = k.f (.v (.int kk (kk.wrap (a + b)))) := bin_add
theorem binI_sub : @opBinI P .sub t (.v (.int kk a)) (.v (.int kk b)) k = k.f (.v (.int kk (kk.wrap (a - b)))) := bin_sub
theorem binI_mul : @opBinI P .mul t (.v (.int kk a)) (.v (.int kk b)) k = k.f (.v (.int kk (kk.wrap (a * b)))) := bin_mul
theorem binI_and : @opBinI P .and t (.v (.int kk a)) (.v (.int kk b)) k = k.f (.v (.int kk (abits .and kk a b))) := bin_and
theorem binI_or : @opBinI P .or t (.v (.int kk a)) (.v (.int kk b)) k = k.f (.v (.int kk (abits .or kk a b))) := bin_or
theorem binI_xor : @opBinI P .xor t (.v (.int kk a)) (.v (.int kk b)) k = k.f (.v (.int kk (abits .xor kk a b))) := bin_xor
theorem binI_eql : @opBinI P .eql t (.v (.int kk a)) (.v (.int kk b)) k = k.f (.v (.bool (a == b))) := bin_eql
theorem binI_neq : @opBinI P .neq t (.v (.int kk a)) (.v (.int kk b)) k = k.f (.v (.bool (a != b))) := bin_neq
theorem binI_lss : @opBinI P .lss t (.v (.int kk a)) (.v (.int kk b)) k = k.f (.v (.bool (decide (a < b)))) := bin_lss
theorem binI_leq : @opBinI P .leq t (.v (.int kk a)) (.v (.int kk b)) k = k.f (.v (.bool (decide (a ≤ b)))) := bin_leq
theorem binI_gtr : @opBinI P .gtr t (.v (.int kk a)) (.v (.int kk b)) k = k.f (.v (.bool (decide (a > b)))) := bin_gtr
theorem binI_geq : @opBinI P .geq t (.v (.int kk a)) (.v (.int kk b)) k = k.f (.v (.bool (decide (a ≥ b)))) := bin_geq
theorem binI_quo (h : b ≠ 0) : @opBinI P .quo t (.v (.int kk a)) (.v (.int kk b)) k = k.f (.v (.int kk (kk.wrap (a.tdiv b)))) := bin_quo h
theorem binI_rem (h : b ≠ 0) : @opBinI P .rem t (.v (.int kk a)) (.v (.int kk b)) k = k.f (.v (.int kk (a.tmod b))) := bin_rem h
theorem binI_shl {k2 : IntKind} (h : 0 ≤ b) : @opBinI P .shl t (.v (.int kk a)) (.v (.int k2 b)) k = k.f (.v (.int kk (kk.wrap (a * 2 ^ min b.toNat kk.bits)))) := bin_shl h
theorem binI_shr {k2 : IntKind} (h : 0 ≤ b) : @opBinI P .shr t (.v (.int kk a)) (.v (.int k2 b)) k = k.f (.v (.int kk (a.fdiv (2 ^ min b.toNat kk.bits)))) := bin_shr h
theorem binI_eqb {x y : Bool} (h : isBoolT P t = true) : @opBinI P .eql t (.v (.bool x)) (.v (.bool y)) k = k.f (.v (.bool (x == y))) := bin_eqb h
theorem binI_neb {x y : Bool} (h : isBoolT P t = true) : @opBinI P .neq t (.v (.bool x)) (.v (.bool y)) k = k.f (.v (.bool (x != y))) := bin_neb h
theorem binI_eqs {x y : ByteArray} : @opBinI P .eql t (.v (.string x)) (.v (.string y)) k = k.f (.v (.bool (x.toList == y.toList))) := bin_eqs
theorem binI_nes {x y : ByteArray} : @opBinI P .neq t (.v (.string x)) (.v (.string y)) k = k.f (.v (.bool (!(x.toList == y.toList)))) := bin_nes
end

def fieldTO (P : Program) (t : TypeId) (f : Nat) : Option (TypeId × Nat) := (fieldT P t f).map fun f => (f.type, f.offset)
section
variable {P : Program} {t u : TypeId} {K : KD} {KS : KSD} {st : St} {x y d : D} {l xs : List D} {id i o n : Nat}
theorem opPickI_eq {b : Bool} : @opPickI (.v (.bool b)) x y K = K.f (if b then x else y) := opPick_eq
theorem opAllocI_eq : @opAllocI P t id st KS = @bindI _ (zeroT P t) ⟨fun z => @reqI ((D.ofVal z).storable = true ∧ (D.ofVal z).width = P.cellsOf t ∧ 0 < P.cellsOf t) ⟨KS.f ((st.killed id).obj id ⟨t, P.cellsOf t, [D.ofVal z]⟩) (.adr id 0 0)⟩⟩ := opAlloc_eq
theorem opBoxI_eq : @opBoxI P t x id st KS = @reqI (x.storable = true ∧ x.width = P.cellsOf t ∧ 0 < P.cellsOf t) ⟨KS.f ((st.killed id).obj id ⟨t, P.cellsOf t, [x.kill id]⟩) (.adr id 0 0)⟩ := opBox_eq
theorem opBuildI_eq {pl : List (Nat × D)} : @opBuildI P t pl K = @reqI (fieldsOK P t = true) ⟨@bindI _ (placesT P t) ⟨fun p => @bindI _ (zeroT P t) ⟨fun z => @bindI _ (aggOf (D.ofVal z)) ⟨fun zs => @bindI _ (fillD p zs pl) ⟨fun r => K.f (.agg r)⟩⟩⟩⟩⟩ := opBuild_eq
theorem opBuildSliceI_eq {pl : List (Nat × D)} : @opBuildSliceI P t n pl id st KS = @bindI _ (elT P t) ⟨fun e => @reqI (0 < P.cellsOf e ∧ n * P.cellsOf e ≤ 16777216 ∧ pl.length = n ∧ inOrder 0 pl = true ∧ (∀ p ∈ pl, p.2.storable = true ∧ p.2.width = P.cellsOf e ∧ p.2.noRef = true) ∧ (zeroT P e).isSome = true) ⟨if n = 0 then KS.f ((st.killed id).obj id ⟨e, P.cellsOf e, []⟩) (.ref id 0) else KS.f st (.lst (pl.map (·.2)))⟩⟩ := opBuildSlice_eq
theorem opLoadI_ptr : @opLoadI P t (.ptr d) st K = @reqI (okT P t = true ∧ d.width = P.cellsOf t) ⟨@bindI _ (partOf d 0 (P.cellsOf t) (aggT P t)) ⟨K.f⟩⟩ := opLoad_ptr
theorem opLoadI_adr : @opLoadI P t (.adr id i o) st K = @bindI _ (st.H id) ⟨fun ob => @bindI _ (ob.els[i]?) ⟨fun d => @reqI (okT P t = true ∧ d.width = ob.S) ⟨@bindI _ (partOf d o (P.cellsOf t) (aggT P t)) ⟨K.f⟩⟩⟩⟩ := opLoad_adr
theorem opStoreI_adr {K : KN} : @opStoreI P t (.adr id i o) x st K = @bindI _ (st.H id) ⟨fun ob => @bindI _ (ob.els[i]?) ⟨fun d => @reqI (okT P t = true ∧ d.width = ob.S ∧ x.storable = true ∧ x.width = P.cellsOf t) ⟨@bindI _ (setPart d o x) ⟨fun d' => K.f (st.obj id { ob with els := ob.els.set i d' })⟩⟩⟩⟩ := opStore_adr
theorem opNilCheckI_ptr : @opNilCheckI (.ptr d) K = K.f (.ptr d) := opNilCheck_ptr
theorem opNilCheckI_adr : @opNilCheckI (.adr id i o) K = K.f (.adr id i o) := opNilCheck_adr
theorem opUnI_neg {k : IntKind} {a : Int} : @opUnI .neg (.v (.int k a)) K = K.f (.v (.int k (k.wrap (0 - a)))) := opUn_neg
theorem opUnI_xor {k : IntKind} {a : Int} : @opUnI .xor (.v (.int k a)) K = K.f (.v (.int k (abits .xor k (if k.signed then -1 else k.max) a))) := opUn_xor
theorem opUnI_not {b : Bool} : @opUnI .not (.v (.bool b)) K = K.f (.v (.bool (!b))) := opUn_not
theorem opConvertI_int {k k' : IntKind} {a : Int} (h : (P.underlying t).isSome = true) (h2 : intT P u = some k') : @opConvertI P t u (.v (.int k a)) st K = K.f (.v (.int k' (k'.wrap a))) := opConvert_int h h2
theorem opConvertI_flt {k : IntKind} {f : FloatKind} {a : Int} (h : (P.underlying t).isSome = true) (h2 : intT P u = none) (h3 : fltT P u = some f) : @opConvertI P t u (.v (.int k a)) st K = K.f (.v (.float f (f.nearest a))) := opConvert_flt h h2 h3
theorem opConvertI_lst : @opConvertI P t u (.lst l) st K = @bindI _ (elT P t) ⟨fun e => @reqI (intT P e = some .u8 ∧ strT P u = true) ⟨@bindI _ (bytesOf l) ⟨fun ns => K.f (.v (.string (strOfNums ns)))⟩⟩⟩ := opConvert_lst
theorem opConvertI_nil : @opConvertI P t u (.v (.slice none 0 0)) st K = @bindI _ (elT P t) ⟨fun e => @reqI (intT P e = some .u8 ∧ strT P u = true) ⟨K.f (.v (.string (strOfNums [])))⟩⟩ := opConvert_nil
theorem opConvertI_nil0 : @opConvertI P t u .nil0 st K = @bindI _ (elT P t) ⟨fun e => @reqI (intT P e = some .u8 ∧ strT P u = true) ⟨K.f (.v (.string (strOfNums [])))⟩⟩ := opConvert_nil0
theorem opConvertI_ref : @opConvertI P t u (.ref id n) st K = @bindI _ (elT P t) ⟨fun e => @reqI (intT P e = some .u8 ∧ strT P u = true) ⟨@bindI _ (st.H id) ⟨fun ob => @reqI (ob.S = 1 ∧ n ≤ ob.els.length) ⟨@bindI _ (bytesOf (ob.els.take n)) ⟨fun ns => K.f (.v (.string (strOfNums ns)))⟩⟩⟩⟩⟩ := opConvert_ref
theorem opMakeSliceI_eq {k k' : IntKind} {a b : Int} : @opMakeSliceI P t (.v (.int k a)) (.v (.int k' b)) id st KS = @bindI _ (elT P t) ⟨fun e => @reqI (0 < P.cellsOf e) ⟨@reqI (a = b ∧ 0 ≤ a ∧ a * P.bytesOf e ≤ 140737488355328 ∧ a ≤ capMax) ⟨@bindI _ (zeroT P e) ⟨fun z => @reqI ((D.ofVal z).storable = true ∧ (D.ofVal z).width = P.cellsOf e) ⟨KS.f ((st.killed id).obj id ⟨e, P.cellsOf e, List.replicate a.toNat (D.ofVal z)⟩) (.ref id a.toNat)⟩⟩⟩⟩⟩ := opMakeSlice_eq
theorem opSliceI_lst {lo hi : Option D} : @opSliceI P t (.lst l) lo hi none st K = @bindI _ (elT P t) ⟨fun e => @reqI (0 < P.cellsOf e ∧ ∀ d ∈ l, d.width = P.cellsOf e ∧ d.storable = true) ⟨@bindI _ (bndD lo 0) ⟨fun i => @bindI _ (bndD hi l.length) ⟨fun j => @reqI (0 ≤ i ∧ i ≤ j ∧ j ≤ l.length) ⟨K.f (.lst ((l.take j.toNat).drop i.toNat))⟩⟩⟩⟩⟩ := opSlice_lst
theorem opSliceI_lst3 {lo hi : Option D} {m : D} : @opSliceI P t (.lst l) lo hi (some m) st K = @bindI _ (elT P t) ⟨fun e => @reqI (0 < P.cellsOf e ∧ ∀ d ∈ l, d.width = P.cellsOf e ∧ d.storable = true) ⟨@bindI _ (bndD lo 0) ⟨fun i => @bindI _ (bndD hi l.length) ⟨fun j => @reqI (0 ≤ i ∧ i ≤ j ∧ j ≤ l.length ∧ hi.isSome = true) ⟨@bindI _ (intD m) ⟨fun k => @reqI (j ≤ k ∧ k ≤ l.length) ⟨if k = i then K.f .nil0 else K.f (.lst ((l.take j.toNat).drop i.toNat))⟩⟩⟩⟩⟩⟩⟩ := opSlice_lst3
theorem opSliceI_ref {lo hi : Option D} : @opSliceI P t (.ref id n) lo hi none st K = @bindI _ (elT P t) ⟨fun e => @reqI (0 < P.cellsOf e) ⟨@bindI _ (bndD lo 0) ⟨fun i => @reqI (i = 0) ⟨@bindI _ (bndD hi n) ⟨fun j => @reqI (0 ≤ j ∧ j ≤ n) ⟨@bindI _ (st.H id) ⟨fun ob => @reqI (n ≤ ob.els.length) ⟨K.f (.ref id j.toNat)⟩⟩⟩⟩⟩⟩⟩⟩ := opSlice_ref
theorem opSliceI_nil {lo hi : Option D} : @opSliceI P t (.v (.slice none 0 0)) lo hi none st K = @bindI _ (elT P t) ⟨fun e => @reqI (0 < P.cellsOf e) ⟨@bindI _ (bndD lo 0) ⟨fun i => @reqI (i = 0) ⟨@bindI _ (bndD hi 0) ⟨fun j => @reqI (j = 0) ⟨K.f (.v (.slice none 0 0))⟩⟩⟩⟩⟩⟩ := opSlice_nil
theorem opSliceMI_lst {lo hi mx : Option D} : @opSliceMI P t (.lst l) lo hi mx st KS = @opSliceI P t (.lst l) lo hi mx st ⟨KS.f st⟩ := (rfl)
theorem opSliceMI_nil {lo hi mx : Option D} : @opSliceMI P t (.v (.slice none 0 0)) lo hi mx st KS = @opSliceI P t (.v (.slice none 0 0)) lo hi mx st ⟨KS.f st⟩ := (rfl)
theorem opSliceMI_ref {lo hi mx : Option D} : @opSliceMI P t (.ref id n) lo hi mx st KS = @bindI _ (st.H id) ⟨fun ob => @reqI (D.noRefs ob.els = true ∧ ob.els.all (fun d => d.width == ob.S) = true ∧ n ≤ ob.els.length ∧ lo.all D.noRef = true ∧ hi.all D.noRef = true ∧ mx.all D.noRef = true)
    ⟨@opSliceI P t (.lst ((D.nrms ob.els).take n)) lo hi mx (st.frozen id (D.nrms ob.els)) ⟨KS.f (st.frozen id (D.nrms ob.els))⟩⟩⟩ := by
  apply propext
  simp only [opSliceMI, opSliceM, bindI, bindP_eq, reqI, opSliceI, and_assoc]
theorem opFieldAddrI_adr {f : Nat} : @opFieldAddrI P t (.adr id i o) f K = @bindI _ (fieldTO P t f) ⟨fun fl => @reqI (okT P fl.1 = true) ⟨K.f (.adr id i (o + fl.2))⟩⟩ := by
  refine opFieldAddr_adr.trans ?_
  show bindP (fieldT P t f) _ = bindP (fieldTO P t f) _
  unfold fieldTO
  cases fieldT P t f <;> rfl
theorem opFieldAddrI_ptr {f : Nat} : @opFieldAddrI P t (.ptr d) f K = @bindI _ (fieldTO P t f) ⟨fun fl => @reqI (okT P fl.1 = true) ⟨@bindI _ (partOf d fl.2 (P.cellsOf fl.1) (aggT P fl.1)) ⟨fun r => @reqI (r.width = P.cellsOf fl.1 ∧ (aggT P fl.1 = false → r.isAgg = false ∧ r.storable = true)) ⟨K.f (.ptr r)⟩⟩⟩⟩ := by
  refine opFieldAddr_ptr.trans ?_
  show bindP (fieldT P t f) _ = bindP (fieldTO P t f) _
  unfold fieldTO
  cases fieldT P t f <;> rfl
theorem opFieldI_agg {f : Nat} : @opFieldI P t (.agg l) f K = @bindI _ (fieldTO P t f) ⟨fun fl => @reqI (okT P fl.1 = true) ⟨@bindI _ (partOf (.agg l) fl.2 (P.cellsOf fl.1) (aggT P fl.1)) ⟨K.f⟩⟩⟩ := by
  refine opField_agg.trans ?_
  show bindP (fieldT P t f) _ = bindP (fieldTO P t f) _
  unfold fieldTO
  cases fieldT P t f <;> rfl
theorem opIndexAddrI_lst {k : IntKind} {a : Int} : @opIndexAddrI P t (.lst l) (.v (.int k a)) st K = @bindI _ (elT P t) ⟨fun e => @reqI (0 < P.cellsOf e ∧ ∀ d ∈ l, d.width = P.cellsOf e ∧ d.storable = true) ⟨@reqI (0 ≤ a ∧ a < l.length) ⟨@bindI _ (l[a.toNat]?) ⟨fun d => K.f (.ptr d)⟩⟩⟩⟩ := opIndexAddr_lst
theorem opIndexAddrI_ref {k : IntKind} {a : Int} : @opIndexAddrI P t (.ref id n) (.v (.int k a)) st K = @bindI _ (elT P t) ⟨fun e => @reqI (0 < P.cellsOf e) ⟨@reqI (0 ≤ a ∧ a < n) ⟨@bindI _ (st.H id) ⟨fun ob => @reqI (ob.S = P.cellsOf e ∧ n ≤ ob.els.length) ⟨K.f (.adr id a.toNat 0)⟩⟩⟩⟩⟩ := opIndexAddr_ref
theorem opIndexAddrI_adr {k : IntKind} {a : Int} : @opIndexAddrI P t (.adr id i o) (.v (.int k a)) st K = @bindI _ (arrT P t) ⟨fun ne => @reqI (0 < P.cellsOf ne.2) ⟨@reqI (0 ≤ a ∧ a < ne.1) ⟨K.f (.adr id i (o + a.toNat * P.cellsOf ne.2))⟩⟩⟩ := opIndexAddr_adr
theorem opIndexAddrI_ptr {k : IntKind} {a : Int} : @opIndexAddrI P t (.ptr d) (.v (.int k a)) st K = @bindI _ (arrT P t) ⟨fun ne => @reqI (0 < P.cellsOf ne.2) ⟨@reqI (0 ≤ a ∧ a < ne.1) ⟨@bindI _ (partOf d (a.toNat * P.cellsOf ne.2) (P.cellsOf ne.2) (aggT P ne.2)) ⟨fun r => @reqI (r.width = P.cellsOf ne.2 ∧ (aggT P ne.2 = false → r.isAgg = false ∧ r.storable = true)) ⟨K.f (.ptr r)⟩⟩⟩⟩⟩ := opIndexAddr_ptr
theorem opIndexI_agg {k : IntKind} {a : Int} : @opIndexI P t (.agg l) (.v (.int k a)) K = @bindI _ (arrT P t) ⟨fun ne => @reqI (0 ≤ a ∧ a < ne.1 ∧ okT P ne.2 = true) ⟨@bindI _ (partOf (.agg l) (a.toNat * P.cellsOf ne.2) (P.cellsOf ne.2) (aggT P ne.2)) ⟨K.f⟩⟩⟩ := opIndex_agg
theorem opExtractI_tup : @opExtractI (.tup l) i K = @bindI _ (l[i]?) ⟨K.f⟩ := opExtract_tup
theorem opLenI_lst (h : sliceT P t = true) : @opLenI P t (.lst l) K = K.f (.v (.int .i64 l.length)) := opLen_lst h
theorem opLenI_ref (h : sliceT P t = true) : @opLenI P t (.ref id n) K = K.f (.v (.int .i64 n)) := opLen_ref h
theorem opLenI_nil (h : sliceT P t = true) : @opLenI P t (.v (.slice none 0 0)) K = K.f (.v (.int .i64 0)) := opLen_nil h
theorem opLenI_nil0 (h : sliceT P t = true) : @opLenI P t .nil0 K = K.f (.v (.int .i64 0)) := opLen_nil0 h
theorem opLenI_str {s : ByteArray} (h : strT P t = true) : @opLenI P t (.v (.string s)) K = K.f (.v (.int .i64 s.size)) := opLen_str h
theorem opCxI_complex {k : FloatKind} {a b : Nat} : @opCxI .complex [.v (.float k a), .v (.float k b)] K = K.f (.v (.complex k a b)) := opCx_complex
theorem opCxI_real {k : FloatKind} {a b : Nat} : @opCxI .real [.v (.complex k a b)] K = K.f (.v (.float k a)) := opCx_real
theorem opCxI_imag {k : FloatKind} {a b : Nat} : @opCxI .imag [.v (.complex k a b)] K = K.f (.v (.float k b)) := opCx_imag
theorem opConvertI_f2i {f : FloatKind} {b : Nat} (h : (P.underlying t).isSome = true) {k' : IntKind} (h2 : intT P u = some k') : @opConvertI P t u (.v (.float f b)) st K = @bindI _ (floatToIntVal f b k') ⟨fun n => K.f (.v (.int k' n))⟩ := opConvert_f2i h h2
theorem binI_cmul {x y z w : Nat} : @opBinI P .mul t (.v (.complex .f64 x y)) (.v (.complex .f64 z w)) K = @bindI _ (cmulB x y z w) ⟨fun p => K.f (.v (.complex .f64 p.1 p.2))⟩ := bin_cmulP
theorem opMinI_eq : @opMinI (x :: l) K = @bindI _ (minD x l) ⟨K.f⟩ := opMin_eq
theorem opMaxI_eq : @opMaxI (x :: l) K = @bindI _ (maxD x l) ⟨K.f⟩ := opMax_eq
theorem opAppendI_eq : @opAppendI P t x y id st KS = @bindI _ (elT P t) ⟨fun e => @reqI (0 < P.cellsOf e ∧ zeroOK P e = true) ⟨@bindI _ (baseD e (P.cellsOf e) st id x) ⟨fun b => @bindI _ (itemsD (P.cellsOf e) st y) ⟨fun xs => @reqI ((∀ d ∈ xs, d.width = P.cellsOf e ∧ d.storable = true) ∧ D.kills b.1 (b.2 ++ xs) = b.2 ++ xs) ⟨@reqI ((b.2 ++ xs).length * P.bytesOf e ≤ 140737488355328 ∧ (b.2 ++ xs).length ≤ capMax) ⟨KS.f ((st.killed b.1).obj b.1 ⟨e, P.cellsOf e, b.2 ++ xs⟩) (.ref b.1 (b.2 ++ xs).length)⟩⟩⟩⟩⟩⟩ := opAppend_eq

theorem opCallI_of {g : FuncId} {caps args : List D} {p : St × List D} {R : D → Prop} (h1 : frzAll (D.idss (args ++ caps)) st (args ++ caps) = some p) (h2 : D.noRefs p.2 = true) (hf : Fun P g (D.nrms p.2) R)
    (hk : ∀ r, R r → KS.f (if r.flat then st else p.1) r) : @opCallI P (.clos (.func g) caps) args id st KS := opCall_of h1 h2 hf hk
/-- The same, where nothing that is owned is handed over. -/
theorem opCallI_plain {g : FuncId} {caps args : List D} {R : D → Prop} (h1 : D.idss (args ++ caps) = []) (h2 : D.noRefs (args ++ caps) = true) (hf : Fun P g (D.nrms (args ++ caps)) R)
    (hk : ∀ r, R r → KS.f st r) : @opCallI P (.clos (.func g) caps) args id st KS := opCall_plain h1 h2 hf hk
theorem opCallI_own {g : FuncId} {caps args : List D} {p : St × List D} {R : D → Option Own → Prop} (h1 : frzAll (D.idss (args ++ caps)) st (args ++ caps) = some p) (h2 : D.noRefs p.2 = true) (hf : FunO P g (D.nrms p.2) R)
    (hk : ∀ r o, R r o → match o with | none => KS.f p.1 r | some o => KS.f ((p.1.killed id).obj id o) (r.ren id)) : @opCallI P (.clos (.func g) caps) args id st KS := opCall_own h1 h2 hf hk
theorem opCallI_own_plain {g : FuncId} {caps args : List D} {R : D → Option Own → Prop} (h1 : D.idss (args ++ caps) = []) (h2 : D.noRefs (args ++ caps) = true) (hf : FunO P g (D.nrms (args ++ caps)) R)
    (hk : ∀ r o, R r o → match o with | none => KS.f st r | some o => KS.f ((st.killed id).obj id o) (r.ren id)) : @opCallI P (.clos (.func g) caps) args id st KS := opCall_own_plain h1 h2 hf hk
end

theorem Fun.of_awpI {P : Program} {f : FuncId} {fn : Func} {code : Code} {args : List D} {R : D → Prop} {n : Nat} (hf : P.funcs[f]? = some fn) (hb : fn.body = some code) (hc : callable P f = true) (hn : fn.ntmps = n) (hl : args.length ≤ n)
    (h : D.wfs args → @awpI P code (St.init args n) ⟨Ret P fn R⟩ ⟨fun _ _ => False⟩ ⟨Ret P fn R⟩) : Fun P f args R := by
  subst hn
  exact Fun.of_awp hf hb hc hl h

theorem FunO.of_awpI {P : Program} {f : FuncId} {fn : Func} {code : Code} {args : List D} {R : D → Option Own → Prop} {n : Nat} (hf : P.funcs[f]? = some fn) (hb : fn.body = some code) (hc : callable P f = true) (hn : fn.ntmps = n) (hl : args.length ≤ n)
    (h : D.wfs args → @awpI P code (St.init args n) ⟨RetO P fn R⟩ ⟨fun _ _ => False⟩ ⟨RetO P fn R⟩) : FunO P f args R := by
  subst hn
  exact FunO.of_awp hf hb hc hl h

theorem awpI_count {P : Program} {c : Code} {N R : KN} {X : KX} {st : St} (n : Nat) (I : Nat → St → Prop) (s : St) (hw : Weak st s) (hI : I 0 s)
    (hr : ∀ k s, k ≤ n → I k s → @awpI P c s ⟨Next I n k⟩ X R) : @awpI P (.loop c) st N X R := awp_count n I s hw hI hr
theorem awpI_loop {P : Program} {c : Code} {N R : KN} {X : KX} {st : St} (I : Nat → St → Prop) (n : Nat) (s : St) (hw : Weak st s) (hI : I n s)
    (hr : ∀ n s, I n s → @awpI P c s ⟨fun s' => ∃ m s'', m < n ∧ Weak s' s'' ∧ I m s''⟩ X R) : @awpI P (.loop c) st N X R := awp_loop I n s hw hI hr

end Go.VL
