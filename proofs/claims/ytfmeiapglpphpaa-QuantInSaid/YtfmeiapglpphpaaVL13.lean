import Derived.Test.YtfmeiapglpphpaaVL12
/- Rules for the walk. -/
namespace Go.VL
open Go Go.RowKit

/-- A test: what is to be shown where it says yes, and where it says no. -/
def condK (d : D) (p q : Prop) : Prop :=
  match d with
  | .v (.bool b) => (b = true → p) ∧ (b = false → q)
  | _ => False

theorem condK_eq {d : D} {p q : Prop} : condK d p q = ∃ b, d = .v (.bool b) ∧ (b = true → p) ∧ (b = false → q) := by
  apply propext
  constructor
  · intro h
    unfold condK at h
    split at h
    · exact ⟨_, rfl, h⟩
    · exact h.elim
  · rintro ⟨b, rfl, h⟩
    exact h

theorem condK_true {p q : Prop} : condK (.v (.bool true)) p q = p := by simp [condK]
theorem condK_false {p q : Prop} : condK (.v (.bool false)) p q = q := by simp [condK]
theorem condK_split {b : Bool} {p q : Prop} (h1 : b = true → p) (h2 : b = false → q) : condK (.v (.bool b)) p q := ⟨h1, h2⟩
@[congr] theorem condK_congr {d d' : D} {p q : Prop} (h : d = d') : condK d p q = condK d' p q := by rw [h]

def condG (want : Bool) (d : D) (p q : Prop) : Prop :=
  match d with
  | .v (.bool b) => (b = want → p) ∧ (b ≠ want → q)
  | .tup [] => q
  | _ => False
theorem condG_eq {want : Bool} {d : D} {p q : Prop} : condG want d p q = ∃ b, gB want d b ∧ (b = want → p) ∧ (b ≠ want → q) := by
  apply propext
  constructor
  · intro h
    unfold condG at h
    split at h
    · exact ⟨_, .inl rfl, h⟩
    · exact ⟨!want, .inr ⟨rfl, rfl⟩, fun h' => by cases want <;> simp at h', fun _ => h⟩
    · exact h.elim
  · rintro ⟨b, rfl | ⟨rfl, rfl⟩, h⟩
    · exact h
    · exact h.2 (by cases want <;> simp)
def guardK (m : Option Tmp) (st : St) (want : Bool) (p q : Prop) : Prop :=
  match m with
  | some d => d < st.n ∧ condG want (st.t d) p q
  | none => False
theorem guardK_some {d : Nat} {st : St} {want : Bool} {p q : Prop} : guardK (some d) st want p q = (d < st.n ∧ condG want (st.t d) p q) := (rfl)
@[congr] theorem guardK_congr {m m' : Option Tmp} {st st' : St} {want : Bool} {p q : Prop} (h : m = m') (h2 : st = st') : guardK m st want p q = guardK m' st' want p q := by rw [h, h2]
theorem guardOf_zero {o : Oper} {l : List Oper} : guardOf (o :: l) 0 = o.dst := (rfl)
theorem guardOf_succ {o : Oper} {l : List Oper} {n : Nat} : guardOf (o :: l) (n + 1) = guardOf l n := by simp [guardOf]

section
variable {P : Program} {N : St → Prop} {X : Nat → St → Prop} {R : St → Prop} {st : St}

theorem awp_skip : awp P .skip N X R st = N st := (rfl)
theorem awp_seq {a b : Code} : awp P (.seq a b) N X R st = awp P a (fun s => awp P b N X R s) X R st := (rfl)
theorem awp_cond {c : Operand} {x y : Code} : awp P (.cond c x y) N X R st = condK (st.ev c) (awp P x N X R st) (awp P y N X R st) := condK_eq.symm
theorem awp_block {id : Nat} {c : Code} : awp P (.block id c) N X R st = awp P c N (fun i s => if i = id then N s else X i s) R st := (rfl)
theorem awp_exit {id : Nat} : awp P (.exit id) N X R st = X id st := (rfl)
theorem awp_ret : awp P .ret N X R st = R st := (rfl)
theorem awp_region {id : Nat} {l : List Oper} : awp P (.region id l.toArray false) N X R st = aops P l l N st := by
  show aops P l.toArray.toList l.toArray.toList N st = _
  simp
theorem awp_label {l : Nat} : awp P (.label l) N X R st = N st := (rfl)

@[congr] theorem awp_congr {c : Code} {st' : St} (h : st = st') : awp P c N X R st = awp P c N X R st' := by rw [h]

variable {all rest : List Oper} {K : St → Prop}
theorem aops_nil : aops P all [] K st = K st := (rfl)
theorem aops_cons {dst : Option Tmp} {op : Op} {ty : TypeId} {pos : String} {af : Array Edge} :
    aops P all (⟨dst, op, ty, pos, af, none⟩ :: rest) K st = (okDst st dst ∧ aopxM P ⟨dst, op, ty, pos, af, none⟩ (fun s x => aops P all rest K (s.put dst x)) st) := (rfl)
theorem aops_guard {dst : Option Tmp} {op : Op} {ty : TypeId} {pos : String} {af : Array Edge} {j : Nat} {want : Bool} :
    aops P all (⟨dst, op, ty, pos, af, some (j, want)⟩ :: rest) K st = guardK (guardOf all j) st want
      (okDst st dst ∧ aopxM P ⟨dst, op, ty, pos, af, some (j, want)⟩ (fun s x => aops P all rest K (s.put dst x)) st) (okDst st dst ∧ aops P all rest K (st.put dst (.tup []))) := by
  apply propext
  show (∃ d, guardOf all j = some d ∧ d < st.n ∧ ∃ b, gB want (st.t d) b ∧ (b = want → _) ∧ (b ≠ want → _)) ↔ _
  constructor
  · rintro ⟨d, h1, h2, b, h3, h4, h5⟩
    rw [h1]
    refine ⟨h2, ?_⟩
    rw [condG_eq]
    exact ⟨b, h3, h4, h5⟩
  · intro h
    unfold guardK at h
    split at h
    · rename_i d hd
      obtain ⟨h2, h3⟩ := h
      rw [condG_eq] at h3
      obtain ⟨b, h4, h5, h6⟩ := h3
      exact ⟨d, hd, h2, b, h4, h5, h6⟩
    · exact h.elim
theorem opA_guard {dst : Option Tmp} {op : Op} {ty : TypeId} {pos : String} {af : Array Edge} {j : Nat} {want : Bool} {KN : St → Prop} :
    opA P all ⟨dst, op, ty, pos, af, some (j, want)⟩ KN st = guardK (guardOf all j) st want
      (okDst st dst ∧ aopx P ⟨dst, op, ty, pos, af, some (j, want)⟩ (fun s x => KN (s.put dst x)) st) (okDst st dst ∧ KN (st.put dst (.tup []))) := by
  apply propext
  show (∃ d, guardOf all j = some d ∧ d < st.n ∧ ∃ b, gB want (st.t d) b ∧ (b = want → _) ∧ (b ≠ want → _)) ↔ _
  constructor
  · rintro ⟨d, h1, h2, b, h3, h4, h5⟩
    rw [h1]
    refine ⟨h2, ?_⟩
    rw [condG_eq]
    exact ⟨b, h3, h4, h5⟩
  · intro h
    unfold guardK at h
    split at h
    · rename_i d hd
      obtain ⟨h2, h3⟩ := h
      rw [condG_eq] at h3
      obtain ⟨b, h4, h5, h6⟩ := h3
      exact ⟨d, hd, h2, b, h4, h5, h6⟩
    · exact h.elim
@[congr] theorem aops_congr {l : List Oper} {st' : St} (h : st = st') : aops P all l K st = aops P all l K st' := by rw [h]

variable {dst : Option Tmp} {ty : TypeId} {pos : String} {af : Array Edge} {g : Option (Nat × Bool)} {K : St → D → Prop}
theorem aopx_move {x : Operand} : aopx P ⟨dst, .move x, ty, pos, af, g⟩ K st = K st (st.ev x) := (rfl)
theorem aopx_assign {x : Operand} : aopx P ⟨dst, .assign x, ty, pos, af, g⟩ K st = K st (st.ev x) := (rfl)
theorem aopx_pick {c a b : Operand} : aopx P ⟨dst, .pick c a b, ty, pos, af, g⟩ K st = opPick (st.ev c) (st.ev a) (st.ev b) (K st) := (rfl)
theorem aopx_alloc {e : TypeId} : aopx P ⟨dst, .alloc e, ty, pos, af, g⟩ K st = opAlloc P e (dstOf dst) K st := (rfl)
theorem aopx_box {e : TypeId} {x : Operand} : aopx P ⟨dst, .box e x, ty, pos, af, g⟩ K st = opBox P e (st.ev x) (dstOf dst) K st := (rfl)
theorem aopx_build {t : TypeId} {l : List (Nat × Operand)} : aopx P ⟨dst, .build t l.toArray, ty, pos, af, g⟩ K st = opBuild P t (l.map fun p => (p.1, st.ev p.2)) (K st) := by
  show opBuild P t (l.toArray.toList.map _) (K st) = _
  simp
theorem aopx_buildSlice {t : TypeId} {n : Nat} {l : List (Nat × Operand)} : aopx P ⟨dst, .buildSlice t n l.toArray, ty, pos, af, g⟩ K st = opBuildSlice P t n (l.map fun p => (p.1, st.ev p.2)) (dstOf dst) K st := by
  show opBuildSlice P t n (l.toArray.toList.map _) _ K st = _
  simp
theorem aopx_load {t : TypeId} {x : Operand} : aopx P ⟨dst, .load t x, ty, pos, af, g⟩ K st = opLoad P t (st.ev x) (K st) st := (rfl)
theorem aopx_store {t : TypeId} {x v : Operand} : aopx P ⟨dst, .store t x v, ty, pos, af, g⟩ K st = opStore P t (st.ev x) (st.ev v) (fun s => K s .any) st := (rfl)
theorem aopx_nilCheck {x : Operand} : aopx P ⟨dst, .nilCheck x, ty, pos, af, g⟩ K st = opNilCheck (st.ev x) (K st) := (rfl)
theorem aopx_binOp {op : BinOp} {t u : TypeId} {x y : Operand} : aopx P ⟨dst, .binOp op t x y u, ty, pos, af, g⟩ K st = opBin P op t (st.ev x) (st.ev y) (K st) := (rfl)
theorem aopx_unOp {op : UnOp} {t : TypeId} {x : Operand} : aopx P ⟨dst, .unOp op t x, ty, pos, af, g⟩ K st = opUn op (st.ev x) (K st) := (rfl)
theorem aopx_convert {s t : TypeId} {x : Operand} : aopx P ⟨dst, .convert s t x, ty, pos, af, g⟩ K st = opConvert P s t (st.ev x) (K st) st := (rfl)
theorem aopx_makeFunc {fn : Fn} {l : List Operand} : aopx P ⟨dst, .makeFunc fn #[] l.toArray, ty, pos, af, g⟩ K st = K st (.clos fn (l.map st.ev)) := by
  show (_ ∧ K st (.clos fn (l.toArray.toList.map st.ev))) = _
  simp
theorem aopx_makeSlice {t : TypeId} {l c : Operand} : aopx P ⟨dst, .makeSlice t l c, ty, pos, af, g⟩ K st = opMakeSlice P t (st.ev l) (st.ev c) (dstOf dst) K st := (rfl)
theorem aopx_slice {t : TypeId} {x : Operand} {lo hi mx : Option Operand} : aopx P ⟨dst, .slice t x lo hi mx, ty, pos, af, g⟩ K st = opSlice P t (st.ev x) (lo.map st.ev) (hi.map st.ev) (mx.map st.ev) (K st) st := (rfl)
theorem aopx_fieldAddr {s : TypeId} {x : Operand} {f : Nat} : aopx P ⟨dst, .fieldAddr s x f, ty, pos, af, g⟩ K st = opFieldAddr P s (st.ev x) f (K st) := (rfl)
theorem aopx_field {s : TypeId} {x : Operand} {f : Nat} : aopx P ⟨dst, .field s x f, ty, pos, af, g⟩ K st = opField P s (st.ev x) f (K st) := (rfl)
theorem aopx_indexAddr {t : TypeId} {x ix : Operand} : aopx P ⟨dst, .indexAddr t x ix, ty, pos, af, g⟩ K st = opIndexAddr P t (st.ev x) (st.ev ix) (K st) st := (rfl)
theorem aopx_index {t : TypeId} {x ix : Operand} : aopx P ⟨dst, .index t x ix, ty, pos, af, g⟩ K st = opIndex P t (st.ev x) (st.ev ix) (K st) := (rfl)
theorem aopx_extract {x : Operand} {i : Nat} : aopx P ⟨dst, .extract x i, ty, pos, af, g⟩ K st = opExtract (st.ev x) i (K st) := (rfl)
theorem aopx_call {f : Operand} {l : List Operand} {ts : Array TypeId} : aopx P ⟨dst, .call ⟨.value f, l.toArray, ts⟩, ty, pos, af, g⟩ K st = opCall P (st.ev f) (l.map st.ev) (dstOf dst) K st := by
  show opCall P (st.ev f) (l.toArray.toList.map st.ev) (dstOf dst) K st = _
  simp
theorem aopx_append {s x : Operand} {t : TypeId} : aopx P ⟨dst, .call ⟨.builtin .append, #[s, x], #[t, t]⟩, ty, pos, af, g⟩ K st = opAppend P t (st.ev s) (st.ev x) (dstOf dst) K st := by
  show (t = t ∧ _) = _
  simp
theorem aopx_len {x : Operand} {t : TypeId} : aopx P ⟨dst, .call ⟨.builtin .len, #[x], #[t]⟩, ty, pos, af, g⟩ K st = opLen P t (st.ev x) (K st) := (rfl)
theorem aopx_min {l : List Operand} {ts : Array TypeId} : aopx P ⟨dst, .call ⟨.builtin .min, l.toArray, ts⟩, ty, pos, af, g⟩ K st = opMin (l.map st.ev) (K st) := by
  show opMin (l.toArray.toList.map st.ev) (K st) = _
  simp
theorem aopx_complex {l : List Operand} {ts : Array TypeId} : aopx P ⟨dst, .call ⟨.builtin .complex, l.toArray, ts⟩, ty, pos, af, g⟩ K st = opCx .complex (l.map st.ev) (K st) := by
  show opCx .complex (l.toArray.toList.map st.ev) (K st) = _
  simp
theorem aopx_real {l : List Operand} {ts : Array TypeId} : aopx P ⟨dst, .call ⟨.builtin .real, l.toArray, ts⟩, ty, pos, af, g⟩ K st = opCx .real (l.map st.ev) (K st) := by
  show opCx .real (l.toArray.toList.map st.ev) (K st) = _
  simp
theorem aopx_imag {l : List Operand} {ts : Array TypeId} : aopx P ⟨dst, .call ⟨.builtin .imag, l.toArray, ts⟩, ty, pos, af, g⟩ K st = opCx .imag (l.map st.ev) (K st) := by
  show opCx .imag (l.toArray.toList.map st.ev) (K st) = _
  simp
theorem aopx_max {l : List Operand} {ts : Array TypeId} : aopx P ⟨dst, .call ⟨.builtin .max, l.toArray, ts⟩, ty, pos, af, g⟩ K st = opMax (l.map st.ev) (K st) := by
  show opMax (l.toArray.toList.map st.ev) (K st) = _
  simp
end

section
variable {st : St}
theorem put_t {d k : Nat} {x : D} : (st.put (some d) x).t k = if k = d then x else st.t k := (rfl)
theorem put_H {d : Option Tmp} {x : D} : (st.put d x).H = st.H := by cases d <;> rfl
theorem put_n {d : Option Tmp} {x : D} : (st.put d x).n = st.n := by cases d <;> rfl
theorem put_none {x : D} : st.put none x = st := (rfl)
theorem killed_t {id k : Nat} : (st.killed id).t k = (st.t k).kill id := (rfl)
theorem killed_H {id k : Nat} : (st.killed id).H k = if k = id then none else (st.H k).map fun o => { o with els := D.kills id o.els } := (rfl)
theorem killed_n {id : Nat} : (st.killed id).n = st.n := (rfl)
theorem obj_t {id k : Nat} {o : Own} : (st.obj id o).t k = st.t k := (rfl)
theorem obj_H {id k : Nat} {o : Own} : (st.obj id o).H k = if k = id then some o else st.H k := (rfl)
theorem obj_n {id : Nat} {o : Own} : (st.obj id o).n = st.n := (rfl)
theorem ev_tmp {k : Nat} : st.ev (.tmp k) = st.t k := (rfl)
theorem ev_const {x : Value} : st.ev (.const x) = D.ofVal x := (rfl)
theorem ev_func {f : FuncId} : st.ev (.func f) = .clos (.func f) [] := (rfl)
theorem ofVal_int {k : IntKind} {n : Int} : D.ofVal (.int k n) = .v (.int k n) := (rfl)
theorem ofVal_bool {b : Bool} : D.ofVal (.bool b) = .v (.bool b) := (rfl)
theorem ofVal_slice {a : Option Addr} {n c : Nat} : D.ofVal (.slice a n c) = .v (.slice a n c) := (rfl)
theorem init_t {l : List D} {n k : Nat} : (St.init l n).t k = initT 0 l k := (rfl)
theorem init_H {l : List D} {n k : Nat} : (St.init l n).H k = none := (rfl)
theorem init_n {l : List D} {n : Nat} : (St.init l n).n = n := (rfl)
theorem initT_cons {j k : Nat} {d : D} {l : List D} : initT j (d :: l) k = if k = j then d else initT (j + 1) l k := (rfl)
theorem initT_nil {j k : Nat} : initT j [] k = .any := (rfl)
theorem okDst_some {d : Nat} : okDst st (some d) = (d < st.n) := (rfl)
theorem okDst_none : okDst st none = True := (rfl)
theorem dstOf_some {d : Nat} : dstOf (some d) = d := (rfl)
end

section
variable {P : Program} {t : TypeId} {k : D → Prop} {kk : IntKind} {a b : Int}
theorem bin_add : opBin P .add t (.v (.int kk a)) (.v (.int kk b)) k = k (.v (.int kk (kk.wrap (a + b)))) := by simp [opBin, abin, aint]
theorem bin_sub : opBin P .sub t (.v (.int kk a)) (.v (.int kk b)) k = k (.v (.int kk (kk.wrap (a - b)))) := by simp [opBin, abin, aint]
theorem bin_mul : opBin P .mul t (.v (.int kk a)) (.v (.int kk b)) k = k (.v (.int kk (kk.wrap (a * b)))) := by simp [opBin, abin, aint]
theorem bin_quo (h : b ≠ 0) : opBin P .quo t (.v (.int kk a)) (.v (.int kk b)) k = k (.v (.int kk (kk.wrap (a.tdiv b)))) := by simp [opBin, abin, aint, h]
theorem bin_rem (h : b ≠ 0) : opBin P .rem t (.v (.int kk a)) (.v (.int kk b)) k = k (.v (.int kk (a.tmod b))) := by simp [opBin, abin, aint, h]
theorem bin_and : opBin P .and t (.v (.int kk a)) (.v (.int kk b)) k = k (.v (.int kk (abits .and kk a b))) := by simp [opBin, abin, aint]
theorem bin_or : opBin P .or t (.v (.int kk a)) (.v (.int kk b)) k = k (.v (.int kk (abits .or kk a b))) := by simp [opBin, abin, aint]
theorem bin_xor : opBin P .xor t (.v (.int kk a)) (.v (.int kk b)) k = k (.v (.int kk (abits .xor kk a b))) := by simp [opBin, abin, aint]
theorem bin_shl {k2 : IntKind} (h : 0 ≤ b) : opBin P .shl t (.v (.int kk a)) (.v (.int k2 b)) k = k (.v (.int kk (kk.wrap (a * 2 ^ min b.toNat kk.bits)))) := by
  have : ¬ b < 0 := by omega
  simp [opBin, abin, aint, this]
theorem bin_shr {k2 : IntKind} (h : 0 ≤ b) : opBin P .shr t (.v (.int kk a)) (.v (.int k2 b)) k = k (.v (.int kk (a.fdiv (2 ^ min b.toNat kk.bits)))) := by
  have : ¬ b < 0 := by omega
  simp [opBin, abin, aint, this]
theorem bin_eql : opBin P .eql t (.v (.int kk a)) (.v (.int kk b)) k = k (.v (.bool (a == b))) := by simp [opBin, abin, aint]
theorem bin_neq : opBin P .neq t (.v (.int kk a)) (.v (.int kk b)) k = k (.v (.bool (a != b))) := by simp [opBin, abin, aint]
theorem bin_lss : opBin P .lss t (.v (.int kk a)) (.v (.int kk b)) k = k (.v (.bool (decide (a < b)))) := by simp [opBin, abin, aint]
theorem bin_leq : opBin P .leq t (.v (.int kk a)) (.v (.int kk b)) k = k (.v (.bool (decide (a ≤ b)))) := by simp [opBin, abin, aint]
theorem bin_gtr : opBin P .gtr t (.v (.int kk a)) (.v (.int kk b)) k = k (.v (.bool (decide (a > b)))) := by simp [opBin, abin, aint]
theorem bin_geq : opBin P .geq t (.v (.int kk a)) (.v (.int kk b)) k = k (.v (.bool (decide (a ≥ b)))) := by simp [opBin, abin, aint]
theorem bin_cmul {x y u v : Nat} : opBin P .mul t (.v (.complex .f64 x y)) (.v (.complex .f64 u v)) k = (match cmulB x y u v with | some p => k (.v (.complex .f64 p.1 p.2)) | none => False) := by
  unfold opBin
  simp only [abin]
  cases cmulB x y u v <;> simp [nilAsk]
theorem bin_eqb {x y : Bool} (h : isBoolT P t = true) : opBin P .eql t (.v (.bool x)) (.v (.bool y)) k = k (.v (.bool (x == y))) := by simp [opBin, abin, h]
theorem bin_neb {x y : Bool} (h : isBoolT P t = true) : opBin P .neq t (.v (.bool x)) (.v (.bool y)) k = k (.v (.bool (x != y))) := by simp [opBin, abin, h]
theorem bin_eqs {x y : ByteArray} : opBin P .eql t (.v (.string x)) (.v (.string y)) k = k (.v (.bool (x.toList == y.toList))) := by simp [opBin, abin]
theorem bin_nes {x y : ByteArray} : opBin P .neq t (.v (.string x)) (.v (.string y)) k = k (.v (.bool (!(x.toList == y.toList)))) := by simp [opBin, abin]
end

-- what comes after an operation is not looked into
section
variable {P : Program} {t u : TypeId} {K K' : D → Prop} {KS : St → D → Prop} {st st' : St} {x x' y y' z z' : D} {l l' : List D} {pl pl' : List (Nat × D)} {n : Nat}
@[congr] theorem cg_pick (h : x = x') (h2 : y = y') (h3 : z = z') : opPick x y z K = opPick x' y' z' K := by rw [h, h2, h3]
@[congr] theorem cg_alloc (h : st = st') : opAlloc P t n KS st = opAlloc P t n KS st' := by rw [h]
@[congr] theorem cg_box (h : x = x') (h2 : st = st') : opBox P t x n KS st = opBox P t x' n KS st' := by rw [h, h2]
@[congr] theorem cg_build (h : pl = pl') : opBuild P t pl K = opBuild P t pl' K := by rw [h]
@[congr] theorem cg_buildSlice {m : Nat} (h : pl = pl') (h2 : st = st') : opBuildSlice P t m pl n KS st = opBuildSlice P t m pl' n KS st' := by rw [h, h2]
@[congr] theorem cg_load (h : x = x') (h2 : st = st') : opLoad P t x K st = opLoad P t x' K st' := by rw [h, h2]
@[congr] theorem cg_store {K : St → Prop} (h : x = x') (h1 : y = y') (h2 : st = st') : opStore P t x y K st = opStore P t x' y' K st' := by rw [h, h1, h2]
@[congr] theorem cg_nilCheck (h : x = x') : opNilCheck x K = opNilCheck x' K := by rw [h]
@[congr] theorem cg_bin {op : BinOp} (h : x = x') (h2 : y = y') : opBin P op t x y K = opBin P op t x' y' K := by rw [h, h2]
@[congr] theorem cg_un {op : UnOp} (h : x = x') : opUn op x K = opUn op x' K := by rw [h]
@[congr] theorem cg_convert (h : x = x') (h2 : st = st') : opConvert P t u x K st = opConvert P t u x' K st' := by rw [h, h2]
@[congr] theorem cg_makeSlice (h : x = x') (h1 : y = y') (h2 : st = st') : opMakeSlice P t x y n KS st = opMakeSlice P t x' y' n KS st' := by rw [h, h1, h2]
@[congr] theorem cg_slice {lo lo' hi hi' mx mx' : Option D} (h : x = x') (h1 : lo = lo') (h2 : hi = hi') (h3 : mx = mx') (h4 : st = st') : opSlice P t x lo hi mx K st = opSlice P t x' lo' hi' mx' K st' := by rw [h, h1, h2, h3, h4]
@[congr] theorem cg_fieldAddr (h : x = x') : opFieldAddr P t x n K = opFieldAddr P t x' n K := by rw [h]
@[congr] theorem cg_field (h : x = x') : opField P t x n K = opField P t x' n K := by rw [h]
@[congr] theorem cg_indexAddr (h : x = x') (h2 : y = y') (h3 : st = st') : opIndexAddr P t x y K st = opIndexAddr P t x' y' K st' := by rw [h, h2, h3]
@[congr] theorem cg_index (h : x = x') (h2 : y = y') : opIndex P t x y K = opIndex P t x' y' K := by rw [h, h2]
@[congr] theorem cg_extract (h : x = x') : opExtract x n K = opExtract x' n K := by rw [h]
@[congr] theorem cg_call {id : Nat} (h : x = x') (h2 : l = l') (h3 : st = st') : opCall P x l id KS st = opCall P x' l' id KS st' := by rw [h, h2, h3]
@[congr] theorem cg_append (h : x = x') (h1 : y = y') (h2 : st = st') : opAppend P t x y n KS st = opAppend P t x' y' n KS st' := by rw [h, h1, h2]
@[congr] theorem cg_len (h : x = x') : opLen P t x K = opLen P t x' K := by rw [h]
@[congr] theorem cg_min (h : l = l') : opMin l K = opMin l' K := by rw [h]
@[congr] theorem cg_cx {b : Builtin} (h : l = l') : opCx b l K = opCx b l' K := by rw [h]
@[congr] theorem cg_max (h : l = l') : opMax l K = opMax l' K := by rw [h]
end

/-- Equalities that decide. -/
theorem vbool_inj {a b : Bool} : (D.v (.bool a) = D.v (.bool b)) = (a = b) := by simp

theorem i64_in {x : Int} (h0 : -9223372036854775808 ≤ x) (h1 : x ≤ 9223372036854775807) : IntKind.i64.wrap x = x := by
  rw [IntKind.wrap_i64]; omega

end Go.VL
