import Derived.Test.YtfmeiapglpphpaaVL2
/- What one operation does, over values without memory. -/
namespace Go.VL
open Go Go.RowKit

def OpX (P : Program) (o : Oper) (K : St → D → Prop) (st : St) : Prop :=
  ∀ (J0 : Nat → Prop) (ρ : Nat → Loc) (J : Nat → Prop) (B : Nat) (w0 : World) (a : Act) (w : World), Sim J0 ρ J B w0 st a w →
  ∀ (Kc : Act → World → Prop) (Q : Exit → Act → World → Prop),
    (∀ (st' : St) (ρ' : Nat → Loc) (J' : Nat → Prop) (x : D) (y : Value) (w' : World), K st' x → st'.n = st.n → Sim J0 ρ' J' B w0 st' a w' → RelD ρ' J' w' x y → Kc (a.put o.dst y) w') →
    o.wp P a w Kc Q

theorem wp_value {P : Program} {o : Oper} {a : Act} {w w' : World} {Kc : Act → World → Prop} {Q : Exit → Act → World → Prop} {y : Value}
    (hr : (execOp a.eval o).run P w = .ok (.value y) w') (h : Kc (a.put o.dst y) w') : o.wp P a w Kc Q := by
  unfold Oper.wp; rw [hr]; exact h

theorem wp_skip' {P : Program} {o : Oper} {a : Act} {w w' : World} {Kc : Act → World → Prop} {Q : Exit → Act → World → Prop}
    (hr : (execOp a.eval o).run P w = .ok .skip w') (h : Kc (a.put o.dst undef) w') : o.wp P a w Kc Q := by
  unfold Oper.wp; rw [hr]; exact h

/-- An operation that only computes. -/
theorem OpX.pure {P : Program} {o : Oper} {K : St → D → Prop} {st : St} (x : D) (hK : K st x)
    (h : ∀ (J0 : Nat → Prop) (ρ : Nat → Loc) (J : Nat → Prop) (B : Nat) (w0 : World) (a : Act) (w : World), Sim J0 ρ J B w0 st a w → ∃ y, (execOp a.eval o).run P w = .ok (.value y) w ∧ RelD ρ J w x y) :
    OpX P o K st := by
  intro J0 ρ J B w0 a w hs Kc Q hk
  obtain ⟨y, hr, hx⟩ := h J0 ρ J B w0 a w hs
  exact wp_value hr (hk st ρ J x y w hK rfl hs hx)

-- numbers
def abits (op : BinOp) (k : IntKind) (x y : Int) : Int :=
  match op with
  | .and => k.wrap (BitVec.ofInt k.bits x &&& BitVec.ofInt k.bits y).toNat
  | .or => k.wrap (BitVec.ofInt k.bits x ||| BitVec.ofInt k.bits y).toNat
  | .xor => k.wrap (BitVec.ofInt k.bits x ^^^ BitVec.ofInt k.bits y).toNat
  | _ => k.wrap (BitVec.ofInt k.bits x &&& ~~~BitVec.ofInt k.bits y).toNat

def aint (op : BinOp) (k : IntKind) (x y : Int) : Option Value :=
  match op with
  | .add => some (.int k (k.wrap (x + y)))
  | .sub => some (.int k (k.wrap (x - y)))
  | .mul => some (.int k (k.wrap (x * y)))
  | .quo => if y = 0 then none else some (.int k (k.wrap (x.tdiv y)))
  | .rem => if y = 0 then none else some (.int k (x.tmod y))
  | .and => some (.int k (abits .and k x y))
  | .or => some (.int k (abits .or k x y))
  | .xor => some (.int k (abits .xor k x y))
  | .andNot => some (.int k (abits .andNot k x y))
  | .shl => if y < 0 then none else some (.int k (k.wrap (x * 2 ^ min y.toNat k.bits)))
  | .shr => if y < 0 then none else some (.int k (x.fdiv (2 ^ min y.toNat k.bits)))
  | .eql => some (.bool (x == y))
  | .neq => some (.bool (x != y))
  | .lss => some (.bool (decide (x < y)))
  | .leq => some (.bool (decide (x ≤ y)))
  | .gtr => some (.bool (decide (x > y)))
  | .geq => some (.bool (decide (x ≥ y)))

/-- The product of two complex numbers, as words. -/
def cmulB (a b c d : Nat) : Option (Nat × Nat) :=
  (Ieee.double.mul a c).bind fun p => (Ieee.double.mul b d).bind fun q => (Ieee.double.sub p q).bind fun r =>
  (Ieee.double.mul a d).bind fun s => (Ieee.double.mul b c).bind fun t => (Ieee.double.add s t).map fun u => (r, u)

def isBoolT (P : Program) (t : TypeId) : Bool := match P.underlying t with | some .bool => true | _ => false
theorem isBoolT_spec {P : Program} {t : TypeId} (h : isBoolT P t = true) : P.underlying t = some .bool := by
  unfold isBoolT at h
  split at h
  · assumption
  · cases h

def abin (P : Program) (op : BinOp) (t : TypeId) (a b : Value) : Option Value :=
  match a, b with
  | .int k x, .int k' y => if k = k' ∨ op = .shl ∨ op = .shr then aint op k x y else none
  | .bool x, .bool y =>
    if isBoolT P t = true then
      match op with
      | .eql => some (.bool (x == y))
      | .neq => some (.bool (x != y))
      | _ => none
    else none
  | .string x, .string y =>
    match op with
    | .eql => some (.bool (x.toList == y.toList))
    | .neq => some (.bool (!(x.toList == y.toList)))
    | .add => if ((x.size + y.size : Nat) : Int) ≤ IntKind.i64.max then some (.string (x ++ y)) else none
    | _ => none
  | .complex .f64 a b, .complex .f64 c d =>
    match op with
    | .mul => (cmulB a b c d).map fun p => .complex .f64 p.1 p.2
    | _ => none
  | _, _ => none

theorem run_cmul {P : Program} {a b c d : Nat} {p : Nat × Nat} (h : cmulB a b c d = some p) (t : TypeId) (w : World) : (binOp .mul t (.complex .f64 a b) (.complex .f64 c d)).run P w = .ok (.complex .f64 p.1 p.2) w := by
  unfold cmulB at h
  simp only [Option.bind_eq_some_iff, Option.map_eq_some_iff] at h
  obtain ⟨p1, h1, q1, h2, r1, h3, s1, h4, t1, h5, u1, h6, rfl⟩ := h
  have e1 : ∀ x y z : Nat, Ieee.double.mul x y = some z → (Op.Complex.mul x y).run P w = .ok z w := by
    intro x y z hz
    have : FloatKind.f64.format.mul x y = some z := hz
    simp [Op.Complex.mul, Op.Complex.arith, Op.floatArith, this]
  have e2 : ∀ x y z : Nat, Ieee.double.sub x y = some z → (Op.Complex.sub x y).run P w = .ok z w := by
    intro x y z hz
    have : FloatKind.f64.format.sub x y = some z := hz
    simp [Op.Complex.sub, Op.Complex.arith, Op.floatArith, this]
  have e3 : ∀ x y z : Nat, Ieee.double.add x y = some z → (Op.Complex.add x y).run P w = .ok z w := by
    intro x y z hz
    have : FloatKind.f64.format.add x y = some z := hz
    simp [Op.Complex.add, Op.Complex.arith, Op.floatArith, this]
  simp only [binOp]
  simp [Op.complexOp, Op.Complex.conv, Op.Complex.product, e1 _ _ _ h1, e1 _ _ _ h2, e2 _ _ _ h3, e1 _ _ _ h4, e1 _ _ _ h5, e3 _ _ _ h6]

theorem run_eqGuard_none {P : Program} {op : BinOp} {t : TypeId} {a b : Value} (xo yo : Operand) (w : World) (ha : ∀ c, a ≠ .agg c) (hn : a ≠ .nilIface) :
    (eqGuard op t xo yo a b).run P w = .ok () w := by
  cases a <;> first
    | exact absurd rfl hn
    | exact absurd rfl (ha _)
    | (unfold eqGuard; cases op <;> rfl)

set_option maxHeartbeats 1000000 in
theorem run_aint {P : Program} {op : BinOp} {t : TypeId} {k k' : IntKind} {x y : Int} {r : Value} (hk : k = k' ∨ op = .shl ∨ op = .shr) (h : aint op k x y = some r) (w : World) :
    (binOp op t (.int k x) (.int k' y)).run P w = .ok r w ∧ r.cells = #[r] := by
  cases op <;> simp only [aint, abits, Option.some.injEq] at h <;>
    first
    | (subst h; have hk' : k = k' := by simpa using hk
       subst hk'; simp [binOp, Op.intArith, Op.intBits, Op.intCmp, Value.cells]; done)
    | (split at h
       · cases h
       · rename_i hy
         simp only [Option.some.injEq] at h
         subst h
         simp [binOp, Op.shift, Value.cells, hy]; done)
    | (split at h
       · cases h
       · rename_i hy
         simp only [Option.some.injEq] at h
         have hk' : k = k' := by simpa using hk
         subst hk' h
         simp [binOp, Op.intDiv, Value.cells, hy]; done)

theorem run_abin {P : Program} {op : BinOp} {t : TypeId} {a b r : Value} (h : abin P op t a b = some r) (xo yo : Operand) (w : World) :
    (eqGuard op t xo yo a b).run P w = .ok () w ∧ (binOp op t a b).run P w = .ok r w ∧ r.cells = #[r] := by
  unfold abin at h
  split at h
  · split at h
    · rename_i hk
      exact ⟨run_eqGuard_none _ _ _ (by simp) (by simp), run_aint hk h w⟩
    · cases h
  · rename_i x y
    split at h
    · rename_i ht0
      have ht := isBoolT_spec ht0
      refine ⟨run_eqGuard_none _ _ _ (by simp) (by simp), ?_⟩
      cases op <;> simp only [Option.some.injEq] at h <;> first | (cases h; done) | skip
      · subst h; exact ⟨run_eql_bool w t x y ht, rfl⟩
      · subst h; simp only [binOp]; simp [run_equal_bool w t x y ht, Value.cells]; cases x <;> cases y <;> rfl
    · cases h
  · rename_i x y
    refine ⟨run_eqGuard_none _ _ _ (by simp) (by simp), ?_⟩
    cases op <;> simp only [Option.some.injEq] at h <;> first | (cases h; done) | skip
    · split at h
      · rename_i hs
        simp only [Option.some.injEq] at h
        subst h
        have hs' : ¬ (((x.size + y.size : Nat) : Int) > IntKind.i64.max) := by omega
        simp only [binOp]
        simp only [Op.stringOp, if_neg hs']
        exact ⟨rfl, rfl⟩
      · cases h
    · subst h; simp only [binOp]; simp [Op.stringOp, Value.cells]
    · subst h; simp only [binOp]; simp [Op.stringOp, Value.cells]
  · refine ⟨run_eqGuard_none _ _ _ (by simp) (by simp), ?_⟩
    split at h
    · simp only [Option.map_eq_some_iff] at h
      obtain ⟨p, hp, rfl⟩ := h
      exact ⟨run_cmul hp t w, rfl⟩
    · cases h
  · cases h

def sliceT (P : Program) (t : TypeId) : Bool := match P.underlying t with | some (.slice _) => true | _ => false
theorem sliceT_spec {P : Program} {t : TypeId} (h : sliceT P t = true) : ∃ e, P.underlying t = some (.slice e) := by
  unfold sliceT at h
  split at h
  · exact ⟨_, by assumption⟩
  · cases h

/-- What is told of 'xs == nil': of a slice with something in it, that it is not nil. -/
def nilAsk (P : Program) (op : BinOp) (t : TypeId) (x y : D) (k : D → Prop) : Prop :=
  match x, y, op with
  | .v (.slice none 0 0), .v (.slice none 0 0), .eql => sliceT P t = true ∧ k (.v (.bool true))
  | .v (.slice none 0 0), .v (.slice none 0 0), .neq => sliceT P t = true ∧ k (.v (.bool false))
  | .lst l, .v (.slice none 0 0), .eql => sliceT P t = true ∧ ∀ b : Bool, (b = true → l = []) → k (.v (.bool b))
  | .lst l, .v (.slice none 0 0), .neq => sliceT P t = true ∧ ∀ b : Bool, (b = false → l = []) → k (.v (.bool b))
  | _, _, _ => False

def opBin (P : Program) (op : BinOp) (t : TypeId) (x y : D) (k : D → Prop) : Prop :=
  match x, y with
  | .v a, .v b => match abin P op t a b with | some r => k (.v r) | none => nilAsk P op t x y k
  | _, _ => nilAsk P op t x y k

theorem run_slice_nil {P : Program} (w : World) (t e : TypeId) (a : Option Addr) (n c n' c' : Nat) (h : P.underlying t = some (.slice e)) :
    (binOp .eql t (.slice a n c) (.slice none n' c')).run P w = .ok (.bool a.isNone) w ∧ (binOp .neq t (.slice a n c) (.slice none n' c')).run P w = .ok (.bool (!a.isNone)) w := by
  have key : (Op.equal t (.slice a n c) (.slice none n' c')).run P w = .ok a.isNone w := by
    unfold Op.equal Op.maxDepth
    rw [show (10000 : Nat) = 9999 + 1 from rfl]
    unfold Op.equalIn
    cases a <;> simp [run_underlying h]
  constructor
  · simp only [binOp]; simp [key]
  · simp only [binOp]; simp [key]

theorem opBin_sound {P : Program} {o : Oper} {op : BinOp} {t yT : TypeId} {x y : Operand} (ho : o.op = .binOp op t x y yT) {K : St → D → Prop} {st : St}
    (h : opBin P op t (st.ev x) (st.ev y) (K st)) : OpX P o K st := by
  have hask : ∀ {X Y : D}, st.ev x = X → st.ev y = Y → nilAsk P op t X Y (K st) → OpX P o K st := by
    intro X Y hX hY hN
    unfold nilAsk at hN
    have run : ∀ {J0 : Nat → Prop} {ρ : Nat → Loc} {J : Nat → Prop} {B : Nat} {w0 : World} {a : Act} {w : World}, Sim J0 ρ J B w0 st a w →
        ∀ {ad n c r}, a.eval x = .slice ad n c → a.eval y = .slice none 0 0 → (binOp op t (.slice ad n c) (.slice none 0 0)).run P w = .ok r w →
        (execOp a.eval o).run P w = .ok (.value r) w := by
      intro J0 ρ J B w0 a w _ ad n c r h1 h2 h3
      simp only [execOp, ho, h1, h2, Sem.run_bind, Sem.run_pure, Result.andThen_ok, run_eqGuard_none x y w (by simp : ∀ c', (Value.slice ad n c) ≠ .agg c') (by simp), h3]
    split at hN
    · obtain ⟨hT, hk⟩ := hN
      obtain ⟨e, he⟩ := sliceT_spec hT
      refine OpX.pure _ hk fun J0 ρ J B w0 a w hs => ⟨_, run hs (by have := hs.ev x; rw [hX] at this; exact this.1) (by have := hs.ev y; rw [hY] at this; exact this.1) (run_slice_nil w t e none 0 0 0 0 he).1, rfl, rfl⟩
    · obtain ⟨hT, hk⟩ := hN
      obtain ⟨e, he⟩ := sliceT_spec hT
      refine OpX.pure _ hk fun J0 ρ J B w0 a w hs => ⟨_, run hs (by have := hs.ev x; rw [hX] at this; exact this.1) (by have := hs.ev y; rw [hY] at this; exact this.1) (run_slice_nil w t e none 0 0 0 0 he).2, rfl, rfl⟩
    · obtain ⟨hT, hk⟩ := hN
      obtain ⟨e, he⟩ := sliceT_spec hT
      intro J0 ρ J B w0 a w hs Kc Q hKc
      have h1 := hs.ev x; rw [hX] at h1
      have h2 := hs.ev y; rw [hY] at h2
      obtain ⟨ad, c, vs, h3, _, _, _, h0, h6, h7⟩ := h1
      have hr := run hs h3 h2.1 (run_slice_nil w t e ad _ c 0 0 he).1
      exact wp_value hr (hKc st ρ J _ _ w (hk ad.isNone fun hn => h0 (by simpa using hn)) rfl hs ⟨rfl, rfl⟩)
    · obtain ⟨hT, hk⟩ := hN
      obtain ⟨e, he⟩ := sliceT_spec hT
      intro J0 ρ J B w0 a w hs Kc Q hKc
      have h1 := hs.ev x; rw [hX] at h1
      have h2 := hs.ev y; rw [hY] at h2
      obtain ⟨ad, c, vs, h3, _, _, _, h0, h6, h7⟩ := h1
      have hr := run hs h3 h2.1 (run_slice_nil w t e ad _ c 0 0 he).2
      exact wp_value hr (hKc st ρ J _ _ w (hk (!ad.isNone) fun hn => h0 (by simpa using hn)) rfl hs ⟨rfl, rfl⟩)
    · exact hN.elim
  unfold opBin at h
  split at h
  · rename_i a' b' hx hy
    split at h
    · rename_i r hr
      refine OpX.pure _ h fun J0 ρ J B w0 a w hs => ?_
      have h1 := hs.ev x; rw [hx] at h1
      have h2 := hs.ev y; rw [hy] at h2
      obtain ⟨h3, h4, h5⟩ := run_abin hr x y w
      refine ⟨r, ?_, rfl, h5⟩
      simp only [execOp, ho, h1.1, h2.1, Sem.run_bind, Sem.run_pure, Result.andThen_ok, h3, h4]
    · exact hask rfl rfl h
  · exact hask rfl rfl h

end Go.VL
