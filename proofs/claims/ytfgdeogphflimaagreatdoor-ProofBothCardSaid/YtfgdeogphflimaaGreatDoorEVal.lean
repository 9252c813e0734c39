/- The proof engine, eighth text: the rules for operations on numbers, bits, arrays' values, strings' parts, pointers that are compared. -/
import Derived.Test.YtfgdeogphflimaaGreatDoorEMem2
import Derived.Stop.BytesEq
set_option linter.unusedVariables false
set_option linter.unusedSimpArgs false
namespace Go.Eng
open Go Extern.Stop

theorem wrap_u8 (n : Int) : IntKind.u8.wrap n = n % 256 := by simp [IntKind.wrap, IntKind.bits, IntKind.signed]
theorem wrap_u32 (n : Int) : IntKind.u32.wrap n = n % 4294967296 := by simp [IntKind.wrap, IntKind.bits, IntKind.signed]
theorem wrap_u64 (n : Int) : IntKind.u64.wrap n = n % 18446744073709551616 := by simp [IntKind.wrap, IntKind.bits, IntKind.signed]
/-- A word of 32 bits, a byte. -/
abbrev U32 (x : UInt32) : Value := .int .u32 (x.toNat : Int)
abbrev U8 (x : UInt8) : Value := .int .u8 (x.toNat : Int)

section
variable {P : Program} {T : TypeId}
theorem run_addU (a b : UInt32) (w : World) : (binOp .add T (U32 a) (U32 b)).run P w = .ok (U32 (a + b)) w := by
  rw [run_add, wrap_u32]
  have h := UInt32.toNat_add a b
  simp only [U32, h]
  congr 2
theorem run_mulU (a b : UInt32) (w : World) : (binOp .mul T (U32 a) (U32 b)).run P w = .ok (U32 (a * b)) w := by
  rw [run_mul, wrap_u32]
  have h := UInt32.toNat_mul a b
  simp only [U32, h]
  congr 2
theorem run_subU (a b : UInt32) (w : World) : (binOp .sub T (U32 a) (U32 b)).run P w = .ok (U32 (a - b)) w := by
  rw [run_sub, wrap_u32]
  congr 2
  rw [UInt32.toNat_sub]
  have := a.toNat_lt
  have := b.toNat_lt
  omega
theorem of_U32 (a : UInt32) : BitVec.ofInt 32 (a.toNat : Int) = a.toBitVec := by
  apply BitVec.eq_of_toNat_eq
  simp
theorem bits_U32 (v : BitVec 32) (a : UInt32) (h : a.toBitVec = v) : (.int .u32 (IntKind.u32.wrap v.toNat) : Value) = U32 a := by
  rw [wrap_u32]
  congr 1
  subst h
  have := a.toNat_lt
  simp
  omega
theorem run_xorU (a b : UInt32) (w : World) : (binOp .xor T (U32 a) (U32 b)).run P w = .ok (U32 (a ^^^ b)) w := by
  show (Op.intBits .xor .u32 a.toNat b.toNat).run P w = _
  simp only [Op.intBits, IntKind.bits, of_U32, Sem.run_pure]
  exact congrArg (fun v => Result.ok v w) (bits_U32 _ (a ^^^ b) rfl)
theorem run_andU (a b : UInt32) (w : World) : (binOp .and T (U32 a) (U32 b)).run P w = .ok (U32 (a &&& b)) w := by
  show (Op.intBits .and .u32 a.toNat b.toNat).run P w = _
  simp only [Op.intBits, IntKind.bits, of_U32, Sem.run_pure]
  exact congrArg (fun v => Result.ok v w) (bits_U32 _ (a &&& b) rfl)
theorem run_orU (a b : UInt32) (w : World) : (binOp .or T (U32 a) (U32 b)).run P w = .ok (U32 (a ||| b)) w := by
  show (Op.intBits .or .u32 a.toNat b.toNat).run P w = _
  simp only [Op.intBits, IntKind.bits, of_U32, Sem.run_pure]
  exact congrArg (fun v => Result.ok v w) (bits_U32 _ (a ||| b) rfl)
theorem run_notU (a : UInt32) (w : World) : (Op.unary .xor (U32 a)).run P w = .ok (U32 (~~~a)) w := by
  show (Op.intBits .xor .u32 (IntKind.max .u32) a.toNat).run P w = _
  simp only [Op.intBits, IntKind.bits, of_U32, Sem.run_pure, IntKind.max, IntKind.signed]
  exact congrArg (fun v => Result.ok v w) (bits_U32 _ (~~~a) (by
    rw [UInt32.toBitVec_not]
    show _ = BitVec.allOnes 32 ^^^ a.toBitVec
    exact (BitVec.allOnes_xor).symm))
theorem run_shlU {k : IntKind} {n : Int} (a : UInt32) (h : 0 ≤ n ∧ n < 32) (w : World) : (binOp .shl T (U32 a) (.int k n)).run P w = .ok (U32 (a <<< (UInt32.ofNat n.toNat))) w := by
  show (Op.shift .shl .u32 a.toNat k n).run P w = _
  unfold Op.shift
  rw [if_neg (by omega)]
  simp only [IntKind.bits, Sem.run_pure, wrap_u32]
  congr 2
  rw [UInt32.toNat_shiftLeft, UInt32.toNat_ofNat', Nat.min_eq_left (by omega), Nat.shiftLeft_eq]
  rw [show n.toNat % 2 ^ 32 % 32 = n.toNat by omega]
  simp
theorem run_shrU {k : IntKind} {n : Int} (a : UInt32) (h : 0 ≤ n ∧ n < 32) (w : World) : (binOp .shr T (U32 a) (.int k n)).run P w = .ok (U32 (a >>> (UInt32.ofNat n.toNat))) w := by
  show (Op.shift .shr .u32 a.toNat k n).run P w = _
  unfold Op.shift
  rw [if_neg (by omega)]
  simp only [IntKind.bits, Sem.run_pure]
  congr 2
  rw [UInt32.toNat_shiftRight, UInt32.toNat_ofNat', Nat.min_eq_left (by omega), Nat.shiftRight_eq_div_pow]
  rw [show n.toNat % 2 ^ 32 % 32 = n.toNat by omega]
  rw [Int.fdiv_eq_ediv_of_nonneg _ (by exact_mod_cast Nat.zero_le _)]
  simp

-- numbers of 64 bits
def inK : IntKind → Int → Prop
  | .i64, n => -9223372036854775808 ≤ n ∧ n ≤ 9223372036854775807
  | .u64, n => 0 ≤ n ∧ n ≤ 18446744073709551615
  | .u8, n => 0 ≤ n ∧ n ≤ 255
  | .u32, n => 0 ≤ n ∧ n ≤ 4294967295
  | _, _ => False
theorem wrap_inK {k : IntKind} {n : Int} (h : inK k n) : k.wrap n = n := by
  cases k <;> simp only [inK] at h
  all_goals first | exact wrap_i64 h | (rw [wrap_u8]; omega) | (rw [wrap_u32]; omega) | (rw [wrap_u64]; omega)
theorem run_shlN {k j : IntKind} {m n : Int} (h : 0 ≤ n ∧ n ≤ k.bits) (hf : inK k (m * 2 ^ n.toNat)) (w : World) : (binOp .shl T (.int k m) (.int j n)).run P w = .ok (.int k (m * 2 ^ n.toNat)) w := by
  show (Op.shift .shl k m j n).run P w = _
  unfold Op.shift
  rw [if_neg (by omega)]
  simp only [Sem.run_pure]
  rw [Nat.min_eq_left (by omega), wrap_inK hf]
theorem run_shrN {k j : IntKind} {m n : Int} (h : 0 ≤ n ∧ n ≤ k.bits) (w : World) : (binOp .shr T (.int k m) (.int j n)).run P w = .ok (.int k (m / 2 ^ n.toNat)) w := by
  show (Op.shift .shr k m j n).run P w = _
  unfold Op.shift
  rw [if_neg (by omega)]
  simp only [Sem.run_pure]
  rw [Nat.min_eq_left (by omega), Int.fdiv_eq_ediv_of_nonneg _ (Int.pow_nonneg (by decide))]
theorem run_quoN {k : IntKind} {m n : Int} (hm : 0 ≤ m) (hn : 0 < n) (hf : inK k m) (w : World) : (binOp .quo T (.int k m) (.int k n)).run P w = .ok (.int k (m / n)) w := by
  have hf' : inK k (m / n) := by
    have h1 : 0 ≤ m / n := Int.ediv_nonneg hm (by omega)
    have h2 : m / n ≤ m := Int.ediv_le_self _ hm
    cases k <;> simp only [inK] at hf ⊢ <;> omega
  simp [binOp, Op.intDiv, show ¬ n = 0 by omega, Int.tdiv_eq_ediv_of_nonneg hm, wrap_inK hf']
theorem run_remN {k : IntKind} {m n : Int} (hm : 0 ≤ m) (hn : 0 < n) (w : World) : (binOp .rem T (.int k m) (.int k n)).run P w = .ok (.int k (m % n)) w := by
  simp [binOp, Op.intDiv, show ¬ n = 0 by omega, Int.tmod_eq_emod_of_nonneg hm]
theorem ofInt_nat {b n : Nat} (h : n < 2 ^ b) : (BitVec.ofInt b (n : Int)).toNat = n := by
  simp [Nat.mod_eq_of_lt h]
def wide : IntKind → Bool
  | .i64 | .u64 => true
  | _ => false
theorem inK_wide {k : IntKind} (hk : wide k = true) {n : Nat} (h : n < 9223372036854775808) : inK k n := by
  cases k <;> simp [wide] at hk <;> simp only [inK] <;> omega
theorem bits_wide {k : IntKind} (hk : wide k = true) : k.bits = 64 := by cases k <;> simp [wide] at hk <;> rfl
theorem run_andN {k : IntKind} (hk : wide k = true) {m n : Nat} (hm : m < 9223372036854775808) (hn : n < 9223372036854775808) (w : World) : (binOp .and T (.int k m) (.int k n)).run P w = .ok (.int k ((m &&& n : Nat) : Int)) w := by
  have hb := bits_wide hk
  have : (binOp .and T (.int k m) (.int k n)).run P w = (Op.intBits .and k m n).run P w := by simp [binOp]
  rw [this]
  simp only [Op.intBits, Sem.run_pure, BitVec.toNat_and, ofInt_nat (show m < 2 ^ k.bits by rw [hb]; omega), ofInt_nat (show n < 2 ^ k.bits by rw [hb]; omega)]
  rw [wrap_inK (inK_wide hk (Nat.lt_of_le_of_lt Nat.and_le_left hm))]
theorem run_xorN {k : IntKind} (hk : wide k = true) {m n : Nat} (hm : m < 9223372036854775808) (hn : n < 9223372036854775808) (w : World) : (binOp .xor T (.int k m) (.int k n)).run P w = .ok (.int k ((m ^^^ n : Nat) : Int)) w := by
  have hb := bits_wide hk
  have : (binOp .xor T (.int k m) (.int k n)).run P w = (Op.intBits .xor k m n).run P w := by simp [binOp]
  rw [this]
  simp only [Op.intBits, Sem.run_pure, BitVec.toNat_xor, ofInt_nat (show m < 2 ^ k.bits by rw [hb]; omega), ofInt_nat (show n < 2 ^ k.bits by rw [hb]; omega)]
  rw [wrap_inK (inK_wide hk (Nat.xor_lt_two_pow (n := 63) hm hn))]
theorem run_xor8 (a b : UInt8) (w : World) : (binOp .xor T (U8 a) (U8 b)).run P w = .ok (U8 (a ^^^ b)) w := by
  show (Op.intBits .xor .u8 a.toNat b.toNat).run P w = _
  simp only [Op.intBits, Sem.run_pure, BitVec.toNat_xor]
  congr 2
  rw [ofInt_nat (show a.toNat < 2 ^ IntKind.u8.bits from a.toNat_lt), ofInt_nat (show b.toNat < 2 ^ IntKind.u8.bits from b.toNat_lt), wrap_u8, UInt8.toNat_xor]
  have : a.toNat ^^^ b.toNat < 2 ^ 8 := Nat.xor_lt_two_pow a.toNat_lt b.toNat_lt
  omega
end

section
variable {P : Program} {X : Ctx} {l0 : List Oper} {i : Nat} {l : List Oper} {C : List Touch → Prop} {acc : List Touch} {M : Own} {G : List (Nat × Fact)} {K : Own → List (Nat × Fact) → Prop}
  {d : Nat} {ty : TypeId} {ps : String} {af : Array Edge} {gd : Option (Nat × Bool)}

/-- The complement. -/
theorem t_notU {T : TypeId} {x : Operand} {a : UInt32} (hx : arg G x = some (EqV (U32 a)))
    (k : Te P X l0 C (⟨[d], [], none⟩ :: acc) (i + 1) l M ((d, EqV (U32 (~~~a))) :: G) K) (hg : Takes l0 G gd := by trivial) (hi : l0[i]? = some ⟨some d, .unOp .xor T x, ty, ps, af, gd⟩ := by rfl) (hM : owns M (some d) = false := by rfl) (hG : refdO (some d) G = false := by rfl) :
    Te P X l0 C acc i (⟨some d, .unOp .xor T x, ty, ps, af, gd⟩ :: l) M G K :=
  t_pure _ (fun a w hw => by
    have hv : a.eval x = _ := hw x (by simp [Op.operands]) _ hx
    show ((do let v ← Op.unary .xor (a.eval x); Pure.pure (Next.value v)) : Sem Next).run P w = _
    rw [hv]
    simp only [Sem.run_bind, run_notU, Result.andThen, Sem.run_pure]) k hg hi hM hG

/-- A value that is known to be this one, under another name. -/
theorem t_eq {op : Op} {v v' : Value} (e : v = v') (h : Te P X l0 C acc i (⟨some d, op, ty, ps, af, gd⟩ :: l) M G K) : Te P X l0 C acc i (⟨some d, op, ty, ps, af, gd⟩ :: l) M G K := h

/-- Truth values compared. -/
theorem run_bb {op : BinOp} {T U : TypeId} {x y : Operand} {s t : Bool} {r : Value} (hx : arg G x = some (EqV (.bool s))) (hy : arg G y = some (EqV (.bool t)))
    (hr : ∀ w, (binOp op T (.bool s) (.bool t)).run P w = .ok r w) (a : Act) (w : World) (hw : given ⟨some d, .binOp op T x y U, ty, ps, af, gd⟩ G a w) : (execOp a.eval ⟨some d, .binOp op T x y U, ty, ps, af, gd⟩).run P w = .ok (.value r) w := by
  have h1 : a.eval x = .bool s := hw x (by simp [Op.operands]) _ hx
  have h2 : a.eval y = .bool t := hw y (by simp [Op.operands]) _ hy
  show ((do let v ← (do eqGuard op T x y (a.eval x) (a.eval y); binOp op T (a.eval x) (a.eval y)); Pure.pure (Next.value v)) : Sem Next).run P w = _
  rw [h1, h2]
  have he : (eqGuard op T x y (.bool s) (.bool t)).run P w = .ok () w := by
    unfold eqGuard
    cases op <;> simp
  simp only [Sem.run_bind, he, Result.andThen, hr, Sem.run_pure]
theorem t_beq {T U : TypeId} {x y : Operand} {s t : Bool} (hT : P.underlying T = some .bool) (hx : arg G x = some (EqV (.bool s))) (hy : arg G y = some (EqV (.bool t)))
    (k : Te P X l0 C (⟨[d], [], none⟩ :: acc) (i + 1) l M ((d, EqV (.bool (s == t))) :: G) K) (hg : Takes l0 G gd := by trivial) (hi : l0[i]? = some ⟨some d, .binOp .eql T x y U, ty, ps, af, gd⟩ := by rfl) (hM : owns M (some d) = false := by rfl) (hG : refdO (some d) G = false := by rfl) :
    Te P X l0 C acc i (⟨some d, .binOp .eql T x y U, ty, ps, af, gd⟩ :: l) M G K :=
  t_pure _ (run_bb hx hy fun w => by simp [binOp, run_equal_bool w T s t hT, Result.andThen]) k hg hi hM hG
theorem t_bne {T U : TypeId} {x y : Operand} {s t : Bool} (hT : P.underlying T = some .bool) (hx : arg G x = some (EqV (.bool s))) (hy : arg G y = some (EqV (.bool t)))
    (k : Te P X l0 C (⟨[d], [], none⟩ :: acc) (i + 1) l M ((d, EqV (.bool (s != t))) :: G) K) (hg : Takes l0 G gd := by trivial) (hi : l0[i]? = some ⟨some d, .binOp .neq T x y U, ty, ps, af, gd⟩ := by rfl) (hM : owns M (some d) = false := by rfl) (hG : refdO (some d) G = false := by rfl) :
    Te P X l0 C acc i (⟨some d, .binOp .neq T x y U, ty, ps, af, gd⟩ :: l) M G K :=
  t_pure _ (run_bb hx hy fun w => by simp [binOp, run_equal_bool w T s t hT, Result.andThen, bne]) k hg hi hM hG

/-- Arrays of bytes compared. -/
theorem byteCells_cell (s : ByteArray) : byteCells s = s.data.toList.map cell := rfl
theorem run_arr {op : BinOp} {T e U : TypeId} {x y : Operand} {n : Nat} {s t : Bytes n} {r : Bool} (ho : op = .eql ∨ op = .neq) (hT : P.underlying T = some (.array n e)) (he : P.underlying e = some (.int .u8)) (hx : arg G x = some (EqV (aggS [sgB s]))) (hy : arg G y = some (EqV (aggS [sgB t])))
    (hsz : ∀ w, (sizeOf e).run P w = .ok 1 w) (hr : r = if op = .eql then decide (s.1 = t.1) else !decide (s.1 = t.1)) (hgf : P.eqGuardType P.depth T = false) (a : Act) (w : World) (hw : given ⟨some d, .binOp op T x y U, ty, ps, af, gd⟩ G a w) : (execOp a.eval ⟨some d, .binOp op T x y U, ty, ps, af, gd⟩).run P w = .ok (.value (.bool r)) w := by
  have h1 : a.eval x = aggS [sgB s] := hw x (by simp [Op.operands]) _ hx
  have h2 : a.eval y = aggS [sgB t] := hw y (by simp [Op.operands]) _ hy
  show ((do let v ← (do eqGuard op T x y (a.eval x) (a.eval y); binOp op T (a.eval x) (a.eval y)); Pure.pure (Next.value v)) : Sem Next).run P w = _
  rw [h1, h2]
  have he' : (eqGuard op T x y (aggS [sgB s]) (aggS [sgB t])).run P w = .ok () w := by
    unfold eqGuard
    rcases ho with rfl | rfl <;> simp [aggS, run_program, hgf, Result.andThen]
  have hs : flat [sgB s] = s.1.data.toList.map cell := by simp [flat, sgB, byteCells_cell]
  have ht : flat [sgB t] = t.1.data.toList.map cell := by simp [flat, sgB, byteCells_cell]
  have hq : (Op.equal T (aggS [sgB s]) (aggS [sgB t])).run P w = .ok (decide (s.1 = t.1)) w := by
    have := run_equalIn_bytes (P := P) w 9998 T e n hT he hsz s.1.data.toList t.1.data.toList (by have := s.2; simpa using this) (by have := t.2; simpa using this)
    unfold aggS
    rw [hs, ht]
    show (Op.equalIn (9998 + 2) T _ _).run P w = _
    rw [this]
    congr 1
    rw [Bool.eq_iff_iff]
    simp only [beq_iff_eq, decide_eq_true_eq]
    constructor
    · intro h
      have := Array.ext' h
      cases hs : s.1; cases ht : t.1; simp_all
    · intro h; rw [h]
  rcases ho with rfl | rfl
  · have hb : (binOp .eql T (aggS [sgB s]) (aggS [sgB t])).run P w = .ok (.bool r) w := by
      show ((do Pure.pure (.bool (← Op.equal T (aggS [sgB s]) (aggS [sgB t])))) : Sem Value).run P w = _
      simp [hq, hr, Result.andThen]
    simp only [Sem.run_bind, he', Result.andThen, hb, Sem.run_pure]
  · have hb : (binOp .neq T (aggS [sgB s]) (aggS [sgB t])).run P w = .ok (.bool r) w := by
      show ((do Pure.pure (.bool (!(← Op.equal T (aggS [sgB s]) (aggS [sgB t]))))) : Sem Value).run P w = _
      simp [hq, hr, Result.andThen]
    simp only [Sem.run_bind, he', Result.andThen, hb, Sem.run_pure]
/-- What must be known of an array type of bytes. -/
structure AI (P : Program) (T e : TypeId) (n b : Nat) : Prop where
  und : P.underlying T = some (.array n e)
  elem : TI P e (.int .u8) 1 b
  guard : P.eqGuardType P.depth T = false
theorem t_aeq {T e U : TypeId} {x y : Operand} {n b : Nat} {s t : Bytes n} (hT : AI P T e n b) (hx : arg G x = some (EqV (aggS [sgB s]))) (hy : arg G y = some (EqV (aggS [sgB t])))
    (k : Te P X l0 C (⟨[d], [], none⟩ :: acc) (i + 1) l M ((d, EqV (.bool (decide (s.1 = t.1)))) :: G) K) (hg : Takes l0 G gd := by trivial) (hi : l0[i]? = some ⟨some d, .binOp .eql T x y U, ty, ps, af, gd⟩ := by rfl) (hM : owns M (some d) = false := by rfl) (hG : refdO (some d) G = false := by rfl) :
    Te P X l0 C acc i (⟨some d, .binOp .eql T x y U, ty, ps, af, gd⟩ :: l) M G K :=
  t_pure _ (run_arr (Or.inl rfl) hT.und hT.elem.und hx hy hT.elem.size rfl hT.guard) k hg hi hM hG
theorem t_ane {T e U : TypeId} {x y : Operand} {n b : Nat} {s t : Bytes n} (hT : AI P T e n b) (hx : arg G x = some (EqV (aggS [sgB s]))) (hy : arg G y = some (EqV (aggS [sgB t])))
    (k : Te P X l0 C (⟨[d], [], none⟩ :: acc) (i + 1) l M ((d, EqV (.bool (!decide (s.1 = t.1)))) :: G) K) (hg : Takes l0 G gd := by trivial) (hi : l0[i]? = some ⟨some d, .binOp .neq T x y U, ty, ps, af, gd⟩ := by rfl) (hM : owns M (some d) = false := by rfl) (hG : refdO (some d) G = false := by rfl) :
    Te P X l0 C acc i (⟨some d, .binOp .neq T x y U, ty, ps, af, gd⟩ :: l) M G K :=
  t_pure _ (run_arr (Or.inr rfl) hT.und hT.elem.und hx hy hT.elem.size (by simp) hT.guard) k hg hi hM hG

/-- Two pointers, of which one is nil. -/
theorem run_ptr {op : BinOp} {T U e : TypeId} {x y : Operand} {p q : Option Addr} {r : Bool} (hT : P.underlying T = some (.pointer e)) (ho : op = .eql ∨ op = .neq) (hr : r = if op = .eql then (p.isNone && q.isNone) else !(p.isNone && q.isNone)) (hn : p = none ∨ q = none) (a : Act) (w : World) (h1 : a.eval x = .pointer p) (h2 : a.eval y = .pointer q) :
    (execOp a.eval ⟨some d, .binOp op T x y U, ty, ps, af, gd⟩).run P w = .ok (.value (.bool r)) w := by
  show ((do let v ← (do eqGuard op T x y (a.eval x) (a.eval y); binOp op T (a.eval x) (a.eval y)); Pure.pure (Next.value v)) : Sem Next).run P w = _
  rw [h1, h2]
  have he : (eqGuard op T x y (.pointer p) (.pointer q)).run P w = .ok () w := by
    unfold eqGuard
    cases op <;> simp
  have hq : (Op.equal T (.pointer p) (.pointer q)).run P w = .ok (p.isNone && q.isNone) w := by
    show (Op.equalIn (9999 + 1) T _ _).run P w = _
    rw [Op.equalIn]
    rcases hn with rfl | rfl
    · simp [run_underlying hT, Result.andThen]
    · cases p <;> simp [run_underlying hT, Result.andThen]
  rcases ho with rfl | rfl
  · have hb : (binOp .eql T (.pointer p) (.pointer q)).run P w = .ok (.bool r) w := by
      show ((do Pure.pure (.bool (← Op.equal T (.pointer p) (.pointer q)))) : Sem Value).run P w = _
      simp [hq, hr, Result.andThen]
    simp only [Sem.run_bind, he, Result.andThen, hb, Sem.run_pure]
  · have hb : (binOp .neq T (.pointer p) (.pointer q)).run P w = .ok (.bool r) w := by
      show ((do Pure.pure (.bool (!(← Op.equal T (.pointer p) (.pointer q))))) : Sem Value).run P w = _
      simp [hq, hr, Result.andThen]
    simp only [Sem.run_bind, he, Result.andThen, hb, Sem.run_pure]
/-- A pointer that leads somewhere is not nil. -/
theorem t_nonnil {T U e : TypeId} {x : Operand} {φ : Pred} (hT : P.underlying T = some (.pointer e)) (hφ : ∀ v w, φ v w → ∃ a, v = .pointer (some a)) (hx : arg G x = some (.plain φ))
    (k : Te P X l0 C (⟨[d], [], none⟩ :: acc) (i + 1) l M ((d, EqV (.bool false)) :: G) K) (hg : Takes l0 G gd := by trivial) (hi : l0[i]? = some ⟨some d, .binOp .eql T x (.const (.pointer none)) U, ty, ps, af, gd⟩ := by rfl) (hM : owns M (some d) = false := by rfl) (hG : refdO (some d) G = false := by rfl) :
    Te P X l0 C acc i (⟨some d, .binOp .eql T x (.const (.pointer none)) U, ty, ps, af, gd⟩ :: l) M G K :=
  t_pure _ (fun a w hw => by
    obtain ⟨p, hp⟩ := hφ _ _ (hw x (by simp [Op.operands]) _ hx)
    exact run_ptr hT (Or.inl rfl) (by simp) (Or.inr rfl) a w hp rfl) k hg hi hM hG
theorem t_nonnilp {T U e : TypeId} {x : Operand} {k off : Nat} (hT : P.underlying T = some (.pointer e)) (hx : arg G x = some (.ptr k off))
    (kk : Te P X l0 C (⟨[d], [], none⟩ :: acc) (i + 1) l M ((d, EqV (.bool false)) :: G) K) (hg : Takes l0 G gd := by trivial) (hi : l0[i]? = some ⟨some d, .binOp .eql T x (.const (.pointer none)) U, ty, ps, af, gd⟩ := by rfl) (hM : owns M (some d) = false := by rfl) (hG : refdO (some d) G = false := by rfl) :
    Te P X l0 C acc i (⟨some d, .binOp .eql T x (.const (.pointer none)) U, ty, ps, af, gd⟩ :: l) M G K :=
  t_pure _ (fun a w hw => run_ptr hT (Or.inl rfl) (by simp) (Or.inr rfl) a w (hw x (by simp [Op.operands]) _ hx) rfl) kk hg hi hM hG

/-- A pointer that leads somewhere, looked at for nil. -/
theorem t_nck {x : Operand} {φ : Pred} (hφ : ∀ v w, φ v w → ∃ a, v = .pointer (some a)) (hx : arg G x = some (.plain φ))
    (k : Te P X l0 C (⟨[d], [], none⟩ :: acc) (i + 1) l M ((d, .plain φ) :: G) K) (hg : Takes l0 G gd := by trivial) (hi : l0[i]? = some ⟨some d, .nilCheck x, ty, ps, af, gd⟩ := by rfl) (hM : owns M (some d) = false := by rfl) (hG : refdO (some d) G = false := by rfl) :
    Te P X l0 C acc i (⟨some d, .nilCheck x, ty, ps, af, gd⟩ :: l) M G K :=
  t_pred φ (fun a => ⟨a.eval x, fun w hw => by
    have h := hw x (by simp [Op.operands]) _ hx
    obtain ⟨p, hp⟩ := hφ _ _ h
    refine ⟨h, ?_⟩
    unfold execOp
    simp only [hp, Sem.run_pure]⟩) k hg hi hM hG
theorem t_nckp {x : Operand} {k off : Nat} (hx : arg G x = some (.ptr k off))
    (kk : Te P X l0 C (⟨[d], [], some k⟩ :: acc) (i + 1) l M ((d, .ptr k off) :: G) K) (hne : Nat.beq k d = false := by rfl) (hg : Takes l0 G gd := by trivial) (hi : l0[i]? = some ⟨some d, .nilCheck x, ty, ps, af, gd⟩ := by rfl) (hM : owns M (some d) = false := by rfl) (hG : refdO (some d) G = false := by rfl) :
    Te P X l0 C acc i (⟨some d, .nilCheck x, ty, ps, af, gd⟩ :: l) M G K := by
  refine t_clean (o := ⟨some d, .nilCheck x, ty, ps, af, gd⟩) (φ := .ptr k off) (Ob.val hi hg fun M a w hn hm _ _ hp3 hk => ?_) hM hG kk
  have hv := hk.now x (by simp [Op.operands]) _ hx
  have hkd : d ≠ k := fun e => by subst e; simp at hne
  simp only [sem] at hv
  refine ⟨a.eval x, w, ?_, Stepd.of_clean hm (dst_none hp3) (Chg.refl _ _), Know.const ?_⟩
  · unfold execOp
    simp only [hv, Sem.run_pure]
  · simp only [sem]
    rw [getD_put_ne hkd, hv]

/-- An element of an array's value: of one cell. -/
theorem t_index {T e : TypeId} {x y : Operand} {n n' b' : Nat} {S : Segs} {j : IntKind} {m : Int} {v : Value} {de : TypeDesc} (hT : P.underlying T = some (.array n e)) (he : TI P e de n' b') (hag : aggD de = false) (hx : arg G x = some (EqV (aggS S))) (hy : arg G y = some (EqV (.int j m))) (h0 : 0 ≤ m) (hm : m < n) (hv : (flat S)[m.toNat * n']? = some v)
    (k : Te P X l0 C (⟨[d], [], none⟩ :: acc) (i + 1) l M ((d, EqV v) :: G) K) (hg : Takes l0 G gd := by trivial) (hi : l0[i]? = some ⟨some d, .index T x y, ty, ps, af, gd⟩ := by rfl) (hM : owns M (some d) = false := by rfl) (hG : refdO (some d) G = false := by rfl) :
    Te P X l0 C acc i (⟨some d, .index T x y, ty, ps, af, gd⟩ :: l) M G K :=
  t_pure _ (fun a w hw => by
    have h1 : a.eval x = aggS S := hw x (by simp [Op.operands]) _ hx
    have h2 : a.eval y = .int j m := hw y (by simp [Op.operands]) _ hy
    show ((do let v ← Instr.index T (a.eval x) (a.eval y); Pure.pure (Next.value v)) : Sem Next).run P w = _
    rw [h1, h2]
    have hp : (part e (flat S).toArray (m.toNat * n')).run P w = .ok v w := by
      simp [part, he.agg, hag, Result.andThen, hv]
    simp [Instr.index, aggS, asIntOf, run_underlying hT, Result.andThen, h0, hm, he.size, hp]) k hg hi hM hG
/-- An element of an array's value that is an array or a struct itself. -/
theorem t_indexA {T e : TypeId} {x y : Operand} {n n' b' : Nat} {S S1 S2 : Segs} {j : IntKind} {m : Int} {de : TypeDesc} (hT : P.underlying T = some (.array n e)) (he : TI P e de n' b') (hag : aggD de = true) (hx : arg G x = some (EqV (aggS S))) (hy : arg G y = some (EqV (.int j m))) (h0 : 0 ≤ m) (hm : m < n) (h1 : segDrop S (m.toNat * n') = some S1) (h2 : segTake S1 n' = some S2)
    (k : Te P X l0 C (⟨[d], [], none⟩ :: acc) (i + 1) l M ((d, EqV (aggS S2)) :: G) K) (hg : Takes l0 G gd := by trivial) (hi : l0[i]? = some ⟨some d, .index T x y, ty, ps, af, gd⟩ := by rfl) (hM : owns M (some d) = false := by rfl) (hG : refdO (some d) G = false := by rfl) :
    Te P X l0 C acc i (⟨some d, .index T x y, ty, ps, af, gd⟩ :: l) M G K :=
  t_pure _ (fun a w hw => by
    have hv1 : a.eval x = aggS S := hw x (by simp [Op.operands]) _ hx
    have hv2 : a.eval y = .int j m := hw y (by simp [Op.operands]) _ hy
    show ((do let v ← Instr.index T (a.eval x) (a.eval y); Pure.pure (Next.value v)) : Sem Next).run P w = _
    rw [hv1, hv2]
    obtain ⟨e1, _⟩ := segDrop_spec h1
    obtain ⟨e2, _⟩ := segTake_spec h2
    have hp : (part e (flat S).toArray (m.toNat * n')).run P w = .ok (aggS S2) w := by
      simp [part, he.agg, hag, Result.andThen, he.size, aggS, ← e2, ← e1, List.extract_eq_take_drop]
    simp [Instr.index, aggS, asIntOf, run_underlying hT, Result.andThen, h0, hm, he.size] at hp ⊢
    simp [hp]) k hg hi hM hG
/-- A byte of a string. -/
theorem t_sidx {T : TypeId} {x y : Operand} {s : ByteArray} {j : IntKind} {m : Int} (hT : P.underlying T = some .string) (hx : arg G x = some (EqV (.string s))) (hy : arg G y = some (EqV (.int j m))) (h0 : 0 ≤ m) (hm : m.toNat < s.size)
    (k : Te P X l0 C (⟨[d], [], none⟩ :: acc) (i + 1) l M ((d, EqV (U8 (s[m.toNat]'hm))) :: G) K) (hg : Takes l0 G gd := by trivial) (hi : l0[i]? = some ⟨some d, .index T x y, ty, ps, af, gd⟩ := by rfl) (hM : owns M (some d) = false := by rfl) (hG : refdO (some d) G = false := by rfl) :
    Te P X l0 C acc i (⟨some d, .index T x y, ty, ps, af, gd⟩ :: l) M G K :=
  t_pure _ (fun a w hw => by
    have h1 : a.eval x = .string s := hw x (by simp [Op.operands]) _ hx
    have h2 : a.eval y = .int j m := hw y (by simp [Op.operands]) _ hy
    show ((do let v ← Instr.index T (a.eval x) (a.eval y); Pure.pure (Next.value v)) : Sem Next).run P w = _
    rw [h1, h2]
    have : s[m.toNat]? = some (s[m.toNat]'hm) := getElem?_pos s m.toNat hm
    simp [Instr.index, asIntOf, run_underlying hT, Result.andThen, h0, this]) k hg hi hM hG
/-- The bounds of a cut. -/
def bnd (G : List (Nat × Fact)) : Option Operand → Nat → Nat → Prop
  | none, dft, v => v = dft
  | some x, _, v => ∃ j, arg G x = some (EqV (.int j v))
theorem run_bounds {G : List (Nat × Fact)} {lo hi : Option Operand} {sl : Bool} {n c m h : Nat} (hlo : bnd G lo 0 m) (hhi : bnd G hi n h) (hmh : m ≤ h) (hhc : h ≤ c) (hnc : n ≤ c) (a : Act) (w : World) (hw : ∀ x, (lo = some x ∨ hi = some x) → ∀ ψ, arg G x = some ψ → sem ψ (a.eval x) a w) :
    (Instr.sliceBounds sl n c (lo.map a.eval) (hi.map a.eval) none).run P w = .ok (m, h, c) w := by
  have hb : ∀ (v : Value) (j : IntKind) (q y : Nat) (code : BoundsCode), v = .int j q → q ≤ y → (Instr.sliceBound v y code).run P w = .ok q w := by
    intro v j q y code hv hq
    subst hv
    simp [Instr.sliceBound, asIntOf, Result.andThen, hq]
  cases lo with
  | none =>
    have : m = 0 := hlo
    subst this
    cases hi with
    | none =>
      have : h = n := hhi
      subst this
      simp [Instr.sliceBounds, Result.andThen]
    | some y =>
      obtain ⟨j, hj⟩ := hhi
      have hv : a.eval y = .int j h := hw y (Or.inr rfl) _ hj
      simp [Instr.sliceBounds, Result.andThen, hb _ j h c _ hv hhc]
  | some x =>
    obtain ⟨j, hj⟩ := hlo
    have hv : a.eval x = .int j m := hw x (Or.inl rfl) _ hj
    cases hi with
    | none =>
      have : h = n := hhi
      subst this
      simp [Instr.sliceBounds, Result.andThen, hb _ j m h _ hv hmh]
    | some y =>
      obtain ⟨j', hj'⟩ := hhi
      have hv' : a.eval y = .int j' h := hw y (Or.inr rfl) _ hj'
      simp [Instr.sliceBounds, Result.andThen, hb _ j' h c _ hv' hhc, hb _ j m h _ hv hmh]
theorem cut_ops {T : TypeId} {x : Operand} {lo hi : Option Operand} {a : Act} {w : World} (hw : given ⟨some d, .slice T x lo hi none, ty, ps, af, gd⟩ G a w) : ∀ y, (lo = some y ∨ hi = some y) → ∀ ψ, arg G y = some ψ → sem ψ (a.eval y) a w := fun y hy ψ hψ => by
  refine hw y ?_ ψ hψ
  rcases hy with rfl | rfl <;> simp [Op.operands]
/-- A part of a string. -/
theorem t_scut {T : TypeId} {x : Operand} {lo hi : Option Operand} {s : ByteArray} (m h : Nat) (hT : P.underlying T = some .string) (hx : arg G x = some (EqV (.string s))) (hlo : bnd G lo 0 m) (hhi : bnd G hi s.size h) (hmh : m ≤ h) (hh : h ≤ s.size)
    (k : Te P X l0 C (⟨[d], [], none⟩ :: acc) (i + 1) l M ((d, EqV (.string (s.extract m h))) :: G) K) (hg : Takes l0 G gd := by trivial) (hi' : l0[i]? = some ⟨some d, .slice T x lo hi none, ty, ps, af, gd⟩ := by rfl) (hM : owns M (some d) = false := by rfl) (hG : refdO (some d) G = false := by rfl) :
    Te P X l0 C acc i (⟨some d, .slice T x lo hi none, ty, ps, af, gd⟩ :: l) M G K :=
  t_pure _ (fun a w hw => by
    have h1 : a.eval x = .string s := hw x (by simp [Op.operands]) _ hx
    have hb := run_bounds (P := P) (sl := false) hlo hhi hmh hh (Nat.le_refl _) a w (cut_ops hw)
    show ((do let v ← Instr.sliceAt T (a.eval x) (lo.map a.eval) (hi.map a.eval) none; Pure.pure (Next.value v)) : Sem Next).run P w = _
    rw [h1]
    simp only [Instr.sliceAt, Sem.run_bind, run_underlying hT, Result.andThen]
    simp [Instr.slice, run_underlying hT, Result.andThen, hb]) k hg hi' hM hG
end
end Go.Eng
