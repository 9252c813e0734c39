/- The proof engine, second text: the rules for single operations that only compute, for calls, and for the function's end. -/
import Derived.Test.YtfgdeogphflimaaGreatDoorECore
set_option linter.unusedVariables false
set_option linter.unusedSimpArgs false
namespace Go.Eng
open Go

/-- What is known of an operand. -/
def arg (G : List (Nat × Fact)) : Operand → Option Fact
  | .tmp t => look t G
  | .const v => some (EqV v)
  | .global g => some (EqV (.pointer (some ⟨g, 0, none⟩)))
  | .func f => some (EqV (.func (.func f) #[] #[]))

/-- The guard, if there is one, lets it be done. -/
def Takes (l0 : List Oper) (G : List (Nat × Fact)) : Option (Nat × Bool) → Prop
  | none => True
  | some (g, want) => ∃ t b, dstOf l0 g = some t ∧ look t G = some (EqV (.bool b)) ∧ b = want

theorem yielded_of {l0 : List Oper} {g t : Nat} {b : Bool} {tmps : Array Value} (hd : dstOf l0 g = some t) (hv : tmps.getD t undef = .bool b) : yielded l0.toArray tmps g = some b := by
  unfold yielded
  have h1 : (l0.toArray[g]?).bind (·.dst) = some t := by simpa [dstOf] using hd
  rw [h1]
  simp only [Option.bind_some]
  rw [Array.getD_eq_getD_getElem?] at hv
  cases ht : tmps[t]? with
  | none => rw [ht] at hv; simp [undef] at hv
  | some v => rw [ht] at hv; simp at hv; rw [hv]

theorem mem_looks {l0 : List Oper} {o : Oper} {t : Nat} (h : .tmp t ∈ o.op.operands) : t ∈ o.looksAt l0.toArray :=
  List.mem_append_left _ (List.mem_filterMap.2 ⟨.tmp t, by simpa using h, rfl⟩)

/-- The operands are as they are known. -/
def given (o : Oper) (G : List (Nat × Fact)) (a : Act) (w : World) : Prop := ∀ x ∈ o.op.operands, ∀ ψ, arg G x = some ψ → sem ψ (a.eval x) a w

theorem given_of {l0 : List Oper} {o : Oper} {G : List (Nat × Fact)} {a : Act} {w : World} (h : seen_ l0 o G a w) : given o G a w := by
  intro x hx ψ hψ
  cases x with
  | tmp t => exact h t (mem_looks hx) ψ hψ
  | const v => injection hψ with hψ; subst hψ; exact rfl
  | global g => injection hψ with hψ; subst hψ; exact rfl
  | func f => injection hψ with hψ; subst hψ; exact rfl

theorem wanted_of {l0 : List Oper} {o : Oper} {G : List (Nat × Fact)} {a : Act} {w : World} (hg : Takes l0 G o.guard) (h : seen_ l0 o G a w) : Region.wanted o (yielded l0.toArray a.tmps) = true := by
  unfold Region.wanted
  cases ho : o.guard with
  | none => rfl
  | some x =>
    obtain ⟨g, want⟩ := x
    rw [ho] at hg
    obtain ⟨t, b, hd, hl, rfl⟩ := hg
    have hm : t ∈ o.looksAt l0.toArray := by
      unfold Oper.looksAt
      rw [ho]
      refine List.mem_append_right _ ?_
      have : (l0.toArray[g]?).bind (·.dst) = some t := by simpa [dstOf] using hd
      show t ∈ ((l0.toArray[g]?).bind (·.dst)).toList
      rw [this]; simp
    have := yielded_of hd (h t hm _ hl)
    simp [this]

/-- AN OPERATION THAT YIELDS A VALUE. -/
theorem Ob.val {P : Program} {X : Ctx} {l0 : List Oper} {i : Nat} {o : Oper} {pre : List (Nat × Res)} {G : List (Nat × Fact)} {φ : Fact} {post : Own} (hi : l0[i]? = some o) (hg : Takes l0 G o.guard)
    (h : ∀ (M : Mm) (a : Act) (w : World), a.tmps.size = X.n → Mem X M a w → (∀ x ∈ pre, M x.1 = some x.2) → (∀ x ∈ post, M x.1 = none ∨ x.1 ∈ pre.map (·.1)) → (∀ d, o.dst = some d → M d = none ∨ d ∈ pre.map (·.1)) → Know (Ex X M a w) w (given o G a) →
      ∃ v w', (execOp a.eval o).run P w = .ok (.value v) w' ∧ Stepd X M a (upd M post) (a.put o.dst v) w w' ∧ Know (Ex X (upd M post) (a.put o.dst v) w') w' (sem φ v (a.put o.dst v))) : Ob P X l0 i o pre G φ post := by
  intro M a w Q K hn hm hp1 hp2 hp3 hk hK
  obtain ⟨v, w', h1, h2, h3⟩ := h M a w hn hm hp1 hp2 hp3 (hk.imp fun _ hw => given_of hw)
  unfold wpOp
  have hi' : l0.toArray[i]? = some o := by simpa using hi
  rw [hi']
  simp only
  rw [if_pos (wanted_of hg hk.now)]
  refine Or.inl ?_
  unfold Oper.wp
  rw [h1]
  exact hK v w' h2 h3

/-- AN OPERATION THAT YIELDS NONE. -/
theorem Ob.skip {P : Program} {X : Ctx} {l0 : List Oper} {i : Nat} {o : Oper} {pre : List (Nat × Res)} {G : List (Nat × Fact)} {post : Own} (hi : l0[i]? = some o) (hg : Takes l0 G o.guard)
    (h : ∀ (M : Mm) (a : Act) (w : World), a.tmps.size = X.n → Mem X M a w → (∀ x ∈ pre, M x.1 = some x.2) → (∀ x ∈ post, M x.1 = none ∨ x.1 ∈ pre.map (·.1)) → (∀ d, o.dst = some d → M d = none ∨ d ∈ pre.map (·.1)) → Know (Ex X M a w) w (given o G a) →
      ∃ w', (execOp a.eval o).run P w = .ok .skip w' ∧ Stepd X M a (upd M post) (a.put o.dst undef) w w') : Ob P X l0 i o pre G (EqV undef) post := by
  intro M a w Q K hn hm hp1 hp2 hp3 hk hK
  obtain ⟨w', h1, h2⟩ := h M a w hn hm hp1 hp2 hp3 (hk.imp fun _ hw => given_of hw)
  unfold wpOp
  have hi' : l0.toArray[i]? = some o := by simpa using hi
  rw [hi']
  simp only
  rw [if_pos (wanted_of hg hk.now)]
  refine Or.inl ?_
  unfold Oper.wp
  rw [h1]
  exact hK undef w' h2 (Know.const rfl)

theorem dst_none {M : Mm} {o : Oper} (h : ∀ d, o.dst = some d → M d = none ∨ d ∈ ([] : List (Nat × Res)).map (·.1)) (k : Nat) (hk : o.dst = some k) : M k = none := (h k hk).resolve_right (by simp)

/-- AN OPERATION THAT ITS GUARD PASSES BY. -/
theorem Ob.pass {P : Program} {X : Ctx} {l0 : List Oper} {i : Nat} {o : Oper} {G : List (Nat × Fact)} {g t : Nat} {want b : Bool} (hi : l0[i]? = some o) (ho : o.guard = some (g, want)) (hd : dstOf l0 g = some t)
    (hl : look t G = some (EqV (.bool b))) (hb : b = !want) : Ob P X l0 i o [] G (EqV undef) [] := by
  intro M a w Q K hn hm hp1 hp2 hp3 hk hK
  unfold wpOp
  have hi' : l0.toArray[i]? = some o := by simpa using hi
  rw [hi']
  simp only
  have hml : t ∈ o.looksAt l0.toArray := by
    unfold Oper.looksAt
    rw [ho]
    refine List.mem_append_right _ ?_
    have : (l0.toArray[g]?).bind (·.dst) = some t := by simpa [dstOf] using hd
    show t ∈ ((l0.toArray[g]?).bind (·.dst)).toList
    rw [this]; simp
  have hy := yielded_of hd (hk.now t hml _ hl)
  have hw : Region.wanted o (yielded l0.toArray a.tmps) = false := by
    unfold Region.wanted
    rw [ho]
    simp only [hy, hb]
    cases want <;> simp
  rw [hw]
  simp only [Bool.false_eq_true, if_false]
  have hu : upd M [] = M := rfl
  exact hK undef w (by rw [hu]; exact Stepd.of_clean hm (dst_none hp3) (Chg.refl _ _)) (Know.const rfl)

/-- A CALL OF A FUNCTION. -/
theorem Ob.call {P : Program} {X : Ctx} {l0 : List Oper} {i : Nat} {o : Oper} {pre : List (Nat × Res)} {G : List (Nat × Fact)} {φ : Fact} {post : Own} (hi : l0[i]? = some o) (hg : Takes l0 G o.guard)
    (h : ∀ (M : Mm) (a : Act) (w : World), a.tmps.size = X.n → Mem X M a w → (∀ x ∈ pre, M x.1 = some x.2) → (∀ x ∈ post, M x.1 = none ∨ x.1 ∈ pre.map (·.1)) → (∀ d, o.dst = some d → M d = none ∨ d ∈ pre.map (·.1)) → Know (Ex X M a w) w (given o G a) →
      ∃ f args, (execOp a.eval o).run P w = .ok (.enter f args) w ∧ Calls P f args w fun e w' => ∃ v, e = .returned v ∧ Stepd X M a (upd M post) (a.put o.dst v) w w' ∧ Know (Ex X (upd M post) (a.put o.dst v) w') w' (sem φ v (a.put o.dst v))) : Ob P X l0 i o pre G φ post := by
  intro M a w Q K hn hm hp1 hp2 hp3 hk hK
  obtain ⟨f, args, h1, h2⟩ := h M a w hn hm hp1 hp2 hp3 (hk.imp fun _ hw => given_of hw)
  unfold wpOp
  have hi' : l0.toArray[i]? = some o := by simpa using hi
  rw [hi']
  simp only
  rw [if_pos (wanted_of hg hk.now)]
  refine Or.inl ?_
  unfold Oper.wp
  rw [h1]
  refine h2.mono ?_
  rintro e w' ⟨v, rfl, hs, hv⟩
  exact hK v w' hs hv

/-- An operation that changes nothing and makes nothing: its value, of which as much is known as 'φ' says. -/
theorem Ob.same {P : Program} {X : Ctx} {l0 : List Oper} {i : Nat} {o : Oper} {G : List (Nat × Fact)} {φ : Pred} (hi : l0[i]? = some o) (hg : Takes l0 G o.guard)
    (h : ∀ (a : Act), ∃ v, ∀ w, given o G a w → φ v w ∧ (execOp a.eval o).run P w = .ok (.value v) w) : Ob P X l0 i o [] G (.plain φ) [] :=
  Ob.val hi hg fun M a w _ hm _ _ hp3 hk => by
    obtain ⟨v, hv⟩ := h a
    have hs : Stepd X M a M (a.put o.dst v) w w := Stepd.of_clean hm (dst_none hp3) (Chg.refl _ _)
    exact ⟨v, w, (hv w hk.now).2, hs, (hk.imp fun w' hw => (hv w' hw).1).stepd hs⟩
/-- An operation that only computes: one value, in every world. -/
theorem Ob.pure {P : Program} {X : Ctx} {l0 : List Oper} {i : Nat} {o : Oper} {G : List (Nat × Fact)} (c : Value) (hi : l0[i]? = some o) (hg : Takes l0 G o.guard)
    (h : ∀ (a : Act) (w : World), given o G a w → (execOp a.eval o).run P w = .ok (.value c) w) : Ob P X l0 i o [] G (EqV c) [] :=
  Ob.same hi hg fun a => ⟨c, fun w hw => ⟨rfl, h a w hw⟩⟩

section
variable {P : Program} {X : Ctx} {l0 : List Oper} {i : Nat} {l : List Oper} {C : List Touch → Prop} {acc : List Touch} {M : Own} {G : List (Nat × Fact)} {K : Own → List (Nat × Fact) → Prop}
  {d : Nat} {ty : TypeId} {ps : String} {af : Array Edge} {gd : Option (Nat × Bool)}

/-- Onward behind an operation that touches no memory of one's own. -/
def owns (M : Own) (d : Option Nat) : Bool := match d with | some d => (memOf M d).isSome | none => false
def refdO (d : Option Nat) (G : List (Nat × Fact)) : Bool := match d with | some d => refd d G | none => false
theorem t_clean {o : Oper} {φ : Fact} (h : Ob P X l0 i o [] G φ []) (hM : owns M o.dst = false) (hG : refdO o.dst G = false) (k : Te P X l0 C (⟨o.dst.toList ++ [], [], refs φ⟩ :: acc) (i + 1) l M (putG o.dst φ G) K) :
    Te P X l0 C acc i (o :: l) M G K  :=
  Te.op [] φ [] h (by simp) (by simp) (fun d hd => by
    rw [hd] at hM hG
    refine ⟨Or.inl ?_, hG⟩
    simp only [owns] at hM
    cases hv : memOf M d with
    | none => rfl
    | some r => rw [hv] at hM; cases hM) k
theorem t_end {i : Nat} (h : K M G) : Te P X l0 (fun _ => True) acc i [] M G K := Te.nil h trivial
theorem t_end_any {i : Nat} {G0 : List (Nat × Fact)} (h : K M G) (hc : okAny l0 acc.reverse G0 = true) : Te P X l0 (fun bs => okAny l0 bs G0 = true) acc i [] M G K := Te.nil h hc
theorem t_pass {dst : Option Nat} {op : Op} {g t : Nat} {want b : Bool} (hb : b = !want) (k : Te P X l0 C (⟨dst.toList ++ [], [], none⟩ :: acc) (i + 1) l M (putG dst (EqV undef) G) K)
    (hi : l0[i]? = some ⟨dst, op, ty, ps, af, some (g, want)⟩ := by rfl) (hd : dstOf l0 g = some t := by rfl) (hl : look t G = some (EqV (.bool b)) := by rfl) (hM : owns M dst = false := by rfl) (hG : refdO dst G = false := by rfl) :
    Te P X l0 C acc i (⟨dst, op, ty, ps, af, some (g, want)⟩ :: l) M G K  :=
  t_clean (o := ⟨dst, op, ty, ps, af, some (g, want)⟩) (Ob.pass hi rfl hd hl hb) hM hG k

/-- Onward behind an operation that only computes. -/
theorem t_pure {op : Op} (c : Value) (h : ∀ (a : Act) (w : World), given ⟨some d, op, ty, ps, af, gd⟩ G a w → (execOp a.eval ⟨some d, op, ty, ps, af, gd⟩).run P w = .ok (.value c) w)
    (k : Te P X l0 C (⟨[d], [], none⟩ :: acc) (i + 1) l M ((d, EqV c) :: G) K) (hg : Takes l0 G gd) (hi : l0[i]? = some ⟨some d, op, ty, ps, af, gd⟩) (hM : owns M (some d) = false) (hG : refdO (some d) G = false) :
    Te P X l0 C acc i (⟨some d, op, ty, ps, af, gd⟩ :: l) M G K  :=
  t_clean (o := ⟨some d, op, ty, ps, af, gd⟩) (Ob.pure c hi hg h) hM hG k

theorem t_move {x : Operand} {φ : Pred} (ha : arg G x = some (.plain φ)) (k : Te P X l0 C (⟨[d], [], none⟩ :: acc) (i + 1) l M ((d, .plain φ) :: G) K) (hg : Takes l0 G gd := by trivial) (hi : l0[i]? = some ⟨some d, .move x, ty, ps, af, gd⟩ := by rfl) (hM : owns M (some d) = false := by rfl) (hG : refdO (some d) G = false := by rfl) :
    Te P X l0 C acc i (⟨some d, .move x, ty, ps, af, gd⟩ :: l) M G K  :=
  t_clean (o := ⟨some d, .move x, ty, ps, af, gd⟩) (Ob.same hi hg fun a => ⟨a.eval x, fun w hw => ⟨hw x (by simp [Op.operands]) _ ha, rfl⟩⟩) hM hG k
theorem t_assign {x : Operand} {φ : Pred} (ha : arg G x = some (.plain φ)) (k : Te P X l0 C (⟨[d], [], none⟩ :: acc) (i + 1) l M ((d, .plain φ) :: G) K) (hg : Takes l0 G gd := by trivial) (hi : l0[i]? = some ⟨some d, .assign x, ty, ps, af, gd⟩ := by rfl) (hM : owns M (some d) = false := by rfl) (hG : refdO (some d) G = false := by rfl) :
    Te P X l0 C acc i (⟨some d, .assign x, ty, ps, af, gd⟩ :: l) M G K  :=
  t_clean (o := ⟨some d, .assign x, ty, ps, af, gd⟩) (Ob.same hi hg fun a => ⟨a.eval x, fun w hw => ⟨hw x (by simp [Op.operands]) _ ha, rfl⟩⟩) hM hG k

/-- Two whole numbers. -/
theorem run_int {op : BinOp} {T U : TypeId} {x y : Operand} {k j : IntKind} {m n : Int} {r : Value} (hx : arg G x = some (EqV (.int k m))) (hy : arg G y = some (EqV (.int j n)))
    (hr : ∀ w, (binOp op T (.int k m) (.int j n)).run P w = .ok r w) (a : Act) (w : World) (hw : given ⟨some d, .binOp op T x y U, ty, ps, af, gd⟩ G a w) : (execOp a.eval ⟨some d, .binOp op T x y U, ty, ps, af, gd⟩).run P w = .ok (.value r) w := by
  have h1 : a.eval x = .int k m := hw x (by simp [Op.operands]) _ hx
  have h2 : a.eval y = .int j n := hw y (by simp [Op.operands]) _ hy
  show ((do let v ← (do eqGuard op T x y (a.eval x) (a.eval y); binOp op T (a.eval x) (a.eval y)); Pure.pure (Next.value v)) : Sem Next).run P w = _
  rw [h1, h2]
  have he : (eqGuard op T x y (.int k m) (.int j n)).run P w = .ok () w := by
    unfold eqGuard
    cases op <;> simp
  simp only [Sem.run_bind, he, Result.andThen, hr, Sem.run_pure]

theorem t_int (op : BinOp) {T U : TypeId} {x y : Operand} {k j : IntKind} {m n : Int} (r : Value) (hr : ∀ w, (binOp op T (.int k m) (.int j n)).run P w = .ok r w) (hx : arg G x = some (EqV (.int k m))) (hy : arg G y = some (EqV (.int j n)))
    (kk : Te P X l0 C (⟨[d], [], none⟩ :: acc) (i + 1) l M ((d, EqV r) :: G) K) (hg : Takes l0 G gd := by trivial) (hi : l0[i]? = some ⟨some d, .binOp op T x y U, ty, ps, af, gd⟩ := by rfl) (hM : owns M (some d) = false := by rfl) (hG : refdO (some d) G = false := by rfl) :
    Te P X l0 C acc i (⟨some d, .binOp op T x y U, ty, ps, af, gd⟩ :: l) M G K  :=
  t_pure r (run_int hx hy hr) kk hg hi hM hG

theorem wrap_i64 {n : Int} (h : -9223372036854775808 ≤ n ∧ n ≤ 9223372036854775807) : IntKind.i64.wrap n = n := by
  simp only [IntKind.wrap, IntKind.bits, IntKind.signed]
  simp only [Bool.true_and, Nat.reduceSub, ge_iff_le, decide_eq_true_eq]
  omega

-- sums, differences, products: as they are, or within the kind
theorem run_add {T : TypeId} {k : IntKind} {m n : Int} (w : World) : (binOp .add T (.int k m) (.int k n)).run P w = .ok (.int k (k.wrap (m + n))) w := by simp [binOp, Op.intArith]
theorem run_sub {T : TypeId} {k : IntKind} {m n : Int} (w : World) : (binOp .sub T (.int k m) (.int k n)).run P w = .ok (.int k (k.wrap (m - n))) w := by simp [binOp, Op.intArith]
theorem run_mul {T : TypeId} {k : IntKind} {m n : Int} (w : World) : (binOp .mul T (.int k m) (.int k n)).run P w = .ok (.int k (k.wrap (m * n))) w := by simp [binOp, Op.intArith]

theorem t_add {T U : TypeId} {x y : Operand} {m n : Int} (hx : arg G x = some (EqV (.int .i64 m))) (hy : arg G y = some (EqV (.int .i64 n))) (hb : -9223372036854775808 ≤ m + n ∧ m + n ≤ 9223372036854775807)
    (kk : Te P X l0 C (⟨[d], [], none⟩ :: acc) (i + 1) l M ((d, EqV (.int .i64 (m + n))) :: G) K) (hg : Takes l0 G gd := by trivial) (hi : l0[i]? = some ⟨some d, .binOp .add T x y U, ty, ps, af, gd⟩ := by rfl) (hM : owns M (some d) = false := by rfl) (hG : refdO (some d) G = false := by rfl) :
    Te P X l0 C acc i (⟨some d, .binOp .add T x y U, ty, ps, af, gd⟩ :: l) M G K  :=
  t_int .add _ (fun w => by rw [run_add, wrap_i64 hb]) hx hy kk hg hi hM hG
theorem t_sub {T U : TypeId} {x y : Operand} {m n : Int} (hx : arg G x = some (EqV (.int .i64 m))) (hy : arg G y = some (EqV (.int .i64 n))) (hb : -9223372036854775808 ≤ m - n ∧ m - n ≤ 9223372036854775807)
    (kk : Te P X l0 C (⟨[d], [], none⟩ :: acc) (i + 1) l M ((d, EqV (.int .i64 (m - n))) :: G) K) (hg : Takes l0 G gd := by trivial) (hi : l0[i]? = some ⟨some d, .binOp .sub T x y U, ty, ps, af, gd⟩ := by rfl) (hM : owns M (some d) = false := by rfl) (hG : refdO (some d) G = false := by rfl) :
    Te P X l0 C acc i (⟨some d, .binOp .sub T x y U, ty, ps, af, gd⟩ :: l) M G K  :=
  t_int .sub _ (fun w => by rw [run_sub, wrap_i64 hb]) hx hy kk hg hi hM hG
theorem t_mul {T U : TypeId} {x y : Operand} {m n : Int} (hx : arg G x = some (EqV (.int .i64 m))) (hy : arg G y = some (EqV (.int .i64 n))) (hb : -9223372036854775808 ≤ m * n ∧ m * n ≤ 9223372036854775807)
    (kk : Te P X l0 C (⟨[d], [], none⟩ :: acc) (i + 1) l M ((d, EqV (.int .i64 (m * n))) :: G) K) (hg : Takes l0 G gd := by trivial) (hi : l0[i]? = some ⟨some d, .binOp .mul T x y U, ty, ps, af, gd⟩ := by rfl) (hM : owns M (some d) = false := by rfl) (hG : refdO (some d) G = false := by rfl) :
    Te P X l0 C acc i (⟨some d, .binOp .mul T x y U, ty, ps, af, gd⟩ :: l) M G K  :=
  t_int .mul _ (fun w => by rw [run_mul, wrap_i64 hb]) hx hy kk hg hi hM hG
-- whatever kind: wrapped
theorem t_addw {T U : TypeId} {x y : Operand} {k : IntKind} {m n : Int} (hx : arg G x = some (EqV (.int k m))) (hy : arg G y = some (EqV (.int k n)))
    (kk : Te P X l0 C (⟨[d], [], none⟩ :: acc) (i + 1) l M ((d, EqV (.int k (k.wrap (m + n)))) :: G) K) (hg : Takes l0 G gd := by trivial) (hi : l0[i]? = some ⟨some d, .binOp .add T x y U, ty, ps, af, gd⟩ := by rfl) (hM : owns M (some d) = false := by rfl) (hG : refdO (some d) G = false := by rfl) :
    Te P X l0 C acc i (⟨some d, .binOp .add T x y U, ty, ps, af, gd⟩ :: l) M G K  := t_int .add _ run_add hx hy kk hg hi hM hG
theorem t_subw {T U : TypeId} {x y : Operand} {k : IntKind} {m n : Int} (hx : arg G x = some (EqV (.int k m))) (hy : arg G y = some (EqV (.int k n)))
    (kk : Te P X l0 C (⟨[d], [], none⟩ :: acc) (i + 1) l M ((d, EqV (.int k (k.wrap (m - n)))) :: G) K) (hg : Takes l0 G gd := by trivial) (hi : l0[i]? = some ⟨some d, .binOp .sub T x y U, ty, ps, af, gd⟩ := by rfl) (hM : owns M (some d) = false := by rfl) (hG : refdO (some d) G = false := by rfl) :
    Te P X l0 C acc i (⟨some d, .binOp .sub T x y U, ty, ps, af, gd⟩ :: l) M G K  := t_int .sub _ run_sub hx hy kk hg hi hM hG
theorem t_mulw {T U : TypeId} {x y : Operand} {k : IntKind} {m n : Int} (hx : arg G x = some (EqV (.int k m))) (hy : arg G y = some (EqV (.int k n)))
    (kk : Te P X l0 C (⟨[d], [], none⟩ :: acc) (i + 1) l M ((d, EqV (.int k (k.wrap (m * n)))) :: G) K) (hg : Takes l0 G gd := by trivial) (hi : l0[i]? = some ⟨some d, .binOp .mul T x y U, ty, ps, af, gd⟩ := by rfl) (hM : owns M (some d) = false := by rfl) (hG : refdO (some d) G = false := by rfl) :
    Te P X l0 C acc i (⟨some d, .binOp .mul T x y U, ty, ps, af, gd⟩ :: l) M G K  := t_int .mul _ run_mul hx hy kk hg hi hM hG

/-- What a comparison of whole numbers tells. -/
def cmpB : BinOp → Int → Int → Bool
  | .eql, m, n => decide (m = n)
  | .neq, m, n => !decide (m = n)
  | .lss, m, n => decide (m < n)
  | .leq, m, n => decide (m ≤ n)
  | .gtr, m, n => decide (n < m)
  | .geq, m, n => decide (n ≤ m)
  | _, _, _ => false
def isCmp : BinOp → Bool
  | .eql | .neq | .lss | .leq | .gtr | .geq => true
  | _ => false
theorem run_cmp {op : BinOp} {T : TypeId} {k : IntKind} {m n : Int} (ho : isCmp op = true) (w : World) : (binOp op T (.int k m) (.int k n)).run P w = .ok (.bool (cmpB op m n)) w := by
  cases op <;> simp [isCmp] at ho <;> simp [binOp, Op.intCmp, cmpB, bne, BEq.beq]
theorem t_cmp {op : BinOp} {T U : TypeId} {x y : Operand} {k : IntKind} {m n : Int} (ho : isCmp op = true) (hx : arg G x = some (EqV (.int k m))) (hy : arg G y = some (EqV (.int k n)))
    (kk : Te P X l0 C (⟨[d], [], none⟩ :: acc) (i + 1) l M ((d, EqV (.bool (cmpB op m n))) :: G) K) (hg : Takes l0 G gd := by trivial) (hi : l0[i]? = some ⟨some d, .binOp op T x y U, ty, ps, af, gd⟩ := by rfl) (hM : owns M (some d) = false := by rfl) (hG : refdO (some d) G = false := by rfl) :
    Te P X l0 C acc i (⟨some d, .binOp op T x y U, ty, ps, af, gd⟩ :: l) M G K  := t_int op _ (run_cmp ho) hx hy kk hg hi hM hG

/-- A CALL OF A FUNCTION THAT CHANGES NOTHING THAT WAS THERE. -/
theorem run_call {f : FuncId} {fn : Func} {args : Array Operand} {ts : Array TypeId} (hf : P.funcs[f]? = some fn) (hb : fn.body.isSome = true) (hn : (fn.name == "runtime.NumGoroutine") = false) {dst : Option Nat} (a : Act) (w : World) :
    (execOp a.eval ⟨dst, .call ⟨.value (.func f), args, ts⟩, ty, ps, af, gd⟩).run P w = .ok (.enter f (args.toList.map a.eval).toArray) w := by
  show ((do let d ← resolve a.eval ⟨.value (.func f), args, ts⟩ ty; invoke d.target d.args) : Sem Next).run P w = _
  have hbn : fn.body ≠ none := by
    cases hbb : fn.body with
    | none => rw [hbb] at hb; cases hb
    | some _ => simp
  have hn' : fn.name ≠ "runtime.NumGoroutine" := by simpa using hn
  simp [resolve, Deferred.ofValue, Act.eval, invoke, callFunc, hf, hn', hbn]
  rw [← Array.toList_map]

theorem meets_args {G : List (Nat × Fact)} {a : Act} {w : World} : ∀ (as : List Operand) (φs : List Pred), (∀ x ∈ as, ∀ ψ, arg G x = some ψ → sem ψ (a.eval x) a w) → as.map (arg G) = φs.map (fun φ => some (Fact.plain φ)) → meets φs (as.map a.eval) w
  | [], [], _, _ => trivial
  | [], _ :: _, _, he => by simp at he
  | _ :: _, [], _, he => by simp at he
  | x :: as, φ :: φs, h, he => by
    simp only [List.map_cons, List.cons.injEq] at he
    exact ⟨h x (by simp) _ he.1, meets_args as φs (fun y hy => h y (by simp [hy])) he.2⟩

theorem ob_call {I : World → Prop} {f : FuncId} {fn : Func} {args : Array Operand} {ts : Array TypeId} {φs : List Pred} {ψ : Pred} (hI : Keeps I X) (hF : Fun I P f φs ψ) (hf : P.funcs[f]? = some fn) (hb : fn.body.isSome = true) (hn : (fn.name == "runtime.NumGoroutine") = false)
    (ha : args.toList.map (arg G) = φs.map (fun φ => some (Fact.plain φ))) {dst : Option Nat} (hg : Takes l0 G gd) (hi : l0[i]? = some ⟨dst, .call ⟨.value (.func f), args, ts⟩, ty, ps, af, gd⟩) :
    Ob P X l0 i ⟨dst, .call ⟨.value (.func f), args, ts⟩, ty, ps, af, gd⟩ [] G (.plain ψ) [] :=
  Ob.call hi hg fun M a w hsz hm _ _ hp3 hk => by
    refine ⟨f, (args.toList.map a.eval).toArray, run_call hf hb hn a w, ?_⟩
    refine (hF (Ex X M a w) (args.toList.map a.eval) w (fun k hk' => Ex.lt hm k hk') (hI.know hm) (hk.imp fun w' hw => meets_args _ _ (fun x hx => hw x ?_) ha)).mono ?_
    · simp only [Op.operands, Call.operands]
      simp
      exact Or.inr (by simpa using hx)
    · rintro e w' ⟨v, rfl, hc, hv⟩
      have hs : Stepd X M a M (a.put dst v) w w' := Stepd.of_clean hm (dst_none hp3) hc
      refine ⟨v, rfl, hs, ?_⟩
      exact hv.mono fun k hk' hx => hx.imp id fun h => (hm.foots hc k).1 (inFoot_put (dst_none hp3) h)
theorem t_call {I : World → Prop} {f : FuncId} {fn : Func} {as : List Operand} {ts : Array TypeId} {φs : List Pred} {ψ : Pred} {dst : Option Nat} (hI : Keeps I X) (hF : Fun I P f φs ψ) (hf : P.funcs[f]? = some fn) (ha : as.map (arg G) = φs.map (fun φ => some (Fact.plain φ)))
    (kk : Te P X l0 C (⟨dst.toList ++ [], [], none⟩ :: acc) (i + 1) l M (putG dst (.plain ψ) G) K) (hg : Takes l0 G gd := by trivial) (hi : l0[i]? = some ⟨dst, .call ⟨.value (.func f), as.toArray, ts⟩, ty, ps, af, gd⟩ := by rfl)
    (hb : fn.body.isSome = true := by rfl) (hn : (fn.name == "runtime.NumGoroutine") = false := by kernel_rfl) (hM : owns M dst = false := by rfl) (hG : refdO dst G = false := by rfl) :
    Te P X l0 C acc i (⟨dst, .call ⟨.value (.func f), as.toArray, ts⟩, ty, ps, af, gd⟩ :: l) M G K  :=
  t_clean (o := ⟨dst, .call ⟨.value (.func f), as.toArray, ts⟩, ty, ps, af, gd⟩) (ob_call hI hF hf hb hn (by simpa using ha) hg hi) hM hG kk
end
end Go.Eng
