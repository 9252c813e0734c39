/- The proof engine, fifth text: the rules for operations on slices, strings, tuples and truth values. -/
import Derived.Test.YtfgdeogphflimaaGreatDoorESl
set_option linter.unusedVariables false
set_option linter.unusedSimpArgs false
namespace Go.Eng
open Go

section
variable {P : Program} {X : Ctx} {l0 : List Oper} {i : Nat} {l : List Oper} {C : List Touch → Prop} {acc : List Touch} {M : Own} {G : List (Nat × Fact)} {K : Own → List (Nat × Fact) → Prop}
  {d : Nat} {ty : TypeId} {ps : String} {af : Array Edge} {gd : Option (Nat × Bool)}

/-- A value that is known as well as its operands let it be known; no memory of one's own is touched. -/
theorem t_pred {op : Op} (φ : Pred) (h : ∀ (a : Act), ∃ v, ∀ w, given ⟨some d, op, ty, ps, af, gd⟩ G a w → φ v w ∧ (execOp a.eval ⟨some d, op, ty, ps, af, gd⟩).run P w = .ok (.value v) w)
    (k : Te P X l0 C (⟨[d], [], none⟩ :: acc) (i + 1) l M ((d, .plain φ) :: G) K) (hg : Takes l0 G gd) (hi : l0[i]? = some ⟨some d, op, ty, ps, af, gd⟩) (hM : owns M (some d) = false) (hG : refdO (some d) G = false) :
    Te P X l0 C acc i (⟨some d, op, ty, ps, af, gd⟩ :: l) M G K :=
  t_clean (o := ⟨some d, op, ty, ps, af, gd⟩) (Ob.same hi hg h) hM hG k

/-- A value moved, of which less is told. -/
theorem t_weak {x : Operand} {φ ψ : Pred} (hw : ∀ v w, φ v w → ψ v w) (ha : arg G x = some (.plain φ)) (k : Te P X l0 C (⟨[d], [], none⟩ :: acc) (i + 1) l M ((d, .plain ψ) :: G) K) (hg : Takes l0 G gd := by trivial) (hi : l0[i]? = some ⟨some d, .move x, ty, ps, af, gd⟩ := by rfl) (hM : owns M (some d) = false := by rfl) (hG : refdO (some d) G = false := by rfl) :
    Te P X l0 C acc i (⟨some d, .move x, ty, ps, af, gd⟩ :: l) M G K :=
  t_pred ψ (fun a => ⟨a.eval x, fun w hv => ⟨hw _ _ (hv x (by simp [Op.operands]) _ ha), rfl⟩⟩) k hg hi hM hG
theorem t_weaka {x : Operand} {φ ψ : Pred} (hw : ∀ v w, φ v w → ψ v w) (ha : arg G x = some (.plain φ)) (k : Te P X l0 C (⟨[d], [], none⟩ :: acc) (i + 1) l M ((d, .plain ψ) :: G) K) (hg : Takes l0 G gd := by trivial) (hi : l0[i]? = some ⟨some d, .assign x, ty, ps, af, gd⟩ := by rfl) (hM : owns M (some d) = false := by rfl) (hG : refdO (some d) G = false := by rfl) :
    Te P X l0 C acc i (⟨some d, .assign x, ty, ps, af, gd⟩ :: l) M G K :=
  t_pred ψ (fun a => ⟨a.eval x, fun w hv => ⟨hw _ _ (hv x (by simp [Op.operands]) _ ha), rfl⟩⟩) k hg hi hM hG

/-- The run of a builtin. -/
theorem run_builtin {b : Builtin} {args : Array Operand} {ts : Array TypeId} {dst : Option Nat} (a : Act) (w : World) :
    (execOp a.eval ⟨dst, .call ⟨.builtin b, args, ts⟩, ty, ps, af, gd⟩).run P w = (builtin b ts ty (args.map fun | .const _ => true | _ => false) (args.map a.eval)).run P w := by
  show ((do let d ← resolve a.eval ⟨.builtin b, args, ts⟩ ty; invoke d.target d.args) : Sem Next).run P w = _
  simp [resolve, invoke]
  rfl

/-- The length of a slice. -/
theorem t_len {x : Operand} {T : TypeId} {e : TypeId} {n : Nat} {φ : Pred} (hu : P.underlying T = some (.slice e)) (hφ : ∀ v w, φ v w → ∃ A c, v = .slice A n c) (ha : arg G x = some (.plain φ))
    (k : Te P X l0 C (⟨[d], [], none⟩ :: acc) (i + 1) l M ((d, EqV (.int .i64 n)) :: G) K) (hg : Takes l0 G gd := by trivial) (hi : l0[i]? = some ⟨some d, .call ⟨.builtin .len, #[x], #[T]⟩, ty, ps, af, gd⟩ := by rfl) (hM : owns M (some d) = false := by rfl) (hG : refdO (some d) G = false := by rfl) :
    Te P X l0 C acc i (⟨some d, .call ⟨.builtin .len, #[x], #[T]⟩, ty, ps, af, gd⟩ :: l) M G K :=
  t_pure _ (fun a w hw => by
    obtain ⟨A, c, hv⟩ := hφ _ _ (hw x (by simp [Op.operands, Call.operands]) _ ha)
    rw [run_builtin]
    simp [builtin, Builtin.len_, hv, run_underlying hu, Result.andThen, goInt]) k hg hi hM hG
theorem slC_form {sz n : Nat} {cs : List Value} (v : Value) (w : World) (h : SlC sz n cs v w) : ∃ A c, v = .slice A n c := by
  obtain ⟨_, A, c, rfl, _⟩ := h
  exact ⟨A, c, rfl⟩
/-- The length of a string. -/
theorem t_lens {x : Operand} {T : TypeId} {s : ByteArray} (hu : P.underlying T = some .string) (ha : arg G x = some (EqV (.string s)))
    (k : Te P X l0 C (⟨[d], [], none⟩ :: acc) (i + 1) l M ((d, EqV (.int .i64 s.size)) :: G) K) (hg : Takes l0 G gd := by trivial) (hi : l0[i]? = some ⟨some d, .call ⟨.builtin .len, #[x], #[T]⟩, ty, ps, af, gd⟩ := by rfl) (hM : owns M (some d) = false := by rfl) (hG : refdO (some d) G = false := by rfl) :
    Te P X l0 C acc i (⟨some d, .call ⟨.builtin .len, #[x], #[T]⟩, ty, ps, af, gd⟩ :: l) M G K :=
  t_pure _ (fun a w hw => by
    have hv : a.eval x = .string s := hw x (by simp [Op.operands, Call.operands]) _ ha
    rw [run_builtin]
    simp [builtin, Builtin.len_, hv, run_underlying hu, Result.andThen, goInt]) k hg hi hM hG
/-- The greater of two. -/
theorem t_max {x y : Operand} {T U : TypeId} {j : IntKind} {m n : Int} (hx : arg G x = some (EqV (.int j m))) (hy : arg G y = some (EqV (.int j n)))
    (k : Te P X l0 C (⟨[d], [], none⟩ :: acc) (i + 1) l M ((d, EqV (.int j (max m n))) :: G) K) (hg : Takes l0 G gd := by trivial) (hi : l0[i]? = some ⟨some d, .call ⟨.builtin .max, #[x, y], #[T, U]⟩, ty, ps, af, gd⟩ := by rfl) (hM : owns M (some d) = false := by rfl) (hG : refdO (some d) G = false := by rfl) :
    Te P X l0 C acc i (⟨some d, .call ⟨.builtin .max, #[x, y], #[T, U]⟩, ty, ps, af, gd⟩ :: l) M G K :=
  t_pure _ (fun a w hw => by
    have hv : a.eval x = .int j m := hw x (by simp [Op.operands, Call.operands]) _ hx
    have hv' : a.eval y = .int j n := hw y (by simp [Op.operands, Call.operands]) _ hy
    rw [run_builtin]
    have e : (if n > m then n else m) = max m n := by split <;> omega
    simp [builtin, Builtin.max_, Builtin.max2, hv, hv', Result.andThen]
    exact e) k hg hi hM hG
theorem t_min {x y : Operand} {T U : TypeId} {j : IntKind} {m n : Int} (hx : arg G x = some (EqV (.int j m))) (hy : arg G y = some (EqV (.int j n)))
    (k : Te P X l0 C (⟨[d], [], none⟩ :: acc) (i + 1) l M ((d, EqV (.int j (min m n))) :: G) K) (hg : Takes l0 G gd := by trivial) (hi : l0[i]? = some ⟨some d, .call ⟨.builtin .min, #[x, y], #[T, U]⟩, ty, ps, af, gd⟩ := by rfl) (hM : owns M (some d) = false := by rfl) (hG : refdO (some d) G = false := by rfl) :
    Te P X l0 C acc i (⟨some d, .call ⟨.builtin .min, #[x, y], #[T, U]⟩, ty, ps, af, gd⟩ :: l) M G K :=
  t_pure _ (fun a w hw => by
    have hv : a.eval x = .int j m := hw x (by simp [Op.operands, Call.operands]) _ hx
    have hv' : a.eval y = .int j n := hw y (by simp [Op.operands, Call.operands]) _ hy
    rw [run_builtin]
    have e : (if n < m then n else m) = min m n := by split <;> omega
    simp [builtin, Builtin.min_, Builtin.min2, hv, hv', Result.andThen]
    exact e) k hg hi hM hG

/-- A whole number of another kind. -/
theorem t_conv {S T : TypeId} {x : Operand} {j k' : IntKind} {m : Int} {ds : TypeDesc} (hs : P.underlying S = some ds) (hu : P.underlying T = some (.int k')) (hx : arg G x = some (EqV (.int j m)))
    (k : Te P X l0 C (⟨[d], [], none⟩ :: acc) (i + 1) l M ((d, EqV (.int k' (k'.wrap m))) :: G) K) (hg : Takes l0 G gd := by trivial) (hi : l0[i]? = some ⟨some d, .convert S T x, ty, ps, af, gd⟩ := by rfl) (hM : owns M (some d) = false := by rfl) (hG : refdO (some d) G = false := by rfl) :
    Te P X l0 C acc i (⟨some d, .convert S T x, ty, ps, af, gd⟩ :: l) M G K :=
  t_pure _ (fun a w hw => by
    have hv : a.eval x = .int j m := hw x (by simp [Op.operands]) _ hx
    show ((do let v ← convert S T (a.eval x); Pure.pure (Next.value v)) : Sem Next).run P w = _
    rw [hv]
    simp [convert, run_underlying hs, run_underlying hu, Conv.intToInt, Result.andThen]) k hg hi hM hG

-- truth values
theorem t_not {T : TypeId} {x : Operand} {b : Bool} (hx : arg G x = some (EqV (.bool b)))
    (k : Te P X l0 C (⟨[d], [], none⟩ :: acc) (i + 1) l M ((d, EqV (.bool (!b))) :: G) K) (hg : Takes l0 G gd := by trivial) (hi : l0[i]? = some ⟨some d, .unOp .not T x, ty, ps, af, gd⟩ := by rfl) (hM : owns M (some d) = false := by rfl) (hG : refdO (some d) G = false := by rfl) :
    Te P X l0 C acc i (⟨some d, .unOp .not T x, ty, ps, af, gd⟩ :: l) M G K :=
  t_pure _ (fun a w hw => by
    have hv : a.eval x = .bool b := hw x (by simp [Op.operands]) _ hx
    show ((do let v ← Op.unary .not (a.eval x); Pure.pure (Next.value v)) : Sem Next).run P w = _
    rw [hv]
    rfl) k hg hi hM hG
/-- Of two values the one that a truth value says. -/
theorem t_pickt {c x y : Operand} {b : Bool} {φ : Pred} (hb : b = true) (hc : arg G c = some (EqV (.bool b))) (hx : arg G x = some (.plain φ))
    (k : Te P X l0 C (⟨[d], [], none⟩ :: acc) (i + 1) l M ((d, .plain φ) :: G) K) (hg : Takes l0 G gd := by trivial) (hi : l0[i]? = some ⟨some d, .pick c x y, ty, ps, af, gd⟩ := by rfl) (hM : owns M (some d) = false := by rfl) (hG : refdO (some d) G = false := by rfl) :
    Te P X l0 C acc i (⟨some d, .pick c x y, ty, ps, af, gd⟩ :: l) M G K :=
  t_pred φ (fun a => ⟨a.eval x, fun w hw => by
    subst hb
    have hv : a.eval c = .bool true := hw c (by simp [Op.operands]) _ hc
    refine ⟨hw x (by simp [Op.operands]) _ hx, ?_⟩
    show ((do Pure.pure (Next.value (if ← asBool (a.eval c) then a.eval x else a.eval y))) : Sem Next).run P w = _
    rw [hv]
    rfl⟩) k hg hi hM hG
theorem t_pickf {c x y : Operand} {b : Bool} {φ : Pred} (hb : b = false) (hc : arg G c = some (EqV (.bool b))) (hx : arg G y = some (.plain φ))
    (k : Te P X l0 C (⟨[d], [], none⟩ :: acc) (i + 1) l M ((d, .plain φ) :: G) K) (hg : Takes l0 G gd := by trivial) (hi : l0[i]? = some ⟨some d, .pick c x y, ty, ps, af, gd⟩ := by rfl) (hM : owns M (some d) = false := by rfl) (hG : refdO (some d) G = false := by rfl) :
    Te P X l0 C acc i (⟨some d, .pick c x y, ty, ps, af, gd⟩ :: l) M G K :=
  t_pred φ (fun a => ⟨a.eval y, fun w hw => by
    subst hb
    have hv : a.eval c = .bool false := hw c (by simp [Op.operands]) _ hc
    refine ⟨hw y (by simp [Op.operands]) _ hx, ?_⟩
    show ((do Pure.pure (Next.value (if ← asBool (a.eval c) then a.eval x else a.eval y))) : Sem Next).run P w = _
    rw [hv]
    rfl⟩) k hg hi hM hG

/-- Several values as one: what a call of several results hands back. -/
def Tup (φs : List Pred) : Pred := fun v w => ∃ vs, v = .tuple vs.toArray ∧ meets φs vs w
theorem meets_get {w : World} : ∀ {φs : List Pred} {vs : List Value} {j : Nat} {φ : Pred}, meets φs vs w → φs[j]? = some φ → ∃ v, vs[j]? = some v ∧ φ v w
  | [], _, _, _, _, h => by simp at h
  | _ :: _, [], _, _, hm, _ => hm.elim
  | ψ :: φs, u :: vs, 0, φ, hm, h => by
    simp only [List.getElem?_cons_zero, Option.some.injEq] at h
    subst h
    exact ⟨u, by simp, hm.1⟩
  | ψ :: φs, u :: vs, j + 1, φ, hm, h => by
    rw [List.getElem?_cons_succ] at h
    obtain ⟨v, h1, h2⟩ := meets_get hm.2 h
    exact ⟨v, by rw [List.getElem?_cons_succ]; exact h1, h2⟩
theorem t_extract {x : Operand} {j : Nat} {φs : List Pred} {φ : Pred} (hx : arg G x = some (.plain (Tup φs))) (hj : φs[j]? = some φ)
    (k : Te P X l0 C (⟨[d], [], none⟩ :: acc) (i + 1) l M ((d, .plain φ) :: G) K) (hg : Takes l0 G gd := by trivial) (hi : l0[i]? = some ⟨some d, .extract x j, ty, ps, af, gd⟩ := by rfl) (hM : owns M (some d) = false := by rfl) (hG : refdO (some d) G = false := by rfl) :
    Te P X l0 C acc i (⟨some d, .extract x j, ty, ps, af, gd⟩ :: l) M G K :=
  t_pred φ (fun a => by
    by_cases h : ∃ vs : Array Value, a.eval x = .tuple vs
    · obtain ⟨vs, hvs⟩ := h
      refine ⟨vs.getD j undef, fun w hw => ?_⟩
      obtain ⟨us, h1, h2⟩ := hw x (by simp [Op.operands]) _ hx
      rw [hvs] at h1
      injection h1 with h1
      subst h1
      obtain ⟨v, h3, h4⟩ := meets_get h2 hj
      have e : us.toArray.getD j undef = v := by simp [Array.getD_eq_getD_getElem?, h3]
      rw [e]
      refine ⟨h4, ?_⟩
      show ((do let v ← Instr.extract (a.eval x) j; Pure.pure (Next.value v)) : Sem Next).run P w = _
      rw [hvs]
      simp [Instr.extract, h3, Result.andThen]
    · refine ⟨undef, fun w hw => ?_⟩
      obtain ⟨us, h1, _⟩ := hw x (by simp [Op.operands]) _ hx
      exact absurd ⟨_, h1⟩ h) k hg hi hM hG

-- strings
theorem run_str {op : BinOp} {T U : TypeId} {x y : Operand} {s t : ByteArray} {r : Value} (hx : arg G x = some (EqV (.string s))) (hy : arg G y = some (EqV (.string t)))
    (hr : ∀ w, (Op.stringOp op s t).run P w = .ok r w) (ho : op ≠ .shl ∧ op ≠ .shr) (a : Act) (w : World) (hw : given ⟨some d, .binOp op T x y U, ty, ps, af, gd⟩ G a w) : (execOp a.eval ⟨some d, .binOp op T x y U, ty, ps, af, gd⟩).run P w = .ok (.value r) w := by
  have h1 : a.eval x = .string s := hw x (by simp [Op.operands]) _ hx
  have h2 : a.eval y = .string t := hw y (by simp [Op.operands]) _ hy
  show ((do let v ← (do eqGuard op T x y (a.eval x) (a.eval y); binOp op T (a.eval x) (a.eval y)); Pure.pure (Next.value v)) : Sem Next).run P w = _
  rw [h1, h2]
  have he : (eqGuard op T x y (.string s) (.string t)).run P w = .ok () w := by
    unfold eqGuard
    cases op <;> simp
  have hb : (binOp op T (.string s) (.string t)).run P w = .ok r w := by
    rw [← hr w]
    cases op <;> first | rfl | (simp at ho)
  simp only [Sem.run_bind, he, Result.andThen, hb, Sem.run_pure]
theorem t_cat {T U : TypeId} {x y : Operand} {s t : ByteArray} (hx : arg G x = some (EqV (.string s))) (hy : arg G y = some (EqV (.string t))) (hb : s.size + t.size ≤ 9223372036854775807)
    (k : Te P X l0 C (⟨[d], [], none⟩ :: acc) (i + 1) l M ((d, EqV (.string (s ++ t))) :: G) K) (hg : Takes l0 G gd := by trivial) (hi : l0[i]? = some ⟨some d, .binOp .add T x y U, ty, ps, af, gd⟩ := by rfl) (hM : owns M (some d) = false := by rfl) (hG : refdO (some d) G = false := by rfl) :
    Te P X l0 C acc i (⟨some d, .binOp .add T x y U, ty, ps, af, gd⟩ :: l) M G K :=
  t_pure _ (run_str hx hy (fun w => by
    have : ¬ (9223372036854775807 : Int) < (s.size : Int) + (t.size : Int) := by omega
    simp [Op.stringOp, IntKind.max, IntKind.signed, IntKind.bits, this]) (by simp)) k hg hi hM hG
theorem toList_inj {s t : ByteArray} : s.toList = t.toList ↔ s = t := by
  constructor
  · intro h
    have h1 : s.data.toList = t.data.toList := by rw [ByteArray.toList_eq, ByteArray.toList_eq] at h; exact h
    have : s.data = t.data := Array.ext' h1
    cases s; cases t; simp_all
  · rintro rfl; rfl
theorem t_seq {T U : TypeId} {x y : Operand} {s t : ByteArray} (hx : arg G x = some (EqV (.string s))) (hy : arg G y = some (EqV (.string t)))
    (k : Te P X l0 C (⟨[d], [], none⟩ :: acc) (i + 1) l M ((d, EqV (.bool (decide (s = t)))) :: G) K) (hg : Takes l0 G gd := by trivial) (hi : l0[i]? = some ⟨some d, .binOp .eql T x y U, ty, ps, af, gd⟩ := by rfl) (hM : owns M (some d) = false := by rfl) (hG : refdO (some d) G = false := by rfl) :
    Te P X l0 C acc i (⟨some d, .binOp .eql T x y U, ty, ps, af, gd⟩ :: l) M G K :=
  t_pure _ (run_str hx hy (fun w => by
    have e : (s.toList == t.toList) = decide (s = t) := by
      rw [Bool.eq_iff_iff]
      simp [toList_inj]
    simp [Op.stringOp, e]) (by simp)) k hg hi hM hG
theorem t_sneq {T U : TypeId} {x y : Operand} {s t : ByteArray} (hx : arg G x = some (EqV (.string s))) (hy : arg G y = some (EqV (.string t)))
    (k : Te P X l0 C (⟨[d], [], none⟩ :: acc) (i + 1) l M ((d, EqV (.bool (!decide (s = t)))) :: G) K) (hg : Takes l0 G gd := by trivial) (hi : l0[i]? = some ⟨some d, .binOp .neq T x y U, ty, ps, af, gd⟩ := by rfl) (hM : owns M (some d) = false := by rfl) (hG : refdO (some d) G = false := by rfl) :
    Te P X l0 C acc i (⟨some d, .binOp .neq T x y U, ty, ps, af, gd⟩ :: l) M G K :=
  t_pure _ (run_str hx hy (fun w => by
    have e : (s.toList == t.toList) = decide (s = t) := by
      rw [Bool.eq_iff_iff]
      simp [toList_inj]
    simp [Op.stringOp, e]) (by simp)) k hg hi hM hG
end
end Go.Eng
