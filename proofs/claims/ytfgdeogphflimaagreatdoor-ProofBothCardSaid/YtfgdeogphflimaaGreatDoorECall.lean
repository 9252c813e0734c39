/- The proof engine, tenth text: new rows, the program's own variables, functions that are handed something of the caller's. -/
import Derived.Test.YtfgdeogphflimaaGreatDoorERows
import Derived.Laws.MakeOwn
set_option linter.unusedVariables false
set_option linter.unusedSimpArgs false
namespace Go.Eng
open Go

section
variable {P : Program} {X : Ctx} {l0 : List Oper} {i : Nat} {l : List Oper} {C : List Touch → Prop} {acc : List Touch} {M : Own} {G : List (Nat × Fact)} {K : Own → List (Nat × Fact) → Prop}
  {d : Nat} {ty : TypeId} {ps : String} {af : Array Edge} {gd : Option (Nat × Bool)}

/-- A new row, of one's own. -/
theorem t_newrow {op : Op} {e : TypeId} {sz n : Nat} {cs : List Value} (hi : l0[i]? = some ⟨some d, op, ty, ps, af, gd⟩) (hg : Takes l0 G gd) (hdn : Nat.blt d X.n = true) (hl : cs.length = n * sz) (hn : n ≤ maxLen)
    (h : ∀ (a : Act) (w : World), given ⟨some d, op, ty, ps, af, gd⟩ G a w → (execOp a.eval ⟨some d, op, ty, ps, af, gd⟩).run P w = .ok (.value (.slice (some ⟨w.heap.size, 0, none⟩) n n)) (w.alloc (.cells cs.toArray e)))
    (hM : owns M (some d) = false) (hG : refdO (some d) G = false) (kk : Te P X l0 C (⟨[d], [d], none⟩ :: acc) (i + 1) l ((d, some (rowR sz n cs)) :: M) ((d, .plain fun _ _ => True) :: G) K) : Te P X l0 C acc i (⟨some d, op, ty, ps, af, gd⟩ :: l) M G K :=
  have hdn' : d < X.n := by simpa using hdn
  Te.op (o := ⟨some d, op, ty, ps, af, gd⟩) [] (.plain fun _ _ => True) [(d, some (rowR sz n cs))]
    (Ob.val hi hg fun M a w hn' hm _ _ hp3 hk => by
      refine ⟨_, _, h a w hk.now, Stepd.fresh hm (by omega) (dst_none hp3 d rfl) (Chg.alloc _ _ _) (fun _ _ => ⟨hl, Or.inr ⟨w.heap.size, n, rfl, Nat.le_refl _, hn, by simp, ?_, ?_⟩⟩) (fun b hb => ?_), Know.const trivial⟩
      · intro j u hj
        rw [cell_of (heap_alloc_new w _), Nat.zero_add]
        simpa using hj
      · intro j hj
        constructor
        · rw [cell_of (heap_alloc_new w _), Array.getElem?_eq_getElem (by simpa [hl] using hj)]
          rfl
        · have hb2 := heap_alloc_new w (.cells cs.toArray e)
          simp only [World.frozen?, hb2]
          simp
      · simp only [rowR, footV, List.mem_singleton] at hb
        subst hb
        simp)
    (by simp) (by simp [owns_none hM]) (fun d' hd' => by injection hd' with hd'; subst hd'; exact ⟨Or.inl (owns_none hM), hG⟩) kk

theorem okLit_length {sz : Nat} : ∀ {vs : List (Nat × Segs × Value)} {j : Nat}, okLit sz j vs = true → (cellsE (litE vs)).length = vs.length * sz
  | [], _, _ => by simp [litE, cellsE]
  | (i, V, v) :: vs, j, h => by
    simp only [okLit] at h
    cases hb1 : Nat.beq i j with
    | false => rw [hb1] at h; cases h
    | true =>
      rw [hb1] at h
      simp only at h
      cases hb2 : Nat.beq (lenS V) sz with
      | false => rw [hb2] at h; cases h
      | true =>
        rw [hb2] at h
        have hl : (flat V).length = sz := by rw [flat_length]; exact Nat.eq_of_beq_eq_true hb2
        have := okLit_length (vs := vs) (j := j + 1) h
        simp only [litE, cellsE, List.map_cons, List.flatMap_cons, List.length_append, List.length_cons] at this ⊢
        rw [this, hl, Nat.add_mul]
        omega
/-- A row's literal, of one's own. -/
theorem t_litR {T e : TypeId} {de : TypeDesc} {sz by_ n : Nat} {z : Value} {parts : List (Nat × Operand)} {vs : List (Nat × Segs × Value)} (hu : P.underlying T = some (.slice e)) (he : TI P e de sz by_) (hz : ZI P e z) (hzs : z.cells.size = sz) (hsz : Nat.blt 0 sz = true) (hn : Nat.blt 0 n = true) (hb : Nat.ble (n * sz) 16777216 = true)
    (hp : Parts G parts vs) (hok : okLit sz 0 vs = true) (hlen : vs.length = n)
    (k : Te P X l0 C (⟨[d], [d], none⟩ :: acc) (i + 1) l ((d, some (rowR sz n (cellsE (litE vs)))) :: M) ((d, .plain fun _ _ => True) :: G) K) (hg : Takes l0 G gd := by trivial) (hi : l0[i]? = some ⟨some d, .buildSlice T n parts.toArray, ty, ps, af, gd⟩ := by rfl) (hdn : Nat.blt d X.n = true := by rfl) (hM : owns M (some d) = false := by rfl) (hG : refdO (some d) G = false := by rfl) :
    Te P X l0 C acc i (⟨some d, .buildSlice T n parts.toArray, ty, ps, af, gd⟩ :: l) M G K :=
  have hb' := Nat.le_of_ble_eq_true hb
  have hsz' : 0 < sz := by simpa using hsz
  t_newrow hi hg hdn (by rw [← hlen]; exact okLit_length hok) (by
    have : n ≤ n * sz := Nat.le_mul_of_pos_right n hsz'
    simp only [maxLen]
    omega) (fun a w hw => run_lit hu he hz hzs hsz' (by simpa using hn) hb' hp hok hlen a w hw) hM hG k
/-- An empty literal. -/
theorem t_lit0 {T e : TypeId} {de : TypeDesc} {sz by_ : Nat} (hu : P.underlying T = some (.slice e)) (he : TI P e de sz by_)
    (k : Te P X l0 C (⟨[d], [d], none⟩ :: acc) (i + 1) l ((d, some (rowR sz 0 [])) :: M) ((d, .plain fun _ _ => True) :: G) K) (hg : Takes l0 G gd := by trivial) (hi : l0[i]? = some ⟨some d, .buildSlice T 0 #[], ty, ps, af, gd⟩ := by rfl) (hdn : Nat.blt d X.n = true := by rfl) (hM : owns M (some d) = false := by rfl) (hG : refdO (some d) G = false := by rfl) :
    Te P X l0 C acc i (⟨some d, .buildSlice T 0 #[], ty, ps, af, gd⟩ :: l) M G K :=
  t_newrow (sz := sz) (e := e) hi hg hdn (by simp) (by simp) (fun a w hw => by
    show ((do let v ← Instr.buildSlice T 0 ((#[] : Array (Nat × Operand)).map fun (i, x) => (i, a.eval x)); Pure.pure (Next.value v)) : Sem Next).run P w = _
    simp [Instr.buildSlice, run_underlying hu, he.size, Result.andThen, Instr.fill, newRow]
    rw [show Array.range 0 = #[] from by apply Array.ext <;> simp]
    simp) hM hG k
/-- A row that is made. -/
theorem t_make {T e : TypeId} {de : TypeDesc} {by_ n : Nat} {z : Value} {kl kc : IntKind} (hu : P.underlying T = some (.slice e)) (he : TI P e de 1 by_) (hz : ZI P e z) (hzc : z.cells = #[z]) (hb : Nat.ble (by_ * n) 281474976710656 = true) (hn : Nat.ble n 9223372036854775807 = true)
    (k : Te P X l0 C (⟨[d], [d], none⟩ :: acc) (i + 1) l ((d, some (rowR 1 n (List.replicate n z))) :: M) ((d, .plain fun _ _ => True) :: G) K) (hg : Takes l0 G gd := by trivial) (hi : l0[i]? = some ⟨some d, .makeSlice T (.const (.int kl n)) (.const (.int kc n)), ty, ps, af, gd⟩ := by rfl) (hdn : Nat.blt d X.n = true := by rfl) (hM : owns M (some d) = false := by rfl) (hG : refdO (some d) G = false := by rfl) :
    Te P X l0 C acc i (⟨some d, .makeSlice T (.const (.int kl n)) (.const (.int kc n)), ty, ps, af, gd⟩ :: l) M G K :=
  have hb' := Nat.le_of_ble_eq_true hb
  have hn' := Nat.le_of_ble_eq_true hn
  t_newrow (sz := 1) (e := e) hi hg hdn (by simp) (by simp only [maxLen]; omega) (fun a w hw => by
    obtain ⟨ti, hi1, hs, hbb⟩ := he.inf
    obtain ⟨zi, hi2, hz2⟩ := hz
    rw [hi1] at hi2
    injection hi2 with hi2
    subst hi2
    show ((do let v ← Instr.makeSlice T (.int kl n) (.int kc n); Pure.pure (Next.value v)) : Sem Next).run P w = _
    have hmk := run_make (P := P) w T e ti z hu hi1 hz2 kl kc n n (by omega) (Int.le_refl _) (by rw [hbb, ← Int.natCast_mul]; omega) (by omega)
    have hm : madeCells z.cells n = (List.replicate n z).toArray := by
      unfold madeCells
      rw [hzc]
      apply Array.ext
      · simp
      · intro j h1 h2
        simp [Nat.mod_one]
    simp only [Sem.run_bind, hmk, Result.andThen, Sem.run_pure, Int.toNat_natCast, hs, Nat.mul_one, hm]) hM hG k

/-- An array's literal. -/
def cat (l : List Segs) : Segs := l.flatMap id
theorem flat_cat : ∀ l : List Segs, flat (cat l) = cellsE l
  | [] => rfl
  | S :: l => by
    have := flat_cat l
    simp only [cat, List.flatMap_cons, id, flat_append, cellsE] at this ⊢
    rw [this]
theorem t_buildA {T e : TypeId} {de : TypeDesc} {sz by_ n : Nat} {Z : Segs} {parts : List (Nat × Operand)} {vs : List (Nat × Segs × Value)} (hu : P.underlying T = some (.array n e)) (he : TI P e de sz by_) (hz : ZI P T (aggS Z)) (hlz : Nat.beq (lenS Z) (n * sz) = true)
    (hp : Parts G parts vs) (hok : okLit sz 0 vs = true) (hlen : vs.length = n)
    (k : Te P X l0 C (⟨[d], [], none⟩ :: acc) (i + 1) l M ((d, EqV (aggS (cat (litE vs)))) :: G) K) (hg : Takes l0 G gd := by trivial) (hi : l0[i]? = some ⟨some d, .build T parts.toArray, ty, ps, af, gd⟩ := by rfl) (hM : owns M (some d) = false := by rfl) (hG : refdO (some d) G = false := by rfl) :
    Te P X l0 C acc i (⟨some d, .build T parts.toArray, ty, ps, af, gd⟩ :: l) M G K :=
  t_pure _ (fun a w hw => by
    obtain ⟨h1, h2⟩ := hp.vals (a := a) (w := w) fun x hx => hw x (by simpa [Op.operands] using hx)
    show ((do let v ← Instr.build T (parts.toArray.map fun (i, x) => (i, a.eval x)); Pure.pure (Next.value v)) : Sem Next).run P w = _
    have hl : (flat Z).length = n * sz := by rw [flat_length]; exact Nat.eq_of_beq_eq_true hlz
    have hf := fill_lit sz vs 0 [] (flat Z) hok h2 (by simp) (by rw [hlen]; exact hl)
    simp only [List.nil_append] at hf
    have hm : (parts.toArray.map fun (x : Nat × Operand) => (x.1, a.eval x.2)).toList = vs.map (fun q => (q.1, q.2.2)) := by rw [Array.toList_map]; exact h1
    have hm' : (parts.toArray.map fun (i, x) => (i, a.eval x)).toList = vs.map (fun q => (q.1, q.2.2)) := hm
    unfold Instr.build
    simp only [Sem.run_bind, hz.run, Result.andThen, run_underlying hu, he.size, hm', aggS, Value.cells, hf, Sem.run_pure, flat_cat]) k hg hi hM hG

/-! ### The program's own variables -/
theorem t_loadG {I : World → Prop} {T : TypeId} {dd : TypeDesc} {n b g : Nat} {S : Segs} {v : Value} (hI : Keeps I X) (hg0 : ∀ w, I w → RowAt w g 0 (flat S)) (ht : TI P T dd n b) (hl : Nat.beq (lenS S) n = true) (hv : valS (aggD dd) S = some v)
    (kk : Te P X l0 C (⟨[d], [], none⟩ :: acc) (i + 1) l M ((d, EqV v) :: G) K) (hg : Takes l0 G gd := by trivial) (hi : l0[i]? = some ⟨some d, .load T (.global g), ty, ps, af, gd⟩ := by rfl) (hM : owns M (some d) = false := by rfl) (hG : refdO (some d) G = false := by rfl) :
    Te P X l0 C acc i (⟨some d, .load T (.global g), ty, ps, af, gd⟩ :: l) M G K := by
  refine t_clean (o := ⟨some d, .load T (.global g), ty, ps, af, gd⟩) (φ := EqV v) (Ob.val hi hg fun M a w hn hm _ _ hp3 hk => ?_) hM hG kk
  have hb := hg0 w (hI.know hm).now
  refine ⟨v, w, ?_, Stepd.of_clean hm (dst_none hp3) (Chg.refl _ _), Know.const rfl⟩
  show ((do let v ← Instr.loadAt T (.pointer (some ⟨g, 0, none⟩)); Pure.pure (Next.value v)) : Sem Next).run P w = _
  have := run_loadVar ht (w := w) (b := g) (o := 0) (cs := flat S) (by rw [flat_length]; exact Nat.eq_of_beq_eq_true hl) hb v (valS_spec hv)
  simp only [Instr.loadAt, Sem.run_bind, sureAddr_ptr, Result.andThen, this, Sem.run_pure]
theorem t_idxG {I : World → Prop} {T e : TypeId} {dd : TypeDesc} {n len n' b b' g : Nat} {S : Segs} {y : Operand} {j : IntKind} {m : Int} {cs : List Value} (hI : Keeps I X) (hg0 : ∀ w, I w → RowAt w g 0 (flat S)) (hT : TI P T (.array len e) n b) (he : TI P e dd n' b') (hy : arg G y = some (EqV (.int j m))) (h0 : 0 ≤ m) (hml : m < len) (hcs : ((flat S).drop (m.toNat * n')).take n' = cs)
    (kk : Te P X l0 C (⟨[d], [], none⟩ :: acc) (i + 1) l M ((d, .plain (RefC cs)) :: G) K) (hg : Takes l0 G gd := by trivial) (hi : l0[i]? = some ⟨some d, .indexAddr T (.global g) y, ty, ps, af, gd⟩ := by rfl) (hM : owns M (some d) = false := by rfl) (hG : refdO (some d) G = false := by rfl) :
    Te P X l0 C acc i (⟨some d, .indexAddr T (.global g) y, ty, ps, af, gd⟩ :: l) M G K := by
  refine t_clean (o := ⟨some d, .indexAddr T (.global g) y, ty, ps, af, gd⟩) (φ := .plain (RefC cs)) (Ob.val hi hg fun M a w hn hm _ _ hp3 hk => ?_) hM hG kk
  have hy' : a.eval y = .int j m := hk.now y (by simp [Op.operands]) _ hy
  refine ⟨.pointer (some ⟨g, m.toNat * n', none⟩), w, ?_, Stepd.of_clean hm (dst_none hp3) (Chg.refl _ _), ?_⟩
  · show ((do let v ← Instr.indexAt T (.pointer (some ⟨g, 0, none⟩)) (a.eval y); Pure.pure (Next.value v)) : Sem Next).run P w = _
    rw [hy']
    simp [Instr.indexAt, asIntOf, hT.run, Result.andThen, sureAddr_ptr, h0, hml, he.size, add_plain]
  · refine ((hI.know hm).mono fun k _ hx => hx.imp id (inFoot_put (dst_none hp3))).imp fun w' hw => ⟨g, _, rfl, ?_⟩
    rw [← hcs]
    have := (((hg0 w' hw).drop (m.toNat * n')).take n')
    simpa using this

/-! ### Functions that are handed something of the caller's -/
/-- The first value leads to memory that the caller owns: r before, r' behind. -/
def FunM (I : World → Prop) (P : Program) (f : FuncId) (r : Res) (φs : List Pred) (ψ : Pred) (r' : Res) : Prop :=
  ∀ (H : Nat → Prop) (v0 : Value) (vs : List Value) (w : World), (∀ k, H k → k < w.heap.size) → (∀ b, b ∈ r.foot v0 w → b < w.heap.size ∧ ¬ H b) → r.holds v0 w (fun b => H b ∨ b ∈ r.foot v0 w) → Know (fun b => H b ∨ b ∈ r.foot v0 w) w I → Know (fun b => H b ∨ b ∈ r.foot v0 w) w (meets φs vs) →
    Calls P f (v0 :: vs).toArray w fun e w' => ∃ v, e = .returned v ∧ Chg (fun b => b ∈ r.foot v0 w) w w' ∧ r'.holds v0 w' (fun b => H b ∨ b ∈ r'.foot v0 w') ∧ (∀ b, b ∈ r'.foot v0 w' → b ∈ r.foot v0 w ∨ (w.heap.size ≤ b ∧ b < w'.heap.size)) ∧ Know (fun b => H b ∨ b ∈ r'.foot v0 w') w' (ψ v)
def FunMQ (P : Program) (fn : Func) (w0 : World) (H : Nat → Prop) (v0 : Value) (r : Res) (ψ : Pred) (r' : Res) : Exit → Act → World → Prop :=
  bodyPost P fn fun e w' => ∃ v, e = .returned v ∧ Chg (fun b => b ∈ r.foot v0 w0) w0 w' ∧ r'.holds v0 w' (fun b => H b ∨ b ∈ r'.foot v0 w') ∧ (∀ b, b ∈ r'.foot v0 w' → b ∈ r.foot v0 w0 ∨ (w0.heap.size ≤ b ∧ b < w'.heap.size)) ∧ Know (fun b => H b ∨ b ∈ r'.foot v0 w') w' (ψ v)

theorem funM_of {I : World → Prop} {P : Program} {f : FuncId} {fn : Func} {c : Code} {r r' : Res} {φs : List Pred} {ψ : Pred} (n : Nat) (hf : P.funcs[f]? = some fn) (hb : fn.body = some c) (hnt : fn.ntmps = n) (hn' : Nat.ble (φs.length + 1) n = true)
    (h : ∀ (w0 : World) (H : Nat → Prop) (v0 : Value), Keeps I ⟨w0, H, fun b => b ∈ r.foot v0 w0, n⟩ → Tr P ⟨w0, H, fun b => b ∈ r.foot v0 w0, n⟩ c [(0, some r)] ((0, EqV v0) :: zipFrom 1 φs) (FunMQ P fn w0 H v0 r ψ r')) : FunM I P f r φs ψ r' := by
  subst hnt
  have hn : φs.length + 1 ≤ fn.ntmps := Nat.le_of_ble_eq_true hn'
  intro H v0 vs w hH hfoot hr hI hk
  have hl := meets_length hk.now
  have hsl : ∀ t, t < vs.length + 1 → ((v0 :: vs).toArray ++ Array.replicate (fn.ntmps - (v0 :: vs).toArray.size) undef).getD t undef = (v0 :: vs).getD t undef := by
    intro t ht
    rw [Array.getD_eq_getD_getElem?, Array.getElem?_append_left (by simpa using ht), List.getD_eq_getElem?_getD]
    simp
  have h0 := hsl 0 (by omega)
  simp only [List.getD_cons_zero] at h0
  have hone : ∀ k q, memOf [(0, some r)] k = some q → k = 0 ∧ q = r := by
    intro k q hk
    simp only [memOf, lookM_cons] at hk
    by_cases e : 0 = k
    · rw [if_pos e] at hk
      simp only [Option.getD_some, Option.some.injEq] at hk
      exact ⟨e.symm, hk.symm⟩
    · rw [if_neg e] at hk
      simp [lookM] at hk
  refine calls_of_wp hf hb (h w H v0 hI _ w ⟨rfl, by simp; omega, ⟨hH, Chg.refl _ _, fun k q hk => ?_, ?_, ?_⟩, ?_⟩)
  · obtain ⟨rfl, rfl⟩ := hone k q hk
    rw [h0]
    refine q.grow _ w w _ _ (Chg.refl _ _) (fun b _ hx => hx.imp id ?_) (fun _ _ => rfl) hr
    rintro ⟨k', q', hk', hb2⟩
    obtain ⟨rfl, rfl⟩ := hone k' q' hk'
    rw [h0] at hb2
    exact hb2
  · rintro b ⟨k, q, hk, hb⟩
    obtain ⟨rfl, rfl⟩ := hone k q hk
    rw [h0] at hb
    exact ⟨(hfoot b hb).1, (hfoot b hb).2, Or.inl hb⟩
  · intro k k' q q' hk hk' hne
    obtain ⟨rfl, _⟩ := hone k q hk
    obtain ⟨rfl, _⟩ := hone k' q' hk'
    exact absurd rfl hne
  · refine (hk.mono (fun k _ hx => hx.imp id ?_)).imp fun w' hm t φ ht => ?_
    · rw [look_cons] at ht
      by_cases e : 0 = t
      · rw [if_pos e] at ht
        injection ht with ht
        subst ht; subst e
        exact h0
      · rw [if_neg e] at ht
        obtain ⟨h1, v, hv, hφ⟩ := look_zip ht hm
        have hlt : t - 1 < vs.length := (List.getElem?_eq_some_iff.1 hv).1
        have h2 := hsl t (by omega)
        have e2 : (v0 :: vs).getD t undef = v := by
          rw [List.getD_eq_getElem?_getD, show t = (t - 1) + 1 by omega, List.getElem?_cons_succ, hv]
          rfl
        rw [h2, e2]
        exact hφ
    · rintro ⟨k', q, hk', hb⟩
      obtain ⟨rfl, rfl⟩ := hone k' q hk'
      rw [h0] at hb
      exact hb

/-- The return of such a function. -/
theorem rt_funM {P : Program} {fn : Func} {w0 : World} {H : Nat → Prop} {v0 : Value} {r r' : Res} {ψ : Pred} {n : Nat} {M : Own} {G : List (Nat × Fact)} (hb : lookM 0 M = some (some r')) (h0 : look 0 G = some (EqV v0))
    (h : ∀ a w, St ⟨w0, H, fun b => b ∈ r.foot v0 w0, n⟩ M G a w → ∃ v, (results fn a.tmps).run P w = .ok v w ∧ Know (Ex ⟨w0, H, fun b => b ∈ r.foot v0 w0, n⟩ (memOf M) a w) w (ψ v)) : Rt ⟨w0, H, fun b => b ∈ r.foot v0 w0, n⟩ (FunMQ P fn w0 H v0 r ψ r') M G := by
  intro a w hs
  obtain ⟨v, h1, h2⟩ := h a w hs
  have hv0 : a.tmps.getD 0 undef = v0 := hs.know.now 0 _ h0
  have hM := mem_of_memOf hb
  have hex : ∀ b, b ∈ r'.foot v0 w → inFoot (memOf M) a w b := fun b hx => ⟨0, r', hM, by rw [hv0]; exact hx⟩
  have hr := hs.mem.holds 0 r' hM
  rw [hv0] at hr
  refine ⟨hs.defers, v, h1, v, rfl, hs.mem.frame, r'.grow _ w w _ _ (Chg.refl _ _) (fun b _ hb => hb.imp id (hex b)) (fun _ _ => rfl) hr, fun b hb => ?_, h2.mono fun b _ hx => hx.imp id (hex b)⟩
  have := hs.mem.own b (hex b hb)
  exact this.2.2.imp id fun h => ⟨h, this.1⟩
theorem rt_outM {P : Program} {fn : Func} {w0 : World} {H : Nat → Prop} {v0 : Value} {r r' : Res} {ψ : Pred} {n : Nat} {M : Own} {G : List (Nat × Fact)} {q : ResultVar} (hr : fn.results = #[q]) (ho : Outs P M G [q] [ψ]) (hb : lookM 0 M = some (some r')) (h0 : look 0 G = some (EqV v0)) :
    Rt ⟨w0, H, fun b => b ∈ r.foot v0 w0, n⟩ (FunMQ P fn w0 H v0 r ψ r') M G :=
  rt_funM hb h0 fun a w hs => by
    obtain ⟨vs, h1, h2⟩ := ho.run hs
    match vs, h2 with
    | [], h2 => exact (h2.now).elim
    | _ :: _ :: _, h2 => exact h2.now.2.elim
    | [v], h2 =>
      refine ⟨v, ?_, h2.imp fun _ hw => hw.1⟩
      rw [results_eq, hr, show (#[q] : Array ResultVar) = [q].toArray from rfl, List.mapM_toArray]
      simp only [Sem.run_bind, Sem.run_map, h1, Result.andThen, Sem.run_pure]
      rfl
/-- Nothing handed back. -/
theorem rt_noneM {P : Program} {fn : Func} {w0 : World} {H : Nat → Prop} {v0 : Value} {r r' : Res} {n : Nat} {M : Own} {G : List (Nat × Fact)} (hr : fn.results = #[]) (hb : lookM 0 M = some (some r')) (h0 : look 0 G = some (EqV v0)) :
    Rt ⟨w0, H, fun b => b ∈ r.foot v0 w0, n⟩ (FunMQ P fn w0 H v0 r (fun _ _ => True) r') M G :=
  rt_funM hb h0 fun a w hs => ⟨.tuple #[], by rw [results_eq, hr]; simp [Result.andThen], Know.const trivial⟩

theorem ob_callM {I : World → Prop} {f : FuncId} {fn : Func} {x0 : Operand} {as : List Operand} {ts : Array TypeId} {r r' : Res} {φs : List Pred} {ψ : Pred} {k : Nat} (hI : Keeps I X) (hF : FunM I P f r φs ψ r') (hf : P.funcs[f]? = some fn) (hb : fn.body.isSome = true) (hn : (fn.name == "runtime.NumGoroutine") = false)
    (hp : ∀ v w H, r.holds v w H → v = .pointer (some ⟨blk v, 0, none⟩)) (hx0 : arg G x0 = some (.ptr k 0)) (ha : as.map (arg G) = φs.map (fun φ => some (Fact.plain φ))) {dst : Option Nat} (hdk : dst ≠ some k) (hg : Takes l0 G gd) (hi : l0[i]? = some ⟨dst, .call ⟨.value (.func f), (x0 :: as).toArray, ts⟩, ty, ps, af, gd⟩) :
    Ob P X l0 i ⟨dst, .call ⟨.value (.func f), (x0 :: as).toArray, ts⟩, ty, ps, af, gd⟩ [(k, r)] G (.plain ψ) [(k, some r')] :=
  Ob.call hi hg fun M a w hsz hm hp1 _ hp3 hk => by
    have hkM := hp1 (k, r) (by simp)
    have hr := hm.holds k r hkM
    have hv0 : a.eval x0 = a.tmps.getD k undef := by
      have := hk.now x0 (by simp [Op.operands, Call.operands]) _ hx0
      simp only [sem] at this
      rw [this]
      exact (hp _ _ _ hr).symm
    have hd : ∀ j, dst = some j → M j = none := fun j hj => by
      rcases hp3 j hj with h | h
      · exact h
      · simp at h; subst h; exact absurd hj hdk
    refine ⟨f, ((x0 :: as).map a.eval).toArray, by have := run_call (args := (x0 :: as).toArray) (ts := ts) (ty := ty) (ps := ps) (af := af) (gd := gd) hf hb hn (dst := dst) a w; simpa using this, ?_⟩
    have hex : ∀ b, (Ex X (fun j => if j = k then none else M j) a w b ∨ b ∈ r.foot (a.tmps.getD k undef) w) ↔ Ex X M a w b := by
      intro b
      constructor
      · rintro ((h | ⟨j, q, hj, hb⟩) | h)
        · exact Or.inl h
        · by_cases e : j = k
          · simp only [if_pos e] at hj; cases hj
          · simp only [if_neg e] at hj; exact Or.inr ⟨j, q, hj, hb⟩
        · exact Or.inr ⟨k, r, hkM, h⟩
      · rintro (h | ⟨j, q, hj, hb⟩)
        · exact Or.inl (Or.inl h)
        · by_cases e : j = k
          · subst e; rw [hkM] at hj; injection hj with hj; subst hj; exact Or.inr hb
          · exact Or.inl (Or.inr ⟨j, q, by simp only [if_neg e]; exact hj, hb⟩)
    rw [List.map_cons, hv0]
    refine (hF (Ex X (fun j => if j = k then none else M j) a w) (a.tmps.getD k undef) (as.map a.eval) w (fun b hb => Ex.lt hm b ((hex b).1 (Or.inl hb))) (fun b hb => ⟨(hm.own b ⟨k, r, hkM, hb⟩).1, fun hx => ?_⟩) (r.grow _ w w _ _ (Chg.refl _ _) (fun b _ => (hex b).1) (fun _ _ => rfl) hr) ((hI.know hm).mono fun b _ => (hex b).1) ((hk.mono fun b _ => (hex b).1).imp fun w' hw => meets_args _ _ (fun x hx => hw x ?_) ha)).mono ?_
    · rcases hx with hx | ⟨j, q, hj, hx⟩
      · exact (hm.own b ⟨k, r, hkM, hb⟩).2.1 hx
      · by_cases e : j = k
        · simp only [if_pos e] at hj; cases hj
        · simp only [if_neg e] at hj
          exact hm.apart j k q r hj hkM e b hx hb
    · simp only [Op.operands, Call.operands]
      simp
      exact Or.inr (Or.inr hx)
    · rintro e w' ⟨v, rfl, hc, hr', hsub, hv⟩
      have hback : ∀ b, b < w'.heap.size → Ex X (upd M [(k, some r')]) (a.put dst v) w' b → (Ex X (fun j => if j = k then none else M j) a w b ∨ b ∈ r'.foot (a.tmps.getD k undef) w') := by
        intro b _ hx
        rcases hx with hx | ⟨j, q, hj, hx⟩
        · exact Or.inl (Or.inl hx)
        · have hput : (a.put dst v).tmps.getD j undef = a.tmps.getD j undef := by
            cases dst with
            | none => rfl
            | some d' =>
              refine getD_put_ne fun e => ?_
              subst e
              rw [upd_one] at hj
              by_cases e' : k = d'
              · exact hdk (by rw [e'])
              · rw [if_neg e', hd d' rfl] at hj; cases hj
          rw [hput] at hx
          rw [upd_one] at hj
          by_cases e : k = j
          · rw [if_pos e] at hj
            injection hj with hj
            subst hj; subst e
            exact Or.inr hx
          · rw [if_neg e] at hj
            have hq : q.foot (a.tmps.getD j undef) w' = q.foot (a.tmps.getD j undef) w := q.keep _ _ _ fun b hb => hc.block b (hm.own b ⟨j, q, hj, hb⟩).1 fun hx => hm.apart j k q r hj hkM (fun e' => e e'.symm) b hb hx
            rw [hq] at hx
            exact Or.inl (Or.inr ⟨j, q, by show (if j = k then none else M j) = some q; rw [if_neg (fun (x : j = k) => e x.symm)]; exact hj, hx⟩)
      exact ⟨v, rfl, Stepd.writev hm hkM hc (fun hl => r'.grow _ w' w' _ _ (Chg.refl _ _) hback (fun _ _ => rfl) hr') hsub hd, hv.mono hback⟩
theorem boxS_ptr {S : Segs} {t : TypeId} (v : Value) (w : World) (H : Nat → Prop) (h : (boxS S t).holds v w H) : v = .pointer (some ⟨blk v, 0, none⟩) := by
  obtain ⟨b, rfl, _⟩ := h
  rfl
/-- A CALL THAT IS HANDED SOMETHING OF THE CALLER's. -/
theorem t_callM {I : World → Prop} {f : FuncId} {fn : Func} {x0 : Operand} {as : List Operand} {ts : Array TypeId} {r r' : Res} {φs : List Pred} {ψ : Pred} {k : Nat} {dst : Option Nat} (hI : Keeps I X) (hF : FunM I P f r φs ψ r') (hf : P.funcs[f]? = some fn) (hp : ∀ v w H, r.holds v w H → v = .pointer (some ⟨blk v, 0, none⟩)) (hx0 : arg G x0 = some (.ptr k 0)) (hb : lookM k M = some (some r)) (ha : as.map (arg G) = φs.map (fun φ => some (Fact.plain φ)))
    (kk : Te P X l0 C (⟨dst.toList ++ [k], [k], none⟩ :: acc) (i + 1) l ((k, some r') :: M) (putG dst (.plain ψ) G) K) (hg : Takes l0 G gd := by trivial) (hi : l0[i]? = some ⟨dst, .call ⟨.value (.func f), (x0 :: as).toArray, ts⟩, ty, ps, af, gd⟩ := by rfl)
    (hbb : fn.body.isSome = true := by rfl) (hn : (fn.name == "runtime.NumGoroutine") = false := by kernel_rfl) (hM : owns M dst = false := by rfl) (hG : refdO dst G = false := by rfl) :
    Te P X l0 C acc i (⟨dst, .call ⟨.value (.func f), (x0 :: as).toArray, ts⟩, ty, ps, af, gd⟩ :: l) M G K := by
  have hdk : dst ≠ some k := fun e => by subst e; simp [owns, mem_of_memOf hb] at hM
  refine Te.op (o := ⟨dst, .call ⟨.value (.func f), (x0 :: as).toArray, ts⟩, ty, ps, af, gd⟩) [(k, r)] (.plain ψ) [(k, some r')] (ob_callM hI hF hf hbb hn hp hx0 ha hdk hg hi) (by simp [mem_of_memOf hb]) (by simp) (fun d' hd' => ?_) kk
  subst hd'
  exact ⟨Or.inl (owns_none hM), hG⟩
end
end Go.Eng
