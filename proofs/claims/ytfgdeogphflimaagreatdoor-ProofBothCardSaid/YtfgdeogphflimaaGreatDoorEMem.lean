/- The proof engine, sixth text: the rules for operations on slices in memory: reading, growing, converting; and literals. -/
import Derived.Test.YtfgdeogphflimaaGreatDoorESlOps
set_option linter.unusedVariables false
set_option linter.unusedSimpArgs false
namespace Go.Eng
open Go

/-- A stretch of a list replaced. -/
def repl (cs : List Value) (off : Nat) (v : List Value) : List Value := cs.take off ++ v ++ cs.drop (off + v.length)
theorem repl_length {cs : List Value} {off : Nat} {v : List Value} (h : off + v.length ≤ cs.length) : (repl cs off v).length = cs.length := by
  simp [repl]; omega
theorem fold_set (off : Nat) : ∀ (vs : List Value) (k : Nat) (cells : Array Value), off + k + vs.length ≤ cells.size →
    (vs.zipIdx k).foldl (fun (cs : Array Value) (x : Value × Nat) => cs.setIfInBounds (off + x.2) x.1) cells = (repl cells.toList (off + k) vs).toArray
  | [], k, cells, _ => by simp [repl]
  | v :: vs, k, cells, h => by
    simp only [List.length_cons] at h
    rw [List.zipIdx_cons, List.foldl_cons, fold_set off vs (k + 1) _ (by simp; omega)]
    congr 1
    simp only [Array.toList_setIfInBounds]
    unfold repl
    have hk : off + k < cells.toList.length := by simp; omega
    rw [show off + (k + 1) = off + k + 1 by omega, List.take_set, List.drop_set_of_lt (by omega)]
    rw [List.take_succ_eq_append_getElem hk, List.set_append_right _ _ (by simp; omega)]
    simp only [List.length_take, List.length_cons]
    rw [show min (off + k) cells.toList.length = off + k by omega, Nat.sub_self, show off + k + 1 + vs.length = off + k + (vs.length + 1) by omega]
    simp

theorem fill_cons {place : Nat → Option (Nat × Nat)} {cells : List Value} {i : Nat} {v : Value} {rest : List (Nat × Value)} {off size : Nat} {vs : List Value} (hp : place i = some (off, size)) (hv : v.cells = vs.toArray) (hs : vs.length = size) (hl : off + size ≤ cells.length) :
    Instr.fill place cells.toArray ((i, v) :: rest) = Instr.fill place (repl cells off vs).toArray rest := by
  subst hs
  rw [Instr.fill, hp]
  simp only [hv, List.size_toArray]
  rw [if_neg (by simp; omega)]
  have := fold_set off vs 0 cells.toArray (by simpa using hl)
  simp only [Nat.add_zero] at this
  have e : vs.toArray.zipIdx.foldl (fun (cs : Array Value) (x : Value × Nat) => cs.setIfInBounds (off + x.2) x.1) cells.toArray = (repl cells off vs).toArray := by
    rw [← this, ← Array.foldl_toList]
    simp
  rw [← e]

/-- Parts of a literal, as they are known. -/
inductive Parts (G : List (Nat × Fact)) : List (Nat × Operand) → List (Nat × Segs × Value) → Prop
  | nil : Parts G [] []
  | one {i : Nat} {x : Operand} {v : Value} {ps : List (Nat × Operand)} {vs : List (Nat × Segs × Value)} (ha : arg G x = some (EqV v)) (ho : v.oneCell' = true) (k : Parts G ps vs) : Parts G ((i, x) :: ps) ((i, [sg1 v ho], v) :: vs)
  | agg {i : Nat} {x : Operand} {S : Segs} {ps : List (Nat × Operand)} {vs : List (Nat × Segs × Value)} (ha : arg G x = some (EqV (aggS S))) (k : Parts G ps vs) : Parts G ((i, x) :: ps) ((i, S, aggS S) :: vs)

theorem one_cells {v : Value} (h : v.oneCell' = true) : v.cells = #[v] := by cases v <;> first | rfl | (simp [Value.oneCell'] at h)

theorem Parts.vals {G : List (Nat × Fact)} {ps : List (Nat × Operand)} {vs : List (Nat × Segs × Value)} (h : Parts G ps vs) {a : Act} {w : World} (hw : ∀ x ∈ ps.map (·.2), ∀ ψ, arg G x = some ψ → sem ψ (a.eval x) a w) :
    ps.map (fun p => (p.1, a.eval p.2)) = vs.map (fun q => (q.1, q.2.2)) ∧ ∀ q ∈ vs, q.2.2.cells = (flat q.2.1).toArray := by
  induction h with
  | nil => exact ⟨rfl, by simp⟩
  | @one i x v ps vs ha ho _ ih =>
    obtain ⟨h1, h2⟩ := ih fun y hy => hw y (by simp at hy ⊢; exact Or.inr hy)
    have hv : a.eval x = v := hw x (by simp) _ ha
    refine ⟨by simp [h1, hv], fun q hq => ?_⟩
    rcases List.mem_cons.1 hq with rfl | hq
    · simp [one_cells ho, flat, sg1]
    · exact h2 q hq
  | @agg i x S ps vs ha _ ih =>
    obtain ⟨h1, h2⟩ := ih fun y hy => hw y (by simp at hy ⊢; exact Or.inr hy)
    have hv : a.eval x = aggS S := hw x (by simp) _ ha
    refine ⟨by simp [h1, hv], fun q hq => ?_⟩
    rcases List.mem_cons.1 hq with rfl | hq
    · rfl
    · exact h2 q hq

/-- A struct's fields: where each begins, how many cells it has. -/
def putAll (pl : List (Nat × Nat)) : Segs → List (Nat × Segs × Value) → Option Segs
  | Z, [] => some Z
  | Z, (i, V, _) :: vs => match pl[i]? with
    | some (off, n) => match Nat.beq (lenS V) n with
      | true => match segPut Z off n V with
        | some Z' => putAll pl Z' vs
        | none => none
      | false => none
    | none => none
theorem segPut_spec {Z V Z' : Segs} {off n : Nat} (h : segPut Z off n V = some Z') (hl : (flat V).length = n) : flat Z' = repl (flat Z) off (flat V) ∧ off + n ≤ (flat Z).length := by
  unfold segPut at h
  cases hA : segTake Z off with
  | none => rw [hA] at h; cases h
  | some A =>
    cases hB : segDrop Z (off + n) with
    | none => rw [hA, hB] at h; cases h
    | some B =>
      rw [hA, hB] at h
      injection h with h
      obtain ⟨e1, _⟩ := segTake_spec hA
      obtain ⟨e2, l2⟩ := segDrop_spec hB
      refine ⟨?_, l2⟩
      rw [← h, flat_append, flat_append, repl, hl, e1, e2, List.append_assoc]
theorem fill_putAll (place : Nat → Option (Nat × Nat)) (pl : List (Nat × Nat)) (hp : ∀ i, place i = pl[i]?) : ∀ (vs : List (Nat × Segs × Value)) (Z S : Segs), putAll pl Z vs = some S → (∀ q ∈ vs, q.2.2.cells = (flat q.2.1).toArray) →
    Instr.fill place (flat Z).toArray (vs.map (fun q => (q.1, q.2.2))) = some (flat S).toArray
  | [], Z, S, h, _ => by simp [putAll] at h; subst h; rfl
  | (i, V, v) :: vs, Z, S, h, hc => by
    simp only [putAll] at h
    cases hpl : pl[i]? with
    | none => rw [hpl] at h; cases h
    | some on =>
      obtain ⟨off, n⟩ := on
      rw [hpl] at h
      simp only at h
      cases hb : Nat.beq (lenS V) n with
      | false => rw [hb] at h; cases h
      | true =>
        rw [hb] at h
        simp only at h
        cases hz : segPut Z off n V with
        | none => rw [hz] at h; cases h
        | some Z' =>
          rw [hz] at h
          have hl : (flat V).length = n := by rw [flat_length]; exact Nat.eq_of_beq_eq_true hb
          obtain ⟨e, l⟩ := segPut_spec hz hl
          have := hc (i, V, v) (by simp)
          rw [List.map_cons, fill_cons (by rw [hp, hpl]) this hl l, ← e]
          exact fill_putAll place pl hp vs Z' S h fun q hq => hc q (by simp [hq])

/-- A struct type: its fields' places, its zero. -/
structure BI (P : Program) (T : TypeId) (pl : List (Nat × Nat)) (Z : Segs) : Prop where
  zero : ZI P T (aggS Z)
  places : ∃ fs, P.underlying T = some (.struct fs) ∧ ∀ w, (fs.mapM fun f => do pure (f.offset, ← sizeOf f.type) : Sem (Array (Nat × Nat))).run P w = .ok pl.toArray w

section
variable {P : Program} {X : Ctx} {l0 : List Oper} {i : Nat} {l : List Oper} {C : List Touch → Prop} {acc : List Touch} {M : Own} {G : List (Nat × Fact)} {K : Own → List (Nat × Fact) → Prop}
  {d : Nat} {ty : TypeId} {ps : String} {af : Array Edge} {gd : Option (Nat × Bool)}

/-- A STRUCT's LITERAL. -/
theorem t_build {T : TypeId} {pl : List (Nat × Nat)} {Z S : Segs} {parts : List (Nat × Operand)} {vs : List (Nat × Segs × Value)} (hB : BI P T pl Z) (hp : Parts G parts vs) (hS : putAll pl Z vs = some S)
    (k : Te P X l0 C (⟨[d], [], none⟩ :: acc) (i + 1) l M ((d, EqV (aggS S)) :: G) K) (hg : Takes l0 G gd := by trivial) (hi : l0[i]? = some ⟨some d, .build T parts.toArray, ty, ps, af, gd⟩ := by rfl) (hM : owns M (some d) = false := by rfl) (hG : refdO (some d) G = false := by rfl) :
    Te P X l0 C acc i (⟨some d, .build T parts.toArray, ty, ps, af, gd⟩ :: l) M G K :=
  t_pure _ (fun a w hw => by
    obtain ⟨h1, h2⟩ := hp.vals (a := a) (w := w) fun x hx => hw x (by simpa [Op.operands] using hx)
    obtain ⟨fs, hu, hpl⟩ := hB.places
    show ((do let v ← Instr.build T (parts.toArray.map fun (i, x) => (i, a.eval x)); Pure.pure (Next.value v)) : Sem Next).run P w = _
    have hf := fill_putAll (pl.toArray[·]?) pl (fun i => by simp) vs Z S hS h2
    have hm : (parts.toArray.map fun (x : Nat × Operand) => (x.1, a.eval x.2)).toList = vs.map (fun q => (q.1, q.2.2)) := by rw [Array.toList_map]; exact h1
    have hm' : (parts.toArray.map fun (i, x) => (i, a.eval x)).toList = vs.map (fun q => (q.1, q.2.2)) := hm
    unfold Instr.build
    simp only [Sem.run_bind, hB.zero.run, Result.andThen, run_underlying hu, hpl, hm', aggS, Value.cells, hf, Sem.run_pure]) k hg hi hM hG

/-- What a row's literal holds. -/
def litE : List (Nat × Segs × Value) → List Segs := fun vs => vs.map fun q => q.2.1
def okLit (sz : Nat) : Nat → List (Nat × Segs × Value) → Bool
  | _, [] => true
  | j, (i, V, _) :: vs => match Nat.beq i j with
    | true => match Nat.beq (lenS V) sz with
      | true => okLit sz (j + 1) vs
      | false => false
    | false => false

theorem fill_lit (sz : Nat) : ∀ (vs : List (Nat × Segs × Value)) (j : Nat) (done zs : List Value), okLit sz j vs = true → (∀ q ∈ vs, q.2.2.cells = (flat q.2.1).toArray) → done.length = j * sz → zs.length = vs.length * sz →
    Instr.fill (fun i => some (i * sz, sz)) (done ++ zs).toArray (vs.map (fun q => (q.1, q.2.2))) = some (done ++ cellsE (litE vs)).toArray
  | [], j, done, zs, _, _, hd, hz => by
    have : zs = [] := List.eq_nil_of_length_eq_zero (by simpa using hz)
    subst this
    rfl
  | (i, V, v) :: vs, j, done, zs, h, hc, hd, hz => by
    simp only [okLit] at h
    cases hb : Nat.beq i j with
    | false => rw [hb] at h; cases h
    | true =>
      rw [hb] at h
      simp only at h
      have e := Nat.eq_of_beq_eq_true hb
      subst e
      cases hb2 : Nat.beq (lenS V) sz with
      | false => rw [hb2] at h; cases h
      | true =>
        rw [hb2] at h
        simp only at h
        have hl : (flat V).length = sz := by rw [flat_length]; exact Nat.eq_of_beq_eq_true hb2
        have hzl : zs.length = sz + vs.length * sz := by rw [hz, List.length_cons, Nat.add_mul, Nat.one_mul, Nat.add_comm]
        have := hc (i, V, v) (by simp)
        rw [List.map_cons, fill_cons (off := i * sz) (size := sz) (vs := flat V) rfl this hl (by simp [hd, hzl])]
        have er : repl (done ++ zs) (i * sz) (flat V) = (done ++ flat V) ++ zs.drop sz := by
          unfold repl
          rw [List.take_append_of_le_length (by omega), List.take_of_length_le (by omega), hl, List.drop_append, hd, List.drop_eq_nil_of_le (by omega)]
          simp
        rw [er, fill_lit sz vs (i + 1) (done ++ flat V) (zs.drop sz) h (fun q hq => hc q (by simp [hq])) (by rw [List.length_append, hd, hl, Nat.add_mul, Nat.one_mul]) (by rw [List.length_drop]; omega)]
        simp [litE, cellsE, List.append_assoc]

theorem run_lit {T e : TypeId} {de : TypeDesc} {sz by_ n : Nat} {z : Value} {parts : List (Nat × Operand)} {vs : List (Nat × Segs × Value)} (hu : P.underlying T = some (.slice e)) (he : TI P e de sz by_) (hz : ZI P e z) (hzs : z.cells.size = sz) (hsz : 0 < sz) (hn : 0 < n) (hb : n * sz ≤ 16777216)
    (hp : Parts G parts vs) (hok : okLit sz 0 vs = true) (hlen : vs.length = n) (a : Act) (w : World) (hw : given ⟨some d, .buildSlice T n parts.toArray, ty, ps, af, gd⟩ G a w) :
    (execOp a.eval ⟨some d, .buildSlice T n parts.toArray, ty, ps, af, gd⟩).run P w = .ok (.value (.slice (some ⟨w.heap.size, 0, none⟩) n n)) (w.alloc (.cells (cellsE (litE vs)).toArray e)) := by
  obtain ⟨h1, h2⟩ := hp.vals (a := a) (w := w) fun x hx => hw x (by simpa [Op.operands] using hx)
  show ((do let v ← Instr.buildSlice T n (parts.toArray.map fun (i, x) => (i, a.eval x)); Pure.pure (Next.value v)) : Sem Next).run P w = _
  have hm : (parts.toArray.map fun (x : Nat × Operand) => (x.1, a.eval x.2)).toList = vs.map (fun q => (q.1, q.2.2)) := by rw [Array.toList_map]; exact h1
  have hm' : (parts.toArray.map fun (i, x) => (i, a.eval x)).toList = vs.map (fun q => (q.1, q.2.2)) := hm
  have hpos : n * sz ≠ 0 := by have := Nat.mul_pos hn hsz; omega
  have hf := fill_lit sz vs 0 [] ((Array.range (n * sz)).map (z.cells[· % z.cells.size]!)).toList hok h2 (by simp) (by simp [hlen])
  simp only [List.nil_append, Array.toArray_toList] at hf
  unfold Instr.buildSlice
  simp only [Sem.run_bind, run_underlying hu, Result.andThen, he.size, hm']
  rw [if_neg (by omega), if_neg hpos]
  simp only [Sem.run_bind, Sem.run_pure, hz.run, Result.andThen, hf, newRow, run_newObj]
  simp [Result.andThen]

/-- A row's literal, to be read. -/
theorem t_lit {T e : TypeId} {de : TypeDesc} {sz by_ n : Nat} {z : Value} {parts : List (Nat × Operand)} {vs : List (Nat × Segs × Value)} (hu : P.underlying T = some (.slice e)) (he : TI P e de sz by_) (hz : ZI P e z) (hzs : z.cells.size = sz) (hsz : Nat.blt 0 sz = true) (hn : Nat.blt 0 n = true) (hb : Nat.ble (n * sz) 16777216 = true)
    (hp : Parts G parts vs) (hok : okLit sz 0 vs = true) (hlen : vs.length = n)
    (k : Te P X l0 C (⟨[d] ++ [], [], none⟩ :: acc) (i + 1) l M ((d, .plain (SlC sz n (cellsE (litE vs)))) :: G) K) (hg : Takes l0 G gd := by trivial) (hi : l0[i]? = some ⟨some d, .buildSlice T n parts.toArray, ty, ps, af, gd⟩ := by rfl) (hM : owns M (some d) = false := by rfl) (hG : refdO (some d) G = false := by rfl) :
    Te P X l0 C acc i (⟨some d, .buildSlice T n parts.toArray, ty, ps, af, gd⟩ :: l) M G K := by
  refine t_clean (o := ⟨some d, .buildSlice T n parts.toArray, ty, ps, af, gd⟩) (φ := .plain (SlC sz n (cellsE (litE vs)))) (Ob.val hi hg fun M a w hn' hm _ _ hp3 hk => ?_) hM hG k
  have hb' := Nat.le_of_ble_eq_true hb
  have hs : Stepd X M a M (a.put (some d) (.slice (some ⟨w.heap.size, 0, none⟩) n n)) w (w.alloc (.cells (cellsE (litE vs)).toArray e)) := Stepd.of_clean hm (dst_none hp3) (Chg.alloc _ _ _)
  have hsz' : 0 < sz := by simpa using hsz
  have hn0 : 0 < n := by simpa using hn
  refine ⟨_, _, run_lit hu he hz hzs hsz' hn0 hb' hp hok hlen a w hk.now, hs, fun w' hc => ?_⟩
  have hlt := hm.new_not (d := some d) (v := .slice (some ⟨w.heap.size, 0, none⟩) n n) (dst_none hp3) (Chg.alloc _ w (.cells (cellsE (litE vs)).toArray e)) (Nat.le_refl _)
  have hblk := hc.block w.heap.size (by simp) hlt
  rw [heap_alloc_new] at hblk
  have hlc : (cellsE (litE vs)).length = n * sz := by
    rw [← hlen]
    have : ∀ (vs : List (Nat × Segs × Value)) (j : Nat), okLit sz j vs = true → (cellsE (litE vs)).length = vs.length * sz := by
      intro vs
      induction vs with
      | nil => intro j _; simp [litE, cellsE]
      | cons q vs ih =>
        intro j h
        obtain ⟨i, V, v⟩ := q
        simp only [okLit] at h
        cases hb1 : Nat.beq i j with
        | false => rw [hb1] at h; cases h
        | true =>
          rw [hb1] at h
          simp only at h
          cases hb2 : Nat.beq (lenS V) sz with
          | false => rw [hb2] at h; cases h
          | true =>
            rw [hb2] at h
            have hl : (flat V).length = sz := by rw [flat_length]; exact Nat.eq_of_beq_eq_true hb2
            have := ih (j + 1) h
            simp only [litE, cellsE, List.map_cons, List.flatMap_cons, List.length_append, List.length_cons] at this ⊢
            rw [this, hl, Nat.add_mul]
            omega
    exact this vs 0 hok
  have hnm : n ≤ maxLen := by
    have : n ≤ n * sz := Nat.le_mul_of_pos_right n hsz'
    simp only [maxLen]
    omega
  exact ⟨hlc, _, n, rfl, Nat.le_refl _, hnm, Or.inr ⟨w.heap.size, 0, rfl, fun j u hj => by rw [cell_of hblk, Nat.zero_add]; simpa using hj⟩⟩

/-- What a slot owns goes over to another one, as it is. -/
theorem ob_take {op : Op} {k : Nat} {r : Res} (hop : ∀ a : Act, execOp a.eval ⟨some d, op, ty, ps, af, gd⟩ = Pure.pure (Next.value (a.eval (.tmp k)))) (hdn : d < X.n) (hg : Takes l0 G gd) (hi : l0[i]? = some ⟨some d, op, ty, ps, af, gd⟩) (hkd : k ≠ d) :
    Ob P X l0 i ⟨some d, op, ty, ps, af, gd⟩ [(k, r)] G (.plain fun _ _ => True) [(d, some r), (k, none)] :=
  Ob.val hi hg fun M a w hn hm hp1 hp2 hp3 hk => by
    have hkM := hp1 (k, r) (by simp)
    have hd : M d = none := by
      rcases hp3 d rfl with h | h
      · exact h
      · simp at h; exact absurd h.symm hkd
    refine ⟨a.tmps.getD k undef, w, ?_, Stepd.pass hm (by omega) hkM hd (Chg.refl _ _) (fun _ hl => r.grow _ w w _ _ (Chg.refl _ _) hl (fun _ _ => rfl) (hm.holds k r hkM)) (fun b hb => Or.inl hb), Know.const trivial⟩
    rw [hop]
    rfl
theorem take_sides {k : Nat} {r : Res} (hb : lookM k M = some (some r)) (hM : owns M (some d) = false) : (∀ x ∈ [(k, r)], memOf M x.1 = some x.2) ∧ (∀ x ∈ [(d, some r), (k, (none : Option Res))], memOf M x.1 = none ∨ x.1 ∈ [(k, r)].map (·.1)) := by
  refine ⟨by simp [mem_of_memOf hb], fun x hx => ?_⟩
  rcases List.mem_cons.1 hx with rfl | hx
  · exact Or.inl (owns_none hM)
  · simp only [List.mem_singleton] at hx
    subst hx
    exact Or.inr (by simp)
theorem t_take {k : Nat} {r : Res} (hb : lookM k M = some (some r)) (kk : Te P X l0 C (⟨[d, k], [d, k], none⟩ :: acc) (i + 1) l ((d, some r) :: (k, none) :: M) ((d, .plain fun _ _ => True) :: G) K)
    (hg : Takes l0 G gd := by trivial) (hi : l0[i]? = some ⟨some d, .move (.tmp k), ty, ps, af, gd⟩ := by rfl) (hdn : Nat.blt d X.n = true := by rfl) (hkd : Nat.beq k d = false := by rfl) (hM : owns M (some d) = false := by rfl) (hG : refdO (some d) G = false := by rfl) :
    Te P X l0 C acc i (⟨some d, .move (.tmp k), ty, ps, af, gd⟩ :: l) M G K :=
  Te.op (o := ⟨some d, .move (.tmp k), ty, ps, af, gd⟩) [(k, r)] (.plain fun _ _ => True) [(d, some r), (k, none)] (ob_take (fun _ => rfl) (by simpa using hdn) hg hi (fun e => by subst e; simp at hkd)) (take_sides hb hM).1 (take_sides hb hM).2
    (fun d' hd' => by injection hd' with hd'; subst hd'; exact ⟨Or.inl (owns_none hM), hG⟩) kk
theorem t_takea {k : Nat} {r : Res} (hb : lookM k M = some (some r)) (kk : Te P X l0 C (⟨[d, k], [d, k], none⟩ :: acc) (i + 1) l ((d, some r) :: (k, none) :: M) ((d, .plain fun _ _ => True) :: G) K)
    (hg : Takes l0 G gd := by trivial) (hi : l0[i]? = some ⟨some d, .assign (.tmp k), ty, ps, af, gd⟩ := by rfl) (hdn : Nat.blt d X.n = true := by rfl) (hkd : Nat.beq k d = false := by rfl) (hM : owns M (some d) = false := by rfl) (hG : refdO (some d) G = false := by rfl) :
    Te P X l0 C acc i (⟨some d, .assign (.tmp k), ty, ps, af, gd⟩ :: l) M G K :=
  Te.op (o := ⟨some d, .assign (.tmp k), ty, ps, af, gd⟩) [(k, r)] (.plain fun _ _ => True) [(d, some r), (k, none)] (ob_take (fun _ => rfl) (by simpa using hdn) hg hi (fun e => by subst e; simp at hkd)) (take_sides hb hM).1 (take_sides hb hM).2
    (fun d' hd' => by injection hd' with hd'; subst hd'; exact ⟨Or.inl (owns_none hM), hG⟩) kk
/-- An empty slice, to grow. -/
theorem t_nil {sz : Nat} (kk : Te P X l0 C (⟨[d], [d], none⟩ :: acc) (i + 1) l ((d, some (rowR sz 0 [])) :: M) ((d, .plain fun _ _ => True) :: G) K)
    (hg : Takes l0 G gd := by trivial) (hi : l0[i]? = some ⟨some d, .assign (.const (.slice none 0 0)), ty, ps, af, gd⟩ := by rfl) (hdn : Nat.blt d X.n = true := by rfl) (hM : owns M (some d) = false := by rfl) (hG : refdO (some d) G = false := by rfl) :
    Te P X l0 C acc i (⟨some d, .assign (.const (.slice none 0 0)), ty, ps, af, gd⟩ :: l) M G K :=
  have hdn' : d < X.n := by simpa using hdn
  Te.op (o := ⟨some d, .assign (.const (.slice none 0 0)), ty, ps, af, gd⟩) [] (.plain fun _ _ => True) [(d, some (rowR sz 0 []))]
    (Ob.val hi hg fun M a w hn hm _ _ hp3 _ => ⟨.slice none 0 0, w, rfl, Stepd.fresh hm (by omega) (dst_none hp3 d rfl) (Chg.refl _ _) (fun _ _ => rowHolds.nil sz w) (fun b hb => by simp [rowR, footV] at hb), Know.const trivial⟩)
    (by simp) (by simp [owns_none hM]) (fun d' hd' => by injection hd' with hd'; subst hd'; exact ⟨Or.inl (owns_none hM), hG⟩) kk
end
end Go.Eng
