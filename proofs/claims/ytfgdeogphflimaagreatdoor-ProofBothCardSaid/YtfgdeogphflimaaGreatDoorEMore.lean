/- The proof engine, eleventh text: rules in the forms that scripts use: rows under second names, bytes, literals of strings, guards that are split. -/
import Derived.Test.YtfgdeogphflimaaGreatDoorECall
set_option linter.unusedVariables false
set_option linter.unusedSimpArgs false
namespace Go.Eng
open Go

/-- A number's lowest byte. -/
def byteOf (n : Int) : UInt8 := UInt8.ofNat (n % 256).toNat
theorem wrap_byte (n : Int) : (.int .u8 (IntKind.u8.wrap n) : Value) = U8 (byteOf n) := by
  rw [wrap_u8]
  congr 1
  unfold byteOf
  rw [UInt8.toNat_ofNat']
  omega
theorem rowB_pushU (s : ByteArray) (b : UInt8) (ho : (U8 b).oneCell' = true) (v : Value) : rowR 1 (s.size + 1) (byteCells s ++ cellsE (litE [(0, [sg1 (U8 b) ho], v)])) = rowB (s.push b) := by
  unfold rowB
  rw [ByteArray.size_push]
  congr 1
  simp [byteCells, cellsE, litE, flat, sg1]

theorem run_shrK {P : Program} {T : TypeId} {k j : IntKind} {m q : Int} {n : Nat} (h : n ≤ k.bits) (hq : q = 2 ^ n) (w : World) : (binOp .shr T (.int k m) (.int j n)).run P w = .ok (.int k (m / q)) w := by
  have := run_shrN (P := P) (T := T) (k := k) (j := j) (m := m) (n := (n : Int)) ⟨by omega, by omega⟩ w
  rw [this, hq]
  simp
theorem run_shlK {P : Program} {T : TypeId} {k j : IntKind} {m q : Int} {n : Nat} (h : n ≤ k.bits) (hq : q = 2 ^ n) (hf : inK k (m * q)) (w : World) : (binOp .shl T (.int k m) (.int j n)).run P w = .ok (.int k (m * q)) w := by
  subst hq
  have := run_shlN (P := P) (T := T) (k := k) (j := j) (m := m) (n := (n : Int)) ⟨by omega, by omega⟩ (by simpa using hf) w
  rw [this]
  simp
/-- A literal of strings. -/
inductive PartsS (G : List (Nat × Fact)) : Nat → List (Nat × Operand) → List ByteArray → Prop
  | nil {n : Nat} : PartsS G n [] []
  | cons {n i : Nat} {x : Operand} {s : ByteArray} {ps : List (Nat × Operand)} {l : List ByteArray} (he : Nat.beq i n = true) (ha : arg G x = some (EqV (.string s))) (k : PartsS G (n + 1) ps l) : PartsS G n ((i, x) :: ps) (s :: l)
theorem PartsS.parts {G : List (Nat × Fact)} {n : Nat} {ps : List (Nat × Operand)} {l : List ByteArray} (h : PartsS G n ps l) : ∃ vs, Parts G ps vs ∧ okLit 1 n vs = true ∧ vs.length = l.length ∧ cellsE (litE vs) = l.map Value.string := by
  induction h with
  | nil => exact ⟨[], .nil, rfl, rfl, rfl⟩
  | @cons n i x s ps l he ha _ ih =>
    obtain ⟨vs, h1, h2, h3, h4⟩ := ih
    refine ⟨(i, [sg1 (.string s)], .string s) :: vs, .one ha rfl h1, ?_, by simp [h3], ?_⟩
    · simp only [okLit, he]
      exact h2
    · simp only [litE, cellsE, List.map_cons, List.flatMap_cons] at h4 ⊢
      rw [h4]
      rfl

section
variable {P : Program} {X : Ctx} {l0 : List Oper} {i : Nat} {l : List Oper} {C : List Touch → Prop} {acc : List Touch} {M : Own} {G : List (Nat × Fact)} {K : Own → List (Nat × Fact) → Prop}
  {d : Nat} {ty : TypeId} {ps : String} {af : Array Edge} {gd : Option (Nat × Bool)}

/-- Two ways, by what a slot says. -/
theorem t_split {b : Bool} (t : Nat) (hl : look t G = some (EqV (.bool b))) (h1 : b = true → Te P X l0 C acc i l M G K) (h2 : b = false → Te P X l0 C acc i l M G K) : Te P X l0 C acc i l M G K := by
  cases b with
  | true => exact h1 rfl
  | false => exact h2 rfl

theorem t_convB {S T : TypeId} {x : Operand} {j : IntKind} {m : Int} {ds : TypeDesc} (hs : P.underlying S = some ds) (hu : P.underlying T = some (.int .u8)) (hx : arg G x = some (EqV (.int j m)))
    (k : Te P X l0 C (⟨[d], [], none⟩ :: acc) (i + 1) l M ((d, EqV (U8 (byteOf m))) :: G) K) (hg : Takes l0 G gd := by trivial) (hi : l0[i]? = some ⟨some d, .convert S T x, ty, ps, af, gd⟩ := by rfl) (hM : owns M (some d) = false := by rfl) (hG : refdO (some d) G = false := by rfl) :
    Te P X l0 C acc i (⟨some d, .convert S T x, ty, ps, af, gd⟩ :: l) M G K :=
  t_conv hs hu hx (by rw [wrap_byte]; exact k) hg hi hM hG
/-- A whole number of another kind, that fits. -/
theorem t_convF {S T : TypeId} {x : Operand} {j k' : IntKind} {m : Int} {ds : TypeDesc} (hs : P.underlying S = some ds) (hu : P.underlying T = some (.int k')) (hx : arg G x = some (EqV (.int j m))) (hf : inK k' m)
    (k : Te P X l0 C (⟨[d], [], none⟩ :: acc) (i + 1) l M ((d, EqV (.int k' m)) :: G) K) (hg : Takes l0 G gd := by trivial) (hi : l0[i]? = some ⟨some d, .convert S T x, ty, ps, af, gd⟩ := by rfl) (hM : owns M (some d) = false := by rfl) (hG : refdO (some d) G = false := by rfl) :
    Te P X l0 C acc i (⟨some d, .convert S T x, ty, ps, af, gd⟩ :: l) M G K :=
  t_conv hs hu hx (by rw [wrap_inK hf]; exact k) hg hi hM hG

/-- Something is read out of what one owns at a slot that is named. -/
theorem t_readN {op : Op} {k : Nat} {r : Res} {c : Value} {x : Operand} (hx : named G x k) (hop : x ∈ op.operands) (h : ∀ (a : Act) (w : World), a.eval x = a.tmps.getD k undef → (∃ H, r.holds (a.tmps.getD k undef) w H) → (execOp a.eval ⟨some d, op, ty, ps, af, gd⟩).run P w = .ok (.value c) w) (hb : lookM k M = some (some r))
    (kk : Te P X l0 C (⟨[d, k], [], none⟩ :: acc) (i + 1) l M ((d, EqV c) :: G) K) (hg : Takes l0 G gd) (hi : l0[i]? = some ⟨some d, op, ty, ps, af, gd⟩) (hM : owns M (some d) = false) (hG : refdO (some d) G = false) :
    Te P X l0 C acc i (⟨some d, op, ty, ps, af, gd⟩ :: l) M G K :=
  t_read (fun a w hw hr => h a w (named_eval hx (hw x hop)) hr) hb kk hg hi hM hG
/-- The length of a row. -/
theorem t_lenN {T e : TypeId} {k sz n : Nat} {xs : List Value} {x : Operand} (hu : P.underlying T = some (.slice e)) (hx : named G x k) (hb : lookM k M = some (some (rowR sz n xs)))
    (kk : Te P X l0 C (⟨[d, k], [], none⟩ :: acc) (i + 1) l M ((d, EqV (.int .i64 n)) :: G) K) (hg : Takes l0 G gd := by trivial) (hi : l0[i]? = some ⟨some d, .call ⟨.builtin .len, #[x], #[T]⟩, ty, ps, af, gd⟩ := by rfl) (hM : owns M (some d) = false := by rfl) (hG : refdO (some d) G = false := by rfl) :
    Te P X l0 C acc i (⟨some d, .call ⟨.builtin .len, #[x], #[T]⟩, ty, ps, af, gd⟩ :: l) M G K :=
  t_readN hx (by simp [Op.operands, Call.operands]) (fun a w he hr => by
    obtain ⟨_, hr⟩ := hr
    obtain ⟨A, c, hv⟩ := slC_form _ _ (rowHolds.slC hr)
    rw [run_builtin]
    have e : (#[x].map a.eval) = #[a.tmps.getD k undef] := by simp [he]
    rw [e, hv]
    simp [builtin, Builtin.len_, run_underlying hu, Result.andThen, goInt]) hb kk hg hi hM hG
/-- Bytes of a row as a string. -/
theorem t_strN {S T e : TypeId} {k : Nat} {s : ByteArray} {x : Operand} (hs : P.underlying S = some (.slice e)) (he : P.underlying e = some (.int .u8)) (hT : P.underlying T = some .string) (hx : named G x k) (hb : lookM k M = some (some (rowB s)))
    (kk : Te P X l0 C (⟨[d, k], [], none⟩ :: acc) (i + 1) l M ((d, EqV (.string s)) :: G) K) (hg : Takes l0 G gd := by trivial) (hi : l0[i]? = some ⟨some d, .convert S T x, ty, ps, af, gd⟩ := by rfl) (hM : owns M (some d) = false := by rfl) (hG : refdO (some d) G = false := by rfl) :
    Te P X l0 C acc i (⟨some d, .convert S T x, ty, ps, af, gd⟩ :: l) M G K :=
  t_readN hx (by simp [Op.operands]) (fun a w he' hr => by
    obtain ⟨_, hr⟩ := hr
    show ((do let v ← convert S T (a.eval x); Pure.pure (Next.value v)) : Sem Next).run P w = _
    have h := run_bytes_str hs he hT (rowHolds.slC hr)
    rw [he']
    generalize a.tmps.getD k undef = q at h ⊢
    simp [h, Result.andThen]) hb kk hg hi hM hG

theorem t_litS {T e : TypeId} {by_ : Nat} {parts : List (Nat × Operand)} {l' : List ByteArray} (hu : P.underlying T = some (.slice e)) (he : TI P e .string 1 by_) (hz : ZI P e (.string ByteArray.empty)) (hp : PartsS G 0 parts l') (n : Nat) (hln : Nat.beq l'.length n = true) (hn : Nat.blt 0 n = true) (hb : Nat.ble (n * 1) 16777216 = true)
    (k : Te P X l0 C (⟨[d], [], none⟩ :: acc) (i + 1) l M ((d, .plain (SlS l')) :: G) K) (hg : Takes l0 G gd := by trivial) (hi : l0[i]? = some ⟨some d, .buildSlice T n parts.toArray, ty, ps, af, gd⟩ := by rfl) (hM : owns M (some d) = false := by rfl) (hG : refdO (some d) G = false := by rfl) :
    Te P X l0 C acc i (⟨some d, .buildSlice T n parts.toArray, ty, ps, af, gd⟩ :: l) M G K := by
  obtain ⟨vs, h1, h2, h3, h4⟩ := hp.parts
  have hl := Nat.eq_of_beq_eq_true hln
  refine t_lit hu he hz rfl rfl hn hb h1 h2 (h3.trans hl) ?_ hg hi hM hG
  rw [h4, ← hl]
  exact k
theorem t_litSR {T e : TypeId} {by_ : Nat} {parts : List (Nat × Operand)} {l' : List ByteArray} (hu : P.underlying T = some (.slice e)) (he : TI P e .string 1 by_) (hz : ZI P e (.string ByteArray.empty)) (hp : PartsS G 0 parts l') (n : Nat) (hln : Nat.beq l'.length n = true) (hn : Nat.blt 0 n = true) (hb : Nat.ble (n * 1) 16777216 = true)
    (k : Te P X l0 C (⟨[d], [d], none⟩ :: acc) (i + 1) l ((d, some (rowS l')) :: M) ((d, .plain fun _ _ => True) :: G) K) (hg : Takes l0 G gd := by trivial) (hi : l0[i]? = some ⟨some d, .buildSlice T n parts.toArray, ty, ps, af, gd⟩ := by rfl) (hdn : Nat.blt d X.n = true := by rfl) (hM : owns M (some d) = false := by rfl) (hG : refdO (some d) G = false := by rfl) :
    Te P X l0 C acc i (⟨some d, .buildSlice T n parts.toArray, ty, ps, af, gd⟩ :: l) M G K := by
  obtain ⟨vs, h1, h2, h3, h4⟩ := hp.parts
  have hl := Nat.eq_of_beq_eq_true hln
  refine t_litR hu he hz rfl rfl hn hb h1 h2 (h3.trans hl) ?_ hg hi hdn hM hG
  rw [h4, ← hl]
  exact k

/-- An array of a variable's, put behind a row. -/
theorem t_appendBox {T TX e e' : TypeId} {de : TypeDesc} {sz by_ n m c k k' off : Nat} {z : Value} {xs : List Value} {x : Operand} {r' : Res} {B B1 B2 : Segs} {t : TypeId} (hu : P.underlying T = some (.slice e)) (hu' : P.underlying TX = some (.slice e')) (he : TI P e de sz by_) (hz : ZI P e z) (hzs : z.cells.size = sz) (hby : Nat.blt 0 by_ = true)
    (hk : lookM k M = some (some (rowR sz n xs))) (hx : arg G x = some (.sli k' off m c)) (hb' : lookM k' M = some (some (boxS B t))) (h1 : segDrop B off = some B1) (h2 : segTake B1 (m * sz) = some B2) (hb : (n + m) * by_ ≤ 140737488355328) (hr : rowR sz (n + m) (xs ++ flat B2) = r') (hkk : Nat.beq k k' = false)
    (kk : Te P X l0 C (⟨[d, k, k'], [d, k], none⟩ :: acc) (i + 1) l ((d, some r') :: (k, none) :: M) ((d, .plain fun _ _ => True) :: G) K)
    (hg : Takes l0 G gd := by trivial) (hi : l0[i]? = some ⟨some d, .call ⟨.builtin .append, #[.tmp k, x], #[T, TX]⟩, ty, ps, af, gd⟩ := by rfl) (hdn : Nat.blt d X.n = true := by rfl) (hkd : Nat.beq k d = false := by rfl) (hM : owns M (some d) = false := by rfl) (hG : refdO (some d) G = false := by rfl) :
    Te P X l0 C acc i (⟨some d, .call ⟨.builtin .append, #[.tmp k, x], #[T, TX]⟩, ty, ps, af, gd⟩ :: l) M G K := by
  have hkd' : k ≠ d := fun e => by subst e; simp at hkd
  have hkk' : k ≠ k' := fun e => by subst e; simp at hkk
  have hdn' : d < X.n := by simpa using hdn
  have hby' : 0 < by_ := by simpa using hby
  refine Te.op (o := ⟨some d, .call ⟨.builtin .append, #[.tmp k, x], #[T, TX]⟩, ty, ps, af, gd⟩) [(k, rowR sz n xs), (k', boxS B t)] (.plain fun _ _ => True) [(d, some r'), (k, none)]
    (Ob.val hi hg fun M a w hn hm hp1 hp2 hp3 hg' => ?_) (by simp [mem_of_memOf hk, mem_of_memOf hb']) (by
      intro x hx
      rcases List.mem_cons.1 hx with rfl | hx
      · exact Or.inl (owns_none hM)
      · simp only [List.mem_singleton] at hx
        subst hx
        exact Or.inr (by simp))
    (fun d' hd' => by injection hd' with hd'; subst hd'; exact ⟨Or.inl (owns_none hM), hG⟩) kk
  have hkM := hp1 (k, rowR sz n xs) (by simp)
  have hkM' := hp1 (k', boxS B t) (by simp)
  have hd : M d = none := by
    rcases hp2 (d, some r') (by simp) with h | h
    · exact h
    · simp at h
      rcases h with h | h
      · exact absurd h.symm hkd'
      · exfalso
        subst h
        simp [owns, mem_of_memOf hb'] at hM
  have hown : rowHolds sz n xs (a.tmps.getD k undef) w := hm.holds k _ hkM
  obtain ⟨b, hbv, hbh⟩ := hm.holds k' _ hkM'
  have hvx : a.eval x = .slice (some ⟨b, off, none⟩) m c := by
    have := hg'.now x (by simp [Op.operands, Call.operands]) _ hx
    simp only [sem, hbv, blk] at this
    exact this
  have e1 := segDrop_spec h1
  have e2 := segTake_spec h2
  have hsrc : Src P sz TX (a.eval x) m (flat B2) w := by
    rw [hvx]
    refine Src.ofSlice w hu' ⟨b, off, none⟩ m c (flat B2) (by rw [← e2.1, List.length_take]; omega) (fun j u hj => ?_) (flat_one B2)
    rw [add_plain]
    have h3 := ((RowAt.of_block hbh).drop off).take (m * sz)
    rw [Nat.zero_add, show (flat B).toArray.toList = flat B from rfl, e1.1, e2.1] at h3
    exact h3 j u hj
  have h63 : n + m ≤ maxLen := by
    have : n + m ≤ (n + m) * by_ := Nat.le_mul_of_pos_right _ hby'
    simp only [maxLen]
    omega
  obtain ⟨v', w', h1, h2, h3, h4⟩ := run_append_row (ty := ty) hu he hz hzs hown hsrc h63 hb
  refine ⟨v', w', ?_, Stepd.pass hm (by omega) hkM hd h3 (fun _ _ => by rw [← hr]; exact h2) (fun b hb => by rw [← hr] at hb; exact h4 b hb), Know.const trivial⟩
  rw [run_builtin]
  have e : (#[Operand.tmp k, x].map a.eval) = #[a.tmps.getD k undef, a.eval x] := by simp [Act.eval]
  rw [e]
  generalize a.tmps.getD k undef = q at h1 ⊢
  simp [builtin, h1, Result.andThen]
end
/-- A field: where it begins, of what type it is. -/
structure FI (P : Program) (T : TypeId) (f off : Nat) (tf : TypeId) : Prop where
  ex : ∃ fs fd n b, TI P T (.struct fs) n b ∧ fs[f]? = some fd ∧ fd.offset = off ∧ fd.type = tf
section
variable {P : Program} {X : Ctx} {l0 : List Oper} {i : Nat} {l : List Oper} {C : List Touch → Prop} {acc : List Touch} {M : Own} {G : List (Nat × Fact)} {K : Own → List (Nat × Fact) → Prop}
  {d : Nat} {ty : TypeId} {ps : String} {af : Array Edge} {gd : Option (Nat × Bool)}
theorem t_fld {T tf : TypeId} {x : Operand} {k off f fo n' b' : Nat} {dd : TypeDesc} (hF : FI P T f fo tf) (htf : TI P tf dd n' b')
    (ha : arg G x = some (.ptr k off)) (kk : Te P X l0 C (⟨[d], [], some k⟩ :: acc) (i + 1) l M ((d, .ptr k (off + fo)) :: G) K) (hn' : Nat.beq n' 0 = false := by rfl) (hne : Nat.beq k d = false := by rfl) (hg : Takes l0 G gd := by trivial) (hi : l0[i]? = some ⟨some d, .fieldAddr T x f, ty, ps, af, gd⟩ := by rfl) (hM : owns M (some d) = false := by rfl) (hG : refdO (some d) G = false := by rfl) :
    Te P X l0 C acc i (⟨some d, .fieldAddr T x f, ty, ps, af, gd⟩ :: l) M G K := by
  obtain ⟨fs, fd, n, b, h1, h2, h3, h4⟩ := hF.ex
  subst h3; subst h4
  exact t_field _ h1 h2 htf hn' rfl ha kk hne hg hi hM hG
theorem t_fldR {T tf : TypeId} {f fo n' b' : Nat} {dd : TypeDesc} {x : Operand} {S S1 S2 : Segs} (hF : FI P T f fo tf) (htf : TI P tf dd n' b') (hx : arg G x = some (.plain (RefC (flat S)))) (h1 : segDrop S fo = some S1) (h2 : segTake S1 n' = some S2)
    (k : Te P X l0 C (⟨[d], [], none⟩ :: acc) (i + 1) l M ((d, .plain (RefC (flat S2))) :: G) K) (hn' : Nat.beq n' 0 = false := by rfl) (hg : Takes l0 G gd := by trivial) (hi : l0[i]? = some ⟨some d, .fieldAddr T x f, ty, ps, af, gd⟩ := by rfl) (hM : owns M (some d) = false := by rfl) (hG : refdO (some d) G = false := by rfl) :
    Te P X l0 C acc i (⟨some d, .fieldAddr T x f, ty, ps, af, gd⟩ :: l) M G K := by
  obtain ⟨fs, fd, n, b, h3, h4, h5, h6⟩ := hF.ex
  subst h5; subst h6
  exact t_fieldR h3 h4 htf hn' hx h1 h2 k hg hi hM hG
end
def z8 (n : Nat) : Bytes n := ⟨⟨(List.replicate n 0).toArray⟩, by show (List.replicate n 0).toArray.size = n; simp⟩
/-- Words of an array. -/
def Words (n : Nat) := { l : List UInt32 // l.length = n }
def zW (n : Nat) : Words n := ⟨List.replicate n 0, by simp⟩
def sgW {n : Nat} (l : Words n) : Sg := ⟨n, l.1.map fun x => U32 x, by rw [List.length_map]; exact l.2, fun u hu => by obtain ⟨x, _, rfl⟩ := List.mem_map.1 hu; rfl⟩
def Words.put {n : Nat} (l : Words n) (i : Nat) (x : UInt32) : Words n := ⟨l.1.set i x, by rw [List.length_set]; exact l.2⟩
def Words.at {n : Nat} (l : Words n) (i : Nat) : UInt32 := l.1.getD i 0
theorem sgW_at {n : Nat} (l : Words n) {i : Nat} (h : i < n) : (sgW l).cs[i]? = some (U32 (l.at i)) := by
  have hl : i < l.1.length := by rw [l.2]; exact h
  simp [sgW, Words.at, List.getElem?_map, List.getElem?_eq_getElem hl, List.getD_eq_getElem?_getD]
theorem Sg.eq {s t : Sg} (hn : s.n = t.n) (hc : s.cs = t.cs) : s = t := by
  cases s; cases t; simp only at hn hc; subst hn; subst hc; rfl
theorem sgW_put {n : Nat} (l : Words n) (i : Nat) (x : UInt32) (ho : (U32 x).oneCell' = true) : (sgW l).put i (U32 x) ho = sgW (l.put i x) := Sg.eq rfl (by simp [Sg.put, sgW, Words.put, List.map_set])
/-- Bytes of an array, written one by one. -/
def Bytes.at {n : Nat} (d : Bytes n) (i : Nat) : UInt8 := d.1.data.getD i 0
theorem sgB_at {n : Nat} (d : Bytes n) {i : Nat} (h : i < n) : (sgB d).cs[i]? = some (U8 (d.at i)) := by
  have h2 : d.1.data.size = n := d.2
  have hl : i < d.1.data.size := by omega
  simp [sgB, byteCells, Bytes.at, List.getElem?_map, Array.getElem?_eq_getElem hl]
def Bytes.put {n : Nat} (d : Bytes n) (i : Nat) (x : UInt8) : Bytes n := ⟨⟨d.1.data.setIfInBounds i x⟩, by show (d.1.data.setIfInBounds i x).size = n; rw [Array.size_setIfInBounds]; exact d.2⟩
theorem sgB_put {n : Nat} (d : Bytes n) (i : Nat) (x : UInt8) (ho : (U8 x).oneCell' = true) : (sgB d).put i (U8 x) ho = sgB (d.put i x) := Sg.eq rfl (by simp [Sg.put, sgB, Bytes.put, byteCells, List.map_set])
end Go.Eng
