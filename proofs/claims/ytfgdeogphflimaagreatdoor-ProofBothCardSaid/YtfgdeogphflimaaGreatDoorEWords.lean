/- The proof engine, thirteenth text: arrays and rows of 32-bit words; functions that hand back a row of the caller's own. -/
import Derived.Test.YtfgdeogphflimaaGreatDoorENames
set_option linter.unusedVariables false
set_option linter.unusedSimpArgs false
namespace Go.Eng
open Go

def cellsW (l : List UInt32) : List Value := l.map fun x => U32 x
def rowW (l : List UInt32) : Res := rowR 1 l.length (cellsW l)
def SlW (l : List UInt32) : Pred := SlC 1 l.length (cellsW l)
theorem cellsW_at {l : List UInt32} {i : Nat} (h : i < l.length) : (cellsW l)[i]? = some (U32 (l.getD i 0)) := by
  simp [cellsW, List.getElem?_eq_getElem h, List.getD_eq_getElem?_getD]
theorem rowW_set (l : List UInt32) (i : Nat) (x : UInt32) : rowR 1 l.length ((cellsW l).set i (U32 x)) = rowW (l.set i x) := by
  unfold rowW
  rw [List.length_set]
  simp [cellsW, List.map_set]
theorem rowW_app (l m : List UInt32) : rowR 1 (l.length + m.length) (cellsW l ++ cellsW m) = rowW (l ++ m) := by
  unfold rowW
  rw [List.length_append]
  simp [cellsW]
theorem cellsW_one (l : List UInt32) : ∀ u ∈ cellsW l, u.oneCell' = true := by
  intro u hu
  obtain ⟨x, _, rfl⟩ := List.mem_map.1 hu
  rfl
theorem rowW_new (n : Nat) : rowR 1 n (List.replicate n (U32 0)) = rowW (List.replicate n 0) := by
  unfold rowW
  rw [List.length_replicate]
  simp [cellsW]

/-- A literal of words. -/
inductive PartsW (G : List (Nat × Fact)) : Nat → List (Nat × Operand) → List UInt32 → Prop
  | nil {n : Nat} : PartsW G n [] []
  | cons {n i : Nat} {x : Operand} {s : UInt32} {ps : List (Nat × Operand)} {l : List UInt32} (he : Nat.beq i n = true) (ha : arg G x = some (EqV (U32 s))) (k : PartsW G (n + 1) ps l) : PartsW G n ((i, x) :: ps) (s :: l)
theorem PartsW.parts {G : List (Nat × Fact)} {n : Nat} {ps : List (Nat × Operand)} {l : List UInt32} (h : PartsW G n ps l) : ∃ vs, Parts G ps vs ∧ okLit 1 n vs = true ∧ vs.length = l.length ∧ cellsE (litE vs) = cellsW l := by
  induction h with
  | nil => exact ⟨[], .nil, rfl, rfl, rfl⟩
  | @cons n i x s ps l he ha _ ih =>
    obtain ⟨vs, h1, h2, h3, h4⟩ := ih
    refine ⟨(i, [sg1 (U32 s)], U32 s) :: vs, .one ha rfl h1, ?_, by simp [h3], ?_⟩
    · simp only [okLit, he]
      exact h2
    · simp only [litE, cellsE, List.map_cons, List.flatMap_cons] at h4 ⊢
      rw [h4]
      rfl

theorem one32 (v : UInt32) : (U32 v).oneCell' = true := rfl
theorem one8 (v : UInt8) : (U8 v).oneCell' = true := rfl

section
variable {P : Program} {X : Ctx} {l0 : List Oper} {i : Nat} {l : List Oper} {C : List Touch → Prop} {acc : List Touch} {M : Own} {G : List (Nat × Fact)} {K : Own → List (Nat × Fact) → Prop}
  {d : Nat} {ty : TypeId} {ps : String} {af : Array Edge} {gd : Option (Nat × Bool)}

theorem t_buildW {T e : TypeId} {by_ n : Nat} {Z : Segs} {parts : List (Nat × Operand)} {l' : List UInt32} (hu : P.underlying T = some (.array n e)) (he : TI P e (.int .u32) 1 by_) (hz : ZI P T (aggS Z)) (hlz : Nat.beq (lenS Z) (n * 1) = true)
    (hp : PartsW G 0 parts l') (hln : l'.length = n)
    (k : Te P X l0 C (⟨[d], [], none⟩ :: acc) (i + 1) l M ((d, EqV (aggS [sgW (⟨l', hln⟩ : Words n)])) :: G) K) (hg : Takes l0 G gd := by trivial) (hi : l0[i]? = some ⟨some d, .build T parts.toArray, ty, ps, af, gd⟩ := by rfl) (hM : owns M (some d) = false := by rfl) (hG : refdO (some d) G = false := by rfl) :
    Te P X l0 C acc i (⟨some d, .build T parts.toArray, ty, ps, af, gd⟩ :: l) M G K := by
  obtain ⟨vs, h1, h2, h3, h4⟩ := hp.parts
  refine t_buildA hu he hz hlz h1 h2 (h3.trans hln) ?_ hg hi hM hG
  have e : aggS (cat (litE vs)) = aggS [sgW (⟨l', hln⟩ : Words n)] := by
    unfold aggS
    rw [flat_cat, h4]
    simp [flat, sgW, cellsW]
  rw [e]
  exact k
theorem t_litWR {T e : TypeId} {by_ : Nat} {parts : List (Nat × Operand)} {l' : List UInt32} (hu : P.underlying T = some (.slice e)) (he : TI P e (.int .u32) 1 by_) (hz : ZI P e (.int .u32 0)) (hp : PartsW G 0 parts l') (n : Nat) (hln : Nat.beq l'.length n = true) (hn : Nat.blt 0 n = true) (hb : Nat.ble (n * 1) 16777216 = true)
    (k : Te P X l0 C (⟨[d], [d], none⟩ :: acc) (i + 1) l ((d, some (rowW l')) :: M) ((d, .plain fun _ _ => True) :: G) K) (hg : Takes l0 G gd := by trivial) (hi : l0[i]? = some ⟨some d, .buildSlice T n parts.toArray, ty, ps, af, gd⟩ := by rfl) (hdn : Nat.blt d X.n = true := by rfl) (hM : owns M (some d) = false := by rfl) (hG : refdO (some d) G = false := by rfl) :
    Te P X l0 C acc i (⟨some d, .buildSlice T n parts.toArray, ty, ps, af, gd⟩ :: l) M G K := by
  obtain ⟨vs, h1, h2, h3, h4⟩ := hp.parts
  have hl := Nat.eq_of_beq_eq_true hln
  refine t_litR hu he hz rfl rfl hn hb h1 h2 (h3.trans hl) ?_ hg hi hdn hM hG
  rw [h4, ← hl]
  exact k
theorem t_litW {T e : TypeId} {by_ : Nat} {parts : List (Nat × Operand)} {l' : List UInt32} (hu : P.underlying T = some (.slice e)) (he : TI P e (.int .u32) 1 by_) (hz : ZI P e (.int .u32 0)) (hp : PartsW G 0 parts l') (n : Nat) (hln : Nat.beq l'.length n = true) (hn : Nat.blt 0 n = true) (hb : Nat.ble (n * 1) 16777216 = true)
    (k : Te P X l0 C (⟨[d], [], none⟩ :: acc) (i + 1) l M ((d, .plain (SlW l')) :: G) K) (hg : Takes l0 G gd := by trivial) (hi : l0[i]? = some ⟨some d, .buildSlice T n parts.toArray, ty, ps, af, gd⟩ := by rfl) (hM : owns M (some d) = false := by rfl) (hG : refdO (some d) G = false := by rfl) :
    Te P X l0 C acc i (⟨some d, .buildSlice T n parts.toArray, ty, ps, af, gd⟩ :: l) M G K := by
  obtain ⟨vs, h1, h2, h3, h4⟩ := hp.parts
  have hl := Nat.eq_of_beq_eq_true hln
  refine t_lit hu he hz rfl rfl hn hb h1 h2 (h3.trans hl) ?_ hg hi hM hG
  rw [h4, ← hl]
  exact k
/-- A word of a row of one's own, read and written. -/
theorem t_rowLoadW {T : TypeId} {by_ k off : Nat} {l' : List UInt32} {x : Operand} (ht : TI P T (.int .u32) 1 by_) (hx : arg G x = some (.ptr k off)) (hb : lookM k M = some (some (rowW l'))) (ho : off < l'.length)
    (kk : Te P X l0 C (⟨[d, k], [], none⟩ :: acc) (i + 1) l M ((d, EqV (U32 (l'.getD off 0))) :: G) K) (hg : Takes l0 G gd := by trivial) (hi : l0[i]? = some ⟨some d, .load T x, ty, ps, af, gd⟩ := by rfl) (hM : owns M (some d) = false := by rfl) (hG : refdO (some d) G = false := by rfl) :
    Te P X l0 C acc i (⟨some d, .load T x, ty, ps, af, gd⟩ :: l) M G K := t_rowLoad _ ht rfl hx hb (cellsW_at ho) kk hg hi hM hG
theorem t_rowStoreW {T : TypeId} {by_ k off : Nat} {l' : List UInt32} {x y : Operand} {v : UInt32} (ht : TI P T (.int .u32) 1 by_) (hx : arg G x = some (.ptr k off)) (hb : lookM k M = some (some (rowW l'))) (hy : arg G y = some (EqV (U32 v))) (ho : off < l'.length)
    (kk : Te P X l0 C (⟨[k], [k], none⟩ :: acc) (i + 1) l ((k, some (rowW (l'.set off v))) :: M) G K) (hg : Takes l0 G gd := by trivial) (hi : l0[i]? = some ⟨none, .store T x y, ty, ps, af, gd⟩ := by rfl) :
    Te P X l0 C acc i (⟨none, .store T x y, ty, ps, af, gd⟩ :: l) M G K := t_rowStore ht hx hb hy rfl (by simpa [cellsW] using ho) (by rw [rowW_set]; exact kk) hg hi
theorem t_idxW {T e : TypeId} {by_ : Nat} {l' : List UInt32} {x y : Operand} {j : IntKind} {m : Int} (hu : P.underlying T = some (.slice e)) (he : TI P e (.int .u32) 1 by_) (hx : arg G x = some (.plain (SlW l'))) (hy : arg G y = some (EqV (.int j m))) (h0 : 0 ≤ m) (hn : m < l'.length)
    (k : Te P X l0 C (⟨[d], [], none⟩ :: acc) (i + 1) l M ((d, .plain (RefC [U32 (l'.getD m.toNat 0)])) :: G) K) (hg : Takes l0 G gd := by trivial) (hi : l0[i]? = some ⟨some d, .indexAddr T x y, ty, ps, af, gd⟩ := by rfl) (hM : owns M (some d) = false := by rfl) (hG : refdO (some d) G = false := by rfl) :
    Te P X l0 C acc i (⟨some d, .indexAddr T x y, ty, ps, af, gd⟩ :: l) M G K := t_idx hu he hx hy h0 hn (by rw [Nat.mul_one]; exact drop_take_one (cellsW_at (by omega))) k hg hi hM hG
/-- A word of an array's value. -/
theorem t_indexW {T e : TypeId} {x y : Operand} {n b' : Nat} {w : Words n} {j : IntKind} {m : Int} (hT : P.underlying T = some (.array n e)) (he : TI P e (.int .u32) 1 b') (hx : arg G x = some (EqV (aggS [sgW w]))) (hy : arg G y = some (EqV (.int j m))) (h0 : 0 ≤ m) (hm : m < n)
    (k : Te P X l0 C (⟨[d], [], none⟩ :: acc) (i + 1) l M ((d, EqV (U32 (w.at m.toNat))) :: G) K) (hg : Takes l0 G gd := by trivial) (hi : l0[i]? = some ⟨some d, .index T x y, ty, ps, af, gd⟩ := by rfl) (hM : owns M (some d) = false := by rfl) (hG : refdO (some d) G = false := by rfl) :
    Te P X l0 C acc i (⟨some d, .index T x y, ty, ps, af, gd⟩ :: l) M G K := t_index hT he rfl hx hy h0 hm (by
      rw [Nat.mul_one]
      have := sgW_at w (i := m.toNat) (by omega)
      simpa [flat] using this) k hg hi hM hG
theorem t_arrLoadW {T : TypeId} {x : Operand} {k off b n : Nat} {w : Words n} {t : TypeId} (ht : TI P T (.int .u32) 1 b) (ha : arg G x = some (.ptr k off)) (hb : lookM k M = some (some (boxS [sgW w] t))) (ho : off < n)
    (kk : Te P X l0 C (⟨[d, k], [], none⟩ :: acc) (i + 1) l M ((d, EqV (U32 (w.at off))) :: G) K) (hg : Takes l0 G gd := by trivial) (hi : l0[i]? = some ⟨some d, .load T x, ty, ps, af, gd⟩ := by rfl) (hM : owns M (some d) = false := by rfl) (hG : refdO (some d) G = false := by rfl) :
    Te P X l0 C acc i (⟨some d, .load T x, ty, ps, af, gd⟩ :: l) M G K := t_arrLoad _ ht rfl ha hb (sgW_at w ho) kk hg hi hM hG
theorem t_arrStoreW {T : TypeId} {x y : Operand} {k off b n : Nat} {w : Words n} {v : UInt32} {t : TypeId} (ht : TI P T (.int .u32) 1 b) (ha : arg G x = some (.ptr k off)) (hb : lookM k M = some (some (boxS [sgW w] t))) (hy : arg G y = some (EqV (U32 v))) (ho : off < n)
    (kk : Te P X l0 C (⟨[k], [k], none⟩ :: acc) (i + 1) l ((k, some (boxS [sgW (w.put off v)] t)) :: M) G K) (hg : Takes l0 G gd := by trivial) (hi : l0[i]? = some ⟨none, .store T x y, ty, ps, af, gd⟩ := by rfl) :
    Te P X l0 C acc i (⟨none, .store T x y, ty, ps, af, gd⟩ :: l) M G K := t_arrStore (one32 v) ht ha hb hy ho (by rw [sgW_put]; exact kk) hg hi
theorem t_arrLoadB {T : TypeId} {x : Operand} {k off b n : Nat} {w : Bytes n} {t : TypeId} (ht : TI P T (.int .u8) 1 b) (ha : arg G x = some (.ptr k off)) (hb : lookM k M = some (some (boxS [sgB w] t))) (ho : off < n)
    (kk : Te P X l0 C (⟨[d, k], [], none⟩ :: acc) (i + 1) l M ((d, EqV (U8 (w.at off))) :: G) K) (hg : Takes l0 G gd := by trivial) (hi : l0[i]? = some ⟨some d, .load T x, ty, ps, af, gd⟩ := by rfl) (hM : owns M (some d) = false := by rfl) (hG : refdO (some d) G = false := by rfl) :
    Te P X l0 C acc i (⟨some d, .load T x, ty, ps, af, gd⟩ :: l) M G K := t_arrLoad _ ht rfl ha hb (sgB_at w ho) kk hg hi hM hG
theorem t_arrStoreB {T : TypeId} {x y : Operand} {k off b n : Nat} {w : Bytes n} {v : UInt8} {t : TypeId} (ht : TI P T (.int .u8) 1 b) (ha : arg G x = some (.ptr k off)) (hb : lookM k M = some (some (boxS [sgB w] t))) (hy : arg G y = some (EqV (U8 v))) (ho : off < n)
    (kk : Te P X l0 C (⟨[k], [k], none⟩ :: acc) (i + 1) l ((k, some (boxS [sgB (w.put off v)] t)) :: M) G K) (hg : Takes l0 G gd := by trivial) (hi : l0[i]? = some ⟨none, .store T x y, ty, ps, af, gd⟩ := by rfl) :
    Te P X l0 C acc i (⟨none, .store T x y, ty, ps, af, gd⟩ :: l) M G K := t_arrStore (one8 v) ht ha hb hy ho (by rw [sgB_put]; exact kk) hg hi

/-- A row of words that is made. -/
theorem t_makeW {T e : TypeId} {by_ n : Nat} {kl kc : IntKind} (hu : P.underlying T = some (.slice e)) (he : TI P e (.int .u32) 1 by_) (hz : ZI P e (.int .u32 0)) (hb : Nat.ble (by_ * n) 281474976710656 = true) (hn : Nat.ble n 9223372036854775807 = true)
    (k : Te P X l0 C (⟨[d], [d], none⟩ :: acc) (i + 1) l ((d, some (rowW (List.replicate n 0))) :: M) ((d, .plain fun _ _ => True) :: G) K) (hg : Takes l0 G gd := by trivial) (hi : l0[i]? = some ⟨some d, .makeSlice T (.const (.int kl n)) (.const (.int kc n)), ty, ps, af, gd⟩ := by rfl) (hdn : Nat.blt d X.n = true := by rfl) (hM : owns M (some d) = false := by rfl) (hG : refdO (some d) G = false := by rfl) :
    Te P X l0 C acc i (⟨some d, .makeSlice T (.const (.int kl n)) (.const (.int kc n)), ty, ps, af, gd⟩ :: l) M G K :=
  t_make hu he hz rfl hb hn (by
    have e := rowW_new n
    rw [show (U32 0) = Value.int .u32 0 from rfl] at e
    rw [e]
    exact k) hg hi hdn hM hG
-- places told as natural numbers
theorem t_elemQ {T E : TypeId} {x y : Operand} {k len : Nat} {j : IntKind} {m : Int} {n b b' : Nat} {dd : TypeDesc} (q : Nat) (hq : m = q) (hlt : q < len) (ht : TI P T (.array len E) n b) (hte : TI P E dd 1 b')
    (ha : arg G x = some (.ptr k 0)) (hy : arg G y = some (EqV (.int j m))) (kk : Te P X l0 C (⟨[d], [], some k⟩ :: acc) (i + 1) l M ((d, .ptr k q) :: G) K) (hne : Nat.beq k d = false := by rfl) (hg : Takes l0 G gd := by trivial) (hi : l0[i]? = some ⟨some d, .indexAddr T x y, ty, ps, af, gd⟩ := by rfl) (hM : owns M (some d) = false := by rfl) (hG : refdO (some d) G = false := by rfl) :
    Te P X l0 C acc i (⟨some d, .indexAddr T x y, ty, ps, af, gd⟩ :: l) M G K := t_elem q ht hte (by omega) (by omega) (by subst hq; simp) ha hy kk hne hg hi hM hG
theorem t_rowIdxQ {T e : TypeId} {de : TypeDesc} {by_ n k : Nat} {xs : List Value} {x y : Operand} {j : IntKind} {m : Int} (q : Nat) (hq : m = q) (hlt : q < n) (hT : P.underlying T = some (.slice e)) (he : TI P e de 1 by_) (hx : named G x k) (hb : lookM k M = some (some (rowR 1 n xs))) (hy : arg G y = some (EqV (.int j m)))
    (kk : Te P X l0 C (⟨[d, k], [], some k⟩ :: acc) (i + 1) l M ((d, .ptr k q) :: G) K) (hne : Nat.beq k d = false := by rfl) (hg : Takes l0 G gd := by trivial) (hi : l0[i]? = some ⟨some d, .indexAddr T x y, ty, ps, af, gd⟩ := by rfl) (hM : owns M (some d) = false := by rfl) (hG : refdO (some d) G = false := by rfl) :
    Te P X l0 C acc i (⟨some d, .indexAddr T x y, ty, ps, af, gd⟩ :: l) M G K := t_rowIdx hT he hx hb hy (by omega) (by omega) (by subst hq; simpa using kk) hne hg hi hM hG
theorem t_idxQ {T e : TypeId} {de : TypeDesc} {by_ n : Nat} {cs : List Value} {v : Value} {x y : Operand} {j : IntKind} {m : Int} (q : Nat) (hq : m = q) (hlt : q < n) (hu : P.underlying T = some (.slice e)) (he : TI P e de 1 by_) (hx : arg G x = some (.plain (SlC 1 n cs))) (hy : arg G y = some (EqV (.int j m))) (hv : cs[q]? = some v)
    (k : Te P X l0 C (⟨[d], [], none⟩ :: acc) (i + 1) l M ((d, .plain (RefC [v])) :: G) K) (hg : Takes l0 G gd := by trivial) (hi : l0[i]? = some ⟨some d, .indexAddr T x y, ty, ps, af, gd⟩ := by rfl) (hM : owns M (some d) = false := by rfl) (hG : refdO (some d) G = false := by rfl) :
    Te P X l0 C acc i (⟨some d, .indexAddr T x y, ty, ps, af, gd⟩ :: l) M G K := t_idx hu he hx hy (by omega) (by omega) (by rw [Nat.mul_one]; subst hq; exact drop_take_one (by simpa using hv)) k hg hi hM hG
theorem t_idxWQ {T e : TypeId} {by_ : Nat} {l' : List UInt32} {x y : Operand} {j : IntKind} {m : Int} (q : Nat) (hq : m = q) (hlt : q < l'.length) (hu : P.underlying T = some (.slice e)) (he : TI P e (.int .u32) 1 by_) (hx : arg G x = some (.plain (SlW l'))) (hy : arg G y = some (EqV (.int j m)))
    (k : Te P X l0 C (⟨[d], [], none⟩ :: acc) (i + 1) l M ((d, .plain (RefC [U32 (l'.getD q 0)])) :: G) K) (hg : Takes l0 G gd := by trivial) (hi : l0[i]? = some ⟨some d, .indexAddr T x y, ty, ps, af, gd⟩ := by rfl) (hM : owns M (some d) = false := by rfl) (hG : refdO (some d) G = false := by rfl) :
    Te P X l0 C acc i (⟨some d, .indexAddr T x y, ty, ps, af, gd⟩ :: l) M G K := t_idxQ q hq hlt hu he hx hy (cellsW_at hlt) k hg hi hM hG
theorem t_idxBQ {T e : TypeId} {by_ : Nat} {s : ByteArray} {x y : Operand} {j : IntKind} {m : Int} (q : Nat) (hq : m = q) (hlt : q < s.size) (hu : P.underlying T = some (.slice e)) (he : TI P e (.int .u8) 1 by_) (hx : arg G x = some (.plain (SlB s))) (hy : arg G y = some (EqV (.int j m)))
    (k : Te P X l0 C (⟨[d], [], none⟩ :: acc) (i + 1) l M ((d, .plain (RefC [U8 (byteAt s q)])) :: G) K) (hg : Takes l0 G gd := by trivial) (hi : l0[i]? = some ⟨some d, .indexAddr T x y, ty, ps, af, gd⟩ := by rfl) (hM : owns M (some d) = false := by rfl) (hG : refdO (some d) G = false := by rfl) :
    Te P X l0 C acc i (⟨some d, .indexAddr T x y, ty, ps, af, gd⟩ :: l) M G K := t_idxQ q hq hlt hu he hx hy (byteCells_at s hlt) k hg hi hM hG
theorem t_indexWQ {T e : TypeId} {x y : Operand} {n b' : Nat} {w : Words n} {j : IntKind} {m : Int} (q : Nat) (hq : m = q) (hlt : q < n) (hT : P.underlying T = some (.array n e)) (he : TI P e (.int .u32) 1 b') (hx : arg G x = some (EqV (aggS [sgW w]))) (hy : arg G y = some (EqV (.int j m)))
    (k : Te P X l0 C (⟨[d], [], none⟩ :: acc) (i + 1) l M ((d, EqV (U32 (w.at q))) :: G) K) (hg : Takes l0 G gd := by trivial) (hi : l0[i]? = some ⟨some d, .index T x y, ty, ps, af, gd⟩ := by rfl) (hM : owns M (some d) = false := by rfl) (hG : refdO (some d) G = false := by rfl) :
    Te P X l0 C acc i (⟨some d, .index T x y, ty, ps, af, gd⟩ :: l) M G K := t_indexW hT he hx hy (by omega) (by omega) (by subst hq; simpa using k) hg hi hM hG
theorem t_idxGQ {I : World → Prop} {T e : TypeId} {n len b b' g : Nat} {W : Words len} {y : Operand} {j : IntKind} {m : Int} (q : Nat) (hq : m = q) (hlt : q < len) (hI : Keeps I X) (hg0 : ∀ w, I w → RowAt w g 0 (flat [sgW W])) (hT : TI P T (.array len e) n b) (he : TI P e (.int .u32) 1 b') (hy : arg G y = some (EqV (.int j m)))
    (kk : Te P X l0 C (⟨[d], [], none⟩ :: acc) (i + 1) l M ((d, .plain (RefC [U32 (W.at q)])) :: G) K) (hg : Takes l0 G gd := by trivial) (hi : l0[i]? = some ⟨some d, .indexAddr T (.global g) y, ty, ps, af, gd⟩ := by rfl) (hM : owns M (some d) = false := by rfl) (hG : refdO (some d) G = false := by rfl) :
    Te P X l0 C acc i (⟨some d, .indexAddr T (.global g) y, ty, ps, af, gd⟩ :: l) M G K := t_idxG hI hg0 hT he hy (by omega) (by omega) (by
      rw [Nat.mul_one]
      subst hq
      have := sgW_at W hlt
      exact drop_take_one (by simpa [flat] using this)) kk hg hi hM hG
/-- An append of a row onto another, that is only read behind it. -/
theorem t_appendRD {T TX e e' : TypeId} {de : TypeDesc} {sz by_ n m k k' : Nat} {z : Value} {xs news : List Value} {x : Operand} {n' : Nat} {cs : List Value} (hu : P.underlying T = some (.slice e)) (hu' : P.underlying TX = some (.slice e')) (he : TI P e de sz by_) (hz : ZI P e z) (hzs : z.cells.size = sz) (hby : Nat.blt 0 by_ = true)
    (hk : lookM k M = some (some (rowR sz n xs))) (hx : named G x k') (hk' : lookM k' M = some (some (rowR sz m news))) (h1 : ∀ u ∈ news, u.oneCell' = true) (hkk : Nat.beq k k' = false) (hb : (n + m) * by_ ≤ 140737488355328) (hr : rowR sz (n + m) (xs ++ news) = rowR sz n' cs)
    (kk : Te P X l0 C (⟨[d, k, k'], [k], none⟩ :: acc) (i + 1) l ((k, none) :: M) ((d, .plain (SlC sz n' cs)) :: G) K)
    (hg : Takes l0 G gd := by trivial) (hi : l0[i]? = some ⟨some d, .call ⟨.builtin .append, #[.tmp k, x], #[T, TX]⟩, ty, ps, af, gd⟩ := by rfl) (hdn : Nat.blt d X.n = true := by rfl) (hkd : Nat.beq k d = false := by rfl) (hM : owns M (some d) = false := by rfl) (hG : refdO (some d) G = false := by rfl) :
    Te P X l0 C acc i (⟨some d, .call ⟨.builtin .append, #[.tmp k, x], #[T, TX]⟩, ty, ps, af, gd⟩ :: l) M G K := by
  have hkd' : k ≠ d := fun e => by subst e; simp at hkd
  have hdn' : d < X.n := by simpa using hdn
  have hby' : 0 < by_ := by simpa using hby
  refine Te.op (o := ⟨some d, .call ⟨.builtin .append, #[.tmp k, x], #[T, TX]⟩, ty, ps, af, gd⟩) [(k, rowR sz n xs), (k', rowR sz m news)] (.plain (SlC sz n' cs)) [(k, none)]
    (Ob.val hi hg fun M a w hn hm hp1 hp2 hp3 hg' => ?_) (by simp [mem_of_memOf hk, mem_of_memOf hk']) (by simp) (fun d' hd' => by injection hd' with hd'; subst hd'; exact ⟨Or.inl (owns_none hM), hG⟩) kk
  have hkM := hp1 (k, rowR sz n xs) (by simp)
  have hkM' := hp1 (k', rowR sz m news) (by simp)
  have hd : M d = none := by
    rcases hp3 d rfl with h | h
    · exact h
    · exfalso
      simp at h
      rcases h with h | h
      · exact hkd' h.symm
      · subst h
        simp [owns, mem_of_memOf hk'] at hM
  have hown : rowHolds sz n xs (a.tmps.getD k undef) w := hm.holds k _ hkM
  have hown' : rowHolds sz m news (a.tmps.getD k' undef) w := hm.holds k' _ hkM'
  have hvx := named_eval hx (hg'.now x (by simp [Op.operands, Call.operands]))
  have hsrc : Src P sz TX (a.eval x) m news w := by
    rw [hvx]
    rcases hown'.2 with ⟨hv, h0⟩ | ⟨g, c, hv, _, _, _, hrow, _⟩
    · have : news = [] := List.eq_nil_of_length_eq_zero (by rw [hown'.1, h0]; simp)
      subst this; subst h0
      rw [hv]
      exact Src.ofNil w hu' 0
    · rw [hv]
      exact Src.ofSlice w hu' ⟨g, 0, none⟩ m c news hown'.1 (fun j u hj => by rw [add_plain]; exact hrow j u hj) h1
  have h63 : n + m ≤ maxLen := by
    have : n + m ≤ (n + m) * by_ := Nat.le_mul_of_pos_right _ hby'
    simp only [maxLen]
    omega
  obtain ⟨v', w', h1, h2, h3, h4⟩ := run_append_row (ty := ty) hu he hz hzs hown hsrc h63 hb
  have hst := Stepd.pass (d := d) (v := v') (r' := rowR sz n' cs) hm (by omega) hkM hd h3 (fun _ _ => by rw [← hr]; exact h2) (fun b hb => h4 b hb)
  obtain ⟨hst', hkn⟩ := hst.freeze hd
  rw [getD_put_same (by omega)] at hkn
  refine ⟨v', w', ?_, hst', hkn.imp fun w2 hw => rowHolds.slC (show rowHolds sz n' cs v' w2 from hw)⟩
  rw [run_builtin]
  have e : (#[Operand.tmp k, x].map a.eval) = #[a.tmps.getD k undef, a.eval x] := by simp [Act.eval]
  rw [e]
  generalize a.tmps.getD k undef = q at h1 ⊢
  simp [builtin, h1, Result.andThen]

/-! ### Functions that hand back what is the caller's own from then on -/
/-- A pair of which the first leads to memory of one's own. -/
def pairR (r : Res) : Res := ⟨fun v w => match v with | .tuple vs => r.foot (vs.getD 0 undef) w | _ => [], fun v w H => ∃ a b, v = .tuple #[a, b] ∧ r.holds a w H, fun v w w' h => by
    cases v with
    | tuple vs => exact r.keep _ _ _ h
    | _ => rfl, fun v w w' H H' hc hm h hh => by
  obtain ⟨a, b, rfl, ha⟩ := hh
  exact ⟨a, b, rfl, r.grow _ w w' H H' hc hm (fun b' hb' => h b' (by simpa using hb')) ha⟩⟩
def FunO (I : World → Prop) (P : Program) (f : FuncId) (φs : List Pred) (r : Res) (ψ : Pred) : Prop :=
  ∀ (H : Nat → Prop) (vs : List Value) (w : World), (∀ k, H k → k < w.heap.size) → Know H w I → Know H w (meets φs vs) →
    Calls P f vs.toArray w fun e w' => ∃ v, e = .returned v ∧ Chg Nobody w w' ∧ r.holds v w' (fun b => H b ∨ b ∈ r.foot v w') ∧ (∀ b, b ∈ r.foot v w' → w.heap.size ≤ b ∧ b < w'.heap.size) ∧ Know (fun b => H b ∨ b ∈ r.foot v w') w' (ψ v)
def FunOQ (P : Program) (fn : Func) (w0 : World) (H : Nat → Prop) (r : Res) (ψ : Pred) : Exit → Act → World → Prop :=
  bodyPost P fn fun e w' => ∃ v, e = .returned v ∧ Chg Nobody w0 w' ∧ r.holds v w' (fun b => H b ∨ b ∈ r.foot v w') ∧ (∀ b, b ∈ r.foot v w' → w0.heap.size ≤ b ∧ b < w'.heap.size) ∧ Know (fun b => H b ∨ b ∈ r.foot v w') w' (ψ v)
theorem funO_of {I : World → Prop} {P : Program} {f : FuncId} {fn : Func} {c : Code} {φs : List Pred} {r : Res} {ψ : Pred} (n : Nat) (hf : P.funcs[f]? = some fn) (hb : fn.body = some c) (hnt : fn.ntmps = n) (hn' : Nat.ble φs.length n = true)
    (h : ∀ (w0 : World) (H : Nat → Prop), Keeps I ⟨w0, H, Nobody, n⟩ → Tr P ⟨w0, H, Nobody, n⟩ c [] (zipFrom 0 φs) (FunOQ P fn w0 H r ψ)) : FunO I P f φs r ψ := by
  subst hnt
  have hn : φs.length ≤ fn.ntmps := Nat.le_of_ble_eq_true hn'
  intro H vs w hH hI hk
  have hl := meets_length hk.now
  refine calls_of_wp hf hb (h w H (hI.mono fun _ _ x => x.resolve_right id) _ w ⟨rfl, by simp; omega, ⟨hH, Chg.refl _ _, by simp [memOf, lookM], by simp [inFoot, memOf, lookM], by simp [memOf, lookM]⟩, ?_⟩)
  refine (hk.mono (H' := Ex ⟨w, H, Nobody, fn.ntmps⟩ (memOf []) _ _) (fun k _ hx => hx.resolve_right (by simp [inFoot, memOf, lookM]))).imp fun w' hm t φ ht => ?_
  obtain ⟨_, v, hv, hφ⟩ := look_zip ht hm
  have hlt : t < vs.length := (List.getElem?_eq_some_iff.1 hv).1
  have : (vs.toArray ++ Array.replicate (fn.ntmps - vs.toArray.size) undef).getD t undef = v := by
    rw [Array.getD_eq_getD_getElem?, Array.getElem?_append_left (by simpa using hlt)]
    simp only [Nat.sub_zero] at hv
    simp [hv]
  rw [this]
  exact hφ
theorem rt_pairO {P : Program} {fn : Func} {w0 : World} {H : Nat → Prop} {r : Res} {ψ : Pred} {n s t : Nat} {M : Own} {G : List (Nat × Fact)} (hr : fn.results = #[.tmp s, .tmp t]) (hb : lookM s M = some (some r)) (hl : look t G = some (.plain ψ)) :
    Rt ⟨w0, H, Nobody, n⟩ (FunOQ P fn w0 H (pairR r) (Tup [fun _ _ => True, ψ])) M G := by
  intro a w hs
  have hM := mem_of_memOf hb
  refine ⟨hs.defers, .tuple #[a.tmps.getD s undef, a.tmps.getD t undef], ?_, _, rfl, hs.mem.frame, ⟨_, _, rfl, r.grow _ w w _ _ (Chg.refl _ _) (fun b _ hb => hb.imp id fun hx => ⟨s, r, hM, by simpa [pairR] using hx⟩) (fun _ _ => rfl) (hs.mem.holds s r hM)⟩, fun b hb => ?_, ?_⟩
  · rw [results_eq, hr, show (#[ResultVar.tmp s, ResultVar.tmp t] : Array ResultVar) = [ResultVar.tmp s, ResultVar.tmp t].toArray from rfl, List.mapM_toArray]
    simp [outVal, Result.andThen]
  · have hb' : b ∈ r.foot (a.tmps.getD s undef) w := by simpa [pairR] using hb
    have := hs.mem.own b ⟨s, r, hM, hb'⟩
    exact ⟨this.2.2.resolve_left id, this.1⟩
  · refine (hs.know.mono fun b _ hx => ?_).imp fun w' hw => ⟨[a.tmps.getD s undef, a.tmps.getD t undef], rfl, trivial, hw t _ hl, trivial⟩
    refine hx.imp id fun hx => ⟨s, r, hM, ?_⟩
    simpa [pairR] using hx
theorem t_callO {I : World → Prop} {f : FuncId} {fn : Func} {as : List Operand} {ts : Array TypeId} {φs : List Pred} {r : Res} {ψ : Pred} (hI : Keeps I X) (hF : FunO I P f φs r ψ) (hf : P.funcs[f]? = some fn) (ha : as.map (arg G) = φs.map (fun φ => some (Fact.plain φ)))
    (kk : Te P X l0 C (⟨[d], [d], none⟩ :: acc) (i + 1) l ((d, some r) :: M) ((d, .plain ψ) :: G) K) (hg : Takes l0 G gd := by trivial) (hi : l0[i]? = some ⟨some d, .call ⟨.value (.func f), as.toArray, ts⟩, ty, ps, af, gd⟩ := by rfl)
    (hb : fn.body.isSome = true := by rfl) (hn : (fn.name == "runtime.NumGoroutine") = false := by kernel_rfl) (hdn : Nat.blt d X.n = true := by rfl) (hM : owns M (some d) = false := by rfl) (hG : refdO (some d) G = false := by rfl) :
    Te P X l0 C acc i (⟨some d, .call ⟨.value (.func f), as.toArray, ts⟩, ty, ps, af, gd⟩ :: l) M G K :=
  have hdn' : d < X.n := by simpa using hdn
  Te.op (o := ⟨some d, .call ⟨.value (.func f), as.toArray, ts⟩, ty, ps, af, gd⟩) [] (.plain ψ) [(d, some r)] (Ob.call hi hg fun M a w hsz hm _ _ hp3 hk => by
    have hd : M d = none := dst_none hp3 d rfl
    refine ⟨f, (as.map a.eval).toArray, by have := run_call (args := as.toArray) (ts := ts) (ty := ty) (ps := ps) (af := af) (gd := gd) hf hb hn (dst := some d) a w; simpa using this, ?_⟩
    refine (hF (Ex X M a w) (as.map a.eval) w (fun k hk' => Ex.lt hm k hk') (hI.know hm) (hk.imp fun w' hw => meets_args _ _ (fun x hx => hw x ?_) ha)).mono ?_
    · simp only [Op.operands, Call.operands]
      simp
      exact Or.inr (by simpa using hx)
    · rintro e w' ⟨v, rfl, hc, hr, hft, hv⟩
      have hback : ∀ b, b < w'.heap.size → Ex X (upd M [(d, some r)]) (a.put (some d) v) w' b → Ex X M a w b ∨ b ∈ r.foot v w' := by
        intro b _ hx
        rcases hx with hx | ⟨j, q, hj, hx⟩
        · exact Or.inl (Or.inl hx)
        · rw [upd_one] at hj
          by_cases e : d = j
          · rw [if_pos e] at hj
            injection hj with hj
            subst hj; subst e
            rw [getD_put_same (by omega)] at hx
            exact Or.inr hx
          · rw [if_neg e] at hj
            rw [getD_put_ne e, hm.foot hc hj] at hx
            exact Or.inl (Or.inr ⟨j, q, hj, hx⟩)
      exact ⟨v, rfl, Stepd.freshX hm (by omega) hd hc (fun _ => r.grow _ w' w' _ _ (Chg.refl _ _) hback (fun _ _ => rfl) hr) hft, hv.mono hback⟩) (by simp) (by simp [owns_none hM]) (fun d' hd' => by injection hd' with hd'; subst hd'; exact ⟨Or.inl (owns_none hM), hG⟩) kk
/-- What a slot owns goes over, and what is known of it. -/
theorem t_takeK {k : Nat} {r : Res} {φ : Pred} (hb : lookM k M = some (some r)) (hl : look k G = some (.plain φ)) (kk : Te P X l0 C (⟨[d, k], [d, k], none⟩ :: acc) (i + 1) l ((d, some r) :: (k, none) :: M) ((d, .plain φ) :: G) K)
    (hg : Takes l0 G gd := by trivial) (hi : l0[i]? = some ⟨some d, .move (.tmp k), ty, ps, af, gd⟩ := by rfl) (hdn : Nat.blt d X.n = true := by rfl) (hkd : Nat.beq k d = false := by rfl) (hM : owns M (some d) = false := by rfl) (hG : refdO (some d) G = false := by rfl) :
    Te P X l0 C acc i (⟨some d, .move (.tmp k), ty, ps, af, gd⟩ :: l) M G K := by
  have hdn' : d < X.n := by simpa using hdn
  have hkd' : k ≠ d := fun e => by subst e; simp at hkd
  refine Te.op (o := ⟨some d, .move (.tmp k), ty, ps, af, gd⟩) [(k, r)] (.plain φ) [(d, some r), (k, none)] (Ob.val hi hg fun M a w hn hm hp1 hp2 hp3 hk => ?_) (take_sides hb hM).1 (take_sides hb hM).2 (fun d' hd' => by injection hd' with hd'; subst hd'; exact ⟨Or.inl (owns_none hM), hG⟩) kk
  have hkM := hp1 (k, r) (by simp)
  have hd : M d = none := by
    rcases hp3 d rfl with h | h
    · exact h
    · simp at h; exact absurd h.symm hkd'
  have hst := Stepd.pass (d := d) (v := a.tmps.getD k undef) (r' := r) hm (by omega) hkM hd (Chg.refl _ _) (fun _ hl => r.grow _ w w _ _ (Chg.refl _ _) hl (fun _ _ => rfl) (hm.holds k r hkM)) (fun b hb => Or.inl hb)
  refine ⟨a.tmps.getD k undef, w, rfl, hst, ?_⟩
  exact (hk.imp fun w' hw => (hw (.tmp k) (by simp [Op.operands]) _ hl : sem (.plain φ) (a.eval (.tmp k)) a w')).stepd hst
/-- The first of a pair. -/
theorem t_fstO {k : Nat} {r : Res} (hb : lookM k M = some (some (pairR r))) (kk : Te P X l0 C (⟨[d, k], [d, k], none⟩ :: acc) (i + 1) l ((d, some r) :: (k, none) :: M) ((d, .plain fun _ _ => True) :: G) K)
    (hg : Takes l0 G gd := by trivial) (hi : l0[i]? = some ⟨some d, .extract (.tmp k) 0, ty, ps, af, gd⟩ := by rfl) (hdn : Nat.blt d X.n = true := by rfl) (hkd : Nat.beq k d = false := by rfl) (hM : owns M (some d) = false := by rfl) (hG : refdO (some d) G = false := by rfl) :
    Te P X l0 C acc i (⟨some d, .extract (.tmp k) 0, ty, ps, af, gd⟩ :: l) M G K := by
  have hdn' : d < X.n := by simpa using hdn
  have hkd' : k ≠ d := fun e => by subst e; simp at hkd
  refine Te.op (o := ⟨some d, .extract (.tmp k) 0, ty, ps, af, gd⟩) [(k, pairR r)] (.plain fun _ _ => True) [(d, some r), (k, none)] (Ob.val hi hg fun M a w hn hm hp1 hp2 hp3 hk => ?_) (by simp [mem_of_memOf hb]) (fun x hx => by
    rcases List.mem_cons.1 hx with rfl | hx
    · exact Or.inl (owns_none hM)
    · simp only [List.mem_singleton] at hx
      subst hx
      exact Or.inr (by simp)) (fun d' hd' => by injection hd' with hd'; subst hd'; exact ⟨Or.inl (owns_none hM), hG⟩) kk
  have hkM := hp1 (k, pairR r) (by simp)
  have hd : M d = none := by
    rcases hp3 d rfl with h | h
    · exact h
    · simp at h; exact absurd h.symm hkd'
  obtain ⟨x, y, hv, hx⟩ := hm.holds k _ hkM
  refine ⟨x, w, ?_, Stepd.pass hm (by omega) hkM hd (Chg.refl _ _) (fun _ hl => r.grow _ w w _ _ (Chg.refl _ _) hl (fun _ _ => rfl) hx) (fun b hb => Or.inl (by rw [hv]; simpa [pairR] using hb)), Know.const trivial⟩
  show ((do let v ← Instr.extract (a.tmps.getD k undef) 0; Pure.pure (Next.value v)) : Sem Next).run P w = _
  rw [hv]
  simp [Instr.extract, Result.andThen]
end
/-- The end of a body is a return. -/
theorem nx_fallM {P : Program} {X : Ctx} {fn : Func} {w0 : World} {H : Nat → Prop} {v0 : Value} {r r' : Res} {ψ : Pred} {M : Own} {G : List (Nat × Fact)} (h : Rt X (FunMQ P fn w0 H v0 r ψ r') M G) : Nx X (FunMQ P fn w0 H v0 r ψ r') M G := h
end Go.Eng
