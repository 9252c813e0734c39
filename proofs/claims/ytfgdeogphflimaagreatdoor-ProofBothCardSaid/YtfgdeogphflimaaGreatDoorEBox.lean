/- The proof engine, third text: variables in memory: structs and arrays by segments. -/
import Derived.Test.YtfgdeogphflimaaGreatDoorEOps
import Derived.Deep.AppendSrc
import Derived.Lib.ConvBytes
import Derived.Laws.BytesArg
import Derived.Laws.AppendOwn
import Derived.Deep.Upon
import Derived.Deep.MidRow
set_option linter.unusedVariables false
set_option linter.unusedSimpArgs false
namespace Go.Eng
open Go

/-- What is known of a type. -/
structure TI (P : Program) (t : TypeId) (d : TypeDesc) (n b : Nat) : Prop where
  und : P.underlying t = some d
  inf : ∃ i, P.info? t = some i ∧ i.size = n ∧ i.bytes = b

theorem TI.size {P : Program} {t : TypeId} {d : TypeDesc} {n b : Nat} (h : TI P t d n b) (w : World) : (sizeOf t).run P w = .ok n w := by
  obtain ⟨i, hi, hs, _⟩ := h.inf
  simp [sizeOf, typeInfo, hi, hs]
theorem TI.run {P : Program} {t : TypeId} {d : TypeDesc} {n b : Nat} (h : TI P t d n b) (w : World) : (underlying t).run P w = .ok d w := run_underlying h.und w
def aggD : TypeDesc → Bool
  | .struct _ | .array _ _ => true
  | _ => false
theorem TI.agg {P : Program} {t : TypeId} {d : TypeDesc} {n b : Nat} (h : TI P t d n b) (w : World) : (isAgg t).run P w = .ok (aggD d) w := by
  unfold isAgg
  simp only [Sem.run_bind, h.run, Result.andThen]
  cases d <;> rfl

/-- A stretch of cells, of a length that can be read off. -/
structure Sg where
  n : Nat
  cs : List Value
  h : cs.length = n
  one : ∀ u ∈ cs, u.oneCell' = true
abbrev Segs := List Sg
def flat (S : Segs) : List Value := S.flatMap Sg.cs
def aggS (S : Segs) : Value := .agg (flat S).toArray
def sg1 (v : Value) (h : v.oneCell' = true := by rfl) : Sg := ⟨1, [v], rfl, by simpa using h⟩
theorem byteCells_one (s : ByteArray) : ∀ u ∈ byteCells s, u.oneCell' = true := by
  intro u hu
  obtain ⟨_, _, rfl⟩ := List.mem_map.1 hu
  rfl
def Bytes (n : Nat) := { b : ByteArray // b.size = n }
def sgB {n : Nat} (d : Bytes n) : Sg := ⟨n, byteCells d.1, by rw [byteCells_length]; exact d.2, byteCells_one _⟩
def lenS : Segs → Nat
  | [] => 0
  | s :: S => s.n + lenS S

def segDrop : Segs → Nat → Option Segs
  | S, 0 => some S
  | [], _ + 1 => none
  | s :: S, n + 1 => match Nat.ble s.n (n + 1) with
    | true => segDrop S (n + 1 - s.n)
    | false => none
def segTake : Segs → Nat → Option Segs
  | _, 0 => some []
  | [], _ + 1 => none
  | s :: S, n + 1 => match Nat.ble s.n (n + 1) with
    | true => match segTake S (n + 1 - s.n) with
      | some r => some (s :: r)
      | none => none
    | false => none

theorem flat_length : ∀ S : Segs, (flat S).length = lenS S
  | [] => rfl
  | s :: S => by simp only [flat, List.flatMap_cons, List.length_append, lenS, s.h]; rw [← flat_length S]; rfl
theorem segDrop_spec : ∀ {S : Segs} {n : Nat} {S' : Segs}, segDrop S n = some S' → (flat S).drop n = flat S' ∧ n ≤ (flat S).length
  | S, 0, S', h => by simp [segDrop] at h; subst h; simp
  | [], n + 1, _, h => by simp [segDrop] at h
  | s :: S, n + 1, S', h => by
    unfold segDrop at h
    cases hb : Nat.ble s.n (n + 1) with
    | false => rw [hb] at h; cases h
    | true =>
      rw [hb] at h
      have hle := Nat.le_of_ble_eq_true hb
      obtain ⟨h1, h2⟩ := segDrop_spec h
      have e : flat (s :: S) = s.cs ++ flat S := by simp [flat]
      rw [e, List.drop_append, List.length_append, s.h]
      rw [show s.cs.drop (n + 1) = [] from List.drop_eq_nil_of_le (by rw [s.h]; exact hle), List.nil_append]
      exact ⟨h1, by omega⟩
theorem segTake_spec : ∀ {S : Segs} {n : Nat} {S' : Segs}, segTake S n = some S' → (flat S).take n = flat S' ∧ n ≤ (flat S).length
  | S, 0, S', h => by simp [segTake] at h; subst h; simp [flat]
  | [], n + 1, _, h => by simp [segTake] at h
  | s :: S, n + 1, S', h => by
    unfold segTake at h
    cases hb : Nat.ble s.n (n + 1) with
    | false => rw [hb] at h; cases h
    | true =>
      rw [hb] at h
      have hle := Nat.le_of_ble_eq_true hb
      cases hr : segTake S (n + 1 - s.n) with
      | none => rw [hr] at h; cases h
      | some r =>
        rw [hr] at h
        injection h with h
        subst h
        obtain ⟨h1, h2⟩ := segTake_spec hr
        have e : flat (s :: S) = s.cs ++ flat S := by simp [flat]
        have e' : flat (s :: r) = s.cs ++ flat r := by simp [flat]
        rw [e, e', List.take_append, List.length_append, s.h, h1]
        rw [show s.cs.take (n + 1) = s.cs from List.take_of_length_le (by rw [s.h]; exact hle)]
        exact ⟨rfl, by omega⟩

theorem flat_one (S : Segs) : ∀ u ∈ flat S, u.oneCell' = true := by
  intro u hu
  obtain ⟨s, _, hs⟩ := List.mem_flatMap.1 hu
  exact s.one u hs

/-- A variable of its own, by segments. -/
def boxS (S : Segs) (t : TypeId) : Res :=
  ⟨fun v _ => [blk v], fun v w _ => ∃ b, v = .pointer (some ⟨b, 0, none⟩) ∧ w.heap[b]? = some (.cells (flat S).toArray t (0, 0)), fun _ _ _ _ => rfl, fun v w w' _ _ _ _ h hh => by
    obtain ⟨b, rfl, hb⟩ := hh
    exact ⟨b, rfl, (h b (by simp [blk])).trans hb⟩⟩

theorem cell_of {w : World} {b o : Nat} {C : Array Value} {t : TypeId} {fr : Nat × Nat} (h : w.heap[b]? = some (.cells C t fr)) : w.cell? ⟨b, o, none⟩ = C[o]? := by simp [World.cell?, h]

theorem add_plain (b o j : Nat) : (⟨b, o, none⟩ : Addr).add j = ⟨b, o + j, none⟩ := by unfold Addr.add; split <;> simp_all

theorem run_loadVar {P : Program} {T : TypeId} {d : TypeDesc} {n by_ : Nat} (ht : TI P T d n by_) {w : World} {b o : Nat} {cs : List Value} (hl : cs.length = n) (hc : ∀ j u, cs[j]? = some u → w.cell? ⟨b, o + j, none⟩ = some u) (v : Value)
    (hv : (aggD d = true ∧ v = .agg cs.toArray) ∨ (aggD d = false ∧ cs = [v])) : (loadVar T ⟨b, o, none⟩).run P w = .ok v w := by
  unfold loadVar
  simp only [Sem.run_bind, ht.agg, Result.andThen]
  rcases hv with ⟨ha, rfl⟩ | ⟨ha, rfl⟩
  · rw [ha]
    simp only [if_true, Sem.run_bind, ht.size, Result.andThen]
    subst hl
    have := run_loadCells_list (P := P) w ⟨b, o, none⟩ cs (fun j u hj => by rw [add_plain]; exact hc j u hj)
    rw [this]
    rfl
  · rw [ha]
    simp only [Bool.false_eq_true, if_false]
    have := hc 0 v (by simp)
    rw [Nat.add_zero] at this
    rw [run_load, this]

theorem mem_of_memOf {M : Own} {k : Nat} {r : Res} (h : lookM k M = some (some r)) : memOf M k = some r := by simp [memOf, h]

section
variable {P : Program} {X : Ctx} {l0 : List Oper} {i : Nat} {l : List Oper} {C : List Touch → Prop} {acc : List Touch} {M : Own} {G : List (Nat × Fact)} {K : Own → List (Nat × Fact) → Prop}
  {d : Nat} {ty : TypeId} {ps : String} {af : Array Edge} {gd : Option (Nat × Bool)}

theorem sureAddr_ptr (a : Addr) (w : World) : (Instr.sureAddr (.pointer (some a))).run P w = .ok a w := rfl

/-- A pointer, moved. -/
theorem t_movep {x : Operand} {k off : Nat} (ha : arg G x = some (.ptr k off)) (kk : Te P X l0 C (⟨[d], [], some k⟩ :: acc) (i + 1) l M ((d, .ptr k off) :: G) K) (hne : Nat.beq k d = false := by rfl) (hg : Takes l0 G gd := by trivial) (hi : l0[i]? = some ⟨some d, .move x, ty, ps, af, gd⟩ := by rfl) (hM : owns M (some d) = false := by rfl) (hG : refdO (some d) G = false := by rfl) :
    Te P X l0 C acc i (⟨some d, .move x, ty, ps, af, gd⟩ :: l) M G K := by
  refine t_clean (o := ⟨some d, .move x, ty, ps, af, gd⟩) (φ := .ptr k off) (Ob.val hi hg fun M a w hn hm _ _ hp3 hk => ?_) hM hG kk
  have hv := hk.now x (by simp [Op.operands]) _ ha
  have hkd : d ≠ k := fun e => by subst e; simp at hne
  refine ⟨a.eval x, w, rfl, Stepd.of_clean hm (dst_none hp3) (Chg.refl _ _), Know.const ?_⟩
  simp only [sem] at hv ⊢
  rw [hv, getD_put_ne hkd]

/-- The address of a field. -/
theorem t_field {T : TypeId} {x : Operand} {k off f : Nat} {fs : Array Field} {fd : Field} {n b n' b' : Nat} {dd : TypeDesc} (off' : Nat) (ht : TI P T (.struct fs) n b) (hfd : fs[f]? = some fd) (htf : TI P fd.type dd n' b') (hn' : Nat.beq n' 0 = false) (ho : off + fd.offset = off')
    (ha : arg G x = some (.ptr k off)) (kk : Te P X l0 C (⟨[d], [], some k⟩ :: acc) (i + 1) l M ((d, .ptr k off') :: G) K) (hne : Nat.beq k d = false := by rfl) (hg : Takes l0 G gd := by trivial) (hi : l0[i]? = some ⟨some d, .fieldAddr T x f, ty, ps, af, gd⟩ := by rfl) (hM : owns M (some d) = false := by rfl) (hG : refdO (some d) G = false := by rfl) :
    Te P X l0 C acc i (⟨some d, .fieldAddr T x f, ty, ps, af, gd⟩ :: l) M G K := by
  refine t_clean (o := ⟨some d, .fieldAddr T x f, ty, ps, af, gd⟩) (φ := .ptr k off') (Ob.val hi hg fun M a w hn hm _ _ hp3 hk => ?_) hM hG kk
  have hv := hk.now x (by simp [Op.operands]) _ ha
  have hkd : d ≠ k := fun e => by subst e; simp at hne
  have hn0 : n' ≠ 0 := fun e => by subst e; simp at hn'
  refine ⟨.pointer (some ⟨blk (a.tmps.getD k undef), off', none⟩), w, ?_, Stepd.of_clean hm (dst_none hp3) (Chg.refl _ _), Know.const ?_⟩
  · simp only [sem] at hv
    show ((do let v ← Instr.fieldAt T (a.eval x) f; Pure.pure (Next.value v)) : Sem Next).run P w = _
    rw [hv]
    simp only [Instr.fieldAt, Sem.run_bind, ht.run, Result.andThen, hfd, sureAddr_ptr, fieldPlace, htf.size, hn0, if_false, Sem.run_pure, add_plain, ho]
  · simp only [sem]
    rw [getD_put_ne hkd]

/-- The address of an element of an array. -/
theorem t_elem {T E : TypeId} {x y : Operand} {k off len : Nat} {j : IntKind} {m : Int} {n b n' b' : Nat} {dd : TypeDesc} (off' : Nat) (ht : TI P T (.array len E) n b) (hte : TI P E dd n' b') (hm0 : 0 ≤ m) (hml : m < len) (ho : off + m.toNat * n' = off')
    (ha : arg G x = some (.ptr k off)) (hy : arg G y = some (EqV (.int j m))) (kk : Te P X l0 C (⟨[d], [], some k⟩ :: acc) (i + 1) l M ((d, .ptr k off') :: G) K) (hne : Nat.beq k d = false := by rfl) (hg : Takes l0 G gd := by trivial) (hi : l0[i]? = some ⟨some d, .indexAddr T x y, ty, ps, af, gd⟩ := by rfl) (hM : owns M (some d) = false := by rfl) (hG : refdO (some d) G = false := by rfl) :
    Te P X l0 C acc i (⟨some d, .indexAddr T x y, ty, ps, af, gd⟩ :: l) M G K := by
  refine t_clean (o := ⟨some d, .indexAddr T x y, ty, ps, af, gd⟩) (φ := .ptr k off') (Ob.val hi hg fun M a w hn hm _ _ hp3 hk => ?_) hM hG kk
  have hv := hk.now x (by simp [Op.operands]) _ ha
  have hw : a.eval y = .int j m := hk.now y (by simp [Op.operands]) _ hy
  have hkd : d ≠ k := fun e => by subst e; simp at hne
  refine ⟨.pointer (some ⟨blk (a.tmps.getD k undef), off', none⟩), w, ?_, Stepd.of_clean hm (dst_none hp3) (Chg.refl _ _), Know.const ?_⟩
  · simp only [sem] at hv
    show ((do let v ← Instr.indexAt T (a.eval x) (a.eval y); Pure.pure (Next.value v)) : Sem Next).run P w = _
    rw [hv, hw]
    simp [Instr.indexAt, asIntOf, ht.run, Result.andThen, sureAddr_ptr, hm0, hml, hte.size, add_plain, ho]
  · simp only [sem]
    rw [getD_put_ne hkd]

/-- What a variable's segments hold, as a value. -/
def valS : Bool → Segs → Option Value
  | true, S => some (aggS S)
  | false, [s] => match s.cs with
    | [v] => some v
    | _ => none
  | false, _ => none
theorem valS_spec {g : Bool} {S : Segs} {v : Value} (h : valS g S = some v) : (g = true ∧ v = .agg (flat S).toArray) ∨ (g = false ∧ flat S = [v]) := by
  cases g with
  | true => simp only [valS, Option.some.injEq] at h; exact Or.inl ⟨rfl, h.symm⟩
  | false =>
    match S, h with
    | [⟨n, [u], hh, _⟩], h => simp only [valS, Option.some.injEq] at h; subst h; exact Or.inr ⟨rfl, by simp [flat]⟩
    | [⟨n, [], hh, _⟩], h => simp [valS] at h
    | [⟨n, _ :: _ :: _, hh, _⟩], h => simp [valS] at h
    | [], h => simp [valS] at h
    | _ :: _ :: _, h => simp [valS] at h

/-- A LOAD OUT OF A VARIABLE. -/
theorem t_load {T : TypeId} {x : Operand} {k off n b : Nat} {dd : TypeDesc} {S S1 S2 : Segs} {t : TypeId} {v : Value} (ht : TI P T dd n b) (ha : arg G x = some (.ptr k off)) (hb : lookM k M = some (some (boxS S t))) (h1 : segDrop S off = some S1) (h2 : segTake S1 n = some S2)
    (hv : valS (aggD dd) S2 = some v) (kk : Te P X l0 C (⟨[d, k], [], none⟩ :: acc) (i + 1) l M ((d, EqV v) :: G) K) (hg : Takes l0 G gd := by trivial) (hi : l0[i]? = some ⟨some d, .load T x, ty, ps, af, gd⟩ := by rfl) (hM : owns M (some d) = false := by rfl) (hG : refdO (some d) G = false := by rfl) :
    Te P X l0 C acc i (⟨some d, .load T x, ty, ps, af, gd⟩ :: l) M G K := by
  refine Te.op (o := ⟨some d, .load T x, ty, ps, af, gd⟩) [(k, boxS S t)] (EqV v) [] (Ob.val hi hg fun M a w hn hm hp1 _ hp3 hk => ?_) (by simp [mem_of_memOf hb]) (by simp) (fun d' hd' => ?_) kk
  · have hvx := hk.now x (by simp [Op.operands]) _ ha
    obtain ⟨b', hbv, hbh⟩ := hm.holds k _ (hp1 (k, boxS S t) (by simp))
    have hdk : M d = none ∨ d = k := by simpa using hp3 d rfl
    simp only [sem] at hvx
    have hblk : blk (a.tmps.getD k undef) = b' := by rw [hbv]; rfl
    rw [hblk] at hvx
    obtain ⟨d1, l1⟩ := segDrop_spec h1
    obtain ⟨d2, l2⟩ := segTake_spec h2
    have hlen : (flat S2).length = n := by rw [← d2, List.length_take]; omega
    have hrun : (execOp a.eval ⟨some d, .load T x, ty, ps, af, gd⟩).run P w = .ok (.value v) w := by
      show ((do let v ← Instr.loadAt T (a.eval x); Pure.pure (Next.value v)) : Sem Next).run P w = _
      rw [hvx]
      have := run_loadVar ht (w := w) (b := b') (o := off) hlen (fun j u hj => by
        rw [cell_of hbh, List.getElem?_toArray]
        rw [← d2, List.getElem?_take] at hj
        split at hj
        · rw [← d1, List.getElem?_drop] at hj; exact hj
        · cases hj) v (valS_spec hv)
      simp only [Instr.loadAt, Sem.run_bind, sureAddr_ptr, Result.andThen, this, Sem.run_pure]
    have hdne : M d = none := by
      rcases hdk with h | h
      · exact h
      · exfalso
        subst h
        simp [owns, mem_of_memOf hb] at hM
    exact ⟨v, w, hrun, Stepd.of_clean hm (fun k' hk' => by injection hk' with hk'; subst hk'; exact hdne) (Chg.refl _ _), Know.const rfl⟩
  · injection hd' with hd'
    subst hd'
    refine ⟨Or.inl ?_, hG⟩
    simp only [owns] at hM
    cases hx : memOf M d with
    | none => rfl
    | some r => rw [hx] at hM; cases hM

end

/-! ### Steps on memory of one's own -/

theorem upd_one {M : Mm} {d : Nat} {r : Option Res} (k : Nat) : upd M [(d, r)] k = if d = k then r else M k := by
  simp only [upd, lookM_cons]
  by_cases h : d = k
  · rw [if_pos h, if_pos h]
  · rw [if_neg h, if_neg h]; rfl

theorem Chg.over {H S : Nat → Prop} {w0 w w' : World} (h : Chg H w0 w) (hc : Chg S w w') (hs : ∀ b, S b → H b ∨ w0.heap.size ≤ b) : Chg H w0 w' :=
  ⟨hc.os.trans h.os, hc.tape.trans h.tape, hc.output.trans h.output, Nat.le_trans h.size hc.size, fun b hb hn =>
    (hc.block b (Nat.lt_of_lt_of_le hb h.size) fun hx => (hs b hx).elim hn fun hx => absurd hb (by omega)).trans (h.block b hb hn)⟩

/-- What may change later on: of what was there no more than before. -/
def Lat (X : Ctx) (M : Mm) (a : Act) (w : World) (H : Nat → Prop) : Prop := ∀ k, k < w.heap.size → H k → Ex X M a w k
theorem lookM_key {k : Nat} {r : Option Res} {post : Own} (h : lookM k post = some r) : ∃ x ∈ post, x.1 = k := ⟨_, lookM_mem h, rfl⟩

/-- A STEP: what is handed over stands in 'pre', what is there behind it in 'post'. -/
theorem Stepd.gen {X : Ctx} {M : Mm} {a : Act} {w w' : World} {pre : List (Nat × Res)} {post : Own} {d : Option Nat} {v : Value} (hm : Mem X M a w) (hpre : ∀ x ∈ pre, M x.1 = some x.2) (hkeys : ∀ x ∈ pre, ∃ r, lookM x.1 post = some r)
    (hd : ∀ k, d = some k → M k = none ∨ ∃ x ∈ pre, x.1 = k) (hc : Chg (fun b => ∃ x ∈ pre, b ∈ x.2.foot (a.tmps.getD x.1 undef) w) w w')
    (hr : ∀ k r, lookM k post = some (some r) → Lat X M a w (Ex X (upd M post) (a.put d v) w') → r.holds ((a.put d v).tmps.getD k undef) w' (Ex X (upd M post) (a.put d v) w'))
    (hf : ∀ k r, lookM k post = some (some r) → ∀ b, b ∈ r.foot ((a.put d v).tmps.getD k undef) w' → (∃ x ∈ pre, b ∈ x.2.foot (a.tmps.getD x.1 undef) w) ∨ (w.heap.size ≤ b ∧ b < w'.heap.size))
    (ha : ∀ k k' r r', lookM k post = some (some r) → lookM k' post = some (some r') → k ≠ k' → ∀ b, b ∈ r.foot ((a.put d v).tmps.getD k undef) w' → b ∉ r'.foot ((a.put d v).tmps.getD k' undef) w') :
    Stepd X M a (upd M post) (a.put d v) w w' := by
  have hin0 : ∀ b, (∃ x ∈ pre, b ∈ x.2.foot (a.tmps.getD x.1 undef) w) → inFoot M a w b := fun b ⟨x, hx, hb⟩ => ⟨x.1, x.2, hpre x hx, hb⟩
  have hcI : Chg (inFoot M a w) w w' := hc.mono fun b _ hb => hin0 b hb
  -- what is not touched
  have hout : ∀ j q, lookM j post = none → M j = some q → (a.put d v).tmps.getD j undef = a.tmps.getD j undef ∧ (∀ b, b ∈ q.foot (a.tmps.getD j undef) w → w'.heap[b]? = w.heap[b]? ∧ ∀ x ∈ pre, b ∉ x.2.foot (a.tmps.getD x.1 undef) w) ∧ q.foot (a.tmps.getD j undef) w' = q.foot (a.tmps.getD j undef) w := by
    intro j q hj hq
    have hnp : ∀ x ∈ pre, x.1 ≠ j := fun x hx e => by
      obtain ⟨r, h⟩ := hkeys x hx
      rw [e, hj] at h
      cases h
    have h2 : ∀ b, b ∈ q.foot (a.tmps.getD j undef) w → w'.heap[b]? = w.heap[b]? ∧ ∀ x ∈ pre, b ∉ x.2.foot (a.tmps.getD x.1 undef) w := fun b hb => by
      have hnx : ∀ x ∈ pre, b ∉ x.2.foot (a.tmps.getD x.1 undef) w := fun x hx hbx => hm.apart j x.1 q x.2 hq (hpre x hx) (fun e => hnp x hx e.symm) b hb hbx
      exact ⟨hc.block b (hm.own b ⟨j, q, hq, hb⟩).1 fun ⟨x, hx, hbx⟩ => hnx x hx hbx, hnx⟩
    refine ⟨?_, h2, q.keep _ _ _ fun b hb => (h2 b hb).1⟩
    cases d with
    | none => rfl
    | some d =>
      refine getD_put_ne fun e => ?_
      subst e
      rcases hd d rfl with h | ⟨x, hx, e⟩
      · rw [hq] at h; cases h
      · exact hnp x hx e
  have hsplit : ∀ j q, upd M post j = some q → lookM j post = some (some q) ∨ (lookM j post = none ∧ M j = some q) := by
    intro j q hj
    simp only [upd] at hj
    cases hl : lookM j post with
    | none => rw [hl] at hj; exact Or.inr ⟨rfl, hj⟩
    | some r => rw [hl] at hj; simp only at hj; subst hj; exact Or.inl rfl
  have hin : ∀ b, inFoot (upd M post) (a.put d v) w' b → inFoot M a w b ∨ (w.heap.size ≤ b ∧ b < w'.heap.size) := by
    rintro b ⟨j, q, hj, hb⟩
    rcases hsplit j q hj with h | ⟨h, hq⟩
    · exact (hf j q h b hb).imp (hin0 b) id
    · obtain ⟨h1, _, h3⟩ := hout j q h hq
      rw [h1, h3] at hb
      exact Or.inl ⟨j, q, hq, hb⟩
  have hlat : Lat X M a w (Ex X (upd M post) (a.put d v) w') := fun b hb hx => by
    rcases hx with hx | hx
    · exact Or.inl hx
    · rcases hin b hx with h | h
      · exact Or.inr h
      · omega
  refine ⟨hcI, ⟨hm.h0, hm.frame.over hc fun b hb => (hm.own b (hin0 b hb)).2.2, fun j q hj => ?_, fun b hb => ?_, ?_⟩, fun b hlt hb => (hin b hb).resolve_right (by omega)⟩
  · rcases hsplit j q hj with h | ⟨h, hq⟩
    · exact hr j q h hlat
    · obtain ⟨h1, h2, _⟩ := hout j q h hq
      rw [h1]
      exact q.grow _ w w' _ _ (hcI.mono fun _ _ x => Or.inr x) hlat (fun b hb => (h2 b hb).1) (hm.holds j q hq)
  · rcases hin b hb with h | h
    · have := hm.own b h
      exact ⟨Nat.lt_of_lt_of_le this.1 hc.size, this.2⟩
    · have h2 := hm.frame.size
      refine ⟨h.2, fun hx => ?_, Or.inr (by omega)⟩
      have := hm.h0 b hx
      omega
  · have key : ∀ j q j' q', lookM j post = some (some q) → lookM j' post = none → M j' = some q' → ∀ b, b ∈ q.foot ((a.put d v).tmps.getD j undef) w' → b ∉ q'.foot ((a.put d v).tmps.getD j' undef) w' := by
      intro j q j' q' h h' hq' b hb hb'
      obtain ⟨h1, h2, h3⟩ := hout j' q' h' hq'
      rw [h1, h3] at hb'
      rcases hf j q h b hb with ⟨x, hx, hbx⟩ | hn
      · exact (h2 b hb').2 x hx hbx
      · have := (hm.own b ⟨j', q', hq', hb'⟩).1
        omega
    intro j j' q q' hj hj' hne b hb hb'
    rcases hsplit j q hj with h | ⟨h, hq⟩ <;> rcases hsplit j' q' hj' with h' | ⟨h', hq'⟩
    · exact ha j j' q q' h h' hne b hb hb'
    · exact key j q j' q' h h' hq' b hb hb'
    · exact key j' q' j q h' h hq b hb' hb
    · obtain ⟨h1, _, h3⟩ := hout j q h hq
      obtain ⟨h4, _, h6⟩ := hout j' q' h' hq'
      rw [h1, h3] at hb
      rw [h4, h6] at hb'
      exact hm.apart j j' q q' hq hq' hne b hb hb'

theorem look_one {k d : Nat} {r r' : Res} (h : lookM k [(d, some r)] = some (some r')) : k = d ∧ r' = r := by
  rw [lookM_cons] at h
  by_cases e : d = k
  · rw [if_pos e] at h; simp only [Option.some.injEq] at h; exact ⟨e.symm, h.symm⟩
  · rw [if_neg e] at h; cases h
theorem look_two {k d k' : Nat} {r r' : Res} (h : lookM k [(d, some r), (k', none)] = some (some r')) : k = d ∧ r' = r := by
  rw [lookM_cons] at h
  by_cases e : d = k
  · rw [if_pos e] at h; simp only [Option.some.injEq] at h; exact ⟨e.symm, h.symm⟩
  · rw [if_neg e, lookM_cons] at h
    by_cases e' : k' = k
    · rw [if_pos e'] at h; cases h
    · rw [if_neg e'] at h; cases h

/-- Something new, at a slot of its own. -/
theorem Stepd.freshX {X : Ctx} {M : Mm} {a : Act} {w w' : World} {d : Nat} {v : Value} {r : Res} (hm : Mem X M a w) (hn : d < a.tmps.size) (hd : M d = none) (hc : Chg Nobody w w') (hr : Lat X M a w (Ex X (upd M [(d, some r)]) (a.put (some d) v) w') → r.holds v w' (Ex X (upd M [(d, some r)]) (a.put (some d) v) w'))
    (hf : ∀ b, b ∈ r.foot v w' → w.heap.size ≤ b ∧ b < w'.heap.size) : Stepd X M a (upd M [(d, some r)]) (a.put (some d) v) w w' :=
  Stepd.gen (pre := []) hm (by simp) (by simp) (fun k hk => by injection hk with hk; subst hk; exact Or.inl hd) (hc.mono fun _ _ x => x.elim)
    (fun k q h => by obtain ⟨rfl, rfl⟩ := look_one h; rw [getD_put_same hn]; exact hr)
    (fun k q h b hb => by obtain ⟨rfl, rfl⟩ := look_one h; rw [getD_put_same hn] at hb; exact Or.inr (hf b hb))
    (fun k k' q q' h h' hne => by obtain ⟨rfl, _⟩ := look_one h; obtain ⟨rfl, _⟩ := look_one h'; exact absurd rfl hne)
theorem Stepd.fresh {X : Ctx} {M : Mm} {a : Act} {w w' : World} {d : Nat} {v : Value} {r : Res} (hm : Mem X M a w) (hn : d < a.tmps.size) (hd : M d = none) (hc : Chg Nobody w w') (hr : ∀ H', Lat X M a w H' → r.holds v w' H')
    (hf : ∀ b, b ∈ r.foot v w' → w.heap.size ≤ b ∧ b < w'.heap.size) : Stepd X M a (upd M [(d, some r)]) (a.put (some d) v) w w' := Stepd.freshX hm hn hd hc (hr _) hf

/-- What lies at a slot is written, and a value comes. -/
theorem Stepd.writev {X : Ctx} {M : Mm} {a : Act} {w w' : World} {k : Nat} {r r' : Res} {d : Option Nat} {v : Value} (hm : Mem X M a w) (hk : M k = some r) (hc : Chg (fun b => b ∈ r.foot (a.tmps.getD k undef) w) w w') (hr : Lat X M a w (Ex X (upd M [(k, some r')]) (a.put d v) w') → r'.holds (a.tmps.getD k undef) w' (Ex X (upd M [(k, some r')]) (a.put d v) w'))
    (hf : ∀ b, b ∈ r'.foot (a.tmps.getD k undef) w' → b ∈ r.foot (a.tmps.getD k undef) w ∨ (w.heap.size ≤ b ∧ b < w'.heap.size)) (hd : ∀ j, d = some j → M j = none) : Stepd X M a (upd M [(k, some r')]) (a.put d v) w w' := by
  have hs : (a.put d v).tmps.getD k undef = a.tmps.getD k undef := by
    cases d with
    | none => rfl
    | some d => exact getD_put_ne fun e => by subst e; have := hd d rfl; rw [hk] at this; cases this
  exact Stepd.gen (pre := [(k, r)]) hm (by simpa using hk) (by simp [lookM_cons]) (fun j hj => Or.inl (hd j hj)) (hc.mono fun b _ hb => ⟨(k, r), by simp, hb⟩)
    (fun j q h => by obtain ⟨rfl, rfl⟩ := look_one h; rw [hs]; exact hr)
    (fun j q h b hb => by obtain ⟨rfl, rfl⟩ := look_one h; rw [hs] at hb; exact (hf b hb).imp (fun x => ⟨(j, r), by simp, x⟩) id)
    (fun j j' q q' h h' hne => by obtain ⟨rfl, _⟩ := look_one h; obtain ⟨rfl, _⟩ := look_one h'; exact absurd rfl hne)
/-- What lies at a slot is written, where it lies. -/
theorem Stepd.write {X : Ctx} {M : Mm} {a : Act} {w w' : World} {k : Nat} {r r' : Res} (hm : Mem X M a w) (hk : M k = some r) (hc : Chg (fun b => b ∈ r.foot (a.tmps.getD k undef) w) w w') (hr : ∀ H', Lat X M a w H' → r'.holds (a.tmps.getD k undef) w' H')
    (hf : ∀ b, b ∈ r'.foot (a.tmps.getD k undef) w' → b ∈ r.foot (a.tmps.getD k undef) w ∨ (w.heap.size ≤ b ∧ b < w'.heap.size)) : Stepd X M a (upd M [(k, some r')]) (a.put none undef) w w' :=
  Stepd.writev hm hk hc (hr _) hf (by simp)

/-- What lies at a slot goes over to another one, with a value of its own there: it grows where it lies, or anew. -/
theorem Stepd.pass {X : Ctx} {M : Mm} {a : Act} {w w' : World} {k d : Nat} {v : Value} {r r' : Res} (hm : Mem X M a w) (hn : d < a.tmps.size) (hk : M k = some r) (hd : M d = none) (hc : Chg (fun b => b ∈ r.foot (a.tmps.getD k undef) w) w w')
    (hr : ∀ H', Lat X M a w H' → r'.holds v w' H') (hf : ∀ b, b ∈ r'.foot v w' → b ∈ r.foot (a.tmps.getD k undef) w ∨ (w.heap.size ≤ b ∧ b < w'.heap.size)) : Stepd X M a (upd M [(d, some r'), (k, none)]) (a.put (some d) v) w w' := by
  have hkd : k ≠ d := fun e => by subst e; rw [hk] at hd; cases hd
  exact Stepd.gen (pre := [(k, r)]) hm (by simpa using hk) (fun x hx => by simp only [List.mem_singleton] at hx; subst hx; exact ⟨none, by rw [lookM_cons, if_neg (fun e => hkd e.symm), lookM_cons, if_pos rfl]⟩) (fun j hj => by injection hj with hj; subst hj; exact Or.inl hd) (hc.mono fun b _ hb => ⟨(k, r), by simp, hb⟩)
    (fun j q h => by obtain ⟨rfl, rfl⟩ := look_two h; rw [getD_put_same hn]; exact hr _)
    (fun j q h b hb => by obtain ⟨rfl, rfl⟩ := look_two h; rw [getD_put_same hn] at hb; exact (hf b hb).imp (fun x => ⟨(k, r), by simp, x⟩) id)
    (fun j j' q q' h h' hne => by obtain ⟨rfl, _⟩ := look_two h; obtain ⟨rfl, _⟩ := look_two h'; exact absurd rfl hne)

theorem Chg.of_setRow {w : World} {b : Nat} {cs : Array Value} {S : Nat → Prop} (hS : S b) : Chg S w (w.setRow b cs) :=
  ⟨rfl, rfl, rfl, by simp, fun k _ hk => setRow_other w b k cs (fun e => hk (e ▸ hS))⟩

/-- The zero value of a type. -/
def ZI (P : Program) (t : TypeId) (z : Value) : Prop := ∃ i, P.info? t = some i ∧ i.zero = some z
theorem ZI.run {P : Program} {t : TypeId} {z : Value} (h : ZI P t z) (w : World) : (zeroValue t).run P w = .ok z w := by
  obtain ⟨i, hi, hz⟩ := h
  simp [zeroValue, typeInfo, hi, hz]
theorem cells_valS {g : Bool} {S : Segs} {v : Value} (h : valS g S = some v) (ho : g = false → v.oneCell' = true) : v.cells = (flat S).toArray := by
  rcases valS_spec h with ⟨_, rfl⟩ | ⟨hg, hf⟩
  · rfl
  · rw [hf]
    have := ho hg
    cases v <;> first | rfl | (simp [Value.oneCell'] at this)
theorem valS_one {S : Segs} {v : Value} (h : valS false S = some v) : v.oneCell' = true := by
  rcases valS_spec h with ⟨hg, _⟩ | ⟨_, hf⟩
  · cases hg
  · exact flat_one S v (by rw [hf]; simp)
theorem cells_of_valS {g : Bool} {S : Segs} {v : Value} (h : valS g S = some v) : v.cells = (flat S).toArray := cells_valS h fun hg => valS_one (by rw [← hg]; exact h)

section
variable {P : Program} {X : Ctx} {l0 : List Oper} {i : Nat} {l : List Oper} {C : List Touch → Prop} {acc : List Touch} {M : Own} {G : List (Nat × Fact)} {K : Own → List (Nat × Fact) → Prop}
  {d : Nat} {ty : TypeId} {ps : String} {af : Array Edge} {gd : Option (Nat × Bool)}

theorem owns_none {M : Own} {d : Nat} (h : owns M (some d) = false) : memOf M d = none := by
  simp only [owns] at h
  cases hx : memOf M d with
  | none => rfl
  | some r => rw [hx] at h; cases h

/-- A NEW VARIABLE. -/
theorem ob_new {op : Op} {T : TypeId} {S : Segs} (hi : l0[i]? = some ⟨some d, op, ty, ps, af, gd⟩) (hg : Takes l0 G gd) (hdn : d < X.n)
    (h : ∀ (a : Act) (w : World), given ⟨some d, op, ty, ps, af, gd⟩ G a w → (execOp a.eval ⟨some d, op, ty, ps, af, gd⟩).run P w = .ok (.value (.pointer (some ⟨w.heap.size, 0, none⟩))) (w.alloc (.cells (flat S).toArray T))) :
    Ob P X l0 i ⟨some d, op, ty, ps, af, gd⟩ [] G (.ptr d 0) [(d, some (boxS S T))] :=
  Ob.val hi hg fun M a w hn hm _ hp2 hp3 hk => by
    have hd : M d = none := dst_none hp3 d rfl
    refine ⟨_, _, h a w hk.now, Stepd.fresh hm (by omega) hd (Chg.alloc _ _ _) (fun _ _ => ⟨w.heap.size, rfl, heap_alloc_new w _⟩) (fun b hb => ?_), Know.const ?_⟩
    · simp only [boxS, blk, List.mem_singleton] at hb
      subst hb
      simp
    · simp only [sem]
      rw [getD_put_same (by omega)]
      rfl
theorem t_new {op : Op} {T : TypeId} {S : Segs} (hi : l0[i]? = some ⟨some d, op, ty, ps, af, gd⟩) (hg : Takes l0 G gd) (hdn : Nat.blt d X.n = true)
    (h : ∀ (a : Act) (w : World), given ⟨some d, op, ty, ps, af, gd⟩ G a w → (execOp a.eval ⟨some d, op, ty, ps, af, gd⟩).run P w = .ok (.value (.pointer (some ⟨w.heap.size, 0, none⟩))) (w.alloc (.cells (flat S).toArray T)))
    (hM : owns M (some d) = false) (hG : refdO (some d) G = false) (kk : Te P X l0 C (⟨[d], [d], some d⟩ :: acc) (i + 1) l ((d, some (boxS S T)) :: M) ((d, .ptr d 0) :: G) K) : Te P X l0 C acc i (⟨some d, op, ty, ps, af, gd⟩ :: l) M G K :=
  Te.op (o := ⟨some d, op, ty, ps, af, gd⟩) [] (.ptr d 0) [(d, some (boxS S T))] (ob_new hi hg (by simpa using hdn) h) (by simp) (by simp [owns_none hM]) (fun d' hd' => by injection hd' with hd'; subst hd'; exact ⟨Or.inl (owns_none hM), hG⟩) kk

theorem t_alloc {T : TypeId} {S : Segs} {z : Value} {g : Bool} (hz : ZI P T z) (hS : valS g S = some z) (kk : Te P X l0 C (⟨[d], [d], some d⟩ :: acc) (i + 1) l ((d, some (boxS S T)) :: M) ((d, .ptr d 0) :: G) K)
    (hg : Takes l0 G gd := by trivial) (hi : l0[i]? = some ⟨some d, .alloc T, ty, ps, af, gd⟩ := by rfl) (hdn : Nat.blt d X.n = true := by rfl) (hM : owns M (some d) = false := by rfl) (hG : refdO (some d) G = false := by rfl) :
    Te P X l0 C acc i (⟨some d, .alloc T, ty, ps, af, gd⟩ :: l) M G K :=
  t_new hi hg hdn (fun a w _ => by
    show ((do let v ← Instr.alloc T true (.tuple #[]); Pure.pure (Next.value v)) : Sem Next).run P w = _
    simp [Instr.alloc, hz.run, newVar, newRow, cells_of_valS hS, Result.andThen]) hM hG kk
theorem t_box {T : TypeId} {x : Operand} {S : Segs} {v : Value} {g : Bool} (ha : arg G x = some (EqV v)) (hS : valS g S = some v) (kk : Te P X l0 C (⟨[d], [d], some d⟩ :: acc) (i + 1) l ((d, some (boxS S T)) :: M) ((d, .ptr d 0) :: G) K)
    (hg : Takes l0 G gd := by trivial) (hi : l0[i]? = some ⟨some d, .box T x, ty, ps, af, gd⟩ := by rfl) (hdn : Nat.blt d X.n = true := by rfl) (hM : owns M (some d) = false := by rfl) (hG : refdO (some d) G = false := by rfl) :
    Te P X l0 C acc i (⟨some d, .box T x, ty, ps, af, gd⟩ :: l) M G K :=
  t_new hi hg hdn (fun a w hw => by
    have hv : a.eval x = v := hw x (by simp [Op.operands]) _ ha
    show ((do let v ← Instr.box T (a.eval x); Pure.pure (Next.value v)) : Sem Next).run P w = _
    rw [hv]
    simp [Instr.box, newVar, newRow, cells_of_valS hS, Result.andThen]) hM hG kk

/-- Segments with a stretch replaced. -/
def segPut (S : Segs) (off n : Nat) (V : Segs) : Option Segs := match segTake S off, segDrop S (off + n) with
  | some A, some B => some (A ++ (V ++ B))
  | _, _ => none
theorem flat_append (A B : Segs) : flat (A ++ B) = flat A ++ flat B := by simp [flat]

/-- A STORE INTO A VARIABLE. -/
theorem t_store {T : TypeId} {x y : Operand} {k off n b : Nat} {dd : TypeDesc} {S V S' : Segs} {t : TypeId} {v : Value} (ht : TI P T dd n b) (ha : arg G x = some (.ptr k off)) (hb : lookM k M = some (some (boxS S t))) (hy : arg G y = some (EqV v)) (hv : valS (aggD dd) V = some v)
    (hl : Nat.beq (lenS V) n = true) (hp : segPut S off n V = some S') (kk : Te P X l0 C (⟨[k], [k], none⟩ :: acc) (i + 1) l ((k, some (boxS S' t)) :: M) G K) (hg : Takes l0 G gd := by trivial) (hi : l0[i]? = some ⟨none, .store T x y, ty, ps, af, gd⟩ := by rfl) :
    Te P X l0 C acc i (⟨none, .store T x y, ty, ps, af, gd⟩ :: l) M G K := by
  refine Te.op (o := ⟨none, .store T x y, ty, ps, af, gd⟩) [(k, boxS S t)] (EqV undef) [(k, some (boxS S' t))] (Ob.skip hi hg fun M a w hn hm hp1 _ hp3 hk => ?_) (by simp [mem_of_memOf hb]) (by simp) (fun d' hd' => by cases hd') kk
  have hvx := hk.now x (by simp [Op.operands]) _ ha
  have hvy : a.eval y = v := hk.now y (by simp [Op.operands]) _ hy
  have hkM := hp1 (k, boxS S t) (by simp)
  obtain ⟨b', hbv, hbh⟩ := hm.holds k _ hkM
  simp only [sem] at hvx
  have hblk : blk (a.tmps.getD k undef) = b' := by rw [hbv]; rfl
  rw [hblk] at hvx
  unfold segPut at hp
  cases hA : segTake S off with
  | none => rw [hA] at hp; cases hp
  | some A =>
    cases hB : segDrop S (off + n) with
    | none => rw [hA, hB] at hp; cases hp
    | some B =>
      rw [hA, hB] at hp
      injection hp with hp
      obtain ⟨e1, l1⟩ := segTake_spec hA
      obtain ⟨e2, l2⟩ := segDrop_spec hB
      have hlV : (flat V).length = n := by rw [flat_length]; exact Nat.eq_of_beq_eq_true hl
      have hcs := cells_of_valS hv
      have hst := run_storeCells_at P b' off t (flat V) 0 (flat S).toArray w hbh (by simpa [hlV] using l2) (flat_one V)
      have hnew : ((flat S).toArray.toList.take (off + 0) ++ flat V ++ (flat S).toArray.toList.drop (off + 0 + (flat V).length)) = flat S' := by
        simp only [Nat.add_zero, hlV]
        rw [e1, e2, ← hp, flat_append, flat_append, List.append_assoc]
      refine ⟨w.setRow b' (flat S').toArray, ?_, Stepd.write hm hkM (Chg.of_setRow (by show b' ∈ [blk (a.tmps.getD k undef)]; rw [hblk]; simp)) (fun _ _ => ⟨b', hbv, setRow_heap w b' _ _ t _ hbh⟩) (fun _ h => Or.inl h)⟩
      show ((do Instr.storeAt T (a.eval x) (a.eval y); Pure.pure Next.skip) : Sem Next).run P w = _
      rw [hvx, hvy]
      rw [hnew] at hst
      simp [Instr.storeAt, storeVar, sureAddr_ptr, hcs, ht.size, hlV, hst, Result.andThen]
end
end Go.Eng
