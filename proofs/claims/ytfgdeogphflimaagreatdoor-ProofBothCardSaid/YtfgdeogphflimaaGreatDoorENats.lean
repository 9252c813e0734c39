/- The proof engine, fourteenth text: arrays and rows of whole numbers that are not negative. -/
import Derived.Test.YtfgdeogphflimaaGreatDoorEWords
set_option linter.unusedVariables false
set_option linter.unusedSimpArgs false
namespace Go.Eng
open Go

theorem natK {n : Nat} (h : n < 9223372036854775808) : inK .i64 (n : Int) := by show _ ∧ _; omega
abbrev NV (x : Nat) : Value := .int .i64 (x : Int)
def cellsN (l : List Nat) : List Value := l.map fun x => NV x
def rowN (l : List Nat) : Res := rowR 1 l.length (cellsN l)
def SlN (l : List Nat) : Pred := SlC 1 l.length (cellsN l)
theorem cellsN_at {l : List Nat} {i : Nat} (h : i < l.length) : (cellsN l)[i]? = some (NV (l.getD i 0)) := by
  simp [cellsN, List.getElem?_eq_getElem h, List.getD_eq_getElem?_getD]
theorem cellsN_one (l : List Nat) : ∀ u ∈ cellsN l, u.oneCell' = true := by
  intro u hu
  obtain ⟨x, _, rfl⟩ := List.mem_map.1 hu
  rfl
theorem rowN_app (l m : List Nat) : rowR 1 (l.length + m.length) (cellsN l ++ cellsN m) = rowN (l ++ m) := by
  unfold rowN
  rw [List.length_append]
  simp [cellsN]
def Nats (n : Nat) := { l : List Nat // l.length = n }
def zN (n : Nat) : Nats n := ⟨List.replicate n 0, by simp⟩
def sgN {n : Nat} (l : Nats n) : Sg := ⟨n, l.1.map fun x => NV x, by rw [List.length_map]; exact l.2, fun u hu => by obtain ⟨x, _, rfl⟩ := List.mem_map.1 hu; rfl⟩
def Nats.put {n : Nat} (l : Nats n) (i : Nat) (x : Nat) : Nats n := ⟨l.1.set i x, by rw [List.length_set]; exact l.2⟩
def Nats.at {n : Nat} (l : Nats n) (i : Nat) : Nat := l.1.getD i 0
theorem sgN_at {n : Nat} (l : Nats n) {i : Nat} (h : i < n) : (sgN l).cs[i]? = some (NV (l.at i)) := by
  have hl : i < l.1.length := by rw [l.2]; exact h
  simp [sgN, Nats.at, List.getElem?_map, List.getElem?_eq_getElem hl, List.getD_eq_getElem?_getD]
theorem sgN_put {n : Nat} (l : Nats n) (i : Nat) (x : Nat) (ho : (NV x).oneCell' = true) : (sgN l).put i (NV x) ho = sgN (l.put i x) := Sg.eq rfl (by simp [Sg.put, sgN, Nats.put, List.map_set])
theorem oneN (v : Nat) : (NV v).oneCell' = true := rfl
theorem Nats.put_at {n : Nat} (d : Nats n) (i j x : Nat) (hi : i < n) : (d.put i x).at j = if j = i then x else d.at j := by
  have hd : d.1.length = n := d.2
  simp only [Nats.put, Nats.at, List.getD_eq_getElem?_getD]
  by_cases h : j = i
  · subst h
    rw [if_pos rfl, List.getElem?_set_self (by omega)]
    rfl
  · rw [if_neg h, List.getElem?_set_ne (fun e => h e.symm)]

/-- A literal of such numbers. -/
inductive PartsN (G : List (Nat × Fact)) : Nat → List (Nat × Operand) → List Nat → Prop
  | nil {n : Nat} : PartsN G n [] []
  | cons {n i : Nat} {x : Operand} {s : Nat} {ps : List (Nat × Operand)} {l : List Nat} (he : Nat.beq i n = true) (ha : arg G x = some (EqV (NV s))) (k : PartsN G (n + 1) ps l) : PartsN G n ((i, x) :: ps) (s :: l)
theorem PartsN.parts {G : List (Nat × Fact)} {n : Nat} {ps : List (Nat × Operand)} {l : List Nat} (h : PartsN G n ps l) : ∃ vs, Parts G ps vs ∧ okLit 1 n vs = true ∧ vs.length = l.length ∧ cellsE (litE vs) = cellsN l := by
  induction h with
  | nil => exact ⟨[], .nil, rfl, rfl, rfl⟩
  | @cons n i x s ps l he ha _ ih =>
    obtain ⟨vs, h1, h2, h3, h4⟩ := ih
    refine ⟨(i, [sg1 (NV s)], NV s) :: vs, .one ha rfl h1, ?_, by simp [h3], ?_⟩
    · simp only [okLit, he]
      exact h2
    · simp only [litE, cellsE, List.map_cons, List.flatMap_cons] at h4 ⊢
      rw [h4]
      rfl

section
variable {P : Program} {X : Ctx} {l0 : List Oper} {i : Nat} {l : List Oper} {C : List Touch → Prop} {acc : List Touch} {M : Own} {G : List (Nat × Fact)} {K : Own → List (Nat × Fact) → Prop}
  {d : Nat} {ty : TypeId} {ps : String} {af : Array Edge} {gd : Option (Nat × Bool)}

theorem t_litN {T e : TypeId} {by_ : Nat} {parts : List (Nat × Operand)} {l' : List Nat} (hu : P.underlying T = some (.slice e)) (he : TI P e (.int .i64) 1 by_) (hz : ZI P e (.int .i64 0)) (hp : PartsN G 0 parts l') (n : Nat) (hln : Nat.beq l'.length n = true) (hn : Nat.blt 0 n = true) (hb : Nat.ble (n * 1) 16777216 = true)
    (k : Te P X l0 C (⟨[d], [], none⟩ :: acc) (i + 1) l M ((d, .plain (SlN l')) :: G) K) (hg : Takes l0 G gd := by trivial) (hi : l0[i]? = some ⟨some d, .buildSlice T n parts.toArray, ty, ps, af, gd⟩ := by rfl) (hM : owns M (some d) = false := by rfl) (hG : refdO (some d) G = false := by rfl) :
    Te P X l0 C acc i (⟨some d, .buildSlice T n parts.toArray, ty, ps, af, gd⟩ :: l) M G K := by
  obtain ⟨vs, h1, h2, h3, h4⟩ := hp.parts
  have hl := Nat.eq_of_beq_eq_true hln
  refine t_lit hu he hz rfl rfl hn hb h1 h2 (h3.trans hl) ?_ hg hi hM hG
  rw [h4, ← hl]
  exact k
theorem t_arrLoadN {T : TypeId} {x : Operand} {k off b n : Nat} {w : Nats n} {t : TypeId} (ht : TI P T (.int .i64) 1 b) (ha : arg G x = some (.ptr k off)) (hb : lookM k M = some (some (boxS [sgN w] t))) (ho : off < n)
    (kk : Te P X l0 C (⟨[d, k], [], none⟩ :: acc) (i + 1) l M ((d, EqV (NV (w.at off))) :: G) K) (hg : Takes l0 G gd := by trivial) (hi : l0[i]? = some ⟨some d, .load T x, ty, ps, af, gd⟩ := by rfl) (hM : owns M (some d) = false := by rfl) (hG : refdO (some d) G = false := by rfl) :
    Te P X l0 C acc i (⟨some d, .load T x, ty, ps, af, gd⟩ :: l) M G K := t_arrLoad _ ht rfl ha hb (sgN_at w ho) kk hg hi hM hG
theorem t_arrStoreN {T : TypeId} {x y : Operand} {k off b n : Nat} {w : Nats n} {v : Nat} {t : TypeId} (ht : TI P T (.int .i64) 1 b) (ha : arg G x = some (.ptr k off)) (hb : lookM k M = some (some (boxS [sgN w] t))) (hy : arg G y = some (EqV (NV v))) (ho : off < n)
    (kk : Te P X l0 C (⟨[k], [k], none⟩ :: acc) (i + 1) l ((k, some (boxS [sgN (w.put off v)] t)) :: M) G K) (hg : Takes l0 G gd := by trivial) (hi : l0[i]? = some ⟨none, .store T x y, ty, ps, af, gd⟩ := by rfl) :
    Te P X l0 C acc i (⟨none, .store T x y, ty, ps, af, gd⟩ :: l) M G K := t_arrStore (oneN v) ht ha hb hy ho (by rw [sgN_put]; exact kk) hg hi
theorem t_indexNQ {T e : TypeId} {x y : Operand} {n b' : Nat} {w : Nats n} {j : IntKind} {m : Int} (q : Nat) (hq : m = q) (hlt : q < n) (hT : P.underlying T = some (.array n e)) (he : TI P e (.int .i64) 1 b') (hx : arg G x = some (EqV (aggS [sgN w]))) (hy : arg G y = some (EqV (.int j m)))
    (k : Te P X l0 C (⟨[d], [], none⟩ :: acc) (i + 1) l M ((d, EqV (NV (w.at q))) :: G) K) (hg : Takes l0 G gd := by trivial) (hi : l0[i]? = some ⟨some d, .index T x y, ty, ps, af, gd⟩ := by rfl) (hM : owns M (some d) = false := by rfl) (hG : refdO (some d) G = false := by rfl) :
    Te P X l0 C acc i (⟨some d, .index T x y, ty, ps, af, gd⟩ :: l) M G K := t_index hT he rfl hx hy (by omega) (by omega) (by
      rw [Nat.mul_one]
      subst hq
      have := sgN_at w hlt
      simpa [flat] using this) k hg hi hM hG
theorem t_indexBQ {T e : TypeId} {x y : Operand} {n b' : Nat} {w : Bytes n} {j : IntKind} {m : Int} (q : Nat) (hq : m = q) (hlt : q < n) (hT : P.underlying T = some (.array n e)) (he : TI P e (.int .u8) 1 b') (hx : arg G x = some (EqV (aggS [sgB w]))) (hy : arg G y = some (EqV (.int j m)))
    (k : Te P X l0 C (⟨[d], [], none⟩ :: acc) (i + 1) l M ((d, EqV (U8 (w.at q))) :: G) K) (hg : Takes l0 G gd := by trivial) (hi : l0[i]? = some ⟨some d, .index T x y, ty, ps, af, gd⟩ := by rfl) (hM : owns M (some d) = false := by rfl) (hG : refdO (some d) G = false := by rfl) :
    Te P X l0 C acc i (⟨some d, .index T x y, ty, ps, af, gd⟩ :: l) M G K := t_index hT he rfl hx hy (by omega) (by omega) (by
      rw [Nat.mul_one]
      subst hq
      have := sgB_at w hlt
      simpa [flat] using this) k hg hi hM hG
theorem t_idxNQ {T e : TypeId} {by_ : Nat} {l' : List Nat} {x y : Operand} {j : IntKind} {m : Int} (q : Nat) (hq : m = q) (hlt : q < l'.length) (hu : P.underlying T = some (.slice e)) (he : TI P e (.int .i64) 1 by_) (hx : arg G x = some (.plain (SlN l'))) (hy : arg G y = some (EqV (.int j m)))
    (k : Te P X l0 C (⟨[d], [], none⟩ :: acc) (i + 1) l M ((d, .plain (RefC [NV (l'.getD q 0)])) :: G) K) (hg : Takes l0 G gd := by trivial) (hi : l0[i]? = some ⟨some d, .indexAddr T x y, ty, ps, af, gd⟩ := by rfl) (hM : owns M (some d) = false := by rfl) (hG : refdO (some d) G = false := by rfl) :
    Te P X l0 C acc i (⟨some d, .indexAddr T x y, ty, ps, af, gd⟩ :: l) M G K := t_idxQ q hq hlt hu he hx hy (cellsN_at hlt) k hg hi hM hG
/-- A byte of a string, an element of a slice, at a place told as a natural number. -/
theorem t_sidxQ {T : TypeId} {x y : Operand} {s : ByteArray} {j : IntKind} {m : Int} (q : Nat) (hq : m = q) (hlt : q < s.size) (hT : P.underlying T = some .string) (hx : arg G x = some (EqV (.string s))) (hy : arg G y = some (EqV (.int j m)))
    (k : Te P X l0 C (⟨[d], [], none⟩ :: acc) (i + 1) l M ((d, EqV (U8 (byteAt s q))) :: G) K) (hg : Takes l0 G gd := by trivial) (hi : l0[i]? = some ⟨some d, .index T x y, ty, ps, af, gd⟩ := by rfl) (hM : owns M (some d) = false := by rfl) (hG : refdO (some d) G = false := by rfl) :
    Te P X l0 C acc i (⟨some d, .index T x y, ty, ps, af, gd⟩ :: l) M G K := t_sidx hT hx hy (by omega) (by omega) (by
      subst hq
      have e : s[((q : Nat) : Int).toNat]'(by simpa using hlt) = byteAt s q := by
        have hl : q < s.data.size := hlt
        simp [byteAt, Array.getElem?_eq_getElem hl]
        rfl
      rw [e]
      exact k) hg hi hM hG
theorem t_idxLQ {T e : TypeId} {de : TypeDesc} {n by_ : Nat} {l' : List (Bytes n)} {x y : Operand} {j : IntKind} {m : Int} (q : Nat) (hq : m = q) (hlt : q < l'.length) (hu : P.underlying T = some (.slice e)) (he : TI P e de n by_) (hx : arg G x = some (.plain (SlL l'))) (hy : arg G y = some (EqV (.int j m)))
    (k : Te P X l0 C (⟨[d], [], none⟩ :: acc) (i + 1) l M ((d, .plain (RefC (flat [sgB (l'.getD q (z8 n))]))) :: G) K) (hg : Takes l0 G gd := by trivial) (hi : l0[i]? = some ⟨some d, .indexAddr T x y, ty, ps, af, gd⟩ := by rfl) (hM : owns M (some d) = false := by rfl) (hG : refdO (some d) G = false := by rfl) :
    Te P X l0 C acc i (⟨some d, .indexAddr T x y, ty, ps, af, gd⟩ :: l) M G K := t_idxL hu he hx hy (by omega) (by omega) (by subst hq; simpa using k) hg hi hM hG
end
section
variable {P : Program} {X : Ctx} {l0 : List Oper} {i : Nat} {l : List Oper} {C : List Touch → Prop} {acc : List Touch} {M : Own} {G : List (Nat × Fact)} {K : Own → List (Nat × Fact) → Prop}
  {d : Nat} {ty : TypeId} {ps : String} {af : Array Edge} {gd : Option (Nat × Bool)}
/-- A field of a struct's value: of one cell. -/
theorem t_fieldV {T tf : TypeId} {f fo n' b' : Nat} {dd : TypeDesc} {x : Operand} {S S1 S2 : Segs} {v : Value} (hF : FI P T f fo tf) (htf : TI P tf dd n' b') (hx : arg G x = some (EqV (aggS S))) (h1 : segDrop S fo = some S1) (h2 : segTake S1 1 = some S2) (hv : valS false S2 = some v)
    (k : Te P X l0 C (⟨[d], [], none⟩ :: acc) (i + 1) l M ((d, EqV v) :: G) K) (hag : aggD dd = false := by rfl) (hg : Takes l0 G gd := by trivial) (hi : l0[i]? = some ⟨some d, .field T x f, ty, ps, af, gd⟩ := by rfl) (hM : owns M (some d) = false := by rfl) (hG : refdO (some d) G = false := by rfl) :
    Te P X l0 C acc i (⟨some d, .field T x f, ty, ps, af, gd⟩ :: l) M G K :=
  t_pure _ (fun a w hw => by
    obtain ⟨fs, fd, n, b, h3, h4, h5, h6⟩ := hF.ex
    have hvx : a.eval x = aggS S := hw x (by simp [Op.operands]) _ hx
    show ((do let v ← Instr.field T (a.eval x) f; Pure.pure (Next.value v)) : Sem Next).run P w = _
    rw [hvx]
    have e1 := segDrop_spec h1
    have e2 := segTake_spec h2
    rcases valS_spec hv with ⟨hx, _⟩ | ⟨_, hf⟩
    · cases hx
    · have hc : (flat S)[fo]? = some v := by
        have h7 : ((flat S).drop fo).take 1 = [v] := by rw [e1.1, e2.1, hf]
        have h8 := congrArg (fun l => l[0]?) h7
        simp only [List.getElem?_take_of_lt (show 0 < 1 by decide), List.getElem?_drop, Nat.add_zero, List.getElem?_cons_zero] at h8
        exact h8
      have hp : (part tf (flat S).toArray fo).run P w = .ok v w := by
        simp [part, htf.agg, hag, Result.andThen, hc]
      subst h5; subst h6
      simp [Instr.field, aggS, asAgg, h3.run, Result.andThen, h4, hp]) k hg hi hM hG
end
/-- The return of a function that hands back one thing of the caller's own. -/
theorem rt_oneO {P : Program} {fn : Func} {w0 : World} {H : Nat → Prop} {r : Res} {n s : Nat} {M : Own} {G : List (Nat × Fact)} (hr : fn.results = #[.tmp s]) (hb : lookM s M = some (some r)) :
    Rt ⟨w0, H, Nobody, n⟩ (FunOQ P fn w0 H r (fun _ _ => True)) M G := by
  intro a w hs
  have hM := mem_of_memOf hb
  refine ⟨hs.defers, a.tmps.getD s undef, ?_, _, rfl, hs.mem.frame, r.grow _ w w _ _ (Chg.refl _ _) (fun b _ hb => hb.imp id fun hx => ⟨s, r, hM, hx⟩) (fun _ _ => rfl) (hs.mem.holds s r hM), fun b hb => ?_, Know.const trivial⟩
  · rw [results_eq, hr, show (#[ResultVar.tmp s] : Array ResultVar) = [ResultVar.tmp s].toArray from rfl, List.mapM_toArray]
    simp [outVal, Result.andThen]
  · have := hs.mem.own b ⟨s, r, hM, hb⟩
    exact ⟨this.2.2.resolve_left id, this.1⟩
end Go.Eng
