/- The proof engine, twelfth text: the rules in the shapes that the printed scripts use. -/
import Derived.Test.YtfgdeogphflimaaGreatDoorEMore
set_option linter.unusedVariables false
set_option linter.unusedSimpArgs false
namespace Go.Eng
open Go

/-- Elements that are arrays of bytes. -/
def segL {n : Nat} (l : List (Bytes n)) : List Segs := l.map fun e => [sgB e]
def SlL {n : Nat} (l : List (Bytes n)) : Pred := SlC n l.length (cellsE (segL l))
def rowL {n : Nat} (l : List (Bytes n)) : Res := rowR n l.length (cellsE (segL l))
theorem rowL_nil (n : Nat) : rowR n 0 [] = rowL (n := n) [] := rfl
theorem rowL_push {n : Nat} (l : List (Bytes n)) (e : Bytes n) (v : Value) : rowR n (l.length + 1) (cellsE (segL l) ++ cellsE (litE [(0, [sgB e], v)])) = rowL (l ++ [e]) := by
  unfold rowL
  rw [List.length_append]
  simp [segL, cellsE, litE]
theorem cellsL_length {n : Nat} (l : List (Bytes n)) : (cellsE (segL l)).length = l.length * n := by
  induction l with
  | nil => simp [segL, cellsE]
  | cons e l ih =>
    have he : (flat [sgB e]).length = n := by rw [flat_length]; simp [lenS, sgB]
    simp only [segL, cellsE, List.map_cons, List.flatMap_cons, List.length_append, List.length_cons] at ih ⊢
    rw [ih, he, Nat.add_mul]
    omega
theorem cellsL_at {n : Nat} : ∀ (l : List (Bytes n)) (m : Nat) (h : m < l.length), ((cellsE (segL l)).drop (m * n)).take n = flat [sgB l[m]]
  | [], _, h => by simp at h
  | e :: l, 0, _ => by
    have he : (flat [sgB e]).length = n := by rw [flat_length]; simp [lenS, sgB]
    simp only [segL, cellsE, List.map_cons, List.flatMap_cons, Nat.zero_mul, List.drop_zero, List.getElem_cons_zero]
    rw [List.take_append_of_le_length (by omega), List.take_of_length_le (by omega)]
  | e :: l, m + 1, h => by
    have he : (flat [sgB e]).length = n := by rw [flat_length]; simp [lenS, sgB]
    have ih := cellsL_at l m (by simpa using h)
    simp only [segL, cellsE, List.map_cons, List.flatMap_cons, List.getElem_cons_succ] at ih ⊢
    rw [List.drop_append, he, Nat.add_mul, Nat.one_mul, List.drop_eq_nil_of_le (by omega), List.nil_append, show m * n + n - n = m * n by omega]
    exact ih
/-- A byte at a place. -/
def byteAt (s : ByteArray) (i : Nat) : UInt8 := s.data.getD i 0
theorem byteCells_at (s : ByteArray) {i : Nat} (h : i < s.size) : (byteCells s)[i]? = some (U8 (byteAt s i)) := by
  have hl : i < s.data.size := h
  simp [byteCells, byteAt, List.getElem?_map, Array.getElem?_eq_getElem hl]
theorem drop_take_one {cs : List Value} {i : Nat} {v : Value} (h : cs[i]? = some v) : (cs.drop i).take 1 = [v] := by
  rw [List.take_one, List.head?_drop, h]
  rfl
theorem ref_ptr {cs : List Value} (v : Value) (w : World) (h : RefC cs v w) : ∃ a, v = .pointer (some a) := by
  obtain ⟨b, o, rfl, _⟩ := h
  exact ⟨_, rfl⟩
theorem rowB_box {n : Nat} (s : ByteArray) (d : Bytes n) : rowR 1 (s.size + n) (byteCells s ++ flat [sgB d]) = rowB (s ++ d.1) := by
  have hd := d.2
  rw [← rowB_str, hd]
  congr 1
  simp [flat, sgB]

section
variable {P : Program} {X : Ctx} {l0 : List Oper} {i : Nat} {l : List Oper} {C : List Touch → Prop} {acc : List Touch} {M : Own} {G : List (Nat × Fact)} {K : Own → List (Nat × Fact) → Prop}
  {d : Nat} {ty : TypeId} {ps : String} {af : Array Edge} {gd : Option (Nat × Bool)}

theorem t_allocA {T : TypeId} {S : Segs} (hz : ZI P T (aggS S)) (kk : Te P X l0 C (⟨[d], [d], some d⟩ :: acc) (i + 1) l ((d, some (boxS S T)) :: M) ((d, .ptr d 0) :: G) K)
    (hg : Takes l0 G gd := by trivial) (hi : l0[i]? = some ⟨some d, .alloc T, ty, ps, af, gd⟩ := by rfl) (hdn : Nat.blt d X.n = true := by rfl) (hM : owns M (some d) = false := by rfl) (hG : refdO (some d) G = false := by rfl) :
    Te P X l0 C acc i (⟨some d, .alloc T, ty, ps, af, gd⟩ :: l) M G K := t_alloc (g := true) hz rfl kk hg hi hdn hM hG
theorem t_boxA {T : TypeId} {x : Operand} {S : Segs} (ha : arg G x = some (EqV (aggS S))) (kk : Te P X l0 C (⟨[d], [d], some d⟩ :: acc) (i + 1) l ((d, some (boxS S T)) :: M) ((d, .ptr d 0) :: G) K)
    (hg : Takes l0 G gd := by trivial) (hi : l0[i]? = some ⟨some d, .box T x, ty, ps, af, gd⟩ := by rfl) (hdn : Nat.blt d X.n = true := by rfl) (hM : owns M (some d) = false := by rfl) (hG : refdO (some d) G = false := by rfl) :
    Te P X l0 C acc i (⟨some d, .box T x, ty, ps, af, gd⟩ :: l) M G K := t_box (g := true) ha rfl kk hg hi hdn hM hG
theorem t_loadRA {T : TypeId} {dd : TypeDesc} {n by_ : Nat} {S : Segs} {x : Operand} (ht : TI P T dd n by_) (hx : arg G x = some (.plain (RefC (flat S)))) (hl : Nat.beq (lenS S) n = true)
    (k : Te P X l0 C (⟨[d], [], none⟩ :: acc) (i + 1) l M ((d, EqV (aggS S)) :: G) K) (hag : aggD dd = true := by rfl) (hg : Takes l0 G gd := by trivial) (hi : l0[i]? = some ⟨some d, .load T x, ty, ps, af, gd⟩ := by rfl) (hM : owns M (some d) = false := by rfl) (hG : refdO (some d) G = false := by rfl) :
    Te P X l0 C acc i (⟨some d, .load T x, ty, ps, af, gd⟩ :: l) M G K := t_loadR (aggS S) ht hx (by rw [flat_length]; exact Nat.eq_of_beq_eq_true hl) (Or.inl ⟨hag, rfl⟩) k hg hi hM hG
theorem t_loadR1 {T : TypeId} {dd : TypeDesc} {n by_ : Nat} {v : Value} {x : Operand} (ht : TI P T dd n by_) (hx : arg G x = some (.plain (RefC [v]))) (hn : Nat.beq 1 n = true)
    (k : Te P X l0 C (⟨[d], [], none⟩ :: acc) (i + 1) l M ((d, EqV v) :: G) K) (hag : aggD dd = false := by rfl) (hg : Takes l0 G gd := by trivial) (hi : l0[i]? = some ⟨some d, .load T x, ty, ps, af, gd⟩ := by rfl) (hM : owns M (some d) = false := by rfl) (hG : refdO (some d) G = false := by rfl) :
    Te P X l0 C acc i (⟨some d, .load T x, ty, ps, af, gd⟩ :: l) M G K := t_loadR v ht hx (Nat.eq_of_beq_eq_true hn) (Or.inr ⟨hag, rfl⟩) k hg hi hM hG
theorem t_storeA {T : TypeId} {x y : Operand} {k off n b : Nat} {dd : TypeDesc} {S V S' : Segs} {t : TypeId} (ht : TI P T dd n b) (ha : arg G x = some (.ptr k off)) (hb : lookM k M = some (some (boxS S t))) (hy : arg G y = some (EqV (aggS V)))
    (hl : Nat.beq (lenS V) n = true) (hp : segPut S off n V = some S') (kk : Te P X l0 C (⟨[k], [k], none⟩ :: acc) (i + 1) l ((k, some (boxS S' t)) :: M) G K) (hag : aggD dd = true := by rfl) (hg : Takes l0 G gd := by trivial) (hi : l0[i]? = some ⟨none, .store T x y, ty, ps, af, gd⟩ := by rfl) :
    Te P X l0 C acc i (⟨none, .store T x y, ty, ps, af, gd⟩ :: l) M G K := t_store ht ha hb hy (by rw [hag]; rfl) hl hp kk hg hi
theorem t_store1 {T : TypeId} {x y : Operand} {k off n b : Nat} {dd : TypeDesc} {S S' : Segs} {v : Value} {t : TypeId} (ht : TI P T dd n b) (ha : arg G x = some (.ptr k off)) (hb : lookM k M = some (some (boxS S t))) (hy : arg G y = some (EqV v)) (ho : v.oneCell' = true)
    (hp : segPut S off n [sg1 v ho] = some S') (kk : Te P X l0 C (⟨[k], [k], none⟩ :: acc) (i + 1) l ((k, some (boxS S' t)) :: M) G K) (hn : Nat.beq 1 n = true := by rfl) (hag : aggD dd = false := by rfl) (hg : Takes l0 G gd := by trivial) (hi : l0[i]? = some ⟨none, .store T x y, ty, ps, af, gd⟩ := by rfl) :
    Te P X l0 C acc i (⟨none, .store T x y, ty, ps, af, gd⟩ :: l) M G K := t_store ht ha hb hy (by rw [hag]; rfl) (by simpa [lenS, sg1] using hn) hp kk hg hi
theorem t_idxB {T e : TypeId} {de : TypeDesc} {by_ : Nat} {s : ByteArray} {x y : Operand} {j : IntKind} {m : Int} (hu : P.underlying T = some (.slice e)) (he : TI P e de 1 by_) (hx : arg G x = some (.plain (SlB s))) (hy : arg G y = some (EqV (.int j m))) (h0 : 0 ≤ m) (hn : m < s.size)
    (k : Te P X l0 C (⟨[d], [], none⟩ :: acc) (i + 1) l M ((d, .plain (RefC [U8 (byteAt s m.toNat)])) :: G) K) (hg : Takes l0 G gd := by trivial) (hi : l0[i]? = some ⟨some d, .indexAddr T x y, ty, ps, af, gd⟩ := by rfl) (hM : owns M (some d) = false := by rfl) (hG : refdO (some d) G = false := by rfl) :
    Te P X l0 C acc i (⟨some d, .indexAddr T x y, ty, ps, af, gd⟩ :: l) M G K := t_idx hu he hx hy h0 hn (by rw [Nat.mul_one]; exact drop_take_one (byteCells_at s (by omega))) k hg hi hM hG
theorem t_idxS {T e : TypeId} {de : TypeDesc} {by_ : Nat} {l' : List ByteArray} {x y : Operand} {j : IntKind} {m : Int} (hu : P.underlying T = some (.slice e)) (he : TI P e de 1 by_) (hx : arg G x = some (.plain (SlS l'))) (hy : arg G y = some (EqV (.int j m))) (h0 : 0 ≤ m) (hn : m < l'.length)
    (k : Te P X l0 C (⟨[d], [], none⟩ :: acc) (i + 1) l M ((d, .plain (RefC [.string (l'.getD m.toNat ByteArray.empty)])) :: G) K) (hg : Takes l0 G gd := by trivial) (hi : l0[i]? = some ⟨some d, .indexAddr T x y, ty, ps, af, gd⟩ := by rfl) (hM : owns M (some d) = false := by rfl) (hG : refdO (some d) G = false := by rfl) :
    Te P X l0 C acc i (⟨some d, .indexAddr T x y, ty, ps, af, gd⟩ :: l) M G K := t_idx hu he hx hy h0 hn (by
      rw [Nat.mul_one]
      have hl : m.toNat < l'.length := by omega
      exact drop_take_one (by simp [List.getElem?_eq_getElem hl, List.getD_eq_getElem?_getD])) k hg hi hM hG
theorem t_idxL {T e : TypeId} {de : TypeDesc} {n by_ : Nat} {l' : List (Bytes n)} {x y : Operand} {j : IntKind} {m : Int} (hu : P.underlying T = some (.slice e)) (he : TI P e de n by_) (hx : arg G x = some (.plain (SlL l'))) (hy : arg G y = some (EqV (.int j m))) (h0 : 0 ≤ m) (hn : m < l'.length)
    (k : Te P X l0 C (⟨[d], [], none⟩ :: acc) (i + 1) l M ((d, .plain (RefC (flat [sgB (l'.getD m.toNat (z8 n))]))) :: G) K) (hg : Takes l0 G gd := by trivial) (hi : l0[i]? = some ⟨some d, .indexAddr T x y, ty, ps, af, gd⟩ := by rfl) (hM : owns M (some d) = false := by rfl) (hG : refdO (some d) G = false := by rfl) :
    Te P X l0 C acc i (⟨some d, .indexAddr T x y, ty, ps, af, gd⟩ :: l) M G K := t_idx hu he hx hy h0 hn (by
      have hl : m.toNat < l'.length := by omega
      rw [cellsL_at l' m.toNat hl, List.getD_eq_getElem?_getD, List.getElem?_eq_getElem hl]
      rfl) k hg hi hM hG
/-- An array of bytes as a string. -/
theorem t_strBoxB {S T e : TypeId} {x : Operand} {k off n c : Nat} {B B1 : Segs} {t : TypeId} {b : Bytes n} (hs : P.underlying S = some (.slice e)) (he : P.underlying e = some (.int .u8)) (hT : P.underlying T = some .string) (hx : arg G x = some (.sli k off n c)) (hb : lookM k M = some (some (boxS B t)))
    (h1 : segDrop B off = some B1) (h2 : segTake B1 n = some [sgB b]) (hnc : Nat.ble n c = true)
    (kk : Te P X l0 C (⟨[d, k], [], none⟩ :: acc) (i + 1) l M ((d, EqV (.string b.1)) :: G) K) (hc : Nat.ble c 9223372036854775807 = true := by rfl) (hg : Takes l0 G gd := by trivial) (hi : l0[i]? = some ⟨some d, .convert S T x, ty, ps, af, gd⟩ := by rfl) (hM : owns M (some d) = false := by rfl) (hG : refdO (some d) G = false := by rfl) :
    Te P X l0 C acc i (⟨some d, .convert S T x, ty, ps, af, gd⟩ :: l) M G K := t_strBox hs he hT hx hb h1 h2 (by simp [flat, sgB]) ⟨Nat.le_of_ble_eq_true hnc, by have := Nat.le_of_ble_eq_true hc; simp only [maxLen]; omega⟩ kk hg hi hM hG
theorem t_conv832 {S T : TypeId} {x : Operand} {b : UInt8} {ds : TypeDesc} (hs : P.underlying S = some ds) (hu : P.underlying T = some (.int .u32)) (hx : arg G x = some (EqV (U8 b)))
    (k : Te P X l0 C (⟨[d], [], none⟩ :: acc) (i + 1) l M ((d, EqV (U32 b.toUInt32)) :: G) K) (hg : Takes l0 G gd := by trivial) (hi : l0[i]? = some ⟨some d, .convert S T x, ty, ps, af, gd⟩ := by rfl) (hM : owns M (some d) = false := by rfl) (hG : refdO (some d) G = false := by rfl) :
    Te P X l0 C acc i (⟨some d, .convert S T x, ty, ps, af, gd⟩ :: l) M G K :=
  t_conv hs hu hx (by
    have e : IntKind.u32.wrap (b.toNat : Int) = (b.toUInt32.toNat : Int) := by
      have := b.toNat_lt
      rw [wrap_u32, UInt8.toNat_toUInt32]
      omega
    rw [e]
    exact k) hg hi hM hG
/-- What came to be one's own is read at once. -/
theorem Stepd.freeze {X : Ctx} {M : Mm} {a a' : Act} {w w' : World} {k d : Nat} {r' : Res} (h : Stepd X M a (upd M [(d, some r'), (k, none)]) a' w w') (hd : M d = none) : Stepd X M a (upd M [(k, none)]) a' w w' ∧ Know (Ex X (upd M [(k, none)]) a' w') w' (fun w2 => r'.holds (a'.tmps.getD d undef) w2 Nobody) := by
  obtain ⟨h1, h2, h3⟩ := h
  have hM : ∀ j, upd M [(d, some r'), (k, none)] j = if d = j then some r' else upd M [(k, none)] j := by
    intro j
    simp only [upd, lookM_cons]
    by_cases e : d = j
    · simp [e]
    · simp [e]
  have hdM : upd M [(k, none)] d = none := by
    rw [upd_one]
    split
    · rfl
    · exact hd
  have hsub : ∀ j q, upd M [(k, none)] j = some q → d ≠ j ∧ upd M [(d, some r'), (k, none)] j = some q := by
    intro j q hj
    have hne : d ≠ j := fun e => by subst e; rw [hdM] at hj; cases hj
    exact ⟨hne, by rw [hM, if_neg hne]; exact hj⟩
  have hin : ∀ b, inFoot (upd M [(k, none)]) a' w' b → inFoot (upd M [(d, some r'), (k, none)]) a' w' b := by
    rintro b ⟨j, q, hj, hb⟩
    exact ⟨j, q, (hsub j q hj).2, hb⟩
  refine ⟨⟨h1, ⟨h2.h0, h2.frame, fun j q hj => q.grow _ w' w' _ _ (Chg.refl _ _) (fun b _ hb => hb.imp id (hin b)) (fun _ _ => rfl) (h2.holds j q (hsub j q hj).2), fun b hb => h2.own b (hin b hb), fun j j' q q' hj hj' => h2.apart j j' q q' (hsub j q hj).2 (hsub j' q' hj').2⟩, fun b hb hx => h3 b hb (hin b hx)⟩, ?_⟩
  intro w2 hc
  have hdd : upd M [(d, some r'), (k, none)] d = some r' := by rw [hM, if_pos rfl]
  refine r'.grow _ w' w2 _ _ (hc.mono fun b _ hb => hb.imp id (hin b)) (fun _ _ x => x.elim) (fun b hb => ?_) (h2.holds d r' hdd)
  have hown := h2.own b ⟨d, r', hdd, hb⟩
  refine hc.block b hown.1 fun hx => ?_
  rcases hx with hx | ⟨j, q, hj, hx⟩
  · exact hown.2.1 hx
  · obtain ⟨e1, e2⟩ := hsub j q hj
    exact h2.apart d j r' q hdd e2 e1 b hb hx
/-- An append whose row is only read behind it. -/
theorem t_appendD {T TX e : TypeId} {de : TypeDesc} {sz by_ n m k : Nat} {z : Value} {xs news : List Value} {x : Operand} {n' : Nat} {cs : List Value} (hu : P.underlying T = some (.slice e)) (he : TI P e de sz by_) (hz : ZI P e z) (hzs : z.cells.size = sz) (hby : Nat.blt 0 by_ = true)
    (hk : lookM k M = some (some (rowR sz n xs))) (hsrc : ∀ (a : Act) (w : World), given ⟨some d, .call ⟨.builtin .append, #[.tmp k, x], #[T, TX]⟩, ty, ps, af, gd⟩ G a w → Src P sz TX (a.eval x) m news w) (hb : (n + m) * by_ ≤ 140737488355328) (hr : rowR sz (n + m) (xs ++ news) = rowR sz n' cs)
    (kk : Te P X l0 C (⟨[d, k], [k], none⟩ :: acc) (i + 1) l ((k, none) :: M) ((d, .plain (SlC sz n' cs)) :: G) K)
    (hg : Takes l0 G gd := by trivial) (hi : l0[i]? = some ⟨some d, .call ⟨.builtin .append, #[.tmp k, x], #[T, TX]⟩, ty, ps, af, gd⟩ := by rfl) (hdn : Nat.blt d X.n = true := by rfl) (hkd : Nat.beq k d = false := by rfl) (hM : owns M (some d) = false := by rfl) (hG : refdO (some d) G = false := by rfl) :
    Te P X l0 C acc i (⟨some d, .call ⟨.builtin .append, #[.tmp k, x], #[T, TX]⟩, ty, ps, af, gd⟩ :: l) M G K := by
  have hkd' : k ≠ d := fun e => by subst e; simp at hkd
  have hdn' : d < X.n := by simpa using hdn
  have hby' : 0 < by_ := by simpa using hby
  refine Te.op (o := ⟨some d, .call ⟨.builtin .append, #[.tmp k, x], #[T, TX]⟩, ty, ps, af, gd⟩) [(k, rowR sz n xs)] (.plain (SlC sz n' cs)) [(k, none)]
    (Ob.val hi hg fun M a w hn hm hp1 hp2 hp3 hk => ?_) (by simp [mem_of_memOf hk]) (by simp) (fun d' hd' => by injection hd' with hd'; subst hd'; exact ⟨Or.inl (owns_none hM), hG⟩) kk
  have hkM := hp1 (k, rowR sz n xs) (by simp)
  have hd : M d = none := by
    rcases hp3 d rfl with h | h
    · exact h
    · simp at h; exact absurd h.symm hkd'
  have hown : rowHolds sz n xs (a.tmps.getD k undef) w := hm.holds k _ hkM
  have h63 : n + m ≤ maxLen := by
    have : n + m ≤ (n + m) * by_ := Nat.le_mul_of_pos_right _ hby'
    simp only [maxLen]
    omega
  obtain ⟨v', w', h1, h2, h3, h4⟩ := run_append_row (ty := ty) hu he hz hzs hown (hsrc a w hk.now) h63 hb
  have hst := Stepd.pass (d := d) (v := v') (r' := rowR sz n' cs) hm (by omega) hkM hd h3 (fun _ _ => by rw [← hr]; exact h2) (fun b hb => h4 b hb)
  obtain ⟨hst', hkn⟩ := hst.freeze hd
  rw [getD_put_same (by omega)] at hkn
  refine ⟨v', w', ?_, hst', hkn.imp fun w2 hw => rowHolds.slC (show rowHolds sz n' cs v' w2 from hw)⟩
  rw [run_builtin]
  have e : (#[Operand.tmp k, x].map a.eval) = #[a.tmps.getD k undef, a.eval x] := by simp [Act.eval]
  rw [e]
  generalize a.tmps.getD k undef = q at h1 ⊢
  simp [builtin, h1, Result.andThen]
/-- A string's bytes, to be read. -/
theorem t_bytesD {S T e : TypeId} {x : Operand} {s : ByteArray} {ds : TypeDesc} (hs : P.underlying S = some ds) (hT : P.underlying T = some (.slice e)) (he : P.underlying e = some (.int .u8)) (hx : arg G x = some (EqV (.string s))) (hl : s.size ≤ maxLen)
    (kk : Te P X l0 C (⟨[d], [], none⟩ :: acc) (i + 1) l M ((d, .plain (SlB s)) :: G) K) (hg : Takes l0 G gd := by trivial) (hi : l0[i]? = some ⟨some d, .convert S T x, ty, ps, af, gd⟩ := by rfl) (hM : owns M (some d) = false := by rfl) (hG : refdO (some d) G = false := by rfl) :
    Te P X l0 C acc i (⟨some d, .convert S T x, ty, ps, af, gd⟩ :: l) M G K := by
  refine t_clean (o := ⟨some d, .convert S T x, ty, ps, af, gd⟩) (φ := .plain (SlB s)) (Ob.val hi hg fun M a w hn hm _ _ hp3 hk => ?_) hM hG kk
  have hv : a.eval x = .string s := hk.now x (by simp [Op.operands]) _ hx
  have hcap := grownCap_ge w s.size 0 e
  have hcm := grownCap_le_maxLen w s.size 0 e hl
  have hst : Stepd X M a M (a.put (some d) (.slice (some ⟨w.heap.size, 0, none⟩) s.size (grownCap w s.size 0 e))) w (Lib.bytesWorld w e s) := Stepd.of_clean hm (dst_none hp3) ⟨rfl, rfl, rfl, by rw [Lib.bytesWorld_size]; omega, fun k hk' _ => Lib.bytesWorld_at_old w e s k hk'⟩
  refine ⟨_, _, ?_, hst, fun w' hc => ?_⟩
  · show ((do let v ← convert S T (a.eval x); Pure.pure (Next.value v)) : Sem Next).run P w = _
    rw [hv]
    simp only [Sem.run_bind, Lib.run_convert_string_bytes w S T e s hs hT he, Result.andThen, Sem.run_pure]
  · have hlt := hm.new_not (d := some d) (v := .slice (some ⟨w.heap.size, 0, none⟩) s.size (grownCap w s.size 0 e)) (dst_none hp3) (w' := Lib.bytesWorld w e s) ⟨rfl, rfl, rfl, by rw [Lib.bytesWorld_size]; omega, fun k hk' _ => Lib.bytesWorld_at_old w e s k hk'⟩ (Nat.le_refl _)
    have hblk := hc.block w.heap.size (by rw [Lib.bytesWorld_size]; omega) hlt
    refine ⟨by rw [byteCells_length]; omega, _, _, rfl, hcap, hcm, Or.inr ⟨w.heap.size, 0, rfl, fun j u hj => ?_⟩⟩
    rw [Nat.zero_add, World.cell?_of_block (a := ⟨w.heap.size, j, none⟩) hblk]
    have hjl : j < s.size := by have := (List.getElem?_eq_some_iff.1 hj).1; rwa [byteCells_length] at this
    rw [Lib.bytesWorld_cell w e s j hjl, ← hj]
    have hl : j < s.data.toList.length := by simpa using hjl
    simp [byteCells, List.getElem?_map, List.getElem?_eq_getElem hl, List.getD_eq_getElem?_getD]
theorem t_litB1 {T e : TypeId} {by_ : Nat} {x : Operand} {b : UInt8} (hu : P.underlying T = some (.slice e)) (he : TI P e (.int .u8) 1 by_) (hz : ZI P e (.int .u8 0)) (hx : arg G x = some (EqV (U8 b)))
    (k : Te P X l0 C (⟨[d], [], none⟩ :: acc) (i + 1) l M ((d, .plain (SlB ⟨#[b]⟩)) :: G) K) (hg : Takes l0 G gd := by trivial) (hi : l0[i]? = some ⟨some d, .buildSlice T 1 [(0, x)].toArray, ty, ps, af, gd⟩ := by rfl) (hM : owns M (some d) = false := by rfl) (hG : refdO (some d) G = false := by rfl) :
    Te P X l0 C acc i (⟨some d, .buildSlice T 1 [(0, x)].toArray, ty, ps, af, gd⟩ :: l) M G K :=
  t_lit hu he hz rfl rfl rfl rfl (.one hx rfl .nil) rfl rfl k hg hi hM hG
/-- One byte, as a row. -/
theorem t_litR1 {T e : TypeId} {by_ : Nat} {x : Operand} {b : UInt8} (hu : P.underlying T = some (.slice e)) (he : TI P e (.int .u8) 1 by_) (hz : ZI P e (.int .u8 0)) (hx : arg G x = some (EqV (U8 b)))
    (k : Te P X l0 C (⟨[d], [d], none⟩ :: acc) (i + 1) l ((d, some (rowB ⟨#[b]⟩)) :: M) ((d, .plain fun _ _ => True) :: G) K) (hg : Takes l0 G gd := by trivial) (hi : l0[i]? = some ⟨some d, .buildSlice T 1 [(0, x)].toArray, ty, ps, af, gd⟩ := by rfl) (hdn : Nat.blt d X.n = true := by rfl) (hM : owns M (some d) = false := by rfl) (hG : refdO (some d) G = false := by rfl) :
    Te P X l0 C acc i (⟨some d, .buildSlice T 1 [(0, x)].toArray, ty, ps, af, gd⟩ :: l) M G K :=
  t_litR hu he hz rfl rfl rfl rfl (.one hx rfl .nil) rfl rfl k hg hi hdn hM hG
end
end Go.Eng
