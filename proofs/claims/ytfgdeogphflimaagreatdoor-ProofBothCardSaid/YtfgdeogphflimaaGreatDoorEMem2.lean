/- The proof engine, seventh text: growing, converting, indexing, cutting slices; what a function hands back. -/
import Derived.Test.YtfgdeogphflimaaGreatDoorEMem
set_option linter.unusedVariables false
set_option linter.unusedSimpArgs false
namespace Go.Eng
open Go

theorem strOfNums_bytes (s : ByteArray) : strOfNums (s.data.toList.map fun b => (b.toNat : Int)) = s := by
  have h : (strOfNums (s.data.toList.map fun b => (b.toNat : Int))).data.toList = s.data.toList := by
    rw [strOfNums_data, List.map_map]
    conv => rhs; rw [← List.map_id s.data.toList]
    refine List.map_congr_left fun b _ => ?_
    simp
  have h2 := Array.ext' h
  cases hs : strOfNums (s.data.toList.map fun b => (b.toNat : Int)) with
  | mk d => rw [hs] at h2; cases s; simp_all

theorem byteCells_inj {s t : ByteArray} (h : byteCells s = byteCells t) : s = t := by
  have key : ∀ (a b : List UInt8), a.map (fun b => Value.int .u8 b.toNat) = b.map (fun b => Value.int .u8 b.toNat) → a = b := by
    intro a
    induction a with
    | nil => intro b hb; cases b with
      | nil => rfl
      | cons _ _ => simp at hb
    | cons x a ih => intro b hb; cases b with
      | nil => simp at hb
      | cons y b =>
        simp only [List.map_cons, List.cons.injEq, Value.int.injEq, true_and] at hb
        have h1 : x.toNat = y.toNat := by omega
        have h2 : x = y := UInt8.toNat_inj.1 h1
        rw [h2, ih b hb.2]
  have h1 := Array.ext' (key _ _ h)
  cases s; cases t; simp_all

theorem run_bytes_str {P : Program} {S T e : TypeId} (hs : P.underlying S = some (.slice e)) (he : P.underlying e = some (.int .u8)) (hT : P.underlying T = some .string) {s : ByteArray} {v : Value} {w : World} (h : SlB s v w) :
    (convert S T v).run P w = .ok (.string s) w := by
  obtain ⟨_, A, c, rfl, _, _, h⟩ := h
  rcases h with ⟨rfl, h0⟩ | ⟨b, o, rfl, hr⟩
  · have : s = ByteArray.empty := by
      have : s.data = #[] := Array.eq_empty_of_size_eq_zero (by exact h0)
      cases s
      simp_all
    rw [run_convert_bytes_nil w S e hs he _ _ T hT, this]
  · rw [run_convert_bytes_arg w S e hs he b o s.size c (s.data.toList.map fun b => (b.toNat : Int)) (by simp) (fun i hi => ?_) T hT, strOfNums_bytes]
    have hl : i < s.data.toList.length := by simpa using hi
    refine hr i _ ?_
    simp [byteCells, List.getElem?_map, List.getElem?_eq_getElem hl, List.getD_eq_getElem?_getD]

theorem rowB_str (s t : ByteArray) : rowR 1 (s.size + t.size) (byteCells s ++ byteCells t) = rowB (s ++ t) := by
  unfold rowB
  rw [ByteArray.size_append]
  congr 1
  simp [byteCells]
theorem u8_of {n : Int} (h : 0 ≤ n ∧ n < 256) : (Value.int .u8 n) = .int .u8 ((UInt8.ofNat n.toNat).toNat : Int) := by
  congr 1
  simp
  omega
theorem rowB_push (s : ByteArray) {n : Int} (h : 0 ≤ n ∧ n < 256) (ho : (Value.int .u8 n).oneCell' = true) (v : Value) : rowR 1 (s.size + 1) (byteCells s ++ cellsE (litE [(0, [sg1 (.int .u8 n) ho], v)])) = rowB (s.push (UInt8.ofNat n.toNat)) := by
  unfold rowB
  rw [ByteArray.size_push]
  congr 1
  simp [byteCells, cellsE, litE, flat, sg1]
  omega
theorem rowE_app (sz : Nat) (es fs : List Segs) : rowR sz (es.length + fs.length) (cellsE es ++ cellsE fs) = rowE sz (es ++ fs) := by
  unfold rowE
  rw [List.length_append]
  congr 1
  simp [cellsE]
theorem rowE_one (sz : Nat) (es : List Segs) (S : Segs) (v : Value) : rowR sz (es.length + 1) (cellsE es ++ cellsE (litE [(0, S, v)])) = rowE sz (es ++ [S]) := by
  rw [← rowE_app]
  rfl
theorem rowS_app (l m : List ByteArray) : rowR 1 (l.length + m.length) (l.map Value.string ++ m.map Value.string) = rowS (l ++ m) := by
  unfold rowS
  rw [List.length_append, List.map_append]
theorem rowS_one (l : List ByteArray) (s : ByteArray) (ho : (Value.string s).oneCell' = true) (v : Value) : rowR 1 (l.length + 1) (l.map Value.string ++ cellsE (litE [(0, [sg1 (.string s) ho], v)])) = rowS (l ++ [s]) := by
  rw [← rowS_app]
  rfl
theorem cellsE_one (es : List Segs) : ∀ u ∈ cellsE es, u.oneCell' = true := by
  intro u hu
  obtain ⟨S, _, hS⟩ := List.mem_flatMap.1 hu
  exact flat_one S u hS
theorem strs_one (l : List ByteArray) : ∀ u ∈ l.map Value.string, u.oneCell' = true := by
  intro u hu
  obtain ⟨s, _, rfl⟩ := List.mem_map.1 hu
  rfl

section
variable {P : Program} {X : Ctx} {l0 : List Oper} {i : Nat} {l : List Oper} {C : List Touch → Prop} {acc : List Touch} {M : Own} {G : List (Nat × Fact)} {K : Own → List (Nat × Fact) → Prop}
  {d : Nat} {ty : TypeId} {ps : String} {af : Array Edge} {gd : Option (Nat × Bool)}

theorem ob_append {T TX e : TypeId} {de : TypeDesc} {sz by_ n m k : Nat} {z : Value} {xs news : List Value} {x : Operand} {r' : Res} (hu : P.underlying T = some (.slice e)) (he : TI P e de sz by_) (hz : ZI P e z) (hzs : z.cells.size = sz) (hby : 0 < by_)
    (hdn : d < X.n) (hkd : k ≠ d) (hsrc : ∀ (a : Act) (w : World), given ⟨some d, .call ⟨.builtin .append, #[.tmp k, x], #[T, TX]⟩, ty, ps, af, gd⟩ G a w → Src P sz TX (a.eval x) m news w) (hb : (n + m) * by_ ≤ 140737488355328) (hr : rowR sz (n + m) (xs ++ news) = r')
    (hg : Takes l0 G gd) (hi : l0[i]? = some ⟨some d, .call ⟨.builtin .append, #[.tmp k, x], #[T, TX]⟩, ty, ps, af, gd⟩) :
    Ob P X l0 i ⟨some d, .call ⟨.builtin .append, #[.tmp k, x], #[T, TX]⟩, ty, ps, af, gd⟩ [(k, rowR sz n xs)] G (.plain fun _ _ => True) [(d, some r'), (k, none)] :=
  Ob.val hi hg fun M a w hn hm hp1 hp2 hp3 hk => by
    have hkM := hp1 (k, rowR sz n xs) (by simp)
    have hd : M d = none := by
      rcases hp3 d rfl with h | h
      · exact h
      · simp at h; exact absurd h.symm hkd
    have hown : rowHolds sz n xs (a.tmps.getD k undef) w := hm.holds k _ hkM
    have h63 : n + m ≤ maxLen := by
      have : n + m ≤ (n + m) * by_ := Nat.le_mul_of_pos_right _ hby
      simp only [maxLen]
      omega
    obtain ⟨v', w', h1, h2, h3, h4⟩ := run_append_row (ty := ty) hu he hz hzs hown (hsrc a w hk.now) h63 hb
    refine ⟨v', w', ?_, Stepd.pass hm (by omega) hkM hd h3 (fun _ _ => by rw [← hr]; exact h2) (fun b hb => by rw [← hr] at hb; exact h4 b hb), Know.const trivial⟩
    rw [run_builtin]
    have e : (#[Operand.tmp k, x].map a.eval) = #[a.tmps.getD k undef, a.eval x] := by simp [Act.eval]
    rw [e]
    generalize a.tmps.getD k undef = q at h1 ⊢
    simp [builtin, h1, Result.andThen]

theorem t_append {T TX e : TypeId} {de : TypeDesc} {sz by_ n m k : Nat} {z : Value} {xs news : List Value} {x : Operand} {r' : Res} (hu : P.underlying T = some (.slice e)) (he : TI P e de sz by_) (hz : ZI P e z) (hzs : z.cells.size = sz) (hby : Nat.blt 0 by_ = true)
    (hk : lookM k M = some (some (rowR sz n xs))) (hsrc : ∀ (a : Act) (w : World), given ⟨some d, .call ⟨.builtin .append, #[.tmp k, x], #[T, TX]⟩, ty, ps, af, gd⟩ G a w → Src P sz TX (a.eval x) m news w) (hb : (n + m) * by_ ≤ 140737488355328) (hr : rowR sz (n + m) (xs ++ news) = r')
    (kk : Te P X l0 C (⟨[d, k], [d, k], none⟩ :: acc) (i + 1) l ((d, some r') :: (k, none) :: M) ((d, .plain fun _ _ => True) :: G) K)
    (hg : Takes l0 G gd := by trivial) (hi : l0[i]? = some ⟨some d, .call ⟨.builtin .append, #[.tmp k, x], #[T, TX]⟩, ty, ps, af, gd⟩ := by rfl) (hdn : Nat.blt d X.n = true := by rfl) (hkd : Nat.beq k d = false := by rfl) (hM : owns M (some d) = false := by rfl) (hG : refdO (some d) G = false := by rfl) :
    Te P X l0 C acc i (⟨some d, .call ⟨.builtin .append, #[.tmp k, x], #[T, TX]⟩, ty, ps, af, gd⟩ :: l) M G K :=
  Te.op (o := ⟨some d, .call ⟨.builtin .append, #[.tmp k, x], #[T, TX]⟩, ty, ps, af, gd⟩) [(k, rowR sz n xs)] (.plain fun _ _ => True) [(d, some r'), (k, none)]
    (ob_append hu he hz hzs (by simpa using hby) (by simpa using hdn) (fun e => by subst e; simp at hkd) hsrc hb hr hg hi) (by simp [mem_of_memOf hk]) (by
      intro x hx
      rcases List.mem_cons.1 hx with rfl | hx
      · exact Or.inl (owns_none hM)
      · simp only [List.mem_singleton] at hx
        subst hx
        exact Or.inr (by simp))
    (fun d' hd' => by injection hd' with hd'; subst hd'; exact ⟨Or.inl (owns_none hM), hG⟩) kk

theorem src_data {TX e' : TypeId} {sz m k : Nat} {news : List Value} {x : Operand} {T : TypeId} (hk : P.underlying TX = some (.slice e')) (h1 : ∀ u ∈ news, u.oneCell' = true) (ha : arg G x = some (.plain (SlC sz m news))) (a : Act) (w : World)
    (hw : given ⟨some d, .call ⟨.builtin .append, #[.tmp k, x], #[T, TX]⟩, ty, ps, af, gd⟩ G a w) : Src P sz TX (a.eval x) m news w := by
  obtain ⟨hl, A, c, hv, hnc, hcm, h⟩ := hw x (by simp [Op.operands, Call.operands]) _ ha
  rw [hv]
  rcases h with ⟨rfl, rfl⟩ | ⟨b, o, rfl, hr⟩
  · have : news = [] := List.eq_nil_of_length_eq_zero (by simpa using hl)
    subst this
    exact Src.ofNil w hk c
  · exact Src.ofSlice w hk ⟨b, o, none⟩ m c news hl (fun j u hj => by rw [add_plain]; exact hr j u hj) h1
theorem src_str {TX : TypeId} {s : ByteArray} {k : Nat} {x : Operand} {T : TypeId} (hk : P.underlying TX = some .string) (ha : arg G x = some (EqV (.string s))) (a : Act) (w : World)
    (hw : given ⟨some d, .call ⟨.builtin .append, #[.tmp k, x], #[T, TX]⟩, ty, ps, af, gd⟩ G a w) : Src P 1 TX (a.eval x) s.size (byteCells s) w := by
  have hv : a.eval x = .string s := hw x (by simp [Op.operands, Call.operands]) _ ha
  rw [hv]
  exact Src.ofString w hk s

/-- Bytes as a string. -/
theorem t_strB {S T e : TypeId} {x : Operand} {s : ByteArray} (hs : P.underlying S = some (.slice e)) (he : P.underlying e = some (.int .u8)) (hT : P.underlying T = some .string) (hx : arg G x = some (.plain (SlB s)))
    (k : Te P X l0 C (⟨[d], [], none⟩ :: acc) (i + 1) l M ((d, EqV (.string s)) :: G) K) (hg : Takes l0 G gd := by trivial) (hi : l0[i]? = some ⟨some d, .convert S T x, ty, ps, af, gd⟩ := by rfl) (hM : owns M (some d) = false := by rfl) (hG : refdO (some d) G = false := by rfl) :
    Te P X l0 C acc i (⟨some d, .convert S T x, ty, ps, af, gd⟩ :: l) M G K :=
  t_pure _ (fun a w hw => by
    have hv := hw x (by simp [Op.operands]) _ hx
    show ((do let v ← convert S T (a.eval x); Pure.pure (Next.value v)) : Sem Next).run P w = _
    simp [run_bytes_str hs he hT hv, Result.andThen]) k hg hi hM hG
/-- Something is read out of what one owns at a slot; nothing turns. -/
theorem ob_read {op : Op} {k : Nat} {r : Res} {c : Value} (hdk : k ≠ d) (h : ∀ (a : Act) (w : World), given ⟨some d, op, ty, ps, af, gd⟩ G a w → (∃ H, r.holds (a.tmps.getD k undef) w H) → (execOp a.eval ⟨some d, op, ty, ps, af, gd⟩).run P w = .ok (.value c) w) (hg : Takes l0 G gd) (hi : l0[i]? = some ⟨some d, op, ty, ps, af, gd⟩) :
    Ob P X l0 i ⟨some d, op, ty, ps, af, gd⟩ [(k, r)] G (EqV c) [] :=
  Ob.val hi hg fun M a w hn hm hp1 _ hp3 hk => by
    have hkM := hp1 (k, r) (by simp)
    have hd : M d = none := by
      rcases hp3 d rfl with h | h
      · exact h
      · simp at h; exact absurd h.symm hdk
    exact ⟨c, w, h a w hk.now ⟨_, hm.holds k r hkM⟩, Stepd.of_clean hm (fun k' hk' => by injection hk' with hk'; subst hk'; exact hd) (Chg.refl _ _), Know.const rfl⟩
theorem t_read {op : Op} {k : Nat} {r : Res} {c : Value} (h : ∀ (a : Act) (w : World), given ⟨some d, op, ty, ps, af, gd⟩ G a w → (∃ H, r.holds (a.tmps.getD k undef) w H) → (execOp a.eval ⟨some d, op, ty, ps, af, gd⟩).run P w = .ok (.value c) w) (hb : lookM k M = some (some r))
    (kk : Te P X l0 C (⟨[d, k], [], none⟩ :: acc) (i + 1) l M ((d, EqV c) :: G) K) (hg : Takes l0 G gd) (hi : l0[i]? = some ⟨some d, op, ty, ps, af, gd⟩) (hM : owns M (some d) = false) (hG : refdO (some d) G = false) :
    Te P X l0 C acc i (⟨some d, op, ty, ps, af, gd⟩ :: l) M G K :=
  Te.op (o := ⟨some d, op, ty, ps, af, gd⟩) [(k, r)] (EqV c) [] (ob_read (fun e => by subst e; simp [owns, mem_of_memOf hb] at hM) h hg hi) (by simp [mem_of_memOf hb]) (by simp) (fun d' hd' => by injection hd' with hd'; subst hd'; exact ⟨Or.inl (owns_none hM), hG⟩) kk
/-- Bytes of one's own as a string. -/
theorem t_strRow {S T e : TypeId} {k : Nat} {s : ByteArray} (hs : P.underlying S = some (.slice e)) (he : P.underlying e = some (.int .u8)) (hT : P.underlying T = some .string) (hb : lookM k M = some (some (rowB s)))
    (kk : Te P X l0 C (⟨[d, k], [], none⟩ :: acc) (i + 1) l M ((d, EqV (.string s)) :: G) K) (hg : Takes l0 G gd := by trivial) (hi : l0[i]? = some ⟨some d, .convert S T (.tmp k), ty, ps, af, gd⟩ := by rfl) (hM : owns M (some d) = false := by rfl) (hG : refdO (some d) G = false := by rfl) :
    Te P X l0 C acc i (⟨some d, .convert S T (.tmp k), ty, ps, af, gd⟩ :: l) M G K :=
  t_read (fun a w _ hr => by
    obtain ⟨_, hr⟩ := hr
    show ((do let v ← convert S T (a.tmps.getD k undef); Pure.pure (Next.value v)) : Sem Next).run P w = _
    have h := run_bytes_str hs he hT (rowHolds.slC hr)
    generalize a.tmps.getD k undef = q at h ⊢
    simp [h, Result.andThen]) hb kk hg hi hM hG
/-- The length of what one owns. -/
theorem t_lenRow {T e : TypeId} {k sz n : Nat} {xs : List Value} (hu : P.underlying T = some (.slice e)) (hb : lookM k M = some (some (rowR sz n xs)))
    (kk : Te P X l0 C (⟨[d, k], [], none⟩ :: acc) (i + 1) l M ((d, EqV (.int .i64 n)) :: G) K) (hg : Takes l0 G gd := by trivial) (hi : l0[i]? = some ⟨some d, .call ⟨.builtin .len, #[.tmp k], #[T]⟩, ty, ps, af, gd⟩ := by rfl) (hM : owns M (some d) = false := by rfl) (hG : refdO (some d) G = false := by rfl) :
    Te P X l0 C acc i (⟨some d, .call ⟨.builtin .len, #[.tmp k], #[T]⟩, ty, ps, af, gd⟩ :: l) M G K :=
  t_read (fun a w _ hr => by
    obtain ⟨_, hr⟩ := hr
    obtain ⟨A, c, hv⟩ := slC_form _ _ (rowHolds.slC hr)
    rw [run_builtin]
    have e : (#[Operand.tmp k].map a.eval) = #[a.tmps.getD k undef] := by simp [Act.eval]
    rw [e, hv]
    simp [builtin, Builtin.len_, run_underlying hu, Result.andThen, goInt]) hb kk hg hi hM hG

/-- A string's bytes, of one's own. -/
theorem t_bytes {S T e : TypeId} {x : Operand} {s : ByteArray} {ds : TypeDesc} (hs : P.underlying S = some ds) (hT : P.underlying T = some (.slice e)) (he : P.underlying e = some (.int .u8)) (hx : arg G x = some (EqV (.string s))) (hl : s.size ≤ maxLen)
    (kk : Te P X l0 C (⟨[d], [d], none⟩ :: acc) (i + 1) l ((d, some (rowB s)) :: M) ((d, .plain fun _ _ => True) :: G) K) (hg : Takes l0 G gd := by trivial) (hi : l0[i]? = some ⟨some d, .convert S T x, ty, ps, af, gd⟩ := by rfl) (hdn : Nat.blt d X.n = true := by rfl) (hM : owns M (some d) = false := by rfl) (hG : refdO (some d) G = false := by rfl) :
    Te P X l0 C acc i (⟨some d, .convert S T x, ty, ps, af, gd⟩ :: l) M G K :=
  have hdn' : d < X.n := by simpa using hdn
  Te.op (o := ⟨some d, .convert S T x, ty, ps, af, gd⟩) [] (.plain fun _ _ => True) [(d, some (rowB s))]
    (Ob.val hi hg fun M a w hn hm _ _ hp3 hk => by
      have hv : a.eval x = .string s := hk.now x (by simp [Op.operands]) _ hx
      have hcap := grownCap_ge w s.size 0 e
      have hcm := grownCap_le_maxLen w s.size 0 e hl
      have hnew := Lib.bytesWorld_at_new w e s
      have hsz : (Lib.bytesCells w e s).size = grownCap w s.size 0 e := by
        simp only [Lib.bytesCells, Array.size_append, Array.size_map, Array.size_replicate]
        have : s.data.size = s.size := rfl
        omega
      refine ⟨.slice (some ⟨w.heap.size, 0, none⟩) s.size (grownCap w s.size 0 e), Lib.bytesWorld w e s, ?_, Stepd.fresh hm (by omega) (dst_none hp3 d rfl) ⟨?_, ?_, ?_, ?_, ?_⟩ (fun _ _ => ?_) (fun b hb => ?_), Know.const trivial⟩
      · show ((do let v ← convert S T (a.eval x); Pure.pure (Next.value v)) : Sem Next).run P w = _
        rw [hv]
        simp only [Sem.run_bind, Lib.run_convert_string_bytes w S T e s hs hT he, Result.andThen, Sem.run_pure]
      · rfl
      · rfl
      · rfl
      · rw [Lib.bytesWorld_size]; omega
      · intro k hk' _; exact Lib.bytesWorld_at_old w e s k hk'
      · refine ⟨by rw [byteCells_length]; omega, Or.inr ⟨w.heap.size, _, rfl, hcap, hcm, by rw [Lib.bytesWorld_size]; omega, ?_, ?_⟩⟩
        · intro j u hj
          rw [Nat.zero_add]
          have hjl : j < s.size := by have := (List.getElem?_eq_some_iff.1 hj).1; rwa [byteCells_length] at this
          rw [Lib.bytesWorld_cell w e s j hjl, ← hj]
          have hl : j < s.data.toList.length := by simpa using hjl
          simp [byteCells, List.getElem?_map, List.getElem?_eq_getElem hl, List.getD_eq_getElem?_getD]
        · intro j hj
          rw [Nat.mul_one] at hj
          constructor
          · rw [cell_of hnew, Array.getElem?_eq_getElem (by rw [hsz]; exact hj)]
            rfl
          · simp only [World.frozen?, hnew, hsz, Bool.and_eq_false_iff, decide_eq_false_iff_not]
            left
            omega
      · simp only [rowB, rowR, footV, List.mem_singleton] at hb
        subst hb
        rw [Lib.bytesWorld_size]
        omega)
    (by simp) (by simp [owns_none hM]) (fun d' hd' => by injection hd' with hd'; subst hd'; exact ⟨Or.inl (owns_none hM), hG⟩) kk

/-- The address of an element of a slice that is read. -/
theorem t_idx {T e : TypeId} {de : TypeDesc} {sz by_ n : Nat} {cs cs' : List Value} {x y : Operand} {j : IntKind} {m : Int} (hu : P.underlying T = some (.slice e)) (he : TI P e de sz by_) (hx : arg G x = some (.plain (SlC sz n cs))) (hy : arg G y = some (EqV (.int j m))) (h0 : 0 ≤ m) (hn : m < n) (hc : (cs.drop (m.toNat * sz)).take sz = cs')
    (k : Te P X l0 C (⟨[d], [], none⟩ :: acc) (i + 1) l M ((d, .plain (RefC cs')) :: G) K) (hg : Takes l0 G gd := by trivial) (hi : l0[i]? = some ⟨some d, .indexAddr T x y, ty, ps, af, gd⟩ := by rfl) (hM : owns M (some d) = false := by rfl) (hG : refdO (some d) G = false := by rfl) :
    Te P X l0 C acc i (⟨some d, .indexAddr T x y, ty, ps, af, gd⟩ :: l) M G K :=
  t_pred (RefC cs') (fun a => by
    by_cases h : ∃ (b o c : Nat), a.eval x = .slice (some ⟨b, o, none⟩) n c
    · obtain ⟨b, o, c, hv⟩ := h
      refine ⟨.pointer (some ⟨b, o + m.toNat * sz, none⟩), fun w hw => ?_⟩
      obtain ⟨hl, A, c', hv', _, _, h⟩ := hw x (by simp [Op.operands]) _ hx
      have hvy : a.eval y = .int j m := hw y (by simp [Op.operands]) _ hy
      rw [hv] at hv'
      injection hv' with hA _ _
      subst hA
      rcases h with ⟨h, _⟩ | ⟨b', o', h, hr⟩
      · cases h
      · injection h with h
        injection h with h1 h2
        subst h1; subst h2
        refine ⟨⟨b, _, rfl, by rw [← hc]; exact (hr.drop _).take _⟩, ?_⟩
        show ((do let v ← Instr.indexAt T (a.eval x) (a.eval y); Pure.pure (Next.value v)) : Sem Next).run P w = _
        rw [hv, hvy]
        simp [Instr.indexAt, asIntOf, run_underlying hu, Result.andThen, h0, hn, he.size, add_plain]
    · refine ⟨undef, fun w hw => ?_⟩
      obtain ⟨hl, A, c', hv', _, _, h'⟩ := hw x (by simp [Op.operands]) _ hx
      rcases h' with ⟨_, h'⟩ | ⟨b', o', h', _⟩
      · omega
      · exact absurd ⟨b', o', c', by rw [hv', h']⟩ h) k hg hi hM hG
/-- A load of what is read. -/
theorem t_loadR {T : TypeId} {dd : TypeDesc} {n by_ : Nat} {cs : List Value} {x : Operand} (v : Value) (ht : TI P T dd n by_) (hx : arg G x = some (.plain (RefC cs))) (hl : cs.length = n) (hv : (aggD dd = true ∧ v = .agg cs.toArray) ∨ (aggD dd = false ∧ cs = [v]))
    (k : Te P X l0 C (⟨[d], [], none⟩ :: acc) (i + 1) l M ((d, EqV v) :: G) K) (hg : Takes l0 G gd := by trivial) (hi : l0[i]? = some ⟨some d, .load T x, ty, ps, af, gd⟩ := by rfl) (hM : owns M (some d) = false := by rfl) (hG : refdO (some d) G = false := by rfl) :
    Te P X l0 C acc i (⟨some d, .load T x, ty, ps, af, gd⟩ :: l) M G K :=
  t_pure _ (fun a w hw => by
    obtain ⟨b, o, hx', hr⟩ := hw x (by simp [Op.operands]) _ hx
    show ((do let v ← Instr.loadAt T (a.eval x); Pure.pure (Next.value v)) : Sem Next).run P w = _
    rw [hx']
    simp only [Instr.loadAt, Sem.run_bind, sureAddr_ptr, Result.andThen, run_loadVar ht hl hr v hv, Sem.run_pure]) k hg hi hM hG
/-- A field of what is read. -/
theorem t_fieldR {T : TypeId} {f : Nat} {fs : Array Field} {fd : Field} {n b n' b' : Nat} {dd : TypeDesc} {x : Operand} {S S1 S2 : Segs} (ht : TI P T (.struct fs) n b) (hfd : fs[f]? = some fd) (htf : TI P fd.type dd n' b') (hn' : Nat.beq n' 0 = false) (hx : arg G x = some (.plain (RefC (flat S)))) (h1 : segDrop S fd.offset = some S1) (h2 : segTake S1 n' = some S2)
    (k : Te P X l0 C (⟨[d], [], none⟩ :: acc) (i + 1) l M ((d, .plain (RefC (flat S2))) :: G) K) (hg : Takes l0 G gd := by trivial) (hi : l0[i]? = some ⟨some d, .fieldAddr T x f, ty, ps, af, gd⟩ := by rfl) (hM : owns M (some d) = false := by rfl) (hG : refdO (some d) G = false := by rfl) :
    Te P X l0 C acc i (⟨some d, .fieldAddr T x f, ty, ps, af, gd⟩ :: l) M G K :=
  t_pred _ (fun a => by
    have hn0 : n' ≠ 0 := fun e => by subst e; simp at hn'
    by_cases h : ∃ (b o : Nat), a.eval x = .pointer (some ⟨b, o, none⟩)
    · obtain ⟨b, o, hv⟩ := h
      refine ⟨.pointer (some ⟨b, o + fd.offset, none⟩), fun w hw => ?_⟩
      obtain ⟨b', o', hx', hr⟩ := hw x (by simp [Op.operands]) _ hx
      rw [hv] at hx'
      injection hx' with hx'
      injection hx' with hx'
      injection hx' with h3 h4
      subst h3; subst h4
      refine ⟨⟨b, _, rfl, ?_⟩, ?_⟩
      · rw [← (segTake_spec h2).1, ← (segDrop_spec h1).1]
        exact (hr.drop _).take _
      · show ((do let v ← Instr.fieldAt T (a.eval x) f; Pure.pure (Next.value v)) : Sem Next).run P w = _
        rw [hv]
        simp only [Instr.fieldAt, Sem.run_bind, ht.run, Result.andThen, hfd, sureAddr_ptr, fieldPlace, htf.size, hn0, if_false, Sem.run_pure, add_plain]
    · refine ⟨undef, fun w hw => ?_⟩
      obtain ⟨b', o', hx', _⟩ := hw x (by simp [Op.operands]) _ hx
      exact absurd ⟨b', o', hx'⟩ h) k hg hi hM hG

/-- A whole array of a variable's, as a slice: bytes. -/
theorem t_slarr {T e : TypeId} {len n by_ n' b' k off : Nat} {de : TypeDesc} {x : Operand} (ht : TI P T (.array len e) n by_) (he : TI P e de n' b') (hx : arg G x = some (.ptr k off)) (hl : Nat.blt 0 len = true)
    (kk : Te P X l0 C (⟨[d], [], some k⟩ :: acc) (i + 1) l M ((d, .sli k off len len) :: G) K) (hne : Nat.beq k d = false := by rfl) (hg : Takes l0 G gd := by trivial) (hi : l0[i]? = some ⟨some d, .slice T x none none none, ty, ps, af, gd⟩ := by rfl) (hM : owns M (some d) = false := by rfl) (hG : refdO (some d) G = false := by rfl) :
    Te P X l0 C acc i (⟨some d, .slice T x none none none, ty, ps, af, gd⟩ :: l) M G K := by
  refine t_clean (o := ⟨some d, .slice T x none none none, ty, ps, af, gd⟩) (φ := .sli k off len len) (Ob.val hi hg fun M a w hn hm _ _ hp3 hk => ?_) hM hG kk
  have hv := hk.now x (by simp [Op.operands]) _ hx
  have hkd : d ≠ k := fun e => by subst e; simp at hne
  have hl0 : 0 < len := by simpa using hl
  refine ⟨.slice (some ⟨blk (a.tmps.getD k undef), off, none⟩) len len, w, ?_, Stepd.of_clean hm (dst_none hp3) (Chg.refl _ _), Know.const ?_⟩
  · simp only [sem] at hv
    show ((do let v ← Instr.sliceAt T (a.eval x) none none none; Pure.pure (Next.value v)) : Sem Next).run P w = _
    rw [hv]
    simp [Instr.sliceAt, Instr.sliceBounds, ht.run, Result.andThen, sureAddr_ptr, he.size, add_plain]
  · simp only [sem]
    rw [getD_put_ne hkd]
/-- Bytes of a variable as a string. -/
theorem t_strBox {S T e : TypeId} {x : Operand} {k off n c : Nat} {B B1 B2 : Segs} {t : TypeId} {s : ByteArray} (hs : P.underlying S = some (.slice e)) (he : P.underlying e = some (.int .u8)) (hT : P.underlying T = some .string) (hx : arg G x = some (.sli k off n c)) (hb : lookM k M = some (some (boxS B t)))
    (h1 : segDrop B off = some B1) (h2 : segTake B1 n = some B2) (hB : flat B2 = byteCells s) (hnc : n ≤ c ∧ c ≤ maxLen)
    (kk : Te P X l0 C (⟨[d, k], [], none⟩ :: acc) (i + 1) l M ((d, EqV (.string s)) :: G) K) (hg : Takes l0 G gd := by trivial) (hi : l0[i]? = some ⟨some d, .convert S T x, ty, ps, af, gd⟩ := by rfl) (hM : owns M (some d) = false := by rfl) (hG : refdO (some d) G = false := by rfl) :
    Te P X l0 C acc i (⟨some d, .convert S T x, ty, ps, af, gd⟩ :: l) M G K :=
  t_read (fun a w hw hr => by
    obtain ⟨_, b, hbv, hbh⟩ := hr
    have hv := hw x (by simp [Op.operands]) _ hx
    simp only [sem, hbv, blk] at hv
    have e1 := segDrop_spec h1
    have e2 := segTake_spec h2
    have hl : s.size = n := by
      have := congrArg List.length hB
      rw [byteCells_length, ← e2.1, List.length_take] at this
      omega
    show ((do let v ← convert S T (a.eval x); Pure.pure (Next.value v)) : Sem Next).run P w = _
    have hsl : SlB s (a.eval x) w := by
      refine ⟨by rw [byteCells_length]; omega, _, c, by rw [hv, hl], by omega, hnc.2, Or.inr ⟨b, off, rfl, ?_⟩⟩
      have := RowAt.of_block hbh
      simp only at this
      have h3 := (this.drop off).take n
      rw [Nat.zero_add, e1.1, e2.1, hB] at h3
      exact h3
    simp [run_bytes_str hs he hT hsl, Result.andThen]) hb kk hg hi hM hG
end

/-! ### What a function hands back -/

/-- The results, as they are known. -/
inductive Outs (P : Program) (M : Own) (G : List (Nat × Fact)) : List ResultVar → List Pred → Prop
  | nil : Outs P M G [] []
  | tmp {t : Nat} {φ : Pred} {rs : List ResultVar} {φs : List Pred} (hl : look t G = some (.plain φ)) (k : Outs P M G rs φs) : Outs P M G (.tmp t :: rs) (φ :: φs)
  | cell {t : Nat} {T : TypeId} {S : Segs} {v : Value} {dd : TypeDesc} {n b : Nat} {rs : List ResultVar} {φs : List Pred} (ht : TI P T dd n b) (hb : lookM t M = some (some (boxS S T))) (hn : Nat.beq (lenS S) n = true) (hv : valS (aggD dd) S = some v) (k : Outs P M G rs φs) : Outs P M G (.cell t T :: rs) (IsV v :: φs)

theorem asAddr_some (a : Addr) : asAddr (.pointer (some a)) = Pure.pure a := rfl
def outVal (a : Array Value) : ResultVar → Sem Value
  | .tmp t => Pure.pure (a.getD t undef)
  | .cell b t => do loadVar t (← asAddr (a.getD b undef))
theorem Outs.run {P : Program} {X : Ctx} {M : Own} {G : List (Nat × Fact)} {rs : List ResultVar} {φs : List Pred} (h : Outs P M G rs φs) {a : Act} {w : World} (hs : St X M G a w) :
    ∃ vs, (rs.mapM (outVal a.tmps)).run P w = .ok vs w ∧ Know (Ex X (memOf M) a w) w (meets φs vs) := by
  induction h with
  | nil => exact ⟨[], by simp, Know.const trivial⟩
  | @tmp t φ rs φs hl _ ih =>
    obtain ⟨vs, h1, h2⟩ := ih
    refine ⟨a.tmps.getD t undef :: vs, ?_, (hs.know.and h2).imp fun w' ⟨x, y⟩ => ⟨x t _ hl, y⟩⟩
    rw [List.mapM_cons]
    simp only [outVal, Sem.run_bind, Sem.run_pure, Result.andThen, h1]
  | @cell t T S v dd n b rs φs ht hb hn hv _ ih =>
    obtain ⟨vs, h1, h2⟩ := ih
    obtain ⟨g, hg, hgh⟩ := hs.mem.holds t _ (mem_of_memOf hb)
    have hlv := run_loadVar ht (w := w) (b := g) (o := 0) (cs := flat S) (by rw [flat_length]; exact Nat.eq_of_beq_eq_true hn) (fun j u hj => by rw [cell_of hgh, Nat.zero_add]; simpa using hj) v (valS_spec hv)
    refine ⟨v :: vs, ?_, h2.imp fun w' y => ⟨rfl, y⟩⟩
    rw [List.mapM_cons]
    simp only [outVal, Sem.run_bind, Sem.run_pure, hg, asAddr_some, hlv, Result.andThen, h1]

theorem results_eq (fn : Func) (a : Array Value) : results fn a = (do let vs ← fn.results.mapM (outVal a); Pure.pure (if h : vs.size = 1 then vs[0] else .tuple vs)) := by
  unfold results
  congr 1
theorem rt_out1 {P : Program} {fn : Func} {w0 : World} {H : Nat → Prop} {ψ : Pred} {n : Nat} {M : Own} {G : List (Nat × Fact)} {r : ResultVar} (hr : fn.results = #[r]) (ho : Outs P M G [r] [ψ]) : Rt ⟨w0, H, Nobody, n⟩ (FunQ P fn w0 H ψ) M G :=
  rt_fun fun a w hs => by
    obtain ⟨vs, h1, h2⟩ := ho.run hs
    match vs, h2 with
    | [], h2 => exact (h2.now).elim
    | _ :: _ :: _, h2 => exact h2.now.2.elim
    | [v], h2 =>
      refine ⟨v, ?_, (h2.mono (fun _ _ x => Or.inl x)).imp fun _ hw => hw.1⟩
      rw [results_eq, hr, show (#[r] : Array ResultVar) = [r].toArray from rfl, List.mapM_toArray]
      simp only [Sem.run_bind, Sem.run_map, h1, Result.andThen, Sem.run_pure]
      rfl
theorem rt_outs {P : Program} {fn : Func} {w0 : World} {H : Nat → Prop} {φs : List Pred} {n : Nat} {M : Own} {G : List (Nat × Fact)} {rs : List ResultVar} (hr : fn.results = rs.toArray) (h1' : Nat.beq φs.length 1 = false) (ho : Outs P M G rs φs) : Rt ⟨w0, H, Nobody, n⟩ (FunQ P fn w0 H (Tup φs)) M G :=
  rt_fun fun a w hs => by
    obtain ⟨vs, h1, h2⟩ := ho.run hs
    refine ⟨.tuple vs.toArray, ?_, (h2.mono (fun _ _ x => Or.inl x)).imp fun _ hw => ⟨vs, rfl, hw⟩⟩
    have hne : ¬ vs.length = 1 := by rw [meets_length h2.now]; intro e; rw [e] at h1'; simp at h1'
    rw [results_eq, hr, List.mapM_toArray]
    simp only [Sem.run_bind, Sem.run_map, h1, Result.andThen, Sem.run_pure]
    simp [hne]
end Go.Eng
