/- The proof engine, text on rows: what is read before a call reads so behind it, if nothing that was there has changed; bytes of an array that is handed over; the program's tables. -/
import Derived.Test.YtfgdeogphflimaaGreatDoorEDeep
import Derived.Test.YtfgdeogphflimaaGreatDoorSpec
import Derived.ProofKit
import Derived.OpenShut
import Derived.Deep.DeepHandedRow
import Derived.Lib.LaidTab
set_option linter.unusedVariables false
set_option linter.unusedSimpArgs false
namespace Go.Eng
open Go Go.ChangeShapes Go.WideShapes Go.ChangeAt Go.RowKit

variable {H : Type} {enc : TypeId × Value → H} {P : Program}

theorem mapM_same {α β : Type} {f g : α → Option β} : ∀ {l : List α} {r : List β}, l.mapM f = some r → (∀ a b, a ∈ l → b ∈ r → f a = some b → g a = some b) → l.mapM g = some r
  | [], r, h, _ => by simpa using h
  | x :: l, r, h, hg => by
    simp only [List.mapM_cons, Option.bind_eq_bind, Option.bind_eq_some_iff, Option.pure_def, Option.some.injEq] at h ⊢
    obtain ⟨b, hb, r', hr', rfl⟩ := h
    exact ⟨b, hg x b (by simp) (by simp) hb, r', mapM_same hr' (fun a c ha hc hf => hg a c (by simp [ha]) (by simp [hc]) hf), rfl⟩
theorem cell_same {w w' : World} (hb : ∀ b, b < w.heap.size → w'.heap[b]? = w.heap[b]?) {a : Addr} {v : Value} (h : w.cell? a = some v) : w'.cell? a = some v := by
  rw [World.cell?_of_block (hb _ (World.block_lt_of_cell? w a h)), h]
theorem cells_same {w w' : World} (hb : ∀ b, b < w.heap.size → w'.heap[b]? = w.heap[b]?) {base n : Nat} {a : Addr} {cs : List Value} (h : w.cells? base a n = some cs) : w'.cells? base a n = some cs := by
  unfold World.cells? at h ⊢
  split at h
  · rename_i hle
    rw [if_pos hle]
    exact mapM_same h fun i v _ _ hv => cell_same hb hv
  · cases h
theorem bind_same {α β : Type} {o o' : Option α} {f g : α → Option β} {b : β} (h : o.bind f = some b) (ho : ∀ a, o = some a → o' = some a) (hg : ∀ a, o = some a → f a = some b → g a = some b) : o'.bind g = some b := by
  obtain ⟨a, ha, hf⟩ := Option.bind_eq_some_iff.1 h
  rw [ho a ha]
  exact hg a ha hf

/-- The parts of a type are types of the table, too; a slice's elements have cells. -/
def okT (P : Program) (t : TypeId) : Bool := match P.underlying t with
  | some (.pointer e) => Nat.blt e P.types.size
  | some (.slice e) => Nat.blt e P.types.size && Nat.blt 0 (P.cellsOf e)
  | some (.struct fs) => fs.toList.all fun f => Nat.blt f.type P.types.size
  | some (.array _ e) => Nat.blt e P.types.size
  | some (.map _ e) => Nat.blt e P.types.size
  | _ => true
def OkTypes (P : Program) : Prop := ∀ t, t < P.types.size → okT P t = true
/-- WHAT IS READ IS READ BEHIND THE CALL, TOO: where no block that was there has changed. -/
theorem trod_same {w w' : World} (hz : OkTypes P) (hb : ∀ b, b < w.heap.size → w'.heap[b]? = w.heap[b]?) {base : Nat} {sp : Nat → Bool} : ∀ (fuel : Nat) (t : TypeId) (cs : List Value) (x : DataW H × List MemPlace), t < P.types.size →
    DataW.trod enc P w base (fun _ => true) true fuel t cs = some x → (∀ p ∈ x.2, sp p.block = true) → DataW.trod enc P w' base sp true fuel t cs = some x := by
  intro fuel
  induction fuel with
  | zero => intro t cs x _ h; simp [DataW.trod] at h
  | succ fuel ih =>
    intro t cs x ht h hp
    have hok := hz t ht
    unfold okT at hok
    unfold DataW.trod at h ⊢
    split at h
    case h_6 =>
      rename_i e a hu
      rw [hu] at hok
      have he : e < P.types.size := by simpa using hok
      obtain ⟨y, hy, rfl⟩ := Option.map_eq_some_iff.1 h
      refine Option.map_eq_some_iff.2 ⟨y, bind_same hy (fun c hc => cells_same hb hc) (fun c _ hc => ih _ _ _ he hc fun p hq => hp p (by simp [hq])), rfl⟩
    case h_8 =>
      rename_i e a len cap hu
      rw [hu] at hok
      simp only [Bool.and_eq_true] at hok
      have hel : e < P.types.size := by simpa using hok.1
      have he0 : 0 < P.cellsOf e := by simpa using hok.2
      simp only at h ⊢
      split at h
      · rename_i hc
        rw [if_pos hc]
        obtain ⟨elems, he, h⟩ := Option.bind_eq_some_iff.1 h
        simp only [if_true] at h
        obtain ⟨rest, hr, rfl⟩ := Option.map_eq_some_iff.1 h
        have hps : ∀ y ∈ elems ++ rest, ∀ p ∈ y.2, sp p.block = true := fun y hy p hq => hp p (by
          simp only [List.mem_append, List.mem_flatMap]
          exact Or.inr ⟨y, by simpa using hy, hq⟩)
        have e1 := mapM_same (g := fun i => (w'.cells? base (a.add (i * P.cellsOf e)) (P.cellsOf e)).bind (DataW.trod enc P w' base sp true fuel e)) he
          fun i y _ hy hf => bind_same hf (fun c hc => cells_same hb hc) (fun c _ hc => ih _ _ _ hel hc fun p hq => hps y (by simp [hy]) p hq)
        have e2 := mapM_same (g := fun j => (w'.cells? base (a.add ((len + j) * P.cellsOf e)) (P.cellsOf e)).bind (DataW.trod enc P w' base sp true fuel e)) hr
          fun i y _ hy hf => bind_same hf (fun c hc => cells_same hb hc) (fun c _ hc => ih _ _ _ hel hc fun p hq => hps y (by simp [hy]) p hq)
        rw [e1]
        simp only [Option.bind_some]
        by_cases hs : sp a.block = true
        · rw [if_pos hs, e2]
          rfl
        · rw [if_neg hs]
          -- no place at all
          have hno : (elems.length + rest.length) * P.cellsOf e = 0 := by
            rcases Nat.eq_zero_or_pos ((elems.length + rest.length) * P.cellsOf e) with h0 | h0
            · exact h0
            · exfalso
              apply hs
              refine hp (.cell a.block a.off) ?_
              simp only [List.mem_append]
              left
              simp only [MemPlace.row, List.mem_map, List.mem_range]
              exact ⟨0, h0, by simp⟩
          have hl := Go.Lib.mapM_length hr
          simp only [List.length_range] at hl
          rcases Nat.mul_eq_zero.1 hno with h0 | h0
          · have : rest = [] := List.eq_nil_of_length_eq_zero (by omega)
            subst this
            rfl
          · omega
      · cases h
    case h_9 =>
      rename_i fs hu
      rw [hu] at hok
      have hfs : ∀ f ∈ fs.toList, f.type < P.types.size := fun f hf => by simpa using List.all_eq_true.1 hok f hf
      split at h
      · rename_i hc
        rw [if_pos hc]
        obtain ⟨xs, hx, rfl⟩ := Option.map_eq_some_iff.1 h
        refine Option.map_eq_some_iff.2 ⟨xs, mapM_same hx fun f y hfm hy hf => ih _ _ _ (hfs f hfm) hf fun p hq => hp p ?_, rfl⟩
        simp only [List.mem_flatMap]
        exact ⟨y, hy, hq⟩
      · cases h
    case h_10 =>
      rename_i n e hu
      rw [hu] at hok
      have he : e < P.types.size := by simpa using hok
      split at h
      · rename_i hc
        rw [if_pos hc]
        obtain ⟨xs, hx, rfl⟩ := Option.map_eq_some_iff.1 h
        refine Option.map_eq_some_iff.2 ⟨xs, mapM_same hx fun f y _ hy hf => ih _ _ _ he hf fun p hq => hp p ?_, rfl⟩
        simp only [List.mem_flatMap]
        exact ⟨y, hy, hq⟩
      · cases h
    case h_14 =>
      rename_i k e b hu
      rw [hu] at hok
      have hel : e < P.types.size := by simpa using hok
      split at h
      · rename_i es clock hm
        have hlt : b < w.heap.size := (Array.getElem?_eq_some_iff.1 hm).1
        rw [hb b hlt, hm]
        simp only at h ⊢
        split at h
        · rename_i hc
          rw [if_pos hc]
          obtain ⟨entries, he, h⟩ := Option.bind_eq_some_iff.1 h
          have hps : ∀ y ∈ entries, ∀ p ∈ y.2, sp p.block = true := by
            split at h
            · injection h with h
              subst h
              intro y hy p hq
              refine hp p (List.mem_cons_of_mem _ ?_)
              simp only [List.mem_flatMap]
              exact ⟨y, hy, hq⟩
            · cases h
          refine Option.bind_eq_some_iff.2 ⟨entries, mapM_same he fun z y _ hy hf => ?_, h⟩
          refine bind_same hf (fun _ x => x) fun key _ hf => ?_
          split at hf
          · rename_i hfm
            rw [if_pos hfm]
            obtain ⟨q, hq, rfl⟩ := Option.map_eq_some_iff.1 hf
            exact Option.map_eq_some_iff.2 ⟨q, ih _ _ _ hel hq fun p hp' => hps _ hy p hp', rfl⟩
          · cases hf
        · cases h
      · cases h
    all_goals exact h
theorem Trod.same {w w' : World} (hz : OkTypes P) (hb : ∀ b, b < w.heap.size → w'.heap[b]? = w.heap[b]?) {base : Nat} {sp : Nat → Bool} {t : TypeId} {v : Value} {d : DataW H} {ps : List MemPlace} (ht : t < P.types.size)
    (h : DataW.Trod enc P w base (fun _ => true) true t v d ps) (hp : ∀ p ∈ ps, sp p.block = true) : DataW.Trod enc P w' base sp true t v d ps := by
  obtain ⟨fuel, hf⟩ := h
  exact ⟨fuel, trod_same hz hb fuel t _ _ ht hf hp⟩
theorem TrodAll.same {w w' : World} (hz : OkTypes P) (hb : ∀ b, b < w.heap.size → w'.heap[b]? = w.heap[b]?) {base : Nat} {sp : Nat → Bool} : ∀ {ts : List TypeId} {vs : List Value} {ds : List (DataW H)} {ps : List MemPlace}, (∀ t ∈ ts, t < P.types.size) →
    DataW.TrodAll enc P w base (fun _ => true) true ts vs ds ps → (∀ p ∈ ps, sp p.block = true) → DataW.TrodAll enc P w' base sp true ts vs ds ps
  | [], [], [], _, _, h, _ => h
  | t :: ts, v :: vs, d :: ds, ps, ht, ⟨p, q, h1, h2, e⟩, hp => ⟨p, q, Trod.same hz hb (ht t (by simp)) h1 fun x hx => hp x (by rw [e]; simp [hx]), TrodAll.same hz hb (fun t h => ht t (by simp [h])) h2 fun x hx => hp x (by rw [e]; simp [hx]), e⟩
  | [], _ :: _, _, _, _, h, _ => by simp [DataW.TrodAll] at h
  | [], [], _ :: _, _, _, h, _ => by simp [DataW.TrodAll] at h
  | _ :: _, [], _, _, _, h, _ => by simp [DataW.TrodAll] at h
  | _ :: _, _ :: _, [], _, _, h, _ => by simp [DataW.TrodAll] at h

theorem kept_same {w w' : World} (h : Chg Nobody w w') (may : MemPlace → Prop) : w.keptBut w' may := by
  refine ⟨h.os, h.output, fun i hi => ?_⟩
  rw [h.block i hi id]
  split
  · rename_i h1 h2
    rw [h1] at h2
    simp only [Option.some.injEq, Obj.cells.injEq] at h2
    obtain ⟨rfl, rfl, rfl⟩ := h2
    exact ⟨rfl, rfl, rfl, fun _ _ => rfl⟩
  · rename_i h1 h2
    rw [h1] at h2
    simp only [Option.some.injEq, Obj.map.injEq] at h2
    exact Or.inr ⟨h2.1.symm, h2.2.symm⟩
  · rfl
/-- A LAW THAT ANSWERS TRUE AND CHANGES NOTHING THAT WAS THERE. -/
theorem post_law {f : Func} {s : ChangeSpec} {apart : Bool} {W W' : World} {args : Array Value} {ds gs : List (DataW H)} {before : List MemPlace} {T : TypeId} (hz : OkTypes P) (hps : ∀ t ∈ f.params.toList, t < P.types.size)
    (hW : DataW.Whole enc P f.params.toList s.vars apart W args.toList ds gs before) (hv : s.vars = []) (hs : s.fn H (ds ++ gs) = { results := [.lit (.bool true)], args := ds }) (hr : f.resultTypes = #[T]) (hT : P.underlying T = some .bool) (hc : Chg Nobody W W') :
    s.post enc P f apart true false false W args (.bool true) W' := by
  have hblk : ∀ b, b < W.heap.size → W'.heap[b]? = W.heap[b]? := fun b hb => hc.block b hb id
  have hlt : ∀ p ∈ before, p.block < W.heap.size := fun p hp => by simpa using hW.lt p hp
  obtain ⟨p, q, h1, h2, rfl, h3, h4⟩ := hW
  rw [hv] at h2
  have hq : gs = [] ∧ q = [] := by
    cases gs with
    | nil => exact ⟨rfl, h2⟩
    | cons g gs => simp [DataW.TrodVars] at h2
  obtain ⟨rfl, rfl⟩ := hq
  simp only [List.append_nil] at hlt hs h3 h4
  refine ⟨ds, [], p, [], p, [], ⟨p, [], h1, by rw [hv]; rfl, by simp, h3, h4⟩, ?_, ?_, ?_, kept_same hc _, fun h => by cases h⟩
  · simp only [List.append_nil, hs, hr]
    show DataW.TrodAll enc P W' _ _ _ [T] [.bool true] [.lit (.bool true)] []
    exact ⟨[], [], shut_bool hT true, rfl, rfl⟩
  · simp only [List.append_nil, hs]
    exact TrodAll.same hz hblk hps h1 fun x hx => by simpa using hlt x hx
  · simp only [List.append_nil, hs, hv]
    rfl

/-- The bytes of an array that is handed over. -/
theorem open_bytesA {r : Reach} {W : World} {base b0 : Nat} {sp : Nat → Bool} {hd : Bool} {t e : TypeId} {n : Nat} {v : Value} {d : DataW H} {ps : List MemPlace} (ht : P.underlying t = some (.array n e)) (he : P.underlying e = some (.int .u8)) (hce : P.cellsOf e = 1) (hct : P.cellsOf t = n)
    (hval : Value.okWide P W r b0 t v) (h : DataW.Trod enc P W base sp hd t v d ps) : ∃ b : Bytes n, v = aggS [sgB b] := by
  simp only [Value.okWide, ht] at hval
  obtain ⟨cs, rfl, hsz, _⟩ := hval
  obtain ⟨fuel, hf⟩ := h
  have hcl : cs.toList.length = n := by simpa [hct] using hsz
  cases fuel with
  | zero => simp [DataW.trod] at hf
  | succ fuel =>
    simp only [DataW.trod, ht, hce, hct, Nat.mul_one, Value.cells] at hf
    rw [if_pos hcl] at hf
    obtain ⟨xs, hm, _⟩ := Option.map_eq_some_iff.1 hf
    have hall : ∀ i, i < n → ∃ x : UInt8, cs.toList[i]? = some (U8 x) := by
      intro i hi
      obtain ⟨b, _, hb⟩ := Go.Lib.mapM_at hm i i (by simp [hi])
      obtain ⟨z, hc, _, hw⟩ := DataW.trod_int he hb
      have h1 : cs.toList[i]? = some (.int .u8 z) := by
        have := congrArg (·[0]?) hc
        simpa [List.getElem?_take, List.getElem?_drop] using this
      have h0 : 0 ≤ z ∧ z < 256 := by
        simp [Lit.wf, IntKind.min, IntKind.max, IntKind.signed, IntKind.bits] at hw
        omega
      exact ⟨UInt8.ofNat z.toNat, by rw [h1, u8_of h0]⟩
    have hl : ∃ l : List UInt8, l.length = n ∧ ∀ i, i < n → cs.toList[i]? = (l[i]?).map fun x => U8 x := by
      refine ⟨(List.range n).map fun i => if h : i < n then (hall i h).choose else 0, by simp, fun i hi => ?_⟩
      rw [(hall i hi).choose_spec]
      simp [hi]
    obtain ⟨l, hl, hall⟩ := hl
    have hbs : (bA l).size = n := by rw [bA_size, hl]
    refine ⟨⟨bA l, hbs⟩, ?_⟩
    unfold aggS
    congr 1
    apply Array.ext'
    apply List.ext_getElem?
    intro i
    have hfl : (flat [sgB (⟨bA l, hbs⟩ : Bytes n)]) = l.map fun x => U8 x := by simp [flat, sgB, byteCells, bA]
    rw [show (flat [sgB (⟨bA l, hbs⟩ : Bytes n)]).toArray.toList = flat [sgB (⟨bA l, hbs⟩ : Bytes n)] from rfl, hfl, List.getElem?_map]
    by_cases hi : i < n
    · exact hall i hi
    · rw [List.getElem?_eq_none (by omega), List.getElem?_eq_none (by omega)]
      rfl
theorem wf_i64_range {n : Int} (h : (Lit.int .i64 n).wf = true) : -9223372036854775808 ≤ n ∧ n ≤ 9223372036854775807 := by
  simp [Lit.wf, IntKind.min, IntKind.max, IntKind.signed, IntKind.bits] at h
  omega
theorem open_u8 {r : Reach} {W : World} {base b0 : Nat} {sp : Nat → Bool} {hd : Bool} {t : TypeId} {v : Value} {d : DataW H} {ps : List MemPlace} (ht : P.underlying t = some (.int .u8)) (hval : Value.okWide P W r b0 t v) (h : DataW.Trod enc P W base sp hd t v d ps) : ∃ c : UInt8, v = U8 c := by
  obtain ⟨n, rfl, _, _, hw⟩ := open_int ht hval h
  have h0 : 0 ≤ n ∧ n < 256 := by
    simp [Lit.wf, IntKind.min, IntKind.max, IntKind.signed, IntKind.bits] at hw
    omega
  exact ⟨UInt8.ofNat n.toNat, u8_of h0⟩

/-! ### The program's tables -/
theorem var_row {w : World} {name : String} {g : Nat} {cs : Array Value} (hg : P.globalNamed name = some g) (h : w.var? P name = some cs) : RowAt w g 0 cs.toList := by
  unfold World.var? at h
  rw [hg] at h
  simp only [Option.bind_some] at h
  split at h
  · rename_i c t fr hb
    injection h with h
    subst h
    exact RowAt.of_block hb
  · cases h
theorem laid_head {w : World} {name : String} {k : IntKind} {zs : List Int} {rest : List (String × DataW Unit)} {ps : List MemPlace} {g : Nat} {t e : TypeId} {n : Nat} (hg : P.globalNamed name = some g) (hty : (P.globals[g]?).map (·.type) = some t) (ht : P.underlying t = some (.array n e)) (he : P.underlying e = some (.int k)) (hce : P.cellsOf e = 1) (hct : P.cellsOf t = n)
    (h : DataW.LaidVars P w ((name, Lib.tabData k zs) :: rest) ps) : RowAt w g 0 (zs.map fun z => Value.int k z) ∧ ∃ q, DataW.LaidVars P w rest q := by
  obtain ⟨g', t', cs, fuel, p, q, hg', ht', hvar, hd, hr, _⟩ := h
  obtain rfl := Option.some.inj (hg.symm.trans hg')
  obtain rfl := Option.some.inj (hty.symm.trans ht')
  refine ⟨?_, q, hr⟩
  rw [← Lib.cells_of_tab ht he hce hct hd]
  exact var_row hg hvar
theorem row_same {w w' : World} (hb : ∀ b, b < w.heap.size → w'.heap[b]? = w.heap[b]?) {b o : Nat} {cs : List Value} (h : RowAt w b o cs) : RowAt w' b o cs := fun j u hj => cell_same hb (h j u hj)
end Go.Eng
