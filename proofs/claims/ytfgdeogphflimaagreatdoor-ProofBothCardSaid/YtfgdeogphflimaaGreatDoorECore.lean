/- The proof engine, first text: worlds that have changed in few blocks only, what is known of slots in all such worlds, regions in whatever order, and the rules for code. It names no program. -/
import Derived.WalkKit
import Derived.Orders
import Derived.Deep.LoopGhost
import Derived.Deep.Draws
set_option linter.unusedVariables false
namespace Go.Eng
open Go

/-- What is said of a value in a world, of itself alone. -/
abbrev Pred := Value → World → Prop
/-- What is said of a value in a slot: by itself; or that it is what another slot holds, or leads into the block that another slot leads to: a pointer, a slice. -/
inductive Fact where
  | plain (φ : Pred)
  | same (k : Nat)
  | ptr (k off : Nat)
  | sli (k off len cap : Nat)
/-- The value is this one. -/
def IsV (c : Value) : Pred := fun v _ => v = c
def EqV (c : Value) : Fact := .plain (IsV c)
/-- The block that a value leads to. -/
def blk : Value → Nat
  | .pointer (some a) => a.block
  | .slice (some a) _ _ => a.block
  | .map (some r) => r
  | _ => 0
def sem : Fact → Value → Act → World → Prop
  | .plain φ, v, _, w => φ v w
  | .same k, v, a, _ => v = a.tmps.getD k undef
  | .ptr k off, v, a, _ => v = .pointer (some ⟨blk (a.tmps.getD k undef), off, none⟩)
  | .sli k off len cap, v, a, _ => v = .slice (some ⟨blk (a.tmps.getD k undef), off, none⟩) len cap
/-- The slot that is spoken of. -/
def refs : Fact → Option Nat
  | .plain _ => none
  | .same k => some k
  | .ptr k _ => some k
  | .sli k _ _ _ => some k
/-- Is a slot spoken of? -/
def refd (d : Nat) : List (Nat × Fact) → Bool
  | [] => false
  | (_, φ) :: G => match refs φ with
    | some k => match Nat.beq k d with
      | true => true
      | false => refd d G
    | none => refd d G

/-- w' is w, but for blocks of H and new ones. -/
structure Chg (H : Nat → Prop) (w w' : World) : Prop where
  os : w'.os = w.os
  tape : w'.tape = w.tape
  output : w'.output = w.output
  size : w.heap.size ≤ w'.heap.size
  block : ∀ k, k < w.heap.size → ¬ H k → w'.heap[k]? = w.heap[k]?

def Nobody : Nat → Prop := fun _ => False

theorem Chg.refl (H : Nat → Prop) (w : World) : Chg H w w := ⟨rfl, rfl, rfl, Nat.le_refl _, fun _ _ _ => rfl⟩
theorem Chg.trans {H : Nat → Prop} {a b c : World} (h : Chg H a b) (k : Chg H b c) : Chg H a c :=
  ⟨k.os.trans h.os, k.tape.trans h.tape, k.output.trans h.output, Nat.le_trans h.size k.size,
   fun i hi hn => (k.block i (Nat.lt_of_lt_of_le hi h.size) hn).trans (h.block i hi hn)⟩
theorem Chg.trans' {H S : Nat → Prop} {a b c : World} (h : Chg H a b) (k : Chg S b c) (hs : ∀ b, S b → H b ∨ a.heap.size ≤ b) : Chg H a c :=
  ⟨k.os.trans h.os, k.tape.trans h.tape, k.output.trans h.output, Nat.le_trans h.size k.size,
   fun i hi hn => (k.block i (Nat.lt_of_lt_of_le hi h.size) fun hx => (hs i hx).elim hn fun hx => absurd hi (by omega)).trans (h.block i hi hn)⟩
theorem Chg.mono {H H' : Nat → Prop} {a b : World} (h : Chg H a b) (hm : ∀ k, k < a.heap.size → H k → H' k) : Chg H' a b :=
  ⟨h.os, h.tape, h.output, h.size, fun k hk hn => h.block k hk (fun x => hn (hm k hk x))⟩
theorem Chg.weak {H : Nat → Prop} {a b : World} (h : Chg Nobody a b) : Chg H a b := h.mono fun _ _ x => x.elim
theorem Chg.drew (H : Nat → Prop) (w : World) : Chg H w w.drew := ⟨rfl, rfl, rfl, Nat.le_refl _, fun _ _ _ => rfl⟩
theorem Chg.drewN (H : Nat → Prop) (w : World) (n : Nat) : Chg H w (w.drewN n) := ⟨rfl, rfl, rfl, Nat.le_refl _, fun _ _ _ => rfl⟩
theorem heap_alloc (w : World) (o : Obj) (k : Nat) (h : k < w.heap.size) : (w.alloc o).heap[k]? = w.heap[k]? := by
  show (w.heap.push o)[k]? = _
  rw [Array.getElem?_push, if_neg (by omega)]
theorem heap_alloc_new (w : World) (o : Obj) : (w.alloc o).heap[w.heap.size]? = some o := by
  show (w.heap.push o)[w.heap.size]? = _
  simp
theorem Chg.alloc (H : Nat → Prop) (w : World) (o : Obj) : Chg H w (w.alloc o) := ⟨rfl, rfl, rfl, by simp, fun k hk _ => heap_alloc w o k hk⟩

/-- φ holds, and goes on holding while blocks of H alone change. -/
def Know (H : Nat → Prop) (w : World) (φ : World → Prop) : Prop := ∀ w', Chg H w w' → φ w'
theorem Know.now {H : Nat → Prop} {w : World} {φ : World → Prop} (h : Know H w φ) : φ w := h w (Chg.refl H w)
theorem Know.imp {H : Nat → Prop} {w : World} {φ ψ : World → Prop} (h : Know H w φ) (hi : ∀ w', φ w' → ψ w') : Know H w ψ := fun w' hc => hi _ (h w' hc)
theorem Know.and {H : Nat → Prop} {w : World} {φ ψ : World → Prop} (h : Know H w φ) (k : Know H w ψ) : Know H w (fun w' => φ w' ∧ ψ w') := fun w' hc => ⟨h w' hc, k w' hc⟩
/-- Into a later world; the blocks that may change are other ones now: those of them that were there could change before. -/
theorem Know.grow {H H' : Nat → Prop} {w w1 : World} {φ : World → Prop} (h : Know H w φ) (hc : Chg H w w1) (hm : ∀ k, k < w.heap.size → H' k → H k) : Know H' w1 φ :=
  fun w2 h2 => h w2 ⟨h2.os.trans hc.os, h2.tape.trans hc.tape, h2.output.trans hc.output, Nat.le_trans hc.size h2.size,
    fun k hk hn => (h2.block k (Nat.lt_of_lt_of_le hk hc.size) (fun x => hn (hm k hk x))).trans (hc.block k hk hn)⟩
theorem Know.step {H : Nat → Prop} {w w1 : World} {φ : World → Prop} (h : Know H w φ) (hc : Chg H w w1) : Know H w1 φ := h.grow hc fun _ _ x => x
theorem Know.mono {H H' : Nat → Prop} {w : World} {φ : World → Prop} (h : Know H w φ) (hm : ∀ k, k < w.heap.size → H' k → H k) : Know H' w φ := h.grow (Chg.refl _ _) hm
theorem Know.const {H : Nat → Prop} {w : World} {p : Prop} (h : p) : Know H w (fun _ => p) := fun _ _ => h

/-- Memory of one's own, to which the value in a slot leads: its blocks, and what is said of them alone. -/
structure Res where
  foot : Value → World → List Nat
  holds : Value → World → (Nat → Prop) → Prop
  keep : ∀ v w w', (∀ b ∈ foot v w, w'.heap[b]? = w.heap[b]?) → foot v w' = foot v w
  grow : ∀ v w w' H H', Chg H w w' → (∀ k, k < w.heap.size → H' k → H k) → (∀ b ∈ foot v w, w'.heap[b]? = w.heap[b]?) → holds v w H → holds v w' H'

/-- What stays through a function: the world at its begin, the caller's blocks of its own, the blocks that the function may change, the number of slots. -/
structure Ctx where
  W0 : World
  H0 : Nat → Prop
  HM : Nat → Prop
  n : Nat

/-- Memory of one's own, by keys. -/
abbrev Own := List (Nat × Option Res)
abbrev Mm := Nat → Option Res
def lookM (k : Nat) : Own → Option (Option Res)
  | [] => none
  | (i, r) :: M => match Nat.beq i k with
    | true => some r
    | false => lookM k M
theorem lookM_cons (k i : Nat) (r : Option Res) (M : Own) : lookM k ((i, r) :: M) = if i = k then some r else lookM k M := by
  show (match Nat.beq i k with | true => some r | false => lookM k M) = _
  by_cases h : i = k
  · subst h
    rw [show Nat.beq i i = true from by simp, if_pos rfl]
  · rw [show Nat.beq i k = false from by rw [← Bool.not_eq_true]; exact fun e => h (Nat.eq_of_beq_eq_true e), if_neg h]
def memOf (M : Own) : Mm := fun k => (lookM k M).getD none
def upd (M : Mm) (post : Own) : Mm := fun k => match lookM k post with | some r => r | none => M k
theorem lookM_append (k : Nat) (M' : Own) : ∀ M : Own, lookM k (M ++ M') = (match lookM k M with | some r => some r | none => lookM k M')
  | [] => rfl
  | (i, r) :: M => by
    rw [List.cons_append, lookM_cons, lookM_cons]
    by_cases h : i = k
    · rw [if_pos h, if_pos h]
    · rw [if_neg h, if_neg h, lookM_append k M' M]
theorem memOf_append (post M : Own) : memOf (post ++ M) = upd (memOf M) post := by
  funext k
  simp only [memOf, upd, lookM_append]
  cases lookM k post <;> rfl

/-- A block of one's own. -/
def inFoot (M : Mm) (a : Act) (w : World) (b : Nat) : Prop := ∃ k r, M k = some r ∧ b ∈ r.foot (a.tmps.getD k undef) w
/-- What may change beside what is known. -/
def Ex (X : Ctx) (M : Mm) (a : Act) (w : World) : Nat → Prop := fun k => X.H0 k ∨ inFoot M a w k

structure Mem (X : Ctx) (M : Mm) (a : Act) (w : World) : Prop where
  h0 : ∀ k, X.H0 k → k < X.W0.heap.size
  frame : Chg X.HM X.W0 w
  holds : ∀ k r, M k = some r → r.holds (a.tmps.getD k undef) w (Ex X M a w)
  own : ∀ b, inFoot M a w b → b < w.heap.size ∧ ¬ X.H0 b ∧ (X.HM b ∨ X.W0.heap.size ≤ b)
  apart : ∀ k k' r r', M k = some r → M k' = some r' → k ≠ k' → ∀ b, b ∈ r.foot (a.tmps.getD k undef) w → b ∉ r'.foot (a.tmps.getD k' undef) w

/-- The last word on a slot. -/
def look (t : Nat) : List (Nat × Fact) → Option Fact
  | [] => none
  | (k, φ) :: G => match Nat.beq k t with
    | true => some φ
    | false => look t G

theorem look_cons (t k : Nat) (φ : Fact) (G : List (Nat × Fact)) : look t ((k, φ) :: G) = if k = t then some φ else look t G := by
  show (match Nat.beq k t with | true => some φ | false => look t G) = _
  by_cases h : k = t
  · subst h
    rw [show Nat.beq k k = true from by simp, if_pos rfl]
  · rw [show Nat.beq k t = false from by rw [← Bool.not_eq_true]; exact fun e => h (Nat.eq_of_beq_eq_true e), if_neg h]

def says (G : List (Nat × Fact)) (a : Act) (w : World) : Prop := ∀ t φ, look t G = some φ → sem φ (a.tmps.getD t undef) a w

structure St (X : Ctx) (M : Own) (G : List (Nat × Fact)) (a : Act) (w : World) : Prop where
  defers : a.defers = []
  size : a.tmps.size = X.n
  mem : Mem X (memOf M) a w
  know : Know (Ex X (memOf M) a w) w (says G a)

theorem Ex.lt {X : Ctx} {M : Mm} {a : Act} {w : World} (h : Mem X M a w) (k : Nat) (hk : Ex X M a w k) : k < w.heap.size := by
  rcases hk with hk | hk
  · exact Nat.lt_of_lt_of_le (h.h0 k hk) h.frame.size
  · exact (h.own k hk).1

/-- What a step does: it changes blocks of what it is handed alone; what it owns behind it is new or was its own. -/
structure Stepd (X : Ctx) (M : Mm) (a : Act) (M' : Mm) (a' : Act) (w w' : World) : Prop where
  chg : Chg (inFoot M a w) w w'
  mem : Mem X M' a' w'
  old : ∀ k, k < w.heap.size → inFoot M' a' w' k → inFoot M a w k

theorem Mem.foot {X : Ctx} {M : Mm} {a : Act} {w w' : World} (h : Mem X M a w) (hc : Chg Nobody w w') {k : Nat} {r : Res} (hr : M k = some r) : r.foot (a.tmps.getD k undef) w' = r.foot (a.tmps.getD k undef) w :=
  r.keep _ _ _ fun b hb => hc.block b (h.own b ⟨k, r, hr, hb⟩).1 id
theorem Mem.foots {X : Ctx} {M : Mm} {a : Act} {w w' : World} (h : Mem X M a w) (hc : Chg Nobody w w') (b : Nat) : inFoot M a w' b ↔ inFoot M a w b := by
  constructor
  · rintro ⟨k, r, hr, hb⟩
    exact ⟨k, r, hr, by rw [← h.foot hc hr]; exact hb⟩
  · rintro ⟨k, r, hr, hb⟩
    exact ⟨k, r, hr, by rw [h.foot hc hr]; exact hb⟩
theorem Mem.clean {X : Ctx} {M : Mm} {a : Act} {w w' : World} (h : Mem X M a w) (hc : Chg Nobody w w') : Mem X M a w' where
  h0 := h.h0
  frame := h.frame.trans hc.weak
  holds k r hr := r.grow _ w w' _ _ hc.weak (fun b _ hb => hb.imp id (h.foots hc b).1) (fun b hb => hc.block b (h.own b ⟨k, r, hr, hb⟩).1 id) (h.holds k r hr)
  own b hb := have h1 := h.own b ((h.foots hc b).1 hb); ⟨Nat.lt_of_lt_of_le h1.1 hc.size, h1.2⟩
  apart k k' r r' hr hr' hne b hb := by
    rw [h.foot hc hr] at hb
    rw [h.foot hc hr']
    exact h.apart k k' r r' hr hr' hne b hb
theorem Know.clean {X : Ctx} {M : Mm} {a : Act} {w w' : World} {φ : World → Prop} (h : Know (Ex X M a w) w φ) (hm : Mem X M a w) (hc : Chg Nobody w w') : Know (Ex X M a w') w' φ :=
  h.grow hc.weak fun b _ hb => hb.imp id (hm.foots hc b).1

theorem Know.stepd {X : Ctx} {M M' : Mm} {a a' : Act} {w w' : World} {φ : World → Prop} (h : Know (Ex X M a w) w φ) (hs : Stepd X M a M' a' w w') : Know (Ex X M' a' w') w' φ :=
  h.grow (hs.chg.mono fun _ _ x => Or.inr x) fun k hk hx => hx.imp id (hs.old k hk)

theorem getD_put_same {a : Act} {d : Nat} {v : Value} (h : d < a.tmps.size) : (a.put (some d) v).tmps.getD d undef = v := by
  simp [Act.put, h]
theorem getD_put_ne {a : Act} {d t : Nat} {v : Value} (h : d ≠ t) : (a.put (some d) v).tmps.getD t undef = a.tmps.getD t undef := by
  simp [Act.put, Array.getElem?_setIfInBounds_ne h]
theorem size_put {a : Act} {d : Option Nat} {v : Value} : (a.put d v).tmps.size = a.tmps.size := by cases d <;> simp [Act.put]
theorem defers_put {a : Act} {d : Option Nat} {v : Value} : (a.put d v).defers = a.defers := by cases d <;> rfl

/-- What is known behind a value that goes into a slot. -/
def putG (d : Option Nat) (φ : Fact) (G : List (Nat × Fact)) : List (Nat × Fact) := match d with | some d => (d, φ) :: G | none => G

theorem inFoot_put {M : Mm} {a : Act} {w : World} {d : Option Nat} {v : Value} (hd : ∀ k, d = some k → M k = none) {b : Nat} (hb : inFoot M (a.put d v) w b) : inFoot M a w b := by
  obtain ⟨k, r, hk, hb⟩ := hb
  refine ⟨k, r, hk, ?_⟩
  cases d with
  | none => exact hb
  | some d =>
    rw [getD_put_ne (fun e => by have := hd d rfl; rw [e, hk] at this; cases this)] at hb
    exact hb
/-- A slot is written at which nothing is owned. -/
theorem Mem.put {X : Ctx} {M : Mm} {a : Act} {w : World} {d : Option Nat} {v : Value} (h : Mem X M a w) (hd : ∀ k, d = some k → M k = none) : Mem X M (a.put d v) w := by
  have e : ∀ k r, M k = some r → (a.put d v).tmps.getD k undef = a.tmps.getD k undef := by
    intro k r hk
    cases d with
    | none => rfl
    | some d => exact getD_put_ne (fun e => by rw [hd d rfl |> fun x => (e ▸ x : M k = none)] at hk; cases hk)
  exact ⟨h.h0, h.frame, fun k r hk => by
      rw [e k r hk]
      exact r.grow _ w w _ _ (Chg.refl _ _) (fun b _ hb => hb.imp id fun x => inFoot_put hd x) (fun _ _ => rfl) (h.holds k r hk), fun b hb => h.own b (inFoot_put hd hb),
    fun k k' r r' hk hk' hne b hb => by rw [e k' r' hk']; rw [e k r hk] at hb; exact h.apart k k' r r' hk hk' hne b hb⟩
theorem Stepd.of_clean {X : Ctx} {M : Mm} {a : Act} {d : Option Nat} {v : Value} {w w' : World} (h : Mem X M a w) (hd : ∀ k, d = some k → M k = none) (hc : Chg Nobody w w') : Stepd X M a M (a.put d v) w w' :=
  ⟨hc.weak, (h.clean hc).put hd, fun b _ hx => (h.foots hc b).1 (inFoot_put hd hx)⟩

theorem Mem.new_not {X : Ctx} {M : Mm} {a : Act} {w w' : World} {d : Option Nat} {v : Value} (hm : Mem X M a w) (hd : ∀ k, d = some k → M k = none) (hc : Chg Nobody w w') {b : Nat} (hb : w.heap.size ≤ b) : ¬ Ex X M (a.put d v) w' b := fun hx => by
  rcases hx with hx | hx
  · have h1 := hm.h0 _ hx
    have h2 := hm.frame.size
    omega
  · have h1 := (hm.own _ ((hm.foots hc b).1 (inFoot_put hd hx))).1
    omega

/-- What an operation looks at, as it is known. -/
def seen_ (l0 : List Oper) (o : Oper) (G : List (Nat × Fact)) (a : Act) (w : World) : Prop := ∀ t ∈ o.looksAt l0.toArray, ∀ φ, look t G = some φ → sem φ (a.tmps.getD t undef) a w

/-- AN OPERATION: at any time at which its operands are known, and what it touches is there, its value is as φ says, and what it touches is as 'post' says. -/
def Ob (P : Program) (X : Ctx) (l0 : List Oper) (i : Nat) (o : Oper) (pre : List (Nat × Res)) (G : List (Nat × Fact)) (φ : Fact) (post : Own) : Prop :=
  ∀ (M : Mm) (a : Act) (w : World) (Q : Exit → Act → World → Prop) (K : Act → World → Prop), a.tmps.size = X.n → Mem X M a w → (∀ x ∈ pre, M x.1 = some x.2) → (∀ x ∈ post, M x.1 = none ∨ x.1 ∈ pre.map (·.1)) →
    (∀ d, o.dst = some d → M d = none ∨ d ∈ pre.map (·.1)) → Know (Ex X M a w) w (seen_ l0 o G a) →
    (∀ v w', Stepd X M a (upd M post) (a.put o.dst v) w w' → Know (Ex X (upd M post) (a.put o.dst v) w') w' (sem φ v (a.put o.dst v)) → K (a.put o.dst v) w') → wpOp P l0.toArray Q i K a w

def keysOf {α : Type} (l : List (Nat × α)) : List Nat := l.map (·.1)
/-- What an operation touches, what it writes, of what its word speaks. -/
structure Touch where
  reads : List Nat
  writes : List Nat
  ref : Option Nat

/-- The operations from the i-th on, in the order of the text. -/
inductive Tele (P : Program) (X : Ctx) (l0 : List Oper) : Nat → List Oper → List Touch → Own → List (Nat × Fact) → (Own → List (Nat × Fact) → Prop) → Prop
  | nil {i : Nat} {M : Own} {G : List (Nat × Fact)} {K : Own → List (Nat × Fact) → Prop} : K M G → Tele P X l0 i [] [] M G K
  | op {i : Nat} {o : Oper} {l : List Oper} {bs : List Touch} {M : Own} {G : List (Nat × Fact)} {K : Own → List (Nat × Fact) → Prop} (pre : List (Nat × Res)) (φ : Fact) (post : Own) :
      Ob P X l0 i o pre G φ post → (∀ x ∈ pre, memOf M x.1 = some x.2) → (∀ x ∈ post, memOf M x.1 = none ∨ x.1 ∈ pre.map (·.1)) →
      (∀ d, o.dst = some d → (memOf M d = none ∨ d ∈ pre.map (·.1)) ∧ refd d G = false) →
      Tele P X l0 (i + 1) l bs (post ++ M) (putG o.dst φ G) K → Tele P X l0 i (o :: l) (⟨o.dst.toList ++ keysOf pre, keysOf post, refs φ⟩ :: bs) M G K

theorem sem_put {φ : Fact} {u v : Value} {a : Act} {w : World} {d : Option Nat} (hr : ∀ k, d = some k → refs φ ≠ some k) (h : sem φ u a w) : sem φ u (a.put d v) w := by
  cases d with
  | none => exact h
  | some d =>
    have hr := hr d rfl
    cases φ with
    | plain φ => exact h
    | same k => simp only [sem]; rw [getD_put_ne (fun e => hr (by rw [refs, e]))]; exact h
    | ptr k off => simp only [sem]; rw [getD_put_ne (fun e => hr (by rw [refs, e]))]; exact h
    | sli k off len cap => simp only [sem]; rw [getD_put_ne (fun e => hr (by rw [refs, e]))]; exact h

theorem refd_look {d t : Nat} {φ : Fact} : ∀ {G : List (Nat × Fact)}, refd d G = false → look t G = some φ → refs φ ≠ some d
  | [], _, h => by cases h
  | (k, ψ) :: G, hr, h => by
    have h1 : refs ψ ≠ some d ∧ refd d G = false := by
      unfold refd at hr
      cases hp : refs ψ with
      | none => rw [hp] at hr; exact ⟨by simp, hr⟩
      | some j =>
        rw [hp] at hr
        simp only at hr
        cases hb : Nat.beq j d with
        | true => rw [hb] at hr; cases hr
        | false =>
          rw [hb] at hr
          refine ⟨fun e => ?_, hr⟩
          injection e with e
          subst e
          simp at hb
    rw [look_cons] at h
    by_cases e : k = t
    · rw [if_pos e] at h
      injection h with h
      subst h
      exact h1.1
    · rw [if_neg e] at h
      exact refd_look h1.2 h

theorem says_put {X : Ctx} {d : Option Nat} {φ : Fact} {G : List (Nat × Fact)} {a : Act} {v : Value} {w : World} (hs : a.tmps.size = X.n) (hd : ∀ k, d = some k → k < X.n ∧ refd k G = false)
    (h : says G a w) (hv : sem φ v (a.put d v) w) : says (putG d φ G) (a.put d v) w := by
  cases d with
  | none => exact h
  | some d =>
    intro t ψ ht
    simp only [putG, look_cons] at ht
    by_cases e : d = t
    · subst e
      rw [if_pos rfl] at ht
      injection ht with ht
      subst ht
      rw [getD_put_same (by rw [hs]; exact (hd d rfl).1)]
      exact hv
    · rw [if_neg e] at ht
      rw [getD_put_ne e]
      exact sem_put (fun k hk => by injection hk with hk; subst hk; exact refd_look (hd d rfl).2 ht) (h t ψ ht)

theorem St.put {X : Ctx} {M M' : Own} {G : List (Nat × Fact)} {a : Act} {w w' : World} {d : Option Nat} {φ : Fact} {v : Value} (h : St X M G a w) (hd : ∀ k, d = some k → k < X.n ∧ refd k G = false)
    (hs : Stepd X (memOf M) a (memOf M') (a.put d v) w w') (hv : Know (Ex X (memOf M') (a.put d v) w') w' (sem φ v (a.put d v))) : St X M' (putG d φ G) (a.put d v) w' where
  defers := by rw [defers_put]; exact h.defers
  size := by rw [size_put]; exact h.size
  mem := hs.mem
  know := ((h.know.stepd hs).and hv).imp fun _ x => says_put h.size hd x.1 x.2

/-- The slots that operations write are slots of the frame. -/
def fits (n : Nat) (l : List Oper) : Bool := l.all fun o => match o.dst with | some d => Nat.blt d n | none => true

/-- A REGION WHOSE ORDER IS THE TEXT's. -/
theorem tele_seq {P : Program} {X : Ctx} {l0 : List Oper} {Q : Exit → Act → World → Prop} {i : Nat} {l : List Oper} {bs : List Touch} {M : Own} {G : List (Nat × Fact)} {K : Own → List (Nat × Fact) → Prop}
    (h : Tele P X l0 i l bs M G K) (hf : fits X.n l = true) (hK : ∀ M G, K M G → ∀ a w, St X M G a w → Q .normal a w) : ∀ a w, St X M G a w → wpOps P l0.toArray Q (List.range' i l.length) a w := by
  induction h with
  | nil hk => intro a w hs; exact hK _ _ hk a w hs
  | @op i o l bs M G K pre φ post ho hp1 hp2 hp3 _ ih =>
    intro a w hs
    simp only [fits, List.all_cons, Bool.and_eq_true] at hf
    rw [List.length_cons, List.range'_succ, wpOps_cons]
    refine ho (memOf M) a w Q _ hs.size hs.mem hp1 hp2 (fun d hd => (hp3 d hd).1) (hs.know.imp fun w' hw t _ φ hφ => hw t φ hφ) fun v w' hc hv => ?_
    rw [← memOf_append] at hc hv
    refine ih hf.2 hK _ _ (hs.put (fun k hk => ⟨?_, (hp3 k hk).2⟩) hc hv)
    have := hf.1
    rw [hk] at this
    simpa using this

/-! ### A region whose order is drawn -/

/-- The operations that must have come ahead of each one: those that it names, and theirs. -/
def binding (o : Oper) : List Nat := (o.after.toList.filter (Region.binds .any)).map (·.on)

theorem tele_laid {P : Program} {X : Ctx} {l0 : List Oper} {i : Nat} {l : List Oper} {bs : List Touch} {M : Own} {G : List (Nat × Fact)} {K : Own → List (Nat × Fact) → Prop}
    (h : Tele P X l0 i l bs M G K) : ∃ (φ : Nat → Fact) (pre : Nat → List (Nat × Res)) (post : Nat → Own) (R : Nat → Own) (GG : Nat → List (Nat × Fact)),
      GG i = G ∧ R i = M ∧ (∀ j o, l[j]? = some o → GG (i + j + 1) = putG o.dst (φ (i + j)) (GG (i + j))) ∧ (∀ j, j < l.length → R (i + j + 1) = post (i + j) ++ R (i + j)) ∧
      (∀ j o, l[j]? = some o → Ob P X l0 (i + j) o (pre (i + j)) (GG (i + j)) (φ (i + j)) (post (i + j))) ∧
      (∀ j o, l[j]? = some o → (∀ x ∈ pre (i + j), memOf (R (i + j)) x.1 = some x.2) ∧ (∀ x ∈ post (i + j), memOf (R (i + j)) x.1 = none ∨ x.1 ∈ (pre (i + j)).map (·.1)) ∧
        (∀ d, o.dst = some d → memOf (R (i + j)) d = none ∨ d ∈ (pre (i + j)).map (·.1))) ∧
      (∀ (j : Nat) (o : Oper), l[j]? = some o → bs[j]? = some (Touch.mk (o.dst.toList ++ keysOf (pre (i + j))) (keysOf (post (i + j))) (refs (φ (i + j))))) ∧ K (R (i + l.length)) (GG (i + l.length)) := by
  induction h with
  | @nil i M G K hk => exact ⟨fun _ => EqV undef, fun _ => [], fun _ => [], fun _ => M, fun _ => G, rfl, rfl, by simp, by simp, by simp, by simp, by simp, hk⟩
  | @op i o l bs M G K pre φ post ho hp1 hp2 hp3 _ ih =>
    obtain ⟨f, pr, po, R, GG, h1, h2, h3, h4, h5, h6, h7, h8⟩ := ih
    refine ⟨fun j => if j = i then φ else f j, fun j => if j = i then pre else pr j, fun j => if j = i then post else po j, fun j => if j = i then M else R j, fun j => if j = i then G else GG j, by simp, by simp, ?_, ?_, ?_, ?_, ?_, ?_⟩
    · intro j o' hj
      cases j with
      | zero =>
        simp only [List.getElem?_cons_zero, Option.some.injEq] at hj
        subst hj
        simp [h1]
      | succ j =>
        have := h3 j o' (by simpa using hj)
        simp only
        rw [if_neg (by omega), if_neg (by omega), if_neg (by omega), show i + (j + 1) + 1 = i + 1 + j + 1 by omega, show i + (j + 1) = i + 1 + j by omega]
        exact this
    · intro j hj
      cases j with
      | zero => simp [h2]
      | succ j =>
        have := h4 j (by simpa using hj)
        simp only
        rw [if_neg (by omega), if_neg (by omega), if_neg (by omega), show i + (j + 1) + 1 = i + 1 + j + 1 by omega, show i + (j + 1) = i + 1 + j by omega]
        exact this
    · intro j o' hj
      cases j with
      | zero =>
        simp only [List.getElem?_cons_zero, Option.some.injEq] at hj
        subst hj
        simpa using ho
      | succ j =>
        have := h5 j o' (by simpa using hj)
        simp only
        rw [if_neg (by omega), if_neg (by omega), if_neg (by omega), if_neg (by omega), show i + (j + 1) = i + 1 + j by omega]
        exact this
    · intro j o' hj
      cases j with
      | zero =>
        simp only [List.getElem?_cons_zero, Option.some.injEq] at hj
        subst hj
        simp only [Nat.add_zero, if_true]
        exact ⟨hp1, hp2, fun d hd => (hp3 d hd).1⟩
      | succ j =>
        have := h6 j o' (by simpa using hj)
        simp only
        rw [if_neg (by omega), if_neg (by omega), if_neg (by omega), show i + (j + 1) = i + 1 + j by omega]
        exact this
    · intro j o' hj
      cases j with
      | zero =>
        simp only [List.getElem?_cons_zero, Option.some.injEq] at hj
        subst hj
        simp
      | succ j =>
        have := h7 j o' (by simpa using hj)
        simp only
        rw [if_neg (by omega), if_neg (by omega), if_neg (by omega), show i + (j + 1) = i + 1 + j by omega, List.getElem?_cons_succ]
        exact this
    · simp only [List.length_cons]
      rw [if_neg (by omega), if_neg (by omega), show i + (l.length + 1) = i + 1 + l.length by omega]
      exact h8

def dstOf (l : List Oper) (i : Nat) : Option Nat := (l[i]?).bind (·.dst)
def looks (l : List Oper) (j : Nat) : List Nat := match l[j]? with | some o => o.looksAt l.toArray | none => []
def bindOf (l : List Oper) (j : Nat) : List Nat := match l[j]? with | some o => binding o | none => []

/-- i must have come ahead of j. -/
inductive Bef (l : List Oper) : Nat → Nat → Prop
  | edge {i j : Nat} : i ∈ bindOf l j → Bef l i j
  | step {i k j : Nat} : k ∈ bindOf l j → Bef l i k → Bef l i j

def maskOf (acc : List Nat) (ks : List Nat) : Nat := ks.foldl (fun s k => s ||| (1 <<< k) ||| acc.getD k 0) 0
def masksFrom : List Oper → List Nat → List Nat
  | [], acc => acc
  | o :: l, acc => masksFrom l (acc ++ [maskOf acc (binding o)])

theorem maskOf_bit (acc : List Nat) (i : Nat) : ∀ (ks : List Nat) (s : Nat), (ks.foldl (fun s k => s ||| (1 <<< k) ||| acc.getD k 0) s).testBit i = true →
    s.testBit i = true ∨ ∃ k ∈ ks, i = k ∨ (acc.getD k 0).testBit i = true
  | [], s, h => Or.inl h
  | k :: ks, s, h => by
    rw [List.foldl_cons] at h
    rcases maskOf_bit acc i ks _ h with h | ⟨k', hk, h⟩
    · rw [Nat.testBit_or, Nat.testBit_or, Bool.or_eq_true, Bool.or_eq_true] at h
      rcases h with (h | h) | h
      · exact Or.inl h
      · refine Or.inr ⟨k, by simp, Or.inl ?_⟩
        rw [Nat.testBit_shiftLeft] at h
        simp only [ge_iff_le, Bool.and_eq_true, decide_eq_true_eq] at h
        have h2 := h.2
        rw [Nat.testBit_one_eq_true_iff_self_eq_zero] at h2
        omega
      · exact Or.inr ⟨k, by simp, Or.inr h⟩
    · exact Or.inr ⟨k', by simp [hk], h⟩

theorem masksFrom_spec (l : List Oper) : ∀ (r : List Oper) (acc : List Nat), (∃ d, l = d ++ r ∧ d.length = acc.length) → (∀ j i, (acc.getD j 0).testBit i = true → Bef l i j) →
    ∀ j i, ((masksFrom r acc).getD j 0).testBit i = true → Bef l i j
  | [], acc, _, h => h
  | o :: r, acc, ⟨d, hd, hl⟩, h => by
    refine masksFrom_spec l r _ ⟨d ++ [o], by simp [hd], by simp [hl]⟩ fun j i hj => ?_
    by_cases hlt : j < acc.length
    · refine h j i ?_
      rw [List.getD_eq_getElem?_getD, List.getElem?_append_left hlt] at hj
      rw [List.getD_eq_getElem?_getD]
      exact hj
    · by_cases he : j = acc.length
      · subst he
        rw [List.getD_eq_getElem?_getD, List.getElem?_append_right (Nat.le_refl _)] at hj
        simp only [Nat.sub_self, List.getElem?_cons_zero, Option.getD_some] at hj
        have ho : bindOf l acc.length = binding o := by
          unfold bindOf
          rw [hd, ← hl, List.getElem?_append_right (Nat.le_refl _)]
          simp
        rcases maskOf_bit acc i (binding o) 0 hj with hz | ⟨k, hk, hz⟩
        · simp at hz
        · rcases hz with rfl | hz
          · exact .edge (by rw [ho]; exact hk)
          · exact .step (by rw [ho]; exact hk) (h k i hz)
      · rw [List.getD_eq_getElem?_getD, List.getElem?_eq_none (by simp; omega)] at hj
        simp at hj

/-- The check of a region whose order is drawn: the text's order of whatever hangs together is every order's. -/
def meet (x y : List Nat) : Bool := x.any fun k => y.contains k
def noTouch : Touch := ⟨[], [], none⟩
def okPair (l : List Oper) (bs : List Touch) (m : List Nat) (i j : Nat) : Bool :=
  (match dstOf l i with
   | some t => (Nat.beq i j || !(dstOf l j == some t)) && (!((looks l j).contains t) || (bif Nat.blt i j then (m.getD j 0).testBit i else bif Nat.blt j i then (m.getD i 0).testBit j else false)) &&
      (!((bs.getD j noTouch).ref == some t) || Nat.beq i j || (m.getD j 0).testBit i)
   | none => true) &&
  (!(Nat.blt i j && (meet (bs.getD i noTouch).writes ((bs.getD j noTouch).reads ++ (bs.getD j noTouch).writes) || meet (bs.getD i noTouch).reads (bs.getD j noTouch).writes)) || (m.getD j 0).testBit i)
def okAny (l : List Oper) (bs : List Touch) (G : List (Nat × Fact)) : Bool :=
  (l.all fun o => match o.dst with | some d => !(refd d G) | none => true) &&
  (List.range l.length).all fun j => (bindOf l j).all (fun k => Nat.blt k j) && (List.range l.length).all fun i => okPair l bs (masksFrom l []) i j

theorem Bef.listed {l : List Oper} {L : Nat → Prop} (hc : ∀ j, L j → ∀ k ∈ bindOf l j, L k) {i j : Nat} (h : Bef l i j) : L j → L i := by
  induction h with
  | edge he => exact fun hj => hc _ hj _ he
  | step he _ ih => exact fun hj => ih (hc _ hj _ he)
theorem Bef.ready {l : List Oper} {L : Nat → Prop} (hc : ∀ j, L j → ∀ k ∈ bindOf l j, L k) {i j : Nat} (h : Bef l i j) (hr : ∀ k ∈ bindOf l j, L k) : L i := by
  cases h with
  | edge he => exact hr _ he
  | step he hb => exact hb.listed hc (hr _ he)

theorem okAny_spec {l : List Oper} {bs : List Touch} {G : List (Nat × Fact)} (h : okAny l bs G = true) :
    (∀ j, j < l.length → ∀ k ∈ bindOf l j, k < j) ∧
    (∀ i j, i < l.length → j < l.length → ∀ t, dstOf l i = some t → (i = j ∨ dstOf l j ≠ some t) ∧ (t ∈ looks l j → (i < j → Bef l i j) ∧ (j < i → Bef l j i) ∧ i ≠ j) ∧ ((bs.getD j noTouch).ref = some t → i = j ∨ Bef l i j)) ∧
    (∀ i j, i < j → j < l.length → ∀ k, (k ∈ (bs.getD i noTouch).writes ∧ (k ∈ (bs.getD j noTouch).reads ∨ k ∈ (bs.getD j noTouch).writes) ∨ k ∈ (bs.getD i noTouch).reads ∧ k ∈ (bs.getD j noTouch).writes) → Bef l i j) ∧
    (∀ i d, dstOf l i = some d → refd d G = false) := by
  have hm : ∀ j i, ((masksFrom l []).getD j 0).testBit i = true → Bef l i j := masksFrom_spec l l [] ⟨[], rfl, rfl⟩ (by simp)
  simp only [okAny, Bool.and_eq_true] at h
  obtain ⟨hG, h⟩ := h
  simp only [List.all_eq_true, List.mem_range, Bool.and_eq_true] at h
  refine ⟨fun j hj k hk => by simpa using (h j hj).1 k hk, fun i j hi hj t ht => ?_, fun i j hij hj k hk => ?_, fun i d hd => ?_⟩
  · have hp := (h j hj).2 i hi
    simp only [okPair, ht, Bool.and_eq_true, Bool.or_eq_true, Bool.not_eq_true'] at hp
    refine ⟨?_, fun hl => ?_, fun hr => ?_⟩
    · rcases hp.1.1.1 with hp | hp
      · exact Or.inl (Nat.eq_of_beq_eq_true hp)
      · exact Or.inr (by simpa using hp)
    · have hp2 := hp.1.1.2.resolve_left (by simp [hl])
      by_cases hlt : i < j
      · rw [show Nat.blt i j = true by simpa using hlt] at hp2
        exact ⟨fun _ => hm j i hp2, fun hx => absurd hx (by omega), by omega⟩
      · rw [show Nat.blt i j = false by rw [← Bool.not_eq_true]; simpa using hlt] at hp2
        by_cases hgt : j < i
        · rw [show Nat.blt j i = true by simpa using hgt] at hp2
          exact ⟨fun hx => absurd hx (by omega), fun _ => hm i j hp2, by omega⟩
        · rw [show Nat.blt j i = false by rw [← Bool.not_eq_true]; simpa using hgt] at hp2
          simp at hp2
    · rcases hp.1.2 with (hp3 | hp3) | hp3
      · rw [hr] at hp3
        simp at hp3
      · exact Or.inl (Nat.eq_of_beq_eq_true hp3)
      · exact Or.inr (hm j i hp3)
  · have hp := (h j hj).2 i (by omega)
    simp only [okPair, Bool.and_eq_true, Bool.or_eq_true, Bool.not_eq_true'] at hp
    have hp2 := hp.2.resolve_left (by
      rw [show Nat.blt i j = true by simpa using hij, Bool.true_and, Bool.not_eq_false, Bool.or_eq_true]
      simp only [meet, List.any_eq_true, List.contains_iff_mem, List.mem_append]
      rcases hk with ⟨x, y⟩ | ⟨x, y⟩
      · exact Or.inl ⟨k, x, y⟩
      · exact Or.inr ⟨k, x, y⟩)
    exact hm j i hp2
  · unfold dstOf at hd
    cases ho : l[i]? with
    | none => simp [ho] at hd
    | some o =>
      simp only [ho, Option.bind_some] at hd
      have := List.all_eq_true.1 hG o (List.mem_of_getElem? ho)
      rw [hd] at this
      simpa using this

theorem look_putG {t : Nat} {d : Option Nat} {φ ψ : Fact} {G : List (Nat × Fact)} (h : look t (putG d φ G) = some ψ) : (d = some t ∧ ψ = φ) ∨ (d ≠ some t ∧ look t G = some ψ) := by
  cases d with
  | none => exact Or.inr ⟨by simp, h⟩
  | some d =>
    simp only [putG, look_cons] at h
    by_cases e : d = t
    · rw [if_pos e] at h
      injection h with h
      exact Or.inl ⟨by rw [e], h.symm⟩
    · rw [if_neg e] at h
      exact Or.inr ⟨by simpa using e, h⟩

theorem look_upto {l : List Oper} {G0 : List (Nat × Fact)} {φ : Nat → Fact} {G : Nat → List (Nat × Fact)} (h0 : G 0 = G0) (hn : ∀ i o, l[i]? = some o → G (i + 1) = putG o.dst (φ i) (G i)) (t : Nat) (ψ : Fact) :
    ∀ j, j ≤ l.length → look t (G j) = some ψ → (∃ i, i < j ∧ dstOf l i = some t ∧ ψ = φ i) ∨ (look t G0 = some ψ ∧ ∀ i, i < j → dstOf l i ≠ some t)
  | 0, _, h => Or.inr ⟨by rw [← h0]; exact h, fun i hi => by omega⟩
  | j + 1, hj, h => by
    obtain ⟨o, ho⟩ : ∃ o, l[j]? = some o := ⟨l[j]'(by omega), List.getElem?_eq_getElem (by omega)⟩
    rw [hn j o ho] at h
    have hd : dstOf l j = o.dst := by simp [dstOf, ho]
    rcases look_putG h with ⟨h1, h2⟩ | ⟨h1, h2⟩
    · exact Or.inl ⟨j, by omega, by rw [hd]; exact h1, h2⟩
    · rcases look_upto h0 hn t ψ j (by omega) h2 with ⟨i, hi, h3, h4⟩ | ⟨h3, h4⟩
      · exact Or.inl ⟨i, by omega, h3, h4⟩
      · refine Or.inr ⟨h3, fun i hi => ?_⟩
        by_cases e : i = j
        · subst e; rw [hd]; exact h1
        · exact h4 i (by omega)

theorem lookM_mem {k : Nat} {r : Option Res} : ∀ {M : Own}, lookM k M = some r → (k, r) ∈ M
  | [], h => by cases h
  | (i, r') :: M, h => by
    rw [lookM_cons] at h
    by_cases e : i = k
    · rw [if_pos e] at h
      injection h with h
      subst h; subst e
      simp
    · rw [if_neg e] at h
      exact List.mem_cons_of_mem _ (lookM_mem h)

/-- A REGION WHOSE ORDER IS DRAWN: what the text's order gives, every order gives. -/
theorem tele_any {P : Program} {X : Ctx} {l : List Oper} {bs : List Touch} {M : Own} {G : List (Nat × Fact)} {K : Own → List (Nat × Fact) → Prop} {Q : Exit → Act → World → Prop}
    (h : Tele P X l 0 l bs M G K) (hf : fits X.n l = true) (hok : okAny l bs G = true) (hK : ∀ M G, K M G → ∀ a w, St X M G a w → Q .normal a w) {a : Act} {w : World} (hs : St X M G a w) :
    wpAny P .any l.toArray Q l.length (Array.replicate l.length false) a w := by
  obtain ⟨φ, pre, post, R, GG, h1, h2, h3, h4, h5, h6, h7, h8⟩ := tele_laid h
  simp only [Nat.zero_add] at h3 h4 h5 h6 h7 h8
  obtain ⟨c0, c1, c3, c4⟩ := okAny_spec hok
  let L (listed : Array Bool) (i : Nat) : Prop := listed.getD i false = true
  let Wr (i k : Nat) : Prop := k ∈ keysOf (post i)
  let Rd (i k : Nat) : Prop := dstOf l i = some k ∨ k ∈ keysOf (pre i)
  have hbs : ∀ i, i < l.length → bs.getD i noTouch = ⟨(dstOf l i).toList ++ keysOf (pre i), keysOf (post i), refs (φ i)⟩ := by
    intro i hi
    have ho : l[i]? = some (l[i]'hi) := List.getElem?_eq_getElem hi
    rw [List.getD_eq_getElem?_getD, h7 i _ ho]
    simp [dstOf, ho]
  have hc3 : ∀ i j, i < j → j < l.length → ∀ k, (Wr i k ∧ (Rd j k ∨ Wr j k) ∨ Rd i k ∧ Wr j k) → Bef l i j := by
    intro i j hij hj k hk
    refine c3 i j hij hj k ?_
    rw [hbs i (by omega), hbs j hj]
    simp only [List.mem_append, Option.mem_toList]
    exact hk
  have hfd : ∀ i d, dstOf l i = some d → d < X.n := by
    intro i d hd
    unfold dstOf at hd
    cases ho : l[i]? with
    | none => simp [ho] at hd
    | some o =>
      simp only [ho, Option.bind_some] at hd
      have := List.all_eq_true.1 hf o (List.mem_of_getElem? ho)
      rw [hd] at this
      simpa using this
  -- memory at a key does not turn where nobody writes it
  have hMt : ∀ (k p d : Nat), p + d ≤ l.length → (∀ i, p ≤ i → i < p + d → ¬ Wr i k) → memOf (R (p + d)) k = memOf (R p) k := by
    intro k p d
    induction d with
    | zero => intro _ _; rfl
    | succ d ih =>
      intro hd hno
      rw [show p + (d + 1) = p + d + 1 by omega, h4 (p + d) (by omega), memOf_append]
      have hnw := hno (p + d) (by omega) (by omega)
      have : lookM k (post (p + d)) = none := by
        cases hl : lookM k (post (p + d)) with
        | none => rfl
        | some r => exact absurd (List.mem_map.2 ⟨_, lookM_mem hl, rfl⟩) hnw
      simp only [upd, this]
      exact ih (by omega) fun i hi hi2 => hno i hi (by omega)
  let Inv (listed : Array Bool) (a : Act) (w : World) : Prop := ∃ cur : Mm,
    (∀ k p, p ≤ l.length → (∀ i, i < p → Wr i k → L listed i) → (∀ i, p ≤ i → i < l.length → Wr i k → ¬ L listed i) → cur k = memOf (R p) k) ∧ Mem X cur a w ∧
    Know (Ex X cur a w) w (fun w' => (∀ i d, i < l.length → L listed i → dstOf l i = some d → sem (φ i) (a.tmps.getD d undef) a w') ∧
      (∀ t ψ, look t G = some ψ → (∀ i, i < l.length → L listed i → dstOf l i ≠ some t) → sem ψ (a.tmps.getD t undef) a w'))
  have fin : ∀ (listed : Array Bool) (a : Act) (w : World), a.defers = [] → a.tmps.size = X.n → Inv listed a w → (∀ j, j < l.length → L listed j) → Q .normal a w := by
    intro listed a w hd hn ⟨cur, hcur, hmem, hk⟩ hall
    have hce : cur = memOf (R l.length) := by
      funext k
      exact hcur k l.length (Nat.le_refl _) (fun i hi _ => hall i hi) (fun i hi hi2 => by omega)
    subst hce
    refine hK _ _ h8 a w ⟨hd, hn, hmem, ?_⟩
    refine hk.imp fun w' hw t ψ ht => ?_
    rcases look_upto h1 h3 t ψ l.length (Nat.le_refl _) ht with ⟨i, hi, hdst, rfl⟩ | ⟨hg, hno⟩
    · exact hw.1 i t hi (hall i hi) hdst
    · exact hw.2 t ψ hg fun i hi _ => hno i hi
  have unl : ∀ (listed : Array Bool), listed.size = l.length → Region.ready .any l.toArray listed = [] → ∀ j, j < l.length → L listed j := by
    intro listed hsz hr j
    induction j using Nat.strongRecOn with
    | _ j ih =>
      intro hj
      by_cases hl : L listed j
      · exact hl
      · exfalso
        have hmem : j ∈ Region.ready .any l.toArray listed := by
          rw [mem_ready]
          obtain ⟨o, ho⟩ : ∃ o, l[j]? = some o := ⟨l[j]'hj, List.getElem?_eq_getElem hj⟩
          refine ⟨?_, o, by simpa using ho, fun e he hb => ?_⟩
          · have : listed.getD j false = false := by simpa [L] using hl
            rw [Array.getD_eq_getD_getElem?] at this ⊢
            rw [Array.getElem?_eq_getElem (by omega)] at this ⊢
            simpa using this
          · have hk : e.on ∈ bindOf l j := by
              simp only [bindOf, ho, binding, List.mem_map, List.mem_filter]
              exact ⟨e, ⟨by simpa using he, hb⟩, rfl⟩
            have hlt := c0 j hj _ hk
            exact ih e.on hlt (by omega)
        rw [hr] at hmem
        cases hmem
  have key : ∀ (fuel : Nat) (listed : Array Bool) (a : Act) (w : World), listed.size = l.length → (∀ j, L listed j → ∀ k ∈ bindOf l j, L listed k) → a.defers = [] → a.tmps.size = X.n →
      Inv listed a w → l.length ≤ fuel + (listed.toList.countP (· == true)) → wpAny P .any l.toArray Q fuel listed a w := by
    intro fuel
    induction fuel with
    | zero =>
      intro listed a w hsz hcl hd hn hI hcount
      have hall : ∀ j, j < l.length → L listed j := by
        intro j hj
        have hc : listed.toList.countP (· == true) = listed.toList.length := by
          have := List.countP_le_length (p := (· == true)) (l := listed.toList)
          simp only [Array.length_toList] at this ⊢
          omega
        rw [List.countP_eq_length] at hc
        have hm : listed[j]'(by omega) ∈ listed.toList := by simp
        have := hc _ hm
        simp only [beq_iff_eq] at this
        show listed.getD j false = true
        rw [Array.getD_eq_getD_getElem?, Array.getElem?_eq_getElem (by omega)]
        simpa using this
      refine ⟨?_, fin listed a w hd hn hI hall⟩
      apply List.eq_nil_iff_forall_not_mem.2
      intro j hj
      obtain ⟨hj0, o, ho, _⟩ := mem_ready.1 hj
      have hjl : j < l.length := (List.getElem?_eq_some_iff.1 (by simpa using ho)).1
      have := hall j hjl
      simp only [L] at this
      rw [Array.getD_eq_getD_getElem?, Array.getElem?_eq_getElem (by omega)] at this hj0
      simp at this hj0
      rw [this] at hj0
      cases hj0
    | succ fuel ih =>
      intro listed a w hsz hcl hd hn hI hcount
      refine ⟨fun hr => fin listed a w hd hn hI (unl listed hsz hr), fun j hj => ?_⟩
      obtain ⟨hj0, o, ho, hrd⟩ := mem_ready.1 hj
      have ho' : l[j]? = some o := by simpa using ho
      have hjl : j < l.length := (List.getElem?_eq_some_iff.1 ho').1
      have hnl : ¬ L listed j := by
        simp only [L]
        rw [Array.getD_eq_getD_getElem?, Array.getElem?_eq_getElem (by omega)] at hj0 ⊢
        simp at hj0 ⊢
        exact hj0
      have hdeps : ∀ k ∈ bindOf l j, L listed k := by
        intro k hk
        simp only [bindOf, ho', binding, List.mem_map, List.mem_filter] at hk
        obtain ⟨e, ⟨he, hb⟩, rfl⟩ := hk
        exact hrd e (by simpa using he) hb
      have hdj : dstOf l j = o.dst := by simp [dstOf, ho']
      obtain ⟨cur, hcur, hmem, hk⟩ := hI
      -- what the operation looks at is known
      have hseen : Know (Ex X cur a w) w (seen_ l o (GG j) a) := by
        refine hk.imp fun w' hw t ht ψ hψ => ?_
        have hlk : t ∈ looks l j := by simp only [looks, ho']; exact ht
        rcases look_upto h1 h3 t ψ j (by omega) hψ with ⟨i, hi, hdst, rfl⟩ | ⟨hg, hno⟩
        · have hb := ((c1 i j (by omega) hjl t hdst).2.1 hlk).1 hi
          exact hw.1 i t (by omega) (hb.ready hcl hdeps) hdst
        · refine hw.2 t ψ hg fun i hil hLi hdst => ?_
          have hc := (c1 i j hil hjl t hdst).2.1 hlk
          by_cases hlt : i < j
          · exact hno i hlt hdst
          · exact hnl ((hc.2.1 (by omega)).listed hcl hLi)
      -- what it touches is as it is in the text's order
      have htouch : ∀ k, (Rd j k ∨ Wr j k) → cur k = memOf (R j) k := by
        intro k hkj
        refine hcur k j (by omega) (fun i hi hw => (hc3 i j hi hjl k (Or.inl ⟨hw, hkj⟩)).ready hcl hdeps) fun i hi hil hw hLi => ?_
        by_cases e : i = j
        · exact hnl (e ▸ hLi)
        · refine hnl ((hc3 j i (by omega) hil k ?_).listed hcl hLi)
          rcases hkj with x | x
          · exact Or.inr ⟨x, hw⟩
          · exact Or.inl ⟨x, Or.inr hw⟩
      have hLset : ∀ i, L (listed.setIfInBounds j true) i ↔ (i = j ∨ L listed i) := by
        intro i
        simp only [L]
        by_cases e : j = i
        · subst e
          constructor
          · intro _; exact Or.inl rfl
          · intro _
            rw [Array.getD_eq_getD_getElem?, Array.getElem?_setIfInBounds_self_of_lt (by omega)]
            rfl
        · rw [getD_set_ne false e]
          constructor
          · exact Or.inr
          · rintro (x | x)
            · exact absurd x.symm e
            · exact x
      have hcl' : ∀ i, L (listed.setIfInBounds j true) i → ∀ k ∈ bindOf l i, L (listed.setIfInBounds j true) k := by
        intro i hi k hk
        rcases (hLset i).1 hi with rfl | hi
        · exact (hLset k).2 (Or.inr (hdeps k hk))
        · exact (hLset k).2 (Or.inr (hcl i hi k hk))
      have hcount' : l.length ≤ fuel + ((listed.setIfInBounds j true).toList.countP (· == true)) := by
        have hcs : (listed.setIfInBounds j true).toList.countP (· == true) = listed.toList.countP (· == true) + 1 := by
          rw [Array.toList_setIfInBounds, List.countP_set (by simp; omega)]
          have : listed.toList[j]'(by simp; omega) = false := by
            have h0 := hnl
            simp only [L] at h0
            rw [Array.getD_eq_getD_getElem?, Array.getElem?_eq_getElem (by omega)] at h0
            simpa using h0
          rw [this]
          simp
        omega
      refine h5 j o ho' cur a w Q _ hn hmem (fun x hx => ?_) (fun x hx => ?_) (fun d hd' => ?_) hseen fun v w' hc hv => ?_
      · rw [htouch x.1 (Or.inl (Or.inr (List.mem_map.2 ⟨x, hx, rfl⟩)))]
        exact (h6 j o ho').1 x hx
      · rw [htouch x.1 (Or.inr (List.mem_map.2 ⟨x, hx, rfl⟩))]
        exact (h6 j o ho').2.1 x hx
      · rw [htouch d (Or.inl (Or.inl (by rw [hdj]; exact hd')))]
        exact (h6 j o ho').2.2 d hd'
      refine ih _ _ _ (by simpa using hsz) hcl' (by rw [defers_put]; exact hd) (by rw [size_put]; exact hn) ⟨upd cur (post j), fun k p hp hp1 hp2 => ?_, hc.mem, ?_⟩ hcount'
      · cases hl : lookM k (post j) with
        | some r =>
          have hwj : Wr j k := List.mem_map.2 ⟨_, lookM_mem hl, rfl⟩
          have hjp : j < p := by
            rcases Nat.lt_or_ge j p with x | x
            · exact x
            · exact absurd ((hLset j).2 (Or.inl rfl)) (hp2 j x hjl hwj)
          have hno : ∀ i, j + 1 ≤ i → i < p → ¬ Wr i k := by
            intro i hi hip hw
            rcases (hLset i).1 (hp1 i hip hw) with x | x
            · omega
            · exact hnl ((hc3 j i (by omega) (by omega) k (Or.inl ⟨hwj, Or.inr hw⟩)).listed hcl x)
          have := hMt k (j + 1) (p - (j + 1)) (by omega) (fun i hi hi2 => hno i hi (by omega))
          rw [show j + 1 + (p - (j + 1)) = p by omega] at this
          rw [this, h4 j hjl, memOf_append]
          simp [upd, hl]
        | none =>
          have hnw : ¬ Wr j k := by
            intro hw
            obtain ⟨x, hx, hxk⟩ := List.mem_map.1 hw
            have hex : ∀ (M' : Own), x ∈ M' → lookM k M' ≠ none := by
              intro M'
              induction M' with
              | nil => intro hx; cases hx
              | cons y M' ihM =>
                intro hx
                obtain ⟨yk, yr⟩ := y
                rw [lookM_cons]
                by_cases e : yk = k
                · rw [if_pos e]; simp
                · rw [if_neg e]
                  rcases List.mem_cons.1 hx with rfl | hx
                  · exact absurd hxk e
                  · exact ihM hx
            exact hex _ hx hl
          have : upd cur (post j) k = cur k := by simp [upd, hl]
          rw [this]
          refine hcur k p hp (fun i hi hw => ?_) (fun i hi hil hw hLi => hp2 i hi hil hw ((hLset i).2 (Or.inr hLi)))
          rcases (hLset i).1 (hp1 i hi hw) with rfl | x
          · exact absurd hw hnw
          · exact x
      · refine ((hk.stepd hc).and hv).imp fun w'' ⟨⟨ha, hb⟩, hcv⟩ => ⟨fun i d hil hLi hdst => ?_, fun t ψ ht hno => ?_⟩
        · rcases (hLset i).1 hLi with rfl | hLi'
          · rw [hdj] at hdst
            rw [hdst] at hcv
            rw [hdst, getD_put_same (by rw [hn]; exact hfd i d (by rw [hdj]; exact hdst))]
            exact hcv
          · have hij : i ≠ j := fun e => hnl (e ▸ hLi')
            have hne := ((c1 i j hil hjl d hdst).1).resolve_left hij
            rw [hdj] at hne
            have : (a.put o.dst v).tmps.getD d undef = a.tmps.getD d undef := by
              cases hod : o.dst with
              | none => rfl
              | some d' => exact getD_put_ne (fun e => hne (by rw [hod, e]))
            rw [this]
            refine sem_put (fun k hk hr => ?_) (ha i d hil hLi' hdst)
            rcases (c1 j i hjl hil k (by rw [hdj]; exact hk)).2.2 (by rw [hbs i hil]; exact hr) with e | e
            · exact hij e.symm
            · exact hnl (e.listed hcl hLi')
        · have hne : o.dst ≠ some t := by rw [← hdj]; exact hno j hjl ((hLset j).2 (Or.inl rfl))
          have : (a.put o.dst v).tmps.getD t undef = a.tmps.getD t undef := by
            cases hod : o.dst with
            | none => rfl
            | some d' => exact getD_put_ne (fun e => hne (by rw [hod, e]))
          rw [this]
          exact sem_put (fun k hk => refd_look (c4 j k (by rw [hdj]; exact hk)) ht) (hb t ψ ht fun i hil hLi => hno i hil ((hLset i).2 (Or.inr hLi)))
  refine key l.length _ a w (by simp) (fun j hj => ?_) hs.defers hs.size ⟨memOf M, fun k p hp hp1 _ => ?_, hs.mem, ?_⟩ (by omega)
  · simp only [L] at hj
    rw [Array.getD_eq_getD_getElem?, Array.getElem?_replicate] at hj
    split at hj <;> simp at hj
  · have hnone : ∀ i, i < p → ¬ Wr i k := by
      intro i hi hw
      have hLi := hp1 i hi hw
      simp only [L] at hLi
      rw [Array.getD_eq_getD_getElem?, Array.getElem?_replicate] at hLi
      split at hLi <;> simp at hLi
    have := hMt k 0 p (by omega) (fun i _ hi => hnone i (by omega))
    rw [Nat.zero_add] at this
    rw [this, h2]
  · refine hs.know.imp fun w' hw => ⟨fun i d _ hLi _ => ?_, fun t ψ ht _ => hw t ψ ht⟩
    simp only [L] at hLi
    rw [Array.getD_eq_getD_getElem?, Array.getElem?_replicate] at hLi
    split at hLi <;> simp at hLi

/-- The operations from the i-th on; what those ahead of them touch stands in 'acc'; what is asked of all of it: C. -/
def Te (P : Program) (X : Ctx) (l0 : List Oper) (C : List Touch → Prop) (acc : List Touch) (i : Nat) (l : List Oper) (M : Own) (G : List (Nat × Fact)) (K : Own → List (Nat × Fact) → Prop) : Prop :=
  ∃ bs, Tele P X l0 i l bs M G K ∧ C (acc.reverse ++ bs)
theorem Te.op {P : Program} {X : Ctx} {l0 : List Oper} {C : List Touch → Prop} {acc : List Touch} {i : Nat} {o : Oper} {l : List Oper} {M : Own} {G : List (Nat × Fact)} {K : Own → List (Nat × Fact) → Prop} (pre : List (Nat × Res)) (φ : Fact) (post : Own)
    (h : Ob P X l0 i o pre G φ post) (h1 : ∀ x ∈ pre, memOf M x.1 = some x.2) (h2 : ∀ x ∈ post, memOf M x.1 = none ∨ x.1 ∈ pre.map (·.1)) (h3 : ∀ d, o.dst = some d → (memOf M d = none ∨ d ∈ pre.map (·.1)) ∧ refd d G = false)
    (k : Te P X l0 C (⟨o.dst.toList ++ keysOf pre, keysOf post, refs φ⟩ :: acc) (i + 1) l (post ++ M) (putG o.dst φ G) K) : Te P X l0 C acc i (o :: l) M G K := by
  obtain ⟨bs, hk, hc⟩ := k
  exact ⟨_, Tele.op pre φ post h h1 h2 h3 hk, by simpa using hc⟩
theorem Te.nil {P : Program} {X : Ctx} {l0 : List Oper} {C : List Touch → Prop} {acc : List Touch} {i : Nat} {M : Own} {G : List (Nat × Fact)} {K : Own → List (Nat × Fact) → Prop} (h : K M G) (hc : C acc.reverse) : Te P X l0 C acc i [] M G K :=
  ⟨[], Tele.nil h, by simpa using hc⟩

/-! ### Code -/

def Tr (P : Program) (X : Ctx) (c : Code) (M : Own) (G : List (Nat × Fact)) (Q : Exit → Act → World → Prop) : Prop := ∀ a w, St X M G a w → c.wp P Q a w
/-- What is left at the end of a piece, at a way out of a block, at a return. -/
def Nx (X : Ctx) (Q : Exit → Act → World → Prop) (M : Own) (G : List (Nat × Fact)) : Prop := ∀ a w, St X M G a w → Q .normal a w
def Xt (X : Ctx) (Q : Exit → Act → World → Prop) (id : Nat) (M : Own) (G : List (Nat × Fact)) : Prop := ∀ a w, St X M G a w → Q (.exit id) a w
def Rt (X : Ctx) (Q : Exit → Act → World → Prop) (M : Own) (G : List (Nat × Fact)) : Prop := ∀ a w, St X M G a w → Q .ret a w

theorem St.drew {X : Ctx} {M : Own} {G : List (Nat × Fact)} {a : Act} {w : World} (h : St X M G a w) : St X M G a w.drew :=
  ⟨h.defers, h.size, h.mem.clean (Chg.drew _ _), h.know.clean h.mem (Chg.drew _ _)⟩

section
variable {P : Program} {X : Ctx} {M : Own} {G : List (Nat × Fact)} {Q : Exit → Act → World → Prop}

theorem tr_seq {x y : Code} (h : Tr P X x M G (Exit.then (y.wp P Q) Q)) : Tr P X (.seq x y) M G Q := fun a w hs => wp_seq (h a w hs)
theorem tr_skip (h : Nx X Q M G) : Tr P X .skip M G Q := fun a w hs => wp_skip (h a w hs)
theorem tr_ret (h : Rt X Q M G) : Tr P X .ret M G Q := fun a w hs => wp_ret (h a w hs)
theorem tr_exit {id : Nat} (h : Xt X Q id M G) : Tr P X (.exit id) M G Q := fun a w hs => wp_exit (h a w hs)
theorem tr_block {id : Nat} {c : Code} (h : Tr P X c M G (Exit.inBlock id Q)) : Tr P X (.block id c) M G Q := fun a w hs => wp_block (h a w hs)

theorem nx_then {y : Code} (h : Tr P X y M G Q) : Nx X (Exit.then (y.wp P Q) Q) M G := h
theorem xt_then {id : Nat} {f : Act → World → Prop} (h : Xt X Q id M G) : Xt X (Exit.then f Q) id M G := h
theorem rt_then {f : Act → World → Prop} (h : Rt X Q M G) : Rt X (Exit.then f Q) M G := h
theorem nx_block {id : Nat} (h : Nx X Q M G) : Nx X (Exit.inBlock id Q) M G := h
theorem rt_block {id : Nat} (h : Rt X Q M G) : Rt X (Exit.inBlock id Q) M G := h
theorem xt_hit {id : Nat} (h : Nx X Q M G) : Xt X (Exit.inBlock id Q) id M G := fun a w hs => by
  show (if id = id then Q .normal a w else Q (.exit id) a w)
  rw [if_pos rfl]
  exact h a w hs
theorem xt_miss {id id' : Nat} (hne : Nat.beq id' id = false) (h : Xt X Q id' M G) : Xt X (Exit.inBlock id Q) id' M G := fun a w hs => by
  show (if id' = id then Q .normal a w else Q (.exit id') a w)
  rw [if_neg (fun e => by rw [e] at hne; simp at hne)]
  exact h a w hs

/-- What was known is known under fewer words, or others that follow. -/
theorem St.forget {G' : List (Nat × Fact)} {a : Act} {w : World} (h : St X M G a w) (hg : ∀ t φ, look t G' = some φ → ∃ ψ, look t G = some ψ ∧ ∀ v a w, sem ψ v a w → sem φ v a w) : St X M G' a w :=
  ⟨h.defers, h.size, h.mem, h.know.imp fun w' hw t φ ht => by obtain ⟨ψ, h1, h2⟩ := hg t φ ht; exact h2 _ _ _ (hw t ψ h1)⟩

/-- The words on the slots that are named, and no others. -/
def only : List Nat → List (Nat × Fact) → List (Nat × Fact)
  | [], _ => []
  | t :: ts, G => match look t G with
    | some φ => (t, φ) :: only ts G
    | none => only ts G
theorem look_only {t : Nat} {φ : Fact} {G : List (Nat × Fact)} : ∀ {ts : List Nat}, look t (only ts G) = some φ → look t G = some φ
  | [], h => by cases h
  | k :: ts, h => by
    unfold only at h
    cases hk : look k G with
    | none => rw [hk] at h; exact look_only h
    | some ψ =>
      rw [hk] at h
      simp only [look_cons] at h
      by_cases e : k = t
      · rw [if_pos e] at h
        rw [← e, hk, ← h]
      · rw [if_neg e] at h
        exact look_only h
theorem St.only {a : Act} {w : World} (h : St X M G a w) (ts : List Nat) : St X M (only ts G) a w := h.forget fun _ φ ht => ⟨φ, look_only ht, fun _ _ _ x => x⟩
theorem tr_only {c : Code} (ts : List Nat) {G' : List (Nat × Fact)} (he : only ts G = G') (h : Tr P X c M G' Q) : Tr P X c M G Q := fun a w hs => h a w (he ▸ hs.only ts)
theorem nx_only (ts : List Nat) {G' : List (Nat × Fact)} (he : only ts G = G') (h : Nx X Q M G') : Nx X Q M G := fun a w hs => h a w (he ▸ hs.only ts)
theorem xt_only {id : Nat} (ts : List Nat) {G' : List (Nat × Fact)} (he : only ts G = G') (h : Xt X Q id M G') : Xt X Q id M G := fun a w hs => h a w (he ▸ hs.only ts)

theorem tr_region {id : Nat} {l : List Oper} (hf : fits X.n l = true) (h : Te P X l (fun _ => True) [] 0 l M G (fun M G => Nx X Q M G)) : Tr P X (.region id l.toArray false) M G Q := fun a w hs => by
  obtain ⟨bs, h, _⟩ := h
  refine wp_region ?_
  have := tele_seq h hf (fun M G hk => hk) a w hs
  rw [List.size_toArray, List.range_eq_range']
  exact this
theorem tr_region_any {id : Nat} {l : List Oper} (hm : P.follows .mixedOrders = true) (hf : fits X.n l = true) (h : Te P X l (fun bs => okAny l bs G = true) [] 0 l M G (fun M G => Nx X Q M G)) : Tr P X (.region id l.toArray true) M G Q := fun a w hs => by
  obtain ⟨bs, h, hok⟩ := h
  refine wp_region_any hm ?_
  have := tele_any h hf hok (fun M G hk => hk) hs.drew
  rw [List.size_toArray]
  exact this

theorem tr_cond {c : Nat} {x y : Code} {b : Bool} (hc : look c G = some (EqV (.bool b))) (ht : b = true → Tr P X x M G Q) (hf : b = false → Tr P X y M G Q) : Tr P X (.cond (.tmp c) x y) M G Q := fun a w hs =>
  wp_cond_split (t := b) (hs.know.now c _ hc) (fun h => ht h a w hs) (fun h => hf h a w hs)

/-- A LOOP: what holds at each round's head, by ghosts s; a measure that falls. -/
def LoopQ (X : Ctx) {σ : Type} (p : σ → Prop) (IR : σ → Own) (IG : σ → List (Nat × Fact)) (m : σ → Nat) (s : σ) (Q : Exit → Act → World → Prop) : Exit → Act → World → Prop :=
  Exit.then (fun a w => ∃ s', m s' < m s ∧ p s' ∧ St X (IR s') (IG s') a w) Q
theorem tr_loop {σ : Type} {c : Code} (p : σ → Prop) (IR : σ → Own) (IG : σ → List (Nat × Fact)) (m : σ → Nat) (s0 : σ) (hp : p s0) (h0 : ∀ a w, St X M G a w → St X (IR s0) (IG s0) a w)
    (round : ∀ s, p s → Tr P X c (IR s) (IG s) (LoopQ X p IR IG m s Q)) : Tr P X (.loop c) M G Q := fun a w hs => by
  refine wp_loop_ghost (fun n a w => ∃ s, m s = n ∧ p s ∧ St X (IR s) (IG s) a w) (m s0) ⟨s0, rfl, hp, h0 a w hs⟩ ?_
  rintro n a w ⟨s, rfl, hp, hst⟩
  refine Code.wp_mono ?_ (round s hp a w hst)
  intro e a w hq
  cases e with
  | normal =>
    obtain ⟨s', hlt, hp', hs'⟩ := hq
    exact ⟨m s', hlt, s', rfl, hp', hs'⟩
  | _ => exact hq
theorem nx_loop {σ : Type} {p : σ → Prop} {IR : σ → Own} {IG : σ → List (Nat × Fact)} {m : σ → Nat} {s : σ} (s' : σ) (hlt : m s' < m s) (hp : p s') (h : ∀ a w, St X M G a w → St X (IR s') (IG s') a w) : Nx X (LoopQ X p IR IG m s Q) M G :=
  fun a w hs => ⟨s', hlt, hp, h a w hs⟩
theorem xt_loop {σ : Type} {p : σ → Prop} {IR : σ → Own} {IG : σ → List (Nat × Fact)} {m : σ → Nat} {s : σ} {id : Nat} (h : Xt X Q id M G) : Xt X (LoopQ X p IR IG m s Q) id M G := h
theorem rt_loop {σ : Type} {p : σ → Prop} {IR : σ → Own} {IG : σ → List (Nat × Fact)} {m : σ → Nat} {s : σ} (h : Rt X Q M G) : Rt X (LoopQ X p IR IG m s Q) M G := h
end

/-! ### Functions -/

/-- The values of a list meet a list of facts. -/
def meets : List Pred → List Value → World → Prop
  | [], [], _ => True
  | φ :: φs, v :: vs, w => φ v w ∧ meets φs vs w
  | _, _, _ => False

/-- What holds of the program's own variables, in all worlds that a function may come to. -/
def Keeps (I : World → Prop) (X : Ctx) : Prop := Know (fun k => X.H0 k ∨ X.HM k) X.W0 I
theorem Keeps.know {I : World → Prop} {X : Ctx} (h : Keeps I X) {M : Mm} {a : Act} {w : World} (hm : Mem X M a w) : Know (Ex X M a w) w I := fun w' hc => h w' ((hm.frame.mono fun _ _ x => Or.inr x).trans' hc fun b hb => by
  rcases hb with hb | hb
  · exact Or.inl (Or.inl hb)
  · exact (hm.own b hb).2.2.imp Or.inr id)

/-- A FUNCTION THAT CHANGES NOTHING THAT WAS THERE: handed values of which so much is known it hands back one of which so much is. -/
def Fun (I : World → Prop) (P : Program) (f : FuncId) (φs : List Pred) (ψ : Pred) : Prop :=
  ∀ (H : Nat → Prop) (vs : List Value) (w : World), (∀ k, H k → k < w.heap.size) → Know H w I → Know H w (meets φs vs) →
    Calls P f vs.toArray w fun e w' => ∃ v, e = .returned v ∧ Chg Nobody w w' ∧ Know H w' (ψ v)

def zipFrom : Nat → List Pred → List (Nat × Fact)
  | _, [] => []
  | i, φ :: φs => (i, .plain φ) :: zipFrom (i + 1) φs

theorem look_zip {t : Nat} {ψ : Fact} {a : Act} {w : World} : ∀ {φs : List Pred} {vs : List Value} {i : Nat}, look t (zipFrom i φs) = some ψ → meets φs vs w → i ≤ t ∧ ∃ v, vs[t - i]? = some v ∧ sem ψ v a w
  | [], _, _, h, _ => by cases h
  | φ :: φs, [], i, _, hm => hm.elim
  | φ :: φs, v :: vs, i, h, hm => by
    simp only [zipFrom, look_cons] at h
    by_cases e : i = t
    · rw [if_pos e] at h
      injection h with h
      subst h; subst e
      exact ⟨Nat.le_refl _, v, by simp, hm.1⟩
    · rw [if_neg e] at h
      obtain ⟨h1, u, h2, h3⟩ := look_zip h hm.2
      refine ⟨by omega, u, ?_, h3⟩
      rw [show t - i = (t - (i + 1)) + 1 by omega, List.getElem?_cons_succ]
      exact h2

theorem meets_length {w : World} : ∀ {φs : List Pred} {vs : List Value}, meets φs vs w → vs.length = φs.length
  | [], [], _ => rfl
  | [], _ :: _, h => h.elim
  | _ :: _, [], h => h.elim
  | _ :: φs, _ :: vs, h => by simp [meets_length h.2]

/-- What must be shown at a return of such a function. -/
def FunQ (P : Program) (fn : Func) (w0 : World) (H : Nat → Prop) (ψ : Pred) : Exit → Act → World → Prop := bodyPost P fn fun e w' => ∃ v, e = .returned v ∧ Chg Nobody w0 w' ∧ Know H w' (ψ v)

theorem fun_of {I : World → Prop} {P : Program} {f : FuncId} {fn : Func} {c : Code} {φs : List Pred} {ψ : Pred} (n : Nat) (hf : P.funcs[f]? = some fn) (hb : fn.body = some c) (hnt : fn.ntmps = n) (hn' : Nat.ble φs.length n = true)
    (h : ∀ (w0 : World) (H : Nat → Prop), Keeps I ⟨w0, H, Nobody, n⟩ → Tr P ⟨w0, H, Nobody, n⟩ c [] (zipFrom 0 φs) (FunQ P fn w0 H ψ)) : Fun I P f φs ψ := by
  subst hnt
  have hn : φs.length ≤ fn.ntmps := Nat.le_of_ble_eq_true hn'
  intro H vs w hH hI hk
  have hl := meets_length hk.now
  refine calls_of_wp hf hb (h w H (hI.mono fun _ _ x => x.resolve_right id) _ w ⟨rfl, by simp; omega, ⟨hH, Chg.refl _ _, by simp [memOf, lookM], by simp [inFoot, memOf, lookM], by simp [memOf, lookM]⟩, ?_⟩)
  refine (hk.mono (H' := Ex ⟨w, H, Nobody, fn.ntmps⟩ (memOf []) _ _) (fun k _ hx => hx.resolve_right (by simp [inFoot, memOf, lookM]))).imp fun w' hm t φ ht => ?_
  obtain ⟨_, v, hv, hφ⟩ := look_zip ht hm
  have hlt : t < vs.length := (List.getElem?_eq_some_iff.1 hv).1
  have : (vs.toArray ++ Array.replicate (fn.ntmps - vs.toArray.size) undef).getD t undef = v := by
    rw [Array.getD_eq_getD_getElem?, Array.getElem?_append_left (by simpa using hlt)]
    simp only [Nat.sub_zero] at hv
    simp [hv]
  rw [this]
  exact hφ

/-- A return: what the results' slots hold. -/
theorem rt_fun {P : Program} {fn : Func} {w0 : World} {H : Nat → Prop} {ψ : Pred} {n : Nat} {M : Own} {G : List (Nat × Fact)}
    (h : ∀ a w, St ⟨w0, H, Nobody, n⟩ M G a w → ∃ v, (results fn a.tmps).run P w = .ok v w ∧ Know H w (ψ v)) : Rt ⟨w0, H, Nobody, n⟩ (FunQ P fn w0 H ψ) M G := by
  intro a w hs
  obtain ⟨v, h1, h2⟩ := h a w hs
  exact ⟨hs.defers, v, h1, v, rfl, hs.mem.frame, h2⟩
theorem rt_fun1 {P : Program} {fn : Func} {w0 : World} {H : Nat → Prop} {ψ : Pred} {n t : Nat} {M : Own} {G : List (Nat × Fact)} (hr : fn.results = #[.tmp t]) (hl : look t G = some (.plain ψ)) : Rt ⟨w0, H, Nobody, n⟩ (FunQ P fn w0 H ψ) M G :=
  rt_fun fun a w hs => ⟨_, results_tmp hr a.tmps P w, (hs.know.mono (fun _ _ x => Or.inl x)).imp fun _ hw => hw t _ hl⟩

end Go.Eng
