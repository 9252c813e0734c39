/- The proof engine, thirteenth text: variables in whose cells lead to more that is one's own, or that is known. -/
import Derived.Test.YtfgdeogphflimaaGreatDoorENats
set_option linter.unusedVariables false
set_option linter.unusedSimpArgs false
namespace Go.Eng
open Go

/-- What stands in cells: just these; something of which so much is known; something that leads to what is one's own; anything. -/
inductive Item where
  | seg (s : Sg)
  | fact (φ : Pred)
  | sub (r : Res)
  | hole
def Item.n : Item → Nat
  | .seg s => s.n
  | .fact _ => 1
  | .sub _ => 1
  | .hole => 1
abbrev Lay := List Item
def layN : Lay → Nat
  | [] => 0
  | i :: L => i.n + layN L
def itFoot : Item → List Value → World → List Nat
  | .sub r, cs, w => r.foot (cs.headD undef) w
  | _, _, _ => []
def itHolds : Item → List Value → World → (Nat → Prop) → Prop
  | .seg s, cs, _, _ => cs = s.cs
  | .fact φ, cs, w, H => ∃ u, cs = [u] ∧ u.oneCell' = true ∧ Know H w (φ u)
  | .sub r, cs, w, H => ∃ u, cs = [u] ∧ u.oneCell' = true ∧ r.holds u w H
  | .hole, cs, _, _ => ∃ u, cs = [u] ∧ u.oneCell' = true
def layFoot : Lay → List Value → World → List Nat
  | [], _, _ => []
  | i :: L, cs, w => itFoot i (cs.take i.n) w ++ layFoot L (cs.drop i.n) w
def layHolds : Lay → List Value → World → (Nat → Prop) → Prop
  | [], cs, _, _ => cs = []
  | i :: L, cs, w, H => itHolds i (cs.take i.n) w H ∧ (∀ b, b ∈ itFoot i (cs.take i.n) w → b ∉ layFoot L (cs.drop i.n) w) ∧ layHolds L (cs.drop i.n) w H

theorem it_len : ∀ {i : Item} {cs : List Value} {w : World} {H : Nat → Prop}, itHolds i cs w H → cs.length = i.n
  | .seg s, cs, _, _, h => by rw [show cs = s.cs from h]; exact s.h
  | .fact _, _, _, _, ⟨u, h, _⟩ => by rw [h]; rfl
  | .sub _, _, _, _, ⟨u, h, _⟩ => by rw [h]; rfl
  | .hole, _, _, _, ⟨u, h, _⟩ => by rw [h]; rfl
theorem it_one : ∀ {i : Item} {cs : List Value} {w : World} {H : Nat → Prop}, itHolds i cs w H → ∀ u ∈ cs, u.oneCell' = true
  | .seg s, cs, _, _, h, u, hu => by rw [show cs = s.cs from h] at hu; exact s.one u hu
  | .fact _, _, _, _, ⟨u, h, h1, _⟩, x, hx => by rw [h] at hx; simp at hx; rw [hx]; exact h1
  | .sub _, _, _, _, ⟨u, h, h1, _⟩, x, hx => by rw [h] at hx; simp at hx; rw [hx]; exact h1
  | .hole, _, _, _, ⟨u, h, h1⟩, x, hx => by rw [h] at hx; simp at hx; rw [hx]; exact h1
theorem it_keep {i : Item} {cs : List Value} {w w' : World} (h : ∀ b ∈ itFoot i cs w, w'.heap[b]? = w.heap[b]?) : itFoot i cs w' = itFoot i cs w := by
  cases i with
  | sub r => exact r.keep _ _ _ h
  | _ => rfl
theorem it_grow {i : Item} {cs : List Value} {w w' : World} {H H' : Nat → Prop} (hc : Chg H w w') (hm : ∀ k, k < w.heap.size → H' k → H k) (h : ∀ b ∈ itFoot i cs w, w'.heap[b]? = w.heap[b]?) (hh : itHolds i cs w H) : itHolds i cs w' H' := by
  cases i with
  | seg s => exact hh
  | hole => exact hh
  | fact φ =>
    obtain ⟨u, h1, h2, h3⟩ := hh
    exact ⟨u, h1, h2, h3.grow hc hm⟩
  | sub r =>
    obtain ⟨u, rfl, h2, h3⟩ := hh
    exact ⟨u, rfl, h2, r.grow _ _ _ _ _ hc hm h h3⟩

theorem lay_keep : ∀ {L : Lay} {cs : List Value} {w w' : World}, (∀ b ∈ layFoot L cs w, w'.heap[b]? = w.heap[b]?) → layFoot L cs w' = layFoot L cs w
  | [], _, _, _, _ => rfl
  | i :: L, cs, w, w', h => by
    simp only [layFoot]
    rw [it_keep (fun b hb => h b (by simp [layFoot, hb])), lay_keep (fun b hb => h b (by simp only [layFoot, List.mem_append]; exact Or.inr hb))]
theorem lay_grow : ∀ {L : Lay} {cs : List Value} {w w' : World} {H H' : Nat → Prop}, Chg H w w' → (∀ k, k < w.heap.size → H' k → H k) → (∀ b ∈ layFoot L cs w, w'.heap[b]? = w.heap[b]?) → layHolds L cs w H → layHolds L cs w' H'
  | [], _, _, _, _, _, _, _, _, h => h
  | i :: L, cs, w, w', H, H', hc, hm, h, hh => by
    have h1 : ∀ b ∈ itFoot i (cs.take i.n) w, w'.heap[b]? = w.heap[b]? := fun b hb => h b (by simp [layFoot, hb])
    have h2 : ∀ b ∈ layFoot L (cs.drop i.n) w, w'.heap[b]? = w.heap[b]? := fun b hb => h b (by simp only [layFoot, List.mem_append]; exact Or.inr hb)
    refine ⟨it_grow hc hm h1 hh.1, ?_, lay_grow hc hm h2 hh.2.2⟩
    rw [it_keep h1, lay_keep h2]
    exact hh.2.1
theorem lay_len : ∀ {L : Lay} {cs : List Value} {w : World} {H : Nat → Prop}, layHolds L cs w H → cs.length = layN L
  | [], cs, _, _, h => by rw [show cs = [] from h]; rfl
  | i :: L, cs, w, H, h => by
    have h1 := it_len h.1
    have h2 := lay_len h.2.2
    rw [List.length_take] at h1
    rw [List.length_drop] at h2
    simp only [layN]
    omega
theorem lay_one : ∀ {L : Lay} {cs : List Value} {w : World} {H : Nat → Prop}, layHolds L cs w H → ∀ u ∈ cs, u.oneCell' = true
  | [], cs, _, _, h, u, hu => by rw [show cs = [] from h] at hu; cases hu
  | i :: L, cs, w, H, h, u, hu => by
    rw [← List.take_append_drop i.n cs] at hu
    rcases List.mem_append.1 hu with hu | hu
    · exact it_one h.1 u hu
    · exact lay_one h.2.2 u hu
theorem lay_foot_append : ∀ {A B : Lay} {cs : List Value} {w : World}, layFoot (A ++ B) cs w = layFoot A (cs.take (layN A)) w ++ layFoot B (cs.drop (layN A)) w
  | [], B, cs, w => by simp [layFoot, layN]
  | i :: A, B, cs, w => by
    rw [List.cons_append]
    simp only [layFoot, layN]
    rw [lay_foot_append (A := A), List.append_assoc, List.take_take, List.drop_drop, Nat.min_eq_left (Nat.le_add_right _ _), List.drop_take, Nat.add_sub_cancel_left, Nat.add_comm i.n]
theorem lay_append : ∀ {A B : Lay} {cs : List Value} {w : World} {H : Nat → Prop}, layHolds (A ++ B) cs w H ↔ layHolds A (cs.take (layN A)) w H ∧ (∀ b, b ∈ layFoot A (cs.take (layN A)) w → b ∉ layFoot B (cs.drop (layN A)) w) ∧ layHolds B (cs.drop (layN A)) w H
  | [], B, cs, w, H => by simp [layHolds, layFoot, layN]
  | i :: A, B, cs, w, H => by
    rw [List.cons_append]
    simp only [layHolds, layN]
    rw [lay_append (A := A), lay_foot_append]
    simp only [layFoot]
    have e1 : (cs.take (i.n + layN A)).take i.n = cs.take i.n := by rw [List.take_take, Nat.min_eq_left (Nat.le_add_right _ _)]
    have e2 : (cs.take (i.n + layN A)).drop i.n = (cs.drop i.n).take (layN A) := by rw [List.drop_take, Nat.add_sub_cancel_left]
    have e3 : cs.drop (i.n + layN A) = (cs.drop i.n).drop (layN A) := by rw [List.drop_drop]
    rw [e1, e2, e3]
    constructor
    · rintro ⟨h1, h2, h3, h4, h5⟩
      refine ⟨⟨h1, fun b hb hx => h2 b hb (List.mem_append_left _ hx), h3⟩, fun b hb => ?_, h5⟩
      rcases List.mem_append.1 hb with hb | hb
      · exact fun hx => h2 b hb (List.mem_append_right _ hx)
      · exact h4 b hb
    · rintro ⟨⟨h1, h2, h3⟩, h4, h5⟩
      refine ⟨h1, fun b hb hx => ?_, h3, fun b hb => h4 b (List.mem_append_right _ hb), h5⟩
      rcases List.mem_append.1 hx with hx | hx
      · exact h2 b hb hx
      · exact h4 b (List.mem_append_left _ hb) hx

/-- A layout, cut at a place. -/
def layCut : Lay → Nat → Option (Lay × Lay)
  | L, 0 => some ([], L)
  | [], _ + 1 => none
  | i :: L, n + 1 => match Nat.ble i.n (n + 1) with
    | true => match layCut L (n + 1 - i.n) with
      | some (A, B) => some (i :: A, B)
      | none => none
    | false => none
theorem layCut_spec : ∀ {L : Lay} {n : Nat} {A B : Lay}, layCut L n = some (A, B) → L = A ++ B ∧ layN A = n
  | L, 0, A, B, h => by
    simp [layCut] at h
    obtain ⟨rfl, rfl⟩ := h
    exact ⟨rfl, rfl⟩
  | [], n + 1, A, B, h => by simp [layCut] at h
  | i :: L, n + 1, A, B, h => by
    unfold layCut at h
    cases hb : Nat.ble i.n (n + 1) with
    | false => rw [hb] at h; cases h
    | true =>
      rw [hb] at h
      have hle := Nat.le_of_ble_eq_true hb
      cases hr : layCut L (n + 1 - i.n) with
      | none => rw [hr] at h; cases h
      | some q =>
        obtain ⟨A', B'⟩ := q
        rw [hr] at h
        simp only [Option.some.injEq, Prod.mk.injEq] at h
        obtain ⟨rfl, rfl⟩ := h
        obtain ⟨h1, h2⟩ := layCut_spec hr
        refine ⟨by rw [h1]; rfl, ?_⟩
        simp only [layN, h2]
        omega
/-- Just these cells from here on. -/
def laySegs : Lay → Nat → Option Segs
  | _, 0 => some []
  | .seg s :: L, n + 1 => match Nat.ble s.n (n + 1) with
    | true => match laySegs L (n + 1 - s.n) with
      | some S => some (s :: S)
      | none => none
    | false => none
  | _, _ + 1 => none
theorem laySegs_spec : ∀ {L : Lay} {n : Nat} {S : Segs} {cs : List Value} {w : World} {H : Nat → Prop}, laySegs L n = some S → layHolds L cs w H → cs.take n = flat S ∧ n ≤ cs.length
  | L, 0, S, cs, w, H, h, _ => by
    have : S = [] := by cases L with
      | nil => simpa [laySegs] using h.symm
      | cons i L => cases i <;> simpa [laySegs] using h.symm
    subst this
    simp [flat]
  | [], n + 1, _, _, _, _, h, _ => by simp [laySegs] at h
  | .fact _ :: _, n + 1, _, _, _, _, h, _ => by simp [laySegs] at h
  | .sub _ :: _, n + 1, _, _, _, _, h, _ => by simp [laySegs] at h
  | .hole :: _, n + 1, _, _, _, _, h, _ => by simp [laySegs] at h
  | .seg s :: L, n + 1, S, cs, w, H, h, hh => by
    unfold laySegs at h
    cases hb : Nat.ble s.n (n + 1) with
    | false => rw [hb] at h; cases h
    | true =>
      rw [hb] at h
      have hle := Nat.le_of_ble_eq_true hb
      cases hr : laySegs L (n + 1 - s.n) with
      | none => rw [hr] at h; cases h
      | some q =>
        rw [hr] at h
        injection h with h
        subst h
        have h1 : cs.take s.n = s.cs := hh.1
        obtain ⟨h2, h3⟩ := laySegs_spec hr hh.2.2
        have hl := it_len hh.1
        simp only [Item.n] at h2 h3 hl
        rw [List.length_take] at hl
        rw [List.length_drop] at h3
        refine ⟨?_, by omega⟩
        have e : flat (s :: q) = s.cs ++ flat q := by simp [flat]
        rw [e, ← h1, ← h2, show n + 1 = s.n + (n + 1 - s.n) by omega, List.take_add]
        simp
theorem lay_segs (S : Segs) (w : World) (H : Nat → Prop) : layHolds (S.map .seg) (flat S) w H := by
  induction S with
  | nil => rfl
  | cons s S ih =>
    have e : flat (s :: S) = s.cs ++ flat S := by simp [flat]
    have h1 : (s.cs ++ flat S).take s.n = s.cs := by rw [List.take_append_of_le_length (by rw [s.h]; exact Nat.le_refl _), List.take_of_length_le (by rw [s.h]; exact Nat.le_refl _)]
    have h2 : (s.cs ++ flat S).drop s.n = flat S := by rw [List.drop_append_of_le_length (by rw [s.h]; exact Nat.le_refl _), List.drop_of_length_le (by rw [s.h]; exact Nat.le_refl _)]; rfl
    rw [e, List.map_cons]
    refine ⟨?_, ?_, ?_⟩
    · show itHolds (.seg s) ((s.cs ++ flat S).take s.n) w H
      rw [h1]
      rfl
    · intro b hb
      cases hb
    · show layHolds _ ((s.cs ++ flat S).drop s.n) w H
      rw [h2]
      exact ih
theorem layN_segs (S : Segs) : layN (S.map .seg) = lenS S := by
  induction S with
  | nil => rfl
  | cons s S ih => rw [List.map_cons, layN, lenS, ih]; rfl
theorem layFoot_segs (S : Segs) (cs : List Value) (w : World) : layFoot (S.map .seg) cs w = [] := by
  induction S generalizing cs with
  | nil => rfl
  | cons s S ih => rw [List.map_cons, layFoot, ih]; rfl

/-- A VARIABLE WITH A LAYOUT. -/
def boxFoot (L : Lay) (v : Value) (w : World) : List Nat := match w.heap[blk v]? with
  | some (.cells C _ _) => blk v :: layFoot L C.toList w
  | _ => [blk v]
theorem boxFoot_at {L : Lay} {v : Value} {w : World} {C : Array Value} {t : TypeId} {fr : Nat × Nat} (h : w.heap[blk v]? = some (.cells C t fr)) : boxFoot L v w = blk v :: layFoot L C.toList w := by
  unfold boxFoot; rw [h]
theorem boxFoot_blk (L : Lay) (v : Value) (w : World) : blk v ∈ boxFoot L v w := by
  unfold boxFoot; split <;> simp
def boxD (L : Lay) (t : TypeId) : Res where
  foot := boxFoot L
  holds v w H := ∃ b C, v = .pointer (some ⟨b, 0, none⟩) ∧ w.heap[b]? = some (.cells C t (0, 0)) ∧ layHolds L C.toList w H ∧ b ∉ layFoot L C.toList w
  keep v w w' h := by
    have hb := h _ (boxFoot_blk L v w)
    unfold boxFoot at h ⊢
    rw [hb]
    split
    · rename_i C t' fr hC
      rw [hC] at h
      simp only at h
      rw [lay_keep fun b hb => h b (List.mem_cons_of_mem _ hb)]
    · rfl
  grow v w w' H H' hc hm h hh := by
    obtain ⟨b, C, rfl, h1, h2, h3⟩ := hh
    have hb : w'.heap[b]? = w.heap[b]? := h b (boxFoot_blk L (.pointer (some ⟨b, 0, none⟩)) w)
    have hf : ∀ b' ∈ layFoot L C.toList w, w'.heap[b']? = w.heap[b']? := fun b' hb' => h b' (by rw [boxFoot_at (v := .pointer (some ⟨b, 0, none⟩)) h1]; exact List.mem_cons_of_mem _ hb')
    exact ⟨b, C, rfl, by rw [hb]; exact h1, lay_grow hc hm hf h2, by rw [lay_keep hf]; exact h3⟩
theorem boxD_ptr {L : Lay} {t : TypeId} (v : Value) (w : World) (H : Nat → Prop) (h : (boxD L t).holds v w H) : v = .pointer (some ⟨blk v, 0, none⟩) := by
  obtain ⟨b, C, rfl, _⟩ := h
  rfl
theorem lay_take_cut {L A B : Lay} {n : Nat} {cs : List Value} {w : World} {H : Nat → Prop} (hc : layCut L n = some (A, B)) (h : layHolds L cs w H) : layHolds A (cs.take n) w H ∧ (∀ b, b ∈ layFoot A (cs.take n) w → b ∉ layFoot B (cs.drop n) w) ∧ layHolds B (cs.drop n) w H ∧ n ≤ cs.length ∧ layFoot L cs w = layFoot A (cs.take n) w ++ layFoot B (cs.drop n) w := by
  obtain ⟨rfl, rfl⟩ := layCut_spec hc
  have hl := lay_len h
  obtain ⟨h1, h2, h3⟩ := lay_append.1 h
  refine ⟨h1, h2, h3, ?_, lay_foot_append⟩
  have := lay_len h1
  rw [List.length_take] at this
  omega
/-- Parts put together. -/
theorem lay_make {A V B : Lay} {a v b : List Value} {w : World} {H : Nat → Prop} (ha : layHolds A a w H) (hv : layHolds V v w H) (hb : layHolds B b w H) (hav : ∀ x, x ∈ layFoot A a w → x ∉ layFoot V v w) (hab : ∀ x, x ∈ layFoot A a w → x ∉ layFoot B b w) (hvb : ∀ x, x ∈ layFoot V v w → x ∉ layFoot B b w) :
    layHolds (A ++ (V ++ B)) (a ++ (v ++ b)) w H ∧ layFoot (A ++ (V ++ B)) (a ++ (v ++ b)) w = layFoot A a w ++ (layFoot V v w ++ layFoot B b w) := by
  have la := lay_len ha
  have lv := lay_len hv
  have e1 : (a ++ (v ++ b)).take (layN A) = a := by rw [← la]; simp
  have e2 : (a ++ (v ++ b)).drop (layN A) = v ++ b := by rw [← la]; simp
  have e3 : (v ++ b).take (layN V) = v := by rw [← lv]; simp
  have e4 : (v ++ b).drop (layN V) = b := by rw [← lv]; simp
  have f1 : layFoot (V ++ B) (v ++ b) w = layFoot V v w ++ layFoot B b w := by rw [lay_foot_append, e3, e4]
  constructor
  · rw [lay_append, e1, e2]
    refine ⟨ha, fun x hx hy => ?_, ?_⟩
    · rw [f1] at hy
      rcases List.mem_append.1 hy with hy | hy
      · exact hav x hx hy
      · exact hab x hx hy
    · rw [lay_append, e3, e4]
      exact ⟨hv, hvb, hb⟩
  · rw [lay_foot_append, e1, e2, f1]

section
variable {P : Program} {X : Ctx} {M : Own} {G : List (Nat × Fact)} {Q : Exit → Act → World → Prop}
/-- What is one's own, said in other words. -/
theorem St.recast {k : Nat} {r r' : Res} {a : Act} {w : World} (h : St X M G a w) (hk : lookM k M = some (some r)) (hf : ∀ v w H, r.holds v w H → r'.foot v w = r.foot v w) (hh : ∀ v w H, r.holds v w H → r'.holds v w H) : St X ((k, some r') :: M) G a w := by
  have hkM := mem_of_memOf hk
  have e : memOf ((k, some r') :: M) = upd (memOf M) [(k, some r')] := memOf_append [(k, some r')] M
  have hs : ∀ j q, memOf ((k, some r') :: M) j = some q → ∃ q0, memOf M j = some q0 ∧ q.foot (a.tmps.getD j undef) w = q0.foot (a.tmps.getD j undef) w ∧ (∀ H, q0.holds (a.tmps.getD j undef) w H → q.holds (a.tmps.getD j undef) w H) := by
    intro j q hj
    rw [e, upd_one] at hj
    by_cases hkj : k = j
    · rw [if_pos hkj] at hj
      injection hj with hj
      subst hj; subst hkj
      exact ⟨r, hkM, hf _ _ _ (h.mem.holds k r hkM), fun H => hh _ _ _⟩
    · rw [if_neg hkj] at hj
      exact ⟨q, hj, rfl, fun _ x => x⟩
  have hs' : ∀ j q0, memOf M j = some q0 → ∃ q, memOf ((k, some r') :: M) j = some q ∧ q.foot (a.tmps.getD j undef) w = q0.foot (a.tmps.getD j undef) w := by
    intro j q0 hj
    rw [e, upd_one]
    by_cases hkj : k = j
    · subst hkj
      rw [hkM] at hj
      injection hj with hj
      subst hj
      exact ⟨r', if_pos rfl, hf _ _ _ (h.mem.holds k r hkM)⟩
    · rw [if_neg hkj]
      exact ⟨q0, hj, rfl⟩
  have hin : ∀ b, inFoot (memOf ((k, some r') :: M)) a w b ↔ inFoot (memOf M) a w b := by
    intro b
    constructor
    · rintro ⟨j, q, hj, hb⟩
      obtain ⟨q0, h1, h2, _⟩ := hs j q hj
      exact ⟨j, q0, h1, by rw [← h2]; exact hb⟩
    · rintro ⟨j, q0, hj, hb⟩
      obtain ⟨q, h1, h2⟩ := hs' j q0 hj
      exact ⟨j, q, h1, by rw [h2]; exact hb⟩
  have hex : ∀ b, Ex X (memOf ((k, some r') :: M)) a w b ↔ Ex X (memOf M) a w b := fun b => by simp only [Ex, hin]
  refine ⟨h.defers, h.size, ⟨h.mem.h0, h.mem.frame, fun j q hj => ?_, fun b hb => h.mem.own b ((hin b).1 hb), fun j j' q q' hj hj' hne b hb => ?_⟩, h.know.mono fun b _ hb => (hex b).1 hb⟩
  · obtain ⟨q0, h1, _, h3⟩ := hs j q hj
    exact q.grow _ w w _ _ (Chg.refl _ _) (fun b _ hb => (hex b).1 hb) (fun _ _ => rfl) (h3 _ (h.mem.holds j q0 h1))
  · obtain ⟨q0, h1, h2, _⟩ := hs j q hj
    obtain ⟨q0', h1', h2', _⟩ := hs j' q' hj'
    rw [h2] at hb
    rw [h2']
    exact h.mem.apart j j' q0 q0' h1 h1' hne b hb
/-- A slot that leads to a variable of one's own, by itself. -/
theorem tr_self {c : Code} {r : Res} (k : Nat) (hp : ∀ v w H, r.holds v w H → v = .pointer (some ⟨blk v, 0, none⟩)) (hk : lookM k M = some (some r)) (h : Tr P X c M ((k, .ptr k 0) :: G) Q) : Tr P X c M G Q := fun a w hs => by
  have hv := hp _ _ _ (hs.mem.holds k r (mem_of_memOf hk))
  refine h a w ⟨hs.defers, hs.size, hs.mem, hs.know.imp fun w' hw t φ ht => ?_⟩
  rw [look_cons] at ht
  by_cases e : k = t
  · rw [if_pos e] at ht
    injection ht with ht
    subst ht; subst e
    exact hv
  · rw [if_neg e] at ht
    exact hw t φ ht
theorem boxS_lay {S : Segs} {t : TypeId} {v : Value} {w : World} {H : Nat → Prop} (h : (boxS S t).holds v w H) : (boxD (S.map .seg) t).holds v w H ∧ (boxD (S.map .seg) t).foot v w = (boxS S t).foot v w := by
  obtain ⟨b, rfl, hb⟩ := h
  exact ⟨⟨b, _, rfl, hb, by simpa using lay_segs S w H, by rw [layFoot_segs]; simp⟩, by
    show boxFoot _ _ _ = _
    rw [boxFoot_at (v := .pointer (some ⟨b, 0, none⟩)) hb, layFoot_segs]
    rfl⟩
theorem tr_lay {c : Code} {S : Segs} {t : TypeId} (k : Nat) (hk : lookM k M = some (some (boxS S t))) (h : Tr P X c ((k, some (boxD (S.map .seg) t)) :: M) G Q) : Tr P X c M G Q := fun a w hs =>
  h a w (hs.recast hk (fun _ _ _ h => (boxS_lay h).2) (fun _ _ _ h => (boxS_lay h).1))
end

section
variable {P : Program} {X : Ctx} {l0 : List Oper} {i : Nat} {l : List Oper} {C : List Touch → Prop} {acc : List Touch} {M : Own} {G : List (Nat × Fact)} {K : Own → List (Nat × Fact) → Prop}
  {d : Nat} {ty : TypeId} {ps : String} {af : Array Edge} {gd : Option (Nat × Bool)}

/-- A variable that a slot owns, under a second name. -/
theorem t_mvptr {k : Nat} {r : Res} (hp : ∀ v w H, r.holds v w H → v = .pointer (some ⟨blk v, 0, none⟩)) (hb : lookM k M = some (some r))
    (kk : Te P X l0 C (⟨[d, k], [], some k⟩ :: acc) (i + 1) l M ((d, .ptr k 0) :: G) K) (hne : Nat.beq k d = false := by rfl) (hg : Takes l0 G gd := by trivial) (hi : l0[i]? = some ⟨some d, .move (.tmp k), ty, ps, af, gd⟩ := by rfl) (hM : owns M (some d) = false := by rfl) (hG : refdO (some d) G = false := by rfl) :
    Te P X l0 C acc i (⟨some d, .move (.tmp k), ty, ps, af, gd⟩ :: l) M G K := by
  have hkd : d ≠ k := fun e => by subst e; simp at hne
  refine Te.op (o := ⟨some d, .move (.tmp k), ty, ps, af, gd⟩) [(k, r)] (.ptr k 0) [] (Ob.val hi hg fun M a w hn hm hp1 _ hp3 hk => ?_) (by simp [mem_of_memOf hb]) (by simp) (fun d' hd' => by injection hd' with hd'; subst hd'; exact ⟨Or.inl (owns_none hM), hG⟩) kk
  have hv := hp _ _ _ (hm.holds k _ (hp1 (k, r) (by simp)))
  have hd : M d = none := by
    rcases hp3 d rfl with h | h
    · exact h
    · simp at h; exact absurd h hkd
  refine ⟨a.tmps.getD k undef, w, rfl, Stepd.of_clean hm (fun k' hk' => by injection hk' with hk'; subst hk'; exact hd) (Chg.refl _ _), Know.const ?_⟩
  simp only [sem]
  rw [getD_put_ne hkd]
  exact hv

/-- Cells that are known, out of a variable. -/
theorem t_loadD {T : TypeId} {x : Operand} {k off n b : Nat} {dd : TypeDesc} {L A B : Lay} {S : Segs} {t : TypeId} {v : Value} (ht : TI P T dd n b) (ha : arg G x = some (.ptr k off)) (hb : lookM k M = some (some (boxD L t))) (h1 : layCut L off = some (A, B)) (h2 : laySegs B n = some S) (hv : valS (aggD dd) S = some v)
    (kk : Te P X l0 C (⟨[d, k], [], none⟩ :: acc) (i + 1) l M ((d, EqV v) :: G) K) (hg : Takes l0 G gd := by trivial) (hi : l0[i]? = some ⟨some d, .load T x, ty, ps, af, gd⟩ := by rfl) (hM : owns M (some d) = false := by rfl) (hG : refdO (some d) G = false := by rfl) :
    Te P X l0 C acc i (⟨some d, .load T x, ty, ps, af, gd⟩ :: l) M G K :=
  t_read (fun a w hw hr => by
    obtain ⟨_, g, C, hg1, hg2, hg3, _⟩ := hr
    have hvx := hw x (by simp [Op.operands]) _ ha
    simp only [sem, hg1, blk] at hvx
    obtain ⟨_, _, hB, hle, _⟩ := lay_take_cut h1 hg3
    obtain ⟨e, hn⟩ := laySegs_spec h2 hB
    rw [List.length_drop] at hn
    show ((do let v ← Instr.loadAt T (a.eval x); Pure.pure (Next.value v)) : Sem Next).run P w = _
    rw [hvx]
    have hrow := ((RowAt.of_block hg2).drop off).take n
    rw [Nat.zero_add, e] at hrow
    have := run_loadVar ht (w := w) (b := g) (o := off) (cs := flat S) (by rw [← e, List.length_take, List.length_drop]; omega) hrow v (valS_spec hv)
    simp only [Instr.loadAt, Sem.run_bind, sureAddr_ptr, Result.andThen, this, Sem.run_pure]) hb kk hg hi hM hG

/-- One cell of which something is known. -/
theorem t_loadDf {T : TypeId} {x : Operand} {k off b : Nat} {dd : TypeDesc} {L A B : Lay} {φ : Pred} {t : TypeId} (ht : TI P T dd 1 b) (hag : aggD dd = false) (ha : arg G x = some (.ptr k off)) (hb : lookM k M = some (some (boxD L t))) (h1 : layCut L off = some (A, .fact φ :: B))
    (kk : Te P X l0 C (⟨[d, k], [], none⟩ :: acc) (i + 1) l M ((d, .plain φ) :: G) K) (hg : Takes l0 G gd := by trivial) (hi : l0[i]? = some ⟨some d, .load T x, ty, ps, af, gd⟩ := by rfl) (hM : owns M (some d) = false := by rfl) (hG : refdO (some d) G = false := by rfl) :
    Te P X l0 C acc i (⟨some d, .load T x, ty, ps, af, gd⟩ :: l) M G K := by
  have hkd : k ≠ d := fun e => by subst e; simp [owns, mem_of_memOf hb] at hM
  refine Te.op (o := ⟨some d, .load T x, ty, ps, af, gd⟩) [(k, boxD L t)] (.plain φ) [] (Ob.val hi hg fun M a w hn hm hp1 _ hp3 hk => ?_) (by simp [mem_of_memOf hb]) (by simp) (fun d' hd' => by injection hd' with hd'; subst hd'; exact ⟨Or.inl (owns_none hM), hG⟩) kk
  have hd : M d = none := by
    rcases hp3 d rfl with h | h
    · exact h
    · simp at h; exact absurd h.symm hkd
  have hvx := hk.now x (by simp [Op.operands]) _ ha
  obtain ⟨g, C, hg1, hg2, hg3, _⟩ := hm.holds k _ (hp1 (k, boxD L t) (by simp))
  simp only [sem, hg1, blk] at hvx
  obtain ⟨_, _, hB, hle, _⟩ := lay_take_cut h1 hg3
  obtain ⟨u, hu, hu1, hku⟩ := hB.1
  simp only [Item.n] at hu
  have hrow := ((RowAt.of_block hg2).drop off).take 1
  rw [Nat.zero_add, hu] at hrow
  have hlv := run_loadVar ht (w := w) (b := g) (o := off) (cs := [u]) rfl hrow u (Or.inr ⟨hag, rfl⟩)
  have hst : Stepd X M a M (a.put (some d) u) w w := Stepd.of_clean hm (fun k' hk' => by injection hk' with hk'; subst hk'; exact hd) (Chg.refl _ _)
  refine ⟨u, w, ?_, hst, hku.stepd hst⟩
  show ((do let v ← Instr.loadAt T (a.eval x); Pure.pure (Next.value v)) : Sem Next).run P w = _
  rw [hvx]
  simp only [Instr.loadAt, Sem.run_bind, sureAddr_ptr, Result.andThen, hlv, Sem.run_pure]

/-- One cell that leads to what is one's own: the slot has it then, and the variable has it no more. -/
theorem t_loadDs {T : TypeId} {x : Operand} {k off b : Nat} {dd : TypeDesc} {L A B : Lay} {r : Res} {t : TypeId} (ht : TI P T dd 1 b) (hag : aggD dd = false) (ha : arg G x = some (.ptr k off)) (hb : lookM k M = some (some (boxD L t))) (h1 : layCut L off = some (A, .sub r :: B))
    (kk : Te P X l0 C (⟨[d, k], [d, k], none⟩ :: acc) (i + 1) l ((d, some r) :: (k, some (boxD (A ++ ([Item.hole] ++ B)) t)) :: M) ((d, .plain fun _ _ => True) :: G) K) (hg : Takes l0 G gd := by trivial) (hi : l0[i]? = some ⟨some d, .load T x, ty, ps, af, gd⟩ := by rfl) (hdn : Nat.blt d X.n = true := by rfl) (hM : owns M (some d) = false := by rfl) (hG : refdO (some d) G = false := by rfl) :
    Te P X l0 C acc i (⟨some d, .load T x, ty, ps, af, gd⟩ :: l) M G K := by
  have hdn' : d < X.n := by simpa using hdn
  have hkd : k ≠ d := fun e => by subst e; simp [owns, mem_of_memOf hb] at hM
  refine Te.op (o := ⟨some d, .load T x, ty, ps, af, gd⟩) [(k, boxD L t)] (.plain fun _ _ => True) [(d, some r), (k, some (boxD (A ++ ([Item.hole] ++ B)) t))] (Ob.val hi hg fun M a w hn hm hp1 _ hp3 hk => ?_) (by simp [mem_of_memOf hb]) (fun y hy => by
    rcases List.mem_cons.1 hy with rfl | hy
    · exact Or.inl (owns_none hM)
    · simp only [List.mem_singleton] at hy; subst hy; exact Or.inr (by simp)) (fun d' hd' => by injection hd' with hd'; subst hd'; exact ⟨Or.inl (owns_none hM), hG⟩) kk
  have hd : M d = none := by
    rcases hp3 d rfl with h | h
    · exact h
    · simp at h; exact absurd h.symm hkd
  have hvx := hk.now x (by simp [Op.operands]) _ ha
  have hkM := hp1 (k, boxD L t) (by simp)
  obtain ⟨g, C, hg1, hg2, hg3, hg4⟩ := hm.holds k _ hkM
  simp only [sem, hg1, blk] at hvx
  obtain ⟨hA, hAB, hB, hle, hF⟩ := lay_take_cut h1 hg3
  obtain ⟨⟨u, hu, hu1, hru⟩, hrB, hB'⟩ := hB
  simp only [Item.n] at hu hrB hB'
  have hrow := ((RowAt.of_block hg2).drop off).take 1
  rw [Nat.zero_add, hu] at hrow
  have hlv := run_loadVar ht (w := w) (b := g) (o := off) (cs := [u]) rfl hrow u (Or.inr ⟨hag, rfl⟩)
  rw [hu] at hrB
  have e0 : C.toList = C.toList.take off ++ ([u] ++ (C.toList.drop off).drop 1) := by
    rw [← hu, List.take_append_drop, List.take_append_drop]
  have hBf : layFoot (Item.sub r :: B) (C.toList.drop off) w = r.foot u w ++ layFoot B ((C.toList.drop off).drop 1) w := by
    simp only [layFoot, Item.n, hu, itFoot, List.headD_cons]
  have hhole : ∀ H, layHolds [Item.hole] [u] w H := fun H => ⟨⟨u, rfl, hu1⟩, (by intro b hb; cases hb), rfl⟩
  have hmk : ∀ H, layHolds A (C.toList.take off) w H → layHolds B ((C.toList.drop off).drop 1) w H → layHolds (A ++ ([Item.hole] ++ B)) C.toList w H ∧ layFoot (A ++ ([Item.hole] ++ B)) C.toList w = layFoot A (C.toList.take off) w ++ ([] ++ layFoot B ((C.toList.drop off).drop 1) w) := by
    intro H h1 h2
    have := lay_make h1 (hhole H) h2 (by intro x _ hx; cases hx) (fun x hx hy => hAB x hx (by rw [hBf]; exact List.mem_append_right _ hy)) (by intro x hx; cases hx)
    rw [← e0] at this
    exact this
  have hnew := hmk _ hA hB'
  have hfk : (boxD L t).foot (a.tmps.getD k undef) w = g :: layFoot L C.toList w := by
    show boxFoot _ _ _ = _
    rw [hg1, boxFoot_at (v := .pointer (some ⟨g, 0, none⟩)) hg2]; rfl
  have hfk' : (boxD (A ++ ([Item.hole] ++ B)) t).foot (a.tmps.getD k undef) w = g :: layFoot (A ++ ([Item.hole] ++ B)) C.toList w := by
    show boxFoot _ _ _ = _
    rw [hg1, boxFoot_at (v := .pointer (some ⟨g, 0, none⟩)) hg2]; rfl
  rw [hF, hBf] at hg4 hfk
  rw [hnew.2] at hfk'
  have hsl : (a.put (some d) u).tmps.getD k undef = a.tmps.getD k undef := getD_put_ne fun e => hkd e.symm
  have hsd : (a.put (some d) u).tmps.getD d undef = u := getD_put_same (by omega)
  have hlk : ∀ j q, lookM j [(d, some r), (k, some (boxD (A ++ ([Item.hole] ++ B)) t))] = some (some q) → (j = d ∧ q = r) ∨ (j = k ∧ q = boxD (A ++ ([Item.hole] ++ B)) t) := by
    intro j q h
    rw [lookM_cons] at h
    by_cases e : d = j
    · rw [if_pos e] at h; simp only [Option.some.injEq] at h; exact Or.inl ⟨e.symm, h.symm⟩
    · rw [if_neg e] at h
      exact Or.inr (look_one h)
  refine ⟨u, w, ?_, Stepd.gen (pre := [(k, boxD L t)]) hm (by simpa using hkM) (fun y hy => by
      simp only [List.mem_singleton] at hy; subst hy
      exact ⟨_, by rw [lookM_cons, if_neg (fun e => hkd e.symm), lookM_cons, if_pos rfl]⟩) (fun j hj => by injection hj with hj; subst hj; exact Or.inl hd) (Chg.refl _ _) (fun j q h hlat => ?_) (fun j q h b hx1 => ?_) (fun j j' q q' h h' hne b hx1 hx2 => ?_), Know.const trivial⟩
  · show ((do let v ← Instr.loadAt T (a.eval x); Pure.pure (Next.value v)) : Sem Next).run P w = _
    rw [hvx]
    simp only [Instr.loadAt, Sem.run_bind, sureAddr_ptr, Result.andThen, hlv, Sem.run_pure]
  · rcases hlk j q h with ⟨rfl, rfl⟩ | ⟨rfl, rfl⟩
    · rw [hsd]
      exact q.grow _ w w _ _ (Chg.refl _ _) hlat (fun _ _ => rfl) hru
    · rw [hsl]
      refine ⟨g, C, hg1, hg2, lay_grow (Chg.refl _ _) hlat (fun _ _ => rfl) hnew.1, ?_⟩
      rw [hnew.2]
      intro hx
      refine hg4 ?_
      simp only [List.nil_append, List.mem_append] at hx ⊢
      exact hx.imp id Or.inr
  · left
    refine ⟨(k, boxD L t), by simp, ?_⟩
    show b ∈ (boxD L t).foot (a.tmps.getD k undef) w
    rw [hfk]
    rcases hlk j q h with ⟨rfl, rfl⟩ | ⟨rfl, rfl⟩
    · rw [hsd] at hx1
      simp [hx1]
    · rw [hsl, hfk'] at hx1
      simp only [List.nil_append, List.mem_cons, List.mem_append] at hx1 ⊢
      rcases hx1 with h | h | h
      · exact Or.inl h
      · exact Or.inr (Or.inl h)
      · exact Or.inr (Or.inr (Or.inr h))
  · have key : b ∈ r.foot u w → b ∈ (boxD (A ++ ([Item.hole] ++ B)) t).foot (a.tmps.getD k undef) w → False := by
      intro hx hy
      rw [hfk'] at hy
      simp only [List.nil_append, List.mem_cons, List.mem_append] at hy
      rcases hy with rfl | hy | hy
      · exact hg4 (by simp [hx])
      · exact hAB b hy (by rw [hBf]; exact List.mem_append_left _ hx)
      · exact hrB b (by simpa [itFoot] using hx) hy
    rcases hlk j q h with ⟨rfl, rfl⟩ | ⟨rfl, rfl⟩ <;> rcases hlk j' q' h' with ⟨rfl, rfl⟩ | ⟨rfl, rfl⟩
    · exact hne rfl
    · rw [hsd] at hx1; rw [hsl] at hx2; exact key hx1 hx2
    · rw [hsl] at hx1; rw [hsd] at hx2; exact key hx2 hx1
    · exact hne rfl

/-- Where a layout is cut for a store. -/
def layPut (L : Lay) (off n : Nat) : Option (Lay × Lay) := match layCut L off with
  | some (A, B) => match layCut B n with
    | some (_, D) => some (A, D)
    | none => none
  | none => none
theorem layPut_spec {L A D : Lay} {off n : Nat} {cs : List Value} {w : World} {H : Nat → Prop} (hc : layPut L off n = some (A, D)) (h : layHolds L cs w H) :
    layHolds A (cs.take off) w H ∧ layHolds D (cs.drop (off + n)) w H ∧ (∀ b, b ∈ layFoot A (cs.take off) w → b ∉ layFoot D (cs.drop (off + n)) w) ∧ off + n ≤ cs.length ∧ (∀ b, b ∈ layFoot A (cs.take off) w ∨ b ∈ layFoot D (cs.drop (off + n)) w → b ∈ layFoot L cs w) := by
  unfold layPut at hc
  cases h1 : layCut L off with
  | none => rw [h1] at hc; cases hc
  | some q =>
    obtain ⟨A', B⟩ := q
    rw [h1] at hc
    simp only at hc
    cases h2 : layCut B n with
    | none => rw [h2] at hc; cases hc
    | some q =>
      obtain ⟨V, D'⟩ := q
      rw [h2] at hc
      simp only [Option.some.injEq, Prod.mk.injEq] at hc
      obtain ⟨rfl, rfl⟩ := hc
      obtain ⟨a1, a2, a3, a4, a5⟩ := lay_take_cut h1 h
      obtain ⟨b1, b2, b3, b4, b5⟩ := lay_take_cut h2 a3
      rw [List.drop_drop] at b2 b3 b5
      rw [List.length_drop] at b4
      refine ⟨a1, b3, fun b hb hx => a2 b hb (by rw [b5]; exact List.mem_append_right _ hx), by omega, fun b hb => ?_⟩
      rw [a5, b5]
      simp only [List.mem_append]
      exact hb.imp id Or.inr
theorem run_storeD {T : TypeId} {n b : Nat} {dd : TypeDesc} (ht : TI P T dd n b) {w : World} {g off : Nat} {C : Array Value} {t : TypeId} {v : Value} {vs : List Value} (hg : w.heap[g]? = some (.cells C t (0, 0))) (hv : v.cells = vs.toArray) (hl : vs.length = n) (ho : ∀ u ∈ vs, u.oneCell' = true) (hb : off + n ≤ C.size) :
    ((do Instr.storeAt T (.pointer (some ⟨g, off, none⟩)) v; Pure.pure Next.skip) : Sem Next).run P w = .ok Next.skip (w.setRow g (C.toList.take off ++ (vs ++ C.toList.drop (off + n))).toArray) := by
  have hst := run_storeCells_at P g off t vs 0 C w hg (by omega) ho
  simp only [Nat.add_zero, hl, List.append_assoc] at hst
  simp [Instr.storeAt, storeVar, sureAddr_ptr, hv, ht.size, hl, hst, Result.andThen]

/-- A store of cells that are known, or of which something is known. -/
theorem t_storeV {T : TypeId} {x y : Operand} {k off n b : Nat} {dd : TypeDesc} {L A D V : Lay} {t : TypeId} (ht : TI P T dd n b) (ha : arg G x = some (.ptr k off)) (hb : lookM k M = some (some (boxD L t))) (hp : layPut L off n = some (A, D))
    (hV : ∀ (M : Mm) (a : Act) (w : World), Know (Ex X M a w) w (given ⟨none, .store T x y, ty, ps, af, gd⟩ G a) → ∃ vs, (a.eval y).cells = vs.toArray ∧ vs.length = n ∧ ∀ w' H', Chg (Ex X M a w) w w' → Lat X M a w H' → layHolds V vs w' H' ∧ layFoot V vs w' = [])
    (kk : Te P X l0 C (⟨[k], [k], none⟩ :: acc) (i + 1) l ((k, some (boxD (A ++ (V ++ D)) t)) :: M) G K) (hg : Takes l0 G gd := by trivial) (hi : l0[i]? = some ⟨none, .store T x y, ty, ps, af, gd⟩ := by rfl) :
    Te P X l0 C acc i (⟨none, .store T x y, ty, ps, af, gd⟩ :: l) M G K := by
  refine Te.op (o := ⟨none, .store T x y, ty, ps, af, gd⟩) [(k, boxD L t)] (EqV undef) [(k, some (boxD (A ++ (V ++ D)) t))] (Ob.skip hi hg fun M a w hn hm hp1 _ hp3 hk => ?_) (by simp [mem_of_memOf hb]) (by simp) (fun d' hd' => by cases hd') kk
  have hvx := hk.now x (by simp [Op.operands]) _ ha
  have hkM := hp1 (k, boxD L t) (by simp)
  obtain ⟨g, C, hg1, hg2, hg3, hg4⟩ := hm.holds k _ hkM
  simp only [sem, hg1, blk] at hvx
  obtain ⟨vs, hv1, hv2, hv3⟩ := hV M a w hk
  obtain ⟨hA, hD, hAD, hle, hin⟩ := layPut_spec hp hg3
  have hfk : (boxD L t).foot (a.tmps.getD k undef) w = g :: layFoot L C.toList w := by
    show boxFoot _ _ _ = _
    rw [hg1, boxFoot_at (v := .pointer (some ⟨g, 0, none⟩)) hg2]; rfl
  have hst := run_storeD ht hg2 hv1 hv2 (lay_one (hv3 w (Ex X M a w) (Chg.refl _ _) (fun _ _ x => x)).1) (by simpa using hle)
  have hcg : Chg (fun b => b = g) w (w.setRow g (C.toList.take off ++ (vs ++ C.toList.drop (off + n))).toArray) := Chg.of_setRow rfl
  have hc : Chg (fun b => b ∈ (boxD L t).foot (a.tmps.getD k undef) w) w (w.setRow g (C.toList.take off ++ (vs ++ C.toList.drop (off + n))).toArray) := hcg.mono fun b _ hb => by rw [hfk, hb]; simp
  have hcE := hc.mono (H' := Ex X M a w) fun b _ hb => Or.inr ⟨k, _, hkM, hb⟩
  have hnew := setRow_heap w g C (C.toList.take off ++ (vs ++ C.toList.drop (off + n))).toArray t (0, 0) hg2
  have sameA : ∀ b ∈ layFoot A (C.toList.take off) w, (w.setRow g (C.toList.take off ++ (vs ++ C.toList.drop (off + n))).toArray).heap[b]? = w.heap[b]? := fun b hb => setRow_other w g b _ (fun e => hg4 (e ▸ hin b (Or.inl hb)))
  have sameD : ∀ b ∈ layFoot D (C.toList.drop (off + n)) w, (w.setRow g (C.toList.take off ++ (vs ++ C.toList.drop (off + n))).toArray).heap[b]? = w.heap[b]? := fun b hb => setRow_other w g b _ (fun e => hg4 (e ▸ hin b (Or.inr hb)))
  have mk : ∀ H', Lat X M a w H' → layHolds (A ++ (V ++ D)) (C.toList.take off ++ (vs ++ C.toList.drop (off + n))) (w.setRow g (C.toList.take off ++ (vs ++ C.toList.drop (off + n))).toArray) H' ∧
      layFoot (A ++ (V ++ D)) (C.toList.take off ++ (vs ++ C.toList.drop (off + n))) (w.setRow g (C.toList.take off ++ (vs ++ C.toList.drop (off + n))).toArray) = layFoot A (C.toList.take off) w ++ ([] ++ layFoot D (C.toList.drop (off + n)) w) := by
    intro H' hl
    obtain ⟨q1, q2⟩ := hv3 _ H' hcE hl
    have := lay_make (lay_grow hcE hl sameA hA) q1 (lay_grow hcE hl sameD hD) (by rw [q2]; intro x _ hx; cases hx) (by rw [lay_keep sameA, lay_keep sameD]; exact hAD) (by rw [q2]; intro x hx; cases hx)
    rw [q2, lay_keep sameA, lay_keep sameD] at this
    exact this
  have hnf := (mk _ (fun _ _ x => x)).2
  refine ⟨_, by show ((do Instr.storeAt T (a.eval x) (a.eval y); Pure.pure Next.skip) : Sem Next).run P w = _; rw [hvx]; exact hst, Stepd.write hm hkM hc (fun H' hl => ⟨g, _, hg1, hnew, (mk H' hl).1, ?_⟩) (fun b hb => Or.inl ?_)⟩
  · show g ∉ layFoot _ _ _
    rw [hnf]
    intro hx
    simp only [List.nil_append, List.mem_append] at hx
    exact hg4 (hin g hx)
  · have : (boxD (A ++ (V ++ D)) t).foot (a.tmps.getD k undef) (w.setRow g (C.toList.take off ++ (vs ++ C.toList.drop (off + n))).toArray) = g :: (layFoot A (C.toList.take off) w ++ ([] ++ layFoot D (C.toList.drop (off + n)) w)) := by
      show boxFoot _ _ _ = _
      rw [hg1, boxFoot_at (v := .pointer (some ⟨g, 0, none⟩)) hnew, ← hnf]; rfl
    rw [this] at hb
    rw [hfk]
    simp only [List.nil_append, List.mem_cons, List.mem_append] at hb ⊢
    exact hb.imp id (hin b)
/-- A store of cells that are known. -/
theorem t_storeD {T : TypeId} {x y : Operand} {k off n b : Nat} {dd : TypeDesc} {L A D : Lay} {S : Segs} {t : TypeId} {v : Value} (ht : TI P T dd n b) (ha : arg G x = some (.ptr k off)) (hb : lookM k M = some (some (boxD L t))) (hp : layPut L off n = some (A, D)) (hy : arg G y = some (EqV v)) (hv : valS (aggD dd) S = some v) (hl : Nat.beq (lenS S) n = true)
    (kk : Te P X l0 C (⟨[k], [k], none⟩ :: acc) (i + 1) l ((k, some (boxD (A ++ (S.map .seg ++ D)) t)) :: M) G K) (hg : Takes l0 G gd := by trivial) (hi : l0[i]? = some ⟨none, .store T x y, ty, ps, af, gd⟩ := by rfl) :
    Te P X l0 C acc i (⟨none, .store T x y, ty, ps, af, gd⟩ :: l) M G K :=
  t_storeV ht ha hb hp (fun M a w hk => ⟨flat S, by rw [show a.eval y = v from hk.now y (by simp [Op.operands]) _ hy]; exact cells_of_valS hv, by rw [flat_length]; exact Nat.eq_of_beq_eq_true hl, fun w' H' _ _ => ⟨lay_segs S w' H', layFoot_segs S _ _⟩⟩) kk hg hi
/-- A store of one cell of which something is known. -/
theorem t_storeDf {T : TypeId} {x y : Operand} {k off b : Nat} {dd : TypeDesc} {L A D : Lay} {φ : Pred} {t : TypeId} (ho : ∀ v w, φ v w → v.oneCell' = true) (ht : TI P T dd 1 b) (ha : arg G x = some (.ptr k off)) (hb : lookM k M = some (some (boxD L t))) (hp : layPut L off 1 = some (A, D)) (hy : arg G y = some (.plain φ))
    (kk : Te P X l0 C (⟨[k], [k], none⟩ :: acc) (i + 1) l ((k, some (boxD (A ++ ([Item.fact φ] ++ D)) t)) :: M) G K) (hg : Takes l0 G gd := by trivial) (hi : l0[i]? = some ⟨none, .store T x y, ty, ps, af, gd⟩ := by rfl) :
    Te P X l0 C acc i (⟨none, .store T x y, ty, ps, af, gd⟩ :: l) M G K :=
  t_storeV ht ha hb hp (fun M a w hk => by
    have hφ : Know (Ex X M a w) w (φ (a.eval y)) := hk.imp fun w' hw => hw y (by simp [Op.operands]) _ hy
    have h1 := ho _ _ hφ.now
    exact ⟨[a.eval y], by rw [one_cells h1], rfl, fun w' H' hc hl => ⟨⟨⟨a.eval y, rfl, h1, hφ.grow hc hl⟩, (by intro b hb; cases hb), rfl⟩, rfl⟩⟩) kk hg hi

/-- What a slot owns goes into a variable's cell. -/
theorem t_storeDs {T : TypeId} {x : Operand} {k j off b : Nat} {dd : TypeDesc} {L A D : Lay} {r : Res} {t : TypeId} (ho : ∀ v w H, r.holds v w H → v.oneCell' = true) (ht : TI P T dd 1 b) (ha : arg G x = some (.ptr k off)) (hb : lookM k M = some (some (boxD L t))) (hj : lookM j M = some (some r)) (hjk : Nat.beq j k = false) (hp : layPut L off 1 = some (A, D))
    (kk : Te P X l0 C (⟨[k, j], [k, j], none⟩ :: acc) (i + 1) l ((k, some (boxD (A ++ ([Item.sub r] ++ D)) t)) :: (j, none) :: M) G K) (hg : Takes l0 G gd := by trivial) (hi : l0[i]? = some ⟨none, .store T x (.tmp j), ty, ps, af, gd⟩ := by rfl) :
    Te P X l0 C acc i (⟨none, .store T x (.tmp j), ty, ps, af, gd⟩ :: l) M G K := by
  have hjk' : j ≠ k := fun e => by subst e; simp at hjk
  refine Te.op (o := ⟨none, .store T x (.tmp j), ty, ps, af, gd⟩) [(k, boxD L t), (j, r)] (EqV undef) [(k, some (boxD (A ++ ([Item.sub r] ++ D)) t)), (j, none)] (Ob.skip hi hg fun M a w hn hm hp1 _ hp3 hk => ?_) (by simp [mem_of_memOf hb, mem_of_memOf hj]) (by simp) (fun d' hd' => by cases hd') kk
  have hvx := hk.now x (by simp [Op.operands]) _ ha
  have hkM := hp1 (k, boxD L t) (by simp)
  have hjM := hp1 (j, r) (by simp)
  obtain ⟨g, C, hg1, hg2, hg3, hg4⟩ := hm.holds k _ hkM
  simp only [sem, hg1, blk] at hvx
  have hr := hm.holds j _ hjM
  have hu1 := ho _ _ _ hr
  obtain ⟨hA, hD, hAD, hle, hin⟩ := layPut_spec hp hg3
  have hfk : (boxD L t).foot (a.tmps.getD k undef) w = g :: layFoot L C.toList w := by
    show boxFoot _ _ _ = _
    rw [hg1, boxFoot_at (v := .pointer (some ⟨g, 0, none⟩)) hg2]; rfl
  have hap := hm.apart k j _ _ hkM hjM (fun e => hjk' e.symm)
  rw [hfk] at hap
  generalize hu : a.tmps.getD j undef = u at hr hu1 hap
  have hst := run_storeD ht hg2 (one_cells hu1 : u.cells = [u].toArray) rfl (by simpa using hu1) (by simpa using hle)
  generalize hN : C.toList.take off ++ ([u] ++ C.toList.drop (off + 1)) = N at hst
  have hcg : Chg (fun b => b = g) w (w.setRow g N.toArray) := Chg.of_setRow rfl
  have hc : Chg (fun b => b ∈ (boxD L t).foot (a.tmps.getD k undef) w) w (w.setRow g N.toArray) := hcg.mono fun b _ hb => by rw [hfk, hb]; simp
  have hcE := hc.mono (H' := Ex X M a w) fun b _ hb => Or.inr ⟨k, _, hkM, hb⟩
  have hnew := setRow_heap w g C N.toArray t (0, 0) hg2
  have sameA : ∀ b ∈ layFoot A (C.toList.take off) w, (w.setRow g N.toArray).heap[b]? = w.heap[b]? := fun b hb => setRow_other w g b _ (fun e => hg4 (e ▸ hin b (Or.inl hb)))
  have sameD : ∀ b ∈ layFoot D (C.toList.drop (off + 1)) w, (w.setRow g N.toArray).heap[b]? = w.heap[b]? := fun b hb => setRow_other w g b _ (fun e => hg4 (e ▸ hin b (Or.inr hb)))
  have sameR : ∀ b ∈ r.foot u w, (w.setRow g N.toArray).heap[b]? = w.heap[b]? := fun b hb => setRow_other w g b _ (fun e => hap b (by rw [e]; simp) hb)
  have hnR : ∀ b, b ∈ r.foot u w → b ∉ layFoot L C.toList w := fun b hb hx => hap b (List.mem_cons_of_mem _ hx) hb
  have hVf : layFoot [Item.sub r] [u] (w.setRow g N.toArray) = r.foot u w := by
    show r.foot u _ ++ [] = _
    rw [List.append_nil, r.keep _ _ _ sameR]
  have mk : ∀ H', Lat X M a w H' → layHolds (A ++ ([Item.sub r] ++ D)) N (w.setRow g N.toArray) H' ∧ layFoot (A ++ ([Item.sub r] ++ D)) N (w.setRow g N.toArray) = layFoot A (C.toList.take off) w ++ (r.foot u w ++ layFoot D (C.toList.drop (off + 1)) w) := by
    intro H' hl
    have q1 : layHolds [Item.sub r] [u] (w.setRow g N.toArray) H' := ⟨⟨u, rfl, hu1, r.grow _ _ _ _ _ hcE hl sameR hr⟩, (by intro b _ hb; cases hb), rfl⟩
    have := lay_make (lay_grow hcE hl sameA hA) q1 (lay_grow hcE hl sameD hD) (by rw [hVf, lay_keep sameA]; exact fun x hx hy => hnR x hy (hin x (Or.inl hx))) (by rw [lay_keep sameA, lay_keep sameD]; exact hAD) (by rw [hVf, lay_keep sameD]; exact fun x hx hy => hnR x hx (hin x (Or.inr hy)))
    rw [hVf, lay_keep sameA, lay_keep sameD, hN] at this
    exact this
  have hnf := (mk _ (fun _ _ x => x)).2
  have hfk' : (boxD (A ++ ([Item.sub r] ++ D)) t).foot (a.tmps.getD k undef) (w.setRow g N.toArray) = g :: (layFoot A (C.toList.take off) w ++ (r.foot u w ++ layFoot D (C.toList.drop (off + 1)) w)) := by
    show boxFoot _ _ _ = _
    rw [hg1, boxFoot_at (v := .pointer (some ⟨g, 0, none⟩)) hnew, ← hnf]; rfl
  refine ⟨_, by show ((do Instr.storeAt T (a.eval x) (a.tmps.getD j undef); Pure.pure Next.skip) : Sem Next).run P w = _; rw [hvx, hu]; exact hst,
    Stepd.gen (d := none) (v := undef) (pre := [(k, boxD L t), (j, r)]) hm (fun y hy => by
      rcases List.mem_cons.1 hy with rfl | hy
      · exact hkM
      · simp only [List.mem_singleton] at hy; subst hy; exact hjM) (fun y hy => by
      rcases List.mem_cons.1 hy with rfl | hy
      · exact ⟨_, by rw [lookM_cons, if_pos rfl]⟩
      · simp only [List.mem_singleton] at hy; subst hy; exact ⟨none, by rw [lookM_cons, if_neg (fun e => hjk' e.symm), lookM_cons, if_pos rfl]⟩) (by simp) (hc.mono fun b _ hb => ⟨(k, boxD L t), by simp, hb⟩)
      (fun j' q h hlat => ?_) (fun j' q h b hb => Or.inl ?_) (fun j1 j2 q q' h h' hne => ?_)⟩
  · obtain ⟨rfl, rfl⟩ := look_two h
    exact ⟨g, _, hg1, hnew, (mk _ hlat).1, by
      show g ∉ layFoot _ _ _
      rw [hnf]
      intro hx
      simp only [List.mem_append] at hx
      rcases hx with hx | hx | hx
      · exact hg4 (hin g (Or.inl hx))
      · exact hap g (by simp) hx
      · exact hg4 (hin g (Or.inr hx))⟩
  · obtain ⟨rfl, rfl⟩ := look_two h
    have hb' : b ∈ g :: (layFoot A (C.toList.take off) w ++ (r.foot u w ++ layFoot D (C.toList.drop (off + 1)) w)) := by rw [← hfk']; exact hb
    simp only [List.mem_cons, List.mem_append] at hb'
    rcases hb' with h1 | h1 | h1 | h1
    · exact ⟨(j', boxD L t), by simp, by show b ∈ (boxD L t).foot (a.tmps.getD j' undef) w; rw [hfk, h1]; simp⟩
    · exact ⟨(j', boxD L t), by simp, by show b ∈ (boxD L t).foot (a.tmps.getD j' undef) w; rw [hfk]; exact List.mem_cons_of_mem _ (hin b (Or.inl h1))⟩
    · exact ⟨(j, r), by simp, by show b ∈ r.foot (a.tmps.getD j undef) w; rw [hu]; exact h1⟩
    · exact ⟨(j', boxD L t), by simp, by show b ∈ (boxD L t).foot (a.tmps.getD j' undef) w; rw [hfk]; exact List.mem_cons_of_mem _ (hin b (Or.inr h1))⟩
  · obtain ⟨rfl, _⟩ := look_two h
    obtain ⟨rfl, _⟩ := look_two h'
    exact absurd rfl hne
theorem rowR_one {sz n : Nat} {xs : List Value} (v : Value) (w : World) (H : Nat → Prop) (h : (rowR sz n xs).holds v w H) : v.oneCell' = true := by
  rcases h.2 with ⟨rfl, _⟩ | ⟨g, c, rfl, _⟩ <;> rfl
theorem slC_one {sz n : Nat} {xs : List Value} (v : Value) (w : World) (h : SlC sz n xs v w) : v.oneCell' = true := by
  obtain ⟨_, A, c, rfl, _⟩ := h
  rfl

theorem t_storeDA {T : TypeId} {x y : Operand} {k off n b : Nat} {dd : TypeDesc} {L A D : Lay} {S : Segs} {t : TypeId} (ht : TI P T dd n b) (ha : arg G x = some (.ptr k off)) (hb : lookM k M = some (some (boxD L t))) (hp : layPut L off n = some (A, D)) (hy : arg G y = some (EqV (aggS S)))
    (kk : Te P X l0 C (⟨[k], [k], none⟩ :: acc) (i + 1) l ((k, some (boxD (A ++ (S.map .seg ++ D)) t)) :: M) G K) (hd : aggD dd = true := by rfl) (hl : Nat.beq (lenS S) n = true := by rfl) (hg : Takes l0 G gd := by trivial) (hi : l0[i]? = some ⟨none, .store T x y, ty, ps, af, gd⟩ := by rfl) :
    Te P X l0 C acc i (⟨none, .store T x y, ty, ps, af, gd⟩ :: l) M G K := t_storeD ht ha hb hp hy (by rw [hd]; rfl) hl kk hg hi
theorem t_storeD1 {T : TypeId} {x y : Operand} {k off b : Nat} {dd : TypeDesc} {L A D : Lay} {v : Value} {t : TypeId} (ht : TI P T dd 1 b) (ha : arg G x = some (.ptr k off)) (hb : lookM k M = some (some (boxD L t))) (hp : layPut L off 1 = some (A, D)) (hy : arg G y = some (EqV v)) (ho : v.oneCell' = true)
    (kk : Te P X l0 C (⟨[k], [k], none⟩ :: acc) (i + 1) l ((k, some (boxD (A ++ (([sg1 v ho] : Segs).map .seg ++ D)) t)) :: M) G K) (hd : aggD dd = false := by rfl) (hg : Takes l0 G gd := by trivial) (hi : l0[i]? = some ⟨none, .store T x y, ty, ps, af, gd⟩ := by rfl) :
    Te P X l0 C acc i (⟨none, .store T x y, ty, ps, af, gd⟩ :: l) M G K := t_storeD (S := [sg1 v ho]) ht ha hb hp hy (by rw [hd]; rfl) rfl kk hg hi
/-! ### Layouts that are read -/
def itFacts : Item → List Value → World → Prop
  | .seg s, cs, _ => cs = s.cs
  | .fact φ, cs, w => ∃ u, cs = [u] ∧ φ u w
  | .sub r, cs, w => ∃ u, cs = [u] ∧ r.holds u w Nobody
  | .hole, cs, _ => ∃ u, cs = [u]
def layFacts : Lay → List Value → World → Prop
  | [], cs, _ => cs = []
  | i :: L, cs, w => itFacts i (cs.take i.n) w ∧ layFacts L (cs.drop i.n) w
theorem lay_facts : ∀ {L : Lay} {cs : List Value} {w : World}, layHolds L cs w Nobody → layFacts L cs w
  | [], _, _, h => h
  | i :: L, cs, w, h => by
    refine ⟨?_, lay_facts h.2.2⟩
    have h1 := h.1
    cases i with
    | seg s => exact h1
    | fact φ => obtain ⟨u, a, _, c⟩ := h1; exact ⟨u, a, c.now⟩
    | sub r => obtain ⟨u, a, _, c⟩ := h1; exact ⟨u, a, c⟩
    | hole => obtain ⟨u, a, _⟩ := h1; exact ⟨u, a⟩
/-- A pointer to cells with a layout. -/
def RefD (L : Lay) : Pred := fun v w => ∃ b o cs, v = .pointer (some ⟨b, o, none⟩) ∧ RowAt w b o cs ∧ layFacts L cs w
theorem boxD_ref {L : Lay} {t : TypeId} (v : Value) (w : World) (h : (boxD L t).holds v w Nobody) : RefD L v w := by
  obtain ⟨b, C, rfl, h1, h2, _⟩ := h
  exact ⟨b, 0, C.toList, rfl, RowAt.of_block h1, lay_facts h2⟩
theorem refD_ptr {L : Lay} (v : Value) (w : World) (h : RefD L v w) : ∃ a, v = .pointer (some a) := by
  obtain ⟨b, o, _, h, _⟩ := h
  exact ⟨_, h⟩
theorem facts_len : ∀ {i : Item} {cs : List Value} {w : World}, itFacts i cs w → cs.length = i.n
  | .seg s, cs, _, h => by rw [show cs = s.cs from h]; exact s.h
  | .fact _, cs, _, ⟨u, h, _⟩ => by rw [h]; rfl
  | .sub _, cs, _, ⟨u, h, _⟩ => by rw [h]; rfl
  | .hole, cs, _, ⟨u, h⟩ => by rw [h]; rfl
theorem facts_cut : ∀ {L : Lay} {n : Nat} {A B : Lay} {cs : List Value} {w : World}, layCut L n = some (A, B) → layFacts L cs w → layFacts B (cs.drop n) w
  | L, 0, A, B, cs, w, h, hh => by
    simp [layCut] at h
    obtain ⟨rfl, rfl⟩ := h
    exact hh
  | [], n + 1, A, B, _, _, h, _ => by simp [layCut] at h
  | i :: L, n + 1, A, B, cs, w, h, hh => by
    unfold layCut at h
    cases hb : Nat.ble i.n (n + 1) with
    | false => rw [hb] at h; cases h
    | true =>
      rw [hb] at h
      have hle := Nat.le_of_ble_eq_true hb
      cases hr : layCut L (n + 1 - i.n) with
      | none => rw [hr] at h; cases h
      | some q =>
        obtain ⟨A', B'⟩ := q
        rw [hr] at h
        simp only [Option.some.injEq, Prod.mk.injEq] at h
        obtain ⟨_, rfl⟩ := h
        have := facts_cut hr hh.2
        rw [List.drop_drop, show i.n + (n + 1 - i.n) = n + 1 by omega] at this
        exact this
theorem facts_segs : ∀ {L : Lay} {n : Nat} {S : Segs} {cs : List Value} {w : World}, laySegs L n = some S → layFacts L cs w → cs.take n = flat S ∧ n ≤ cs.length
  | L, 0, S, cs, w, h, _ => by
    have : S = [] := by cases L with
      | nil => simpa [laySegs] using h.symm
      | cons i L => cases i <;> simpa [laySegs] using h.symm
    subst this
    simp [flat]
  | [], n + 1, _, _, _, h, _ => by simp [laySegs] at h
  | .fact _ :: _, n + 1, _, _, _, h, _ => by simp [laySegs] at h
  | .sub _ :: _, n + 1, _, _, _, h, _ => by simp [laySegs] at h
  | .hole :: _, n + 1, _, _, _, h, _ => by simp [laySegs] at h
  | .seg s :: L, n + 1, S, cs, w, h, hh => by
    unfold laySegs at h
    cases hb : Nat.ble s.n (n + 1) with
    | false => rw [hb] at h; cases h
    | true =>
      rw [hb] at h
      have hle := Nat.le_of_ble_eq_true hb
      cases hr : laySegs L (n + 1 - s.n) with
      | none => rw [hr] at h; cases h
      | some q =>
        rw [hr] at h
        injection h with h
        subst h
        have h1 : cs.take s.n = s.cs := hh.1
        obtain ⟨h2, h3⟩ := facts_segs hr hh.2
        have hl := facts_len hh.1
        simp only [Item.n] at h2 h3 hl
        rw [List.length_take] at hl
        rw [List.length_drop] at h3
        refine ⟨?_, by omega⟩
        have e : flat (s :: q) = s.cs ++ flat q := by simp [flat]
        rw [e, ← h1, ← h2, show n + 1 = s.n + (n + 1 - s.n) by omega, List.take_add]
        simp
theorem facts_lay_len : ∀ {L : Lay} {cs : List Value} {w : World}, layFacts L cs w → cs.length = layN L
  | [], cs, _, h => by rw [show cs = [] from h]; rfl
  | i :: L, cs, w, h => by
    have h1 := facts_len h.1
    have h2 := facts_lay_len h.2
    rw [List.length_take] at h1
    rw [List.length_drop] at h2
    simp only [layN]
    omega
theorem RowAt.eq {w : World} {b o : Nat} {cs ds : List Value} (h : RowAt w b o cs) (k : RowAt w b o ds) (hl : cs.length = ds.length) : cs = ds := by
  apply List.ext_getElem? 
  intro j
  by_cases hj : j < cs.length
  · have h1 := h j _ (List.getElem?_eq_getElem hj)
    have h2 := k j _ (List.getElem?_eq_getElem (by omega))
    rw [h1] at h2
    rw [List.getElem?_eq_getElem hj, List.getElem?_eq_getElem (by omega)]
    exact h2
  · rw [List.getElem?_eq_none (by omega), List.getElem?_eq_none (by omega)]
/-- What is known to lie at a place lies in no block that may change. -/
theorem know_row {H : Nat → Prop} {w : World} {b o n : Nat} {φ : List Value → World → Prop} (hn : 0 < n) (hl : ∀ cs w', φ cs w' → cs.length = n) (h : Know H w (fun w' => ∃ cs, RowAt w' b o cs ∧ φ cs w')) : ∃ cs, Know H w (fun w' => RowAt w' b o cs ∧ φ cs w') := by
  obtain ⟨cs, hr, hφ⟩ := h.now
  have hlen := hl _ _ hφ
  have hb : b < w.heap.size := hr.lt (by omega)
  have hnot : ¬ H b := by
    intro hH
    obtain ⟨ds, hd, hφ'⟩ := h (w.setRow b #[]) (Chg.of_setRow hH)
    have hl2 := hl _ _ hφ'
    have := hd 0 ds[0] (by simp)
    have hb2 : b < (w.setRow b #[]).heap.size := hd.lt (by omega)
    obtain ⟨o', ho'⟩ : ∃ o', w.heap[b]? = some o' := ⟨_, Array.getElem?_eq_getElem hb⟩
    cases o' with
    | cells C t fr =>
      have h2 := setRow_heap w b C #[] t fr ho'
      rw [cell_of h2] at this
      simp at this
    | _ =>
      have h1 := hr 0 cs[0] (by simp)
      simp [World.cell?, ho'] at h1
  refine ⟨cs, fun w' hc => ?_⟩
  obtain ⟨ds, hd, hφ'⟩ := h w' hc
  have hsame := hc.block b hb hnot
  have hr' : RowAt w' b o cs := fun j u hj => by
    rw [World.cell?_of_block (a := ⟨b, o + j, none⟩) hsame]
    exact hr j u hj
  have e := hr'.eq hd (by rw [hlen, hl _ _ hφ'])
  subst e
  exact ⟨hd, hφ'⟩
theorem know_ref {H : Nat → Prop} {w : World} {L : Lay} {v : Value} (hn : 0 < layN L) (h : Know H w (RefD L v)) : ∃ b o cs, v = .pointer (some ⟨b, o, none⟩) ∧ Know H w (fun w' => RowAt w' b o cs ∧ layFacts L cs w') := by
  obtain ⟨b, o, _, rfl, _⟩ := h.now
  obtain ⟨cs, hk⟩ := know_row (b := b) (o := o) hn (fun cs w' x => facts_lay_len x) (h.imp fun w' ⟨b', o', cs, h1, h2, h3⟩ => by
    injection h1 with h1
    injection h1 with h1
    injection h1 with e1 e2
    subst e1; subst e2
    exact ⟨cs, h2, h3⟩)
  exact ⟨b, o, cs, rfl, hk⟩
/-- The address of a field. -/
theorem t_fldRD {T tf : TypeId} {f fo n' b' : Nat} {dd : TypeDesc} {x : Operand} {L A B : Lay} (hF : FI P T f fo tf) (htf : TI P tf dd n' b') (hx : arg G x = some (.plain (RefD L))) (h1 : layCut L fo = some (A, B))
    (kk : Te P X l0 C (⟨[d], [], none⟩ :: acc) (i + 1) l M ((d, .plain (RefD B)) :: G) K) (hn' : Nat.beq n' 0 = false := by rfl) (hg : Takes l0 G gd := by trivial) (hi : l0[i]? = some ⟨some d, .fieldAddr T x f, ty, ps, af, gd⟩ := by rfl) (hM : owns M (some d) = false := by rfl) (hG : refdO (some d) G = false := by rfl) :
    Te P X l0 C acc i (⟨some d, .fieldAddr T x f, ty, ps, af, gd⟩ :: l) M G K := by
  obtain ⟨fs, fd, n, b, h3, h4, h5, h6⟩ := hF.ex
  subst h5; subst h6
  exact t_pred _ (fun a => by
    have hn0 : n' ≠ 0 := fun e => by subst e; simp at hn'
    by_cases h : ∃ (b o : Nat), a.eval x = .pointer (some ⟨b, o, none⟩)
    · obtain ⟨b, o, hv⟩ := h
      refine ⟨.pointer (some ⟨b, o + fd.offset, none⟩), fun w hw => ?_⟩
      obtain ⟨b', o', cs, hx', hr, hf⟩ := hw x (by simp [Op.operands]) _ hx
      rw [hv] at hx'
      injection hx' with hx'
      injection hx' with hx'
      injection hx' with e3 e4
      subst e3; subst e4
      refine ⟨⟨b, _, _, rfl, hr.drop _, facts_cut h1 hf⟩, ?_⟩
      show ((do let v ← Instr.fieldAt T (a.eval x) f; Pure.pure (Next.value v)) : Sem Next).run P w = _
      rw [hv]
      simp only [Instr.fieldAt, Sem.run_bind, h3.run, Result.andThen, h4, sureAddr_ptr, fieldPlace, htf.size, hn0, if_false, Sem.run_pure, add_plain]
    · refine ⟨undef, fun w hw => ?_⟩
      obtain ⟨b', o', _, hx', _⟩ := hw x (by simp [Op.operands]) _ hx
      exact absurd ⟨b', o', hx'⟩ h) kk hg hi hM hG
/-- Cells that are known, read. -/
theorem t_loadRD {T : TypeId} {dd : TypeDesc} {n by_ : Nat} {L : Lay} {S : Segs} {v : Value} {x : Operand} (ht : TI P T dd n by_) (hx : arg G x = some (.plain (RefD L))) (h1 : laySegs L n = some S) (hv : valS (aggD dd) S = some v)
    (k : Te P X l0 C (⟨[d], [], none⟩ :: acc) (i + 1) l M ((d, EqV v) :: G) K) (hg : Takes l0 G gd := by trivial) (hi : l0[i]? = some ⟨some d, .load T x, ty, ps, af, gd⟩ := by rfl) (hM : owns M (some d) = false := by rfl) (hG : refdO (some d) G = false := by rfl) :
    Te P X l0 C acc i (⟨some d, .load T x, ty, ps, af, gd⟩ :: l) M G K :=
  t_pure _ (fun a w hw => by
    obtain ⟨b, o, cs, hx', hr, hf⟩ := hw x (by simp [Op.operands]) _ hx
    obtain ⟨e, hle⟩ := facts_segs h1 hf
    show ((do let v ← Instr.loadAt T (a.eval x); Pure.pure (Next.value v)) : Sem Next).run P w = _
    rw [hx']
    have hr' := hr.take n
    rw [e] at hr'
    simp only [Instr.loadAt, Sem.run_bind, sureAddr_ptr, Result.andThen, run_loadVar ht (by rw [← e, List.length_take]; omega) hr' v (valS_spec hv), Sem.run_pure]) k hg hi hM hG
/-- One cell of which something is known, read. -/
theorem t_loadRF {T : TypeId} {dd : TypeDesc} {by_ : Nat} {L : Lay} {φ : Pred} {x : Operand} (ht : TI P T dd 1 by_) (hag : aggD dd = false) (hx : arg G x = some (.plain (RefD (.fact φ :: L))))
    (k : Te P X l0 C (⟨[d], [], none⟩ :: acc) (i + 1) l M ((d, .plain φ) :: G) K) (hg : Takes l0 G gd := by trivial) (hi : l0[i]? = some ⟨some d, .load T x, ty, ps, af, gd⟩ := by rfl) (hM : owns M (some d) = false := by rfl) (hG : refdO (some d) G = false := by rfl) :
    Te P X l0 C acc i (⟨some d, .load T x, ty, ps, af, gd⟩ :: l) M G K := by
  refine t_clean (o := ⟨some d, .load T x, ty, ps, af, gd⟩) (φ := .plain φ) (Ob.val hi hg fun M a w hn hm _ _ hp3 hk => ?_) hM hG k
  have hkx : Know (Ex X M a w) w (RefD (.fact φ :: L) (a.eval x)) := hk.imp fun w' hw => hw x (by simp [Op.operands]) _ hx
  obtain ⟨b, o, cs, hv, hkr⟩ := know_ref (by simp only [layN, Item.n]; omega) hkx
  obtain ⟨hr, hf⟩ := hkr.now
  obtain ⟨u, hu, _⟩ := hf.1
  simp only [Item.n] at hu
  have hr' := hr.take 1
  rw [hu] at hr'
  have hst : Stepd X M a M (a.put (some d) u) w w := Stepd.of_clean hm (dst_none hp3) (Chg.refl _ _)
  refine ⟨u, w, ?_, hst, Know.stepd (hkr.imp fun w' ⟨_, hf'⟩ => ?_) hst⟩
  · show ((do let v ← Instr.loadAt T (a.eval x); Pure.pure (Next.value v)) : Sem Next).run P w = _
    rw [hv]
    simp only [Instr.loadAt, Sem.run_bind, sureAddr_ptr, Result.andThen, run_loadVar ht (cs := [u]) rfl hr' u (Or.inr ⟨hag, rfl⟩), Sem.run_pure]
  · obtain ⟨u', hu', hφ⟩ := hf'.1
    simp only [Item.n] at hu'
    rw [hu] at hu'
    simp only [List.cons.injEq, and_true] at hu'
    subst hu'
    exact hφ
end

section
variable {P : Program} {X : Ctx} {M : Own} {G : List (Nat × Fact)} {Q : Exit → Act → World → Prop}
/-- A cell's own memory is read from now on. -/
theorem St.share {k off : Nat} {L A B : Lay} {r : Res} {φ : Pred} {t : TypeId} {a : Act} {w : World} (h : St X M G a w) (hk : lookM k M = some (some (boxD L t))) (hcut : layCut L off = some (A, .sub r :: B)) (hφ : ∀ v w, r.holds v w Nobody → φ v w) : St X ((k, some (boxD (A ++ ([Item.fact φ] ++ B)) t)) :: M) G a w := by
  have hkM := mem_of_memOf hk
  obtain ⟨g, C, hg1, hg2, hg3, hg4⟩ := h.mem.holds k _ hkM
  obtain ⟨hA, hAB, hB, hle, hF⟩ := lay_take_cut hcut hg3
  obtain ⟨⟨u, hu, hu1, hru⟩, hrB, hB'⟩ := hB
  simp only [Item.n] at hu hrB hB'
  rw [hu] at hrB
  have e0 : C.toList = C.toList.take off ++ ([u] ++ (C.toList.drop off).drop 1) := by
    rw [← hu, List.take_append_drop, List.take_append_drop]
  have hBf : layFoot (Item.sub r :: B) (C.toList.drop off) w = r.foot u w ++ layFoot B ((C.toList.drop off).drop 1) w := by
    simp only [layFoot, Item.n, hu, itFoot, List.headD_cons]
  have hfk : (boxD L t).foot (a.tmps.getD k undef) w = g :: layFoot L C.toList w := by
    show boxFoot _ _ _ = _
    rw [hg1, boxFoot_at (v := .pointer (some ⟨g, 0, none⟩)) hg2]; rfl
  rw [hF, hBf] at hg4 hfk
  have hnf : layFoot (A ++ ([Item.fact φ] ++ B)) C.toList w = layFoot A (C.toList.take off) w ++ layFoot B ((C.toList.drop off).drop 1) w := by
    have la := lay_len hA
    have := layCut_spec hcut
    rw [lay_foot_append, this.2]
    congr 1
  have hfk' : (boxD (A ++ ([Item.fact φ] ++ B)) t).foot (a.tmps.getD k undef) w = g :: (layFoot A (C.toList.take off) w ++ layFoot B ((C.toList.drop off).drop 1) w) := by
    show boxFoot _ _ _ = _
    rw [hg1, boxFoot_at (v := .pointer (some ⟨g, 0, none⟩)) hg2, hnf]; rfl
  have e : memOf ((k, some (boxD (A ++ ([Item.fact φ] ++ B)) t)) :: M) = upd (memOf M) [(k, some (boxD (A ++ ([Item.fact φ] ++ B)) t))] := memOf_append [(k, _)] M
  have hs : ∀ j q, memOf ((k, some (boxD (A ++ ([Item.fact φ] ++ B)) t)) :: M) j = some q → (j = k ∧ q = boxD (A ++ ([Item.fact φ] ++ B)) t) ∨ (j ≠ k ∧ memOf M j = some q) := by
    intro j q hj
    rw [e, upd_one] at hj
    by_cases hkj : k = j
    · rw [if_pos hkj] at hj
      injection hj with hj
      exact Or.inl ⟨hkj.symm, hj.symm⟩
    · rw [if_neg hkj] at hj
      exact Or.inr ⟨fun x => hkj x.symm, hj⟩
  have hsubf : ∀ b, b ∈ (boxD (A ++ ([Item.fact φ] ++ B)) t).foot (a.tmps.getD k undef) w → b ∈ (boxD L t).foot (a.tmps.getD k undef) w ∧ b ∉ r.foot u w := by
    intro b hb
    rw [hfk'] at hb
    rw [hfk]
    simp only [List.mem_cons, List.mem_append] at hb ⊢
    rcases hb with rfl | hb | hb
    · exact ⟨Or.inl rfl, fun hx => hg4 (by simp [hx])⟩
    · exact ⟨Or.inr (Or.inl hb), fun hx => hAB b hb (by rw [hBf]; exact List.mem_append_left _ hx)⟩
    · exact ⟨Or.inr (Or.inr (Or.inr hb)), fun hx => hrB b (by simpa [itFoot] using hx) hb⟩
  have hin : ∀ b, inFoot (memOf ((k, some (boxD (A ++ ([Item.fact φ] ++ B)) t)) :: M)) a w b → inFoot (memOf M) a w b ∧ b ∉ r.foot u w := by
    rintro b ⟨j, q, hj, hb⟩
    rcases hs j q hj with ⟨rfl, rfl⟩ | ⟨hne, hq⟩
    · obtain ⟨h1, h2⟩ := hsubf b hb
      exact ⟨⟨j, _, hkM, h1⟩, h2⟩
    · refine ⟨⟨j, q, hq, hb⟩, fun hx => h.mem.apart j k q _ hq hkM hne b hb ?_⟩
      rw [hfk]
      simp [hx]
  have hex : ∀ b, Ex X (memOf ((k, some (boxD (A ++ ([Item.fact φ] ++ B)) t)) :: M)) a w b → Ex X (memOf M) a w b := fun b hx => hx.imp id fun x => (hin b x).1
  have hru' : ∀ b, b ∈ r.foot u w → b < w.heap.size ∧ ¬ Ex X (memOf ((k, some (boxD (A ++ ([Item.fact φ] ++ B)) t)) :: M)) a w b := fun b hb => by
    have hbk : b ∈ (boxD L t).foot (a.tmps.getD k undef) w := by rw [hfk]; simp [hb]
    have ho := h.mem.own b ⟨k, _, hkM, hbk⟩
    refine ⟨ho.1, fun hx => ?_⟩
    rcases hx with hx | hx
    · exact ho.2.1 hx
    · exact (hin b hx).2 hb
  have hknow : Know (Ex X (memOf ((k, some (boxD (A ++ ([Item.fact φ] ++ B)) t)) :: M)) a w) w (φ u) := fun w' hc =>
    hφ _ _ (r.grow _ w w' _ _ (hc.mono fun b _ => hex b) (fun _ _ x => x.elim) (fun b hb => hc.block b (hru' b hb).1 (hru' b hb).2) hru)
  refine ⟨h.defers, h.size, ⟨h.mem.h0, h.mem.frame, fun j q hj => ?_, fun b hb => h.mem.own b (hin b hb).1, fun j j' q q' hj hj' hne b hb hb' => ?_⟩, h.know.mono fun b _ hb => hex b hb⟩
  · rcases hs j q hj with ⟨rfl, rfl⟩ | ⟨hne, hq⟩
    · refine ⟨g, C, hg1, hg2, ?_, ?_⟩
      · have := lay_make (lay_grow (Chg.refl _ _) (fun b _ => hex b) (fun _ _ => rfl) hA) (show layHolds [Item.fact φ] [u] w _ from ⟨⟨u, rfl, hu1, hknow⟩, (by intro b hb; cases hb), rfl⟩) (lay_grow (Chg.refl _ _) (fun b _ => hex b) (fun _ _ => rfl) hB') (by intro x _ hx; cases hx) (fun x hx hy => hAB x hx (by rw [hBf]; exact List.mem_append_right _ hy)) (by intro x hx; cases hx)
        rw [← e0] at this
        exact this.1
      · rw [hnf]
        intro hx
        refine hg4 ?_
        simp only [List.mem_append] at hx ⊢
        exact hx.imp id Or.inr
    · exact q.grow _ w w _ _ (Chg.refl _ _) (fun b _ => hex b) (fun _ _ => rfl) (h.mem.holds j q hq)
  · rcases hs j q hj with ⟨rfl, rfl⟩ | ⟨hnk, hq⟩ <;> rcases hs j' q' hj' with ⟨rfl, rfl⟩ | ⟨hnk', hq'⟩
    · exact hne rfl
    · exact h.mem.apart _ _ _ _ hkM hq' hne b (hsubf b hb).1 hb'
    · exact h.mem.apart _ _ _ _ hq hkM hne b hb (hsubf b hb').1
    · exact h.mem.apart _ _ _ _ hq hq' hne b hb hb'
theorem tr_share {c : Code} {L A B : Lay} {r : Res} {φ : Pred} {t : TypeId} (k off : Nat) (hφ : ∀ v w, r.holds v w Nobody → φ v w) (hk : lookM k M = some (some (boxD L t))) (hcut : layCut L off = some (A, .sub r :: B)) (h : Tr P X c ((k, some (boxD (A ++ ([Item.fact φ] ++ B)) t)) :: M) G Q) : Tr P X c M G Q := fun a w hs =>
  h a w (hs.share hk hcut hφ)
theorem share_row {sz n : Nat} {xs : List Value} (v : Value) (w : World) (h : (rowR sz n xs).holds v w Nobody) : SlC sz n xs v w := rowHolds.slC h
/-- A nil slice in a cell: a row of one's own. -/
theorem tr_layNil {c : Code} {L A B : Lay} {t : TypeId} {ho : (Value.slice none 0 0).oneCell' = true} (k off sz : Nat) (hk : lookM k M = some (some (boxD L t))) (hcut : layCut L off = some (A, .seg (sg1 (.slice none 0 0) ho) :: B)) (h : Tr P X c ((k, some (boxD (A ++ ([Item.sub (rowR sz 0 [])] ++ B)) t)) :: M) G Q) : Tr P X c M G Q := fun a w hs => by
  have key : ∀ cs w H, layHolds L cs w H → layHolds (A ++ ([Item.sub (rowR sz 0 [])] ++ B)) cs w H ∧ layFoot (A ++ ([Item.sub (rowR sz 0 [])] ++ B)) cs w = layFoot L cs w := by
    intro cs w H hh
    obtain ⟨hA, hAB, hB, hle, hF⟩ := lay_take_cut hcut hh
    obtain ⟨h1, h2, h3⟩ := hB
    have h1 : (cs.drop off).take 1 = [.slice none 0 0] := h1
    simp only [Item.n, sg1] at h3
    have e0 : cs = cs.take off ++ ([.slice none 0 0] ++ (cs.drop off).drop 1) := by
      rw [← h1, List.take_append_drop, List.take_append_drop]
    have hf : layFoot [Item.sub (rowR sz 0 [])] [.slice none 0 0] w = [] := rfl
    have hBf : layFoot (.seg (sg1 (.slice none 0 0) ho) :: B) (cs.drop off) w = layFoot B ((cs.drop off).drop 1) w := rfl
    rw [hBf] at hAB hF
    have := lay_make hA (show layHolds [Item.sub (rowR sz 0 [])] [.slice none 0 0] w H from ⟨⟨_, rfl, rfl, rowHolds.nil sz w⟩, (by intro b hb; rw [show itFoot (Item.sub (rowR sz 0 [])) _ w = [] from rfl] at hb; cases hb), rfl⟩) h3 (by intro x _ hx; rw [hf] at hx; cases hx) hAB (by intro x hx; rw [hf] at hx; cases hx)
    rw [← e0, hf] at this
    exact ⟨this.1, by rw [this.2, hF]; rfl⟩
  refine h a w (hs.recast hk (fun v w H hh => ?_) (fun v w H hh => ?_))
  · obtain ⟨b, C', rfl, h1, h2, h3⟩ := hh
    show boxFoot _ _ _ = boxFoot _ _ _
    rw [boxFoot_at (v := .pointer (some ⟨b, 0, none⟩)) h1, boxFoot_at (v := .pointer (some ⟨b, 0, none⟩)) h1, (key _ _ _ h2).2]
  · obtain ⟨b, C', rfl, h1, h2, h3⟩ := hh
    exact ⟨b, C', rfl, h1, (key _ _ _ h2).1, by rw [(key _ _ _ h2).2]; exact h3⟩
end
end Go.Eng
