/- The proof engine, fourth text: slices: such as are read, such as are one's own and grow; strings. -/
import Derived.Test.YtfgdeogphflimaaGreatDoorEBox
set_option linter.unusedVariables false
set_option linter.unusedSimpArgs false
namespace Go.Eng
open Go

/-- The cells of a block from a place on. -/
def RowAt (w : World) (b o : Nat) (cs : List Value) : Prop := ∀ j u, cs[j]? = some u → w.cell? ⟨b, o + j, none⟩ = some u
theorem RowAt.drop {w : World} {b o : Nat} {cs : List Value} (h : RowAt w b o cs) (k : Nat) : RowAt w b (o + k) (cs.drop k) := fun j u hj => by
  rw [List.getElem?_drop] at hj
  rw [Nat.add_assoc]
  exact h _ u hj
theorem RowAt.take {w : World} {b o : Nat} {cs : List Value} (h : RowAt w b o cs) (k : Nat) : RowAt w b o (cs.take k) := fun j u hj => by
  rw [List.getElem?_take] at hj
  split at hj
  · exact h j u hj
  · cases hj
theorem RowAt.of_block {w : World} {b : Nat} {C : Array Value} {t : TypeId} {fr : Nat × Nat} (h : w.heap[b]? = some (.cells C t fr)) : RowAt w b 0 C.toList := fun j u hj => by
  rw [cell_of h, Nat.zero_add]
  simpa using hj
theorem RowAt.lt {w : World} {b o : Nat} {cs : List Value} (h : RowAt w b o cs) (hne : 0 < cs.length) : b < w.heap.size := by
  have := h 0 cs[0] (by simp [hne])
  exact World.block_lt_of_cell? w _ this

/-- A SLICE THAT IS READ: n elements of so many cells each. -/
def SlC (sz n : Nat) (cs : List Value) : Pred := fun v w =>
  cs.length = n * sz ∧ ∃ A c, v = .slice A n c ∧ n ≤ c ∧ c ≤ maxLen ∧ ((A = none ∧ n = 0) ∨ ∃ b o, A = some ⟨b, o, none⟩ ∧ RowAt w b o cs)
/-- A pointer to cells that are read. -/
def RefC (cs : List Value) : Pred := fun v w => ∃ b o, v = .pointer (some ⟨b, o, none⟩) ∧ RowAt w b o cs
/-- Bytes, elements, strings. -/
def SlB (s : ByteArray) : Pred := SlC 1 s.size (byteCells s)
def cellsE (es : List Segs) : List Value := es.flatMap flat
def SlE (sz : Nat) (es : List Segs) : Pred := SlC sz es.length (cellsE es)
def SlS (l : List ByteArray) : Pred := SlC 1 l.length (l.map Value.string)

theorem SlC.nil (sz : Nat) (w : World) : SlC sz 0 [] (.slice none 0 0) w := ⟨by simp, none, 0, rfl, Nat.le_refl _, by simp, Or.inl ⟨rfl, rfl⟩⟩

/-- MEMORY OF ONE's OWN THAT GROWS: a slice, nil or from a block's begin on. -/
def rowHolds (sz n : Nat) (xs : List Value) (v : Value) (w : World) : Prop :=
  xs.length = n * sz ∧ ((v = .slice none 0 0 ∧ n = 0) ∨
    ∃ g c, v = .slice (some ⟨g, 0, none⟩) n c ∧ n ≤ c ∧ c ≤ maxLen ∧ g < w.heap.size ∧ RowAt w g 0 xs ∧ ∀ j, j < c * sz → (w.cell? ⟨g, j, none⟩).isSome = true ∧ w.frozen? ⟨g, j, none⟩ = false)
def footV : Value → List Nat
  | .slice (some a) _ _ => [a.block]
  | _ => []
theorem rowHolds_dep {sz n : Nat} {xs : List Value} (v : Value) (w w' : World) (h : ∀ b ∈ footV v, w'.heap[b]? = w.heap[b]?) (hh : rowHolds sz n xs v w) : rowHolds sz n xs v w' := by
  obtain ⟨h1, h2⟩ := hh
  refine ⟨h1, h2.imp id ?_⟩
  rintro ⟨g, c, rfl, a1, a2, a3, a4, a5⟩
  have hb := h g (by simp [footV])
  have hc : ∀ j, w'.cell? ⟨g, j, none⟩ = w.cell? ⟨g, j, none⟩ := fun j => World.cell?_of_block (a := ⟨g, j, none⟩) hb
  have hf : ∀ j, w'.frozen? ⟨g, j, none⟩ = w.frozen? ⟨g, j, none⟩ := fun j => World.frozen?_of_block (a := ⟨g, j, none⟩) hb
  refine ⟨g, c, rfl, a1, a2, ?_, fun j u hj => by rw [hc]; exact a4 j u hj, fun j hj => by rw [hc, hf]; exact a5 j hj⟩
  have : w.heap[g]? = some w.heap[g] := Array.getElem?_eq_getElem a3
  rw [this] at hb
  exact (Array.getElem?_eq_some_iff.1 hb).1
def rowR (sz n : Nat) (xs : List Value) : Res := ⟨fun v _ => footV v, fun v w _ => rowHolds sz n xs v w, fun _ _ _ _ => rfl, fun v w w' _ _ _ _ h hh => rowHolds_dep v w w' h hh⟩
def rowB (s : ByteArray) : Res := rowR 1 s.size (byteCells s)
def rowE (sz : Nat) (es : List Segs) : Res := rowR sz es.length (cellsE es)
def rowS (l : List ByteArray) : Res := rowR 1 l.length (l.map Value.string)

theorem rowHolds.nil (sz : Nat) (w : World) : rowHolds sz 0 [] (.slice none 0 0) w := ⟨by simp, Or.inl ⟨rfl, rfl⟩⟩
theorem rowHolds.slC {sz n : Nat} {xs : List Value} {v : Value} {w : World} (h : rowHolds sz n xs v w) : SlC sz n xs v w := by
  obtain ⟨h1, h2⟩ := h
  rcases h2 with ⟨rfl, rfl⟩ | ⟨g, c, rfl, a1, a2, a3, a4, a5⟩
  · exact ⟨h1, none, 0, rfl, Nat.le_refl _, by simp, Or.inl ⟨rfl, rfl⟩⟩
  · exact ⟨h1, _, c, rfl, a1, a2, Or.inr ⟨g, 0, rfl, a4⟩⟩

theorem size_setCells (b : Nat) : ∀ (vs : List Value) (o : Nat) (w : World), (w.setCells b o vs).heap.size = w.heap.size
  | [], _, _ => rfl
  | v :: r, o, w => by rw [World.setCells, size_setCells b r]; simp
theorem tape_setCells (b : Nat) : ∀ (vs : List Value) (o : Nat) (w : World), (w.setCells b o vs).tape = w.tape
  | [], _, _ => rfl
  | v :: r, o, w => by rw [World.setCells, tape_setCells b r]; rfl

/-- An append onto memory of one's own. -/
theorem run_append_row {P : Program} {w : World} {t tx ty e : TypeId} {de : TypeDesc} {sz by_ : Nat} {z : Value} (ht : P.underlying t = some (.slice e)) (he : TI P e de sz by_) (hz : ZI P e z) (hzs : z.cells.size = sz) {n : Nat} {xs : List Value} {v : Value}
    (hown : rowHolds sz n xs v w) {x : Value} {m : Nat} {news : List Value} (hs : Src P sz tx x m news w) (h63 : n + m ≤ maxLen) (hby : (n + m) * by_ ≤ 140737488355328) :
    ∃ v' w', (Builtin.append_ #[t, tx] ty #[v, x]).run P w = .ok v' w' ∧ rowHolds sz (n + m) (xs ++ news) v' w' ∧ Chg (fun b => b ∈ footV v) w w' ∧ ∀ b, b ∈ footV v' → b ∈ footV v ∨ (w.heap.size ≤ b ∧ b < w'.heap.size) := by
  obtain ⟨ti, hi, hsz, hbb⟩ := he.inf
  subst hsz
  subst hbb
  obtain ⟨zi, hi', hz'⟩ := hz
  rw [hi] at hi'
  injection hi' with hi'
  subst hi'
  have hsmall : n + m ≤ 9223372036854775807 := by simp only [maxLen] at h63; omega
  have hlen : (xs ++ news).length = (n + m) * ti.size := by rw [List.length_append, hown.1, hs.newsLen, Nat.add_mul]
  have grow : ∀ (base : Option Addr) (c : Nat) (hold : (Builtin.firstCells ti.size n (.slice base n c)).run P w.drew = .ok xs.toArray w.drew) (hg : c < n + m) (row : List Nat),
      ∃ v' w', (Builtin.append_ #[t, tx] ty #[.slice base n c, x]).run P w = .ok v' w' ∧ rowHolds ti.size (n + m) (xs ++ news) v' w' ∧ Chg (fun b => b ∈ row) w w' ∧ ∀ b, b ∈ footV v' → b ∈ row ∨ (w.heap.size ≤ b ∧ b < w'.heap.size) := by
    intro base c hold hg row
    have hr := run_append_grow_src (P := P) w t tx ty e ti z ht hi hz' base n c xs hold x m news hs hg (by omega) (growslice_fits hg hby)
    have hge := grownCap_ge w (n + m) c e
    have hcm := grownCap_le_maxLen w (n + m) c e h63
    have hb : (w.drew.alloc (.cells ((xs ++ news).toArray ++ Builtin.zeroCells z.cells (grownCap w (n + m) c e - (n + m))) e)).heap[w.heap.size]? = some (.cells ((xs ++ news).toArray ++ Builtin.zeroCells z.cells (grownCap w (n + m) c e - (n + m))) e (0, 0)) := heap_alloc_new w.drew _
    refine ⟨_, _, hr, ⟨hlen, Or.inr ⟨w.heap.size, _, rfl, hge, hcm, by simp, ?_, ?_⟩⟩, ⟨rfl, rfl, rfl, by simp, fun k hk _ => heap_alloc w.drew _ k hk⟩, fun b hb => ?_⟩
    · intro j u hj
      rw [cell_of hb]
      have hjl : j < (xs ++ news).length := (List.getElem?_eq_some_iff.1 hj).1
      rw [Nat.zero_add, Array.getElem?_append_left (by simpa using hjl)]
      simpa using hj
    · intro j hj
      constructor
      · rw [cell_of hb]
        have hlt : j < ((xs ++ news).toArray ++ Builtin.zeroCells z.cells (grownCap w (n + m) c e - (n + m))).size := by
          simp only [Array.size_append, List.size_toArray, size_zeroCells, hzs, hlen]
          rw [← Nat.add_mul]
          refine Nat.lt_of_lt_of_le hj (Nat.mul_le_mul_right _ ?_)
          omega
        rw [Array.getElem?_eq_getElem hlt]
        rfl
      · simp only [World.frozen?, hb]
        simp
    · simp only [footV, List.mem_singleton] at hb
      subst hb
      exact Or.inr ⟨Nat.le_refl _, by simp⟩
  rcases hown.2 with ⟨rfl, rfl⟩ | ⟨g, c, rfl, hnc, hcm, hgl, hrow, hok⟩
  · have hx : xs = [] := List.eq_nil_of_length_eq_zero (by simpa using hown.1)
    subst hx
    by_cases hm : m = 0
    · subst hm
      have hn : news = [] := List.eq_nil_of_length_eq_zero (by simpa using hs.newsLen)
      subst hn
      refine ⟨.slice none 0 0, w, ?_, rowHolds.nil _ w, Chg.refl _ _, fun b hb => Or.inl hb⟩
      rcases hs.kind with ⟨e', hk⟩ | hk <;> simp [Builtin.append_, run_underlying ht, run_underlying hk, sizeOf, typeInfo, hi, hs.len, hs.cells]
    · exact grow none 0 (run_firstCells_none w.drew ti.size 0 0 0) (by omega) _
  · by_cases hroom : n + m ≤ c
    · have hmul : n * ti.size + news.length ≤ c * ti.size := by rw [hs.newsLen, ← Nat.add_mul]; exact Nat.mul_le_mul_right _ hroom
      have hr := run_append_room_src (P := P) w t tx ty e ti ht hi g 0 n c x m news hs hroom (fun j hj => (hok _ (by omega)).1) (fun j hj => (hok _ (by omega)).2)
      rw [Nat.zero_add] at hr
      refine ⟨_, _, hr, ⟨hlen, Or.inr ⟨g, c, rfl, hroom, hcm, ?_, ?_, ?_⟩⟩, ⟨World.os_setCells _ _ _ _, ?_, World.output_setCells _ _ _ _, ?_, fun k hk hn => World.heap_setCells_other w g _ news hk (fun e => hn (by simp [footV, e]))⟩, fun b hb => Or.inl hb⟩
      · rw [size_setCells]; exact hgl
      · intro j u hj
        rw [Nat.zero_add]
        by_cases hjx : j < xs.length
        · rw [List.getElem?_append_left hjx] at hj
          rw [World.cell?_setCells_out g news _ w ⟨g, j, none⟩ (fun _ _ => Or.inl (by rw [← hown.1]; exact hjx))]
          have := hrow j u hj
          rwa [Nat.zero_add] at this
        · rw [List.getElem?_append_right (by omega)] at hj
          have hjn : j - xs.length < news.length := (List.getElem?_eq_some_iff.1 hj).1
          have := World.cell?_setCells_in g news (n * ti.size) w (fun j hj => (hok _ (by omega)).1) (j - xs.length) hjn
          rw [show n * ti.size + (j - xs.length) = j by rw [← hown.1]; omega] at this
          rw [this]
          rw [List.getElem?_eq_getElem hjn] at hj
          exact hj
      · intro j hj
        have := hok j hj
        exact ⟨World.isSome_setCells g news _ w _ this.1, by rw [World.frozen?_setCells]; exact this.2⟩
      · exact tape_setCells _ _ _ _
      · rw [size_setCells]; exact Nat.le_refl _
    · have holds : (Builtin.firstCells ti.size n (.slice (some ⟨g, 0, none⟩) n c)).run P w.drew = .ok xs.toArray w.drew :=
        run_firstCells_some w.drew ti.size n ⟨g, 0, none⟩ n c xs hown.1 (fun j u hj => by rw [add_plain]; exact hrow j u hj)
      exact grow (some ⟨g, 0, none⟩) c holds (by omega) _
end Go.Eng
