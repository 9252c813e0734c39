/- The proof engine, ninth text: rows and arrays element by element; what is one's own becomes what is read; functions that are handed something of the caller's; the program's own variables. -/
import Derived.Test.YtfgdeogphflimaaGreatDoorEVal
set_option linter.unusedVariables false
set_option linter.unusedSimpArgs false
namespace Go.Eng
open Go

/-! ### Between regions -/
section
variable {P : Program} {X : Ctx} {M : Own} {G : List (Nat × Fact)} {Q : Exit → Act → World → Prop}

def onlyM : List Nat → Own → Own
  | [], _ => []
  | t :: ts, M => match lookM t M with
    | some (some r) => (t, some r) :: onlyM ts M
    | _ => onlyM ts M
def has (t : Nat) : List Nat → Bool
  | [] => false
  | k :: ts => match Nat.beq k t with
    | true => true
    | false => has t ts
theorem has_mem {t : Nat} : ∀ {ts : List Nat}, has t ts = true → t ∈ ts
  | [], h => by cases h
  | k :: ts, h => by
    unfold has at h
    cases hb : Nat.beq k t with
    | true => rw [Nat.eq_of_beq_eq_true hb]; simp
    | false => rw [hb] at h; exact List.mem_cons_of_mem _ (has_mem h)
def cover (ts : List Nat) (M0 : Own) : Own → Bool
  | [] => true
  | (k, _) :: M => match has k ts with
    | true => cover ts M0 M
    | false => match lookM k M0 with
      | some none => cover ts M0 M
      | _ => false
theorem lookM_onlyM {k : Nat} {r : Option Res} {M : Own} : ∀ {ts : List Nat}, lookM k (onlyM ts M) = some r → lookM k M = some r
  | [], h => by cases h
  | t :: ts, h => by
    unfold onlyM at h
    cases hl : lookM t M with
    | none => rw [hl] at h; exact lookM_onlyM h
    | some o =>
      rw [hl] at h
      cases o with
      | none => exact lookM_onlyM h
      | some q =>
        simp only [lookM_cons] at h
        by_cases e : t = k
        · rw [if_pos e] at h
          rw [← e, hl, ← h]
        · rw [if_neg e] at h
          exact lookM_onlyM h
theorem onlyM_some {k : Nat} {q : Res} {M : Own} : ∀ {ts : List Nat}, k ∈ ts → lookM k M = some (some q) → lookM k (onlyM ts M) = some (some q)
  | [], h, _ => by cases h
  | t :: ts, h, hk => by
    unfold onlyM
    cases hl : lookM t M with
    | none =>
      simp only
      refine onlyM_some ((List.mem_cons.1 h).resolve_left fun e => ?_) hk
      subst e; rw [hl] at hk; cases hk
    | some o =>
      cases o with
      | none =>
        simp only
        refine onlyM_some ((List.mem_cons.1 h).resolve_left fun e => ?_) hk
        subst e; rw [hl] at hk; cases hk
      | some r =>
        simp only [lookM_cons]
        by_cases e : t = k
        · rw [if_pos e]; subst e; rw [hl] at hk; exact hk
        · rw [if_neg e]
          exact onlyM_some ((List.mem_cons.1 h).resolve_left fun e' => e e'.symm) hk
theorem cover_spec {ts : List Nat} {M0 : Own} : ∀ {M : Own}, cover ts M0 M = true → ∀ k q, lookM k M = some (some q) → lookM k M0 = some (some q) → k ∈ ts
  | [], _, k, q, h, _ => by cases h
  | (j, o) :: M, hc, k, q, h, h0 => by
    unfold cover at hc
    cases hb : has j ts with
    | true =>
      rw [hb] at hc
      rw [lookM_cons] at h
      by_cases e : j = k
      · rw [← e]; exact has_mem hb
      · rw [if_neg e] at h; exact cover_spec hc k q h h0
    | false =>
      rw [hb] at hc
      simp only at hc
      rw [lookM_cons] at h
      cases hl : lookM j M0 with
      | none => rw [hl] at hc; cases hc
      | some o' =>
        rw [hl] at hc
        cases o' with
        | some _ => cases hc
        | none =>
          simp only at hc
          by_cases e : j = k
          · rw [← e, hl] at h0; cases h0
          · rw [if_neg e] at h; exact cover_spec hc k q h h0
theorem memOf_onlyM {ts : List Nat} {M : Own} (h : cover ts M M = true) : memOf (onlyM ts M) = memOf M := by
  funext k
  cases hm : memOf M k with
  | none =>
    cases hm' : memOf (onlyM ts M) k with
    | none => rfl
    | some q =>
      exfalso
      simp only [memOf] at hm hm'
      cases hl : lookM k (onlyM ts M) with
      | none => rw [hl] at hm'; cases hm'
      | some o =>
        rw [hl] at hm'
        simp only [Option.getD_some] at hm'
        rw [hm'] at hl
        rw [lookM_onlyM hl] at hm
        cases hm
  | some q =>
    have hk : lookM k M = some (some q) := by
      simp only [memOf] at hm
      cases hl : lookM k M with
      | none => rw [hl] at hm; cases hm
      | some o => rw [hl] at hm; simp only [Option.getD_some] at hm; rw [hm]
    exact mem_of_memOf (onlyM_some (cover_spec h k q hk hk) hk)
theorem St.mem_eq {M' : Own} {a : Act} {w : World} (h : St X M G a w) (e : memOf M' = memOf M) : St X M' G a w := ⟨h.defers, h.size, by rw [e]; exact h.mem, by rw [e]; exact h.know⟩
/-- A state, told by fewer words: at a loop's head. -/
theorem st_is {M' : Own} {G' : List (Nat × Fact)} (ks ts : List Nat) (hG : only ts G = G') (hM : onlyM ks M = M') (hc : cover ks M M = true) : ∀ a w, St X M G a w → St X M' G' a w := fun a w h => by
  subst hG; subst hM
  exact (h.only ts).mem_eq (memOf_onlyM hc)
theorem tr_is {c : Code} {M' : Own} {G' : List (Nat × Fact)} (ks ts : List Nat) (hG : only ts G = G') (hM : onlyM ks M = M') (hc : cover ks M M = true) (h : Tr P X c M' G' Q) : Tr P X c M G Q := fun a w hs => h a w (st_is ks ts hG hM hc a w hs)
/-- What is known is told in other words. -/
theorem tr_fact {c : Code} {φ ψ : Pred} (k : Nat) (hφ : ∀ v w, φ v w → ψ v w) (hk : look k G = some (.plain φ)) (h : Tr P X c M ((k, .plain ψ) :: G) Q) : Tr P X c M G Q := fun a w hs => by
  refine h a w ⟨hs.defers, hs.size, hs.mem, hs.know.imp fun w' hw t φ' ht => ?_⟩
  rw [look_cons] at ht
  by_cases e : k = t
  · rw [if_pos e] at ht
    injection ht with ht
    subst ht; subst e
    exact hφ _ _ (hw k _ hk)
  · rw [if_neg e] at ht
    exact hw t φ' ht
/-- WHAT IS ONE's OWN IS READ FROM NOW ON. -/
theorem St.freeze {k : Nat} {r : Res} {a : Act} {w : World} (h : St X M G a w) (hk : lookM k M = some (some r)) : St X ((k, none) :: M) ((k, .plain fun v w => r.holds v w Nobody) :: G) a w := by
  have hkM := mem_of_memOf hk
  have e : memOf ((k, none) :: M) = upd (memOf M) [(k, none)] := memOf_append [(k, none)] M
  have hsub : ∀ j q, memOf ((k, none) :: M) j = some q → j ≠ k ∧ memOf M j = some q := by
    intro j q hj
    rw [e, upd_one] at hj
    by_cases hkj : k = j
    · rw [if_pos hkj] at hj; cases hj
    · rw [if_neg hkj] at hj
      exact ⟨fun x => hkj x.symm, hj⟩
  have hin : ∀ b, inFoot (memOf ((k, none) :: M)) a w b → inFoot (memOf M) a w b := by
    rintro b ⟨j, q, hj, hb⟩
    exact ⟨j, q, (hsub j q hj).2, hb⟩
  have hmem : Mem X (memOf ((k, none) :: M)) a w := ⟨h.mem.h0, h.mem.frame, fun j q hj => q.grow _ w w _ _ (Chg.refl _ _) (fun b _ hb => hb.imp id (hin b)) (fun _ _ => rfl) (h.mem.holds j q (hsub j q hj).2), fun b hb => h.mem.own b (hin b hb),
    fun j j' q q' hj hj' => h.mem.apart j j' q q' (hsub j q hj).2 (hsub j' q' hj').2⟩
  refine ⟨h.defers, h.size, hmem, ?_⟩
  intro w' hc t φ ht
  rw [look_cons] at ht
  by_cases et : k = t
  · rw [if_pos et] at ht
    injection ht with ht
    subst ht; subst et
    refine r.grow _ w w' _ _ (hc.mono fun b _ hb => hb.imp id (hin b)) (fun _ _ x => x.elim) (fun b hb => ?_) (h.mem.holds k r hkM)
    have hown := h.mem.own b ⟨k, r, hkM, hb⟩
    refine hc.block b hown.1 fun hx => ?_
    rcases hx with hx | ⟨j, q, hj, hx⟩
    · exact hown.2.1 hx
    · obtain ⟨h1, h2⟩ := hsub j q hj
      exact h.mem.apart k j r q hkM h2 (fun e => h1 e.symm) b hb hx
  · rw [if_neg et] at ht
    exact (h.know.mono (fun b _ hx => hx.imp id (hin b))) w' hc t φ ht
theorem tr_freeze {c : Code} {r : Res} (k : Nat) (hk : lookM k M = some (some r)) (h : Tr P X c ((k, none) :: M) ((k, .plain fun v w => r.holds v w Nobody) :: G) Q) : Tr P X c M G Q := fun a w hs => h a w (hs.freeze hk)
theorem nx_freeze {r : Res} (k : Nat) (hk : lookM k M = some (some r)) (h : Nx X Q ((k, none) :: M) ((k, .plain fun v w => r.holds v w Nobody) :: G)) : Nx X Q M G := fun a w hs => h a w (hs.freeze hk)
theorem rt_freeze {r : Res} (k : Nat) (hk : lookM k M = some (some r)) (h : Rt X Q ((k, none) :: M) ((k, .plain fun v w => r.holds v w Nobody) :: G)) : Rt X Q M G := fun a w hs => h a w (hs.freeze hk)
/-- A row that is read. -/
theorem tr_freezeR {c : Code} {sz n : Nat} {xs : List Value} (k : Nat) (hk : lookM k M = some (some (rowR sz n xs))) (h : Tr P X c ((k, none) :: M) ((k, .plain (SlC sz n xs)) :: G) Q) : Tr P X c M G Q :=
  tr_freeze k hk (tr_fact (φ := fun v w => (rowR sz n xs).holds v w Nobody) (ψ := SlC sz n xs) k (fun v w hv => rowHolds.slC (show rowHolds sz n xs v w from hv)) (by simp [look_cons]) fun a w hs => h a w (hs.forget fun t φ ht => by
    rw [look_cons] at ht
    by_cases e : k = t
    · rw [if_pos e] at ht
      injection ht with ht
      subst ht
      exact ⟨_, by rw [look_cons, if_pos e], fun _ _ _ x => x⟩
    · rw [if_neg e] at ht
      exact ⟨φ, by rw [look_cons, if_neg e, look_cons, if_neg e]; exact ht, fun _ _ _ x => x⟩))
theorem boxS_ref {S : Segs} {t : TypeId} {v : Value} {w : World} (h : (boxS S t).holds v w Nobody) : RefC (flat S) v w := by
  obtain ⟨b, rfl, hb⟩ := h
  exact ⟨b, 0, rfl, by have := RowAt.of_block hb; simpa using this⟩
end

section
variable {P : Program} {X : Ctx} {l0 : List Oper} {i : Nat} {l : List Oper} {C : List Touch → Prop} {acc : List Touch} {M : Own} {G : List (Nat × Fact)} {K : Own → List (Nat × Fact) → Prop}
  {d : Nat} {ty : TypeId} {ps : String} {af : Array Edge} {gd : Option (Nat × Bool)}

/-! ### Parts of slices -/

/-- A part of a slice that is read. -/
theorem t_cut {T e : TypeId} {de : TypeDesc} {sz by_ n : Nat} {cs cs' : List Value} {x : Operand} {lo hi : Option Operand} (m h : Nat) (hT : P.underlying T = some (.slice e)) (he : TI P e de sz by_) (hx : arg G x = some (.plain (SlC sz n cs))) (hlo : bnd G lo 0 m) (hhi : bnd G hi n h) (hmh : m ≤ h) (hh : h ≤ n) (hcs : (cs.drop (m * sz)).take ((h - m) * sz) = cs')
    (k : Te P X l0 C (⟨[d], [], none⟩ :: acc) (i + 1) l M ((d, .plain (SlC sz (h - m) cs')) :: G) K) (hg : Takes l0 G gd := by trivial) (hi' : l0[i]? = some ⟨some d, .slice T x lo hi none, ty, ps, af, gd⟩ := by rfl) (hM : owns M (some d) = false := by rfl) (hG : refdO (some d) G = false := by rfl) :
    Te P X l0 C acc i (⟨some d, .slice T x lo hi none, ty, ps, af, gd⟩ :: l) M G K :=
  t_pred (SlC sz (h - m) cs') (fun a => by
    have run : ∀ (A : Option Addr) (c : Nat) (w : World), a.eval x = .slice A n c → n ≤ c → given ⟨some d, .slice T x lo hi none, ty, ps, af, gd⟩ G a w →
        (execOp a.eval ⟨some d, .slice T x lo hi none, ty, ps, af, gd⟩).run P w = .ok (.value (.slice (if c = m then A else A.map (·.add (m * sz))) (h - m) (c - m))) w := by
      intro A c w hv hnc hw
      have hb := run_bounds (P := P) (sl := true) hlo hhi hmh (by omega) hnc a w (cut_ops hw)
      show ((do let v ← Instr.sliceAt T (a.eval x) (lo.map a.eval) (hi.map a.eval) none; Pure.pure (Next.value v)) : Sem Next).run P w = _
      rw [hv]
      simp only [Instr.sliceAt, Sem.run_bind, run_underlying hT, Result.andThen]
      simp [Instr.slice, run_underlying hT, Result.andThen, hb, he.size]
    by_cases hs : ∃ A c, a.eval x = .slice A n c
    · obtain ⟨A, c, hv⟩ := hs
      refine ⟨.slice (if c = m then A else A.map (·.add (m * sz))) (h - m) (c - m), fun w hw => ?_⟩
      obtain ⟨hl, A', c', hv', hnc, hcm, hr⟩ := hw x (by simp [Op.operands]) _ hx
      rw [hv] at hv'
      injection hv' with h1 _ h2
      subst h1; subst h2
      refine ⟨⟨?_, _, _, rfl, by omega, by omega, ?_⟩, run A c w hv hnc hw⟩
      · rw [← hcs, List.length_take, List.length_drop, hl]
        rw [Nat.sub_mul]
        have := Nat.mul_le_mul_right sz hh
        omega
      · rcases hr with ⟨rfl, h0⟩ | ⟨b, o, rfl, hr⟩
        · left
          refine ⟨by split <;> rfl, by omega⟩
        · right
          by_cases hcm' : c = m
          · refine ⟨b, o, by rw [if_pos hcm'], ?_⟩
            have : cs' = [] := by rw [← hcs, show h - m = 0 by omega]; simp
            rw [this]
            intro j u hj
            simp at hj
          · refine ⟨b, o + m * sz, by rw [if_neg hcm']; simp [add_plain], ?_⟩
            rw [← hcs]
            exact (hr.drop _).take _
    · refine ⟨undef, fun w hw => ?_⟩
      obtain ⟨_, A', c', hv', _⟩ := hw x (by simp [Op.operands]) _ hx
      exact absurd ⟨A', c', hv'⟩ hs) k hg hi' hM hG

/-- A slice's first elements, as an array. -/
theorem t_s2ap {T e : TypeId} {n N : Nat} {cs cs' : List Value} {x : Operand} {sz : Nat} (hT : P.underlying T = some (.array N e)) (hx : arg G x = some (.plain (SlC sz n cs))) (h0 : 0 < N) (hN : N ≤ n) (hcs : cs.take (N * sz) = cs')
    (k : Te P X l0 C (⟨[d], [], none⟩ :: acc) (i + 1) l M ((d, .plain (RefC cs')) :: G) K) (hg : Takes l0 G gd := by trivial) (hi : l0[i]? = some ⟨some d, .sliceToArrayPointer T x, ty, ps, af, gd⟩ := by rfl) (hM : owns M (some d) = false := by rfl) (hG : refdO (some d) G = false := by rfl) :
    Te P X l0 C acc i (⟨some d, .sliceToArrayPointer T x, ty, ps, af, gd⟩ :: l) M G K :=
  t_pred (RefC cs') (fun a => by
    by_cases hs : ∃ b o c, a.eval x = .slice (some ⟨b, o, none⟩) n c
    · obtain ⟨b, o, c, hv⟩ := hs
      refine ⟨.pointer (some ⟨b, o, none⟩), fun w hw => ?_⟩
      obtain ⟨hl, A', c', hv', hnc, hcm, hr⟩ := hw x (by simp [Op.operands]) _ hx
      rw [hv] at hv'
      injection hv' with h1 _ h2
      subst h1
      rcases hr with ⟨h, _⟩ | ⟨b', o', h, hr⟩
      · cases h
      · injection h with h
        injection h with h1 h2
        subst h1; subst h2
        refine ⟨⟨b, o, rfl, by rw [← hcs]; exact hr.take _⟩, ?_⟩
        show ((do let v ← Instr.arrayAt T (a.eval x); Pure.pure (Next.value v)) : Sem Next).run P w = _
        rw [hv]
        simp [Instr.arrayAt, run_underlying hT, Result.andThen, show ¬ n < N by omega]
    · refine ⟨undef, fun w hw => ?_⟩
      obtain ⟨_, A', c', hv', _, _, hr⟩ := hw x (by simp [Op.operands]) _ hx
      rcases hr with ⟨_, h⟩ | ⟨b, o, rfl, _⟩
      · omega
      · exact absurd ⟨b, o, c', hv'⟩ hs) k hg hi hM hG
theorem t_s2aps {T e : TypeId} {N k off len cap : Nat} {x : Operand} (hT : P.underlying T = some (.array N e)) (hx : arg G x = some (.sli k off len cap)) (hN : Nat.ble N len = true)
    (kk : Te P X l0 C (⟨[d], [], some k⟩ :: acc) (i + 1) l M ((d, .ptr k off) :: G) K) (hne : Nat.beq k d = false := by rfl) (hg : Takes l0 G gd := by trivial) (hi : l0[i]? = some ⟨some d, .sliceToArrayPointer T x, ty, ps, af, gd⟩ := by rfl) (hM : owns M (some d) = false := by rfl) (hG : refdO (some d) G = false := by rfl) :
    Te P X l0 C acc i (⟨some d, .sliceToArrayPointer T x, ty, ps, af, gd⟩ :: l) M G K := by
  refine t_clean (o := ⟨some d, .sliceToArrayPointer T x, ty, ps, af, gd⟩) (φ := .ptr k off) (Ob.val hi hg fun M a w hn hm _ _ hp3 hk => ?_) hM hG kk
  have hv := hk.now x (by simp [Op.operands]) _ hx
  have hkd : d ≠ k := fun e => by subst e; simp at hne
  have hN' := Nat.le_of_ble_eq_true hN
  simp only [sem] at hv
  refine ⟨.pointer (some ⟨blk (a.tmps.getD k undef), off, none⟩), w, ?_, Stepd.of_clean hm (dst_none hp3) (Chg.refl _ _), Know.const ?_⟩
  · show ((do let v ← Instr.arrayAt T (a.eval x); Pure.pure (Next.value v)) : Sem Next).run P w = _
    rw [hv]
    simp [Instr.arrayAt, run_underlying hT, Result.andThen, show ¬ len < N by omega]
  · simp only [sem]
    rw [getD_put_ne hkd]
/-- A part of a variable's array, as a slice. -/
theorem t_slarrc {T e : TypeId} {len n by_ n' b' k off off' : Nat} {de : TypeDesc} {x : Operand} {lo hi : Option Operand} (m h : Nat) (ht : TI P T (.array len e) n by_) (he : TI P e de n' b') (hx : arg G x = some (.ptr k off)) (hlo : bnd G lo 0 m) (hhi : bnd G hi len h) (hmh : m ≤ h) (hh : h ≤ len) (hml : m < len) (ho : off + m * n' = off')
    (kk : Te P X l0 C (⟨[d], [], some k⟩ :: acc) (i + 1) l M ((d, .sli k off' (h - m) (len - m)) :: G) K) (hne : Nat.beq k d = false := by rfl) (hg : Takes l0 G gd := by trivial) (hi' : l0[i]? = some ⟨some d, .slice T x lo hi none, ty, ps, af, gd⟩ := by rfl) (hM : owns M (some d) = false := by rfl) (hG : refdO (some d) G = false := by rfl) :
    Te P X l0 C acc i (⟨some d, .slice T x lo hi none, ty, ps, af, gd⟩ :: l) M G K := by
  refine t_clean (o := ⟨some d, .slice T x lo hi none, ty, ps, af, gd⟩) (φ := .sli k off' (h - m) (len - m)) (Ob.val hi' hg fun M a w hn hm _ _ hp3 hk => ?_) hM hG kk
  have hv := hk.now x (by simp [Op.operands]) _ hx
  have hkd : d ≠ k := fun e => by subst e; simp at hne
  have hb := run_bounds (P := P) (sl := false) hlo hhi hmh hh (Nat.le_refl _) a w (cut_ops hk.now)
  refine ⟨.slice (some ⟨blk (a.tmps.getD k undef), off', none⟩) (h - m) (len - m), w, ?_, Stepd.of_clean hm (dst_none hp3) (Chg.refl _ _), Know.const ?_⟩
  · simp only [sem] at hv
    show ((do let v ← Instr.sliceAt T (a.eval x) (lo.map a.eval) (hi.map a.eval) none; Pure.pure (Next.value v)) : Sem Next).run P w = _
    rw [hv]
    simp [Instr.sliceAt, hb, ht.run, Result.andThen, sureAddr_ptr, he.size, add_plain, show ¬ len = m by omega, ho]
  · simp only [sem]
    rw [getD_put_ne hkd]

/-! ### Element by element -/

/-- A row that a slot owns, under a second name. -/
theorem t_mvrow {k sz n : Nat} {xs : List Value} (hb : lookM k M = some (some (rowR sz n xs)))
    (kk : Te P X l0 C (⟨[d], [], some k⟩ :: acc) (i + 1) l M ((d, .same k) :: G) K) (hne : Nat.beq k d = false := by rfl) (hg : Takes l0 G gd := by trivial) (hi : l0[i]? = some ⟨some d, .move (.tmp k), ty, ps, af, gd⟩ := by rfl) (hM : owns M (some d) = false := by rfl) (hG : refdO (some d) G = false := by rfl) :
    Te P X l0 C acc i (⟨some d, .move (.tmp k), ty, ps, af, gd⟩ :: l) M G K := by
  refine t_clean (o := ⟨some d, .move (.tmp k), ty, ps, af, gd⟩) (φ := .same k) (Ob.val hi hg fun M a w hn hm _ _ hp3 hk => ?_) hM hG kk
  have hkd : d ≠ k := fun e => by subst e; simp at hne
  refine ⟨a.tmps.getD k undef, w, rfl, Stepd.of_clean hm (dst_none hp3) (Chg.refl _ _), Know.const ?_⟩
  simp only [sem]
  rw [getD_put_ne hkd]
/-- A variable that a slot owns, under a second name. -/
theorem t_mvbox {k : Nat} {S : Segs} {t : TypeId} (hb : lookM k M = some (some (boxS S t)))
    (kk : Te P X l0 C (⟨[d, k], [], some k⟩ :: acc) (i + 1) l M ((d, .ptr k 0) :: G) K) (hne : Nat.beq k d = false := by rfl) (hg : Takes l0 G gd := by trivial) (hi : l0[i]? = some ⟨some d, .move (.tmp k), ty, ps, af, gd⟩ := by rfl) (hM : owns M (some d) = false := by rfl) (hG : refdO (some d) G = false := by rfl) :
    Te P X l0 C acc i (⟨some d, .move (.tmp k), ty, ps, af, gd⟩ :: l) M G K := by
  have hkd : d ≠ k := fun e => by subst e; simp at hne
  refine Te.op (o := ⟨some d, .move (.tmp k), ty, ps, af, gd⟩) [(k, boxS S t)] (.ptr k 0) [] (Ob.val hi hg fun M a w hn hm hp1 _ hp3 hk => ?_) (by simp [mem_of_memOf hb]) (by simp) (fun d' hd' => by injection hd' with hd'; subst hd'; exact ⟨Or.inl (owns_none hM), hG⟩) kk
  obtain ⟨b, hv, _⟩ := hm.holds k _ (hp1 (k, boxS S t) (by simp))
  have hd : M d = none := by
    rcases hp3 d rfl with h | h
    · exact h
    · simp at h; exact absurd h hkd
  refine ⟨a.tmps.getD k undef, w, rfl, Stepd.of_clean hm (fun k' hk' => by injection hk' with hk'; subst hk'; exact hd) (Chg.refl _ _), Know.const ?_⟩
  simp only [sem]
  rw [getD_put_ne hkd, hv]
  rfl
/-- How a row is named: by its slot, or by a second name. -/
def named (G : List (Nat × Fact)) (x : Operand) (k : Nat) : Prop := x = .tmp k ∨ arg G x = some (.same k)
theorem named_eval {x : Operand} {k : Nat} {a : Act} {w : World} (h : named G x k) (hw : ∀ ψ, arg G x = some ψ → sem ψ (a.eval x) a w) : a.eval x = a.tmps.getD k undef := by
  rcases h with rfl | h
  · rfl
  · exact hw _ h
/-- The address of an element of a row of one's own. -/
theorem t_rowIdx {T e : TypeId} {de : TypeDesc} {sz by_ n k : Nat} {xs : List Value} {x y : Operand} {j : IntKind} {m : Int} (hT : P.underlying T = some (.slice e)) (he : TI P e de sz by_) (hx : named G x k) (hb : lookM k M = some (some (rowR sz n xs))) (hy : arg G y = some (EqV (.int j m))) (h0 : 0 ≤ m) (hm : m < n)
    (kk : Te P X l0 C (⟨[d, k], [], some k⟩ :: acc) (i + 1) l M ((d, .ptr k (m.toNat * sz)) :: G) K) (hne : Nat.beq k d = false := by rfl) (hg : Takes l0 G gd := by trivial) (hi : l0[i]? = some ⟨some d, .indexAddr T x y, ty, ps, af, gd⟩ := by rfl) (hM : owns M (some d) = false := by rfl) (hG : refdO (some d) G = false := by rfl) :
    Te P X l0 C acc i (⟨some d, .indexAddr T x y, ty, ps, af, gd⟩ :: l) M G K := by
  have hkd : d ≠ k := fun e => by subst e; simp at hne
  refine Te.op (o := ⟨some d, .indexAddr T x y, ty, ps, af, gd⟩) [(k, rowR sz n xs)] (.ptr k (m.toNat * sz)) [] (Ob.val hi hg fun M a w hn hm' hp1 _ hp3 hk => ?_) (by simp [mem_of_memOf hb]) (by simp) (fun d' hd' => by injection hd' with hd'; subst hd'; exact ⟨Or.inl (owns_none hM), hG⟩) kk
  have hd : M d = none := by
    rcases hp3 d rfl with h | h
    · exact h
    · simp at h; exact absurd h hkd
  have hvx := named_eval hx (hk.now x (by simp [Op.operands]))
  have hvy : a.eval y = .int j m := hk.now y (by simp [Op.operands]) _ hy
  have hr : rowHolds sz n xs (a.tmps.getD k undef) w := hm'.holds k _ (hp1 (k, rowR sz n xs) (by simp))
  rcases hr.2 with ⟨_, h⟩ | ⟨g, c, hv, _⟩
  · omega
  · refine ⟨.pointer (some ⟨g, m.toNat * sz, none⟩), w, ?_, Stepd.of_clean hm' (fun k' hk' => by injection hk' with hk'; subst hk'; exact hd) (Chg.refl _ _), Know.const ?_⟩
    · show ((do let v ← Instr.indexAt T (a.eval x) (a.eval y); Pure.pure (Next.value v)) : Sem Next).run P w = _
      rw [hvx, hvy, hv]
      simp [Instr.indexAt, asIntOf, run_underlying hT, Result.andThen, h0, hm, he.size, add_plain]
    · simp only [sem]
      rw [getD_put_ne hkd, hv]
      rfl
/-- An element of a row of one's own: of one cell. -/
theorem t_rowLoad {T : TypeId} {dd : TypeDesc} {by_ n k off : Nat} {xs : List Value} {x : Operand} (v : Value) (ht : TI P T dd 1 by_) (hag : aggD dd = false) (hx : arg G x = some (.ptr k off)) (hb : lookM k M = some (some (rowR 1 n xs))) (hv : xs[off]? = some v)
    (kk : Te P X l0 C (⟨[d, k], [], none⟩ :: acc) (i + 1) l M ((d, EqV v) :: G) K) (hg : Takes l0 G gd := by trivial) (hi : l0[i]? = some ⟨some d, .load T x, ty, ps, af, gd⟩ := by rfl) (hM : owns M (some d) = false := by rfl) (hG : refdO (some d) G = false := by rfl) :
    Te P X l0 C acc i (⟨some d, .load T x, ty, ps, af, gd⟩ :: l) M G K :=
  t_read (fun a w hw hr => by
    have hvx := hw x (by simp [Op.operands]) _ hx
    simp only [sem] at hvx
    obtain ⟨_, hr⟩ := hr
    have hr : rowHolds 1 n xs (a.tmps.getD k undef) w := hr
    rcases hr.2 with ⟨hv0, h⟩ | ⟨g, c, hv0, _, _, _, hrow, _⟩
    · have h1 := hr.1
      rw [h] at h1
      have := List.eq_nil_of_length_eq_zero (by simpa using h1)
      subst this
      simp at hv
    · rw [hv0] at hvx
      show ((do let v ← Instr.loadAt T (a.eval x); Pure.pure (Next.value v)) : Sem Next).run P w = _
      rw [hvx]
      have := run_loadVar ht (w := w) (b := g) (o := off) (cs := [v]) rfl (fun j u hj => by
        cases j with
        | zero =>
          simp only [List.getElem?_cons_zero, Option.some.injEq] at hj
          subst hj
          have := hrow off v hv
          rwa [Nat.zero_add] at this
        | succ j => simp at hj) v (Or.inr ⟨hag, rfl⟩)
      simp only [Instr.loadAt, Sem.run_bind, sureAddr_ptr, Result.andThen, blk, this, Sem.run_pure]) hb kk hg hi hM hG
theorem frozen_setCells (b : Nat) (vs : List Value) (o : Nat) (w : World) (a : Addr) : (w.setCells b o vs).frozen? a = w.frozen? a := World.frozen?_setCells _ _ _ _ _
theorem run_store1 {P : Program} (w : World) (b o : Nat) (v : Value) (hc : (w.cell? ⟨b, o, none⟩).isSome = true) (hf : w.frozen? ⟨b, o, none⟩ = false) (ho : v.oneCell' = true) : (storeCells ⟨b, o, none⟩ [v]).run P w = .ok () (w.setCells b o [v]) := by
  have := run_storeCells_cells (P := P) b o [v] 0 w (fun j hj => by simp at hj; subst hj; simpa using hc) (fun j hj => by simp at hj; subst hj; simpa using hf) (by simpa using ho)
  simpa using this
theorem rowHolds.set {n off : Nat} {xs : List Value} {u : Value} {w : World} {g c : Nat} (h : rowHolds 1 n xs (.slice (some ⟨g, 0, none⟩) n c) w) (ho : off < xs.length) : rowHolds 1 n (xs.set off u) (.slice (some ⟨g, 0, none⟩) n c) (w.setCells g off [u]) := by
  obtain ⟨h1, h2⟩ := h
  rcases h2 with ⟨h2, _⟩ | ⟨g', c', h2, a1, a2, a3, a4, a5⟩
  · cases h2
  · injection h2 with e1 _ e2
    injection e1 with e1
    injection e1 with e1 _
    subst e1; subst e2
    refine ⟨by rw [List.length_set]; exact h1, Or.inr ⟨g, c, rfl, a1, a2, by rw [size_setCells]; exact a3, ?_, ?_⟩⟩
    · intro j x hj
      rw [Nat.zero_add]
      by_cases e : j = off
      · subst e
        have := World.cell?_setCells_in g [u] j w (fun i hi => by
          simp at hi; subst hi
          exact (a5 j (by have := h1; omega)).1) 0 (by simp)
        rw [Nat.add_zero] at this
        rw [this, ← hj, List.getElem?_set_self ho]
        rfl
      · rw [World.cell?_setCells_out g [u] off w ⟨g, j, none⟩ (fun _ _ => by simp; omega)]
        rw [List.getElem?_set_ne (fun x => e x.symm)] at hj
        have := a4 j x hj
        rwa [Nat.zero_add] at this
    · intro j hj
      have := a5 j hj
      exact ⟨World.isSome_setCells g [u] off w _ this.1, by rw [frozen_setCells]; exact this.2⟩
/-- A store into an element of a row of one's own: of one cell. -/
theorem t_rowStore {T : TypeId} {dd : TypeDesc} {by_ n k off : Nat} {xs : List Value} {x y : Operand} {v : Value} (ht : TI P T dd 1 by_) (hx : arg G x = some (.ptr k off)) (hb : lookM k M = some (some (rowR 1 n xs))) (hy : arg G y = some (EqV v)) (ho : v.oneCell' = true) (hoff : off < xs.length)
    (kk : Te P X l0 C (⟨[k], [k], none⟩ :: acc) (i + 1) l ((k, some (rowR 1 n (xs.set off v))) :: M) G K) (hg : Takes l0 G gd := by trivial) (hi : l0[i]? = some ⟨none, .store T x y, ty, ps, af, gd⟩ := by rfl) :
    Te P X l0 C acc i (⟨none, .store T x y, ty, ps, af, gd⟩ :: l) M G K := by
  refine Te.op (o := ⟨none, .store T x y, ty, ps, af, gd⟩) [(k, rowR 1 n xs)] (EqV undef) [(k, some (rowR 1 n (xs.set off v)))] (Ob.skip hi hg fun M a w hn hm hp1 _ hp3 hk => ?_) (by simp [mem_of_memOf hb]) (by simp) (fun d' hd' => by cases hd') kk
  have hvx := hk.now x (by simp [Op.operands]) _ hx
  have hvy : a.eval y = v := hk.now y (by simp [Op.operands]) _ hy
  have hkM := hp1 (k, rowR 1 n xs) (by simp)
  have hr : rowHolds 1 n xs (a.tmps.getD k undef) w := hm.holds k _ hkM
  simp only [sem] at hvx
  rcases hr.2 with ⟨_, h⟩ | ⟨g, c, hv, hnc, _, hgl, hrow, hok⟩
  · have := hr.1
    omega
  · rw [hv] at hvx
    simp only [blk] at hvx
    have hlen := hr.1
    have hk2 := hok off (by omega)
    have hst := run_store1 (P := P) w g off v hk2.1 hk2.2 ho
    have hfoot : ∀ b, b ∈ (rowR 1 n xs).foot (a.tmps.getD k undef) w ↔ b = g := by
      intro b
      rw [hv]
      simp [rowR, footV]
    refine ⟨w.setCells g off [v], ?_, Stepd.write hm hkM ⟨World.os_setCells _ _ _ _, tape_setCells _ _ _ _, World.output_setCells _ _ _ _, by rw [size_setCells]; exact Nat.le_refl _, fun b hb hn => World.heap_setCells_other w g _ [v] hb (fun e => hn (by rw [hfoot]; exact e))⟩ (fun _ _ => by
      rw [hv] at hr ⊢
      exact hr.set hoff) (fun b hb => Or.inl hb)⟩
    show ((do Instr.storeAt T (a.eval x) (a.eval y); Pure.pure Next.skip) : Sem Next).run P w = _
    rw [hvx, hvy]
    have hcells : v.cells = #[v] := one_cells ho
    simp [Instr.storeAt, storeVar, sureAddr_ptr, hcells, ht.size, hst, Result.andThen]

/-- One segment, element by element. -/
def Sg.put (s : Sg) (off : Nat) (v : Value) (h : v.oneCell' = true) : Sg := ⟨s.n, s.cs.set off v, by rw [List.length_set]; exact s.h, fun u hu => by
  rcases List.mem_or_eq_of_mem_set hu with h' | h'
  · exact s.one u h'
  · rw [h']; exact h⟩
theorem t_arrLoad {T : TypeId} {x : Operand} {k off b : Nat} {dd : TypeDesc} {s : Sg} {t : TypeId} (v : Value) (ht : TI P T dd 1 b) (hag : aggD dd = false) (ha : arg G x = some (.ptr k off)) (hb : lookM k M = some (some (boxS [s] t))) (hv : s.cs[off]? = some v)
    (kk : Te P X l0 C (⟨[d, k], [], none⟩ :: acc) (i + 1) l M ((d, EqV v) :: G) K) (hg : Takes l0 G gd := by trivial) (hi : l0[i]? = some ⟨some d, .load T x, ty, ps, af, gd⟩ := by rfl) (hM : owns M (some d) = false := by rfl) (hG : refdO (some d) G = false := by rfl) :
    Te P X l0 C acc i (⟨some d, .load T x, ty, ps, af, gd⟩ :: l) M G K :=
  t_read (fun a w hw hr => by
    have hvx := hw x (by simp [Op.operands]) _ ha
    simp only [sem] at hvx
    obtain ⟨_, g, hg1, hg2⟩ := hr
    rw [hg1] at hvx
    show ((do let v ← Instr.loadAt T (a.eval x); Pure.pure (Next.value v)) : Sem Next).run P w = _
    rw [hvx]
    have := run_loadVar ht (w := w) (b := g) (o := off) (cs := [v]) rfl (fun j u hj => by
      cases j with
      | zero =>
        simp only [List.getElem?_cons_zero, Option.some.injEq] at hj
        subst hj
        rw [cell_of hg2]
        simpa [flat] using hv
      | succ j => simp at hj) v (Or.inr ⟨hag, rfl⟩)
    simp only [Instr.loadAt, Sem.run_bind, sureAddr_ptr, Result.andThen, blk, this, Sem.run_pure]) hb kk hg hi hM hG
theorem t_arrStore {T : TypeId} {x y : Operand} {k off b : Nat} {dd : TypeDesc} {s : Sg} {t : TypeId} {v : Value} (ho : v.oneCell' = true) (ht : TI P T dd 1 b) (ha : arg G x = some (.ptr k off)) (hb : lookM k M = some (some (boxS [s] t))) (hy : arg G y = some (EqV v)) (hoff : off < s.n)
    (kk : Te P X l0 C (⟨[k], [k], none⟩ :: acc) (i + 1) l ((k, some (boxS [s.put off v ho] t)) :: M) G K) (hg : Takes l0 G gd := by trivial) (hi : l0[i]? = some ⟨none, .store T x y, ty, ps, af, gd⟩ := by rfl) :
    Te P X l0 C acc i (⟨none, .store T x y, ty, ps, af, gd⟩ :: l) M G K := by
  refine Te.op (o := ⟨none, .store T x y, ty, ps, af, gd⟩) [(k, boxS [s] t)] (EqV undef) [(k, some (boxS [s.put off v ho] t))] (Ob.skip hi hg fun M a w hn hm hp1 _ hp3 hk => ?_) (by simp [mem_of_memOf hb]) (by simp) (fun d' hd' => by cases hd') kk
  have hvx := hk.now x (by simp [Op.operands]) _ ha
  have hvy : a.eval y = v := hk.now y (by simp [Op.operands]) _ hy
  have hkM := hp1 (k, boxS [s] t) (by simp)
  obtain ⟨b', hbv, hbh⟩ := hm.holds k _ hkM
  simp only [sem] at hvx
  have hblk : blk (a.tmps.getD k undef) = b' := by rw [hbv]; rfl
  rw [hblk] at hvx
  have hst := run_storeCells_at P b' off t [v] 0 (flat [s]).toArray w hbh (by simp [flat, s.h]; omega) (by simpa using ho)
  have hnew : ((flat [s]).toArray.toList.take (off + 0) ++ [v] ++ (flat [s]).toArray.toList.drop (off + 0 + [v].length)) = flat [s.put off v ho] := by
    simp only [flat, List.flatMap_cons, List.flatMap_nil, List.append_nil, Nat.add_zero, List.length_singleton, Sg.put]
    have : off < s.cs.length := by rw [s.h]; exact hoff
    rw [List.set_eq_take_append_cons_drop, if_pos this]
    simp
  refine ⟨w.setRow b' (flat [s.put off v ho]).toArray, ?_, Stepd.write hm hkM (Chg.of_setRow (by show b' ∈ [blk (a.tmps.getD k undef)]; rw [hblk]; simp)) (fun _ _ => ⟨b', hbv, setRow_heap w b' _ _ t _ hbh⟩) (fun _ h => Or.inl h)⟩
  show ((do Instr.storeAt T (a.eval x) (a.eval y); Pure.pure Next.skip) : Sem Next).run P w = _
  rw [hvx, hvy]
  rw [hnew] at hst
  have hcells : v.cells = #[v] := one_cells ho
  simp [Instr.storeAt, storeVar, sureAddr_ptr, hcells, ht.size, hst, Result.andThen]
end
end Go.Eng
