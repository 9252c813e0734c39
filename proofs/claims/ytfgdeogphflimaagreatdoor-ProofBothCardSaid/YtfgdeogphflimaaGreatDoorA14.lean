/- Walks: forks checked. Printed by wip/tools/gen.py out of wip/proofs/A14.py. -/
import Derived.Test.YtfgdeogphflimaaGreatDoorA13
set_option linter.unusedVariables false
set_option linter.unusedSimpArgs false
set_option maxHeartbeats 4000000
namespace Go.Eng
open Go Go.Proofs
/-- A proof by two words of node 0. -/
abbrev forkS (s1 : Nat) (h1 : Bytes 32) (g1 : ByteArray) (s2 : Nat) (h2 : Bytes 32) (g2 : ByteArray) : Segs :=
  [sg1 (NV 1), sg1 (NV 0), sg1 (NV 0), sg1 (NV s1), sgB h1, sg1 (.string g1), sg1 (NV 0), sg1 (NV s2), sgB h2, sg1 (.string g2), sgB (z8 32), sg1 (.slice none 0 0)]
def sel {α : Type} (a b : α) (k : Nat) : α := if k = 0 then a else b
theorem auths_at (s1 : Nat) (h1 : Bytes 32) (g1 : ByteArray) (s2 : Nat) (h2 : Bytes 32) (g2 : ByteArray) {k : Nat} (hk : k < 2) :
    ((cellsE [authS 0 s1 h1 g1, authS 0 s2 h2 g2]).drop ((k : Int).toNat * 35)).take 35 = flat (authS 0 (sel s1 s2 k) (sel h1 h2 k) (sel g1 g2 k)) := by
  have hl : ∀ s h g, (flat (authS 0 s h g)).length = 35 := fun s h g => by rw [flat_length]; rfl
  simp only [cellsE, List.flatMap_cons, List.flatMap_nil, List.append_nil, Int.toNat_natCast]
  rcases (by omega : k = 0 ∨ k = 1) with rfl | rfl
  · rw [Nat.zero_mul, List.drop_zero, List.take_append_of_le_length (by rw [hl]; omega), List.take_of_length_le (by rw [hl]; omega)]
    rfl
  · rw [Nat.one_mul, List.drop_append, hl, List.drop_eq_nil_of_le (by rw [hl]; omega), List.nil_append, Nat.sub_self, List.drop_zero, List.take_of_length_le (by rw [hl]; omega)]
    rfl
theorem ok_sel (root : Bytes 16) (h s1 : Nat) (h1 : Bytes 32) (g1 : ByteArray) (s2 : Nat) (h2 : Bytes 32) (g2 : ByteArray) (k : Nat) : okW root h (sel s1 s2 k) (sel h1 h2 k) (sel g1 g2 k) = sel (okW root h s1 h1 g1) (okW root h s2 h2 g2) k := by
  unfold sel
  split <;> rfl
theorem and_sel {a b : Bool} {k : Nat} (hk : k < 2) (h : sel a b k = false) : (a && b) = false := by
  rcases (by omega : k = 0 ∨ k = 1) with rfl | rfl
  · rw [show a = false from h]; rfl
  · rw [show b = false from h]; simp
theorem keep_sel {a b : Bool} {k : Nat} (hk : k < 2) (h : sel a b k = true) (h1 : 1 ≤ k → a = true) (h2 : 2 ≤ k → b = true) : (1 ≤ k + 1 → a = true) ∧ (2 ≤ k + 1 → b = true) := by
  rcases (by omega : k = 0 ∨ k = 1) with rfl | rfl
  · exact ⟨fun _ => h, fun x => by omega⟩
  · exact ⟨fun _ => h1 (by omega), fun _ => h⟩

theorem c77 (root : Bytes 16) (h s1 : Nat) (h1 : Bytes 32) (g1 : ByteArray) (s2 : Nat) (h2 : Bytes 32) (g2 : ByteArray) (hh : (1 ≤ h ∧ h ≤ 8) ∧ (1 ≤ s1 ∧ s1 ≤ 2 ^ h ∧ g1.size = 560 + 16 * h) ∧ (1 ≤ s2 ∧ s2 ≤ 2 ^ h ∧ g2.size = 560 + 16 * h)) : Fun Laid Tryz.prog 77 [IsV (aggS (forkS s1 h1 g1 s2 h2 g2)), NodesP root h, SlC 35 2 (cellsE [authS 0 s1 h1 g1, authS 0 s2 h2 g2])] (IsV (.bool (okW root h s1 h1 g1 && okW root h s2 h2 g2))) := by
  refine fun_of 27 Tryz.func77 rfl rfl rfl fun w0 H hI => ?_
  refine tr_seq ?_
  refine tr_region (by rfl) ?_
  refine t_boxA rfl ?_
  refine t_assign rfl ?_
  refine t_end ?_
  refine nx_then ?_
  refine tr_seq ?_
  refine tr_seq ?_
  refine tr_region (by rfl) ?_
  refine t_move rfl ?_
  refine t_len ti214.und slC_form rfl ?_
  refine t_move rfl ?_
  refine t_end ?_
  refine nx_then ?_
  refine tr_block ?_
  refine tr_loop (σ := Nat) (fun k => k ≤ 2 ∧ (1 ≤ k → okW root h s1 h1 g1 = true) ∧ (2 ≤ k → okW root h s2 h2 g2 = true)) (fun k => [(3, some (boxS (forkS s1 h1 g1 s2 h2 g2) 84))]) (fun k => [(1, .plain (NodesP root h)), (3, .ptr 3 0), (9, .plain (SlC 35 2 (cellsE [authS 0 s1 h1 g1, authS 0 s2 h2 g2]))), (10, EqV (.int .i64 ((2 : Nat) : Int))), (11, EqV (.int .i64 (k : Int)))]) (fun k => 2 - k) 0 ⟨by omega, by omega, by omega⟩ (st_is [3] [1, 3, 9, 10, 11] rfl rfl rfl) (fun k hp => ?_)
  try dsimp only
  obtain ⟨hk2, hka, hkb⟩ := hp
  refine tr_seq ?_
  refine tr_region (by rfl) ?_
  refine t_cmp rfl rfl rfl ?_
  refine t_end ?_
  refine nx_then ?_
  refine tr_seq ?_
  refine tr_cond rfl (fun hc1 => ?_) (fun hc1 => ?_)
  · try simp only [cmpB, decide_eq_true_eq, decide_eq_false_iff_not, Bool.not_eq_true', Bool.not_eq_false', Bool.not_eq_eq_eq_not, Bool.not_true, Bool.not_false] at hc1
    have hlt2 : k < 2 := by omega
    have hau := auths_at s1 h1 g1 s2 h2 g2 (k := k) (by omega)
    have hyp : 1 ≤ h ∧ h ≤ 8 ∧ 1 ≤ sel s1 s2 k ∧ sel s1 s2 k ≤ 2 ^ h ∧ (sel g1 g2 k).size = 560 + 16 * h := by rcases (by omega : k = 0 ∨ k = 1) with rfl | rfl; exact ⟨hh.1.1, hh.1.2, hh.2.1.1, hh.2.1.2.1, hh.2.1.2.2⟩; exact ⟨hh.1.1, hh.1.2, hh.2.2.1, hh.2.2.2.1, hh.2.2.2.2⟩
    refine tr_skip ?_
    refine nx_then ?_
    refine tr_seq ?_
    refine tr_block ?_
    refine tr_seq ?_
    refine tr_region (by rfl) ?_
    refine t_idx ti214.und ti76 rfl rfl (by omega) (by show (k : Int) < ((2 : Nat) : Int); omega) hau ?_
    refine t_loadRA ti76 rfl rfl ?_
    refine t_allocA zi76 ?_
    refine t_storeA ti76 rfl rfl rfl rfl rfl ?_
    refine t_end ?_
    refine nx_then ?_
    refine tr_seq ?_
    refine tr_region (by rfl) ?_
    refine t_fld fi76_0 ti3 rfl ?_
    refine t_load ti3 rfl rfl rfl rfl rfl ?_
    refine t_fld fi84_1 ti3 rfl ?_
    refine t_load ti3 rfl rfl rfl rfl rfl ?_
    refine t_cmp rfl rfl rfl ?_
    refine t_move rfl ?_
    refine t_split 20 rfl (fun hg2 => ?_) (fun hg2 => ?_)
    · have hg2' := hg2
      try simp only [cmpB, decide_eq_true_eq, decide_eq_false_iff_not, Bool.not_eq_true', Bool.not_eq_false', Bool.not_eq_eq_eq_not, Bool.not_true, Bool.not_false] at hg2'
      exact absurd hg2 (by decide)
    · have hg2' := hg2
      try simp only [cmpB, decide_eq_true_eq, decide_eq_false_iff_not, Bool.not_eq_true', Bool.not_eq_false', Bool.not_eq_eq_eq_not, Bool.not_true, Bool.not_false] at hg2'
      refine t_load ti76 rfl rfl rfl rfl rfl ?_ (hg := ⟨_, _, rfl, rfl, hg2⟩)
      refine t_move rfl ?_ (hg := ⟨_, _, rfl, rfl, hg2⟩)
      refine t_call hI (c125 _ _ _ _ _ hyp) Tryz.func125 rfl ?_ (hg := ⟨_, _, rfl, rfl, hg2⟩)
      refine t_not rfl ?_ (hg := ⟨_, _, rfl, rfl, hg2⟩)
      refine t_pickf hg2 rfl rfl ?_
      refine t_end ?_
      refine nx_then ?_
      refine tr_cond rfl (fun hc3 => ?_) (fun hc3 => ?_)
      · try simp only [cmpB, decide_eq_true_eq, decide_eq_false_iff_not, Bool.not_eq_true', Bool.not_eq_false', Bool.not_eq_eq_eq_not, Bool.not_true, Bool.not_false] at hc3
        have hbad := hc3
        refine tr_seq ?_
        refine tr_region (by rfl) ?_
        refine t_assign rfl ?_
        refine t_end ?_
        refine nx_then ?_
        refine tr_ret ?_
        refine rt_block ?_
        refine rt_then ?_
        refine rt_loop ?_
        refine rt_block ?_
        refine rt_then ?_
        rw [and_sel (k := k) hlt2 (by rw [← ok_sel]; exact hbad)]
        exact rt_out1 rfl (.tmp rfl .nil)
      · try simp only [cmpB, decide_eq_true_eq, decide_eq_false_iff_not, Bool.not_eq_true', Bool.not_eq_false', Bool.not_eq_eq_eq_not, Bool.not_true, Bool.not_false] at hc3
        have hgood := hc3
        refine tr_skip ?_
        refine nx_block ?_
        refine nx_then ?_
        refine tr_region (by rfl) ?_
        refine t_add rfl rfl (by omega) ?_
        refine t_move rfl ?_
        refine t_end ?_
        refine nx_freeze 8 rfl ?_
        exact nx_loop (k + 1) (by omega) ⟨by omega, (keep_sel hlt2 (by rw [← ok_sel]; exact hgood) hka hkb).1, (keep_sel hlt2 (by rw [← ok_sel]; exact hgood) hka hkb).2⟩ (st_is [3] [1, 3, 9, 10, 11] rfl rfl rfl)
  · try simp only [cmpB, decide_eq_true_eq, decide_eq_false_iff_not, Bool.not_eq_true', Bool.not_eq_false', Bool.not_eq_eq_eq_not, Bool.not_true, Bool.not_false] at hc1
    refine tr_exit ?_
    refine xt_then ?_
    refine xt_loop ?_
    refine xt_hit ?_
    refine nx_then ?_
    refine tr_seq ?_
    refine tr_region (by rfl) ?_
    refine t_assign rfl ?_
    refine t_end ?_
    refine nx_then ?_
    refine tr_ret ?_
    obtain rfl : k = 2 := by omega
    rw [hka (by omega), hkb (by omega)]
    exact rt_out1 rfl (.tmp rfl .nil)
theorem c79 (root : Bytes 16) (h s1 : Nat) (h1 : Bytes 32) (g1 : ByteArray) (s2 : Nat) (h2 : Bytes 32) (g2 : ByteArray) (seq : Nat) (hash : Bytes 32) (sig : ByteArray) (hh : 1 ≤ h ∧ h ≤ 8 ∧ 1 ≤ seq ∧ seq ≤ 2 ^ h ∧ sig.size = 560 + 16 * h) : Fun Laid Tryz.prog 79 [IsV (aggS (forkS s1 h1 g1 s2 h2 g2)), IsV (aggS (authS 0 seq hash sig)), NodesP root h] (IsV (.bool (okW root h seq hash sig))) := by
  refine fun_of 17 Tryz.func79 rfl rfl rfl fun w0 H hI => ?_
  refine tr_seq ?_
  refine tr_region (by rfl) ?_
  refine t_boxA rfl ?_
  refine t_boxA rfl ?_
  refine t_assign rfl ?_
  refine t_end ?_
  refine nx_then ?_
  refine tr_seq ?_
  refine tr_region (by rfl) ?_
  refine t_fld fi76_0 ti3 rfl ?_
  refine t_load ti3 rfl rfl rfl rfl rfl ?_
  refine t_fld fi84_1 ti3 rfl ?_
  refine t_load ti3 rfl rfl rfl rfl rfl ?_
  refine t_cmp rfl rfl rfl ?_
  refine t_move rfl ?_
  refine t_split 12 rfl (fun hg1 => ?_) (fun hg1 => ?_)
  · have hg1' := hg1
    try simp only [cmpB, decide_eq_true_eq, decide_eq_false_iff_not, Bool.not_eq_true', Bool.not_eq_false', Bool.not_eq_eq_eq_not, Bool.not_true, Bool.not_false] at hg1'
    refine t_load ti76 rfl rfl rfl rfl rfl ?_ (hg := ⟨_, _, rfl, rfl, hg1⟩)
    refine t_move rfl ?_ (hg := ⟨_, _, rfl, rfl, hg1⟩)
    refine t_call hI (c126 _ _ _ _ _ hh) Tryz.func126 rfl ?_ (hg := ⟨_, _, rfl, rfl, hg1⟩)
    refine t_pickt hg1 rfl rfl ?_
    refine t_assign rfl ?_
    refine t_end ?_
    refine nx_then ?_
    refine tr_ret ?_
    exact rt_out1 rfl (.tmp rfl .nil)
  · have hg1' := hg1
    try simp only [cmpB, decide_eq_true_eq, decide_eq_false_iff_not, Bool.not_eq_true', Bool.not_eq_false', Bool.not_eq_eq_eq_not, Bool.not_true, Bool.not_false] at hg1'
    exact absurd hg1 (by decide)
theorem c32 (s1 : Nat) (h1 : Bytes 32) (g1 : ByteArray) (s2 : Nat) (h2 : Bytes 32) (g2 : ByteArray) : Fun Laid Tryz.prog 32 [IsV (aggS (authS 0 s1 h1 g1)), IsV (aggS (authS 0 s2 h2 g2))] (IsV (aggS (forkS s1 h1 g1 s2 h2 g2))) := by
  refine fun_of 10 Tryz.func32 rfl rfl rfl fun w0 H hI => ?_
  refine tr_seq ?_
  refine tr_region (by rfl) ?_
  refine t_boxA rfl ?_
  refine t_boxA rfl ?_
  refine t_allocA zi84 ?_
  refine t_end ?_
  refine nx_then ?_
  refine tr_seq ?_
  refine tr_region (by rfl) ?_
  refine t_fld fi76_0 ti3 rfl ?_
  refine t_load ti3 rfl rfl rfl rfl rfl ?_
  refine t_load ti76 rfl rfl rfl rfl rfl ?_
  refine t_load ti76 rfl rfl rfl rfl rfl ?_
  refine t_build (parts := [(0, .const _), (1, .tmp 6), (2, .tmp 7), (3, .tmp 8)]) bi84 (.one rfl rfl (.one rfl rfl (.agg rfl (.agg rfl .nil)))) rfl ?_
  refine t_storeA ti84 rfl rfl rfl rfl rfl ?_
  refine t_end ?_
  refine nx_then ?_
  refine tr_ret ?_
  exact rt_out1 rfl (.cell ti84 rfl rfl rfl .nil)
end Go.Eng
