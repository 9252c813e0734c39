/- Walks: trees: roots, paths, climbing. Printed by wip/tools/gen.py out of wip/proofs/A11.py. -/
import Derived.Test.YtfgdeogphflimaaGreatDoorA10
set_option linter.unusedVariables false
set_option linter.unusedSimpArgs false
set_option maxHeartbeats 4000000
namespace Go.Eng
open Go Go.Proofs
theorem row_more {h k n : Nat} (hl : n = 2 ^ (h - k)) (hn : 1 < n) : k < h := by
  rcases Nat.lt_or_ge k h with h1 | h1
  · exact h1
  · rw [show h - k = 0 by omega] at hl
    simp at hl
    omega
theorem row_last {h k n : Nat} (hl : n = 2 ^ (h - k)) (hk : k ≤ h) (hn : ¬ 1 < n) : k = h := by
  rcases Nat.lt_or_ge k h with h1 | h1
  · have := Nat.pow_le_pow_right (n := 2) (by decide) (show 1 ≤ h - k by omega)
    simp at this
    omega
  · omega
theorem row_even {h k n : Nat} (hl : n = 2 ^ (h - k)) (hk : k < h) : n = 2 * (n / 2) := by
  rw [show h - k = (h - k - 1) + 1 by omega, Nat.pow_succ] at hl
  omega
theorem div_lt_row {a h k : Nat} (ha : a < 2 ^ h) (hk : k ≤ h) : a / 2 ^ k < 2 ^ (h - k) := by
  rw [Nat.div_lt_iff_lt_mul (Nat.two_pow_pos k), ← Nat.pow_add, show h - k + k = h by omega]
  exact ha
theorem beside_lt {a h k : Nat} (ha : a < 2 ^ h) (hk : k < h) : a / 2 ^ k ^^^ 1 < 2 ^ (h - k) :=
  Nat.xor_lt_two_pow (div_lt_row ha (by omega)) (by
    have := Nat.pow_le_pow_right (n := 2) (by decide) (show 1 ≤ h - k by omega)
    simp at this
    omega)

theorem c121 (n : Nat) (hh : 0 < n ∧ n ≤ 256 ∧ n &&& (n - 1) = 0) : Fun Laid Tryz.prog 121 [IsV (.int .i64 n)] (IsV (.bool true)) := by
  refine fun_of 16 Tryz.func121 rfl rfl rfl fun w0 H hI => ?_
  refine tr_seq ?_
  refine tr_region (by rfl) ?_
  refine t_assign rfl ?_
  refine t_end ?_
  refine nx_then ?_
  refine tr_seq ?_
  refine tr_region (by rfl) ?_
  refine t_move rfl ?_
  refine t_cmp rfl rfl rfl ?_
  refine t_move rfl ?_
  refine t_split 5 rfl (fun hg1 => ?_) (fun hg1 => ?_)
  · have hg1' := hg1
    try simp only [cmpB, decide_eq_true_eq, decide_eq_false_iff_not, Bool.not_eq_true', Bool.not_eq_false', Bool.not_eq_eq_eq_not, Bool.not_true, Bool.not_false] at hg1'
    refine t_move rfl ?_ (hg := ⟨_, _, rfl, rfl, hg1⟩)
    refine t_cmp rfl rfl rfl ?_ (hg := ⟨_, _, rfl, rfl, hg1⟩)
    refine t_pickt hg1 rfl rfl ?_
    refine t_move rfl ?_
    refine t_split 9 rfl (fun hg2 => ?_) (fun hg2 => ?_)
    · have hg2' := hg2
      try simp only [cmpB, decide_eq_true_eq, decide_eq_false_iff_not, Bool.not_eq_true', Bool.not_eq_false', Bool.not_eq_eq_eq_not, Bool.not_true, Bool.not_false] at hg2'
      refine t_move rfl ?_ (hg := ⟨_, _, rfl, rfl, hg2⟩)
      refine t_move rfl ?_ (hg := ⟨_, _, rfl, rfl, hg2⟩)
      refine t_sub rfl rfl (by omega) ?_ (hg := ⟨_, _, rfl, rfl, hg2⟩)
      rw [show (n : Int) - 1 = ((n - 1 : Nat) : Int) by omega]
      refine t_int .and _ (run_andN rfl (by omega) (by omega)) rfl rfl ?_ (hg := ⟨_, _, rfl, rfl, hg2⟩)
      rw [hh.2.2]
      refine t_cmp rfl rfl rfl ?_ (hg := ⟨_, _, rfl, rfl, hg2⟩)
      refine t_pickt hg2 rfl rfl ?_
      refine t_assign rfl ?_
      refine t_end ?_
      refine nx_then ?_
      refine tr_ret ?_
      exact rt_out1 rfl (.tmp rfl .nil)
    · have hg2' := hg2
      try simp only [cmpB, decide_eq_true_eq, decide_eq_false_iff_not, Bool.not_eq_true', Bool.not_eq_false', Bool.not_eq_eq_eq_not, Bool.not_true, Bool.not_false] at hg2'
      exact absurd hg2' (by omega)
  · have hg1' := hg1
    try simp only [cmpB, decide_eq_true_eq, decide_eq_false_iff_not, Bool.not_eq_true', Bool.not_eq_false', Bool.not_eq_eq_eq_not, Bool.not_true, Bool.not_false] at hg1'
    exact absurd hg1' (by omega)
theorem c122 (l : List (Bytes 16)) (level m : Nat) (hh : l.length = 2 * m ∧ m ≤ 4096 ∧ level < 4611686018427387904) : Fun Laid Tryz.prog 122 [SlL l, IsV (.int .i64 level)] (SlL (riseN l level m)) := by
  refine fun_of 30 Tryz.func122 rfl rfl rfl fun w0 H hI => ?_
  refine tr_seq ?_
  refine tr_region (by rfl) ?_
  refine t_assign rfl ?_
  refine t_end ?_
  refine nx_then ?_
  refine tr_seq ?_
  refine tr_region (by rfl) ?_
  refine t_nil (sz := 16) ?_
  refine t_end ?_
  refine nx_then ?_
  refine tr_seq ?_
  refine tr_seq ?_
  refine tr_region (by rfl) ?_
  refine t_assign rfl ?_
  refine t_end ?_
  refine nx_then ?_
  refine tr_block ?_
  refine tr_loop (σ := Nat) (fun k => k ≤ m) (fun k => [(5, some (rowL (riseN l level k)))]) (fun k => [(0, .plain (SlL l)), (1, EqV (.int .i64 level)), (6, EqV (.int .i64 ((2 * k : Nat) : Int)))]) (fun k => m - k) 0 (by omega) (st_is [5] [0, 1, 6] rfl rfl rfl) (fun k hp => ?_)
  try dsimp only
  have hrl := riseN_length l level k
  refine tr_seq ?_
  refine tr_seq ?_
  refine tr_region (by rfl) ?_
  refine t_move rfl ?_
  refine t_move rfl ?_
  refine t_len ti154.und slC_form rfl ?_
  refine t_cmp rfl rfl rfl ?_
  refine t_end ?_
  refine nx_then ?_
  refine tr_cond rfl (fun hc1 => ?_) (fun hc1 => ?_)
  · try simp only [cmpB, decide_eq_true_eq, decide_eq_false_iff_not, Bool.not_eq_true', Bool.not_eq_false', Bool.not_eq_eq_eq_not, Bool.not_true, Bool.not_false] at hc1
    refine tr_skip ?_
    refine nx_then ?_
    refine tr_seq ?_
    refine tr_block ?_
    refine tr_region_any mixed (by rfl) ?_
    refine t_take rfl ?_
    refine t_move rfl ?_
    refine t_move rfl ?_
    refine t_idxLQ (2 * k) (by omega) (by omega) ti154.und ti71 rfl rfl ?_
    refine t_loadRA ti71 rfl rfl ?_
    refine t_move rfl ?_
    refine t_move rfl ?_
    refine t_add rfl rfl (by omega) ?_
    refine t_idxLQ ((2 * k) + 1) (by omega) (by omega) ti154.und ti71 rfl rfl ?_
    refine t_loadRA ti71 rfl rfl ?_
    refine t_move rfl ?_
    refine t_move rfl ?_
    refine t_int .quo _ (run_quoN (by first | exact Int.natCast_nonneg _ | omega) (by omega) (by first | (show _ ∧ _; omega) | exact natK (by omega))) rfl rfl ?_
    rw [show ((2 * k : Nat) : Int) / 2 = (k : Int) by omega]
    refine t_call hI (c170 _ _ _ _ (by omega)) Tryz.func170 rfl ?_
    refine t_lit (parts := [(0, .tmp 26)]) ti154.und ti71 zi71 rfl rfl rfl rfl (.agg rfl .nil) rfl rfl ?_
    refine t_append ti154.und ti71 zi71 rfl rfl rfl (src_data ti154.und (cellsE_one _) rfl) (by omega) (rowL_push _ _ _) ?_
    refine t_takea rfl ?_
    refine t_end_any ?_ (by kernel_rfl)
    refine nx_block ?_
    refine nx_then ?_
    refine tr_region (by rfl) ?_
    refine t_move rfl ?_
    refine t_add rfl rfl (by omega) ?_
    refine t_assign rfl ?_
    refine t_end ?_
    exact nx_loop (k + 1) (by omega) (by omega) (st_is [5] [0, 1, 6] rfl rfl rfl)
  · try simp only [cmpB, decide_eq_true_eq, decide_eq_false_iff_not, Bool.not_eq_true', Bool.not_eq_false', Bool.not_eq_eq_eq_not, Bool.not_true, Bool.not_false] at hc1
    refine tr_exit ?_
    refine xt_then ?_
    refine xt_loop ?_
    refine xt_hit ?_
    refine nx_then ?_
    refine tr_seq ?_
    obtain rfl : k = m := by omega
    refine tr_freezeR 5 rfl ?_
    refine tr_region (by rfl) ?_
    refine t_move rfl ?_
    refine t_assign rfl ?_
    refine t_end ?_
    refine nx_then ?_
    refine tr_ret ?_
    exact rt_out1 rfl (.tmp rfl .nil)
theorem c70 (l : List (Bytes 16)) (h : Nat) (hh : l.length = 2 ^ h ∧ h ≤ 8 ∧ True) : Fun Laid Tryz.prog 70 [SlL l] (Tup [IsV (aggS [sgB ((rowN' l h).getD 0 (z8 16))]), IsV (.int .i64 0)]) := by
  refine fun_of 23 Tryz.func70 rfl rfl rfl fun w0 H hI => ?_
  refine tr_seq ?_
  refine tr_region (by rfl) ?_
  refine t_allocA zi71 ?_
  refine t_assign rfl ?_
  refine t_end ?_
  refine nx_then ?_
  refine tr_seq ?_
  refine tr_seq ?_
  refine tr_region (by rfl) ?_
  refine t_move rfl ?_
  refine t_len ti154.und slC_form rfl ?_
  refine t_call hI (c121 _ (by rw [hh.1]; exact ⟨(pow_le hh.2.1).2, (pow_le hh.2.1).1, pow_and h⟩)) Tryz.func121 rfl ?_
  refine t_not rfl ?_
  refine t_end ?_
  refine nx_then ?_
  refine tr_cond rfl (fun hc1 => ?_) (fun hc1 => ?_)
  · exact absurd hc1 (by decide)
  · refine tr_skip ?_
    refine nx_then ?_
    refine tr_seq ?_
    refine tr_region (by rfl) ?_
    refine t_move rfl ?_
    refine t_assign rfl ?_
    refine t_end ?_
    refine nx_then ?_
    refine tr_seq ?_
    refine tr_seq ?_
    refine tr_region (by rfl) ?_
    refine t_assign rfl ?_
    refine t_end ?_
    refine nx_then ?_
    refine tr_block ?_
    refine tr_loop (σ := Nat) (fun k => k ≤ h) (fun k => [(2, some (boxS z71 71))]) (fun k => [(2, .ptr 2 0), (4, .plain (SlL (rowN' l k))), (5, EqV (NV (k + 1)))]) (fun k => h - k) 0 (by omega) (st_is [2] [2, 4, 5] rfl rfl rfl) (fun k hp => ?_)
    try dsimp only
    have hrl := rowN'_length l hh.1 k hp
    have hpl := pow_le (h := h - k) (by omega)
    refine tr_seq ?_
    refine tr_seq ?_
    refine tr_region (by rfl) ?_
    refine t_move rfl ?_
    refine t_len ti154.und slC_form rfl ?_
    refine t_cmp rfl rfl rfl ?_
    refine t_end ?_
    refine nx_then ?_
    refine tr_cond rfl (fun hc2 => ?_) (fun hc2 => ?_)
    · try simp only [cmpB, decide_eq_true_eq, decide_eq_false_iff_not, Bool.not_eq_true', Bool.not_eq_false', Bool.not_eq_eq_eq_not, Bool.not_true, Bool.not_false] at hc2
      have hk := row_more hrl (by omega)
      have hev := row_even hrl hk
      refine tr_skip ?_
      refine nx_then ?_
      refine tr_seq ?_
      refine tr_block ?_
      refine tr_region (by rfl) ?_
      refine t_move rfl ?_
      refine t_move rfl ?_
      refine t_call hI (c122 _ _ ((rowN' l k).length / 2) (by omega)) Tryz.func122 rfl ?_
      refine t_assign rfl ?_
      refine t_end ?_
      refine nx_block ?_
      refine nx_then ?_
      refine tr_region (by rfl) ?_
      refine t_move rfl ?_
      refine t_add rfl rfl (by omega) ?_
      refine t_assign rfl ?_
      refine t_end ?_
      exact nx_loop (k + 1) (by omega) (by omega) (st_is [2] [2, 4, 5] rfl rfl rfl)
    · try simp only [cmpB, decide_eq_true_eq, decide_eq_false_iff_not, Bool.not_eq_true', Bool.not_eq_false', Bool.not_eq_eq_eq_not, Bool.not_true, Bool.not_false] at hc2
      refine tr_exit ?_
      refine xt_then ?_
      refine xt_loop ?_
      refine xt_hit ?_
      refine nx_then ?_
      refine tr_seq ?_
      obtain rfl : k = h := row_last hrl hp (by omega)
      refine tr_region (by rfl) ?_
      refine t_move rfl ?_
      refine t_idxLQ 0 (by omega) (by omega) ti154.und ti71 rfl rfl ?_
      refine t_loadRA ti71 rfl rfl ?_
      refine t_storeA ti71 rfl rfl rfl rfl rfl ?_
      refine t_assign rfl ?_
      refine t_end ?_
      refine nx_then ?_
      refine tr_ret ?_
      exact rt_outs (rs := [.cell 2 71, .tmp 3]) rfl rfl (.cell ti71 rfl rfl rfl (.tmp rfl .nil))
theorem c74 (l : List (Bytes 16)) (h a : Nat) (hh : l.length = 2 ^ h ∧ h ≤ 8 ∧ a < 2 ^ h) : Fun Laid Tryz.prog 74 [IsV (.int .i64 a), SlL l] (Tup [SlL (pathN l a h), IsV (.int .i64 0)]) := by
  refine fun_of 43 Tryz.func74 rfl rfl rfl fun w0 H hI => ?_
  have hp8 := pow_le hh.2.1
  refine tr_seq ?_
  refine tr_region (by rfl) ?_
  refine t_assign rfl ?_
  refine t_assign rfl ?_
  refine t_end ?_
  refine nx_then ?_
  refine tr_seq ?_
  refine tr_seq ?_
  refine tr_region (by rfl) ?_
  refine t_move rfl ?_
  refine t_len ti154.und slC_form rfl ?_
  refine t_call hI (c121 _ (by rw [hh.1]; exact ⟨(pow_le hh.2.1).2, (pow_le hh.2.1).1, pow_and h⟩)) Tryz.func121 rfl ?_
  refine t_not rfl ?_
  refine t_move rfl ?_
  refine t_move rfl ?_ (hg := ⟨_, _, rfl, rfl, rfl⟩)
  refine t_cmp rfl rfl rfl ?_ (hg := ⟨_, _, rfl, rfl, rfl⟩)
  refine t_pickf rfl rfl rfl ?_
  refine t_move rfl ?_
  refine t_split 17 rfl (fun hg1 => ?_) (fun hg1 => ?_)
  · have hg1' := hg1
    try simp only [cmpB, decide_eq_true_eq, decide_eq_false_iff_not, Bool.not_eq_true', Bool.not_eq_false', Bool.not_eq_eq_eq_not, Bool.not_true, Bool.not_false] at hg1'
    exact absurd hg1' (by omega)
  · have hg1' := hg1
    try simp only [cmpB, decide_eq_true_eq, decide_eq_false_iff_not, Bool.not_eq_true', Bool.not_eq_false', Bool.not_eq_eq_eq_not, Bool.not_true, Bool.not_false] at hg1'
    refine t_move rfl ?_ (hg := ⟨_, _, rfl, rfl, hg1⟩)
    refine t_move rfl ?_ (hg := ⟨_, _, rfl, rfl, hg1⟩)
    refine t_len ti154.und slC_form rfl ?_ (hg := ⟨_, _, rfl, rfl, hg1⟩)
    refine t_cmp rfl rfl rfl ?_ (hg := ⟨_, _, rfl, rfl, hg1⟩)
    refine t_pickf hg1 rfl rfl ?_
    refine t_end ?_
    refine nx_then ?_
    refine tr_cond rfl (fun hc2 => ?_) (fun hc2 => ?_)
    · try simp only [cmpB, decide_eq_true_eq, decide_eq_false_iff_not, Bool.not_eq_true', Bool.not_eq_false', Bool.not_eq_eq_eq_not, Bool.not_true, Bool.not_false] at hc2
      exact absurd hc2 (by omega)
    · try simp only [cmpB, decide_eq_true_eq, decide_eq_false_iff_not, Bool.not_eq_true', Bool.not_eq_false', Bool.not_eq_eq_eq_not, Bool.not_true, Bool.not_false] at hc2
      refine tr_skip ?_
      refine nx_then ?_
      refine tr_seq ?_
      refine tr_region (by rfl) ?_
      refine t_nil (sz := 16) ?_
      refine t_end ?_
      refine nx_then ?_
      refine tr_seq ?_
      refine tr_region (by rfl) ?_
      refine t_move rfl ?_
      refine t_assign rfl ?_
      refine t_end ?_
      refine nx_then ?_
      refine tr_seq ?_
      refine tr_seq ?_
      refine tr_region (by rfl) ?_
      refine t_assign rfl ?_
      refine t_end ?_
      refine nx_then ?_
      refine tr_block ?_
      rw [show (a : Int) = ((a / 2 ^ 0 : Nat) : Int) by simp]
      refine tr_loop (σ := Nat) (fun k => k ≤ h) (fun k => [(6, some (rowL (pathN l a k)))]) (fun k => [(0, EqV (NV (a / 2 ^ k))), (7, .plain (SlL (rowN' l k))), (8, EqV (NV (k + 1)))]) (fun k => h - k) 0 (by omega) (st_is [6] [0, 7, 8] rfl rfl rfl) (fun k hp => ?_)
      try dsimp only
      have hrl := rowN'_length l hh.1 k hp
      have hpl := pow_le (h := h - k) (by omega)
      have hak := Nat.div_le_self a (2 ^ k)
      have hak2 := half_pow a k
      have hak1 := Nat.div_le_self a (2 ^ (k + 1))
      have hpn := pathN_length l a k
      refine tr_seq ?_
      refine tr_seq ?_
      refine tr_region (by rfl) ?_
      refine t_move rfl ?_
      refine t_len ti154.und slC_form rfl ?_
      refine t_cmp rfl rfl rfl ?_
      refine t_end ?_
      refine nx_then ?_
      refine tr_cond rfl (fun hc3 => ?_) (fun hc3 => ?_)
      · try simp only [cmpB, decide_eq_true_eq, decide_eq_false_iff_not, Bool.not_eq_true', Bool.not_eq_false', Bool.not_eq_eq_eq_not, Bool.not_true, Bool.not_false] at hc3
        have hk := row_more hrl (by omega)
        have hev := row_even hrl hk
        have hbl := beside_lt hh.2.2 hk
        refine tr_skip ?_
        refine nx_then ?_
        refine tr_seq ?_
        refine tr_block ?_
        refine tr_seq ?_
        refine tr_region (by rfl) ?_
        refine t_take rfl ?_
        refine t_move rfl ?_
        refine t_move rfl ?_
        refine t_int .xor _ (run_xorN (n := 1) rfl (by omega) (by decide)) rfl rfl ?_
        refine t_idxLQ (a / 2 ^ k ^^^ 1) (by omega) (by omega) ti154.und ti71 rfl rfl ?_
        refine t_loadRA ti71 rfl rfl ?_
        refine t_lit (parts := [(0, .tmp 34)]) ti154.und ti71 zi71 rfl rfl rfl rfl (.agg rfl .nil) rfl rfl ?_
        refine t_append ti154.und ti71 zi71 rfl rfl rfl (src_data ti154.und (cellsE_one _) rfl) (by omega) (rowL_push _ _ _) ?_
        refine t_takea rfl ?_
        refine t_end ?_
        refine nx_then ?_
        refine tr_region (by rfl) ?_
        refine t_move rfl ?_
        refine t_move rfl ?_
        refine t_call hI (c122 _ _ ((rowN' l k).length / 2) (by omega)) Tryz.func122 rfl ?_
        refine t_move rfl ?_
        refine t_int .quo _ (run_quoN (by first | exact Int.natCast_nonneg _ | omega) (by omega) (by first | (show _ ∧ _; omega) | exact natK (by omega))) rfl rfl ?_
        rw [show ((a / 2 ^ k : Nat) : Int) / 2 = ((a / 2 ^ (k + 1) : Nat) : Int) by rw [← half_pow]; simp]
        refine t_assign rfl ?_
        refine t_assign rfl ?_
        refine t_end ?_
        refine nx_block ?_
        refine nx_then ?_
        refine tr_region (by rfl) ?_
        refine t_move rfl ?_
        refine t_add rfl rfl (by omega) ?_
        refine t_assign rfl ?_
        refine t_end ?_
        exact nx_loop (k + 1) (by omega) (by omega) (st_is [6] [0, 7, 8] rfl rfl rfl)
      · try simp only [cmpB, decide_eq_true_eq, decide_eq_false_iff_not, Bool.not_eq_true', Bool.not_eq_false', Bool.not_eq_eq_eq_not, Bool.not_true, Bool.not_false] at hc3
        refine tr_exit ?_
        refine xt_then ?_
        refine xt_loop ?_
        refine xt_hit ?_
        refine nx_then ?_
        refine tr_seq ?_
        obtain rfl : k = h := row_last hrl hp (by omega)
        refine tr_freezeR 6 rfl ?_
        refine tr_region (by rfl) ?_
        refine t_move rfl ?_
        refine t_assign rfl ?_
        refine t_assign rfl ?_
        refine t_end ?_
        refine nx_then ?_
        refine tr_ret ?_
        exact rt_outs (rs := [.tmp 4, .tmp 5]) rfl rfl (.tmp rfl (.tmp rfl .nil))
theorem c205 (x : Bytes 16) (a : Nat) (p : List (Bytes 16)) (hh : a < 4611686018427387904 ∧ p.length < 4611686018427387904) : Fun Laid Tryz.prog 205 [IsV (aggS [sgB x]), IsV (.int .i64 a), SlL p] (IsV (aggS [sgB (climbN x a p p.length)])) := by
  refine fun_of 37 Tryz.func205 rfl rfl rfl fun w0 H hI => ?_
  refine tr_seq ?_
  refine tr_region (by rfl) ?_
  refine t_boxA rfl ?_
  refine t_allocA zi71 ?_
  refine t_end ?_
  refine nx_then ?_
  refine tr_seq ?_
  refine tr_region (by rfl) ?_
  refine t_load ti71 rfl rfl rfl rfl rfl ?_
  refine t_allocA zi71 ?_
  refine t_storeA ti71 rfl rfl rfl rfl rfl ?_
  refine t_end ?_
  refine nx_then ?_
  refine tr_seq ?_
  refine tr_seq ?_
  refine tr_region (by rfl) ?_
  refine t_move rfl ?_
  refine t_len ti154.und slC_form rfl ?_
  refine t_move rfl ?_
  refine t_end ?_
  refine nx_then ?_
  refine tr_block ?_
  rw [show (a : Int) = ((a / 2 ^ 0 : Nat) : Int) by simp]
  refine tr_freeze 3 rfl ?_
  refine tr_loop (σ := Nat) (fun k => k ≤ p.length) (fun k => [(6, some (boxS z71 71)), (7, some (boxS [sgB (climbN x a p k)] 71))]) (fun k => [(1, EqV (NV (a / 2 ^ k))), (6, .ptr 6 0), (7, .ptr 7 0), (13, .plain (SlL p)), (14, EqV (.int .i64 p.length)), (15, EqV (.int .i64 (k : Int)))]) (fun k => p.length - k) 0 (by omega) (st_is [6, 7] [1, 6, 7, 13, 14, 15] rfl rfl rfl) (fun k hp => ?_)
  try dsimp only
  have hak := Nat.div_le_self a (2 ^ k)
  have hak2 := half_pow a k
  have hak1 := Nat.div_le_self a (2 ^ (k + 1))
  refine tr_seq ?_
  refine tr_region (by rfl) ?_
  refine t_cmp rfl rfl rfl ?_
  refine t_end ?_
  refine nx_then ?_
  refine tr_seq ?_
  refine tr_cond rfl (fun hc1 => ?_) (fun hc1 => ?_)
  · try simp only [cmpB, decide_eq_true_eq, decide_eq_false_iff_not, Bool.not_eq_true', Bool.not_eq_false', Bool.not_eq_eq_eq_not, Bool.not_true, Bool.not_false] at hc1
    refine tr_skip ?_
    refine nx_then ?_
    refine tr_seq ?_
    refine tr_block ?_
    refine tr_seq ?_
    refine tr_region (by rfl) ?_
    refine t_move rfl ?_
    refine t_idxLQ k (by omega) (by omega) ti154.und ti71 rfl rfl ?_
    refine t_loadRA ti71 rfl rfl ?_
    refine t_allocA zi71 ?_
    refine t_assign rfl ?_
    refine t_storeA ti71 rfl rfl rfl rfl rfl ?_
    refine t_end ?_
    refine nx_then ?_
    refine tr_seq ?_
    refine tr_region_any mixed (by rfl) ?_
    refine t_load ti71 rfl rfl rfl rfl rfl ?_
    refine t_load ti71 rfl rfl rfl rfl rfl ?_
    refine t_allocA zi71 ?_
    refine t_allocA zi71 ?_
    refine t_storeA ti71 rfl rfl rfl rfl rfl ?_
    refine t_storeA ti71 rfl rfl rfl rfl rfl ?_
    refine t_end_any ?_ (by kernel_rfl)
    refine nx_then ?_
    refine tr_seq ?_
    refine tr_seq ?_
    refine tr_region (by rfl) ?_
    refine t_move rfl ?_
    refine t_int .and _ (run_andN (n := 1) rfl (by omega) (by decide)) rfl rfl ?_
    rw [and1]
    refine t_cmp rfl rfl rfl ?_
    refine t_end ?_
    refine nx_then ?_
    refine tr_cond rfl (fun hc2 => ?_) (fun hc2 => ?_)
    · try simp only [cmpB, decide_eq_true_eq, decide_eq_false_iff_not, Bool.not_eq_true', Bool.not_eq_false', Bool.not_eq_eq_eq_not, Bool.not_true, Bool.not_false] at hc2
      refine tr_region_any mixed (by rfl) ?_
      refine t_load ti71 rfl rfl rfl rfl rfl ?_
      refine t_load ti71 rfl rfl rfl rfl rfl ?_
      refine t_storeA ti71 rfl rfl rfl rfl rfl ?_
      refine t_storeA ti71 rfl rfl rfl rfl rfl ?_
      refine t_end_any ?_ (by kernel_rfl)
      refine nx_then ?_
      refine tr_seq ?_
      refine tr_region (by rfl) ?_
      refine t_move rfl ?_
      refine t_int .shr _ (run_shrK (n := 1) (q := 2) (by decide) (by decide)) rfl rfl ?_
      rw [show ((a / 2 ^ k : Nat) : Int) / 2 = ((a / 2 ^ (k + 1) : Nat) : Int) by rw [← half_pow]; simp]
      refine t_assign rfl ?_
      refine t_end ?_
      refine nx_then ?_
      refine tr_region (by rfl) ?_
      refine t_load ti71 rfl rfl rfl rfl rfl ?_
      refine t_load ti71 rfl rfl rfl rfl rfl ?_
      refine t_move rfl ?_
      refine t_add rfl rfl (by omega) ?_
      rw [show (k : Int) + 1 = ((k + 1 : Nat) : Int) by omega]
      refine t_move rfl ?_
      refine t_call hI (c170 _ _ _ _ (by omega)) Tryz.func170 rfl ?_
      refine t_storeA ti71 rfl rfl rfl rfl rfl ?_
      refine t_end ?_
      refine nx_block ?_
      refine nx_then ?_
      refine tr_region (by rfl) ?_
      refine t_add rfl rfl (by omega) ?_
      refine t_move rfl ?_
      refine t_end ?_
      refine nx_freeze 9 rfl ?_
      refine nx_freeze 10 rfl ?_
      refine nx_freeze 11 rfl ?_
      exact nx_loop (k + 1) (by omega) (by omega) (st_is [6, 7] [1, 6, 7, 13, 14, 15] rfl (by rw [climbN]; first | (rw [if_pos (by omega)]; rfl) | (rw [if_neg (by omega)]; rfl)) rfl)
    · try simp only [cmpB, decide_eq_true_eq, decide_eq_false_iff_not, Bool.not_eq_true', Bool.not_eq_false', Bool.not_eq_eq_eq_not, Bool.not_true, Bool.not_false] at hc2
      refine tr_skip ?_
      refine nx_then ?_
      refine tr_seq ?_
      refine tr_region (by rfl) ?_
      refine t_move rfl ?_
      refine t_int .shr _ (run_shrK (n := 1) (q := 2) (by decide) (by decide)) rfl rfl ?_
      rw [show ((a / 2 ^ k : Nat) : Int) / 2 = ((a / 2 ^ (k + 1) : Nat) : Int) by rw [← half_pow]; simp]
      refine t_assign rfl ?_
      refine t_end ?_
      refine nx_then ?_
      refine tr_region (by rfl) ?_
      refine t_load ti71 rfl rfl rfl rfl rfl ?_
      refine t_load ti71 rfl rfl rfl rfl rfl ?_
      refine t_move rfl ?_
      refine t_add rfl rfl (by omega) ?_
      rw [show (k : Int) + 1 = ((k + 1 : Nat) : Int) by omega]
      refine t_move rfl ?_
      refine t_call hI (c170 _ _ _ _ (by omega)) Tryz.func170 rfl ?_
      refine t_storeA ti71 rfl rfl rfl rfl rfl ?_
      refine t_end ?_
      refine nx_block ?_
      refine nx_then ?_
      refine tr_region (by rfl) ?_
      refine t_add rfl rfl (by omega) ?_
      refine t_move rfl ?_
      refine t_end ?_
      refine nx_freeze 9 rfl ?_
      refine nx_freeze 10 rfl ?_
      refine nx_freeze 11 rfl ?_
      exact nx_loop (k + 1) (by omega) (by omega) (st_is [6, 7] [1, 6, 7, 13, 14, 15] rfl (by rw [climbN]; first | (rw [if_pos (by omega)]; rfl) | (rw [if_neg (by omega)]; rfl)) rfl)
  · try simp only [cmpB, decide_eq_true_eq, decide_eq_false_iff_not, Bool.not_eq_true', Bool.not_eq_false', Bool.not_eq_eq_eq_not, Bool.not_true, Bool.not_false] at hc1
    refine tr_exit ?_
    refine xt_then ?_
    refine xt_loop ?_
    refine xt_hit ?_
    refine nx_then ?_
    refine tr_seq ?_
    refine tr_region (by rfl) ?_
    refine t_load ti71 rfl rfl rfl rfl rfl ?_
    refine t_storeA ti71 rfl rfl rfl rfl rfl ?_
    refine t_end ?_
    refine nx_then ?_
    refine tr_ret ?_
    obtain rfl : k = p.length := by omega
    exact rt_out1 rfl (.cell ti71 rfl rfl rfl .nil)
end Go.Eng
