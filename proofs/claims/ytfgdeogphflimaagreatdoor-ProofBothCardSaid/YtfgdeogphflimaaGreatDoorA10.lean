/- Walks: trees. Printed by wip/tools/gen.py out of wip/proofs/A10.py. -/
import Derived.Test.YtfgdeogphflimaaGreatDoorA9
set_option linter.unusedVariables false
set_option linter.unusedSimpArgs false
set_option maxHeartbeats 4000000
namespace Go.Eng
open Go Go.Proofs
def climbN (x : Bytes 16) (a : Nat) (p : List (Bytes 16)) : Nat → Bytes 16
  | 0 => x
  | k + 1 => if a / 2 ^ k % 2 = 1 then upB (p.getD k (z8 16)) (climbN x a p k) (k + 1) (a / 2 ^ (k + 1)) else upB (climbN x a p k) (p.getD k (z8 16)) (k + 1) (a / 2 ^ (k + 1))
theorem half_pow (a k : Nat) : a / 2 ^ k / 2 = a / 2 ^ (k + 1) := by rw [Nat.div_div_eq_div_mul, ← Nat.pow_succ]
theorem and1 (n : Nat) : n &&& 1 = n % 2 := Nat.and_one_is_mod n
/-- A row's pairs. -/
def riseN (l : List (Bytes 16)) (level : Nat) : Nat → List (Bytes 16)
  | 0 => []
  | k + 1 => riseN l level k ++ [upB (l.getD (2 * k) (z8 16)) (l.getD (2 * k + 1) (z8 16)) level k]
theorem riseN_length (l : List (Bytes 16)) (level : Nat) : ∀ k, (riseN l level k).length = k
  | 0 => rfl
  | k + 1 => by rw [riseN, List.length_append, riseN_length l level k]; rfl
/-- The rows of a tree. -/
def rowN' (l : List (Bytes 16)) : Nat → List (Bytes 16)
  | 0 => l
  | k + 1 => riseN (rowN' l k) (k + 1) ((rowN' l k).length / 2)
theorem rowN'_length (l : List (Bytes 16)) {h : Nat} (hl : l.length = 2 ^ h) : ∀ k, k ≤ h → (rowN' l k).length = 2 ^ (h - k)
  | 0, _ => hl
  | k + 1, hk => by
    rw [rowN', riseN_length, rowN'_length l hl k (by omega), show h - k = (h - (k + 1)) + 1 by omega, Nat.pow_succ]
    omega
def pathN (l : List (Bytes 16)) (a : Nat) : Nat → List (Bytes 16)
  | 0 => []
  | k + 1 => pathN l a k ++ [(rowN' l k).getD (a / 2 ^ k ^^^ 1) (z8 16)]
theorem pathN_length (l : List (Bytes 16)) (a : Nat) : ∀ k, (pathN l a k).length = k
  | 0 => rfl
  | k + 1 => by rw [pathN, List.length_append, pathN_length l a k]; rfl
theorem pow_and (h : Nat) : 2 ^ h &&& (2 ^ h - 1) = 0 := by rw [Nat.and_two_pow_sub_one_eq_mod, Nat.mod_self]
theorem pow_le {h : Nat} (hh : h ≤ 8) : 2 ^ h ≤ 256 ∧ 1 ≤ 2 ^ h := ⟨by have := Nat.pow_le_pow_right (n := 2) (by decide) hh; simpa using this, Nat.one_le_two_pow⟩

theorem c232 (n : Nat) (hn : n < 9223372036854775808) : Fun Laid Tryz.prog 232 [IsV (.int .i64 n)] (IsV (NV (n / 2))) := by
  refine fun_of 15 Tryz.func232 rfl rfl rfl fun w0 H hI => ?_
  refine tr_seq ?_
  refine tr_region (by rfl) ?_
  refine t_assign rfl ?_
  refine t_end ?_
  refine nx_then ?_
  refine tr_seq ?_
  refine tr_seq ?_
  refine tr_region (by rfl) ?_
  refine t_move rfl ?_
  refine t_cmp rfl rfl rfl ?_
  refine t_move rfl ?_
  refine t_split 5 rfl (fun hg1 => ?_) (fun hg1 => ?_)
  · have hg1' := hg1
    try simp only [cmpB, decide_eq_true_eq, decide_eq_false_iff_not, Bool.not_eq_true', Bool.not_eq_false', Bool.not_eq_eq_eq_not, Bool.not_true, Bool.not_false] at hg1'
    exact absurd hg1' (by omega)
  · have hg1' := hg1
    try simp only [cmpB, decide_eq_true_eq, decide_eq_false_iff_not, Bool.not_eq_true', Bool.not_eq_false', Bool.not_eq_eq_eq_not, Bool.not_true, Bool.not_false] at hg1'
    refine t_pass hg1 ?_
    refine t_pass hg1 ?_
    refine t_pass hg1 ?_
    refine t_pickf hg1 rfl rfl ?_
    refine t_end ?_
    refine nx_then ?_
    refine tr_cond rfl (fun hc2 => ?_) (fun hc2 => ?_)
    · cases hc2
    · refine tr_skip ?_
      refine nx_then ?_
      refine tr_seq ?_
      refine tr_region (by rfl) ?_
      refine t_move rfl ?_
      refine t_int .quo _ (run_quoN (by first | exact Int.natCast_nonneg _ | omega) (by omega) (by first | (show _ ∧ _; omega) | exact natK (by omega))) rfl rfl ?_
      rw [show (n : Int) / 2 = ((n / 2 : Nat) : Int) by omega]
      refine t_assign rfl ?_
      refine t_end ?_
      refine nx_then ?_
      refine tr_ret ?_
      exact rt_out1 rfl (.tmp rfl .nil)
theorem c233 (a b : Bytes 16) (level i : Nat) (hh : level < 4611686018427387904 ∧ i < 4611686018427387904) : Fun Laid Tryz.prog 233 [IsV (aggS [sgB a]), IsV (aggS [sgB b]), IsV (.int .i64 level), IsV (.int .i64 i)] (IsV (aggS [sgB (upB a b level i)])) := by
  refine fun_of 23 Tryz.func233 rfl rfl rfl fun w0 H hI => ?_
  have hn_level := numB_size (n := level) (by omega)
  have hn_i := numB_size (n := i) (by omega)
  have ha := a.2
  have hb := b.2
  have hap := ByteArray.size_append (a := a.1) (b := b.1)
  refine tr_seq ?_
  refine tr_region (by rfl) ?_
  refine t_boxA rfl ?_
  refine t_boxA rfl ?_
  refine t_allocA zi71 ?_
  refine t_end ?_
  refine nx_then ?_
  refine tr_seq ?_
  refine tr_region_any mixed (by rfl) ?_
  refine t_slarr ti71 ti5 rfl rfl ?_
  refine t_strBoxB ti86.und ti5.und ti9.und rfl rfl rfl rfl rfl ?_
  refine t_slarr ti71 ti5 rfl rfl ?_
  refine t_strBoxB ti86.und ti5.und ti9.und rfl rfl rfl rfl rfl ?_
  refine t_cat rfl rfl (by omega) ?_
  refine t_move rfl ?_
  refine t_max rfl rfl ?_
  rw [show max (level : Int) 0 = (level : Int) by omega]
  refine t_call hI (c150 _ (by omega)) Tryz.func150 rfl ?_
  refine t_move rfl ?_
  refine t_max rfl rfl ?_
  rw [show max (i : Int) 0 = (i : Int) by omega]
  refine t_call hI (c150 _ (by omega)) Tryz.func150 rfl ?_
  refine t_litS (parts := [(0, .tmp 13), (1, .tmp 16), (2, .tmp 19)]) ti142.und ti9 zi9 (.cons rfl rfl (.cons rfl rfl (.cons rfl rfl .nil))) 3 rfl rfl rfl ?_
  refine t_call hI (c227 _ _ (small3 (by decide) (by omega))) Tryz.func227 rfl ?_
  refine t_call hI (c231 _) Tryz.func231 rfl ?_
  refine t_storeA ti71 rfl rfl rfl rfl rfl ?_
  refine t_end_any ?_ (by kernel_rfl)
  refine nx_then ?_
  refine tr_ret ?_
  exact rt_out1 rfl (.cell ti71 rfl rfl rfl .nil)
theorem c206 (h : Nat) (hh : 1 ≤ h ∧ h ≤ 8) : Fun Laid Tryz.prog 206 [IsV (.int .i64 h)] (IsV (NV (2 ^ h))) := by
  refine fun_of 19 Tryz.func206 rfl rfl rfl fun w0 H hI => ?_
  refine tr_seq ?_
  refine tr_region (by rfl) ?_
  refine t_assign rfl ?_
  refine t_end ?_
  refine nx_then ?_
  refine tr_seq ?_
  refine tr_seq ?_
  refine tr_region (by rfl) ?_
  refine t_move rfl ?_
  refine t_cmp rfl rfl rfl ?_
  refine t_move rfl ?_
  refine t_split 7 rfl (fun hg1 => ?_) (fun hg1 => ?_)
  · have hg1' := hg1
    try simp only [cmpB, decide_eq_true_eq, decide_eq_false_iff_not, Bool.not_eq_true', Bool.not_eq_false', Bool.not_eq_eq_eq_not, Bool.not_true, Bool.not_false] at hg1'
    exact absurd hg1' (by omega)
  · have hg1' := hg1
    try simp only [cmpB, decide_eq_true_eq, decide_eq_false_iff_not, Bool.not_eq_true', Bool.not_eq_false', Bool.not_eq_eq_eq_not, Bool.not_true, Bool.not_false] at hg1'
    refine t_move rfl ?_ (hg := ⟨_, _, rfl, rfl, hg1⟩)
    refine t_cmp rfl rfl rfl ?_ (hg := ⟨_, _, rfl, rfl, hg1⟩)
    refine t_pickf hg1 rfl rfl ?_
    refine t_end ?_
    refine nx_then ?_
    refine tr_cond rfl (fun hc2 => ?_) (fun hc2 => ?_)
    · try simp only [cmpB, decide_eq_true_eq, decide_eq_false_iff_not, Bool.not_eq_true', Bool.not_eq_false', Bool.not_eq_eq_eq_not, Bool.not_true, Bool.not_false] at hc2
      exact absurd hc2 (by omega)
    · try simp only [cmpB, decide_eq_true_eq, decide_eq_false_iff_not, Bool.not_eq_true', Bool.not_eq_false', Bool.not_eq_eq_eq_not, Bool.not_true, Bool.not_false] at hc2
      refine tr_skip ?_
      refine nx_then ?_
      refine tr_seq ?_
      refine tr_region (by rfl) ?_
      refine t_assign rfl ?_
      refine t_end ?_
      refine nx_then ?_
      refine tr_seq ?_
      refine tr_seq ?_
      refine tr_region (by rfl) ?_
      refine t_assign rfl ?_
      refine t_end ?_
      refine nx_then ?_
      refine tr_block ?_
      refine tr_loop (σ := Nat) (fun i => i ≤ h) (fun i => []) (fun i => [(0, EqV (.int .i64 h)), (3, EqV (NV (2 ^ i))), (4, EqV (.int .i64 (i : Int)))]) (fun i => h - i) 0 (by omega) (st_is [] [0, 3, 4] rfl rfl rfl) (fun i hp => ?_)
      try dsimp only
      have hpl := pow_le (h := i) (by omega)
      refine tr_seq ?_
      refine tr_seq ?_
      refine tr_region (by rfl) ?_
      refine t_move rfl ?_
      refine t_move rfl ?_
      refine t_cmp rfl rfl rfl ?_
      refine t_end ?_
      refine nx_then ?_
      refine tr_cond rfl (fun hc3 => ?_) (fun hc3 => ?_)
      · try simp only [cmpB, decide_eq_true_eq, decide_eq_false_iff_not, Bool.not_eq_true', Bool.not_eq_false', Bool.not_eq_eq_eq_not, Bool.not_true, Bool.not_false] at hc3
        refine tr_skip ?_
        refine nx_then ?_
        refine tr_seq ?_
        refine tr_block ?_
        refine tr_region (by rfl) ?_
        refine t_move rfl ?_
        refine t_mul rfl rfl (by omega) ?_
        rw [show (2 : Int) * ((2 ^ i : Nat) : Int) = ((2 ^ (i + 1) : Nat) : Int) by rw [Nat.pow_succ]; omega]
        refine t_assign rfl ?_
        refine t_end ?_
        refine nx_block ?_
        refine nx_then ?_
        refine tr_region (by rfl) ?_
        refine t_move rfl ?_
        refine t_add rfl rfl (by omega) ?_
        refine t_assign rfl ?_
        refine t_end ?_
        exact nx_loop (i + 1) (by omega) (by omega) (st_is [] [0, 3, 4] rfl rfl rfl)
      · try simp only [cmpB, decide_eq_true_eq, decide_eq_false_iff_not, Bool.not_eq_true', Bool.not_eq_false', Bool.not_eq_eq_eq_not, Bool.not_true, Bool.not_false] at hc3
        refine tr_exit ?_
        refine xt_then ?_
        refine xt_loop ?_
        refine xt_hit ?_
        refine nx_then ?_
        refine tr_seq ?_
        refine tr_region (by rfl) ?_
        refine t_move rfl ?_
        refine t_assign rfl ?_
        refine t_end ?_
        refine nx_then ?_
        refine tr_ret ?_
        obtain rfl : i = h := by omega
        exact rt_out1 rfl (.tmp rfl .nil)
theorem c209 (x : Bytes 16) (a : Nat) (p : List (Bytes 16)) (hh : a < 4611686018427387904 ∧ p.length < 4611686018427387904) : Fun Laid Tryz.prog 209 [IsV (aggS [sgB x]), IsV (.int .i64 a), SlL p] (IsV (aggS [sgB (climbN x a p p.length)])) := by
  refine fun_of 37 Tryz.func209 rfl rfl rfl fun w0 H hI => ?_
  refine tr_seq ?_
  refine tr_region (by rfl) ?_
  refine t_boxA rfl ?_
  refine t_allocA zi71 ?_
  refine t_end ?_
  refine nx_then ?_
  refine tr_seq ?_
  refine tr_seq ?_
  refine tr_region (by rfl) ?_
  refine t_move rfl ?_
  refine t_len ti154.und slC_form rfl ?_
  refine t_move rfl ?_
  refine t_end ?_
  refine nx_then ?_
  refine tr_block ?_
  rw [show (a : Int) = ((a / 2 ^ 0 : Nat) : Int) by simp]
  refine tr_loop (σ := Nat) (fun k => k ≤ p.length) (fun k => [(3, some (boxS [sgB (climbN x a p k)] 71)), (6, some (boxS z71 71))]) (fun k => [(1, EqV (NV (a / 2 ^ k))), (3, .ptr 3 0), (6, .ptr 6 0), (10, .plain (SlL p)), (11, EqV (.int .i64 p.length)), (12, EqV (.int .i64 (k : Int)))]) (fun k => p.length - k) 0 (by omega) (st_is [3, 6] [1, 3, 6, 10, 11, 12] rfl rfl rfl) (fun k hp => ?_)
  try dsimp only
  have hak := Nat.div_le_self a (2 ^ k)
  have hak2 := half_pow a k
  have hak1 := Nat.div_le_self a (2 ^ (k + 1))
  refine tr_seq ?_
  refine tr_region (by rfl) ?_
  refine t_cmp rfl rfl rfl ?_
  refine t_end ?_
  refine nx_then ?_
  refine tr_seq ?_
  refine tr_cond rfl (fun hc1 => ?_) (fun hc1 => ?_)
  · try simp only [cmpB, decide_eq_true_eq, decide_eq_false_iff_not, Bool.not_eq_true', Bool.not_eq_false', Bool.not_eq_eq_eq_not, Bool.not_true, Bool.not_false] at hc1
    refine tr_skip ?_
    refine nx_then ?_
    refine tr_seq ?_
    refine tr_block ?_
    refine tr_seq ?_
    refine tr_region (by rfl) ?_
    refine t_move rfl ?_
    refine t_idxLQ k (by omega) (by omega) ti154.und ti71 rfl rfl ?_
    refine t_loadRA ti71 rfl rfl ?_
    refine t_allocA zi71 ?_
    refine t_assign rfl ?_
    refine t_storeA ti71 rfl rfl rfl rfl rfl ?_
    refine t_end ?_
    refine nx_then ?_
    refine tr_seq ?_
    refine tr_region (by rfl) ?_
    refine t_move rfl ?_
    refine t_call hI (c232 _ (by omega)) Tryz.func232 rfl ?_
    rw [half_pow]
    refine t_assign rfl ?_
    refine t_end ?_
    refine nx_then ?_
    refine tr_seq ?_
    refine tr_seq ?_
    refine tr_region (by rfl) ?_
    refine t_move rfl ?_
    refine t_int .rem _ (run_remN (by first | exact Int.natCast_nonneg _ | omega) (by omega)) rfl rfl ?_
    refine t_cmp rfl rfl rfl ?_
    refine t_end ?_
    refine nx_then ?_
    refine tr_cond rfl (fun hc2 => ?_) (fun hc2 => ?_)
    · try simp only [cmpB, decide_eq_true_eq, decide_eq_false_iff_not, Bool.not_eq_true', Bool.not_eq_false', Bool.not_eq_eq_eq_not, Bool.not_true, Bool.not_false] at hc2
      refine tr_region (by rfl) ?_
      refine t_load ti71 rfl rfl rfl rfl rfl ?_
      refine t_load ti71 rfl rfl rfl rfl rfl ?_
      refine t_move rfl ?_
      refine t_add rfl rfl (by omega) ?_
      rw [show (k : Int) + 1 = ((k + 1 : Nat) : Int) by omega]
      refine t_move rfl ?_
      refine t_call hI (c233 _ _ _ _ (by omega)) Tryz.func233 rfl ?_
      refine t_storeA ti71 rfl rfl rfl rfl rfl ?_
      refine t_end ?_
      refine nx_then ?_
      refine tr_region (by rfl) ?_
      refine t_move rfl ?_
      refine t_assign rfl ?_
      refine t_end ?_
      refine nx_block ?_
      refine nx_then ?_
      refine tr_region (by rfl) ?_
      refine t_add rfl rfl (by omega) ?_
      refine t_move rfl ?_
      refine t_end ?_
      refine nx_freeze 8 rfl ?_
      exact nx_loop (k + 1) (by omega) (by omega) (st_is [3, 6] [1, 3, 6, 10, 11, 12] rfl (by rw [climbN]; first | (rw [if_pos (by omega)]; rfl) | (rw [if_neg (by omega)]; rfl)) rfl)
    · try simp only [cmpB, decide_eq_true_eq, decide_eq_false_iff_not, Bool.not_eq_true', Bool.not_eq_false', Bool.not_eq_eq_eq_not, Bool.not_true, Bool.not_false] at hc2
      refine tr_region (by rfl) ?_
      refine t_load ti71 rfl rfl rfl rfl rfl ?_
      refine t_load ti71 rfl rfl rfl rfl rfl ?_
      refine t_move rfl ?_
      refine t_add rfl rfl (by omega) ?_
      rw [show (k : Int) + 1 = ((k + 1 : Nat) : Int) by omega]
      refine t_move rfl ?_
      refine t_call hI (c233 _ _ _ _ (by omega)) Tryz.func233 rfl ?_
      refine t_storeA ti71 rfl rfl rfl rfl rfl ?_
      refine t_end ?_
      refine nx_then ?_
      refine tr_region (by rfl) ?_
      refine t_move rfl ?_
      refine t_assign rfl ?_
      refine t_end ?_
      refine nx_block ?_
      refine nx_then ?_
      refine tr_region (by rfl) ?_
      refine t_add rfl rfl (by omega) ?_
      refine t_move rfl ?_
      refine t_end ?_
      refine nx_freeze 8 rfl ?_
      exact nx_loop (k + 1) (by omega) (by omega) (st_is [3, 6] [1, 3, 6, 10, 11, 12] rfl (by rw [climbN]; first | (rw [if_pos (by omega)]; rfl) | (rw [if_neg (by omega)]; rfl)) rfl)
  · try simp only [cmpB, decide_eq_true_eq, decide_eq_false_iff_not, Bool.not_eq_true', Bool.not_eq_false', Bool.not_eq_eq_eq_not, Bool.not_true, Bool.not_false] at hc1
    refine tr_exit ?_
    refine xt_then ?_
    refine xt_loop ?_
    refine xt_hit ?_
    refine nx_then ?_
    refine tr_seq ?_
    refine tr_region (by rfl) ?_
    refine t_load ti71 rfl rfl rfl rfl rfl ?_
    refine t_storeA ti71 rfl rfl rfl rfl rfl ?_
    refine t_end ?_
    refine nx_then ?_
    refine tr_ret ?_
    obtain rfl : k = p.length := by omega
    exact rt_out1 rfl (.cell ti71 rfl rfl rfl .nil)
end Go.Eng
