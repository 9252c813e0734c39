/- Walks: keys. Printed by wip/tools/gen.py out of wip/proofs/B2.py. -/
import Derived.Test.YtfgdeogphflimaaGreatDoorB1
import Derived.Test.YtfgdeogphflimaaGreatDoorEDeep
set_option linter.unusedVariables false
set_option linter.unusedSimpArgs false
set_option maxHeartbeats 1000000
namespace Go.Eng
open Go Go.Proofs
def leavesN (seed : ByteArray) : Nat → List (Bytes 16)
  | 0 => []
  | k + 1 => leavesN seed k ++ [leafOf seed k]
theorem leavesN_length (seed : ByteArray) : ∀ k, (leavesN seed k).length = k
  | 0 => rfl
  | k + 1 => by rw [leavesN, List.length_append, leavesN_length seed k]; rfl
def rootOf (seed : ByteArray) (h : Nat) : Bytes 16 := (rowN' (leavesN seed (2 ^ h)) h).getD 0 (z8 16)
abbrev keysL (seed : ByteArray) (h : Nat) : Lay := [.seg (sg1 (.string seed)), .seg (sg1 (NV h)), .fact (SlL (leavesN seed (2 ^ h))), .seg (sgB (rootOf seed h))]
def pathB (p : List (Bytes 16)) : Nat → ByteArray
  | 0 => ByteArray.empty
  | k + 1 => pathB p k ++ (p.getD k (z8 16)).1
theorem pathB_size (p : List (Bytes 16)) : ∀ k, (pathB p k).size = 16 * k
  | 0 => rfl
  | k + 1 => by
    have := (p.getD k (z8 16)).2
    rw [pathB, ByteArray.size_append, pathB_size p k]
    omega
/-- A signature: of the leaf's key, and the path to the root. -/
def signB (seed : ByteArray) (h i : Nat) (text : ByteArray) : ByteArray :=
  sigB seed i (digestB (rootOf seed h) i text) ++ pathB (pathN (leavesN seed (2 ^ h)) i h) h

theorem c27 (seed : ByteArray) (h : Nat) (hh : seed.size ≤ 64 ∧ 1 ≤ h ∧ h ≤ 8) : Fun Laid Tryz.prog 27 [IsV (.string seed), IsV (.int .i64 h)] (Tup [(RefD (keysL seed h)), IsV (.int .i64 0)]) := by
  refine fun_of 53 Tryz.func27 rfl rfl rfl fun w0 H hI => ?_
  have hp8 := pow_le hh.2.2
  refine tr_seq ?_
  refine tr_region (by rfl) ?_
  refine t_assign rfl ?_
  refine t_assign rfl ?_
  refine t_end ?_
  refine nx_then ?_
  refine tr_seq ?_
  refine tr_seq ?_
  refine tr_region (by rfl) ?_
  refine t_move rfl ?_
  refine t_lens ti9.und rfl ?_
  refine t_cmp rfl rfl rfl ?_
  refine t_move rfl ?_
  refine t_split 11 rfl (fun hg1 => ?_) (fun hg1 => ?_)
  · have hg1' := hg1
    try simp only [cmpB, decide_eq_true_eq, decide_eq_false_iff_not, Bool.not_eq_true', Bool.not_eq_false', Bool.not_eq_eq_eq_not, Bool.not_true, Bool.not_false] at hg1'
    exact absurd hg1' (by omega)
  · have hg1' := hg1
    try simp only [cmpB, decide_eq_true_eq, decide_eq_false_iff_not, Bool.not_eq_true', Bool.not_eq_false', Bool.not_eq_eq_eq_not, Bool.not_true, Bool.not_false] at hg1'
    refine t_move rfl ?_ (hg := ⟨_, _, rfl, rfl, hg1⟩)
    refine t_cmp rfl rfl rfl ?_ (hg := ⟨_, _, rfl, rfl, hg1⟩)
    refine t_pickf hg1 rfl rfl ?_
    refine t_move rfl ?_
    refine t_split 15 rfl (fun hg2 => ?_) (fun hg2 => ?_)
    · have hg2' := hg2
      try simp only [cmpB, decide_eq_true_eq, decide_eq_false_iff_not, Bool.not_eq_true', Bool.not_eq_false', Bool.not_eq_eq_eq_not, Bool.not_true, Bool.not_false] at hg2'
      exact absurd hg2' (by omega)
    · have hg2' := hg2
      try simp only [cmpB, decide_eq_true_eq, decide_eq_false_iff_not, Bool.not_eq_true', Bool.not_eq_false', Bool.not_eq_eq_eq_not, Bool.not_true, Bool.not_false] at hg2'
      refine t_move rfl ?_ (hg := ⟨_, _, rfl, rfl, hg2⟩)
      refine t_cmp rfl rfl rfl ?_ (hg := ⟨_, _, rfl, rfl, hg2⟩)
      refine t_pickf hg2 rfl rfl ?_
      refine t_end ?_
      refine nx_then ?_
      refine tr_cond rfl (fun hc3 => ?_) (fun hc3 => ?_)
      · try simp only [cmpB, decide_eq_true_eq, decide_eq_false_iff_not, Bool.not_eq_true', Bool.not_eq_false', Bool.not_eq_eq_eq_not, Bool.not_true, Bool.not_false] at hc3
        exact absurd hc3 (by omega)
      · try simp only [cmpB, decide_eq_true_eq, decide_eq_false_iff_not, Bool.not_eq_true', Bool.not_eq_false', Bool.not_eq_eq_eq_not, Bool.not_true, Bool.not_false] at hc3
        refine tr_skip ?_
        refine nx_then ?_
        refine tr_seq ?_
        refine tr_region (by rfl) ?_
        refine t_move rfl ?_
        refine t_move rfl ?_
        refine t_build (parts := [(0, .tmp 19), (1, .tmp 20)]) bi156 (.one rfl rfl (.one rfl rfl .nil)) rfl ?_
        refine t_boxA rfl ?_
        refine t_takea rfl ?_
        refine t_end ?_
        refine nx_then ?_
        refine tr_seq ?_
        refine tr_seq ?_
        refine tr_region (by rfl) ?_
        refine t_move rfl ?_
        refine t_int .shl _ (run_pow (by omega)) rfl rfl ?_
        refine t_move rfl ?_
        refine t_end ?_
        refine nx_then ?_
        refine tr_block ?_
        refine tr_lay 6 rfl ?_
        refine tr_layNil 6 2 16 rfl rfl ?_
        refine tr_self 6 boxD_ptr rfl ?_
        refine tr_loop (σ := Nat) (fun k => k ≤ 2 ^ h) (fun k => [(6, some (boxD [.seg (sg1 (.string seed)), .seg (sg1 (NV h)), .sub (rowL (leavesN seed k)), .seg (sgB (z8 16))] 156))]) (fun k => [(0, EqV (.string seed)), (1, EqV (.int .i64 h)), (6, .ptr 6 0), (24, EqV (NV (2 ^ h))), (25, EqV (.int .i64 (k : Int)))]) (fun k => 2 ^ h - k) 0 (by omega) (st_is [6] [0, 1, 6, 24, 25] rfl rfl rfl) (fun k hp => ?_)
        try dsimp only
        have hll := leavesN_length seed k
        refine tr_seq ?_
        refine tr_region (by rfl) ?_
        refine t_cmp rfl rfl rfl ?_
        refine t_end ?_
        refine nx_then ?_
        refine tr_seq ?_
        refine tr_cond rfl (fun hc4 => ?_) (fun hc4 => ?_)
        · try simp only [cmpB, decide_eq_true_eq, decide_eq_false_iff_not, Bool.not_eq_true', Bool.not_eq_false', Bool.not_eq_eq_eq_not, Bool.not_true, Bool.not_false] at hc4
          refine tr_skip ?_
          refine nx_then ?_
          refine tr_seq ?_
          refine tr_block ?_
          refine tr_seq ?_
          refine tr_region (by rfl) ?_
          refine t_move rfl ?_
          refine t_assign rfl ?_
          refine t_end ?_
          refine nx_then ?_
          refine tr_region_any mixed (by rfl) ?_
          refine t_movep rfl ?_
          refine t_movep rfl ?_
          refine t_nckp rfl ?_
          refine t_fld fi156_2 ti154 rfl ?_
          refine t_loadDs ti154 rfl rfl rfl rfl ?_
          refine t_move rfl ?_
          refine t_move rfl ?_
          refine t_call hI (c69 _ _ (by omega)) Tryz.func69 rfl ?_
          refine t_lit (parts := [(0, .tmp 35)]) ti154.und ti71 zi71 rfl rfl rfl rfl (.agg rfl .nil) rfl rfl ?_
          refine t_append ti154.und ti71 zi71 rfl rfl rfl (src_data ti154.und (cellsE_one _) rfl) (by omega) (rowL_push _ _ _) ?_
          refine t_nckp rfl ?_
          refine t_fld fi156_2 ti154 rfl ?_
          refine t_storeDs rowR_one ti154 rfl rfl rfl rfl rfl ?_
          refine t_end_any ?_ (by kernel_rfl)
          refine nx_block ?_
          refine nx_then ?_
          refine tr_region (by rfl) ?_
          refine t_add rfl rfl (by omega) ?_
          refine t_move rfl ?_
          refine t_end ?_
          exact nx_loop (k + 1) (by omega) (by omega) (st_is [6] [0, 1, 6, 24, 25] rfl rfl rfl)
        · try simp only [cmpB, decide_eq_true_eq, decide_eq_false_iff_not, Bool.not_eq_true', Bool.not_eq_false', Bool.not_eq_eq_eq_not, Bool.not_true, Bool.not_false] at hc4
          refine tr_exit ?_
          refine xt_then ?_
          refine xt_loop ?_
          refine xt_hit ?_
          refine nx_then ?_
          refine tr_seq ?_
          obtain rfl : k = 2 ^ h := by omega
          refine tr_share 6 2 share_row rfl rfl ?_
          refine tr_region (by rfl) ?_
          refine t_movep rfl ?_
          refine t_movep rfl ?_
          refine t_nckp rfl ?_
          refine t_fld fi156_2 ti154 rfl ?_
          refine t_loadDf ti154 rfl rfl rfl rfl ?_
          refine t_call hI (c70 _ h ⟨by simp [leavesN_length], by omega, trivial⟩) Tryz.func70 rfl ?_
          refine t_move rfl ?_
          refine t_extract rfl rfl ?_
          refine t_extract rfl rfl ?_
          refine t_nckp rfl ?_
          refine t_fld fi156_3 ti71 rfl ?_
          refine t_storeDA ti71 rfl rfl rfl rfl ?_
          refine t_end ?_
          refine nx_then ?_
          refine tr_seq ?_
          refine tr_freeze 6 rfl ?_
          refine tr_fact 6 boxD_ref rfl ?_
          refine tr_region (by rfl) ?_
          refine t_move rfl ?_
          refine t_assign rfl ?_
          refine t_assign rfl ?_
          refine t_end ?_
          refine nx_then ?_
          refine tr_ret ?_
          exact rt_outs (rs := [.tmp 4, .tmp 5]) rfl rfl (.tmp rfl (.tmp rfl .nil))
theorem c28 (seed : ByteArray) (h : Nat) (hh : seed.size ≤ 64 ∧ 1 ≤ h ∧ h ≤ 8) : Fun Laid Tryz.prog 28 [(RefD (keysL seed h))] (IsV (aggS (nodeS (rootOf seed h) h))) := by
  refine fun_of 15 Tryz.func28 rfl rfl rfl fun w0 H hI => ?_
  refine tr_seq ?_
  refine tr_region (by rfl) ?_
  refine t_allocA zi73 ?_
  refine t_end ?_
  refine nx_then ?_
  refine tr_seq ?_
  refine tr_seq ?_
  refine tr_region (by rfl) ?_
  refine t_move rfl ?_
  refine t_nonnil ti67.und refD_ptr rfl ?_
  refine t_end ?_
  refine nx_then ?_
  refine tr_cond rfl (fun hc1 => ?_) (fun hc1 => ?_)
  · exact absurd hc1 (by decide)
  · refine tr_skip ?_
    refine nx_then ?_
    refine tr_seq ?_
    refine tr_region_any mixed (by rfl) ?_
    refine t_move rfl ?_
    refine t_nck refD_ptr rfl ?_
    refine t_fldRD fi156_3 ti71 rfl rfl ?_
    refine t_loadRD ti71 rfl rfl rfl ?_
    refine t_move rfl ?_
    refine t_nck refD_ptr rfl ?_
    refine t_fldRD fi156_1 ti3 rfl rfl ?_
    refine t_loadRD ti3 rfl rfl rfl ?_
    refine t_build (parts := [(0, .tmp 9), (1, .tmp 13)]) bi73 (.agg rfl (.one rfl rfl .nil)) rfl ?_
    refine t_storeA ti73 rfl rfl rfl rfl rfl ?_
    refine t_end_any ?_ (by kernel_rfl)
    refine nx_then ?_
    refine tr_ret ?_
    exact rt_out1 rfl (.cell ti73 rfl rfl rfl .nil)
theorem c71 (seed : ByteArray) (h : Nat) (hh : seed.size ≤ 64 ∧ 1 ≤ h ∧ h ≤ 8) : Fun Laid Tryz.prog 71 [(RefD (keysL seed h))] (IsV (NV (2 ^ h))) := by
  refine fun_of 10 Tryz.func71 rfl rfl rfl fun w0 H hI => ?_
  have hp8 := pow_le hh.2.2
  refine tr_seq ?_
  refine tr_region (by rfl) ?_
  refine t_assign rfl ?_
  refine t_end ?_
  refine nx_then ?_
  refine tr_seq ?_
  refine tr_seq ?_
  refine tr_region (by rfl) ?_
  refine t_move rfl ?_
  refine t_nonnil ti67.und refD_ptr rfl ?_
  refine t_end ?_
  refine nx_then ?_
  refine tr_cond rfl (fun hc1 => ?_) (fun hc1 => ?_)
  · exact absurd hc1 (by decide)
  · refine tr_skip ?_
    refine nx_then ?_
    refine tr_seq ?_
    refine tr_region (by rfl) ?_
    refine t_move rfl ?_
    refine t_nck refD_ptr rfl ?_
    refine t_fldRD fi156_1 ti3 rfl rfl ?_
    refine t_loadRD ti3 rfl rfl rfl ?_
    refine t_int .shl _ (run_pow (by omega)) rfl rfl ?_
    refine t_assign rfl ?_
    refine t_end ?_
    refine nx_then ?_
    refine tr_ret ?_
    exact rt_out1 rfl (.tmp rfl .nil)
theorem c29 (seed : ByteArray) (h i : Nat) (text : ByteArray) (hh : (seed.size ≤ 64 ∧ 1 ≤ h ∧ h ≤ 8) ∧ i < 2 ^ h ∧ text.size ≤ 1099511627776) : Fun Laid Tryz.prog 29 [(RefD (keysL seed h)), IsV (.int .i64 i), IsV (.string text)] (Tup [IsV (.string (signB seed h i text)), IsV (.int .i64 0)]) := by
  refine fun_of 59 Tryz.func29 rfl rfl rfl fun w0 H hI => ?_
  have hp8 := pow_le hh.1.2.2
  have hpl := pathN_length (leavesN seed (2 ^ h)) i h
  have hsg := catN_size (sigAt seed i (digestB (rootOf seed h) i text)) 35
  refine tr_seq ?_
  refine tr_region (by rfl) ?_
  refine t_assign rfl ?_
  refine t_assign rfl ?_
  refine t_end ?_
  refine nx_then ?_
  refine tr_seq ?_
  refine tr_block ?_
  refine tr_seq ?_
  refine tr_region (by rfl) ?_
  refine t_move rfl ?_
  refine t_nonnil ti67.und refD_ptr rfl ?_
  refine t_assign rfl ?_
  refine t_end ?_
  refine nx_then ?_
  refine tr_cond rfl (fun hc1 => ?_) (fun hc1 => ?_)
  · exact absurd hc1 (by decide)
  · refine tr_seq ?_
    refine tr_region (by rfl) ?_
    refine t_move rfl ?_
    refine t_cmp rfl rfl rfl ?_
    refine t_move rfl ?_
    refine t_split 19 rfl (fun hg2 => ?_) (fun hg2 => ?_)
    · have hg2' := hg2
      try simp only [cmpB, decide_eq_true_eq, decide_eq_false_iff_not, Bool.not_eq_true', Bool.not_eq_false', Bool.not_eq_eq_eq_not, Bool.not_true, Bool.not_false] at hg2'
      exact absurd hg2' (by omega)
    · have hg2' := hg2
      try simp only [cmpB, decide_eq_true_eq, decide_eq_false_iff_not, Bool.not_eq_true', Bool.not_eq_false', Bool.not_eq_eq_eq_not, Bool.not_true, Bool.not_false] at hg2'
      refine t_move rfl ?_ (hg := ⟨_, _, rfl, rfl, hg2⟩)
      refine t_move rfl ?_ (hg := ⟨_, _, rfl, rfl, hg2⟩)
      refine t_call hI (c71 seed h (by omega)) Tryz.func71 rfl ?_ (hg := ⟨_, _, rfl, rfl, hg2⟩)
      refine t_cmp rfl rfl rfl ?_ (hg := ⟨_, _, rfl, rfl, hg2⟩)
      refine t_pickf hg2 rfl rfl ?_
      refine t_assign rfl ?_
      refine t_end ?_
      refine nx_then ?_
      refine tr_cond rfl (fun hc3 => ?_) (fun hc3 => ?_)
      · try simp only [cmpB, decide_eq_true_eq, decide_eq_false_iff_not, Bool.not_eq_true', Bool.not_eq_false', Bool.not_eq_eq_eq_not, Bool.not_true, Bool.not_false] at hc3
        exact absurd hc3 (by omega)
      · try simp only [cmpB, decide_eq_true_eq, decide_eq_false_iff_not, Bool.not_eq_true', Bool.not_eq_false', Bool.not_eq_eq_eq_not, Bool.not_true, Bool.not_false] at hc3
        refine tr_skip ?_
        refine nx_block ?_
        refine nx_then ?_
        refine tr_seq ?_
        refine tr_region_any mixed (by rfl) ?_
        refine t_move rfl ?_
        refine t_nck refD_ptr rfl ?_
        refine t_fldRD fi156_0 ti9 rfl rfl ?_
        refine t_loadRD ti9 rfl rfl rfl ?_
        refine t_move rfl ?_
        refine t_move rfl ?_
        refine t_nck refD_ptr rfl ?_
        refine t_fldRD fi156_3 ti71 rfl rfl ?_
        refine t_loadRD ti71 rfl rfl rfl ?_
        refine t_move rfl ?_
        refine t_move rfl ?_
        refine t_call hI (c73 _ _ _ (by omega)) Tryz.func73 rfl ?_
        refine t_call hI (c72 _ _ _ (by omega)) Tryz.func72 rfl ?_
        refine t_assign rfl ?_
        refine t_end_any ?_ (by kernel_rfl)
        refine nx_then ?_
        refine tr_seq ?_
        refine tr_region (by rfl) ?_
        refine t_move rfl ?_
        refine t_move rfl ?_
        refine t_nck refD_ptr rfl ?_
        refine t_fldRD fi156_2 ti154 rfl rfl ?_
        refine t_loadRF ti154 rfl rfl ?_
        refine t_call hI (c74 _ h _ ⟨by simp [leavesN_length], by omega, by omega⟩) Tryz.func74 rfl ?_
        refine t_move rfl ?_
        refine t_extract rfl rfl ?_
        refine t_extract rfl rfl ?_
        refine t_assign rfl ?_
        refine t_assign rfl ?_
        refine t_end ?_
        refine nx_then ?_
        refine tr_seq ?_
        refine tr_seq ?_
        refine tr_region (by rfl) ?_
        refine t_move rfl ?_
        refine t_len ti154.und slC_form rfl ?_
        refine t_move rfl ?_
        refine t_end ?_
        refine nx_then ?_
        refine tr_block ?_
        rw [← append_emptyB (sigB seed i (digestB (rootOf seed h) i text)), hpl]
        refine tr_loop (σ := Nat) (fun k => k ≤ h) (fun k => []) (fun k => [(8, EqV (.string (sigB seed i (digestB (rootOf seed h) i text) ++ pathB (pathN (leavesN seed (2 ^ h)) i h) k))), (47, .plain (SlL (pathN (leavesN seed (2 ^ h)) i h))), (48, EqV (.int .i64 (h : Int))), (49, EqV (.int .i64 (k : Int)))]) (fun k => h - k) 0 (by omega) (st_is [] [8, 47, 48, 49] rfl rfl rfl) (fun k hp => ?_)
        try dsimp only
        have hps := pathB_size (pathN (leavesN seed (2 ^ h)) i h) k
        have hsz : (sigB seed i (digestB (rootOf seed h) i text) ++ pathB (pathN (leavesN seed (2 ^ h)) i h) k).size = 560 + 16 * k := by rw [ByteArray.size_append, hps, show (sigB seed i (digestB (rootOf seed h) i text)).size = 560 from hsg]
        have hes := ((pathN (leavesN seed (2 ^ h)) i h).getD k (z8 16)).2
        refine tr_seq ?_
        refine tr_region (by rfl) ?_
        refine t_cmp rfl rfl rfl ?_
        refine t_end ?_
        refine nx_then ?_
        refine tr_seq ?_
        refine tr_cond rfl (fun hc4 => ?_) (fun hc4 => ?_)
        · try simp only [cmpB, decide_eq_true_eq, decide_eq_false_iff_not, Bool.not_eq_true', Bool.not_eq_false', Bool.not_eq_eq_eq_not, Bool.not_true, Bool.not_false] at hc4
          refine tr_skip ?_
          refine nx_then ?_
          refine tr_seq ?_
          refine tr_block ?_
          refine tr_seq ?_
          refine tr_region (by rfl) ?_
          refine t_idxLQ k (by omega) (by omega) ti154.und ti71 rfl rfl ?_
          refine t_loadRA ti71 rfl rfl ?_
          refine t_allocA zi71 ?_
          refine t_storeA ti71 rfl rfl rfl rfl rfl ?_
          refine t_end ?_
          refine nx_then ?_
          refine tr_region (by rfl) ?_
          refine t_move rfl ?_
          refine t_slarr ti71 ti5 rfl rfl ?_
          refine t_strBoxB ti86.und ti5.und ti9.und rfl rfl rfl rfl rfl ?_
          refine t_cat rfl rfl (by omega) ?_
          rw [append_assocB]
          refine t_assign rfl ?_
          refine t_end ?_
          refine nx_block ?_
          refine nx_then ?_
          refine tr_region (by rfl) ?_
          refine t_add rfl rfl (by omega) ?_
          refine t_move rfl ?_
          refine t_end ?_
          refine nx_freeze 12 rfl ?_
          exact nx_loop (k + 1) (by omega) (by omega) (st_is [] [8, 47, 48, 49] rfl rfl rfl)
        · try simp only [cmpB, decide_eq_true_eq, decide_eq_false_iff_not, Bool.not_eq_true', Bool.not_eq_false', Bool.not_eq_eq_eq_not, Bool.not_true, Bool.not_false] at hc4
          refine tr_exit ?_
          refine xt_then ?_
          refine xt_loop ?_
          refine xt_hit ?_
          refine nx_then ?_
          refine tr_seq ?_
          refine tr_region (by rfl) ?_
          refine t_move rfl ?_
          refine t_assign rfl ?_
          refine t_assign rfl ?_
          refine t_end ?_
          refine nx_then ?_
          refine tr_ret ?_
          obtain rfl : k = h := by omega
          exact rt_outs (rs := [.tmp 6, .tmp 7]) rfl rfl (.tmp rfl (.tmp rfl .nil))
end Go.Eng
