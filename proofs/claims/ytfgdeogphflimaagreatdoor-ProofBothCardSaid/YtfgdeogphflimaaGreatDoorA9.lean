/- Walks: what one-time signatures lead to. Printed by wip/tools/gen.py out of wip/proofs/A9.py. -/
import Derived.Test.YtfgdeogphflimaaGreatDoorA8
set_option linter.unusedVariables false
set_option linter.unusedSimpArgs false
set_option maxHeartbeats 4000000
namespace Go.Eng
open Go Go.Proofs
/-- The c-th element of a string of elements, from a place on. -/
def elemAt (s : ByteArray) (o : Nat) : Bytes 16 := ⟨if o + 16 ≤ s.size then s.extract o (o + 16) else (z8 16).1, by
  by_cases h : o + 16 ≤ s.size
  · rw [if_pos h, ByteArray.size_extract]; omega
  · rw [if_neg h]; exact (z8 16).2⟩
theorem elemAt_val {s : ByteArray} {o : Nat} (h : o + 16 ≤ s.size) : (elemAt s o).1 = s.extract o (o + 16) := if_pos h
theorem ext_size {s : ByteArray} {o : Nat} (h : o + 16 ≤ s.size) : (s.extract o (o + 16)).size = 16 := by rw [ByteArray.size_extract]; omega
theorem elem_cells {s : ByteArray} {o : Nat} (h : o + 16 ≤ s.size) : (byteCells (s.extract o (o + 16))).take (16 * 1) = flat [sgB (elemAt s o)] := by
  rw [← elemAt_val h]
  have := (elemAt s o).2
  rw [List.take_of_length_le (by rw [byteCells_length]; omega)]
  simp [flat, sgB]
theorem elem_at {s : ByteArray} {o j : Nat} (h : o + 16 ≤ s.size) (hj : j < 16) : (elemAt s o).at j = byteAt s (o + j) := by
  have hs : o + 16 ≤ s.data.size := h
  unfold Bytes.at
  rw [elemAt_val h, ByteArray.data_extract]
  simp only [byteAt, Array.getD_eq_getD_getElem?, Array.getElem?_extract]
  rw [if_pos (by omega)]
def elemP (s : ByteArray) (o : Nat) : Nat → Bytes 16
  | 0 => z8 16
  | j + 1 => (elemP s o j).put j (byteAt s (o + j))
theorem elemP_at (s : ByteArray) (o : Nat) : ∀ (k j : Nat), k ≤ 16 → j < k → (elemP s o k).at j = byteAt s (o + j)
  | 0, _, _, h => by omega
  | k + 1, j, hk, h => by
    rw [elemP, put_at _ _ _ _ (by omega)]
    split
    · rename_i e; rw [e]
    · exact elemP_at s o k j (by omega) (by omega)
theorem elemP_all {s : ByteArray} {o : Nat} (h : o + 16 ≤ s.size) : elemP s o 16 = elemAt s o := Bytes.ext' fun i hi => by rw [elemP_at s o 16 i (by omega) hi, elem_at h hi]
def meetAt (sig : ByteArray) (i : Nat) (x : Bytes 16) (c : Nat) : Bytes 16 := walkB i c (elemAt sig (16 * c)) ((digD x).at c) (15 - (digD x).at c)
def meetB (sig : ByteArray) (i : Nat) (x : Bytes 16) : Bytes 16 := leafB (catN (meetAt sig i x) 35) i

theorem c204 (sig : ByteArray) (i : Nat) (x : Bytes 16) (hh : sig.size = 560 ∧ i < 4611686018427387904) : Fun Laid Tryz.prog 204 [IsV (.string sig), IsV (.int .i64 i), IsV (aggS [sgB x])] (Tup [IsV (aggS [sgB (meetB sig i x)]), IsV (.int .i64 0)]) := by
  refine fun_of 44 Tryz.func204 rfl rfl rfl fun w0 H hI => ?_
  refine tr_seq ?_
  refine tr_region (by rfl) ?_
  refine t_boxA rfl ?_
  refine t_allocA zi71 ?_
  refine t_assign rfl ?_
  refine t_end ?_
  refine nx_then ?_
  refine tr_seq ?_
  refine tr_seq ?_
  refine tr_region (by rfl) ?_
  refine t_move rfl ?_
  refine t_lens ti9.und rfl ?_
  refine t_cmp rfl rfl rfl ?_
  refine t_end ?_
  refine nx_then ?_
  refine tr_cond rfl (fun hc1 => ?_) (fun hc1 => ?_)
  · try simp only [cmpB, decide_eq_true_eq, decide_eq_false_iff_not, Bool.not_eq_true', Bool.not_eq_false', Bool.not_eq_eq_eq_not, Bool.not_true, Bool.not_false] at hc1
    exact absurd hc1 (by omega)
  · try simp only [cmpB, decide_eq_true_eq, decide_eq_false_iff_not, Bool.not_eq_true', Bool.not_eq_false', Bool.not_eq_eq_eq_not, Bool.not_true, Bool.not_false] at hc1
    refine tr_skip ?_
    refine nx_then ?_
    refine tr_seq ?_
    refine tr_region (by rfl) ?_
    refine t_nil (sz := 1) ?_
    refine t_end ?_
    refine nx_then ?_
    refine tr_seq ?_
    refine tr_seq ?_
    refine tr_region (by rfl) ?_
    refine t_load ti71 rfl rfl rfl rfl rfl ?_
    refine t_call hI (c123 _) Tryz.func123 rfl ?_
    refine t_move rfl ?_
    refine t_end ?_
    refine nx_then ?_
    refine tr_block ?_
    refine tr_freeze 5 rfl ?_
    refine tr_loop (σ := Nat) (fun c => c ≤ 35) (fun c => [(6, some (boxS z71 71)), (8, some (rowB (catN (meetAt sig i x) c)))]) (fun c => [(0, EqV (.string sig)), (1, EqV (.int .i64 i)), (6, .ptr 6 0), (17, EqV (aggS [sgN (digD x)])), (18, EqV (.int .i64 (c : Int)))]) (fun c => 35 - c) 0 (by omega) (st_is [6, 8] [0, 1, 6, 17, 18] rfl rfl rfl) (fun c hp => ?_)
    try dsimp only
    have hcs := catN_size (meetAt sig i x) c
    refine tr_seq ?_
    refine tr_region (by rfl) ?_
    refine t_cmp rfl rfl rfl ?_
    refine t_end ?_
    refine nx_then ?_
    refine tr_seq ?_
    refine tr_cond rfl (fun hc2 => ?_) (fun hc2 => ?_)
    · try simp only [cmpB, decide_eq_true_eq, decide_eq_false_iff_not, Bool.not_eq_true', Bool.not_eq_false', Bool.not_eq_eq_eq_not, Bool.not_true, Bool.not_false] at hc2
      have hdl := dig_le x c (by omega)
      have hes := ext_size (s := sig) (o := 16 * c) (by omega)
      refine tr_skip ?_
      refine nx_then ?_
      refine tr_seq ?_
      refine tr_block ?_
      refine tr_seq ?_
      refine tr_region (by rfl) ?_
      refine t_move rfl ?_
      refine t_indexNQ c (by omega) (by omega) ti231.und ti3 rfl rfl ?_
      refine t_assign rfl ?_
      refine t_assign rfl ?_
      refine t_end ?_
      refine nx_then ?_
      refine tr_seq ?_
      refine tr_region (by rfl) ?_
      refine t_move rfl ?_
      refine t_move rfl ?_
      refine t_mul rfl rfl (by omega) ?_
      refine t_move rfl ?_
      refine t_mul rfl rfl (by omega) ?_
      refine t_add rfl rfl (by omega) ?_
      refine t_scut (16 * c) (16 * c + 16) ti9.und rfl ⟨_, rfl⟩ ⟨_, rfl⟩ (by omega) (by omega) ?_
      refine t_bytesD ti9.und ti86.und ti5.und rfl (by simp only [maxLen]; omega) ?_
      refine t_s2ap (N := 16) ti71.und rfl (by decide) (by omega) (elem_cells (by omega)) ?_
      refine t_loadRA ti71 rfl rfl ?_
      refine t_move rfl ?_
      refine t_move rfl ?_
      refine t_build (parts := [(0, .tmp 32), (1, .tmp 33)]) bi225 (.one rfl rfl (.one rfl rfl .nil)) rfl ?_
      refine t_move rfl ?_
      refine t_call hI (c118 _ _ _ _ 15 (by omega)) Tryz.func118 rfl ?_
      refine t_allocA zi71 ?_
      refine t_storeA ti71 rfl rfl rfl rfl rfl ?_
      refine t_end ?_
      refine nx_then ?_
      refine tr_region (by rfl) ?_
      refine t_take rfl ?_
      refine t_slarr ti71 ti5 rfl rfl ?_
      refine t_appendBox ti86.und ti86.und ti5 zi5 rfl rfl rfl rfl rfl rfl rfl (by omega) (rowB_box _ _) rfl ?_
      refine t_takea rfl ?_
      refine t_end ?_
      refine nx_block ?_
      refine nx_then ?_
      refine tr_region (by rfl) ?_
      refine t_add rfl rfl (by omega) ?_
      refine t_move rfl ?_
      refine t_end ?_
      refine nx_freeze 11 rfl ?_
      exact nx_loop (c + 1) (by omega) (by omega) (st_is [6, 8] [0, 1, 6, 17, 18] rfl rfl rfl)
    · try simp only [cmpB, decide_eq_true_eq, decide_eq_false_iff_not, Bool.not_eq_true', Bool.not_eq_false', Bool.not_eq_eq_eq_not, Bool.not_true, Bool.not_false] at hc2
      refine tr_exit ?_
      refine xt_then ?_
      refine xt_loop ?_
      refine xt_hit ?_
      refine nx_then ?_
      refine tr_seq ?_
      obtain rfl : c = 35 := by omega
      refine tr_freezeR 8 rfl ?_
      refine tr_region (by rfl) ?_
      refine t_move rfl ?_
      refine t_move rfl ?_
      refine t_call hI (c120 _ _ (by omega)) Tryz.func120 rfl ?_
      refine t_storeA ti71 rfl rfl rfl rfl rfl ?_
      refine t_assign rfl ?_
      refine t_end ?_
      refine nx_then ?_
      refine tr_ret ?_
      exact rt_outs (rs := [.cell 6 71, .tmp 7]) rfl rfl (.cell ti71 rfl rfl rfl (.tmp rfl .nil))
theorem c207 (sig : ByteArray) (i : Nat) (x : Bytes 16) (hh : sig.size = 560 ∧ i < 4611686018427387904) : Fun Laid Tryz.prog 207 [IsV (.string sig), IsV (.int .i64 i), IsV (aggS [sgB x])] (Tup [IsV (aggS [sgB (meetB sig i x)]), IsV (.bool true)]) := by
  refine fun_of 50 Tryz.func207 rfl rfl rfl fun w0 H hI => ?_
  refine tr_seq ?_
  refine tr_region (by rfl) ?_
  refine t_boxA rfl ?_
  refine t_allocA zi71 ?_
  refine t_assign rfl ?_
  refine t_end ?_
  refine nx_then ?_
  refine tr_seq ?_
  refine tr_seq ?_
  refine tr_region (by rfl) ?_
  refine t_move rfl ?_
  refine t_lens ti9.und rfl ?_
  refine t_cmp rfl rfl rfl ?_
  refine t_end ?_
  refine nx_then ?_
  refine tr_cond rfl (fun hc1 => ?_) (fun hc1 => ?_)
  · try simp only [cmpB, decide_eq_true_eq, decide_eq_false_iff_not, Bool.not_eq_true', Bool.not_eq_false', Bool.not_eq_eq_eq_not, Bool.not_true, Bool.not_false] at hc1
    exact absurd hc1 (by omega)
  · try simp only [cmpB, decide_eq_true_eq, decide_eq_false_iff_not, Bool.not_eq_true', Bool.not_eq_false', Bool.not_eq_eq_eq_not, Bool.not_true, Bool.not_false] at hc1
    refine tr_skip ?_
    refine nx_then ?_
    refine tr_seq ?_
    refine tr_region (by rfl) ?_
    refine t_assign rfl ?_
    refine t_end ?_
    refine nx_then ?_
    refine tr_seq ?_
    refine tr_seq ?_
    refine tr_region (by rfl) ?_
    refine t_load ti71 rfl rfl rfl rfl rfl ?_
    refine t_call hI (c228 _) Tryz.func228 rfl ?_
    refine t_len ti202.und slC_form rfl ?_
    refine t_move rfl ?_
    refine t_end ?_
    refine nx_then ?_
    refine tr_block ?_
    refine tr_freeze 5 rfl ?_
    refine tr_loop (σ := Nat) (fun c => c ≤ 35) (fun c => [(6, some (boxS z71 71))]) (fun c => [(0, EqV (.string sig)), (1, EqV (.int .i64 i)), (6, .ptr 6 0), (8, EqV (.string (catN (meetAt sig i x) c))), (18, .plain (SlN (digsN x))), (19, EqV (.int .i64 ((digsN x).length : Int))), (20, EqV (.int .i64 (c : Int)))]) (fun c => 35 - c) 0 (by omega) (st_is [6] [0, 1, 6, 8, 18, 19, 20] rfl rfl rfl) (fun c hp => ?_)
    try dsimp only
    have hcs := catN_size (meetAt sig i x) c
    have hdn := digsN_length x
    refine tr_seq ?_
    refine tr_region (by rfl) ?_
    refine t_cmp rfl rfl rfl ?_
    refine t_end ?_
    refine nx_then ?_
    refine tr_seq ?_
    refine tr_cond rfl (fun hc2 => ?_) (fun hc2 => ?_)
    · try simp only [cmpB, decide_eq_true_eq, decide_eq_false_iff_not, Bool.not_eq_true', Bool.not_eq_false', Bool.not_eq_eq_eq_not, Bool.not_true, Bool.not_false] at hc2
      have hdl := dig_le x c (by omega)
      refine tr_skip ?_
      refine nx_then ?_
      refine tr_seq ?_
      refine tr_block ?_
      refine tr_seq ?_
      refine tr_region (by rfl) ?_
      refine t_move rfl ?_
      refine t_idxNQ c (by omega) (by omega) ti202.und ti3 rfl rfl ?_
      refine t_loadR1 ti3 rfl rfl ?_
      refine t_assign rfl ?_
      refine t_assign rfl ?_
      refine t_end ?_
      refine nx_then ?_
      refine tr_seq ?_
      refine tr_region (by rfl) ?_
      refine t_allocA zi71 ?_
      refine t_end ?_
      refine nx_then ?_
      refine tr_seq ?_
      refine tr_seq ?_
      refine tr_region (by rfl) ?_
      refine t_move rfl ?_
      refine t_end ?_
      refine nx_then ?_
      refine tr_block ?_
      refine tr_loop (σ := Nat) (fun j => j ≤ 16) (fun j => [(6, some (boxS z71 71)), (11, some (boxS [sgB (elemP sig (16 * c) j)] 71))]) (fun j => [(0, EqV (.string sig)), (1, EqV (.int .i64 i)), (6, .ptr 6 0), (8, EqV (.string (catN (meetAt sig i x) c))), (9, EqV (.int .i64 (c : Int))), (10, EqV (NV ((digD x).at c))), (11, .ptr 11 0), (18, .plain (SlN (digsN x))), (19, EqV (.int .i64 ((digsN x).length : Int))), (20, EqV (.int .i64 (c : Int))), (25, EqV (.int .i64 (j : Int)))]) (fun j => 16 - j) 0 (by omega) (st_is [6, 11] [0, 1, 6, 8, 9, 10, 11, 18, 19, 20, 25] rfl rfl rfl) (fun j hp => ?_)
      try dsimp only
      refine tr_seq ?_
      refine tr_region (by rfl) ?_
      refine t_cmp rfl rfl rfl ?_
      refine t_end ?_
      refine nx_then ?_
      refine tr_seq ?_
      refine tr_cond rfl (fun hc3 => ?_) (fun hc3 => ?_)
      · try simp only [cmpB, decide_eq_true_eq, decide_eq_false_iff_not, Bool.not_eq_true', Bool.not_eq_false', Bool.not_eq_eq_eq_not, Bool.not_true, Bool.not_false] at hc3
        refine tr_skip ?_
        refine nx_then ?_
        refine tr_seq ?_
        refine tr_block ?_
        refine tr_seq ?_
        refine tr_region (by rfl) ?_
        refine t_move rfl ?_
        refine t_assign rfl ?_
        refine t_end ?_
        refine nx_then ?_
        refine tr_region (by rfl) ?_
        refine t_move rfl ?_
        refine t_move rfl ?_
        refine t_move rfl ?_
        refine t_mul rfl rfl (by omega) ?_
        refine t_move rfl ?_
        refine t_add rfl rfl (by omega) ?_
        refine t_sidxQ ((16 * c) + j) (by omega) (by omega) ti9.und rfl rfl ?_
        refine t_elemQ j (by omega) (by omega) ti71 ti5 rfl rfl ?_
        refine t_arrStoreB ti5 rfl rfl rfl (by omega) ?_
        refine t_end ?_
        refine nx_block ?_
        refine nx_then ?_
        refine tr_region (by rfl) ?_
        refine t_add rfl rfl (by omega) ?_
        refine t_move rfl ?_
        refine t_end ?_
        exact nx_loop (j + 1) (by omega) (by omega) (st_is [6, 11] [0, 1, 6, 8, 9, 10, 11, 18, 19, 20, 25] rfl rfl rfl)
      · try simp only [cmpB, decide_eq_true_eq, decide_eq_false_iff_not, Bool.not_eq_true', Bool.not_eq_false', Bool.not_eq_eq_eq_not, Bool.not_true, Bool.not_false] at hc3
        refine tr_exit ?_
        refine xt_then ?_
        refine xt_loop ?_
        refine xt_hit ?_
        refine nx_then ?_
        refine tr_seq ?_
        obtain rfl : j = 16 := by omega
        rw [elemP_all (by omega)]
        refine tr_region (by rfl) ?_
        refine t_load ti71 rfl rfl rfl rfl rfl ?_
        refine t_move rfl ?_
        refine t_move rfl ?_
        refine t_move rfl ?_
        refine t_call hI (c229 _ _ _ _ 15 (by omega)) Tryz.func229 rfl ?_
        refine t_storeA ti71 rfl rfl rfl rfl rfl ?_
        refine t_end ?_
        refine nx_then ?_
        refine tr_region (by rfl) ?_
        refine t_move rfl ?_
        refine t_slarr ti71 ti5 rfl rfl ?_
        refine t_strBoxB ti86.und ti5.und ti9.und rfl rfl rfl rfl rfl ?_
        have hw2 : (walkB i c (elemAt sig (16 * c)) ((digD x).at c) (15 - (digD x).at c)).1.size = 16 := (walkB _ _ _ _ _).2
        refine t_cat rfl rfl (by omega) ?_
        refine t_assign rfl ?_
        refine t_end ?_
        refine nx_block ?_
        refine nx_then ?_
        refine tr_region (by rfl) ?_
        refine t_add rfl rfl (by omega) ?_
        refine t_move rfl ?_
        refine t_end ?_
        refine nx_freeze 11 rfl ?_
        exact nx_loop (c + 1) (by omega) (by omega) (st_is [6] [0, 1, 6, 8, 18, 19, 20] rfl rfl rfl)
    · try simp only [cmpB, decide_eq_true_eq, decide_eq_false_iff_not, Bool.not_eq_true', Bool.not_eq_false', Bool.not_eq_eq_eq_not, Bool.not_true, Bool.not_false] at hc2
      refine tr_exit ?_
      refine xt_then ?_
      refine xt_loop ?_
      refine xt_hit ?_
      refine nx_then ?_
      refine tr_seq ?_
      obtain rfl : c = 35 := by omega
      refine tr_region (by rfl) ?_
      refine t_move rfl ?_
      refine t_move rfl ?_
      refine t_call hI (c230 _ _ (by omega)) Tryz.func230 rfl ?_
      refine t_storeA ti71 rfl rfl rfl rfl rfl ?_
      refine t_assign rfl ?_
      refine t_end ?_
      refine nx_then ?_
      refine tr_ret ?_
      exact rt_outs (rs := [.cell 6 71, .tmp 7]) rfl rfl (.cell ti71 rfl rfl rfl (.tmp rfl .nil))
end Go.Eng
