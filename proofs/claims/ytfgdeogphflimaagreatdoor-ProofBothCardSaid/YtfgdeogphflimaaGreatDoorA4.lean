/- Walks: SHA-256, the program's: the whole. Printed by wip/tools/gen.py out of wip/proofs/A4.py. -/
import Derived.Test.YtfgdeogphflimaaGreatDoorA3
set_option linter.unusedVariables false
set_option linter.unusedSimpArgs false
namespace Go.Eng
open Go Go.Proofs
theorem dig4 (h : Words 8) (i r : Nat) (hr : r < 4) : digAt h (4 * i + r) = byteOf ((h.at i >>> UInt32.ofNat (24 - 8 * r)).toNat : Int) := by
  unfold digAt
  rw [show (4 * i + r) / 4 = i by omega, show (4 * i + r) % 4 = r by omega]
theorem digP4 (h : Words 8) (i : Nat) : digP h (4 * i + 4) = ((((digP h (4 * i)).put (4 * i) (byteOf ((h.at i >>> 24).toNat : Int))).put (4 * i + 1) (byteOf ((h.at i >>> 16).toNat : Int))).put (4 * i + 2) (byteOf ((h.at i >>> 8).toNat : Int))).put (4 * i + 3) (byteOf ((h.at i).toNat : Int)) := by
  show ((((digP h (4 * i)).put (4 * i) (digAt h (4 * i))).put (4 * i + 1) (digAt h (4 * i + 1))).put (4 * i + 2) (digAt h (4 * i + 2))).put (4 * i + 3) (digAt h (4 * i + 3)) = _
  rw [dig4 h i 1 (by omega), dig4 h i 2 (by omega), dig4 h i 3 (by omega)]
  have h0 := dig4 h i 0 (by omega)
  rw [Nat.add_zero] at h0
  rw [h0]
  have e : h.at i >>> UInt32.ofNat (24 - 8 * 3) = h.at i := by
    apply UInt32.toNat_inj.1
    rw [UInt32.toNat_shiftRight]
    simp
  rw [e]
  rfl
theorem pad_size {k : Nat} {s b : ByteArray} (h1 : b.size + k = s.size + 65) (h2 : b.size % 64 = 56) (n : Nat) : (lenP n 8 b).size % 64 = 0 ∧ (lenP n 8 b).size ≤ s.size + 73 := by
  rw [lenP_size]
  omega
theorem cut_rest (m : ByteArray) (k : Nat) (h : 64 * k + 64 ≤ m.size) : (((byteCells m).drop (64 * k)).drop (64 * 1)).take ((m.size - 64 * k - 64) * 1) = (byteCells m).drop (64 * (k + 1)) := by
  rw [List.drop_drop, List.take_of_length_le (by rw [List.length_drop, byteCells_length]; omega)]
  congr 1
theorem cut_first (m : ByteArray) (k : Nat) (h : 64 * k + 64 ≤ m.size) : (((byteCells m).drop (64 * k)).drop (0 * 1)).take ((64 - 0) * 1) = blkOf fun j => byteAt m (64 * k + j) := by
  have := blkOf_cut m (a := 64 * k) h
  simpa using this

theorem c160 (s : ByteArray) (hs : s.size < 35184372088832) : Fun Laid Tryz.prog 160 [IsV (.string s)] (IsV (aggS [sgB (shaB s)])) := by
  refine fun_of 79 Tryz.func160 rfl rfl rfl fun w0 H hI => ?_
  refine tr_seq ?_
  refine tr_region (by rfl) ?_
  refine t_allocA zi24 ?_
  refine t_end ?_
  refine nx_then ?_
  refine tr_seq ?_
  refine tr_region (by rfl) ?_
  refine t_loadG hI (fun _ h => h.start) ti297 rfl rfl ?_
  refine t_allocA zi298 ?_
  refine t_storeA ti298 rfl rfl rfl rfl rfl ?_
  refine t_end ?_
  refine nx_then ?_
  refine tr_seq ?_
  refine tr_region (by rfl) ?_
  refine t_move rfl ?_
  refine t_lens ti9.und rfl ?_
  refine t_assign rfl ?_
  refine t_end ?_
  refine nx_then ?_
  refine tr_seq ?_
  refine tr_region (by rfl) ?_
  refine t_move rfl ?_
  have hpush : (s.push 128).size = s.size + 1 := ByteArray.size_push
  refine t_bytes ti9.und ti86.und ti5.und rfl (by simp only [maxLen]; omega) ?_
  refine t_lit (parts := [(0, .const _)]) ti86.und ti5 zi5 rfl rfl rfl rfl (.one (v := U8 128) rfl rfl .nil) rfl rfl ?_
  refine t_append ti86.und ti5 zi5 rfl rfl rfl (src_data ti86.und (cellsE_one _) rfl) (by omega) (rowB_pushU _ _ _ _) ?_
  refine t_takea rfl ?_
  refine t_end ?_
  refine nx_then ?_
  refine tr_seq ?_
  refine tr_block ?_
  refine tr_loop (σ := Nat × ByteArray) (fun q => padZ 64 (s.push 128) = padZ q.1 q.2 ∧ (120 - q.2.size % 64) % 64 ≤ q.1 ∧ q.2.size + q.1 = s.size + 65) (fun q => [(2, some (boxS z24 24)), (3, some (boxS [sgW startW] 298)), (5, some (rowB q.2))]) (fun q => [(2, .ptr 2 0), (3, .ptr 3 0), (4, EqV (.int .i64 s.size))]) (fun q => q.1) (64, s.push 128) ⟨rfl, by show (120 - (s.push 128).size % 64) % 64 ≤ 64; omega, by show (s.push 128).size + 64 = _; rw [ByteArray.size_push]⟩ (st_is [2, 3, 5] [2, 3, 4] rfl rfl rfl) (fun ⟨k, b⟩ hp => ?_)
  try dsimp only
  obtain ⟨hq, hk, hsz⟩ := hp
  dsimp only at hq hk hsz
  refine tr_seq ?_
  refine tr_seq ?_
  refine tr_region (by rfl) ?_
  refine t_mvrow rfl ?_
  refine t_lenN ti86.und (Or.inr rfl) rfl ?_
  refine t_int .rem _ (run_remN (by omega) (by omega)) rfl rfl ?_
  refine t_cmp rfl rfl rfl ?_
  refine t_end ?_
  refine nx_then ?_
  refine tr_cond rfl (fun hc1 => ?_) (fun hc1 => ?_)
  · try simp only [cmpB, decide_eq_true_eq, decide_eq_false_iff_not, Bool.not_eq_true', Bool.not_eq_false', Bool.not_eq_eq_eq_not, Bool.not_true, Bool.not_false] at hc1
    refine tr_skip ?_
    refine nx_then ?_
    refine tr_block ?_
    refine tr_only [2, 3, 4, 18, 19, 20] rfl ?_
    refine tr_region (by rfl) ?_
    refine t_take rfl ?_
    refine t_lit (parts := [(0, .const _)]) ti86.und ti5 zi5 rfl rfl rfl rfl (.one (v := U8 0) rfl rfl .nil) rfl rfl ?_
    refine t_append ti86.und ti5 zi5 rfl rfl rfl (src_data ti86.und (cellsE_one _) rfl) (by omega) (rowB_pushU _ _ _ _) ?_
    refine t_takea rfl ?_
    refine t_end ?_
    refine nx_block ?_
    exact nx_loop (k - 1, b.push 0) (by show k - 1 < k; omega) ⟨by rw [hq]; obtain ⟨j, rfl⟩ : ∃ j, k = j + 1 := ⟨k - 1, by omega⟩; exact padZ_step (by omega), by show (120 - (b.push 0).size % 64) % 64 ≤ k - 1; rw [ByteArray.size_push]; omega, by show (b.push 0).size + (k - 1) = _; rw [ByteArray.size_push]; omega⟩ (st_is [2, 3, 5] [2, 3, 4] rfl rfl rfl)
  · try simp only [cmpB, decide_eq_true_eq, decide_eq_false_iff_not, Bool.not_eq_true', Bool.not_eq_false', Bool.not_eq_eq_eq_not, Bool.not_true, Bool.not_false] at hc1
    refine tr_exit ?_
    refine xt_then ?_
    refine xt_loop ?_
    refine xt_hit ?_
    refine nx_then ?_
    refine tr_seq ?_
    refine tr_seq ?_
    refine tr_region (by rfl) ?_
    refine t_assign rfl ?_
    refine t_end ?_
    refine nx_then ?_
    refine tr_block ?_
    have h56 : b.size % 64 = 56 := by omega
    rw [padZ_done h56] at hq
    refine tr_loop (σ := Nat) (fun k => k ≤ 8) (fun k => [(2, some (boxS z24 24)), (3, some (boxS [sgW startW] 298)), (5, some (rowB (lenP s.size k b)))]) (fun k => [(2, .ptr 2 0), (3, .ptr 3 0), (4, EqV (.int .i64 s.size)), (6, EqV (.int .i64 (7 - (k : Int))))]) (fun k => 8 - k) 0 (by omega) (st_is [2, 3, 5] [2, 3, 4, 6] rfl rfl rfl) (fun j hp => ?_)
    try dsimp only
    have hlp := lenP_size s.size j b
    refine tr_seq ?_
    refine tr_seq ?_
    refine tr_region (by rfl) ?_
    refine t_move rfl ?_
    refine t_cmp rfl rfl rfl ?_
    refine t_end ?_
    refine nx_then ?_
    refine tr_cond rfl (fun hc2 => ?_) (fun hc2 => ?_)
    · try simp only [cmpB, decide_eq_true_eq, decide_eq_false_iff_not, Bool.not_eq_true', Bool.not_eq_false', Bool.not_eq_eq_eq_not, Bool.not_true, Bool.not_false] at hc2
      refine tr_skip ?_
      refine nx_then ?_
      refine tr_seq ?_
      refine tr_block ?_
      refine tr_region (by rfl) ?_
      refine t_take rfl ?_
      refine t_move rfl ?_
      refine t_convF ti3.und ti210.und rfl (by show _ ∧ _; omega) ?_
      refine t_int .mul _ (fun w => by rw [run_mul, wrap_inK (by show _ ∧ _; omega)]) rfl rfl ?_
      refine t_move rfl ?_
      refine t_mul rfl rfl (by omega) ?_
      refine t_int .shr _ (run_shrN (by show _ ∧ _ ≤ ((64 : Nat) : Int); omega)) rfl rfl ?_
      rw [show ((s.size : Int) * 8 / 2 ^ (8 * (7 - (j : Int))).toNat) = ((s.size * 8 / 2 ^ (56 - 8 * j) : Nat) : Int) by rw [show (8 * (7 - (j : Int))).toNat = 56 - 8 * j by omega]; simp]
      refine t_convB ti210.und ti5.und rfl ?_
      refine t_lit (parts := [(0, .tmp 35)]) ti86.und ti5 zi5 rfl rfl rfl rfl (.one rfl rfl .nil) rfl rfl ?_
      refine t_append ti86.und ti5 zi5 rfl rfl rfl (src_data ti86.und (cellsE_one _) rfl) (by omega) (rowB_pushU _ _ _ _) ?_
      refine t_takea rfl ?_
      refine t_end ?_
      refine nx_block ?_
      refine nx_then ?_
      refine tr_region (by rfl) ?_
      refine t_move rfl ?_
      refine t_sub rfl rfl (by omega) ?_
      refine t_assign rfl ?_
      refine t_end ?_
      exact nx_loop (j + 1) (by omega) (by omega) (st_is [2, 3, 5] [2, 3, 4, 6] (by rw [show (7 - (j : Int)) - 1 = 7 - ((j + 1 : Nat) : Int) by omega]; rfl) rfl rfl)
    · try simp only [cmpB, decide_eq_true_eq, decide_eq_false_iff_not, Bool.not_eq_true', Bool.not_eq_false', Bool.not_eq_eq_eq_not, Bool.not_true, Bool.not_false] at hc2
      refine tr_exit ?_
      refine xt_then ?_
      refine xt_loop ?_
      refine xt_hit ?_
      refine nx_then ?_
      refine tr_seq ?_
      refine tr_block ?_
      obtain rfl : j = 8 := by omega
      obtain ⟨hm64, hmle⟩ := pad_size hsz h56 s.size
      rw [show lenP s.size 8 b = msgB s from by rw [msgB, hq]] at hm64 hmle
      rw [show lenP s.size 8 b = msgB s from by rw [msgB, hq]]
      refine tr_freezeR 5 rfl ?_
      refine tr_loop (σ := Nat) (fun k => 64 * k ≤ (msgB s).size) (fun k => [(2, some (boxS z24 24)), (3, some (boxS [sgW (hAt (msgB s) k)] 298))]) (fun k => [(2, .ptr 2 0), (3, .ptr 3 0), (5, .plain (SlC 1 ((msgB s).size - 64 * k) ((byteCells (msgB s)).drop (64 * k))))]) (fun k => (msgB s).size - 64 * k) 0 (by omega) (st_is [2, 3] [2, 3, 5] rfl rfl rfl) (fun k2 hp => ?_)
      try dsimp only
      refine tr_seq ?_
      refine tr_seq ?_
      refine tr_region (by rfl) ?_
      refine t_move rfl ?_
      refine t_len ti86.und slC_form rfl ?_
      refine t_cmp rfl rfl rfl ?_
      refine t_end ?_
      refine nx_then ?_
      refine tr_cond rfl (fun hc3 => ?_) (fun hc3 => ?_)
      · try simp only [cmpB, decide_eq_true_eq, decide_eq_false_iff_not, Bool.not_eq_true', Bool.not_eq_false', Bool.not_eq_eq_eq_not, Bool.not_true, Bool.not_false] at hc3
        refine tr_skip ?_
        refine nx_then ?_
        refine tr_seq ?_
        refine tr_block ?_
        refine tr_region (by rfl) ?_
        refine t_move rfl ?_
        refine t_cut 0 64 ti86.und ti5 rfl rfl ⟨_, rfl⟩ (by decide) (by omega) (cut_first _ _ (by omega)) ?_
        refine t_callM hI (c192 _ _) Tryz.func192 boxS_ptr rfl rfl rfl ?_
        refine t_end ?_
        refine nx_block ?_
        refine nx_then ?_
        refine tr_region (by rfl) ?_
        refine t_move rfl ?_
        refine t_cut 64 ((msgB s).size - 64 * k2) ti86.und ti5 rfl ⟨_, rfl⟩ rfl (by omega) (by omega) (cut_rest _ _ (by omega)) ?_
        rw [show (msgB s).size - 64 * k2 - 64 = (msgB s).size - 64 * (k2 + 1) by omega]
        refine t_assign rfl ?_
        refine t_end ?_
        exact nx_loop (k2 + 1) (by omega) (by omega) (st_is [2, 3] [2, 3, 5] rfl rfl rfl)
      · try simp only [cmpB, decide_eq_true_eq, decide_eq_false_iff_not, Bool.not_eq_true', Bool.not_eq_false', Bool.not_eq_eq_eq_not, Bool.not_true, Bool.not_false] at hc3
        refine tr_exit ?_
        refine xt_then ?_
        refine xt_loop ?_
        refine xt_hit ?_
        refine nx_then ?_
        refine tr_seq ?_
        obtain rfl : k2 = (msgB s).size / 64 := by omega
        refine tr_region (by rfl) ?_
        refine t_allocA zi24 ?_
        refine t_end ?_
        refine nx_then ?_
        refine tr_seq ?_
        refine tr_seq ?_
        refine tr_region (by rfl) ?_
        refine t_load ti298 rfl rfl rfl rfl rfl ?_
        refine t_move rfl ?_
        refine t_end ?_
        refine nx_then ?_
        refine tr_block ?_
        refine tr_loop (σ := Nat) (fun i => i ≤ 8) (fun i => [(2, some (boxS z24 24)), (3, some (boxS [sgW (hAt (msgB s) ((msgB s).size / 64))] 298)), (7, some (boxS [sgB (digP (hAt (msgB s) ((msgB s).size / 64)) (4 * i))] 24))]) (fun i => [(2, .ptr 2 0), (7, .ptr 7 0), (46, EqV (aggS [sgW (hAt (msgB s) ((msgB s).size / 64))])), (47, EqV (.int .i64 (i : Int)))]) (fun i => 8 - i) 0 (by omega) (st_is [2, 3, 7] [2, 7, 46, 47] rfl rfl rfl) (fun i hp => ?_)
        try dsimp only
        refine tr_seq ?_
        refine tr_region (by rfl) ?_
        refine t_cmp rfl rfl rfl ?_
        refine t_end ?_
        refine nx_then ?_
        refine tr_seq ?_
        refine tr_cond rfl (fun hc4 => ?_) (fun hc4 => ?_)
        · try simp only [cmpB, decide_eq_true_eq, decide_eq_false_iff_not, Bool.not_eq_true', Bool.not_eq_false', Bool.not_eq_eq_eq_not, Bool.not_true, Bool.not_false] at hc4
          refine tr_skip ?_
          refine nx_then ?_
          refine tr_seq ?_
          refine tr_block ?_
          refine tr_seq ?_
          refine tr_region (by rfl) ?_
          refine t_move rfl ?_
          refine t_indexWQ i (by omega) (by omega) ti298.und ti211 rfl rfl ?_
          refine t_assign rfl ?_
          refine t_assign rfl ?_
          refine t_end ?_
          refine nx_then ?_
          refine tr_region (by rfl) ?_
          refine t_move rfl ?_
          refine t_mul rfl rfl (by omega) ?_
          refine t_move rfl ?_
          refine t_mul rfl rfl (by omega) ?_
          refine t_add rfl rfl (by omega) ?_
          refine t_move rfl ?_
          refine t_mul rfl rfl (by omega) ?_
          refine t_add rfl rfl (by omega) ?_
          refine t_move rfl ?_
          refine t_mul rfl rfl (by omega) ?_
          refine t_add rfl rfl (by omega) ?_
          refine t_move rfl ?_
          refine t_int .shr _ (run_shrU _ ⟨by decide, by decide⟩) rfl rfl ?_
          refine t_convB ti211.und ti5.und rfl ?_
          refine t_move rfl ?_
          refine t_int .shr _ (run_shrU _ ⟨by decide, by decide⟩) rfl rfl ?_
          refine t_convB ti211.und ti5.und rfl ?_
          refine t_move rfl ?_
          refine t_int .shr _ (run_shrU _ ⟨by decide, by decide⟩) rfl rfl ?_
          refine t_convB ti211.und ti5.und rfl ?_
          refine t_move rfl ?_
          refine t_convB ti211.und ti5.und rfl ?_
          refine t_elemQ (4 * i) (by omega) (by omega) ti24 ti5 rfl rfl ?_
          refine t_arrStoreB ti5 rfl rfl rfl (by omega) ?_
          refine t_elemQ ((4 * i) + 1) (by omega) (by omega) ti24 ti5 rfl rfl ?_
          refine t_arrStoreB ti5 rfl rfl rfl (by omega) ?_
          refine t_elemQ ((4 * i) + 2) (by omega) (by omega) ti24 ti5 rfl rfl ?_
          refine t_arrStoreB ti5 rfl rfl rfl (by omega) ?_
          refine t_elemQ ((4 * i) + 3) (by omega) (by omega) ti24 ti5 rfl rfl ?_
          refine t_arrStoreB ti5 rfl rfl rfl (by omega) ?_
          refine t_end ?_
          refine nx_block ?_
          refine nx_then ?_
          refine tr_region (by rfl) ?_
          refine t_add rfl rfl (by omega) ?_
          refine t_move rfl ?_
          refine t_end ?_
          exact nx_loop (i + 1) (by omega) (by omega) (st_is [2, 3, 7] [2, 7, 46, 47] rfl (by rw [show 4 * (i + 1) = 4 * i + 4 by omega, digP4]; rfl) rfl)
        · try simp only [cmpB, decide_eq_true_eq, decide_eq_false_iff_not, Bool.not_eq_true', Bool.not_eq_false', Bool.not_eq_eq_eq_not, Bool.not_true, Bool.not_false] at hc4
          refine tr_exit ?_
          refine xt_then ?_
          refine xt_loop ?_
          refine xt_hit ?_
          refine nx_then ?_
          refine tr_seq ?_
          refine tr_region (by rfl) ?_
          refine t_load ti24 rfl rfl rfl rfl rfl ?_
          refine t_storeA ti24 rfl rfl rfl rfl rfl ?_
          refine t_end ?_
          refine nx_then ?_
          refine tr_ret ?_
          obtain rfl : i = 8 := by omega
          exact rt_out1 rfl (.cell ti24 rfl rfl rfl .nil)
end Go.Eng
