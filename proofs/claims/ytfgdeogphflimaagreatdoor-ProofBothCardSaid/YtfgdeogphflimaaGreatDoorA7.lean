/- Walks: digits. Printed by wip/tools/gen.py out of wip/proofs/A7.py. -/
import Derived.Test.YtfgdeogphflimaaGreatDoorA6
set_option linter.unusedVariables false
set_option linter.unusedSimpArgs false
set_option maxHeartbeats 4000000
namespace Go.Eng
open Go Go.Proofs
/-- A digit of four bits; what the digits leave. -/
def nib (x : Bytes 16) (i : Nat) : Nat := if i % 2 = 0 then (x.at (i / 2)).toNat / 16 else (x.at (i / 2)).toNat % 16
theorem nib_lt (x : Bytes 16) (i : Nat) : nib x i < 16 := by
  have := (x.at (i / 2)).toNat_lt
  unfold nib
  split <;> omega
def leftN (x : Bytes 16) : Nat → Nat
  | 0 => 0
  | i + 1 => leftN x i + (15 - nib x i)
theorem leftN_le (x : Bytes 16) : ∀ i, leftN x i ≤ 15 * i
  | 0 => Nat.le_refl _
  | i + 1 => by
    have := leftN_le x i
    show leftN x i + (15 - nib x i) ≤ _
    omega
def digsN (x : Bytes 16) : List Nat := (List.range 32).map (nib x) ++ [leftN x 32 / 256, leftN x 32 / 16 % 16, leftN x 32 % 16]
theorem digsN_length (x : Bytes 16) : (digsN x).length = 35 := by simp [digsN]
def digD (x : Bytes 16) : Nats 35 := ⟨digsN x, digsN_length x⟩
def dAt (x : Bytes 16) : Nat → Nats 35
  | 0 => zN 35
  | i + 1 => (dAt x i).put i (nib x i)
def dC (x : Bytes 16) : Nat → Nats 35
  | 0 => dAt x 32
  | j + 1 => (dC x j).put (32 + j) (leftN x 32 / 2 ^ (8 - 4 * j) % 16)
theorem and15 (n : Nat) : n &&& 15 = n % 16 := Nat.and_two_pow_sub_one_eq_mod n 4
theorem nib_shift (x : Bytes 16) (i : Nat) : (x.at (i / 2)).toNat / 2 ^ (4 - 4 * (i % 2)) &&& 15 = nib x i := by
  have hb := (x.at (i / 2)).toNat_lt
  rw [and15]
  unfold nib
  rcases (by omega : i % 2 = 0 ∨ i % 2 = 1) with h | h
  · rw [h, if_pos rfl]
    simp only [Nat.mul_zero, Nat.sub_zero]
    omega
  · rw [h, if_neg (by omega)]
    simp only [Nat.mul_one, Nat.sub_self, Nat.pow_zero, Nat.div_one]
theorem dAt_at (x : Bytes 16) : ∀ (k j : Nat), k ≤ 32 → j < k → (dAt x k).at j = nib x j
  | 0, _, _, h => by omega
  | k + 1, j, hk, h => by
    rw [dAt, Nats.put_at _ _ _ _ (by omega)]
    split
    · rename_i e; rw [e]
    · exact dAt_at x k j (by omega) (by omega)
theorem Nats.ext' {n : Nat} {a b : Nats n} (h : ∀ i, i < n → a.at i = b.at i) : a = b := by
  apply Subtype.ext
  have ha : a.1.length = n := a.2
  have hb : b.1.length = n := b.2
  apply List.ext_getElem (by omega)
  intro i h1 h2
  have := h i (by omega)
  simpa [Nats.at, List.getD_eq_getElem?_getD, List.getElem?_eq_getElem h1, List.getElem?_eq_getElem h2] using this
theorem dC_all (x : Bytes 16) : dC x 3 = digD x := Nats.ext' fun i hi => by
  have hl := leftN_le x 32
  have h1 : (dC x 3).at i = if i = 34 then leftN x 32 / 2 ^ 0 % 16 else if i = 33 then leftN x 32 / 2 ^ 4 % 16 else if i = 32 then leftN x 32 / 2 ^ 8 % 16 else (dAt x 32).at i := by
    show (((dC x 0).put 32 _).put 33 _ |>.put 34 _).at i = _
    rw [Nats.put_at _ _ _ _ (by omega), Nats.put_at _ _ _ _ (by omega), Nats.put_at _ _ _ _ (by omega)]
    rfl
  rw [h1]
  unfold digD Nats.at digsN
  simp only [List.getD_eq_getElem?_getD]
  by_cases h : i < 32
  · rw [if_neg (by omega), if_neg (by omega), if_neg (by omega), List.getElem?_append_left (by simpa using h)]
    have := dAt_at x 32 i (by omega) h
    unfold Nats.at at this
    simp only [List.getD_eq_getElem?_getD] at this
    rw [this]
    simp [h]
  · rw [List.getElem?_append_right (by simp; omega)]
    simp only [List.length_map, List.length_range]
    rcases (by omega : i = 32 ∨ i = 33 ∨ i = 34) with h | h | h <;> subst h <;> simp
    omega
def outN (x : Bytes 16) : Nat → List Nat
  | 0 => []
  | k + 1 => outN x k ++ [(x.at k).toNat / 16, (x.at k).toNat % 16]
theorem outN_eq (x : Bytes 16) : ∀ k, outN x k = (List.range (2 * k)).map (nib x)
  | 0 => rfl
  | k + 1 => by
    rw [outN, outN_eq x k, show 2 * (k + 1) = 2 * k + 1 + 1 by omega, List.range_succ, List.range_succ]
    simp only [List.map_append, List.map_cons, List.map_nil, List.append_assoc, List.cons_append, List.nil_append]
    congr 1
    unfold nib
    rw [if_pos (by omega), if_neg (by omega), show 2 * k / 2 = k by omega, show (2 * k + 1) / 2 = k by omega]
theorem outN_length (x : Bytes 16) (k : Nat) : (outN x k).length = 2 * k := by rw [outN_eq]; simp
theorem left2 (x : Bytes 16) (k : Nat) : (leftN x (2 * k) : Int) + 30 - ((x.at k).toNat : Int) / 16 - ((x.at k).toNat : Int) % 16 = (leftN x (2 * (k + 1)) : Int) := by
  have hb := (x.at k).toNat_lt
  have h1 : nib x (2 * k) = (x.at k).toNat / 16 := by
    unfold nib
    rw [if_pos (by omega), show 2 * k / 2 = k by omega]
  have h2 : nib x (2 * k + 1) = (x.at k).toNat % 16 := by
    unfold nib
    rw [if_neg (by omega), show (2 * k + 1) / 2 = k by omega]
  show _ = ((leftN x (2 * k) + (15 - nib x (2 * k)) + (15 - nib x (2 * k + 1)) : Nat) : Int)
  rw [h1, h2]
  omega

theorem c123 (x : Bytes 16) : Fun Laid Tryz.prog 123 [IsV (aggS [sgB x])] (IsV (aggS [sgN (digD x)])) := by
  refine fun_of 44 Tryz.func123 rfl rfl rfl fun w0 H hI => ?_
  refine tr_seq ?_
  refine tr_region (by rfl) ?_
  refine t_boxA rfl ?_
  refine t_allocA zi231 ?_
  refine t_end ?_
  refine nx_then ?_
  refine tr_seq ?_
  refine tr_region (by rfl) ?_
  refine t_allocA zi231 ?_
  refine t_end ?_
  refine nx_then ?_
  refine tr_seq ?_
  refine tr_region (by rfl) ?_
  refine t_assign rfl ?_
  refine t_end ?_
  refine nx_then ?_
  refine tr_seq ?_
  refine tr_seq ?_
  refine tr_region (by rfl) ?_
  refine t_move rfl ?_
  refine t_end ?_
  refine nx_then ?_
  refine tr_block ?_
  refine tr_loop (σ := Nat) (fun i => i ≤ 32) (fun i => [(1, some (boxS [sgB x] 71)), (2, some (boxS z231 231)), (3, some (boxS [sgN (dAt x i)] 231))]) (fun i => [(1, .ptr 1 0), (2, .ptr 2 0), (3, .ptr 3 0), (4, EqV (.int .i64 (leftN x i : Int))), (7, EqV (.int .i64 (i : Int)))]) (fun i => 32 - i) 0 (by omega) (st_is [1, 2, 3] [1, 2, 3, 4, 7] rfl rfl rfl) (fun i hp => ?_)
  try dsimp only
  have hb := (x.at (i / 2)).toNat_lt
  have hl := leftN_le x i
  have hn := nib_lt x i
  have hd := Nat.div_le_self (x.at (i / 2)).toNat (2 ^ (4 - 4 * (i % 2)))
  refine tr_seq ?_
  refine tr_region (by rfl) ?_
  refine t_cmp rfl rfl rfl ?_
  refine t_end ?_
  refine nx_then ?_
  refine tr_seq ?_
  refine tr_cond rfl (fun hc1 => ?_) (fun hc1 => ?_)
  · try simp only [cmpB, decide_eq_true_eq, decide_eq_false_iff_not, Bool.not_eq_true', Bool.not_eq_false', Bool.not_eq_eq_eq_not, Bool.not_true, Bool.not_false] at hc1
    refine tr_skip ?_
    refine nx_then ?_
    refine tr_seq ?_
    refine tr_block ?_
    refine tr_seq ?_
    refine tr_region (by rfl) ?_
    refine t_move rfl ?_
    refine t_assign rfl ?_
    refine t_end ?_
    refine nx_then ?_
    refine tr_seq ?_
    refine tr_region (by rfl) ?_
    refine t_move rfl ?_
    refine t_move rfl ?_
    refine t_int .quo _ (run_quoN (by omega) (by omega) (by show _ ∧ _; omega)) rfl rfl ?_
    refine t_elemQ (i / 2) (by omega) (by omega) ti71 ti5 rfl rfl ?_
    refine t_arrLoadB ti5 rfl rfl (by omega) ?_
    refine t_move rfl ?_
    refine t_int .rem _ (run_remN (by omega) (by omega)) rfl rfl ?_
    refine t_mul rfl rfl (by omega) ?_
    refine t_sub rfl rfl (by omega) ?_
    refine t_int .shr _ (run_shrN (by show _ ∧ _ ≤ ((8 : Nat) : Int); omega)) rfl rfl ?_
    rw [show (((x.at (i / 2)).toNat : Int) / 2 ^ ((4 : Int) - 4 * ((i : Int) % 2)).toNat) = (((x.at (i / 2)).toNat / 2 ^ (4 - 4 * (i % 2)) : Nat) : Int) by rw [show ((4 : Int) - 4 * ((i : Int) % 2)).toNat = 4 - 4 * (i % 2) by omega]; simp]
    refine t_convF ti5.und ti3.und rfl (by first | (show _ ∧ _; omega) | exact natK (by omega)) ?_
    refine t_int .and _ (run_andN (n := 15) rfl (by omega) (by decide)) rfl rfl ?_
    rw [nib_shift]
    refine t_elemQ i (by omega) (by omega) ti231 ti3 rfl rfl ?_
    refine t_arrStoreN ti3 rfl rfl rfl (by omega) ?_
    refine t_end ?_
    refine nx_then ?_
    refine tr_region (by rfl) ?_
    refine t_move rfl ?_
    refine t_move rfl ?_
    refine t_elemQ i (by omega) (by omega) ti231 ti3 rfl rfl ?_
    refine t_arrLoadN ti3 rfl rfl (by omega) ?_
    rw [Nats.put_at _ _ _ _ (by omega), if_pos rfl]
    refine t_sub rfl rfl (by omega) ?_
    refine t_add rfl rfl (by omega) ?_
    rw [show (leftN x i : Int) + (15 - (nib x i : Int)) = (leftN x (i + 1) : Int) by show _ = ((leftN x i + (15 - nib x i) : Nat) : Int); omega]
    refine t_assign rfl ?_
    refine t_end ?_
    refine nx_block ?_
    refine nx_then ?_
    refine tr_region (by rfl) ?_
    refine t_add rfl rfl (by omega) ?_
    refine t_move rfl ?_
    refine t_end ?_
    exact nx_loop (i + 1) (by omega) (by omega) (st_is [1, 2, 3] [1, 2, 3, 4, 7] rfl rfl rfl)
  · try simp only [cmpB, decide_eq_true_eq, decide_eq_false_iff_not, Bool.not_eq_true', Bool.not_eq_false', Bool.not_eq_eq_eq_not, Bool.not_true, Bool.not_false] at hc1
    refine tr_exit ?_
    refine xt_then ?_
    refine xt_loop ?_
    refine xt_hit ?_
    refine nx_then ?_
    refine tr_seq ?_
    refine tr_seq ?_
    refine tr_region (by rfl) ?_
    refine t_move rfl ?_
    refine t_end ?_
    refine nx_then ?_
    refine tr_block ?_
    obtain rfl : i = 32 := by omega
    refine tr_loop (σ := Nat) (fun j => j ≤ 3) (fun j => [(1, some (boxS [sgB x] 71)), (2, some (boxS z231 231)), (3, some (boxS [sgN (dC x j)] 231))]) (fun j => [(2, .ptr 2 0), (3, .ptr 3 0), (4, EqV (.int .i64 (leftN x 32 : Int))), (30, EqV (.int .i64 (j : Int)))]) (fun j => 3 - j) 0 (by omega) (st_is [1, 2, 3] [2, 3, 4, 30] rfl rfl rfl) (fun j hp => ?_)
    try dsimp only
    have hl := leftN_le x 32
    have hd := Nat.div_le_self (leftN x 32) (2 ^ (8 - 4 * j))
    refine tr_seq ?_
    refine tr_region (by rfl) ?_
    refine t_cmp rfl rfl rfl ?_
    refine t_end ?_
    refine nx_then ?_
    refine tr_seq ?_
    refine tr_cond rfl (fun hc2 => ?_) (fun hc2 => ?_)
    · try simp only [cmpB, decide_eq_true_eq, decide_eq_false_iff_not, Bool.not_eq_true', Bool.not_eq_false', Bool.not_eq_eq_eq_not, Bool.not_true, Bool.not_false] at hc2
      refine tr_skip ?_
      refine nx_then ?_
      refine tr_seq ?_
      refine tr_block ?_
      refine tr_seq ?_
      refine tr_region (by rfl) ?_
      refine t_move rfl ?_
      refine t_assign rfl ?_
      refine t_end ?_
      refine nx_then ?_
      refine tr_region (by rfl) ?_
      refine t_move rfl ?_
      refine t_add rfl rfl (by omega) ?_
      refine t_move rfl ?_
      refine t_move rfl ?_
      refine t_mul rfl rfl (by omega) ?_
      refine t_sub rfl rfl (by omega) ?_
      refine t_int .shr _ (run_shrN (by show _ ∧ _ ≤ ((64 : Nat) : Int); omega)) rfl rfl ?_
      rw [show ((leftN x 32 : Int) / 2 ^ ((8 : Int) - 4 * (j : Int)).toNat) = ((leftN x 32 / 2 ^ (8 - 4 * j) : Nat) : Int) by rw [show ((8 : Int) - 4 * (j : Int)).toNat = 8 - 4 * j by omega]; simp]
      refine t_int .and _ (run_andN (n := 15) rfl (by omega) (by decide)) rfl rfl ?_
      rw [and15]
      refine t_elemQ (32 + j) (by omega) (by omega) ti231 ti3 rfl rfl ?_
      refine t_arrStoreN ti3 rfl rfl rfl (by omega) ?_
      refine t_end ?_
      refine nx_block ?_
      refine nx_then ?_
      refine tr_region (by rfl) ?_
      refine t_add rfl rfl (by omega) ?_
      refine t_move rfl ?_
      refine t_end ?_
      exact nx_loop (j + 1) (by omega) (by omega) (st_is [1, 2, 3] [2, 3, 4, 30] rfl rfl rfl)
    · try simp only [cmpB, decide_eq_true_eq, decide_eq_false_iff_not, Bool.not_eq_true', Bool.not_eq_false', Bool.not_eq_eq_eq_not, Bool.not_true, Bool.not_false] at hc2
      refine tr_exit ?_
      refine xt_then ?_
      refine xt_loop ?_
      refine xt_hit ?_
      refine nx_then ?_
      refine tr_seq ?_
      refine tr_region (by rfl) ?_
      refine t_load ti231 rfl rfl rfl rfl rfl ?_
      refine t_storeA ti231 rfl rfl rfl rfl rfl ?_
      refine t_end ?_
      refine nx_then ?_
      refine tr_ret ?_
      obtain rfl : j = 3 := by omega
      rw [dC_all]
      exact rt_out1 rfl (.cell ti231 rfl rfl rfl .nil)
theorem c228 (x : Bytes 16) : Fun Laid Tryz.prog 228 [IsV (aggS [sgB x])] (SlN (digsN x)) := by
  refine fun_of 41 Tryz.func228 rfl rfl rfl fun w0 H hI => ?_
  refine tr_seq ?_
  refine tr_region (by rfl) ?_
  refine t_boxA rfl ?_
  refine t_assign rfl ?_
  refine t_end ?_
  refine nx_then ?_
  refine tr_seq ?_
  refine tr_region (by rfl) ?_
  refine t_nil (sz := 1) ?_
  refine t_end ?_
  refine nx_then ?_
  refine tr_seq ?_
  refine tr_region (by rfl) ?_
  refine t_assign rfl ?_
  refine t_end ?_
  refine nx_then ?_
  refine tr_seq ?_
  refine tr_seq ?_
  refine tr_region (by rfl) ?_
  refine t_load ti71 rfl rfl rfl rfl rfl ?_
  refine t_move rfl ?_
  refine t_end ?_
  refine nx_then ?_
  refine tr_block ?_
  refine tr_loop (σ := Nat) (fun k => k ≤ 16) (fun k => [(1, some (boxS [sgB x] 71)), (3, some (rowN (outN x k)))]) (fun k => [(4, EqV (.int .i64 (leftN x (2 * k) : Int))), (7, EqV (aggS [sgB x])), (8, EqV (.int .i64 (k : Int)))]) (fun k => 16 - k) 0 (by omega) (st_is [1, 3] [4, 7, 8] rfl rfl rfl) (fun k hp => ?_)
  try dsimp only
  have hb := (x.at k).toNat_lt
  have hl := leftN_le x (2 * k)
  have ho := outN_length x k
  refine tr_seq ?_
  refine tr_region (by rfl) ?_
  refine t_cmp rfl rfl rfl ?_
  refine t_end ?_
  refine nx_then ?_
  refine tr_seq ?_
  refine tr_cond rfl (fun hc1 => ?_) (fun hc1 => ?_)
  · try simp only [cmpB, decide_eq_true_eq, decide_eq_false_iff_not, Bool.not_eq_true', Bool.not_eq_false', Bool.not_eq_eq_eq_not, Bool.not_true, Bool.not_false] at hc1
    refine tr_skip ?_
    refine nx_then ?_
    refine tr_seq ?_
    refine tr_block ?_
    refine tr_seq ?_
    refine tr_region (by rfl) ?_
    refine t_indexBQ k (by omega) (by omega) ti71.und ti5 rfl rfl ?_
    refine t_assign rfl ?_
    refine t_end ?_
    refine nx_then ?_
    refine tr_seq ?_
    refine tr_region (by rfl) ?_
    refine t_take rfl ?_
    refine t_move rfl ?_
    refine t_convF ti5.und ti3.und rfl (by first | (show _ ∧ _; omega) | exact natK (by omega)) ?_
    refine t_int .quo _ (run_quoN (by omega) (by omega) (by show _ ∧ _; omega)) rfl rfl ?_
    rw [show ((x.at k).toNat : Int) / 16 = (((x.at k).toNat / 16 : Nat) : Int) by omega]
    refine t_move rfl ?_
    refine t_convF ti5.und ti3.und rfl (by first | (show _ ∧ _; omega) | exact natK (by omega)) ?_
    refine t_int .rem _ (run_remN (by omega) (by omega)) rfl rfl ?_
    rw [show ((x.at k).toNat : Int) % 16 = (((x.at k).toNat % 16 : Nat) : Int) by omega]
    refine t_litN (parts := [(0, .tmp 14), (1, .tmp 17)]) ti202.und ti3 zi3 (.cons rfl rfl (.cons rfl rfl .nil)) 2 rfl rfl rfl ?_
    refine t_append ti202.und ti3 zi3 rfl rfl rfl (src_data ti202.und (cellsN_one _) rfl) (by simp only [List.length_cons, List.length_nil]; omega) (rowN_app _ _) ?_
    refine t_takea rfl ?_
    refine t_end ?_
    refine nx_then ?_
    refine tr_region (by rfl) ?_
    refine t_move rfl ?_
    refine t_add rfl rfl (by omega) ?_
    refine t_move rfl ?_
    refine t_convF ti5.und ti3.und rfl (by first | (show _ ∧ _; omega) | exact natK (by omega)) ?_
    refine t_int .quo _ (run_quoN (by omega) (by omega) (by show _ ∧ _; omega)) rfl rfl ?_
    refine t_sub rfl rfl (by omega) ?_
    refine t_move rfl ?_
    refine t_convF ti5.und ti3.und rfl (by first | (show _ ∧ _; omega) | exact natK (by omega)) ?_
    refine t_int .rem _ (run_remN (by omega) (by omega)) rfl rfl ?_
    refine t_sub rfl rfl (by omega) ?_
    rw [left2]
    refine t_assign rfl ?_
    refine t_end ?_
    refine nx_block ?_
    refine nx_then ?_
    refine tr_region (by rfl) ?_
    refine t_add rfl rfl (by omega) ?_
    refine t_move rfl ?_
    refine t_end ?_
    exact nx_loop (k + 1) (by omega) (by omega) (st_is [1, 3] [4, 7, 8] rfl rfl rfl)
  · try simp only [cmpB, decide_eq_true_eq, decide_eq_false_iff_not, Bool.not_eq_true', Bool.not_eq_false', Bool.not_eq_eq_eq_not, Bool.not_true, Bool.not_false] at hc1
    refine tr_exit ?_
    refine xt_then ?_
    refine xt_loop ?_
    refine xt_hit ?_
    refine nx_then ?_
    refine tr_seq ?_
    obtain rfl : k = 16 := by omega
    refine tr_region (by rfl) ?_
    refine t_take rfl ?_
    refine t_move rfl ?_
    refine t_int .quo _ (run_quoN (by omega) (by omega) (by show _ ∧ _; omega)) rfl rfl ?_
    rw [show (leftN x (2 * 16) : Int) / 256 = ((leftN x 32 / 256 : Nat) : Int) by show (leftN x 32 : Int) / 256 = _; omega]
    refine t_move rfl ?_
    refine t_int .quo _ (run_quoN (by omega) (by omega) (by show _ ∧ _; omega)) rfl rfl ?_
    refine t_int .rem _ (run_remN (by omega) (by omega)) rfl rfl ?_
    rw [show (leftN x (2 * 16) : Int) / 16 % 16 = ((leftN x 32 / 16 % 16 : Nat) : Int) by show (leftN x 32 : Int) / 16 % 16 = _; omega]
    refine t_move rfl ?_
    refine t_int .rem _ (run_remN (by omega) (by omega)) rfl rfl ?_
    rw [show (leftN x (2 * 16) : Int) % 16 = ((leftN x 32 % 16 : Nat) : Int) by show (leftN x 32 : Int) % 16 = _; omega]
    refine t_litN (parts := [(0, .tmp 33), (1, .tmp 36), (2, .tmp 38)]) ti202.und ti3 zi3 (.cons rfl rfl (.cons rfl rfl (.cons rfl rfl .nil))) 3 rfl rfl rfl ?_
    refine t_appendD ti202.und ti3 zi3 rfl rfl rfl (src_data ti202.und (cellsN_one _) rfl) (by simp only [List.length_cons, List.length_nil]; omega) (show rowR 1 ((outN x 16).length + 3) (cellsN (outN x 16) ++ cellsN [leftN x 32 / 256, leftN x 32 / 16 % 16, leftN x 32 % 16]) = rowR 1 (digsN x).length (cellsN (digsN x)) by rw [show digsN x = outN x 16 ++ [leftN x 32 / 256, leftN x 32 / 16 % 16, leftN x 32 % 16] by rw [outN_eq]; rfl]; exact rowN_app _ _) ?_
    refine t_assign rfl ?_
    refine t_end ?_
    refine nx_then ?_
    refine tr_ret ?_
    exact rt_out1 rfl (.tmp rfl .nil)
end Go.Eng
