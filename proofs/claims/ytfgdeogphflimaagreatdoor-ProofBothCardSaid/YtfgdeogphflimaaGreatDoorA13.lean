/- Walks: words, forks. Printed by wip/tools/gen.py out of wip/proofs/A13.py. -/
import Derived.Test.YtfgdeogphflimaaGreatDoorA12
set_option linter.unusedVariables false
set_option linter.unusedSimpArgs false
set_option maxHeartbeats 4000000
namespace Go.Eng
open Go Go.Proofs
def kWord : ByteArray := ⟨#[119, 111, 114, 100]⟩
def wordL (n s : Nat) (h : Bytes 32) : List ByteArray := [kWord, numB n, numB s, h.1]
def wordB (n s : Nat) (h : Bytes 32) : ByteArray := listB (wordL n s h)
theorem word_small {n s : Nat} (h : Bytes 32) (hn : n < 4611686018427387904 ∧ s < 4611686018427387904) : Small (wordL n s h) := by
  have h1 := numB_size (n := n) (by omega)
  have h2 := numB_size (n := s) (by omega)
  have h3 := h.2
  have h4 : kWord.size = 4 := rfl
  refine small_of 64 (fun t ht => ?_) (by omega) (by simp [wordL])
  simp only [wordL, List.mem_cons, List.not_mem_nil, or_false] at ht
  rcases ht with rfl | rfl | rfl | rfl <;> omega
theorem word_size {n s : Nat} (h : Bytes 32) (hn : n < 4611686018427387904 ∧ s < 4611686018427387904) : (wordB n s h).size ≤ 1099511627776 := by
  have h1 := numB_size (n := n) (by omega)
  have h2 := numB_size (n := s) (by omega)
  have h3 := h.2
  have h4 : kWord.size = 4 := rfl
  have h5 := items_small (l := wordL n s h) (n := 64) (fun t ht => by
    simp only [wordL, List.mem_cons, List.not_mem_nil, or_false] at ht
    rcases ht with rfl | rfl | rfl | rfl <;> omega) (by omega)
  have h6 := numB_size (n := (wordL n s h).length) (by simp [wordL])
  have h7 : (wordL n s h).length = 4 := rfl
  rw [wordB, list_sz]
  rw [h7] at h5
  omega
abbrev authS (node seq : Nat) (h : Bytes 32) (sig : ByteArray) : Segs := [sg1 (NV node), sg1 (NV seq), sgB h, sg1 (.string sig)]
def NodesP (root : Bytes 16) (h : Nat) : Pred := SlC 17 2 (cellsE [nodeS root h, nodeS (z8 16) 0])
theorem nodes_first (root : Bytes 16) (h : Nat) : ((cellsE [nodeS root h, nodeS (z8 16) 0]).drop (((0 : Nat) : Int).toNat * 17)).take 17 = flat (nodeS root h) := by
  have hl : (flat (nodeS root h)).length = 17 := by rw [flat_length]; rfl
  simp only [cellsE, List.flatMap_cons, List.flatMap_nil]
  show ((flat (nodeS root h) ++ _).drop 0).take 17 = _
  rw [List.drop_zero, List.take_append_of_le_length (by omega), List.take_of_length_le (by omega)]
def okW (root : Bytes 16) (h seq : Nat) (hash : Bytes 32) (sig : ByteArray) : Bool := verB root h (seq - 1) (wordB 0 seq hash) sig

theorem c30 (node seq : Nat) (h : Bytes 32) (hh : node < 4611686018427387904 ∧ seq < 4611686018427387904) : Fun Laid Tryz.prog 30 [IsV (.int .i64 node), IsV (.int .i64 seq), IsV (aggS [sgB h])] (IsV (.string (wordB node seq h))) := by
  refine fun_of 15 Tryz.func30 rfl rfl rfl fun w0 H hI => ?_
  refine tr_seq ?_
  refine tr_region (by rfl) ?_
  refine t_boxA rfl ?_
  refine t_assign rfl ?_
  refine t_end ?_
  refine nx_then ?_
  refine tr_seq ?_
  refine tr_region_any mixed (by rfl) ?_
  refine t_move rfl ?_
  refine t_call hI (c76 _ (by omega)) Tryz.func76 rfl ?_
  refine t_move rfl ?_
  refine t_call hI (c76 _ (by omega)) Tryz.func76 rfl ?_
  refine t_slarr ti24 ti5 rfl rfl ?_
  refine t_strBoxB ti86.und ti5.und ti9.und rfl rfl rfl rfl rfl ?_
  refine t_litS (parts := [(0, .const _), (1, .tmp 8), (2, .tmp 10), (3, .tmp 12)]) ti142.und ti9 zi9 (.cons rfl rfl (.cons rfl rfl (.cons rfl rfl (.cons rfl rfl .nil)))) 4 rfl rfl rfl ?_
  refine t_call hI (c75 (wordL node seq h) (by have := (word_small h hh).1; omega) (by show 4 < _; omega)) Tryz.func75 rfl ?_
  refine t_assign rfl ?_
  refine t_end_any ?_ (by kernel_rfl)
  refine nx_then ?_
  refine tr_ret ?_
  exact rt_out1 rfl (.tmp rfl .nil)
theorem c173 (node seq : Nat) (h : Bytes 32) (hh : node < 4611686018427387904 ∧ seq < 4611686018427387904) : Fun Laid Tryz.prog 173 [IsV (.int .i64 node), IsV (.int .i64 seq), IsV (aggS [sgB h])] (IsV (.string (wordB node seq h))) := by
  refine fun_of 15 Tryz.func173 rfl rfl rfl fun w0 H hI => ?_
  refine tr_seq ?_
  refine tr_region (by rfl) ?_
  refine t_boxA rfl ?_
  refine t_assign rfl ?_
  refine t_end ?_
  refine nx_then ?_
  refine tr_seq ?_
  refine tr_region_any mixed (by rfl) ?_
  refine t_move rfl ?_
  refine t_call hI (c103 _ (by omega)) Tryz.func103 rfl ?_
  refine t_move rfl ?_
  refine t_call hI (c103 _ (by omega)) Tryz.func103 rfl ?_
  refine t_slarr ti24 ti5 rfl rfl ?_
  refine t_strBoxB ti86.und ti5.und ti9.und rfl rfl rfl rfl rfl ?_
  refine t_litS (parts := [(0, .const _), (1, .tmp 8), (2, .tmp 10), (3, .tmp 12)]) ti142.und ti9 zi9 (.cons rfl rfl (.cons rfl rfl (.cons rfl rfl (.cons rfl rfl .nil)))) 4 rfl rfl rfl ?_
  refine t_call hI (c102 (wordL node seq h) (by have := (word_small h hh).1; omega) (by show 4 < _; omega)) Tryz.func102 rfl ?_
  refine t_assign rfl ?_
  refine t_end_any ?_ (by kernel_rfl)
  refine nx_then ?_
  refine tr_ret ?_
  exact rt_out1 rfl (.tmp rfl .nil)
theorem c125 (root : Bytes 16) (h seq : Nat) (hash : Bytes 32) (sig : ByteArray) (hh : 1 ≤ h ∧ h ≤ 8 ∧ 1 ≤ seq ∧ seq ≤ 2 ^ h ∧ sig.size = 560 + 16 * h) : Fun Laid Tryz.prog 125 [IsV (aggS (authS 0 seq hash sig)), NodesP root h] (IsV (.bool (okW root h seq hash sig))) := by
  refine fun_of 40 Tryz.func125 rfl rfl rfl fun w0 H hI => ?_
  have hp8 := pow_le hh.2.1
  have hws := word_size (n := 0) (s := seq) hash (by omega)
  refine tr_seq ?_
  refine tr_region (by rfl) ?_
  refine t_boxA rfl ?_
  refine t_assign rfl ?_
  refine t_end ?_
  refine nx_then ?_
  refine tr_seq ?_
  refine tr_region_any mixed (by rfl) ?_
  refine t_fld fi76_0 ti3 rfl ?_
  refine t_load ti3 rfl rfl rfl rfl rfl ?_
  refine t_cmp rfl rfl rfl ?_
  refine t_move rfl ?_
  refine t_split 8 rfl (fun hg1 => ?_) (fun hg1 => ?_)
  · have hg1' := hg1
    try simp only [cmpB, decide_eq_true_eq, decide_eq_false_iff_not, Bool.not_eq_true', Bool.not_eq_false', Bool.not_eq_eq_eq_not, Bool.not_true, Bool.not_false] at hg1'
    refine t_fld fi76_0 ti3 rfl ?_ (hg := ⟨_, _, rfl, rfl, hg1⟩)
    refine t_load ti3 rfl rfl rfl rfl rfl ?_ (hg := ⟨_, _, rfl, rfl, hg1⟩)
    refine t_move rfl ?_ (hg := ⟨_, _, rfl, rfl, hg1⟩)
    refine t_len ti35.und slC_form rfl ?_ (hg := ⟨_, _, rfl, rfl, hg1⟩)
    refine t_cmp rfl rfl rfl ?_ (hg := ⟨_, _, rfl, rfl, hg1⟩)
    refine t_pickt hg1 rfl rfl ?_
    refine t_move rfl ?_
    refine t_split 15 rfl (fun hg2 => ?_) (fun hg2 => ?_)
    · have hg2' := hg2
      try simp only [cmpB, decide_eq_true_eq, decide_eq_false_iff_not, Bool.not_eq_true', Bool.not_eq_false', Bool.not_eq_eq_eq_not, Bool.not_true, Bool.not_false] at hg2'
      refine t_fld fi76_1 ti3 rfl ?_ (hg := ⟨_, _, rfl, rfl, hg2⟩)
      refine t_load ti3 rfl rfl rfl rfl rfl ?_ (hg := ⟨_, _, rfl, rfl, hg2⟩)
      refine t_cmp rfl rfl rfl ?_ (hg := ⟨_, _, rfl, rfl, hg2⟩)
      refine t_pickt hg2 rfl rfl ?_
      refine t_move rfl ?_
      refine t_split 20 rfl (fun hg3 => ?_) (fun hg3 => ?_)
      · have hg3' := hg3
        try simp only [cmpB, decide_eq_true_eq, decide_eq_false_iff_not, Bool.not_eq_true', Bool.not_eq_false', Bool.not_eq_eq_eq_not, Bool.not_true, Bool.not_false] at hg3'
        refine t_move rfl ?_ (hg := ⟨_, _, rfl, rfl, hg3⟩)
        refine t_fld fi76_0 ti3 rfl ?_ (hg := ⟨_, _, rfl, rfl, hg3⟩)
        refine t_load ti3 rfl rfl rfl rfl rfl ?_ (hg := ⟨_, _, rfl, rfl, hg3⟩)
        refine t_idx ti35.und ti73 rfl rfl (by omega) (by omega) (nodes_first root h) ?_ (hg := ⟨_, _, rfl, rfl, hg3⟩)
        refine t_loadRA ti73 rfl rfl ?_ (hg := ⟨_, _, rfl, rfl, hg3⟩)
        refine t_fld fi76_1 ti3 rfl ?_ (hg := ⟨_, _, rfl, rfl, hg3⟩)
        refine t_load ti3 rfl rfl rfl rfl rfl ?_ (hg := ⟨_, _, rfl, rfl, hg3⟩)
        refine t_sub rfl rfl (by omega) ?_ (hg := ⟨_, _, rfl, rfl, hg3⟩)
        rw [show (seq : Int) - 1 = ((seq - 1 : Nat) : Int) by omega]
        refine t_fld fi76_0 ti3 rfl ?_ (hg := ⟨_, _, rfl, rfl, hg3⟩)
        refine t_load ti3 rfl rfl rfl rfl rfl ?_ (hg := ⟨_, _, rfl, rfl, hg3⟩)
        refine t_fld fi76_1 ti3 rfl ?_ (hg := ⟨_, _, rfl, rfl, hg3⟩)
        refine t_load ti3 rfl rfl rfl rfl rfl ?_ (hg := ⟨_, _, rfl, rfl, hg3⟩)
        refine t_fld fi76_2 ti24 rfl ?_ (hg := ⟨_, _, rfl, rfl, hg3⟩)
        refine t_load ti24 rfl rfl rfl rfl rfl ?_ (hg := ⟨_, _, rfl, rfl, hg3⟩)
        refine t_call hI (c30 _ _ _ (by omega)) Tryz.func30 rfl ?_ (hg := ⟨_, _, rfl, rfl, hg3⟩)
        refine t_fld fi76_3 ti9 rfl ?_ (hg := ⟨_, _, rfl, rfl, hg3⟩)
        refine t_load ti9 rfl rfl rfl rfl rfl ?_ (hg := ⟨_, _, rfl, rfl, hg3⟩)
        refine t_call hI (c171 _ _ _ _ _ (by refine ⟨?_, ?_, ?_, ?_, ?_⟩ <;> omega)) Tryz.func171 rfl ?_ (hg := ⟨_, _, rfl, rfl, hg3⟩)
        refine t_pickt hg3 rfl rfl ?_
        refine t_assign rfl ?_
        refine t_end_any ?_ (by kernel_rfl)
        refine nx_then ?_
        refine tr_ret ?_
        exact rt_out1 rfl (.tmp rfl .nil)
      · have hg3' := hg3
        try simp only [cmpB, decide_eq_true_eq, decide_eq_false_iff_not, Bool.not_eq_true', Bool.not_eq_false', Bool.not_eq_eq_eq_not, Bool.not_true, Bool.not_false] at hg3'
        exact absurd hg3' (by omega)
    · have hg2' := hg2
      try simp only [cmpB, decide_eq_true_eq, decide_eq_false_iff_not, Bool.not_eq_true', Bool.not_eq_false', Bool.not_eq_eq_eq_not, Bool.not_true, Bool.not_false] at hg2'
      exact absurd hg2' (by omega)
  · have hg1' := hg1
    try simp only [cmpB, decide_eq_true_eq, decide_eq_false_iff_not, Bool.not_eq_true', Bool.not_eq_false', Bool.not_eq_eq_eq_not, Bool.not_true, Bool.not_false] at hg1'
    exact absurd hg1' (by omega)
theorem c126 (root : Bytes 16) (h seq : Nat) (hash : Bytes 32) (sig : ByteArray) (hh : 1 ≤ h ∧ h ≤ 8 ∧ 1 ≤ seq ∧ seq ≤ 2 ^ h ∧ sig.size = 560 + 16 * h) : Fun Laid Tryz.prog 126 [IsV (aggS (authS 0 seq hash sig)), NodesP root h] (IsV (.bool (okW root h seq hash sig))) := by
  refine fun_of 38 Tryz.func126 rfl rfl rfl fun w0 H hI => ?_
  have hp8 := pow_le hh.2.1
  have hws := word_size (n := 0) (s := seq) hash (by omega)
  refine tr_seq ?_
  refine tr_region (by rfl) ?_
  refine t_boxA rfl ?_
  refine t_assign rfl ?_
  refine t_end ?_
  refine nx_then ?_
  refine tr_seq ?_
  refine tr_seq ?_
  refine tr_region (by rfl) ?_
  refine t_fld fi76_0 ti3 rfl ?_
  refine t_load ti3 rfl rfl rfl rfl rfl ?_
  refine t_cmp rfl rfl rfl ?_
  refine t_move rfl ?_
  refine t_split 8 rfl (fun hg1 => ?_) (fun hg1 => ?_)
  · have hg1' := hg1
    try simp only [cmpB, decide_eq_true_eq, decide_eq_false_iff_not, Bool.not_eq_true', Bool.not_eq_false', Bool.not_eq_eq_eq_not, Bool.not_true, Bool.not_false] at hg1'
    exact absurd hg1' (by omega)
  · have hg1' := hg1
    try simp only [cmpB, decide_eq_true_eq, decide_eq_false_iff_not, Bool.not_eq_true', Bool.not_eq_false', Bool.not_eq_eq_eq_not, Bool.not_true, Bool.not_false] at hg1'
    refine t_fld fi76_0 ti3 rfl ?_ (hg := ⟨_, _, rfl, rfl, hg1⟩)
    refine t_load ti3 rfl rfl rfl rfl rfl ?_ (hg := ⟨_, _, rfl, rfl, hg1⟩)
    refine t_move rfl ?_ (hg := ⟨_, _, rfl, rfl, hg1⟩)
    refine t_len ti35.und slC_form rfl ?_ (hg := ⟨_, _, rfl, rfl, hg1⟩)
    refine t_cmp rfl rfl rfl ?_ (hg := ⟨_, _, rfl, rfl, hg1⟩)
    refine t_pickf hg1 rfl rfl ?_
    refine t_move rfl ?_
    refine t_split 15 rfl (fun hg2 => ?_) (fun hg2 => ?_)
    · have hg2' := hg2
      try simp only [cmpB, decide_eq_true_eq, decide_eq_false_iff_not, Bool.not_eq_true', Bool.not_eq_false', Bool.not_eq_eq_eq_not, Bool.not_true, Bool.not_false] at hg2'
      exact absurd hg2' (by omega)
    · have hg2' := hg2
      try simp only [cmpB, decide_eq_true_eq, decide_eq_false_iff_not, Bool.not_eq_true', Bool.not_eq_false', Bool.not_eq_eq_eq_not, Bool.not_true, Bool.not_false] at hg2'
      refine t_fld fi76_1 ti3 rfl ?_ (hg := ⟨_, _, rfl, rfl, hg2⟩)
      refine t_load ti3 rfl rfl rfl rfl rfl ?_ (hg := ⟨_, _, rfl, rfl, hg2⟩)
      refine t_cmp rfl rfl rfl ?_ (hg := ⟨_, _, rfl, rfl, hg2⟩)
      refine t_pickf hg2 rfl rfl ?_
      refine t_end ?_
      refine nx_then ?_
      refine tr_cond rfl (fun hc3 => ?_) (fun hc3 => ?_)
      · try simp only [cmpB, decide_eq_true_eq, decide_eq_false_iff_not, Bool.not_eq_true', Bool.not_eq_false', Bool.not_eq_eq_eq_not, Bool.not_true, Bool.not_false] at hc3
        exact absurd hc3 (by omega)
      · try simp only [cmpB, decide_eq_true_eq, decide_eq_false_iff_not, Bool.not_eq_true', Bool.not_eq_false', Bool.not_eq_eq_eq_not, Bool.not_true, Bool.not_false] at hc3
        refine tr_skip ?_
        refine nx_then ?_
        refine tr_seq ?_
        refine tr_region_any mixed (by rfl) ?_
        refine t_move rfl ?_
        refine t_fld fi76_0 ti3 rfl ?_
        refine t_load ti3 rfl rfl rfl rfl rfl ?_
        refine t_idx ti35.und ti73 rfl rfl (by omega) (by omega) (nodes_first root h) ?_
        refine t_loadRA ti73 rfl rfl ?_
        refine t_fld fi76_1 ti3 rfl ?_
        refine t_load ti3 rfl rfl rfl rfl rfl ?_
        refine t_sub rfl rfl (by omega) ?_
        rw [show (seq : Int) - 1 = ((seq - 1 : Nat) : Int) by omega]
        refine t_fld fi76_0 ti3 rfl ?_
        refine t_load ti3 rfl rfl rfl rfl rfl ?_
        refine t_fld fi76_1 ti3 rfl ?_
        refine t_load ti3 rfl rfl rfl rfl rfl ?_
        refine t_fld fi76_2 ti24 rfl ?_
        refine t_load ti24 rfl rfl rfl rfl rfl ?_
        refine t_call hI (c173 _ _ _ (by omega)) Tryz.func173 rfl ?_
        refine t_fld fi76_3 ti9 rfl ?_
        refine t_load ti9 rfl rfl rfl rfl rfl ?_
        refine t_call hI (c172 _ _ _ _ _ (by refine ⟨?_, ?_, ?_, ?_, ?_⟩ <;> omega)) Tryz.func172 rfl ?_
        refine t_assign rfl ?_
        refine t_end_any ?_ (by kernel_rfl)
        refine nx_then ?_
        refine tr_ret ?_
        exact rt_out1 rfl (.tmp rfl .nil)
end Go.Eng
