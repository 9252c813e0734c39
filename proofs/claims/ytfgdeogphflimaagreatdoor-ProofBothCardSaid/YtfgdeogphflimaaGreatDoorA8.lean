/- Walks: one-time signatures. Printed by wip/tools/gen.py out of wip/proofs/A8.py. -/
import Derived.Test.YtfgdeogphflimaaGreatDoorA7
set_option linter.unusedVariables false
set_option linter.unusedSimpArgs false
set_option maxHeartbeats 4000000
namespace Go.Eng
open Go Go.Proofs
/-- Elements, one behind another. -/
def catN (f : Nat → Bytes 16) : Nat → ByteArray
  | 0 => ByteArray.empty
  | k + 1 => catN f k ++ (f k).1
theorem catN_size (f : Nat → Bytes 16) : ∀ k, (catN f k).size = 16 * k
  | 0 => rfl
  | k + 1 => by
    have := (f k).2
    rw [catN, ByteArray.size_append, catN_size f k]
    omega
/-- The end of a chain; a leaf of the tree; a signature; what a signature leads to. -/
def endB (seed : ByteArray) (i c : Nat) : Bytes 16 := walkB i c (secretB seed i c) 0 15
def leafOf (seed : ByteArray) (i : Nat) : Bytes 16 := leafB (catN (endB seed i) 35) i
def sigAt (seed : ByteArray) (i : Nat) (x : Bytes 16) (c : Nat) : Bytes 16 := walkB i c (secretB seed i c) 0 ((digD x).at c)
def sigB (seed : ByteArray) (i : Nat) (x : Bytes 16) : ByteArray := catN (sigAt seed i x) 35
theorem dig_le (x : Bytes 16) (c : Nat) (h : c < 35) : (digD x).at c ≤ 15 := by
  have hl := leftN_le x 32
  unfold digD Nats.at digsN
  simp only [List.getD_eq_getElem?_getD]
  by_cases h2 : c < 32
  · rw [List.getElem?_append_left (by simpa using h2)]
    have := nib_lt x c
    simp [h2]
    omega
  · rw [List.getElem?_append_right (by simp; omega)]
    simp only [List.length_map, List.length_range]
    rcases (by omega : c = 32 ∨ c = 33 ∨ c = 34) with h3 | h3 | h3 <;> subst h3 <;> simp <;> omega
def kN : ByteArray := ⟨#[110]⟩
def upB (a b : Bytes 16) (level i : Nat) : Bytes 16 := cutB (sumB kN [a.1 ++ b.1, numB level, numB i])

theorem c69 (seed : ByteArray) (i : Nat) (hh : seed.size ≤ 64 ∧ i < 4611686018427387904) : Fun Laid Tryz.prog 69 [IsV (.string seed), IsV (.int .i64 i)] (IsV (aggS [sgB (leafOf seed i)])) := by
  refine fun_of 27 Tryz.func69 rfl rfl rfl fun w0 H hI => ?_
  refine tr_seq ?_
  refine tr_region (by rfl) ?_
  refine t_allocA zi71 ?_
  refine t_end ?_
  refine nx_then ?_
  refine tr_seq ?_
  refine tr_region (by rfl) ?_
  refine t_nil (sz := 1) ?_
  refine t_end ?_
  refine nx_then ?_
  refine tr_seq ?_
  refine tr_seq ?_
  refine tr_region (by rfl) ?_
  refine t_move rfl ?_
  refine t_end ?_
  refine nx_then ?_
  refine tr_block ?_
  refine tr_loop (σ := Nat) (fun c => c ≤ 35) (fun c => [(4, some (boxS z71 71)), (5, some (rowB (catN (endB seed i) c)))]) (fun c => [(0, EqV (.string seed)), (1, EqV (.int .i64 i)), (4, .ptr 4 0), (9, EqV (.int .i64 (c : Int)))]) (fun c => 35 - c) 0 (by omega) (st_is [4, 5] [0, 1, 4, 9] rfl rfl rfl) (fun c hp => ?_)
  try dsimp only
  have hcs := catN_size (endB seed i) c
  refine tr_seq ?_
  refine tr_region (by rfl) ?_
  refine t_cmp rfl rfl rfl ?_
  refine t_end ?_
  refine nx_then ?_
  refine tr_seq ?_
  refine tr_cond rfl (fun hc1 => ?_) (fun hc1 => ?_)
  · try simp only [cmpB, decide_eq_true_eq, decide_eq_false_iff_not, Bool.not_eq_true', Bool.not_eq_false', Bool.not_eq_eq_eq_not, Bool.not_true, Bool.not_false] at hc1
    refine tr_skip ?_
    refine nx_then ?_
    refine tr_seq ?_
    refine tr_block ?_
    refine tr_seq ?_
    refine tr_region (by rfl) ?_
    refine t_move rfl ?_
    refine t_assign rfl ?_
    refine t_end ?_
    refine nx_then ?_
    refine tr_seq ?_
    refine tr_region (by rfl) ?_
    refine t_move rfl ?_
    refine t_move rfl ?_
    refine t_build (parts := [(0, .tmp 12), (1, .tmp 13)]) bi225 (.one rfl rfl (.one rfl rfl .nil)) rfl ?_
    refine t_allocA zi225 ?_
    refine t_storeA ti225 rfl rfl rfl rfl rfl ?_
    refine t_end ?_
    refine nx_then ?_
    refine tr_seq ?_
    refine tr_region_any mixed (by rfl) ?_
    refine t_move rfl ?_
    refine t_load ti225 rfl rfl rfl rfl rfl ?_
    refine t_call hI (c119 _ _ _ (by omega)) Tryz.func119 rfl ?_
    refine t_load ti225 rfl rfl rfl rfl rfl ?_
    refine t_call hI (c118 _ _ _ 0 15 (by omega)) Tryz.func118 rfl ?_
    refine t_allocA zi71 ?_
    refine t_storeA ti71 rfl rfl rfl rfl rfl ?_
    refine t_end_any ?_ (by kernel_rfl)
    refine nx_then ?_
    refine tr_region (by rfl) ?_
    refine t_take rfl ?_
    refine t_slarr ti71 ti5 rfl rfl ?_
    refine t_appendBox ti86.und ti86.und ti5 zi5 rfl rfl rfl rfl rfl rfl rfl (by omega) (rowB_box _ _) rfl ?_
    refine t_takea rfl ?_
    refine t_end ?_
    refine nx_block ?_
    refine nx_then ?_
    refine tr_region (by rfl) ?_
    refine t_add rfl rfl (by omega) ?_
    refine t_move rfl ?_
    refine t_end ?_
    refine nx_freeze 7 rfl ?_
    refine nx_freeze 8 rfl ?_
    exact nx_loop (c + 1) (by omega) (by omega) (st_is [4, 5] [0, 1, 4, 9] rfl rfl rfl)
  · try simp only [cmpB, decide_eq_true_eq, decide_eq_false_iff_not, Bool.not_eq_true', Bool.not_eq_false', Bool.not_eq_eq_eq_not, Bool.not_true, Bool.not_false] at hc1
    refine tr_exit ?_
    refine xt_then ?_
    refine xt_loop ?_
    refine xt_hit ?_
    refine nx_then ?_
    refine tr_seq ?_
    obtain rfl : c = 35 := by omega
    refine tr_freezeR 5 rfl ?_
    refine tr_region (by rfl) ?_
    refine t_move rfl ?_
    refine t_move rfl ?_
    refine t_call hI (c120 _ _ (by omega)) Tryz.func120 rfl ?_
    refine t_storeA ti71 rfl rfl rfl rfl rfl ?_
    refine t_end ?_
    refine nx_then ?_
    refine tr_ret ?_
    exact rt_out1 rfl (.cell ti71 rfl rfl rfl .nil)
theorem c72 (seed : ByteArray) (i : Nat) (x : Bytes 16) (hh : seed.size ≤ 64 ∧ i < 4611686018427387904) : Fun Laid Tryz.prog 72 [IsV (.string seed), IsV (.int .i64 i), IsV (aggS [sgB x])] (IsV (.string (sigB seed i x))) := by
  refine fun_of 33 Tryz.func72 rfl rfl rfl fun w0 H hI => ?_
  refine tr_seq ?_
  refine tr_region (by rfl) ?_
  refine t_boxA rfl ?_
  refine t_assign rfl ?_
  refine t_end ?_
  refine nx_then ?_
  refine tr_seq ?_
  refine tr_region (by rfl) ?_
  refine t_nil (sz := 1) ?_
  refine t_end ?_
  refine nx_then ?_
  refine tr_seq ?_
  refine tr_seq ?_
  refine tr_region (by rfl) ?_
  refine t_load ti71 rfl rfl rfl rfl rfl ?_
  refine t_call hI (c123 _) Tryz.func123 rfl ?_
  refine t_move rfl ?_
  refine t_end ?_
  refine nx_then ?_
  refine tr_block ?_
  refine tr_freeze 5 rfl ?_
  refine tr_loop (σ := Nat) (fun c => c ≤ 35) (fun c => [(7, some (rowB (catN (sigAt seed i x) c)))]) (fun c => [(0, EqV (.string seed)), (1, EqV (.int .i64 i)), (13, EqV (aggS [sgN (digD x)])), (14, EqV (.int .i64 (c : Int)))]) (fun c => 35 - c) 0 (by omega) (st_is [7] [0, 1, 13, 14] rfl rfl rfl) (fun c hp => ?_)
  try dsimp only
  have hcs := catN_size (sigAt seed i x) c
  refine tr_seq ?_
  refine tr_region (by rfl) ?_
  refine t_cmp rfl rfl rfl ?_
  refine t_end ?_
  refine nx_then ?_
  refine tr_seq ?_
  refine tr_cond rfl (fun hc1 => ?_) (fun hc1 => ?_)
  · try simp only [cmpB, decide_eq_true_eq, decide_eq_false_iff_not, Bool.not_eq_true', Bool.not_eq_false', Bool.not_eq_eq_eq_not, Bool.not_true, Bool.not_false] at hc1
    have hdl := dig_le x c (by omega)
    refine tr_skip ?_
    refine nx_then ?_
    refine tr_seq ?_
    refine tr_block ?_
    refine tr_seq ?_
    refine tr_region (by rfl) ?_
    refine t_move rfl ?_
    refine t_indexNQ c (by omega) (by omega) ti231.und ti3 rfl rfl ?_
    refine t_assign rfl ?_
    refine t_assign rfl ?_
    refine t_end ?_
    refine nx_then ?_
    refine tr_seq ?_
    refine tr_region (by rfl) ?_
    refine t_move rfl ?_
    refine t_move rfl ?_
    refine t_build (parts := [(0, .tmp 18), (1, .tmp 19)]) bi225 (.one rfl rfl (.one rfl rfl .nil)) rfl ?_
    refine t_allocA zi225 ?_
    refine t_storeA ti225 rfl rfl rfl rfl rfl ?_
    refine t_end ?_
    refine nx_then ?_
    refine tr_seq ?_
    refine tr_region_any mixed (by rfl) ?_
    refine t_move rfl ?_
    refine t_load ti225 rfl rfl rfl rfl rfl ?_
    refine t_call hI (c119 _ _ _ (by omega)) Tryz.func119 rfl ?_
    refine t_load ti225 rfl rfl rfl rfl rfl ?_
    refine t_move rfl ?_
    refine t_call hI (c118 _ _ _ 0 _ (by omega)) Tryz.func118 rfl ?_
    refine t_allocA zi71 ?_
    refine t_storeA ti71 rfl rfl rfl rfl rfl ?_
    refine t_end_any ?_ (by kernel_rfl)
    refine nx_then ?_
    refine tr_region (by rfl) ?_
    refine t_take rfl ?_
    refine t_slarr ti71 ti5 rfl rfl ?_
    refine t_appendBox ti86.und ti86.und ti5 zi5 rfl rfl rfl rfl rfl rfl rfl (by omega) (rowB_box _ _) rfl ?_
    refine t_takea rfl ?_
    refine t_end ?_
    refine nx_block ?_
    refine nx_then ?_
    refine tr_region (by rfl) ?_
    refine t_add rfl rfl (by omega) ?_
    refine t_move rfl ?_
    refine t_end ?_
    refine nx_freeze 10 rfl ?_
    refine nx_freeze 11 rfl ?_
    exact nx_loop (c + 1) (by omega) (by omega) (st_is [7] [0, 1, 13, 14] rfl rfl rfl)
  · try simp only [cmpB, decide_eq_true_eq, decide_eq_false_iff_not, Bool.not_eq_true', Bool.not_eq_false', Bool.not_eq_eq_eq_not, Bool.not_true, Bool.not_false] at hc1
    refine tr_exit ?_
    refine xt_then ?_
    refine xt_loop ?_
    refine xt_hit ?_
    refine nx_then ?_
    refine tr_seq ?_
    refine tr_region (by rfl) ?_
    refine t_mvrow rfl ?_
    refine t_strN ti86.und ti5.und ti9.und (Or.inr rfl) rfl ?_
    refine t_assign rfl ?_
    refine t_end ?_
    refine nx_then ?_
    refine tr_ret ?_
    obtain rfl : c = 35 := by omega
    exact rt_out1 rfl (.tmp rfl .nil)
theorem c170 (a b : Bytes 16) (level i : Nat) (hh : level < 4611686018427387904 ∧ i < 4611686018427387904) : Fun Laid Tryz.prog 170 [IsV (aggS [sgB a]), IsV (aggS [sgB b]), IsV (.int .i64 level), IsV (.int .i64 i)] (IsV (aggS [sgB (upB a b level i)])) := by
  refine fun_of 21 Tryz.func170 rfl rfl rfl fun w0 H hI => ?_
  have hn_level := numB_size (n := level) (by omega)
  have hn_i := numB_size (n := i) (by omega)
  have ha := a.2
  have hb := b.2
  have hap := ByteArray.size_append (a := a.1) (b := b.1)
  refine tr_seq ?_
  refine tr_region (by rfl) ?_
  refine t_boxA rfl ?_
  refine t_boxA rfl ?_
  refine t_allocA zi71 ?_
  refine t_end ?_
  refine nx_then ?_
  refine tr_seq ?_
  refine tr_region_any mixed (by rfl) ?_
  refine t_slarr ti71 ti5 rfl rfl ?_
  refine t_strBoxB ti86.und ti5.und ti9.und rfl rfl rfl rfl rfl ?_
  refine t_slarr ti71 ti5 rfl rfl ?_
  refine t_strBoxB ti86.und ti5.und ti9.und rfl rfl rfl rfl rfl ?_
  refine t_cat rfl rfl (by omega) ?_
  refine t_move rfl ?_
  refine t_call hI (c76 _ (by omega)) Tryz.func76 rfl ?_
  refine t_move rfl ?_
  refine t_call hI (c76 _ (by omega)) Tryz.func76 rfl ?_
  refine t_litS (parts := [(0, .tmp 13), (1, .tmp 15), (2, .tmp 17)]) ti142.und ti9 zi9 (.cons rfl rfl (.cons rfl rfl (.cons rfl rfl .nil))) 3 rfl rfl rfl ?_
  refine t_call hI (c112 _ _ (small3 (by decide) (by omega))) Tryz.func112 rfl ?_
  refine t_call hI (c124 _) Tryz.func124 rfl ?_
  refine t_storeA ti71 rfl rfl rfl rfl rfl ?_
  refine t_end_any ?_ (by kernel_rfl)
  refine nx_then ?_
  refine tr_ret ?_
  exact rt_out1 rfl (.cell ti71 rfl rfl rfl .nil)
end Go.Eng
