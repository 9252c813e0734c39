/- Walks: numbers as bytes. Printed by wip/tools/gen.py out of wip/proofs/A1.py. -/
import Derived.Test.YtfgdeogphflimaaGreatDoorPre
import Derived.Test.YtfgdeogphflimaaGreatDoorSpec
import Derived.Test.YtfgdeogphflimaaGreatDoorInv
set_option linter.unusedVariables false
set_option linter.unusedSimpArgs false
namespace Go.Eng
open Go Go.Proofs

theorem c76 (n : Nat) (hn : n < 9223372036854775808) : Fun Laid Tryz.prog 76 [IsV (.int .i64 n)] (IsV (.string (numB n))) := by
  refine fun_of 38 Tryz.func76 rfl rfl rfl fun w0 H hI => ?_
  refine tr_seq ?_
  refine tr_region (by rfl) ?_
  refine t_assign rfl ?_
  refine t_end ?_
  refine nx_then ?_
  refine tr_seq ?_
  refine tr_region (by rfl) ?_
  refine t_nil (sz := 1) ?_
  refine t_end ?_
  refine nx_then ?_
  refine tr_seq ?_
  refine tr_seq ?_
  refine tr_region (by rfl) ?_
  refine t_move rfl ?_
  refine t_max rfl rfl ?_
  refine t_assign rfl ?_
  refine t_end ?_
  refine nx_then ?_
  refine tr_block ?_
  rw [show (max (n : Int) 0) = (n : Int) by omega]
  refine tr_loop (σ := Int × ByteArray) (fun s => digs n = digs s.1.toNat ++ s.2.data.toList.reverse ∧ 0 ≤ s.1 ∧ s.1 < 9223372036854775808) (fun s => [(3, some (rowB s.2))]) (fun s => [(4, EqV (.int .i64 s.1))]) (fun s => s.1.toNat) (n, ByteArray.empty) ⟨by simp, by simp, by simp; omega⟩ (st_is [3] [4] rfl rfl rfl) (fun ⟨x, b⟩ hp => ?_)
  dsimp only
  obtain ⟨hp, h0, hx⟩ := hp
  simp only at hp hx h0
  have hb : b.size ≤ 8 := by have h1 := congrArg List.length hp; have h2 := digs_length 8 n (by omega); simp at h1; omega
  refine tr_seq ?_
  refine tr_seq ?_
  refine tr_region (by rfl) ?_
  refine t_move rfl ?_
  refine t_cmp rfl rfl rfl ?_
  refine t_end ?_
  refine nx_then ?_
  refine tr_cond rfl (fun hc1 => ?_) (fun hc1 => ?_)
  · try simp only [cmpB, decide_eq_true_eq, decide_eq_false_iff_not, Bool.not_eq_true', Bool.not_eq_false', Bool.not_eq_eq_eq_not, Bool.not_true, Bool.not_false] at hc1
    refine tr_skip ?_
    refine nx_then ?_
    refine tr_seq ?_
    refine tr_block ?_
    refine tr_region (by rfl) ?_
    refine t_take rfl ?_
    refine t_move rfl ?_
    refine t_convB ti3.und ti5.und rfl ?_
    refine t_lit (parts := [(0, .tmp 15)]) ti86.und ti5 zi5 rfl rfl rfl rfl (.one rfl rfl .nil) rfl rfl ?_
    refine t_append ti86.und ti5 zi5 rfl rfl rfl (src_data ti86.und (cellsE_one _) rfl) (by omega) (rowB_pushU _ _ _ _) ?_
    refine t_takea rfl ?_
    refine t_end ?_
    refine nx_block ?_
    refine nx_then ?_
    refine tr_region (by rfl) ?_
    refine t_move rfl ?_
    refine t_int .shr _ (run_shrK (n := 8) (q := 256) (by decide) (by decide)) rfl rfl ?_
    refine t_assign rfl ?_
    refine t_end ?_
    exact nx_loop (_, b.push (byteOf x)) (by omega) ⟨by rw [hp, digs_step (by omega), push_list]; simp, by omega, by omega⟩ (st_is [3] [4] rfl rfl rfl)
  · try simp only [cmpB, decide_eq_true_eq, decide_eq_false_iff_not, Bool.not_eq_true', Bool.not_eq_false', Bool.not_eq_eq_eq_not, Bool.not_true, Bool.not_false] at hc1
    refine tr_exit ?_
    refine xt_then ?_
    refine xt_loop ?_
    refine xt_hit ?_
    refine nx_then ?_
    refine tr_seq ?_
    refine tr_region (by rfl) ?_
    refine t_mvrow rfl ?_
    refine t_lenN ti86.und (Or.inr rfl) rfl ?_
    refine t_convB ti3.und ti5.und rfl ?_
    refine t_litR1 (x := .tmp 20) ti86.und ti5 zi5 rfl ?_
    refine t_takea rfl ?_
    refine t_end ?_
    refine nx_then ?_
    refine tr_seq ?_
    refine tr_seq ?_
    refine tr_region (by rfl) ?_
    refine t_mvrow rfl ?_
    refine t_lenN ti86.und (Or.inr rfl) rfl ?_
    refine t_sub rfl rfl (by omega) ?_
    refine t_assign rfl ?_
    refine t_end ?_
    refine nx_then ?_
    refine tr_block ?_
    have hx0 : x = 0 := by omega
    subst hx0
    simp only [Int.toNat_zero, digs_zero, List.nil_append] at hp
    refine tr_loop (σ := Int × ByteArray) (fun s => s.2.data.toList = byteOf b.size :: (b.data.toList.drop (s.1 + 1).toNat).reverse ∧ -1 ≤ s.1 ∧ s.1 < b.size) (fun s => [(3, some (rowB b)), (5, some (rowB s.2))]) (fun s => [(6, EqV (.int .i64 s.1))]) (fun s => (s.1 + 1).toNat) (_, ⟨#[byteOf b.size]⟩) ⟨by rw [show ((b.size : Int) - 1 + 1).toNat = b.data.toList.length by rw [list_size]; omega, List.drop_length]; rfl, by omega, by omega⟩ (st_is [3, 5] [6] rfl rfl rfl) (fun ⟨i, out⟩ hp => ?_)
    dsimp only
    obtain ⟨hq, hi0, hi⟩ := hp
    simp only at hq hi0 hi
    have hos : out.size ≤ 9 := by have h1 := congrArg List.length hq; simp at h1; omega
    refine tr_seq ?_
    refine tr_seq ?_
    refine tr_region (by rfl) ?_
    refine t_move rfl ?_
    refine t_cmp rfl rfl rfl ?_
    refine t_end ?_
    refine nx_then ?_
    refine tr_cond rfl (fun hc2 => ?_) (fun hc2 => ?_)
    · try simp only [cmpB, decide_eq_true_eq, decide_eq_false_iff_not, Bool.not_eq_true', Bool.not_eq_false', Bool.not_eq_eq_eq_not, Bool.not_true, Bool.not_false] at hc2
      refine tr_skip ?_
      refine nx_then ?_
      refine tr_seq ?_
      refine tr_block ?_
      refine tr_region (by rfl) ?_
      refine t_take rfl ?_
      refine t_mvrow rfl ?_
      refine t_move rfl ?_
      refine t_rowIdx ti86.und ti5 (Or.inr rfl) rfl rfl (by omega) (by omega) ?_
      refine t_rowLoad _ ti5 rfl rfl rfl (by rw [Nat.mul_one]; exact byteCells_at _ (by omega)) ?_
      refine t_lit (parts := [(0, .tmp 33)]) ti86.und ti5 zi5 rfl rfl rfl rfl (.one rfl rfl .nil) rfl rfl ?_
      refine t_append ti86.und ti5 zi5 rfl rfl rfl (src_data ti86.und (cellsE_one _) rfl) (by omega) (rowB_pushU _ _ _ _) ?_
      refine t_takea rfl ?_
      refine t_end ?_
      refine nx_block ?_
      refine nx_then ?_
      refine tr_region (by rfl) ?_
      refine t_move rfl ?_
      refine t_sub rfl rfl (by omega) ?_
      refine t_assign rfl ?_
      refine t_end ?_
      exact nx_loop (_, out.push (byteAt b i.toNat)) (by omega) ⟨by rw [push_list, hq, drop_step b (by omega) hi]; rfl, by omega, by omega⟩ (st_is [3, 5] [6] rfl rfl rfl)
    · try simp only [cmpB, decide_eq_true_eq, decide_eq_false_iff_not, Bool.not_eq_true', Bool.not_eq_false', Bool.not_eq_eq_eq_not, Bool.not_true, Bool.not_false] at hc2
      refine tr_exit ?_
      refine xt_then ?_
      refine xt_loop ?_
      refine xt_hit ?_
      refine nx_then ?_
      refine tr_seq ?_
      refine tr_region (by rfl) ?_
      refine t_mvrow rfl ?_
      refine t_strN ti86.und ti5.und ti9.und (Or.inr rfl) rfl ?_
      refine t_assign rfl ?_
      refine t_end ?_
      refine nx_then ?_
      refine tr_ret ?_
      have hi1 : i = -1 := by omega
      subst hi1
      rw [numB_of (out := out) hp (by simpa using hq)]
      exact rt_out1 rfl (.tmp rfl .nil)
end Go.Eng
