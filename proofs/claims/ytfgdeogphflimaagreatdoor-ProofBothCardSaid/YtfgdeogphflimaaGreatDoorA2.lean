/- Walks: texts and lists as bytes. Printed by wip/tools/gen.py out of wip/proofs/A2.py. -/
import Derived.Test.YtfgdeogphflimaaGreatDoorA1
set_option linter.unusedVariables false
set_option linter.unusedSimpArgs false
namespace Go.Eng
open Go Go.Proofs
theorem digs_more {n : Nat} {x : Int} {l : List UInt8} (h : digs n = digs x.toNat ++ l) (hx : 0 < x) : digs n = digs (x / 256).toNat ++ (byteOf (x % 256) :: l) := by
  rw [h, digs_step hx]
  have : byteOf (x % 256) = byteOf x := by simp [byteOf]
  rw [this]
  simp
theorem numB_of' {n : Nat} {s : ByteArray} {k : Int} (h : digs n = s.data.toList) (hk : k = s.size) : (⟨#[byteOf k]⟩ : ByteArray) ++ s = numB n := by
  refine bytes_ext ?_
  rw [data_append, numB, h, hk, byteOf_nat]
  simp [bA]
theorem list_sz (l : List ByteArray) : (listB l).size = (numB l.length).size + (itemsB l).size := by rw [listB, ByteArray.size_append]
theorem items_sz {l : List ByteArray} {i : Nat} (h : i < l.length) : (itemsB (l.take i)).size + (numB (l.getD i ByteArray.empty).size).size + (l.getD i ByteArray.empty).size ≤ (itemsB l).size := by
  have h1 := itemsB_take_le l (i + 1)
  rw [itemsB_take_succ h, ByteArray.size_append, ByteArray.size_append] at h1
  omega

theorem c150 (n : Nat) (hn : n < 9223372036854775808) : Fun Laid Tryz.prog 150 [IsV (.int .i64 n)] (IsV (.string (numB n))) := by
  refine fun_of 24 Tryz.func150 rfl rfl rfl fun w0 H hI => ?_
  refine tr_seq ?_
  refine tr_region (by rfl) ?_
  refine t_assign rfl ?_
  refine t_end ?_
  refine nx_then ?_
  refine tr_seq ?_
  refine tr_region (by rfl) ?_
  refine t_assign rfl ?_
  refine t_end ?_
  refine nx_then ?_
  refine tr_seq ?_
  refine tr_region (by rfl) ?_
  refine t_assign rfl ?_
  refine t_end ?_
  refine nx_then ?_
  refine tr_seq ?_
  refine tr_block ?_
  refine tr_loop (σ := Int × ByteArray × Int) (fun s => digs n = digs s.1.toNat ++ s.2.1.data.toList ∧ 0 ≤ s.1 ∧ s.1 < 9223372036854775808 ∧ s.2.2 = s.2.1.size) (fun s => []) (fun s => [(0, EqV (.int .i64 s.1)), (3, EqV (.string s.2.1)), (4, EqV (.int .i64 s.2.2))]) (fun s => s.1.toNat) (n, ByteArray.empty, 0) ⟨by simp, by simp, by simp; omega, by simp⟩ (st_is [] [0, 3, 4] rfl rfl rfl) (fun ⟨x, b, k⟩ hp => ?_)
  dsimp only
  obtain ⟨hp, h0, hx, hk⟩ := hp
  simp only at hp hx h0 hk
  have hb : b.size ≤ 8 := by have h1 := congrArg List.length hp; have h2 := digs_length 8 n (by omega); simp at h1; omega
  have hb1 : ∀ y : UInt8, (⟨#[y]⟩ : ByteArray).size = 1 := fun _ => rfl
  refine tr_seq ?_
  refine tr_seq ?_
  refine tr_region (by rfl) ?_
  refine t_move rfl ?_
  refine t_cmp rfl rfl rfl ?_
  refine t_end ?_
  refine nx_then ?_
  refine tr_cond rfl (fun hc1 => ?_) (fun hc1 => ?_)
  · try simp only [cmpB, decide_eq_true_eq, decide_eq_false_iff_not, Bool.not_eq_true', Bool.not_eq_false', Bool.not_eq_eq_eq_not, Bool.not_true, Bool.not_false] at hc1
    refine tr_skip ?_
    refine nx_then ?_
    refine tr_block ?_
    refine tr_seq ?_
    refine tr_region (by rfl) ?_
    refine t_move rfl ?_
    refine t_int .rem _ (run_remN (by omega) (by omega)) rfl rfl ?_
    refine t_convB ti3.und ti5.und rfl ?_
    refine t_litB1 (x := .tmp 9) ti86.und ti5 zi5 rfl ?_
    refine t_strB ti86.und ti5.und ti9.und rfl ?_
    refine t_move rfl ?_
    have hs1 := hb1 (byteOf (x % 256))
    refine t_cat rfl rfl (by omega) ?_
    refine t_assign rfl ?_
    refine t_end ?_
    refine nx_then ?_
    refine tr_seq ?_
    refine tr_region (by rfl) ?_
    refine t_move rfl ?_
    refine t_int .quo _ (run_quoN (by omega) (by omega) (by show _ ∧ _; omega)) rfl rfl ?_
    refine t_assign rfl ?_
    refine t_end ?_
    refine nx_then ?_
    refine tr_region (by rfl) ?_
    refine t_move rfl ?_
    refine t_add rfl rfl (by omega) ?_
    refine t_assign rfl ?_
    refine t_end ?_
    refine nx_block ?_
    exact nx_loop (_, ⟨#[byteOf (x % 256)]⟩ ++ b, _) (by omega) ⟨by rw [data_append]; exact digs_more hp (by omega), by omega, by omega, by show k + 1 = _; rw [ByteArray.size_append, hb1]; omega⟩ (st_is [] [0, 3, 4] rfl rfl rfl)
  · try simp only [cmpB, decide_eq_true_eq, decide_eq_false_iff_not, Bool.not_eq_true', Bool.not_eq_false', Bool.not_eq_eq_eq_not, Bool.not_true, Bool.not_false] at hc1
    refine tr_exit ?_
    refine xt_then ?_
    refine xt_loop ?_
    refine xt_hit ?_
    refine nx_then ?_
    refine tr_seq ?_
    refine tr_region (by rfl) ?_
    refine t_move rfl ?_
    refine t_convB ti3.und ti5.und rfl ?_
    refine t_litB1 (x := .tmp 19) ti86.und ti5 zi5 rfl ?_
    refine t_strB ti86.und ti5.und ti9.und rfl ?_
    refine t_move rfl ?_
    have hs1 := hb1 (byteOf k)
    refine t_cat rfl rfl (by omega) ?_
    refine t_assign rfl ?_
    refine t_end ?_
    refine nx_then ?_
    refine tr_ret ?_
    have hx0 : x = 0 := by omega
    subst hx0
    simp only [Int.toNat_zero, digs_zero, List.nil_append] at hp
    rw [numB_of' hp hk]
    exact rt_out1 rfl (.tmp rfl .nil)
theorem c151 (s : ByteArray) (hs : s.size < 9223372036854775000) : Fun Laid Tryz.prog 151 [IsV (.string s)] (IsV (.string (textB s))) := by
  refine fun_of 8 Tryz.func151 rfl rfl rfl fun w0 H hI => ?_
  have h1 := numB_size (n := s.size) (by omega)
  refine tr_seq ?_
  refine tr_region (by rfl) ?_
  refine t_assign rfl ?_
  refine t_end ?_
  refine nx_then ?_
  refine tr_seq ?_
  refine tr_region (by rfl) ?_
  refine t_move rfl ?_
  refine t_lens ti9.und rfl ?_
  refine t_call hI (c150 _ (by omega)) Tryz.func150 rfl ?_
  refine t_move rfl ?_
  refine t_cat rfl rfl (by omega) ?_
  refine t_assign rfl ?_
  refine t_end ?_
  refine nx_then ?_
  refine tr_ret ?_
  exact rt_out1 rfl (.tmp rfl .nil)
theorem c75 (l : List ByteArray) (hl : (listB l).size < 70368744177664) (hn : l.length < 9223372036854775808) : Fun Laid Tryz.prog 75 [SlS l] (IsV (.string (listB l))) := by
  refine fun_of 26 Tryz.func75 rfl rfl rfl fun w0 H hI => ?_
  have hnl := numB_size (n := l.length) (by omega)
  refine tr_seq ?_
  refine tr_region (by rfl) ?_
  refine t_assign rfl ?_
  refine t_end ?_
  refine nx_then ?_
  refine tr_seq ?_
  refine tr_region (by rfl) ?_
  refine t_move rfl ?_
  refine t_len ti142.und slC_form rfl ?_
  refine t_call hI (c76 _ (by omega)) Tryz.func76 rfl ?_
  refine t_bytes ti9.und ti86.und ti5.und rfl (by simp only [maxLen]; omega) ?_
  refine t_takea rfl ?_
  refine t_end ?_
  refine nx_then ?_
  refine tr_seq ?_
  refine tr_seq ?_
  refine tr_region (by rfl) ?_
  refine t_move rfl ?_
  refine t_len ti142.und slC_form rfl ?_
  refine t_move rfl ?_
  refine t_end ?_
  refine nx_then ?_
  refine tr_block ?_
  refine tr_loop (σ := Int × ByteArray) (fun s => s.2 = numB l.length ++ itemsB (l.take s.1.toNat) ∧ 0 ≤ s.1 ∧ s.1 ≤ l.length) (fun s => [(3, some (rowB s.2))]) (fun s => [(10, .plain (SlS l)), (11, EqV (.int .i64 l.length)), (12, EqV (.int .i64 s.1))]) (fun s => (l.length - s.1).toNat) (_, numB l.length) ⟨by simp [itemsB, append_emptyB], by omega, by omega⟩ (st_is [3] [10, 11, 12] rfl rfl rfl) (fun ⟨i, out⟩ hp => ?_)
  dsimp only
  obtain ⟨hq, h0, hle⟩ := hp
  simp only at hq h0 hle
  have ho := congrArg ByteArray.size hq
  rw [ByteArray.size_append] at ho
  have hls := list_sz l
  refine tr_seq ?_
  refine tr_region (by rfl) ?_
  refine t_cmp rfl rfl rfl ?_
  refine t_end ?_
  refine nx_then ?_
  refine tr_seq ?_
  refine tr_cond rfl (fun hc1 => ?_) (fun hc1 => ?_)
  · try simp only [cmpB, decide_eq_true_eq, decide_eq_false_iff_not, Bool.not_eq_true', Bool.not_eq_false', Bool.not_eq_eq_eq_not, Bool.not_true, Bool.not_false] at hc1
    have hlt : i.toNat < l.length := by omega
    have hsz := items_sz hlt
    refine tr_skip ?_
    refine nx_then ?_
    refine tr_seq ?_
    refine tr_block ?_
    refine tr_seq ?_
    refine tr_region (by rfl) ?_
    refine t_idxS ti142.und ti9 rfl rfl (by omega) (by omega) ?_
    refine t_loadR1 ti9 rfl rfl ?_
    refine t_assign rfl ?_
    refine t_end ?_
    refine nx_then ?_
    refine tr_region (by rfl) ?_
    refine t_take rfl ?_
    refine t_move rfl ?_
    refine t_lens ti9.und rfl ?_
    refine t_call hI (c76 _ (by omega)) Tryz.func76 rfl ?_
    refine t_append ti86.und ti5 zi5 rfl rfl rfl (src_str ti9.und rfl) (by omega) (rowB_str _ _) ?_
    refine t_move rfl ?_
    have ha := ByteArray.size_append (a := out) (b := numB (l.getD i.toNat ByteArray.empty).size)
    refine t_append ti86.und ti5 zi5 rfl rfl rfl (src_str ti9.und rfl) (by omega) (rowB_str _ _) ?_
    refine t_takea rfl ?_
    refine t_end ?_
    refine nx_block ?_
    refine nx_then ?_
    refine tr_region (by rfl) ?_
    refine t_add rfl rfl (by omega) ?_
    refine t_move rfl ?_
    refine t_end ?_
    exact nx_loop (_, out ++ numB (l.getD i.toNat ByteArray.empty).size ++ l.getD i.toNat ByteArray.empty) (by omega) ⟨by rw [hq, show (i + 1).toNat = i.toNat + 1 by omega, itemsB_take_succ hlt]; simp only [append_assocB], by omega, by omega⟩ (st_is [3] [10, 11, 12] rfl rfl rfl)
  · try simp only [cmpB, decide_eq_true_eq, decide_eq_false_iff_not, Bool.not_eq_true', Bool.not_eq_false', Bool.not_eq_eq_eq_not, Bool.not_true, Bool.not_false] at hc1
    refine tr_exit ?_
    refine xt_then ?_
    refine xt_loop ?_
    refine xt_hit ?_
    refine nx_then ?_
    refine tr_seq ?_
    refine tr_region (by rfl) ?_
    refine t_mvrow rfl ?_
    refine t_strN ti86.und ti5.und ti9.und (Or.inr rfl) rfl ?_
    refine t_assign rfl ?_
    refine t_end ?_
    refine nx_then ?_
    refine tr_ret ?_
    have hi : i.toNat = l.length := by omega
    rw [hi, List.take_length] at hq
    rw [show out = listB l from hq]
    exact rt_out1 rfl (.tmp rfl .nil)
theorem c102 (l : List ByteArray) (hl : (listB l).size < 70368744177664) (hn : l.length < 9223372036854775808) : Fun Laid Tryz.prog 102 [SlS l] (IsV (.string (listB l))) := by
  refine fun_of 21 Tryz.func102 rfl rfl rfl fun w0 H hI => ?_
  refine tr_seq ?_
  refine tr_region (by rfl) ?_
  refine t_assign rfl ?_
  refine t_end ?_
  refine nx_then ?_
  refine tr_seq ?_
  refine tr_region (by rfl) ?_
  refine t_move rfl ?_
  refine t_len ti142.und slC_form rfl ?_
  refine t_call hI (c150 _ (by omega)) Tryz.func150 rfl ?_
  refine t_assign rfl ?_
  refine t_end ?_
  refine nx_then ?_
  refine tr_seq ?_
  refine tr_seq ?_
  refine tr_region (by rfl) ?_
  refine t_move rfl ?_
  refine t_len ti142.und slC_form rfl ?_
  refine t_move rfl ?_
  refine t_end ?_
  refine nx_then ?_
  refine tr_block ?_
  refine tr_loop (σ := Int × ByteArray) (fun s => s.2 = numB l.length ++ itemsB (l.take s.1.toNat) ∧ 0 ≤ s.1 ∧ s.1 ≤ l.length) (fun s => []) (fun s => [(3, EqV (.string s.2)), (9, .plain (SlS l)), (10, EqV (.int .i64 l.length)), (11, EqV (.int .i64 s.1))]) (fun s => (l.length - s.1).toNat) (_, numB l.length) ⟨by simp [itemsB, append_emptyB], by omega, by omega⟩ (st_is [] [3, 9, 10, 11] rfl rfl rfl) (fun ⟨i, out⟩ hp => ?_)
  dsimp only
  obtain ⟨hq, h0, hle⟩ := hp
  simp only at hq h0 hle
  have ho := congrArg ByteArray.size hq
  rw [ByteArray.size_append] at ho
  have hls := list_sz l
  refine tr_seq ?_
  refine tr_region (by rfl) ?_
  refine t_cmp rfl rfl rfl ?_
  refine t_end ?_
  refine nx_then ?_
  refine tr_seq ?_
  refine tr_cond rfl (fun hc1 => ?_) (fun hc1 => ?_)
  · try simp only [cmpB, decide_eq_true_eq, decide_eq_false_iff_not, Bool.not_eq_true', Bool.not_eq_false', Bool.not_eq_eq_eq_not, Bool.not_true, Bool.not_false] at hc1
    have hlt : i.toNat < l.length := by omega
    have hsz := items_sz hlt
    have ht : (textB (l.getD i.toNat ByteArray.empty)).size = _ := ByteArray.size_append
    refine tr_skip ?_
    refine nx_then ?_
    refine tr_seq ?_
    refine tr_block ?_
    refine tr_seq ?_
    refine tr_region (by rfl) ?_
    refine t_idxS ti142.und ti9 rfl rfl (by omega) (by omega) ?_
    refine t_loadR1 ti9 rfl rfl ?_
    refine t_assign rfl ?_
    refine t_end ?_
    refine nx_then ?_
    refine tr_region (by rfl) ?_
    refine t_move rfl ?_
    refine t_move rfl ?_
    refine t_call hI (c151 _ (by omega)) Tryz.func151 rfl ?_
    refine t_cat rfl rfl (by omega) ?_
    refine t_assign rfl ?_
    refine t_end ?_
    refine nx_block ?_
    refine nx_then ?_
    refine tr_region (by rfl) ?_
    refine t_add rfl rfl (by omega) ?_
    refine t_move rfl ?_
    refine t_end ?_
    exact nx_loop (_, out ++ textB (l.getD i.toNat ByteArray.empty)) (by omega) ⟨by rw [hq, show (i + 1).toNat = i.toNat + 1 by omega, itemsB_take_succ hlt]; simp only [append_assocB, textB], by omega, by omega⟩ (st_is [] [3, 9, 10, 11] rfl rfl rfl)
  · try simp only [cmpB, decide_eq_true_eq, decide_eq_false_iff_not, Bool.not_eq_true', Bool.not_eq_false', Bool.not_eq_eq_eq_not, Bool.not_true, Bool.not_false] at hc1
    refine tr_exit ?_
    refine xt_then ?_
    refine xt_loop ?_
    refine xt_hit ?_
    refine nx_then ?_
    refine tr_seq ?_
    refine tr_region (by rfl) ?_
    refine t_move rfl ?_
    refine t_assign rfl ?_
    refine t_end ?_
    refine nx_then ?_
    refine tr_ret ?_
    have hi : i.toNat = l.length := by omega
    rw [hi, List.take_length] at hq
    rw [show out = listB l from hq]
    exact rt_out1 rfl (.tmp rfl .nil)
theorem c103 (n : Nat) (hn : n < 9223372036854775808) : Fun Laid Tryz.prog 103 [IsV (.int .i64 n)] (IsV (.string (numB n))) := by
  refine fun_of 7 Tryz.func103 rfl rfl rfl fun w0 H hI => ?_
  refine tr_seq ?_
  refine tr_region (by rfl) ?_
  refine t_assign rfl ?_
  refine t_end ?_
  refine nx_then ?_
  refine tr_seq ?_
  refine tr_seq ?_
  refine tr_region (by rfl) ?_
  refine t_move rfl ?_
  refine t_cmp rfl rfl rfl ?_
  refine t_end ?_
  refine nx_then ?_
  refine tr_cond rfl (fun hc1 => ?_) (fun hc1 => ?_)
  · try simp only [cmpB, decide_eq_true_eq, decide_eq_false_iff_not, Bool.not_eq_true', Bool.not_eq_false', Bool.not_eq_eq_eq_not, Bool.not_true, Bool.not_false] at hc1
    exact absurd hc1 (by omega)
  · try simp only [cmpB, decide_eq_true_eq, decide_eq_false_iff_not, Bool.not_eq_true', Bool.not_eq_false', Bool.not_eq_eq_eq_not, Bool.not_true, Bool.not_false] at hc1
    refine tr_skip ?_
    refine nx_then ?_
    refine tr_seq ?_
    refine tr_region (by rfl) ?_
    refine t_move rfl ?_
    refine t_call hI (c150 _ (by omega)) Tryz.func150 rfl ?_
    refine t_assign rfl ?_
    refine t_end ?_
    refine nx_then ?_
    refine tr_ret ?_
    exact rt_out1 rfl (.tmp rfl .nil)
theorem c242 (n : Nat) (hn : n < 9223372036854775808) : Fun Laid Tryz.prog 242 [IsV (.int .i64 n)] (IsV (.string (numB n))) := by
  refine fun_of 7 Tryz.func242 rfl rfl rfl fun w0 H hI => ?_
  refine tr_seq ?_
  refine tr_region (by rfl) ?_
  refine t_assign rfl ?_
  refine t_end ?_
  refine nx_then ?_
  refine tr_seq ?_
  refine tr_seq ?_
  refine tr_region (by rfl) ?_
  refine t_move rfl ?_
  refine t_cmp rfl rfl rfl ?_
  refine t_end ?_
  refine nx_then ?_
  refine tr_cond rfl (fun hc1 => ?_) (fun hc1 => ?_)
  · try simp only [cmpB, decide_eq_true_eq, decide_eq_false_iff_not, Bool.not_eq_true', Bool.not_eq_false', Bool.not_eq_eq_eq_not, Bool.not_true, Bool.not_false] at hc1
    exact absurd hc1 (by omega)
  · try simp only [cmpB, decide_eq_true_eq, decide_eq_false_iff_not, Bool.not_eq_true', Bool.not_eq_false', Bool.not_eq_eq_eq_not, Bool.not_true, Bool.not_false] at hc1
    refine tr_skip ?_
    refine nx_then ?_
    refine tr_seq ?_
    refine tr_region (by rfl) ?_
    refine t_move rfl ?_
    refine t_call hI (c150 _ (by omega)) Tryz.func150 rfl ?_
    refine t_assign rfl ?_
    refine t_end ?_
    refine nx_then ?_
    refine tr_ret ?_
    exact rt_out1 rfl (.tmp rfl .nil)
end Go.Eng
