/- Walks: a fork proves it in either order. Printed by wip/tools/gen.py out of wip/proofs/B4.py. -/
import Derived.Test.YtfgdeogphflimaaGreatDoorB3
set_option linter.unusedVariables false
set_option linter.unusedSimpArgs false
set_option maxHeartbeats 1000000
namespace Go.Eng
open Go Go.Proofs
def kBoth : ByteArray := ⟨#[98, 111, 116, 104]⟩
/-- The word's signature. -/
def gB (s : Nat) (h : Bytes 32) : ByteArray := signB kBoth 2 (s - 1) (wordB 0 s h)
theorem gB_eq (s : Nat) (h : Bytes 32) : signB kBoth 2 (s - 1) (wordB 0 s h) = gB s h := rfl
theorem gB_size (s : Nat) (h : Bytes 32) : (gB s h).size = 592 := sign_size _ _ _ _
abbrev rB : Bytes 16 := rootOf kBoth 2
theorem gB_ok (s : Nat) (h : Bytes 32) (hs : 1 ≤ s ∧ s ≤ 4) : okW rB 2 s h (gB s h) = true := sign_ok kBoth 2 (s - 1) (wordB 0 s h) (by omega)
theorem fork_ab (s : Nat) (a b : Bytes 32) (hs : 1 ≤ s ∧ s ≤ 4) : forkOk rB 2 s a (gB s a) s b (gB s b) = !decide (a.1 = b.1) := by
  unfold forkOk
  rw [gB_ok s a hs, gB_ok s b hs]
  simp
theorem fork_ba (s : Nat) (a b : Bytes 32) (hs : 1 ≤ s ∧ s ≤ 4) : forkOk rB 2 s b (gB s b) s a (gB s a) = !decide (a.1 = b.1) := by
  rw [fork_ab s b a hs]
  congr 1
  rw [decide_eq_decide]
  exact eq_comm
def wS (s : Nat) (a b : Bytes 32) : Nat → Segs
  | 0 => z77
  | 1 => authS 0 s a (gB s a) ++ authS 0 0 (z8 32) ByteArray.empty
  | _ => authS 0 s a (gB s a) ++ authS 0 s b (gB s b)
def setB (s : ByteArray) (i : Nat) (x : UInt8) : ByteArray := ⟨s.data.setIfInBounds i x⟩
theorem setB_size (s : ByteArray) (i : Nat) (x : UInt8) : (setB s i x).size = s.size := by
  show (s.data.setIfInBounds i x).size = _
  rw [Array.size_setIfInBounds]; rfl
theorem rowB_set (s : ByteArray) (i : Nat) (x : UInt8) : rowR 1 s.size ((byteCells s).set i (U8 x)) = rowB (setB s i x) := by
  unfold rowB
  rw [setB_size]
  congr 1
  simp [setB, byteCells, List.map_set]
theorem wrap_nat (n : Int) : ∃ q : Nat, IntKind.u64.wrap n = q ∧ q < 18446744073709551616 := ⟨(IntKind.u64.wrap n).toNat, by rw [wrap_u64]; omega⟩

theorem c6 (seq at_ : Int) (a b : Bytes 32) (c : UInt8) : Fun Laid Tryz.prog 6 [IsV (.int .i64 seq), IsV (aggS [sgB a]), IsV (aggS [sgB b]), IsV (.int .i64 at_), IsV (U8 c)] (IsV (.bool true)) := by
  refine fun_of 120 Tryz.func6 rfl rfl rfl fun w0 H hI => ?_
  refine tr_seq ?_
  refine tr_region (by rfl) ?_
  refine t_boxA rfl ?_
  refine t_boxA rfl ?_
  refine t_assign rfl ?_
  refine t_end ?_
  refine nx_then ?_
  refine tr_seq ?_
  refine tr_seq ?_
  refine tr_region (by rfl) ?_
  refine t_call hI (c26) Tryz.func26 rfl ?_
  refine t_not rfl ?_
  refine t_end ?_
  refine nx_then ?_
  refine tr_cond rfl (fun hc1 => ?_) (fun hc1 => ?_)
  · try simp only [cmpB, decide_eq_true_eq, decide_eq_false_iff_not, Bool.not_eq_true', Bool.not_eq_false', Bool.not_eq_eq_eq_not, Bool.not_true, Bool.not_false] at hc1
    exact absurd hc1 (by decide)
  · try simp only [cmpB, decide_eq_true_eq, decide_eq_false_iff_not, Bool.not_eq_true', Bool.not_eq_false', Bool.not_eq_eq_eq_not, Bool.not_true, Bool.not_false] at hc1
    refine tr_skip ?_
    refine nx_then ?_
    refine tr_seq ?_
    refine tr_seq ?_
    refine tr_region (by rfl) ?_
    refine t_move rfl ?_
    refine t_cmp rfl rfl rfl ?_
    refine t_move rfl ?_
    refine t_split 25 rfl (fun hg2 => ?_) (fun hg2 => ?_)
    · have hg2' := hg2
      try simp only [cmpB, decide_eq_true_eq, decide_eq_false_iff_not, Bool.not_eq_true', Bool.not_eq_false', Bool.not_eq_eq_eq_not, Bool.not_true, Bool.not_false] at hg2'
      refine t_pass hg2 ?_
      refine t_pass hg2 ?_
      refine t_pickt hg2 rfl rfl ?_
      refine t_end ?_
      refine nx_then ?_
      refine tr_cond rfl (fun hc3 => ?_) (fun hc3 => ?_)
      · refine tr_seq ?_
        refine tr_region (by rfl) ?_
        refine t_assign rfl ?_
        refine t_end ?_
        refine nx_then ?_
        refine tr_ret ?_
        refine rt_then ?_
        exact rt_out1 rfl (.tmp rfl .nil)
      · exact absurd hc3 (by decide)
    · have hg2' := hg2
      try simp only [cmpB, decide_eq_true_eq, decide_eq_false_iff_not, Bool.not_eq_true', Bool.not_eq_false', Bool.not_eq_eq_eq_not, Bool.not_true, Bool.not_false] at hg2'
      refine t_move rfl ?_ (hg := ⟨_, _, rfl, rfl, hg2⟩)
      refine t_cmp rfl rfl rfl ?_ (hg := ⟨_, _, rfl, rfl, hg2⟩)
      refine t_pickf hg2 rfl rfl ?_
      refine t_end ?_
      refine nx_then ?_
      refine tr_cond rfl (fun hc4 => ?_) (fun hc4 => ?_)
      · try simp only [cmpB, decide_eq_true_eq, decide_eq_false_iff_not, Bool.not_eq_true', Bool.not_eq_false', Bool.not_eq_eq_eq_not, Bool.not_true, Bool.not_false] at hc4
        refine tr_seq ?_
        refine tr_region (by rfl) ?_
        refine t_assign rfl ?_
        refine t_end ?_
        refine nx_then ?_
        refine tr_ret ?_
        refine rt_then ?_
        exact rt_out1 rfl (.tmp rfl .nil)
      · try simp only [cmpB, decide_eq_true_eq, decide_eq_false_iff_not, Bool.not_eq_true', Bool.not_eq_false', Bool.not_eq_eq_eq_not, Bool.not_true, Bool.not_false] at hc4
        obtain ⟨s, rfl⟩ : ∃ s : Nat, seq = (s : Int) := ⟨seq.toNat, by omega⟩
        have hs : 1 ≤ s ∧ s ≤ 4 := by omega
        have hga := gB_size s a
        have hgb := gB_size s b
        refine tr_skip ?_
        refine nx_then ?_
        refine tr_seq ?_
        refine tr_region (by rfl) ?_
        refine t_call hI (c27 kBoth 2 (by decide)) Tryz.func27 rfl ?_
        refine t_move rfl ?_
        refine t_extract rfl rfl ?_
        refine t_extract rfl rfl ?_
        refine t_assign rfl ?_
        refine t_assign rfl ?_
        refine t_end ?_
        refine nx_then ?_
        refine tr_seq ?_
        refine tr_seq ?_
        refine tr_region (by rfl) ?_
        refine t_move rfl ?_
        refine t_cmp rfl rfl rfl ?_
        refine t_end ?_
        refine nx_then ?_
        refine tr_cond rfl (fun hc5 => ?_) (fun hc5 => ?_)
        · try simp only [cmpB, decide_eq_true_eq, decide_eq_false_iff_not, Bool.not_eq_true', Bool.not_eq_false', Bool.not_eq_eq_eq_not, Bool.not_true, Bool.not_false] at hc5
          exact absurd hc5 (by decide)
        · try simp only [cmpB, decide_eq_true_eq, decide_eq_false_iff_not, Bool.not_eq_true', Bool.not_eq_false', Bool.not_eq_eq_eq_not, Bool.not_true, Bool.not_false] at hc5
          refine tr_skip ?_
          refine nx_then ?_
          refine tr_seq ?_
          refine tr_region (by rfl) ?_
          refine t_move rfl ?_
          refine t_call hI (c28 kBoth 2 (by decide)) Tryz.func28 rfl ?_
          refine t_build (parts := []) bi73 .nil rfl ?_
          refine t_lit (parts := [(0, .tmp 36), (1, .tmp 37)]) ti35.und ti73 zi73 rfl rfl rfl rfl (.agg rfl (.agg rfl .nil)) rfl rfl ?_
          refine t_assign rfl ?_
          refine t_end ?_
          refine nx_then ?_
          refine tr_seq ?_
          refine tr_fact (ψ := NodesP rB 2) 13 (fun _ _ h => h) rfl ?_
          refine tr_region (by rfl) ?_
          refine t_allocA zi77 ?_
          refine t_end ?_
          refine nx_then ?_
          refine tr_seq ?_
          refine tr_seq ?_
          refine tr_region (by rfl) ?_
          refine t_load ti23 rfl rfl rfl rfl rfl ?_
          refine t_load ti23 rfl rfl rfl rfl rfl ?_
          refine t_buildA (parts := [(0, .tmp 39), (1, .tmp 40)]) ti78.und ti24 zi78 rfl (.agg rfl (.agg rfl .nil)) rfl rfl ?_
          refine t_move rfl ?_
          refine t_end ?_
          refine nx_then ?_
          refine tr_block ?_
          refine tr_loop (σ := Nat) (fun k => k ≤ 2) (fun k => [(6, some (boxS [sgB a] 23)), (7, some (boxS [sgB b] 23)), (14, some (boxS (wS s a b k) 77))]) (fun k => [(0, EqV (.int .i64 (s : Int))), (3, EqV (.int .i64 at_)), (4, EqV (U8 c)), (6, .ptr 6 0), (7, .ptr 7 0), (11, .plain (RefD (keysL kBoth 2))), (13, .plain (NodesP rB 2)), (14, .ptr 14 0), (41, EqV (aggS [sgB a, sgB b])), (42, EqV (.int .i64 (k : Int)))]) (fun k => 2 - k) 0 (by omega) (st_is [6, 7, 14] [0, 3, 4, 6, 7, 11, 13, 14, 41, 42] rfl rfl rfl) (fun k hp => ?_)
          try dsimp only
          rcases (by omega : k = 0 ∨ k = 1 ∨ k = 2) with rfl | rfl | rfl
          · refine tr_seq ?_
            refine tr_region (by rfl) ?_
            refine t_cmp rfl rfl rfl ?_
            refine t_end ?_
            refine nx_then ?_
            refine tr_seq ?_
            refine tr_cond rfl (fun hc6 => ?_) (fun hc6 => ?_)
            · try simp only [cmpB, decide_eq_true_eq, decide_eq_false_iff_not, Bool.not_eq_true', Bool.not_eq_false', Bool.not_eq_eq_eq_not, Bool.not_true, Bool.not_false] at hc6
              refine tr_skip ?_
              refine nx_then ?_
              refine tr_seq ?_
              refine tr_block ?_
              refine tr_seq ?_
              refine tr_region (by rfl) ?_
              refine t_move rfl ?_
              refine t_indexA ti78.und ti24 rfl rfl rfl (by omega) (by omega) rfl rfl ?_
              refine t_allocA zi24 ?_
              refine t_assign rfl ?_
              refine t_storeA ti24 rfl rfl rfl rfl rfl ?_
              refine t_end ?_
              refine nx_then ?_
              refine tr_seq ?_
              refine tr_region (by rfl) ?_
              refine t_move rfl ?_
              refine t_move rfl ?_
              refine t_sub rfl rfl (by omega) ?_
              rw [show (s : Int) - 1 = ((s - 1 : Nat) : Int) by omega]
              refine t_move rfl ?_
              refine t_load ti24 rfl rfl rfl rfl rfl ?_
              refine t_call hI (c30 0 s _ (by omega)) Tryz.func30 rfl ?_
              refine t_call hI (c29 kBoth 2 (s - 1) _ ⟨by decide, by omega, word_size _ (by omega)⟩) Tryz.func29 rfl ?_
              rw [gB_eq]
              refine t_move rfl ?_
              refine t_extract rfl rfl ?_
              refine t_extract rfl rfl ?_
              refine t_assign rfl ?_
              refine t_assign rfl ?_
              refine t_end ?_
              refine nx_then ?_
              refine tr_region (by rfl) ?_
              refine t_move rfl ?_
              refine t_move rfl ?_
              refine t_load ti24 rfl rfl rfl rfl rfl ?_
              refine t_move rfl ?_
              refine t_build (parts := [(1, .tmp 57), (2, .tmp 58), (3, .tmp 59)]) bi76 (.one rfl rfl (.agg rfl (.one rfl rfl .nil))) rfl ?_
              refine t_elem _ ti77 ti76 (by omega) (by omega) rfl rfl rfl ?_
              refine t_storeA ti76 rfl rfl rfl rfl rfl ?_
              refine t_end ?_
              refine nx_block ?_
              refine nx_then ?_
              refine tr_region (by rfl) ?_
              refine t_add rfl rfl (by omega) ?_
              refine t_move rfl ?_
              refine t_end ?_
              refine nx_freeze 16 rfl ?_
              exact nx_loop 1 (by omega) (by omega) (st_is [6, 7, 14] [0, 3, 4, 6, 7, 11, 13, 14, 41, 42] rfl rfl rfl)
            · try simp only [cmpB, decide_eq_true_eq, decide_eq_false_iff_not, Bool.not_eq_true', Bool.not_eq_false', Bool.not_eq_eq_eq_not, Bool.not_true, Bool.not_false] at hc6
              exact absurd hc6 (by decide)
          · refine tr_seq ?_
            refine tr_region (by rfl) ?_
            refine t_cmp rfl rfl rfl ?_
            refine t_end ?_
            refine nx_then ?_
            refine tr_seq ?_
            refine tr_cond rfl (fun hc7 => ?_) (fun hc7 => ?_)
            · try simp only [cmpB, decide_eq_true_eq, decide_eq_false_iff_not, Bool.not_eq_true', Bool.not_eq_false', Bool.not_eq_eq_eq_not, Bool.not_true, Bool.not_false] at hc7
              refine tr_skip ?_
              refine nx_then ?_
              refine tr_seq ?_
              refine tr_block ?_
              refine tr_seq ?_
              refine tr_region (by rfl) ?_
              refine t_move rfl ?_
              refine t_indexA ti78.und ti24 rfl rfl rfl (by omega) (by omega) rfl rfl ?_
              refine t_allocA zi24 ?_
              refine t_assign rfl ?_
              refine t_storeA ti24 rfl rfl rfl rfl rfl ?_
              refine t_end ?_
              refine nx_then ?_
              refine tr_seq ?_
              refine tr_region (by rfl) ?_
              refine t_move rfl ?_
              refine t_move rfl ?_
              refine t_sub rfl rfl (by omega) ?_
              rw [show (s : Int) - 1 = ((s - 1 : Nat) : Int) by omega]
              refine t_move rfl ?_
              refine t_load ti24 rfl rfl rfl rfl rfl ?_
              refine t_call hI (c30 0 s _ (by omega)) Tryz.func30 rfl ?_
              refine t_call hI (c29 kBoth 2 (s - 1) _ ⟨by decide, by omega, word_size _ (by omega)⟩) Tryz.func29 rfl ?_
              rw [gB_eq]
              refine t_move rfl ?_
              refine t_extract rfl rfl ?_
              refine t_extract rfl rfl ?_
              refine t_assign rfl ?_
              refine t_assign rfl ?_
              refine t_end ?_
              refine nx_then ?_
              refine tr_region (by rfl) ?_
              refine t_move rfl ?_
              refine t_move rfl ?_
              refine t_load ti24 rfl rfl rfl rfl rfl ?_
              refine t_move rfl ?_
              refine t_build (parts := [(1, .tmp 57), (2, .tmp 58), (3, .tmp 59)]) bi76 (.one rfl rfl (.agg rfl (.one rfl rfl .nil))) rfl ?_
              refine t_elem _ ti77 ti76 (by omega) (by omega) rfl rfl rfl ?_
              refine t_storeA ti76 rfl rfl rfl rfl rfl ?_
              refine t_end ?_
              refine nx_block ?_
              refine nx_then ?_
              refine tr_region (by rfl) ?_
              refine t_add rfl rfl (by omega) ?_
              refine t_move rfl ?_
              refine t_end ?_
              refine nx_freeze 16 rfl ?_
              exact nx_loop 2 (by omega) (by omega) (st_is [6, 7, 14] [0, 3, 4, 6, 7, 11, 13, 14, 41, 42] rfl rfl rfl)
            · try simp only [cmpB, decide_eq_true_eq, decide_eq_false_iff_not, Bool.not_eq_true', Bool.not_eq_false', Bool.not_eq_eq_eq_not, Bool.not_true, Bool.not_false] at hc7
              exact absurd hc7 (by decide)
          · refine tr_seq ?_
            refine tr_region (by rfl) ?_
            refine t_cmp rfl rfl rfl ?_
            refine t_end ?_
            refine nx_then ?_
            refine tr_seq ?_
            refine tr_cond rfl (fun hc8 => ?_) (fun hc8 => ?_)
            · try simp only [cmpB, decide_eq_true_eq, decide_eq_false_iff_not, Bool.not_eq_true', Bool.not_eq_false', Bool.not_eq_eq_eq_not, Bool.not_true, Bool.not_false] at hc8
              exact absurd hc8 (by decide)
            · try simp only [cmpB, decide_eq_true_eq, decide_eq_false_iff_not, Bool.not_eq_true', Bool.not_eq_false', Bool.not_eq_eq_eq_not, Bool.not_true, Bool.not_false] at hc8
              refine tr_exit ?_
              refine xt_then ?_
              refine xt_loop ?_
              refine xt_hit ?_
              refine nx_then ?_
              refine tr_seq ?_
              refine tr_seq ?_
              refine tr_region_any mixed (by rfl) ?_
              refine t_elem _ ti77 ti76 (by decide) (by decide) rfl rfl rfl ?_
              refine t_load ti76 rfl rfl rfl rfl rfl ?_
              refine t_elem _ ti77 ti76 (by decide) (by decide) rfl rfl rfl ?_
              refine t_load ti76 rfl rfl rfl rfl rfl ?_
              refine t_call hI (c32 s a (gB s a) s b (gB s b)) Tryz.func32 rfl ?_
              refine t_move rfl ?_
              refine t_call hI (c31 rB 2 s a (gB s a) s b (gB s b) ⟨⟨by decide, by decide⟩, ⟨hs.1, hs.2, gB_size s a⟩, ⟨hs.1, hs.2, gB_size s b⟩⟩) Tryz.func31 rfl ?_
              rw [fork_ab s a b hs]
              refine t_load ti23 rfl rfl rfl rfl rfl ?_
              refine t_load ti23 rfl rfl rfl rfl rfl ?_
              refine t_ane ai23 rfl rfl ?_
              refine t_bne ti4.und rfl rfl ?_
              rw [bne_self_eq_false]
              refine t_move rfl ?_
              refine t_elem _ ti77 ti76 (by decide) (by decide) rfl rfl rfl ?_ (hg := ⟨_, _, rfl, rfl, rfl⟩)
              refine t_load ti76 rfl rfl rfl rfl rfl ?_ (hg := ⟨_, _, rfl, rfl, rfl⟩)
              refine t_elem _ ti77 ti76 (by decide) (by decide) rfl rfl rfl ?_ (hg := ⟨_, _, rfl, rfl, rfl⟩)
              refine t_load ti76 rfl rfl rfl rfl rfl ?_ (hg := ⟨_, _, rfl, rfl, rfl⟩)
              refine t_call hI (c32 s b (gB s b) s a (gB s a)) Tryz.func32 rfl ?_ (hg := ⟨_, _, rfl, rfl, rfl⟩)
              refine t_move rfl ?_ (hg := ⟨_, _, rfl, rfl, rfl⟩)
              refine t_call hI (c31 rB 2 s b (gB s b) s a (gB s a) ⟨⟨by decide, by decide⟩, ⟨hs.1, hs.2, gB_size s b⟩, ⟨hs.1, hs.2, gB_size s a⟩⟩) Tryz.func31 rfl ?_ (hg := ⟨_, _, rfl, rfl, rfl⟩)
              rw [fork_ba s a b hs]
              refine t_load ti23 rfl rfl rfl rfl rfl ?_ (hg := ⟨_, _, rfl, rfl, rfl⟩)
              refine t_load ti23 rfl rfl rfl rfl rfl ?_ (hg := ⟨_, _, rfl, rfl, rfl⟩)
              refine t_ane ai23 rfl rfl ?_ (hg := ⟨_, _, rfl, rfl, rfl⟩)
              refine t_bne ti4.und rfl rfl ?_ (hg := ⟨_, _, rfl, rfl, rfl⟩)
              rw [bne_self_eq_false]
              refine t_pickf rfl rfl rfl ?_
              refine t_end_any ?_ (by kernel_rfl)
              refine nx_then ?_
              refine tr_cond rfl (fun hc9 => ?_) (fun hc9 => ?_)
              · exact absurd hc9 (by decide)
              · refine tr_skip ?_
                refine nx_then ?_
                refine tr_seq ?_
                refine tr_region (by rfl) ?_
                refine t_elem _ ti77 ti76 (by decide) (by decide) rfl rfl rfl ?_
                refine t_fld fi76_3 ti9 rfl ?_
                refine t_load ti9 rfl rfl rfl rfl rfl ?_
                refine t_bytes ti9.und ti86.und ti5.und rfl (by simp only [maxLen]; omega) ?_
                refine t_takea rfl ?_
                refine t_end ?_
                refine nx_then ?_
                refine tr_seq ?_
                refine tr_region (by rfl) ?_
                refine t_mvrow rfl ?_
                refine t_move rfl ?_
                refine t_conv ti3.und ti34.und rfl ?_
                obtain ⟨q, hq, hql⟩ := wrap_nat at_
                rw [hq]
                refine t_mvrow rfl ?_
                refine t_lenN ti86.und (Or.inr rfl) rfl ?_
                refine t_convF ti3.und ti34.und rfl (by first | (show _ ∧ _; omega) | exact natK (by omega)) ?_
                refine t_int .rem _ (run_remN (by first | exact Int.natCast_nonneg _ | omega) (by omega)) rfl rfl ?_
                rw [show (q : Int) % ((gB s a).size : Int) = ((q % 592 : Nat) : Int) by rw [hga]; omega]
                refine t_convF ti34.und ti3.und rfl (natK (by omega)) ?_
                refine t_rowIdxQ (q % 592) (by omega) (by omega) ti86.und ti5 (Or.inr rfl) rfl rfl ?_
                refine t_rowLoad _ ti5 rfl rfl rfl (byteCells_at (gB s a) (i := q % 592) (by rw [hga]; omega)) ?_
                refine t_move rfl ?_
                refine t_int .xor _ (run_xor8 _ _) rfl rfl ?_
                refine t_rowIdxQ (q % 592) (by omega) (by omega) ti86.und ti5 (Or.inr rfl) rfl rfl ?_
                refine t_rowStore ti5 rfl rfl rfl rfl (by rw [byteCells_length, hga]; omega) ?_
                rw [rowB_set]
                refine t_end ?_
                refine nx_then ?_
                refine tr_seq ?_
                refine tr_region (by rfl) ?_
                refine t_mvrow rfl ?_
                refine t_strN ti86.und ti5.und ti9.und (Or.inr rfl) rfl ?_
                refine t_elem _ ti77 ti76 (by decide) (by decide) rfl rfl rfl ?_
                refine t_fld fi76_3 ti9 rfl ?_
                refine t_store1 ti9 rfl rfl rfl rfl rfl ?_
                refine t_end ?_
                refine nx_then ?_
                refine tr_seq ?_
                refine tr_region (by rfl) ?_
                refine t_elem _ ti77 ti76 (by decide) (by decide) rfl rfl rfl ?_
                refine t_load ti76 rfl rfl rfl rfl rfl ?_
                refine t_elem _ ti77 ti76 (by decide) (by decide) rfl rfl rfl ?_
                refine t_load ti76 rfl rfl rfl rfl rfl ?_
                refine t_call hI (c32 s a _ s b (gB s b)) Tryz.func32 rfl ?_
                refine t_allocA zi84 ?_
                refine t_storeA ti84 rfl rfl rfl rfl rfl ?_
                refine t_end ?_
                refine nx_then ?_
                refine tr_seq ?_
                refine tr_region_any mixed (by rfl) ?_
                refine t_load ti84 rfl rfl rfl rfl rfl ?_
                refine t_move rfl ?_
                refine t_call hI (c31 rB 2 s a _ s b (gB s b) ⟨⟨by decide, by decide⟩, ⟨hs.1, hs.2, (by rw [setB_size]; exact gB_size s a)⟩, ⟨hs.1, hs.2, gB_size s b⟩⟩) Tryz.func31 rfl ?_
                refine t_load ti84 rfl rfl rfl rfl rfl ?_
                refine t_move rfl ?_
                refine t_call hI (c33 rB 2 s a _ s b (gB s b) ⟨⟨by decide, by decide⟩, ⟨hs.1, hs.2, (by rw [setB_size]; exact gB_size s a)⟩, ⟨hs.1, hs.2, gB_size s b⟩⟩) Tryz.func33 rfl ?_
                refine t_beq ti4.und rfl rfl ?_
                rw [beq_self_eq_true]
                refine t_assign rfl ?_
                refine t_end_any ?_ (by kernel_rfl)
                refine nx_then ?_
                refine tr_ret ?_
                exact rt_out1 rfl (.tmp rfl .nil)
end Go.Eng
