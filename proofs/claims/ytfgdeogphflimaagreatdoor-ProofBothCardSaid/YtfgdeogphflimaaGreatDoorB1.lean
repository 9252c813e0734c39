/- Walks: the empty text, read. Printed by wip/tools/gen.py out of wip/proofs/B1.py. -/
import Derived.Test.YtfgdeogphflimaaGreatDoorA15
set_option linter.unusedVariables false
set_option linter.unusedSimpArgs false
set_option maxHeartbeats 8000000
namespace Go.Eng
open Go Go.Proofs
abbrev rdr (s : ByteArray) (b : Bool) : Segs := [sg1 (.string s), sg1 (.bool b)]
abbrev forkN (n1 s1 : Nat) (h1 : Bytes 32) (g1 : ByteArray) (n2 s2 : Nat) (h2 : Bytes 32) (g2 : ByteArray) : Segs :=
  [sg1 (NV 1), sg1 (NV n1), sg1 (NV n1), sg1 (NV s1), sgB h1, sg1 (.string g1), sg1 (NV n2), sg1 (NV s2), sgB h2, sg1 (.string g2), sgB (z8 32), sg1 (.slice none 0 0)]
abbrev nilS : Value := .slice none 0 0

theorem c185 (s : ByteArray) (b : Bool) : FunM Laid Tryz.prog 185 (boxS (rdr s b) 290) [] (fun _ _ => True) (boxS (rdr ByteArray.empty true) 290) := by
  refine funM_of 8 Tryz.func185 rfl rfl rfl fun w0 H v0 hI => ?_
  refine tr_region (by rfl) ?_
  refine t_mvbox rfl ?_
  refine t_mvbox rfl ?_
  refine t_nckp rfl ?_
  refine t_fld fi290_0 ti9 rfl ?_
  refine t_store1 ti9 rfl rfl rfl rfl rfl ?_
  refine t_nckp rfl ?_
  refine t_fld fi290_1 ti4 rfl ?_
  refine t_store1 ti4 rfl rfl rfl rfl rfl ?_
  refine t_end ?_
  refine nx_fallM ?_
  exact rt_noneM rfl rfl rfl
theorem c184  : FunM Laid Tryz.prog 184 (boxS (rdr ByteArray.empty false) 290) [IsV (.int .i64 1)] (IsV (.string ByteArray.empty)) (boxS (rdr ByteArray.empty true) 290) := by
  refine funM_of 37 Tryz.func184 rfl rfl rfl fun w0 H v0 hI => ?_
  refine tr_seq ?_
  refine tr_region (by rfl) ?_
  refine t_assign rfl ?_
  refine t_end ?_
  refine nx_then ?_
  refine tr_seq ?_
  refine tr_seq ?_
  refine tr_region (by rfl) ?_
  refine t_mvbox rfl ?_
  refine t_nckp rfl ?_
  refine t_fld fi290_1 ti4 rfl ?_
  refine t_load ti4 rfl rfl rfl rfl rfl ?_
  refine t_move rfl ?_
  refine t_split 10 rfl (fun hg1 => ?_) (fun hg1 => ?_)
  · exact absurd hg1 (by decide)
  · have hg1' := hg1
    try simp only [cmpB, decide_eq_true_eq, decide_eq_false_iff_not, Bool.not_eq_true', Bool.not_eq_false', Bool.not_eq_eq_eq_not, Bool.not_true, Bool.not_false] at hg1'
    refine t_move rfl ?_ (hg := ⟨_, _, rfl, rfl, hg1⟩)
    refine t_mvbox rfl ?_ (hg := ⟨_, _, rfl, rfl, hg1⟩)
    refine t_nckp rfl ?_ (hg := ⟨_, _, rfl, rfl, hg1⟩)
    refine t_fld fi290_0 ti9 rfl ?_ (hg := ⟨_, _, rfl, rfl, hg1⟩)
    refine t_load ti9 rfl rfl rfl rfl rfl ?_ (hg := ⟨_, _, rfl, rfl, hg1⟩)
    refine t_lens ti9.und rfl ?_ (hg := ⟨_, _, rfl, rfl, hg1⟩)
    refine t_cmp rfl rfl rfl ?_ (hg := ⟨_, _, rfl, rfl, hg1⟩)
    refine t_pickf hg1 rfl rfl ?_
    refine t_end ?_
    refine nx_then ?_
    refine tr_cond rfl (fun hc2 => ?_) (fun hc2 => ?_)
    · try simp only [cmpB, decide_eq_true_eq, decide_eq_false_iff_not, Bool.not_eq_true', Bool.not_eq_false', Bool.not_eq_eq_eq_not, Bool.not_true, Bool.not_false] at hc2
      refine tr_seq ?_
      refine tr_region (by rfl) ?_
      refine t_mvbox rfl ?_
      refine t_callM hI (c185 _ _) Tryz.func185 boxS_ptr rfl rfl rfl ?_
      refine t_end ?_
      refine nx_then ?_
      refine tr_seq ?_
      refine tr_region (by rfl) ?_
      refine t_assign rfl ?_
      refine t_end ?_
      refine nx_then ?_
      refine tr_ret ?_
      refine rt_then ?_
      exact rt_outM rfl (.tmp rfl .nil) rfl rfl
    · exact absurd hc2 (by decide)
theorem c143  : FunM Laid Tryz.prog 143 (boxS (rdr ByteArray.empty false) 290) [] (IsV (.int .i64 0)) (boxS (rdr ByteArray.empty true) 290) := by
  refine funM_of 59 Tryz.func143 rfl rfl rfl fun w0 H v0 hI => ?_
  refine tr_seq ?_
  refine tr_region (by rfl) ?_
  refine t_assign rfl ?_
  refine t_end ?_
  refine nx_then ?_
  refine tr_seq ?_
  refine tr_seq ?_
  refine tr_region (by rfl) ?_
  refine t_mvbox rfl ?_
  refine t_nonnilp ti254.und rfl ?_
  refine t_end ?_
  refine nx_then ?_
  refine tr_cond rfl (fun hc1 => ?_) (fun hc1 => ?_)
  · exact absurd hc1 (by decide)
  · refine tr_skip ?_
    refine nx_then ?_
    refine tr_seq ?_
    refine tr_region (by rfl) ?_
    refine t_mvbox rfl ?_
    refine t_callM hI (c184) Tryz.func184 boxS_ptr rfl rfl rfl ?_
    refine t_assign rfl ?_
    refine t_end ?_
    refine nx_then ?_
    refine tr_seq ?_
    refine tr_seq ?_
    refine tr_region (by rfl) ?_
    refine t_mvbox rfl ?_
    refine t_nckp rfl ?_
    refine t_fld fi290_1 ti4 rfl ?_
    refine t_load ti4 rfl rfl rfl rfl rfl ?_
    refine t_end ?_
    refine nx_then ?_
    refine tr_cond rfl (fun hc2 => ?_) (fun hc2 => ?_)
    · try simp only [cmpB, decide_eq_true_eq, decide_eq_false_iff_not, Bool.not_eq_true', Bool.not_eq_false', Bool.not_eq_eq_eq_not, Bool.not_true, Bool.not_false] at hc2
      refine tr_seq ?_
      refine tr_region (by rfl) ?_
      refine t_assign rfl ?_
      refine t_end ?_
      refine nx_then ?_
      refine tr_ret ?_
      refine rt_then ?_
      exact rt_outM rfl (.tmp rfl .nil) rfl rfl
    · exact absurd hc2 (by decide)
theorem c183  : FunM Laid Tryz.prog 183 (boxS (rdr ByteArray.empty false) 290) [] (IsV nilS) (boxS (rdr ByteArray.empty true) 290) := by
  refine funM_of 36 Tryz.func183 rfl rfl rfl fun w0 H v0 hI => ?_
  refine tr_seq ?_
  refine tr_region (by rfl) ?_
  refine t_assign rfl ?_
  refine t_end ?_
  refine nx_then ?_
  refine tr_seq ?_
  refine tr_seq ?_
  refine tr_region (by rfl) ?_
  refine t_mvbox rfl ?_
  refine t_nonnilp ti254.und rfl ?_
  refine t_end ?_
  refine nx_then ?_
  refine tr_cond rfl (fun hc1 => ?_) (fun hc1 => ?_)
  · exact absurd hc1 (by decide)
  · refine tr_skip ?_
    refine nx_then ?_
    refine tr_seq ?_
    refine tr_region (by rfl) ?_
    refine t_mvbox rfl ?_
    refine t_callM hI (c143) Tryz.func143 boxS_ptr rfl rfl rfl ?_
    refine t_assign rfl ?_
    refine t_end ?_
    refine nx_then ?_
    refine tr_seq ?_
    refine tr_seq ?_
    refine tr_region (by rfl) ?_
    refine t_move rfl ?_
    refine t_cmp rfl rfl rfl ?_
    refine t_end ?_
    refine nx_then ?_
    refine tr_cond rfl (fun hc2 => ?_) (fun hc2 => ?_)
    · exact absurd hc2 (by decide)
    · try simp only [cmpB, decide_eq_true_eq, decide_eq_false_iff_not, Bool.not_eq_true', Bool.not_eq_false', Bool.not_eq_eq_eq_not, Bool.not_true, Bool.not_false] at hc2
      refine tr_skip ?_
      refine nx_then ?_
      refine tr_seq ?_
      refine tr_region (by rfl) ?_
      refine t_nil (sz := 1) ?_
      refine t_end ?_
      refine nx_then ?_
      refine tr_seq ?_
      refine tr_seq ?_
      refine tr_region (by rfl) ?_
      refine t_assign rfl ?_
      refine t_end ?_
      refine nx_then ?_
      refine tr_block ?_
      refine tr_loop (σ := Unit) (fun _ => True) (fun _ => [(0, some (boxS (rdr ByteArray.empty true) 290)), (4, some (rowR 1 0 []))]) (fun _ => [(0, EqV v0), (3, EqV (.int .i64 0)), (5, EqV (.int .i64 0))]) (fun _ => 0) () trivial (st_is [0, 4] [0, 3, 5] rfl rfl rfl) (fun _ hp => ?_)
      try dsimp only
      refine tr_seq ?_
      refine tr_seq ?_
      refine tr_region (by rfl) ?_
      refine t_move rfl ?_
      refine t_move rfl ?_
      refine t_cmp rfl rfl rfl ?_
      refine t_move rfl ?_
      refine t_split 17 rfl (fun hg3 => ?_) (fun hg3 => ?_)
      · exact absurd hg3 (by decide)
      · have hg3' := hg3
        try simp only [cmpB, decide_eq_true_eq, decide_eq_false_iff_not, Bool.not_eq_true', Bool.not_eq_false', Bool.not_eq_eq_eq_not, Bool.not_true, Bool.not_false] at hg3'
        refine t_pass hg3 ?_
        refine t_pass hg3 ?_
        refine t_pass hg3 ?_
        refine t_pass hg3 ?_
        refine t_pass hg3 ?_
        refine t_pickf hg3 rfl rfl ?_
        refine t_end ?_
        refine nx_then ?_
        refine tr_cond rfl (fun hc4 => ?_) (fun hc4 => ?_)
        · exact absurd hc4 (by decide)
        · refine tr_exit ?_
          refine xt_then ?_
          refine xt_loop ?_
          refine xt_hit ?_
          refine nx_then ?_
          refine tr_seq ?_
          refine tr_seq ?_
          refine tr_region (by rfl) ?_
          refine t_mvbox rfl ?_
          refine t_nckp rfl ?_
          refine t_fld fi290_1 ti4 rfl ?_
          refine t_load ti4 rfl rfl rfl rfl rfl ?_
          refine t_end ?_
          refine nx_then ?_
          refine tr_cond rfl (fun hc5 => ?_) (fun hc5 => ?_)
          · try simp only [cmpB, decide_eq_true_eq, decide_eq_false_iff_not, Bool.not_eq_true', Bool.not_eq_false', Bool.not_eq_eq_eq_not, Bool.not_true, Bool.not_false] at hc5
            refine tr_seq ?_
            refine tr_region (by rfl) ?_
            refine t_assign rfl ?_
            refine t_end ?_
            refine nx_then ?_
            refine tr_ret ?_
            refine rt_then ?_
            exact rt_outM rfl (.tmp rfl .nil) rfl rfl
          · exact absurd hc5 (by decide)
theorem c146  : FunM Laid Tryz.prog 146 (boxS (rdr ByteArray.empty true) 290) [] (IsV (.int .i64 4)) (boxS (rdr ByteArray.empty true) 290) := by
  refine funM_of 18 Tryz.func146 rfl rfl rfl fun w0 H v0 hI => ?_
  refine tr_seq ?_
  refine tr_region (by rfl) ?_
  refine t_assign rfl ?_
  refine t_end ?_
  refine nx_then ?_
  refine tr_seq ?_
  refine tr_block ?_
  refine tr_seq ?_
  refine tr_region (by rfl) ?_
  refine t_mvbox rfl ?_
  refine t_nonnilp ti254.und rfl ?_
  refine t_assign rfl ?_
  refine t_end ?_
  refine nx_then ?_
  refine tr_cond rfl (fun hc1 => ?_) (fun hc1 => ?_)
  · exact absurd hc1 (by decide)
  · refine tr_seq ?_
    refine tr_region (by rfl) ?_
    refine t_mvbox rfl ?_
    refine t_nckp rfl ?_
    refine t_fld fi290_1 ti4 rfl ?_
    refine t_load ti4 rfl rfl rfl rfl rfl ?_
    refine t_move rfl ?_
    refine t_split 11 rfl (fun hg2 => ?_) (fun hg2 => ?_)
    · have hg2' := hg2
      try simp only [cmpB, decide_eq_true_eq, decide_eq_false_iff_not, Bool.not_eq_true', Bool.not_eq_false', Bool.not_eq_eq_eq_not, Bool.not_true, Bool.not_false] at hg2'
      refine t_pass hg2 ?_
      refine t_pass hg2 ?_
      refine t_pass hg2 ?_
      refine t_pass hg2 ?_
      refine t_pass hg2 ?_
      refine t_pickt hg2 rfl rfl ?_
      refine t_assign rfl ?_
      refine t_end ?_
      refine nx_then ?_
      refine tr_cond rfl (fun hc3 => ?_) (fun hc3 => ?_)
      · refine tr_seq ?_
        refine tr_region (by rfl) ?_
        refine t_assign rfl ?_
        refine t_end ?_
        refine nx_then ?_
        refine tr_ret ?_
        refine rt_block ?_
        refine rt_then ?_
        exact rt_outM rfl (.tmp rfl .nil) rfl rfl
      · exact absurd hc3 (by decide)
    · exact absurd hg2 (by decide)
theorem c142  : FunO Laid Tryz.prog 142 [IsV (.string ByteArray.empty)] (boxS (rdr ByteArray.empty false) 290) (fun _ _ => True) := by
  refine funO_of 9 Tryz.func142 rfl rfl rfl fun w0 H hI => ?_
  refine tr_seq ?_
  refine tr_region (by rfl) ?_
  refine t_assign rfl ?_
  refine t_end ?_
  refine nx_then ?_
  refine tr_seq ?_
  refine tr_region (by rfl) ?_
  refine t_move rfl ?_
  refine t_move rfl ?_
  refine t_lens ti9.und rfl ?_
  refine t_cmp rfl rfl rfl ?_
  rw [show cmpB .gtr ((ByteArray.empty.size : Nat) : Int) 262144 = false from rfl]
  refine t_build (parts := [(0, .tmp 3), (1, .tmp 6)]) bi290 (.one rfl rfl (.one rfl rfl .nil)) rfl ?_
  refine t_boxA rfl ?_
  refine t_takea rfl ?_
  refine t_end ?_
  refine nx_then ?_
  refine tr_ret ?_
  exact rt_oneO rfl rfl
theorem c141  : Fun Laid Tryz.prog 141 [IsV (.string ByteArray.empty)] (Tup [IsV nilS, IsV (.int .i64 4)]) := by
  refine fun_of 17 Tryz.func141 rfl rfl rfl fun w0 H hI => ?_
  refine tr_seq ?_
  refine tr_region (by rfl) ?_
  refine t_assign rfl ?_
  refine t_assign rfl ?_
  refine t_end ?_
  refine nx_then ?_
  refine tr_seq ?_
  refine tr_region (by rfl) ?_
  refine t_move rfl ?_
  refine t_callO hI (c142) Tryz.func142 rfl ?_
  refine t_takea rfl ?_
  refine t_end ?_
  refine nx_then ?_
  refine tr_seq ?_
  refine tr_region (by rfl) ?_
  refine t_mvbox rfl ?_
  refine t_callM hI (c183) Tryz.func183 boxS_ptr rfl rfl rfl ?_
  refine t_assign rfl ?_
  refine t_end ?_
  refine nx_then ?_
  refine tr_seq ?_
  refine tr_seq ?_
  refine tr_region (by rfl) ?_
  refine t_mvbox rfl ?_
  refine t_callM hI (c146) Tryz.func146 boxS_ptr rfl rfl rfl ?_
  refine t_assign rfl ?_
  refine t_end ?_
  refine nx_then ?_
  refine tr_seq ?_
  refine tr_region (by rfl) ?_
  refine t_move rfl ?_
  refine t_cmp rfl rfl rfl ?_
  refine t_end ?_
  refine nx_then ?_
  refine tr_cond rfl (fun hc1 => ?_) (fun hc1 => ?_)
  · try simp only [cmpB, decide_eq_true_eq, decide_eq_false_iff_not, Bool.not_eq_true', Bool.not_eq_false', Bool.not_eq_eq_eq_not, Bool.not_true, Bool.not_false] at hc1
    refine tr_seq ?_
    refine tr_region (by rfl) ?_
    refine t_move rfl ?_
    refine t_assign rfl ?_
    refine t_assign rfl ?_
    refine t_end ?_
    refine nx_then ?_
    refine tr_ret ?_
    refine rt_then ?_
    exact rt_outs (rs := [.tmp 2, .tmp 3]) rfl rfl (.tmp rfl (.tmp rfl .nil))
  · exact absurd hc1 (by decide)
theorem c95  : Fun Laid Tryz.prog 95 [IsV (.string ByteArray.empty)] (Tup [IsV (aggS z84), IsV (.int .i64 4)]) := by
  refine fun_of 97 Tryz.func95 rfl rfl rfl fun w0 H hI => ?_
  refine tr_seq ?_
  refine tr_region (by rfl) ?_
  refine t_allocA zi84 ?_
  refine t_assign rfl ?_
  refine t_end ?_
  refine nx_then ?_
  refine tr_seq ?_
  refine tr_region (by rfl) ?_
  refine t_move rfl ?_
  refine t_call hI (c141) Tryz.func141 rfl ?_
  refine t_move rfl ?_
  refine t_extract rfl rfl ?_
  refine t_extract rfl rfl ?_
  refine t_assign rfl ?_
  refine t_assign rfl ?_
  refine t_end ?_
  refine nx_then ?_
  refine tr_seq ?_
  refine tr_seq ?_
  refine tr_region (by rfl) ?_
  refine t_move rfl ?_
  refine t_cmp rfl rfl rfl ?_
  refine t_move rfl ?_
  refine t_split 19 rfl (fun hg1 => ?_) (fun hg1 => ?_)
  · have hg1' := hg1
    try simp only [cmpB, decide_eq_true_eq, decide_eq_false_iff_not, Bool.not_eq_true', Bool.not_eq_false', Bool.not_eq_eq_eq_not, Bool.not_true, Bool.not_false] at hg1'
    refine t_pass hg1 ?_
    refine t_pass hg1 ?_
    refine t_pass hg1 ?_
    refine t_pickt hg1 rfl rfl ?_
    refine t_move rfl ?_
    refine t_pass rfl ?_
    refine t_pass rfl ?_
    refine t_pass rfl ?_
    refine t_pass rfl ?_
    refine t_pass rfl ?_
    refine t_pickt rfl rfl rfl ?_
    refine t_end ?_
    refine nx_then ?_
    refine tr_cond rfl (fun hc2 => ?_) (fun hc2 => ?_)
    · refine tr_seq ?_
      refine tr_region (by rfl) ?_
      refine t_build (parts := []) bi84 .nil rfl ?_
      refine t_storeA ti84 rfl rfl rfl rfl rfl ?_
      refine t_assign rfl ?_
      refine t_end ?_
      refine nx_then ?_
      refine tr_ret ?_
      refine rt_then ?_
      exact rt_outs (rs := [.cell 2 84, .tmp 3]) rfl rfl (.cell ti84 rfl rfl rfl (.tmp rfl .nil))
    · exact absurd hc2 (by decide)
  · exact absurd hg1 (by decide)
theorem c50  : Fun Laid Tryz.prog 50 [IsV (.string ByteArray.empty), IsV nilS] (Tup [IsV (.int .i64 0), IsV (.int .i64 4)]) := by
  refine fun_of 24 Tryz.func50 rfl rfl rfl fun w0 H hI => ?_
  refine tr_seq ?_
  refine tr_region (by rfl) ?_
  refine t_assign rfl ?_
  refine t_assign rfl ?_
  refine t_end ?_
  refine nx_then ?_
  refine tr_seq ?_
  refine tr_region (by rfl) ?_
  refine t_move rfl ?_
  refine t_call hI (c95) Tryz.func95 rfl ?_
  refine t_move rfl ?_
  refine t_extract rfl rfl ?_
  refine t_extract rfl rfl ?_
  refine t_allocA zi84 ?_
  refine t_storeA ti84 rfl rfl rfl rfl rfl ?_
  refine t_assign rfl ?_
  refine t_end ?_
  refine nx_then ?_
  refine tr_seq ?_
  refine tr_block ?_
  refine tr_seq ?_
  refine tr_region (by rfl) ?_
  refine t_move rfl ?_
  refine t_cmp rfl rfl rfl ?_
  refine t_assign rfl ?_
  refine t_end ?_
  refine nx_then ?_
  refine tr_cond rfl (fun hc1 => ?_) (fun hc1 => ?_)
  · try simp only [cmpB, decide_eq_true_eq, decide_eq_false_iff_not, Bool.not_eq_true', Bool.not_eq_false', Bool.not_eq_eq_eq_not, Bool.not_true, Bool.not_false] at hc1
    refine tr_seq ?_
    refine tr_region (by rfl) ?_
    refine t_move rfl ?_
    refine t_assign rfl ?_
    refine t_assign rfl ?_
    refine t_end ?_
    refine nx_then ?_
    refine tr_ret ?_
    refine rt_block ?_
    refine rt_then ?_
    exact rt_outs (rs := [.tmp 4, .tmp 5]) rfl rfl (.tmp rfl (.tmp rfl .nil))
  · exact absurd hc1 (by decide)
theorem c32N (n1 s1 : Nat) (h1 : Bytes 32) (g1 : ByteArray) (n2 s2 : Nat) (h2 : Bytes 32) (g2 : ByteArray) : Fun Laid Tryz.prog 32 [IsV (aggS (authS n1 s1 h1 g1)), IsV (aggS (authS n2 s2 h2 g2))] (IsV (aggS (forkN n1 s1 h1 g1 n2 s2 h2 g2))) := by
  refine fun_of 10 Tryz.func32 rfl rfl rfl fun w0 H hI => ?_
  refine tr_seq ?_
  refine tr_region (by rfl) ?_
  refine t_boxA rfl ?_
  refine t_boxA rfl ?_
  refine t_allocA zi84 ?_
  refine t_end ?_
  refine nx_then ?_
  refine tr_seq ?_
  refine tr_region (by rfl) ?_
  refine t_fld fi76_0 ti3 rfl ?_
  refine t_load ti3 rfl rfl rfl rfl rfl ?_
  refine t_load ti76 rfl rfl rfl rfl rfl ?_
  refine t_load ti76 rfl rfl rfl rfl rfl ?_
  refine t_build (parts := [(0, .const _), (1, .tmp 6), (2, .tmp 7), (3, .tmp 8)]) bi84 (.one rfl rfl (.one rfl rfl (.agg rfl (.agg rfl .nil)))) rfl ?_
  refine t_storeA ti84 rfl rfl rfl rfl rfl ?_
  refine t_end ?_
  refine nx_then ?_
  refine tr_ret ?_
  exact rt_out1 rfl (.cell ti84 rfl rfl rfl .nil)
theorem c26  : Fun Laid Tryz.prog 26 [] (IsV (.bool true)) := by
  refine fun_of 16 Tryz.func26 rfl rfl rfl fun w0 H hI => ?_
  refine tr_seq ?_
  refine tr_region (by rfl) ?_
  refine t_assign rfl ?_
  refine t_end ?_
  refine nx_then ?_
  refine tr_seq ?_
  refine tr_region (by rfl) ?_
  refine t_call hI (c50) Tryz.func50 rfl ?_
  refine t_move rfl ?_
  refine t_extract rfl rfl ?_
  refine t_extract rfl rfl ?_
  refine t_assign rfl ?_
  refine t_assign rfl ?_
  refine t_end ?_
  refine nx_then ?_
  refine tr_seq ?_
  refine tr_region (by rfl) ?_
  refine t_move rfl ?_
  refine t_cmp rfl rfl rfl ?_
  refine t_move rfl ?_
  refine t_split 9 rfl (fun hg1 => ?_) (fun hg1 => ?_)
  · have hg1' := hg1
    try simp only [cmpB, decide_eq_true_eq, decide_eq_false_iff_not, Bool.not_eq_true', Bool.not_eq_false', Bool.not_eq_eq_eq_not, Bool.not_true, Bool.not_false] at hg1'
    refine t_build (parts := [(0, .const _)]) bi76 (.one rfl rfl .nil) rfl ?_ (hg := ⟨_, _, rfl, rfl, hg1⟩)
    refine t_build (parts := []) bi76 .nil rfl ?_ (hg := ⟨_, _, rfl, rfl, hg1⟩)
    refine t_call hI (c32N 1 0 (z8 32) ByteArray.empty 0 0 (z8 32) ByteArray.empty) Tryz.func32 rfl ?_ (hg := ⟨_, _, rfl, rfl, hg1⟩)
    refine t_fieldV fi84_1 ti3 rfl rfl rfl rfl ?_ (hg := ⟨_, _, rfl, rfl, hg1⟩)
    refine t_cmp rfl rfl rfl ?_ (hg := ⟨_, _, rfl, rfl, hg1⟩)
    refine t_pickt hg1 rfl rfl ?_
    refine t_assign rfl ?_
    refine t_end ?_
    refine nx_then ?_
    refine tr_ret ?_
    exact rt_out1 rfl (.tmp rfl .nil)
  · exact absurd hg1 (by decide)
end Go.Eng
