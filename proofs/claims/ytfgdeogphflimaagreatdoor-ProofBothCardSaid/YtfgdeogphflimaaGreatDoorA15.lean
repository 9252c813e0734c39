/- Walks: forks judged, by the program and by the document. Printed by wip/tools/gen.py out of wip/proofs/A15.py. -/
import Derived.Test.YtfgdeogphflimaaGreatDoorA14
set_option linter.unusedVariables false
set_option linter.unusedSimpArgs false
set_option maxHeartbeats 8000000
namespace Go.Eng
open Go Go.Proofs
/-- Does a fork prove something? -/
def forkOk (root : Bytes 16) (h s1 : Nat) (h1 : Bytes 32) (g1 : ByteArray) (s2 : Nat) (h2 : Bytes 32) (g2 : ByteArray) : Bool := decide (s1 = s2) && (!decide (h1.1 = h2.1) && (okW root h s1 h1 g1 && okW root h s2 h2 g2))

theorem c31 (root : Bytes 16) (h s1 : Nat) (h1 : Bytes 32) (g1 : ByteArray) (s2 : Nat) (h2 : Bytes 32) (g2 : ByteArray) (hh : (1 ≤ h ∧ h ≤ 8) ∧ (1 ≤ s1 ∧ s1 ≤ 2 ^ h ∧ g1.size = 560 + 16 * h) ∧ (1 ≤ s2 ∧ s2 ≤ 2 ^ h ∧ g2.size = 560 + 16 * h)) : Fun Laid Tryz.prog 31 [IsV (aggS (forkS s1 h1 g1 s2 h2 g2)), NodesP root h] (IsV (.bool (forkOk root h s1 h1 g1 s2 h2 g2))) := by
  refine fun_of 111 Tryz.func31 rfl rfl rfl fun w0 H hI => ?_
  refine tr_seq ?_
  refine tr_region (by rfl) ?_
  refine t_boxA rfl ?_
  refine t_assign rfl ?_
  refine t_end ?_
  refine nx_then ?_
  refine tr_seq ?_
  refine tr_seq ?_
  refine tr_region (by rfl) ?_
  refine t_fld fi84_0 ti3 rfl ?_
  refine t_load ti3 rfl rfl rfl rfl rfl ?_
  refine t_end ?_
  refine nx_then ?_
  refine tr_block ?_
  refine tr_seq ?_
  refine tr_region (by rfl) ?_
  refine t_cmp rfl rfl rfl ?_
  refine t_assign rfl ?_
  refine t_end ?_
  refine nx_then ?_
  refine tr_cond rfl (fun hc1 => ?_) (fun hc1 => ?_)
  · try simp only [cmpB, decide_eq_true_eq, decide_eq_false_iff_not, Bool.not_eq_true', Bool.not_eq_false', Bool.not_eq_eq_eq_not, Bool.not_true, Bool.not_false] at hc1
    refine tr_seq ?_
    refine tr_region (by rfl) ?_
    refine t_fld fi84_2 ti76 rfl ?_
    refine t_fld fi76_1 ti3 rfl ?_
    refine t_load ti3 rfl rfl rfl rfl rfl ?_
    refine t_fld fi84_3 ti76 rfl ?_
    refine t_fld fi76_1 ti3 rfl ?_
    refine t_load ti3 rfl rfl rfl rfl rfl ?_
    refine t_cmp rfl rfl rfl ?_
    refine t_move rfl ?_
    refine t_split 18 rfl (fun hg2 => ?_) (fun hg2 => ?_)
    · have hg2' := hg2
      try simp only [cmpB, decide_eq_true_eq, decide_eq_false_iff_not, Bool.not_eq_true', Bool.not_eq_false', Bool.not_eq_eq_eq_not, Bool.not_true, Bool.not_false] at hg2'
      have hs := hg2'
      refine t_fld fi84_2 ti76 rfl ?_ (hg := ⟨_, _, rfl, rfl, hg2⟩)
      refine t_fld fi76_2 ti24 rfl ?_ (hg := ⟨_, _, rfl, rfl, hg2⟩)
      refine t_load ti24 rfl rfl rfl rfl rfl ?_ (hg := ⟨_, _, rfl, rfl, hg2⟩)
      refine t_fld fi84_3 ti76 rfl ?_ (hg := ⟨_, _, rfl, rfl, hg2⟩)
      refine t_fld fi76_2 ti24 rfl ?_ (hg := ⟨_, _, rfl, rfl, hg2⟩)
      refine t_load ti24 rfl rfl rfl rfl rfl ?_ (hg := ⟨_, _, rfl, rfl, hg2⟩)
      refine t_ane ai24 rfl rfl ?_ (hg := ⟨_, _, rfl, rfl, hg2⟩)
      refine t_pickt hg2 rfl rfl ?_
      refine t_move rfl ?_
      refine t_split 27 rfl (fun hg3 => ?_) (fun hg3 => ?_)
      · have hg3' := hg3
        try simp only [cmpB, decide_eq_true_eq, decide_eq_false_iff_not, Bool.not_eq_true', Bool.not_eq_false', Bool.not_eq_eq_eq_not, Bool.not_true, Bool.not_false] at hg3'
        have hn := hg3
        refine t_load ti84 rfl rfl rfl rfl rfl ?_ (hg := ⟨_, _, rfl, rfl, hg3⟩)
        refine t_move rfl ?_ (hg := ⟨_, _, rfl, rfl, hg3⟩)
        refine t_fld fi84_2 ti76 rfl ?_ (hg := ⟨_, _, rfl, rfl, hg3⟩)
        refine t_load ti76 rfl rfl rfl rfl rfl ?_ (hg := ⟨_, _, rfl, rfl, hg3⟩)
        refine t_fld fi84_3 ti76 rfl ?_ (hg := ⟨_, _, rfl, rfl, hg3⟩)
        refine t_load ti76 rfl rfl rfl rfl rfl ?_ (hg := ⟨_, _, rfl, rfl, hg3⟩)
        refine t_lit (parts := [(0, .tmp 31), (1, .tmp 33)]) ti214.und ti76 zi76 rfl rfl rfl rfl (.agg rfl (.agg rfl .nil)) rfl rfl ?_ (hg := ⟨_, _, rfl, rfl, hg3⟩)
        refine t_call hI (c77 _ _ _ _ _ _ _ _ hh) Tryz.func77 rfl ?_ (hg := ⟨_, _, rfl, rfl, hg3⟩)
        refine t_pickt hg3 rfl rfl ?_
        refine t_assign rfl ?_
        refine t_end ?_
        refine nx_then ?_
        refine tr_ret ?_
        refine rt_block ?_
        refine rt_then ?_
        rw [show forkOk root h s1 h1 g1 s2 h2 g2 = (okW root h s1 h1 g1 && okW root h s2 h2 g2) from by unfold forkOk; rw [hn, decide_eq_true (show s1 = s2 by omega)]; rfl]
        exact rt_out1 rfl (.tmp rfl .nil)
      · have hg3' := hg3
        try simp only [cmpB, decide_eq_true_eq, decide_eq_false_iff_not, Bool.not_eq_true', Bool.not_eq_false', Bool.not_eq_eq_eq_not, Bool.not_true, Bool.not_false] at hg3'
        have hn := hg3
        refine t_pass hg3 ?_
        refine t_pass hg3 ?_
        refine t_pass hg3 ?_
        refine t_pass hg3 ?_
        refine t_pass hg3 ?_
        refine t_pass hg3 ?_
        refine t_pass hg3 ?_
        refine t_pass hg3 ?_
        refine t_pickf hg3 rfl rfl ?_
        refine t_assign rfl ?_
        refine t_end ?_
        refine nx_then ?_
        refine tr_ret ?_
        refine rt_block ?_
        refine rt_then ?_
        rw [show forkOk root h s1 h1 g1 s2 h2 g2 = false from by unfold forkOk; rw [hn]; simp]
        exact rt_out1 rfl (.tmp rfl .nil)
    · have hg2' := hg2
      try simp only [cmpB, decide_eq_true_eq, decide_eq_false_iff_not, Bool.not_eq_true', Bool.not_eq_false', Bool.not_eq_eq_eq_not, Bool.not_true, Bool.not_false] at hg2'
      have hs := hg2'
      refine t_pass hg2 ?_
      refine t_pass hg2 ?_
      refine t_pass hg2 ?_
      refine t_pass hg2 ?_
      refine t_pass hg2 ?_
      refine t_pass hg2 ?_
      refine t_pass hg2 ?_
      refine t_pickf hg2 rfl rfl ?_
      refine t_move rfl ?_
      refine t_pass rfl ?_
      refine t_pass rfl ?_
      refine t_pass rfl ?_
      refine t_pass rfl ?_
      refine t_pass rfl ?_
      refine t_pass rfl ?_
      refine t_pass rfl ?_
      refine t_pass rfl ?_
      refine t_pickf rfl rfl rfl ?_
      refine t_assign rfl ?_
      refine t_end ?_
      refine nx_then ?_
      refine tr_ret ?_
      refine rt_block ?_
      refine rt_then ?_
      rw [show forkOk root h s1 h1 g1 s2 h2 g2 = false from by unfold forkOk; rw [decide_eq_false (show ¬ s1 = s2 by omega)]; rfl]
      exact rt_out1 rfl (.tmp rfl .nil)
  · try simp only [cmpB, decide_eq_true_eq, decide_eq_false_iff_not, Bool.not_eq_true', Bool.not_eq_false', Bool.not_eq_eq_eq_not, Bool.not_true, Bool.not_false] at hc1
    exact absurd hc1 (by decide)
theorem c33 (root : Bytes 16) (h s1 : Nat) (h1 : Bytes 32) (g1 : ByteArray) (s2 : Nat) (h2 : Bytes 32) (g2 : ByteArray) (hh : (1 ≤ h ∧ h ≤ 8) ∧ (1 ≤ s1 ∧ s1 ≤ 2 ^ h ∧ g1.size = 560 + 16 * h) ∧ (1 ≤ s2 ∧ s2 ≤ 2 ^ h ∧ g2.size = 560 + 16 * h)) : Fun Laid Tryz.prog 33 [IsV (aggS (forkS s1 h1 g1 s2 h2 g2)), NodesP root h] (IsV (.bool (forkOk root h s1 h1 g1 s2 h2 g2))) := by
  refine fun_of 150 Tryz.func33 rfl rfl rfl fun w0 H hI => ?_
  refine tr_seq ?_
  refine tr_region (by rfl) ?_
  refine t_boxA rfl ?_
  refine t_assign rfl ?_
  refine t_end ?_
  refine nx_then ?_
  refine tr_seq ?_
  refine tr_region (by rfl) ?_
  refine t_fld fi84_5 ti37 rfl ?_
  refine t_load ti37 rfl rfl rfl rfl rfl ?_
  refine t_len (n := 0) ti37.und (fun v w h => ⟨none, 0, h⟩) rfl ?_
  refine t_assign rfl ?_
  refine t_end ?_
  refine nx_then ?_
  refine tr_seq ?_
  refine tr_seq ?_
  refine tr_region (by rfl) ?_
  refine t_fld fi84_0 ti3 rfl ?_
  refine t_load ti3 rfl rfl rfl rfl rfl ?_
  refine t_cmp rfl rfl rfl ?_
  refine t_end ?_
  refine nx_then ?_
  refine tr_cond rfl (fun hc1 => ?_) (fun hc1 => ?_)
  · try simp only [cmpB, decide_eq_true_eq, decide_eq_false_iff_not, Bool.not_eq_true', Bool.not_eq_false', Bool.not_eq_eq_eq_not, Bool.not_true, Bool.not_false] at hc1
    refine tr_seq ?_
    refine tr_region (by rfl) ?_
    refine t_load ti84 rfl rfl rfl rfl rfl ?_
    refine t_fld fi84_2 ti76 rfl ?_
    refine t_load ti76 rfl rfl rfl rfl rfl ?_
    refine t_move rfl ?_
    refine t_call hI (c79 _ _ _ _ _ _ _ _ _ _ _ ⟨hh.1.1, hh.1.2, hh.2.1.1, hh.2.1.2.1, hh.2.1.2.2⟩) Tryz.func79 rfl ?_
    refine t_move rfl ?_
    refine t_split 21 rfl (fun hg2 => ?_) (fun hg2 => ?_)
    · have hg2' := hg2
      try simp only [cmpB, decide_eq_true_eq, decide_eq_false_iff_not, Bool.not_eq_true', Bool.not_eq_false', Bool.not_eq_eq_eq_not, Bool.not_true, Bool.not_false] at hg2'
      have ho1 := hg2
      refine t_load ti84 rfl rfl rfl rfl rfl ?_ (hg := ⟨_, _, rfl, rfl, hg2⟩)
      refine t_fld fi84_3 ti76 rfl ?_ (hg := ⟨_, _, rfl, rfl, hg2⟩)
      refine t_load ti76 rfl rfl rfl rfl rfl ?_ (hg := ⟨_, _, rfl, rfl, hg2⟩)
      refine t_move rfl ?_ (hg := ⟨_, _, rfl, rfl, hg2⟩)
      refine t_call hI (c79 _ _ _ _ _ _ _ _ _ _ _ ⟨hh.1.1, hh.1.2, hh.2.2.1, hh.2.2.2.1, hh.2.2.2.2⟩) Tryz.func79 rfl ?_ (hg := ⟨_, _, rfl, rfl, hg2⟩)
      refine t_pickt hg2 rfl rfl ?_
      refine t_move rfl ?_
      refine t_split 28 rfl (fun hg3 => ?_) (fun hg3 => ?_)
      · have hg3' := hg3
        try simp only [cmpB, decide_eq_true_eq, decide_eq_false_iff_not, Bool.not_eq_true', Bool.not_eq_false', Bool.not_eq_eq_eq_not, Bool.not_true, Bool.not_false] at hg3'
        have ho2 := hg3
        refine t_fld fi84_2 ti76 rfl ?_ (hg := ⟨_, _, rfl, rfl, hg3⟩)
        refine t_fld fi76_1 ti3 rfl ?_ (hg := ⟨_, _, rfl, rfl, hg3⟩)
        refine t_load ti3 rfl rfl rfl rfl rfl ?_ (hg := ⟨_, _, rfl, rfl, hg3⟩)
        refine t_fld fi84_3 ti76 rfl ?_ (hg := ⟨_, _, rfl, rfl, hg3⟩)
        refine t_fld fi76_1 ti3 rfl ?_ (hg := ⟨_, _, rfl, rfl, hg3⟩)
        refine t_load ti3 rfl rfl rfl rfl rfl ?_ (hg := ⟨_, _, rfl, rfl, hg3⟩)
        refine t_cmp rfl rfl rfl ?_ (hg := ⟨_, _, rfl, rfl, hg3⟩)
        refine t_pickt hg3 rfl rfl ?_
        refine t_move rfl ?_
        refine t_split 37 rfl (fun hg4 => ?_) (fun hg4 => ?_)
        · have hg4' := hg4
          try simp only [cmpB, decide_eq_true_eq, decide_eq_false_iff_not, Bool.not_eq_true', Bool.not_eq_false', Bool.not_eq_eq_eq_not, Bool.not_true, Bool.not_false] at hg4'
          have hs := hg4'
          refine t_fld fi84_2 ti76 rfl ?_ (hg := ⟨_, _, rfl, rfl, hg4⟩)
          refine t_fld fi76_2 ti24 rfl ?_ (hg := ⟨_, _, rfl, rfl, hg4⟩)
          refine t_load ti24 rfl rfl rfl rfl rfl ?_ (hg := ⟨_, _, rfl, rfl, hg4⟩)
          refine t_fld fi84_3 ti76 rfl ?_ (hg := ⟨_, _, rfl, rfl, hg4⟩)
          refine t_fld fi76_2 ti24 rfl ?_ (hg := ⟨_, _, rfl, rfl, hg4⟩)
          refine t_load ti24 rfl rfl rfl rfl rfl ?_ (hg := ⟨_, _, rfl, rfl, hg4⟩)
          refine t_ane ai24 rfl rfl ?_ (hg := ⟨_, _, rfl, rfl, hg4⟩)
          refine t_pickt hg4 rfl rfl ?_
          refine t_assign rfl ?_
          refine t_end ?_
          refine nx_then ?_
          refine tr_ret ?_
          refine rt_then ?_
          rw [show forkOk root h s1 h1 g1 s2 h2 g2 = !decide (h1.1 = h2.1) from by unfold forkOk; rw [ho1, ho2, decide_eq_true (show s1 = s2 by omega)]; simp]
          exact rt_out1 rfl (.tmp rfl .nil)
        · have hg4' := hg4
          try simp only [cmpB, decide_eq_true_eq, decide_eq_false_iff_not, Bool.not_eq_true', Bool.not_eq_false', Bool.not_eq_eq_eq_not, Bool.not_true, Bool.not_false] at hg4'
          have hs := hg4'
          refine t_pass hg4 ?_
          refine t_pass hg4 ?_
          refine t_pass hg4 ?_
          refine t_pass hg4 ?_
          refine t_pass hg4 ?_
          refine t_pass hg4 ?_
          refine t_pass hg4 ?_
          refine t_pickf hg4 rfl rfl ?_
          refine t_assign rfl ?_
          refine t_end ?_
          refine nx_then ?_
          refine tr_ret ?_
          refine rt_then ?_
          rw [show forkOk root h s1 h1 g1 s2 h2 g2 = false from by unfold forkOk; rw [decide_eq_false (show ¬ s1 = s2 by omega)]; rfl]
          exact rt_out1 rfl (.tmp rfl .nil)
      · have hg3' := hg3
        try simp only [cmpB, decide_eq_true_eq, decide_eq_false_iff_not, Bool.not_eq_true', Bool.not_eq_false', Bool.not_eq_eq_eq_not, Bool.not_true, Bool.not_false] at hg3'
        have ho2 := hg3
        refine t_pass hg3 ?_
        refine t_pass hg3 ?_
        refine t_pass hg3 ?_
        refine t_pass hg3 ?_
        refine t_pass hg3 ?_
        refine t_pass hg3 ?_
        refine t_pass hg3 ?_
        refine t_pickf hg3 rfl rfl ?_
        refine t_move rfl ?_
        refine t_pass rfl ?_
        refine t_pass rfl ?_
        refine t_pass rfl ?_
        refine t_pass rfl ?_
        refine t_pass rfl ?_
        refine t_pass rfl ?_
        refine t_pass rfl ?_
        refine t_pickf rfl rfl rfl ?_
        refine t_assign rfl ?_
        refine t_end ?_
        refine nx_then ?_
        refine tr_ret ?_
        refine rt_then ?_
        rw [show forkOk root h s1 h1 g1 s2 h2 g2 = false from by unfold forkOk; rw [ho2]; simp]
        exact rt_out1 rfl (.tmp rfl .nil)
    · have hg2' := hg2
      try simp only [cmpB, decide_eq_true_eq, decide_eq_false_iff_not, Bool.not_eq_true', Bool.not_eq_false', Bool.not_eq_eq_eq_not, Bool.not_true, Bool.not_false] at hg2'
      have ho1 := hg2
      refine t_pass hg2 ?_
      refine t_pass hg2 ?_
      refine t_pass hg2 ?_
      refine t_pass hg2 ?_
      refine t_pass hg2 ?_
      refine t_pickf hg2 rfl rfl ?_
      refine t_move rfl ?_
      refine t_pass rfl ?_
      refine t_pass rfl ?_
      refine t_pass rfl ?_
      refine t_pass rfl ?_
      refine t_pass rfl ?_
      refine t_pass rfl ?_
      refine t_pass rfl ?_
      refine t_pickf rfl rfl rfl ?_
      refine t_move rfl ?_
      refine t_pass rfl ?_
      refine t_pass rfl ?_
      refine t_pass rfl ?_
      refine t_pass rfl ?_
      refine t_pass rfl ?_
      refine t_pass rfl ?_
      refine t_pass rfl ?_
      refine t_pickf rfl rfl rfl ?_
      refine t_assign rfl ?_
      refine t_end ?_
      refine nx_then ?_
      refine tr_ret ?_
      refine rt_then ?_
      rw [show forkOk root h s1 h1 g1 s2 h2 g2 = false from by unfold forkOk; rw [ho1]; simp]
      exact rt_out1 rfl (.tmp rfl .nil)
  · try simp only [cmpB, decide_eq_true_eq, decide_eq_false_iff_not, Bool.not_eq_true', Bool.not_eq_false', Bool.not_eq_eq_eq_not, Bool.not_true, Bool.not_false] at hc1
    exact absurd hc1 (by decide)
end Go.Eng
