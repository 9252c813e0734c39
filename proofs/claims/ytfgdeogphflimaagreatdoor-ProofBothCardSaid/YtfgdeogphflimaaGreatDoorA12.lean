/- Walks: signatures verified. Printed by wip/tools/gen.py out of wip/proofs/A12.py. -/
import Derived.Test.YtfgdeogphflimaaGreatDoorA11
set_option linter.unusedVariables false
set_option linter.unusedSimpArgs false
set_option maxHeartbeats 4000000
namespace Go.Eng
open Go Go.Proofs
def kText : ByteArray := ⟨#[116, 101, 120, 116]⟩
def digestB (root : Bytes 16) (i : Nat) (text : ByteArray) : Bytes 16 := cutB (sumB kText [root.1, numB i, text])
def sigPath (sig : ByteArray) : Nat → List (Bytes 16)
  | 0 => []
  | k + 1 => sigPath sig k ++ [elemAt sig (560 + 16 * k)]
theorem sigPath_length (sig : ByteArray) : ∀ k, (sigPath sig k).length = k
  | 0 => rfl
  | k + 1 => by rw [sigPath, List.length_append, sigPath_length sig k]; rfl
def verX (root : Bytes 16) (h i : Nat) (text sig : ByteArray) : Bytes 16 := climbN (meetB (sig.extract 0 560) i (digestB root i text)) i (sigPath sig h) (sigPath sig h).length
def verB (root : Bytes 16) (h i : Nat) (text sig : ByteArray) : Bool := decide ((verX root h i text sig).1 = root.1)
abbrev nodeS (root : Bytes 16) (h : Nat) : Segs := [sgB root, sg1 (NV h)]
theorem run_pow {P : Program} {T : TypeId} {j : IntKind} {h : Nat} (hh : h ≤ 62) (w : World) : (binOp .shl T (.int .i64 1) (.int j (h : Int))).run P w = .ok (NV (2 ^ h)) w := by
  have hb := Nat.pow_le_pow_right (n := 2) (by decide) hh
  have e : (1 : Int) * 2 ^ (h : Int).toNat = ((2 ^ h : Nat) : Int) := by simp
  have := run_shlN (P := P) (T := T) (k := .i64) (j := j) (m := 1) (n := (h : Int)) ⟨by omega, by show (h : Int) ≤ ((64 : Nat) : Int); omega⟩ (by rw [e]; exact natK (by simp at hb; omega)) w
  rw [this, e]

theorem c73 (root : Bytes 16) (i : Nat) (text : ByteArray) (hh : i < 4611686018427387904 ∧ text.size ≤ 1099511627776) : Fun Laid Tryz.prog 73 [IsV (aggS [sgB root]), IsV (.int .i64 i), IsV (.string text)] (IsV (aggS [sgB (digestB root i text)])) := by
  refine fun_of 15 Tryz.func73 rfl rfl rfl fun w0 H hI => ?_
  have hn_i := numB_size (n := i) (by omega)
  have hr := root.2
  refine tr_seq ?_
  refine tr_region (by rfl) ?_
  refine t_boxA rfl ?_
  refine t_allocA zi71 ?_
  refine t_end ?_
  refine nx_then ?_
  refine tr_seq ?_
  refine tr_region_any mixed (by rfl) ?_
  refine t_slarr ti71 ti5 rfl rfl ?_
  refine t_strBoxB ti86.und ti5.und ti9.und rfl rfl rfl rfl rfl ?_
  refine t_move rfl ?_
  refine t_call hI (c76 _ (by omega)) Tryz.func76 rfl ?_
  refine t_move rfl ?_
  refine t_litS (parts := [(0, .tmp 8), (1, .tmp 10), (2, .tmp 11)]) ti142.und ti9 zi9 (.cons rfl rfl (.cons rfl rfl (.cons rfl rfl .nil))) 3 rfl rfl rfl ?_
  refine t_call hI (c112 _ _ (small3 (by decide) (by omega))) Tryz.func112 rfl ?_
  refine t_call hI (c124 _) Tryz.func124 rfl ?_
  refine t_storeA ti71 rfl rfl rfl rfl rfl ?_
  refine t_end_any ?_ (by kernel_rfl)
  refine nx_then ?_
  refine tr_ret ?_
  exact rt_out1 rfl (.cell ti71 rfl rfl rfl .nil)
theorem c208 (root : Bytes 16) (i : Nat) (text : ByteArray) (hh : i < 4611686018427387904 ∧ text.size ≤ 1099511627776) : Fun Laid Tryz.prog 208 [IsV (aggS [sgB root]), IsV (.int .i64 i), IsV (.string text)] (IsV (aggS [sgB (digestB root i text)])) := by
  refine fun_of 16 Tryz.func208 rfl rfl rfl fun w0 H hI => ?_
  have hn_i := numB_size (n := i) (by omega)
  have hr := root.2
  refine tr_seq ?_
  refine tr_region (by rfl) ?_
  refine t_boxA rfl ?_
  refine t_allocA zi71 ?_
  refine t_end ?_
  refine nx_then ?_
  refine tr_seq ?_
  refine tr_region_any mixed (by rfl) ?_
  refine t_slarr ti71 ti5 rfl rfl ?_
  refine t_strBoxB ti86.und ti5.und ti9.und rfl rfl rfl rfl rfl ?_
  refine t_move rfl ?_
  refine t_max rfl rfl ?_
  rw [show max (i : Int) 0 = (i : Int) by omega]
  refine t_call hI (c150 _ (by omega)) Tryz.func150 rfl ?_
  refine t_move rfl ?_
  refine t_litS (parts := [(0, .tmp 8), (1, .tmp 11), (2, .tmp 12)]) ti142.und ti9 zi9 (.cons rfl rfl (.cons rfl rfl (.cons rfl rfl .nil))) 3 rfl rfl rfl ?_
  refine t_call hI (c227 _ _ (small3 (by decide) (by omega))) Tryz.func227 rfl ?_
  refine t_call hI (c231 _) Tryz.func231 rfl ?_
  refine t_storeA ti71 rfl rfl rfl rfl rfl ?_
  refine t_end_any ?_ (by kernel_rfl)
  refine nx_then ?_
  refine tr_ret ?_
  exact rt_out1 rfl (.cell ti71 rfl rfl rfl .nil)
theorem c203 (h : Nat) (hh : h ≤ 8) : Fun Laid Tryz.prog 203 [IsV (.int .i64 h)] (IsV (.int .i64 (560 + 16 * (h : Int)))) := by
  refine fun_of 6 Tryz.func203 rfl rfl rfl fun w0 H hI => ?_
  refine tr_seq ?_
  refine tr_region (by rfl) ?_
  refine t_assign rfl ?_
  refine t_end ?_
  refine nx_then ?_
  refine tr_seq ?_
  refine tr_region (by rfl) ?_
  refine t_move rfl ?_
  refine t_mul rfl rfl (by omega) ?_
  refine t_add rfl rfl (by omega) ?_
  refine t_assign rfl ?_
  refine t_end ?_
  refine nx_then ?_
  refine tr_ret ?_
  exact rt_out1 rfl (.tmp rfl .nil)
theorem c171 (root : Bytes 16) (h i : Nat) (text sig : ByteArray) (hh : 1 ≤ h ∧ h ≤ 8 ∧ i < 2 ^ h ∧ sig.size = 560 + 16 * h ∧ text.size ≤ 1099511627776) : Fun Laid Tryz.prog 171 [IsV (aggS (nodeS root h)), IsV (.int .i64 i), IsV (.string text), IsV (.string sig)] (IsV (.bool (verB root h i text sig))) := by
  refine fun_of 80 Tryz.func171 rfl rfl rfl fun w0 H hI => ?_
  have hp8 := pow_le hh.2.1
  have hex : (sig.extract 0 560).size = 560 := by rw [ByteArray.size_extract]; omega
  refine tr_seq ?_
  refine tr_region (by rfl) ?_
  refine t_boxA rfl ?_
  refine t_assign rfl ?_
  refine t_end ?_
  refine nx_then ?_
  refine tr_seq ?_
  refine tr_seq ?_
  refine tr_region (by rfl) ?_
  refine t_fld fi73_1 ti3 rfl ?_
  refine t_load ti3 rfl rfl rfl rfl rfl ?_
  refine t_cmp rfl rfl rfl ?_
  refine t_move rfl ?_
  refine t_split 17 rfl (fun hg1 => ?_) (fun hg1 => ?_)
  · have hg1' := hg1
    try simp only [cmpB, decide_eq_true_eq, decide_eq_false_iff_not, Bool.not_eq_true', Bool.not_eq_false', Bool.not_eq_eq_eq_not, Bool.not_true, Bool.not_false] at hg1'
    exact absurd hg1' (by omega)
  · have hg1' := hg1
    try simp only [cmpB, decide_eq_true_eq, decide_eq_false_iff_not, Bool.not_eq_true', Bool.not_eq_false', Bool.not_eq_eq_eq_not, Bool.not_true, Bool.not_false] at hg1'
    refine t_fld fi73_1 ti3 rfl ?_ (hg := ⟨_, _, rfl, rfl, hg1⟩)
    refine t_load ti3 rfl rfl rfl rfl rfl ?_ (hg := ⟨_, _, rfl, rfl, hg1⟩)
    refine t_cmp rfl rfl rfl ?_ (hg := ⟨_, _, rfl, rfl, hg1⟩)
    refine t_pickf hg1 rfl rfl ?_
    refine t_move rfl ?_
    refine t_split 22 rfl (fun hg2 => ?_) (fun hg2 => ?_)
    · have hg2' := hg2
      try simp only [cmpB, decide_eq_true_eq, decide_eq_false_iff_not, Bool.not_eq_true', Bool.not_eq_false', Bool.not_eq_eq_eq_not, Bool.not_true, Bool.not_false] at hg2'
      exact absurd hg2' (by omega)
    · have hg2' := hg2
      try simp only [cmpB, decide_eq_true_eq, decide_eq_false_iff_not, Bool.not_eq_true', Bool.not_eq_false', Bool.not_eq_eq_eq_not, Bool.not_true, Bool.not_false] at hg2'
      refine t_move rfl ?_ (hg := ⟨_, _, rfl, rfl, hg2⟩)
      refine t_cmp rfl rfl rfl ?_ (hg := ⟨_, _, rfl, rfl, hg2⟩)
      refine t_pickf hg2 rfl rfl ?_
      refine t_move rfl ?_
      refine t_split 26 rfl (fun hg3 => ?_) (fun hg3 => ?_)
      · have hg3' := hg3
        try simp only [cmpB, decide_eq_true_eq, decide_eq_false_iff_not, Bool.not_eq_true', Bool.not_eq_false', Bool.not_eq_eq_eq_not, Bool.not_true, Bool.not_false] at hg3'
        exact absurd hg3' (by omega)
      · have hg3' := hg3
        try simp only [cmpB, decide_eq_true_eq, decide_eq_false_iff_not, Bool.not_eq_true', Bool.not_eq_false', Bool.not_eq_eq_eq_not, Bool.not_true, Bool.not_false] at hg3'
        refine t_move rfl ?_ (hg := ⟨_, _, rfl, rfl, hg3⟩)
        refine t_fld fi73_1 ti3 rfl ?_ (hg := ⟨_, _, rfl, rfl, hg3⟩)
        refine t_load ti3 rfl rfl rfl rfl rfl ?_ (hg := ⟨_, _, rfl, rfl, hg3⟩)
        refine t_int .shl _ (run_pow (by omega)) rfl rfl ?_ (hg := ⟨_, _, rfl, rfl, hg3⟩)
        refine t_cmp rfl rfl rfl ?_ (hg := ⟨_, _, rfl, rfl, hg3⟩)
        refine t_pickf hg3 rfl rfl ?_
        refine t_move rfl ?_
        refine t_split 33 rfl (fun hg4 => ?_) (fun hg4 => ?_)
        · have hg4' := hg4
          try simp only [cmpB, decide_eq_true_eq, decide_eq_false_iff_not, Bool.not_eq_true', Bool.not_eq_false', Bool.not_eq_eq_eq_not, Bool.not_true, Bool.not_false] at hg4'
          exact absurd hg4' (by omega)
        · have hg4' := hg4
          try simp only [cmpB, decide_eq_true_eq, decide_eq_false_iff_not, Bool.not_eq_true', Bool.not_eq_false', Bool.not_eq_eq_eq_not, Bool.not_true, Bool.not_false] at hg4'
          refine t_move rfl ?_ (hg := ⟨_, _, rfl, rfl, hg4⟩)
          refine t_lens ti9.und rfl ?_ (hg := ⟨_, _, rfl, rfl, hg4⟩)
          refine t_fld fi73_1 ti3 rfl ?_ (hg := ⟨_, _, rfl, rfl, hg4⟩)
          refine t_load ti3 rfl rfl rfl rfl rfl ?_ (hg := ⟨_, _, rfl, rfl, hg4⟩)
          refine t_call hI (c203 _ (by omega)) Tryz.func203 rfl ?_ (hg := ⟨_, _, rfl, rfl, hg4⟩)
          refine t_cmp rfl rfl rfl ?_ (hg := ⟨_, _, rfl, rfl, hg4⟩)
          refine t_pickf hg4 rfl rfl ?_
          refine t_end ?_
          refine nx_then ?_
          refine tr_cond rfl (fun hc5 => ?_) (fun hc5 => ?_)
          · try simp only [cmpB, decide_eq_true_eq, decide_eq_false_iff_not, Bool.not_eq_true', Bool.not_eq_false', Bool.not_eq_eq_eq_not, Bool.not_true, Bool.not_false] at hc5
            exact absurd hc5 (by omega)
          · try simp only [cmpB, decide_eq_true_eq, decide_eq_false_iff_not, Bool.not_eq_true', Bool.not_eq_false', Bool.not_eq_eq_eq_not, Bool.not_true, Bool.not_false] at hc5
            refine tr_skip ?_
            refine nx_then ?_
            refine tr_seq ?_
            refine tr_region_any mixed (by rfl) ?_
            refine t_move rfl ?_
            refine t_scut 0 560 ti9.und rfl rfl ⟨_, rfl⟩ (by decide) (by omega) ?_
            refine t_move rfl ?_
            refine t_fld fi73_0 ti71 rfl ?_
            refine t_load ti71 rfl rfl rfl rfl rfl ?_
            refine t_move rfl ?_
            refine t_move rfl ?_
            refine t_call hI (c73 _ _ _ (by omega)) Tryz.func73 rfl ?_
            refine t_call hI (c204 _ _ _ (by omega)) Tryz.func204 rfl ?_
            refine t_move rfl ?_
            refine t_extract rfl rfl ?_
            refine t_extract rfl rfl ?_
            refine t_allocA zi71 ?_
            refine t_storeA ti71 rfl rfl rfl rfl rfl ?_
            refine t_assign rfl ?_
            refine t_end_any ?_ (by kernel_rfl)
            refine nx_then ?_
            refine tr_seq ?_
            refine tr_region (by rfl) ?_
            refine t_nil (sz := 16) ?_
            refine t_end ?_
            refine nx_then ?_
            refine tr_seq ?_
            refine tr_seq ?_
            refine tr_region (by rfl) ?_
            refine t_fld fi73_1 ti3 rfl ?_
            refine t_load ti3 rfl rfl rfl rfl rfl ?_
            refine t_move rfl ?_
            refine t_end ?_
            refine nx_then ?_
            refine tr_block ?_
            refine tr_loop (σ := Nat) (fun k => k ≤ h) (fun k => [(4, some (boxS (nodeS root h) 73)), (9, some (boxS [sgB (meetB (sig.extract 0 560) i (digestB root i text))] 71)), (11, some (rowL (sigPath sig k)))]) (fun k => [(1, EqV (.int .i64 i)), (3, EqV (.string sig)), (4, .ptr 4 0), (9, .ptr 9 0), (54, EqV (NV h)), (55, EqV (.int .i64 (k : Int)))]) (fun k => h - k) 0 (by omega) (st_is [4, 9, 11] [1, 3, 4, 9, 54, 55] rfl rfl rfl) (fun k hp => ?_)
            try dsimp only
            have hpl := sigPath_length sig k
            refine tr_seq ?_
            refine tr_region (by rfl) ?_
            refine t_cmp rfl rfl rfl ?_
            refine t_end ?_
            refine nx_then ?_
            refine tr_seq ?_
            refine tr_cond rfl (fun hc6 => ?_) (fun hc6 => ?_)
            · try simp only [cmpB, decide_eq_true_eq, decide_eq_false_iff_not, Bool.not_eq_true', Bool.not_eq_false', Bool.not_eq_eq_eq_not, Bool.not_true, Bool.not_false] at hc6
              refine tr_skip ?_
              refine nx_then ?_
              refine tr_seq ?_
              refine tr_block ?_
              refine tr_seq ?_
              refine tr_region (by rfl) ?_
              refine t_move rfl ?_
              refine t_assign rfl ?_
              refine t_end ?_
              refine nx_then ?_
              refine tr_seq ?_
              refine tr_region (by rfl) ?_
              refine t_move rfl ?_
              refine t_mul rfl rfl (by omega) ?_
              refine t_add rfl rfl (by omega) ?_
              refine t_assign rfl ?_
              refine t_end ?_
              refine nx_then ?_
              refine tr_region (by rfl) ?_
              refine t_take rfl ?_
              refine t_move rfl ?_
              refine t_move rfl ?_
              refine t_move rfl ?_
              refine t_add rfl rfl (by omega) ?_
              refine t_scut (560 + 16 * k) (560 + 16 * k + 16) ti9.und rfl ⟨_, rfl⟩ ⟨_, rfl⟩ (by omega) (by omega) ?_
              have hes := ext_size (s := sig) (o := 560 + 16 * k) (by omega)
              refine t_bytesD ti9.und ti86.und ti5.und rfl (by simp only [maxLen]; omega) ?_
              refine t_s2ap (N := 16) ti71.und rfl (by decide) (by omega) (elem_cells (by omega)) ?_
              refine t_loadRA ti71 rfl rfl ?_
              refine t_lit (parts := [(0, .tmp 69)]) ti154.und ti71 zi71 rfl rfl rfl rfl (.agg rfl .nil) rfl rfl ?_
              refine t_append ti154.und ti71 zi71 rfl rfl rfl (src_data ti154.und (cellsE_one _) rfl) (by omega) (rowL_push _ _ _) ?_
              refine t_takea rfl ?_
              refine t_end ?_
              refine nx_block ?_
              refine nx_then ?_
              refine tr_region (by rfl) ?_
              refine t_add rfl rfl (by omega) ?_
              refine t_move rfl ?_
              refine t_end ?_
              exact nx_loop (k + 1) (by omega) (by omega) (st_is [4, 9, 11] [1, 3, 4, 9, 54, 55] rfl rfl rfl)
            · try simp only [cmpB, decide_eq_true_eq, decide_eq_false_iff_not, Bool.not_eq_true', Bool.not_eq_false', Bool.not_eq_eq_eq_not, Bool.not_true, Bool.not_false] at hc6
              refine tr_exit ?_
              refine xt_then ?_
              refine xt_loop ?_
              refine xt_hit ?_
              refine nx_then ?_
              refine tr_seq ?_
              obtain rfl : k = h := by omega
              refine tr_freezeR 11 rfl ?_
              refine tr_region_any mixed (by rfl) ?_
              refine t_load ti71 rfl rfl rfl rfl rfl ?_
              refine t_move rfl ?_
              refine t_move rfl ?_
              refine t_call hI (c205 _ _ _ (by omega)) Tryz.func205 rfl ?_
              refine t_fld fi73_0 ti71 rfl ?_
              refine t_load ti71 rfl rfl rfl rfl rfl ?_
              refine t_aeq ai71 rfl rfl ?_
              refine t_assign rfl ?_
              refine t_end_any ?_ (by kernel_rfl)
              refine nx_then ?_
              refine tr_ret ?_
              exact rt_out1 rfl (.tmp rfl .nil)
theorem c172 (root : Bytes 16) (h i : Nat) (text sig : ByteArray) (hh : 1 ≤ h ∧ h ≤ 8 ∧ i < 2 ^ h ∧ sig.size = 560 + 16 * h ∧ text.size ≤ 1099511627776) : Fun Laid Tryz.prog 172 [IsV (aggS (nodeS root h)), IsV (.int .i64 i), IsV (.string text), IsV (.string sig)] (IsV (.bool (verB root h i text sig))) := by
  refine fun_of 75 Tryz.func172 rfl rfl rfl fun w0 H hI => ?_
  have hp8 := pow_le hh.2.1
  have hex : (sig.extract 0 560).size = 560 := by rw [ByteArray.size_extract]; omega
  refine tr_seq ?_
  refine tr_region (by rfl) ?_
  refine t_boxA rfl ?_
  refine t_assign rfl ?_
  refine t_end ?_
  refine nx_then ?_
  refine tr_seq ?_
  refine tr_seq ?_
  refine tr_region (by rfl) ?_
  refine t_move rfl ?_
  refine t_cmp rfl rfl rfl ?_
  refine t_move rfl ?_
  refine t_split 17 rfl (fun hg1 => ?_) (fun hg1 => ?_)
  · have hg1' := hg1
    try simp only [cmpB, decide_eq_true_eq, decide_eq_false_iff_not, Bool.not_eq_true', Bool.not_eq_false', Bool.not_eq_eq_eq_not, Bool.not_true, Bool.not_false] at hg1'
    exact absurd hg1' (by omega)
  · have hg1' := hg1
    try simp only [cmpB, decide_eq_true_eq, decide_eq_false_iff_not, Bool.not_eq_true', Bool.not_eq_false', Bool.not_eq_eq_eq_not, Bool.not_true, Bool.not_false] at hg1'
    refine t_move rfl ?_ (hg := ⟨_, _, rfl, rfl, hg1⟩)
    refine t_fld fi73_1 ti3 rfl ?_ (hg := ⟨_, _, rfl, rfl, hg1⟩)
    refine t_load ti3 rfl rfl rfl rfl rfl ?_ (hg := ⟨_, _, rfl, rfl, hg1⟩)
    refine t_call hI (c206 _ (by omega)) Tryz.func206 rfl ?_ (hg := ⟨_, _, rfl, rfl, hg1⟩)
    refine t_cmp rfl rfl rfl ?_ (hg := ⟨_, _, rfl, rfl, hg1⟩)
    refine t_pickf hg1 rfl rfl ?_
    refine t_move rfl ?_
    refine t_split 24 rfl (fun hg2 => ?_) (fun hg2 => ?_)
    · have hg2' := hg2
      try simp only [cmpB, decide_eq_true_eq, decide_eq_false_iff_not, Bool.not_eq_true', Bool.not_eq_false', Bool.not_eq_eq_eq_not, Bool.not_true, Bool.not_false] at hg2'
      exact absurd hg2' (by omega)
    · have hg2' := hg2
      try simp only [cmpB, decide_eq_true_eq, decide_eq_false_iff_not, Bool.not_eq_true', Bool.not_eq_false', Bool.not_eq_eq_eq_not, Bool.not_true, Bool.not_false] at hg2'
      refine t_move rfl ?_ (hg := ⟨_, _, rfl, rfl, hg2⟩)
      refine t_lens ti9.und rfl ?_ (hg := ⟨_, _, rfl, rfl, hg2⟩)
      refine t_fld fi73_1 ti3 rfl ?_ (hg := ⟨_, _, rfl, rfl, hg2⟩)
      refine t_load ti3 rfl rfl rfl rfl rfl ?_ (hg := ⟨_, _, rfl, rfl, hg2⟩)
      refine t_mul rfl rfl (by omega) ?_ (hg := ⟨_, _, rfl, rfl, hg2⟩)
      refine t_add rfl rfl (by omega) ?_ (hg := ⟨_, _, rfl, rfl, hg2⟩)
      refine t_cmp rfl rfl rfl ?_ (hg := ⟨_, _, rfl, rfl, hg2⟩)
      refine t_pickf hg2 rfl rfl ?_
      refine t_end ?_
      refine nx_then ?_
      refine tr_cond rfl (fun hc3 => ?_) (fun hc3 => ?_)
      · try simp only [cmpB, decide_eq_true_eq, decide_eq_false_iff_not, Bool.not_eq_true', Bool.not_eq_false', Bool.not_eq_eq_eq_not, Bool.not_true, Bool.not_false] at hc3
        exact absurd hc3 (by omega)
      · try simp only [cmpB, decide_eq_true_eq, decide_eq_false_iff_not, Bool.not_eq_true', Bool.not_eq_false', Bool.not_eq_eq_eq_not, Bool.not_true, Bool.not_false] at hc3
        refine tr_skip ?_
        refine nx_then ?_
        refine tr_seq ?_
        refine tr_region_any mixed (by rfl) ?_
        refine t_move rfl ?_
        refine t_scut 0 560 ti9.und rfl rfl ⟨_, rfl⟩ (by decide) (by omega) ?_
        refine t_move rfl ?_
        refine t_fld fi73_0 ti71 rfl ?_
        refine t_load ti71 rfl rfl rfl rfl rfl ?_
        refine t_move rfl ?_
        refine t_move rfl ?_
        refine t_call hI (c208 _ _ _ (by omega)) Tryz.func208 rfl ?_
        refine t_call hI (c207 _ _ _ (by omega)) Tryz.func207 rfl ?_
        refine t_move rfl ?_
        refine t_extract rfl rfl ?_
        refine t_extract rfl rfl ?_
        refine t_allocA zi71 ?_
        refine t_storeA ti71 rfl rfl rfl rfl rfl ?_
        refine t_assign rfl ?_
        refine t_end_any ?_ (by kernel_rfl)
        refine nx_then ?_
        refine tr_seq ?_
        refine tr_region (by rfl) ?_
        refine t_nil (sz := 16) ?_
        refine t_end ?_
        refine nx_then ?_
        refine tr_seq ?_
        refine tr_seq ?_
        refine tr_region (by rfl) ?_
        refine t_assign rfl ?_
        refine t_end ?_
        refine nx_then ?_
        refine tr_block ?_
        refine tr_loop (σ := Nat) (fun k => k ≤ h) (fun k => [(4, some (boxS (nodeS root h) 73)), (9, some (boxS [sgB (meetB (sig.extract 0 560) i (digestB root i text))] 71)), (11, some (rowL (sigPath sig k)))]) (fun k => [(1, EqV (.int .i64 i)), (3, EqV (.string sig)), (4, .ptr 4 0), (9, .ptr 9 0), (12, EqV (.int .i64 (k : Int)))]) (fun k => h - k) 0 (by omega) (st_is [4, 9, 11] [1, 3, 4, 9, 12] rfl rfl rfl) (fun k hp => ?_)
        try dsimp only
        have hpl := sigPath_length sig k
        refine tr_seq ?_
        refine tr_seq ?_
        refine tr_region (by rfl) ?_
        refine t_move rfl ?_
        refine t_fld fi73_1 ti3 rfl ?_
        refine t_load ti3 rfl rfl rfl rfl rfl ?_
        refine t_cmp rfl rfl rfl ?_
        refine t_end ?_
        refine nx_then ?_
        refine tr_cond rfl (fun hc4 => ?_) (fun hc4 => ?_)
        · try simp only [cmpB, decide_eq_true_eq, decide_eq_false_iff_not, Bool.not_eq_true', Bool.not_eq_false', Bool.not_eq_eq_eq_not, Bool.not_true, Bool.not_false] at hc4
          refine tr_skip ?_
          refine nx_then ?_
          refine tr_seq ?_
          refine tr_block ?_
          refine tr_seq ?_
          refine tr_region (by rfl) ?_
          refine t_allocA zi71 ?_
          refine t_end ?_
          refine nx_then ?_
          refine tr_seq ?_
          refine tr_seq ?_
          refine tr_region (by rfl) ?_
          refine t_move rfl ?_
          refine t_end ?_
          refine nx_then ?_
          refine tr_block ?_
          refine tr_loop (σ := Nat) (fun j => j ≤ 16) (fun j => [(4, some (boxS (nodeS root h) 73)), (9, some (boxS [sgB (meetB (sig.extract 0 560) i (digestB root i text))] 71)), (11, some (rowL (sigPath sig k))), (13, some (boxS [sgB (elemP sig (560 + 16 * k) j)] 71))]) (fun j => [(1, EqV (.int .i64 i)), (3, EqV (.string sig)), (4, .ptr 4 0), (9, .ptr 9 0), (12, EqV (.int .i64 (k : Int))), (13, .ptr 13 0), (51, EqV (.int .i64 (j : Int)))]) (fun j => 16 - j) 0 (by omega) (st_is [4, 9, 11, 13] [1, 3, 4, 9, 12, 13, 51] rfl rfl rfl) (fun j hp => ?_)
          try dsimp only
          refine tr_seq ?_
          refine tr_region (by rfl) ?_
          refine t_cmp rfl rfl rfl ?_
          refine t_end ?_
          refine nx_then ?_
          refine tr_seq ?_
          refine tr_cond rfl (fun hc5 => ?_) (fun hc5 => ?_)
          · try simp only [cmpB, decide_eq_true_eq, decide_eq_false_iff_not, Bool.not_eq_true', Bool.not_eq_false', Bool.not_eq_eq_eq_not, Bool.not_true, Bool.not_false] at hc5
            refine tr_skip ?_
            refine nx_then ?_
            refine tr_seq ?_
            refine tr_block ?_
            refine tr_seq ?_
            refine tr_region (by rfl) ?_
            refine t_move rfl ?_
            refine t_assign rfl ?_
            refine t_end ?_
            refine nx_then ?_
            refine tr_region (by rfl) ?_
            refine t_move rfl ?_
            refine t_move rfl ?_
            refine t_move rfl ?_
            refine t_mul rfl rfl (by omega) ?_
            refine t_add rfl rfl (by omega) ?_
            refine t_move rfl ?_
            refine t_add rfl rfl (by omega) ?_
            refine t_sidxQ ((560 + (16 * k)) + j) (by omega) (by omega) ti9.und rfl rfl ?_
            refine t_elemQ j (by omega) (by omega) ti71 ti5 rfl rfl ?_
            refine t_arrStoreB ti5 rfl rfl rfl (by omega) ?_
            refine t_end ?_
            refine nx_block ?_
            refine nx_then ?_
            refine tr_region (by rfl) ?_
            refine t_add rfl rfl (by omega) ?_
            refine t_move rfl ?_
            refine t_end ?_
            exact nx_loop (j + 1) (by omega) (by omega) (st_is [4, 9, 11, 13] [1, 3, 4, 9, 12, 13, 51] rfl rfl rfl)
          · try simp only [cmpB, decide_eq_true_eq, decide_eq_false_iff_not, Bool.not_eq_true', Bool.not_eq_false', Bool.not_eq_eq_eq_not, Bool.not_true, Bool.not_false] at hc5
            refine tr_exit ?_
            refine xt_then ?_
            refine xt_loop ?_
            refine xt_hit ?_
            refine nx_then ?_
            obtain rfl : j = 16 := by omega
            rw [elemP_all (by omega)]
            refine tr_region (by rfl) ?_
            refine t_take rfl ?_
            refine t_load ti71 rfl rfl rfl rfl rfl ?_
            refine t_lit (parts := [(0, .tmp 65)]) ti154.und ti71 zi71 rfl rfl rfl rfl (.agg rfl .nil) rfl rfl ?_
            refine t_append ti154.und ti71 zi71 rfl rfl rfl (src_data ti154.und (cellsE_one _) rfl) (by omega) (rowL_push _ _ _) ?_
            refine t_takea rfl ?_
            refine t_end ?_
            refine nx_block ?_
            refine nx_then ?_
            refine tr_region (by rfl) ?_
            refine t_move rfl ?_
            refine t_add rfl rfl (by omega) ?_
            refine t_assign rfl ?_
            refine t_end ?_
            refine nx_freeze 13 rfl ?_
            exact nx_loop (k + 1) (by omega) (by omega) (st_is [4, 9, 11] [1, 3, 4, 9, 12] rfl rfl rfl)
        · try simp only [cmpB, decide_eq_true_eq, decide_eq_false_iff_not, Bool.not_eq_true', Bool.not_eq_false', Bool.not_eq_eq_eq_not, Bool.not_true, Bool.not_false] at hc4
          refine tr_exit ?_
          refine xt_then ?_
          refine xt_loop ?_
          refine xt_hit ?_
          refine nx_then ?_
          refine tr_seq ?_
          obtain rfl : k = h := by omega
          refine tr_freezeR 11 rfl ?_
          refine tr_region_any mixed (by rfl) ?_
          refine t_load ti71 rfl rfl rfl rfl rfl ?_
          refine t_move rfl ?_
          refine t_move rfl ?_
          refine t_call hI (c209 _ _ _ (by omega)) Tryz.func209 rfl ?_
          refine t_fld fi73_0 ti71 rfl ?_
          refine t_load ti71 rfl rfl rfl rfl rfl ?_
          refine t_aeq ai71 rfl rfl ?_
          refine t_assign rfl ?_
          refine t_end_any ?_ (by kernel_rfl)
          refine nx_then ?_
          refine tr_ret ?_
          exact rt_out1 rfl (.tmp rfl .nil)
end Go.Eng
