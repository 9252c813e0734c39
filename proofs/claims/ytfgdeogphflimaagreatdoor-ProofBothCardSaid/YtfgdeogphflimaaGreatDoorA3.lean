/- Walks: SHA-256, the program's. Printed by wip/tools/gen.py out of wip/proofs/A3.py. -/
import Derived.Test.YtfgdeogphflimaaGreatDoorA2
set_option linter.unusedVariables false
set_option linter.unusedSimpArgs false
namespace Go.Eng
open Go Go.Proofs
theorem run_and31 {P : Program} {T : TypeId} {m : Int} (h : 0 ≤ m ∧ m < 18446744073709551616) (w : World) : (binOp .and T (.int .u64 m) (.int .u64 31)).run P w = .ok (.int .u64 (m % 32)) w := by
  show (Op.intBits .and .u64 m 31).run P w = _
  obtain ⟨n, rfl⟩ : ∃ n : Nat, m = n := ⟨m.toNat, by omega⟩
  have h31 : (BitVec.ofInt IntKind.u64.bits (31 : Int)).toNat = 31 := ofInt_nat (n := 31) (by decide)
  simp only [Op.intBits, Sem.run_pure, BitVec.toNat_and]
  rw [h31, ofInt_nat (show n < 2 ^ IntKind.u64.bits by show n < 2 ^ 64; omega)]
  rw [show (31 : Nat) = 2 ^ 5 - 1 from rfl, Nat.and_two_pow_sub_one_eq_mod, wrap_u64]
  congr 2
  omega
theorem rot_eq (x : UInt32) {k : Nat} (h : 1 ≤ k ∧ k ≤ 31) : x <<< UInt32.ofNat ((32 : Int) - k).toNat ||| x >>> UInt32.ofNat (k : Int).toNat = rotr x (UInt32.ofNat k) := by
  have e : UInt32.ofNat ((32 : Int) - k).toNat = 32 - UInt32.ofNat k := by
    apply UInt32.toNat_inj.1
    rw [UInt32.toNat_sub, UInt32.toNat_ofNat', UInt32.toNat_ofNat']
    show _ = (4294967296 - k % 4294967296 + 32) % 4294967296
    omega
  rw [e, Int.toNat_natCast, rotr]

theorem c225 (x : UInt32) (k : Nat) (h : 1 ≤ k ∧ k ≤ 31) : Fun Laid Tryz.prog 225 [IsV (U32 x), IsV (.int .i64 (-(k : Int)))] (IsV (U32 (rotr x (UInt32.ofNat k)))) := by
  refine fun_of 17 Tryz.func225 rfl rfl rfl fun w0 H hI => ?_
  refine tr_seq ?_
  refine tr_region (by rfl) ?_
  refine t_assign rfl ?_
  refine t_end ?_
  refine nx_then ?_
  refine tr_seq ?_
  refine tr_region (by rfl) ?_
  refine t_move rfl ?_
  refine t_conv ti3.und ti34.und rfl ?_
  rw [show IntKind.u64.wrap (-(k : Int)) = 18446744073709551616 - k by rw [wrap_u64]; omega]
  refine t_int .and _ (run_and31 (by omega)) rfl rfl ?_
  rw [show ((18446744073709551616 : Int) - k) % 32 = 32 - k by omega]
  refine t_assign rfl ?_
  refine t_end ?_
  refine nx_then ?_
  refine tr_seq ?_
  refine tr_region (by rfl) ?_
  refine t_move rfl ?_
  refine t_move rfl ?_
  refine t_int .shl _ (run_shlU _ (by omega)) rfl rfl ?_
  refine t_move rfl ?_
  refine t_move rfl ?_
  refine t_subw rfl rfl ?_
  rw [show IntKind.u64.wrap ((32 : Int) - (32 - (k : Int))) = k by rw [wrap_u64]; omega]
  refine t_int .shr _ (run_shrU _ (by omega)) rfl rfl ?_
  refine t_int .or _ (run_orU _ _) rfl rfl ?_
  refine t_assign rfl ?_
  refine t_end ?_
  refine nx_then ?_
  refine tr_ret ?_
  rw [rot_eq x h]
  exact rt_out1 rfl (.tmp rfl .nil)
theorem c106 (x : UInt32) (k : Nat) (h : 1 ≤ k ∧ k ≤ 31) : Fun Laid Tryz.prog 106 [IsV (U32 x), IsV (.int .u32 k)] (IsV (U32 (rotr x (UInt32.ofNat k)))) := by
  refine fun_of 13 Tryz.func106 rfl rfl rfl fun w0 H hI => ?_
  refine tr_seq ?_
  refine tr_region (by rfl) ?_
  refine t_assign rfl ?_
  refine t_end ?_
  refine nx_then ?_
  refine tr_seq ?_
  refine tr_region (by rfl) ?_
  refine t_move rfl ?_
  refine t_move rfl ?_
  refine t_int .shr _ (run_shrU _ (by omega)) rfl rfl ?_
  refine t_move rfl ?_
  refine t_move rfl ?_
  refine t_subw rfl rfl ?_
  rw [show IntKind.u32.wrap ((32 : Int) - k) = 32 - k by rw [wrap_u32]; omega]
  refine t_int .shl _ (run_shlU _ (by omega)) rfl rfl ?_
  refine t_int .or _ (run_orU _ _) rfl rfl ?_
  refine t_assign rfl ?_
  refine t_end ?_
  refine nx_then ?_
  refine tr_ret ?_
  rw [UInt32.or_comm, rot_eq x h]
  exact rt_out1 rfl (.tmp rfl .nil)
theorem c192 (h : Words 8) (g : Nat → UInt8) : FunM Laid Tryz.prog 192 (boxS [sgW h] 298) [SlC 1 64 (blkOf g)] (fun _ _ => True) (boxS [sgW (mixW h g)] 298) := by
  refine funM_of 191 Tryz.func192 rfl rfl rfl fun w0 H v0 hI => ?_
  refine tr_seq ?_
  refine tr_region (by rfl) ?_
  refine t_allocA zi320 ?_
  refine t_end ?_
  refine nx_then ?_
  refine tr_seq ?_
  refine tr_seq ?_
  refine tr_region (by rfl) ?_
  refine t_move rfl ?_
  refine t_end ?_
  refine nx_then ?_
  refine tr_block ?_
  refine tr_loop (σ := Nat) (fun i => i ≤ 64) (fun i => [(0, some (boxS [sgW h] 298)), (4, some (boxS [sgW (wAt g i)] 320))]) (fun i => [(4, .ptr 4 0), (0, EqV v0), (1, .plain (SlC 1 64 (blkOf g))), (15, EqV (.int .i64 (i : Int)))]) (fun i => 64 - i) 0 (by omega) (st_is [0, 4] [4, 0, 1, 15] rfl rfl rfl) (fun i hp => ?_)
  try dsimp only
  refine tr_seq ?_
  refine tr_region (by rfl) ?_
  refine t_cmp rfl rfl rfl ?_
  refine t_end ?_
  refine nx_then ?_
  refine tr_seq ?_
  refine tr_cond rfl (fun hc1 => ?_) (fun hc1 => ?_)
  · try simp only [cmpB, decide_eq_true_eq, decide_eq_false_iff_not, Bool.not_eq_true', Bool.not_eq_false', Bool.not_eq_eq_eq_not, Bool.not_true, Bool.not_false] at hc1
    refine tr_skip ?_
    refine nx_then ?_
    refine tr_seq ?_
    refine tr_block ?_
    refine tr_seq ?_
    refine tr_region (by rfl) ?_
    refine t_move rfl ?_
    refine t_assign rfl ?_
    refine t_end ?_
    refine nx_then ?_
    refine tr_seq ?_
    refine tr_seq ?_
    refine tr_region (by rfl) ?_
    refine t_move rfl ?_
    refine t_cmp rfl rfl rfl ?_
    refine t_end ?_
    refine nx_then ?_
    refine tr_cond rfl (fun hc2 => ?_) (fun hc2 => ?_)
    · try simp only [cmpB, decide_eq_true_eq, decide_eq_false_iff_not, Bool.not_eq_true', Bool.not_eq_false', Bool.not_eq_eq_eq_not, Bool.not_true, Bool.not_false] at hc2
      refine tr_seq ?_
      refine tr_region_any mixed (by rfl) ?_
      refine t_move rfl ?_
      refine t_move rfl ?_
      refine t_move rfl ?_
      refine t_mul rfl rfl (by omega) ?_
      refine t_idxQ (4 * i) (by omega) (by omega) ti86.und ti5 rfl rfl (blkOf_at g (by omega)) ?_
      refine t_loadR1 ti5 rfl rfl ?_
      refine t_conv832 ti5.und ti211.und rfl ?_
      refine t_int .shl _ (run_shlU _ ⟨by decide, by decide⟩) rfl rfl ?_
      refine t_move rfl ?_
      refine t_move rfl ?_
      refine t_mul rfl rfl (by omega) ?_
      refine t_add rfl rfl (by omega) ?_
      refine t_idxQ ((4 * i) + 1) (by omega) (by omega) ti86.und ti5 rfl rfl (blkOf_at g (by omega)) ?_
      refine t_loadR1 ti5 rfl rfl ?_
      refine t_conv832 ti5.und ti211.und rfl ?_
      refine t_int .shl _ (run_shlU _ ⟨by decide, by decide⟩) rfl rfl ?_
      refine t_int .or _ (run_orU _ _) rfl rfl ?_
      refine t_move rfl ?_
      refine t_move rfl ?_
      refine t_mul rfl rfl (by omega) ?_
      refine t_add rfl rfl (by omega) ?_
      refine t_idxQ ((4 * i) + 2) (by omega) (by omega) ti86.und ti5 rfl rfl (blkOf_at g (by omega)) ?_
      refine t_loadR1 ti5 rfl rfl ?_
      refine t_conv832 ti5.und ti211.und rfl ?_
      refine t_int .shl _ (run_shlU _ ⟨by decide, by decide⟩) rfl rfl ?_
      refine t_int .or _ (run_orU _ _) rfl rfl ?_
      refine t_move rfl ?_
      refine t_move rfl ?_
      refine t_mul rfl rfl (by omega) ?_
      refine t_add rfl rfl (by omega) ?_
      refine t_idxQ ((4 * i) + 3) (by omega) (by omega) ti86.und ti5 rfl rfl (blkOf_at g (by omega)) ?_
      refine t_loadR1 ti5 rfl rfl ?_
      refine t_conv832 ti5.und ti211.und rfl ?_
      refine t_int .or _ (run_orU _ _) rfl rfl ?_
      refine t_elemQ i (by omega) (by omega) ti320 ti211 rfl rfl ?_
      refine t_arrStoreW ti211 rfl rfl rfl (by omega) ?_
      refine t_end_any ?_ (by kernel_rfl)
      refine nx_then ?_
      refine tr_exit ?_
      refine xt_then ?_
      refine xt_hit ?_
      refine nx_then ?_
      refine tr_region (by rfl) ?_
      refine t_add rfl rfl (by omega) ?_
      refine t_move rfl ?_
      refine t_end ?_
      exact nx_loop (i + 1) (by omega) (by omega) (st_is [0, 4] [4, 0, 1, 15] rfl (by first | (rw [wAt, wNew, if_pos (by omega)]; rfl) | (rw [wAt, wNew, if_neg (by omega)]; rfl)) rfl)
    · try simp only [cmpB, decide_eq_true_eq, decide_eq_false_iff_not, Bool.not_eq_true', Bool.not_eq_false', Bool.not_eq_eq_eq_not, Bool.not_true, Bool.not_false] at hc2
      refine tr_skip ?_
      refine nx_then ?_
      refine tr_seq ?_
      refine tr_region_any mixed (by rfl) ?_
      refine t_move rfl ?_
      refine t_sub rfl rfl (by omega) ?_
      refine t_elemQ (i - 15) (by omega) (by omega) ti320 ti211 rfl rfl ?_
      refine t_arrLoadW ti211 rfl rfl (by omega) ?_
      refine t_move rfl ?_
      refine t_sub rfl rfl (by omega) ?_
      refine t_elemQ (i - 2) (by omega) (by omega) ti320 ti211 rfl rfl ?_
      refine t_arrLoadW ti211 rfl rfl (by omega) ?_
      refine t_assign rfl ?_
      refine t_assign rfl ?_
      refine t_end_any ?_ (by kernel_rfl)
      refine nx_then ?_
      refine tr_region_any mixed (by rfl) ?_
      refine t_move rfl ?_
      refine t_move rfl ?_
      refine t_sub rfl rfl (by omega) ?_
      refine t_elemQ (i - 16) (by omega) (by omega) ti320 ti211 rfl rfl ?_
      refine t_arrLoadW ti211 rfl rfl (by omega) ?_
      refine t_move rfl ?_
      refine t_sub rfl rfl (by omega) ?_
      refine t_elemQ (i - 7) (by omega) (by omega) ti320 ti211 rfl rfl ?_
      refine t_arrLoadW ti211 rfl rfl (by omega) ?_
      refine t_int .add _ (run_addU _ _) rfl rfl ?_
      refine t_move rfl ?_
      refine t_call hI (c225 _ 7 (by decide)) Tryz.func225 rfl ?_
      refine t_move rfl ?_
      refine t_call hI (c225 _ 18 (by decide)) Tryz.func225 rfl ?_
      refine t_int .xor _ (run_xorU _ _) rfl rfl ?_
      refine t_move rfl ?_
      refine t_int .shr _ (run_shrU _ ⟨by decide, by decide⟩) rfl rfl ?_
      refine t_int .xor _ (run_xorU _ _) rfl rfl ?_
      refine t_int .add _ (run_addU _ _) rfl rfl ?_
      refine t_move rfl ?_
      refine t_call hI (c225 _ 17 (by decide)) Tryz.func225 rfl ?_
      refine t_move rfl ?_
      refine t_call hI (c225 _ 19 (by decide)) Tryz.func225 rfl ?_
      refine t_int .xor _ (run_xorU _ _) rfl rfl ?_
      refine t_move rfl ?_
      refine t_int .shr _ (run_shrU _ ⟨by decide, by decide⟩) rfl rfl ?_
      refine t_int .xor _ (run_xorU _ _) rfl rfl ?_
      refine t_int .add _ (run_addU _ _) rfl rfl ?_
      refine t_elemQ i (by omega) (by omega) ti320 ti211 rfl rfl ?_
      refine t_arrStoreW ti211 rfl rfl rfl (by omega) ?_
      refine t_end_any ?_ (by kernel_rfl)
      refine nx_block ?_
      refine nx_then ?_
      refine tr_region (by rfl) ?_
      refine t_add rfl rfl (by omega) ?_
      refine t_move rfl ?_
      refine t_end ?_
      exact nx_loop (i + 1) (by omega) (by omega) (st_is [0, 4] [4, 0, 1, 15] rfl (by first | (rw [wAt, wNew, if_pos (by omega)]; rfl) | (rw [wAt, wNew, if_neg (by omega)]; rfl)) rfl)
  · try simp only [cmpB, decide_eq_true_eq, decide_eq_false_iff_not, Bool.not_eq_true', Bool.not_eq_false', Bool.not_eq_eq_eq_not, Bool.not_true, Bool.not_false] at hc1
    refine tr_exit ?_
    refine xt_then ?_
    refine xt_loop ?_
    refine xt_hit ?_
    refine nx_then ?_
    refine tr_seq ?_
    refine tr_region (by rfl) ?_
    refine t_mvbox rfl ?_
    refine t_nckp rfl ?_
    refine t_load ti298 rfl rfl rfl rfl rfl ?_
    refine t_allocA zi298 ?_
    refine t_storeA ti298 rfl rfl rfl rfl rfl ?_
    refine t_end ?_
    refine nx_then ?_
    refine tr_seq ?_
    refine tr_seq ?_
    refine tr_region (by rfl) ?_
    refine t_move rfl ?_
    refine t_end ?_
    refine nx_then ?_
    refine tr_block ?_
    have hi64 : i = 64 := by omega
    subst hi64
    refine tr_loop (σ := Nat) (fun i => i ≤ 64) (fun i => [(0, some (boxS [sgW h] 298)), (4, some (boxS [sgW (wAt g 64)] 320)), (8, some (boxS [sgW (rAt g h i)] 298))]) (fun i => [(4, .ptr 4 0), (8, .ptr 8 0), (0, EqV v0), (96, EqV (.int .i64 (i : Int)))]) (fun i => 64 - i) 0 (by omega) (st_is [0, 4, 8] [4, 8, 0, 96] rfl rfl rfl) (fun i hp => ?_)
    try dsimp only
    refine tr_seq ?_
    refine tr_region (by rfl) ?_
    refine t_cmp rfl rfl rfl ?_
    refine t_end ?_
    refine nx_then ?_
    refine tr_seq ?_
    refine tr_cond rfl (fun hc3 => ?_) (fun hc3 => ?_)
    · try simp only [cmpB, decide_eq_true_eq, decide_eq_false_iff_not, Bool.not_eq_true', Bool.not_eq_false', Bool.not_eq_eq_eq_not, Bool.not_true, Bool.not_false] at hc3
      refine tr_skip ?_
      refine nx_then ?_
      refine tr_seq ?_
      refine tr_block ?_
      refine tr_seq ?_
      refine tr_region (by rfl) ?_
      refine t_move rfl ?_
      refine t_assign rfl ?_
      refine t_end ?_
      refine nx_then ?_
      refine tr_seq ?_
      refine tr_region_any mixed (by rfl) ?_
      refine t_elemQ 0 (by omega) (by omega) ti298 ti211 rfl rfl ?_
      refine t_arrLoadW ti211 rfl rfl (by omega) ?_
      refine t_elemQ 4 (by omega) (by omega) ti298 ti211 rfl rfl ?_
      refine t_arrLoadW ti211 rfl rfl (by omega) ?_
      refine t_assign rfl ?_
      refine t_assign rfl ?_
      refine t_end_any ?_ (by kernel_rfl)
      refine nx_then ?_
      refine tr_seq ?_
      refine tr_region_any mixed (by rfl) ?_
      refine t_elemQ 7 (by omega) (by omega) ti298 ti211 rfl rfl ?_
      refine t_arrLoadW ti211 rfl rfl (by omega) ?_
      refine t_move rfl ?_
      refine t_call hI (c225 _ 6 (by decide)) Tryz.func225 rfl ?_
      refine t_move rfl ?_
      refine t_call hI (c225 _ 11 (by decide)) Tryz.func225 rfl ?_
      refine t_int .xor _ (run_xorU _ _) rfl rfl ?_
      refine t_move rfl ?_
      refine t_call hI (c225 _ 25 (by decide)) Tryz.func225 rfl ?_
      refine t_int .xor _ (run_xorU _ _) rfl rfl ?_
      refine t_int .add _ (run_addU _ _) rfl rfl ?_
      refine t_move rfl ?_
      refine t_elemQ 5 (by omega) (by omega) ti298 ti211 rfl rfl ?_
      refine t_arrLoadW ti211 rfl rfl (by omega) ?_
      refine t_int .and _ (run_andU _ _) rfl rfl ?_
      refine t_move rfl ?_
      refine t_notU rfl ?_
      refine t_elemQ 6 (by omega) (by omega) ti298 ti211 rfl rfl ?_
      refine t_arrLoadW ti211 rfl rfl (by omega) ?_
      refine t_int .and _ (run_andU _ _) rfl rfl ?_
      refine t_int .xor _ (run_xorU _ _) rfl rfl ?_
      refine t_int .add _ (run_addU _ _) rfl rfl ?_
      refine t_move rfl ?_
      refine t_idxGQ i (by omega) (by omega) hI (fun _ h => h.round) ti320 ti211 rfl ?_
      refine t_loadR1 ti211 rfl rfl ?_
      refine t_int .add _ (run_addU _ _) rfl rfl ?_
      refine t_move rfl ?_
      refine t_elemQ i (by omega) (by omega) ti320 ti211 rfl rfl ?_
      refine t_arrLoadW ti211 rfl rfl (by omega) ?_
      refine t_int .add _ (run_addU _ _) rfl rfl ?_
      refine t_assign rfl ?_
      refine t_end_any ?_ (by kernel_rfl)
      refine nx_then ?_
      refine tr_seq ?_
      refine tr_region_any mixed (by rfl) ?_
      refine t_move rfl ?_
      refine t_call hI (c225 _ 2 (by decide)) Tryz.func225 rfl ?_
      refine t_move rfl ?_
      refine t_call hI (c225 _ 13 (by decide)) Tryz.func225 rfl ?_
      refine t_int .xor _ (run_xorU _ _) rfl rfl ?_
      refine t_move rfl ?_
      refine t_call hI (c225 _ 22 (by decide)) Tryz.func225 rfl ?_
      refine t_int .xor _ (run_xorU _ _) rfl rfl ?_
      refine t_move rfl ?_
      refine t_elemQ 1 (by omega) (by omega) ti298 ti211 rfl rfl ?_
      refine t_arrLoadW ti211 rfl rfl (by omega) ?_
      refine t_int .and _ (run_andU _ _) rfl rfl ?_
      refine t_move rfl ?_
      refine t_elemQ 2 (by omega) (by omega) ti298 ti211 rfl rfl ?_
      refine t_arrLoadW ti211 rfl rfl (by omega) ?_
      refine t_int .and _ (run_andU _ _) rfl rfl ?_
      refine t_int .xor _ (run_xorU _ _) rfl rfl ?_
      refine t_elemQ 1 (by omega) (by omega) ti298 ti211 rfl rfl ?_
      refine t_arrLoadW ti211 rfl rfl (by omega) ?_
      refine t_elemQ 2 (by omega) (by omega) ti298 ti211 rfl rfl ?_
      refine t_arrLoadW ti211 rfl rfl (by omega) ?_
      refine t_int .and _ (run_andU _ _) rfl rfl ?_
      refine t_int .xor _ (run_xorU _ _) rfl rfl ?_
      refine t_int .add _ (run_addU _ _) rfl rfl ?_
      refine t_assign rfl ?_
      refine t_end_any ?_ (by kernel_rfl)
      refine nx_then ?_
      refine tr_region (by rfl) ?_
      refine t_move rfl ?_
      refine t_move rfl ?_
      refine t_int .add _ (run_addU _ _) rfl rfl ?_
      refine t_move rfl ?_
      refine t_elemQ 1 (by omega) (by omega) ti298 ti211 rfl rfl ?_
      refine t_arrLoadW ti211 rfl rfl (by omega) ?_
      refine t_elemQ 2 (by omega) (by omega) ti298 ti211 rfl rfl ?_
      refine t_arrLoadW ti211 rfl rfl (by omega) ?_
      refine t_elemQ 3 (by omega) (by omega) ti298 ti211 rfl rfl ?_
      refine t_arrLoadW ti211 rfl rfl (by omega) ?_
      refine t_move rfl ?_
      refine t_int .add _ (run_addU _ _) rfl rfl ?_
      refine t_move rfl ?_
      refine t_elemQ 5 (by omega) (by omega) ti298 ti211 rfl rfl ?_
      refine t_arrLoadW ti211 rfl rfl (by omega) ?_
      refine t_elemQ 6 (by omega) (by omega) ti298 ti211 rfl rfl ?_
      refine t_arrLoadW ti211 rfl rfl (by omega) ?_
      refine t_buildW (parts := [(0, .tmp 159), (1, .tmp 160), (2, .tmp 162), (3, .tmp 164), (4, .tmp 168), (5, .tmp 169), (6, .tmp 171), (7, .tmp 173)]) ti298.und ti211 zi298 rfl (.cons rfl rfl (.cons rfl rfl (.cons rfl rfl (.cons rfl rfl (.cons rfl rfl (.cons rfl rfl (.cons rfl rfl (.cons rfl rfl .nil)))))))) rfl ?_
      refine t_storeA ti298 rfl rfl rfl rfl rfl ?_
      refine t_end ?_
      refine nx_block ?_
      refine nx_then ?_
      refine tr_region (by rfl) ?_
      refine t_add rfl rfl (by omega) ?_
      refine t_move rfl ?_
      refine t_end ?_
      exact nx_loop (i + 1) (by omega) (by omega) (st_is [0, 4, 8] [4, 8, 0, 96] rfl rfl rfl)
    · try simp only [cmpB, decide_eq_true_eq, decide_eq_false_iff_not, Bool.not_eq_true', Bool.not_eq_false', Bool.not_eq_eq_eq_not, Bool.not_true, Bool.not_false] at hc3
      refine tr_exit ?_
      refine xt_then ?_
      refine xt_loop ?_
      refine xt_hit ?_
      refine nx_then ?_
      refine tr_seq ?_
      refine tr_region (by rfl) ?_
      refine t_move rfl ?_
      refine t_end ?_
      refine nx_then ?_
      refine tr_block ?_
      have hi64 : i = 64 := by omega
      subst hi64
      refine tr_loop (σ := Nat) (fun i => i ≤ 8) (fun i => [(0, some (boxS [sgW (addAt (rAt g h 64) h i)] 298)), (4, some (boxS [sgW (wAt g 64)] 320)), (8, some (boxS [sgW (rAt g h 64)] 298))]) (fun i => [(8, .ptr 8 0), (0, EqV v0), (176, EqV (.int .i64 (i : Int)))]) (fun i => 8 - i) 0 (by omega) (st_is [0, 4, 8] [8, 0, 176] rfl rfl rfl) (fun i hp => ?_)
      try dsimp only
      refine tr_seq ?_
      refine tr_region (by rfl) ?_
      refine t_cmp rfl rfl rfl ?_
      refine t_end ?_
      refine nx_then ?_
      refine tr_seq ?_
      refine tr_cond rfl (fun hc4 => ?_) (fun hc4 => ?_)
      · try simp only [cmpB, decide_eq_true_eq, decide_eq_false_iff_not, Bool.not_eq_true', Bool.not_eq_false', Bool.not_eq_eq_eq_not, Bool.not_true, Bool.not_false] at hc4
        refine tr_skip ?_
        refine nx_then ?_
        refine tr_seq ?_
        refine tr_block ?_
        refine tr_seq ?_
        refine tr_region (by rfl) ?_
        refine t_move rfl ?_
        refine t_assign rfl ?_
        refine t_end ?_
        refine nx_then ?_
        refine tr_region_any mixed (by rfl) ?_
        refine t_mvbox rfl ?_
        refine t_move rfl ?_
        refine t_nckp rfl ?_
        refine t_elemQ i (by omega) (by omega) ti298 ti211 rfl rfl ?_
        refine t_arrLoadW ti211 rfl rfl (by omega) ?_
        refine t_move rfl ?_
        refine t_elemQ i (by omega) (by omega) ti298 ti211 rfl rfl ?_
        refine t_arrLoadW ti211 rfl rfl (by omega) ?_
        refine t_int .add _ (run_addU _ _) rfl rfl ?_
        refine t_nckp rfl ?_
        refine t_elemQ i (by omega) (by omega) ti298 ti211 rfl rfl ?_
        refine t_arrStoreW ti211 rfl rfl rfl (by omega) ?_
        refine t_end_any ?_ (by kernel_rfl)
        refine nx_block ?_
        refine nx_then ?_
        refine tr_region (by rfl) ?_
        refine t_add rfl rfl (by omega) ?_
        refine t_move rfl ?_
        refine t_end ?_
        exact nx_loop (i + 1) (by omega) (by omega) (st_is [0, 4, 8] [8, 0, 176] rfl rfl rfl)
      · try simp only [cmpB, decide_eq_true_eq, decide_eq_false_iff_not, Bool.not_eq_true', Bool.not_eq_false', Bool.not_eq_eq_eq_not, Bool.not_true, Bool.not_false] at hc4
        refine tr_exit ?_
        refine xt_then ?_
        refine xt_loop ?_
        refine xt_hit ?_
        refine nx_fallM ?_
        have hi8 : i = 8 := by omega
        subst hi8
        exact rt_noneM rfl rfl rfl
end Go.Eng
