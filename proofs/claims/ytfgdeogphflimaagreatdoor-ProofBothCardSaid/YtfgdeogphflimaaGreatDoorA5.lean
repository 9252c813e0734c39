/- Walks: SHA-256, the document's. Printed by wip/tools/gen.py out of wip/proofs/A5.py. -/
import Derived.Test.YtfgdeogphflimaaGreatDoorA4
set_option linter.unusedVariables false
set_option linter.unusedSimpArgs false
set_option maxHeartbeats 4000000
namespace Go.Eng
open Go Go.Proofs
/-- The length in bits, as the document's text turns it. -/
def mAt (n k : Nat) : Nat := n * 8 * 256 ^ k % 18446744073709551616
theorem lenAt_eq {n k : Nat} (hn : n < 35184372088832) (hk : k < 8) : byteOf ((mAt n k : Int) / 72057594037927936) = lenAt n k := by
  unfold lenAt
  have key : (((mAt n k : Int) / 72057594037927936) % 256).toNat = (((n * 8 / 2 ^ (56 - 8 * k) : Nat) : Int) % 256).toNat := by
    have h : mAt n k / 72057594037927936 % 256 = n * 8 / 2 ^ (56 - 8 * k) % 256 := by
      unfold mAt
      rcases (by omega : k = 0 ∨ k = 1 ∨ k = 2 ∨ k = 3 ∨ k = 4 ∨ k = 5 ∨ k = 6 ∨ k = 7) with h | h | h | h | h | h | h | h <;> subst h <;> simp only [Nat.reducePow, Nat.reduceMul, Nat.reduceSub] <;> omega
    omega
  unfold byteOf
  rw [key]
theorem mAt_step (n k : Nat) : IntKind.u64.wrap ((mAt n k : Int) * 256) = (mAt n (k + 1) : Int) := by
  rw [wrap_u64]
  have : mAt n (k + 1) = mAt n k * 256 % 18446744073709551616 := by
    unfold mAt
    rw [Nat.pow_succ, ← Nat.mul_assoc, Nat.mod_mul_mod]
  rw [this]
  omega
theorem mAt_zero {n : Nat} (hn : n < 35184372088832) : (mAt n 0 : Int) = n * 8 := by
  unfold mAt
  omega
/-- A word of a block, byte by byte. -/
def part (g : Nat → UInt8) (i : Nat) : Nat → UInt32
  | 0 => 0
  | q + 1 => 256 * part g i q + (g (4 * i + q)).toUInt32
theorem or4 (a b c d : Nat) (ha : a < 256) (hb : b < 256) (hc : c < 256) (hd : d < 256) : ((a * 2 ^ 24 ||| b * 2 ^ 16) ||| c * 2 ^ 8) ||| d = a * 2 ^ 24 + b * 2 ^ 16 + c * 2 ^ 8 + d := by
  have e1 : a * 2 ^ 24 ||| b * 2 ^ 16 = a * 2 ^ 24 + b * 2 ^ 16 := by
    rw [← Nat.shiftLeft_eq a 24, Nat.shiftLeft_add_eq_or_of_lt (by omega)]
  have e2 : (a * 2 ^ 24 + b * 2 ^ 16) ||| c * 2 ^ 8 = a * 2 ^ 24 + b * 2 ^ 16 + c * 2 ^ 8 := by
    rw [show a * 2 ^ 24 + b * 2 ^ 16 = (a * 256 + b) * 2 ^ 16 by omega, ← Nat.shiftLeft_eq (a * 256 + b) 16, Nat.shiftLeft_add_eq_or_of_lt (by omega)]
  have e3 : (a * 2 ^ 24 + b * 2 ^ 16 + c * 2 ^ 8) ||| d = a * 2 ^ 24 + b * 2 ^ 16 + c * 2 ^ 8 + d := by
    rw [show a * 2 ^ 24 + b * 2 ^ 16 + c * 2 ^ 8 = (a * 65536 + b * 256 + c) * 2 ^ 8 by omega, ← Nat.shiftLeft_eq (a * 65536 + b * 256 + c) 8, Nat.shiftLeft_add_eq_or_of_lt (by omega)]
  rw [e1, e2, e3]
theorem part_nat (g : Nat → UInt8) (i : Nat) (b : UInt8) (a : UInt32) (h : a.toNat < 16777216) : ((256 : UInt32) * a + b.toUInt32).toNat = 256 * a.toNat + b.toNat := by
  have hb := b.toNat_lt
  rw [UInt32.toNat_add, UInt32.toNat_mul, UInt8.toNat_toUInt32]
  show (256 * a.toNat % 4294967296 + b.toNat) % 4294967296 = _
  omega
theorem part4 (g : Nat → UInt8) (i : Nat) : part g i 4 = be32 g i := by
  apply UInt32.toNat_inj.1
  have h0 := (g (4 * i)).toNat_lt
  have h1 := (g (4 * i + 1)).toNat_lt
  have h2 := (g (4 * i + 2)).toNat_lt
  have h3 := (g (4 * i + 3)).toNat_lt
  have p0 : (part g i 0).toNat = 0 := rfl
  have p1 : (part g i 1).toNat = (g (4 * i)).toNat := by
    show ((256 : UInt32) * part g i 0 + (g (4 * i + 0)).toUInt32).toNat = _
    rw [part_nat g i _ _ (by omega), p0, Nat.add_zero]
    omega
  have p2 : (part g i 2).toNat = (g (4 * i)).toNat * 256 + (g (4 * i + 1)).toNat := by
    show ((256 : UInt32) * part g i 1 + (g (4 * i + 1)).toUInt32).toNat = _
    rw [part_nat g i _ _ (by omega)]
    omega
  have p3 : (part g i 3).toNat = ((g (4 * i)).toNat * 256 + (g (4 * i + 1)).toNat) * 256 + (g (4 * i + 2)).toNat := by
    show ((256 : UInt32) * part g i 2 + (g (4 * i + 2)).toUInt32).toNat = _
    rw [part_nat g i _ _ (by omega)]
    omega
  have p4 : (part g i 4).toNat = (((g (4 * i)).toNat * 256 + (g (4 * i + 1)).toNat) * 256 + (g (4 * i + 2)).toNat) * 256 + (g (4 * i + 3)).toNat := by
    show ((256 : UInt32) * part g i 3 + (g (4 * i + 3)).toUInt32).toNat = _
    rw [part_nat g i _ _ (by omega)]
    omega
  rw [p4]
  unfold be32
  simp only [UInt32.toNat_or, UInt32.toNat_shiftLeft, UInt8.toNat_toUInt32, Nat.shiftLeft_eq]
  show _ = (((g (4 * i)).toNat * 2 ^ 24 % 2 ^ 32 ||| (g (4 * i + 1)).toNat * 2 ^ 16 % 2 ^ 32) ||| (g (4 * i + 2)).toNat * 2 ^ 8 % 2 ^ 32) ||| (g (4 * i + 3)).toNat
  rw [Nat.mod_eq_of_lt (by omega), Nat.mod_eq_of_lt (by omega), Nat.mod_eq_of_lt (by omega), or4 _ _ _ _ h0 h1 h2 h3]
  omega
theorem wstep {l : List UInt32} {i : Nat} (h : i < l.length) (x y : UInt32) : (l.set i x).set i ((256 : UInt32) * (l.set i x).getD i 0 + y) = l.set i ((256 : UInt32) * x + y) := by
  rw [List.set_set, List.getD_eq_getElem?_getD, List.getElem?_set_self h]
  rfl
theorem wAt_zero (g : Nat → UInt8) : ∀ (i j : Nat), i ≤ j → j < 64 → (wAt g i).1.getD j 0 = 0
  | 0, j, _, h => by
    show (List.replicate 64 (0 : UInt32)).getD j 0 = 0
    rw [List.getD_eq_getElem?_getD, List.getElem?_replicate, if_pos h]
    rfl
  | i + 1, j, h1, h2 => by
    have := wAt_zero g i j (by omega) h2
    show ((wAt g i).1.set i _).getD j 0 = 0
    rw [List.getD_eq_getElem?_getD, List.getElem?_set_ne (by omega), ← List.getD_eq_getElem?_getD]
    exact this
theorem wAt_set0 (g : Nat → UInt8) {i : Nat} (h : i < 64) : (wAt g i).1.set i (part g i 0) = (wAt g i).1 := by
  have hz := wAt_zero g i i (Nat.le_refl _) h
  have hl : i < (wAt g i).1.length := by rw [(wAt g i).2]; exact h
  rw [List.getD_eq_getElem?_getD, List.getElem?_eq_getElem hl] at hz
  simp only [Option.getD_some] at hz
  show (wAt g i).1.set i 0 = _
  rw [← hz, List.set_getElem_self]
theorem wAt_low (g : Nat → UInt8) {i : Nat} (h : i < 16) : (wAt g i).1.set i (part g i 4) = (wAt g (i + 1)).1 := by
  rw [wAt, wNew, if_pos h, part4]
  rfl

theorem c105  : FunO Laid Tryz.prog 105 [] (pairR (rowW startL)) (Tup [fun _ _ => True, SlW roundL]) := by
  refine funO_of 8 Tryz.func105 rfl rfl rfl fun w0 H hI => ?_
  refine tr_seq ?_
  refine tr_region (by rfl) ?_
  refine t_assign rfl ?_
  refine t_assign rfl ?_
  refine t_end ?_
  refine nx_then ?_
  refine tr_seq ?_
  refine tr_region (by rfl) ?_
  refine t_litWR (parts := [(0, .const _), (1, .const _), (2, .const _), (3, .const _), (4, .const _), (5, .const _), (6, .const _), (7, .const _)]) ti207.und ti211 zi211 (.cons (s := 1779033703) rfl rfl (.cons (s := 3144134277) rfl rfl (.cons (s := 1013904242) rfl rfl (.cons (s := 2773480762) rfl rfl (.cons (s := 1359893119) rfl rfl (.cons (s := 2600822924) rfl rfl (.cons (s := 528734635) rfl rfl (.cons (s := 1541459225) rfl rfl .nil)))))))) 8 rfl rfl rfl ?_
  refine t_takea rfl ?_
  refine t_end ?_
  refine nx_then ?_
  refine tr_seq ?_
  refine tr_region (by rfl) ?_
  refine t_litW (parts := ((0, .const _) :: (1, .const _) :: (2, .const _) :: (3, .const _) :: (4, .const _) :: (5, .const _) :: (6, .const _) :: (7, .const _) :: (8, .const _) :: (9, .const _) :: (10, .const _) :: (11, .const _) :: (12, .const _) :: (13, .const _) :: (14, .const _) :: (15, .const _) :: (16, .const _) :: (17, .const _) :: (18, .const _) :: (19, .const _) :: (20, .const _) :: (21, .const _) :: (22, .const _) :: (23, .const _) :: (24, .const _) :: (25, .const _) :: (26, .const _) :: (27, .const _) :: (28, .const _) :: (29, .const _) :: (30, .const _) :: (31, .const _) :: (32, .const _) :: (33, .const _) :: (34, .const _) :: (35, .const _) :: (36, .const _) :: (37, .const _) :: (38, .const _) :: (39, .const _) :: (40, .const _) :: (41, .const _) :: (42, .const _) :: (43, .const _) :: (44, .const _) :: (45, .const _) :: (46, .const _) :: (47, .const _) :: (48, .const _) :: (49, .const _) :: (50, .const _) :: (51, .const _) :: (52, .const _) :: (53, .const _) :: (54, .const _) :: (55, .const _) :: (56, .const _) :: (57, .const _) :: (58, .const _) :: (59, .const _) :: (60, .const _) :: (61, .const _) :: (62, .const _) :: (63, .const _) :: [])) ti207.und ti211 zi211 (.cons (s := 1116352408) rfl rfl (.cons (s := 1899447441) rfl rfl (.cons (s := 3049323471) rfl rfl (.cons (s := 3921009573) rfl rfl (.cons (s := 961987163) rfl rfl (.cons (s := 1508970993) rfl rfl (.cons (s := 2453635748) rfl rfl (.cons (s := 2870763221) rfl rfl (.cons (s := 3624381080) rfl rfl (.cons (s := 310598401) rfl rfl (.cons (s := 607225278) rfl rfl (.cons (s := 1426881987) rfl rfl (.cons (s := 1925078388) rfl rfl (.cons (s := 2162078206) rfl rfl (.cons (s := 2614888103) rfl rfl (.cons (s := 3248222580) rfl rfl (.cons (s := 3835390401) rfl rfl (.cons (s := 4022224774) rfl rfl (.cons (s := 264347078) rfl rfl (.cons (s := 604807628) rfl rfl (.cons (s := 770255983) rfl rfl (.cons (s := 1249150122) rfl rfl (.cons (s := 1555081692) rfl rfl (.cons (s := 1996064986) rfl rfl (.cons (s := 2554220882) rfl rfl (.cons (s := 2821834349) rfl rfl (.cons (s := 2952996808) rfl rfl (.cons (s := 3210313671) rfl rfl (.cons (s := 3336571891) rfl rfl (.cons (s := 3584528711) rfl rfl (.cons (s := 113926993) rfl rfl (.cons (s := 338241895) rfl rfl (.cons (s := 666307205) rfl rfl (.cons (s := 773529912) rfl rfl (.cons (s := 1294757372) rfl rfl (.cons (s := 1396182291) rfl rfl (.cons (s := 1695183700) rfl rfl (.cons (s := 1986661051) rfl rfl (.cons (s := 2177026350) rfl rfl (.cons (s := 2456956037) rfl rfl (.cons (s := 2730485921) rfl rfl (.cons (s := 2820302411) rfl rfl (.cons (s := 3259730800) rfl rfl (.cons (s := 3345764771) rfl rfl (.cons (s := 3516065817) rfl rfl (.cons (s := 3600352804) rfl rfl (.cons (s := 4094571909) rfl rfl (.cons (s := 275423344) rfl rfl (.cons (s := 430227734) rfl rfl (.cons (s := 506948616) rfl rfl (.cons (s := 659060556) rfl rfl (.cons (s := 883997877) rfl rfl (.cons (s := 958139571) rfl rfl (.cons (s := 1322822218) rfl rfl (.cons (s := 1537002063) rfl rfl (.cons (s := 1747873779) rfl rfl (.cons (s := 1955562222) rfl rfl (.cons (s := 2024104815) rfl rfl (.cons (s := 2227730452) rfl rfl (.cons (s := 2361852424) rfl rfl (.cons (s := 2428436474) rfl rfl (.cons (s := 2756734187) rfl rfl (.cons (s := 3204031479) rfl rfl (.cons (s := 3329325298) rfl rfl .nil)))))))))))))))))))))))))))))))))))))))))))))))))))))))))))))))) 64 rfl rfl rfl ?_
  refine t_assign rfl ?_
  refine t_end ?_
  refine nx_then ?_
  refine tr_seq ?_
  refine tr_region (by rfl) ?_
  refine t_take rfl ?_
  refine t_move rfl ?_
  refine t_takea rfl ?_
  refine t_assign rfl ?_
  refine t_end ?_
  refine nx_then ?_
  refine tr_ret ?_
  exact rt_pairO rfl rfl rfl
theorem c58 (s : ByteArray) (hs : s.size < 35184372088832) : Fun Laid Tryz.prog 58 [IsV (.string s)] (IsV (aggS [sgB (shaB s)])) := by
  refine fun_of 287 Tryz.func58 rfl rfl rfl fun w0 H hI => ?_
  refine tr_seq ?_
  refine tr_region (by rfl) ?_
  refine t_allocA zi24 ?_
  refine t_end ?_
  refine nx_then ?_
  refine tr_seq ?_
  refine tr_region (by rfl) ?_
  refine t_callO hI c105 Tryz.func105 rfl ?_
  refine t_takeK rfl rfl ?_
  refine t_fstO rfl ?_
  refine t_extract rfl rfl ?_
  refine t_takea rfl ?_
  refine t_assign rfl ?_
  refine t_end ?_
  refine nx_then ?_
  refine tr_seq ?_
  refine tr_region (by rfl) ?_
  refine t_move rfl ?_
  have hpush : (s.push 128).size = s.size + 1 := ByteArray.size_push
  refine t_bytes ti9.und ti86.und ti5.und rfl (by simp only [maxLen]; omega) ?_
  refine t_lit (parts := [(0, .const _)]) ti86.und ti5 zi5 rfl rfl rfl rfl (.one (v := U8 128) rfl rfl .nil) rfl rfl ?_
  refine t_append ti86.und ti5 zi5 rfl rfl rfl (src_data ti86.und (cellsE_one _) rfl) (by omega) (rowB_pushU _ _ _ _) ?_
  refine t_takea rfl ?_
  refine t_end ?_
  refine nx_then ?_
  refine tr_seq ?_
  refine tr_block ?_
  refine tr_loop (σ := Nat × ByteArray) (fun q => padZ 64 (s.push 128) = padZ q.1 q.2 ∧ (120 - q.2.size % 64) % 64 ≤ q.1 ∧ q.2.size + q.1 = s.size + 65) (fun q => [(2, some (boxS z24 24)), (3, some (rowW startL)), (5, some (rowB q.2))]) (fun q => [(0, EqV (.string s)), (2, .ptr 2 0), (4, .plain (SlW roundL))]) (fun q => q.1) (64, s.push 128) ⟨rfl, by show (120 - (s.push 128).size % 64) % 64 ≤ 64; omega, by show (s.push 128).size + 64 = _; rw [ByteArray.size_push]⟩ (st_is [2, 3, 5] [0, 2, 4] rfl rfl rfl) (fun ⟨k, b⟩ hp => ?_)
  try dsimp only
  obtain ⟨hq, hk, hsz⟩ := hp
  dsimp only at hq hk hsz
  refine tr_seq ?_
  refine tr_seq ?_
  refine tr_region (by rfl) ?_
  refine t_mvrow rfl ?_
  refine t_lenN ti86.und (Or.inr rfl) rfl ?_
  refine t_int .rem _ (run_remN (by omega) (by omega)) rfl rfl ?_
  refine t_cmp rfl rfl rfl ?_
  refine t_end ?_
  refine nx_then ?_
  refine tr_cond rfl (fun hc1 => ?_) (fun hc1 => ?_)
  · try simp only [cmpB, decide_eq_true_eq, decide_eq_false_iff_not, Bool.not_eq_true', Bool.not_eq_false', Bool.not_eq_eq_eq_not, Bool.not_true, Bool.not_false] at hc1
    refine tr_skip ?_
    refine nx_then ?_
    refine tr_block ?_
    refine tr_only [0, 2, 4, 31, 32, 33] rfl ?_
    refine tr_region (by rfl) ?_
    refine t_take rfl ?_
    refine t_lit (parts := [(0, .const _)]) ti86.und ti5 zi5 rfl rfl rfl rfl (.one (v := U8 0) rfl rfl .nil) rfl rfl ?_
    refine t_append ti86.und ti5 zi5 rfl rfl rfl (src_data ti86.und (cellsE_one _) rfl) (by omega) (rowB_pushU _ _ _ _) ?_
    refine t_takea rfl ?_
    refine t_end ?_
    refine nx_block ?_
    exact nx_loop (k - 1, b.push 0) (by show k - 1 < k; omega) ⟨by rw [hq]; obtain ⟨j, rfl⟩ : ∃ j, k = j + 1 := ⟨k - 1, by omega⟩; exact padZ_step (by omega), by show (120 - (b.push 0).size % 64) % 64 ≤ k - 1; rw [ByteArray.size_push]; omega, by show (b.push 0).size + (k - 1) = _; rw [ByteArray.size_push]; omega⟩ (st_is [2, 3, 5] [0, 2, 4] rfl rfl rfl)
  · try simp only [cmpB, decide_eq_true_eq, decide_eq_false_iff_not, Bool.not_eq_true', Bool.not_eq_false', Bool.not_eq_eq_eq_not, Bool.not_true, Bool.not_false] at hc1
    refine tr_exit ?_
    refine xt_then ?_
    refine xt_loop ?_
    refine xt_hit ?_
    refine nx_then ?_
    refine tr_seq ?_
    refine tr_region (by rfl) ?_
    refine t_move rfl ?_
    refine t_lens ti9.und rfl ?_
    refine t_convF ti3.und ti210.und rfl (by show _ ∧ _; omega) ?_
    refine t_int .mul _ (fun w => by rw [run_mul, wrap_inK (by show _ ∧ _; omega)]) rfl rfl ?_
    refine t_assign rfl ?_
    refine t_end ?_
    refine nx_then ?_
    refine tr_seq ?_
    refine tr_seq ?_
    rw [show (s.size : Int) * 8 = (mAt s.size 0 : Int) from (mAt_zero hs).symm]
    refine tr_region (by rfl) ?_
    refine t_assign rfl ?_
    refine t_end ?_
    refine nx_then ?_
    refine tr_block ?_
    have h56 : b.size % 64 = 56 := by omega
    rw [padZ_done h56] at hq
    refine tr_loop (σ := Nat) (fun k => k ≤ 8) (fun k => [(2, some (boxS z24 24)), (3, some (rowW startL)), (5, some (rowB (lenP s.size k b)))]) (fun k => [(2, .ptr 2 0), (4, .plain (SlW roundL)), (6, EqV (.int .u64 (mAt s.size k : Int))), (7, EqV (.int .i64 (k : Int)))]) (fun k => 8 - k) 0 (by omega) (st_is [2, 3, 5] [2, 4, 6, 7] rfl rfl rfl) (fun j hp => ?_)
    try dsimp only
    have hlp := lenP_size s.size j b
    refine tr_seq ?_
    refine tr_seq ?_
    refine tr_region (by rfl) ?_
    refine t_move rfl ?_
    refine t_cmp rfl rfl rfl ?_
    refine t_end ?_
    refine nx_then ?_
    refine tr_cond rfl (fun hc2 => ?_) (fun hc2 => ?_)
    · try simp only [cmpB, decide_eq_true_eq, decide_eq_false_iff_not, Bool.not_eq_true', Bool.not_eq_false', Bool.not_eq_eq_eq_not, Bool.not_true, Bool.not_false] at hc2
      refine tr_skip ?_
      refine nx_then ?_
      refine tr_seq ?_
      refine tr_block ?_
      refine tr_seq ?_
      refine tr_region (by rfl) ?_
      refine t_take rfl ?_
      refine t_move rfl ?_
      refine t_int .quo _ (run_quoN (by omega) (by decide) (by show _ ∧ _; unfold mAt; omega)) rfl rfl ?_
      refine t_convB ti210.und ti5.und rfl ?_
      rw [lenAt_eq hs (by omega)]
      refine t_lit (parts := [(0, .tmp 48)]) ti86.und ti5 zi5 rfl rfl rfl rfl (.one rfl rfl .nil) rfl rfl ?_
      refine t_append ti86.und ti5 zi5 rfl rfl rfl (src_data ti86.und (cellsE_one _) rfl) (by omega) (rowB_pushU _ _ _ _) ?_
      refine t_takea rfl ?_
      refine t_end ?_
      refine nx_then ?_
      refine tr_region (by rfl) ?_
      refine t_move rfl ?_
      refine t_int .mul _ run_mul rfl rfl ?_
      rw [mAt_step]
      refine t_assign rfl ?_
      refine t_end ?_
      refine nx_block ?_
      refine nx_then ?_
      refine tr_region (by rfl) ?_
      refine t_move rfl ?_
      refine t_add rfl rfl (by omega) ?_
      refine t_assign rfl ?_
      refine t_end ?_
      exact nx_loop (j + 1) (by omega) (by omega) (st_is [2, 3, 5] [2, 4, 6, 7] rfl rfl rfl)
    · try simp only [cmpB, decide_eq_true_eq, decide_eq_false_iff_not, Bool.not_eq_true', Bool.not_eq_false', Bool.not_eq_eq_eq_not, Bool.not_true, Bool.not_false] at hc2
      refine tr_exit ?_
      refine xt_then ?_
      refine xt_loop ?_
      refine xt_hit ?_
      refine nx_then ?_
      refine tr_seq ?_
      refine tr_seq ?_
      refine tr_region (by rfl) ?_
      refine t_assign rfl ?_
      refine t_end ?_
      refine nx_then ?_
      refine tr_block ?_
      obtain rfl : j = 8 := by omega
      obtain ⟨hm64, hmle⟩ := pad_size hsz h56 s.size
      rw [show lenP s.size 8 b = msgB s from by rw [msgB, hq]] at hm64 hmle
      rw [show lenP s.size 8 b = msgB s from by rw [msgB, hq]]
      refine tr_freezeR 5 rfl ?_
      refine tr_loop (σ := Nat) (fun k2 => 64 * k2 ≤ (msgB s).size) (fun k2 => [(2, some (boxS z24 24)), (3, some (rowW (hAt (msgB s) k2).1))]) (fun k2 => [(2, .ptr 2 0), (4, .plain (SlW roundL)), (5, .plain (SlB (msgB s))), (8, EqV (.int .i64 ((64 * k2 : Nat) : Int)))]) (fun k2 => (msgB s).size - 64 * k2) 0 (by omega) (st_is [2, 3] [2, 4, 5, 8] rfl rfl rfl) (fun k2 hp => ?_)
      try dsimp only
      have hl8 : (hAt (msgB s) k2).1.length = 8 := (hAt (msgB s) k2).2
      refine tr_seq ?_
      refine tr_seq ?_
      refine tr_region (by rfl) ?_
      refine t_move rfl ?_
      refine t_move rfl ?_
      refine t_len ti86.und slC_form rfl ?_
      refine t_cmp rfl rfl rfl ?_
      refine t_end ?_
      refine nx_then ?_
      refine tr_cond rfl (fun hc3 => ?_) (fun hc3 => ?_)
      · try simp only [cmpB, decide_eq_true_eq, decide_eq_false_iff_not, Bool.not_eq_true', Bool.not_eq_false', Bool.not_eq_eq_eq_not, Bool.not_true, Bool.not_false] at hc3
        refine tr_skip ?_
        refine nx_then ?_
        refine tr_seq ?_
        refine tr_block ?_
        refine tr_seq ?_
        refine tr_region (by rfl) ?_
        refine t_makeW (n := 64) ti207.und ti211 zi211 rfl rfl ?_
        refine t_takea rfl ?_
        refine t_end ?_
        refine nx_then ?_
        refine tr_seq ?_
        refine tr_seq ?_
        refine tr_region (by rfl) ?_
        refine t_assign rfl ?_
        refine t_end ?_
        refine nx_then ?_
        refine tr_block ?_
        refine tr_loop (σ := Nat) (fun i => i ≤ 16) (fun i => [(2, some (boxS z24 24)), (3, some (rowW (hAt (msgB s) k2).1)), (9, some (rowW (wAt (fun j => byteAt (msgB s) (64 * k2 + j)) i).1))]) (fun i => [(2, .ptr 2 0), (4, .plain (SlW roundL)), (5, .plain (SlB (msgB s))), (8, EqV (.int .i64 ((64 * k2 : Nat) : Int))), (10, EqV (.int .i64 (i : Int)))]) (fun i => 16 - i) 0 (by omega) (st_is [2, 3, 9] [2, 4, 5, 8, 10] rfl rfl rfl) (fun i hp => ?_)
        try dsimp only
        have hw64 : (wAt (fun j => byteAt (msgB s) (64 * k2 + j)) i).1.length = 64 := (wAt _ i).2
        refine tr_seq ?_
        refine tr_seq ?_
        refine tr_region (by rfl) ?_
        refine t_move rfl ?_
        refine t_cmp rfl rfl rfl ?_
        refine t_end ?_
        refine nx_then ?_
        refine tr_cond rfl (fun hc4 => ?_) (fun hc4 => ?_)
        · try simp only [cmpB, decide_eq_true_eq, decide_eq_false_iff_not, Bool.not_eq_true', Bool.not_eq_false', Bool.not_eq_eq_eq_not, Bool.not_true, Bool.not_false] at hc4
          refine tr_skip ?_
          refine nx_then ?_
          refine tr_seq ?_
          refine tr_block ?_
          refine tr_seq ?_
          refine tr_region (by rfl) ?_
          refine t_assign rfl ?_
          refine t_end ?_
          refine nx_then ?_
          refine tr_block ?_
          refine tr_loop (σ := Nat) (fun q => q ≤ 4) (fun q => [(2, some (boxS z24 24)), (3, some (rowW (hAt (msgB s) k2).1)), (9, some (rowW ((wAt (fun j => byteAt (msgB s) (64 * k2 + j)) i).1.set i (part (fun j => byteAt (msgB s) (64 * k2 + j)) i q))))]) (fun q => [(2, .ptr 2 0), (4, .plain (SlW roundL)), (5, .plain (SlB (msgB s))), (8, EqV (.int .i64 ((64 * k2 : Nat) : Int))), (10, EqV (.int .i64 (i : Int))), (11, EqV (.int .i64 (q : Int)))]) (fun q => 4 - q) 0 (by omega) (st_is [2, 3, 9] [2, 4, 5, 8, 10, 11] rfl (by rw [wAt_set0 _ (by omega)]; rfl) rfl) (fun q hp => ?_)
          try dsimp only
          have hws : ((wAt (fun j => byteAt (msgB s) (64 * k2 + j)) i).1.set i (part (fun j => byteAt (msgB s) (64 * k2 + j)) i q)).length = 64 := by rw [List.length_set]; exact hw64
          refine tr_seq ?_
          refine tr_seq ?_
          refine tr_region (by rfl) ?_
          refine t_move rfl ?_
          refine t_cmp rfl rfl rfl ?_
          refine t_end ?_
          refine nx_then ?_
          refine tr_cond rfl (fun hc5 => ?_) (fun hc5 => ?_)
          · try simp only [cmpB, decide_eq_true_eq, decide_eq_false_iff_not, Bool.not_eq_true', Bool.not_eq_false', Bool.not_eq_eq_eq_not, Bool.not_true, Bool.not_false] at hc5
            refine tr_skip ?_
            refine nx_then ?_
            refine tr_seq ?_
            refine tr_block ?_
            refine tr_region_any mixed (by rfl) ?_
            refine t_mvrow rfl ?_
            refine t_move rfl ?_
            refine t_mvrow rfl ?_
            refine t_move rfl ?_
            refine t_rowIdxQ i (by omega) (by omega) ti207.und ti211 (Or.inr rfl) rfl rfl ?_
            refine t_rowLoadW ti211 rfl rfl (by omega) ?_
            refine t_int .mul _ (run_mulU 256 _) rfl rfl ?_
            refine t_move rfl ?_
            refine t_move rfl ?_
            refine t_move rfl ?_
            refine t_mul rfl rfl (by omega) ?_
            refine t_add rfl rfl (by omega) ?_
            refine t_move rfl ?_
            refine t_add rfl rfl (by omega) ?_
            refine t_idxBQ (((64 * k2) + (4 * i)) + q) (by omega) (by omega) ti86.und ti5 rfl rfl ?_
            refine t_loadR1 ti5 rfl rfl ?_
            refine t_conv832 ti5.und ti211.und rfl ?_
            refine t_int .add _ (run_addU _ _) rfl rfl ?_
            refine t_rowIdxQ i (by omega) (by omega) ti207.und ti211 (Or.inr rfl) rfl rfl ?_
            refine t_rowStoreW ti211 rfl rfl rfl (by omega) ?_
            refine t_end_any ?_ (by kernel_rfl)
            refine nx_block ?_
            refine nx_then ?_
            refine tr_region (by rfl) ?_
            refine t_move rfl ?_
            refine t_add rfl rfl (by omega) ?_
            refine t_assign rfl ?_
            refine t_end ?_
            exact nx_loop (q + 1) (by omega) (by omega) (st_is [2, 3, 9] [2, 4, 5, 8, 10, 11] rfl (by rw [wstep (by omega), Nat.add_assoc]; rfl) rfl)
          · try simp only [cmpB, decide_eq_true_eq, decide_eq_false_iff_not, Bool.not_eq_true', Bool.not_eq_false', Bool.not_eq_eq_eq_not, Bool.not_true, Bool.not_false] at hc5
            refine tr_exit ?_
            refine xt_then ?_
            refine xt_loop ?_
            refine xt_hit ?_
            refine nx_block ?_
            refine nx_then ?_
            obtain rfl : q = 4 := by omega
            refine tr_region (by rfl) ?_
            refine t_move rfl ?_
            refine t_add rfl rfl (by omega) ?_
            refine t_assign rfl ?_
            refine t_end ?_
            exact nx_loop (i + 1) (by omega) (by omega) (st_is [2, 3, 9] [2, 4, 5, 8, 10] rfl (by rw [← wAt_low (fun j => byteAt (msgB s) (64 * k2 + j)) (by omega)]; rfl) rfl)
        · try simp only [cmpB, decide_eq_true_eq, decide_eq_false_iff_not, Bool.not_eq_true', Bool.not_eq_false', Bool.not_eq_eq_eq_not, Bool.not_true, Bool.not_false] at hc4
          refine tr_exit ?_
          refine xt_then ?_
          refine xt_loop ?_
          refine xt_hit ?_
          refine nx_then ?_
          refine tr_seq ?_
          refine tr_seq ?_
          refine tr_region (by rfl) ?_
          refine t_assign rfl ?_
          refine t_end ?_
          refine nx_then ?_
          refine tr_block ?_
          obtain rfl : i = 16 := by omega
          refine tr_loop (σ := Nat) (fun i => 16 ≤ i ∧ i ≤ 64) (fun i => [(2, some (boxS z24 24)), (3, some (rowW (hAt (msgB s) k2).1)), (9, some (rowW (wAt (fun j => byteAt (msgB s) (64 * k2 + j)) i).1))]) (fun i => [(2, .ptr 2 0), (4, .plain (SlW roundL)), (5, .plain (SlB (msgB s))), (8, EqV (.int .i64 ((64 * k2 : Nat) : Int))), (12, EqV (.int .i64 (i : Int)))]) (fun i => 64 - i) 16 (by omega) (st_is [2, 3, 9] [2, 4, 5, 8, 12] rfl rfl rfl) (fun i hp => ?_)
          try dsimp only
          have hw64 : (wAt (fun j => byteAt (msgB s) (64 * k2 + j)) i).1.length = 64 := (wAt _ i).2
          refine tr_seq ?_
          refine tr_seq ?_
          refine tr_region (by rfl) ?_
          refine t_move rfl ?_
          refine t_cmp rfl rfl rfl ?_
          refine t_end ?_
          refine nx_then ?_
          refine tr_cond rfl (fun hc6 => ?_) (fun hc6 => ?_)
          · try simp only [cmpB, decide_eq_true_eq, decide_eq_false_iff_not, Bool.not_eq_true', Bool.not_eq_false', Bool.not_eq_eq_eq_not, Bool.not_true, Bool.not_false] at hc6
            refine tr_skip ?_
            refine nx_then ?_
            refine tr_seq ?_
            refine tr_block ?_
            refine tr_seq ?_
            refine tr_region_any mixed (by rfl) ?_
            refine t_mvrow rfl ?_
            refine t_move rfl ?_
            refine t_sub rfl rfl (by omega) ?_
            refine t_rowIdxQ (i - 15) (by omega) (by omega) ti207.und ti211 (Or.inr rfl) rfl rfl ?_
            refine t_rowLoadW ti211 rfl rfl (by omega) ?_
            refine t_mvrow rfl ?_
            refine t_move rfl ?_
            refine t_sub rfl rfl (by omega) ?_
            refine t_rowIdxQ (i - 2) (by omega) (by omega) ti207.und ti211 (Or.inr rfl) rfl rfl ?_
            refine t_rowLoadW ti211 rfl rfl (by omega) ?_
            refine t_assign rfl ?_
            refine t_assign rfl ?_
            refine t_end_any ?_ (by kernel_rfl)
            refine nx_then ?_
            refine tr_region_any mixed (by rfl) ?_
            refine t_mvrow rfl ?_
            refine t_move rfl ?_
            refine t_mvrow rfl ?_
            refine t_move rfl ?_
            refine t_sub rfl rfl (by omega) ?_
            refine t_rowIdxQ (i - 16) (by omega) (by omega) ti207.und ti211 (Or.inr rfl) rfl rfl ?_
            refine t_rowLoadW ti211 rfl rfl (by omega) ?_
            refine t_mvrow rfl ?_
            refine t_move rfl ?_
            refine t_sub rfl rfl (by omega) ?_
            refine t_rowIdxQ (i - 7) (by omega) (by omega) ti207.und ti211 (Or.inr rfl) rfl rfl ?_
            refine t_rowLoadW ti211 rfl rfl (by omega) ?_
            refine t_int .add _ (run_addU _ _) rfl rfl ?_
            refine t_move rfl ?_
            refine t_call hI (c106 _ 7 (by decide)) Tryz.func106 rfl ?_
            refine t_move rfl ?_
            refine t_call hI (c106 _ 18 (by decide)) Tryz.func106 rfl ?_
            refine t_int .xor _ (run_xorU _ _) rfl rfl ?_
            refine t_move rfl ?_
            refine t_int .shr _ (run_shrU _ ⟨by decide, by decide⟩) rfl rfl ?_
            refine t_int .xor _ (run_xorU _ _) rfl rfl ?_
            refine t_int .add _ (run_addU _ _) rfl rfl ?_
            refine t_move rfl ?_
            refine t_call hI (c106 _ 17 (by decide)) Tryz.func106 rfl ?_
            refine t_move rfl ?_
            refine t_call hI (c106 _ 19 (by decide)) Tryz.func106 rfl ?_
            refine t_int .xor _ (run_xorU _ _) rfl rfl ?_
            refine t_move rfl ?_
            refine t_int .shr _ (run_shrU _ ⟨by decide, by decide⟩) rfl rfl ?_
            refine t_int .xor _ (run_xorU _ _) rfl rfl ?_
            refine t_int .add _ (run_addU _ _) rfl rfl ?_
            refine t_rowIdxQ i (by omega) (by omega) ti207.und ti211 (Or.inr rfl) rfl rfl ?_
            refine t_rowStoreW ti211 rfl rfl rfl (by omega) ?_
            refine t_end_any ?_ (by kernel_rfl)
            refine nx_block ?_
            refine nx_then ?_
            refine tr_region (by rfl) ?_
            refine t_move rfl ?_
            refine t_add rfl rfl (by omega) ?_
            refine t_assign rfl ?_
            refine t_end ?_
            exact nx_loop (i + 1) (by omega) (by omega) (st_is [2, 3, 9] [2, 4, 5, 8, 12] rfl (by rw [wAt, wNew, if_neg (by omega)]; rfl) rfl)
          · try simp only [cmpB, decide_eq_true_eq, decide_eq_false_iff_not, Bool.not_eq_true', Bool.not_eq_false', Bool.not_eq_eq_eq_not, Bool.not_true, Bool.not_false] at hc6
            refine tr_exit ?_
            refine xt_then ?_
            refine xt_loop ?_
            refine xt_hit ?_
            refine nx_then ?_
            refine tr_seq ?_
            obtain rfl : i = 64 := by omega
            refine tr_region (by rfl) ?_
            refine t_lit0 ti207.und ti211 ?_
            refine t_mvrow rfl ?_
            refine t_appendRD ti207.und ti207.und ti211 zi211 rfl rfl rfl (Or.inr rfl) rfl (cellsW_one _) rfl (by omega) (show rowR 1 (0 + (hAt (msgB s) k2).1.length) ([] ++ cellsW (hAt (msgB s) k2).1) = rowR 1 (hAt (msgB s) k2).1.length (cellsW (hAt (msgB s) k2).1) by rw [Nat.zero_add]; rfl) ?_
            refine t_assign rfl ?_
            refine t_end ?_
            refine nx_then ?_
            refine tr_seq ?_
            refine tr_seq ?_
            refine tr_region (by rfl) ?_
            refine t_assign rfl ?_
            refine t_end ?_
            refine nx_then ?_
            refine tr_block ?_
            refine tr_loop (σ := Nat) (fun i => i ≤ 64) (fun i => [(2, some (boxS z24 24)), (3, some (rowW (hAt (msgB s) k2).1)), (9, some (rowW (wAt (fun j => byteAt (msgB s) (64 * k2 + j)) 64).1))]) (fun i => [(2, .ptr 2 0), (4, .plain (SlW roundL)), (5, .plain (SlB (msgB s))), (8, EqV (.int .i64 ((64 * k2 : Nat) : Int))), (15, .plain (SlW (rAt (fun j => byteAt (msgB s) (64 * k2 + j)) (hAt (msgB s) k2) i).1)), (16, EqV (.int .i64 (i : Int)))]) (fun i => 64 - i) 0 (by omega) (st_is [2, 3, 9] [2, 4, 5, 8, 15, 16] rfl rfl rfl) (fun i hp => ?_)
            try dsimp only
            have hw64 : (wAt (fun j => byteAt (msgB s) (64 * k2 + j)) 64).1.length = 64 := (wAt _ 64).2
            have hr8 : (rAt (fun j => byteAt (msgB s) (64 * k2 + j)) (hAt (msgB s) k2) i).1.length = 8 := (rAt _ _ i).2
            have hk64 : roundL.length = 64 := rfl
            refine tr_seq ?_
            refine tr_seq ?_
            refine tr_region (by rfl) ?_
            refine t_move rfl ?_
            refine t_cmp rfl rfl rfl ?_
            refine t_end ?_
            refine nx_then ?_
            refine tr_cond rfl (fun hc7 => ?_) (fun hc7 => ?_)
            · try simp only [cmpB, decide_eq_true_eq, decide_eq_false_iff_not, Bool.not_eq_true', Bool.not_eq_false', Bool.not_eq_eq_eq_not, Bool.not_true, Bool.not_false] at hc7
              refine tr_skip ?_
              refine nx_then ?_
              refine tr_seq ?_
              refine tr_block ?_
              refine tr_seq ?_
              refine tr_region_any mixed (by rfl) ?_
              refine t_move rfl ?_
              refine t_idxWQ 7 (by omega) (by omega) ti207.und ti211 rfl rfl ?_
              refine t_loadR1 ti211 rfl rfl ?_
              refine t_move rfl ?_
              refine t_idxWQ 4 (by omega) (by omega) ti207.und ti211 rfl rfl ?_
              refine t_loadR1 ti211 rfl rfl ?_
              refine t_call hI (c106 _ 6 (by decide)) Tryz.func106 rfl ?_
              refine t_move rfl ?_
              refine t_idxWQ 4 (by omega) (by omega) ti207.und ti211 rfl rfl ?_
              refine t_loadR1 ti211 rfl rfl ?_
              refine t_call hI (c106 _ 11 (by decide)) Tryz.func106 rfl ?_
              refine t_int .xor _ (run_xorU _ _) rfl rfl ?_
              refine t_move rfl ?_
              refine t_idxWQ 4 (by omega) (by omega) ti207.und ti211 rfl rfl ?_
              refine t_loadR1 ti211 rfl rfl ?_
              refine t_call hI (c106 _ 25 (by decide)) Tryz.func106 rfl ?_
              refine t_int .xor _ (run_xorU _ _) rfl rfl ?_
              refine t_int .add _ (run_addU _ _) rfl rfl ?_
              refine t_move rfl ?_
              refine t_idxWQ 4 (by omega) (by omega) ti207.und ti211 rfl rfl ?_
              refine t_loadR1 ti211 rfl rfl ?_
              refine t_move rfl ?_
              refine t_idxWQ 5 (by omega) (by omega) ti207.und ti211 rfl rfl ?_
              refine t_loadR1 ti211 rfl rfl ?_
              refine t_int .and _ (run_andU _ _) rfl rfl ?_
              refine t_move rfl ?_
              refine t_idxWQ 4 (by omega) (by omega) ti207.und ti211 rfl rfl ?_
              refine t_loadR1 ti211 rfl rfl ?_
              refine t_notU rfl ?_
              refine t_move rfl ?_
              refine t_idxWQ 6 (by omega) (by omega) ti207.und ti211 rfl rfl ?_
              refine t_loadR1 ti211 rfl rfl ?_
              refine t_int .and _ (run_andU _ _) rfl rfl ?_
              refine t_int .xor _ (run_xorU _ _) rfl rfl ?_
              refine t_int .add _ (run_addU _ _) rfl rfl ?_
              refine t_move rfl ?_
              refine t_move rfl ?_
              refine t_idxWQ i (by omega) (by omega) ti207.und ti211 rfl rfl ?_
              refine t_loadR1 ti211 rfl rfl ?_
              refine t_int .add _ (run_addU _ _) rfl rfl ?_
              refine t_mvrow rfl ?_
              refine t_move rfl ?_
              refine t_rowIdxQ i (by omega) (by omega) ti207.und ti211 (Or.inr rfl) rfl rfl ?_
              refine t_rowLoadW ti211 rfl rfl (by omega) ?_
              refine t_int .add _ (run_addU _ _) rfl rfl ?_
              refine t_assign rfl ?_
              refine t_end_any ?_ (by kernel_rfl)
              refine nx_then ?_
              refine tr_seq ?_
              refine tr_region_any mixed (by rfl) ?_
              refine t_move rfl ?_
              refine t_idxWQ 0 (by omega) (by omega) ti207.und ti211 rfl rfl ?_
              refine t_loadR1 ti211 rfl rfl ?_
              refine t_call hI (c106 _ 2 (by decide)) Tryz.func106 rfl ?_
              refine t_move rfl ?_
              refine t_idxWQ 0 (by omega) (by omega) ti207.und ti211 rfl rfl ?_
              refine t_loadR1 ti211 rfl rfl ?_
              refine t_call hI (c106 _ 13 (by decide)) Tryz.func106 rfl ?_
              refine t_int .xor _ (run_xorU _ _) rfl rfl ?_
              refine t_move rfl ?_
              refine t_idxWQ 0 (by omega) (by omega) ti207.und ti211 rfl rfl ?_
              refine t_loadR1 ti211 rfl rfl ?_
              refine t_call hI (c106 _ 22 (by decide)) Tryz.func106 rfl ?_
              refine t_int .xor _ (run_xorU _ _) rfl rfl ?_
              refine t_move rfl ?_
              refine t_idxWQ 0 (by omega) (by omega) ti207.und ti211 rfl rfl ?_
              refine t_loadR1 ti211 rfl rfl ?_
              refine t_move rfl ?_
              refine t_idxWQ 1 (by omega) (by omega) ti207.und ti211 rfl rfl ?_
              refine t_loadR1 ti211 rfl rfl ?_
              refine t_int .and _ (run_andU _ _) rfl rfl ?_
              refine t_move rfl ?_
              refine t_idxWQ 0 (by omega) (by omega) ti207.und ti211 rfl rfl ?_
              refine t_loadR1 ti211 rfl rfl ?_
              refine t_move rfl ?_
              refine t_idxWQ 2 (by omega) (by omega) ti207.und ti211 rfl rfl ?_
              refine t_loadR1 ti211 rfl rfl ?_
              refine t_int .and _ (run_andU _ _) rfl rfl ?_
              refine t_int .xor _ (run_xorU _ _) rfl rfl ?_
              refine t_move rfl ?_
              refine t_idxWQ 1 (by omega) (by omega) ti207.und ti211 rfl rfl ?_
              refine t_loadR1 ti211 rfl rfl ?_
              refine t_move rfl ?_
              refine t_idxWQ 2 (by omega) (by omega) ti207.und ti211 rfl rfl ?_
              refine t_loadR1 ti211 rfl rfl ?_
              refine t_int .and _ (run_andU _ _) rfl rfl ?_
              refine t_int .xor _ (run_xorU _ _) rfl rfl ?_
              refine t_int .add _ (run_addU _ _) rfl rfl ?_
              refine t_assign rfl ?_
              refine t_end_any ?_ (by kernel_rfl)
              refine nx_then ?_
              refine tr_region_any mixed (by rfl) ?_
              refine t_move rfl ?_
              refine t_move rfl ?_
              refine t_int .add _ (run_addU _ _) rfl rfl ?_
              refine t_move rfl ?_
              refine t_idxWQ 0 (by omega) (by omega) ti207.und ti211 rfl rfl ?_
              refine t_loadR1 ti211 rfl rfl ?_
              refine t_move rfl ?_
              refine t_idxWQ 1 (by omega) (by omega) ti207.und ti211 rfl rfl ?_
              refine t_loadR1 ti211 rfl rfl ?_
              refine t_move rfl ?_
              refine t_idxWQ 2 (by omega) (by omega) ti207.und ti211 rfl rfl ?_
              refine t_loadR1 ti211 rfl rfl ?_
              refine t_move rfl ?_
              refine t_idxWQ 3 (by omega) (by omega) ti207.und ti211 rfl rfl ?_
              refine t_loadR1 ti211 rfl rfl ?_
              refine t_move rfl ?_
              refine t_int .add _ (run_addU _ _) rfl rfl ?_
              refine t_move rfl ?_
              refine t_idxWQ 4 (by omega) (by omega) ti207.und ti211 rfl rfl ?_
              refine t_loadR1 ti211 rfl rfl ?_
              refine t_move rfl ?_
              refine t_idxWQ 5 (by omega) (by omega) ti207.und ti211 rfl rfl ?_
              refine t_loadR1 ti211 rfl rfl ?_
              refine t_move rfl ?_
              refine t_idxWQ 6 (by omega) (by omega) ti207.und ti211 rfl rfl ?_
              refine t_loadR1 ti211 rfl rfl ?_
              refine t_litW (parts := [(0, .tmp 225), (1, .tmp 228), (2, .tmp 231), (3, .tmp 234), (4, .tmp 239), (5, .tmp 242), (6, .tmp 245), (7, .tmp 248)]) ti207.und ti211 zi211 (.cons rfl rfl (.cons rfl rfl (.cons rfl rfl (.cons rfl rfl (.cons rfl rfl (.cons rfl rfl (.cons rfl rfl (.cons rfl rfl .nil)))))))) 8 rfl rfl rfl ?_
              refine t_assign rfl ?_
              refine t_end_any ?_ (by kernel_rfl)
              refine nx_block ?_
              refine nx_then ?_
              refine tr_region (by rfl) ?_
              refine t_move rfl ?_
              refine t_add rfl rfl (by omega) ?_
              refine t_assign rfl ?_
              refine t_end ?_
              exact nx_loop (i + 1) (by omega) (by omega) (st_is [2, 3, 9] [2, 4, 5, 8, 15, 16] rfl rfl rfl)
            · try simp only [cmpB, decide_eq_true_eq, decide_eq_false_iff_not, Bool.not_eq_true', Bool.not_eq_false', Bool.not_eq_eq_eq_not, Bool.not_true, Bool.not_false] at hc7
              refine tr_exit ?_
              refine xt_then ?_
              refine xt_loop ?_
              refine xt_hit ?_
              refine nx_then ?_
              refine tr_seq ?_
              refine tr_region (by rfl) ?_
              refine t_move rfl ?_
              refine t_len ti207.und slC_form rfl ?_
              refine t_move rfl ?_
              refine t_end ?_
              refine nx_then ?_
              refine tr_block ?_
              obtain rfl : i = 64 := by omega
              refine tr_loop (σ := Nat) (fun i => i ≤ 8) (fun i => [(2, some (boxS z24 24)), (3, some (rowW (addAt (rAt (fun j => byteAt (msgB s) (64 * k2 + j)) (hAt (msgB s) k2) 64) (hAt (msgB s) k2) i).1)), (9, some (rowW (wAt (fun j => byteAt (msgB s) (64 * k2 + j)) 64).1))]) (fun i => [(2, .ptr 2 0), (4, .plain (SlW roundL)), (5, .plain (SlB (msgB s))), (8, EqV (.int .i64 ((64 * k2 : Nat) : Int))), (15, .plain (SlW (rAt (fun j => byteAt (msgB s) (64 * k2 + j)) (hAt (msgB s) k2) 64).1)), (251, EqV (.int .i64 ((rAt (fun j => byteAt (msgB s) (64 * k2 + j)) (hAt (msgB s) k2) 64).1.length : Int))), (252, EqV (.int .i64 (i : Int)))]) (fun i => 8 - i) 0 (by omega) (st_is [2, 3, 9] [2, 4, 5, 8, 15, 251, 252] rfl rfl rfl) (fun i hp => ?_)
              try dsimp only
              have hr8 : (rAt (fun j => byteAt (msgB s) (64 * k2 + j)) (hAt (msgB s) k2) 64).1.length = 8 := (rAt _ _ 64).2
              have ha8 : (addAt (rAt (fun j => byteAt (msgB s) (64 * k2 + j)) (hAt (msgB s) k2) 64) (hAt (msgB s) k2) i).1.length = 8 := (addAt _ _ i).2
              refine tr_seq ?_
              refine tr_region (by rfl) ?_
              refine t_cmp rfl rfl rfl ?_
              refine t_end ?_
              refine nx_then ?_
              refine tr_seq ?_
              refine tr_cond rfl (fun hc8 => ?_) (fun hc8 => ?_)
              · try simp only [cmpB, decide_eq_true_eq, decide_eq_false_iff_not, Bool.not_eq_true', Bool.not_eq_false', Bool.not_eq_eq_eq_not, Bool.not_true, Bool.not_false] at hc8
                refine tr_skip ?_
                refine nx_then ?_
                refine tr_seq ?_
                refine tr_block ?_
                refine tr_seq ?_
                refine tr_region (by rfl) ?_
                refine t_move rfl ?_
                refine t_assign rfl ?_
                refine t_end ?_
                refine nx_then ?_
                refine tr_region_any mixed (by rfl) ?_
                refine t_mvrow rfl ?_
                refine t_move rfl ?_
                refine t_mvrow rfl ?_
                refine t_move rfl ?_
                refine t_rowIdxQ i (by omega) (by omega) ti207.und ti211 (Or.inr rfl) rfl rfl ?_
                refine t_rowLoadW ti211 rfl rfl (by omega) ?_
                refine t_move rfl ?_
                refine t_move rfl ?_
                refine t_idxWQ i (by omega) (by omega) ti207.und ti211 rfl rfl ?_
                refine t_loadR1 ti211 rfl rfl ?_
                refine t_int .add _ (run_addU _ _) rfl rfl ?_
                refine t_rowIdxQ i (by omega) (by omega) ti207.und ti211 (Or.inr rfl) rfl rfl ?_
                refine t_rowStoreW ti211 rfl rfl rfl (by omega) ?_
                refine t_end_any ?_ (by kernel_rfl)
                refine nx_block ?_
                refine nx_then ?_
                refine tr_region (by rfl) ?_
                refine t_add rfl rfl (by omega) ?_
                refine t_move rfl ?_
                refine t_end ?_
                exact nx_loop (i + 1) (by omega) (by omega) (st_is [2, 3, 9] [2, 4, 5, 8, 15, 251, 252] rfl rfl rfl)
              · try simp only [cmpB, decide_eq_true_eq, decide_eq_false_iff_not, Bool.not_eq_true', Bool.not_eq_false', Bool.not_eq_eq_eq_not, Bool.not_true, Bool.not_false] at hc8
                refine tr_exit ?_
                refine xt_then ?_
                refine xt_loop ?_
                refine xt_hit ?_
                refine nx_block ?_
                refine nx_then ?_
                obtain rfl : i = 8 := by omega
                refine tr_region (by rfl) ?_
                refine t_move rfl ?_
                refine t_add rfl rfl (by omega) ?_
                refine t_assign rfl ?_
                refine t_end ?_
                refine nx_freeze 9 rfl ?_
                exact nx_loop (k2 + 1) (by omega) (by omega) (st_is [2, 3] [2, 4, 5, 8] rfl rfl rfl)
      · try simp only [cmpB, decide_eq_true_eq, decide_eq_false_iff_not, Bool.not_eq_true', Bool.not_eq_false', Bool.not_eq_eq_eq_not, Bool.not_true, Bool.not_false] at hc3
        refine tr_exit ?_
        refine xt_then ?_
        refine xt_loop ?_
        refine xt_hit ?_
        refine nx_then ?_
        refine tr_seq ?_
        obtain rfl : k2 = (msgB s).size / 64 := by omega
        refine tr_region (by rfl) ?_
        refine t_allocA zi24 ?_
        refine t_end ?_
        refine nx_then ?_
        refine tr_seq ?_
        refine tr_seq ?_
        refine tr_region (by rfl) ?_
        refine t_move rfl ?_
        refine t_end ?_
        refine nx_then ?_
        refine tr_block ?_
        refine tr_loop (σ := Nat) (fun i => i ≤ 32) (fun i => [(2, some (boxS z24 24)), (3, some (rowW (hAt (msgB s) ((msgB s).size / 64)).1)), (20, some (boxS [sgB (digP (hAt (msgB s) ((msgB s).size / 64)) i)] 24))]) (fun i => [(2, .ptr 2 0), (20, .ptr 20 0), (268, EqV (.int .i64 (i : Int)))]) (fun i => 32 - i) 0 (by omega) (st_is [2, 3, 20] [2, 20, 268] rfl rfl rfl) (fun i hp => ?_)
        try dsimp only
        have hh8 : (hAt (msgB s) ((msgB s).size / 64)).1.length = 8 := (hAt _ _).2
        refine tr_seq ?_
        refine tr_region (by rfl) ?_
        refine t_cmp rfl rfl rfl ?_
        refine t_end ?_
        refine nx_then ?_
        refine tr_seq ?_
        refine tr_cond rfl (fun hc9 => ?_) (fun hc9 => ?_)
        · try simp only [cmpB, decide_eq_true_eq, decide_eq_false_iff_not, Bool.not_eq_true', Bool.not_eq_false', Bool.not_eq_eq_eq_not, Bool.not_true, Bool.not_false] at hc9
          refine tr_skip ?_
          refine nx_then ?_
          refine tr_seq ?_
          refine tr_block ?_
          refine tr_seq ?_
          refine tr_region (by rfl) ?_
          refine t_move rfl ?_
          refine t_assign rfl ?_
          refine t_end ?_
          refine nx_then ?_
          refine tr_region (by rfl) ?_
          refine t_move rfl ?_
          refine t_mvrow rfl ?_
          refine t_move rfl ?_
          refine t_int .quo _ (run_quoN (by omega) (by omega) (by show _ ∧ _; omega)) rfl rfl ?_
          refine t_rowIdxQ (i / 4) (by omega) (by omega) ti207.und ti211 (Or.inr rfl) rfl rfl ?_
          refine t_rowLoadW ti211 rfl rfl (by omega) ?_
          refine t_move rfl ?_
          refine t_int .rem _ (run_remN (by omega) (by omega)) rfl rfl ?_
          refine t_mul rfl rfl (by omega) ?_
          refine t_sub rfl rfl (by omega) ?_
          refine t_convF ti3.und ti34.und rfl (by show _ ∧ _; omega) ?_
          refine t_int .shr _ (run_shrU _ (by omega)) rfl rfl ?_
          rw [show ((24 : Int) - 8 * ((i : Int) % 4)).toNat = 24 - 8 * (i % 4) by omega]
          refine t_convB ti211.und ti5.und rfl ?_
          refine t_elemQ i (by omega) (by omega) ti24 ti5 rfl rfl ?_
          refine t_arrStoreB ti5 rfl rfl rfl (by omega) ?_
          refine t_end ?_
          refine nx_block ?_
          refine nx_then ?_
          refine tr_region (by rfl) ?_
          refine t_add rfl rfl (by omega) ?_
          refine t_move rfl ?_
          refine t_end ?_
          exact nx_loop (i + 1) (by omega) (by omega) (st_is [2, 3, 20] [2, 20, 268] rfl rfl rfl)
        · try simp only [cmpB, decide_eq_true_eq, decide_eq_false_iff_not, Bool.not_eq_true', Bool.not_eq_false', Bool.not_eq_eq_eq_not, Bool.not_true, Bool.not_false] at hc9
          refine tr_exit ?_
          refine xt_then ?_
          refine xt_loop ?_
          refine xt_hit ?_
          refine nx_then ?_
          refine tr_seq ?_
          refine tr_region (by rfl) ?_
          refine t_load ti24 rfl rfl rfl rfl rfl ?_
          refine t_storeA ti24 rfl rfl rfl rfl rfl ?_
          refine t_end ?_
          refine nx_then ?_
          refine tr_ret ?_
          obtain rfl : i = 32 := by omega
          exact rt_out1 rfl (.cell ti24 rfl rfl rfl .nil)
end Go.Eng
