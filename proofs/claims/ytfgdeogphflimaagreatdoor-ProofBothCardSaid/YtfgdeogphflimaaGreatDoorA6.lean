/- Walks: digests of texts, steps of chains. Printed by wip/tools/gen.py out of wip/proofs/A6.py. -/
import Derived.Test.YtfgdeogphflimaaGreatDoorA5
set_option linter.unusedVariables false
set_option linter.unusedSimpArgs false
set_option maxHeartbeats 4000000
namespace Go.Eng
open Go Go.Proofs
/-- A list that is small enough. -/
def Small (l : List ByteArray) : Prop := (listB l).size < 35184372088832 ∧ l.length < 4096
theorem items_small {l : List ByteArray} {n : Nat} (h : ∀ s ∈ l, s.size ≤ n) (hn : n < 9223372036854775808) : (itemsB l).size ≤ l.length * (n + 9) := by
  induction l with
  | nil => simp [itemsB]
  | cons s l ih =>
    have h1 := ih fun t ht => h t (by simp [ht])
    have h2 := h s (by simp)
    have h3 := numB_size (n := s.size) (by omega)
    rw [itemsB, textB, ByteArray.size_append, ByteArray.size_append, List.length_cons, Nat.add_mul]
    omega
theorem small_of {l : List ByteArray} (n : Nat) (h : ∀ s ∈ l, s.size ≤ n) (hn : n < 4398046511104) (hl : l.length ≤ 7) : Small l := by
  have h1 := items_small h (by omega)
  have h2 := numB_size (n := l.length) (by omega)
  have h3 : l.length * (n + 9) ≤ 7 * (n + 9) := Nat.mul_le_mul_right _ hl
  refine ⟨?_, by omega⟩
  rw [list_sz]
  omega
theorem small2 {p a b : ByteArray} (hp : p.size ≤ 8) (h : a.size + b.size < 4398046511096) : Small (p :: [a, b]) :=
  small_of (a.size + b.size + 8) (fun s hs => by simp at hs; rcases hs with rfl | rfl | rfl <;> omega) (by omega) (by simp)
theorem small3 {p a b c : ByteArray} (hp : p.size ≤ 8) (h : a.size + b.size + c.size < 4398046511096) : Small (p :: [a, b, c]) :=
  small_of (a.size + b.size + c.size + 8) (fun s hs => by simp at hs; rcases hs with rfl | rfl | rfl | rfl <;> omega) (by omega) (by simp)
/-- The digest of a purpose and parts. -/
def sumB (p : ByteArray) (parts : List ByteArray) : Bytes 32 := shaB (listB (p :: parts))
def cutB (d : Bytes 32) : Bytes 16 := ⟨d.1.extract 0 16, by have := d.2; rw [ByteArray.size_extract]; omega⟩
def restB (d : Bytes 32) : Bytes 16 := ⟨d.1.extract 16 32, by have := d.2; rw [ByteArray.size_extract]; omega⟩
theorem agg_split (d : Bytes 32) : aggS [sgB d] = aggS [sgB (cutB d), sgB (restB d)] := by
  unfold aggS
  have h : d.1.data.size = 32 := d.2
  have e : d.1.data.toList = (d.1.extract 0 16).data.toList ++ (d.1.extract 16 32).data.toList := by
    rw [← Array.toList_append, ByteArray.data_extract, ByteArray.data_extract, Array.extract_append_extract]
    simp only [Array.toList_extract, Nat.min_def, Nat.max_def]
    simp
    exact (List.take_of_length_le (by simp [h])).symm
  have e2 : flat [sgB d] = flat [sgB (cutB d), sgB (restB d)] := by
    simp only [flat, List.flatMap_cons, List.flatMap_nil, List.append_nil, sgB, byteCells, cutB, restB, ← List.map_append]
    rw [← e]
  rw [e2]
def cutP (d : Bytes 32) : Nat → Bytes 16
  | 0 => z8 16
  | i + 1 => (cutP d i).put i (d.at i)
theorem Bytes.ext' {n : Nat} {a b : Bytes n} (h : ∀ i, i < n → a.at i = b.at i) : a = b := by
  apply Subtype.ext
  apply bytes_ext
  have ha : a.1.data.size = n := a.2
  have hb : b.1.data.size = n := b.2
  apply List.ext_getElem
  · simp [ha, hb]
  · intro i h1 h2
    have hi : i < n := by simpa [ha] using h1
    have := h i hi
    simpa [Bytes.at, ha, hb, hi] using this
theorem put_at {n : Nat} (d : Bytes n) (i j : Nat) (x : UInt8) (hi : i < n) : (d.put i x).at j = if j = i then x else d.at j := by
  have hd : d.1.data.size = n := d.2
  simp only [Bytes.put, Bytes.at, Array.getD_eq_getD_getElem?, Array.getElem?_setIfInBounds]
  by_cases h : j = i
  · subst h
    simp [hd, hi]
  · rw [if_neg (fun e => h e.symm), if_neg h]
theorem cutP_at (d : Bytes 32) : ∀ (k j : Nat), k ≤ 16 → j < k → (cutP d k).at j = d.at j
  | 0, _, _, h => by omega
  | k + 1, j, hk, h => by
    rw [cutP, put_at _ _ _ _ (by omega)]
    split
    · rename_i e; rw [e]
    · exact cutP_at d k j (by omega) (by omega)
theorem cut_at (d : Bytes 32) {i : Nat} (h : i < 16) : (cutB d).at i = d.at i := by
  have hd : d.1.data.size = 32 := d.2
  simp only [Bytes.at, cutB, Array.getD_eq_getD_getElem?, ByteArray.data_extract, Array.getElem?_extract]
  simp [hd, h]
theorem cutP_all (d : Bytes 32) : cutP d 16 = cutB d := Bytes.ext' fun i hi => by rw [cutP_at d 16 i (by omega) hi, cut_at d hi]

def kS : ByteArray := ⟨#[115]⟩
def kK : ByteArray := ⟨#[107]⟩
def kL : ByteArray := ⟨#[108]⟩
/-- One step of a chain, several of them. -/
def stepB (i c : Nat) (x : Bytes 16) (k : Nat) : Bytes 16 := cutB (sumB kS [x.1, numB k, numB i ++ numB c])
def walkB (i c : Nat) (x : Bytes 16) (a : Nat) : Nat → Bytes 16
  | 0 => x
  | n + 1 => stepB i c (walkB i c x a n) (a + n)
def secretB (seed : ByteArray) (i c : Nat) : Bytes 16 := cutB (sumB kK [seed, numB i, numB c])
def leafB (ends : ByteArray) (i : Nat) : Bytes 16 := cutB (sumB kL [ends, numB i])
/-- A place. -/
abbrev placeS (i c : Nat) : Segs := [sg1 (.int .i64 (i : Int)), sg1 (.int .i64 (c : Int))]

theorem c112 (p : ByteArray) (l : List ByteArray) (h : Small (p :: l)) : Fun Laid Tryz.prog 112 [IsV (.string p), SlS l] (IsV (aggS [sgB (sumB p l)])) := by
  refine fun_of 11 Tryz.func112 rfl rfl rfl fun w0 H hI => ?_
  refine tr_seq ?_
  refine tr_region (by rfl) ?_
  refine t_allocA zi24 ?_
  refine t_end ?_
  refine nx_then ?_
  refine tr_seq ?_
  refine tr_region (by rfl) ?_
  refine t_move rfl ?_
  refine t_litSR (parts := [(0, .tmp 5)]) ti142.und ti9 zi9 (.cons rfl rfl .nil) 1 rfl rfl rfl ?_
  refine t_move rfl ?_
  refine t_appendD ti142.und ti9 zi9 rfl rfl rfl (src_data ti142.und (strs_one _) rfl) (by have := h.2; simp at this; show (1 + l.length) * 16 ≤ _; omega) (show rowR 1 ([p].length + l.length) ([p].map Value.string ++ l.map Value.string) = rowR 1 (p :: l).length ((p :: l).map Value.string) by simp [Nat.add_comm]) ?_
  refine t_call hI (c75 (p :: l) (by have := h.1; omega) (by have := h.2; omega)) Tryz.func75 rfl ?_
  refine t_call hI (c160 _ (by exact h.1)) Tryz.func160 rfl ?_
  refine t_storeA ti24 rfl rfl rfl rfl rfl ?_
  refine t_end ?_
  refine nx_then ?_
  refine tr_ret ?_
  exact rt_out1 rfl (.cell ti24 rfl rfl rfl .nil)
theorem c227 (p : ByteArray) (l : List ByteArray) (h : Small (p :: l)) : Fun Laid Tryz.prog 227 [IsV (.string p), SlS l] (IsV (aggS [sgB (sumB p l)])) := by
  refine fun_of 11 Tryz.func227 rfl rfl rfl fun w0 H hI => ?_
  refine tr_seq ?_
  refine tr_region (by rfl) ?_
  refine t_allocA zi24 ?_
  refine t_end ?_
  refine nx_then ?_
  refine tr_seq ?_
  refine tr_region (by rfl) ?_
  refine t_move rfl ?_
  refine t_litSR (parts := [(0, .tmp 5)]) ti142.und ti9 zi9 (.cons rfl rfl .nil) 1 rfl rfl rfl ?_
  refine t_move rfl ?_
  refine t_appendD ti142.und ti9 zi9 rfl rfl rfl (src_data ti142.und (strs_one _) rfl) (by have := h.2; simp at this; show (1 + l.length) * 16 ≤ _; omega) (show rowR 1 ([p].length + l.length) ([p].map Value.string ++ l.map Value.string) = rowR 1 (p :: l).length ((p :: l).map Value.string) by simp [Nat.add_comm]) ?_
  refine t_call hI (c102 (p :: l) (by have := h.1; omega) (by have := h.2; omega)) Tryz.func102 rfl ?_
  refine t_call hI (c58 _ (by exact h.1)) Tryz.func58 rfl ?_
  refine t_storeA ti24 rfl rfl rfl rfl rfl ?_
  refine t_end ?_
  refine nx_then ?_
  refine tr_ret ?_
  exact rt_out1 rfl (.cell ti24 rfl rfl rfl .nil)
theorem c124 (d : Bytes 32) : Fun Laid Tryz.prog 124 [IsV (aggS [sgB d])] (IsV (aggS [sgB (cutB d)])) := by
  refine fun_of 6 Tryz.func124 rfl rfl rfl fun w0 H hI => ?_
  rw [agg_split d]
  refine tr_seq ?_
  refine tr_region (by rfl) ?_
  refine t_boxA rfl ?_
  refine t_allocA zi71 ?_
  refine t_end ?_
  refine nx_then ?_
  refine tr_seq ?_
  refine tr_region (by rfl) ?_
  refine t_slarrc 0 16 ti24 ti5 rfl rfl ⟨_, rfl⟩ (by decide) (by decide) (by decide) rfl ?_
  refine t_s2aps (e := 5) ti71.und rfl rfl ?_
  refine t_load ti71 rfl rfl rfl rfl rfl ?_
  refine t_storeA ti71 rfl rfl rfl rfl rfl ?_
  refine t_end ?_
  refine nx_then ?_
  refine tr_ret ?_
  exact rt_out1 rfl (.cell ti71 rfl rfl rfl .nil)
theorem c231 (d : Bytes 32) : Fun Laid Tryz.prog 231 [IsV (aggS [sgB d])] (IsV (aggS [sgB (cutB d)])) := by
  refine fun_of 15 Tryz.func231 rfl rfl rfl fun w0 H hI => ?_
  refine tr_seq ?_
  refine tr_region (by rfl) ?_
  refine t_boxA rfl ?_
  refine t_allocA zi71 ?_
  refine t_end ?_
  refine nx_then ?_
  refine tr_seq ?_
  refine tr_region (by rfl) ?_
  refine t_allocA zi71 ?_
  refine t_end ?_
  refine nx_then ?_
  refine tr_seq ?_
  refine tr_seq ?_
  refine tr_region (by rfl) ?_
  refine t_move rfl ?_
  refine t_end ?_
  refine nx_then ?_
  refine tr_block ?_
  refine tr_loop (σ := Nat) (fun i => i ≤ 16) (fun i => [(1, some (boxS [sgB d] 24)), (2, some (boxS z71 71)), (3, some (boxS [sgB (cutP d i)] 71))]) (fun i => [(1, .ptr 1 0), (2, .ptr 2 0), (3, .ptr 3 0), (5, EqV (.int .i64 (i : Int)))]) (fun i => 16 - i) 0 (by omega) (st_is [1, 2, 3] [1, 2, 3, 5] rfl rfl rfl) (fun i hp => ?_)
  try dsimp only
  refine tr_seq ?_
  refine tr_region (by rfl) ?_
  refine t_cmp rfl rfl rfl ?_
  refine t_end ?_
  refine nx_then ?_
  refine tr_seq ?_
  refine tr_cond rfl (fun hc1 => ?_) (fun hc1 => ?_)
  · try simp only [cmpB, decide_eq_true_eq, decide_eq_false_iff_not, Bool.not_eq_true', Bool.not_eq_false', Bool.not_eq_eq_eq_not, Bool.not_true, Bool.not_false] at hc1
    refine tr_skip ?_
    refine nx_then ?_
    refine tr_seq ?_
    refine tr_block ?_
    refine tr_seq ?_
    refine tr_region (by rfl) ?_
    refine t_move rfl ?_
    refine t_assign rfl ?_
    refine t_end ?_
    refine nx_then ?_
    refine tr_region (by rfl) ?_
    refine t_move rfl ?_
    refine t_move rfl ?_
    refine t_elemQ i (by omega) (by omega) ti24 ti5 rfl rfl ?_
    refine t_arrLoadB ti5 rfl rfl (by omega) ?_
    refine t_elemQ i (by omega) (by omega) ti71 ti5 rfl rfl ?_
    refine t_arrStoreB ti5 rfl rfl rfl (by omega) ?_
    refine t_end ?_
    refine nx_block ?_
    refine nx_then ?_
    refine tr_region (by rfl) ?_
    refine t_add rfl rfl (by omega) ?_
    refine t_move rfl ?_
    refine t_end ?_
    exact nx_loop (i + 1) (by omega) (by omega) (st_is [1, 2, 3] [1, 2, 3, 5] rfl rfl rfl)
  · try simp only [cmpB, decide_eq_true_eq, decide_eq_false_iff_not, Bool.not_eq_true', Bool.not_eq_false', Bool.not_eq_eq_eq_not, Bool.not_true, Bool.not_false] at hc1
    refine tr_exit ?_
    refine xt_then ?_
    refine xt_loop ?_
    refine xt_hit ?_
    refine nx_then ?_
    refine tr_seq ?_
    refine tr_region (by rfl) ?_
    refine t_load ti71 rfl rfl rfl rfl rfl ?_
    refine t_storeA ti71 rfl rfl rfl rfl rfl ?_
    refine t_end ?_
    refine nx_then ?_
    refine tr_ret ?_
    obtain rfl : i = 16 := by omega
    rw [cutP_all]
    exact rt_out1 rfl (.cell ti71 rfl rfl rfl .nil)
theorem c169 (i c : Nat) (hh : i < 4611686018427387904 ∧ c < 4611686018427387904) : Fun Laid Tryz.prog 169 [IsV (aggS (placeS i c))] (IsV (.string (numB i ++ numB c))) := by
  refine fun_of 10 Tryz.func169 rfl rfl rfl fun w0 H hI => ?_
  have hn_i := numB_size (n := i) (by omega)
  have hn_c := numB_size (n := c) (by omega)
  refine tr_seq ?_
  refine tr_region (by rfl) ?_
  refine t_boxA rfl ?_
  refine t_assign rfl ?_
  refine t_end ?_
  refine nx_then ?_
  refine tr_seq ?_
  refine tr_region_any mixed (by rfl) ?_
  refine t_fld fi225_0 ti3 rfl ?_
  refine t_load ti3 rfl rfl rfl rfl rfl ?_
  refine t_call hI (c76 _ (by omega)) Tryz.func76 rfl ?_
  refine t_fld fi225_1 ti3 rfl ?_
  refine t_load ti3 rfl rfl rfl rfl rfl ?_
  refine t_call hI (c76 _ (by omega)) Tryz.func76 rfl ?_
  refine t_cat rfl rfl (by omega) ?_
  refine t_assign rfl ?_
  refine t_end_any ?_ (by kernel_rfl)
  refine nx_then ?_
  refine tr_ret ?_
  exact rt_out1 rfl (.tmp rfl .nil)
theorem c241 (x : Bytes 16) (i c k : Nat) (hh : i < 4611686018427387904 ∧ c < 4611686018427387904 ∧ k < 4611686018427387904) : Fun Laid Tryz.prog 241 [IsV (aggS [sgB x]), IsV (.int .i64 i), IsV (.int .i64 c), IsV (.int .i64 k)] (IsV (aggS [sgB (stepB i c x k)])) := by
  refine fun_of 23 Tryz.func241 rfl rfl rfl fun w0 H hI => ?_
  have hsx := x.2
  have hn_i := numB_size (n := i) (by omega)
  have hn_c := numB_size (n := c) (by omega)
  have hn_k := numB_size (n := k) (by omega)
  refine tr_seq ?_
  refine tr_region (by rfl) ?_
  refine t_boxA rfl ?_
  refine t_allocA zi71 ?_
  refine t_end ?_
  refine nx_then ?_
  refine tr_seq ?_
  refine tr_region_any mixed (by rfl) ?_
  refine t_slarr ti71 ti5 rfl rfl ?_
  refine t_strBoxB ti86.und ti5.und ti9.und rfl rfl rfl rfl rfl ?_
  refine t_move rfl ?_
  refine t_call hI (c150 _ (by omega)) Tryz.func150 rfl ?_
  refine t_move rfl ?_
  refine t_max rfl rfl ?_
  rw [show max (i : Int) 0 = (i : Int) by omega]
  refine t_call hI (c150 _ (by omega)) Tryz.func150 rfl ?_
  refine t_move rfl ?_
  refine t_max rfl rfl ?_
  rw [show max (c : Int) 0 = (c : Int) by omega]
  refine t_call hI (c150 _ (by omega)) Tryz.func150 rfl ?_
  refine t_cat rfl rfl (by omega) ?_
  have hap := ByteArray.size_append (a := numB i) (b := numB c)
  refine t_litS (parts := [(0, .tmp 10), (1, .tmp 12), (2, .tmp 19)]) ti142.und ti9 zi9 (.cons rfl rfl (.cons rfl rfl (.cons rfl rfl .nil))) 3 rfl rfl rfl ?_
  refine t_call hI (c227 _ _ (small3 (by decide) (by omega))) Tryz.func227 rfl ?_
  refine t_call hI (c231 _) Tryz.func231 rfl ?_
  refine t_storeA ti71 rfl rfl rfl rfl rfl ?_
  refine t_end_any ?_ (by kernel_rfl)
  refine nx_then ?_
  refine tr_ret ?_
  exact rt_out1 rfl (.cell ti71 rfl rfl rfl .nil)
theorem c118 (x : Bytes 16) (i c a b : Nat) (hh : i < 4611686018427387904 ∧ c < 4611686018427387904 ∧ a ≤ b ∧ b ≤ 15) : Fun Laid Tryz.prog 118 [IsV (aggS [sgB x]), IsV (aggS (placeS i c)), IsV (.int .i64 a), IsV (.int .i64 b)] (IsV (aggS [sgB (walkB i c x a (b - a))])) := by
  refine fun_of 28 Tryz.func118 rfl rfl rfl fun w0 H hI => ?_
  have hn_i := numB_size (n := i) (by omega)
  have hn_c := numB_size (n := c) (by omega)
  have hap := ByteArray.size_append (a := numB i) (b := numB c)
  refine tr_seq ?_
  refine tr_region (by rfl) ?_
  refine t_boxA rfl ?_
  refine t_boxA rfl ?_
  refine t_allocA zi71 ?_
  refine t_end ?_
  refine nx_then ?_
  refine tr_seq ?_
  refine tr_seq ?_
  refine tr_region (by rfl) ?_
  refine t_move rfl ?_
  refine t_max rfl rfl ?_
  refine t_assign rfl ?_
  refine t_end ?_
  refine nx_then ?_
  refine tr_block ?_
  rw [show max (a : Int) 0 = ((a + 0 : Nat) : Int) by omega]
  refine tr_loop (σ := Nat) (fun n => a + n ≤ b) (fun n => [(4, some (boxS [sgB (walkB i c x a n)] 71)), (5, some (boxS (placeS i c) 225)), (8, some (boxS z71 71))]) (fun n => [(3, EqV (.int .i64 b)), (4, .ptr 4 0), (5, .ptr 5 0), (8, .ptr 8 0), (9, EqV (.int .i64 ((a + n : Nat) : Int)))]) (fun n => b - (a + n)) 0 (by omega) (st_is [4, 5, 8] [3, 4, 5, 8, 9] rfl rfl rfl) (fun n hp => ?_)
  try dsimp only
  have hsx := (walkB i c x a n).2
  have hn_n := numB_size (n := a + n) (by omega)
  refine tr_seq ?_
  refine tr_seq ?_
  refine tr_region (by rfl) ?_
  refine t_move rfl ?_
  refine t_move rfl ?_
  refine t_min rfl rfl ?_
  rw [show min (b : Int) 15 = (b : Int) by omega]
  refine t_cmp rfl rfl rfl ?_
  refine t_end ?_
  refine nx_then ?_
  refine tr_cond rfl (fun hc1 => ?_) (fun hc1 => ?_)
  · try simp only [cmpB, decide_eq_true_eq, decide_eq_false_iff_not, Bool.not_eq_true', Bool.not_eq_false', Bool.not_eq_eq_eq_not, Bool.not_true, Bool.not_false] at hc1
    refine tr_skip ?_
    refine nx_then ?_
    refine tr_seq ?_
    refine tr_block ?_
    refine tr_region_any mixed (by rfl) ?_
    refine t_slarr ti71 ti5 rfl rfl ?_
    refine t_strBoxB ti86.und ti5.und ti9.und rfl rfl rfl rfl rfl ?_
    refine t_move rfl ?_
    refine t_call hI (c76 _ (by omega)) Tryz.func76 rfl ?_
    refine t_load ti225 rfl rfl rfl rfl rfl ?_
    refine t_call hI (c169 _ _ (by omega)) Tryz.func169 rfl ?_
    refine t_litS (parts := [(0, .tmp 19), (1, .tmp 21), (2, .tmp 23)]) ti142.und ti9 zi9 (.cons rfl rfl (.cons rfl rfl (.cons rfl rfl .nil))) 3 rfl rfl rfl ?_
    refine t_call hI (c112 _ _ (small3 (by decide) (by omega))) Tryz.func112 rfl ?_
    refine t_call hI (c124 _) Tryz.func124 rfl ?_
    refine t_storeA ti71 rfl rfl rfl rfl rfl ?_
    refine t_end_any ?_ (by kernel_rfl)
    refine nx_block ?_
    refine nx_then ?_
    refine tr_region (by rfl) ?_
    refine t_move rfl ?_
    refine t_add rfl rfl (by omega) ?_
    refine t_assign rfl ?_
    refine t_end ?_
    exact nx_loop (n + 1) (by omega) (by omega) (st_is [4, 5, 8] [3, 4, 5, 8, 9] rfl rfl rfl)
  · try simp only [cmpB, decide_eq_true_eq, decide_eq_false_iff_not, Bool.not_eq_true', Bool.not_eq_false', Bool.not_eq_eq_eq_not, Bool.not_true, Bool.not_false] at hc1
    refine tr_exit ?_
    refine xt_then ?_
    refine xt_loop ?_
    refine xt_hit ?_
    refine nx_then ?_
    refine tr_seq ?_
    refine tr_region (by rfl) ?_
    refine t_load ti71 rfl rfl rfl rfl rfl ?_
    refine t_storeA ti71 rfl rfl rfl rfl rfl ?_
    refine t_end ?_
    refine nx_then ?_
    refine tr_ret ?_
    obtain rfl : n = b - a := by omega
    exact rt_out1 rfl (.cell ti71 rfl rfl rfl .nil)
theorem c229 (x : Bytes 16) (i c a b : Nat) (hh : i < 4611686018427387904 ∧ c < 4611686018427387904 ∧ a ≤ b ∧ b ≤ 15) : Fun Laid Tryz.prog 229 [IsV (aggS [sgB x]), IsV (.int .i64 i), IsV (.int .i64 c), IsV (.int .i64 a), IsV (.int .i64 b)] (IsV (aggS [sgB (walkB i c x a (b - a))])) := by
  refine fun_of 28 Tryz.func229 rfl rfl rfl fun w0 H hI => ?_
  refine tr_seq ?_
  refine tr_region (by rfl) ?_
  refine t_boxA rfl ?_
  refine t_allocA zi71 ?_
  refine t_end ?_
  refine nx_then ?_
  refine tr_seq ?_
  refine tr_seq ?_
  refine tr_region (by rfl) ?_
  refine t_move rfl ?_
  refine t_cmp rfl rfl rfl ?_
  refine t_end ?_
  refine nx_then ?_
  refine tr_cond rfl (fun hc1 => ?_) (fun hc1 => ?_)
  · try simp only [cmpB, decide_eq_true_eq, decide_eq_false_iff_not, Bool.not_eq_true', Bool.not_eq_false', Bool.not_eq_eq_eq_not, Bool.not_true, Bool.not_false] at hc1
    exact absurd hc1 (by omega)
  · try simp only [cmpB, decide_eq_true_eq, decide_eq_false_iff_not, Bool.not_eq_true', Bool.not_eq_false', Bool.not_eq_eq_eq_not, Bool.not_true, Bool.not_false] at hc1
    refine tr_skip ?_
    refine nx_then ?_
    refine tr_seq ?_
    refine tr_seq ?_
    refine tr_region (by rfl) ?_
    refine t_move rfl ?_
    refine t_cmp rfl rfl rfl ?_
    refine t_end ?_
    refine nx_then ?_
    refine tr_cond rfl (fun hc2 => ?_) (fun hc2 => ?_)
    · try simp only [cmpB, decide_eq_true_eq, decide_eq_false_iff_not, Bool.not_eq_true', Bool.not_eq_false', Bool.not_eq_eq_eq_not, Bool.not_true, Bool.not_false] at hc2
      exact absurd hc2 (by omega)
    · try simp only [cmpB, decide_eq_true_eq, decide_eq_false_iff_not, Bool.not_eq_true', Bool.not_eq_false', Bool.not_eq_eq_eq_not, Bool.not_true, Bool.not_false] at hc2
      refine tr_skip ?_
      refine nx_then ?_
      refine tr_seq ?_
      refine tr_seq ?_
      refine tr_region (by rfl) ?_
      refine t_move rfl ?_
      refine t_assign rfl ?_
      refine t_end ?_
      refine nx_then ?_
      refine tr_block ?_
      refine tr_loop (σ := Nat) (fun n => a + n ≤ b) (fun n => [(5, some (boxS [sgB (walkB i c x a n)] 71)), (10, some (boxS z71 71))]) (fun n => [(1, EqV (.int .i64 i)), (2, EqV (.int .i64 c)), (4, EqV (.int .i64 b)), (5, .ptr 5 0), (10, .ptr 10 0), (11, EqV (.int .i64 ((a + n : Nat) : Int)))]) (fun n => b - (a + n)) 0 (by omega) (st_is [5, 10] [1, 2, 4, 5, 10, 11] rfl rfl rfl) (fun n hp => ?_)
      try dsimp only
      refine tr_seq ?_
      refine tr_seq ?_
      refine tr_region (by rfl) ?_
      refine t_move rfl ?_
      refine t_move rfl ?_
      refine t_cmp rfl rfl rfl ?_
      refine t_end ?_
      refine nx_then ?_
      refine tr_cond rfl (fun hc3 => ?_) (fun hc3 => ?_)
      · try simp only [cmpB, decide_eq_true_eq, decide_eq_false_iff_not, Bool.not_eq_true', Bool.not_eq_false', Bool.not_eq_eq_eq_not, Bool.not_true, Bool.not_false] at hc3
        refine tr_skip ?_
        refine nx_then ?_
        refine tr_seq ?_
        refine tr_block ?_
        refine tr_region (by rfl) ?_
        refine t_load ti71 rfl rfl rfl rfl rfl ?_
        refine t_move rfl ?_
        refine t_move rfl ?_
        refine t_move rfl ?_
        refine t_call hI (c241 _ _ _ _ (by omega)) Tryz.func241 rfl ?_
        refine t_storeA ti71 rfl rfl rfl rfl rfl ?_
        refine t_end ?_
        refine nx_block ?_
        refine nx_then ?_
        refine tr_region (by rfl) ?_
        refine t_move rfl ?_
        refine t_add rfl rfl (by omega) ?_
        refine t_assign rfl ?_
        refine t_end ?_
        exact nx_loop (n + 1) (by omega) (by omega) (st_is [5, 10] [1, 2, 4, 5, 10, 11] rfl rfl rfl)
      · try simp only [cmpB, decide_eq_true_eq, decide_eq_false_iff_not, Bool.not_eq_true', Bool.not_eq_false', Bool.not_eq_eq_eq_not, Bool.not_true, Bool.not_false] at hc3
        refine tr_exit ?_
        refine xt_then ?_
        refine xt_loop ?_
        refine xt_hit ?_
        refine nx_then ?_
        refine tr_seq ?_
        refine tr_region (by rfl) ?_
        refine t_load ti71 rfl rfl rfl rfl rfl ?_
        refine t_storeA ti71 rfl rfl rfl rfl rfl ?_
        refine t_end ?_
        refine nx_then ?_
        refine tr_ret ?_
        obtain rfl : n = b - a := by omega
        exact rt_out1 rfl (.cell ti71 rfl rfl rfl .nil)
theorem c119 (seed : ByteArray) (i c : Nat) (hh : seed.size ≤ 64 ∧ i < 4611686018427387904 ∧ c < 4611686018427387904) : Fun Laid Tryz.prog 119 [IsV (.string seed), IsV (aggS (placeS i c))] (IsV (aggS [sgB (secretB seed i c)])) := by
  refine fun_of 15 Tryz.func119 rfl rfl rfl fun w0 H hI => ?_
  have hn_i := numB_size (n := i) (by omega)
  have hn_c := numB_size (n := c) (by omega)
  refine tr_seq ?_
  refine tr_region (by rfl) ?_
  refine t_boxA rfl ?_
  refine t_allocA zi71 ?_
  refine t_end ?_
  refine nx_then ?_
  refine tr_seq ?_
  refine tr_region_any mixed (by rfl) ?_
  refine t_move rfl ?_
  refine t_fld fi225_0 ti3 rfl ?_
  refine t_load ti3 rfl rfl rfl rfl rfl ?_
  refine t_call hI (c76 _ (by omega)) Tryz.func76 rfl ?_
  refine t_fld fi225_1 ti3 rfl ?_
  refine t_load ti3 rfl rfl rfl rfl rfl ?_
  refine t_call hI (c76 _ (by omega)) Tryz.func76 rfl ?_
  refine t_litS (parts := [(0, .tmp 5), (1, .tmp 8), (2, .tmp 11)]) ti142.und ti9 zi9 (.cons rfl rfl (.cons rfl rfl (.cons rfl rfl .nil))) 3 rfl rfl rfl ?_
  refine t_call hI (c112 _ _ (small3 (by decide) (by omega))) Tryz.func112 rfl ?_
  refine t_call hI (c124 _) Tryz.func124 rfl ?_
  refine t_storeA ti71 rfl rfl rfl rfl rfl ?_
  refine t_end_any ?_ (by kernel_rfl)
  refine nx_then ?_
  refine tr_ret ?_
  exact rt_out1 rfl (.cell ti71 rfl rfl rfl .nil)
theorem c120 (ends : ByteArray) (i : Nat) (hh : ends.size ≤ 1024 ∧ i < 4611686018427387904) : Fun Laid Tryz.prog 120 [SlB ends, IsV (.int .i64 i)] (IsV (aggS [sgB (leafB ends i)])) := by
  refine fun_of 12 Tryz.func120 rfl rfl rfl fun w0 H hI => ?_
  have hn_i := numB_size (n := i) (by omega)
  refine tr_seq ?_
  refine tr_region (by rfl) ?_
  refine t_allocA zi71 ?_
  refine t_end ?_
  refine nx_then ?_
  refine tr_seq ?_
  refine tr_region_any mixed (by rfl) ?_
  refine t_move rfl ?_
  refine t_strB ti86.und ti5.und ti9.und rfl ?_
  refine t_move rfl ?_
  refine t_call hI (c76 _ (by omega)) Tryz.func76 rfl ?_
  refine t_litS (parts := [(0, .tmp 6), (1, .tmp 8)]) ti142.und ti9 zi9 (.cons rfl rfl (.cons rfl rfl .nil)) 2 rfl rfl rfl ?_
  refine t_call hI (c112 _ _ (small2 (by decide) (by omega))) Tryz.func112 rfl ?_
  refine t_call hI (c124 _) Tryz.func124 rfl ?_
  refine t_storeA ti71 rfl rfl rfl rfl rfl ?_
  refine t_end_any ?_ (by kernel_rfl)
  refine nx_then ?_
  refine tr_ret ?_
  exact rt_out1 rfl (.cell ti71 rfl rfl rfl .nil)
theorem c230 (ends : ByteArray) (i : Nat) (hh : ends.size ≤ 1024 ∧ i < 4611686018427387904) : Fun Laid Tryz.prog 230 [IsV (.string ends), IsV (.int .i64 i)] (IsV (aggS [sgB (leafB ends i)])) := by
  refine fun_of 11 Tryz.func230 rfl rfl rfl fun w0 H hI => ?_
  have hn_i := numB_size (n := i) (by omega)
  refine tr_seq ?_
  refine tr_region (by rfl) ?_
  refine t_allocA zi71 ?_
  refine t_end ?_
  refine nx_then ?_
  refine tr_seq ?_
  refine tr_region (by rfl) ?_
  refine t_move rfl ?_
  refine t_move rfl ?_
  refine t_call hI (c242 _ (by omega)) Tryz.func242 rfl ?_
  refine t_litS (parts := [(0, .tmp 5), (1, .tmp 7)]) ti142.und ti9 zi9 (.cons rfl rfl (.cons rfl rfl .nil)) 2 rfl rfl rfl ?_
  refine t_call hI (c227 _ _ (small2 (by decide) (by omega))) Tryz.func227 rfl ?_
  refine t_call hI (c231 _) Tryz.func231 rfl ?_
  refine t_storeA ti71 rfl rfl rfl rfl rfl ?_
  refine t_end ?_
  refine nx_then ?_
  refine tr_ret ?_
  exact rt_out1 rfl (.cell ti71 rfl rfl rfl .nil)
end Go.Eng
