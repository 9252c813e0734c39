/- Plain law: what is signed verifies. -/
import Derived.Test.YtfgdeogphflimaaGreatDoorB2
set_option linter.unusedVariables false
set_option linter.unusedSimpArgs false
namespace Go.Eng
open Go

theorem ext_list (s : ByteArray) (a b : Nat) : (s.extract a b).data.toList = (s.data.toList.drop a).take (b - a) := by
  rw [ByteArray.data_extract, Array.toList_extract, List.extract_eq_take_drop]
theorem catN_ext (f : Nat → Bytes 16) (t : ByteArray) : ∀ (n c : Nat), c < n → ((catN f n ++ t).extract (16 * c) (16 * c + 16)) = (f c).1
  | 0, _, h => by omega
  | n + 1, c, h => by
    have hs := catN_size f n
    have hf := (f c).2
    by_cases hc : c < n
    · have ih := catN_ext f ((f n).1 ++ t) n c hc
      rw [catN, append_assocB]
      exact ih
    · obtain rfl : c = n := by omega
      apply bytes_ext
      rw [ext_list, catN, append_assocB, data_append, data_append]
      have h1 : (catN f c).data.toList.length = 16 * c := by rw [list_size]; exact hs
      have h2 : (f c).1.data.toList.length = 16 := by rw [list_size]; exact hf
      rw [List.drop_append_of_le_length (by omega), List.drop_of_length_le (by omega), List.nil_append, Nat.add_sub_cancel_left, List.take_append_of_le_length (by omega), List.take_of_length_le (by omega)]
theorem elemAt_catN (f : Nat → Bytes 16) (t : ByteArray) {n c : Nat} (h : c < n) : elemAt (catN f n ++ t) (16 * c) = f c := by
  apply Subtype.ext
  have hs := catN_size f n
  rw [elemAt_val (by rw [ByteArray.size_append]; omega)]
  exact catN_ext f t n c h
theorem pathB_ext (s : ByteArray) (p : List (Bytes 16)) (t : ByteArray) : ∀ (n c : Nat), c < n → (((s ++ pathB p n) ++ t).extract (s.size + 16 * c) (s.size + 16 * c + 16)) = (p.getD c (z8 16)).1
  | 0, _, h => by omega
  | n + 1, c, h => by
    have hs := pathB_size p n
    have hf := (p.getD c (z8 16)).2
    by_cases hc : c < n
    · have ih := pathB_ext s p ((p.getD n (z8 16)).1 ++ t) n c hc
      rw [pathB, append_assocB, append_assocB, ← append_assocB s]
      exact ih
    · obtain rfl : c = n := by omega
      apply bytes_ext
      rw [ext_list, pathB]
      simp only [data_append, List.append_assoc]
      have h1 : (pathB p c).data.toList.length = 16 * c := by rw [list_size]; exact hs
      have h2 : (p.getD c (z8 16)).1.data.toList.length = 16 := by rw [list_size]; exact hf
      have h3 : s.data.toList.length = s.size := list_size s
      rw [← List.append_assoc s.data.toList, List.drop_append_of_le_length (by rw [List.length_append]; omega), List.drop_of_length_le (by rw [List.length_append]; omega), List.nil_append, Nat.add_sub_cancel_left, List.take_append_of_le_length (by omega), List.take_of_length_le (by omega)]
theorem walk_more (i c : Nat) (x : Bytes 16) (n : Nat) : ∀ m, walkB i c (walkB i c x 0 n) n m = walkB i c x 0 (n + m)
  | 0 => rfl
  | m + 1 => by rw [walkB, walk_more i c x n m, ← Nat.add_assoc, walkB, Nat.zero_add]
theorem catN_congr {f g : Nat → Bytes 16} : ∀ (n : Nat), (∀ c, c < n → f c = g c) → catN f n = catN g n
  | 0, _ => rfl
  | n + 1, h => by rw [catN, catN, catN_congr n (fun c hc => h c (by omega)), h n (by omega)]
theorem sig_ext (seed : ByteArray) (i : Nat) (d : Bytes 16) (t : ByteArray) : (sigB seed i d ++ t).extract 0 560 = sigB seed i d := by
  apply bytes_ext
  have hs : (sigB seed i d).data.toList.length = 560 := by rw [list_size]; exact catN_size _ 35
  rw [ext_list, data_append, List.drop_zero, Nat.sub_zero, List.take_append_of_le_length (by omega), List.take_of_length_le (by omega)]
theorem meet_sig (seed : ByteArray) (i : Nat) (d : Bytes 16) : meetB (sigB seed i d) i d = leafOf seed i := by
  unfold meetB leafOf
  rw [catN_congr (g := endB seed i) 35 fun c hc => ?_]
  have he : elemAt (sigB seed i d) (16 * c) = sigAt seed i d c := by
    have := elemAt_catN (sigAt seed i d) ByteArray.empty hc
    rwa [append_emptyB] at this
  have hd := dig_le d c hc
  rw [meetAt, he, sigAt, walk_more, endB, show (digD d).at c + (15 - (digD d).at c) = 15 by omega]
theorem xor1 (q : Nat) : (q % 2 = 1 → q ^^^ 1 = q - 1) ∧ (q % 2 = 0 → q ^^^ 1 = q + 1) := by
  have h1 : (q ^^^ 1) / 2 = q / 2 := by rw [Nat.xor_div_two]; simp
  have h2 := Nat.testBit_xor q 1 0
  simp only [Nat.testBit_zero] at h2
  have h3 : q % 2 = 0 ∨ q % 2 = 1 := by omega
  generalize q ^^^ 1 = r at h1 h2 ⊢
  rcases h3 with h3 | h3 <;> simp [h3] at h2 <;> omega
theorem riseN_at (l : List (Bytes 16)) (level : Nat) : ∀ (m j : Nat), j < m → (riseN l level m).getD j (z8 16) = upB (l.getD (2 * j) (z8 16)) (l.getD (2 * j + 1) (z8 16)) level j
  | 0, _, h => by omega
  | m + 1, j, h => by
    have hl := riseN_length l level m
    rw [riseN]
    by_cases hj : j < m
    · rw [List.getD_eq_getElem?_getD, List.getElem?_append_left (by omega), ← List.getD_eq_getElem?_getD]
      exact riseN_at l level m j hj
    · obtain rfl : j = m := by omega
      rw [List.getD_eq_getElem?_getD, List.getElem?_append_right (by omega), hl]
      simp
theorem pathN_at (l : List (Bytes 16)) (a : Nat) : ∀ (h k : Nat), k < h → (pathN l a h).getD k (z8 16) = (rowN' l k).getD (a / 2 ^ k ^^^ 1) (z8 16)
  | 0, _, h => by omega
  | h + 1, k, hk => by
    have hl := pathN_length l a h
    rw [pathN]
    by_cases hj : k < h
    · rw [List.getD_eq_getElem?_getD, List.getElem?_append_left (by omega), ← List.getD_eq_getElem?_getD]
      exact pathN_at l a h k hj
    · obtain rfl : k = h := by omega
      rw [List.getD_eq_getElem?_getD, List.getElem?_append_right (by omega), hl]
      simp
theorem climb_row (l : List (Bytes 16)) (a h : Nat) (hl : l.length = 2 ^ h) (ha : a < 2 ^ h) : ∀ k, k ≤ h → climbN (l.getD a (z8 16)) a (pathN l a h) k = (rowN' l k).getD (a / 2 ^ k) (z8 16)
  | 0, _ => by simp [climbN, rowN']
  | k + 1, hk => by
    have ih := climb_row l a h hl ha k (by omega)
    have hrl := rowN'_length l hl k (by omega)
    have hq := div_lt_row ha (show k ≤ h by omega)
    have hq2 := half_pow a k
    have hj : a / 2 ^ (k + 1) < (rowN' l k).length / 2 := by
      have hev := row_even hrl (by omega)
      rw [← hq2]
      omega
    rw [rowN', riseN_at _ _ _ _ hj, climbN, ih, pathN_at l a h k (by omega)]
    obtain ⟨x1, x0⟩ := xor1 (a / 2 ^ k)
    rw [← hq2] at hj ⊢
    generalize a / 2 ^ k = q at x1 x0 hj hq ⊢
    split
    · rename_i ho
      rw [x1 ho, show 2 * (q / 2) = q - 1 by omega, show q - 1 + 1 = q by omega]
    · rename_i ho
      rw [x0 (by omega), show 2 * (q / 2) = q by omega]
theorem leavesN_at (seed : ByteArray) : ∀ (n i : Nat), i < n → (leavesN seed n).getD i (z8 16) = leafOf seed i
  | 0, _, h => by omega
  | n + 1, i, h => by
    have hl := leavesN_length seed n
    rw [leavesN]
    by_cases hi : i < n
    · rw [List.getD_eq_getElem?_getD, List.getElem?_append_left (by omega), ← List.getD_eq_getElem?_getD]
      exact leavesN_at seed n i hi
    · obtain rfl : i = n := by omega
      rw [List.getD_eq_getElem?_getD, List.getElem?_append_right (by omega), hl]
      simp
theorem sign_size (seed : ByteArray) (h i : Nat) (text : ByteArray) : (signB seed h i text).size = 560 + 16 * h := by
  rw [signB, ByteArray.size_append, pathB_size, show (sigB seed i (digestB (rootOf seed h) i text)).size = 560 from catN_size _ 35]
theorem sign_path (seed : ByteArray) (h i : Nat) (text : ByteArray) : ∀ k, k ≤ h → sigPath (signB seed h i text) k = pathN (leavesN seed (2 ^ h)) i k
  | 0, _ => rfl
  | k + 1, hk => by
    have hsz := sign_size seed h i text
    have hb : (sigB seed i (digestB (rootOf seed h) i text)).size = 560 := catN_size _ 35
    have he : elemAt (signB seed h i text) (560 + 16 * k) = (rowN' (leavesN seed (2 ^ h)) k).getD (i / 2 ^ k ^^^ 1) (z8 16) := by
      apply Subtype.ext
      rw [elemAt_val (by omega)]
      have := pathB_ext (sigB seed i (digestB (rootOf seed h) i text)) (pathN (leavesN seed (2 ^ h)) i h) ByteArray.empty h k (by omega)
      rw [append_emptyB, hb, pathN_at _ _ _ _ (by omega)] at this
      rw [signB]
      exact this
    rw [sigPath, sign_path seed h i text k (by omega), he, pathN]
/-- WHAT IS SIGNED VERIFIES. -/
theorem sign_ok (seed : ByteArray) (h i : Nat) (text : ByteArray) (hi : i < 2 ^ h) : verB (rootOf seed h) h i text (signB seed h i text) = true := by
  unfold verB
  rw [decide_eq_true_eq]
  congr 1
  unfold verX
  rw [sign_path seed h i text h (Nat.le_refl _), pathN_length]
  have e : (signB seed h i text).extract 0 560 = sigB seed i (digestB (rootOf seed h) i text) := sig_ext seed i _ _
  have hl := leavesN_length seed (2 ^ h)
  rw [e, meet_sig, ← leavesN_at seed (2 ^ h) i hi, climb_row _ _ _ hl hi h (Nat.le_refl _), Nat.div_eq_of_lt hi]
  rfl
end Go.Eng
