/- What the program computes, in plain words: numbers, texts, lists of texts as bytes. -/
import Derived.Test.YtfgdeogphflimaaGreatDoorENats
set_option linter.unusedVariables false
set_option linter.unusedSimpArgs false
namespace Go.Eng
open Go

/-- Bytes of a list. -/
def bA (l : List UInt8) : ByteArray := ⟨l.toArray⟩
theorem bA_size (l : List UInt8) : (bA l).size = l.length := by show l.toArray.size = _; simp
theorem bA_push (l : List UInt8) (b : UInt8) : (bA l).push b = bA (l ++ [b]) := by
  show (⟨l.toArray.push b⟩ : ByteArray) = ⟨_⟩
  simp
theorem bytes_ext {s t : ByteArray} (h : s.data.toList = t.data.toList) : s = t := by
  have := Array.ext' h
  cases s; cases t; simp_all
theorem data_append (s t : ByteArray) : (s ++ t).data.toList = s.data.toList ++ t.data.toList := by
  rw [ByteArray.data_append, Array.toList_append]
theorem bA_append (l m : List UInt8) : bA l ++ bA m = bA (l ++ m) := bytes_ext (by rw [data_append]; simp [bA])
theorem bA_data (s : ByteArray) : bA s.data.toList = s := bytes_ext (by simp [bA])
theorem byteAt_bA (l : List UInt8) (i : Nat) : byteAt (bA l) i = l.getD i 0 := by simp [byteAt, bA, Array.getD_eq_getD_getElem?, List.getD_eq_getElem?_getD]
theorem append_assocB (a b c : ByteArray) : a ++ b ++ c = a ++ (b ++ c) := bytes_ext (by simp [data_append])
theorem empty_appendB (a : ByteArray) : ByteArray.empty ++ a = a := bytes_ext (by simp [data_append])
theorem append_emptyB (a : ByteArray) : a ++ ByteArray.empty = a := bytes_ext (by simp [data_append])
theorem bA_nil : bA [] = ByteArray.empty := rfl

/-- A number's digits to the base 256, the greatest first. -/
def digs (n : Nat) : List UInt8 := if h : n = 0 then [] else digs (n / 256) ++ [UInt8.ofNat (n % 256)]
termination_by n
decreasing_by omega
theorem digs_zero : digs 0 = [] := by unfold digs; simp
theorem digs_pos {n : Nat} (h : 0 < n) : digs n = digs (n / 256) ++ [UInt8.ofNat (n % 256)] := by
  rw [digs, dif_neg (by omega)]
theorem digs_length : ∀ (k n : Nat), n < 256 ^ k → (digs n).length ≤ k
  | 0, n, h => by
    have : n = 0 := by omega
    subst this
    rw [digs_zero]; simp
  | k + 1, n, h => by
    by_cases h0 : n = 0
    · subst h0; rw [digs_zero]; simp
    · rw [digs_pos (by omega), List.length_append, List.length_singleton]
      have := digs_length k (n / 256) (by rw [Nat.pow_succ] at h; omega)
      omega
/-- A number as bytes. -/
def numB (n : Nat) : ByteArray := bA (UInt8.ofNat (digs n).length :: digs n)
theorem numB_size {n : Nat} (h : n < 18446744073709551616) : (numB n).size ≤ 9 := by
  unfold numB
  rw [bA_size, List.length_cons]
  have := digs_length 8 n (by simpa using h)
  omega
/-- A text as bytes, a list of texts. -/
def textB (s : ByteArray) : ByteArray := numB s.size ++ s
def itemsB : List ByteArray → ByteArray
  | [] => ByteArray.empty
  | s :: l => textB s ++ itemsB l
def listB (l : List ByteArray) : ByteArray := numB l.length ++ itemsB l
theorem itemsB_append : ∀ l m : List ByteArray, itemsB (l ++ m) = itemsB l ++ itemsB m
  | [], m => (empty_appendB _).symm
  | s :: l, m => by rw [List.cons_append, itemsB, itemsB, itemsB_append l m, append_assocB]
theorem itemsB_one (s : ByteArray) : itemsB [s] = textB s := append_emptyB _
theorem itemsB_take_succ {l : List ByteArray} {i : Nat} (h : i < l.length) : itemsB (l.take (i + 1)) = itemsB (l.take i) ++ (numB (l.getD i ByteArray.empty).size ++ l.getD i ByteArray.empty) := by
  rw [List.take_succ_eq_append_getElem h, itemsB_append, itemsB_one, List.getD_eq_getElem?_getD, List.getElem?_eq_getElem h]
  rfl
theorem itemsB_take_le (l : List ByteArray) (i : Nat) : (itemsB (l.take i)).size ≤ (itemsB l).size := by
  have := itemsB_append (l.take i) (l.drop i)
  rw [List.take_append_drop] at this
  rw [this, ByteArray.size_append]
  omega
theorem push_list (b : ByteArray) (y : UInt8) : (b.push y).data.toList = b.data.toList ++ [y] := by simp
theorem list_size (b : ByteArray) : b.data.toList.length = b.size := by simp
theorem byteOf_nat (n : Nat) : byteOf n = UInt8.ofNat n := by
  apply UInt8.toNat_inj.1
  simp only [byteOf, UInt8.toNat_ofNat']
  omega
theorem digs_step {x : Int} (h : 0 < x) : digs x.toNat = digs (x / 256).toNat ++ [byteOf x] := by
  rw [digs_pos (by omega), show (x / 256).toNat = x.toNat / 256 by omega]
  congr 2
  unfold byteOf
  congr 1
  omega
theorem drop_step (b : ByteArray) {i : Int} (h0 : 0 ≤ i) (h : i < b.size) : (b.data.toList.drop (i - 1 + 1).toNat).reverse = (b.data.toList.drop (i + 1).toNat).reverse ++ [byteAt b i.toNat] := by
  have hl : i.toNat < b.data.toList.length := by rw [list_size]; omega
  rw [show (i - 1 + 1).toNat = i.toNat by omega, show (i + 1).toNat = i.toNat + 1 by omega, List.drop_eq_getElem_cons hl, List.reverse_cons]
  congr 2
  simp [byteAt, Array.getElem?_eq_getElem (show i.toNat < b.data.size by simpa using hl)]
theorem numB_of {n : Nat} {out b : ByteArray} (h1 : digs n = b.data.toList.reverse) (h2 : out.data.toList = byteOf b.size :: b.data.toList.reverse) : out = numB n := by
  refine bytes_ext ?_
  rw [h2, numB, h1, byteOf_nat]
  simp [bA]
theorem rowB_lit1 (b : UInt8) (ho : (U8 b).oneCell' = true) (v : Value) : rowR 1 1 (cellsE (litE [(0, [sg1 (U8 b) ho], v)])) = rowB (bA [b]) := by
  unfold rowB
  rw [bA_size]
  rfl
end Go.Eng
