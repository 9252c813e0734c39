/- SHA-256 in plain words: what both texts compute. -/
import Derived.Test.YtfgdeogphflimaaGreatDoorEWords
import Derived.Test.YtfgdeogphflimaaGreatDoorSpec
set_option linter.unusedVariables false
set_option linter.unusedSimpArgs false
namespace Go.Eng
open Go

def startL : List UInt32 := [0x6a09e667, 0xbb67ae85, 0x3c6ef372, 0xa54ff53a, 0x510e527f, 0x9b05688c, 0x1f83d9ab, 0x5be0cd19]
def roundL : List UInt32 := [0x428a2f98, 0x71374491, 0xb5c0fbcf, 0xe9b5dba5, 0x3956c25b, 0x59f111f1, 0x923f82a4, 0xab1c5ed5, 0xd807aa98, 0x12835b01, 0x243185be, 0x550c7dc3, 0x72be5d74, 0x80deb1fe, 0x9bdc06a7, 0xc19bf174, 0xe49b69c1, 0xefbe4786, 0x0fc19dc6, 0x240ca1cc, 0x2de92c6f, 0x4a7484aa, 0x5cb0a9dc, 0x76f988da, 0x983e5152, 0xa831c66d, 0xb00327c8, 0xbf597fc7, 0xc6e00bf3, 0xd5a79147, 0x06ca6351, 0x14292967, 0x27b70a85, 0x2e1b2138, 0x4d2c6dfc, 0x53380d13, 0x650a7354, 0x766a0abb, 0x81c2c92e, 0x92722c85, 0xa2bfe8a1, 0xa81a664b, 0xc24b8b70, 0xc76c51a3, 0xd192e819, 0xd6990624, 0xf40e3585, 0x106aa070, 0x19a4c116, 0x1e376c08, 0x2748774c, 0x34b0bcb5, 0x391c0cb3, 0x4ed8aa4a, 0x5b9cca4f, 0x682e6ff3, 0x748f82ee, 0x78a5636f, 0x84c87814, 0x8cc70208, 0x90befffa, 0xa4506ceb, 0xbef9a3f7, 0xc67178f2]
def startW : Words 8 := ⟨startL, rfl⟩
def roundW : Words 64 := ⟨roundL, rfl⟩
def rotr (x k : UInt32) : UInt32 := x <<< (32 - k) ||| x >>> k

/-- A word of a block, the greatest byte first. -/
def be32 (g : Nat → UInt8) (i : Nat) : UInt32 := (g (4 * i)).toUInt32 <<< 24 ||| (g (4 * i + 1)).toUInt32 <<< 16 ||| (g (4 * i + 2)).toUInt32 <<< 8 ||| (g (4 * i + 3)).toUInt32
def wMore (w : Words 64) (i : Nat) : UInt32 :=
  w.at (i - 16) + w.at (i - 7) + (rotr (w.at (i - 15)) 7 ^^^ rotr (w.at (i - 15)) 18 ^^^ w.at (i - 15) >>> 3) + (rotr (w.at (i - 2)) 17 ^^^ rotr (w.at (i - 2)) 19 ^^^ w.at (i - 2) >>> 10)
def wNew (g : Nat → UInt8) (w : Words 64) (i : Nat) : UInt32 := if i < 16 then be32 g i else wMore w i
def wAt (g : Nat → UInt8) : Nat → Words 64
  | 0 => zW 64
  | i + 1 => (wAt g i).put i (wNew g (wAt g i) i)
def rndT (s : Words 8) (k w : UInt32) : UInt32 := s.at 7 + (rotr (s.at 4) 6 ^^^ rotr (s.at 4) 11 ^^^ rotr (s.at 4) 25) + (s.at 4 &&& s.at 5 ^^^ ~~~(s.at 4) &&& s.at 6) + k + w
def rndU (s : Words 8) : UInt32 := (rotr (s.at 0) 2 ^^^ rotr (s.at 0) 13 ^^^ rotr (s.at 0) 22) + (s.at 0 &&& s.at 1 ^^^ s.at 0 &&& s.at 2 ^^^ s.at 1 &&& s.at 2)
def rnd (s : Words 8) (k w : UInt32) : Words 8 := ⟨[rndT s k w + rndU s, s.at 0, s.at 1, s.at 2, s.at 3 + rndT s k w, s.at 4, s.at 5, s.at 6], rfl⟩
def rAt (g : Nat → UInt8) (h : Words 8) : Nat → Words 8
  | 0 => h
  | i + 1 => rnd (rAt g h i) (roundW.at i) ((wAt g 64).at i)
def addAt (s h : Words 8) : Nat → Words 8
  | 0 => h
  | i + 1 => (addAt s h i).put i ((addAt s h i).at i + s.at i)
def mixW (h : Words 8) (g : Nat → UInt8) : Words 8 := addAt (rAt g h 64) h 8

/-- Bytes of a block. -/
def blkOf (g : Nat → UInt8) : List Value := (List.range 64).map fun j => U8 (g j)
theorem blkOf_at (g : Nat → UInt8) {j : Nat} (h : j < 64) : (blkOf g)[j]? = some (U8 (g j)) := by simp [blkOf, h]
theorem blkOf_cut (b : ByteArray) {a : Nat} (h : a + 64 ≤ b.size) : ((byteCells b).drop a).take 64 = blkOf fun j => byteAt b (a + j) := by
  apply List.ext_getElem?
  intro j
  by_cases hj : j < 64
  · rw [List.getElem?_take_of_lt hj, List.getElem?_drop, byteCells_at b (by omega), blkOf_at _ hj]
  · have h1 : (blkOf fun j => byteAt b (a + j)).length = 64 := by simp [blkOf]
    rw [List.getElem?_eq_none (by simp; omega), List.getElem?_eq_none (by omega)]

/-- Zeros up to a length of 56 beyond whole blocks. -/
def padZ : Nat → ByteArray → ByteArray
  | 0, b => b
  | k + 1, b => if b.size % 64 = 56 then b else padZ k (b.push 0)
theorem padZ_step {k : Nat} {b : ByteArray} (h : b.size % 64 ≠ 56) : padZ (k + 1) b = padZ k (b.push 0) := by rw [padZ, if_neg h]
theorem padZ_done {k : Nat} {b : ByteArray} (h : b.size % 64 = 56) : padZ k b = b := by cases k <;> simp [padZ, h]
/-- The length in bits. -/
def lenAt (n : Nat) (k : Nat) : UInt8 := byteOf (n * 8 / 2 ^ (56 - 8 * k) : Nat)
def lenP (n : Nat) : Nat → ByteArray → ByteArray
  | 0, b => b
  | k + 1, b => (lenP n k b).push (lenAt n k)
theorem lenP_size (n : Nat) : ∀ k b, (lenP n k b).size = b.size + k
  | 0, _ => rfl
  | k + 1, b => by rw [lenP, ByteArray.size_push, lenP_size n k b]; omega
def msgB (s : ByteArray) : ByteArray := lenP s.size 8 (padZ 64 (s.push 128))
def hAt (m : ByteArray) : Nat → Words 8
  | 0 => startW
  | k + 1 => mixW (hAt m k) fun j => byteAt m (64 * k + j)
def digAt (h : Words 8) (i : Nat) : UInt8 := byteOf ((h.at (i / 4) >>> UInt32.ofNat (24 - 8 * (i % 4))).toNat : Int)
def digP (h : Words 8) : Nat → Bytes 32
  | 0 => z8 32
  | i + 1 => (digP h i).put i (digAt h i)
/-- SHA-256. -/
def shaB (s : ByteArray) : Bytes 32 := digP (hAt (msgB s) ((msgB s).size / 64)) 32
end Go.Eng
