/- Plain laws: 32 bits the other way round, by five exchanges. No program is named here. -/
import Derived.Test.YtlhlljjchggnjaaCrc2
namespace Go.Proofs.Ytlhlljjchggnjaa

def sw1 (a : BitVec 32) : BitVec 32 := (a >>> 1 &&& 0x55555555#32) ||| ((a &&& 0x55555555#32) <<< 1)
def sw2 (a : BitVec 32) : BitVec 32 := (a >>> 2 &&& 0x33333333#32) ||| ((a &&& 0x33333333#32) <<< 2)
def sw4 (a : BitVec 32) : BitVec 32 := (a >>> 4 &&& 0x0f0f0f0f#32) ||| ((a &&& 0x0f0f0f0f#32) <<< 4)
def sw8 (a : BitVec 32) : BitVec 32 := (a >>> 8 &&& 0x00ff00ff#32) ||| ((a &&& 0x00ff00ff#32) <<< 8)
def sw16 (a : BitVec 32) : BitVec 32 := (a >>> 16) ||| (a <<< 16)
theorem bit_and (a m : BitVec 32) (i : Nat) (b : Bool) (h : m.getLsbD i = b) : (a &&& m).getLsbD i = (a.getLsbD i && b) := by rw [BitVec.getLsbD_and, h]
theorem bit_shr (a : BitVec 32) (k i j : Nat) (h : k + i = j) : (a >>> k).getLsbD i = a.getLsbD j := by rw [BitVec.getLsbD_ushiftRight, h]
theorem bit_shl (a : BitVec 32) (k i j : Nat) (h : k + j = i) (hi : i < 32) : (a <<< k).getLsbD i = a.getLsbD j := by
  rw [BitVec.getLsbD_shiftLeft]
  simp [hi, show ¬ i < k by omega, show i - k = j by omega]
theorem bit_shl0 (a : BitVec 32) (k i : Nat) (h : i < k) : (a <<< k).getLsbD i = false := by
  rw [BitVec.getLsbD_shiftLeft]
  simp [h]
theorem bit_out (a : BitVec 32) (i : Nat) (h : 32 ≤ i) : a.getLsbD i = false := BitVec.getLsbD_of_ge a i h

theorem sw1_bit (a : BitVec 32) : ∀ i, i < 32 → (sw1 a).getLsbD i = a.getLsbD (i ^^^ 1)
  | 0, _ => by
    unfold sw1
    rw [BitVec.getLsbD_or]
    rw [bit_and _ _ 0 true (by decide), bit_shr _ 1 0 1 rfl]
    rw [bit_shl0 _ 1 0 (by omega)]
    simp
  | 1, _ => by
    unfold sw1
    rw [BitVec.getLsbD_or]
    rw [bit_and _ _ 1 false (by decide), bit_shr _ 1 1 2 rfl]
    rw [bit_shl _ 1 1 0 rfl (by omega), bit_and _ _ 0 true (by decide)]
    simp
  | 2, _ => by
    unfold sw1
    rw [BitVec.getLsbD_or]
    rw [bit_and _ _ 2 true (by decide), bit_shr _ 1 2 3 rfl]
    rw [bit_shl _ 1 2 1 rfl (by omega), bit_and _ _ 1 false (by decide)]
    simp
  | 3, _ => by
    unfold sw1
    rw [BitVec.getLsbD_or]
    rw [bit_and _ _ 3 false (by decide), bit_shr _ 1 3 4 rfl]
    rw [bit_shl _ 1 3 2 rfl (by omega), bit_and _ _ 2 true (by decide)]
    simp
  | 4, _ => by
    unfold sw1
    rw [BitVec.getLsbD_or]
    rw [bit_and _ _ 4 true (by decide), bit_shr _ 1 4 5 rfl]
    rw [bit_shl _ 1 4 3 rfl (by omega), bit_and _ _ 3 false (by decide)]
    simp
  | 5, _ => by
    unfold sw1
    rw [BitVec.getLsbD_or]
    rw [bit_and _ _ 5 false (by decide), bit_shr _ 1 5 6 rfl]
    rw [bit_shl _ 1 5 4 rfl (by omega), bit_and _ _ 4 true (by decide)]
    simp
  | 6, _ => by
    unfold sw1
    rw [BitVec.getLsbD_or]
    rw [bit_and _ _ 6 true (by decide), bit_shr _ 1 6 7 rfl]
    rw [bit_shl _ 1 6 5 rfl (by omega), bit_and _ _ 5 false (by decide)]
    simp
  | 7, _ => by
    unfold sw1
    rw [BitVec.getLsbD_or]
    rw [bit_and _ _ 7 false (by decide), bit_shr _ 1 7 8 rfl]
    rw [bit_shl _ 1 7 6 rfl (by omega), bit_and _ _ 6 true (by decide)]
    simp
  | 8, _ => by
    unfold sw1
    rw [BitVec.getLsbD_or]
    rw [bit_and _ _ 8 true (by decide), bit_shr _ 1 8 9 rfl]
    rw [bit_shl _ 1 8 7 rfl (by omega), bit_and _ _ 7 false (by decide)]
    simp
  | 9, _ => by
    unfold sw1
    rw [BitVec.getLsbD_or]
    rw [bit_and _ _ 9 false (by decide), bit_shr _ 1 9 10 rfl]
    rw [bit_shl _ 1 9 8 rfl (by omega), bit_and _ _ 8 true (by decide)]
    simp
  | 10, _ => by
    unfold sw1
    rw [BitVec.getLsbD_or]
    rw [bit_and _ _ 10 true (by decide), bit_shr _ 1 10 11 rfl]
    rw [bit_shl _ 1 10 9 rfl (by omega), bit_and _ _ 9 false (by decide)]
    simp
  | 11, _ => by
    unfold sw1
    rw [BitVec.getLsbD_or]
    rw [bit_and _ _ 11 false (by decide), bit_shr _ 1 11 12 rfl]
    rw [bit_shl _ 1 11 10 rfl (by omega), bit_and _ _ 10 true (by decide)]
    simp
  | 12, _ => by
    unfold sw1
    rw [BitVec.getLsbD_or]
    rw [bit_and _ _ 12 true (by decide), bit_shr _ 1 12 13 rfl]
    rw [bit_shl _ 1 12 11 rfl (by omega), bit_and _ _ 11 false (by decide)]
    simp
  | 13, _ => by
    unfold sw1
    rw [BitVec.getLsbD_or]
    rw [bit_and _ _ 13 false (by decide), bit_shr _ 1 13 14 rfl]
    rw [bit_shl _ 1 13 12 rfl (by omega), bit_and _ _ 12 true (by decide)]
    simp
  | 14, _ => by
    unfold sw1
    rw [BitVec.getLsbD_or]
    rw [bit_and _ _ 14 true (by decide), bit_shr _ 1 14 15 rfl]
    rw [bit_shl _ 1 14 13 rfl (by omega), bit_and _ _ 13 false (by decide)]
    simp
  | 15, _ => by
    unfold sw1
    rw [BitVec.getLsbD_or]
    rw [bit_and _ _ 15 false (by decide), bit_shr _ 1 15 16 rfl]
    rw [bit_shl _ 1 15 14 rfl (by omega), bit_and _ _ 14 true (by decide)]
    simp
  | 16, _ => by
    unfold sw1
    rw [BitVec.getLsbD_or]
    rw [bit_and _ _ 16 true (by decide), bit_shr _ 1 16 17 rfl]
    rw [bit_shl _ 1 16 15 rfl (by omega), bit_and _ _ 15 false (by decide)]
    simp
  | 17, _ => by
    unfold sw1
    rw [BitVec.getLsbD_or]
    rw [bit_and _ _ 17 false (by decide), bit_shr _ 1 17 18 rfl]
    rw [bit_shl _ 1 17 16 rfl (by omega), bit_and _ _ 16 true (by decide)]
    simp
  | 18, _ => by
    unfold sw1
    rw [BitVec.getLsbD_or]
    rw [bit_and _ _ 18 true (by decide), bit_shr _ 1 18 19 rfl]
    rw [bit_shl _ 1 18 17 rfl (by omega), bit_and _ _ 17 false (by decide)]
    simp
  | 19, _ => by
    unfold sw1
    rw [BitVec.getLsbD_or]
    rw [bit_and _ _ 19 false (by decide), bit_shr _ 1 19 20 rfl]
    rw [bit_shl _ 1 19 18 rfl (by omega), bit_and _ _ 18 true (by decide)]
    simp
  | 20, _ => by
    unfold sw1
    rw [BitVec.getLsbD_or]
    rw [bit_and _ _ 20 true (by decide), bit_shr _ 1 20 21 rfl]
    rw [bit_shl _ 1 20 19 rfl (by omega), bit_and _ _ 19 false (by decide)]
    simp
  | 21, _ => by
    unfold sw1
    rw [BitVec.getLsbD_or]
    rw [bit_and _ _ 21 false (by decide), bit_shr _ 1 21 22 rfl]
    rw [bit_shl _ 1 21 20 rfl (by omega), bit_and _ _ 20 true (by decide)]
    simp
  | 22, _ => by
    unfold sw1
    rw [BitVec.getLsbD_or]
    rw [bit_and _ _ 22 true (by decide), bit_shr _ 1 22 23 rfl]
    rw [bit_shl _ 1 22 21 rfl (by omega), bit_and _ _ 21 false (by decide)]
    simp
  | 23, _ => by
    unfold sw1
    rw [BitVec.getLsbD_or]
    rw [bit_and _ _ 23 false (by decide), bit_shr _ 1 23 24 rfl]
    rw [bit_shl _ 1 23 22 rfl (by omega), bit_and _ _ 22 true (by decide)]
    simp
  | 24, _ => by
    unfold sw1
    rw [BitVec.getLsbD_or]
    rw [bit_and _ _ 24 true (by decide), bit_shr _ 1 24 25 rfl]
    rw [bit_shl _ 1 24 23 rfl (by omega), bit_and _ _ 23 false (by decide)]
    simp
  | 25, _ => by
    unfold sw1
    rw [BitVec.getLsbD_or]
    rw [bit_and _ _ 25 false (by decide), bit_shr _ 1 25 26 rfl]
    rw [bit_shl _ 1 25 24 rfl (by omega), bit_and _ _ 24 true (by decide)]
    simp
  | 26, _ => by
    unfold sw1
    rw [BitVec.getLsbD_or]
    rw [bit_and _ _ 26 true (by decide), bit_shr _ 1 26 27 rfl]
    rw [bit_shl _ 1 26 25 rfl (by omega), bit_and _ _ 25 false (by decide)]
    simp
  | 27, _ => by
    unfold sw1
    rw [BitVec.getLsbD_or]
    rw [bit_and _ _ 27 false (by decide), bit_shr _ 1 27 28 rfl]
    rw [bit_shl _ 1 27 26 rfl (by omega), bit_and _ _ 26 true (by decide)]
    simp
  | 28, _ => by
    unfold sw1
    rw [BitVec.getLsbD_or]
    rw [bit_and _ _ 28 true (by decide), bit_shr _ 1 28 29 rfl]
    rw [bit_shl _ 1 28 27 rfl (by omega), bit_and _ _ 27 false (by decide)]
    simp
  | 29, _ => by
    unfold sw1
    rw [BitVec.getLsbD_or]
    rw [bit_and _ _ 29 false (by decide), bit_shr _ 1 29 30 rfl]
    rw [bit_shl _ 1 29 28 rfl (by omega), bit_and _ _ 28 true (by decide)]
    simp
  | 30, _ => by
    unfold sw1
    rw [BitVec.getLsbD_or]
    rw [bit_and _ _ 30 true (by decide), bit_shr _ 1 30 31 rfl]
    rw [bit_shl _ 1 30 29 rfl (by omega), bit_and _ _ 29 false (by decide)]
    simp
  | 31, _ => by
    unfold sw1
    rw [BitVec.getLsbD_or]
    rw [bit_and _ _ 31 false (by decide), bit_shr _ 1 31 32 rfl]
    rw [bit_shl _ 1 31 30 rfl (by omega), bit_and _ _ 30 true (by decide)]
    simp
  | n + 32, h => absurd h (by omega)
theorem sw2_bit (a : BitVec 32) : ∀ i, i < 32 → (sw2 a).getLsbD i = a.getLsbD (i ^^^ 2)
  | 0, _ => by
    unfold sw2
    rw [BitVec.getLsbD_or]
    rw [bit_and _ _ 0 true (by decide), bit_shr _ 2 0 2 rfl]
    rw [bit_shl0 _ 2 0 (by omega)]
    simp
  | 1, _ => by
    unfold sw2
    rw [BitVec.getLsbD_or]
    rw [bit_and _ _ 1 true (by decide), bit_shr _ 2 1 3 rfl]
    rw [bit_shl0 _ 2 1 (by omega)]
    simp
  | 2, _ => by
    unfold sw2
    rw [BitVec.getLsbD_or]
    rw [bit_and _ _ 2 false (by decide), bit_shr _ 2 2 4 rfl]
    rw [bit_shl _ 2 2 0 rfl (by omega), bit_and _ _ 0 true (by decide)]
    simp
  | 3, _ => by
    unfold sw2
    rw [BitVec.getLsbD_or]
    rw [bit_and _ _ 3 false (by decide), bit_shr _ 2 3 5 rfl]
    rw [bit_shl _ 2 3 1 rfl (by omega), bit_and _ _ 1 true (by decide)]
    simp
  | 4, _ => by
    unfold sw2
    rw [BitVec.getLsbD_or]
    rw [bit_and _ _ 4 true (by decide), bit_shr _ 2 4 6 rfl]
    rw [bit_shl _ 2 4 2 rfl (by omega), bit_and _ _ 2 false (by decide)]
    simp
  | 5, _ => by
    unfold sw2
    rw [BitVec.getLsbD_or]
    rw [bit_and _ _ 5 true (by decide), bit_shr _ 2 5 7 rfl]
    rw [bit_shl _ 2 5 3 rfl (by omega), bit_and _ _ 3 false (by decide)]
    simp
  | 6, _ => by
    unfold sw2
    rw [BitVec.getLsbD_or]
    rw [bit_and _ _ 6 false (by decide), bit_shr _ 2 6 8 rfl]
    rw [bit_shl _ 2 6 4 rfl (by omega), bit_and _ _ 4 true (by decide)]
    simp
  | 7, _ => by
    unfold sw2
    rw [BitVec.getLsbD_or]
    rw [bit_and _ _ 7 false (by decide), bit_shr _ 2 7 9 rfl]
    rw [bit_shl _ 2 7 5 rfl (by omega), bit_and _ _ 5 true (by decide)]
    simp
  | 8, _ => by
    unfold sw2
    rw [BitVec.getLsbD_or]
    rw [bit_and _ _ 8 true (by decide), bit_shr _ 2 8 10 rfl]
    rw [bit_shl _ 2 8 6 rfl (by omega), bit_and _ _ 6 false (by decide)]
    simp
  | 9, _ => by
    unfold sw2
    rw [BitVec.getLsbD_or]
    rw [bit_and _ _ 9 true (by decide), bit_shr _ 2 9 11 rfl]
    rw [bit_shl _ 2 9 7 rfl (by omega), bit_and _ _ 7 false (by decide)]
    simp
  | 10, _ => by
    unfold sw2
    rw [BitVec.getLsbD_or]
    rw [bit_and _ _ 10 false (by decide), bit_shr _ 2 10 12 rfl]
    rw [bit_shl _ 2 10 8 rfl (by omega), bit_and _ _ 8 true (by decide)]
    simp
  | 11, _ => by
    unfold sw2
    rw [BitVec.getLsbD_or]
    rw [bit_and _ _ 11 false (by decide), bit_shr _ 2 11 13 rfl]
    rw [bit_shl _ 2 11 9 rfl (by omega), bit_and _ _ 9 true (by decide)]
    simp
  | 12, _ => by
    unfold sw2
    rw [BitVec.getLsbD_or]
    rw [bit_and _ _ 12 true (by decide), bit_shr _ 2 12 14 rfl]
    rw [bit_shl _ 2 12 10 rfl (by omega), bit_and _ _ 10 false (by decide)]
    simp
  | 13, _ => by
    unfold sw2
    rw [BitVec.getLsbD_or]
    rw [bit_and _ _ 13 true (by decide), bit_shr _ 2 13 15 rfl]
    rw [bit_shl _ 2 13 11 rfl (by omega), bit_and _ _ 11 false (by decide)]
    simp
  | 14, _ => by
    unfold sw2
    rw [BitVec.getLsbD_or]
    rw [bit_and _ _ 14 false (by decide), bit_shr _ 2 14 16 rfl]
    rw [bit_shl _ 2 14 12 rfl (by omega), bit_and _ _ 12 true (by decide)]
    simp
  | 15, _ => by
    unfold sw2
    rw [BitVec.getLsbD_or]
    rw [bit_and _ _ 15 false (by decide), bit_shr _ 2 15 17 rfl]
    rw [bit_shl _ 2 15 13 rfl (by omega), bit_and _ _ 13 true (by decide)]
    simp
  | 16, _ => by
    unfold sw2
    rw [BitVec.getLsbD_or]
    rw [bit_and _ _ 16 true (by decide), bit_shr _ 2 16 18 rfl]
    rw [bit_shl _ 2 16 14 rfl (by omega), bit_and _ _ 14 false (by decide)]
    simp
  | 17, _ => by
    unfold sw2
    rw [BitVec.getLsbD_or]
    rw [bit_and _ _ 17 true (by decide), bit_shr _ 2 17 19 rfl]
    rw [bit_shl _ 2 17 15 rfl (by omega), bit_and _ _ 15 false (by decide)]
    simp
  | 18, _ => by
    unfold sw2
    rw [BitVec.getLsbD_or]
    rw [bit_and _ _ 18 false (by decide), bit_shr _ 2 18 20 rfl]
    rw [bit_shl _ 2 18 16 rfl (by omega), bit_and _ _ 16 true (by decide)]
    simp
  | 19, _ => by
    unfold sw2
    rw [BitVec.getLsbD_or]
    rw [bit_and _ _ 19 false (by decide), bit_shr _ 2 19 21 rfl]
    rw [bit_shl _ 2 19 17 rfl (by omega), bit_and _ _ 17 true (by decide)]
    simp
  | 20, _ => by
    unfold sw2
    rw [BitVec.getLsbD_or]
    rw [bit_and _ _ 20 true (by decide), bit_shr _ 2 20 22 rfl]
    rw [bit_shl _ 2 20 18 rfl (by omega), bit_and _ _ 18 false (by decide)]
    simp
  | 21, _ => by
    unfold sw2
    rw [BitVec.getLsbD_or]
    rw [bit_and _ _ 21 true (by decide), bit_shr _ 2 21 23 rfl]
    rw [bit_shl _ 2 21 19 rfl (by omega), bit_and _ _ 19 false (by decide)]
    simp
  | 22, _ => by
    unfold sw2
    rw [BitVec.getLsbD_or]
    rw [bit_and _ _ 22 false (by decide), bit_shr _ 2 22 24 rfl]
    rw [bit_shl _ 2 22 20 rfl (by omega), bit_and _ _ 20 true (by decide)]
    simp
  | 23, _ => by
    unfold sw2
    rw [BitVec.getLsbD_or]
    rw [bit_and _ _ 23 false (by decide), bit_shr _ 2 23 25 rfl]
    rw [bit_shl _ 2 23 21 rfl (by omega), bit_and _ _ 21 true (by decide)]
    simp
  | 24, _ => by
    unfold sw2
    rw [BitVec.getLsbD_or]
    rw [bit_and _ _ 24 true (by decide), bit_shr _ 2 24 26 rfl]
    rw [bit_shl _ 2 24 22 rfl (by omega), bit_and _ _ 22 false (by decide)]
    simp
  | 25, _ => by
    unfold sw2
    rw [BitVec.getLsbD_or]
    rw [bit_and _ _ 25 true (by decide), bit_shr _ 2 25 27 rfl]
    rw [bit_shl _ 2 25 23 rfl (by omega), bit_and _ _ 23 false (by decide)]
    simp
  | 26, _ => by
    unfold sw2
    rw [BitVec.getLsbD_or]
    rw [bit_and _ _ 26 false (by decide), bit_shr _ 2 26 28 rfl]
    rw [bit_shl _ 2 26 24 rfl (by omega), bit_and _ _ 24 true (by decide)]
    simp
  | 27, _ => by
    unfold sw2
    rw [BitVec.getLsbD_or]
    rw [bit_and _ _ 27 false (by decide), bit_shr _ 2 27 29 rfl]
    rw [bit_shl _ 2 27 25 rfl (by omega), bit_and _ _ 25 true (by decide)]
    simp
  | 28, _ => by
    unfold sw2
    rw [BitVec.getLsbD_or]
    rw [bit_and _ _ 28 true (by decide), bit_shr _ 2 28 30 rfl]
    rw [bit_shl _ 2 28 26 rfl (by omega), bit_and _ _ 26 false (by decide)]
    simp
  | 29, _ => by
    unfold sw2
    rw [BitVec.getLsbD_or]
    rw [bit_and _ _ 29 true (by decide), bit_shr _ 2 29 31 rfl]
    rw [bit_shl _ 2 29 27 rfl (by omega), bit_and _ _ 27 false (by decide)]
    simp
  | 30, _ => by
    unfold sw2
    rw [BitVec.getLsbD_or]
    rw [bit_and _ _ 30 false (by decide), bit_shr _ 2 30 32 rfl]
    rw [bit_shl _ 2 30 28 rfl (by omega), bit_and _ _ 28 true (by decide)]
    simp
  | 31, _ => by
    unfold sw2
    rw [BitVec.getLsbD_or]
    rw [bit_and _ _ 31 false (by decide), bit_shr _ 2 31 33 rfl]
    rw [bit_shl _ 2 31 29 rfl (by omega), bit_and _ _ 29 true (by decide)]
    simp
  | n + 32, h => absurd h (by omega)
theorem sw4_bit (a : BitVec 32) : ∀ i, i < 32 → (sw4 a).getLsbD i = a.getLsbD (i ^^^ 4)
  | 0, _ => by
    unfold sw4
    rw [BitVec.getLsbD_or]
    rw [bit_and _ _ 0 true (by decide), bit_shr _ 4 0 4 rfl]
    rw [bit_shl0 _ 4 0 (by omega)]
    simp
  | 1, _ => by
    unfold sw4
    rw [BitVec.getLsbD_or]
    rw [bit_and _ _ 1 true (by decide), bit_shr _ 4 1 5 rfl]
    rw [bit_shl0 _ 4 1 (by omega)]
    simp
  | 2, _ => by
    unfold sw4
    rw [BitVec.getLsbD_or]
    rw [bit_and _ _ 2 true (by decide), bit_shr _ 4 2 6 rfl]
    rw [bit_shl0 _ 4 2 (by omega)]
    simp
  | 3, _ => by
    unfold sw4
    rw [BitVec.getLsbD_or]
    rw [bit_and _ _ 3 true (by decide), bit_shr _ 4 3 7 rfl]
    rw [bit_shl0 _ 4 3 (by omega)]
    simp
  | 4, _ => by
    unfold sw4
    rw [BitVec.getLsbD_or]
    rw [bit_and _ _ 4 false (by decide), bit_shr _ 4 4 8 rfl]
    rw [bit_shl _ 4 4 0 rfl (by omega), bit_and _ _ 0 true (by decide)]
    simp
  | 5, _ => by
    unfold sw4
    rw [BitVec.getLsbD_or]
    rw [bit_and _ _ 5 false (by decide), bit_shr _ 4 5 9 rfl]
    rw [bit_shl _ 4 5 1 rfl (by omega), bit_and _ _ 1 true (by decide)]
    simp
  | 6, _ => by
    unfold sw4
    rw [BitVec.getLsbD_or]
    rw [bit_and _ _ 6 false (by decide), bit_shr _ 4 6 10 rfl]
    rw [bit_shl _ 4 6 2 rfl (by omega), bit_and _ _ 2 true (by decide)]
    simp
  | 7, _ => by
    unfold sw4
    rw [BitVec.getLsbD_or]
    rw [bit_and _ _ 7 false (by decide), bit_shr _ 4 7 11 rfl]
    rw [bit_shl _ 4 7 3 rfl (by omega), bit_and _ _ 3 true (by decide)]
    simp
  | 8, _ => by
    unfold sw4
    rw [BitVec.getLsbD_or]
    rw [bit_and _ _ 8 true (by decide), bit_shr _ 4 8 12 rfl]
    rw [bit_shl _ 4 8 4 rfl (by omega), bit_and _ _ 4 false (by decide)]
    simp
  | 9, _ => by
    unfold sw4
    rw [BitVec.getLsbD_or]
    rw [bit_and _ _ 9 true (by decide), bit_shr _ 4 9 13 rfl]
    rw [bit_shl _ 4 9 5 rfl (by omega), bit_and _ _ 5 false (by decide)]
    simp
  | 10, _ => by
    unfold sw4
    rw [BitVec.getLsbD_or]
    rw [bit_and _ _ 10 true (by decide), bit_shr _ 4 10 14 rfl]
    rw [bit_shl _ 4 10 6 rfl (by omega), bit_and _ _ 6 false (by decide)]
    simp
  | 11, _ => by
    unfold sw4
    rw [BitVec.getLsbD_or]
    rw [bit_and _ _ 11 true (by decide), bit_shr _ 4 11 15 rfl]
    rw [bit_shl _ 4 11 7 rfl (by omega), bit_and _ _ 7 false (by decide)]
    simp
  | 12, _ => by
    unfold sw4
    rw [BitVec.getLsbD_or]
    rw [bit_and _ _ 12 false (by decide), bit_shr _ 4 12 16 rfl]
    rw [bit_shl _ 4 12 8 rfl (by omega), bit_and _ _ 8 true (by decide)]
    simp
  | 13, _ => by
    unfold sw4
    rw [BitVec.getLsbD_or]
    rw [bit_and _ _ 13 false (by decide), bit_shr _ 4 13 17 rfl]
    rw [bit_shl _ 4 13 9 rfl (by omega), bit_and _ _ 9 true (by decide)]
    simp
  | 14, _ => by
    unfold sw4
    rw [BitVec.getLsbD_or]
    rw [bit_and _ _ 14 false (by decide), bit_shr _ 4 14 18 rfl]
    rw [bit_shl _ 4 14 10 rfl (by omega), bit_and _ _ 10 true (by decide)]
    simp
  | 15, _ => by
    unfold sw4
    rw [BitVec.getLsbD_or]
    rw [bit_and _ _ 15 false (by decide), bit_shr _ 4 15 19 rfl]
    rw [bit_shl _ 4 15 11 rfl (by omega), bit_and _ _ 11 true (by decide)]
    simp
  | 16, _ => by
    unfold sw4
    rw [BitVec.getLsbD_or]
    rw [bit_and _ _ 16 true (by decide), bit_shr _ 4 16 20 rfl]
    rw [bit_shl _ 4 16 12 rfl (by omega), bit_and _ _ 12 false (by decide)]
    simp
  | 17, _ => by
    unfold sw4
    rw [BitVec.getLsbD_or]
    rw [bit_and _ _ 17 true (by decide), bit_shr _ 4 17 21 rfl]
    rw [bit_shl _ 4 17 13 rfl (by omega), bit_and _ _ 13 false (by decide)]
    simp
  | 18, _ => by
    unfold sw4
    rw [BitVec.getLsbD_or]
    rw [bit_and _ _ 18 true (by decide), bit_shr _ 4 18 22 rfl]
    rw [bit_shl _ 4 18 14 rfl (by omega), bit_and _ _ 14 false (by decide)]
    simp
  | 19, _ => by
    unfold sw4
    rw [BitVec.getLsbD_or]
    rw [bit_and _ _ 19 true (by decide), bit_shr _ 4 19 23 rfl]
    rw [bit_shl _ 4 19 15 rfl (by omega), bit_and _ _ 15 false (by decide)]
    simp
  | 20, _ => by
    unfold sw4
    rw [BitVec.getLsbD_or]
    rw [bit_and _ _ 20 false (by decide), bit_shr _ 4 20 24 rfl]
    rw [bit_shl _ 4 20 16 rfl (by omega), bit_and _ _ 16 true (by decide)]
    simp
  | 21, _ => by
    unfold sw4
    rw [BitVec.getLsbD_or]
    rw [bit_and _ _ 21 false (by decide), bit_shr _ 4 21 25 rfl]
    rw [bit_shl _ 4 21 17 rfl (by omega), bit_and _ _ 17 true (by decide)]
    simp
  | 22, _ => by
    unfold sw4
    rw [BitVec.getLsbD_or]
    rw [bit_and _ _ 22 false (by decide), bit_shr _ 4 22 26 rfl]
    rw [bit_shl _ 4 22 18 rfl (by omega), bit_and _ _ 18 true (by decide)]
    simp
  | 23, _ => by
    unfold sw4
    rw [BitVec.getLsbD_or]
    rw [bit_and _ _ 23 false (by decide), bit_shr _ 4 23 27 rfl]
    rw [bit_shl _ 4 23 19 rfl (by omega), bit_and _ _ 19 true (by decide)]
    simp
  | 24, _ => by
    unfold sw4
    rw [BitVec.getLsbD_or]
    rw [bit_and _ _ 24 true (by decide), bit_shr _ 4 24 28 rfl]
    rw [bit_shl _ 4 24 20 rfl (by omega), bit_and _ _ 20 false (by decide)]
    simp
  | 25, _ => by
    unfold sw4
    rw [BitVec.getLsbD_or]
    rw [bit_and _ _ 25 true (by decide), bit_shr _ 4 25 29 rfl]
    rw [bit_shl _ 4 25 21 rfl (by omega), bit_and _ _ 21 false (by decide)]
    simp
  | 26, _ => by
    unfold sw4
    rw [BitVec.getLsbD_or]
    rw [bit_and _ _ 26 true (by decide), bit_shr _ 4 26 30 rfl]
    rw [bit_shl _ 4 26 22 rfl (by omega), bit_and _ _ 22 false (by decide)]
    simp
  | 27, _ => by
    unfold sw4
    rw [BitVec.getLsbD_or]
    rw [bit_and _ _ 27 true (by decide), bit_shr _ 4 27 31 rfl]
    rw [bit_shl _ 4 27 23 rfl (by omega), bit_and _ _ 23 false (by decide)]
    simp
  | 28, _ => by
    unfold sw4
    rw [BitVec.getLsbD_or]
    rw [bit_and _ _ 28 false (by decide), bit_shr _ 4 28 32 rfl]
    rw [bit_shl _ 4 28 24 rfl (by omega), bit_and _ _ 24 true (by decide)]
    simp
  | 29, _ => by
    unfold sw4
    rw [BitVec.getLsbD_or]
    rw [bit_and _ _ 29 false (by decide), bit_shr _ 4 29 33 rfl]
    rw [bit_shl _ 4 29 25 rfl (by omega), bit_and _ _ 25 true (by decide)]
    simp
  | 30, _ => by
    unfold sw4
    rw [BitVec.getLsbD_or]
    rw [bit_and _ _ 30 false (by decide), bit_shr _ 4 30 34 rfl]
    rw [bit_shl _ 4 30 26 rfl (by omega), bit_and _ _ 26 true (by decide)]
    simp
  | 31, _ => by
    unfold sw4
    rw [BitVec.getLsbD_or]
    rw [bit_and _ _ 31 false (by decide), bit_shr _ 4 31 35 rfl]
    rw [bit_shl _ 4 31 27 rfl (by omega), bit_and _ _ 27 true (by decide)]
    simp
  | n + 32, h => absurd h (by omega)
theorem sw8_bit (a : BitVec 32) : ∀ i, i < 32 → (sw8 a).getLsbD i = a.getLsbD (i ^^^ 8)
  | 0, _ => by
    unfold sw8
    rw [BitVec.getLsbD_or]
    rw [bit_and _ _ 0 true (by decide), bit_shr _ 8 0 8 rfl]
    rw [bit_shl0 _ 8 0 (by omega)]
    simp
  | 1, _ => by
    unfold sw8
    rw [BitVec.getLsbD_or]
    rw [bit_and _ _ 1 true (by decide), bit_shr _ 8 1 9 rfl]
    rw [bit_shl0 _ 8 1 (by omega)]
    simp
  | 2, _ => by
    unfold sw8
    rw [BitVec.getLsbD_or]
    rw [bit_and _ _ 2 true (by decide), bit_shr _ 8 2 10 rfl]
    rw [bit_shl0 _ 8 2 (by omega)]
    simp
  | 3, _ => by
    unfold sw8
    rw [BitVec.getLsbD_or]
    rw [bit_and _ _ 3 true (by decide), bit_shr _ 8 3 11 rfl]
    rw [bit_shl0 _ 8 3 (by omega)]
    simp
  | 4, _ => by
    unfold sw8
    rw [BitVec.getLsbD_or]
    rw [bit_and _ _ 4 true (by decide), bit_shr _ 8 4 12 rfl]
    rw [bit_shl0 _ 8 4 (by omega)]
    simp
  | 5, _ => by
    unfold sw8
    rw [BitVec.getLsbD_or]
    rw [bit_and _ _ 5 true (by decide), bit_shr _ 8 5 13 rfl]
    rw [bit_shl0 _ 8 5 (by omega)]
    simp
  | 6, _ => by
    unfold sw8
    rw [BitVec.getLsbD_or]
    rw [bit_and _ _ 6 true (by decide), bit_shr _ 8 6 14 rfl]
    rw [bit_shl0 _ 8 6 (by omega)]
    simp
  | 7, _ => by
    unfold sw8
    rw [BitVec.getLsbD_or]
    rw [bit_and _ _ 7 true (by decide), bit_shr _ 8 7 15 rfl]
    rw [bit_shl0 _ 8 7 (by omega)]
    simp
  | 8, _ => by
    unfold sw8
    rw [BitVec.getLsbD_or]
    rw [bit_and _ _ 8 false (by decide), bit_shr _ 8 8 16 rfl]
    rw [bit_shl _ 8 8 0 rfl (by omega), bit_and _ _ 0 true (by decide)]
    simp
  | 9, _ => by
    unfold sw8
    rw [BitVec.getLsbD_or]
    rw [bit_and _ _ 9 false (by decide), bit_shr _ 8 9 17 rfl]
    rw [bit_shl _ 8 9 1 rfl (by omega), bit_and _ _ 1 true (by decide)]
    simp
  | 10, _ => by
    unfold sw8
    rw [BitVec.getLsbD_or]
    rw [bit_and _ _ 10 false (by decide), bit_shr _ 8 10 18 rfl]
    rw [bit_shl _ 8 10 2 rfl (by omega), bit_and _ _ 2 true (by decide)]
    simp
  | 11, _ => by
    unfold sw8
    rw [BitVec.getLsbD_or]
    rw [bit_and _ _ 11 false (by decide), bit_shr _ 8 11 19 rfl]
    rw [bit_shl _ 8 11 3 rfl (by omega), bit_and _ _ 3 true (by decide)]
    simp
  | 12, _ => by
    unfold sw8
    rw [BitVec.getLsbD_or]
    rw [bit_and _ _ 12 false (by decide), bit_shr _ 8 12 20 rfl]
    rw [bit_shl _ 8 12 4 rfl (by omega), bit_and _ _ 4 true (by decide)]
    simp
  | 13, _ => by
    unfold sw8
    rw [BitVec.getLsbD_or]
    rw [bit_and _ _ 13 false (by decide), bit_shr _ 8 13 21 rfl]
    rw [bit_shl _ 8 13 5 rfl (by omega), bit_and _ _ 5 true (by decide)]
    simp
  | 14, _ => by
    unfold sw8
    rw [BitVec.getLsbD_or]
    rw [bit_and _ _ 14 false (by decide), bit_shr _ 8 14 22 rfl]
    rw [bit_shl _ 8 14 6 rfl (by omega), bit_and _ _ 6 true (by decide)]
    simp
  | 15, _ => by
    unfold sw8
    rw [BitVec.getLsbD_or]
    rw [bit_and _ _ 15 false (by decide), bit_shr _ 8 15 23 rfl]
    rw [bit_shl _ 8 15 7 rfl (by omega), bit_and _ _ 7 true (by decide)]
    simp
  | 16, _ => by
    unfold sw8
    rw [BitVec.getLsbD_or]
    rw [bit_and _ _ 16 true (by decide), bit_shr _ 8 16 24 rfl]
    rw [bit_shl _ 8 16 8 rfl (by omega), bit_and _ _ 8 false (by decide)]
    simp
  | 17, _ => by
    unfold sw8
    rw [BitVec.getLsbD_or]
    rw [bit_and _ _ 17 true (by decide), bit_shr _ 8 17 25 rfl]
    rw [bit_shl _ 8 17 9 rfl (by omega), bit_and _ _ 9 false (by decide)]
    simp
  | 18, _ => by
    unfold sw8
    rw [BitVec.getLsbD_or]
    rw [bit_and _ _ 18 true (by decide), bit_shr _ 8 18 26 rfl]
    rw [bit_shl _ 8 18 10 rfl (by omega), bit_and _ _ 10 false (by decide)]
    simp
  | 19, _ => by
    unfold sw8
    rw [BitVec.getLsbD_or]
    rw [bit_and _ _ 19 true (by decide), bit_shr _ 8 19 27 rfl]
    rw [bit_shl _ 8 19 11 rfl (by omega), bit_and _ _ 11 false (by decide)]
    simp
  | 20, _ => by
    unfold sw8
    rw [BitVec.getLsbD_or]
    rw [bit_and _ _ 20 true (by decide), bit_shr _ 8 20 28 rfl]
    rw [bit_shl _ 8 20 12 rfl (by omega), bit_and _ _ 12 false (by decide)]
    simp
  | 21, _ => by
    unfold sw8
    rw [BitVec.getLsbD_or]
    rw [bit_and _ _ 21 true (by decide), bit_shr _ 8 21 29 rfl]
    rw [bit_shl _ 8 21 13 rfl (by omega), bit_and _ _ 13 false (by decide)]
    simp
  | 22, _ => by
    unfold sw8
    rw [BitVec.getLsbD_or]
    rw [bit_and _ _ 22 true (by decide), bit_shr _ 8 22 30 rfl]
    rw [bit_shl _ 8 22 14 rfl (by omega), bit_and _ _ 14 false (by decide)]
    simp
  | 23, _ => by
    unfold sw8
    rw [BitVec.getLsbD_or]
    rw [bit_and _ _ 23 true (by decide), bit_shr _ 8 23 31 rfl]
    rw [bit_shl _ 8 23 15 rfl (by omega), bit_and _ _ 15 false (by decide)]
    simp
  | 24, _ => by
    unfold sw8
    rw [BitVec.getLsbD_or]
    rw [bit_and _ _ 24 false (by decide), bit_shr _ 8 24 32 rfl]
    rw [bit_shl _ 8 24 16 rfl (by omega), bit_and _ _ 16 true (by decide)]
    simp
  | 25, _ => by
    unfold sw8
    rw [BitVec.getLsbD_or]
    rw [bit_and _ _ 25 false (by decide), bit_shr _ 8 25 33 rfl]
    rw [bit_shl _ 8 25 17 rfl (by omega), bit_and _ _ 17 true (by decide)]
    simp
  | 26, _ => by
    unfold sw8
    rw [BitVec.getLsbD_or]
    rw [bit_and _ _ 26 false (by decide), bit_shr _ 8 26 34 rfl]
    rw [bit_shl _ 8 26 18 rfl (by omega), bit_and _ _ 18 true (by decide)]
    simp
  | 27, _ => by
    unfold sw8
    rw [BitVec.getLsbD_or]
    rw [bit_and _ _ 27 false (by decide), bit_shr _ 8 27 35 rfl]
    rw [bit_shl _ 8 27 19 rfl (by omega), bit_and _ _ 19 true (by decide)]
    simp
  | 28, _ => by
    unfold sw8
    rw [BitVec.getLsbD_or]
    rw [bit_and _ _ 28 false (by decide), bit_shr _ 8 28 36 rfl]
    rw [bit_shl _ 8 28 20 rfl (by omega), bit_and _ _ 20 true (by decide)]
    simp
  | 29, _ => by
    unfold sw8
    rw [BitVec.getLsbD_or]
    rw [bit_and _ _ 29 false (by decide), bit_shr _ 8 29 37 rfl]
    rw [bit_shl _ 8 29 21 rfl (by omega), bit_and _ _ 21 true (by decide)]
    simp
  | 30, _ => by
    unfold sw8
    rw [BitVec.getLsbD_or]
    rw [bit_and _ _ 30 false (by decide), bit_shr _ 8 30 38 rfl]
    rw [bit_shl _ 8 30 22 rfl (by omega), bit_and _ _ 22 true (by decide)]
    simp
  | 31, _ => by
    unfold sw8
    rw [BitVec.getLsbD_or]
    rw [bit_and _ _ 31 false (by decide), bit_shr _ 8 31 39 rfl]
    rw [bit_shl _ 8 31 23 rfl (by omega), bit_and _ _ 23 true (by decide)]
    simp
  | n + 32, h => absurd h (by omega)
theorem sw16_bit (a : BitVec 32) (i : Nat) (h : i < 32) : (sw16 a).getLsbD i = a.getLsbD ((i + 16) % 32) := by
  unfold sw16
  rw [BitVec.getLsbD_or, bit_shr _ 16 i (16 + i) rfl]
  by_cases h2 : i < 16
  · rw [bit_shl0 _ 16 i h2, Bool.or_false]
    congr 1
    omega
  · rw [bit_out a (16 + i) (by omega), bit_shl a 16 i (i - 16) (by omega) h, Bool.false_or]
    congr 1
    omega
theorem five : ∀ i, i < 32 → ((((((i + 16) % 32) ^^^ 8) ^^^ 4) ^^^ 2) ^^^ 1) = 31 - i ∧ ((i + 16) % 32) < 32 ∧ (((i + 16) % 32) ^^^ 8) < 32 ∧ ((((i + 16) % 32) ^^^ 8) ^^^ 4) < 32 ∧ (((((i + 16) % 32) ^^^ 8) ^^^ 4) ^^^ 2) < 32 := by decide
theorem sw_reverse (a : BitVec 32) : sw16 (sw8 (sw4 (sw2 (sw1 a)))) = a.reverse := by
  refine BitVec.eq_of_getLsbD_eq fun i hi => ?_
  obtain ⟨h1, h2, h3, h4, h5⟩ := five i hi
  rw [sw16_bit _ _ hi, sw8_bit _ _ h2, sw4_bit _ _ h3, sw2_bit _ _ h4, sw1_bit _ _ h5, h1, BitVec.getLsbD_reverse, BitVec.getMsbD_eq_getLsbD]
  simp [hi]
end Go.Proofs.Ytlhlljjchggnjaa
