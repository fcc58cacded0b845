/- Plain laws: what was encoded is decoded. -/
import Derived.Test.YtlhlljjchggnjaaMath
namespace Go.Proofs.Ytlhlljjchggnjaa
open Go.RowKit

theorem rd_enc : ∀ (k u j acc : Nat) (rest : List UInt8), u < 128 ^ (k + 1) → j + k ≤ 9 → u * 128 ^ j < 18446744073709551616 → (0 < j → 0 < u) →
    rdU j acc (enc7 k u ++ rest) = some (acc + u * 128 ^ j, rest)
  | k, u, j, acc, rest, hu, hj, hl, h0 => by
    have small : u < 128 → rdU j acc ([UInt8.ofNat u] ++ rest) = some (acc + u * 128 ^ j, rest) := by
      intro h
      have hx : (UInt8.ofNat u).toNat = u := by rw [UInt8.toNat_ofNat', Nat.mod_eq_of_lt (by omega)]
      rw [List.singleton_append, rdU_step, hx]
      have h9 : ¬ (j > 9 ∨ (j = 9 ∧ u > 1)) := by
        rintro (h9 | ⟨h9, h1⟩)
        · omega
        · subst h9
          omega
      rw [if_neg h9, if_pos h, if_neg (by omega)]
    by_cases h : u < 128
    · rw [enc7_small _ _ h]
      exact small h
    · cases k with
      | zero => omega
      | succ k =>
        rw [enc7_big _ _ h, List.cons_append, rdU_step]
        have hx : (UInt8.ofNat (u % 128 + 128)).toNat = u % 128 + 128 := by rw [UInt8.toNat_ofNat', Nat.mod_eq_of_lt (by omega)]
        rw [hx, if_neg (by omega), if_neg (by omega)]
        rw [Nat.pow_succ] at hu
        have e : u * 128 ^ j = u % 128 * 128 ^ j + u / 128 * 128 ^ (j + 1) := by
          rw [Nat.pow_succ, Nat.mul_comm (128 ^ j) 128, ← Nat.mul_assoc, ← Nat.add_mul]
          congr 1
          omega
        rw [rd_enc k (u / 128) (j + 1) _ rest (by omega) (by omega) (by omega) (fun _ => by omega)]
        rw [show (u % 128 + 128) % 128 = u % 128 by omega, Nat.add_assoc, ← e]
theorem unzz_zz (x : Int) : unzz (zz x) = x := by
  unfold unzz zz
  split <;> split <;> omega
theorem rNum_numB (x : Int) (h0 : -9223372036854775808 ≤ x) (h1 : x ≤ 9223372036854775807) (rest : List UInt8) (bad : Bool) : rNum (numB x ++ rest, bad) = (x, (rest, bad)) := by
  have hz := zz_lt x h0 h1
  have h := rd_enc 9 (zz x) 0 0 rest (by omega) (by omega) (by omega) (by omega)
  simp only [Nat.pow_zero, Nat.mul_one, Nat.zero_add] at h
  simp only [rNum, numB, h, unzz_zz]
theorem rText_textB (s : List UInt8) (hs : s.length ≤ 140737488351232) (rest : List UInt8) (bad : Bool) : rText (textB s ++ rest, bad) = (s, (rest, bad)) := by
  have h := rNum_numB (s.length : Int) (by omega) (by omega) (s ++ rest) bad
  have hc : rCount ((textB s ++ rest).length : Int) (textB s ++ rest, bad) = ((s.length : Int), (s ++ rest, bad)) := by
    unfold rCount textB
    rw [List.append_assoc, h]
    simp only
    rw [if_neg]
    simp only [List.length_append]
    omega
  unfold rText
  simp only [hc]
  rw [if_neg (by simp only [List.length_append]; omega)]
  simp
end Go.Proofs.Ytlhlljjchggnjaa
