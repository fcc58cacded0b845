/- Plain functions and laws on numbers and lists: the encoding of numbers and texts, and its reading back. No program is named here. -/
import Derived.Laws.BitsLemmas
import Derived.Laws.Bits64
import Derived.Laws.Bits64b
import Derived.WalkKit
import Derived.KernelRfl
namespace Go.Proofs.Ytlhlljjchggnjaa
open Go.RowKit

/-! ### 1. Numbers as bytes -/
/-- Seven bits a byte, the lowest first, k bytes ahead of the last one at most. -/
def enc7 : Nat → Nat → List UInt8
  | 0, u => [UInt8.ofNat u]
  | k + 1, u => if u < 128 then [UInt8.ofNat u] else UInt8.ofNat (u % 128 + 128) :: enc7 k (u / 128)
def zz (n : Int) : Nat := if 0 ≤ n then (2 * n).toNat else (2 * (-1 - n) + 1).toNat
def numB (n : Int) : List UInt8 := enc7 9 (zz n)
def textB (s : List UInt8) : List UInt8 := numB s.length ++ s

theorem zz_lt (n : Int) (h0 : -9223372036854775808 ≤ n) (h1 : n ≤ 9223372036854775807) : zz n < 18446744073709551616 := by
  unfold zz; split <;> omega
theorem enc7_small (k u : Nat) (h : u < 128) : enc7 k u = [UInt8.ofNat u] := by
  cases k with
  | zero => rfl
  | succ k => simp [enc7, h]
theorem enc7_big (k u : Nat) (h : ¬ u < 128) : enc7 (k + 1) u = UInt8.ofNat (u % 128 + 128) :: enc7 k (u / 128) := by
  simp [enc7, h]
theorem enc7_len (k : Nat) : ∀ u, (enc7 k u).length ≤ k + 1 := by
  induction k with
  | zero => intro u; simp [enc7]
  | succ k ih =>
    intro u
    by_cases h : u < 128
    · rw [enc7_small _ _ h]; simp
    · rw [enc7_big _ _ h]; have := ih (u / 128); simp; omega
theorem enc7_pos (k u : Nat) : 0 < (enc7 k u).length := by
  cases k with
  | zero => simp [enc7]
  | succ k =>
    by_cases h : u < 128
    · rw [enc7_small _ _ h]; simp
    · rw [enc7_big _ _ h]; simp
theorem numB_len (n : Int) : (numB n).length ≤ 10 := enc7_len 9 _
theorem zz_bits (x : Int) (h0 : -9223372036854775808 ≤ x) (h1 : x ≤ 9223372036854775807) :
    bits .xor .u64 (IntKind.u64.wrap (IntKind.u64.wrap x * 2)) (IntKind.u64.wrap (x / 9223372036854775808)) = (zz x : Int) := by
  by_cases hx : 0 ≤ x
  · have e1 : IntKind.u64.wrap (IntKind.u64.wrap x * 2) = ((2 * x).toNat : Int) := by rw [IntKind.wrap_u64, IntKind.wrap_u64]; omega
    have e2 : IntKind.u64.wrap (x / 9223372036854775808) = ((0 : Nat) : Int) := by rw [IntKind.wrap_u64]; omega
    rw [e1, e2, bits_xor_u64_nat _ _ (by omega) (by omega), Nat.xor_zero]
    simp [zz, hx]
  · have e1 : IntKind.u64.wrap (IntKind.u64.wrap x * 2) = ((2 * x + 18446744073709551616).toNat : Int) := by rw [IntKind.wrap_u64, IntKind.wrap_u64]; omega
    have e2 : IntKind.u64.wrap (x / 9223372036854775808) = ((2 ^ 64 - 1 : Nat) : Int) := by rw [IntKind.wrap_u64]; omega
    rw [e1, e2, bits_xor_u64_nat _ _ (by omega) (by omega)]
    have e3 : (2 * x + 18446744073709551616).toNat ^^^ (2 ^ 64 - 1) = 2 ^ 64 - 1 - (2 * x + 18446744073709551616).toNat := by
      have hm : ∀ a : BitVec 64, a ^^^ BitVec.allOnes 64 = ~~~ a := fun a => by rw [BitVec.xor_allOnes]
      have h2 := congrArg BitVec.toNat (hm (BitVec.ofNat 64 (2 * x + 18446744073709551616).toNat))
      rw [BitVec.toNat_xor, BitVec.toNat_not, BitVec.toNat_ofNat, BitVec.toNat_allOnes, Nat.mod_eq_of_lt (by omega)] at h2
      exact h2
    rw [e3]
    simp only [zz, if_neg hx]
    omega
theorem more_bits (u : Nat) : bits .or .u8 ((u : Int) % 256) 128 = ((u % 128 + 128 : Nat) : Int) := by
  have e : (u : Int) % 256 = ((u % 256 : Nat) : Int) := by omega
  rw [e]
  have h := (bits_nat .u8 8 (by decide) wraps_u8 (u % 256) 128 (by omega) (by omega)).2
  rw [show ((128 : Int)) = ((128 : Nat) : Int) from rfl, h]
  congr 1
  have hd : (List.range 256).all (fun a => a ||| 128 == a % 128 + 128) = true := by kernel_rfl
  have := List.all_eq_true.1 hd (u % 256) (List.mem_range.2 (by omega))
  have := eq_of_beq this
  rw [this]
  omega

/-! ### 2. Reading numbers and texts back -/
def rdU : Nat → Nat → List UInt8 → Option (Nat × List UInt8)
  | _, _, [] => none
  | n, u, x :: r =>
    if n > 9 ∨ (n = 9 ∧ x.toNat > 1) then none
    else if x.toNat < 128 then (if x.toNat = 0 ∧ n > 0 then none else some (u + x.toNat * 128 ^ n, r))
    else rdU (n + 1) (u + x.toNat % 128 * 128 ^ n) r
def unzz (u : Nat) : Int := if u % 2 = 0 then (u / 2 : Nat) else -1 - (u / 2 : Nat)
/-- A reader's state: the bytes that are left, and whether it is invalid. -/
abbrev Rdr := List UInt8 × Bool
def rFail : Rdr := ([], true)
def rNum (s : Rdr) : Int × Rdr := match rdU 0 0 s.1 with
  | some (u, r) => (unzz u, (r, s.2))
  | none => (0, rFail)
def rCount (most : Int) (s : Rdr) : Int × Rdr := if (rNum s).1 < 0 ∨ (rNum s).1 > most then (0, rFail) else rNum s
def rText (s : Rdr) : List UInt8 × Rdr :=
  let q := rCount s.1.length s
  if q.1 > q.2.1.length then ([], rFail) else (q.2.1.take q.1.toNat, (q.2.1.drop q.1.toNat, q.2.2))
def rEnd (s : Rdr) : Bool := !s.2 && s.1.isEmpty

theorem unzz_bits (u : Nat) (h : u < 18446744073709551616) : -9223372036854775808 ≤ unzz u ∧ unzz u ≤ 9223372036854775807 := by
  unfold unzz; split <;> omega

theorem rdU_step (k uu : Nat) (x : UInt8) (r : List UInt8) : rdU k uu (x :: r) = if k > 9 ∨ (k = 9 ∧ x.toNat > 1) then none
    else if x.toNat < 128 then (if x.toNat = 0 ∧ k > 0 then none else some (uu + x.toNat * 128 ^ k, r))
    else rdU (k + 1) (uu + x.toNat % 128 * 128 ^ k) r := rfl
theorem pow128 (k : Nat) : 2 ^ (7 * k) = 128 ^ k := by rw [Nat.pow_mul]
theorem pow128_le {k : Nat} (hk : k ≤ 9) : 128 ^ k ≤ 9223372036854775808 := by
  have := Nat.pow_le_pow_right (n := 128) (by omega) hk
  omega
theorem acc_lt (x k : Nat) (hk : k ≤ 9) (h9 : k = 9 → x % 128 ≤ 1) : x % 128 * 128 ^ k ≤ 9223372036854775808 := by
  by_cases h : k = 9
  · subst h
    have := h9 rfl
    omega
  · have h2 := Nat.pow_le_pow_right (n := 128) (by omega) (show k ≤ 8 by omega)
    have h3 : x % 128 ≤ 127 := by omega
    have := Nat.mul_le_mul h3 h2
    omega
theorem acc_bits (uu x k : Nat) (hu : uu < 128 ^ k) (hx : x < 256) (hk : k ≤ 9) (h9 : k = 9 → x % 128 ≤ 1) :
    bits .or .u64 (uu : Int) (IntKind.u64.wrap (IntKind.u64.wrap (bits .and .u8 (x : Int) 127) * 2 ^ (7 * k))) = ((uu + x % 128 * 128 ^ k : Nat) : Int) := by
  have e1 : bits .and .u8 (x : Int) 127 = ((x % 128 : Nat) : Int) := by
    have := bits_mask .u8 8 (by decide) wraps_u8 7 (by decide) (x : Int) (by omega) (by omega)
    rw [show (2 : Int) ^ 7 - 1 = 127 from rfl] at this
    rw [this]
    omega
  have hl := acc_lt x k hk h9
  have hp := pow128_le hk
  have e2 : IntKind.u64.wrap (IntKind.u64.wrap ((x % 128 : Nat) : Int) * 2 ^ (7 * k)) = ((x % 128 * 128 ^ k : Nat) : Int) := by
    have e3 : IntKind.u64.wrap ((x % 128 : Nat) : Int) = ((x % 128 : Nat) : Int) := by rw [IntKind.wrap_u64]; omega
    have e4 : ((2 : Int) ^ (7 * k)) = ((128 ^ k : Nat) : Int) := by rw [← pow128]; simp
    rw [e3, e4, ← Int.natCast_mul, IntKind.wrap_u64]
    omega
  rw [e1, e2, bits_or_u64_nat _ _ (by omega) (by omega)]
  congr 1
  rw [Nat.or_comm, Nat.mul_comm, ← pow128, ← Nat.two_pow_add_eq_or_of_lt (by rw [pow128]; exact hu), Nat.add_comm]
theorem bits_i64_not (a : Nat) (ha : a < 9223372036854775808) : bits .xor .i64 (a : Int) (-1) = -1 - (a : Int) := by
  have h1 : BitVec.ofInt 64 (-1) = BitVec.allOnes 64 := by decide
  have h3 : (BitVec.ofNat 64 a ^^^ BitVec.allOnes 64).toNat = 18446744073709551615 - a := by
    rw [BitVec.xor_allOnes, BitVec.toNat_not, BitVec.toNat_ofNat, Nat.mod_eq_of_lt (by omega)]
  show IntKind.i64.wrap ((BitVec.ofInt 64 (a : Int) ^^^ BitVec.ofInt 64 (-1)).toNat : Int) = _
  rw [h1, BitVec.ofInt_natCast, h3, IntKind.wrap_i64]
  omega
theorem bits_i64_zero (a : Nat) (ha : a < 9223372036854775808) : bits .xor .i64 (a : Int) 0 = (a : Int) := by
  have h1 : BitVec.ofInt 64 0 = 0#64 := by decide
  show IntKind.i64.wrap ((BitVec.ofInt 64 (a : Int) ^^^ BitVec.ofInt 64 0).toNat : Int) = _
  rw [h1, BitVec.ofInt_natCast, BitVec.xor_zero, BitVec.toNat_ofNat, Nat.mod_eq_of_lt (by omega), IntKind.wrap_i64]
  omega
theorem unzz_walk (v : Nat) (hv : v < 18446744073709551616) : bits .xor .i64 ((v : Int) / 2) (wrap64 (-wrap64 (bits .and .u64 (v : Int) 1))) = unzz v := by
  have e1 : (v : Int) / 2 = ((v / 2 : Nat) : Int) := by omega
  have e2 : bits .and .u64 (v : Int) 1 = ((v % 2 : Nat) : Int) := by
    rw [show (1 : Int) = ((1 : Nat) : Int) from rfl, bits_and_u64_nat _ _ hv (by omega), Nat.and_one_is_mod]
  rw [e1, e2]
  by_cases h : v % 2 = 0
  · rw [h, show wrap64 (-wrap64 ((0 : Nat) : Int)) = 0 by unfold wrap64; omega, bits_i64_zero _ (by omega)]
    simp [unzz, h]
  · rw [show v % 2 = 1 by omega, show wrap64 (-wrap64 ((1 : Nat) : Int)) = -1 by unfold wrap64; omega, bits_i64_not _ (by omega)]
    simp [unzz, h]

theorem rCount_range (most : Int) (s : Rdr) (h : 0 ≤ most) : 0 ≤ (rCount most s).1 ∧ (rCount most s).1 ≤ most := by
  unfold rCount
  split
  · exact ⟨Int.le_refl _, h⟩
  · omega

/-! ### 3. The reference's reading: the digits from the highest on -/
def hval : List UInt8 → Nat
  | [] => 0
  | x :: r => x.toNat % 128 + 128 * hval r
def refRead (bs : List UInt8) : Int × Nat := match rdU 0 0 bs with
  | some (u, r) => (unzz u, bs.length - r.length)
  | none => (0, 0)
theorem hval_snoc (l : List UInt8) (x : UInt8) : hval (l ++ [x]) = hval l + x.toNat % 128 * 128 ^ l.length := by
  induction l with
  | nil => simp [hval]
  | cons y r ih =>
    simp only [List.cons_append, hval, ih, List.length_cons, Nat.pow_succ, Nat.mul_add]
    rw [Nat.mul_comm (128 ^ r.length) 128, Nat.mul_left_comm (x.toNat % 128) 128]
    omega
theorem hval_lt (l : List UInt8) : hval l < 128 ^ l.length := by
  induction l with
  | nil => simp [hval]
  | cons y r ih =>
    simp only [hval, List.length_cons, Nat.pow_succ]
    omega
theorem hval_take (bs : List UInt8) (k : Nat) (h : k < bs.length) : hval (bs.take (k + 1)) = hval (bs.take k) + bs[k].toNat % 128 * 128 ^ k := by
  rw [List.take_succ_eq_append_getElem h, hval_snoc, List.length_take, Nat.min_eq_left (by omega)]
theorem hval_drop (l : List UInt8) (t : Nat) (h : t < l.length) : hval (l.drop t) = l[t].toNat % 128 + 128 * hval (l.drop (t + 1)) := by
  rw [List.drop_eq_getElem_cons h]
  rfl
end Go.Proofs.Ytlhlljjchggnjaa
