/- Plain laws: the sum by the division of polynomials, bit by bit from the highest on, is the sum by steps. No program is named here. -/
import Derived.Test.YtlhlljjchggnjaaCrc
namespace Go.Proofs.Ytlhlljjchggnjaa

/-- One bit of the division: the divisor is taken off where bit k is set. -/
def dStep (k r : Nat) : Nat := if r.testBit k then r ^^^ (0x104c11db7 <<< (k - 32)) else r
/-- Bits k + 31 .. 32, from the highest on. -/
def dSteps : Nat → Nat → Nat
  | 0, r => r
  | k + 1, r => dSteps k (dStep (k + 32) r)
/-- The bits of a byte, the other way round. -/
def rev8 (x : UInt8) : Nat := (x.toBitVec.reverse).toNat
def dByte (r : Nat) (y : UInt8) : Nat := dSteps 8 (r * 256 + rev8 y)
def rv (r : Nat) : BitVec 32 := (BitVec.ofNat 32 r).reverse

theorem dStep_lt (k r : Nat) (hk : 32 ≤ k) (h : r < 2 ^ (k + 1)) : dStep k r < 2 ^ k := by
  unfold dStep
  refine Nat.lt_pow_two_of_testBit _ fun i hi => ?_
  have hP : ∀ i, (0x104c11db7 <<< (k - 32)).testBit i = (decide (k - 32 ≤ i) && (0x104c11db7).testBit (i - (k - 32))) := fun i => by rw [Nat.testBit_shiftLeft]
  rcases Nat.lt_or_ge k i with h1 | h1
  · have hr : r.testBit i = false := Nat.testBit_lt_two_pow (Nat.lt_of_lt_of_le h (Nat.pow_le_pow_right (by omega) (by omega)))
    split
    · rw [Nat.testBit_xor, hr, hP, show (0x104c11db7 : Nat).testBit (i - (k - 32)) = false from Nat.testBit_lt_two_pow (Nat.lt_of_lt_of_le (show 0x104c11db7 < 2 ^ 33 by decide) (Nat.pow_le_pow_right (by omega) (by omega)))]
      simp
    · exact hr
  · obtain rfl : i = k := by omega
    split
    · rename_i hb
      rw [Nat.testBit_xor, hb, hP, show i - (i - 32) = 32 by omega]
      have : (0x104c11db7 : Nat).testBit 32 = true := by decide
      rw [this]
      simp
    · rename_i hb
      simpa using hb
theorem dSteps_lt : ∀ (k r : Nat), r < 2 ^ (k + 32) → dSteps k r < 2 ^ 32
  | 0, _, h => by rw [Nat.zero_add] at h; exact h
  | k + 1, r, h => dSteps_lt k _ (dStep_lt (k + 32) r (by omega) (by rw [show k + 32 + 1 = k + 1 + 32 by omega]; exact h))
/-- The same from the lowest bit on, in forty bits. -/
def eStep (c : BitVec 40) : BitVec 40 := if c.getLsbD 0 then (c >>> 1) ^^^ 0xedb88320#40 else c >>> 1
def eSteps : Nat → BitVec 40 → BitVec 40
  | 0, c => c
  | n + 1, c => eSteps n (eStep c)
theorem eStep_xor (a b : BitVec 40) : eStep (a ^^^ b) = eStep a ^^^ eStep b := by
  unfold eStep
  rw [BitVec.getLsbD_xor, BitVec.ushiftRight_xor_distrib]
  generalize a >>> 1 = p
  generalize b >>> 1 = q
  generalize (0xedb88320#40) = c
  have hcc : c ^^^ c = 0#40 := BitVec.xor_self
  cases a.getLsbD 0 <;> cases b.getLsbD 0 <;> simp only [Bool.false_bne, Bool.true_bne, Bool.not_false, Bool.not_true, if_true, if_false, Bool.false_eq_true, Bool.xor_false, Bool.xor_true, Bool.false_xor, Bool.true_xor]
  · rw [BitVec.xor_assoc]
  · rw [BitVec.xor_assoc, BitVec.xor_comm q c, ← BitVec.xor_assoc]
  · rw [BitVec.xor_assoc p c, ← BitVec.xor_assoc c q c, BitVec.xor_comm c q, BitVec.xor_assoc q c c, hcc, BitVec.xor_zero]
theorem eSteps_xor (n : Nat) (a b : BitVec 40) : eSteps n (a ^^^ b) = eSteps n a ^^^ eSteps n b := by
  induction n generalizing a b with
  | zero => rfl
  | succ n ih => rw [eSteps, eStep_xor, ih]; rfl
theorem rev_xor {n : Nat} (a b : BitVec n) : (a ^^^ b).reverse = a.reverse ^^^ b.reverse := by
  refine BitVec.eq_of_getLsbD_eq fun i hi => ?_
  simp only [BitVec.getLsbD_reverse, BitVec.getLsbD_xor, BitVec.getMsbD_xor]
theorem poly_rev : ∀ j : Fin 8, (BitVec.ofNat 40 (0x104c11db7 <<< (7 - j.val))).reverse >>> (j.val + 1) = 0xedb88320#40 := by decide +kernel
theorem dStep_rev (j r : Nat) (hj : j < 8) : (BitVec.ofNat 40 (dStep (39 - j) r)).reverse >>> (j + 1) = eStep ((BitVec.ofNat 40 r).reverse >>> j) := by
  have hb : ((BitVec.ofNat 40 r).reverse >>> j).getLsbD 0 = r.testBit (39 - j) := by
    rw [BitVec.getLsbD_ushiftRight, BitVec.getLsbD_reverse, BitVec.getMsbD_eq_getLsbD, Nat.add_zero]
    rw [show 40 - 1 - j = 39 - j by omega, BitVec.getLsbD_ofNat]
    simp only [show j < 40 by omega, show 39 - j < 40 by omega, decide_true, Bool.true_and]
  unfold dStep eStep
  rw [hb]
  split
  · have h1 : BitVec.ofNat 40 (r ^^^ 0x104c11db7 <<< (39 - j - 32)) = BitVec.ofNat 40 r ^^^ BitVec.ofNat 40 (0x104c11db7 <<< (39 - j - 32)) := by
      refine BitVec.eq_of_getLsbD_eq fun i hi => ?_
      simp [BitVec.getLsbD_ofNat, Nat.testBit_xor]
    have h2 := poly_rev ⟨j, hj⟩
    simp only at h2
    rw [h1, rev_xor, BitVec.ushiftRight_xor_distrib, show 39 - j - 32 = 7 - j by omega, h2, BitVec.shiftRight_add]
  · rw [BitVec.shiftRight_add]
theorem dSteps_rev : ∀ (k r : Nat), k ≤ 8 → (BitVec.ofNat 40 (dSteps k r)).reverse >>> 8 = eSteps k ((BitVec.ofNat 40 r).reverse >>> (8 - k))
  | 0, r, _ => rfl
  | k + 1, r, h => by
    rw [dSteps, eSteps, dSteps_rev k _ (by omega)]
    congr 1
    have := dStep_rev (8 - (k + 1)) r (by omega)
    rw [show 39 - (8 - (k + 1)) = k + 32 by omega, show 8 - (k + 1) + 1 = 8 - k by omega] at this
    exact this
theorem eStep_wide (c : BitVec 32) : eStep (c.setWidth 40) = (cStep c).setWidth 40 := by
  unfold eStep cStep
  have hb : (c.setWidth 40).getLsbD 0 = c.getLsbD 0 := by simp
  rw [hb]
  have hs : (c.setWidth 40) >>> 1 = (c >>> 1).setWidth 40 := by
    refine BitVec.eq_of_getLsbD_eq fun i hi => ?_
    simp only [BitVec.getLsbD_ushiftRight, BitVec.getLsbD_setWidth]
    by_cases h : 1 + i < 40
    · simp [h, hi]
    · simp [h, BitVec.getLsbD_of_ge c (1 + i) (by omega)]
  split
  · rw [hs]
    refine BitVec.eq_of_getLsbD_eq fun i hi => ?_
    simp only [BitVec.getLsbD_xor, BitVec.getLsbD_setWidth, hi, decide_true, Bool.true_and, cPoly]
    congr 1
  · exact hs
theorem eSteps_wide (n : Nat) (c : BitVec 32) : eSteps n (c.setWidth 40) = (cSteps n c).setWidth 40 := by
  induction n generalizing c with
  | zero => rfl
  | succ n ih => rw [eSteps, eStep_wide, ih]; rfl
def up40 (x : UInt8) (k : Nat) : BitVec 40 := x.toBitVec.setWidth 40 <<< k
theorem up40_bit (x : UInt8) (k i : Nat) (hi : i < 40) : (up40 x k).getLsbD i = (decide (k ≤ i) && x.toBitVec.getLsbD (i - k)) := by
  unfold up40
  rw [BitVec.getLsbD_shiftLeft]
  by_cases h : k ≤ i
  · simp [hi, h, show ¬ i < k by omega, BitVec.getLsbD_setWidth, show i - k < 40 by omega]
  · simp [hi, h, show i < k by omega]
theorem up40_step (x : UInt8) (k : Nat) (hk : k < 32) : eStep (up40 x (k + 1)) = up40 x k := by
  have h0 : (up40 x (k + 1)).getLsbD 0 = false := by rw [up40_bit _ _ _ (by omega)]; simp
  rw [eStep, h0]
  simp only [Bool.false_eq_true, if_false]
  refine BitVec.eq_of_getLsbD_eq fun i hi => ?_
  rw [BitVec.getLsbD_ushiftRight, up40_bit _ _ _ hi]
  by_cases h31 : 1 + i < 40
  · rw [up40_bit _ _ _ h31]
    have e : (1 + i) - (k + 1) = i - k := by omega
    rw [e]
    congr 1
    simp only [decide_eq_decide]
    omega
  · have hi31 : i = 39 := by omega
    subst hi31
    rw [BitVec.getLsbD_of_ge _ _ (by omega)]
    have : x.toBitVec.getLsbD (39 - k) = false := BitVec.getLsbD_of_ge _ _ (by omega)
    simp [this]
theorem up40_steps (x : UInt8) (k n : Nat) (hk : k + n ≤ 32) : eSteps n (up40 x (k + n)) = up40 x k := by
  induction n with
  | zero => rfl
  | succ n ih => rw [eSteps, ← Nat.add_assoc, up40_step _ _ (by omega)]; exact ih (by omega)
theorem rev8_lt (y : UInt8) : rev8 y < 256 := y.toBitVec.reverse.isLt
theorem dByte_lt (r : Nat) (y : UInt8) (h : r < 2 ^ 32) : dByte r y < 2 ^ 32 := by
  have := rev8_lt y
  exact dSteps_lt 8 _ (by omega)
theorem dByte_rv (r : Nat) (y : UInt8) (h : r < 2 ^ 32) : rv (dByte r y) = cSteps 8 (rv r) ^^^ up y 24 := by
  have hr8 := rev8_lt y
  have h0 := dSteps_rev 8 (r * 256 + rev8 y) (by omega)
  rw [Nat.sub_self, BitVec.ushiftRight_zero] at h0
  have hbits : ∀ i, (r * 256 + rev8 y).testBit i = if i < 8 then (rev8 y).testBit i else r.testBit (i - 8) := by
    intro i
    rw [show r * 256 + rev8 y = 2 ^ 8 * r + rev8 y by omega, Nat.testBit_two_pow_mul_add _ (by simpa using hr8)]
  have hE : (BitVec.ofNat 40 (r * 256 + rev8 y)).reverse = (rv r).setWidth 40 ^^^ up40 y 32 := by
    refine BitVec.eq_of_getLsbD_eq fun i hi => ?_
    rw [BitVec.getLsbD_reverse, BitVec.getMsbD_eq_getLsbD, BitVec.getLsbD_xor, up40_bit _ _ _ hi, BitVec.getLsbD_setWidth, rv, BitVec.getLsbD_reverse, BitVec.getMsbD_eq_getLsbD, BitVec.getLsbD_ofNat, BitVec.getLsbD_ofNat, hbits]
    by_cases h32 : i < 32
    · simp [hi, h32, show ¬ 32 ≤ i by omega, show 40 - 1 - i < 40 by omega, show ¬ (40 - 1 - i < 8) by omega, show 40 - 1 - i - 8 = 32 - 1 - i by omega, show 32 - 1 - i < 32 by omega]
    · simp only [hi, h32, decide_true, decide_false, Bool.true_and, Bool.false_and, Bool.and_false, Bool.false_xor, show 40 - 1 - i < 40 by omega, show 40 - 1 - i < 8 by omega, if_true, show 32 ≤ i by omega]
      unfold rev8
      rw [← BitVec.getLsbD, BitVec.getLsbD_reverse, BitVec.getMsbD_eq_getLsbD]
      simp [show 40 - 1 - i < 8 by omega, show 8 - 1 - (40 - 1 - i) = i - 32 by omega]
  have hu := up40_steps y 24 8 (by omega)
  rw [show 24 + 8 = 32 from rfl] at hu
  rw [hE, eSteps_xor, eSteps_wide, hu] at h0
  refine BitVec.eq_of_getLsbD_eq fun i hi => ?_
  have h1 := congrArg (·.getLsbD i) h0
  simp only [BitVec.getLsbD_ushiftRight, BitVec.getLsbD_reverse, BitVec.getMsbD_eq_getLsbD, BitVec.getLsbD_xor, BitVec.getLsbD_setWidth, up40_bit _ _ _ (show i < 40 by omega), BitVec.getLsbD_ofNat] at h1
  rw [BitVec.getLsbD_xor, up_bit _ _ _ hi, rv, BitVec.getLsbD_reverse, BitVec.getMsbD_eq_getLsbD, BitVec.getLsbD_ofNat]
  simp only [hi, decide_true, Bool.true_and, show i < 40 by omega, show 8 + i < 40 by omega, show 40 - 1 - (8 + i) = 32 - 1 - i by omega, show 32 - 1 - i < 40 by omega, show 32 - 1 - i < 32 by omega] at h1 ⊢
  exact h1

/-! ### All bytes -/
/-- What the division takes at place i: the first four bytes stand with their bits turned. -/
def dIn (i : Nat) (x : UInt8) : UInt8 := if i < 4 then ~~~x else x
def dAll : Nat → Nat → List UInt8 → Nat
  | _, r, [] => r
  | i, r, x :: t => dAll (i + 1) (dByte r (dIn i x)) t
theorem dAll_lt : ∀ (l : List UInt8) (i r : Nat), r < 2 ^ 32 → dAll i r l < 2 ^ 32
  | [], _, _, h => h
  | x :: t, i, r, h => dAll_lt t _ _ (dByte_lt _ _ h)
theorem dAll_snoc : ∀ (l : List UInt8) (i r : Nat) (x : UInt8), dAll i r (l ++ [x]) = dByte (dAll i r l) (dIn (i + l.length) x)
  | [], _, _, _ => rfl
  | y :: t, i, r, x => by
    rw [List.cons_append, dAll, dAll_snoc t, dAll, List.length_cons, show i + 1 + t.length = i + (t.length + 1) by omega]
def gB (c : BitVec 32) (y : UInt8) : BitVec 32 := cSteps 8 c ^^^ up y 24
theorem dAll_late : ∀ (l : List UInt8) (i r : Nat), r < 2 ^ 32 → 4 ≤ i → rv (dAll i r l) = l.foldl gB (rv r)
  | [], _, _, _, _ => rfl
  | x :: t, i, r, h, hi => by
    rw [dAll, dAll_late t _ _ (dByte_lt _ _ h) (by omega), dByte_rv _ _ h, List.foldl_cons]
    simp [dIn, show ¬ i < 4 by omega, gB]
theorem late_eq : ∀ (b : List UInt8) (c : BitVec 32) (a0 a1 a2 a3 : UInt8) (tl : List UInt8), b ++ [0, 0, 0, 0] = a0 :: a1 :: a2 :: a3 :: tl → tl.foldl gB (c ^^^ word4 a0 a1 a2 a3) = cAll c b
  | [], c, a0, a1, a2, a3, tl, h => by
    simp only [List.nil_append, List.cons.injEq] at h
    obtain ⟨rfl, rfl, rfl, rfl, rfl⟩ := h
    have : word4 0 0 0 0 = 0#32 := by decide
    rw [this, BitVec.xor_zero]
    rfl
  | x :: b, c, a0, a1, a2, a3, tl, h => by
    simp only [List.cons_append, List.cons.injEq] at h
    obtain ⟨rfl, h⟩ := h
    cases tl with
    | nil =>
      have := congrArg List.length h
      simp at this
    | cons a4 tl =>
      rw [List.foldl_cons]
      have e : gB (c ^^^ word4 x a1 a2 a3) a4 = cByte c x ^^^ word4 a1 a2 a3 a4 := by
        unfold gB word4
        rw [show c ^^^ (up x 0 ^^^ up a1 8 ^^^ up a2 16 ^^^ up a3 24) = (c ^^^ up x 0) ^^^ (up a1 8 ^^^ (up a2 16 ^^^ up a3 24)) by simp only [BitVec.xor_assoc]]
        rw [cSteps_xor, cSteps_xor 8 (up a1 8), cSteps_xor 8 (up a2 16), up_steps a1 0 8 (by omega), up_steps a2 8 8 (by omega), up_steps a3 16 8 (by omega), up_zero x]
        simp only [BitVec.xor_assoc]
        rfl
      rw [e, late_eq b _ _ _ _ _ _ h]
      rfl
theorem up_not (x : UInt8) (k : Nat) : up (~~~x) k = up 255 k ^^^ up x k := by
  refine BitVec.eq_of_getLsbD_eq fun i hi => ?_
  rw [BitVec.getLsbD_xor, up_bit _ _ _ hi, up_bit _ _ _ hi, up_bit _ _ _ hi]
  by_cases h : k ≤ i
  · simp only [h, decide_true, Bool.true_and]
    by_cases h8 : i - k < 8
    · have h1 : (~~~x).toBitVec = ~~~x.toBitVec := rfl
      rw [h1, BitVec.getLsbD_not]
      have h2 : (255 : UInt8).toBitVec = BitVec.allOnes 8 := by decide
      rw [h2, BitVec.getLsbD_allOnes]
      simp [h8]
    · rw [BitVec.getLsbD_of_ge _ _ (by omega), BitVec.getLsbD_of_ge _ _ (by omega), BitVec.getLsbD_of_ge _ _ (by omega)]
      rfl
  · simp [h]
/-- The division comes to the sum. -/
theorem dAll_sum (b : List UInt8) : ~~~ rv (dAll 0 0 (b ++ [0, 0, 0, 0])) = sumB b := by
  unfold sumB
  congr 1
  generalize hl : b ++ [0, 0, 0, 0] = l
  have hlen : 4 ≤ l.length := by rw [← hl]; simp
  match l, hlen with
  | a0 :: a1 :: a2 :: a3 :: tl, _ =>
    have h0 : (0 : Nat) < 2 ^ 32 := by omega
    rw [dAll, dAll, dAll, dAll]
    have b1 := dByte_lt 0 (dIn 0 a0) h0
    have b2 := dByte_lt _ (dIn 1 a1) b1
    have b3 := dByte_lt _ (dIn 2 a2) b2
    have b4 := dByte_lt _ (dIn 3 a3) b3
    rw [dAll_late _ _ _ b4 (by omega), dByte_rv _ _ b3, dByte_rv _ _ b2, dByte_rv _ _ b1, dByte_rv _ _ h0]
    have z : rv 0 = 0#32 := by decide +kernel
    have z8 : cSteps 8 (0#32) = 0#32 := by decide +kernel
    rw [z, z8, BitVec.zero_xor]
    have i0 : dIn 0 a0 = ~~~a0 := rfl
    have i1 : dIn (0 + 1) a1 = ~~~a1 := rfl
    have i2 : dIn (0 + 1 + 1) a2 = ~~~a2 := rfl
    have i3 : dIn (0 + 1 + 1 + 1) a3 = ~~~a3 := rfl
    have j1 : dIn 1 a1 = ~~~a1 := rfl
    have j2 : dIn 2 a2 = ~~~a2 := rfl
    have j3 : dIn 3 a3 = ~~~a3 := rfl
    have e : cSteps 8 (cSteps 8 (cSteps 8 (up (~~~a0) 24) ^^^ up (~~~a1) 24) ^^^ up (~~~a2) 24) ^^^ up (~~~a3) 24 = word4 (~~~a0) (~~~a1) (~~~a2) (~~~a3) := by
      have u1 : ∀ x, cSteps 8 (up x 24) = up x 16 := fun x => up_steps x 16 8 (by omega)
      have u2 : ∀ x, cSteps 8 (up x 16) = up x 8 := fun x => up_steps x 8 8 (by omega)
      have u3 : ∀ x, cSteps 8 (up x 8) = up x 0 := fun x => up_steps x 0 8 (by omega)
      simp only [u1, u2, u3, cSteps_xor]
      rfl
    have e2 : word4 (~~~a0) (~~~a1) (~~~a2) (~~~a3) = BitVec.allOnes 32 ^^^ word4 a0 a1 a2 a3 := by
      have : BitVec.allOnes 32 = word4 255 255 255 255 := by decide +kernel
      rw [this]
      unfold word4
      rw [up_not, up_not, up_not, up_not]
      generalize up 255 0 = p0; generalize up 255 8 = p1; generalize up 255 16 = p2; generalize up 255 24 = p3
      generalize up a0 0 = q0; generalize up a1 8 = q1; generalize up a2 16 = q2; generalize up a3 24 = q3
      refine BitVec.eq_of_getLsbD_eq fun i hi => ?_
      simp only [BitVec.getLsbD_xor]
      cases p0.getLsbD i <;> cases p1.getLsbD i <;> cases p2.getLsbD i <;> cases p3.getLsbD i <;> cases q0.getLsbD i <;> cases q1.getLsbD i <;> cases q2.getLsbD i <;> cases q3.getLsbD i <;> rfl
    simp only [i0, i1, i2, i3, j1, j2, j3]
    rw [e, e2]
    exact late_eq b _ _ _ _ _ _ hl
end Go.Proofs.Ytlhlljjchggnjaa
