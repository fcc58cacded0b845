/- Plain laws of the sum of bytes: its steps are linear and one to one; the division of polynomials, bit by bit from the highest on, comes to the same. No program is named here. -/
import Derived.Test.YtlhlljjchggnjaaMath
namespace Go.Proofs.Ytlhlljjchggnjaa

/-! ### 1. The step -/
def cPoly : BitVec 32 := 0xedb88320#32
def cStep (c : BitVec 32) : BitVec 32 := if c.getLsbD 0 then (c >>> 1) ^^^ cPoly else c >>> 1
def cSteps : Nat → BitVec 32 → BitVec 32
  | 0, c => c
  | n + 1, c => cSteps n (cStep c)
def cByte (c : BitVec 32) (x : UInt8) : BitVec 32 := cSteps 8 (c ^^^ x.toBitVec.setWidth 32)
def cAll (c : BitVec 32) (bs : List UInt8) : BitVec 32 := bs.foldl cByte c
/-- Bytes' sum. -/
def sumB (bs : List UInt8) : BitVec 32 := ~~~ cAll (BitVec.allOnes 32) bs

theorem cSteps_succ (n : Nat) (c : BitVec 32) : cSteps (n + 1) c = cStep (cSteps n c) := by
  induction n generalizing c with
  | zero => rfl
  | succ n ih => rw [cSteps, ih]; rfl
theorem cStep_xor (a b : BitVec 32) : cStep (a ^^^ b) = cStep a ^^^ cStep b := by
  unfold cStep
  rw [BitVec.getLsbD_xor, BitVec.ushiftRight_xor_distrib]
  generalize a >>> 1 = p
  generalize b >>> 1 = q
  generalize cPoly = c
  have hcc : c ^^^ c = 0#32 := BitVec.xor_self
  cases a.getLsbD 0 <;> cases b.getLsbD 0 <;> simp only [Bool.false_bne, Bool.true_bne, Bool.not_false, Bool.not_true, if_true, if_false, Bool.false_eq_true, Bool.xor_false, Bool.xor_true, Bool.false_xor, Bool.true_xor]
  · rw [BitVec.xor_assoc]
  · rw [BitVec.xor_assoc, BitVec.xor_comm q c, ← BitVec.xor_assoc]
  · rw [BitVec.xor_assoc p c, ← BitVec.xor_assoc c q c, BitVec.xor_comm c q, BitVec.xor_assoc q c c, hcc, BitVec.xor_zero]
theorem cSteps_xor (n : Nat) (a b : BitVec 32) : cSteps n (a ^^^ b) = cSteps n a ^^^ cSteps n b := by
  induction n generalizing a b with
  | zero => rfl
  | succ n ih => rw [cSteps, cStep_xor, ih]; rfl
theorem cStep_inj0 (d : BitVec 32) (h : cStep d = 0#32) : d = 0#32 := by
  unfold cStep at h
  split at h
  · have h2 := congrArg (·.getLsbD 31) h
    simp [cPoly] at h2
  · rename_i h0
    refine BitVec.eq_of_getLsbD_eq fun i hi => ?_
    cases i with
    | zero => simpa using h0
    | succ i =>
      have h2 := congrArg (·.getLsbD i) h
      simp only [BitVec.getLsbD_ushiftRight] at h2
      rw [Nat.add_comm i 1]
      simpa using h2
theorem cStep_inj {a b : BitVec 32} (h : cStep a = cStep b) : a = b := by
  have h2 := cStep_inj0 (a ^^^ b) (by rw [cStep_xor, h, BitVec.xor_self])
  have h3 : a ^^^ b ^^^ b = 0#32 ^^^ b := by rw [h2]
  rw [BitVec.xor_assoc, BitVec.xor_self, BitVec.xor_zero, BitVec.zero_xor] at h3
  exact h3
theorem cSteps_inj (n : Nat) {a b : BitVec 32} (h : cSteps n a = cSteps n b) : a = b := by
  induction n generalizing a b with
  | zero => exact h
  | succ n ih => exact cStep_inj (ih h)
theorem cByte_inj {a b : BitVec 32} (x : UInt8) (h : cByte a x = cByte b x) : a = b := by
  have h2 := cSteps_inj 8 h
  have h3 : a ^^^ x.toBitVec.setWidth 32 ^^^ x.toBitVec.setWidth 32 = b ^^^ x.toBitVec.setWidth 32 ^^^ x.toBitVec.setWidth 32 := by rw [h2]
  rwa [BitVec.xor_assoc, BitVec.xor_self, BitVec.xor_zero, BitVec.xor_assoc, BitVec.xor_self, BitVec.xor_zero] at h3
theorem cAll_inj {a b : BitVec 32} (bs : List UInt8) (h : cAll a bs = cAll b bs) : a = b := by
  induction bs generalizing a b with
  | nil => exact h
  | cons x r ih => exact cByte_inj x (ih h)
theorem cAll_append (c : BitVec 32) (a b : List UInt8) : cAll c (a ++ b) = cAll (cAll c a) b := by unfold cAll; rw [List.foldl_append]

/-! ### 2. Four bytes at once -/
/-- A byte above so many bits. -/
def up (x : UInt8) (k : Nat) : BitVec 32 := x.toBitVec.setWidth 32 <<< k
theorem up_bit (x : UInt8) (k i : Nat) (hi : i < 32) : (up x k).getLsbD i = (decide (k ≤ i) && x.toBitVec.getLsbD (i - k)) := by
  unfold up
  rw [BitVec.getLsbD_shiftLeft]
  by_cases h : k ≤ i
  · simp [hi, h, show ¬ i < k by omega, BitVec.getLsbD_setWidth, show i - k < 32 by omega]
  · simp [hi, h, show i < k by omega]
theorem cStep_shl (y : BitVec 32) (h : y.getLsbD 0 = false) : cStep y = y >>> 1 := by
  unfold cStep
  rw [h]
  rfl
theorem up_step (x : UInt8) (k : Nat) (hk : k < 24) : cStep (up x (k + 1)) = up x k := by
  rw [cStep_shl _ (by rw [up_bit _ _ _ (by omega)]; simp)]
  refine BitVec.eq_of_getLsbD_eq fun i hi => ?_
  rw [BitVec.getLsbD_ushiftRight, up_bit _ _ _ hi]
  by_cases h31 : 1 + i < 32
  · rw [up_bit _ _ _ h31]
    have e : (1 + i) - (k + 1) = i - k := by omega
    rw [e]
    congr 1
    simp only [decide_eq_decide]
    omega
  · have hi31 : i = 31 := by omega
    subst hi31
    rw [BitVec.getLsbD_of_ge _ _ (by omega)]
    have : x.toBitVec.getLsbD (31 - k) = false := BitVec.getLsbD_of_ge _ _ (by omega)
    simp [this]
theorem up_steps (x : UInt8) (k n : Nat) (hk : k + n ≤ 24) : cSteps n (up x (k + n)) = up x k := by
  induction n with
  | zero => rfl
  | succ n ih => rw [cSteps, ← Nat.add_assoc, up_step _ _ (by omega)]; exact ih (by omega)
theorem up_zero (x : UInt8) : up x 0 = x.toBitVec.setWidth 32 := by unfold up; simp
def word4 (a b c d : UInt8) : BitVec 32 := up a 0 ^^^ up b 8 ^^^ up c 16 ^^^ up d 24
theorem cSteps_add (m n : Nat) (c : BitVec 32) : cSteps (m + n) c = cSteps n (cSteps m c) := by
  induction m generalizing c with
  | zero => rw [Nat.zero_add]; rfl
  | succ m ih => rw [Nat.add_right_comm, cSteps, ih]; rfl
theorem four (s : BitVec 32) (a b c d : UInt8) : cAll s [a, b, c, d] = cSteps 32 (s ^^^ word4 a b c d) := by
  have h1 : ∀ (t : BitVec 32) (x : UInt8), cByte t x = cSteps 8 (t ^^^ up x 0) := fun t x => by rw [up_zero]; rfl
  show cByte (cByte (cByte (cByte s a) b) c) d = _
  rw [h1 _ d, h1 _ c, h1 _ b, h1 _ a]
  show _ = cSteps (8 + (8 + (8 + 8))) _
  rw [cSteps_add 8, cSteps_add 8 (8 + 8), cSteps_add 8 8]
  unfold word4
  have e1 : cSteps 8 (s ^^^ (up a 0 ^^^ up b 8 ^^^ up c 16 ^^^ up d 24)) = cSteps 8 (s ^^^ up a 0) ^^^ up b 0 ^^^ (up c 8 ^^^ up d 16) := by
    rw [show s ^^^ (up a 0 ^^^ up b 8 ^^^ up c 16 ^^^ up d 24) = (s ^^^ up a 0) ^^^ (up b 8 ^^^ (up c 16 ^^^ up d 24)) by simp only [BitVec.xor_assoc]]
    rw [cSteps_xor, cSteps_xor 8 (up b 8), cSteps_xor 8 (up c 16), up_steps b 0 8 (by omega), up_steps c 8 8 (by omega), up_steps d 16 8 (by omega)]
    simp only [BitVec.xor_assoc]
  rw [e1, cSteps_xor 8 _ (up c 8 ^^^ up d 16), cSteps_xor 8 (up c 8), up_steps c 0 8 (by omega), up_steps d 8 8 (by omega)]
  rw [← BitVec.xor_assoc, cSteps_xor 8 _ (up d 8), up_steps d 0 8 (by omega)]
theorem word4_inj {a b c d a' b' c' d' : UInt8} (h : word4 a b c d = word4 a' b' c' d') : a = a' ∧ b = b' ∧ c = c' ∧ d = d' := by
  have key : ∀ i, i < 8 → a.toBitVec.getLsbD i = a'.toBitVec.getLsbD i ∧ b.toBitVec.getLsbD i = b'.toBitVec.getLsbD i ∧ c.toBitVec.getLsbD i = c'.toBitVec.getLsbD i ∧ d.toBitVec.getLsbD i = d'.toBitVec.getLsbD i := by
    intro i hi
    have z : ∀ (x : UInt8) (j : Nat), 8 ≤ j → x.toBitVec.getLsbD j = false := fun x j hj => BitVec.getLsbD_of_ge _ _ hj
    have g := fun j => congrArg (·.getLsbD j) h
    refine ⟨?_, ?_, ?_, ?_⟩
    · have := g i
      simp only [word4, BitVec.getLsbD_xor, up_bit _ _ _ (show i < 32 by omega)] at this
      simpa [show ¬ 8 ≤ i by omega, show ¬ 16 ≤ i by omega, show ¬ 24 ≤ i by omega] using this
    · have := g (8 + i)
      simp only [word4, BitVec.getLsbD_xor, up_bit _ _ _ (show 8 + i < 32 by omega)] at this
      simpa [show ¬ 16 ≤ 8 + i by omega, show ¬ 24 ≤ 8 + i by omega, z] using this
    · have := g (16 + i)
      simp only [word4, BitVec.getLsbD_xor, up_bit _ _ _ (show 16 + i < 32 by omega)] at this
      simpa [show 8 ≤ 16 + i by omega, show ¬ 24 ≤ 16 + i by omega, z _ (16 + i) (by omega), z _ (16 + i - 8) (by omega)] using this
    · have := g (24 + i)
      simp only [word4, BitVec.getLsbD_xor, up_bit _ _ _ (show 24 + i < 32 by omega)] at this
      simpa [show 8 ≤ 24 + i by omega, show 16 ≤ 24 + i by omega, z _ (24 + i) (by omega), z _ (24 + i - 8) (by omega), z _ (24 + i - 16) (by omega)] using this
  have mk : ∀ x y : UInt8, (∀ i, i < 8 → x.toBitVec.getLsbD i = y.toBitVec.getLsbD i) → x = y := fun x y h => UInt8.toBitVec_inj.1 (BitVec.eq_of_getLsbD_eq fun i hi => h i hi)
  exact ⟨mk _ _ fun i hi => (key i hi).1, mk _ _ fun i hi => (key i hi).2.1, mk _ _ fun i hi => (key i hi).2.2.1, mk _ _ fun i hi => (key i hi).2.2.2⟩
/-- What differs in four bytes in a row alone has another sum. -/
theorem sum_turned (pre post : List UInt8) (a b c d a' b' c' d' : UInt8) (h : sumB (pre ++ [a, b, c, d] ++ post) = sumB (pre ++ [a', b', c', d'] ++ post)) : a = a' ∧ b = b' ∧ c = c' ∧ d = d' := by
  unfold sumB at h
  have h1 := congrArg (~~~ ·) h
  simp only [BitVec.not_not] at h1
  rw [cAll_append, cAll_append, cAll_append, cAll_append] at h1
  have h2 := cAll_inj post h1
  rw [four, four] at h2
  have h3 := cSteps_inj 32 h2
  generalize cAll (BitVec.allOnes 32) pre = s at h3
  have h4 : s ^^^ (s ^^^ word4 a b c d) = s ^^^ (s ^^^ word4 a' b' c' d') := by rw [h3]
  rw [← BitVec.xor_assoc, ← BitVec.xor_assoc, BitVec.xor_self, BitVec.zero_xor, BitVec.zero_xor] at h4
  exact word4_inj h4
end Go.Proofs.Ytlhlljjchggnjaa
