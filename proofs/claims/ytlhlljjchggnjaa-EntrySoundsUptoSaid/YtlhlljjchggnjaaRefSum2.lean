/- The walk of the reference's sum. -/
import Derived.Test.YtlhlljjchggnjaaRefSum
namespace Go.Proofs.Ytlhlljjchggnjaa
open Go.RowKit

theorem rev8_not (y : UInt8) : rev8 (~~~y) = 255 - rev8 y := by
  have h1 : (~~~y).toBitVec.reverse = ~~~(y.toBitVec.reverse) := by
    refine BitVec.eq_of_getLsbD_eq fun i hi => ?_
    rw [BitVec.getLsbD_reverse, BitVec.getMsbD_eq_getLsbD, BitVec.getLsbD_not, BitVec.getLsbD_reverse, BitVec.getMsbD_eq_getLsbD]
    have h2 : (~~~y).toBitVec = ~~~y.toBitVec := rfl
    rw [h2, BitVec.getLsbD_not]
    simp [hi, show 8 - 1 - i < 8 by omega]
  unfold rev8
  rw [h1, BitVec.toNat_not]

theorem or_byte (R v : Nat) (hR : R < 4294967296) (hv : v < 256) : bits .or .u64 ((R : Int) * 256) (v : Int) = ((R * 256 + v : Nat) : Int) := by
  rw [show (R : Int) * 256 = ((R * 256 : Nat) : Int) by omega, bits_or_u64_nat _ _ (by omega) (by omega)]
  congr 1
  rw [show R * 256 = R <<< 8 by rw [Nat.shiftLeft_eq], ← Nat.shiftLeft_add_eq_or_of_lt (show v < 2 ^ 8 by omega)]
theorem not_byte (v : Nat) (hv : v < 256) : bits .xor .u8 IntKind.u8.max (v : Int) = ((255 - v : Nat) : Int) := by
  have h1 : BitVec.ofInt 8 IntKind.u8.max = BitVec.allOnes 8 := by decide
  have h3 : (BitVec.allOnes 8 ^^^ BitVec.ofNat 8 v).toNat = 255 - v := by
    rw [BitVec.xor_comm, BitVec.xor_allOnes, BitVec.toNat_not, BitVec.toNat_ofNat, Nat.mod_eq_of_lt (by omega)]
  show IntKind.u8.wrap ((BitVec.ofInt 8 IntKind.u8.max ^^^ BitVec.ofInt 8 (v : Int)).toNat : Int) = _
  rw [h1, BitVec.ofInt_natCast, h3, IntKind.wrap_u8]
  omega

theorem not32 (a : BitVec 32) : bits .xor .u32 IntKind.u32.max (a.toNat : Int) = ((~~~a).toNat : Int) := by
  have h1 : BitVec.ofInt 32 IntKind.u32.max = BitVec.allOnes 32 := by decide
  show IntKind.u32.wrap ((BitVec.ofInt 32 IntKind.u32.max ^^^ BitVec.ofInt 32 (a.toNat : Int)).toNat : Int) = _
  rw [h1, b32_of, BitVec.xor_comm, BitVec.xor_allOnes, w32]
theorem test_bit (r k : Nat) (hr : r < 18446744073709551616) : (bits .and .u64 ((r : Int) / 2 ^ k) 1 == 1) = r.testBit k := by
  have e1 : (r : Int) / 2 ^ k = ((r / 2 ^ k : Nat) : Int) := by simp
  have hq : r / 2 ^ k ≤ r := Nat.div_le_self _ _
  rw [e1, show (1 : Int) = ((1 : Nat) : Int) from rfl, bits_and_u64_nat _ _ (by omega) (by omega), Nat.and_one_is_mod, Nat.testBit_eq_decide_div_mod_eq, Bool.eq_iff_iff, beq_iff_eq, decide_eq_true_eq]
  omega
theorem xor_row (r m : Nat) (hr : r < 18446744073709551616) (hm : m ≤ 7) : bits .xor .u64 (r : Int) (IntKind.u64.wrap (4374732215 * 2 ^ m)) = ((r ^^^ (0x104c11db7 <<< m) : Nat) : Int) := by
  have hp : 0x104c11db7 <<< m < 18446744073709551616 := by
    rw [Nat.shiftLeft_eq]
    have := Nat.pow_le_pow_right (n := 2) (by omega) hm
    omega
  have e : IntKind.u64.wrap (4374732215 * 2 ^ m) = ((0x104c11db7 <<< m : Nat) : Int) := by
    rw [Nat.shiftLeft_eq] at hp ⊢
    have e2 : (4374732215 * 2 ^ m : Int) = ((0x104c11db7 * 2 ^ m : Nat) : Int) := by simp
    rw [e2, IntKind.wrap_u64]
    omega
  rw [e, bits_xor_u64_nat _ _ hr hp]

set_option maxRecDepth 100000 in
set_option maxHeartbeats 800000 in
theorem refof_c (w : World) (F : Nat → Prop) (a : Option Addr) (n c : Nat) (bs : List UInt8) (h : By.Sl w F a n c bs) (hb : n ≤ 140737488350000) :
    Calls Try.prog 124 #[.slice a n c] w fun e w' => e = .returned (.int .u32 (sumB bs).toNat) ∧ Kept w w' nix := by
  have L := hid h.len
  have hO0 := own_empty w 5
  have hK0 := alloc_kept w (.cells #[] 5)
  go_enter Try.func124, Try.ntmps124
  go_wp2_with (at_builtin; refine wpList_app_r (o := ⟨some 10, _, _, _, _, _⟩) rfl (.tmp 8) (.tmp 9) rfl rfl rfl (run_app_f0 (w0 := w) _ hK0 hO0 h (by omega)) ?_)
  rintro a1 c1 w1 ⟨hO1, hK1, -, -⟩
  rw [List.nil_append, Nat.zero_add] at hO1
  have hO2 := hO1.kept (alloc_kept w1 (.cells #[.int .u8 0, .int .u8 0, .int .u8 0, .int .u8 0] 5)) (fun _ _ => id)
  have hL2 := lit_by w1 [0, 0, 0, 0] #[.int .u8 0, .int .u8 0, .int .u8 0, .int .u8 0] 5 (0, 0) 4 rfl rfl (by omega)
  have hK2 := hK1.n (alloc_kept w1 (.cells #[.int .u8 0, .int .u8 0, .int .u8 0, .int .u8 0] 5))
  have hsz1 : (w1.alloc (.cells #[.int .u8 0, .int .u8 0, .int .u8 0, .int .u8 0] 5)).heap.size = w1.heap.size + 1 := World.size_alloc _ _
  go_wp2_with (at_builtin; refine wpList_app_r (o := ⟨some 12, _, _, _, _, _⟩) rfl (.tmp 10) (.tmp 11) rfl rfl rfl (run_app_f (w0 := w) _ hK2 (hO2.mono (new_mono (Nat.le_refl _) (by omega))) hL2 (fun _ q _ hq hb2 => by have h1 := (hO1.blkF hb2).2; have h2 := hq.1; omega) (by omega)) ?_)
  rintro a3 c3 w3 ⟨hO3, hK3, -, -⟩
  have hS3 := hO3.sl
  clear hO3 hO2 hL2 hO1 hK1 hK2 hO0 hK0
  have hcap3 := hS3.cap
  have L3 := hid hS3.len
  obtain ⟨al, hal⟩ : ∃ al, al = bs ++ [0, 0, 0, 0] := ⟨_, rfl⟩
  rw [← hal] at hS3 L3
  have HAL := hid hal
  clear hal
  go_wp2_with fail
  go_loopw [3, 5] (fun r i wr => ∃ (k R : Nat), i = .int .i64 k ∧ r = .int .u64 R ∧ R = dAll 0 0 (al.take k) ∧ k ≤ n + 4 ∧ By.Sl wr (new w w3) a3 (n + 4) c3 al ∧ Kept w wr nix) (fun _ i _ => n + 4 - (intOf i).toNat)
  case atStart => exact ⟨0, 0, rfl, rfl, rfl, by omega, hS3, hK3⟩
  case round =>
    clear hS3 hK3
    obtain ⟨k, R, rfl, rfl, hR, hk, hS, hKw⟩ := hrel
    by_cases hlt : k < n + 4
    · have hkl : k < al.length := by have := L3.out; omega
      obtain ⟨g, o, rfl, _, hgl, hc⟩ := plain_at hS k _ (List.getElem?_eq_getElem hkl)
      simp only [u8v] at hc
      have HR := hid hR
      have hR32 : R < 4294967296 := by rw [hR]; exact dAll_lt _ _ _ (by omega)
      clear hR
      have HSn := hid (show dAll 0 0 (al.take (k + 1)) = dByte (dAll 0 0 (al.take k)) (dIn k al[k]) by
        rw [List.take_succ_eq_append_getElem hkl, dAll_snoc, Nat.zero_add, List.length_take, Nat.min_eq_left (by omega)])
      generalize al[k] = y at *
      have kv := rev8_c wr y
      have hr8 := rev8_lt y
      by_cases h4 : k < 4
      · obtain ⟨Z, hZ⟩ : ∃ Z, dSteps 8 (R * 256 + (255 - rev8 y)) = Z := ⟨_, rfl⟩
        have HFIN := hid (show Z = dByte R (dIn k y) by rw [← hZ, dByte, dIn, if_pos h4, rev8_not])
        have HZ := hid hZ
        clear hZ
        have hlt8 : R * 256 + (255 - rev8 y) < 2 ^ (32 + 8) := by omega
        have e1 := hid (not_byte (rev8 y) hr8)
        have e2 := hid (or_byte R (255 - rev8 y) hR32 (by omega))
        go_wp2_with (go_at_call 166; (with_reducible refine kv.mono ?_); rintro e w4 ⟨rfl, rfl⟩)
        rw [e1.out, show IntKind.u64.wrap ((255 - rev8 y : Nat) : Int) = ((255 - rev8 y : Nat) : Int) by rw [IntKind.wrap_u64]; omega, e2.out]
        go_loopw [3, 7] (fun r i wq => ∃ (j r2 : Nat), i = .int .i64 (31 + (j : Int)) ∧ r = .int .u64 r2 ∧ dSteps j r2 = Z ∧ r2 < 2 ^ (32 + j) ∧ j ≤ 8 ∧ wq = wr) (fun _ i _ => (intOf i).toNat)
        case atStart => exact ⟨8, _, by simp, rfl, HZ.out, hlt8, by omega, rfl⟩
        case round =>
          obtain ⟨j, r2, rfl, rfl, hZ2, hr2, hj, rfl⟩ := hrel
          cases j with
          | zero =>
            have HZ3 := hid (show r2 = Z from hZ2)
            clear hZ2
            go_wp2_with fail
            refine ⟨⟨k + 1, r2, by go_num, rfl, ?_, by omega, hS, hKw⟩, by simp [intOf]; omega⟩
            rw [HSn.out, HZ3.out, ← HR.out]
            exact HFIN.out
          | succ m =>
            have hm7 : m ≤ 7 := by omega
            have hp40 : 2 ^ (32 + (m + 1)) ≤ 1099511627776 := Nat.pow_le_pow_right (n := 2) (by omega) (show 32 + (m + 1) ≤ 40 by omega)
            have HT := hid (test_bit r2 (m + 32) (by omega))
            have HX := hid (xor_row r2 m (by omega) hm7)
            have HZ2 := hid hZ2
            have Hr2 := hid hr2
            clear hp40 hr2 hZ2
            rw [show (31 : Int) + ((m + 1 : Nat) : Int) = (m : Int) + 32 by omega]
            go_wp2_with fail
            all_goals
              have h5 : dSteps m (dStep (m + 32) r2) = Z := HZ2.out
              have h6 := dStep_lt (m + 32) r2 (by omega) (by rw [show m + 32 + 1 = 32 + (m + 1) by omega]; exact Hr2.out)
              unfold dStep at h5 h6
              first
                | (have hbit : r2.testBit (m + 32) = false := by rw [← HT.out]; assumption
                   rw [hbit] at h5 h6
                   exact ⟨⟨m, r2, by simp; omega, rfl, h5, by rw [Nat.add_comm 32]; exact h6, by omega, by first | trivial | rfl⟩, by simp [intOf]; omega⟩)
                | (have hbit : r2.testBit (m + 32) = true := by rw [← HT.out]; assumption
                   rw [hbit] at h5 h6
                   rw [HX.out]
                   exact ⟨⟨m, _, by simp; omega, rfl, h5, by rw [Nat.add_comm 32]; exact h6, by omega, by first | trivial | rfl⟩, by simp [intOf]; omega⟩)
      · obtain ⟨Z, hZ⟩ : ∃ Z, dSteps 8 (R * 256 + rev8 y) = Z := ⟨_, rfl⟩
        have HFIN := hid (show Z = dByte R (dIn k y) by rw [← hZ, dByte, dIn, if_neg h4])
        have HZ := hid hZ
        clear hZ
        have hlt8 : R * 256 + rev8 y < 2 ^ (32 + 8) := by omega
        have e2 := hid (or_byte R (rev8 y) hR32 (by omega))
        go_wp2_with (go_at_call 166; (with_reducible refine kv.mono ?_); rintro e w4 ⟨rfl, rfl⟩)
        rw [e2.out]
        go_loopw [3, 7] (fun r i wq => ∃ (j r2 : Nat), i = .int .i64 (31 + (j : Int)) ∧ r = .int .u64 r2 ∧ dSteps j r2 = Z ∧ r2 < 2 ^ (32 + j) ∧ j ≤ 8 ∧ wq = wr) (fun _ i _ => (intOf i).toNat)
        case atStart => exact ⟨8, _, by simp, rfl, HZ.out, hlt8, by omega, rfl⟩
        case round =>
          obtain ⟨j, r2, rfl, rfl, hZ2, hr2, hj, rfl⟩ := hrel
          cases j with
          | zero =>
            have HZ3 := hid (show r2 = Z from hZ2)
            clear hZ2
            go_wp2_with fail
            refine ⟨⟨k + 1, r2, by go_num, rfl, ?_, by omega, hS, hKw⟩, by simp [intOf]; omega⟩
            rw [HSn.out, HZ3.out, ← HR.out]
            exact HFIN.out
          | succ m =>
            have hm7 : m ≤ 7 := by omega
            have hp40 : 2 ^ (32 + (m + 1)) ≤ 1099511627776 := Nat.pow_le_pow_right (n := 2) (by omega) (show 32 + (m + 1) ≤ 40 by omega)
            have HT := hid (test_bit r2 (m + 32) (by omega))
            have HX := hid (xor_row r2 m (by omega) hm7)
            have HZ2 := hid hZ2
            have Hr2 := hid hr2
            clear hp40 hr2 hZ2
            rw [show (31 : Int) + ((m + 1 : Nat) : Int) = (m : Int) + 32 by omega]
            go_wp2_with fail
            all_goals
              have h5 : dSteps m (dStep (m + 32) r2) = Z := HZ2.out
              have h6 := dStep_lt (m + 32) r2 (by omega) (by rw [show m + 32 + 1 = 32 + (m + 1) by omega]; exact Hr2.out)
              unfold dStep at h5 h6
              first
                | (have hbit : r2.testBit (m + 32) = false := by rw [← HT.out]; assumption
                   rw [hbit] at h5 h6
                   exact ⟨⟨m, r2, by simp; omega, rfl, h5, by rw [Nat.add_comm 32]; exact h6, by omega, by first | trivial | rfl⟩, by simp [intOf]; omega⟩)
                | (have hbit : r2.testBit (m + 32) = true := by rw [← HT.out]; assumption
                   rw [hbit] at h5 h6
                   rw [HX.out]
                   exact ⟨⟨m, _, by simp; omega, rfl, h5, by rw [Nat.add_comm 32]; exact h6, by omega, by first | trivial | rfl⟩, by simp [intOf]; omega⟩)
    · have hkn : k = n + 4 := by omega
      have h5 := dAll_sum bs
      rw [← HAL.out] at h5
      have hR' : R = dAll 0 0 al := by rw [hR, List.take_of_length_le (by have := L3.out; omega)]
      have hlt32 : R < 4294967296 := by rw [hR']; exact dAll_lt _ _ _ (by omega)
      have hRB : (R : Int) = ((BitVec.ofNat 32 R).toNat : Int) := by rw [BitVec.toNat_ofNat, Nat.mod_eq_of_lt hlt32]
      have HE := hid (show sumB bs = ~~~(BitVec.ofNat 32 R).reverse by rw [← h5, ← hR']; rfl)
      have kr := rev32_c wr (BitVec.ofNat 32 R)
      rw [← hRB] at kr
      clear hR hR' h5 hRB hkn
      go_wp2_with (go_at_call 167; (with_reducible refine kr.mono ?_); rintro e w4 ⟨rfl, rfl⟩)
      go_ret
      rw [HE.out]
      exact ⟨ret_u32 (not32 _), hKw⟩
end Go.Proofs.Ytlhlljjchggnjaa
