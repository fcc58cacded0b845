/- The walk of DiskBegins. -/
import Derived.Test.YtlhlljjchggnjaaLaw8c
namespace Go.Proofs.Ytlhlljjchggnjaa
open Go.RowKit

theorem dAppend_torn {r t : Nat} {b x : List UInt8} (h : b.length + x.length ≤ r) : dAppend ⟨r, b, t, true, false⟩ x = (6, ⟨r, b ++ x.take (min t x.length), t, false, true⟩) := by
  have h5 : ¬ r < (b ++ x).length := by rw [List.length_append]; omega
  simp only [dAppend, dWrite, h5, if_false, if_true, Bool.false_eq_true]
  rw [List.length_append, show b.length + min t (b.length + x.length - b.length) = b.length + min t x.length by omega, take_app _ _ _ (by omega)]

set_option maxRecDepth 100000 in
set_option maxHeartbeats 8000000 in
theorem diskbegins_c (w : World) (F : Nat → Prop) (a : Option Addr) (n c : Nat) (xss : List (List UInt8)) (at_ : Int) (N : Int) (h0 : 0 ≤ at_) (h1 : at_ ≤ 255) (hN : N ≤ 9223372036854775807) (hS : (By.slc 1).Sl w F a n c xss) :
    Calls Try.prog 9 #[.slice a n c, .int .u8 at_, .int .i64 N] w fun e w' => e = .returned (.bool true) ∧ Kept w w' nix := by
  have hm := hS.max
  have L := hid hS.len
  have cat := cat_bytes
  have E0 := hid (show dNew 1048576 = ⟨1048576, [], 0, false, false⟩ from rfl)
  have ext := extract_bytes
  go_enter Try.func9, Try.ntmps9
  go_wp2_with (first | (go_at_call 46; refine (dnew_d w _ (Kept.refl _ _) 1048576).mono ?_; rintro e w1 ⟨g, rfl, hD1⟩))
  rw [E0.out] at hD1
  go_loopw [8, 9, 10] (fun su al i wr => ∃ (k : Nat) (b : List UInt8), i = .int .i64 k ∧ su = strv b ∧ al = strv b ∧ DW w wr g ⟨1048576, b, 0, false, false⟩ ∧ k ≤ n ∧ k ≤ 30 ∧ b.length ≤ 200 * k) (fun _ _ i _ => n - (intOf i).toNat)
  case atStart => exact ⟨0, [], rfl, rfl, rfl, hD1, Nat.zero_le _, Nat.zero_le _, Nat.zero_le _⟩
  case round =>
    obtain ⟨k, b, rfl, rfl, rfl, hD, hk, hk30, hbl⟩ := hrel
    by_cases hlt : k < n ∧ k < 30
    · obtain ⟨hlt1, hlt2⟩ := hlt
      have hkl : k < xss.length := by have := L.out; omega
      obtain ⟨gl, o, ai, ni, ci, rfl, hgl, hc, hX, hB4⟩ := bys_at hS k hkl
      generalize xss[k] = x at *
      have hc' := hD.k.cell hc (fun h => h)
      have Hx := hid hX.len
      by_cases h200 : 200 < ni
      · clear hc
        go_wp2_with (first | (go_at_call 47; refine (awake8_c _).mono ?_; rintro e w2 ⟨rfl, hK2⟩))
        go_ret
        exact ⟨rfl, hD.k.n hK2⟩
      · have rx := fun W (hK : Kept w W nix) => strBy (hX.kept hK (fun _ _ => id))
        have l1 : ¬ 9223372036854775807 < b.length + x.length := by have := Hx.out; omega
        have hxl : x.length ≤ 200 := by have := Hx.out; omega
        have hni : ni ≤ 200 := by omega
        have rx0 := rx wr hD.k
        by_cases hat : at_ = (k : Int)
        · have T1 : ((k : Int) == at_) = true := by simp [hat]
          have k2 := dtear_d hD N hN
          have E3 := hid (show dAppend (dTear ⟨1048576, b, 0, false, false⟩ N) x = (6, ⟨1048576, b ++ x.take (min N.toNat x.length), N.toNat, false, true⟩) by
            show dAppend ⟨1048576, b, N.toNat, true, false⟩ x = _
            exact dAppend_torn (by have := Hx.out; omega))
          clear hat
          go_wp2_with (first | (go_at_call 50; (with_reducible refine k2.mono ?_); rintro e w3 ⟨rfl, hD3⟩; have hc3 := hD3.k.cell hc (fun h => h); have rx3 := rx _ hD3.k))
          have k3 := dappend_d hD3 _ _ _ _ _ (hD3.sl hX) (by omega)
          rw [E3.out] at k3
          go_wp2_with (first | (go_at_call 49; (with_reducible refine k3.mono ?_); rintro e w4 ⟨rfl, hD4, -⟩))
          have Z1 : (b ++ x).take (b ++ x.take (min N.toNat x.length)).length = b ++ x.take (min N.toNat x.length) := by
            rw [List.length_append, List.length_take, take_app _ _ _ (by omega)]
            congr 1
            rw [List.take_eq_take_iff]
            omega
          have Z2 : b.length ≤ (b ++ x.take (min N.toNat x.length)).length := by rw [List.length_append]; omega
          have Z3 : (b ++ x.take (min N.toNat x.length)).length ≤ (b ++ x).length := by rw [List.length_append, List.length_append, List.length_take]; omega
          have Z4 : (b ++ x).length ≤ 100000 := by rw [List.length_append]; omega
          clear k3 E3 rx rx3 rx0
          generalize b ++ x.take (min N.toNat x.length) = z at *
          generalize b ++ x = al at *
          have k7 := dcrash_d hD4
          go_wp2_with (first | (go_at_call 51; (with_reducible refine k7.mono ?_); rintro e w7 ⟨rfl, hD7⟩))
          have k8 := dstart_d hD7
          go_wp2_with (first | (go_at_call 52; (with_reducible refine k8.mono ?_); rintro e w8 ⟨rfl, hD8⟩))
          have k9 := dread_d hD8
          rw [show ∀ s, dRead (dStart (dCrash s)) = (s.b, 0) from fun _ => rfl] at k9
          simp only at k9
          go_wp2_with (first
            | (go_at_call 48; (with_reducible refine k9.mono ?_); rintro e w9 ⟨a9, n9, c9, rfl, hO9, hD9, -⟩; have r9 := strBy hO9.sl)
            | (go_at_call 47; refine (awake8_c _).mono ?_; rintro e w10 ⟨rfl, hK10⟩))
          go_ret
          exact ⟨rfl, hD9.k.n hK10⟩
        · have T1 : ((k : Int) == at_) = false := by rw [Bool.eq_false_iff]; simp only [ne_eq, beq_iff_eq]; exact fun h => hat h.symm
          clear hat
          have k3 := dappend_d hD _ _ _ _ _ (hD.sl hX) (by omega)
          rw [dAppend_fits (by have := Hx.out; omega)] at k3
          go_wp2_with (first | (go_at_call 49; (with_reducible refine k3.mono ?_); rintro e w4 ⟨rfl, hD4, -⟩; have hc4 := hD4.k.cell hc (fun h => h); have rx4 := rx _ hD4.k))
          refine ⟨⟨k + 1, b ++ x, by go_num, rfl, rfl, hD4, by omega, by omega, by rw [List.length_append]; omega⟩, by simp [intOf]; omega⟩
    · have Z4 : b.length ≤ 100000 := by omega
      go_wp2_with fail
      all_goals
        have k7 := dcrash_d hD
        go_wp2_with (first | (go_at_call 51; (with_reducible refine k7.mono ?_); rintro e w7 ⟨rfl, hD7⟩))
        have k8 := dstart_d hD7
        go_wp2_with (first | (go_at_call 52; (with_reducible refine k8.mono ?_); rintro e w8 ⟨rfl, hD8⟩))
        have k9 := dread_d hD8
        rw [show ∀ s, dRead (dStart (dCrash s)) = (s.b, 0) from fun _ => rfl] at k9
        simp only at k9
        go_wp2_with (first
          | (go_at_call 48; (with_reducible refine k9.mono ?_); rintro e w9 ⟨a9, n9, c9, rfl, hO9, hD9, -⟩; have r9 := strBy hO9.sl)
          | (go_at_call 47; refine (awake8_c _).mono ?_; rintro e w10 ⟨rfl, hK10⟩))
        go_ret
        exact ⟨rfl, hD9.k.n hK10⟩
end Go.Proofs.Ytlhlljjchggnjaa
