/- The walk of DiskTears. -/
import Derived.Test.YtlhlljjchggnjaaLaw8b
namespace Go.Proofs.Ytlhlljjchggnjaa
open Go.RowKit

theorem take_app (x y : List UInt8) (k : Nat) (h : k ≤ y.length) : (x ++ y).take (x.length + k) = x ++ y.take k := by
  rw [List.take_append, List.take_of_length_le (by omega), Nat.add_sub_cancel_left]

theorem dRead_start (s : Dsk) : dRead (dStart s) = (s.b, 0) := rfl
theorem dAppend_fits {r t : Nat} {b x : List UInt8} (h : b.length + x.length ≤ r) : dAppend ⟨r, b, t, false, false⟩ x = (0, ⟨r, b ++ x, t, false, false⟩) := by
  simp [dAppend, dWrite]
  omega
theorem dAppend_down {r t : Nat} {b x : List UInt8} {torn : Bool} : dAppend ⟨r, b, t, torn, true⟩ x = (6, ⟨r, b, t, torn, true⟩) := by simp [dAppend, dWrite]

set_option maxRecDepth 100000 in
set_option maxHeartbeats 8000000 in
theorem disktears_c (w : World) (F1 F2 : Nat → Prop) (a1 a2 : Option Addr) (n1 c1 n2 c2 : Nat) (x y : List UInt8) (n : Int) (rep : Bool) (h1 : By.Sl w F1 a1 n1 c1 x) (h2 : By.Sl w F2 a2 n2 c2 y) (hn : -9223372036854775808 ≤ n) (hn2 : n ≤ 9223372036854775807) :
    Calls Try.prog 10 #[.slice a1 n1 c1, .slice a2 n2 c2, .int .i64 n, .bool rep] w fun e w' => e = .returned (.bool true) ∧ Kept w w' nix := by
  by_cases hb1 : 300 < n1
  · go_enter Try.func10, Try.ntmps10
    go_wp2_with (go_at_call 47; refine (awake8_c _).mono ?_; rintro e w1 ⟨rfl, hK1⟩)
    go_ret
    exact ⟨rfl, hK1⟩
  by_cases hb2 : 300 < n2
  · go_enter Try.func10, Try.ntmps10
    go_wp2_with (go_at_call 47; refine (awake8_c _).mono ?_; rintro e w1 ⟨rfl, hK1⟩)
    go_ret
    exact ⟨rfl, hK1⟩
  have hb3 : n1 ≤ 300 := by omega
  have hb4 : n2 ≤ 300 := by omega
  have L1 := hid h1.len
  have L2 := hid h2.len
  have hcap2 := h2.cap
  have cat := cat_bytes
  have hB := hid h2.bound
  -- the clamped number, the content that is left
  obtain ⟨K, z, hK0, hcs, hz, hz2⟩ : ∃ (K : Nat) (z : List UInt8), K ≤ n2 ∧ ((n < 0 ∧ K = 0) ∨ ((n2 : Int) < n ∧ K = n2) ∨ (n = K)) ∧
      (rep = true → dReplace ⟨1000, x, n.toNat, true, false⟩ y = (6, ⟨1000, z, n.toNat, false, true⟩) ∧ ((K = n2 ∧ z = y) ∨ (K < n2 ∧ z = x))) ∧ (rep = false → dAppend ⟨1000, x, n.toNat, true, false⟩ y = (6, ⟨1000, z, n.toNat, false, true⟩) ∧ z = x ++ y.take K) := by
    have l1 := L1.out
    have l2 := L2.out
    obtain ⟨K, hK0, hcs, hK⟩ : ∃ K : Nat, K ≤ n2 ∧ ((n < 0 ∧ K = 0) ∨ ((n2 : Int) < n ∧ K = n2) ∨ (n = K)) ∧ K = min n.toNat n2 := by
      rcases Int.lt_or_le n 0 with h | h
      · exact ⟨0, by omega, .inl ⟨h, rfl⟩, by omega⟩
      · rcases Int.lt_or_le n2 n with h' | h'
        · exact ⟨n2, by omega, .inr (.inl ⟨h', rfl⟩), by omega⟩
        · exact ⟨n.toNat, by omega, .inr (.inr (by omega)), by omega⟩
    cases rep with
    | false =>
      refine ⟨K, _, hK0, hcs, nofun, fun _ => ⟨?_, rfl⟩⟩
      have h5 : ¬ 1000 < x.length + y.length := by omega
      simp only [dAppend, dWrite, List.length_append, h5, if_false, if_true, Bool.false_eq_true]
      rw [show x.length + min n.toNat (x.length + y.length - x.length) = x.length + K by omega, take_app _ _ _ (by omega)]
    | true =>
      by_cases hKn : K = n2
      · refine ⟨K, y, hK0, hcs, fun _ => ⟨?_, .inl ⟨hKn, rfl⟩⟩, nofun⟩
        have h5 : y.length ≤ 1000 := by omega
        have h6 : y.length ≤ n.toNat := by omega
        simp [dReplace, h5, h6]
      · refine ⟨K, x, hK0, hcs, fun _ => ⟨?_, .inr ⟨by omega, rfl⟩⟩, nofun⟩
        have h5 : y.length ≤ 1000 := by omega
        have h6 : ¬ y.length ≤ n.toNat := by omega
        simp [dReplace, h5, h6]
  have hzl : z.length ≤ 600 := by
    have l1 := L1.out
    have l2 := L2.out
    cases rep with
    | false =>
      obtain ⟨_, rfl⟩ := hz2 rfl
      rw [List.length_append, List.length_take]
      omega
    | true =>
      obtain ⟨_, ⟨_, rfl⟩ | ⟨_, rfl⟩⟩ := hz rfl <;> omega
  have tk : ∀ W, Kept w W nix → (convert 22 9 (.slice a2 K c2)).run Try.prog W = .ok (.string ⟨(y.take K).toArray⟩) W := fun W hK => strBy ((h2.take K hK0).kept hK (fun _ _ => id))
  have tx : ∀ W, Kept w W nix → (convert 22 9 (.slice a1 n1 c1)).run Try.prog W = .ok (.string ⟨x.toArray⟩) W := fun W hK => strBy (h1.kept hK (fun _ _ => id))
  have ty : ∀ W, Kept w W nix → (convert 22 9 (.slice a2 n2 c2)).run Try.prog W = .ok (.string ⟨y.toArray⟩) W := fun W hK => strBy (h2.kept hK (fun _ _ => id))
  have l1 := L1.out
  have E2 := hid (show dAppend (dNew 1000) x = (0, ⟨1000, x, 0, false, false⟩) by rw [show dNew 1000 = ⟨1000, [], 0, false, false⟩ from rfl, dAppend_fits (by simp; omega)]; rfl)
  clear l1
  cases rep
  · obtain ⟨hq2, hz3⟩ := hz2 rfl
    clear hz hz2
    have Hz := hid hq2
    clear hq2
    have l4 : ¬ 9223372036854775807 < x.length + min K y.length := by have := L1.out; omega
    have l5 : ¬ 9223372036854775807 < x.length := by have := L1.out; omega
    have l6 : ¬ 9223372036854775807 < x.length + y.length := by have := L1.out; have := L2.out; omega
    have hKc : (K : Int) ≤ c2 := by omega
    have hKc2 : K ≤ c2 := by omega
    have hK0i : (0 : Int) ≤ K := by omega
    rcases hcs with ⟨hc, rfl⟩ | ⟨hc, rfl⟩ | rfl
    · obtain rfl : x = z := by simpa using hz3.symm
      clear hz3 hKc hKc2 hK0i l4
      simp only [List.take_zero] at tk
      go_enter Try.func10, Try.ntmps10
      go_wp2_with (first | (go_at_call 46; refine (dnew_d w _ (Kept.refl _ _) 1000).mono ?_; rintro e w1 ⟨g, rfl, hD1⟩))
      have k2 := dappend_d hD1 _ _ _ _ _ (hD1.sl h1) (by omega)
      rw [E2.out] at k2
      go_wp2_with (first | (go_at_call 49; (with_reducible refine k2.mono ?_); rintro e w2 ⟨rfl, hD2, -⟩))
      have k3 := dtear_d hD2 _ hn2
      go_wp2_with (first | (go_at_call 50; (with_reducible refine k3.mono ?_); rintro e w3 ⟨rfl, hD3⟩))
      have k4 := dappend_d hD3 _ _ _ _ _ (hD3.sl h2) (by omega)
      rw [show ∀ m, dTear ⟨1000, x, 0, false, false⟩ m = ⟨1000, x, m.toNat, true, false⟩ from fun _ => rfl, Hz.out] at k4
      go_wp2_with (first | (go_at_call 49; (with_reducible refine k4.mono ?_); rintro e w4 ⟨rfl, hD4, -⟩))
      have k5 := dup_d hD4
      have k6 := dappend_d hD4 _ _ _ _ _ (hD4.sl h2) (by omega)
      rw [dAppend_down] at k6
      go_wp2_with (first
        | (go_at_call 54; (with_reducible refine k5.mono ?_); rintro e w5 ⟨rfl, rfl⟩)
        | (go_at_call 49; (with_reducible refine k6.mono ?_); rintro e w6 ⟨rfl, hD6, -⟩))
      have k7 := dstart_d hD6
      go_wp2_with (first | (go_at_call 52; (with_reducible refine k7.mono ?_); rintro e w7 ⟨rfl, hD7⟩))
      have k8 := dread_d hD7
      rw [dRead_start] at k8
      simp only at k8
      go_wp2_with (first | (go_at_call 48; (with_reducible refine k8.mono ?_); rintro e w8 ⟨a8, n8, c8, rfl, hO8, hD8, -⟩))
      have r8 := fun W (hK : Kept w8 W nix) => strBy (hO8.sl.kept hK (fun _ _ => id))
      have rx := fun W (hK : Kept w8 W nix) => tx W (hD8.k.n hK)
      have rk := fun W (hK : Kept w8 W nix) => tk W (hD8.k.n hK)
      have s0_0 : Kept w8 w8.drew nix := (Kept.refl _ _).drew
      refine wp_region_held (S := fun W => Kept w8 W nix ∧ True) (by kernel_rfl) ?_
      have HS : Kept w8 w8.drew nix ∧ True := ⟨s0_0, trivial⟩
      show wpAnyH _ _ _ _ _ _ _ _ w8.drew
      refine wpAnyH_take (i := 0) (oi := { dst := some 67, op := Op.move (Operand.tmp 0), type := 22, pos := "law.go:162", after := #[], guard := none }) (v := ?_) rfl (by kernel_rfl) (by kernel_rfl) (by kernel_rfl) (fun _ _ _ h => h) (.inl ⟨by rfl, fun W hS => ?_⟩) HS ?_
      rotate_left
      · obtain ⟨t0, -⟩ := hS
        go_simp
        try with_reducible rfl
      rotate_left
      try simp only [Act.put, List.setIfInBounds_toArray, List.set_cons_zero, List.set_cons_succ]
      refine wpAnyH_take (i := 1) (oi := { dst := some 68, op := Op.convert 22 9 (Operand.tmp 67), type := 9, pos := "law.go:162", after := #[{ on := 0, ground := Ground.data }], guard := none }) (v := ?_) rfl (by kernel_rfl) (by kernel_rfl) (by kernel_rfl) (fun _ _ _ h => h) (.inl ⟨by rfl, fun W hS => ?_⟩) HS ?_
      rotate_left
      · obtain ⟨t0, -⟩ := hS
        go_simp
        try with_reducible rfl
      rotate_left
      try simp only [Act.put, List.setIfInBounds_toArray, List.set_cons_zero, List.set_cons_succ]
      refine wpAnyH_take (i := 2) (oi := { dst := some 69, op := Op.move (Operand.tmp 1), type := 22, pos := "law.go:162", after := #[], guard := none }) (v := ?_) rfl (by kernel_rfl) (by kernel_rfl) (by kernel_rfl) (fun _ _ _ h => h) (.inl ⟨by rfl, fun W hS => ?_⟩) HS ?_
      rotate_left
      · obtain ⟨t0, -⟩ := hS
        go_simp
        try with_reducible rfl
      rotate_left
      try simp only [Act.put, List.setIfInBounds_toArray, List.set_cons_zero, List.set_cons_succ]
      refine wpAnyH_take (i := 3) (oi := { dst := some 70, op := Op.move (Operand.tmp 13), type := 3, pos := "law.go:162", after := #[], guard := none }) (v := ?_) rfl (by kernel_rfl) (by kernel_rfl) (by kernel_rfl) (fun _ _ _ h => h) (.inl ⟨by rfl, fun W hS => ?_⟩) HS ?_
      rotate_left
      · obtain ⟨t0, -⟩ := hS
        go_simp
        try with_reducible rfl
      rotate_left
      try simp only [Act.put, List.setIfInBounds_toArray, List.set_cons_zero, List.set_cons_succ]
      refine wpAnyH_take (i := 4) (oi := { dst := some 71, op := Op.slice 22 (Operand.tmp 69) none (some (Operand.tmp 70)) none, type := 22, pos := "law.go:162", after := #[{ on := 2, ground := Ground.data }, { on := 3, ground := Ground.data }], guard := none }) (v := ?_) rfl (by kernel_rfl) (by kernel_rfl) (by kernel_rfl) (fun _ _ _ h => h) (.inl ⟨by rfl, fun W hS => ?_⟩) HS ?_
      rotate_left
      · obtain ⟨t0, -⟩ := hS
        go_simp
        try with_reducible rfl
      rotate_left
      try simp only [Act.put, List.setIfInBounds_toArray, List.set_cons_zero, List.set_cons_succ]
      refine wpAnyH_take (i := 5) (oi := { dst := some 72, op := Op.convert 22 9 (Operand.tmp 71), type := 9, pos := "law.go:162", after := #[{ on := 4, ground := Ground.data }], guard := none }) (v := ?_) rfl (by kernel_rfl) (by kernel_rfl) (by kernel_rfl) (fun _ _ _ h => h) (.inl ⟨by rfl, fun W hS => ?_⟩) HS ?_
      rotate_left
      · obtain ⟨t0, -⟩ := hS
        go_simp
        try with_reducible rfl
      rotate_left
      try simp only [Act.put, List.setIfInBounds_toArray, List.set_cons_zero, List.set_cons_succ]
      refine wpAnyH_take (i := 6) (oi := { dst := some 73, op := Op.binOp BinOp.add 9 (Operand.tmp 68) (Operand.tmp 72) 9, type := 9, pos := "law.go:162", after := #[{ on := 1, ground := Ground.data }, { on := 5, ground := Ground.data }], guard := none }) (v := ?_) rfl (by kernel_rfl) (by kernel_rfl) (by kernel_rfl) (fun _ _ _ h => h) (.inl ⟨by rfl, fun W hS => ?_⟩) HS ?_
      rotate_left
      · obtain ⟨t0, -⟩ := hS
        go_simp
        try with_reducible rfl
      rotate_left
      try simp only [Act.put, List.setIfInBounds_toArray, List.set_cons_zero, List.set_cons_succ]
      refine wpAnyH_take (i := 7) (oi := { dst := some 14, op := Op.assign (Operand.tmp 73), type := 9, pos := "law.go:162", after := #[{ on := 6, ground := Ground.data }, { on := 0, ground := Ground.phase }, { on := 1, ground := Ground.phase }, { on := 2, ground := Ground.phase }, { on := 3, ground := Ground.phase }, { on := 4, ground := Ground.phase }, { on := 5, ground := Ground.phase }, { on := 6, ground := Ground.phase }], guard := none }) (v := ?_) rfl (by kernel_rfl) (by kernel_rfl) (by kernel_rfl) (fun _ _ _ h => h) (.inl ⟨by rfl, fun W hS => ?_⟩) HS ?_
      rotate_left
      · obtain ⟨t0, -⟩ := hS
        go_simp
        try with_reducible rfl
      rotate_left
      try simp only [Act.put, List.setIfInBounds_toArray, List.set_cons_zero, List.set_cons_succ]
      refine wpAnyH_done (by kernel_rfl) ?_ _
      go_wp2_with (first
        | (go_at_call 47; refine (awake8_c _).mono ?_; rintro e w9 ⟨rfl, hK9⟩; have hD9 := hD8.kept ((Kept.refl _ _).drew.n hK9); have k9 := dappend_d hD9 _ _ _ _ _ (Sh.Sl.nil By w9 nix) (by omega); have r9 := strBy (hO8.sl.kept ((Kept.refl _ _).drew.n hK9) (fun _ _ => id)); rw [show ∀ s, dStart s = ⟨s.room, s.b, s.tear, false, false⟩ from fun _ => rfl, dAppend_fits (by simp only [List.length_nil]; omega)] at k9)
        | (go_at_call 49; (with_reducible refine k9.mono ?_); rintro e w10 ⟨rfl, hD10, -⟩))
      go_ret
      exact ⟨rfl, hD10.k⟩
    · obtain rfl : z = x ++ y := by have l2 := L2.out; rw [hz3, List.take_of_length_le (by omega)]
      clear hz3
      have h0n : 0 ≤ n := by omega
      replace tk := ty
      go_enter Try.func10, Try.ntmps10
      go_wp2_with (first | (go_at_call 46; refine (dnew_d w _ (Kept.refl _ _) 1000).mono ?_; rintro e w1 ⟨g, rfl, hD1⟩))
      have k2 := dappend_d hD1 _ _ _ _ _ (hD1.sl h1) (by omega)
      rw [E2.out] at k2
      go_wp2_with (first | (go_at_call 49; (with_reducible refine k2.mono ?_); rintro e w2 ⟨rfl, hD2, -⟩))
      have k3 := dtear_d hD2 _ hn2
      go_wp2_with (first | (go_at_call 50; (with_reducible refine k3.mono ?_); rintro e w3 ⟨rfl, hD3⟩))
      have k4 := dappend_d hD3 _ _ _ _ _ (hD3.sl h2) (by omega)
      rw [show ∀ m, dTear ⟨1000, x, 0, false, false⟩ m = ⟨1000, x, m.toNat, true, false⟩ from fun _ => rfl, Hz.out] at k4
      go_wp2_with (first | (go_at_call 49; (with_reducible refine k4.mono ?_); rintro e w4 ⟨rfl, hD4, -⟩))
      have k5 := dup_d hD4
      have k6 := dappend_d hD4 _ _ _ _ _ (hD4.sl h2) (by omega)
      rw [dAppend_down] at k6
      go_wp2_with (first
        | (go_at_call 54; (with_reducible refine k5.mono ?_); rintro e w5 ⟨rfl, rfl⟩)
        | (go_at_call 49; (with_reducible refine k6.mono ?_); rintro e w6 ⟨rfl, hD6, -⟩))
      have k7 := dstart_d hD6
      go_wp2_with (first | (go_at_call 52; (with_reducible refine k7.mono ?_); rintro e w7 ⟨rfl, hD7⟩))
      have k8 := dread_d hD7
      rw [dRead_start] at k8
      simp only at k8
      go_wp2_with (first | (go_at_call 48; (with_reducible refine k8.mono ?_); rintro e w8 ⟨a8, n8, c8, rfl, hO8, hD8, -⟩))
      have r8 := fun W (hK : Kept w8 W nix) => strBy (hO8.sl.kept hK (fun _ _ => id))
      have rx := fun W (hK : Kept w8 W nix) => tx W (hD8.k.n hK)
      have rk := fun W (hK : Kept w8 W nix) => tk W (hD8.k.n hK)
      have s0_0 : Kept w8 w8.drew nix := (Kept.refl _ _).drew
      refine wp_region_held (S := fun W => Kept w8 W nix ∧ True) (by kernel_rfl) ?_
      have HS : Kept w8 w8.drew nix ∧ True := ⟨s0_0, trivial⟩
      show wpAnyH _ _ _ _ _ _ _ _ w8.drew
      refine wpAnyH_take (i := 0) (oi := { dst := some 67, op := Op.move (Operand.tmp 0), type := 22, pos := "law.go:162", after := #[], guard := none }) (v := ?_) rfl (by kernel_rfl) (by kernel_rfl) (by kernel_rfl) (fun _ _ _ h => h) (.inl ⟨by rfl, fun W hS => ?_⟩) HS ?_
      rotate_left
      · obtain ⟨t0, -⟩ := hS
        go_simp
        try with_reducible rfl
      rotate_left
      try simp only [Act.put, List.setIfInBounds_toArray, List.set_cons_zero, List.set_cons_succ]
      refine wpAnyH_take (i := 1) (oi := { dst := some 68, op := Op.convert 22 9 (Operand.tmp 67), type := 9, pos := "law.go:162", after := #[{ on := 0, ground := Ground.data }], guard := none }) (v := ?_) rfl (by kernel_rfl) (by kernel_rfl) (by kernel_rfl) (fun _ _ _ h => h) (.inl ⟨by rfl, fun W hS => ?_⟩) HS ?_
      rotate_left
      · obtain ⟨t0, -⟩ := hS
        go_simp
        try with_reducible rfl
      rotate_left
      try simp only [Act.put, List.setIfInBounds_toArray, List.set_cons_zero, List.set_cons_succ]
      refine wpAnyH_take (i := 2) (oi := { dst := some 69, op := Op.move (Operand.tmp 1), type := 22, pos := "law.go:162", after := #[], guard := none }) (v := ?_) rfl (by kernel_rfl) (by kernel_rfl) (by kernel_rfl) (fun _ _ _ h => h) (.inl ⟨by rfl, fun W hS => ?_⟩) HS ?_
      rotate_left
      · obtain ⟨t0, -⟩ := hS
        go_simp
        try with_reducible rfl
      rotate_left
      try simp only [Act.put, List.setIfInBounds_toArray, List.set_cons_zero, List.set_cons_succ]
      refine wpAnyH_take (i := 3) (oi := { dst := some 70, op := Op.move (Operand.tmp 13), type := 3, pos := "law.go:162", after := #[], guard := none }) (v := ?_) rfl (by kernel_rfl) (by kernel_rfl) (by kernel_rfl) (fun _ _ _ h => h) (.inl ⟨by rfl, fun W hS => ?_⟩) HS ?_
      rotate_left
      · obtain ⟨t0, -⟩ := hS
        go_simp
        try with_reducible rfl
      rotate_left
      try simp only [Act.put, List.setIfInBounds_toArray, List.set_cons_zero, List.set_cons_succ]
      refine wpAnyH_take (i := 4) (oi := { dst := some 71, op := Op.slice 22 (Operand.tmp 69) none (some (Operand.tmp 70)) none, type := 22, pos := "law.go:162", after := #[{ on := 2, ground := Ground.data }, { on := 3, ground := Ground.data }], guard := none }) (v := ?_) rfl (by kernel_rfl) (by kernel_rfl) (by kernel_rfl) (fun _ _ _ h => h) (.inl ⟨by rfl, fun W hS => ?_⟩) HS ?_
      rotate_left
      · obtain ⟨t0, -⟩ := hS
        go_simp
        try with_reducible rfl
      rotate_left
      try simp only [Act.put, List.setIfInBounds_toArray, List.set_cons_zero, List.set_cons_succ]
      refine wpAnyH_take (i := 5) (oi := { dst := some 72, op := Op.convert 22 9 (Operand.tmp 71), type := 9, pos := "law.go:162", after := #[{ on := 4, ground := Ground.data }], guard := none }) (v := ?_) rfl (by kernel_rfl) (by kernel_rfl) (by kernel_rfl) (fun _ _ _ h => h) (.inl ⟨by rfl, fun W hS => ?_⟩) HS ?_
      rotate_left
      · obtain ⟨t0, -⟩ := hS
        go_simp
        try with_reducible rfl
      rotate_left
      try simp only [Act.put, List.setIfInBounds_toArray, List.set_cons_zero, List.set_cons_succ]
      refine wpAnyH_take (i := 6) (oi := { dst := some 73, op := Op.binOp BinOp.add 9 (Operand.tmp 68) (Operand.tmp 72) 9, type := 9, pos := "law.go:162", after := #[{ on := 1, ground := Ground.data }, { on := 5, ground := Ground.data }], guard := none }) (v := ?_) rfl (by kernel_rfl) (by kernel_rfl) (by kernel_rfl) (fun _ _ _ h => h) (.inl ⟨by rfl, fun W hS => ?_⟩) HS ?_
      rotate_left
      · obtain ⟨t0, -⟩ := hS
        go_simp
        try with_reducible rfl
      rotate_left
      try simp only [Act.put, List.setIfInBounds_toArray, List.set_cons_zero, List.set_cons_succ]
      refine wpAnyH_take (i := 7) (oi := { dst := some 14, op := Op.assign (Operand.tmp 73), type := 9, pos := "law.go:162", after := #[{ on := 6, ground := Ground.data }, { on := 0, ground := Ground.phase }, { on := 1, ground := Ground.phase }, { on := 2, ground := Ground.phase }, { on := 3, ground := Ground.phase }, { on := 4, ground := Ground.phase }, { on := 5, ground := Ground.phase }, { on := 6, ground := Ground.phase }], guard := none }) (v := ?_) rfl (by kernel_rfl) (by kernel_rfl) (by kernel_rfl) (fun _ _ _ h => h) (.inl ⟨by rfl, fun W hS => ?_⟩) HS ?_
      rotate_left
      · obtain ⟨t0, -⟩ := hS
        go_simp
        try with_reducible rfl
      rotate_left
      try simp only [Act.put, List.setIfInBounds_toArray, List.set_cons_zero, List.set_cons_succ]
      refine wpAnyH_done (by kernel_rfl) ?_ _
      go_wp2_with (first
        | (go_at_call 47; refine (awake8_c _).mono ?_; rintro e w9 ⟨rfl, hK9⟩; have hD9 := hD8.kept ((Kept.refl _ _).drew.n hK9); have k9 := dappend_d hD9 _ _ _ _ _ (Sh.Sl.nil By w9 nix) (by omega); have r9 := strBy (hO8.sl.kept ((Kept.refl _ _).drew.n hK9) (fun _ _ => id)); rw [show ∀ s, dStart s = ⟨s.room, s.b, s.tear, false, false⟩ from fun _ => rfl, dAppend_fits (by simp only [List.length_nil]; omega)] at k9)
        | (go_at_call 49; (with_reducible refine k9.mono ?_); rintro e w10 ⟨rfl, hD10, -⟩))
      go_ret
      exact ⟨rfl, hD10.k⟩
    · subst hz3
      go_enter Try.func10, Try.ntmps10
      go_wp2_with (first | (go_at_call 46; refine (dnew_d w _ (Kept.refl _ _) 1000).mono ?_; rintro e w1 ⟨g, rfl, hD1⟩))
      have k2 := dappend_d hD1 _ _ _ _ _ (hD1.sl h1) (by omega)
      rw [E2.out] at k2
      go_wp2_with (first | (go_at_call 49; (with_reducible refine k2.mono ?_); rintro e w2 ⟨rfl, hD2, -⟩))
      have k3 := dtear_d hD2 _ hn2
      go_wp2_with (first | (go_at_call 50; (with_reducible refine k3.mono ?_); rintro e w3 ⟨rfl, hD3⟩))
      have k4 := dappend_d hD3 _ _ _ _ _ (hD3.sl h2) (by omega)
      rw [show ∀ m, dTear ⟨1000, x, 0, false, false⟩ m = ⟨1000, x, m.toNat, true, false⟩ from fun _ => rfl, Hz.out] at k4
      go_wp2_with (first | (go_at_call 49; (with_reducible refine k4.mono ?_); rintro e w4 ⟨rfl, hD4, -⟩))
      have k5 := dup_d hD4
      have k6 := dappend_d hD4 _ _ _ _ _ (hD4.sl h2) (by omega)
      rw [dAppend_down] at k6
      go_wp2_with (first
        | (go_at_call 54; (with_reducible refine k5.mono ?_); rintro e w5 ⟨rfl, rfl⟩)
        | (go_at_call 49; (with_reducible refine k6.mono ?_); rintro e w6 ⟨rfl, hD6, -⟩))
      have k7 := dstart_d hD6
      go_wp2_with (first | (go_at_call 52; (with_reducible refine k7.mono ?_); rintro e w7 ⟨rfl, hD7⟩))
      have k8 := dread_d hD7
      rw [dRead_start] at k8
      simp only at k8
      go_wp2_with (first | (go_at_call 48; (with_reducible refine k8.mono ?_); rintro e w8 ⟨a8, n8, c8, rfl, hO8, hD8, -⟩))
      have r8 := fun W (hK : Kept w8 W nix) => strBy (hO8.sl.kept hK (fun _ _ => id))
      have rx := fun W (hK : Kept w8 W nix) => tx W (hD8.k.n hK)
      have rk := fun W (hK : Kept w8 W nix) => tk W (hD8.k.n hK)
      have s0_0 : Kept w8 w8.drew nix := (Kept.refl _ _).drew
      refine wp_region_held (S := fun W => Kept w8 W nix ∧ True) (by kernel_rfl) ?_
      have HS : Kept w8 w8.drew nix ∧ True := ⟨s0_0, trivial⟩
      show wpAnyH _ _ _ _ _ _ _ _ w8.drew
      refine wpAnyH_take (i := 0) (oi := { dst := some 67, op := Op.move (Operand.tmp 0), type := 22, pos := "law.go:162", after := #[], guard := none }) (v := ?_) rfl (by kernel_rfl) (by kernel_rfl) (by kernel_rfl) (fun _ _ _ h => h) (.inl ⟨by rfl, fun W hS => ?_⟩) HS ?_
      rotate_left
      · obtain ⟨t0, -⟩ := hS
        go_simp
        try with_reducible rfl
      rotate_left
      try simp only [Act.put, List.setIfInBounds_toArray, List.set_cons_zero, List.set_cons_succ]
      refine wpAnyH_take (i := 1) (oi := { dst := some 68, op := Op.convert 22 9 (Operand.tmp 67), type := 9, pos := "law.go:162", after := #[{ on := 0, ground := Ground.data }], guard := none }) (v := ?_) rfl (by kernel_rfl) (by kernel_rfl) (by kernel_rfl) (fun _ _ _ h => h) (.inl ⟨by rfl, fun W hS => ?_⟩) HS ?_
      rotate_left
      · obtain ⟨t0, -⟩ := hS
        go_simp
        try with_reducible rfl
      rotate_left
      try simp only [Act.put, List.setIfInBounds_toArray, List.set_cons_zero, List.set_cons_succ]
      refine wpAnyH_take (i := 2) (oi := { dst := some 69, op := Op.move (Operand.tmp 1), type := 22, pos := "law.go:162", after := #[], guard := none }) (v := ?_) rfl (by kernel_rfl) (by kernel_rfl) (by kernel_rfl) (fun _ _ _ h => h) (.inl ⟨by rfl, fun W hS => ?_⟩) HS ?_
      rotate_left
      · obtain ⟨t0, -⟩ := hS
        go_simp
        try with_reducible rfl
      rotate_left
      try simp only [Act.put, List.setIfInBounds_toArray, List.set_cons_zero, List.set_cons_succ]
      refine wpAnyH_take (i := 3) (oi := { dst := some 70, op := Op.move (Operand.tmp 13), type := 3, pos := "law.go:162", after := #[], guard := none }) (v := ?_) rfl (by kernel_rfl) (by kernel_rfl) (by kernel_rfl) (fun _ _ _ h => h) (.inl ⟨by rfl, fun W hS => ?_⟩) HS ?_
      rotate_left
      · obtain ⟨t0, -⟩ := hS
        go_simp
        try with_reducible rfl
      rotate_left
      try simp only [Act.put, List.setIfInBounds_toArray, List.set_cons_zero, List.set_cons_succ]
      refine wpAnyH_take (i := 4) (oi := { dst := some 71, op := Op.slice 22 (Operand.tmp 69) none (some (Operand.tmp 70)) none, type := 22, pos := "law.go:162", after := #[{ on := 2, ground := Ground.data }, { on := 3, ground := Ground.data }], guard := none }) (v := ?_) rfl (by kernel_rfl) (by kernel_rfl) (by kernel_rfl) (fun _ _ _ h => h) (.inl ⟨by rfl, fun W hS => ?_⟩) HS ?_
      rotate_left
      · obtain ⟨t0, -⟩ := hS
        go_simp
        try with_reducible rfl
      rotate_left
      try simp only [Act.put, List.setIfInBounds_toArray, List.set_cons_zero, List.set_cons_succ]
      refine wpAnyH_take (i := 5) (oi := { dst := some 72, op := Op.convert 22 9 (Operand.tmp 71), type := 9, pos := "law.go:162", after := #[{ on := 4, ground := Ground.data }], guard := none }) (v := ?_) rfl (by kernel_rfl) (by kernel_rfl) (by kernel_rfl) (fun _ _ _ h => h) (.inl ⟨by rfl, fun W hS => ?_⟩) HS ?_
      rotate_left
      · obtain ⟨t0, -⟩ := hS
        go_simp
        try with_reducible rfl
      rotate_left
      try simp only [Act.put, List.setIfInBounds_toArray, List.set_cons_zero, List.set_cons_succ]
      refine wpAnyH_take (i := 6) (oi := { dst := some 73, op := Op.binOp BinOp.add 9 (Operand.tmp 68) (Operand.tmp 72) 9, type := 9, pos := "law.go:162", after := #[{ on := 1, ground := Ground.data }, { on := 5, ground := Ground.data }], guard := none }) (v := ?_) rfl (by kernel_rfl) (by kernel_rfl) (by kernel_rfl) (fun _ _ _ h => h) (.inl ⟨by rfl, fun W hS => ?_⟩) HS ?_
      rotate_left
      · obtain ⟨t0, -⟩ := hS
        go_simp
        try with_reducible rfl
      rotate_left
      try simp only [Act.put, List.setIfInBounds_toArray, List.set_cons_zero, List.set_cons_succ]
      refine wpAnyH_take (i := 7) (oi := { dst := some 14, op := Op.assign (Operand.tmp 73), type := 9, pos := "law.go:162", after := #[{ on := 6, ground := Ground.data }, { on := 0, ground := Ground.phase }, { on := 1, ground := Ground.phase }, { on := 2, ground := Ground.phase }, { on := 3, ground := Ground.phase }, { on := 4, ground := Ground.phase }, { on := 5, ground := Ground.phase }, { on := 6, ground := Ground.phase }], guard := none }) (v := ?_) rfl (by kernel_rfl) (by kernel_rfl) (by kernel_rfl) (fun _ _ _ h => h) (.inl ⟨by rfl, fun W hS => ?_⟩) HS ?_
      rotate_left
      · obtain ⟨t0, -⟩ := hS
        go_simp
        try with_reducible rfl
      rotate_left
      try simp only [Act.put, List.setIfInBounds_toArray, List.set_cons_zero, List.set_cons_succ]
      refine wpAnyH_done (by kernel_rfl) ?_ _
      go_wp2_with (first
        | (go_at_call 47; refine (awake8_c _).mono ?_; rintro e w9 ⟨rfl, hK9⟩; have hD9 := hD8.kept ((Kept.refl _ _).drew.n hK9); have k9 := dappend_d hD9 _ _ _ _ _ (Sh.Sl.nil By w9 nix) (by omega); have r9 := strBy (hO8.sl.kept ((Kept.refl _ _).drew.n hK9) (fun _ _ => id)); rw [show ∀ s, dStart s = ⟨s.room, s.b, s.tear, false, false⟩ from fun _ => rfl, dAppend_fits (by simp only [List.length_nil]; omega)] at k9)
        | (go_at_call 49; (with_reducible refine k9.mono ?_); rintro e w10 ⟨rfl, hD10, -⟩))
      go_ret
      exact ⟨rfl, hD10.k⟩
  · obtain ⟨hq, hz3⟩ := hz rfl
    clear hz2 hz
    have Hz := hid hq
    clear hq
    have l4 : ¬ 9223372036854775807 < x.length + min K y.length := by have := L1.out; omega
    have l5 : ¬ 9223372036854775807 < x.length := by have := L1.out; omega
    have l6 : ¬ 9223372036854775807 < x.length + y.length := by have := L1.out; have := L2.out; omega
    have hKc : (K : Int) ≤ c2 := by omega
    have hKc2 : K ≤ c2 := by omega
    have hK0i : (0 : Int) ≤ K := by omega
    have hways : (n < 0 ∧ K = 0 ∧ K = n2 ∧ y = z) ∨ (n < 0 ∧ K = 0 ∧ K < n2 ∧ x = z) ∨ ((n2 : Int) < n ∧ K = n2 ∧ y = z) ∨ (n = K ∧ K = n2 ∧ y = z) ∨ (n = K ∧ K < n2 ∧ x = z) := by
      rcases hcs with ⟨h, h'⟩ | ⟨h, h'⟩ | h <;> rcases hz3 with ⟨h2, h3⟩ | ⟨h2, h3⟩
      · exact .inl ⟨h, h', h2, h3.symm⟩
      · exact .inr (.inl ⟨h, h', h2, h3.symm⟩)
      · exact .inr (.inr (.inl ⟨h, h2, h3.symm⟩))
      · omega
      · exact .inr (.inr (.inr (.inl ⟨h, h2, h3.symm⟩)))
      · exact .inr (.inr (.inr (.inr ⟨h, h2, h3.symm⟩)))
    clear hcs hz3
    rcases hways with ⟨hc, rfl, hn0, rfl⟩ | ⟨hc, rfl, hn0, rfl⟩ | ⟨hc, rfl, rfl⟩ | ⟨rfl, rfl, rfl⟩ | ⟨rfl, hn0, rfl⟩
    · subst hn0
      have l2 := L2.out
      obtain rfl := List.eq_nil_of_length_eq_zero l2
      clear l2
      simp only [List.take_zero] at tk
      clear hKc hKc2 hK0i l4
      go_enter Try.func10, Try.ntmps10
      go_wp2_with (first | (go_at_call 46; refine (dnew_d w _ (Kept.refl _ _) 1000).mono ?_; rintro e w1 ⟨g, rfl, hD1⟩))
      have k2 := dappend_d hD1 _ _ _ _ _ (hD1.sl h1) (by omega)
      rw [E2.out] at k2
      go_wp2_with (first | (go_at_call 49; (with_reducible refine k2.mono ?_); rintro e w2 ⟨rfl, hD2, -⟩))
      have k3 := dtear_d hD2 _ hn2
      go_wp2_with (first | (go_at_call 50; (with_reducible refine k3.mono ?_); rintro e w3 ⟨rfl, hD3⟩))
      have k4 := dreplace_d hD3 _ _ _ _ _ (hB.out.kept hD3.k (fun _ _ => id)) (by omega) (fun k hk e => by have := hk.2; have := hD3.le; omega)
      rw [show ∀ m, dTear ⟨1000, x, 0, false, false⟩ m = ⟨1000, x, m.toNat, true, false⟩ from fun _ => rfl, Hz.out] at k4
      go_wp2_with (first | (go_at_call 53; (with_reducible refine k4.mono ?_); rintro e w4 ⟨rfl, hD4, -⟩))
      have k5 := dup_d hD4
      have k6 := dappend_d hD4 _ _ _ _ _ (hD4.sl h2) (by omega)
      rw [dAppend_down] at k6
      go_wp2_with (first
        | (go_at_call 54; (with_reducible refine k5.mono ?_); rintro e w5 ⟨rfl, rfl⟩)
        | (go_at_call 49; (with_reducible refine k6.mono ?_); rintro e w6 ⟨rfl, hD6, -⟩))
      have k7 := dstart_d hD6
      go_wp2_with (first | (go_at_call 52; (with_reducible refine k7.mono ?_); rintro e w7 ⟨rfl, hD7⟩))
      have k8 := dread_d hD7
      rw [dRead_start] at k8
      simp only at k8
      go_wp2_with (first | (go_at_call 48; (with_reducible refine k8.mono ?_); rintro e w8 ⟨a8, n8, c8, rfl, hO8, hD8, -⟩))
      have r8 := fun W (hK : Kept w8 W nix) => strBy (hO8.sl.kept hK (fun _ _ => id))
      have rx := fun W (hK : Kept w8 W nix) => tx W (hD8.k.n hK)
      have ry := fun W (hK : Kept w8 W nix) => ty W (hD8.k.n hK)
      have rk := fun W (hK : Kept w8 W nix) => tk W (hD8.k.n hK)
      have s0_0 : Kept w8 w8.drew nix := (Kept.refl _ _).drew
      refine wp_region_held (S := fun W => Kept w8 W nix ∧ True) (by kernel_rfl) ?_
      have HS : Kept w8 w8.drew nix ∧ True := ⟨s0_0, trivial⟩
      show wpAnyH _ _ _ _ _ _ _ _ w8.drew
      refine wpAnyH_take (i := 0) (oi := { dst := some 67, op := Op.move (Operand.tmp 0), type := 22, pos := "law.go:162", after := #[], guard := none }) (v := ?_) rfl (by kernel_rfl) (by kernel_rfl) (by kernel_rfl) (fun _ _ _ h => h) (.inl ⟨by rfl, fun W hS => ?_⟩) HS ?_
      rotate_left
      · obtain ⟨t0, -⟩ := hS
        go_simp
        try with_reducible rfl
      rotate_left
      try simp only [Act.put, List.setIfInBounds_toArray, List.set_cons_zero, List.set_cons_succ]
      refine wpAnyH_take (i := 1) (oi := { dst := some 68, op := Op.convert 22 9 (Operand.tmp 67), type := 9, pos := "law.go:162", after := #[{ on := 0, ground := Ground.data }], guard := none }) (v := ?_) rfl (by kernel_rfl) (by kernel_rfl) (by kernel_rfl) (fun _ _ _ h => h) (.inl ⟨by rfl, fun W hS => ?_⟩) HS ?_
      rotate_left
      · obtain ⟨t0, -⟩ := hS
        go_simp
        try with_reducible rfl
      rotate_left
      try simp only [Act.put, List.setIfInBounds_toArray, List.set_cons_zero, List.set_cons_succ]
      refine wpAnyH_take (i := 2) (oi := { dst := some 69, op := Op.move (Operand.tmp 1), type := 22, pos := "law.go:162", after := #[], guard := none }) (v := ?_) rfl (by kernel_rfl) (by kernel_rfl) (by kernel_rfl) (fun _ _ _ h => h) (.inl ⟨by rfl, fun W hS => ?_⟩) HS ?_
      rotate_left
      · obtain ⟨t0, -⟩ := hS
        go_simp
        try with_reducible rfl
      rotate_left
      try simp only [Act.put, List.setIfInBounds_toArray, List.set_cons_zero, List.set_cons_succ]
      refine wpAnyH_take (i := 3) (oi := { dst := some 70, op := Op.move (Operand.tmp 13), type := 3, pos := "law.go:162", after := #[], guard := none }) (v := ?_) rfl (by kernel_rfl) (by kernel_rfl) (by kernel_rfl) (fun _ _ _ h => h) (.inl ⟨by rfl, fun W hS => ?_⟩) HS ?_
      rotate_left
      · obtain ⟨t0, -⟩ := hS
        go_simp
        try with_reducible rfl
      rotate_left
      try simp only [Act.put, List.setIfInBounds_toArray, List.set_cons_zero, List.set_cons_succ]
      refine wpAnyH_take (i := 4) (oi := { dst := some 71, op := Op.slice 22 (Operand.tmp 69) none (some (Operand.tmp 70)) none, type := 22, pos := "law.go:162", after := #[{ on := 2, ground := Ground.data }, { on := 3, ground := Ground.data }], guard := none }) (v := ?_) rfl (by kernel_rfl) (by kernel_rfl) (by kernel_rfl) (fun _ _ _ h => h) (.inl ⟨by rfl, fun W hS => ?_⟩) HS ?_
      rotate_left
      · obtain ⟨t0, -⟩ := hS
        go_simp
        try with_reducible rfl
      rotate_left
      try simp only [Act.put, List.setIfInBounds_toArray, List.set_cons_zero, List.set_cons_succ]
      refine wpAnyH_take (i := 5) (oi := { dst := some 72, op := Op.convert 22 9 (Operand.tmp 71), type := 9, pos := "law.go:162", after := #[{ on := 4, ground := Ground.data }], guard := none }) (v := ?_) rfl (by kernel_rfl) (by kernel_rfl) (by kernel_rfl) (fun _ _ _ h => h) (.inl ⟨by rfl, fun W hS => ?_⟩) HS ?_
      rotate_left
      · obtain ⟨t0, -⟩ := hS
        go_simp
        try with_reducible rfl
      rotate_left
      try simp only [Act.put, List.setIfInBounds_toArray, List.set_cons_zero, List.set_cons_succ]
      refine wpAnyH_take (i := 6) (oi := { dst := some 73, op := Op.binOp BinOp.add 9 (Operand.tmp 68) (Operand.tmp 72) 9, type := 9, pos := "law.go:162", after := #[{ on := 1, ground := Ground.data }, { on := 5, ground := Ground.data }], guard := none }) (v := ?_) rfl (by kernel_rfl) (by kernel_rfl) (by kernel_rfl) (fun _ _ _ h => h) (.inl ⟨by rfl, fun W hS => ?_⟩) HS ?_
      rotate_left
      · obtain ⟨t0, -⟩ := hS
        go_simp
        try with_reducible rfl
      rotate_left
      try simp only [Act.put, List.setIfInBounds_toArray, List.set_cons_zero, List.set_cons_succ]
      refine wpAnyH_take (i := 7) (oi := { dst := some 14, op := Op.assign (Operand.tmp 73), type := 9, pos := "law.go:162", after := #[{ on := 6, ground := Ground.data }, { on := 0, ground := Ground.phase }, { on := 1, ground := Ground.phase }, { on := 2, ground := Ground.phase }, { on := 3, ground := Ground.phase }, { on := 4, ground := Ground.phase }, { on := 5, ground := Ground.phase }, { on := 6, ground := Ground.phase }], guard := none }) (v := ?_) rfl (by kernel_rfl) (by kernel_rfl) (by kernel_rfl) (fun _ _ _ h => h) (.inl ⟨by rfl, fun W hS => ?_⟩) HS ?_
      rotate_left
      · obtain ⟨t0, -⟩ := hS
        go_simp
        try with_reducible rfl
      rotate_left
      try simp only [Act.put, List.setIfInBounds_toArray, List.set_cons_zero, List.set_cons_succ]
      refine wpAnyH_done (by kernel_rfl) ?_ _
      go_wp2_with (first
        | (go_at_call 47; refine (awake8_c _).mono ?_; rintro e w9 ⟨rfl, hK9⟩; have hD9 := hD8.kept ((Kept.refl _ _).drew.n hK9); have k9 := dappend_d hD9 _ _ _ _ _ (Sh.Sl.nil By w9 nix) (by omega); have r9 := strBy (hO8.sl.kept ((Kept.refl _ _).drew.n hK9) (fun _ _ => id)); rw [show ∀ s, dStart s = ⟨s.room, s.b, s.tear, false, false⟩ from fun _ => rfl, dAppend_fits (by simp only [List.length_nil]; omega)] at k9)
        | (go_at_call 49; (with_reducible refine k9.mono ?_); rintro e w10 ⟨rfl, hD10, -⟩))
      go_ret
      exact ⟨rfl, hD10.k⟩
    · have T23 : ((0 : Int) == (n2 : Int)) = false := by rw [Bool.eq_false_iff]; simp only [ne_eq, beq_iff_eq]; omega
      simp only [List.take_zero] at tk
      clear hKc hKc2 hK0i l4
      go_enter Try.func10, Try.ntmps10
      go_wp2_with (first | (go_at_call 46; refine (dnew_d w _ (Kept.refl _ _) 1000).mono ?_; rintro e w1 ⟨g, rfl, hD1⟩))
      have k2 := dappend_d hD1 _ _ _ _ _ (hD1.sl h1) (by omega)
      rw [E2.out] at k2
      go_wp2_with (first | (go_at_call 49; (with_reducible refine k2.mono ?_); rintro e w2 ⟨rfl, hD2, -⟩))
      have k3 := dtear_d hD2 _ hn2
      go_wp2_with (first | (go_at_call 50; (with_reducible refine k3.mono ?_); rintro e w3 ⟨rfl, hD3⟩))
      have k4 := dreplace_d hD3 _ _ _ _ _ (hB.out.kept hD3.k (fun _ _ => id)) (by omega) (fun k hk e => by have := hk.2; have := hD3.le; omega)
      rw [show ∀ m, dTear ⟨1000, x, 0, false, false⟩ m = ⟨1000, x, m.toNat, true, false⟩ from fun _ => rfl, Hz.out] at k4
      go_wp2_with (first | (go_at_call 53; (with_reducible refine k4.mono ?_); rintro e w4 ⟨rfl, hD4, -⟩))
      have k5 := dup_d hD4
      have k6 := dappend_d hD4 _ _ _ _ _ (hD4.sl h2) (by omega)
      rw [dAppend_down] at k6
      go_wp2_with (first
        | (go_at_call 54; (with_reducible refine k5.mono ?_); rintro e w5 ⟨rfl, rfl⟩)
        | (go_at_call 49; (with_reducible refine k6.mono ?_); rintro e w6 ⟨rfl, hD6, -⟩))
      have k7 := dstart_d hD6
      go_wp2_with (first | (go_at_call 52; (with_reducible refine k7.mono ?_); rintro e w7 ⟨rfl, hD7⟩))
      have k8 := dread_d hD7
      rw [dRead_start] at k8
      simp only at k8
      go_wp2_with (first | (go_at_call 48; (with_reducible refine k8.mono ?_); rintro e w8 ⟨a8, n8, c8, rfl, hO8, hD8, -⟩))
      have r8 := fun W (hK : Kept w8 W nix) => strBy (hO8.sl.kept hK (fun _ _ => id))
      have rx := fun W (hK : Kept w8 W nix) => tx W (hD8.k.n hK)
      have ry := fun W (hK : Kept w8 W nix) => ty W (hD8.k.n hK)
      have rk := fun W (hK : Kept w8 W nix) => tk W (hD8.k.n hK)
      have s0_0 : Kept w8 w8.drew nix := (Kept.refl _ _).drew
      refine wp_region_held (S := fun W => Kept w8 W nix ∧ True) (by kernel_rfl) ?_
      have HS : Kept w8 w8.drew nix ∧ True := ⟨s0_0, trivial⟩
      show wpAnyH _ _ _ _ _ _ _ _ w8.drew
      refine wpAnyH_take (i := 0) (oi := { dst := some 67, op := Op.move (Operand.tmp 0), type := 22, pos := "law.go:162", after := #[], guard := none }) (v := ?_) rfl (by kernel_rfl) (by kernel_rfl) (by kernel_rfl) (fun _ _ _ h => h) (.inl ⟨by rfl, fun W hS => ?_⟩) HS ?_
      rotate_left
      · obtain ⟨t0, -⟩ := hS
        go_simp
        try with_reducible rfl
      rotate_left
      try simp only [Act.put, List.setIfInBounds_toArray, List.set_cons_zero, List.set_cons_succ]
      refine wpAnyH_take (i := 1) (oi := { dst := some 68, op := Op.convert 22 9 (Operand.tmp 67), type := 9, pos := "law.go:162", after := #[{ on := 0, ground := Ground.data }], guard := none }) (v := ?_) rfl (by kernel_rfl) (by kernel_rfl) (by kernel_rfl) (fun _ _ _ h => h) (.inl ⟨by rfl, fun W hS => ?_⟩) HS ?_
      rotate_left
      · obtain ⟨t0, -⟩ := hS
        go_simp
        try with_reducible rfl
      rotate_left
      try simp only [Act.put, List.setIfInBounds_toArray, List.set_cons_zero, List.set_cons_succ]
      refine wpAnyH_take (i := 2) (oi := { dst := some 69, op := Op.move (Operand.tmp 1), type := 22, pos := "law.go:162", after := #[], guard := none }) (v := ?_) rfl (by kernel_rfl) (by kernel_rfl) (by kernel_rfl) (fun _ _ _ h => h) (.inl ⟨by rfl, fun W hS => ?_⟩) HS ?_
      rotate_left
      · obtain ⟨t0, -⟩ := hS
        go_simp
        try with_reducible rfl
      rotate_left
      try simp only [Act.put, List.setIfInBounds_toArray, List.set_cons_zero, List.set_cons_succ]
      refine wpAnyH_take (i := 3) (oi := { dst := some 70, op := Op.move (Operand.tmp 13), type := 3, pos := "law.go:162", after := #[], guard := none }) (v := ?_) rfl (by kernel_rfl) (by kernel_rfl) (by kernel_rfl) (fun _ _ _ h => h) (.inl ⟨by rfl, fun W hS => ?_⟩) HS ?_
      rotate_left
      · obtain ⟨t0, -⟩ := hS
        go_simp
        try with_reducible rfl
      rotate_left
      try simp only [Act.put, List.setIfInBounds_toArray, List.set_cons_zero, List.set_cons_succ]
      refine wpAnyH_take (i := 4) (oi := { dst := some 71, op := Op.slice 22 (Operand.tmp 69) none (some (Operand.tmp 70)) none, type := 22, pos := "law.go:162", after := #[{ on := 2, ground := Ground.data }, { on := 3, ground := Ground.data }], guard := none }) (v := ?_) rfl (by kernel_rfl) (by kernel_rfl) (by kernel_rfl) (fun _ _ _ h => h) (.inl ⟨by rfl, fun W hS => ?_⟩) HS ?_
      rotate_left
      · obtain ⟨t0, -⟩ := hS
        go_simp
        try with_reducible rfl
      rotate_left
      try simp only [Act.put, List.setIfInBounds_toArray, List.set_cons_zero, List.set_cons_succ]
      refine wpAnyH_take (i := 5) (oi := { dst := some 72, op := Op.convert 22 9 (Operand.tmp 71), type := 9, pos := "law.go:162", after := #[{ on := 4, ground := Ground.data }], guard := none }) (v := ?_) rfl (by kernel_rfl) (by kernel_rfl) (by kernel_rfl) (fun _ _ _ h => h) (.inl ⟨by rfl, fun W hS => ?_⟩) HS ?_
      rotate_left
      · obtain ⟨t0, -⟩ := hS
        go_simp
        try with_reducible rfl
      rotate_left
      try simp only [Act.put, List.setIfInBounds_toArray, List.set_cons_zero, List.set_cons_succ]
      refine wpAnyH_take (i := 6) (oi := { dst := some 73, op := Op.binOp BinOp.add 9 (Operand.tmp 68) (Operand.tmp 72) 9, type := 9, pos := "law.go:162", after := #[{ on := 1, ground := Ground.data }, { on := 5, ground := Ground.data }], guard := none }) (v := ?_) rfl (by kernel_rfl) (by kernel_rfl) (by kernel_rfl) (fun _ _ _ h => h) (.inl ⟨by rfl, fun W hS => ?_⟩) HS ?_
      rotate_left
      · obtain ⟨t0, -⟩ := hS
        go_simp
        try with_reducible rfl
      rotate_left
      try simp only [Act.put, List.setIfInBounds_toArray, List.set_cons_zero, List.set_cons_succ]
      refine wpAnyH_take (i := 7) (oi := { dst := some 14, op := Op.assign (Operand.tmp 73), type := 9, pos := "law.go:162", after := #[{ on := 6, ground := Ground.data }, { on := 0, ground := Ground.phase }, { on := 1, ground := Ground.phase }, { on := 2, ground := Ground.phase }, { on := 3, ground := Ground.phase }, { on := 4, ground := Ground.phase }, { on := 5, ground := Ground.phase }, { on := 6, ground := Ground.phase }], guard := none }) (v := ?_) rfl (by kernel_rfl) (by kernel_rfl) (by kernel_rfl) (fun _ _ _ h => h) (.inl ⟨by rfl, fun W hS => ?_⟩) HS ?_
      rotate_left
      · obtain ⟨t0, -⟩ := hS
        go_simp
        try with_reducible rfl
      rotate_left
      try simp only [Act.put, List.setIfInBounds_toArray, List.set_cons_zero, List.set_cons_succ]
      refine wpAnyH_done (by kernel_rfl) ?_ _
      go_wp2_with (first
        | (go_at_call 47; refine (awake8_c _).mono ?_; rintro e w9 ⟨rfl, hK9⟩; have hD9 := hD8.kept ((Kept.refl _ _).drew.n hK9); have k9 := dappend_d hD9 _ _ _ _ _ (Sh.Sl.nil By w9 nix) (by omega); have r9 := strBy (hO8.sl.kept ((Kept.refl _ _).drew.n hK9) (fun _ _ => id)); rw [show ∀ s, dStart s = ⟨s.room, s.b, s.tear, false, false⟩ from fun _ => rfl, dAppend_fits (by simp only [List.length_nil]; omega)] at k9)
        | (go_at_call 49; (with_reducible refine k9.mono ?_); rintro e w10 ⟨rfl, hD10, -⟩))
      go_ret
      exact ⟨rfl, hD10.k⟩
    · have h0n : 0 ≤ n := by omega
      go_enter Try.func10, Try.ntmps10
      go_wp2_with (first | (go_at_call 46; refine (dnew_d w _ (Kept.refl _ _) 1000).mono ?_; rintro e w1 ⟨g, rfl, hD1⟩))
      have k2 := dappend_d hD1 _ _ _ _ _ (hD1.sl h1) (by omega)
      rw [E2.out] at k2
      go_wp2_with (first | (go_at_call 49; (with_reducible refine k2.mono ?_); rintro e w2 ⟨rfl, hD2, -⟩))
      have k3 := dtear_d hD2 _ hn2
      go_wp2_with (first | (go_at_call 50; (with_reducible refine k3.mono ?_); rintro e w3 ⟨rfl, hD3⟩))
      have k4 := dreplace_d hD3 _ _ _ _ _ (hB.out.kept hD3.k (fun _ _ => id)) (by omega) (fun k hk e => by have := hk.2; have := hD3.le; omega)
      rw [show ∀ m, dTear ⟨1000, x, 0, false, false⟩ m = ⟨1000, x, m.toNat, true, false⟩ from fun _ => rfl, Hz.out] at k4
      go_wp2_with (first | (go_at_call 53; (with_reducible refine k4.mono ?_); rintro e w4 ⟨rfl, hD4, -⟩))
      have k5 := dup_d hD4
      have k6 := dappend_d hD4 _ _ _ _ _ (hD4.sl h2) (by omega)
      rw [dAppend_down] at k6
      go_wp2_with (first
        | (go_at_call 54; (with_reducible refine k5.mono ?_); rintro e w5 ⟨rfl, rfl⟩)
        | (go_at_call 49; (with_reducible refine k6.mono ?_); rintro e w6 ⟨rfl, hD6, -⟩))
      have k7 := dstart_d hD6
      go_wp2_with (first | (go_at_call 52; (with_reducible refine k7.mono ?_); rintro e w7 ⟨rfl, hD7⟩))
      have k8 := dread_d hD7
      rw [dRead_start] at k8
      simp only at k8
      go_wp2_with (first | (go_at_call 48; (with_reducible refine k8.mono ?_); rintro e w8 ⟨a8, n8, c8, rfl, hO8, hD8, -⟩))
      have r8 := fun W (hK : Kept w8 W nix) => strBy (hO8.sl.kept hK (fun _ _ => id))
      have rx := fun W (hK : Kept w8 W nix) => tx W (hD8.k.n hK)
      have ry := fun W (hK : Kept w8 W nix) => ty W (hD8.k.n hK)
      have rk := fun W (hK : Kept w8 W nix) => tk W (hD8.k.n hK)
      have s0_0 : Kept w8 w8.drew nix := (Kept.refl _ _).drew
      refine wp_region_held (S := fun W => Kept w8 W nix ∧ True) (by kernel_rfl) ?_
      have HS : Kept w8 w8.drew nix ∧ True := ⟨s0_0, trivial⟩
      show wpAnyH _ _ _ _ _ _ _ _ w8.drew
      refine wpAnyH_take (i := 0) (oi := { dst := some 67, op := Op.move (Operand.tmp 0), type := 22, pos := "law.go:162", after := #[], guard := none }) (v := ?_) rfl (by kernel_rfl) (by kernel_rfl) (by kernel_rfl) (fun _ _ _ h => h) (.inl ⟨by rfl, fun W hS => ?_⟩) HS ?_
      rotate_left
      · obtain ⟨t0, -⟩ := hS
        go_simp
        try with_reducible rfl
      rotate_left
      try simp only [Act.put, List.setIfInBounds_toArray, List.set_cons_zero, List.set_cons_succ]
      refine wpAnyH_take (i := 1) (oi := { dst := some 68, op := Op.convert 22 9 (Operand.tmp 67), type := 9, pos := "law.go:162", after := #[{ on := 0, ground := Ground.data }], guard := none }) (v := ?_) rfl (by kernel_rfl) (by kernel_rfl) (by kernel_rfl) (fun _ _ _ h => h) (.inl ⟨by rfl, fun W hS => ?_⟩) HS ?_
      rotate_left
      · obtain ⟨t0, -⟩ := hS
        go_simp
        try with_reducible rfl
      rotate_left
      try simp only [Act.put, List.setIfInBounds_toArray, List.set_cons_zero, List.set_cons_succ]
      refine wpAnyH_take (i := 2) (oi := { dst := some 69, op := Op.move (Operand.tmp 1), type := 22, pos := "law.go:162", after := #[], guard := none }) (v := ?_) rfl (by kernel_rfl) (by kernel_rfl) (by kernel_rfl) (fun _ _ _ h => h) (.inl ⟨by rfl, fun W hS => ?_⟩) HS ?_
      rotate_left
      · obtain ⟨t0, -⟩ := hS
        go_simp
        try with_reducible rfl
      rotate_left
      try simp only [Act.put, List.setIfInBounds_toArray, List.set_cons_zero, List.set_cons_succ]
      refine wpAnyH_take (i := 3) (oi := { dst := some 70, op := Op.move (Operand.tmp 13), type := 3, pos := "law.go:162", after := #[], guard := none }) (v := ?_) rfl (by kernel_rfl) (by kernel_rfl) (by kernel_rfl) (fun _ _ _ h => h) (.inl ⟨by rfl, fun W hS => ?_⟩) HS ?_
      rotate_left
      · obtain ⟨t0, -⟩ := hS
        go_simp
        try with_reducible rfl
      rotate_left
      try simp only [Act.put, List.setIfInBounds_toArray, List.set_cons_zero, List.set_cons_succ]
      refine wpAnyH_take (i := 4) (oi := { dst := some 71, op := Op.slice 22 (Operand.tmp 69) none (some (Operand.tmp 70)) none, type := 22, pos := "law.go:162", after := #[{ on := 2, ground := Ground.data }, { on := 3, ground := Ground.data }], guard := none }) (v := ?_) rfl (by kernel_rfl) (by kernel_rfl) (by kernel_rfl) (fun _ _ _ h => h) (.inl ⟨by rfl, fun W hS => ?_⟩) HS ?_
      rotate_left
      · obtain ⟨t0, -⟩ := hS
        go_simp
        try with_reducible rfl
      rotate_left
      try simp only [Act.put, List.setIfInBounds_toArray, List.set_cons_zero, List.set_cons_succ]
      refine wpAnyH_take (i := 5) (oi := { dst := some 72, op := Op.convert 22 9 (Operand.tmp 71), type := 9, pos := "law.go:162", after := #[{ on := 4, ground := Ground.data }], guard := none }) (v := ?_) rfl (by kernel_rfl) (by kernel_rfl) (by kernel_rfl) (fun _ _ _ h => h) (.inl ⟨by rfl, fun W hS => ?_⟩) HS ?_
      rotate_left
      · obtain ⟨t0, -⟩ := hS
        go_simp
        try with_reducible rfl
      rotate_left
      try simp only [Act.put, List.setIfInBounds_toArray, List.set_cons_zero, List.set_cons_succ]
      refine wpAnyH_take (i := 6) (oi := { dst := some 73, op := Op.binOp BinOp.add 9 (Operand.tmp 68) (Operand.tmp 72) 9, type := 9, pos := "law.go:162", after := #[{ on := 1, ground := Ground.data }, { on := 5, ground := Ground.data }], guard := none }) (v := ?_) rfl (by kernel_rfl) (by kernel_rfl) (by kernel_rfl) (fun _ _ _ h => h) (.inl ⟨by rfl, fun W hS => ?_⟩) HS ?_
      rotate_left
      · obtain ⟨t0, -⟩ := hS
        go_simp
        try with_reducible rfl
      rotate_left
      try simp only [Act.put, List.setIfInBounds_toArray, List.set_cons_zero, List.set_cons_succ]
      refine wpAnyH_take (i := 7) (oi := { dst := some 14, op := Op.assign (Operand.tmp 73), type := 9, pos := "law.go:162", after := #[{ on := 6, ground := Ground.data }, { on := 0, ground := Ground.phase }, { on := 1, ground := Ground.phase }, { on := 2, ground := Ground.phase }, { on := 3, ground := Ground.phase }, { on := 4, ground := Ground.phase }, { on := 5, ground := Ground.phase }, { on := 6, ground := Ground.phase }], guard := none }) (v := ?_) rfl (by kernel_rfl) (by kernel_rfl) (by kernel_rfl) (fun _ _ _ h => h) (.inl ⟨by rfl, fun W hS => ?_⟩) HS ?_
      rotate_left
      · obtain ⟨t0, -⟩ := hS
        go_simp
        try with_reducible rfl
      rotate_left
      try simp only [Act.put, List.setIfInBounds_toArray, List.set_cons_zero, List.set_cons_succ]
      refine wpAnyH_done (by kernel_rfl) ?_ _
      go_wp2_with (first
        | (go_at_call 47; refine (awake8_c _).mono ?_; rintro e w9 ⟨rfl, hK9⟩; have hD9 := hD8.kept ((Kept.refl _ _).drew.n hK9); have k9 := dappend_d hD9 _ _ _ _ _ (Sh.Sl.nil By w9 nix) (by omega); have r9 := strBy (hO8.sl.kept ((Kept.refl _ _).drew.n hK9) (fun _ _ => id)); rw [show ∀ s, dStart s = ⟨s.room, s.b, s.tear, false, false⟩ from fun _ => rfl, dAppend_fits (by simp only [List.length_nil]; omega)] at k9)
        | (go_at_call 49; (with_reducible refine k9.mono ?_); rintro e w10 ⟨rfl, hD10, -⟩))
      go_ret
      exact ⟨rfl, hD10.k⟩
    · skip
      go_enter Try.func10, Try.ntmps10
      go_wp2_with (first | (go_at_call 46; refine (dnew_d w _ (Kept.refl _ _) 1000).mono ?_; rintro e w1 ⟨g, rfl, hD1⟩))
      have k2 := dappend_d hD1 _ _ _ _ _ (hD1.sl h1) (by omega)
      rw [E2.out] at k2
      go_wp2_with (first | (go_at_call 49; (with_reducible refine k2.mono ?_); rintro e w2 ⟨rfl, hD2, -⟩))
      have k3 := dtear_d hD2 _ hn2
      go_wp2_with (first | (go_at_call 50; (with_reducible refine k3.mono ?_); rintro e w3 ⟨rfl, hD3⟩))
      have k4 := dreplace_d hD3 _ _ _ _ _ (hB.out.kept hD3.k (fun _ _ => id)) (by omega) (fun k hk e => by have := hk.2; have := hD3.le; omega)
      rw [show ∀ m, dTear ⟨1000, x, 0, false, false⟩ m = ⟨1000, x, m.toNat, true, false⟩ from fun _ => rfl, Hz.out] at k4
      go_wp2_with (first | (go_at_call 53; (with_reducible refine k4.mono ?_); rintro e w4 ⟨rfl, hD4, -⟩))
      have k5 := dup_d hD4
      have k6 := dappend_d hD4 _ _ _ _ _ (hD4.sl h2) (by omega)
      rw [dAppend_down] at k6
      go_wp2_with (first
        | (go_at_call 54; (with_reducible refine k5.mono ?_); rintro e w5 ⟨rfl, rfl⟩)
        | (go_at_call 49; (with_reducible refine k6.mono ?_); rintro e w6 ⟨rfl, hD6, -⟩))
      have k7 := dstart_d hD6
      go_wp2_with (first | (go_at_call 52; (with_reducible refine k7.mono ?_); rintro e w7 ⟨rfl, hD7⟩))
      have k8 := dread_d hD7
      rw [dRead_start] at k8
      simp only at k8
      go_wp2_with (first | (go_at_call 48; (with_reducible refine k8.mono ?_); rintro e w8 ⟨a8, n8, c8, rfl, hO8, hD8, -⟩))
      have r8 := fun W (hK : Kept w8 W nix) => strBy (hO8.sl.kept hK (fun _ _ => id))
      have rx := fun W (hK : Kept w8 W nix) => tx W (hD8.k.n hK)
      have ry := fun W (hK : Kept w8 W nix) => ty W (hD8.k.n hK)
      have rk := fun W (hK : Kept w8 W nix) => tk W (hD8.k.n hK)
      have s0_0 : Kept w8 w8.drew nix := (Kept.refl _ _).drew
      refine wp_region_held (S := fun W => Kept w8 W nix ∧ True) (by kernel_rfl) ?_
      have HS : Kept w8 w8.drew nix ∧ True := ⟨s0_0, trivial⟩
      show wpAnyH _ _ _ _ _ _ _ _ w8.drew
      refine wpAnyH_take (i := 0) (oi := { dst := some 67, op := Op.move (Operand.tmp 0), type := 22, pos := "law.go:162", after := #[], guard := none }) (v := ?_) rfl (by kernel_rfl) (by kernel_rfl) (by kernel_rfl) (fun _ _ _ h => h) (.inl ⟨by rfl, fun W hS => ?_⟩) HS ?_
      rotate_left
      · obtain ⟨t0, -⟩ := hS
        go_simp
        try with_reducible rfl
      rotate_left
      try simp only [Act.put, List.setIfInBounds_toArray, List.set_cons_zero, List.set_cons_succ]
      refine wpAnyH_take (i := 1) (oi := { dst := some 68, op := Op.convert 22 9 (Operand.tmp 67), type := 9, pos := "law.go:162", after := #[{ on := 0, ground := Ground.data }], guard := none }) (v := ?_) rfl (by kernel_rfl) (by kernel_rfl) (by kernel_rfl) (fun _ _ _ h => h) (.inl ⟨by rfl, fun W hS => ?_⟩) HS ?_
      rotate_left
      · obtain ⟨t0, -⟩ := hS
        go_simp
        try with_reducible rfl
      rotate_left
      try simp only [Act.put, List.setIfInBounds_toArray, List.set_cons_zero, List.set_cons_succ]
      refine wpAnyH_take (i := 2) (oi := { dst := some 69, op := Op.move (Operand.tmp 1), type := 22, pos := "law.go:162", after := #[], guard := none }) (v := ?_) rfl (by kernel_rfl) (by kernel_rfl) (by kernel_rfl) (fun _ _ _ h => h) (.inl ⟨by rfl, fun W hS => ?_⟩) HS ?_
      rotate_left
      · obtain ⟨t0, -⟩ := hS
        go_simp
        try with_reducible rfl
      rotate_left
      try simp only [Act.put, List.setIfInBounds_toArray, List.set_cons_zero, List.set_cons_succ]
      refine wpAnyH_take (i := 3) (oi := { dst := some 70, op := Op.move (Operand.tmp 13), type := 3, pos := "law.go:162", after := #[], guard := none }) (v := ?_) rfl (by kernel_rfl) (by kernel_rfl) (by kernel_rfl) (fun _ _ _ h => h) (.inl ⟨by rfl, fun W hS => ?_⟩) HS ?_
      rotate_left
      · obtain ⟨t0, -⟩ := hS
        go_simp
        try with_reducible rfl
      rotate_left
      try simp only [Act.put, List.setIfInBounds_toArray, List.set_cons_zero, List.set_cons_succ]
      refine wpAnyH_take (i := 4) (oi := { dst := some 71, op := Op.slice 22 (Operand.tmp 69) none (some (Operand.tmp 70)) none, type := 22, pos := "law.go:162", after := #[{ on := 2, ground := Ground.data }, { on := 3, ground := Ground.data }], guard := none }) (v := ?_) rfl (by kernel_rfl) (by kernel_rfl) (by kernel_rfl) (fun _ _ _ h => h) (.inl ⟨by rfl, fun W hS => ?_⟩) HS ?_
      rotate_left
      · obtain ⟨t0, -⟩ := hS
        go_simp
        try with_reducible rfl
      rotate_left
      try simp only [Act.put, List.setIfInBounds_toArray, List.set_cons_zero, List.set_cons_succ]
      refine wpAnyH_take (i := 5) (oi := { dst := some 72, op := Op.convert 22 9 (Operand.tmp 71), type := 9, pos := "law.go:162", after := #[{ on := 4, ground := Ground.data }], guard := none }) (v := ?_) rfl (by kernel_rfl) (by kernel_rfl) (by kernel_rfl) (fun _ _ _ h => h) (.inl ⟨by rfl, fun W hS => ?_⟩) HS ?_
      rotate_left
      · obtain ⟨t0, -⟩ := hS
        go_simp
        try with_reducible rfl
      rotate_left
      try simp only [Act.put, List.setIfInBounds_toArray, List.set_cons_zero, List.set_cons_succ]
      refine wpAnyH_take (i := 6) (oi := { dst := some 73, op := Op.binOp BinOp.add 9 (Operand.tmp 68) (Operand.tmp 72) 9, type := 9, pos := "law.go:162", after := #[{ on := 1, ground := Ground.data }, { on := 5, ground := Ground.data }], guard := none }) (v := ?_) rfl (by kernel_rfl) (by kernel_rfl) (by kernel_rfl) (fun _ _ _ h => h) (.inl ⟨by rfl, fun W hS => ?_⟩) HS ?_
      rotate_left
      · obtain ⟨t0, -⟩ := hS
        go_simp
        try with_reducible rfl
      rotate_left
      try simp only [Act.put, List.setIfInBounds_toArray, List.set_cons_zero, List.set_cons_succ]
      refine wpAnyH_take (i := 7) (oi := { dst := some 14, op := Op.assign (Operand.tmp 73), type := 9, pos := "law.go:162", after := #[{ on := 6, ground := Ground.data }, { on := 0, ground := Ground.phase }, { on := 1, ground := Ground.phase }, { on := 2, ground := Ground.phase }, { on := 3, ground := Ground.phase }, { on := 4, ground := Ground.phase }, { on := 5, ground := Ground.phase }, { on := 6, ground := Ground.phase }], guard := none }) (v := ?_) rfl (by kernel_rfl) (by kernel_rfl) (by kernel_rfl) (fun _ _ _ h => h) (.inl ⟨by rfl, fun W hS => ?_⟩) HS ?_
      rotate_left
      · obtain ⟨t0, -⟩ := hS
        go_simp
        try with_reducible rfl
      rotate_left
      try simp only [Act.put, List.setIfInBounds_toArray, List.set_cons_zero, List.set_cons_succ]
      refine wpAnyH_done (by kernel_rfl) ?_ _
      go_wp2_with (first
        | (go_at_call 47; refine (awake8_c _).mono ?_; rintro e w9 ⟨rfl, hK9⟩; have hD9 := hD8.kept ((Kept.refl _ _).drew.n hK9); have k9 := dappend_d hD9 _ _ _ _ _ (Sh.Sl.nil By w9 nix) (by omega); have r9 := strBy (hO8.sl.kept ((Kept.refl _ _).drew.n hK9) (fun _ _ => id)); rw [show ∀ s, dStart s = ⟨s.room, s.b, s.tear, false, false⟩ from fun _ => rfl, dAppend_fits (by simp only [List.length_nil]; omega)] at k9)
        | (go_at_call 49; (with_reducible refine k9.mono ?_); rintro e w10 ⟨rfl, hD10, -⟩))
      go_ret
      exact ⟨rfl, hD10.k⟩
    · have T23 : ((K : Int) == (n2 : Int)) = false := by rw [Bool.eq_false_iff]; simp only [ne_eq, beq_iff_eq]; omega
      go_enter Try.func10, Try.ntmps10
      go_wp2_with (first | (go_at_call 46; refine (dnew_d w _ (Kept.refl _ _) 1000).mono ?_; rintro e w1 ⟨g, rfl, hD1⟩))
      have k2 := dappend_d hD1 _ _ _ _ _ (hD1.sl h1) (by omega)
      rw [E2.out] at k2
      go_wp2_with (first | (go_at_call 49; (with_reducible refine k2.mono ?_); rintro e w2 ⟨rfl, hD2, -⟩))
      have k3 := dtear_d hD2 _ hn2
      go_wp2_with (first | (go_at_call 50; (with_reducible refine k3.mono ?_); rintro e w3 ⟨rfl, hD3⟩))
      have k4 := dreplace_d hD3 _ _ _ _ _ (hB.out.kept hD3.k (fun _ _ => id)) (by omega) (fun k hk e => by have := hk.2; have := hD3.le; omega)
      rw [show ∀ m, dTear ⟨1000, x, 0, false, false⟩ m = ⟨1000, x, m.toNat, true, false⟩ from fun _ => rfl, Hz.out] at k4
      go_wp2_with (first | (go_at_call 53; (with_reducible refine k4.mono ?_); rintro e w4 ⟨rfl, hD4, -⟩))
      have k5 := dup_d hD4
      have k6 := dappend_d hD4 _ _ _ _ _ (hD4.sl h2) (by omega)
      rw [dAppend_down] at k6
      go_wp2_with (first
        | (go_at_call 54; (with_reducible refine k5.mono ?_); rintro e w5 ⟨rfl, rfl⟩)
        | (go_at_call 49; (with_reducible refine k6.mono ?_); rintro e w6 ⟨rfl, hD6, -⟩))
      have k7 := dstart_d hD6
      go_wp2_with (first | (go_at_call 52; (with_reducible refine k7.mono ?_); rintro e w7 ⟨rfl, hD7⟩))
      have k8 := dread_d hD7
      rw [dRead_start] at k8
      simp only at k8
      go_wp2_with (first | (go_at_call 48; (with_reducible refine k8.mono ?_); rintro e w8 ⟨a8, n8, c8, rfl, hO8, hD8, -⟩))
      have r8 := fun W (hK : Kept w8 W nix) => strBy (hO8.sl.kept hK (fun _ _ => id))
      have rx := fun W (hK : Kept w8 W nix) => tx W (hD8.k.n hK)
      have ry := fun W (hK : Kept w8 W nix) => ty W (hD8.k.n hK)
      have rk := fun W (hK : Kept w8 W nix) => tk W (hD8.k.n hK)
      have s0_0 : Kept w8 w8.drew nix := (Kept.refl _ _).drew
      refine wp_region_held (S := fun W => Kept w8 W nix ∧ True) (by kernel_rfl) ?_
      have HS : Kept w8 w8.drew nix ∧ True := ⟨s0_0, trivial⟩
      show wpAnyH _ _ _ _ _ _ _ _ w8.drew
      refine wpAnyH_take (i := 0) (oi := { dst := some 67, op := Op.move (Operand.tmp 0), type := 22, pos := "law.go:162", after := #[], guard := none }) (v := ?_) rfl (by kernel_rfl) (by kernel_rfl) (by kernel_rfl) (fun _ _ _ h => h) (.inl ⟨by rfl, fun W hS => ?_⟩) HS ?_
      rotate_left
      · obtain ⟨t0, -⟩ := hS
        go_simp
        try with_reducible rfl
      rotate_left
      try simp only [Act.put, List.setIfInBounds_toArray, List.set_cons_zero, List.set_cons_succ]
      refine wpAnyH_take (i := 1) (oi := { dst := some 68, op := Op.convert 22 9 (Operand.tmp 67), type := 9, pos := "law.go:162", after := #[{ on := 0, ground := Ground.data }], guard := none }) (v := ?_) rfl (by kernel_rfl) (by kernel_rfl) (by kernel_rfl) (fun _ _ _ h => h) (.inl ⟨by rfl, fun W hS => ?_⟩) HS ?_
      rotate_left
      · obtain ⟨t0, -⟩ := hS
        go_simp
        try with_reducible rfl
      rotate_left
      try simp only [Act.put, List.setIfInBounds_toArray, List.set_cons_zero, List.set_cons_succ]
      refine wpAnyH_take (i := 2) (oi := { dst := some 69, op := Op.move (Operand.tmp 1), type := 22, pos := "law.go:162", after := #[], guard := none }) (v := ?_) rfl (by kernel_rfl) (by kernel_rfl) (by kernel_rfl) (fun _ _ _ h => h) (.inl ⟨by rfl, fun W hS => ?_⟩) HS ?_
      rotate_left
      · obtain ⟨t0, -⟩ := hS
        go_simp
        try with_reducible rfl
      rotate_left
      try simp only [Act.put, List.setIfInBounds_toArray, List.set_cons_zero, List.set_cons_succ]
      refine wpAnyH_take (i := 3) (oi := { dst := some 70, op := Op.move (Operand.tmp 13), type := 3, pos := "law.go:162", after := #[], guard := none }) (v := ?_) rfl (by kernel_rfl) (by kernel_rfl) (by kernel_rfl) (fun _ _ _ h => h) (.inl ⟨by rfl, fun W hS => ?_⟩) HS ?_
      rotate_left
      · obtain ⟨t0, -⟩ := hS
        go_simp
        try with_reducible rfl
      rotate_left
      try simp only [Act.put, List.setIfInBounds_toArray, List.set_cons_zero, List.set_cons_succ]
      refine wpAnyH_take (i := 4) (oi := { dst := some 71, op := Op.slice 22 (Operand.tmp 69) none (some (Operand.tmp 70)) none, type := 22, pos := "law.go:162", after := #[{ on := 2, ground := Ground.data }, { on := 3, ground := Ground.data }], guard := none }) (v := ?_) rfl (by kernel_rfl) (by kernel_rfl) (by kernel_rfl) (fun _ _ _ h => h) (.inl ⟨by rfl, fun W hS => ?_⟩) HS ?_
      rotate_left
      · obtain ⟨t0, -⟩ := hS
        go_simp
        try with_reducible rfl
      rotate_left
      try simp only [Act.put, List.setIfInBounds_toArray, List.set_cons_zero, List.set_cons_succ]
      refine wpAnyH_take (i := 5) (oi := { dst := some 72, op := Op.convert 22 9 (Operand.tmp 71), type := 9, pos := "law.go:162", after := #[{ on := 4, ground := Ground.data }], guard := none }) (v := ?_) rfl (by kernel_rfl) (by kernel_rfl) (by kernel_rfl) (fun _ _ _ h => h) (.inl ⟨by rfl, fun W hS => ?_⟩) HS ?_
      rotate_left
      · obtain ⟨t0, -⟩ := hS
        go_simp
        try with_reducible rfl
      rotate_left
      try simp only [Act.put, List.setIfInBounds_toArray, List.set_cons_zero, List.set_cons_succ]
      refine wpAnyH_take (i := 6) (oi := { dst := some 73, op := Op.binOp BinOp.add 9 (Operand.tmp 68) (Operand.tmp 72) 9, type := 9, pos := "law.go:162", after := #[{ on := 1, ground := Ground.data }, { on := 5, ground := Ground.data }], guard := none }) (v := ?_) rfl (by kernel_rfl) (by kernel_rfl) (by kernel_rfl) (fun _ _ _ h => h) (.inl ⟨by rfl, fun W hS => ?_⟩) HS ?_
      rotate_left
      · obtain ⟨t0, -⟩ := hS
        go_simp
        try with_reducible rfl
      rotate_left
      try simp only [Act.put, List.setIfInBounds_toArray, List.set_cons_zero, List.set_cons_succ]
      refine wpAnyH_take (i := 7) (oi := { dst := some 14, op := Op.assign (Operand.tmp 73), type := 9, pos := "law.go:162", after := #[{ on := 6, ground := Ground.data }, { on := 0, ground := Ground.phase }, { on := 1, ground := Ground.phase }, { on := 2, ground := Ground.phase }, { on := 3, ground := Ground.phase }, { on := 4, ground := Ground.phase }, { on := 5, ground := Ground.phase }, { on := 6, ground := Ground.phase }], guard := none }) (v := ?_) rfl (by kernel_rfl) (by kernel_rfl) (by kernel_rfl) (fun _ _ _ h => h) (.inl ⟨by rfl, fun W hS => ?_⟩) HS ?_
      rotate_left
      · obtain ⟨t0, -⟩ := hS
        go_simp
        try with_reducible rfl
      rotate_left
      try simp only [Act.put, List.setIfInBounds_toArray, List.set_cons_zero, List.set_cons_succ]
      refine wpAnyH_done (by kernel_rfl) ?_ _
      go_wp2_with (first
        | (go_at_call 47; refine (awake8_c _).mono ?_; rintro e w9 ⟨rfl, hK9⟩; have hD9 := hD8.kept ((Kept.refl _ _).drew.n hK9); have k9 := dappend_d hD9 _ _ _ _ _ (Sh.Sl.nil By w9 nix) (by omega); have r9 := strBy (hO8.sl.kept ((Kept.refl _ _).drew.n hK9) (fun _ _ => id)); rw [show ∀ s, dStart s = ⟨s.room, s.b, s.tear, false, false⟩ from fun _ => rfl, dAppend_fits (by simp only [List.length_nil]; omega)] at k9)
        | (go_at_call 49; (with_reducible refine k9.mono ?_); rintro e w10 ⟨rfl, hD10, -⟩))
      go_ret
      exact ⟨rfl, hD10.k⟩
end Go.Proofs.Ytlhlljjchggnjaa
