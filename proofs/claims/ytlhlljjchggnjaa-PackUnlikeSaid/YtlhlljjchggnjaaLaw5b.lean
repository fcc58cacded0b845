/- The walks of layer 5's statements, more: no reader; unlike numbers and texts. -/
import Derived.Test.YtlhlljjchggnjaaLaw5
namespace Go.Proofs.Ytlhlljjchggnjaa
open Go.RowKit

set_option maxRecDepth 100000 in
theorem rnum_nil (w : World) : Calls Try.prog 41 #[.pointer none] w fun e w' => e = .returned (.int .i64 0) ∧ w = w' := by
  go_enter Try.func41, Try.ntmps41
  go_wp2
  go_ret
  exact ⟨rfl, rfl⟩
set_option maxRecDepth 100000 in
theorem rcount_nil (w : World) (most : Int) : Calls Try.prog 44 #[.pointer none, .int .i64 most] w fun e w' => e = .returned (.int .i64 0) ∧ w = w' := by
  go_enter Try.func44, Try.ntmps44
  go_wp2_with (go_at_call 41; refine (rnum_nil _).mono ?_; rintro e w1 ⟨rfl, rfl⟩)
  go_ret
  exact ⟨rfl, rfl⟩
set_option maxRecDepth 100000 in
theorem rtext_nil (w : World) : Calls Try.prog 42 #[.pointer none] w fun e w' => e = .returned (.slice none 0 0) ∧ w = w' := by
  go_enter Try.func42, Try.ntmps42
  go_wp2
  go_ret
  exact ⟨rfl, rfl⟩
set_option maxRecDepth 100000 in
theorem rend_nil (w : World) : Calls Try.prog 43 #[.pointer none] w fun e w' => e = .returned (.bool false) ∧ w = w' := by
  go_enter Try.func43, Try.ntmps43
  go_wp2
  go_ret
  exact ⟨rfl, rfl⟩

set_option maxRecDepth 100000 in
set_option maxHeartbeats 1000000 in
theorem packnone_c (w : World) (most : Int) : Calls Try.prog 5 #[.int .i64 most] w fun e w' => e = .returned (.bool true) ∧ Kept w w' nix := by
  go_enter Try.func5, Try.ntmps5
  go_wp2_with (first
    | (go_at_call 35; refine (awake5_c _).mono ?_; rintro e w1 ⟨rfl, hK1⟩)
    | (go_at_call 41; refine (rnum_nil _).mono ?_; rintro e w2 ⟨rfl, rfl⟩)
    | (go_at_call 42; refine (rtext_nil _).mono ?_; rintro e w2 ⟨rfl, rfl⟩)
    | (go_at_call 44; refine (rcount_nil _ _).mono ?_; rintro e w2 ⟨rfl, rfl⟩)
    | (go_at_call 43; refine (rend_nil _).mono ?_; rintro e w2 ⟨rfl, rfl⟩))
  go_ret
  exact ⟨rfl, hK1⟩

/-! ### Unlike numbers and texts -/
theorem enc7_free : ∀ (k u v : Nat) (r1 r2 : List UInt8), u < 128 ^ (k + 1) → v < 128 ^ (k + 1) → enc7 k u ++ r1 = enc7 k v ++ r2 → u = v ∧ r1 = r2
  | 0, u, v, r1, r2, hu, hv, h => by
    simp only [enc7, List.cons_append, List.nil_append, List.cons.injEq] at h
    have := congrArg UInt8.toNat h.1
    rw [UInt8.toNat_ofNat', UInt8.toNat_ofNat', Nat.mod_eq_of_lt (by omega), Nat.mod_eq_of_lt (by omega)] at this
    exact ⟨this, h.2⟩
  | k + 1, u, v, r1, r2, hu, hv, h => by
    have big : ∀ x : Nat, ¬ x < 128 → (UInt8.ofNat (x % 128 + 128)).toNat = x % 128 + 128 := fun x _ => by rw [UInt8.toNat_ofNat', Nat.mod_eq_of_lt (by omega)]
    have small : ∀ x : Nat, x < 128 → (UInt8.ofNat x).toNat = x := fun x _ => by rw [UInt8.toNat_ofNat', Nat.mod_eq_of_lt (by omega)]
    by_cases h1 : u < 128 <;> by_cases h2 : v < 128
    · rw [enc7_small _ _ h1, enc7_small _ _ h2] at h
      simp only [List.cons_append, List.nil_append, List.cons.injEq] at h
      have := congrArg UInt8.toNat h.1
      rw [small u h1, small v h2] at this
      exact ⟨this, h.2⟩
    · rw [enc7_small _ _ h1, enc7_big _ _ h2] at h
      simp only [List.cons_append, List.nil_append, List.cons.injEq] at h
      have := congrArg UInt8.toNat h.1
      rw [small u h1, big v h2] at this
      omega
    · rw [enc7_big _ _ h1, enc7_small _ _ h2] at h
      simp only [List.cons_append, List.nil_append, List.cons.injEq] at h
      have := congrArg UInt8.toNat h.1
      rw [big u h1, small v h2] at this
      omega
    · rw [enc7_big _ _ h1, enc7_big _ _ h2] at h
      simp only [List.cons_append, List.cons.injEq] at h
      have := congrArg UInt8.toNat h.1
      rw [big u h1, big v h2] at this
      rw [Nat.pow_succ] at hu hv
      obtain ⟨h3, h4⟩ := enc7_free k (u / 128) (v / 128) r1 r2 (by omega) (by omega) h.2
      exact ⟨by omega, h4⟩
theorem zz_inj {a b : Int} (h : zz a = zz b) : a = b := by
  unfold zz at h
  split at h <;> split at h <;> omega
theorem numB_free {a b : Int} (ha : i64p a) (hb : i64p b) {r1 r2 : List UInt8} (h : numB a ++ r1 = numB b ++ r2) : a = b ∧ r1 = r2 := by
  have h1 := zz_lt a ha.1 ha.2
  have h2 := zz_lt b hb.1 hb.2
  obtain ⟨h3, h4⟩ := enc7_free 9 _ _ r1 r2 (by omega) (by omega) h
  exact ⟨zz_inj h3, h4⟩
theorem textB_free {s t r1 r2 : List UInt8} (hs : s.length ≤ maxB) (ht : t.length ≤ maxB) (h : textB s ++ r1 = textB t ++ r2) : s = t ∧ r1 = r2 := by
  unfold textB at h
  unfold maxB at hs ht
  rw [List.append_assoc, List.append_assoc] at h
  obtain ⟨h1, h2⟩ := numB_free (a := (s.length : Int)) (b := (t.length : Int)) ⟨by omega, by omega⟩ ⟨by omega, by omega⟩ h
  exact List.append_inj h2 (by omega)
theorem num_prefix {a b : Int} (ha : i64p a) (hb : i64p b) : ((numB b).take (numB a).length = numB a) ↔ a = b := by
  refine ⟨fun h => ?_, fun h => by rw [h, List.take_length]⟩
  have h2 : numB a ++ (numB b).drop (numB a).length = numB b ++ [] := by
    rw [List.append_nil]
    conv => rhs; rw [← List.take_append_drop (numB a).length (numB b), h]
  exact (numB_free ha hb h2).1
theorem text_prefix {s t : List UInt8} (hs : s.length ≤ maxB) (ht : t.length ≤ maxB) : ((textB t).take (textB s).length = textB s) ↔ s = t := by
  refine ⟨fun h => ?_, fun h => by rw [h, List.take_length]⟩
  have h2 : textB s ++ (textB t).drop (textB s).length = textB t ++ [] := by
    rw [List.append_nil]
    conv => rhs; rw [← List.take_append_drop (textB s).length (textB t), h]
  exact (textB_free hs ht h2).1

set_option maxRecDepth 100000 in
set_option maxHeartbeats 4000000 in
theorem packunlike_c (w : World) (F1 F2 : Nat → Prop) (x y : Int) (a1 a2 : Option Addr) (n1 c1 n2 c2 : Nat) (ss ts : List UInt8) (hx : -9223372036854775808 ≤ x) (hx2 : x ≤ 9223372036854775807) (hy : -9223372036854775808 ≤ y) (hy2 : y ≤ 9223372036854775807) (h1 : By.Sl w F1 a1 n1 c1 ss) (h2 : By.Sl w F2 a2 n2 c2 ts) :
    Calls Try.prog 6 #[.int .i64 x, .int .i64 y, .slice a1 n1 c1, .slice a2 n2 c2] w fun e w' => e = .returned (.bool true) ∧ Kept w w' nix := by
  by_cases hb1 : 300 < n1
  · go_enter Try.func6, Try.ntmps6
    go_wp2_with (go_at_call 35; refine (awake5_c _).mono ?_; rintro e w1 ⟨rfl, hK1⟩)
    go_ret
    exact ⟨rfl, hK1⟩
  · by_cases hb2 : 300 < n2
    · go_enter Try.func6, Try.ntmps6
      go_wp2_with (go_at_call 35; refine (awake5_c _).mono ?_; rintro e w1 ⟨rfl, hK1⟩)
      go_ret
      exact ⟨rfl, hK1⟩
    · have hn1 := h1.len
      have hn2 := h2.len
      have hb3 : n1 ≤ 300 := by omega
      have hb4 : n2 ≤ 300 := by omega
      go_enter Try.func6, Try.ntmps6
      go_wp2_with fail
      have s0_0 : Kept w w.drew nix := (Kept.refl _ _).drew
      refine wp_region_held (S := fun W => Kept w W nix ∧ True) (by kernel_rfl) ?_
      have HS : Kept w w.drew nix ∧ True := ⟨s0_0, trivial⟩
      show wpAnyH _ _ _ _ _ _ _ _ w.drew
      refine wpAnyH_take (i := 0) (oi := { dst := some 22, op := Op.move (Operand.tmp 0), type := 3, pos := "law.go:115", after := #[], guard := none }) (v := ?_) rfl (by kernel_rfl) (by kernel_rfl) (by kernel_rfl) (fun _ _ _ h => h) (.inl ⟨by rfl, fun W hS => ?_⟩) HS ?_
      rotate_left
      · obtain ⟨t0, -⟩ := hS
        go_simp
        try with_reducible rfl
      rotate_left
      try simp only [Act.put, List.setIfInBounds_toArray, List.set_cons_zero, List.set_cons_succ]
      refine wpAnyH_take (i := 3) (oi := { dst := some 25, op := Op.move (Operand.tmp 1), type := 3, pos := "law.go:115", after := #[], guard := none }) (v := ?_) rfl (by kernel_rfl) (by kernel_rfl) (by kernel_rfl) (fun _ _ _ h => h) (.inl ⟨by rfl, fun W hS => ?_⟩) HS ?_
      rotate_left
      · obtain ⟨t0, -⟩ := hS
        go_simp
        try with_reducible rfl
      rotate_left
      try simp only [Act.put, List.setIfInBounds_toArray, List.set_cons_zero, List.set_cons_succ]
      refine wpAnyH_one (i := 1) (oi := { dst := some 23, op := Op.call { callee := Callee.value (Operand.func 36), args := #[Operand.const (Value.slice none 0 0), Operand.tmp 22], argTypes := #[22, 3] }, type := 22, pos := "law.go:115", after := #[{ on := 0, ground := Ground.data }], guard := none }) rfl (by kernel_rfl) (by rfl) (fun K hK => ?_)
      go_simp
      refine (num_c _ nix none 0 0 [] x (Sh.Sl.nil _ _ _) (by omega) hx hx2).mono ?_; rintro e w1 ⟨a3, m3, rfl, hO1, hK1⟩
      have r1 := fun W (hK : Kept w1 W nix) => strBy (hO1.sl.kept hK (fun _ _ => id))
      have s0_1 := s0_0.n hK1
      have s1_1 := Kept.refl w1 nix
      clear HS
      refine hK _ _ (fun W => Kept w1 W nix ∧ Kept w W nix ∧ True) ⟨s1_1, s0_1, trivial⟩ (fun _ h => h.2) ?_
      have HS : Kept w1 w1 nix ∧ Kept w w1 nix ∧ True := ⟨s1_1, s0_1, trivial⟩
      clear hK K
      try simp only [Act.put, List.setIfInBounds_toArray, List.set_cons_zero, List.set_cons_succ]
      refine wpAnyH_take (i := 2) (oi := { dst := some 24, op := Op.convert 22 9 (Operand.tmp 23), type := 9, pos := "law.go:115", after := #[{ on := 1, ground := Ground.data }], guard := none }) (v := ?_) rfl (by kernel_rfl) (by kernel_rfl) (by kernel_rfl) (fun _ _ _ h => h) (.inl ⟨by rfl, fun W hS => ?_⟩) HS ?_
      rotate_left
      · obtain ⟨t1, t0, -⟩ := hS
        go_simp
        try with_reducible rfl
      rotate_left
      try simp only [Act.put, List.setIfInBounds_toArray, List.set_cons_zero, List.set_cons_succ]
      refine wpAnyH_one (i := 4) (oi := { dst := some 26, op := Op.call { callee := Callee.value (Operand.func 36), args := #[Operand.const (Value.slice none 0 0), Operand.tmp 25], argTypes := #[22, 3] }, type := 22, pos := "law.go:115", after := #[{ on := 3, ground := Ground.data }, { on := 1, ground := Ground.chain }], guard := none }) rfl (by kernel_rfl) (by rfl) (fun K hK => ?_)
      go_simp
      refine (num_c _ nix none 0 0 [] y (Sh.Sl.nil _ _ _) (by omega) hy hy2).mono ?_; rintro e w2 ⟨a4, m4, rfl, hO2, hK2⟩
      have r2 := fun W (hK : Kept w2 W nix) => strBy (hO2.sl.kept hK (fun _ _ => id))
      have s0_2 := s0_1.n hK2
      have s1_2 := s1_1.n hK2
      have s2_2 := Kept.refl w2 nix
      clear HS
      refine hK _ _ (fun W => Kept w2 W nix ∧ Kept w1 W nix ∧ Kept w W nix ∧ True) ⟨s2_2, s1_2, s0_2, trivial⟩ (fun _ h => h.2) ?_
      have HS : Kept w2 w2 nix ∧ Kept w1 w2 nix ∧ Kept w w2 nix ∧ True := ⟨s2_2, s1_2, s0_2, trivial⟩
      clear hK K
      try simp only [Act.put, List.setIfInBounds_toArray, List.set_cons_zero, List.set_cons_succ]
      refine wpAnyH_take (i := 5) (oi := { dst := some 27, op := Op.convert 22 9 (Operand.tmp 26), type := 9, pos := "law.go:115", after := #[{ on := 4, ground := Ground.data }, { on := 6, ground := Ground.gcOnly Departure.lateStores }], guard := none }) (v := ?_) rfl (by kernel_rfl) (by kernel_rfl) (by kernel_rfl) (fun _ _ _ h => h) (.inl ⟨by rfl, fun W hS => ?_⟩) HS ?_
      rotate_left
      · obtain ⟨t2, t1, t0, -⟩ := hS
        go_simp
        try with_reducible rfl
      rotate_left
      try simp only [Act.put, List.setIfInBounds_toArray, List.set_cons_zero, List.set_cons_succ]
      refine wpAnyH_take (i := 6) (oi := { dst := some 9, op := Op.assign (Operand.tmp 24), type := 9, pos := "law.go:115", after := #[{ on := 2, ground := Ground.data }, { on := 4, ground := Ground.chain }, { on := 0, ground := Ground.phase }, { on := 1, ground := Ground.phase }, { on := 2, ground := Ground.phase }, { on := 3, ground := Ground.textOnly Departure.lateStores }, { on := 4, ground := Ground.textOnly Departure.lateStoresUnsure }, { on := 5, ground := Ground.textOnly Departure.lateStores }], guard := none }) (v := ?_) rfl (by kernel_rfl) (by kernel_rfl) (by kernel_rfl) (fun _ _ _ h => h) (.inl ⟨by rfl, fun W hS => ?_⟩) HS ?_
      rotate_left
      · obtain ⟨t2, t1, t0, -⟩ := hS
        go_simp
        try with_reducible rfl
      rotate_left
      try simp only [Act.put, List.setIfInBounds_toArray, List.set_cons_zero, List.set_cons_succ]
      refine wpAnyH_take (i := 7) (oi := { dst := some 10, op := Op.assign (Operand.tmp 27), type := 9, pos := "law.go:115", after := #[{ on := 5, ground := Ground.data }, { on := 6, ground := Ground.chain }, { on := 0, ground := Ground.phase }, { on := 1, ground := Ground.phase }, { on := 2, ground := Ground.phase }, { on := 3, ground := Ground.phase }, { on := 4, ground := Ground.phase }, { on := 5, ground := Ground.phase }, { on := 6, ground := Ground.phase }], guard := none }) (v := ?_) rfl (by kernel_rfl) (by kernel_rfl) (by kernel_rfl) (fun _ _ _ h => h) (.inl ⟨by rfl, fun W hS => ?_⟩) HS ?_
      rotate_left
      · obtain ⟨t2, t1, t0, -⟩ := hS
        go_simp
        try with_reducible rfl
      rotate_left
      try simp only [Act.put, List.setIfInBounds_toArray, List.set_cons_zero, List.set_cons_succ]
      refine wpAnyH_done (by kernel_rfl) ?_ _
      go_wp2_with fail
      have HH := hid s0_2
      clear hK1 hK2 r1 r2 hO1 hO2 s1_1 s1_2 s2_2 s0_0 s0_1 HS
      have s0_0 : Kept w2 w2.drew nix := (Kept.refl _ _).drew
      refine wp_region_held (S := fun W => Kept w2 W nix ∧ True) (by kernel_rfl) ?_
      have HS : Kept w2 w2.drew nix ∧ True := ⟨s0_0, trivial⟩
      show wpAnyH _ _ _ _ _ _ _ _ w2.drew
      refine wpAnyH_take (i := 0) (oi := { dst := some 28, op := Op.move (Operand.tmp 2), type := 22, pos := "law.go:116", after := #[], guard := none }) (v := ?_) rfl (by kernel_rfl) (by kernel_rfl) (by kernel_rfl) (fun _ _ _ h => h) (.inl ⟨by rfl, fun W hS => ?_⟩) HS ?_
      rotate_left
      · obtain ⟨t0, -⟩ := hS
        go_simp
        try with_reducible rfl
      rotate_left
      try simp only [Act.put, List.setIfInBounds_toArray, List.set_cons_zero, List.set_cons_succ]
      refine wpAnyH_take (i := 3) (oi := { dst := some 31, op := Op.move (Operand.tmp 3), type := 22, pos := "law.go:116", after := #[], guard := none }) (v := ?_) rfl (by kernel_rfl) (by kernel_rfl) (by kernel_rfl) (fun _ _ _ h => h) (.inl ⟨by rfl, fun W hS => ?_⟩) HS ?_
      rotate_left
      · obtain ⟨t0, -⟩ := hS
        go_simp
        try with_reducible rfl
      rotate_left
      try simp only [Act.put, List.setIfInBounds_toArray, List.set_cons_zero, List.set_cons_succ]
      refine wpAnyH_one (i := 1) (oi := { dst := some 29, op := Op.call { callee := Callee.value (Operand.func 38), args := #[Operand.const (Value.slice none 0 0), Operand.tmp 28], argTypes := #[22, 22] }, type := 22, pos := "law.go:116", after := #[{ on := 0, ground := Ground.data }], guard := none }) rfl (by kernel_rfl) (by rfl) (fun K hK => ?_)
      go_simp
      refine (text_c _ nix F1 none a1 0 0 n1 c1 [] ss (Sh.Sl.nil _ _ _) (h1.kept (HH.out.n s0_0) (fun _ _ => id)) (by omega)).mono ?_; rintro e w3 ⟨a3, m3, rfl, hO3, hK3⟩
      have r3 := fun W (hK : Kept w3 W nix) => strBy (hO3.sl.kept hK (fun _ _ => id))
      have s0_1 := s0_0.n hK3
      have s1_1 := Kept.refl w3 nix
      clear HS
      refine hK _ _ (fun W => Kept w3 W nix ∧ Kept w2 W nix ∧ True) ⟨s1_1, s0_1, trivial⟩ (fun _ h => h.2) ?_
      have HS : Kept w3 w3 nix ∧ Kept w2 w3 nix ∧ True := ⟨s1_1, s0_1, trivial⟩
      clear hK K
      try simp only [Act.put, List.setIfInBounds_toArray, List.set_cons_zero, List.set_cons_succ]
      refine wpAnyH_take (i := 2) (oi := { dst := some 30, op := Op.convert 22 9 (Operand.tmp 29), type := 9, pos := "law.go:116", after := #[{ on := 1, ground := Ground.data }], guard := none }) (v := ?_) rfl (by kernel_rfl) (by kernel_rfl) (by kernel_rfl) (fun _ _ _ h => h) (.inl ⟨by rfl, fun W hS => ?_⟩) HS ?_
      rotate_left
      · obtain ⟨t1, t0, -⟩ := hS
        go_simp
        try with_reducible rfl
      rotate_left
      try simp only [Act.put, List.setIfInBounds_toArray, List.set_cons_zero, List.set_cons_succ]
      refine wpAnyH_one (i := 4) (oi := { dst := some 32, op := Op.call { callee := Callee.value (Operand.func 38), args := #[Operand.const (Value.slice none 0 0), Operand.tmp 31], argTypes := #[22, 22] }, type := 22, pos := "law.go:116", after := #[{ on := 3, ground := Ground.data }, { on := 1, ground := Ground.chain }], guard := none }) rfl (by kernel_rfl) (by rfl) (fun K hK => ?_)
      go_simp
      refine (text_c _ nix F2 none a2 0 0 n2 c2 [] ts (Sh.Sl.nil _ _ _) (h2.kept (HH.out.n s0_1) (fun _ _ => id)) (by omega)).mono ?_; rintro e w4 ⟨a4, m4, rfl, hO4, hK4⟩
      have r4 := fun W (hK : Kept w4 W nix) => strBy (hO4.sl.kept hK (fun _ _ => id))
      have s0_2 := s0_1.n hK4
      have s1_2 := s1_1.n hK4
      have s2_2 := Kept.refl w4 nix
      clear HS
      refine hK _ _ (fun W => Kept w4 W nix ∧ Kept w3 W nix ∧ Kept w2 W nix ∧ True) ⟨s2_2, s1_2, s0_2, trivial⟩ (fun _ h => h.2) ?_
      have HS : Kept w4 w4 nix ∧ Kept w3 w4 nix ∧ Kept w2 w4 nix ∧ True := ⟨s2_2, s1_2, s0_2, trivial⟩
      clear hK K
      try simp only [Act.put, List.setIfInBounds_toArray, List.set_cons_zero, List.set_cons_succ]
      refine wpAnyH_take (i := 5) (oi := { dst := some 33, op := Op.convert 22 9 (Operand.tmp 32), type := 9, pos := "law.go:116", after := #[{ on := 4, ground := Ground.data }, { on := 6, ground := Ground.gcOnly Departure.lateStores }], guard := none }) (v := ?_) rfl (by kernel_rfl) (by kernel_rfl) (by kernel_rfl) (fun _ _ _ h => h) (.inl ⟨by rfl, fun W hS => ?_⟩) HS ?_
      rotate_left
      · obtain ⟨t2, t1, t0, -⟩ := hS
        go_simp
        try with_reducible rfl
      rotate_left
      try simp only [Act.put, List.setIfInBounds_toArray, List.set_cons_zero, List.set_cons_succ]
      refine wpAnyH_take (i := 6) (oi := { dst := some 11, op := Op.assign (Operand.tmp 30), type := 9, pos := "law.go:116", after := #[{ on := 2, ground := Ground.data }, { on := 4, ground := Ground.chain }, { on := 0, ground := Ground.phase }, { on := 1, ground := Ground.phase }, { on := 2, ground := Ground.phase }, { on := 3, ground := Ground.textOnly Departure.lateStores }, { on := 4, ground := Ground.textOnly Departure.lateStoresUnsure }, { on := 5, ground := Ground.textOnly Departure.lateStores }], guard := none }) (v := ?_) rfl (by kernel_rfl) (by kernel_rfl) (by kernel_rfl) (fun _ _ _ h => h) (.inl ⟨by rfl, fun W hS => ?_⟩) HS ?_
      rotate_left
      · obtain ⟨t2, t1, t0, -⟩ := hS
        go_simp
        try with_reducible rfl
      rotate_left
      try simp only [Act.put, List.setIfInBounds_toArray, List.set_cons_zero, List.set_cons_succ]
      refine wpAnyH_take (i := 7) (oi := { dst := some 12, op := Op.assign (Operand.tmp 33), type := 9, pos := "law.go:116", after := #[{ on := 5, ground := Ground.data }, { on := 6, ground := Ground.chain }, { on := 0, ground := Ground.phase }, { on := 1, ground := Ground.phase }, { on := 2, ground := Ground.phase }, { on := 3, ground := Ground.phase }, { on := 4, ground := Ground.phase }, { on := 5, ground := Ground.phase }, { on := 6, ground := Ground.phase }], guard := none }) (v := ?_) rfl (by kernel_rfl) (by kernel_rfl) (by kernel_rfl) (fun _ _ _ h => h) (.inl ⟨by rfl, fun W hS => ?_⟩) HS ?_
      rotate_left
      · obtain ⟨t2, t1, t0, -⟩ := hS
        go_simp
        try with_reducible rfl
      rotate_left
      try simp only [Act.put, List.setIfInBounds_toArray, List.set_cons_zero, List.set_cons_succ]
      refine wpAnyH_done (by kernel_rfl) ?_ _
      have ext := extract_bytes
      have E1 : ((numB y).take (numB x).length == numB x) = (x == y) := by
        rw [Bool.eq_iff_iff, beq_iff_eq, beq_iff_eq]
        exact num_prefix ⟨hx, hx2⟩ ⟨hy, hy2⟩
      have E2 : ((textB ts).take (textB ss).length == textB ss) = (ss == ts) := by
        rw [Bool.eq_iff_iff, beq_iff_eq, beq_iff_eq]
        exact text_prefix (by unfold maxB; omega) (by unfold maxB; omega)
      have H4 := hid (HH.out.n s0_2)
      have q1 := fun W (hK : Kept w4 W nix) => strBy (h1.kept (H4.out.n hK) (fun _ _ => id))
      have q2 := fun W (hK : Kept w4 W nix) => strBy (h2.kept (H4.out.n hK) (fun _ _ => id))
      clear hK3 hK4 r3 r4 hO3 hO4 s1_1 s1_2 s2_2 s0_0 s0_1 s0_2 HS
      by_cases hxy : (numB x).length ≤ (numB y).length
      all_goals
        go_wp2_with fail
        by_cases hst : (textB ts).length < (textB ss).length
        · skip
          have s0_0 : Kept w4 w4.drew nix := (Kept.refl _ _).drew
          refine wp_region_held (S := fun W => Kept w4 W nix ∧ True) (by kernel_rfl) ?_
          have HS : Kept w4 w4.drew nix ∧ True := ⟨s0_0, trivial⟩
          show wpAnyH _ _ _ _ _ _ _ _ w4.drew
          refine wpAnyH_one (i := 0) (oi := { dst := some 51, op := Op.call { callee := Callee.value (Operand.func 35), args := #[], argTypes := #[] }, type := 4, pos := "law.go:120", after := #[], guard := none }) rfl (by kernel_rfl) (by rfl) (fun K hK => ?_)
          go_simp
          refine (awake5_c _).mono ?_; rintro e w5 ⟨rfl, hK5⟩
          have s0_1 := s0_0.n hK5
          have s1_1 := Kept.refl w5 nix
          clear HS
          refine hK _ _ (fun W => Kept w5 W nix ∧ Kept w4 W nix ∧ True) ⟨s1_1, s0_1, trivial⟩ (fun _ h => h.2) ?_
          have HS : Kept w5 w5 nix ∧ Kept w4 w5 nix ∧ True := ⟨s1_1, s0_1, trivial⟩
          clear hK K
          try simp only [Act.put, List.setIfInBounds_toArray, List.set_cons_zero, List.set_cons_succ]
          refine wpAnyH_take (i := 1) (oi := { dst := some 52, op := Op.move (Operand.tmp 51), type := 4, pos := "law.go:120", after := #[{ on := 0, ground := Ground.data }, { on := 0, ground := Ground.chain }], guard := none }) (v := ?_) rfl (by kernel_rfl) (by kernel_rfl) (by kernel_rfl) (fun _ _ _ h => h) (.inl ⟨by rfl, fun W hS => ?_⟩) HS ?_
          rotate_left
          · obtain ⟨t1, t0, -⟩ := hS
            go_simp
            try with_reducible rfl
          rotate_left
          try simp only [Act.put, List.setIfInBounds_toArray, List.set_cons_zero, List.set_cons_succ]
          refine wpAnyH_take (i := 2) (oi := { dst := some 53, op := Op.move (Operand.tmp 11), type := 9, pos := "law.go:120", after := #[{ on := 1, ground := Ground.guard }], guard := some (1, true) }) (v := ?_) rfl (by kernel_rfl) (by kernel_rfl) (by kernel_rfl) (fun _ _ _ h => h) (.inl ⟨by rfl, fun W hS => ?_⟩) HS ?_
          rotate_left
          · obtain ⟨t1, t0, -⟩ := hS
            go_simp
            try with_reducible rfl
          rotate_left
          try simp only [Act.put, List.setIfInBounds_toArray, List.set_cons_zero, List.set_cons_succ]
          refine wpAnyH_take (i := 3) (oi := { dst := some 54, op := Op.call { callee := Callee.builtin Builtin.len, args := #[Operand.tmp 53], argTypes := #[9] }, type := 3, pos := "law.go:120", after := #[{ on := 2, ground := Ground.data }, { on := 1, ground := Ground.guard }], guard := some (1, true) }) (v := ?_) rfl (by kernel_rfl) (by kernel_rfl) (by kernel_rfl) (fun _ _ _ h => h) (.inl ⟨by rfl, fun W hS => ?_⟩) HS ?_
          rotate_left
          · obtain ⟨t1, t0, -⟩ := hS
            go_simp
            try with_reducible rfl
          rotate_left
          try simp only [Act.put, List.setIfInBounds_toArray, List.set_cons_zero, List.set_cons_succ]
          refine wpAnyH_take (i := 4) (oi := { dst := some 55, op := Op.move (Operand.tmp 12), type := 9, pos := "law.go:120", after := #[{ on := 1, ground := Ground.guard }], guard := some (1, true) }) (v := ?_) rfl (by kernel_rfl) (by kernel_rfl) (by kernel_rfl) (fun _ _ _ h => h) (.inl ⟨by rfl, fun W hS => ?_⟩) HS ?_
          rotate_left
          · obtain ⟨t1, t0, -⟩ := hS
            go_simp
            try with_reducible rfl
          rotate_left
          try simp only [Act.put, List.setIfInBounds_toArray, List.set_cons_zero, List.set_cons_succ]
          refine wpAnyH_take (i := 5) (oi := { dst := some 56, op := Op.call { callee := Callee.builtin Builtin.len, args := #[Operand.tmp 55], argTypes := #[9] }, type := 3, pos := "law.go:120", after := #[{ on := 4, ground := Ground.data }, { on := 1, ground := Ground.guard }], guard := some (1, true) }) (v := ?_) rfl (by kernel_rfl) (by kernel_rfl) (by kernel_rfl) (fun _ _ _ h => h) (.inl ⟨by rfl, fun W hS => ?_⟩) HS ?_
          rotate_left
          · obtain ⟨t1, t0, -⟩ := hS
            go_simp
            try with_reducible rfl
          rotate_left
          try simp only [Act.put, List.setIfInBounds_toArray, List.set_cons_zero, List.set_cons_succ]
          refine wpAnyH_take (i := 6) (oi := { dst := some 57, op := Op.binOp BinOp.gtr 3 (Operand.tmp 54) (Operand.tmp 56) 3, type := 4, pos := "law.go:120", after := #[{ on := 3, ground := Ground.data }, { on := 5, ground := Ground.data }, { on := 1, ground := Ground.guard }], guard := some (1, true) }) (v := ?_) rfl (by kernel_rfl) (by kernel_rfl) (by kernel_rfl) (fun _ _ _ h => h) (.inl ⟨by rfl, fun W hS => ?_⟩) HS ?_
          rotate_left
          · obtain ⟨t1, t0, -⟩ := hS
            go_simp
            try with_reducible rfl
          rotate_left
          try simp only [Act.put, List.setIfInBounds_toArray, List.set_cons_zero, List.set_cons_succ]
          refine wpAnyH_take (i := 7) (oi := { dst := some 58, op := Op.move (Operand.tmp 57), type := 4, pos := "law.go:120", after := #[{ on := 6, ground := Ground.data }, { on := 1, ground := Ground.chain }, { on := 1, ground := Ground.guard }], guard := some (1, true) }) (v := ?_) rfl (by kernel_rfl) (by kernel_rfl) (by kernel_rfl) (fun _ _ _ h => h) (.inl ⟨by rfl, fun W hS => ?_⟩) HS ?_
          rotate_left
          · obtain ⟨t1, t0, -⟩ := hS
            go_simp
            try with_reducible rfl
          rotate_left
          try simp only [Act.put, List.setIfInBounds_toArray, List.set_cons_zero, List.set_cons_succ]
          refine wpAnyH_take (i := 8) (oi := { dst := some 59, op := Op.move (Operand.tmp 12), type := 9, pos := "law.go:120", after := #[{ on := 7, ground := Ground.guard }], guard := some (7, false) }) (v := undef) rfl (by kernel_rfl) (by kernel_rfl) (by kernel_rfl) (fun _ _ _ h => h) (.inr ⟨by rfl, rfl⟩) HS ?_
          try simp only [Act.put, List.setIfInBounds_toArray, List.set_cons_zero, List.set_cons_succ]
          refine wpAnyH_take (i := 9) (oi := { dst := some 60, op := Op.move (Operand.tmp 11), type := 9, pos := "law.go:120", after := #[{ on := 7, ground := Ground.guard }], guard := some (7, false) }) (v := undef) rfl (by kernel_rfl) (by kernel_rfl) (by kernel_rfl) (fun _ _ _ h => h) (.inr ⟨by rfl, rfl⟩) HS ?_
          try simp only [Act.put, List.setIfInBounds_toArray, List.set_cons_zero, List.set_cons_succ]
          refine wpAnyH_take (i := 10) (oi := { dst := some 61, op := Op.call { callee := Callee.builtin Builtin.len, args := #[Operand.tmp 60], argTypes := #[9] }, type := 3, pos := "law.go:120", after := #[{ on := 9, ground := Ground.data }, { on := 7, ground := Ground.guard }], guard := some (7, false) }) (v := undef) rfl (by kernel_rfl) (by kernel_rfl) (by kernel_rfl) (fun _ _ _ h => h) (.inr ⟨by rfl, rfl⟩) HS ?_
          try simp only [Act.put, List.setIfInBounds_toArray, List.set_cons_zero, List.set_cons_succ]
          refine wpAnyH_take (i := 11) (oi := { dst := some 62, op := Op.slice 9 (Operand.tmp 59) none (some (Operand.tmp 61)) none, type := 9, pos := "law.go:120", after := #[{ on := 8, ground := Ground.data }, { on := 10, ground := Ground.data }, { on := 7, ground := Ground.guard }], guard := some (7, false) }) (v := undef) rfl (by kernel_rfl) (by kernel_rfl) (by kernel_rfl) (fun _ _ _ h => h) (.inr ⟨by rfl, rfl⟩) HS ?_
          try simp only [Act.put, List.setIfInBounds_toArray, List.set_cons_zero, List.set_cons_succ]
          refine wpAnyH_take (i := 12) (oi := { dst := some 63, op := Op.move (Operand.tmp 11), type := 9, pos := "law.go:120", after := #[{ on := 7, ground := Ground.guard }], guard := some (7, false) }) (v := undef) rfl (by kernel_rfl) (by kernel_rfl) (by kernel_rfl) (fun _ _ _ h => h) (.inr ⟨by rfl, rfl⟩) HS ?_
          try simp only [Act.put, List.setIfInBounds_toArray, List.set_cons_zero, List.set_cons_succ]
          refine wpAnyH_take (i := 13) (oi := { dst := some 64, op := Op.binOp BinOp.eql 9 (Operand.tmp 62) (Operand.tmp 63) 9, type := 4, pos := "law.go:120", after := #[{ on := 11, ground := Ground.data }, { on := 12, ground := Ground.data }, { on := 7, ground := Ground.guard }], guard := some (7, false) }) (v := undef) rfl (by kernel_rfl) (by kernel_rfl) (by kernel_rfl) (fun _ _ _ h => h) (.inr ⟨by rfl, rfl⟩) HS ?_
          try simp only [Act.put, List.setIfInBounds_toArray, List.set_cons_zero, List.set_cons_succ]
          refine wpAnyH_take (i := 14) (oi := { dst := some 65, op := Op.move (Operand.tmp 2), type := 22, pos := "law.go:120", after := #[{ on := 7, ground := Ground.guard }], guard := some (7, false) }) (v := undef) rfl (by kernel_rfl) (by kernel_rfl) (by kernel_rfl) (fun _ _ _ h => h) (.inr ⟨by rfl, rfl⟩) HS ?_
          try simp only [Act.put, List.setIfInBounds_toArray, List.set_cons_zero, List.set_cons_succ]
          refine wpAnyH_take (i := 15) (oi := { dst := some 66, op := Op.convert 22 9 (Operand.tmp 65), type := 9, pos := "law.go:120", after := #[{ on := 14, ground := Ground.data }, { on := 7, ground := Ground.guard }], guard := some (7, false) }) (v := undef) rfl (by kernel_rfl) (by kernel_rfl) (by kernel_rfl) (fun _ _ _ h => h) (.inr ⟨by rfl, rfl⟩) HS ?_
          try simp only [Act.put, List.setIfInBounds_toArray, List.set_cons_zero, List.set_cons_succ]
          refine wpAnyH_take (i := 16) (oi := { dst := some 67, op := Op.move (Operand.tmp 3), type := 22, pos := "law.go:120", after := #[{ on := 7, ground := Ground.guard }], guard := some (7, false) }) (v := undef) rfl (by kernel_rfl) (by kernel_rfl) (by kernel_rfl) (fun _ _ _ h => h) (.inr ⟨by rfl, rfl⟩) HS ?_
          try simp only [Act.put, List.setIfInBounds_toArray, List.set_cons_zero, List.set_cons_succ]
          refine wpAnyH_take (i := 17) (oi := { dst := some 68, op := Op.convert 22 9 (Operand.tmp 67), type := 9, pos := "law.go:120", after := #[{ on := 16, ground := Ground.data }, { on := 7, ground := Ground.guard }], guard := some (7, false) }) (v := undef) rfl (by kernel_rfl) (by kernel_rfl) (by kernel_rfl) (fun _ _ _ h => h) (.inr ⟨by rfl, rfl⟩) HS ?_
          try simp only [Act.put, List.setIfInBounds_toArray, List.set_cons_zero, List.set_cons_succ]
          refine wpAnyH_take (i := 18) (oi := { dst := some 69, op := Op.binOp BinOp.eql 9 (Operand.tmp 66) (Operand.tmp 68) 9, type := 4, pos := "law.go:120", after := #[{ on := 15, ground := Ground.data }, { on := 17, ground := Ground.data }, { on := 7, ground := Ground.guard }], guard := some (7, false) }) (v := undef) rfl (by kernel_rfl) (by kernel_rfl) (by kernel_rfl) (fun _ _ _ h => h) (.inr ⟨by rfl, rfl⟩) HS ?_
          try simp only [Act.put, List.setIfInBounds_toArray, List.set_cons_zero, List.set_cons_succ]
          refine wpAnyH_take (i := 19) (oi := { dst := some 70, op := Op.binOp BinOp.eql 4 (Operand.tmp 64) (Operand.tmp 69) 4, type := 4, pos := "law.go:120", after := #[{ on := 13, ground := Ground.data }, { on := 18, ground := Ground.data }, { on := 7, ground := Ground.guard }], guard := some (7, false) }) (v := undef) rfl (by kernel_rfl) (by kernel_rfl) (by kernel_rfl) (fun _ _ _ h => h) (.inr ⟨by rfl, rfl⟩) HS ?_
          try simp only [Act.put, List.setIfInBounds_toArray, List.set_cons_zero, List.set_cons_succ]
          refine wpAnyH_take (i := 20) (oi := { dst := some 71, op := Op.pick (Operand.tmp 58) (Operand.const (Value.bool true)) (Operand.tmp 70), type := 4, pos := "law.go:120", after := #[{ on := 7, ground := Ground.data }, { on := 19, ground := Ground.data }, { on := 1, ground := Ground.guard }], guard := some (1, true) }) (v := ?_) rfl (by kernel_rfl) (by kernel_rfl) (by kernel_rfl) (fun _ _ _ h => h) (.inl ⟨by rfl, fun W hS => ?_⟩) HS ?_
          rotate_left
          · obtain ⟨t1, t0, -⟩ := hS
            go_simp
            try with_reducible rfl
          rotate_left
          try simp only [Act.put, List.setIfInBounds_toArray, List.set_cons_zero, List.set_cons_succ]
          refine wpAnyH_take (i := 21) (oi := { dst := some 72, op := Op.pick (Operand.tmp 52) (Operand.tmp 71) (Operand.const (Value.bool false)), type := 4, pos := "law.go:120", after := #[{ on := 1, ground := Ground.data }, { on := 20, ground := Ground.data }], guard := none }) (v := ?_) rfl (by kernel_rfl) (by kernel_rfl) (by kernel_rfl) (fun _ _ _ h => h) (.inl ⟨by rfl, fun W hS => ?_⟩) HS ?_
          rotate_left
          · obtain ⟨t1, t0, -⟩ := hS
            go_simp
            try with_reducible rfl
          rotate_left
          try simp only [Act.put, List.setIfInBounds_toArray, List.set_cons_zero, List.set_cons_succ]
          refine wpAnyH_take (i := 22) (oi := { dst := some 8, op := Op.assign (Operand.tmp 72), type := 4, pos := "law.go:120", after := #[{ on := 21, ground := Ground.data }, { on := 7, ground := Ground.chain }, { on := 0, ground := Ground.phase }, { on := 1, ground := Ground.phase }, { on := 2, ground := Ground.phase }, { on := 3, ground := Ground.phase }, { on := 4, ground := Ground.phase }, { on := 5, ground := Ground.phase }, { on := 6, ground := Ground.phase }, { on := 7, ground := Ground.phase }, { on := 8, ground := Ground.phase }, { on := 9, ground := Ground.phase }, { on := 10, ground := Ground.phase }, { on := 11, ground := Ground.phase }, { on := 12, ground := Ground.phase }, { on := 13, ground := Ground.phase }, { on := 14, ground := Ground.phase }, { on := 15, ground := Ground.phase }, { on := 16, ground := Ground.phase }, { on := 17, ground := Ground.phase }, { on := 18, ground := Ground.phase }, { on := 19, ground := Ground.phase }, { on := 20, ground := Ground.phase }, { on := 21, ground := Ground.phase }], guard := none }) (v := ?_) rfl (by kernel_rfl) (by kernel_rfl) (by kernel_rfl) (fun _ _ _ h => h) (.inl ⟨by rfl, fun W hS => ?_⟩) HS ?_
          rotate_left
          · obtain ⟨t1, t0, -⟩ := hS
            go_simp
            try with_reducible rfl
          rotate_left
          try simp only [Act.put, List.setIfInBounds_toArray, List.set_cons_zero, List.set_cons_succ]
          refine wpAnyH_done (by kernel_rfl) ?_ _
          go_wp2
          go_ret
          exact ⟨rfl, H4.out.n s0_1⟩
        · have hst2 : (textB ss).length ≤ (textB ts).length := by omega
          have s0_0 : Kept w4 w4.drew nix := (Kept.refl _ _).drew
          refine wp_region_held (S := fun W => Kept w4 W nix ∧ True) (by kernel_rfl) ?_
          have HS : Kept w4 w4.drew nix ∧ True := ⟨s0_0, trivial⟩
          show wpAnyH _ _ _ _ _ _ _ _ w4.drew
          refine wpAnyH_one (i := 0) (oi := { dst := some 51, op := Op.call { callee := Callee.value (Operand.func 35), args := #[], argTypes := #[] }, type := 4, pos := "law.go:120", after := #[], guard := none }) rfl (by kernel_rfl) (by rfl) (fun K hK => ?_)
          go_simp
          refine (awake5_c _).mono ?_; rintro e w5 ⟨rfl, hK5⟩
          have s0_1 := s0_0.n hK5
          have s1_1 := Kept.refl w5 nix
          clear HS
          refine hK _ _ (fun W => Kept w5 W nix ∧ Kept w4 W nix ∧ True) ⟨s1_1, s0_1, trivial⟩ (fun _ h => h.2) ?_
          have HS : Kept w5 w5 nix ∧ Kept w4 w5 nix ∧ True := ⟨s1_1, s0_1, trivial⟩
          clear hK K
          try simp only [Act.put, List.setIfInBounds_toArray, List.set_cons_zero, List.set_cons_succ]
          refine wpAnyH_take (i := 1) (oi := { dst := some 52, op := Op.move (Operand.tmp 51), type := 4, pos := "law.go:120", after := #[{ on := 0, ground := Ground.data }, { on := 0, ground := Ground.chain }], guard := none }) (v := ?_) rfl (by kernel_rfl) (by kernel_rfl) (by kernel_rfl) (fun _ _ _ h => h) (.inl ⟨by rfl, fun W hS => ?_⟩) HS ?_
          rotate_left
          · obtain ⟨t1, t0, -⟩ := hS
            go_simp
            try with_reducible rfl
          rotate_left
          try simp only [Act.put, List.setIfInBounds_toArray, List.set_cons_zero, List.set_cons_succ]
          refine wpAnyH_take (i := 2) (oi := { dst := some 53, op := Op.move (Operand.tmp 11), type := 9, pos := "law.go:120", after := #[{ on := 1, ground := Ground.guard }], guard := some (1, true) }) (v := ?_) rfl (by kernel_rfl) (by kernel_rfl) (by kernel_rfl) (fun _ _ _ h => h) (.inl ⟨by rfl, fun W hS => ?_⟩) HS ?_
          rotate_left
          · obtain ⟨t1, t0, -⟩ := hS
            go_simp
            try with_reducible rfl
          rotate_left
          try simp only [Act.put, List.setIfInBounds_toArray, List.set_cons_zero, List.set_cons_succ]
          refine wpAnyH_take (i := 3) (oi := { dst := some 54, op := Op.call { callee := Callee.builtin Builtin.len, args := #[Operand.tmp 53], argTypes := #[9] }, type := 3, pos := "law.go:120", after := #[{ on := 2, ground := Ground.data }, { on := 1, ground := Ground.guard }], guard := some (1, true) }) (v := ?_) rfl (by kernel_rfl) (by kernel_rfl) (by kernel_rfl) (fun _ _ _ h => h) (.inl ⟨by rfl, fun W hS => ?_⟩) HS ?_
          rotate_left
          · obtain ⟨t1, t0, -⟩ := hS
            go_simp
            try with_reducible rfl
          rotate_left
          try simp only [Act.put, List.setIfInBounds_toArray, List.set_cons_zero, List.set_cons_succ]
          refine wpAnyH_take (i := 4) (oi := { dst := some 55, op := Op.move (Operand.tmp 12), type := 9, pos := "law.go:120", after := #[{ on := 1, ground := Ground.guard }], guard := some (1, true) }) (v := ?_) rfl (by kernel_rfl) (by kernel_rfl) (by kernel_rfl) (fun _ _ _ h => h) (.inl ⟨by rfl, fun W hS => ?_⟩) HS ?_
          rotate_left
          · obtain ⟨t1, t0, -⟩ := hS
            go_simp
            try with_reducible rfl
          rotate_left
          try simp only [Act.put, List.setIfInBounds_toArray, List.set_cons_zero, List.set_cons_succ]
          refine wpAnyH_take (i := 5) (oi := { dst := some 56, op := Op.call { callee := Callee.builtin Builtin.len, args := #[Operand.tmp 55], argTypes := #[9] }, type := 3, pos := "law.go:120", after := #[{ on := 4, ground := Ground.data }, { on := 1, ground := Ground.guard }], guard := some (1, true) }) (v := ?_) rfl (by kernel_rfl) (by kernel_rfl) (by kernel_rfl) (fun _ _ _ h => h) (.inl ⟨by rfl, fun W hS => ?_⟩) HS ?_
          rotate_left
          · obtain ⟨t1, t0, -⟩ := hS
            go_simp
            try with_reducible rfl
          rotate_left
          try simp only [Act.put, List.setIfInBounds_toArray, List.set_cons_zero, List.set_cons_succ]
          refine wpAnyH_take (i := 6) (oi := { dst := some 57, op := Op.binOp BinOp.gtr 3 (Operand.tmp 54) (Operand.tmp 56) 3, type := 4, pos := "law.go:120", after := #[{ on := 3, ground := Ground.data }, { on := 5, ground := Ground.data }, { on := 1, ground := Ground.guard }], guard := some (1, true) }) (v := ?_) rfl (by kernel_rfl) (by kernel_rfl) (by kernel_rfl) (fun _ _ _ h => h) (.inl ⟨by rfl, fun W hS => ?_⟩) HS ?_
          rotate_left
          · obtain ⟨t1, t0, -⟩ := hS
            go_simp
            try with_reducible rfl
          rotate_left
          try simp only [Act.put, List.setIfInBounds_toArray, List.set_cons_zero, List.set_cons_succ]
          refine wpAnyH_take (i := 7) (oi := { dst := some 58, op := Op.move (Operand.tmp 57), type := 4, pos := "law.go:120", after := #[{ on := 6, ground := Ground.data }, { on := 1, ground := Ground.chain }, { on := 1, ground := Ground.guard }], guard := some (1, true) }) (v := ?_) rfl (by kernel_rfl) (by kernel_rfl) (by kernel_rfl) (fun _ _ _ h => h) (.inl ⟨by rfl, fun W hS => ?_⟩) HS ?_
          rotate_left
          · obtain ⟨t1, t0, -⟩ := hS
            go_simp
            try with_reducible rfl
          rotate_left
          try simp only [Act.put, List.setIfInBounds_toArray, List.set_cons_zero, List.set_cons_succ]
          refine wpAnyH_take (i := 8) (oi := { dst := some 59, op := Op.move (Operand.tmp 12), type := 9, pos := "law.go:120", after := #[{ on := 7, ground := Ground.guard }], guard := some (7, false) }) (v := ?_) rfl (by kernel_rfl) (by kernel_rfl) (by kernel_rfl) (fun _ _ _ h => h) (.inl ⟨by rfl, fun W hS => ?_⟩) HS ?_
          rotate_left
          · obtain ⟨t1, t0, -⟩ := hS
            go_simp
            try with_reducible rfl
          rotate_left
          try simp only [Act.put, List.setIfInBounds_toArray, List.set_cons_zero, List.set_cons_succ]
          refine wpAnyH_take (i := 9) (oi := { dst := some 60, op := Op.move (Operand.tmp 11), type := 9, pos := "law.go:120", after := #[{ on := 7, ground := Ground.guard }], guard := some (7, false) }) (v := ?_) rfl (by kernel_rfl) (by kernel_rfl) (by kernel_rfl) (fun _ _ _ h => h) (.inl ⟨by rfl, fun W hS => ?_⟩) HS ?_
          rotate_left
          · obtain ⟨t1, t0, -⟩ := hS
            go_simp
            try with_reducible rfl
          rotate_left
          try simp only [Act.put, List.setIfInBounds_toArray, List.set_cons_zero, List.set_cons_succ]
          refine wpAnyH_take (i := 10) (oi := { dst := some 61, op := Op.call { callee := Callee.builtin Builtin.len, args := #[Operand.tmp 60], argTypes := #[9] }, type := 3, pos := "law.go:120", after := #[{ on := 9, ground := Ground.data }, { on := 7, ground := Ground.guard }], guard := some (7, false) }) (v := ?_) rfl (by kernel_rfl) (by kernel_rfl) (by kernel_rfl) (fun _ _ _ h => h) (.inl ⟨by rfl, fun W hS => ?_⟩) HS ?_
          rotate_left
          · obtain ⟨t1, t0, -⟩ := hS
            go_simp
            try with_reducible rfl
          rotate_left
          try simp only [Act.put, List.setIfInBounds_toArray, List.set_cons_zero, List.set_cons_succ]
          refine wpAnyH_take (i := 11) (oi := { dst := some 62, op := Op.slice 9 (Operand.tmp 59) none (some (Operand.tmp 61)) none, type := 9, pos := "law.go:120", after := #[{ on := 8, ground := Ground.data }, { on := 10, ground := Ground.data }, { on := 7, ground := Ground.guard }], guard := some (7, false) }) (v := ?_) rfl (by kernel_rfl) (by kernel_rfl) (by kernel_rfl) (fun _ _ _ h => h) (.inl ⟨by rfl, fun W hS => ?_⟩) HS ?_
          rotate_left
          · obtain ⟨t1, t0, -⟩ := hS
            go_simp
            try with_reducible rfl
          rotate_left
          try simp only [Act.put, List.setIfInBounds_toArray, List.set_cons_zero, List.set_cons_succ]
          refine wpAnyH_take (i := 12) (oi := { dst := some 63, op := Op.move (Operand.tmp 11), type := 9, pos := "law.go:120", after := #[{ on := 7, ground := Ground.guard }], guard := some (7, false) }) (v := ?_) rfl (by kernel_rfl) (by kernel_rfl) (by kernel_rfl) (fun _ _ _ h => h) (.inl ⟨by rfl, fun W hS => ?_⟩) HS ?_
          rotate_left
          · obtain ⟨t1, t0, -⟩ := hS
            go_simp
            try with_reducible rfl
          rotate_left
          try simp only [Act.put, List.setIfInBounds_toArray, List.set_cons_zero, List.set_cons_succ]
          refine wpAnyH_take (i := 13) (oi := { dst := some 64, op := Op.binOp BinOp.eql 9 (Operand.tmp 62) (Operand.tmp 63) 9, type := 4, pos := "law.go:120", after := #[{ on := 11, ground := Ground.data }, { on := 12, ground := Ground.data }, { on := 7, ground := Ground.guard }], guard := some (7, false) }) (v := ?_) rfl (by kernel_rfl) (by kernel_rfl) (by kernel_rfl) (fun _ _ _ h => h) (.inl ⟨by rfl, fun W hS => ?_⟩) HS ?_
          rotate_left
          · obtain ⟨t1, t0, -⟩ := hS
            go_simp
            try with_reducible rfl
          rotate_left
          try simp only [Act.put, List.setIfInBounds_toArray, List.set_cons_zero, List.set_cons_succ]
          refine wpAnyH_take (i := 14) (oi := { dst := some 65, op := Op.move (Operand.tmp 2), type := 22, pos := "law.go:120", after := #[{ on := 7, ground := Ground.guard }], guard := some (7, false) }) (v := ?_) rfl (by kernel_rfl) (by kernel_rfl) (by kernel_rfl) (fun _ _ _ h => h) (.inl ⟨by rfl, fun W hS => ?_⟩) HS ?_
          rotate_left
          · obtain ⟨t1, t0, -⟩ := hS
            go_simp
            try with_reducible rfl
          rotate_left
          try simp only [Act.put, List.setIfInBounds_toArray, List.set_cons_zero, List.set_cons_succ]
          refine wpAnyH_take (i := 15) (oi := { dst := some 66, op := Op.convert 22 9 (Operand.tmp 65), type := 9, pos := "law.go:120", after := #[{ on := 14, ground := Ground.data }, { on := 7, ground := Ground.guard }], guard := some (7, false) }) (v := ?_) rfl (by kernel_rfl) (by kernel_rfl) (by kernel_rfl) (fun _ _ _ h => h) (.inl ⟨by rfl, fun W hS => ?_⟩) HS ?_
          rotate_left
          · obtain ⟨t1, t0, -⟩ := hS
            go_simp
            try with_reducible rfl
          rotate_left
          try simp only [Act.put, List.setIfInBounds_toArray, List.set_cons_zero, List.set_cons_succ]
          refine wpAnyH_take (i := 16) (oi := { dst := some 67, op := Op.move (Operand.tmp 3), type := 22, pos := "law.go:120", after := #[{ on := 7, ground := Ground.guard }], guard := some (7, false) }) (v := ?_) rfl (by kernel_rfl) (by kernel_rfl) (by kernel_rfl) (fun _ _ _ h => h) (.inl ⟨by rfl, fun W hS => ?_⟩) HS ?_
          rotate_left
          · obtain ⟨t1, t0, -⟩ := hS
            go_simp
            try with_reducible rfl
          rotate_left
          try simp only [Act.put, List.setIfInBounds_toArray, List.set_cons_zero, List.set_cons_succ]
          refine wpAnyH_take (i := 17) (oi := { dst := some 68, op := Op.convert 22 9 (Operand.tmp 67), type := 9, pos := "law.go:120", after := #[{ on := 16, ground := Ground.data }, { on := 7, ground := Ground.guard }], guard := some (7, false) }) (v := ?_) rfl (by kernel_rfl) (by kernel_rfl) (by kernel_rfl) (fun _ _ _ h => h) (.inl ⟨by rfl, fun W hS => ?_⟩) HS ?_
          rotate_left
          · obtain ⟨t1, t0, -⟩ := hS
            go_simp
            try with_reducible rfl
          rotate_left
          try simp only [Act.put, List.setIfInBounds_toArray, List.set_cons_zero, List.set_cons_succ]
          refine wpAnyH_take (i := 18) (oi := { dst := some 69, op := Op.binOp BinOp.eql 9 (Operand.tmp 66) (Operand.tmp 68) 9, type := 4, pos := "law.go:120", after := #[{ on := 15, ground := Ground.data }, { on := 17, ground := Ground.data }, { on := 7, ground := Ground.guard }], guard := some (7, false) }) (v := ?_) rfl (by kernel_rfl) (by kernel_rfl) (by kernel_rfl) (fun _ _ _ h => h) (.inl ⟨by rfl, fun W hS => ?_⟩) HS ?_
          rotate_left
          · obtain ⟨t1, t0, -⟩ := hS
            go_simp
            try with_reducible rfl
          rotate_left
          try simp only [Act.put, List.setIfInBounds_toArray, List.set_cons_zero, List.set_cons_succ]
          refine wpAnyH_take (i := 19) (oi := { dst := some 70, op := Op.binOp BinOp.eql 4 (Operand.tmp 64) (Operand.tmp 69) 4, type := 4, pos := "law.go:120", after := #[{ on := 13, ground := Ground.data }, { on := 18, ground := Ground.data }, { on := 7, ground := Ground.guard }], guard := some (7, false) }) (v := ?_) rfl (by kernel_rfl) (by kernel_rfl) (by kernel_rfl) (fun _ _ _ h => h) (.inl ⟨by rfl, fun W hS => ?_⟩) HS ?_
          rotate_left
          · obtain ⟨t1, t0, -⟩ := hS
            go_simp
            try with_reducible rfl
          rotate_left
          try simp only [Act.put, List.setIfInBounds_toArray, List.set_cons_zero, List.set_cons_succ]
          refine wpAnyH_take (i := 20) (oi := { dst := some 71, op := Op.pick (Operand.tmp 58) (Operand.const (Value.bool true)) (Operand.tmp 70), type := 4, pos := "law.go:120", after := #[{ on := 7, ground := Ground.data }, { on := 19, ground := Ground.data }, { on := 1, ground := Ground.guard }], guard := some (1, true) }) (v := ?_) rfl (by kernel_rfl) (by kernel_rfl) (by kernel_rfl) (fun _ _ _ h => h) (.inl ⟨by rfl, fun W hS => ?_⟩) HS ?_
          rotate_left
          · obtain ⟨t1, t0, -⟩ := hS
            go_simp
            try with_reducible rfl
          rotate_left
          try simp only [Act.put, List.setIfInBounds_toArray, List.set_cons_zero, List.set_cons_succ]
          refine wpAnyH_take (i := 21) (oi := { dst := some 72, op := Op.pick (Operand.tmp 52) (Operand.tmp 71) (Operand.const (Value.bool false)), type := 4, pos := "law.go:120", after := #[{ on := 1, ground := Ground.data }, { on := 20, ground := Ground.data }], guard := none }) (v := ?_) rfl (by kernel_rfl) (by kernel_rfl) (by kernel_rfl) (fun _ _ _ h => h) (.inl ⟨by rfl, fun W hS => ?_⟩) HS ?_
          rotate_left
          · obtain ⟨t1, t0, -⟩ := hS
            go_simp
            try with_reducible rfl
          rotate_left
          try simp only [Act.put, List.setIfInBounds_toArray, List.set_cons_zero, List.set_cons_succ]
          refine wpAnyH_take (i := 22) (oi := { dst := some 8, op := Op.assign (Operand.tmp 72), type := 4, pos := "law.go:120", after := #[{ on := 21, ground := Ground.data }, { on := 7, ground := Ground.chain }, { on := 0, ground := Ground.phase }, { on := 1, ground := Ground.phase }, { on := 2, ground := Ground.phase }, { on := 3, ground := Ground.phase }, { on := 4, ground := Ground.phase }, { on := 5, ground := Ground.phase }, { on := 6, ground := Ground.phase }, { on := 7, ground := Ground.phase }, { on := 8, ground := Ground.phase }, { on := 9, ground := Ground.phase }, { on := 10, ground := Ground.phase }, { on := 11, ground := Ground.phase }, { on := 12, ground := Ground.phase }, { on := 13, ground := Ground.phase }, { on := 14, ground := Ground.phase }, { on := 15, ground := Ground.phase }, { on := 16, ground := Ground.phase }, { on := 17, ground := Ground.phase }, { on := 18, ground := Ground.phase }, { on := 19, ground := Ground.phase }, { on := 20, ground := Ground.phase }, { on := 21, ground := Ground.phase }], guard := none }) (v := ?_) rfl (by kernel_rfl) (by kernel_rfl) (by kernel_rfl) (fun _ _ _ h => h) (.inl ⟨by rfl, fun W hS => ?_⟩) HS ?_
          rotate_left
          · obtain ⟨t1, t0, -⟩ := hS
            go_simp
            try with_reducible rfl
          rotate_left
          try simp only [Act.put, List.setIfInBounds_toArray, List.set_cons_zero, List.set_cons_succ]
          refine wpAnyH_done (by kernel_rfl) ?_ _
          go_wp2
          go_ret
          exact ⟨rfl, H4.out.n s0_1⟩
end Go.Proofs.Ytlhlljjchggnjaa
