/- The walks of layer 5's statements. -/
import Derived.Test.YtlhlljjchggnjaaRef4
import Derived.Lib.SlBytesConst
namespace Go.Proofs.Ytlhlljjchggnjaa
open Go.RowKit

theorem kcBy (w : World) (C : Array Value) (n c : Nat) : (convert 22 22 (.slice (some ⟨w.heap.size, 0, none⟩) n c)).run Try.prog (w.alloc (.cells C 5)) = .ok (.slice (some ⟨w.heap.size, 0, none⟩) n c) (w.alloc (.cells C 5 (C.size, C.size + 1))) :=
  Lib.run_convert_bytes_const (P := Try.prog) w 22 5 C n c Try.underlying22 Try.underlying5
theorem strBy {w : World} {F : Nat → Prop} {a : Option Addr} {n c : Nat} {bs : List UInt8} (h : By.Sl w F a n c bs) : (convert 22 9 (.slice a n c)).run Try.prog w = .ok (.string ⟨bs.toArray⟩) w :=
  run_str h 22 9 5 Try.underlying22 Try.underlying5 Try.underlying9

set_option maxRecDepth 100000 in
set_option maxHeartbeats 1000000 in
theorem awake5_c (w : World) : Calls Try.prog 35 #[] w fun e w' => e = .returned (.bool true) ∧ Kept w w' nix := by
  have kc := kcBy
  go_enter Try.func35, Try.ntmps35
  go_wp2_with (first | (go_at_call 36; refine (num_c w nix none 0 0 [] (-65) (Sh.Sl.nil _ _ _) (by omega) (by omega) (by omega)).mono ?_; rintro e w1 ⟨a1, m1, rfl, hO1, hK1⟩))
  have hS1 : By.Sl (w1.alloc (.cells #[.int .u8 97, .int .u8 98] 5 (2, 3))) _ a1 m1 m1 (numB (-65)) := hO1.sl.kept ((Kept.refl w1 nix).alloc _) (fun _ _ => id)
  have hL1 := lit_by w1 [97, 98] #[.int .u8 97, .int .u8 98] 5 (2, 3) 2 rfl rfl (by omega)
  have hA1 := alloc_kept w1 (.cells #[.int .u8 97, .int .u8 98] 5 (2, 3))
  have hl1 : m1 = 2 := by rw [← hO1.len]; decide
  go_wp2_with (first | (go_at_call 38; refine (text_c _ _ _ _ _ _ _ _ _ _ _ hS1 hL1 (by omega)).mono ?_; rintro e w2 ⟨a2, m2, rfl, hO2, hK2⟩))
  obtain rfl : m2 = 5 := by rw [← hO2.len]; decide
  go_wp2_with (first | (go_at_call 40; refine (new_c _ _ _ _ _ _ hO2.sl (by omega)).mono ?_; rintro e w3 ⟨g3, rfl, hR3, hK3⟩))
  have hg3 := hR3.1.1
  have c4 := rnum_c _ _ _ _ hR3
  rw [show rNum (numB (-65) ++ textB [97, 98], false) = (-65, ([4, 97, 98], false)) by decide +kernel] at c4
  go_wp2_with (first | (go_at_call 41; refine c4.mono ?_; rintro e w4 ⟨rfl, hR4, hK4⟩))
  have hR4b := hR4.bound
  have c5 := rtext_c _ _ _ _ hR4b (fun k hk => hk.2) (by decide)
  rw [show rText ([4, 97, 98], false) = ([97, 98], ([], false)) by decide +kernel] at c5
  go_wp2_with (first | (go_at_call 42; refine c5.mono ?_; rintro e w5 ⟨a5, n5, c5, rfl, hO5, hR5, hK5⟩))
  obtain rfl : n5 = 2 := hO5.len.symm
  have hL6 := lit_by w5 [128, 0] #[.int .u8 128, .int .u8 0] 5 (0, 0) 2 rfl rfl (by omega)
  have hA6 := alloc_kept w5 (.cells #[.int .u8 128, .int .u8 0] 5)
  go_wp2_with (first | (go_at_call 40; refine (new_c _ _ _ _ _ _ hL6 (by omega)).mono ?_; rintro e w6 ⟨g6, rfl, hR6, hK6⟩))
  have hg6 := hR6.1.1
  have c7 := rnum_c _ _ _ _ hR6
  rw [show rNum ([128, 0], false) = (0, rFail) by decide +kernel] at c7
  go_wp2_with (first
    | (go_at_call 41
       refine c7.mono ?_
       rintro e w7 ⟨rfl, hR7, hK7⟩
       simp only [World.size_alloc] at hg6
       have z2 := hA1.n hK2
       have z4 := hK3.o hK4 hg3
       have z5 := z4.o hK5 hg3
       have y5 := ((hA6.n hK6).o hK7 (by omega))
       have x2 := z5.n y5
       have q1 := strBy (hO2.sl.kept x2 (fun _ _ => id))
       rw [show (⟨(numB (-65) ++ textB [97, 98]).toArray⟩ : ByteArray) = ⟨#[129, 1, 4, 97, 98]⟩ from by kernel_rfl] at q1
       have q2 := strBy (hO5.sl.kept y5 (fun _ _ => id))
       have hR8 := hR5.kept y5 (fun _ _ => id))
    | (go_at_call 43; (with_reducible refine (rend_c _ _ g3 _ hR8).mono ?_); rintro e w8 ⟨rfl, rfl⟩)
    | (go_at_call 43; (with_reducible refine (rend_c _ _ g6 _ hR7).mono ?_); rintro e w9 ⟨rfl, rfl⟩))
  go_ret
  exact ⟨rfl, hK1.n (z2.n x2)⟩

set_option maxRecDepth 100000 in
set_option maxHeartbeats 4000000 in
theorem packputs_c (w : World) (F1 F2 : Nat → Prop) (a1 a2 : Option Addr) (n1 c1 n2 c2 : Nat) (bs ss : List UInt8) (x : Int) (h1 : By.Sl w F1 a1 n1 c1 bs) (h2 : By.Sl w F2 a2 n2 c2 ss) (hx : -9223372036854775808 ≤ x) (hx2 : x ≤ 9223372036854775807) :
    Calls Try.prog 3 #[.slice a1 n1 c1, .int .i64 x, .slice a2 n2 c2] w fun e w' => e = .returned (.bool true) ∧ Kept w w' nix := by
  by_cases hb1 : 500 < n1
  · go_enter Try.func3, Try.ntmps3
    go_wp2_with (go_at_call 35; refine (awake5_c _).mono ?_; rintro e w1 ⟨rfl, hK1⟩)
    go_ret
    exact ⟨rfl, hK1⟩
  · by_cases hb2 : 500 < n2
    · go_enter Try.func3, Try.ntmps3
      go_wp2_with (go_at_call 35; refine (awake5_c _).mono ?_; rintro e w1 ⟨rfl, hK1⟩)
      go_ret
      exact ⟨rfl, hK1⟩
    · have hn1 := h1.len
      have hn2 := h2.len
      have hb3 : n1 ≤ 500 := by omega
      have hb4 : n2 ≤ 500 := by omega
      have cat := cat_bytes
      have l1 := numB_len x
      have l2 : ¬ 9223372036854775807 < n1 + (numB x).length := by omega
      have l3 : ¬ 9223372036854775807 < n1 + (textB ss).length := by have := numB_len (ss.length : Int); simp only [textB, List.length_append]; omega
      go_enter Try.func3, Try.ntmps3
      go_wp2_with fail
      have q1 : ∀ W, Kept w W nix → (convert 22 9 (.slice a1 n1 c1)).run Try.prog W = .ok (.string ⟨bs.toArray⟩) W := fun W hK => strBy (h1.kept hK (fun _ _ => id))
      have s0_0 : Kept w w.drew nix := (Kept.refl _ _).drew
      refine wp_region_held (S := fun W => Kept w W nix ∧ True) (by kernel_rfl) ?_
      have HS : Kept w w.drew nix ∧ True := ⟨s0_0, trivial⟩
      show wpAnyH _ _ _ _ _ _ _ _ w.drew
      refine wpAnyH_one (i := 0) (oi := { dst := some 16, op := Op.call { callee := Callee.value (Operand.func 35), args := #[], argTypes := #[] }, type := 4, pos := "law.go:25", after := #[], guard := none }) rfl (by kernel_rfl) (by rfl) (fun K hK => ?_)
      go_simp
      refine (awake5_c _).mono ?_; rintro e w1 ⟨rfl, hK1⟩
      have s0_1 := s0_0.n hK1
      have s1_1 := Kept.refl w1 nix
      clear HS
      refine hK _ _ (fun W => Kept w1 W nix ∧ Kept w W nix ∧ True) ⟨s1_1, s0_1, trivial⟩ (fun _ h => h.2) ?_
      have HS : Kept w1 w1 nix ∧ Kept w w1 nix ∧ True := ⟨s1_1, s0_1, trivial⟩
      clear hK K
      try simp only [Act.put, List.setIfInBounds_toArray, List.set_cons_zero, List.set_cons_succ]
      refine wpAnyH_take (i := 1) (oi := { dst := some 17, op := Op.move (Operand.tmp 16), type := 4, pos := "law.go:25", after := #[{ on := 0, ground := Ground.data }, { on := 0, ground := Ground.chain }], guard := none }) (v := ?_) rfl (by kernel_rfl) (by kernel_rfl) (by kernel_rfl) (fun _ _ _ h => h) (.inl ⟨by rfl, fun W hS => ?_⟩) HS ?_
      rotate_left
      · obtain ⟨t1, t0, -⟩ := hS
        go_simp
        try with_reducible rfl
      rotate_left
      try simp only [Act.put, List.setIfInBounds_toArray, List.set_cons_zero, List.set_cons_succ]
      refine wpAnyH_take (i := 2) (oi := { dst := some 18, op := Op.move (Operand.tmp 0), type := 22, pos := "law.go:25", after := #[{ on := 1, ground := Ground.guard }], guard := some (1, true) }) (v := ?_) rfl (by kernel_rfl) (by kernel_rfl) (by kernel_rfl) (fun _ _ _ h => h) (.inl ⟨by rfl, fun W hS => ?_⟩) HS ?_
      rotate_left
      · obtain ⟨t1, t0, -⟩ := hS
        go_simp
        try with_reducible rfl
      rotate_left
      try simp only [Act.put, List.setIfInBounds_toArray, List.set_cons_zero, List.set_cons_succ]
      refine wpAnyH_take (i := 3) (oi := { dst := some 19, op := Op.move (Operand.tmp 1), type := 3, pos := "law.go:25", after := #[{ on := 1, ground := Ground.guard }], guard := some (1, true) }) (v := ?_) rfl (by kernel_rfl) (by kernel_rfl) (by kernel_rfl) (fun _ _ _ h => h) (.inl ⟨by rfl, fun W hS => ?_⟩) HS ?_
      rotate_left
      · obtain ⟨t1, t0, -⟩ := hS
        go_simp
        try with_reducible rfl
      rotate_left
      try simp only [Act.put, List.setIfInBounds_toArray, List.set_cons_zero, List.set_cons_succ]
      refine wpAnyH_take (i := 6) (oi := { dst := some 22, op := Op.move (Operand.tmp 0), type := 22, pos := "law.go:25", after := #[{ on := 1, ground := Ground.guard }], guard := some (1, true) }) (v := ?_) rfl (by kernel_rfl) (by kernel_rfl) (by kernel_rfl) (fun _ _ _ h => h) (.inl ⟨by rfl, fun W hS => ?_⟩) HS ?_
      rotate_left
      · obtain ⟨t1, t0, -⟩ := hS
        go_simp
        try with_reducible rfl
      rotate_left
      try simp only [Act.put, List.setIfInBounds_toArray, List.set_cons_zero, List.set_cons_succ]
      refine wpAnyH_take (i := 7) (oi := { dst := some 23, op := Op.convert 22 9 (Operand.tmp 22), type := 9, pos := "law.go:25", after := #[{ on := 6, ground := Ground.data }, { on := 1, ground := Ground.guard }], guard := some (1, true) }) (v := ?_) rfl (by kernel_rfl) (by kernel_rfl) (by kernel_rfl) (fun _ _ _ h => h) (.inl ⟨by rfl, fun W hS => ?_⟩) HS ?_
      rotate_left
      · obtain ⟨t1, t0, -⟩ := hS
        go_simp
        try with_reducible rfl
      rotate_left
      try simp only [Act.put, List.setIfInBounds_toArray, List.set_cons_zero, List.set_cons_succ]
      refine wpAnyH_take (i := 8) (oi := { dst := some 24, op := Op.move (Operand.tmp 1), type := 3, pos := "law.go:25", after := #[{ on := 1, ground := Ground.guard }], guard := some (1, true) }) (v := ?_) rfl (by kernel_rfl) (by kernel_rfl) (by kernel_rfl) (fun _ _ _ h => h) (.inl ⟨by rfl, fun W hS => ?_⟩) HS ?_
      rotate_left
      · obtain ⟨t1, t0, -⟩ := hS
        go_simp
        try with_reducible rfl
      rotate_left
      try simp only [Act.put, List.setIfInBounds_toArray, List.set_cons_zero, List.set_cons_succ]
      refine wpAnyH_one (i := 4) (oi := { dst := some 20, op := Op.call { callee := Callee.value (Operand.func 36), args := #[Operand.tmp 18, Operand.tmp 19], argTypes := #[22, 3] }, type := 22, pos := "law.go:25", after := #[{ on := 2, ground := Ground.data }, { on := 3, ground := Ground.data }, { on := 1, ground := Ground.chain }, { on := 1, ground := Ground.guard }], guard := some (1, true) }) rfl (by kernel_rfl) (by rfl) (fun K hK => ?_)
      go_simp
      refine (num_c _ _ _ _ _ _ x (h1.kept s0_1 (fun _ _ => id)) (by omega) hx hx2).mono ?_; rintro e w2 ⟨a3, m3, rfl, hO2, hK2⟩
      have r2 := fun W (hK : Kept w2 W nix) => strBy (hO2.sl.kept hK (fun _ _ => id))
      have s0_2 := s0_1.n hK2
      have s1_2 := s1_1.n hK2
      have s2_2 := Kept.refl w2 nix
      clear HS
      refine hK _ _ (fun W => Kept w2 W nix ∧ Kept w1 W nix ∧ Kept w W nix ∧ True) ⟨s2_2, s1_2, s0_2, trivial⟩ (fun _ h => h.2) ?_
      have HS : Kept w2 w2 nix ∧ Kept w1 w2 nix ∧ Kept w w2 nix ∧ True := ⟨s2_2, s1_2, s0_2, trivial⟩
      clear hK K
      try simp only [Act.put, List.setIfInBounds_toArray, List.set_cons_zero, List.set_cons_succ]
      refine wpAnyH_take (i := 5) (oi := { dst := some 21, op := Op.convert 22 9 (Operand.tmp 20), type := 9, pos := "law.go:25", after := #[{ on := 4, ground := Ground.data }, { on := 1, ground := Ground.guard }], guard := some (1, true) }) (v := ?_) rfl (by kernel_rfl) (by kernel_rfl) (by kernel_rfl) (fun _ _ _ h => h) (.inl ⟨by rfl, fun W hS => ?_⟩) HS ?_
      rotate_left
      · obtain ⟨t2, t1, t0, -⟩ := hS
        go_simp
        try with_reducible rfl
      rotate_left
      try simp only [Act.put, List.setIfInBounds_toArray, List.set_cons_zero, List.set_cons_succ]
      refine wpAnyH_one (i := 9) (oi := { dst := some 25, op := Op.call { callee := Callee.value (Operand.func 37), args := #[Operand.tmp 24], argTypes := #[3] }, type := 22, pos := "law.go:25", after := #[{ on := 8, ground := Ground.data }, { on := 4, ground := Ground.chain }, { on := 1, ground := Ground.guard }], guard := some (1, true) }) rfl (by kernel_rfl) (by rfl) (fun K hK => ?_)
      go_simp
      refine (refnum_c _ x hx hx2).mono ?_; rintro e w3 ⟨a4, m4, c4, rfl, hO3, hK3⟩
      have r3 := fun W (hK : Kept w3 W nix) => strBy (hO3.sl.kept hK (fun _ _ => id))
      have s0_3 := s0_2.n hK3
      have s1_3 := s1_2.n hK3
      have s2_3 := s2_2.n hK3
      have s3_3 := Kept.refl w3 nix
      clear HS
      refine hK _ _ (fun W => Kept w3 W nix ∧ Kept w2 W nix ∧ Kept w1 W nix ∧ Kept w W nix ∧ True) ⟨s3_3, s2_3, s1_3, s0_3, trivial⟩ (fun _ h => h.2) ?_
      have HS : Kept w3 w3 nix ∧ Kept w2 w3 nix ∧ Kept w1 w3 nix ∧ Kept w w3 nix ∧ True := ⟨s3_3, s2_3, s1_3, s0_3, trivial⟩
      clear hK K
      try simp only [Act.put, List.setIfInBounds_toArray, List.set_cons_zero, List.set_cons_succ]
      refine wpAnyH_take (i := 10) (oi := { dst := some 26, op := Op.convert 22 9 (Operand.tmp 25), type := 9, pos := "law.go:25", after := #[{ on := 9, ground := Ground.data }, { on := 1, ground := Ground.guard }], guard := some (1, true) }) (v := ?_) rfl (by kernel_rfl) (by kernel_rfl) (by kernel_rfl) (fun _ _ _ h => h) (.inl ⟨by rfl, fun W hS => ?_⟩) HS ?_
      rotate_left
      · obtain ⟨t3, t2, t1, t0, -⟩ := hS
        go_simp
        try with_reducible rfl
      rotate_left
      try simp only [Act.put, List.setIfInBounds_toArray, List.set_cons_zero, List.set_cons_succ]
      refine wpAnyH_take (i := 11) (oi := { dst := some 27, op := Op.binOp BinOp.add 9 (Operand.tmp 23) (Operand.tmp 26) 9, type := 9, pos := "law.go:25", after := #[{ on := 7, ground := Ground.data }, { on := 10, ground := Ground.data }, { on := 1, ground := Ground.guard }], guard := some (1, true) }) (v := ?_) rfl (by kernel_rfl) (by kernel_rfl) (by kernel_rfl) (fun _ _ _ h => h) (.inl ⟨by rfl, fun W hS => ?_⟩) HS ?_
      rotate_left
      · obtain ⟨t3, t2, t1, t0, -⟩ := hS
        go_simp
        try with_reducible rfl
      rotate_left
      try simp only [Act.put, List.setIfInBounds_toArray, List.set_cons_zero, List.set_cons_succ]
      refine wpAnyH_take (i := 12) (oi := { dst := some 28, op := Op.binOp BinOp.eql 9 (Operand.tmp 21) (Operand.tmp 27) 9, type := 4, pos := "law.go:25", after := #[{ on := 5, ground := Ground.data }, { on := 11, ground := Ground.data }, { on := 1, ground := Ground.guard }], guard := some (1, true) }) (v := ?_) rfl (by kernel_rfl) (by kernel_rfl) (by kernel_rfl) (fun _ _ _ h => h) (.inl ⟨by rfl, fun W hS => ?_⟩) HS ?_
      rotate_left
      · obtain ⟨t3, t2, t1, t0, -⟩ := hS
        go_simp
        try with_reducible rfl
      rotate_left
      try simp only [Act.put, List.setIfInBounds_toArray, List.set_cons_zero, List.set_cons_succ]
      refine wpAnyH_take (i := 13) (oi := { dst := some 29, op := Op.pick (Operand.tmp 17) (Operand.tmp 28) (Operand.const (Value.bool false)), type := 4, pos := "law.go:25", after := #[{ on := 1, ground := Ground.data }, { on := 12, ground := Ground.data }], guard := none }) (v := ?_) rfl (by kernel_rfl) (by kernel_rfl) (by kernel_rfl) (fun _ _ _ h => h) (.inl ⟨by rfl, fun W hS => ?_⟩) HS ?_
      rotate_left
      · obtain ⟨t3, t2, t1, t0, -⟩ := hS
        go_simp
        try with_reducible rfl
      rotate_left
      try simp only [Act.put, List.setIfInBounds_toArray, List.set_cons_zero, List.set_cons_succ]
      refine wpAnyH_take (i := 14) (oi := { dst := some 30, op := Op.move (Operand.tmp 29), type := 4, pos := "law.go:25", after := #[{ on := 13, ground := Ground.data }, { on := 9, ground := Ground.chain }], guard := none }) (v := ?_) rfl (by kernel_rfl) (by kernel_rfl) (by kernel_rfl) (fun _ _ _ h => h) (.inl ⟨by rfl, fun W hS => ?_⟩) HS ?_
      rotate_left
      · obtain ⟨t3, t2, t1, t0, -⟩ := hS
        go_simp
        try with_reducible rfl
      rotate_left
      try simp only [Act.put, List.setIfInBounds_toArray, List.set_cons_zero, List.set_cons_succ]
      refine wpAnyH_take (i := 15) (oi := { dst := some 31, op := Op.move (Operand.tmp 0), type := 22, pos := "law.go:25", after := #[{ on := 14, ground := Ground.guard }], guard := some (14, true) }) (v := ?_) rfl (by kernel_rfl) (by kernel_rfl) (by kernel_rfl) (fun _ _ _ h => h) (.inl ⟨by rfl, fun W hS => ?_⟩) HS ?_
      rotate_left
      · obtain ⟨t3, t2, t1, t0, -⟩ := hS
        go_simp
        try with_reducible rfl
      rotate_left
      try simp only [Act.put, List.setIfInBounds_toArray, List.set_cons_zero, List.set_cons_succ]
      refine wpAnyH_take (i := 16) (oi := { dst := some 32, op := Op.move (Operand.tmp 2), type := 22, pos := "law.go:25", after := #[{ on := 14, ground := Ground.guard }], guard := some (14, true) }) (v := ?_) rfl (by kernel_rfl) (by kernel_rfl) (by kernel_rfl) (fun _ _ _ h => h) (.inl ⟨by rfl, fun W hS => ?_⟩) HS ?_
      rotate_left
      · obtain ⟨t3, t2, t1, t0, -⟩ := hS
        go_simp
        try with_reducible rfl
      rotate_left
      try simp only [Act.put, List.setIfInBounds_toArray, List.set_cons_zero, List.set_cons_succ]
      refine wpAnyH_take (i := 19) (oi := { dst := some 35, op := Op.move (Operand.tmp 0), type := 22, pos := "law.go:25", after := #[{ on := 14, ground := Ground.guard }], guard := some (14, true) }) (v := ?_) rfl (by kernel_rfl) (by kernel_rfl) (by kernel_rfl) (fun _ _ _ h => h) (.inl ⟨by rfl, fun W hS => ?_⟩) HS ?_
      rotate_left
      · obtain ⟨t3, t2, t1, t0, -⟩ := hS
        go_simp
        try with_reducible rfl
      rotate_left
      try simp only [Act.put, List.setIfInBounds_toArray, List.set_cons_zero, List.set_cons_succ]
      refine wpAnyH_take (i := 20) (oi := { dst := some 36, op := Op.convert 22 9 (Operand.tmp 35), type := 9, pos := "law.go:25", after := #[{ on := 19, ground := Ground.data }, { on := 14, ground := Ground.guard }], guard := some (14, true) }) (v := ?_) rfl (by kernel_rfl) (by kernel_rfl) (by kernel_rfl) (fun _ _ _ h => h) (.inl ⟨by rfl, fun W hS => ?_⟩) HS ?_
      rotate_left
      · obtain ⟨t3, t2, t1, t0, -⟩ := hS
        go_simp
        try with_reducible rfl
      rotate_left
      try simp only [Act.put, List.setIfInBounds_toArray, List.set_cons_zero, List.set_cons_succ]
      refine wpAnyH_take (i := 21) (oi := { dst := some 37, op := Op.move (Operand.tmp 2), type := 22, pos := "law.go:25", after := #[{ on := 14, ground := Ground.guard }], guard := some (14, true) }) (v := ?_) rfl (by kernel_rfl) (by kernel_rfl) (by kernel_rfl) (fun _ _ _ h => h) (.inl ⟨by rfl, fun W hS => ?_⟩) HS ?_
      rotate_left
      · obtain ⟨t3, t2, t1, t0, -⟩ := hS
        go_simp
        try with_reducible rfl
      rotate_left
      try simp only [Act.put, List.setIfInBounds_toArray, List.set_cons_zero, List.set_cons_succ]
      refine wpAnyH_one (i := 17) (oi := { dst := some 33, op := Op.call { callee := Callee.value (Operand.func 38), args := #[Operand.tmp 31, Operand.tmp 32], argTypes := #[22, 22] }, type := 22, pos := "law.go:25", after := #[{ on := 15, ground := Ground.data }, { on := 16, ground := Ground.data }, { on := 14, ground := Ground.chain }, { on := 14, ground := Ground.guard }], guard := some (14, true) }) rfl (by kernel_rfl) (by rfl) (fun K hK => ?_)
      go_simp
      refine (text_c _ _ _ _ _ _ _ _ _ _ _ (h1.kept s0_3 (fun _ _ => id)) (h2.kept s0_3 (fun _ _ => id)) (by omega)).mono ?_; rintro e w4 ⟨a5, m5, rfl, hO4, hK4⟩
      have r4 := fun W (hK : Kept w4 W nix) => strBy (hO4.sl.kept hK (fun _ _ => id))
      have s0_4 := s0_3.n hK4
      have s1_4 := s1_3.n hK4
      have s2_4 := s2_3.n hK4
      have s3_4 := s3_3.n hK4
      have s4_4 := Kept.refl w4 nix
      clear HS
      refine hK _ _ (fun W => Kept w4 W nix ∧ Kept w3 W nix ∧ Kept w2 W nix ∧ Kept w1 W nix ∧ Kept w W nix ∧ True) ⟨s4_4, s3_4, s2_4, s1_4, s0_4, trivial⟩ (fun _ h => h.2) ?_
      have HS : Kept w4 w4 nix ∧ Kept w3 w4 nix ∧ Kept w2 w4 nix ∧ Kept w1 w4 nix ∧ Kept w w4 nix ∧ True := ⟨s4_4, s3_4, s2_4, s1_4, s0_4, trivial⟩
      clear hK K
      try simp only [Act.put, List.setIfInBounds_toArray, List.set_cons_zero, List.set_cons_succ]
      refine wpAnyH_take (i := 18) (oi := { dst := some 34, op := Op.convert 22 9 (Operand.tmp 33), type := 9, pos := "law.go:25", after := #[{ on := 17, ground := Ground.data }, { on := 14, ground := Ground.guard }], guard := some (14, true) }) (v := ?_) rfl (by kernel_rfl) (by kernel_rfl) (by kernel_rfl) (fun _ _ _ h => h) (.inl ⟨by rfl, fun W hS => ?_⟩) HS ?_
      rotate_left
      · obtain ⟨t4, t3, t2, t1, t0, -⟩ := hS
        go_simp
        try with_reducible rfl
      rotate_left
      try simp only [Act.put, List.setIfInBounds_toArray, List.set_cons_zero, List.set_cons_succ]
      refine wpAnyH_one (i := 22) (oi := { dst := some 38, op := Op.call { callee := Callee.value (Operand.func 39), args := #[Operand.tmp 37], argTypes := #[22] }, type := 22, pos := "law.go:25", after := #[{ on := 21, ground := Ground.data }, { on := 17, ground := Ground.chain }, { on := 14, ground := Ground.guard }], guard := some (14, true) }) rfl (by kernel_rfl) (by rfl) (fun K hK => ?_)
      go_simp
      refine (reftext_c _ _ _ _ _ _ (h2.kept s0_4 (fun _ _ => id)) (by omega)).mono ?_; rintro e w5 ⟨a6, m6, c6, rfl, hO5, hK5⟩
      have r5 := fun W (hK : Kept w5 W nix) => strBy (hO5.sl.kept hK (fun _ _ => id))
      have s0_5 := s0_4.n hK5
      have s1_5 := s1_4.n hK5
      have s2_5 := s2_4.n hK5
      have s3_5 := s3_4.n hK5
      have s4_5 := s4_4.n hK5
      have s5_5 := Kept.refl w5 nix
      clear HS
      refine hK _ _ (fun W => Kept w5 W nix ∧ Kept w4 W nix ∧ Kept w3 W nix ∧ Kept w2 W nix ∧ Kept w1 W nix ∧ Kept w W nix ∧ True) ⟨s5_5, s4_5, s3_5, s2_5, s1_5, s0_5, trivial⟩ (fun _ h => h.2) ?_
      have HS : Kept w5 w5 nix ∧ Kept w4 w5 nix ∧ Kept w3 w5 nix ∧ Kept w2 w5 nix ∧ Kept w1 w5 nix ∧ Kept w w5 nix ∧ True := ⟨s5_5, s4_5, s3_5, s2_5, s1_5, s0_5, trivial⟩
      clear hK K
      try simp only [Act.put, List.setIfInBounds_toArray, List.set_cons_zero, List.set_cons_succ]
      refine wpAnyH_take (i := 23) (oi := { dst := some 39, op := Op.convert 22 9 (Operand.tmp 38), type := 9, pos := "law.go:25", after := #[{ on := 22, ground := Ground.data }, { on := 14, ground := Ground.guard }], guard := some (14, true) }) (v := ?_) rfl (by kernel_rfl) (by kernel_rfl) (by kernel_rfl) (fun _ _ _ h => h) (.inl ⟨by rfl, fun W hS => ?_⟩) HS ?_
      rotate_left
      · obtain ⟨t5, t4, t3, t2, t1, t0, -⟩ := hS
        go_simp
        try with_reducible rfl
      rotate_left
      try simp only [Act.put, List.setIfInBounds_toArray, List.set_cons_zero, List.set_cons_succ]
      refine wpAnyH_take (i := 24) (oi := { dst := some 40, op := Op.binOp BinOp.add 9 (Operand.tmp 36) (Operand.tmp 39) 9, type := 9, pos := "law.go:25", after := #[{ on := 20, ground := Ground.data }, { on := 23, ground := Ground.data }, { on := 14, ground := Ground.guard }], guard := some (14, true) }) (v := ?_) rfl (by kernel_rfl) (by kernel_rfl) (by kernel_rfl) (fun _ _ _ h => h) (.inl ⟨by rfl, fun W hS => ?_⟩) HS ?_
      rotate_left
      · obtain ⟨t5, t4, t3, t2, t1, t0, -⟩ := hS
        go_simp
        try with_reducible rfl
      rotate_left
      try simp only [Act.put, List.setIfInBounds_toArray, List.set_cons_zero, List.set_cons_succ]
      refine wpAnyH_take (i := 25) (oi := { dst := some 41, op := Op.binOp BinOp.eql 9 (Operand.tmp 34) (Operand.tmp 40) 9, type := 4, pos := "law.go:25", after := #[{ on := 18, ground := Ground.data }, { on := 24, ground := Ground.data }, { on := 14, ground := Ground.guard }], guard := some (14, true) }) (v := ?_) rfl (by kernel_rfl) (by kernel_rfl) (by kernel_rfl) (fun _ _ _ h => h) (.inl ⟨by rfl, fun W hS => ?_⟩) HS ?_
      rotate_left
      · obtain ⟨t5, t4, t3, t2, t1, t0, -⟩ := hS
        go_simp
        try with_reducible rfl
      rotate_left
      try simp only [Act.put, List.setIfInBounds_toArray, List.set_cons_zero, List.set_cons_succ]
      refine wpAnyH_take (i := 26) (oi := { dst := some 42, op := Op.pick (Operand.tmp 30) (Operand.tmp 41) (Operand.const (Value.bool false)), type := 4, pos := "law.go:25", after := #[{ on := 14, ground := Ground.data }, { on := 25, ground := Ground.data }], guard := none }) (v := ?_) rfl (by kernel_rfl) (by kernel_rfl) (by kernel_rfl) (fun _ _ _ h => h) (.inl ⟨by rfl, fun W hS => ?_⟩) HS ?_
      rotate_left
      · obtain ⟨t5, t4, t3, t2, t1, t0, -⟩ := hS
        go_simp
        try with_reducible rfl
      rotate_left
      try simp only [Act.put, List.setIfInBounds_toArray, List.set_cons_zero, List.set_cons_succ]
      refine wpAnyH_take (i := 27) (oi := { dst := some 6, op := Op.assign (Operand.tmp 42), type := 4, pos := "law.go:25", after := #[{ on := 26, ground := Ground.data }, { on := 22, ground := Ground.chain }, { on := 0, ground := Ground.phase }, { on := 1, ground := Ground.phase }, { on := 2, ground := Ground.phase }, { on := 3, ground := Ground.phase }, { on := 4, ground := Ground.phase }, { on := 5, ground := Ground.phase }, { on := 6, ground := Ground.phase }, { on := 7, ground := Ground.phase }, { on := 8, ground := Ground.phase }, { on := 9, ground := Ground.phase }, { on := 10, ground := Ground.phase }, { on := 11, ground := Ground.phase }, { on := 12, ground := Ground.phase }, { on := 13, ground := Ground.phase }, { on := 14, ground := Ground.phase }, { on := 15, ground := Ground.phase }, { on := 16, ground := Ground.phase }, { on := 17, ground := Ground.phase }, { on := 18, ground := Ground.phase }, { on := 19, ground := Ground.phase }, { on := 20, ground := Ground.phase }, { on := 21, ground := Ground.phase }, { on := 22, ground := Ground.phase }, { on := 23, ground := Ground.phase }, { on := 24, ground := Ground.phase }, { on := 25, ground := Ground.phase }, { on := 26, ground := Ground.phase }], guard := none }) (v := ?_) rfl (by kernel_rfl) (by kernel_rfl) (by kernel_rfl) (fun _ _ _ h => h) (.inl ⟨by rfl, fun W hS => ?_⟩) HS ?_
      rotate_left
      · obtain ⟨t5, t4, t3, t2, t1, t0, -⟩ := hS
        go_simp
        try with_reducible rfl
      rotate_left
      try simp only [Act.put, List.setIfInBounds_toArray, List.set_cons_zero, List.set_cons_succ]
      refine wpAnyH_done (by kernel_rfl) ?_ _
      go_wp2
      go_ret
      exact ⟨rfl, s0_5⟩
end Go.Proofs.Ytlhlljjchggnjaa
