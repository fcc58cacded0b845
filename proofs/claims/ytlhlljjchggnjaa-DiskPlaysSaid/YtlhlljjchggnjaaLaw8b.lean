/- The walk of DiskRoom. -/
import Derived.Test.YtlhlljjchggnjaaLaw8
namespace Go.Proofs.Ytlhlljjchggnjaa
open Go.RowKit

theorem DW.lt {w W : World} {g : Nat} {s : Dsk} (h : DW w W g s) : g < W.heap.size := by
  obtain ⟨_, _, a, c, Fb, h2, _⟩ := h.d
  exact h2.lt

set_option maxRecDepth 100000 in
set_option maxHeartbeats 4000000 in
theorem diskroom_c (w : World) (F : Nat → Prop) (a : Option Addr) (n c : Nat) (xss : List (List UInt8)) (r : Int) (h0 : 0 ≤ r) (h1 : r ≤ 255) (hS : (By.slc 1).Sl w F a n c xss) :
    Calls Try.prog 8 #[.int .u8 r, .slice a n c] w fun e w' => e = .returned (.bool true) ∧ Kept w w' nix := by
  obtain ⟨R, rfl⟩ := Int.eq_ofNat_of_zero_le h0
  have hm := hS.max
  have L := hid hS.len
  have E0 := hid (show dNew (R : Int) = ⟨R, [], 0, false, false⟩ by simp [dNew]; omega)
  have cat := cat_bytes
  go_enter Try.func8, Try.ntmps8
  go_wp2_with (first | (go_at_call 46; refine (dnew_d w _ (Kept.refl _ _) R).mono ?_; rintro e w1 ⟨g, rfl, hD1⟩))
  rw [E0.out] at hD1
  go_loopw [6] (fun i wr => ∃ (k : Nat) (b : List UInt8), i = .int .i64 k ∧ DW w wr g ⟨R, b, 0, false, false⟩ ∧ k ≤ n) (fun i _ => n - (intOf i).toNat)
  case atStart => exact ⟨0, [], rfl, hD1, Nat.zero_le _⟩
  case round =>
    obtain ⟨k, b, rfl, hD, hk⟩ := hrel
    by_cases hlt : k < n ∧ k < 40
    · obtain ⟨hlt1, hlt2⟩ := hlt
      have hkl : k < xss.length := by have := L.out; omega
      obtain ⟨gl, o, ai, ni, ci, rfl, hgl, hc, hX, hB4⟩ := bys_at hS k hkl
      generalize xss[k] = x at *
      have hc' := hD.k.cell hc (fun h => h)
      have hbr : b.length ≤ R := hD.d.1.b
      have hlx := hX.len
      by_cases h300 : 300 < ni
      · clear hc
        go_wp2_with (first | (go_at_call 47; refine (awake8_c _).mono ?_; rintro e w2 ⟨rfl, hK2⟩))
        go_ret
        exact ⟨rfl, hD.k.n hK2⟩
      · have hgr := hD.lt
        have c1 := dread_d hD
        rw [show dRead ⟨R, b, 0, false, false⟩ = (b, 0) from rfl] at c1
        go_wp2_with (first | (go_at_call 48; (with_reducible refine c1.mono ?_); rintro e w2 ⟨a2, n2, c2, rfl, hO2, hD2, hK2⟩; have hc2 := hK2.cell hc' (fun h => h)))
        have hl2 := hO2.len
        have hX2 := hX.kept hD2.k (fun _ _ => id)
        by_cases hfull : R < n2 + ni
        · have c3 := dappend_d hD2 _ _ _ _ _ hX2 (by omega)
          rw [show dAppend ⟨R, b, 0, false, false⟩ x = (5, ⟨R, b, 0, false, false⟩) by simp [dAppend, dWrite]; omega] at c3
          go_wp2_with (first | (go_at_call 49; (with_reducible refine c3.mono ?_); rintro e w3 ⟨rfl, hD3, hK3⟩))
          have c4 := dread_d hD3
          rw [show dRead ⟨R, b, 0, false, false⟩ = (b, 0) from rfl] at c4
          have hc3 := hD3.k.cell hc (fun h => h)
          go_wp2_with (first | (go_at_call 48; (with_reducible refine c4.mono ?_); rintro e w4 ⟨a4, n4, c4, rfl, hO4, hD4, hK4⟩; have hc4 := hK4.cell hc3 (fun h => h); have hl4 := hO4.len))
          have T12 : decide ((R : Int) < (n2 : Int) + (ni : Int)) = true := by simp only [decide_eq_true_eq]; omega
          have r2 := fun W (hK : Kept w4 W nix) => strBy ((hO2.sl.kept hK3 (fun k hk e => by have e' : k = g := e; have := hk.1; omega)).kept (hK4.n hK) (fun _ _ => id))
          have r4 := fun W (hK : Kept w4 W nix) => strBy (hO4.sl.kept hK (fun _ _ => id))
          have hR4 : n4 ≤ R := by omega
          go_wp2_with fail
          have s0_0 : Kept w4 w4.drew nix := (Kept.refl _ _).drew
          refine wp_region_held (S := fun W => Kept w4 W nix ∧ True) (by kernel_rfl) ?_
          have HS : Kept w4 w4.drew nix ∧ True := ⟨s0_0, trivial⟩
          show wpAnyH _ _ _ _ _ _ _ _ w4.drew
          refine wpAnyH_take (i := 0) (oi := { dst := some 73, op := Op.move (Operand.tmp 12), type := 4, pos := "law.go:186", after := #[], guard := none }) (v := ?_) rfl (by kernel_rfl) (by kernel_rfl) (by kernel_rfl) (fun _ _ _ h => h) (.inl ⟨by rfl, fun W hS => ?_⟩) HS ?_
          rotate_left
          · obtain ⟨t0, -⟩ := hS
            go_simp
            try with_reducible rfl
          rotate_left
          try simp only [Act.put, List.setIfInBounds_toArray, List.set_cons_zero, List.set_cons_succ]
          refine wpAnyH_take (i := 1) (oi := { dst := some 74, op := Op.move (Operand.tmp 9), type := 44, pos := "law.go:186", after := #[], guard := none }) (v := ?_) rfl (by kernel_rfl) (by kernel_rfl) (by kernel_rfl) (fun _ _ _ h => h) (.inl ⟨by rfl, fun W hS => ?_⟩) HS ?_
          rotate_left
          · obtain ⟨t0, -⟩ := hS
            go_simp
            try with_reducible rfl
          rotate_left
          try simp only [Act.put, List.setIfInBounds_toArray, List.set_cons_zero, List.set_cons_succ]
          refine wpAnyH_take (i := 2) (oi := { dst := some 75, op := Op.binOp BinOp.eql 44 (Operand.tmp 74) (Operand.const (Value.int IntKind.i64 5)) 44, type := 4, pos := "law.go:186", after := #[{ on := 1, ground := Ground.data }], guard := none }) (v := ?_) rfl (by kernel_rfl) (by kernel_rfl) (by kernel_rfl) (fun _ _ _ h => h) (.inl ⟨by rfl, fun W hS => ?_⟩) HS ?_
          rotate_left
          · obtain ⟨t0, -⟩ := hS
            go_simp
            try with_reducible rfl
          rotate_left
          try simp only [Act.put, List.setIfInBounds_toArray, List.set_cons_zero, List.set_cons_succ]
          refine wpAnyH_take (i := 3) (oi := { dst := some 76, op := Op.binOp BinOp.neq 4 (Operand.tmp 73) (Operand.tmp 75) 4, type := 4, pos := "law.go:186", after := #[{ on := 0, ground := Ground.data }, { on := 2, ground := Ground.data }], guard := none }) (v := ?_) rfl (by kernel_rfl) (by kernel_rfl) (by kernel_rfl) (fun _ _ _ h => h) (.inl ⟨by rfl, fun W hS => ?_⟩) HS ?_
          rotate_left
          · obtain ⟨t0, -⟩ := hS
            go_simp
            try with_reducible rfl
          rotate_left
          try simp only [Act.put, List.setIfInBounds_toArray, List.set_cons_zero, List.set_cons_succ]
          refine wpAnyH_take (i := 4) (oi := { dst := some 77, op := Op.move (Operand.tmp 76), type := 4, pos := "law.go:186", after := #[{ on := 3, ground := Ground.data }], guard := none }) (v := ?_) rfl (by kernel_rfl) (by kernel_rfl) (by kernel_rfl) (fun _ _ _ h => h) (.inl ⟨by rfl, fun W hS => ?_⟩) HS ?_
          rotate_left
          · obtain ⟨t0, -⟩ := hS
            go_simp
            try with_reducible rfl
          rotate_left
          try simp only [Act.put, List.setIfInBounds_toArray, List.set_cons_zero, List.set_cons_succ]
          refine wpAnyH_take (i := 5) (oi := { dst := some 78, op := Op.move (Operand.tmp 12), type := 4, pos := "law.go:186", after := #[{ on := 4, ground := Ground.guard }], guard := some (4, false) }) (v := ?_) rfl (by kernel_rfl) (by kernel_rfl) (by kernel_rfl) (fun _ _ _ h => h) (.inl ⟨by rfl, fun W hS => ?_⟩) HS ?_
          rotate_left
          · obtain ⟨t0, -⟩ := hS
            go_simp
            try with_reducible rfl
          rotate_left
          try simp only [Act.put, List.setIfInBounds_toArray, List.set_cons_zero, List.set_cons_succ]
          refine wpAnyH_take (i := 6) (oi := { dst := some 79, op := Op.move (Operand.tmp 78), type := 4, pos := "law.go:186", after := #[{ on := 5, ground := Ground.data }, { on := 4, ground := Ground.chain }, { on := 4, ground := Ground.guard }], guard := some (4, false) }) (v := ?_) rfl (by kernel_rfl) (by kernel_rfl) (by kernel_rfl) (fun _ _ _ h => h) (.inl ⟨by rfl, fun W hS => ?_⟩) HS ?_
          rotate_left
          · obtain ⟨t0, -⟩ := hS
            go_simp
            try with_reducible rfl
          rotate_left
          try simp only [Act.put, List.setIfInBounds_toArray, List.set_cons_zero, List.set_cons_succ]
          refine wpAnyH_take (i := 7) (oi := { dst := some 80, op := Op.move (Operand.tmp 10), type := 22, pos := "law.go:186", after := #[{ on := 6, ground := Ground.guard }], guard := some (6, true) }) (v := ?_) rfl (by kernel_rfl) (by kernel_rfl) (by kernel_rfl) (fun _ _ _ h => h) (.inl ⟨by rfl, fun W hS => ?_⟩) HS ?_
          rotate_left
          · obtain ⟨t0, -⟩ := hS
            go_simp
            try with_reducible rfl
          rotate_left
          try simp only [Act.put, List.setIfInBounds_toArray, List.set_cons_zero, List.set_cons_succ]
          refine wpAnyH_take (i := 8) (oi := { dst := some 81, op := Op.convert 22 9 (Operand.tmp 80), type := 9, pos := "law.go:186", after := #[{ on := 7, ground := Ground.data }, { on := 6, ground := Ground.guard }], guard := some (6, true) }) (v := ?_) rfl (by kernel_rfl) (by kernel_rfl) (by kernel_rfl) (fun _ _ _ h => h) (.inl ⟨by rfl, fun W hS => ?_⟩) HS ?_
          rotate_left
          · obtain ⟨t0, -⟩ := hS
            go_simp
            try with_reducible rfl
          rotate_left
          try simp only [Act.put, List.setIfInBounds_toArray, List.set_cons_zero, List.set_cons_succ]
          refine wpAnyH_take (i := 9) (oi := { dst := some 82, op := Op.move (Operand.tmp 7), type := 22, pos := "law.go:186", after := #[{ on := 6, ground := Ground.guard }], guard := some (6, true) }) (v := ?_) rfl (by kernel_rfl) (by kernel_rfl) (by kernel_rfl) (fun _ _ _ h => h) (.inl ⟨by rfl, fun W hS => ?_⟩) HS ?_
          rotate_left
          · obtain ⟨t0, -⟩ := hS
            go_simp
            try with_reducible rfl
          rotate_left
          try simp only [Act.put, List.setIfInBounds_toArray, List.set_cons_zero, List.set_cons_succ]
          refine wpAnyH_take (i := 10) (oi := { dst := some 83, op := Op.convert 22 9 (Operand.tmp 82), type := 9, pos := "law.go:186", after := #[{ on := 9, ground := Ground.data }, { on := 6, ground := Ground.guard }], guard := some (6, true) }) (v := ?_) rfl (by kernel_rfl) (by kernel_rfl) (by kernel_rfl) (fun _ _ _ h => h) (.inl ⟨by rfl, fun W hS => ?_⟩) HS ?_
          rotate_left
          · obtain ⟨t0, -⟩ := hS
            go_simp
            try with_reducible rfl
          rotate_left
          try simp only [Act.put, List.setIfInBounds_toArray, List.set_cons_zero, List.set_cons_succ]
          refine wpAnyH_take (i := 11) (oi := { dst := some 84, op := Op.binOp BinOp.neq 9 (Operand.tmp 81) (Operand.tmp 83) 9, type := 4, pos := "law.go:186", after := #[{ on := 8, ground := Ground.data }, { on := 10, ground := Ground.data }, { on := 6, ground := Ground.guard }], guard := some (6, true) }) (v := ?_) rfl (by kernel_rfl) (by kernel_rfl) (by kernel_rfl) (fun _ _ _ h => h) (.inl ⟨by rfl, fun W hS => ?_⟩) HS ?_
          rotate_left
          · obtain ⟨t0, -⟩ := hS
            go_simp
            try with_reducible rfl
          rotate_left
          try simp only [Act.put, List.setIfInBounds_toArray, List.set_cons_zero, List.set_cons_succ]
          refine wpAnyH_take (i := 12) (oi := { dst := some 85, op := Op.pick (Operand.tmp 79) (Operand.tmp 84) (Operand.const (Value.bool false)), type := 4, pos := "law.go:186", after := #[{ on := 6, ground := Ground.data }, { on := 11, ground := Ground.data }, { on := 4, ground := Ground.guard }], guard := some (4, false) }) (v := ?_) rfl (by kernel_rfl) (by kernel_rfl) (by kernel_rfl) (fun _ _ _ h => h) (.inl ⟨by rfl, fun W hS => ?_⟩) HS ?_
          rotate_left
          · obtain ⟨t0, -⟩ := hS
            go_simp
            try with_reducible rfl
          rotate_left
          try simp only [Act.put, List.setIfInBounds_toArray, List.set_cons_zero, List.set_cons_succ]
          refine wpAnyH_take (i := 13) (oi := { dst := some 86, op := Op.pick (Operand.tmp 77) (Operand.const (Value.bool true)) (Operand.tmp 85), type := 4, pos := "law.go:186", after := #[{ on := 4, ground := Ground.data }, { on := 12, ground := Ground.data }], guard := none }) (v := ?_) rfl (by kernel_rfl) (by kernel_rfl) (by kernel_rfl) (fun _ _ _ h => h) (.inl ⟨by rfl, fun W hS => ?_⟩) HS ?_
          rotate_left
          · obtain ⟨t0, -⟩ := hS
            go_simp
            try with_reducible rfl
          rotate_left
          try simp only [Act.put, List.setIfInBounds_toArray, List.set_cons_zero, List.set_cons_succ]
          refine wpAnyH_take (i := 14) (oi := { dst := some 87, op := Op.move (Operand.tmp 86), type := 4, pos := "law.go:186", after := #[{ on := 13, ground := Ground.data }, { on := 6, ground := Ground.chain }], guard := none }) (v := ?_) rfl (by kernel_rfl) (by kernel_rfl) (by kernel_rfl) (fun _ _ _ h => h) (.inl ⟨by rfl, fun W hS => ?_⟩) HS ?_
          rotate_left
          · obtain ⟨t0, -⟩ := hS
            go_simp
            try with_reducible rfl
          rotate_left
          try simp only [Act.put, List.setIfInBounds_toArray, List.set_cons_zero, List.set_cons_succ]
          refine wpAnyH_take (i := 15) (oi := { dst := some 88, op := Op.move (Operand.tmp 12), type := 4, pos := "law.go:186", after := #[{ on := 14, ground := Ground.guard }], guard := some (14, false) }) (v := ?_) rfl (by kernel_rfl) (by kernel_rfl) (by kernel_rfl) (fun _ _ _ h => h) (.inl ⟨by rfl, fun W hS => ?_⟩) HS ?_
          rotate_left
          · obtain ⟨t0, -⟩ := hS
            go_simp
            try with_reducible rfl
          rotate_left
          try simp only [Act.put, List.setIfInBounds_toArray, List.set_cons_zero, List.set_cons_succ]
          refine wpAnyH_take (i := 16) (oi := { dst := some 89, op := Op.unOp UnOp.not 4 (Operand.tmp 88), type := 4, pos := "law.go:186", after := #[{ on := 15, ground := Ground.data }, { on := 14, ground := Ground.guard }], guard := some (14, false) }) (v := ?_) rfl (by kernel_rfl) (by kernel_rfl) (by kernel_rfl) (fun _ _ _ h => h) (.inl ⟨by rfl, fun W hS => ?_⟩) HS ?_
          rotate_left
          · obtain ⟨t0, -⟩ := hS
            go_simp
            try with_reducible rfl
          rotate_left
          try simp only [Act.put, List.setIfInBounds_toArray, List.set_cons_zero, List.set_cons_succ]
          refine wpAnyH_take (i := 17) (oi := { dst := some 90, op := Op.move (Operand.tmp 89), type := 4, pos := "law.go:186", after := #[{ on := 16, ground := Ground.data }, { on := 14, ground := Ground.chain }, { on := 14, ground := Ground.guard }], guard := some (14, false) }) (v := ?_) rfl (by kernel_rfl) (by kernel_rfl) (by kernel_rfl) (fun _ _ _ h => h) (.inl ⟨by rfl, fun W hS => ?_⟩) HS ?_
          rotate_left
          · obtain ⟨t0, -⟩ := hS
            go_simp
            try with_reducible rfl
          rotate_left
          try simp only [Act.put, List.setIfInBounds_toArray, List.set_cons_zero, List.set_cons_succ]
          refine wpAnyH_take (i := 18) (oi := { dst := some 91, op := Op.move (Operand.tmp 10), type := 22, pos := "law.go:186", after := #[{ on := 17, ground := Ground.guard }], guard := some (17, true) }) (v := undef) rfl (by kernel_rfl) (by kernel_rfl) (by kernel_rfl) (fun _ _ _ h => h) (.inr ⟨by rfl, rfl⟩) HS ?_
          try simp only [Act.put, List.setIfInBounds_toArray, List.set_cons_zero, List.set_cons_succ]
          refine wpAnyH_take (i := 19) (oi := { dst := some 92, op := Op.convert 22 9 (Operand.tmp 91), type := 9, pos := "law.go:186", after := #[{ on := 18, ground := Ground.data }, { on := 17, ground := Ground.guard }], guard := some (17, true) }) (v := undef) rfl (by kernel_rfl) (by kernel_rfl) (by kernel_rfl) (fun _ _ _ h => h) (.inr ⟨by rfl, rfl⟩) HS ?_
          try simp only [Act.put, List.setIfInBounds_toArray, List.set_cons_zero, List.set_cons_succ]
          refine wpAnyH_take (i := 20) (oi := { dst := some 93, op := Op.move (Operand.tmp 7), type := 22, pos := "law.go:186", after := #[{ on := 17, ground := Ground.guard }], guard := some (17, true) }) (v := undef) rfl (by kernel_rfl) (by kernel_rfl) (by kernel_rfl) (fun _ _ _ h => h) (.inr ⟨by rfl, rfl⟩) HS ?_
          try simp only [Act.put, List.setIfInBounds_toArray, List.set_cons_zero, List.set_cons_succ]
          refine wpAnyH_take (i := 21) (oi := { dst := some 94, op := Op.convert 22 9 (Operand.tmp 93), type := 9, pos := "law.go:186", after := #[{ on := 20, ground := Ground.data }, { on := 17, ground := Ground.guard }], guard := some (17, true) }) (v := undef) rfl (by kernel_rfl) (by kernel_rfl) (by kernel_rfl) (fun _ _ _ h => h) (.inr ⟨by rfl, rfl⟩) HS ?_
          try simp only [Act.put, List.setIfInBounds_toArray, List.set_cons_zero, List.set_cons_succ]
          refine wpAnyH_take (i := 22) (oi := { dst := some 95, op := Op.move (Operand.tmp 1), type := 30, pos := "law.go:186", after := #[{ on := 17, ground := Ground.guard }], guard := some (17, true) }) (v := undef) rfl (by kernel_rfl) (by kernel_rfl) (by kernel_rfl) (fun _ _ _ h => h) (.inr ⟨by rfl, rfl⟩) HS ?_
          try simp only [Act.put, List.setIfInBounds_toArray, List.set_cons_zero, List.set_cons_succ]
          refine wpAnyH_take (i := 23) (oi := { dst := some 96, op := Op.move (Operand.tmp 6), type := 3, pos := "law.go:186", after := #[{ on := 17, ground := Ground.guard }], guard := some (17, true) }) (v := undef) rfl (by kernel_rfl) (by kernel_rfl) (by kernel_rfl) (fun _ _ _ h => h) (.inr ⟨by rfl, rfl⟩) HS ?_
          try simp only [Act.put, List.setIfInBounds_toArray, List.set_cons_zero, List.set_cons_succ]
          refine wpAnyH_take (i := 24) (oi := { dst := some 97, op := Op.indexAddr 30 (Operand.tmp 95) (Operand.tmp 96), type := 0, pos := "law.go:186", after := #[{ on := 22, ground := Ground.data }, { on := 23, ground := Ground.data }, { on := 17, ground := Ground.guard }], guard := some (17, true) }) (v := undef) rfl (by kernel_rfl) (by kernel_rfl) (by kernel_rfl) (fun _ _ _ h => h) (.inr ⟨by rfl, rfl⟩) HS ?_
          try simp only [Act.put, List.setIfInBounds_toArray, List.set_cons_zero, List.set_cons_succ]
          refine wpAnyH_take (i := 25) (oi := { dst := some 98, op := Op.load 22 (Operand.tmp 97), type := 22, pos := "law.go:186", after := #[{ on := 24, ground := Ground.data }, { on := 17, ground := Ground.guard }], guard := some (17, true) }) (v := undef) rfl (by kernel_rfl) (by kernel_rfl) (by kernel_rfl) (fun _ _ _ h => h) (.inr ⟨by rfl, rfl⟩) HS ?_
          try simp only [Act.put, List.setIfInBounds_toArray, List.set_cons_zero, List.set_cons_succ]
          refine wpAnyH_take (i := 26) (oi := { dst := some 99, op := Op.convert 22 9 (Operand.tmp 98), type := 9, pos := "law.go:186", after := #[{ on := 25, ground := Ground.data }, { on := 17, ground := Ground.guard }], guard := some (17, true) }) (v := undef) rfl (by kernel_rfl) (by kernel_rfl) (by kernel_rfl) (fun _ _ _ h => h) (.inr ⟨by rfl, rfl⟩) HS ?_
          try simp only [Act.put, List.setIfInBounds_toArray, List.set_cons_zero, List.set_cons_succ]
          refine wpAnyH_take (i := 27) (oi := { dst := some 100, op := Op.binOp BinOp.add 9 (Operand.tmp 94) (Operand.tmp 99) 9, type := 9, pos := "law.go:186", after := #[{ on := 21, ground := Ground.data }, { on := 26, ground := Ground.data }, { on := 17, ground := Ground.guard }], guard := some (17, true) }) (v := undef) rfl (by kernel_rfl) (by kernel_rfl) (by kernel_rfl) (fun _ _ _ h => h) (.inr ⟨by rfl, rfl⟩) HS ?_
          try simp only [Act.put, List.setIfInBounds_toArray, List.set_cons_zero, List.set_cons_succ]
          refine wpAnyH_take (i := 28) (oi := { dst := some 101, op := Op.binOp BinOp.neq 9 (Operand.tmp 92) (Operand.tmp 100) 9, type := 4, pos := "law.go:186", after := #[{ on := 19, ground := Ground.data }, { on := 27, ground := Ground.data }, { on := 17, ground := Ground.guard }], guard := some (17, true) }) (v := undef) rfl (by kernel_rfl) (by kernel_rfl) (by kernel_rfl) (fun _ _ _ h => h) (.inr ⟨by rfl, rfl⟩) HS ?_
          try simp only [Act.put, List.setIfInBounds_toArray, List.set_cons_zero, List.set_cons_succ]
          refine wpAnyH_take (i := 29) (oi := { dst := some 102, op := Op.pick (Operand.tmp 90) (Operand.tmp 101) (Operand.const (Value.bool false)), type := 4, pos := "law.go:186", after := #[{ on := 17, ground := Ground.data }, { on := 28, ground := Ground.data }, { on := 14, ground := Ground.guard }], guard := some (14, false) }) (v := ?_) rfl (by kernel_rfl) (by kernel_rfl) (by kernel_rfl) (fun _ _ _ h => h) (.inl ⟨by rfl, fun W hS => ?_⟩) HS ?_
          rotate_left
          · obtain ⟨t0, -⟩ := hS
            go_simp
            try with_reducible rfl
          rotate_left
          try simp only [Act.put, List.setIfInBounds_toArray, List.set_cons_zero, List.set_cons_succ]
          refine wpAnyH_take (i := 30) (oi := { dst := some 103, op := Op.pick (Operand.tmp 87) (Operand.const (Value.bool true)) (Operand.tmp 102), type := 4, pos := "law.go:186", after := #[{ on := 14, ground := Ground.data }, { on := 29, ground := Ground.data }], guard := none }) (v := ?_) rfl (by kernel_rfl) (by kernel_rfl) (by kernel_rfl) (fun _ _ _ h => h) (.inl ⟨by rfl, fun W hS => ?_⟩) HS ?_
          rotate_left
          · obtain ⟨t0, -⟩ := hS
            go_simp
            try with_reducible rfl
          rotate_left
          try simp only [Act.put, List.setIfInBounds_toArray, List.set_cons_zero, List.set_cons_succ]
          refine wpAnyH_done (by kernel_rfl) ?_ _
          go_wp2_with fail
          exact ⟨⟨k + 1, b, by go_num, hD4.kept (Kept.refl _ _).drew, by omega⟩, by simp [intOf]; omega⟩
        · have c3 := dappend_d hD2 _ _ _ _ _ hX2 (by omega)
          rw [show dAppend ⟨R, b, 0, false, false⟩ x = (0, ⟨R, b ++ x, 0, false, false⟩) by simp [dAppend, dWrite]; omega] at c3
          go_wp2_with (first | (go_at_call 49; (with_reducible refine c3.mono ?_); rintro e w3 ⟨rfl, hD3, hK3⟩))
          have c4 := dread_d hD3
          rw [show dRead ⟨R, b ++ x, 0, false, false⟩ = (b ++ x, 0) from rfl] at c4
          have hc3 := hD3.k.cell hc (fun h => h)
          go_wp2_with (first | (go_at_call 48; (with_reducible refine c4.mono ?_); rintro e w4 ⟨a4, n4, c4, rfl, hO4, hD4, hK4⟩; have hc4 := hD4.k.cell hc (fun h => h); have hl4 := hO4.len; rw [List.length_append] at hl4))
          have T12 : decide ((R : Int) < (n2 : Int) + (ni : Int)) = false := by simp only [decide_eq_false_iff_not]; omega
          have r2 := fun W (hK : Kept w4 W nix) => strBy ((hO2.sl.kept hK3 (fun k hk e => by have e' : k = g := e; have := hk.1; omega)).kept (hK4.n hK) (fun _ _ => id))
          have r4 := fun W (hK : Kept w4 W nix) => strBy (hO4.sl.kept hK (fun _ _ => id))
          have rx := fun W (hK : Kept w4 W nix) => strBy (hX.kept (hD4.k.n hK) (fun _ _ => id))
          have l2 : ¬ 9223372036854775807 < n2 + ni := by omega
          have hcW := fun W (hK : Kept w4 W nix) => hK.cell hc4 (fun h => h)
          have hR4 : n4 ≤ R := by omega
          go_wp2_with fail
          have s0_0 : Kept w4 w4.drew nix := (Kept.refl _ _).drew
          refine wp_region_held (S := fun W => Kept w4 W nix ∧ True) (by kernel_rfl) ?_
          have HS : Kept w4 w4.drew nix ∧ True := ⟨s0_0, trivial⟩
          show wpAnyH _ _ _ _ _ _ _ _ w4.drew
          refine wpAnyH_take (i := 0) (oi := { dst := some 73, op := Op.move (Operand.tmp 12), type := 4, pos := "law.go:186", after := #[], guard := none }) (v := ?_) rfl (by kernel_rfl) (by kernel_rfl) (by kernel_rfl) (fun _ _ _ h => h) (.inl ⟨by rfl, fun W hS => ?_⟩) HS ?_
          rotate_left
          · obtain ⟨t0, -⟩ := hS
            go_simp
            try with_reducible rfl
          rotate_left
          try simp only [Act.put, List.setIfInBounds_toArray, List.set_cons_zero, List.set_cons_succ]
          refine wpAnyH_take (i := 1) (oi := { dst := some 74, op := Op.move (Operand.tmp 9), type := 44, pos := "law.go:186", after := #[], guard := none }) (v := ?_) rfl (by kernel_rfl) (by kernel_rfl) (by kernel_rfl) (fun _ _ _ h => h) (.inl ⟨by rfl, fun W hS => ?_⟩) HS ?_
          rotate_left
          · obtain ⟨t0, -⟩ := hS
            go_simp
            try with_reducible rfl
          rotate_left
          try simp only [Act.put, List.setIfInBounds_toArray, List.set_cons_zero, List.set_cons_succ]
          refine wpAnyH_take (i := 2) (oi := { dst := some 75, op := Op.binOp BinOp.eql 44 (Operand.tmp 74) (Operand.const (Value.int IntKind.i64 5)) 44, type := 4, pos := "law.go:186", after := #[{ on := 1, ground := Ground.data }], guard := none }) (v := ?_) rfl (by kernel_rfl) (by kernel_rfl) (by kernel_rfl) (fun _ _ _ h => h) (.inl ⟨by rfl, fun W hS => ?_⟩) HS ?_
          rotate_left
          · obtain ⟨t0, -⟩ := hS
            go_simp
            try with_reducible rfl
          rotate_left
          try simp only [Act.put, List.setIfInBounds_toArray, List.set_cons_zero, List.set_cons_succ]
          refine wpAnyH_take (i := 3) (oi := { dst := some 76, op := Op.binOp BinOp.neq 4 (Operand.tmp 73) (Operand.tmp 75) 4, type := 4, pos := "law.go:186", after := #[{ on := 0, ground := Ground.data }, { on := 2, ground := Ground.data }], guard := none }) (v := ?_) rfl (by kernel_rfl) (by kernel_rfl) (by kernel_rfl) (fun _ _ _ h => h) (.inl ⟨by rfl, fun W hS => ?_⟩) HS ?_
          rotate_left
          · obtain ⟨t0, -⟩ := hS
            go_simp
            try with_reducible rfl
          rotate_left
          try simp only [Act.put, List.setIfInBounds_toArray, List.set_cons_zero, List.set_cons_succ]
          refine wpAnyH_take (i := 4) (oi := { dst := some 77, op := Op.move (Operand.tmp 76), type := 4, pos := "law.go:186", after := #[{ on := 3, ground := Ground.data }], guard := none }) (v := ?_) rfl (by kernel_rfl) (by kernel_rfl) (by kernel_rfl) (fun _ _ _ h => h) (.inl ⟨by rfl, fun W hS => ?_⟩) HS ?_
          rotate_left
          · obtain ⟨t0, -⟩ := hS
            go_simp
            try with_reducible rfl
          rotate_left
          try simp only [Act.put, List.setIfInBounds_toArray, List.set_cons_zero, List.set_cons_succ]
          refine wpAnyH_take (i := 5) (oi := { dst := some 78, op := Op.move (Operand.tmp 12), type := 4, pos := "law.go:186", after := #[{ on := 4, ground := Ground.guard }], guard := some (4, false) }) (v := ?_) rfl (by kernel_rfl) (by kernel_rfl) (by kernel_rfl) (fun _ _ _ h => h) (.inl ⟨by rfl, fun W hS => ?_⟩) HS ?_
          rotate_left
          · obtain ⟨t0, -⟩ := hS
            go_simp
            try with_reducible rfl
          rotate_left
          try simp only [Act.put, List.setIfInBounds_toArray, List.set_cons_zero, List.set_cons_succ]
          refine wpAnyH_take (i := 6) (oi := { dst := some 79, op := Op.move (Operand.tmp 78), type := 4, pos := "law.go:186", after := #[{ on := 5, ground := Ground.data }, { on := 4, ground := Ground.chain }, { on := 4, ground := Ground.guard }], guard := some (4, false) }) (v := ?_) rfl (by kernel_rfl) (by kernel_rfl) (by kernel_rfl) (fun _ _ _ h => h) (.inl ⟨by rfl, fun W hS => ?_⟩) HS ?_
          rotate_left
          · obtain ⟨t0, -⟩ := hS
            go_simp
            try with_reducible rfl
          rotate_left
          try simp only [Act.put, List.setIfInBounds_toArray, List.set_cons_zero, List.set_cons_succ]
          refine wpAnyH_take (i := 7) (oi := { dst := some 80, op := Op.move (Operand.tmp 10), type := 22, pos := "law.go:186", after := #[{ on := 6, ground := Ground.guard }], guard := some (6, true) }) (v := undef) rfl (by kernel_rfl) (by kernel_rfl) (by kernel_rfl) (fun _ _ _ h => h) (.inr ⟨by rfl, rfl⟩) HS ?_
          try simp only [Act.put, List.setIfInBounds_toArray, List.set_cons_zero, List.set_cons_succ]
          refine wpAnyH_take (i := 8) (oi := { dst := some 81, op := Op.convert 22 9 (Operand.tmp 80), type := 9, pos := "law.go:186", after := #[{ on := 7, ground := Ground.data }, { on := 6, ground := Ground.guard }], guard := some (6, true) }) (v := undef) rfl (by kernel_rfl) (by kernel_rfl) (by kernel_rfl) (fun _ _ _ h => h) (.inr ⟨by rfl, rfl⟩) HS ?_
          try simp only [Act.put, List.setIfInBounds_toArray, List.set_cons_zero, List.set_cons_succ]
          refine wpAnyH_take (i := 9) (oi := { dst := some 82, op := Op.move (Operand.tmp 7), type := 22, pos := "law.go:186", after := #[{ on := 6, ground := Ground.guard }], guard := some (6, true) }) (v := undef) rfl (by kernel_rfl) (by kernel_rfl) (by kernel_rfl) (fun _ _ _ h => h) (.inr ⟨by rfl, rfl⟩) HS ?_
          try simp only [Act.put, List.setIfInBounds_toArray, List.set_cons_zero, List.set_cons_succ]
          refine wpAnyH_take (i := 10) (oi := { dst := some 83, op := Op.convert 22 9 (Operand.tmp 82), type := 9, pos := "law.go:186", after := #[{ on := 9, ground := Ground.data }, { on := 6, ground := Ground.guard }], guard := some (6, true) }) (v := undef) rfl (by kernel_rfl) (by kernel_rfl) (by kernel_rfl) (fun _ _ _ h => h) (.inr ⟨by rfl, rfl⟩) HS ?_
          try simp only [Act.put, List.setIfInBounds_toArray, List.set_cons_zero, List.set_cons_succ]
          refine wpAnyH_take (i := 11) (oi := { dst := some 84, op := Op.binOp BinOp.neq 9 (Operand.tmp 81) (Operand.tmp 83) 9, type := 4, pos := "law.go:186", after := #[{ on := 8, ground := Ground.data }, { on := 10, ground := Ground.data }, { on := 6, ground := Ground.guard }], guard := some (6, true) }) (v := undef) rfl (by kernel_rfl) (by kernel_rfl) (by kernel_rfl) (fun _ _ _ h => h) (.inr ⟨by rfl, rfl⟩) HS ?_
          try simp only [Act.put, List.setIfInBounds_toArray, List.set_cons_zero, List.set_cons_succ]
          refine wpAnyH_take (i := 12) (oi := { dst := some 85, op := Op.pick (Operand.tmp 79) (Operand.tmp 84) (Operand.const (Value.bool false)), type := 4, pos := "law.go:186", after := #[{ on := 6, ground := Ground.data }, { on := 11, ground := Ground.data }, { on := 4, ground := Ground.guard }], guard := some (4, false) }) (v := ?_) rfl (by kernel_rfl) (by kernel_rfl) (by kernel_rfl) (fun _ _ _ h => h) (.inl ⟨by rfl, fun W hS => ?_⟩) HS ?_
          rotate_left
          · obtain ⟨t0, -⟩ := hS
            go_simp
            try with_reducible rfl
          rotate_left
          try simp only [Act.put, List.setIfInBounds_toArray, List.set_cons_zero, List.set_cons_succ]
          refine wpAnyH_take (i := 13) (oi := { dst := some 86, op := Op.pick (Operand.tmp 77) (Operand.const (Value.bool true)) (Operand.tmp 85), type := 4, pos := "law.go:186", after := #[{ on := 4, ground := Ground.data }, { on := 12, ground := Ground.data }], guard := none }) (v := ?_) rfl (by kernel_rfl) (by kernel_rfl) (by kernel_rfl) (fun _ _ _ h => h) (.inl ⟨by rfl, fun W hS => ?_⟩) HS ?_
          rotate_left
          · obtain ⟨t0, -⟩ := hS
            go_simp
            try with_reducible rfl
          rotate_left
          try simp only [Act.put, List.setIfInBounds_toArray, List.set_cons_zero, List.set_cons_succ]
          refine wpAnyH_take (i := 14) (oi := { dst := some 87, op := Op.move (Operand.tmp 86), type := 4, pos := "law.go:186", after := #[{ on := 13, ground := Ground.data }, { on := 6, ground := Ground.chain }], guard := none }) (v := ?_) rfl (by kernel_rfl) (by kernel_rfl) (by kernel_rfl) (fun _ _ _ h => h) (.inl ⟨by rfl, fun W hS => ?_⟩) HS ?_
          rotate_left
          · obtain ⟨t0, -⟩ := hS
            go_simp
            try with_reducible rfl
          rotate_left
          try simp only [Act.put, List.setIfInBounds_toArray, List.set_cons_zero, List.set_cons_succ]
          refine wpAnyH_take (i := 15) (oi := { dst := some 88, op := Op.move (Operand.tmp 12), type := 4, pos := "law.go:186", after := #[{ on := 14, ground := Ground.guard }], guard := some (14, false) }) (v := ?_) rfl (by kernel_rfl) (by kernel_rfl) (by kernel_rfl) (fun _ _ _ h => h) (.inl ⟨by rfl, fun W hS => ?_⟩) HS ?_
          rotate_left
          · obtain ⟨t0, -⟩ := hS
            go_simp
            try with_reducible rfl
          rotate_left
          try simp only [Act.put, List.setIfInBounds_toArray, List.set_cons_zero, List.set_cons_succ]
          refine wpAnyH_take (i := 16) (oi := { dst := some 89, op := Op.unOp UnOp.not 4 (Operand.tmp 88), type := 4, pos := "law.go:186", after := #[{ on := 15, ground := Ground.data }, { on := 14, ground := Ground.guard }], guard := some (14, false) }) (v := ?_) rfl (by kernel_rfl) (by kernel_rfl) (by kernel_rfl) (fun _ _ _ h => h) (.inl ⟨by rfl, fun W hS => ?_⟩) HS ?_
          rotate_left
          · obtain ⟨t0, -⟩ := hS
            go_simp
            try with_reducible rfl
          rotate_left
          try simp only [Act.put, List.setIfInBounds_toArray, List.set_cons_zero, List.set_cons_succ]
          refine wpAnyH_take (i := 17) (oi := { dst := some 90, op := Op.move (Operand.tmp 89), type := 4, pos := "law.go:186", after := #[{ on := 16, ground := Ground.data }, { on := 14, ground := Ground.chain }, { on := 14, ground := Ground.guard }], guard := some (14, false) }) (v := ?_) rfl (by kernel_rfl) (by kernel_rfl) (by kernel_rfl) (fun _ _ _ h => h) (.inl ⟨by rfl, fun W hS => ?_⟩) HS ?_
          rotate_left
          · obtain ⟨t0, -⟩ := hS
            go_simp
            try with_reducible rfl
          rotate_left
          try simp only [Act.put, List.setIfInBounds_toArray, List.set_cons_zero, List.set_cons_succ]
          refine wpAnyH_take (i := 18) (oi := { dst := some 91, op := Op.move (Operand.tmp 10), type := 22, pos := "law.go:186", after := #[{ on := 17, ground := Ground.guard }], guard := some (17, true) }) (v := ?_) rfl (by kernel_rfl) (by kernel_rfl) (by kernel_rfl) (fun _ _ _ h => h) (.inl ⟨by rfl, fun W hS => ?_⟩) HS ?_
          rotate_left
          · obtain ⟨t0, -⟩ := hS
            go_simp
            try with_reducible rfl
          rotate_left
          try simp only [Act.put, List.setIfInBounds_toArray, List.set_cons_zero, List.set_cons_succ]
          refine wpAnyH_take (i := 19) (oi := { dst := some 92, op := Op.convert 22 9 (Operand.tmp 91), type := 9, pos := "law.go:186", after := #[{ on := 18, ground := Ground.data }, { on := 17, ground := Ground.guard }], guard := some (17, true) }) (v := ?_) rfl (by kernel_rfl) (by kernel_rfl) (by kernel_rfl) (fun _ _ _ h => h) (.inl ⟨by rfl, fun W hS => ?_⟩) HS ?_
          rotate_left
          · obtain ⟨t0, -⟩ := hS
            go_simp
            try with_reducible rfl
          rotate_left
          try simp only [Act.put, List.setIfInBounds_toArray, List.set_cons_zero, List.set_cons_succ]
          refine wpAnyH_take (i := 20) (oi := { dst := some 93, op := Op.move (Operand.tmp 7), type := 22, pos := "law.go:186", after := #[{ on := 17, ground := Ground.guard }], guard := some (17, true) }) (v := ?_) rfl (by kernel_rfl) (by kernel_rfl) (by kernel_rfl) (fun _ _ _ h => h) (.inl ⟨by rfl, fun W hS => ?_⟩) HS ?_
          rotate_left
          · obtain ⟨t0, -⟩ := hS
            go_simp
            try with_reducible rfl
          rotate_left
          try simp only [Act.put, List.setIfInBounds_toArray, List.set_cons_zero, List.set_cons_succ]
          refine wpAnyH_take (i := 21) (oi := { dst := some 94, op := Op.convert 22 9 (Operand.tmp 93), type := 9, pos := "law.go:186", after := #[{ on := 20, ground := Ground.data }, { on := 17, ground := Ground.guard }], guard := some (17, true) }) (v := ?_) rfl (by kernel_rfl) (by kernel_rfl) (by kernel_rfl) (fun _ _ _ h => h) (.inl ⟨by rfl, fun W hS => ?_⟩) HS ?_
          rotate_left
          · obtain ⟨t0, -⟩ := hS
            go_simp
            try with_reducible rfl
          rotate_left
          try simp only [Act.put, List.setIfInBounds_toArray, List.set_cons_zero, List.set_cons_succ]
          refine wpAnyH_take (i := 22) (oi := { dst := some 95, op := Op.move (Operand.tmp 1), type := 30, pos := "law.go:186", after := #[{ on := 17, ground := Ground.guard }], guard := some (17, true) }) (v := ?_) rfl (by kernel_rfl) (by kernel_rfl) (by kernel_rfl) (fun _ _ _ h => h) (.inl ⟨by rfl, fun W hS => ?_⟩) HS ?_
          rotate_left
          · obtain ⟨t0, -⟩ := hS
            go_simp
            try with_reducible rfl
          rotate_left
          try simp only [Act.put, List.setIfInBounds_toArray, List.set_cons_zero, List.set_cons_succ]
          refine wpAnyH_take (i := 23) (oi := { dst := some 96, op := Op.move (Operand.tmp 6), type := 3, pos := "law.go:186", after := #[{ on := 17, ground := Ground.guard }], guard := some (17, true) }) (v := ?_) rfl (by kernel_rfl) (by kernel_rfl) (by kernel_rfl) (fun _ _ _ h => h) (.inl ⟨by rfl, fun W hS => ?_⟩) HS ?_
          rotate_left
          · obtain ⟨t0, -⟩ := hS
            go_simp
            try with_reducible rfl
          rotate_left
          try simp only [Act.put, List.setIfInBounds_toArray, List.set_cons_zero, List.set_cons_succ]
          refine wpAnyH_take (i := 24) (oi := { dst := some 97, op := Op.indexAddr 30 (Operand.tmp 95) (Operand.tmp 96), type := 0, pos := "law.go:186", after := #[{ on := 22, ground := Ground.data }, { on := 23, ground := Ground.data }, { on := 17, ground := Ground.guard }], guard := some (17, true) }) (v := ?_) rfl (by kernel_rfl) (by kernel_rfl) (by kernel_rfl) (fun _ _ _ h => h) (.inl ⟨by rfl, fun W hS => ?_⟩) HS ?_
          rotate_left
          · obtain ⟨t0, -⟩ := hS
            go_simp
            try with_reducible rfl
          rotate_left
          try simp only [Act.put, List.setIfInBounds_toArray, List.set_cons_zero, List.set_cons_succ]
          refine wpAnyH_take (i := 25) (oi := { dst := some 98, op := Op.load 22 (Operand.tmp 97), type := 22, pos := "law.go:186", after := #[{ on := 24, ground := Ground.data }, { on := 17, ground := Ground.guard }], guard := some (17, true) }) (v := ?_) rfl (by kernel_rfl) (by kernel_rfl) (by kernel_rfl) (fun _ _ _ h => h) (.inl ⟨by rfl, fun W hS => ?_⟩) HS ?_
          rotate_left
          · obtain ⟨t0, -⟩ := hS
            go_simp
            try with_reducible rfl
          rotate_left
          try simp only [Act.put, List.setIfInBounds_toArray, List.set_cons_zero, List.set_cons_succ]
          refine wpAnyH_take (i := 26) (oi := { dst := some 99, op := Op.convert 22 9 (Operand.tmp 98), type := 9, pos := "law.go:186", after := #[{ on := 25, ground := Ground.data }, { on := 17, ground := Ground.guard }], guard := some (17, true) }) (v := ?_) rfl (by kernel_rfl) (by kernel_rfl) (by kernel_rfl) (fun _ _ _ h => h) (.inl ⟨by rfl, fun W hS => ?_⟩) HS ?_
          rotate_left
          · obtain ⟨t0, -⟩ := hS
            go_simp
            try with_reducible rfl
          rotate_left
          try simp only [Act.put, List.setIfInBounds_toArray, List.set_cons_zero, List.set_cons_succ]
          refine wpAnyH_take (i := 27) (oi := { dst := some 100, op := Op.binOp BinOp.add 9 (Operand.tmp 94) (Operand.tmp 99) 9, type := 9, pos := "law.go:186", after := #[{ on := 21, ground := Ground.data }, { on := 26, ground := Ground.data }, { on := 17, ground := Ground.guard }], guard := some (17, true) }) (v := ?_) rfl (by kernel_rfl) (by kernel_rfl) (by kernel_rfl) (fun _ _ _ h => h) (.inl ⟨by rfl, fun W hS => ?_⟩) HS ?_
          rotate_left
          · obtain ⟨t0, -⟩ := hS
            go_simp
            try with_reducible rfl
          rotate_left
          try simp only [Act.put, List.setIfInBounds_toArray, List.set_cons_zero, List.set_cons_succ]
          refine wpAnyH_take (i := 28) (oi := { dst := some 101, op := Op.binOp BinOp.neq 9 (Operand.tmp 92) (Operand.tmp 100) 9, type := 4, pos := "law.go:186", after := #[{ on := 19, ground := Ground.data }, { on := 27, ground := Ground.data }, { on := 17, ground := Ground.guard }], guard := some (17, true) }) (v := ?_) rfl (by kernel_rfl) (by kernel_rfl) (by kernel_rfl) (fun _ _ _ h => h) (.inl ⟨by rfl, fun W hS => ?_⟩) HS ?_
          rotate_left
          · obtain ⟨t0, -⟩ := hS
            go_simp
            try with_reducible rfl
          rotate_left
          try simp only [Act.put, List.setIfInBounds_toArray, List.set_cons_zero, List.set_cons_succ]
          refine wpAnyH_take (i := 29) (oi := { dst := some 102, op := Op.pick (Operand.tmp 90) (Operand.tmp 101) (Operand.const (Value.bool false)), type := 4, pos := "law.go:186", after := #[{ on := 17, ground := Ground.data }, { on := 28, ground := Ground.data }, { on := 14, ground := Ground.guard }], guard := some (14, false) }) (v := ?_) rfl (by kernel_rfl) (by kernel_rfl) (by kernel_rfl) (fun _ _ _ h => h) (.inl ⟨by rfl, fun W hS => ?_⟩) HS ?_
          rotate_left
          · obtain ⟨t0, -⟩ := hS
            go_simp
            try with_reducible rfl
          rotate_left
          try simp only [Act.put, List.setIfInBounds_toArray, List.set_cons_zero, List.set_cons_succ]
          refine wpAnyH_take (i := 30) (oi := { dst := some 103, op := Op.pick (Operand.tmp 87) (Operand.const (Value.bool true)) (Operand.tmp 102), type := 4, pos := "law.go:186", after := #[{ on := 14, ground := Ground.data }, { on := 29, ground := Ground.data }], guard := none }) (v := ?_) rfl (by kernel_rfl) (by kernel_rfl) (by kernel_rfl) (fun _ _ _ h => h) (.inl ⟨by rfl, fun W hS => ?_⟩) HS ?_
          rotate_left
          · obtain ⟨t0, -⟩ := hS
            go_simp
            try with_reducible rfl
          rotate_left
          try simp only [Act.put, List.setIfInBounds_toArray, List.set_cons_zero, List.set_cons_succ]
          refine wpAnyH_done (by kernel_rfl) ?_ _
          go_wp2_with fail
          exact ⟨⟨k + 1, b ++ x, by go_num, hD4.kept (Kept.refl _ _).drew, by omega⟩, by simp [intOf]; omega⟩
    · go_wp2_with (first | (go_at_call 47; refine (awake8_c _).mono ?_; rintro e w2 ⟨rfl, hK2⟩))
      all_goals
        go_ret
        exact ⟨rfl, hD.k.n hK2⟩
end Go.Proofs.Ytlhlljjchggnjaa
