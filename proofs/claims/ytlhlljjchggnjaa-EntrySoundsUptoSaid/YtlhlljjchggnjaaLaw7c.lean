/- EntryDecodes: the walk. -/
import Derived.Test.YtlhlljjchggnjaaLaw7b
namespace Go.Proofs.Ytlhlljjchggnjaa
open Go.RowKit

theorem recOk_mem {r : Rc} (h : recOk r = true) : r.conf.members.length ≤ 16 := by
  simp only [recOk, cnfOk, Bool.and_eq_true, inB_iff, decide_eq_true_eq] at h
  exact h.1.1.1.1.2.1.2
theorem rcZ (w : World) : ShRc.R w (fun _ => True) Rc.zero (recCs Rc.zero none 0 0 none 0 0) :=
  ⟨none, 0, 0, none, 0, 0, rfl, Sh.Sl.nil _ _ _, by unfold maxB; omega, Sh.Sl.nil _ _ _, by unfold maxB; omega, by simp [Rc.zero, i64p], by simp [Rc.zero, Cnf.zero, i64p], by simp [Rc.zero, i64p], by simp [Rc.zero, i64p]⟩
theorem rcZ_len : (recB Rc.zero).length ≤ 1000 := by
  rw [recB_eq]
  simp only [List.length_append]
  have h3 := numsB_len (recNums Rc.zero)
  have h4 : (recNums Rc.zero).length = 5 := rfl
  have h5 := numsB_len Rc.zero.conf.members
  have h5b : Rc.zero.conf.members.length = 0 := rfl
  have h6 := numB_len (Rc.zero.entries.length : Int)
  have h7 : (entsB Rc.zero.entries).length = 0 := rfl
  omega
set_option maxRecDepth 100000 in
set_option maxHeartbeats 8000000 in
theorem entrydecodes_c (w : World) (F : Nat → Prop) (a : Option Addr) (n c : Nat) (bs : List UInt8) (h : By.Sl w F a n c bs) (hn : n ≤ maxB) :
    Calls Try.prog 14 #[.slice a n c] w fun e w' => e = .returned (.bool true) ∧ Kept w w' nix := by
  have ka := fun W => awake7_c W
  have hcap := h.2.1
  obtain ⟨n', bs', hn', h', hcase⟩ : ∃ n' bs', n' ≤ 3000 ∧ By.Sl w F a n' c bs' ∧ ((3000 < n ∧ n' = 3000) ∨ (¬ 3000 < n ∧ n' = n)) := by
    by_cases hc : 3000 < n
    · exact ⟨3000, bs.take 3000, by omega, h.take 3000 (by omega), .inl ⟨hc, rfl⟩⟩
    · exact ⟨n, bs, by omega, h, .inr ⟨hc, rfl⟩⟩
  have k1 := decode_c w _ a n' c bs' h' (by unfold maxB; omega)
  rcases recDec_or bs' with ⟨r, hd, hok, hrb⟩ | hd
  · rw [hd] at k1
    have hs := (recDec_inv hd).2.2
    have HL := hid (recB_len hok)
    have hmem := recOk_mem hok
    have HOk := hid hok
    have HRB := hid hrb
    clear hok hrb hd
    simp only at k1
    have HL2 := HL.out
    rcases hcase with ⟨hc, rfl⟩ | ⟨hc, rfl⟩
    all_goals
      go_enter Try.func14, Try.ntmps14
      go_wp2_with (go_at_call 58; (with_reducible refine k1.mono ?_); rintro e w2 ⟨a2, n2, c2, b2, m2, d2, rfl, hX2, hK2⟩)
      have hkb := alloc_kept w2 (.cells #[.int .i64 r.kind, .int .i64 r.conf.epoch, .slice a2 n2 c2, .int .i64 r.pos, .int .i64 r.last, .slice b2 m2 d2] 61)
      have hBx := Blk.new_ w2 #[.int .i64 r.kind, .int .i64 r.conf.epoch, .slice a2 n2 c2, .int .i64 r.pos, .int .i64 r.last, .slice b2 m2 d2] 61
      have hX5 := ShRc.kept hX2 hkb
      have hk15 := hK2.n hkb
      have h5 := h'.kept hk15 (fun _ _ => id)
      have hn2 := rc_n hX2
      clear hX2 hkb
      generalize w2.alloc (.cells #[.int .i64 r.kind, .int .i64 r.conf.epoch, .slice a2 n2 c2, .int .i64 r.pos, .int .i64 r.last, .slice b2 m2 d2] 61) = wb at *
      have p0 := fun W (hK : Kept wb W nix) => (hBx.kept hK (fun h => h)).cell 0
      have p1 := fun W (hK : Kept wb W nix) => (hBx.kept hK (fun h => h)).cell 1
      have p2 := fun W (hK : Kept wb W nix) => (hBx.kept hK (fun h => h)).cell 2
      have p3 := fun W (hK : Kept wb W nix) => (hBx.kept hK (fun h => h)).cell 3
      have p4 := fun W (hK : Kept wb W nix) => (hBx.kept hK (fun h => h)).cell 4
      have p5 := fun W (hK : Kept wb W nix) => (hBx.kept hK (fun h => h)).cell 5
      have r1 := fun W (hK : Kept wb W nix) => strBy (h5.kept hK (fun _ _ => id))
      simp at p0 p1 p2 p3 p4 p5
      have s0_0 : Kept wb wb.drew nix := (Kept.refl _ _).drew
      refine wp_region_held (S := fun W => Kept wb W nix ∧ True) (by kernel_rfl) ?_
      have HS : Kept wb wb.drew nix ∧ True := ⟨s0_0, trivial⟩
      show wpAnyH _ _ _ _ _ _ _ _ wb.drew
      refine wpAnyH_one (i := 0) (oi := { dst := some 27, op := Op.call { callee := Callee.value (Operand.func 55), args := #[], argTypes := #[] }, type := 4, pos := "law.go:42", after := #[], guard := none }) rfl (by kernel_rfl) (by rfl) (fun K hK => ?_)
      go_simp
      (with_reducible refine (ka _).mono ?_); rintro e w5 ⟨rfl, hK5⟩
      have s0_1 := s0_0.n hK5
      have s1_1 := Kept.refl w5 nix
      clear HS
      refine hK _ _ (fun W => Kept w5 W nix ∧ Kept wb W nix ∧ True) ⟨s1_1, s0_1, trivial⟩ (fun _ h => h.2) ?_
      have HS : Kept w5 w5 nix ∧ Kept wb w5 nix ∧ True := ⟨s1_1, s0_1, trivial⟩
      clear hK K
      try simp only [Act.put, List.setIfInBounds_toArray, List.set_cons_zero, List.set_cons_succ]
      refine wpAnyH_take (i := 1) (oi := { dst := some 28, op := Op.move (Operand.tmp 27), type := 4, pos := "law.go:42", after := #[{ on := 0, ground := Ground.data }, { on := 0, ground := Ground.chain }], guard := none }) (v := ?_) rfl (by kernel_rfl) (by kernel_rfl) (by kernel_rfl) (fun _ _ _ h => h) (.inl ⟨by rfl, fun W hS => ?_⟩) HS ?_
      rotate_left
      · obtain ⟨t1, t0, -⟩ := hS
        go_simp
        try with_reducible rfl
      rotate_left
      try simp only [Act.put, List.setIfInBounds_toArray, List.set_cons_zero, List.set_cons_succ]
      refine wpAnyH_take (i := 2) (oi := { dst := some 29, op := Op.load 61 (Operand.tmp 3), type := 61, pos := "law.go:42", after := #[{ on := 1, ground := Ground.guard }], guard := some (1, true) }) (v := ?_) rfl (by kernel_rfl) (by kernel_rfl) (by kernel_rfl) (fun _ _ _ h => h) (.inl ⟨by rfl, fun W hS => ?_⟩) HS ?_
      rotate_left
      · obtain ⟨t1, t0, -⟩ := hS
        go_simp
        try with_reducible rfl
      rotate_left
      try simp only [Act.put, List.setIfInBounds_toArray, List.set_cons_zero, List.set_cons_succ]
      refine wpAnyH_one (i := 3) (oi := { dst := some 30, op := Op.call { callee := Callee.value (Operand.func 57), args := #[Operand.tmp 29], argTypes := #[61] }, type := 4, pos := "law.go:42", after := #[{ on := 2, ground := Ground.data }, { on := 1, ground := Ground.chain }, { on := 1, ground := Ground.guard }], guard := some (1, true) }) rfl (by kernel_rfl) (by rfl) (fun K hK => ?_)
      go_simp
      refine (refrec_r _ _ r a2 n2 c2 b2 m2 d2 (ShRc.kept hX5 s0_1)).mono ?_; rintro e w6 ⟨rfl, hK6⟩
      rw [HOk.out]
      have s0_2 := s0_1.n hK6
      have s1_2 := s1_1.n hK6
      have s2_2 := Kept.refl w6 nix
      clear HS
      refine hK _ _ (fun W => Kept w6 W nix ∧ Kept w5 W nix ∧ Kept wb W nix ∧ True) ⟨s2_2, s1_2, s0_2, trivial⟩ (fun _ h => h.2) ?_
      have HS : Kept w6 w6 nix ∧ Kept w5 w6 nix ∧ Kept wb w6 nix ∧ True := ⟨s2_2, s1_2, s0_2, trivial⟩
      clear hK K
      try simp only [Act.put, List.setIfInBounds_toArray, List.set_cons_zero, List.set_cons_succ]
      refine wpAnyH_take (i := 4) (oi := { dst := some 31, op := Op.pick (Operand.tmp 28) (Operand.tmp 30) (Operand.const (Value.bool false)), type := 4, pos := "law.go:42", after := #[{ on := 1, ground := Ground.data }, { on := 3, ground := Ground.data }], guard := none }) (v := ?_) rfl (by kernel_rfl) (by kernel_rfl) (by kernel_rfl) (fun _ _ _ h => h) (.inl ⟨by rfl, fun W hS => ?_⟩) HS ?_
      rotate_left
      · obtain ⟨t2, t1, t0, -⟩ := hS
        go_simp
        try with_reducible rfl
      rotate_left
      try simp only [Act.put, List.setIfInBounds_toArray, List.set_cons_zero, List.set_cons_succ]
      refine wpAnyH_take (i := 5) (oi := { dst := some 32, op := Op.move (Operand.tmp 31), type := 4, pos := "law.go:42", after := #[{ on := 4, ground := Ground.data }, { on := 3, ground := Ground.chain }], guard := none }) (v := ?_) rfl (by kernel_rfl) (by kernel_rfl) (by kernel_rfl) (fun _ _ _ h => h) (.inl ⟨by rfl, fun W hS => ?_⟩) HS ?_
      rotate_left
      · obtain ⟨t2, t1, t0, -⟩ := hS
        go_simp
        try with_reducible rfl
      rotate_left
      try simp only [Act.put, List.setIfInBounds_toArray, List.set_cons_zero, List.set_cons_succ]
      refine wpAnyH_take (i := 6) (oi := { dst := some 33, op := Op.load 61 (Operand.tmp 3), type := 61, pos := "law.go:42", after := #[{ on := 5, ground := Ground.guard }], guard := some (5, true) }) (v := ?_) rfl (by kernel_rfl) (by kernel_rfl) (by kernel_rfl) (fun _ _ _ h => h) (.inl ⟨by rfl, fun W hS => ?_⟩) HS ?_
      rotate_left
      · obtain ⟨t2, t1, t0, -⟩ := hS
        go_simp
        try with_reducible rfl
      rotate_left
      try simp only [Act.put, List.setIfInBounds_toArray, List.set_cons_zero, List.set_cons_succ]
      refine wpAnyH_take (i := 9) (oi := { dst := some 36, op := Op.move (Operand.tmp 0), type := 22, pos := "law.go:42", after := #[{ on := 5, ground := Ground.guard }], guard := some (5, true) }) (v := ?_) rfl (by kernel_rfl) (by kernel_rfl) (by kernel_rfl) (fun _ _ _ h => h) (.inl ⟨by rfl, fun W hS => ?_⟩) HS ?_
      rotate_left
      · obtain ⟨t2, t1, t0, -⟩ := hS
        go_simp
        try with_reducible rfl
      rotate_left
      try simp only [Act.put, List.setIfInBounds_toArray, List.set_cons_zero, List.set_cons_succ]
      refine wpAnyH_take (i := 10) (oi := { dst := some 37, op := Op.convert 22 9 (Operand.tmp 36), type := 9, pos := "law.go:42", after := #[{ on := 9, ground := Ground.data }, { on := 5, ground := Ground.guard }], guard := some (5, true) }) (v := ?_) rfl (by kernel_rfl) (by kernel_rfl) (by kernel_rfl) (fun _ _ _ h => h) (.inl ⟨by rfl, fun W hS => ?_⟩) HS ?_
      rotate_left
      · obtain ⟨t2, t1, t0, -⟩ := hS
        go_simp
        try with_reducible rfl
      rotate_left
      try simp only [Act.put, List.setIfInBounds_toArray, List.set_cons_zero, List.set_cons_succ]
      refine wpAnyH_one (i := 7) (oi := { dst := some 34, op := Op.call { callee := Callee.value (Operand.func 59), args := #[Operand.tmp 33], argTypes := #[61] }, type := 22, pos := "law.go:42", after := #[{ on := 6, ground := Ground.data }, { on := 5, ground := Ground.chain }, { on := 5, ground := Ground.guard }], guard := some (5, true) }) rfl (by kernel_rfl) (by rfl) (fun K hK => ?_)
      go_simp
      refine (refrecord_c _ _ r a2 n2 c2 b2 m2 d2 (ShRc.kept hX5 s0_2) (by omega) (by omega)).mono ?_; rintro e w7 ⟨a6, m6, c6, rfl, hO6, hK7⟩
      have r2 := fun W (hK : Kept w7 W nix) => strBy (hO6.sl.kept hK (fun _ _ => id))
      have s0_3 := s0_2.n hK7
      have s1_3 := s1_2.n hK7
      have s2_3 := s2_2.n hK7
      have s3_3 := Kept.refl w7 nix
      clear HS
      refine hK _ _ (fun W => Kept w7 W nix ∧ Kept w6 W nix ∧ Kept w5 W nix ∧ Kept wb W nix ∧ True) ⟨s3_3, s2_3, s1_3, s0_3, trivial⟩ (fun _ h => h.2) ?_
      have HS : Kept w7 w7 nix ∧ Kept w6 w7 nix ∧ Kept w5 w7 nix ∧ Kept wb w7 nix ∧ True := ⟨s3_3, s2_3, s1_3, s0_3, trivial⟩
      clear hK K
      try simp only [Act.put, List.setIfInBounds_toArray, List.set_cons_zero, List.set_cons_succ]
      refine wpAnyH_take (i := 8) (oi := { dst := some 35, op := Op.convert 22 9 (Operand.tmp 34), type := 9, pos := "law.go:42", after := #[{ on := 7, ground := Ground.data }, { on := 5, ground := Ground.guard }], guard := some (5, true) }) (v := ?_) rfl (by kernel_rfl) (by kernel_rfl) (by kernel_rfl) (fun _ _ _ h => h) (.inl ⟨by rfl, fun W hS => ?_⟩) HS ?_
      rotate_left
      · obtain ⟨t3, t2, t1, t0, -⟩ := hS
        go_simp
        try with_reducible rfl
      rotate_left
      try simp only [Act.put, List.setIfInBounds_toArray, List.set_cons_zero, List.set_cons_succ]
      refine wpAnyH_take (i := 11) (oi := { dst := some 38, op := Op.binOp BinOp.eql 9 (Operand.tmp 35) (Operand.tmp 37) 9, type := 4, pos := "law.go:42", after := #[{ on := 8, ground := Ground.data }, { on := 10, ground := Ground.data }, { on := 5, ground := Ground.guard }], guard := some (5, true) }) (v := ?_) rfl (by kernel_rfl) (by kernel_rfl) (by kernel_rfl) (fun _ _ _ h => h) (.inl ⟨by rfl, fun W hS => ?_⟩) HS ?_
      rotate_left
      · obtain ⟨t3, t2, t1, t0, -⟩ := hS
        go_simp
        try with_reducible rfl
      rotate_left
      try simp only [Act.put, List.setIfInBounds_toArray, List.set_cons_zero, List.set_cons_succ]
      refine wpAnyH_take (i := 12) (oi := { dst := some 39, op := Op.pick (Operand.tmp 32) (Operand.tmp 38) (Operand.const (Value.bool false)), type := 4, pos := "law.go:42", after := #[{ on := 5, ground := Ground.data }, { on := 11, ground := Ground.data }], guard := none }) (v := ?_) rfl (by kernel_rfl) (by kernel_rfl) (by kernel_rfl) (fun _ _ _ h => h) (.inl ⟨by rfl, fun W hS => ?_⟩) HS ?_
      rotate_left
      · obtain ⟨t3, t2, t1, t0, -⟩ := hS
        go_simp
        try with_reducible rfl
      rotate_left
      try simp only [Act.put, List.setIfInBounds_toArray, List.set_cons_zero, List.set_cons_succ]
      refine wpAnyH_take (i := 13) (oi := { dst := some 2, op := Op.assign (Operand.tmp 39), type := 4, pos := "law.go:42", after := #[{ on := 12, ground := Ground.data }, { on := 7, ground := Ground.chain }, { on := 0, ground := Ground.phase }, { on := 1, ground := Ground.phase }, { on := 2, ground := Ground.phase }, { on := 3, ground := Ground.phase }, { on := 4, ground := Ground.phase }, { on := 5, ground := Ground.phase }, { on := 6, ground := Ground.phase }, { on := 7, ground := Ground.phase }, { on := 8, ground := Ground.phase }, { on := 9, ground := Ground.phase }, { on := 10, ground := Ground.phase }, { on := 11, ground := Ground.phase }, { on := 12, ground := Ground.phase }], guard := none }) (v := ?_) rfl (by kernel_rfl) (by kernel_rfl) (by kernel_rfl) (fun _ _ _ h => h) (.inl ⟨by rfl, fun W hS => ?_⟩) HS ?_
      rotate_left
      · obtain ⟨t3, t2, t1, t0, -⟩ := hS
        go_simp
        try with_reducible rfl
      rotate_left
      try simp only [Act.put, List.setIfInBounds_toArray, List.set_cons_zero, List.set_cons_succ]
      refine wpAnyH_done (by kernel_rfl) ?_ _
      go_wp2_with fail
      go_ret
      exact ⟨by rw [HRB.out]; simp, hk15.n s0_3⟩
  · rw [hd] at k1
    simp only at k1
    clear hd
    rcases hcase with ⟨hc, rfl⟩ | ⟨hc, rfl⟩
    all_goals
      go_enter Try.func14, Try.ntmps14
      go_wp2_with (go_at_call 58; (with_reducible refine k1.mono ?_); rintro e w2 ⟨a2, n2, c2, b2, m2, d2, rfl, hX2, hK2⟩)
      have hkb := alloc_kept w2 (.cells #[.int .i64 Rc.zero.kind, .int .i64 Rc.zero.conf.epoch, .slice a2 n2 c2, .int .i64 Rc.zero.pos, .int .i64 Rc.zero.last, .slice b2 m2 d2] 61)
      have hBx := Blk.new_ w2 #[.int .i64 Rc.zero.kind, .int .i64 Rc.zero.conf.epoch, .slice a2 n2 c2, .int .i64 Rc.zero.pos, .int .i64 Rc.zero.last, .slice b2 m2 d2] 61
      have hX5 := ShRc.kept hX2 hkb
      have hk15 := hK2.n hkb
      have hn2 := rc_n hX2
      have hn20 : n2 = 0 := hn2.symm
      clear hX2 hkb
      generalize w2.alloc (.cells #[.int .i64 Rc.zero.kind, .int .i64 Rc.zero.conf.epoch, .slice a2 n2 c2, .int .i64 Rc.zero.pos, .int .i64 Rc.zero.last, .slice b2 m2 d2] 61) = wb at *
      with_reducible refine (ka _).mono ?_
      rintro e w5 ⟨rfl, hK5⟩
      have hBx5 := hBx.kept hK5 (fun h => h)
      have p0 := hBx5.cell 0
      have p1 := hBx5.cell 1
      have p2 := hBx5.cell 2
      have p3 := hBx5.cell 3
      have p4 := hBx5.cell 4
      have p5 := hBx5.cell 5
      simp at p0 p1 p2 p3 p4 p5
      have hzl := rcZ_len
      have k4 := refsamerec_c w5 _ _ Rc.zero Rc.zero a2 n2 c2 b2 m2 d2 none 0 0 none 0 0 (ShRc.kept hX5 hK5) (rcZ w5) (by omega) (by omega) (by omega) (by omega)
      rw [beq_self_eq_true] at k4
      clear hzl hn2 hn20
      have K4 := hid k4
      clear k4
      go_wp2_with fail
      refine K4.out.mono ?_
      rintro e w6 ⟨rfl, hK6⟩
      go_wp2_with fail
      go_ret
      exact ⟨rfl, (hk15.n hK5).n hK6⟩
end Go.Proofs.Ytlhlljjchggnjaa
