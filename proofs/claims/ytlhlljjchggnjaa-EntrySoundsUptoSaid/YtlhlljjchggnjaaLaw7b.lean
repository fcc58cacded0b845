/- EntryEncodes: the walk. -/
import Derived.Test.YtlhlljjchggnjaaLaw7
namespace Go.Proofs.Ytlhlljjchggnjaa
open Go.RowKit

theorem refrec_r (w : World) (F : Nat → Prop) (r : Rc) (a : Option Addr) (n c : Nat) (b : Option Addr) (m d : Nat) (h : ShRc.R w F r (recCs r a n c b m d)) :
    Calls Try.prog 57 #[rcV r a n c b m d] w fun e w' => e = .returned (.bool (recOk r)) ∧ Kept w w' nix := by
  obtain ⟨a_, n_, c_, a2_, n2_, c2_, he, hM, hMb, hE, hEb, p1, p2, p3, p4⟩ := h
  simp only [recCs, List.cons.injEq, Value.slice.injEq, and_true, true_and] at he
  obtain ⟨⟨rfl, rfl, rfl⟩, rfl, rfl, rfl⟩ := he
  exact refrec_c w _ _ r _ _ _ _ _ _ hM hE
set_option maxRecDepth 100000 in
set_option maxHeartbeats 8000000 in
theorem entryencodes_c (w : World) (F : Nat → Prop) (r : Rc) (a : Option Addr) (n c : Nat) (b : Option Addr) (m d : Nat) (hr : ShRc.R w F r (recCs r a n c b m d)) :
    Calls Try.prog 13 #[rcV r a n c b m d] w fun e w' => e = .returned (.bool true) ∧ Kept w w' nix := by
  have hk1 := alloc_kept w (.cells #[.int .i64 r.kind, .int .i64 r.conf.epoch, .slice a n c, .int .i64 r.pos, .int .i64 r.last, .slice b m d] 61)
  have hB1 := Blk.new_ w #[.int .i64 r.kind, .int .i64 r.conf.epoch, .slice a n c, .int .i64 r.pos, .int .i64 r.last, .slice b m d] 61
  have hr1 := ShRc.kept hr hk1
  have ka := fun W => awake7_c W
  have HWf := hid (rc_sums (rc_wf hr))
  clear hr
  by_cases h60 : 60 < m
  · go_enter Try.func13, Try.ntmps13
    go_wp2_with (go_at_call 55; refine (ka _).mono ?_; rintro e w2 ⟨rfl, hK2⟩)
    go_ret
    exact ⟨rfl, hk1.n hK2⟩
  by_cases h200 : 200 < n
  · go_enter Try.func13, Try.ntmps13
    go_wp2_with (go_at_call 55; refine (ka _).mono ?_; rintro e w2 ⟨rfl, hK2⟩)
    go_ret
    exact ⟨rfl, hk1.n hK2⟩
  go_enter Try.func13, Try.ntmps13
  go_wp2_with fail
  generalize w.alloc (.cells #[.int .i64 r.kind, .int .i64 r.conf.epoch, .slice a n c, .int .i64 r.pos, .int .i64 r.last, .slice b m d] 61) = w1 at *
  refine (encode_c w1 _ r a n c b m d hr1).mono ?_
  rintro e w2 ⟨a2, m2, c2, rfl, hO2, hK2⟩
  have hB2 := hB1.kept hK2 (fun h => h)
  have hr2 := ShRc.kept hr1 hK2
  have q0 := hB2.cell 0
  have q1 := hB2.cell 1
  have q2 := hB2.cell 2
  have q3 := hB2.cell 3
  have q4 := hB2.cell 4
  have q5 := hB2.cell 5
  simp at q0 q1 q2 q3 q4 q5
  have k3 := refrec_r w2 _ r a n c b m d hr2
  cases hok : recOk r
  · rw [hok] at k3
    have hE : recEnc r = ([], 2) := by simp [recEnc, hok]
    rw [hE] at hO2 ⊢
    have hl2 := hO2.len
    have hl2' : m2 = 0 := by rw [← hl2]; rfl
    subst hl2'
    simp only
    go_wp2_with (first
      | (go_at_call 57; (with_reducible refine k3.mono ?_); rintro e w3 ⟨rfl, hK3⟩)
      | (go_at_call 55; (with_reducible refine (ka _).mono ?_); rintro e w4 ⟨rfl, hK4⟩))
    go_ret
    exact ⟨rfl, ((hk1.n hK2).n hK3).n hK4⟩
  · rw [hok] at k3
    have HOk := hid hok
    have hE : recEnc r = (recB r, 0) := by simp [recEnc, hok]
    have HD := hid (recDec_recB hok HWf.out)
    have HL := hid (recB_len hok)
    have HL2 := HL.out
    clear hok
    rw [hE] at hO2 ⊢
    clear hE
    simp only at hO2 ⊢
    have hl2 := hO2.len
    have k4 := fun W (hK : Kept w2 W nix) => decode_c W _ a2 m2 c2 (recB r) (hO2.sl.kept hK (fun _ _ => id)) (by unfold maxB; omega)
    rw [HD.out] at k4
    simp only at k4
    go_wp2_with (first
      | (go_at_call 57; (with_reducible refine k3.mono ?_); rintro e w3 ⟨rfl, hK3⟩)
      | (go_at_call 58; (with_reducible refine (k4 _ hK3).mono ?_); rintro e w4 ⟨a4, n4, c4, b4, m4, d4, rfl, hX4, hK4⟩))
    have hB4 := (hB2.kept hK3 (fun h => h)).kept hK4 (fun h => h)
    have hkb := alloc_kept w4 (.cells #[.int .i64 r.kind, .int .i64 r.conf.epoch, .slice a4 n4 c4, .int .i64 r.pos, .int .i64 r.last, .slice b4 m4 d4] 61)
    have hBx := Blk.new_ w4 #[.int .i64 r.kind, .int .i64 r.conf.epoch, .slice a4 n4 c4, .int .i64 r.pos, .int .i64 r.last, .slice b4 m4 d4] 61
    have hX5 := ShRc.kept hX4 hkb
    have hk15 := (hK2.n hK3).n (hK4.n hkb)
    have hr5 := ShRc.kept hr1 hk15
    have hB5 := hB4.kept hkb (fun h => h)
    have hO5 := hO2.sl.kept ((hK3.n hK4).n hkb) (fun _ _ => id)
    have hn4 := rc_n hX4
    have hn1 := rc_n hr1
    clear q0 q1 q2 q3 q4 q5 hB2 hB4 hX4
    generalize w4.alloc (.cells #[.int .i64 r.kind, .int .i64 r.conf.epoch, .slice a4 n4 c4, .int .i64 r.pos, .int .i64 r.last, .slice b4 m4 d4] 61) = wb at *
    have q0 := fun W (hK : Kept wb W nix) => (hB5.kept hK (fun h => h)).cell 0
    have q1 := fun W (hK : Kept wb W nix) => (hB5.kept hK (fun h => h)).cell 1
    have q2 := fun W (hK : Kept wb W nix) => (hB5.kept hK (fun h => h)).cell 2
    have q3 := fun W (hK : Kept wb W nix) => (hB5.kept hK (fun h => h)).cell 3
    have q4 := fun W (hK : Kept wb W nix) => (hB5.kept hK (fun h => h)).cell 4
    have q5 := fun W (hK : Kept wb W nix) => (hB5.kept hK (fun h => h)).cell 5
    have p0 := fun W (hK : Kept wb W nix) => (hBx.kept hK (fun h => h)).cell 0
    have p1 := fun W (hK : Kept wb W nix) => (hBx.kept hK (fun h => h)).cell 1
    have p2 := fun W (hK : Kept wb W nix) => (hBx.kept hK (fun h => h)).cell 2
    have p3 := fun W (hK : Kept wb W nix) => (hBx.kept hK (fun h => h)).cell 3
    have p4 := fun W (hK : Kept wb W nix) => (hBx.kept hK (fun h => h)).cell 4
    have p5 := fun W (hK : Kept wb W nix) => (hBx.kept hK (fun h => h)).cell 5
    have r1 := fun W (hK : Kept wb W nix) => strBy (hO5.kept hK (fun _ _ => id))
    simp at q0 q1 q2 q3 q4 q5 p0 p1 p2 p3 p4 p5
    have s0_0 : Kept wb wb.drew nix := (Kept.refl _ _).drew
    refine wp_region_held (S := fun W => Kept wb W nix ∧ True) (by kernel_rfl) ?_
    have HS : Kept wb wb.drew nix ∧ True := ⟨s0_0, trivial⟩
    show wpAnyH _ _ _ _ _ _ _ _ wb.drew
    refine wpAnyH_one (i := 0) (oi := { dst := some 42, op := Op.call { callee := Callee.value (Operand.func 55), args := #[], argTypes := #[] }, type := 4, pos := "law.go:30", after := #[], guard := none }) rfl (by kernel_rfl) (by rfl) (fun K hK => ?_)
    go_simp
    (with_reducible refine (ka _).mono ?_); rintro e w5 ⟨rfl, hK5⟩
    have s0_1 := s0_0.n hK5
    have s1_1 := Kept.refl w5 nix
    clear HS
    refine hK _ _ (fun W => Kept w5 W nix ∧ Kept wb W nix ∧ True) ⟨s1_1, s0_1, trivial⟩ (fun _ h => h.2) ?_
    have HS : Kept w5 w5 nix ∧ Kept wb w5 nix ∧ True := ⟨s1_1, s0_1, trivial⟩
    clear hK K
    try simp only [Act.put, List.setIfInBounds_toArray, List.set_cons_zero, List.set_cons_succ]
    refine wpAnyH_take (i := 1) (oi := { dst := some 43, op := Op.move (Operand.tmp 42), type := 4, pos := "law.go:30", after := #[{ on := 0, ground := Ground.data }, { on := 0, ground := Ground.chain }], guard := none }) (v := ?_) rfl (by kernel_rfl) (by kernel_rfl) (by kernel_rfl) (fun _ _ _ h => h) (.inl ⟨by rfl, fun W hS => ?_⟩) HS ?_
    rotate_left
    · obtain ⟨t1, t0, -⟩ := hS
      go_simp
      try with_reducible rfl
    rotate_left
    try simp only [Act.put, List.setIfInBounds_toArray, List.set_cons_zero, List.set_cons_succ]
    refine wpAnyH_take (i := 2) (oi := { dst := some 44, op := Op.move (Operand.tmp 4), type := 44, pos := "law.go:30", after := #[{ on := 1, ground := Ground.guard }], guard := some (1, true) }) (v := ?_) rfl (by kernel_rfl) (by kernel_rfl) (by kernel_rfl) (fun _ _ _ h => h) (.inl ⟨by rfl, fun W hS => ?_⟩) HS ?_
    rotate_left
    · obtain ⟨t1, t0, -⟩ := hS
      go_simp
      try with_reducible rfl
    rotate_left
    try simp only [Act.put, List.setIfInBounds_toArray, List.set_cons_zero, List.set_cons_succ]
    refine wpAnyH_take (i := 3) (oi := { dst := some 45, op := Op.binOp BinOp.eql 44 (Operand.tmp 44) (Operand.const (Value.int IntKind.i64 0)) 44, type := 4, pos := "law.go:30", after := #[{ on := 2, ground := Ground.data }, { on := 1, ground := Ground.guard }], guard := some (1, true) }) (v := ?_) rfl (by kernel_rfl) (by kernel_rfl) (by kernel_rfl) (fun _ _ _ h => h) (.inl ⟨by rfl, fun W hS => ?_⟩) HS ?_
    rotate_left
    · obtain ⟨t1, t0, -⟩ := hS
      go_simp
      try with_reducible rfl
    rotate_left
    try simp only [Act.put, List.setIfInBounds_toArray, List.set_cons_zero, List.set_cons_succ]
    refine wpAnyH_take (i := 4) (oi := { dst := some 46, op := Op.pick (Operand.tmp 43) (Operand.tmp 45) (Operand.const (Value.bool false)), type := 4, pos := "law.go:30", after := #[{ on := 1, ground := Ground.data }, { on := 3, ground := Ground.data }], guard := none }) (v := ?_) rfl (by kernel_rfl) (by kernel_rfl) (by kernel_rfl) (fun _ _ _ h => h) (.inl ⟨by rfl, fun W hS => ?_⟩) HS ?_
    rotate_left
    · obtain ⟨t1, t0, -⟩ := hS
      go_simp
      try with_reducible rfl
    rotate_left
    try simp only [Act.put, List.setIfInBounds_toArray, List.set_cons_zero, List.set_cons_succ]
    refine wpAnyH_take (i := 5) (oi := { dst := some 47, op := Op.move (Operand.tmp 46), type := 4, pos := "law.go:30", after := #[{ on := 4, ground := Ground.data }, { on := 1, ground := Ground.chain }], guard := none }) (v := ?_) rfl (by kernel_rfl) (by kernel_rfl) (by kernel_rfl) (fun _ _ _ h => h) (.inl ⟨by rfl, fun W hS => ?_⟩) HS ?_
    rotate_left
    · obtain ⟨t1, t0, -⟩ := hS
      go_simp
      try with_reducible rfl
    rotate_left
    try simp only [Act.put, List.setIfInBounds_toArray, List.set_cons_zero, List.set_cons_succ]
    refine wpAnyH_take (i := 6) (oi := { dst := some 48, op := Op.move (Operand.tmp 3), type := 22, pos := "law.go:30", after := #[{ on := 5, ground := Ground.guard }], guard := some (5, true) }) (v := ?_) rfl (by kernel_rfl) (by kernel_rfl) (by kernel_rfl) (fun _ _ _ h => h) (.inl ⟨by rfl, fun W hS => ?_⟩) HS ?_
    rotate_left
    · obtain ⟨t1, t0, -⟩ := hS
      go_simp
      try with_reducible rfl
    rotate_left
    try simp only [Act.put, List.setIfInBounds_toArray, List.set_cons_zero, List.set_cons_succ]
    refine wpAnyH_take (i := 7) (oi := { dst := some 49, op := Op.convert 22 9 (Operand.tmp 48), type := 9, pos := "law.go:30", after := #[{ on := 6, ground := Ground.data }, { on := 5, ground := Ground.guard }], guard := some (5, true) }) (v := ?_) rfl (by kernel_rfl) (by kernel_rfl) (by kernel_rfl) (fun _ _ _ h => h) (.inl ⟨by rfl, fun W hS => ?_⟩) HS ?_
    rotate_left
    · obtain ⟨t1, t0, -⟩ := hS
      go_simp
      try with_reducible rfl
    rotate_left
    try simp only [Act.put, List.setIfInBounds_toArray, List.set_cons_zero, List.set_cons_succ]
    refine wpAnyH_take (i := 8) (oi := { dst := some 50, op := Op.load 61 (Operand.tmp 1), type := 61, pos := "law.go:30", after := #[{ on := 5, ground := Ground.guard }], guard := some (5, true) }) (v := ?_) rfl (by kernel_rfl) (by kernel_rfl) (by kernel_rfl) (fun _ _ _ h => h) (.inl ⟨by rfl, fun W hS => ?_⟩) HS ?_
    rotate_left
    · obtain ⟨t1, t0, -⟩ := hS
      go_simp
      try with_reducible rfl
    rotate_left
    try simp only [Act.put, List.setIfInBounds_toArray, List.set_cons_zero, List.set_cons_succ]
    refine wpAnyH_one (i := 9) (oi := { dst := some 51, op := Op.call { callee := Callee.value (Operand.func 59), args := #[Operand.tmp 50], argTypes := #[61] }, type := 22, pos := "law.go:30", after := #[{ on := 8, ground := Ground.data }, { on := 5, ground := Ground.chain }, { on := 5, ground := Ground.guard }], guard := some (5, true) }) rfl (by kernel_rfl) (by rfl) (fun K hK => ?_)
    go_simp
    refine (refrecord_c _ _ r a n c b m d (ShRc.kept hr5 s0_1) (by omega) (by omega)).mono ?_; rintro e w6 ⟨a6, m6, c6, rfl, hO6, hK6⟩
    have r2 := fun W (hK : Kept w6 W nix) => strBy (hO6.sl.kept hK (fun _ _ => id))
    have s0_2 := s0_1.n hK6
    have s1_2 := s1_1.n hK6
    have s2_2 := Kept.refl w6 nix
    clear HS
    refine hK _ _ (fun W => Kept w6 W nix ∧ Kept w5 W nix ∧ Kept wb W nix ∧ True) ⟨s2_2, s1_2, s0_2, trivial⟩ (fun _ h => h.2) ?_
    have HS : Kept w6 w6 nix ∧ Kept w5 w6 nix ∧ Kept wb w6 nix ∧ True := ⟨s2_2, s1_2, s0_2, trivial⟩
    clear hK K
    try simp only [Act.put, List.setIfInBounds_toArray, List.set_cons_zero, List.set_cons_succ]
    refine wpAnyH_take (i := 10) (oi := { dst := some 52, op := Op.convert 22 9 (Operand.tmp 51), type := 9, pos := "law.go:30", after := #[{ on := 9, ground := Ground.data }, { on := 5, ground := Ground.guard }], guard := some (5, true) }) (v := ?_) rfl (by kernel_rfl) (by kernel_rfl) (by kernel_rfl) (fun _ _ _ h => h) (.inl ⟨by rfl, fun W hS => ?_⟩) HS ?_
    rotate_left
    · obtain ⟨t2, t1, t0, -⟩ := hS
      go_simp
      try with_reducible rfl
    rotate_left
    try simp only [Act.put, List.setIfInBounds_toArray, List.set_cons_zero, List.set_cons_succ]
    refine wpAnyH_take (i := 11) (oi := { dst := some 53, op := Op.binOp BinOp.eql 9 (Operand.tmp 49) (Operand.tmp 52) 9, type := 4, pos := "law.go:30", after := #[{ on := 7, ground := Ground.data }, { on := 10, ground := Ground.data }, { on := 5, ground := Ground.guard }], guard := some (5, true) }) (v := ?_) rfl (by kernel_rfl) (by kernel_rfl) (by kernel_rfl) (fun _ _ _ h => h) (.inl ⟨by rfl, fun W hS => ?_⟩) HS ?_
    rotate_left
    · obtain ⟨t2, t1, t0, -⟩ := hS
      go_simp
      try with_reducible rfl
    rotate_left
    try simp only [Act.put, List.setIfInBounds_toArray, List.set_cons_zero, List.set_cons_succ]
    refine wpAnyH_take (i := 12) (oi := { dst := some 54, op := Op.pick (Operand.tmp 47) (Operand.tmp 53) (Operand.const (Value.bool false)), type := 4, pos := "law.go:30", after := #[{ on := 5, ground := Ground.data }, { on := 11, ground := Ground.data }], guard := none }) (v := ?_) rfl (by kernel_rfl) (by kernel_rfl) (by kernel_rfl) (fun _ _ _ h => h) (.inl ⟨by rfl, fun W hS => ?_⟩) HS ?_
    rotate_left
    · obtain ⟨t2, t1, t0, -⟩ := hS
      go_simp
      try with_reducible rfl
    rotate_left
    try simp only [Act.put, List.setIfInBounds_toArray, List.set_cons_zero, List.set_cons_succ]
    refine wpAnyH_take (i := 13) (oi := { dst := some 55, op := Op.move (Operand.tmp 54), type := 4, pos := "law.go:30", after := #[{ on := 12, ground := Ground.data }, { on := 9, ground := Ground.chain }], guard := none }) (v := ?_) rfl (by kernel_rfl) (by kernel_rfl) (by kernel_rfl) (fun _ _ _ h => h) (.inl ⟨by rfl, fun W hS => ?_⟩) HS ?_
    rotate_left
    · obtain ⟨t2, t1, t0, -⟩ := hS
      go_simp
      try with_reducible rfl
    rotate_left
    try simp only [Act.put, List.setIfInBounds_toArray, List.set_cons_zero, List.set_cons_succ]
    refine wpAnyH_take (i := 14) (oi := { dst := some 56, op := Op.move (Operand.tmp 6), type := 44, pos := "law.go:30", after := #[{ on := 13, ground := Ground.guard }], guard := some (13, true) }) (v := ?_) rfl (by kernel_rfl) (by kernel_rfl) (by kernel_rfl) (fun _ _ _ h => h) (.inl ⟨by rfl, fun W hS => ?_⟩) HS ?_
    rotate_left
    · obtain ⟨t2, t1, t0, -⟩ := hS
      go_simp
      try with_reducible rfl
    rotate_left
    try simp only [Act.put, List.setIfInBounds_toArray, List.set_cons_zero, List.set_cons_succ]
    refine wpAnyH_take (i := 15) (oi := { dst := some 57, op := Op.binOp BinOp.eql 44 (Operand.tmp 56) (Operand.const (Value.int IntKind.i64 0)) 44, type := 4, pos := "law.go:30", after := #[{ on := 14, ground := Ground.data }, { on := 13, ground := Ground.guard }], guard := some (13, true) }) (v := ?_) rfl (by kernel_rfl) (by kernel_rfl) (by kernel_rfl) (fun _ _ _ h => h) (.inl ⟨by rfl, fun W hS => ?_⟩) HS ?_
    rotate_left
    · obtain ⟨t2, t1, t0, -⟩ := hS
      go_simp
      try with_reducible rfl
    rotate_left
    try simp only [Act.put, List.setIfInBounds_toArray, List.set_cons_zero, List.set_cons_succ]
    refine wpAnyH_take (i := 16) (oi := { dst := some 58, op := Op.pick (Operand.tmp 55) (Operand.tmp 57) (Operand.const (Value.bool false)), type := 4, pos := "law.go:30", after := #[{ on := 13, ground := Ground.data }, { on := 15, ground := Ground.data }], guard := none }) (v := ?_) rfl (by kernel_rfl) (by kernel_rfl) (by kernel_rfl) (fun _ _ _ h => h) (.inl ⟨by rfl, fun W hS => ?_⟩) HS ?_
    rotate_left
    · obtain ⟨t2, t1, t0, -⟩ := hS
      go_simp
      try with_reducible rfl
    rotate_left
    try simp only [Act.put, List.setIfInBounds_toArray, List.set_cons_zero, List.set_cons_succ]
    refine wpAnyH_take (i := 17) (oi := { dst := some 59, op := Op.move (Operand.tmp 58), type := 4, pos := "law.go:30", after := #[{ on := 16, ground := Ground.data }, { on := 13, ground := Ground.chain }], guard := none }) (v := ?_) rfl (by kernel_rfl) (by kernel_rfl) (by kernel_rfl) (fun _ _ _ h => h) (.inl ⟨by rfl, fun W hS => ?_⟩) HS ?_
    rotate_left
    · obtain ⟨t2, t1, t0, -⟩ := hS
      go_simp
      try with_reducible rfl
    rotate_left
    try simp only [Act.put, List.setIfInBounds_toArray, List.set_cons_zero, List.set_cons_succ]
    refine wpAnyH_take (i := 18) (oi := { dst := some 60, op := Op.load 61 (Operand.tmp 5), type := 61, pos := "law.go:30", after := #[{ on := 17, ground := Ground.guard }], guard := some (17, true) }) (v := ?_) rfl (by kernel_rfl) (by kernel_rfl) (by kernel_rfl) (fun _ _ _ h => h) (.inl ⟨by rfl, fun W hS => ?_⟩) HS ?_
    rotate_left
    · obtain ⟨t2, t1, t0, -⟩ := hS
      go_simp
      try with_reducible rfl
    rotate_left
    try simp only [Act.put, List.setIfInBounds_toArray, List.set_cons_zero, List.set_cons_succ]
    refine wpAnyH_take (i := 19) (oi := { dst := some 61, op := Op.load 61 (Operand.tmp 1), type := 61, pos := "law.go:30", after := #[{ on := 17, ground := Ground.guard }], guard := some (17, true) }) (v := ?_) rfl (by kernel_rfl) (by kernel_rfl) (by kernel_rfl) (fun _ _ _ h => h) (.inl ⟨by rfl, fun W hS => ?_⟩) HS ?_
    rotate_left
    · obtain ⟨t2, t1, t0, -⟩ := hS
      go_simp
      try with_reducible rfl
    rotate_left
    try simp only [Act.put, List.setIfInBounds_toArray, List.set_cons_zero, List.set_cons_succ]
    refine wpAnyH_one (i := 20) (oi := { dst := some 62, op := Op.call { callee := Callee.value (Operand.func 60), args := #[Operand.tmp 60, Operand.tmp 61], argTypes := #[61, 61] }, type := 4, pos := "law.go:30", after := #[{ on := 18, ground := Ground.data }, { on := 19, ground := Ground.data }, { on := 17, ground := Ground.chain }, { on := 17, ground := Ground.guard }], guard := some (17, true) }) rfl (by kernel_rfl) (by rfl) (fun K hK => ?_)
    go_simp
    refine (refsamerec_c _ _ _ r r a4 n4 c4 b4 m4 d4 a n c b m d (ShRc.kept hX5 s0_2) (ShRc.kept hr5 s0_2) (by omega) (by omega) (by omega) (by omega)).mono ?_; rintro e w7 ⟨rfl, hK7⟩
    have s0_3 := s0_2.n hK7
    have s1_3 := s1_2.n hK7
    have s2_3 := s2_2.n hK7
    have s3_3 := Kept.refl w7 nix
    clear HS
    refine hK _ _ (fun W => Kept w7 W nix ∧ Kept w6 W nix ∧ Kept w5 W nix ∧ Kept wb W nix ∧ True) ⟨s3_3, s2_3, s1_3, s0_3, trivial⟩ (fun _ h => h.2) ?_
    have HS : Kept w7 w7 nix ∧ Kept w6 w7 nix ∧ Kept w5 w7 nix ∧ Kept wb w7 nix ∧ True := ⟨s3_3, s2_3, s1_3, s0_3, trivial⟩
    clear hK K
    try simp only [Act.put, List.setIfInBounds_toArray, List.set_cons_zero, List.set_cons_succ]
    refine wpAnyH_take (i := 21) (oi := { dst := some 63, op := Op.pick (Operand.tmp 59) (Operand.tmp 62) (Operand.const (Value.bool false)), type := 4, pos := "law.go:30", after := #[{ on := 17, ground := Ground.data }, { on := 20, ground := Ground.data }], guard := none }) (v := ?_) rfl (by kernel_rfl) (by kernel_rfl) (by kernel_rfl) (fun _ _ _ h => h) (.inl ⟨by rfl, fun W hS => ?_⟩) HS ?_
    rotate_left
    · obtain ⟨t3, t2, t1, t0, -⟩ := hS
      go_simp
      try with_reducible rfl
    rotate_left
    try simp only [Act.put, List.setIfInBounds_toArray, List.set_cons_zero, List.set_cons_succ]
    refine wpAnyH_take (i := 22) (oi := { dst := some 2, op := Op.assign (Operand.tmp 63), type := 4, pos := "law.go:30", after := #[{ on := 21, ground := Ground.data }, { on := 20, ground := Ground.chain }, { on := 0, ground := Ground.phase }, { on := 1, ground := Ground.phase }, { on := 2, ground := Ground.phase }, { on := 3, ground := Ground.phase }, { on := 4, ground := Ground.phase }, { on := 5, ground := Ground.phase }, { on := 6, ground := Ground.phase }, { on := 7, ground := Ground.phase }, { on := 8, ground := Ground.phase }, { on := 9, ground := Ground.phase }, { on := 10, ground := Ground.phase }, { on := 11, ground := Ground.phase }, { on := 12, ground := Ground.phase }, { on := 13, ground := Ground.phase }, { on := 14, ground := Ground.phase }, { on := 15, ground := Ground.phase }, { on := 16, ground := Ground.phase }, { on := 17, ground := Ground.phase }, { on := 18, ground := Ground.phase }, { on := 19, ground := Ground.phase }, { on := 20, ground := Ground.phase }, { on := 21, ground := Ground.phase }], guard := none }) (v := ?_) rfl (by kernel_rfl) (by kernel_rfl) (by kernel_rfl) (fun _ _ _ h => h) (.inl ⟨by rfl, fun W hS => ?_⟩) HS ?_
    rotate_left
    · obtain ⟨t3, t2, t1, t0, -⟩ := hS
      go_simp
      try with_reducible rfl
    rotate_left
    try simp only [Act.put, List.setIfInBounds_toArray, List.set_cons_zero, List.set_cons_succ]
    refine wpAnyH_done (by kernel_rfl) ?_ _
    go_wp2_with fail
    go_ret
    exact ⟨by simp, ((hk1.n hk15).n s0_3)⟩
end Go.Proofs.Ytlhlljjchggnjaa
