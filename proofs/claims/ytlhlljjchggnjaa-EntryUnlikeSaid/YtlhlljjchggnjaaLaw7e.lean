/- EntryUnlike: the walk. -/
import Derived.Test.YtlhlljjchggnjaaLaw7c
namespace Go.Proofs.Ytlhlljjchggnjaa
open Go.RowKit

set_option maxRecDepth 100000 in
set_option maxHeartbeats 8000000 in
theorem entryunlike_c (w : World) (F F2 : Nat → Prop) (r s : Rc) (a : Option Addr) (n c : Nat) (b : Option Addr) (m d : Nat) (a2 : Option Addr) (n2 c2 : Nat) (b2 : Option Addr) (m2 d2 : Nat) (hr : ShRc.R w F r (recCs r a n c b m d)) (hs : ShRc.R w F2 s (recCs s a2 n2 c2 b2 m2 d2)) :
    Calls Try.prog 16 #[rcV r a n c b m d, rcV s a2 n2 c2 b2 m2 d2] w fun e w' => e = .returned (.bool true) ∧ Kept w w' nix := by
  have hk1 := alloc_kept w (.cells #[.int .i64 r.kind, .int .i64 r.conf.epoch, .slice a n c, .int .i64 r.pos, .int .i64 r.last, .slice b m d] 61)
  have hk2 := alloc_kept (w.alloc (.cells #[.int .i64 r.kind, .int .i64 r.conf.epoch, .slice a n c, .int .i64 r.pos, .int .i64 r.last, .slice b m d] 61)) (.cells #[.int .i64 s.kind, .int .i64 s.conf.epoch, .slice a2 n2 c2, .int .i64 s.pos, .int .i64 s.last, .slice b2 m2 d2] 61)
  have hB1 := (Blk.new_ w #[.int .i64 r.kind, .int .i64 r.conf.epoch, .slice a n c, .int .i64 r.pos, .int .i64 r.last, .slice b m d] 61).kept hk2 (fun h => h)
  have hB2 := Blk.new_ (w.alloc (.cells #[.int .i64 r.kind, .int .i64 r.conf.epoch, .slice a n c, .int .i64 r.pos, .int .i64 r.last, .slice b m d] 61)) #[.int .i64 s.kind, .int .i64 s.conf.epoch, .slice a2 n2 c2, .int .i64 s.pos, .int .i64 s.last, .slice b2 m2 d2] 61
  rw [World.size_alloc] at hB2
  have hkw := hk1.n hk2
  have hr1 := ShRc.kept hr hkw
  have hs1 := ShRc.kept hs hkw
  have ka := fun W => awake7_c W
  clear hr hs hk1 hk2
  have hout : (30 < m ∨ 30 < m2 ∨ 40 < n ∨ 40 < n2) ∨ (¬ 30 < m ∧ ¬ 30 < m2 ∧ ¬ 40 < n ∧ ¬ 40 < n2) := by omega
  rcases hout with hout | ⟨g1, g2, g3, g4⟩
  · have quick : ∀ (_ : decide (30 < m) = true ∨ True), True := fun _ => trivial
    clear quick
    by_cases g1 : 30 < m
    · go_enter Try.func16, Try.ntmps16
      go_wp2_with (go_at_call 55; refine (ka _).mono ?_; rintro e w2 ⟨rfl, hK2⟩)
      go_ret
      exact ⟨rfl, hkw.n hK2⟩
    by_cases g2 : 30 < m2
    · go_enter Try.func16, Try.ntmps16
      go_wp2_with (go_at_call 55; refine (ka _).mono ?_; rintro e w2 ⟨rfl, hK2⟩)
      go_ret
      exact ⟨rfl, hkw.n hK2⟩
    by_cases g3 : 40 < n
    · go_enter Try.func16, Try.ntmps16
      go_wp2_with (go_at_call 55; refine (ka _).mono ?_; rintro e w2 ⟨rfl, hK2⟩)
      go_ret
      exact ⟨rfl, hkw.n hK2⟩
    have g4 : 40 < n2 := by omega
    go_enter Try.func16, Try.ntmps16
    go_wp2_with (go_at_call 55; refine (ka _).mono ?_; rintro e w2 ⟨rfl, hK2⟩)
    go_ret
    exact ⟨rfl, hkw.n hK2⟩
  have hnn : n ≤ 1000000000000 ∧ n2 ≤ 1000000000000 := by omega
  go_enter Try.func16, Try.ntmps16
  go_wp2_with fail
  generalize (w.alloc (.cells #[.int .i64 r.kind, .int .i64 r.conf.epoch, .slice a n c, .int .i64 r.pos, .int .i64 r.last, .slice b m d] 61)).alloc (.cells #[.int .i64 s.kind, .int .i64 s.conf.epoch, .slice a2 n2 c2, .int .i64 s.pos, .int .i64 s.last, .slice b2 m2 d2] 61) = w1 at *
  refine (encode_c w1 _ r a n c b m d hr1).mono ?_
  rintro e w2 ⟨a3, m3, c3, rfl, hO2, hK2⟩
  have p0 := (hB2.kept hK2 (fun h => h)).cell 0
  have p1 := (hB2.kept hK2 (fun h => h)).cell 1
  have p2 := (hB2.kept hK2 (fun h => h)).cell 2
  have p3 := (hB2.kept hK2 (fun h => h)).cell 3
  have p4 := (hB2.kept hK2 (fun h => h)).cell 4
  have p5 := (hB2.kept hK2 (fun h => h)).cell 5
  simp at p0 p1 p2 p3 p4 p5
  obtain ⟨e1, he1⟩ : ∃ x, recEnc r = x := ⟨_, rfl⟩
  obtain ⟨e2, he2⟩ : ∃ x, recEnc s = x := ⟨_, rfl⟩
  have k3 := encode_c w2 _ s a2 n2 c2 b2 m2 d2 (ShRc.kept hs1 hK2)
  rw [he1] at hO2 ⊢
  rw [he2] at k3
  obtain ⟨x1, y1⟩ := e1
  obtain ⟨x2, y2⟩ := e2
  simp only at hO2 k3 ⊢
  go_wp2_with fail
  with_reducible refine k3.mono ?_
  rintro e wb ⟨a4, m4, c4, rfl, hO3, hK3⟩
  have hkb := hkw.n (hK2.n hK3)
  clear p0 p1 p2 p3 p4 p5
  cases hok : recOk r
  · have hE : recEnc r = ([], 2) := by simp [recEnc, hok]
    rw [hE] at he1
    obtain ⟨rfl, rfl⟩ := Prod.mk.inj he1
    clear he1 he2 hok hE
    go_wp2_with fail
    have s0_0 : Kept wb wb.drew nix := (Kept.refl _ _).drew
    refine wp_region_held (S := fun W => Kept wb W nix ∧ True) (by kernel_rfl) ?_
    have HS : Kept wb wb.drew nix ∧ True := ⟨s0_0, trivial⟩
    show wpAnyH _ _ _ _ _ _ _ _ wb.drew
    refine wpAnyH_one (i := 0) (oi := { dst := some 44, op := Op.call { callee := Callee.value (Operand.func 55), args := #[], argTypes := #[] }, type := 4, pos := "law.go:71", after := #[], guard := none }) rfl (by kernel_rfl) (by rfl) (fun K hK => ?_)
    go_simp
    (with_reducible refine (ka _).mono ?_); rintro e w5 ⟨rfl, hK5⟩
    have s0_1 := s0_0.n hK5
    have s1_1 := Kept.refl w5 nix
    clear HS
    refine hK _ _ (fun W => Kept w5 W nix ∧ Kept wb W nix ∧ True) ⟨s1_1, s0_1, trivial⟩ (fun _ h => h.2) ?_
    have HS : Kept w5 w5 nix ∧ Kept wb w5 nix ∧ True := ⟨s1_1, s0_1, trivial⟩
    clear hK K
    try simp only [Act.put, List.setIfInBounds_toArray, List.set_cons_zero, List.set_cons_succ]
    refine wpAnyH_take (i := 1) (oi := { dst := some 45, op := Op.move (Operand.tmp 44), type := 4, pos := "law.go:71", after := #[{ on := 0, ground := Ground.data }, { on := 0, ground := Ground.chain }], guard := none }) (v := ?_) rfl (by kernel_rfl) (by kernel_rfl) (by kernel_rfl) (fun _ _ _ h => h) (.inl ⟨by rfl, fun W hS => ?_⟩) HS ?_
    rotate_left
    · obtain ⟨t1, t0, -⟩ := hS
      go_simp
      try with_reducible rfl
    rotate_left
    try simp only [Act.put, List.setIfInBounds_toArray, List.set_cons_zero, List.set_cons_succ]
    refine wpAnyH_take (i := 2) (oi := { dst := some 46, op := Op.move (Operand.tmp 6), type := 44, pos := "law.go:71", after := #[{ on := 1, ground := Ground.guard }], guard := some (1, true) }) (v := ?_) rfl (by kernel_rfl) (by kernel_rfl) (by kernel_rfl) (fun _ _ _ h => h) (.inl ⟨by rfl, fun W hS => ?_⟩) HS ?_
    rotate_left
    · obtain ⟨t1, t0, -⟩ := hS
      go_simp
      try with_reducible rfl
    rotate_left
    try simp only [Act.put, List.setIfInBounds_toArray, List.set_cons_zero, List.set_cons_succ]
    refine wpAnyH_take (i := 3) (oi := { dst := some 47, op := Op.binOp BinOp.neq 44 (Operand.tmp 46) (Operand.const (Value.int IntKind.i64 0)) 44, type := 4, pos := "law.go:71", after := #[{ on := 2, ground := Ground.data }, { on := 1, ground := Ground.guard }], guard := some (1, true) }) (v := ?_) rfl (by kernel_rfl) (by kernel_rfl) (by kernel_rfl) (fun _ _ _ h => h) (.inl ⟨by rfl, fun W hS => ?_⟩) HS ?_
    rotate_left
    · obtain ⟨t1, t0, -⟩ := hS
      go_simp
      try with_reducible rfl
    rotate_left
    try simp only [Act.put, List.setIfInBounds_toArray, List.set_cons_zero, List.set_cons_succ]
    refine wpAnyH_take (i := 4) (oi := { dst := some 48, op := Op.move (Operand.tmp 47), type := 4, pos := "law.go:71", after := #[{ on := 3, ground := Ground.data }, { on := 1, ground := Ground.chain }, { on := 1, ground := Ground.guard }], guard := some (1, true) }) (v := ?_) rfl (by kernel_rfl) (by kernel_rfl) (by kernel_rfl) (fun _ _ _ h => h) (.inl ⟨by rfl, fun W hS => ?_⟩) HS ?_
    rotate_left
    · obtain ⟨t1, t0, -⟩ := hS
      go_simp
      try with_reducible rfl
    rotate_left
    try simp only [Act.put, List.setIfInBounds_toArray, List.set_cons_zero, List.set_cons_succ]
    refine wpAnyH_take (i := 5) (oi := { dst := some 49, op := Op.move (Operand.tmp 8), type := 44, pos := "law.go:71", after := #[{ on := 4, ground := Ground.guard }], guard := some (4, false) }) (v := undef) rfl (by kernel_rfl) (by kernel_rfl) (by kernel_rfl) (fun _ _ _ h => h) (.inr ⟨by rfl, rfl⟩) HS ?_
    try simp only [Act.put, List.setIfInBounds_toArray, List.set_cons_zero, List.set_cons_succ]
    refine wpAnyH_take (i := 6) (oi := { dst := some 50, op := Op.binOp BinOp.neq 44 (Operand.tmp 49) (Operand.const (Value.int IntKind.i64 0)) 44, type := 4, pos := "law.go:71", after := #[{ on := 5, ground := Ground.data }, { on := 4, ground := Ground.guard }], guard := some (4, false) }) (v := undef) rfl (by kernel_rfl) (by kernel_rfl) (by kernel_rfl) (fun _ _ _ h => h) (.inr ⟨by rfl, rfl⟩) HS ?_
    try simp only [Act.put, List.setIfInBounds_toArray, List.set_cons_zero, List.set_cons_succ]
    refine wpAnyH_take (i := 7) (oi := { dst := some 51, op := Op.pick (Operand.tmp 48) (Operand.const (Value.bool true)) (Operand.tmp 50), type := 4, pos := "law.go:71", after := #[{ on := 4, ground := Ground.data }, { on := 6, ground := Ground.data }, { on := 1, ground := Ground.guard }], guard := some (1, true) }) (v := ?_) rfl (by kernel_rfl) (by kernel_rfl) (by kernel_rfl) (fun _ _ _ h => h) (.inl ⟨by rfl, fun W hS => ?_⟩) HS ?_
    rotate_left
    · obtain ⟨t1, t0, -⟩ := hS
      go_simp
      try with_reducible rfl
    rotate_left
    try simp only [Act.put, List.setIfInBounds_toArray, List.set_cons_zero, List.set_cons_succ]
    refine wpAnyH_take (i := 8) (oi := { dst := some 52, op := Op.move (Operand.tmp 51), type := 4, pos := "law.go:71", after := #[{ on := 7, ground := Ground.data }, { on := 4, ground := Ground.chain }, { on := 1, ground := Ground.guard }], guard := some (1, true) }) (v := ?_) rfl (by kernel_rfl) (by kernel_rfl) (by kernel_rfl) (fun _ _ _ h => h) (.inl ⟨by rfl, fun W hS => ?_⟩) HS ?_
    rotate_left
    · obtain ⟨t1, t0, -⟩ := hS
      go_simp
      try with_reducible rfl
    rotate_left
    try simp only [Act.put, List.setIfInBounds_toArray, List.set_cons_zero, List.set_cons_succ]
    refine wpAnyH_take (i := 9) (oi := { dst := some 53, op := Op.move (Operand.tmp 5), type := 22, pos := "law.go:71", after := #[{ on := 8, ground := Ground.guard }], guard := some (8, false) }) (v := undef) rfl (by kernel_rfl) (by kernel_rfl) (by kernel_rfl) (fun _ _ _ h => h) (.inr ⟨by rfl, rfl⟩) HS ?_
    try simp only [Act.put, List.setIfInBounds_toArray, List.set_cons_zero, List.set_cons_succ]
    refine wpAnyH_take (i := 10) (oi := { dst := some 54, op := Op.convert 22 9 (Operand.tmp 53), type := 9, pos := "law.go:71", after := #[{ on := 9, ground := Ground.data }, { on := 8, ground := Ground.guard }], guard := some (8, false) }) (v := undef) rfl (by kernel_rfl) (by kernel_rfl) (by kernel_rfl) (fun _ _ _ h => h) (.inr ⟨by rfl, rfl⟩) HS ?_
    try simp only [Act.put, List.setIfInBounds_toArray, List.set_cons_zero, List.set_cons_succ]
    refine wpAnyH_take (i := 11) (oi := { dst := some 55, op := Op.move (Operand.tmp 7), type := 22, pos := "law.go:71", after := #[{ on := 8, ground := Ground.guard }], guard := some (8, false) }) (v := undef) rfl (by kernel_rfl) (by kernel_rfl) (by kernel_rfl) (fun _ _ _ h => h) (.inr ⟨by rfl, rfl⟩) HS ?_
    try simp only [Act.put, List.setIfInBounds_toArray, List.set_cons_zero, List.set_cons_succ]
    refine wpAnyH_take (i := 12) (oi := { dst := some 56, op := Op.convert 22 9 (Operand.tmp 55), type := 9, pos := "law.go:71", after := #[{ on := 11, ground := Ground.data }, { on := 8, ground := Ground.guard }], guard := some (8, false) }) (v := undef) rfl (by kernel_rfl) (by kernel_rfl) (by kernel_rfl) (fun _ _ _ h => h) (.inr ⟨by rfl, rfl⟩) HS ?_
    try simp only [Act.put, List.setIfInBounds_toArray, List.set_cons_zero, List.set_cons_succ]
    refine wpAnyH_take (i := 13) (oi := { dst := some 57, op := Op.binOp BinOp.eql 9 (Operand.tmp 54) (Operand.tmp 56) 9, type := 4, pos := "law.go:71", after := #[{ on := 10, ground := Ground.data }, { on := 12, ground := Ground.data }, { on := 8, ground := Ground.guard }], guard := some (8, false) }) (v := undef) rfl (by kernel_rfl) (by kernel_rfl) (by kernel_rfl) (fun _ _ _ h => h) (.inr ⟨by rfl, rfl⟩) HS ?_
    try simp only [Act.put, List.setIfInBounds_toArray, List.set_cons_zero, List.set_cons_succ]
    refine wpAnyH_take (i := 14) (oi := { dst := some 58, op := Op.load 61 (Operand.tmp 2), type := 61, pos := "law.go:71", after := #[{ on := 8, ground := Ground.guard }], guard := some (8, false) }) (v := undef) rfl (by kernel_rfl) (by kernel_rfl) (by kernel_rfl) (fun _ _ _ h => h) (.inr ⟨by rfl, rfl⟩) HS ?_
    try simp only [Act.put, List.setIfInBounds_toArray, List.set_cons_zero, List.set_cons_succ]
    refine wpAnyH_take (i := 15) (oi := { dst := some 59, op := Op.load 61 (Operand.tmp 3), type := 61, pos := "law.go:71", after := #[{ on := 8, ground := Ground.guard }], guard := some (8, false) }) (v := undef) rfl (by kernel_rfl) (by kernel_rfl) (by kernel_rfl) (fun _ _ _ h => h) (.inr ⟨by rfl, rfl⟩) HS ?_
    try simp only [Act.put, List.setIfInBounds_toArray, List.set_cons_zero, List.set_cons_succ]
    refine wpAnyH_take (i := 16) (oi := { dst := some 60, op := Op.call { callee := Callee.value (Operand.func 60), args := #[Operand.tmp 58, Operand.tmp 59], argTypes := #[61, 61] }, type := 4, pos := "law.go:71", after := #[{ on := 14, ground := Ground.data }, { on := 15, ground := Ground.data }, { on := 8, ground := Ground.chain }, { on := 8, ground := Ground.guard }], guard := some (8, false) }) (v := undef) rfl (by kernel_rfl) (by kernel_rfl) (by kernel_rfl) (fun _ _ _ h => h) (.inr ⟨by rfl, rfl⟩) HS ?_
    try simp only [Act.put, List.setIfInBounds_toArray, List.set_cons_zero, List.set_cons_succ]
    refine wpAnyH_take (i := 17) (oi := { dst := some 61, op := Op.binOp BinOp.eql 4 (Operand.tmp 57) (Operand.tmp 60) 4, type := 4, pos := "law.go:71", after := #[{ on := 13, ground := Ground.data }, { on := 16, ground := Ground.data }, { on := 8, ground := Ground.guard }], guard := some (8, false) }) (v := undef) rfl (by kernel_rfl) (by kernel_rfl) (by kernel_rfl) (fun _ _ _ h => h) (.inr ⟨by rfl, rfl⟩) HS ?_
    try simp only [Act.put, List.setIfInBounds_toArray, List.set_cons_zero, List.set_cons_succ]
    refine wpAnyH_take (i := 18) (oi := { dst := some 62, op := Op.pick (Operand.tmp 52) (Operand.const (Value.bool true)) (Operand.tmp 61), type := 4, pos := "law.go:71", after := #[{ on := 8, ground := Ground.data }, { on := 17, ground := Ground.data }, { on := 1, ground := Ground.guard }], guard := some (1, true) }) (v := ?_) rfl (by kernel_rfl) (by kernel_rfl) (by kernel_rfl) (fun _ _ _ h => h) (.inl ⟨by rfl, fun W hS => ?_⟩) HS ?_
    rotate_left
    · obtain ⟨t1, t0, -⟩ := hS
      go_simp
      try with_reducible rfl
    rotate_left
    try simp only [Act.put, List.setIfInBounds_toArray, List.set_cons_zero, List.set_cons_succ]
    refine wpAnyH_take (i := 19) (oi := { dst := some 63, op := Op.pick (Operand.tmp 45) (Operand.tmp 62) (Operand.const (Value.bool false)), type := 4, pos := "law.go:71", after := #[{ on := 1, ground := Ground.data }, { on := 18, ground := Ground.data }], guard := none }) (v := ?_) rfl (by kernel_rfl) (by kernel_rfl) (by kernel_rfl) (fun _ _ _ h => h) (.inl ⟨by rfl, fun W hS => ?_⟩) HS ?_
    rotate_left
    · obtain ⟨t1, t0, -⟩ := hS
      go_simp
      try with_reducible rfl
    rotate_left
    try simp only [Act.put, List.setIfInBounds_toArray, List.set_cons_zero, List.set_cons_succ]
    refine wpAnyH_take (i := 20) (oi := { dst := some 4, op := Op.assign (Operand.tmp 63), type := 4, pos := "law.go:71", after := #[{ on := 19, ground := Ground.data }, { on := 16, ground := Ground.chain }, { on := 0, ground := Ground.phase }, { on := 1, ground := Ground.phase }, { on := 2, ground := Ground.phase }, { on := 3, ground := Ground.phase }, { on := 4, ground := Ground.phase }, { on := 5, ground := Ground.phase }, { on := 6, ground := Ground.phase }, { on := 7, ground := Ground.phase }, { on := 8, ground := Ground.phase }, { on := 9, ground := Ground.phase }, { on := 10, ground := Ground.phase }, { on := 11, ground := Ground.phase }, { on := 12, ground := Ground.phase }, { on := 13, ground := Ground.phase }, { on := 14, ground := Ground.phase }, { on := 15, ground := Ground.phase }, { on := 16, ground := Ground.phase }, { on := 17, ground := Ground.phase }, { on := 18, ground := Ground.phase }, { on := 19, ground := Ground.phase }], guard := none }) (v := ?_) rfl (by kernel_rfl) (by kernel_rfl) (by kernel_rfl) (fun _ _ _ h => h) (.inl ⟨by rfl, fun W hS => ?_⟩) HS ?_
    rotate_left
    · obtain ⟨t1, t0, -⟩ := hS
      go_simp
      try with_reducible rfl
    rotate_left
    try simp only [Act.put, List.setIfInBounds_toArray, List.set_cons_zero, List.set_cons_succ]
    refine wpAnyH_done (by kernel_rfl) ?_ _
    go_wp2_with fail
    go_ret
    exact ⟨rfl, hkb.n s0_1⟩
  cases hok2 : recOk s
  · have hE : recEnc r = (recB r, 0) := by simp [recEnc, hok]
    have hE2 : recEnc s = ([], 2) := by simp [recEnc, hok2]
    rw [hE] at he1
    rw [hE2] at he2
    obtain ⟨rfl, rfl⟩ := Prod.mk.inj he1
    obtain ⟨rfl, rfl⟩ := Prod.mk.inj he2
    clear he1 he2 hok hok2 hE hE2
    go_wp2_with fail
    have s0_0 : Kept wb wb.drew nix := (Kept.refl _ _).drew
    refine wp_region_held (S := fun W => Kept wb W nix ∧ True) (by kernel_rfl) ?_
    have HS : Kept wb wb.drew nix ∧ True := ⟨s0_0, trivial⟩
    show wpAnyH _ _ _ _ _ _ _ _ wb.drew
    refine wpAnyH_one (i := 0) (oi := { dst := some 44, op := Op.call { callee := Callee.value (Operand.func 55), args := #[], argTypes := #[] }, type := 4, pos := "law.go:71", after := #[], guard := none }) rfl (by kernel_rfl) (by rfl) (fun K hK => ?_)
    go_simp
    (with_reducible refine (ka _).mono ?_); rintro e w5 ⟨rfl, hK5⟩
    have s0_1 := s0_0.n hK5
    have s1_1 := Kept.refl w5 nix
    clear HS
    refine hK _ _ (fun W => Kept w5 W nix ∧ Kept wb W nix ∧ True) ⟨s1_1, s0_1, trivial⟩ (fun _ h => h.2) ?_
    have HS : Kept w5 w5 nix ∧ Kept wb w5 nix ∧ True := ⟨s1_1, s0_1, trivial⟩
    clear hK K
    try simp only [Act.put, List.setIfInBounds_toArray, List.set_cons_zero, List.set_cons_succ]
    refine wpAnyH_take (i := 1) (oi := { dst := some 45, op := Op.move (Operand.tmp 44), type := 4, pos := "law.go:71", after := #[{ on := 0, ground := Ground.data }, { on := 0, ground := Ground.chain }], guard := none }) (v := ?_) rfl (by kernel_rfl) (by kernel_rfl) (by kernel_rfl) (fun _ _ _ h => h) (.inl ⟨by rfl, fun W hS => ?_⟩) HS ?_
    rotate_left
    · obtain ⟨t1, t0, -⟩ := hS
      go_simp
      try with_reducible rfl
    rotate_left
    try simp only [Act.put, List.setIfInBounds_toArray, List.set_cons_zero, List.set_cons_succ]
    refine wpAnyH_take (i := 2) (oi := { dst := some 46, op := Op.move (Operand.tmp 6), type := 44, pos := "law.go:71", after := #[{ on := 1, ground := Ground.guard }], guard := some (1, true) }) (v := ?_) rfl (by kernel_rfl) (by kernel_rfl) (by kernel_rfl) (fun _ _ _ h => h) (.inl ⟨by rfl, fun W hS => ?_⟩) HS ?_
    rotate_left
    · obtain ⟨t1, t0, -⟩ := hS
      go_simp
      try with_reducible rfl
    rotate_left
    try simp only [Act.put, List.setIfInBounds_toArray, List.set_cons_zero, List.set_cons_succ]
    refine wpAnyH_take (i := 3) (oi := { dst := some 47, op := Op.binOp BinOp.neq 44 (Operand.tmp 46) (Operand.const (Value.int IntKind.i64 0)) 44, type := 4, pos := "law.go:71", after := #[{ on := 2, ground := Ground.data }, { on := 1, ground := Ground.guard }], guard := some (1, true) }) (v := ?_) rfl (by kernel_rfl) (by kernel_rfl) (by kernel_rfl) (fun _ _ _ h => h) (.inl ⟨by rfl, fun W hS => ?_⟩) HS ?_
    rotate_left
    · obtain ⟨t1, t0, -⟩ := hS
      go_simp
      try with_reducible rfl
    rotate_left
    try simp only [Act.put, List.setIfInBounds_toArray, List.set_cons_zero, List.set_cons_succ]
    refine wpAnyH_take (i := 4) (oi := { dst := some 48, op := Op.move (Operand.tmp 47), type := 4, pos := "law.go:71", after := #[{ on := 3, ground := Ground.data }, { on := 1, ground := Ground.chain }, { on := 1, ground := Ground.guard }], guard := some (1, true) }) (v := ?_) rfl (by kernel_rfl) (by kernel_rfl) (by kernel_rfl) (fun _ _ _ h => h) (.inl ⟨by rfl, fun W hS => ?_⟩) HS ?_
    rotate_left
    · obtain ⟨t1, t0, -⟩ := hS
      go_simp
      try with_reducible rfl
    rotate_left
    try simp only [Act.put, List.setIfInBounds_toArray, List.set_cons_zero, List.set_cons_succ]
    refine wpAnyH_take (i := 5) (oi := { dst := some 49, op := Op.move (Operand.tmp 8), type := 44, pos := "law.go:71", after := #[{ on := 4, ground := Ground.guard }], guard := some (4, false) }) (v := ?_) rfl (by kernel_rfl) (by kernel_rfl) (by kernel_rfl) (fun _ _ _ h => h) (.inl ⟨by rfl, fun W hS => ?_⟩) HS ?_
    rotate_left
    · obtain ⟨t1, t0, -⟩ := hS
      go_simp
      try with_reducible rfl
    rotate_left
    try simp only [Act.put, List.setIfInBounds_toArray, List.set_cons_zero, List.set_cons_succ]
    refine wpAnyH_take (i := 6) (oi := { dst := some 50, op := Op.binOp BinOp.neq 44 (Operand.tmp 49) (Operand.const (Value.int IntKind.i64 0)) 44, type := 4, pos := "law.go:71", after := #[{ on := 5, ground := Ground.data }, { on := 4, ground := Ground.guard }], guard := some (4, false) }) (v := ?_) rfl (by kernel_rfl) (by kernel_rfl) (by kernel_rfl) (fun _ _ _ h => h) (.inl ⟨by rfl, fun W hS => ?_⟩) HS ?_
    rotate_left
    · obtain ⟨t1, t0, -⟩ := hS
      go_simp
      try with_reducible rfl
    rotate_left
    try simp only [Act.put, List.setIfInBounds_toArray, List.set_cons_zero, List.set_cons_succ]
    refine wpAnyH_take (i := 7) (oi := { dst := some 51, op := Op.pick (Operand.tmp 48) (Operand.const (Value.bool true)) (Operand.tmp 50), type := 4, pos := "law.go:71", after := #[{ on := 4, ground := Ground.data }, { on := 6, ground := Ground.data }, { on := 1, ground := Ground.guard }], guard := some (1, true) }) (v := ?_) rfl (by kernel_rfl) (by kernel_rfl) (by kernel_rfl) (fun _ _ _ h => h) (.inl ⟨by rfl, fun W hS => ?_⟩) HS ?_
    rotate_left
    · obtain ⟨t1, t0, -⟩ := hS
      go_simp
      try with_reducible rfl
    rotate_left
    try simp only [Act.put, List.setIfInBounds_toArray, List.set_cons_zero, List.set_cons_succ]
    refine wpAnyH_take (i := 8) (oi := { dst := some 52, op := Op.move (Operand.tmp 51), type := 4, pos := "law.go:71", after := #[{ on := 7, ground := Ground.data }, { on := 4, ground := Ground.chain }, { on := 1, ground := Ground.guard }], guard := some (1, true) }) (v := ?_) rfl (by kernel_rfl) (by kernel_rfl) (by kernel_rfl) (fun _ _ _ h => h) (.inl ⟨by rfl, fun W hS => ?_⟩) HS ?_
    rotate_left
    · obtain ⟨t1, t0, -⟩ := hS
      go_simp
      try with_reducible rfl
    rotate_left
    try simp only [Act.put, List.setIfInBounds_toArray, List.set_cons_zero, List.set_cons_succ]
    refine wpAnyH_take (i := 9) (oi := { dst := some 53, op := Op.move (Operand.tmp 5), type := 22, pos := "law.go:71", after := #[{ on := 8, ground := Ground.guard }], guard := some (8, false) }) (v := undef) rfl (by kernel_rfl) (by kernel_rfl) (by kernel_rfl) (fun _ _ _ h => h) (.inr ⟨by rfl, rfl⟩) HS ?_
    try simp only [Act.put, List.setIfInBounds_toArray, List.set_cons_zero, List.set_cons_succ]
    refine wpAnyH_take (i := 10) (oi := { dst := some 54, op := Op.convert 22 9 (Operand.tmp 53), type := 9, pos := "law.go:71", after := #[{ on := 9, ground := Ground.data }, { on := 8, ground := Ground.guard }], guard := some (8, false) }) (v := undef) rfl (by kernel_rfl) (by kernel_rfl) (by kernel_rfl) (fun _ _ _ h => h) (.inr ⟨by rfl, rfl⟩) HS ?_
    try simp only [Act.put, List.setIfInBounds_toArray, List.set_cons_zero, List.set_cons_succ]
    refine wpAnyH_take (i := 11) (oi := { dst := some 55, op := Op.move (Operand.tmp 7), type := 22, pos := "law.go:71", after := #[{ on := 8, ground := Ground.guard }], guard := some (8, false) }) (v := undef) rfl (by kernel_rfl) (by kernel_rfl) (by kernel_rfl) (fun _ _ _ h => h) (.inr ⟨by rfl, rfl⟩) HS ?_
    try simp only [Act.put, List.setIfInBounds_toArray, List.set_cons_zero, List.set_cons_succ]
    refine wpAnyH_take (i := 12) (oi := { dst := some 56, op := Op.convert 22 9 (Operand.tmp 55), type := 9, pos := "law.go:71", after := #[{ on := 11, ground := Ground.data }, { on := 8, ground := Ground.guard }], guard := some (8, false) }) (v := undef) rfl (by kernel_rfl) (by kernel_rfl) (by kernel_rfl) (fun _ _ _ h => h) (.inr ⟨by rfl, rfl⟩) HS ?_
    try simp only [Act.put, List.setIfInBounds_toArray, List.set_cons_zero, List.set_cons_succ]
    refine wpAnyH_take (i := 13) (oi := { dst := some 57, op := Op.binOp BinOp.eql 9 (Operand.tmp 54) (Operand.tmp 56) 9, type := 4, pos := "law.go:71", after := #[{ on := 10, ground := Ground.data }, { on := 12, ground := Ground.data }, { on := 8, ground := Ground.guard }], guard := some (8, false) }) (v := undef) rfl (by kernel_rfl) (by kernel_rfl) (by kernel_rfl) (fun _ _ _ h => h) (.inr ⟨by rfl, rfl⟩) HS ?_
    try simp only [Act.put, List.setIfInBounds_toArray, List.set_cons_zero, List.set_cons_succ]
    refine wpAnyH_take (i := 14) (oi := { dst := some 58, op := Op.load 61 (Operand.tmp 2), type := 61, pos := "law.go:71", after := #[{ on := 8, ground := Ground.guard }], guard := some (8, false) }) (v := undef) rfl (by kernel_rfl) (by kernel_rfl) (by kernel_rfl) (fun _ _ _ h => h) (.inr ⟨by rfl, rfl⟩) HS ?_
    try simp only [Act.put, List.setIfInBounds_toArray, List.set_cons_zero, List.set_cons_succ]
    refine wpAnyH_take (i := 15) (oi := { dst := some 59, op := Op.load 61 (Operand.tmp 3), type := 61, pos := "law.go:71", after := #[{ on := 8, ground := Ground.guard }], guard := some (8, false) }) (v := undef) rfl (by kernel_rfl) (by kernel_rfl) (by kernel_rfl) (fun _ _ _ h => h) (.inr ⟨by rfl, rfl⟩) HS ?_
    try simp only [Act.put, List.setIfInBounds_toArray, List.set_cons_zero, List.set_cons_succ]
    refine wpAnyH_take (i := 16) (oi := { dst := some 60, op := Op.call { callee := Callee.value (Operand.func 60), args := #[Operand.tmp 58, Operand.tmp 59], argTypes := #[61, 61] }, type := 4, pos := "law.go:71", after := #[{ on := 14, ground := Ground.data }, { on := 15, ground := Ground.data }, { on := 8, ground := Ground.chain }, { on := 8, ground := Ground.guard }], guard := some (8, false) }) (v := undef) rfl (by kernel_rfl) (by kernel_rfl) (by kernel_rfl) (fun _ _ _ h => h) (.inr ⟨by rfl, rfl⟩) HS ?_
    try simp only [Act.put, List.setIfInBounds_toArray, List.set_cons_zero, List.set_cons_succ]
    refine wpAnyH_take (i := 17) (oi := { dst := some 61, op := Op.binOp BinOp.eql 4 (Operand.tmp 57) (Operand.tmp 60) 4, type := 4, pos := "law.go:71", after := #[{ on := 13, ground := Ground.data }, { on := 16, ground := Ground.data }, { on := 8, ground := Ground.guard }], guard := some (8, false) }) (v := undef) rfl (by kernel_rfl) (by kernel_rfl) (by kernel_rfl) (fun _ _ _ h => h) (.inr ⟨by rfl, rfl⟩) HS ?_
    try simp only [Act.put, List.setIfInBounds_toArray, List.set_cons_zero, List.set_cons_succ]
    refine wpAnyH_take (i := 18) (oi := { dst := some 62, op := Op.pick (Operand.tmp 52) (Operand.const (Value.bool true)) (Operand.tmp 61), type := 4, pos := "law.go:71", after := #[{ on := 8, ground := Ground.data }, { on := 17, ground := Ground.data }, { on := 1, ground := Ground.guard }], guard := some (1, true) }) (v := ?_) rfl (by kernel_rfl) (by kernel_rfl) (by kernel_rfl) (fun _ _ _ h => h) (.inl ⟨by rfl, fun W hS => ?_⟩) HS ?_
    rotate_left
    · obtain ⟨t1, t0, -⟩ := hS
      go_simp
      try with_reducible rfl
    rotate_left
    try simp only [Act.put, List.setIfInBounds_toArray, List.set_cons_zero, List.set_cons_succ]
    refine wpAnyH_take (i := 19) (oi := { dst := some 63, op := Op.pick (Operand.tmp 45) (Operand.tmp 62) (Operand.const (Value.bool false)), type := 4, pos := "law.go:71", after := #[{ on := 1, ground := Ground.data }, { on := 18, ground := Ground.data }], guard := none }) (v := ?_) rfl (by kernel_rfl) (by kernel_rfl) (by kernel_rfl) (fun _ _ _ h => h) (.inl ⟨by rfl, fun W hS => ?_⟩) HS ?_
    rotate_left
    · obtain ⟨t1, t0, -⟩ := hS
      go_simp
      try with_reducible rfl
    rotate_left
    try simp only [Act.put, List.setIfInBounds_toArray, List.set_cons_zero, List.set_cons_succ]
    refine wpAnyH_take (i := 20) (oi := { dst := some 4, op := Op.assign (Operand.tmp 63), type := 4, pos := "law.go:71", after := #[{ on := 19, ground := Ground.data }, { on := 16, ground := Ground.chain }, { on := 0, ground := Ground.phase }, { on := 1, ground := Ground.phase }, { on := 2, ground := Ground.phase }, { on := 3, ground := Ground.phase }, { on := 4, ground := Ground.phase }, { on := 5, ground := Ground.phase }, { on := 6, ground := Ground.phase }, { on := 7, ground := Ground.phase }, { on := 8, ground := Ground.phase }, { on := 9, ground := Ground.phase }, { on := 10, ground := Ground.phase }, { on := 11, ground := Ground.phase }, { on := 12, ground := Ground.phase }, { on := 13, ground := Ground.phase }, { on := 14, ground := Ground.phase }, { on := 15, ground := Ground.phase }, { on := 16, ground := Ground.phase }, { on := 17, ground := Ground.phase }, { on := 18, ground := Ground.phase }, { on := 19, ground := Ground.phase }], guard := none }) (v := ?_) rfl (by kernel_rfl) (by kernel_rfl) (by kernel_rfl) (fun _ _ _ h => h) (.inl ⟨by rfl, fun W hS => ?_⟩) HS ?_
    rotate_left
    · obtain ⟨t1, t0, -⟩ := hS
      go_simp
      try with_reducible rfl
    rotate_left
    try simp only [Act.put, List.setIfInBounds_toArray, List.set_cons_zero, List.set_cons_succ]
    refine wpAnyH_done (by kernel_rfl) ?_ _
    go_wp2_with fail
    go_ret
    exact ⟨rfl, hkb.n s0_1⟩
  · have hE : recEnc r = (recB r, 0) := by simp [recEnc, hok]
    have hE2 : recEnc s = (recB s, 0) := by simp [recEnc, hok2]
    rw [hE] at he1
    rw [hE2] at he2
    obtain ⟨rfl, rfl⟩ := Prod.mk.inj he1
    obtain ⟨rfl, rfl⟩ := Prod.mk.inj he2
    have l1 := recB_len hok
    have l2 := recB_len hok2
    clear he1 he2 hok hok2 hE hE2
    have hr5 := ShRc.kept hr1 (hK2.n hK3)
    have hs5 := ShRc.kept hs1 (hK2.n hK3)
    have hB1b := hB1.kept (hK2.n hK3) (fun h => h)
    have hB2b := hB2.kept (hK2.n hK3) (fun h => h)
    have q0 := fun W (hK : Kept wb W nix) => (hB1b.kept hK (fun h => h)).cell 0
    have q1 := fun W (hK : Kept wb W nix) => (hB1b.kept hK (fun h => h)).cell 1
    have q2 := fun W (hK : Kept wb W nix) => (hB1b.kept hK (fun h => h)).cell 2
    have q3 := fun W (hK : Kept wb W nix) => (hB1b.kept hK (fun h => h)).cell 3
    have q4 := fun W (hK : Kept wb W nix) => (hB1b.kept hK (fun h => h)).cell 4
    have q5 := fun W (hK : Kept wb W nix) => (hB1b.kept hK (fun h => h)).cell 5
    have p0 := fun W (hK : Kept wb W nix) => (hB2b.kept hK (fun h => h)).cell 0
    have p1 := fun W (hK : Kept wb W nix) => (hB2b.kept hK (fun h => h)).cell 1
    have p2 := fun W (hK : Kept wb W nix) => (hB2b.kept hK (fun h => h)).cell 2
    have p3 := fun W (hK : Kept wb W nix) => (hB2b.kept hK (fun h => h)).cell 3
    have p4 := fun W (hK : Kept wb W nix) => (hB2b.kept hK (fun h => h)).cell 4
    have p5 := fun W (hK : Kept wb W nix) => (hB2b.kept hK (fun h => h)).cell 5
    have r1 := fun W (hK : Kept wb W nix) => strBy (hO2.sl.kept (hK3.n hK) (fun _ _ => id))
    have r2 := fun W (hK : Kept wb W nix) => strBy (hO3.sl.kept hK (fun _ _ => id))
    simp at q0 q1 q2 q3 q4 q5 p0 p1 p2 p3 p4 p5
    go_wp2_with fail
    have s0_0 : Kept wb wb.drew nix := (Kept.refl _ _).drew
    refine wp_region_held (S := fun W => Kept wb W nix ∧ True) (by kernel_rfl) ?_
    have HS : Kept wb wb.drew nix ∧ True := ⟨s0_0, trivial⟩
    show wpAnyH _ _ _ _ _ _ _ _ wb.drew
    refine wpAnyH_one (i := 0) (oi := { dst := some 44, op := Op.call { callee := Callee.value (Operand.func 55), args := #[], argTypes := #[] }, type := 4, pos := "law.go:71", after := #[], guard := none }) rfl (by kernel_rfl) (by rfl) (fun K hK => ?_)
    go_simp
    (with_reducible refine (ka _).mono ?_); rintro e w5 ⟨rfl, hK5⟩
    have s0_1 := s0_0.n hK5
    have s1_1 := Kept.refl w5 nix
    clear HS
    refine hK _ _ (fun W => Kept w5 W nix ∧ Kept wb W nix ∧ True) ⟨s1_1, s0_1, trivial⟩ (fun _ h => h.2) ?_
    have HS : Kept w5 w5 nix ∧ Kept wb w5 nix ∧ True := ⟨s1_1, s0_1, trivial⟩
    clear hK K
    try simp only [Act.put, List.setIfInBounds_toArray, List.set_cons_zero, List.set_cons_succ]
    refine wpAnyH_take (i := 1) (oi := { dst := some 45, op := Op.move (Operand.tmp 44), type := 4, pos := "law.go:71", after := #[{ on := 0, ground := Ground.data }, { on := 0, ground := Ground.chain }], guard := none }) (v := ?_) rfl (by kernel_rfl) (by kernel_rfl) (by kernel_rfl) (fun _ _ _ h => h) (.inl ⟨by rfl, fun W hS => ?_⟩) HS ?_
    rotate_left
    · obtain ⟨t1, t0, -⟩ := hS
      go_simp
      try with_reducible rfl
    rotate_left
    try simp only [Act.put, List.setIfInBounds_toArray, List.set_cons_zero, List.set_cons_succ]
    refine wpAnyH_take (i := 2) (oi := { dst := some 46, op := Op.move (Operand.tmp 6), type := 44, pos := "law.go:71", after := #[{ on := 1, ground := Ground.guard }], guard := some (1, true) }) (v := ?_) rfl (by kernel_rfl) (by kernel_rfl) (by kernel_rfl) (fun _ _ _ h => h) (.inl ⟨by rfl, fun W hS => ?_⟩) HS ?_
    rotate_left
    · obtain ⟨t1, t0, -⟩ := hS
      go_simp
      try with_reducible rfl
    rotate_left
    try simp only [Act.put, List.setIfInBounds_toArray, List.set_cons_zero, List.set_cons_succ]
    refine wpAnyH_take (i := 3) (oi := { dst := some 47, op := Op.binOp BinOp.neq 44 (Operand.tmp 46) (Operand.const (Value.int IntKind.i64 0)) 44, type := 4, pos := "law.go:71", after := #[{ on := 2, ground := Ground.data }, { on := 1, ground := Ground.guard }], guard := some (1, true) }) (v := ?_) rfl (by kernel_rfl) (by kernel_rfl) (by kernel_rfl) (fun _ _ _ h => h) (.inl ⟨by rfl, fun W hS => ?_⟩) HS ?_
    rotate_left
    · obtain ⟨t1, t0, -⟩ := hS
      go_simp
      try with_reducible rfl
    rotate_left
    try simp only [Act.put, List.setIfInBounds_toArray, List.set_cons_zero, List.set_cons_succ]
    refine wpAnyH_take (i := 4) (oi := { dst := some 48, op := Op.move (Operand.tmp 47), type := 4, pos := "law.go:71", after := #[{ on := 3, ground := Ground.data }, { on := 1, ground := Ground.chain }, { on := 1, ground := Ground.guard }], guard := some (1, true) }) (v := ?_) rfl (by kernel_rfl) (by kernel_rfl) (by kernel_rfl) (fun _ _ _ h => h) (.inl ⟨by rfl, fun W hS => ?_⟩) HS ?_
    rotate_left
    · obtain ⟨t1, t0, -⟩ := hS
      go_simp
      try with_reducible rfl
    rotate_left
    try simp only [Act.put, List.setIfInBounds_toArray, List.set_cons_zero, List.set_cons_succ]
    refine wpAnyH_take (i := 5) (oi := { dst := some 49, op := Op.move (Operand.tmp 8), type := 44, pos := "law.go:71", after := #[{ on := 4, ground := Ground.guard }], guard := some (4, false) }) (v := ?_) rfl (by kernel_rfl) (by kernel_rfl) (by kernel_rfl) (fun _ _ _ h => h) (.inl ⟨by rfl, fun W hS => ?_⟩) HS ?_
    rotate_left
    · obtain ⟨t1, t0, -⟩ := hS
      go_simp
      try with_reducible rfl
    rotate_left
    try simp only [Act.put, List.setIfInBounds_toArray, List.set_cons_zero, List.set_cons_succ]
    refine wpAnyH_take (i := 6) (oi := { dst := some 50, op := Op.binOp BinOp.neq 44 (Operand.tmp 49) (Operand.const (Value.int IntKind.i64 0)) 44, type := 4, pos := "law.go:71", after := #[{ on := 5, ground := Ground.data }, { on := 4, ground := Ground.guard }], guard := some (4, false) }) (v := ?_) rfl (by kernel_rfl) (by kernel_rfl) (by kernel_rfl) (fun _ _ _ h => h) (.inl ⟨by rfl, fun W hS => ?_⟩) HS ?_
    rotate_left
    · obtain ⟨t1, t0, -⟩ := hS
      go_simp
      try with_reducible rfl
    rotate_left
    try simp only [Act.put, List.setIfInBounds_toArray, List.set_cons_zero, List.set_cons_succ]
    refine wpAnyH_take (i := 7) (oi := { dst := some 51, op := Op.pick (Operand.tmp 48) (Operand.const (Value.bool true)) (Operand.tmp 50), type := 4, pos := "law.go:71", after := #[{ on := 4, ground := Ground.data }, { on := 6, ground := Ground.data }, { on := 1, ground := Ground.guard }], guard := some (1, true) }) (v := ?_) rfl (by kernel_rfl) (by kernel_rfl) (by kernel_rfl) (fun _ _ _ h => h) (.inl ⟨by rfl, fun W hS => ?_⟩) HS ?_
    rotate_left
    · obtain ⟨t1, t0, -⟩ := hS
      go_simp
      try with_reducible rfl
    rotate_left
    try simp only [Act.put, List.setIfInBounds_toArray, List.set_cons_zero, List.set_cons_succ]
    refine wpAnyH_take (i := 8) (oi := { dst := some 52, op := Op.move (Operand.tmp 51), type := 4, pos := "law.go:71", after := #[{ on := 7, ground := Ground.data }, { on := 4, ground := Ground.chain }, { on := 1, ground := Ground.guard }], guard := some (1, true) }) (v := ?_) rfl (by kernel_rfl) (by kernel_rfl) (by kernel_rfl) (fun _ _ _ h => h) (.inl ⟨by rfl, fun W hS => ?_⟩) HS ?_
    rotate_left
    · obtain ⟨t1, t0, -⟩ := hS
      go_simp
      try with_reducible rfl
    rotate_left
    try simp only [Act.put, List.setIfInBounds_toArray, List.set_cons_zero, List.set_cons_succ]
    refine wpAnyH_take (i := 9) (oi := { dst := some 53, op := Op.move (Operand.tmp 5), type := 22, pos := "law.go:71", after := #[{ on := 8, ground := Ground.guard }], guard := some (8, false) }) (v := ?_) rfl (by kernel_rfl) (by kernel_rfl) (by kernel_rfl) (fun _ _ _ h => h) (.inl ⟨by rfl, fun W hS => ?_⟩) HS ?_
    rotate_left
    · obtain ⟨t1, t0, -⟩ := hS
      go_simp
      try with_reducible rfl
    rotate_left
    try simp only [Act.put, List.setIfInBounds_toArray, List.set_cons_zero, List.set_cons_succ]
    refine wpAnyH_take (i := 10) (oi := { dst := some 54, op := Op.convert 22 9 (Operand.tmp 53), type := 9, pos := "law.go:71", after := #[{ on := 9, ground := Ground.data }, { on := 8, ground := Ground.guard }], guard := some (8, false) }) (v := ?_) rfl (by kernel_rfl) (by kernel_rfl) (by kernel_rfl) (fun _ _ _ h => h) (.inl ⟨by rfl, fun W hS => ?_⟩) HS ?_
    rotate_left
    · obtain ⟨t1, t0, -⟩ := hS
      go_simp
      try with_reducible rfl
    rotate_left
    try simp only [Act.put, List.setIfInBounds_toArray, List.set_cons_zero, List.set_cons_succ]
    refine wpAnyH_take (i := 11) (oi := { dst := some 55, op := Op.move (Operand.tmp 7), type := 22, pos := "law.go:71", after := #[{ on := 8, ground := Ground.guard }], guard := some (8, false) }) (v := ?_) rfl (by kernel_rfl) (by kernel_rfl) (by kernel_rfl) (fun _ _ _ h => h) (.inl ⟨by rfl, fun W hS => ?_⟩) HS ?_
    rotate_left
    · obtain ⟨t1, t0, -⟩ := hS
      go_simp
      try with_reducible rfl
    rotate_left
    try simp only [Act.put, List.setIfInBounds_toArray, List.set_cons_zero, List.set_cons_succ]
    refine wpAnyH_take (i := 12) (oi := { dst := some 56, op := Op.convert 22 9 (Operand.tmp 55), type := 9, pos := "law.go:71", after := #[{ on := 11, ground := Ground.data }, { on := 8, ground := Ground.guard }], guard := some (8, false) }) (v := ?_) rfl (by kernel_rfl) (by kernel_rfl) (by kernel_rfl) (fun _ _ _ h => h) (.inl ⟨by rfl, fun W hS => ?_⟩) HS ?_
    rotate_left
    · obtain ⟨t1, t0, -⟩ := hS
      go_simp
      try with_reducible rfl
    rotate_left
    try simp only [Act.put, List.setIfInBounds_toArray, List.set_cons_zero, List.set_cons_succ]
    refine wpAnyH_take (i := 13) (oi := { dst := some 57, op := Op.binOp BinOp.eql 9 (Operand.tmp 54) (Operand.tmp 56) 9, type := 4, pos := "law.go:71", after := #[{ on := 10, ground := Ground.data }, { on := 12, ground := Ground.data }, { on := 8, ground := Ground.guard }], guard := some (8, false) }) (v := ?_) rfl (by kernel_rfl) (by kernel_rfl) (by kernel_rfl) (fun _ _ _ h => h) (.inl ⟨by rfl, fun W hS => ?_⟩) HS ?_
    rotate_left
    · obtain ⟨t1, t0, -⟩ := hS
      go_simp
      try with_reducible rfl
    rotate_left
    try simp only [Act.put, List.setIfInBounds_toArray, List.set_cons_zero, List.set_cons_succ]
    refine wpAnyH_take (i := 14) (oi := { dst := some 58, op := Op.load 61 (Operand.tmp 2), type := 61, pos := "law.go:71", after := #[{ on := 8, ground := Ground.guard }], guard := some (8, false) }) (v := ?_) rfl (by kernel_rfl) (by kernel_rfl) (by kernel_rfl) (fun _ _ _ h => h) (.inl ⟨by rfl, fun W hS => ?_⟩) HS ?_
    rotate_left
    · obtain ⟨t1, t0, -⟩ := hS
      go_simp
      try with_reducible rfl
    rotate_left
    try simp only [Act.put, List.setIfInBounds_toArray, List.set_cons_zero, List.set_cons_succ]
    refine wpAnyH_take (i := 15) (oi := { dst := some 59, op := Op.load 61 (Operand.tmp 3), type := 61, pos := "law.go:71", after := #[{ on := 8, ground := Ground.guard }], guard := some (8, false) }) (v := ?_) rfl (by kernel_rfl) (by kernel_rfl) (by kernel_rfl) (fun _ _ _ h => h) (.inl ⟨by rfl, fun W hS => ?_⟩) HS ?_
    rotate_left
    · obtain ⟨t1, t0, -⟩ := hS
      go_simp
      try with_reducible rfl
    rotate_left
    try simp only [Act.put, List.setIfInBounds_toArray, List.set_cons_zero, List.set_cons_succ]
    refine wpAnyH_one (i := 16) (oi := { dst := some 60, op := Op.call { callee := Callee.value (Operand.func 60), args := #[Operand.tmp 58, Operand.tmp 59], argTypes := #[61, 61] }, type := 4, pos := "law.go:71", after := #[{ on := 14, ground := Ground.data }, { on := 15, ground := Ground.data }, { on := 8, ground := Ground.chain }, { on := 8, ground := Ground.guard }], guard := some (8, false) }) rfl (by kernel_rfl) (by rfl) (fun K hK => ?_)
    go_simp
    refine (refsamerec_c _ _ _ r s a n c b m d a2 n2 c2 b2 m2 d2 (ShRc.kept hr5 s0_1) (ShRc.kept hs5 s0_1) (by omega) (by omega) hnn.1 hnn.2).mono ?_; rintro e w6 ⟨rfl, hK6⟩
    have s0_2 := s0_1.n hK6
    have s1_2 := s1_1.n hK6
    have s2_2 := Kept.refl w6 nix
    clear HS
    refine hK _ _ (fun W => Kept w6 W nix ∧ Kept w5 W nix ∧ Kept wb W nix ∧ True) ⟨s2_2, s1_2, s0_2, trivial⟩ (fun _ h => h.2) ?_
    have HS : Kept w6 w6 nix ∧ Kept w5 w6 nix ∧ Kept wb w6 nix ∧ True := ⟨s2_2, s1_2, s0_2, trivial⟩
    clear hK K
    try simp only [Act.put, List.setIfInBounds_toArray, List.set_cons_zero, List.set_cons_succ]
    refine wpAnyH_take (i := 17) (oi := { dst := some 61, op := Op.binOp BinOp.eql 4 (Operand.tmp 57) (Operand.tmp 60) 4, type := 4, pos := "law.go:71", after := #[{ on := 13, ground := Ground.data }, { on := 16, ground := Ground.data }, { on := 8, ground := Ground.guard }], guard := some (8, false) }) (v := ?_) rfl (by kernel_rfl) (by kernel_rfl) (by kernel_rfl) (fun _ _ _ h => h) (.inl ⟨by rfl, fun W hS => ?_⟩) HS ?_
    rotate_left
    · obtain ⟨t2, t1, t0, -⟩ := hS
      go_simp
      try with_reducible rfl
    rotate_left
    try simp only [Act.put, List.setIfInBounds_toArray, List.set_cons_zero, List.set_cons_succ]
    refine wpAnyH_take (i := 18) (oi := { dst := some 62, op := Op.pick (Operand.tmp 52) (Operand.const (Value.bool true)) (Operand.tmp 61), type := 4, pos := "law.go:71", after := #[{ on := 8, ground := Ground.data }, { on := 17, ground := Ground.data }, { on := 1, ground := Ground.guard }], guard := some (1, true) }) (v := ?_) rfl (by kernel_rfl) (by kernel_rfl) (by kernel_rfl) (fun _ _ _ h => h) (.inl ⟨by rfl, fun W hS => ?_⟩) HS ?_
    rotate_left
    · obtain ⟨t2, t1, t0, -⟩ := hS
      go_simp
      try with_reducible rfl
    rotate_left
    try simp only [Act.put, List.setIfInBounds_toArray, List.set_cons_zero, List.set_cons_succ]
    refine wpAnyH_take (i := 19) (oi := { dst := some 63, op := Op.pick (Operand.tmp 45) (Operand.tmp 62) (Operand.const (Value.bool false)), type := 4, pos := "law.go:71", after := #[{ on := 1, ground := Ground.data }, { on := 18, ground := Ground.data }], guard := none }) (v := ?_) rfl (by kernel_rfl) (by kernel_rfl) (by kernel_rfl) (fun _ _ _ h => h) (.inl ⟨by rfl, fun W hS => ?_⟩) HS ?_
    rotate_left
    · obtain ⟨t2, t1, t0, -⟩ := hS
      go_simp
      try with_reducible rfl
    rotate_left
    try simp only [Act.put, List.setIfInBounds_toArray, List.set_cons_zero, List.set_cons_succ]
    refine wpAnyH_take (i := 20) (oi := { dst := some 4, op := Op.assign (Operand.tmp 63), type := 4, pos := "law.go:71", after := #[{ on := 19, ground := Ground.data }, { on := 16, ground := Ground.chain }, { on := 0, ground := Ground.phase }, { on := 1, ground := Ground.phase }, { on := 2, ground := Ground.phase }, { on := 3, ground := Ground.phase }, { on := 4, ground := Ground.phase }, { on := 5, ground := Ground.phase }, { on := 6, ground := Ground.phase }, { on := 7, ground := Ground.phase }, { on := 8, ground := Ground.phase }, { on := 9, ground := Ground.phase }, { on := 10, ground := Ground.phase }, { on := 11, ground := Ground.phase }, { on := 12, ground := Ground.phase }, { on := 13, ground := Ground.phase }, { on := 14, ground := Ground.phase }, { on := 15, ground := Ground.phase }, { on := 16, ground := Ground.phase }, { on := 17, ground := Ground.phase }, { on := 18, ground := Ground.phase }, { on := 19, ground := Ground.phase }], guard := none }) (v := ?_) rfl (by kernel_rfl) (by kernel_rfl) (by kernel_rfl) (fun _ _ _ h => h) (.inl ⟨by rfl, fun W hS => ?_⟩) HS ?_
    rotate_left
    · obtain ⟨t2, t1, t0, -⟩ := hS
      go_simp
      try with_reducible rfl
    rotate_left
    try simp only [Act.put, List.setIfInBounds_toArray, List.set_cons_zero, List.set_cons_succ]
    refine wpAnyH_done (by kernel_rfl) ?_ _
    go_wp2_with fail
    go_ret
    exact ⟨by simp, hkb.n s0_2⟩
end Go.Proofs.Ytlhlljjchggnjaa
