/- EntrySounds: the walk. -/
import Derived.Test.YtlhlljjchggnjaaLaw7c
namespace Go.Proofs.Ytlhlljjchggnjaa
open Go.RowKit

theorem ent_eq_iff {x y : Ent} (hx : x.Wf) (hy : y.Wf) : (entB x == entB y) = entSame x y := by
  rw [Bool.eq_iff_iff]
  constructor
  · intro h
    have e := ent_codec.inj0 hx hy (by simpa using h)
    subst e
    simp [entSame]
  · intro h
    obtain ⟨x1, x2, x3, x4, x5, x6, x7, x8⟩ := x
    obtain ⟨y1, y2, y3, y4, y5, y6, y7, y8⟩ := y
    simp only [entSame, Bool.and_eq_true, decide_eq_true_eq] at h
    obtain ⟨⟨⟨⟨⟨⟨⟨rfl, rfl⟩, rfl⟩, rfl⟩, rfl⟩, rfl⟩, rfl⟩, rfl⟩ := h
    simp
theorem entSame_self (x : Ent) : entSame x x = true := by simp [entSame]

set_option maxRecDepth 100000 in
set_option maxHeartbeats 8000000 in
theorem entrysounds_c (w : World) (F F2 : Nat → Prop) (x y : Ent) (a : Option Addr) (n c : Nat) (a2 : Option Addr) (n2 c2 : Nat) (hx : ShEnt.R w F x (entCs x a n c)) (hy : ShEnt.R w F2 y (entCs y a2 n2 c2)) (hsx : x.key.length + n ≤ 140737488340000) (hsy : y.key.length + n2 ≤ 140737488340000) :
    Calls Try.prog 17 #[entV x a n c, entV y a2 n2 c2] w fun e w' => e = .returned (.bool true) ∧ Kept w w' nix := by
  obtain ⟨a_, n_, c_, he, hX, _, _, hwx⟩ := hx
  simp only [entCs, List.cons.injEq, Value.slice.injEq, and_true, true_and] at he
  obtain ⟨rfl, rfl, rfl⟩ := he
  obtain ⟨a_, n_, c_, he, hY, _, _, hwy⟩ := hy
  simp only [entCs, List.cons.injEq, Value.slice.injEq, and_true, true_and] at he
  obtain ⟨rfl, rfl, rfl⟩ := he
  have HE := hid (ent_eq_iff hwx hwy)
  have HWX := hid hwx
  have HWY := hid hwy
  have lx := hX.len
  have ly := hY.len
  clear hwx hwy
  have ka := fun W => awake7_c W
  have hk1 := alloc_kept w (.cells #[.int .i64 x.seq, .int .i64 x.client, .int .i64 x.num, .int .i64 x.op, strv x.key, .int .i64 x.size, .int .u32 x.sum, .slice a n c] 72)
  have hk2 := alloc_kept (w.alloc (.cells #[.int .i64 x.seq, .int .i64 x.client, .int .i64 x.num, .int .i64 x.op, strv x.key, .int .i64 x.size, .int .u32 x.sum, .slice a n c] 72)) (.cells #[.int .i64 y.seq, .int .i64 y.client, .int .i64 y.num, .int .i64 y.op, strv y.key, .int .i64 y.size, .int .u32 y.sum, .slice a2 n2 c2] 72)
  have hB1 := (Blk.new_ w #[.int .i64 x.seq, .int .i64 x.client, .int .i64 x.num, .int .i64 x.op, strv x.key, .int .i64 x.size, .int .u32 x.sum, .slice a n c] 72).kept hk2 (fun h => h)
  have hB2 := Blk.new_ (w.alloc (.cells #[.int .i64 x.seq, .int .i64 x.client, .int .i64 x.num, .int .i64 x.op, strv x.key, .int .i64 x.size, .int .u32 x.sum, .slice a n c] 72)) #[.int .i64 y.seq, .int .i64 y.client, .int .i64 y.num, .int .i64 y.op, strv y.key, .int .i64 y.size, .int .u32 y.sum, .slice a2 n2 c2] 72
  rw [World.size_alloc] at hB2
  have hkw := hk1.n hk2
  clear hk1 hk2
  obtain ⟨ok, hok⟩ : ∃ b, entOk x = b := ⟨_, rfl⟩
  obtain ⟨sm, hsm⟩ : ∃ b, entSame x y = b := ⟨_, rfl⟩
  have HOK := hid hok
  have HSM := hid hsm
  clear hok hsm
  go_enter Try.func17, Try.ntmps17
  go_wp2_with fail
  generalize (w.alloc (.cells #[.int .i64 x.seq, .int .i64 x.client, .int .i64 x.num, .int .i64 x.op, strv x.key, .int .i64 x.size, .int .u32 x.sum, .slice a n c] 72)).alloc (.cells #[.int .i64 y.seq, .int .i64 y.client, .int .i64 y.num, .int .i64 y.op, strv y.key, .int .i64 y.size, .int .u32 y.sum, .slice a2 n2 c2] 72) = wb at *
  have q0 := fun W (hK : Kept wb W nix) => (hB1.kept hK (fun h => h)).cell 0
  have q1 := fun W (hK : Kept wb W nix) => (hB1.kept hK (fun h => h)).cell 1
  have q2 := fun W (hK : Kept wb W nix) => (hB1.kept hK (fun h => h)).cell 2
  have q3 := fun W (hK : Kept wb W nix) => (hB1.kept hK (fun h => h)).cell 3
  have q4 := fun W (hK : Kept wb W nix) => (hB1.kept hK (fun h => h)).cell 4
  have q5 := fun W (hK : Kept wb W nix) => (hB1.kept hK (fun h => h)).cell 5
  have q6 := fun W (hK : Kept wb W nix) => (hB1.kept hK (fun h => h)).cell 6
  have q7 := fun W (hK : Kept wb W nix) => (hB1.kept hK (fun h => h)).cell 7
  have p0 := fun W (hK : Kept wb W nix) => (hB2.kept hK (fun h => h)).cell 0
  have p1 := fun W (hK : Kept wb W nix) => (hB2.kept hK (fun h => h)).cell 1
  have p2 := fun W (hK : Kept wb W nix) => (hB2.kept hK (fun h => h)).cell 2
  have p3 := fun W (hK : Kept wb W nix) => (hB2.kept hK (fun h => h)).cell 3
  have p4 := fun W (hK : Kept wb W nix) => (hB2.kept hK (fun h => h)).cell 4
  have p5 := fun W (hK : Kept wb W nix) => (hB2.kept hK (fun h => h)).cell 5
  have p6 := fun W (hK : Kept wb W nix) => (hB2.kept hK (fun h => h)).cell 6
  have p7 := fun W (hK : Kept wb W nix) => (hB2.kept hK (fun h => h)).cell 7
  simp at q0 q1 q2 q3 q4 q5 q6 q7 p0 p1 p2 p3 p4 p5 p6 p7
  cases ok <;> cases sm
  all_goals
    have s0_0 : Kept wb wb.drew nix := (Kept.refl _ _).drew
    refine wp_region_held (S := fun W => Kept wb W nix ∧ True) (by kernel_rfl) ?_
    have HS : Kept wb wb.drew nix ∧ True := ⟨s0_0, trivial⟩
    show wpAnyH _ _ _ _ _ _ _ _ wb.drew
    refine wpAnyH_one (i := 0) (oi := { dst := some 5, op := Op.call { callee := Callee.value (Operand.func 55), args := #[], argTypes := #[] }, type := 4, pos := "law.go:47", after := #[], guard := none }) rfl (by kernel_rfl) (by rfl) (fun K hK => ?_)
    go_simp
    (with_reducible refine (ka _).mono ?_); rintro e w1 ⟨rfl, hK1⟩
    have s0_1 := s0_0.n hK1
    have s1_1 := Kept.refl w1 nix
    clear HS
    refine hK _ _ (fun W => Kept w1 W nix ∧ Kept wb W nix ∧ True) ⟨s1_1, s0_1, trivial⟩ (fun _ h => h.2) ?_
    have HS : Kept w1 w1 nix ∧ Kept wb w1 nix ∧ True := ⟨s1_1, s0_1, trivial⟩
    clear hK K
    try simp only [Act.put, List.setIfInBounds_toArray, List.set_cons_zero, List.set_cons_succ]
    refine wpAnyH_take (i := 1) (oi := { dst := some 6, op := Op.move (Operand.tmp 5), type := 4, pos := "law.go:47", after := #[{ on := 0, ground := Ground.data }, { on := 0, ground := Ground.chain }], guard := none }) (v := ?_) rfl (by kernel_rfl) (by kernel_rfl) (by kernel_rfl) (fun _ _ _ h => h) (.inl ⟨by rfl, fun W hS => ?_⟩) HS ?_
    rotate_left
    · obtain ⟨t1, t0, -⟩ := hS
      go_simp
      try with_reducible rfl
    rotate_left
    try simp only [Act.put, List.setIfInBounds_toArray, List.set_cons_zero, List.set_cons_succ]
    refine wpAnyH_take (i := 2) (oi := { dst := some 7, op := Op.load 72 (Operand.tmp 2), type := 72, pos := "law.go:47", after := #[{ on := 1, ground := Ground.guard }], guard := some (1, true) }) (v := ?_) rfl (by kernel_rfl) (by kernel_rfl) (by kernel_rfl) (fun _ _ _ h => h) (.inl ⟨by rfl, fun W hS => ?_⟩) HS ?_
    rotate_left
    · obtain ⟨t1, t0, -⟩ := hS
      go_simp
      try with_reducible rfl
    rotate_left
    try simp only [Act.put, List.setIfInBounds_toArray, List.set_cons_zero, List.set_cons_succ]
    refine wpAnyH_take (i := 4) (oi := { dst := some 9, op := Op.load 72 (Operand.tmp 2), type := 72, pos := "law.go:47", after := #[{ on := 1, ground := Ground.guard }], guard := some (1, true) }) (v := ?_) rfl (by kernel_rfl) (by kernel_rfl) (by kernel_rfl) (fun _ _ _ h => h) (.inl ⟨by rfl, fun W hS => ?_⟩) HS ?_
    rotate_left
    · obtain ⟨t1, t0, -⟩ := hS
      go_simp
      try with_reducible rfl
    rotate_left
    try simp only [Act.put, List.setIfInBounds_toArray, List.set_cons_zero, List.set_cons_succ]
    refine wpAnyH_one (i := 3) (oi := { dst := some 8, op := Op.call { callee := Callee.value (Operand.func 61), args := #[Operand.tmp 7], argTypes := #[72] }, type := 4, pos := "law.go:47", after := #[{ on := 2, ground := Ground.data }, { on := 1, ground := Ground.chain }, { on := 1, ground := Ground.guard }], guard := some (1, true) }) rfl (by kernel_rfl) (by rfl) (fun K hK => ?_)
    go_simp
    refine (esound_c _ x a n c lx).mono ?_; rintro e w2 ⟨rfl, hK2⟩
    rw [HOK.out]
    have s0_2 := s0_1.n hK2
    have s1_2 := s1_1.n hK2
    have s2_2 := Kept.refl w2 nix
    clear HS
    refine hK _ _ (fun W => Kept w2 W nix ∧ Kept w1 W nix ∧ Kept wb W nix ∧ True) ⟨s2_2, s1_2, s0_2, trivial⟩ (fun _ h => h.2) ?_
    have HS : Kept w2 w2 nix ∧ Kept w1 w2 nix ∧ Kept wb w2 nix ∧ True := ⟨s2_2, s1_2, s0_2, trivial⟩
    clear hK K
    try simp only [Act.put, List.setIfInBounds_toArray, List.set_cons_zero, List.set_cons_succ]
    refine wpAnyH_one (i := 5) (oi := { dst := some 10, op := Op.call { callee := Callee.value (Operand.func 62), args := #[Operand.tmp 9], argTypes := #[72] }, type := 4, pos := "law.go:47", after := #[{ on := 4, ground := Ground.data }, { on := 3, ground := Ground.chain }, { on := 1, ground := Ground.guard }], guard := some (1, true) }) rfl (by kernel_rfl) (by rfl) (fun K hK => ?_)
    go_simp
    refine (refentry_c _ x a n c lx).mono ?_; rintro e w3 ⟨rfl, hK3⟩
    rw [HOK.out]
    have s0_3 := s0_2.n hK3
    have s1_3 := s1_2.n hK3
    have s2_3 := s2_2.n hK3
    have s3_3 := Kept.refl w3 nix
    clear HS
    refine hK _ _ (fun W => Kept w3 W nix ∧ Kept w2 W nix ∧ Kept w1 W nix ∧ Kept wb W nix ∧ True) ⟨s3_3, s2_3, s1_3, s0_3, trivial⟩ (fun _ h => h.2) ?_
    have HS : Kept w3 w3 nix ∧ Kept w2 w3 nix ∧ Kept w1 w3 nix ∧ Kept wb w3 nix ∧ True := ⟨s3_3, s2_3, s1_3, s0_3, trivial⟩
    clear hK K
    try simp only [Act.put, List.setIfInBounds_toArray, List.set_cons_zero, List.set_cons_succ]
    refine wpAnyH_take (i := 6) (oi := { dst := some 11, op := Op.binOp BinOp.eql 4 (Operand.tmp 8) (Operand.tmp 10) 4, type := 4, pos := "law.go:47", after := #[{ on := 3, ground := Ground.data }, { on := 5, ground := Ground.data }, { on := 1, ground := Ground.guard }], guard := some (1, true) }) (v := ?_) rfl (by kernel_rfl) (by kernel_rfl) (by kernel_rfl) (fun _ _ _ h => h) (.inl ⟨by rfl, fun W hS => ?_⟩) HS ?_
    rotate_left
    · obtain ⟨t3, t2, t1, t0, -⟩ := hS
      go_simp
      try with_reducible rfl
    rotate_left
    try simp only [Act.put, List.setIfInBounds_toArray, List.set_cons_zero, List.set_cons_succ]
    refine wpAnyH_take (i := 7) (oi := { dst := some 12, op := Op.pick (Operand.tmp 6) (Operand.tmp 11) (Operand.const (Value.bool false)), type := 4, pos := "law.go:47", after := #[{ on := 1, ground := Ground.data }, { on := 6, ground := Ground.data }], guard := none }) (v := ?_) rfl (by kernel_rfl) (by kernel_rfl) (by kernel_rfl) (fun _ _ _ h => h) (.inl ⟨by rfl, fun W hS => ?_⟩) HS ?_
    rotate_left
    · obtain ⟨t3, t2, t1, t0, -⟩ := hS
      go_simp
      try with_reducible rfl
    rotate_left
    try simp only [Act.put, List.setIfInBounds_toArray, List.set_cons_zero, List.set_cons_succ]
    refine wpAnyH_take (i := 8) (oi := { dst := some 13, op := Op.move (Operand.tmp 12), type := 4, pos := "law.go:47", after := #[{ on := 7, ground := Ground.data }, { on := 5, ground := Ground.chain }], guard := none }) (v := ?_) rfl (by kernel_rfl) (by kernel_rfl) (by kernel_rfl) (fun _ _ _ h => h) (.inl ⟨by rfl, fun W hS => ?_⟩) HS ?_
    rotate_left
    · obtain ⟨t3, t2, t1, t0, -⟩ := hS
      go_simp
      try with_reducible rfl
    rotate_left
    try simp only [Act.put, List.setIfInBounds_toArray, List.set_cons_zero, List.set_cons_succ]
    refine wpAnyH_take (i := 9) (oi := { dst := some 14, op := Op.load 72 (Operand.tmp 2), type := 72, pos := "law.go:47", after := #[{ on := 8, ground := Ground.guard }], guard := some (8, true) }) (v := ?_) rfl (by kernel_rfl) (by kernel_rfl) (by kernel_rfl) (fun _ _ _ h => h) (.inl ⟨by rfl, fun W hS => ?_⟩) HS ?_
    rotate_left
    · obtain ⟨t3, t2, t1, t0, -⟩ := hS
      go_simp
      try with_reducible rfl
    rotate_left
    try simp only [Act.put, List.setIfInBounds_toArray, List.set_cons_zero, List.set_cons_succ]
    refine wpAnyH_take (i := 10) (oi := { dst := some 15, op := Op.load 72 (Operand.tmp 3), type := 72, pos := "law.go:47", after := #[{ on := 8, ground := Ground.guard }], guard := some (8, true) }) (v := ?_) rfl (by kernel_rfl) (by kernel_rfl) (by kernel_rfl) (fun _ _ _ h => h) (.inl ⟨by rfl, fun W hS => ?_⟩) HS ?_
    rotate_left
    · obtain ⟨t3, t2, t1, t0, -⟩ := hS
      go_simp
      try with_reducible rfl
    rotate_left
    try simp only [Act.put, List.setIfInBounds_toArray, List.set_cons_zero, List.set_cons_succ]
    refine wpAnyH_take (i := 12) (oi := { dst := some 17, op := Op.load 72 (Operand.tmp 2), type := 72, pos := "law.go:47", after := #[{ on := 8, ground := Ground.guard }], guard := some (8, true) }) (v := ?_) rfl (by kernel_rfl) (by kernel_rfl) (by kernel_rfl) (fun _ _ _ h => h) (.inl ⟨by rfl, fun W hS => ?_⟩) HS ?_
    rotate_left
    · obtain ⟨t3, t2, t1, t0, -⟩ := hS
      go_simp
      try with_reducible rfl
    rotate_left
    try simp only [Act.put, List.setIfInBounds_toArray, List.set_cons_zero, List.set_cons_succ]
    refine wpAnyH_take (i := 13) (oi := { dst := some 18, op := Op.load 72 (Operand.tmp 3), type := 72, pos := "law.go:47", after := #[{ on := 8, ground := Ground.guard }], guard := some (8, true) }) (v := ?_) rfl (by kernel_rfl) (by kernel_rfl) (by kernel_rfl) (fun _ _ _ h => h) (.inl ⟨by rfl, fun W hS => ?_⟩) HS ?_
    rotate_left
    · obtain ⟨t3, t2, t1, t0, -⟩ := hS
      go_simp
      try with_reducible rfl
    rotate_left
    try simp only [Act.put, List.setIfInBounds_toArray, List.set_cons_zero, List.set_cons_succ]
    refine wpAnyH_one (i := 11) (oi := { dst := some 16, op := Op.call { callee := Callee.value (Operand.func 63), args := #[Operand.tmp 14, Operand.tmp 15], argTypes := #[72, 72] }, type := 4, pos := "law.go:47", after := #[{ on := 9, ground := Ground.data }, { on := 10, ground := Ground.data }, { on := 8, ground := Ground.chain }, { on := 8, ground := Ground.guard }], guard := some (8, true) }) rfl (by kernel_rfl) (by rfl) (fun K hK => ?_)
    go_simp
    refine (esame_c _ F F2 x y a n c a2 n2 c2 (hX.kept (hkw.n s0_3) (fun _ _ => id)) (hY.kept (hkw.n s0_3) (fun _ _ => id))).mono ?_; rintro e w4 ⟨rfl, hK4⟩
    rw [HSM.out]
    have s0_4 := s0_3.n hK4
    have s1_4 := s1_3.n hK4
    have s2_4 := s2_3.n hK4
    have s3_4 := s3_3.n hK4
    have s4_4 := Kept.refl w4 nix
    clear HS
    refine hK _ _ (fun W => Kept w4 W nix ∧ Kept w3 W nix ∧ Kept w2 W nix ∧ Kept w1 W nix ∧ Kept wb W nix ∧ True) ⟨s4_4, s3_4, s2_4, s1_4, s0_4, trivial⟩ (fun _ h => h.2) ?_
    have HS : Kept w4 w4 nix ∧ Kept w3 w4 nix ∧ Kept w2 w4 nix ∧ Kept w1 w4 nix ∧ Kept wb w4 nix ∧ True := ⟨s4_4, s3_4, s2_4, s1_4, s0_4, trivial⟩
    clear hK K
    try simp only [Act.put, List.setIfInBounds_toArray, List.set_cons_zero, List.set_cons_succ]
    refine wpAnyH_one (i := 14) (oi := { dst := some 19, op := Op.call { callee := Callee.value (Operand.func 64), args := #[Operand.tmp 17, Operand.tmp 18], argTypes := #[72, 72] }, type := 4, pos := "law.go:47", after := #[{ on := 12, ground := Ground.data }, { on := 13, ground := Ground.data }, { on := 11, ground := Ground.chain }, { on := 8, ground := Ground.guard }], guard := some (8, true) }) rfl (by kernel_rfl) (by rfl) (fun K hK => ?_)
    go_simp
    refine (refsame_c _ F F2 x y a n c a2 n2 c2 (hX.kept (hkw.n s0_4) (fun _ _ => id)) (hY.kept (hkw.n s0_4) (fun _ _ => id)) HWX.out HWY.out hsx hsy).mono ?_; rintro e w5 ⟨rfl, hK5⟩
    rw [HE.out, HSM.out]
    have s0_5 := s0_4.n hK5
    have s1_5 := s1_4.n hK5
    have s2_5 := s2_4.n hK5
    have s3_5 := s3_4.n hK5
    have s4_5 := s4_4.n hK5
    have s5_5 := Kept.refl w5 nix
    clear HS
    refine hK _ _ (fun W => Kept w5 W nix ∧ Kept w4 W nix ∧ Kept w3 W nix ∧ Kept w2 W nix ∧ Kept w1 W nix ∧ Kept wb W nix ∧ True) ⟨s5_5, s4_5, s3_5, s2_5, s1_5, s0_5, trivial⟩ (fun _ h => h.2) ?_
    have HS : Kept w5 w5 nix ∧ Kept w4 w5 nix ∧ Kept w3 w5 nix ∧ Kept w2 w5 nix ∧ Kept w1 w5 nix ∧ Kept wb w5 nix ∧ True := ⟨s5_5, s4_5, s3_5, s2_5, s1_5, s0_5, trivial⟩
    clear hK K
    try simp only [Act.put, List.setIfInBounds_toArray, List.set_cons_zero, List.set_cons_succ]
    refine wpAnyH_take (i := 15) (oi := { dst := some 20, op := Op.binOp BinOp.eql 4 (Operand.tmp 16) (Operand.tmp 19) 4, type := 4, pos := "law.go:47", after := #[{ on := 11, ground := Ground.data }, { on := 14, ground := Ground.data }, { on := 8, ground := Ground.guard }], guard := some (8, true) }) (v := ?_) rfl (by kernel_rfl) (by kernel_rfl) (by kernel_rfl) (fun _ _ _ h => h) (.inl ⟨by rfl, fun W hS => ?_⟩) HS ?_
    rotate_left
    · obtain ⟨t5, t4, t3, t2, t1, t0, -⟩ := hS
      go_simp
      try with_reducible rfl
    rotate_left
    try simp only [Act.put, List.setIfInBounds_toArray, List.set_cons_zero, List.set_cons_succ]
    refine wpAnyH_take (i := 16) (oi := { dst := some 21, op := Op.pick (Operand.tmp 13) (Operand.tmp 20) (Operand.const (Value.bool false)), type := 4, pos := "law.go:47", after := #[{ on := 8, ground := Ground.data }, { on := 15, ground := Ground.data }], guard := none }) (v := ?_) rfl (by kernel_rfl) (by kernel_rfl) (by kernel_rfl) (fun _ _ _ h => h) (.inl ⟨by rfl, fun W hS => ?_⟩) HS ?_
    rotate_left
    · obtain ⟨t5, t4, t3, t2, t1, t0, -⟩ := hS
      go_simp
      try with_reducible rfl
    rotate_left
    try simp only [Act.put, List.setIfInBounds_toArray, List.set_cons_zero, List.set_cons_succ]
    refine wpAnyH_take (i := 17) (oi := { dst := some 22, op := Op.move (Operand.tmp 21), type := 4, pos := "law.go:47", after := #[{ on := 16, ground := Ground.data }, { on := 14, ground := Ground.chain }], guard := none }) (v := ?_) rfl (by kernel_rfl) (by kernel_rfl) (by kernel_rfl) (fun _ _ _ h => h) (.inl ⟨by rfl, fun W hS => ?_⟩) HS ?_
    rotate_left
    · obtain ⟨t5, t4, t3, t2, t1, t0, -⟩ := hS
      go_simp
      try with_reducible rfl
    rotate_left
    try simp only [Act.put, List.setIfInBounds_toArray, List.set_cons_zero, List.set_cons_succ]
    refine wpAnyH_take (i := 18) (oi := { dst := some 23, op := Op.load 72 (Operand.tmp 2), type := 72, pos := "law.go:47", after := #[{ on := 17, ground := Ground.guard }], guard := some (17, true) }) (v := ?_) rfl (by kernel_rfl) (by kernel_rfl) (by kernel_rfl) (fun _ _ _ h => h) (.inl ⟨by rfl, fun W hS => ?_⟩) HS ?_
    rotate_left
    · obtain ⟨t5, t4, t3, t2, t1, t0, -⟩ := hS
      go_simp
      try with_reducible rfl
    rotate_left
    try simp only [Act.put, List.setIfInBounds_toArray, List.set_cons_zero, List.set_cons_succ]
    refine wpAnyH_take (i := 19) (oi := { dst := some 24, op := Op.load 72 (Operand.tmp 2), type := 72, pos := "law.go:47", after := #[{ on := 17, ground := Ground.guard }], guard := some (17, true) }) (v := ?_) rfl (by kernel_rfl) (by kernel_rfl) (by kernel_rfl) (fun _ _ _ h => h) (.inl ⟨by rfl, fun W hS => ?_⟩) HS ?_
    rotate_left
    · obtain ⟨t5, t4, t3, t2, t1, t0, -⟩ := hS
      go_simp
      try with_reducible rfl
    rotate_left
    try simp only [Act.put, List.setIfInBounds_toArray, List.set_cons_zero, List.set_cons_succ]
    refine wpAnyH_one (i := 20) (oi := { dst := some 25, op := Op.call { callee := Callee.value (Operand.func 63), args := #[Operand.tmp 23, Operand.tmp 24], argTypes := #[72, 72] }, type := 4, pos := "law.go:47", after := #[{ on := 18, ground := Ground.data }, { on := 19, ground := Ground.data }, { on := 17, ground := Ground.chain }, { on := 17, ground := Ground.guard }], guard := some (17, true) }) rfl (by kernel_rfl) (by rfl) (fun K hK => ?_)
    go_simp
    refine (esame_c _ F F x x a n c a n c (hX.kept (hkw.n s0_5) (fun _ _ => id)) (hX.kept (hkw.n s0_5) (fun _ _ => id))).mono ?_; rintro e w6 ⟨rfl, hK6⟩
    rw [entSame_self]
    have s0_6 := s0_5.n hK6
    have s1_6 := s1_5.n hK6
    have s2_6 := s2_5.n hK6
    have s3_6 := s3_5.n hK6
    have s4_6 := s4_5.n hK6
    have s5_6 := s5_5.n hK6
    have s6_6 := Kept.refl w6 nix
    clear HS
    refine hK _ _ (fun W => Kept w6 W nix ∧ Kept w5 W nix ∧ Kept w4 W nix ∧ Kept w3 W nix ∧ Kept w2 W nix ∧ Kept w1 W nix ∧ Kept wb W nix ∧ True) ⟨s6_6, s5_6, s4_6, s3_6, s2_6, s1_6, s0_6, trivial⟩ (fun _ h => h.2) ?_
    have HS : Kept w6 w6 nix ∧ Kept w5 w6 nix ∧ Kept w4 w6 nix ∧ Kept w3 w6 nix ∧ Kept w2 w6 nix ∧ Kept w1 w6 nix ∧ Kept wb w6 nix ∧ True := ⟨s6_6, s5_6, s4_6, s3_6, s2_6, s1_6, s0_6, trivial⟩
    clear hK K
    try simp only [Act.put, List.setIfInBounds_toArray, List.set_cons_zero, List.set_cons_succ]
    refine wpAnyH_take (i := 21) (oi := { dst := some 26, op := Op.pick (Operand.tmp 22) (Operand.tmp 25) (Operand.const (Value.bool false)), type := 4, pos := "law.go:47", after := #[{ on := 17, ground := Ground.data }, { on := 20, ground := Ground.data }], guard := none }) (v := ?_) rfl (by kernel_rfl) (by kernel_rfl) (by kernel_rfl) (fun _ _ _ h => h) (.inl ⟨by rfl, fun W hS => ?_⟩) HS ?_
    rotate_left
    · obtain ⟨t6, t5, t4, t3, t2, t1, t0, -⟩ := hS
      go_simp
      try with_reducible rfl
    rotate_left
    try simp only [Act.put, List.setIfInBounds_toArray, List.set_cons_zero, List.set_cons_succ]
    refine wpAnyH_take (i := 22) (oi := { dst := some 4, op := Op.assign (Operand.tmp 26), type := 4, pos := "law.go:47", after := #[{ on := 21, ground := Ground.data }, { on := 20, ground := Ground.chain }, { on := 0, ground := Ground.phase }, { on := 1, ground := Ground.phase }, { on := 2, ground := Ground.phase }, { on := 3, ground := Ground.phase }, { on := 4, ground := Ground.phase }, { on := 5, ground := Ground.phase }, { on := 6, ground := Ground.phase }, { on := 7, ground := Ground.phase }, { on := 8, ground := Ground.phase }, { on := 9, ground := Ground.phase }, { on := 10, ground := Ground.phase }, { on := 11, ground := Ground.phase }, { on := 12, ground := Ground.phase }, { on := 13, ground := Ground.phase }, { on := 14, ground := Ground.phase }, { on := 15, ground := Ground.phase }, { on := 16, ground := Ground.phase }, { on := 17, ground := Ground.phase }, { on := 18, ground := Ground.phase }, { on := 19, ground := Ground.phase }, { on := 20, ground := Ground.phase }, { on := 21, ground := Ground.phase }], guard := none }) (v := ?_) rfl (by kernel_rfl) (by kernel_rfl) (by kernel_rfl) (fun _ _ _ h => h) (.inl ⟨by rfl, fun W hS => ?_⟩) HS ?_
    rotate_left
    · obtain ⟨t6, t5, t4, t3, t2, t1, t0, -⟩ := hS
      go_simp
      try with_reducible rfl
    rotate_left
    try simp only [Act.put, List.setIfInBounds_toArray, List.set_cons_zero, List.set_cons_succ]
    refine wpAnyH_done (by kernel_rfl) ?_ _
    go_wp2_with fail
    go_ret
    exact ⟨rfl, hkw.n s0_6⟩
end Go.Proofs.Ytlhlljjchggnjaa
