/- The walk of package entry's Get. -/
import Derived.Test.YtlhlljjchggnjaaEntry3
namespace Go.Proofs.Ytlhlljjchggnjaa
open Go.RowKit

theorem rNum_len (s : Rdr) : (rNum s).2.1.length ≤ s.1.length := by
  unfold rNum
  cases h : rdU 0 0 s.1 with
  | none => simp [rFail]
  | some q =>
    obtain ⟨u, r⟩ := q
    obtain ⟨u', _, h2, _⟩ := rdU_inv _ _ _ _ _ h
    rw [h2]
    simp
theorem rCount_len (m : Int) (s : Rdr) : (rCount m s).2.1.length ≤ s.1.length := by
  unfold rCount
  split
  · simp [rFail]
  · exact rNum_len s
theorem rText_len (s : Rdr) : (rText s).2.1.length ≤ s.1.length ∧ (rText s).1.length ≤ s.1.length := by
  have h := rCount_len s.1.length s
  unfold rText
  simp only
  split
  · simp [rFail]
  · simp only [List.length_drop, List.length_take]
    omega

set_option maxRecDepth 100000 in
set_option maxHeartbeats 4000000 in
theorem get_c (w : World) (F : Nat → Prop) (g : Nat) (s : Rdr) (h : RdrAt w F g s) (hF : ∀ k, F k → k < w.heap.size) (hb : s.1.length ≤ maxB) :
    Calls Try.prog 130 #[.pointer (some ⟨g, 0, none⟩)] w fun r w' => ∃ a n c, r = .returned (entV (rEnt s).1 a n c) ∧ By.Own w' (new w w') a n c (rEnt s).1.frag ∧ RdrAt w' F g (rEnt s).2 ∧ Kept w w' (one g) ∧ (rEnt s).2.1.length ≤ s.1.length ∧ (rEnt s).1.key.length ≤ maxB ∧ n ≤ maxB := by
  obtain ⟨v1, s1, e1⟩ : ∃ v s', rNum s = (v, s') := ⟨_, _, rfl⟩
  obtain ⟨v2, s2, e2⟩ : ∃ v s', rNum s1 = (v, s') := ⟨_, _, rfl⟩
  obtain ⟨v3, s3, e3⟩ : ∃ v s', rNum s2 = (v, s') := ⟨_, _, rfl⟩
  obtain ⟨v4, s4, e4⟩ : ∃ v s', rNum s3 = (v, s') := ⟨_, _, rfl⟩
  obtain ⟨v5, s5, e5⟩ : ∃ v s', rNum s4 = (v, s') := ⟨_, _, rfl⟩
  obtain ⟨v6, s6, e6⟩ : ∃ v s', rCount 4294967295 s5 = (v, s') := ⟨_, _, rfl⟩
  obtain ⟨ky, s7, e7⟩ : ∃ v s', rText s6 = (v, s') := ⟨_, _, rfl⟩
  obtain ⟨fr, s8, e8⟩ : ∃ v s', rText s7 = (v, s') := ⟨_, _, rfl⟩
  have E := hid (show rEnt s = (⟨v1, v2, v3, v4, ky, v5, v6, fr⟩, s8) by simp only [rEnt, e1, e2, e3, e4, e5, e6, e7, e8])
  have l1 := rNum_len s; rw [e1] at l1
  have l2 := rNum_len s1; rw [e2] at l2
  have l3 := rNum_len s2; rw [e3] at l3
  have l4 := rNum_len s3; rw [e4] at l4
  have l5 := rNum_len s4; rw [e5] at l5
  have l6 := rCount_len 4294967295 s5; rw [e6] at l6
  have l7 := rText_len s6; rw [e7] at l7
  have l8 := rText_len s7; rw [e8] at l8
  have hv6 := rCount_range 4294967295 s5 (by omega)
  rw [e6] at hv6
  simp only at l1 l2 l3 l4 l5 l6 l7 l8 hv6
  unfold maxB at hb
  obtain ⟨hv60, hv61⟩ := hv6
  have hgw : g < w.heap.size := hF g h.1
  have hk0 := alloc_kept w (.cells #[.int .i64 0, .int .i64 0, .int .i64 0, .int .i64 0, .string ⟨#[]⟩, .int .i64 0, .int .u32 0, .slice none 0 0] 72)
  have hR0 := h.kept hk0 (fun _ _ => id)
  have HE1 := hid e1
  have HE2 := hid e2
  have HE3 := hid e3
  have HE4 := hid e4
  have HE5 := hid e5
  have HE6 := hid e6
  have HE7 := hid e7
  have HE8 := hid e8
  clear e1 e2 e3 e4 e5 e6 e7 e8
  rw [E.out]
  simp only
  go_enter Try.func130, Try.ntmps130
  have k1 := rnum_c _ F g s hR0
  rw [HE1.out] at k1
  go_wp2_with (go_at_call 41; (with_reducible refine k1.mono ?_); rintro r w1 ⟨rfl, hR1, hK1⟩)
  have k2 := rnum_c _ F g _ hR1
  rw [HE2.out] at k2
  go_wp2_with (go_at_call 41; (with_reducible refine k2.mono ?_); rintro r w2 ⟨rfl, hR2, hK2⟩)
  have k3 := rnum_c _ F g _ hR2
  rw [HE3.out] at k3
  go_wp2_with (go_at_call 41; (with_reducible refine k3.mono ?_); rintro r w3 ⟨rfl, hR3, hK3⟩)
  have k4 := rnum_c _ F g _ hR3
  rw [HE4.out] at k4
  go_wp2_with (go_at_call 41; (with_reducible refine k4.mono ?_); rintro r w4 ⟨rfl, hR4, hK4⟩)
  have k5 := rnum_c _ F g _ hR4
  rw [HE5.out] at k5
  go_wp2_with (go_at_call 41; (with_reducible refine k5.mono ?_); rintro r w5 ⟨rfl, hR5, hK5⟩)
  have k6 := rcount_c _ F g _ 4294967295 hR5
  rw [HE6.out] at k6
  have hz0 := Blk.new_ w #[.int .i64 0, .int .i64 0, .int .i64 0, .int .i64 0, .string ⟨#[]⟩, .int .i64 0, .int .u32 0, .slice none 0 0] 72
  go_wp2_with (go_at_call 44; (with_reducible refine k6.mono ?_); rintro r w6 ⟨rfl, hR6, hK6⟩)
  have hsz6 : w.heap.size + 1 ≤ w6.heap.size := by
    have h1 := hK1.size; have h2 := hK2.size; have h3 := hK3.size; have h4 := hK4.size; have h5 := hK5.size; have h6 := hK6.size
    rw [World.size_alloc] at h1
    omega
  have hKg : Kept w w6 (one g) := ((((((hk0.mono (fun _ _ h => h.elim)).trans hK1 (fun _ _ h => h)).trans hK2 (fun _ _ h => h)).trans hK3 (fun _ _ h => h)).trans hK4 (fun _ _ h => h)).trans hK5 (fun _ _ h => h)).trans hK6 (fun _ _ h => h)
  have hne : ¬ w.heap.size = g := by omega
  have hz6 := (((((hz0.kept hK1 hne).kept hK2 hne).kept hK3 hne).kept hK4 hne).kept hK5 hne).kept hK6 hne
  have hB7 := Blk.new_ w6 #[.int .i64 v1, .int .i64 v2, .int .i64 v3, .int .i64 v4, .string ⟨#[]⟩, .int .i64 v5, .int .u32 v6, .slice none 0 0] 72
  have hA7 := alloc_kept w6 (.cells #[.int .i64 v1, .int .i64 v2, .int .i64 v3, .int .i64 v4, .string ⟨#[]⟩, .int .i64 v5, .int .u32 v6, .slice none 0 0] 72)
  have hR7 := hR6.kept hA7 (fun _ _ => id)
  have hz7 := hz6.kept hA7 (fun h => h)
  have hK7 := hKg.trans (hA7.mono (fun _ _ h => h.elim)) (fun _ _ h => h)
  have hsz7 : (w6.alloc (.cells #[.int .i64 v1, .int .i64 v2, .int .i64 v3, .int .i64 v4, .string ⟨#[]⟩, .int .i64 v5, .int .u32 v6, .slice none 0 0] 72)).heap.size = w6.heap.size + 1 := World.size_alloc _ _
  clear hz6 hz0 hR0 hR1 hR2 hR3 hR4 hR5 hR6 k1 k2 k3 k4 k5 k6 hk0 hA7
  generalize w6.alloc (.cells #[.int .i64 v1, .int .i64 v2, .int .i64 v3, .int .i64 v4, .string ⟨#[]⟩, .int .i64 v5, .int .u32 v6, .slice none 0 0] 72) = w7 at *
  have HS7 := hid hsz7
  clear hsz7
  obtain ⟨P, hP⟩ : ∃ P : Nat → Prop, P = fun h => h = g ∨ h = w6.heap.size := ⟨_, rfl⟩
  have hPg : ∀ W W', Kept W W' (one g) → Kept W W' P := fun W W' h => h.mono (fun k _ e => by subst hP; exact .inl e)
  have hPn : ∀ k, w7.heap.size ≤ k → ¬ P k := fun k hk hp => by
    subst hP
    have := HS7.out
    rcases hp with hp | hp <;> omega
  have HP := hid hP
  clear hP
  have k7 := rtext_c w7.drew F g s6 (hR7.kept (Kept.refl w7 nix).drew (fun _ _ => id)) (fun k hk => Nat.lt_of_lt_of_le (hF k hk) hK7.size) (by omega)
  rw [HE7.out] at k7
  simp only at k7
  have s0_0 : Kept w7 w7.drew P := (Kept.refl _ _).drew
  refine wp_region_held (S := fun W => Kept w7 W P ∧ True) (by kernel_rfl) ?_
  have HS : Kept w7 w7.drew P ∧ True := ⟨s0_0, trivial⟩
  show wpAnyH _ _ _ _ _ _ _ _ w7.drew
  refine wpAnyH_take (i := 0) (oi := { dst := some 24, op := Op.move (Operand.tmp 0), type := 31, pos := "entry.go:43", after := #[], guard := none }) (v := ?_) rfl (by kernel_rfl) (by kernel_rfl) (by kernel_rfl) (fun _ _ _ h => h) (.inl ⟨by rfl, fun W hS => ?_⟩) HS ?_
  rotate_left
  · obtain ⟨t0, -⟩ := hS
    go_simp
    try with_reducible rfl
  rotate_left
  try simp only [Act.put, List.setIfInBounds_toArray, List.set_cons_zero, List.set_cons_succ]
  refine wpAnyH_take (i := 3) (oi := { dst := some 27, op := Op.move (Operand.tmp 0), type := 31, pos := "entry.go:43", after := #[], guard := none }) (v := ?_) rfl (by kernel_rfl) (by kernel_rfl) (by kernel_rfl) (fun _ _ _ h => h) (.inl ⟨by rfl, fun W hS => ?_⟩) HS ?_
  rotate_left
  · obtain ⟨t0, -⟩ := hS
    go_simp
    try with_reducible rfl
  rotate_left
  try simp only [Act.put, List.setIfInBounds_toArray, List.set_cons_zero, List.set_cons_succ]
  refine wpAnyH_one (i := 1) (oi := { dst := some 25, op := Op.call { callee := Callee.value (Operand.func 42), args := #[Operand.tmp 24], argTypes := #[31] }, type := 22, pos := "entry.go:43", after := #[{ on := 0, ground := Ground.data }], guard := none }) rfl (by kernel_rfl) (by rfl) (fun K hK => ?_)
  go_simp
  (with_reducible refine k7.mono ?_); rintro r w8 ⟨a8, n8, c8, rfl, hO8, hR8, hK8⟩
  have hKP8 := hPg _ _ hK8
  have r8 := fun W (hK : Kept w8 W P) => strBy (hO8.sl.kept hK (fun k hk => hPn k hk.1))
  have k8 := rtext_c w8 F g s7 hR8 (fun k hk => Nat.lt_of_lt_of_le (hF k hk) (Nat.le_trans hK7.size hK8.size)) (by omega)
  rw [HE8.out] at k8
  simp only at k8
  have s0_1 := s0_0.trans hKP8 (fun _ _ h => h)
  have s1_1 := Kept.refl w8 P
  clear HS
  refine hK _ _ (fun W => Kept w8 W P ∧ Kept w7 W P ∧ True) ⟨s1_1, s0_1, trivial⟩ (fun _ h => h.2) ?_
  have HS : Kept w8 w8 P ∧ Kept w7 w8 P ∧ True := ⟨s1_1, s0_1, trivial⟩
  clear hK K
  try simp only [Act.put, List.setIfInBounds_toArray, List.set_cons_zero, List.set_cons_succ]
  refine wpAnyH_take (i := 2) (oi := { dst := some 26, op := Op.convert 22 9 (Operand.tmp 25), type := 9, pos := "entry.go:43", after := #[{ on := 1, ground := Ground.data }], guard := none }) (v := ?_) rfl (by kernel_rfl) (by kernel_rfl) (by kernel_rfl) (fun _ _ _ h => h) (.inl ⟨by rfl, fun W hS => ?_⟩) HS ?_
  rotate_left
  · obtain ⟨t1, t0, -⟩ := hS
    go_simp
    try with_reducible rfl
  rotate_left
  try simp only [Act.put, List.setIfInBounds_toArray, List.set_cons_zero, List.set_cons_succ]
  refine wpAnyH_take (i := 5) (oi := { dst := some 29, op := Op.fieldAddr 72 (Operand.tmp 4) 4, type := 0, pos := "entry.go:43", after := #[{ on := 0, ground := Ground.phase }, { on := 1, ground := Ground.phase }, { on := 2, ground := Ground.phase }, { on := 3, ground := Ground.textOnly Departure.lateStores }, { on := 4, ground := Ground.textOnly Departure.lateStoresUnsure }], guard := none }) (v := ?_) rfl (by kernel_rfl) (by kernel_rfl) (by kernel_rfl) (fun _ _ _ h => h) (.inl ⟨by rfl, fun W hS => ?_⟩) HS ?_
  rotate_left
  · obtain ⟨t1, t0, -⟩ := hS
    go_simp
    try with_reducible rfl
  rotate_left
  try simp only [Act.put, List.setIfInBounds_toArray, List.set_cons_zero, List.set_cons_succ]
  refine wpAnyH_one (i := 4) (oi := { dst := some 28, op := Op.call { callee := Callee.value (Operand.func 42), args := #[Operand.tmp 27], argTypes := #[31] }, type := 22, pos := "entry.go:43", after := #[{ on := 3, ground := Ground.data }, { on := 1, ground := Ground.chain }], guard := none }) rfl (by kernel_rfl) (by rfl) (fun K hK => ?_)
  go_simp
  (with_reducible refine k8.mono ?_); rintro r w9 ⟨a9, n9, c9, rfl, hO9, hR9, hK9⟩
  have hKP9 := hPg _ _ hK9
  have hn6 : ¬ w6.heap.size = g := by omega
  have hB9 := (((hB7.kept (Kept.refl w7 nix).drew (fun h => h)).kept hK8 hn6).kept hK9 hn6)
  have d4 := hB9.cell 4
  have d4f := hB9.froz 4
  simp at d4
  have s0_2 := s0_1.trans hKP9 (fun _ _ h => h)
  have s1_2 := s1_1.trans hKP9 (fun _ _ h => h)
  have s2_2 := Kept.refl w9 P
  clear HS
  refine hK _ _ (fun W => Kept w9 W P ∧ Kept w8 W P ∧ Kept w7 W P ∧ True) ⟨s2_2, s1_2, s0_2, trivial⟩ (fun _ h => h.2) ?_
  have HS : Kept w9 w9 P ∧ Kept w8 w9 P ∧ Kept w7 w9 P ∧ True := ⟨s2_2, s1_2, s0_2, trivial⟩
  clear hK K
  try simp only [Act.put, List.setIfInBounds_toArray, List.set_cons_zero, List.set_cons_succ]
  refine wpAnyH_one (i := 6) (oi := { dst := none, op := Op.store 9 (Operand.tmp 29) (Operand.tmp 26), type := 0, pos := "entry.go:43", after := #[{ on := 5, ground := Ground.data }, { on := 2, ground := Ground.data }, { on := 4, ground := Ground.chain }, { on := 0, ground := Ground.phase }, { on := 1, ground := Ground.phase }, { on := 2, ground := Ground.phase }, { on := 3, ground := Ground.textOnly Departure.lateStores }, { on := 4, ground := Ground.textOnly Departure.lateStoresUnsure }], guard := none }) rfl (by kernel_rfl) (by rfl) (fun K hK => ?_)
  go_simp
  obtain ⟨wa, hwa⟩ : ∃ x, x = w9.setCell ⟨w6.heap.size, 4, none⟩ (strv ky) := ⟨_, rfl⟩
  have hBa := hB9.set 4 (strv ky)
  have hKPa : Kept w9 (w9.setCell ⟨w6.heap.size, 4, none⟩ (strv ky)) P := (Kept.refl w9 P).set1 _ (by rw [HP.out]; exact .inr rfl)
  have hKa : Kept w9 (w9.setCell ⟨w6.heap.size, 4, none⟩ (strv ky)) (one w6.heap.size) := (Kept.refl w9 _).set1 _ rfl
  rw [← hwa] at hBa hKPa hKa
  simp only [← hwa]
  clear hwa
  have d7 := hBa.cell 7
  have d7f := hBa.froz 7
  simp at d7
  have s0_3 := s0_2.trans hKPa (fun _ _ h => h)
  have s1_3 := s1_2.trans hKPa (fun _ _ h => h)
  have s2_3 := s2_2.trans hKPa (fun _ _ h => h)
  have s3_3 := Kept.refl wa P
  clear HS
  refine hK _ _ (fun W => Kept wa W P ∧ Kept w9 W P ∧ Kept w8 W P ∧ Kept w7 W P ∧ True) ⟨s3_3, s2_3, s1_3, s0_3, trivial⟩ (fun _ h => h.2) ?_
  have HS : Kept wa wa P ∧ Kept w9 wa P ∧ Kept w8 wa P ∧ Kept w7 wa P ∧ True := ⟨s3_3, s2_3, s1_3, s0_3, trivial⟩
  clear hK K
  try simp only [Act.put, List.setIfInBounds_toArray, List.set_cons_zero, List.set_cons_succ]
  refine wpAnyH_take (i := 7) (oi := { dst := some 30, op := Op.fieldAddr 72 (Operand.tmp 4) 7, type := 0, pos := "entry.go:43", after := #[{ on := 0, ground := Ground.phase }, { on := 1, ground := Ground.phase }, { on := 2, ground := Ground.phase }, { on := 3, ground := Ground.phase }, { on := 4, ground := Ground.phase }, { on := 5, ground := Ground.phase }, { on := 6, ground := Ground.phase }], guard := none }) (v := ?_) rfl (by kernel_rfl) (by kernel_rfl) (by kernel_rfl) (fun _ _ _ h => h) (.inl ⟨by rfl, fun W hS => ?_⟩) HS ?_
  rotate_left
  · obtain ⟨t3, t2, t1, t0, -⟩ := hS
    go_simp
    try with_reducible rfl
  rotate_left
  try simp only [Act.put, List.setIfInBounds_toArray, List.set_cons_zero, List.set_cons_succ]
  refine wpAnyH_one (i := 8) (oi := { dst := none, op := Op.store 22 (Operand.tmp 30) (Operand.tmp 28), type := 0, pos := "entry.go:43", after := #[{ on := 7, ground := Ground.data }, { on := 4, ground := Ground.data }, { on := 6, ground := Ground.chain }, { on := 0, ground := Ground.phase }, { on := 1, ground := Ground.phase }, { on := 2, ground := Ground.phase }, { on := 3, ground := Ground.phase }, { on := 4, ground := Ground.phase }, { on := 5, ground := Ground.phase }, { on := 6, ground := Ground.phase }], guard := none }) rfl (by kernel_rfl) (by rfl) (fun K hK => ?_)
  go_simp
  obtain ⟨wb, hwb⟩ : ∃ x, x = wa.setCell ⟨w6.heap.size, 7, none⟩ (.slice a9 n9 c9) := ⟨_, rfl⟩
  have hBb := hBa.set 7 (.slice a9 n9 c9)
  have hKPb : Kept wa (wa.setCell ⟨w6.heap.size, 7, none⟩ (.slice a9 n9 c9)) P := (Kept.refl wa P).set1 _ (by rw [HP.out]; exact .inr rfl)
  have hKb : Kept wa (wa.setCell ⟨w6.heap.size, 7, none⟩ (.slice a9 n9 c9)) (one w6.heap.size) := (Kept.refl wa _).set1 _ rfl
  rw [← hwb] at hBb hKPb hKb
  simp only [← hwb]
  clear hwb
  have s0_4 := s0_3.trans hKPb (fun _ _ h => h)
  have s1_4 := s1_3.trans hKPb (fun _ _ h => h)
  have s2_4 := s2_3.trans hKPb (fun _ _ h => h)
  have s3_4 := s3_3.trans hKPb (fun _ _ h => h)
  have s4_4 := Kept.refl wb P
  clear HS
  refine hK _ _ (fun W => Kept wb W P ∧ Kept wa W P ∧ Kept w9 W P ∧ Kept w8 W P ∧ Kept w7 W P ∧ True) ⟨s4_4, s3_4, s2_4, s1_4, s0_4, trivial⟩ (fun _ h => h.2) ?_
  have HS : Kept wb wb P ∧ Kept wa wb P ∧ Kept w9 wb P ∧ Kept w8 wb P ∧ Kept w7 wb P ∧ True := ⟨s4_4, s3_4, s2_4, s1_4, s0_4, trivial⟩
  clear hK K
  try simp only [Act.put, List.setIfInBounds_toArray, List.set_cons_zero, List.set_cons_succ]
  refine wpAnyH_done (by kernel_rfl) ?_ _
  simp at hBb
  have hzb := hz7.kept s0_4 (by rw [HP.out]; rintro (h | h) <;> omega)
  have b0 := hBb.cell 0
  have b1 := hBb.cell 1
  have b2 := hBb.cell 2
  have b3 := hBb.cell 3
  have b4 := hBb.cell 4
  have b5 := hBb.cell 5
  have b6 := hBb.cell 6
  have b7 := hBb.cell 7
  simp at b0 b1 b2 b3 b4 b5 b6 b7
  have y0 := hzb.cell 0
  have y1 := hzb.cell 1
  have y2 := hzb.cell 2
  have y3 := hzb.cell 3
  have y4 := hzb.cell 4
  have y5 := hzb.cell 5
  have y6 := hzb.cell 6
  have y7 := hzb.cell 7
  simp at y0 y1 y2 y3 y4 y5 y6 y7
  have z := fun i => hzb.froz i
  go_wp2_with fail
  have hzF := (((((((hzb.set 0 (.int .i64 v1)).set 1 (.int .i64 v2)).set 2 (.int .i64 v3)).set 3 (.int .i64 v4)).set 4 (.string ⟨ky.toArray⟩)).set 5 (.int .i64 v5)).set 6 (.int .u32 v6)).set 7 (.slice a9 n9 c9)
  have hKF := (((((((((Kept.refl wb (one w.heap.size)).set1 (i := 0) (.int .i64 v1) rfl).set1 (i := 1) (.int .i64 v2) rfl).set1 (i := 2) (.int .i64 v3) rfl).set1 (i := 3) (.int .i64 v4) rfl).set1 (i := 4) (.string ⟨ky.toArray⟩) rfl).set1 (i := 5) (.int .i64 v5) rfl).set1 (i := 6) (.int .u32 v6) rfl).set1 (i := 7) (.slice a9 n9 c9) rfl)
  generalize ((((((((wb.setCell ⟨w.heap.size, 0, none⟩ (.int .i64 v1)).setCell ⟨w.heap.size, 1, none⟩ (.int .i64 v2)).setCell ⟨w.heap.size, 2, none⟩ (.int .i64 v3)).setCell ⟨w.heap.size, 3, none⟩ (.int .i64 v4)).setCell ⟨w.heap.size, 4, none⟩ (.string ⟨ky.toArray⟩)).setCell ⟨w.heap.size, 5, none⟩ (.int .i64 v5)).setCell ⟨w.heap.size, 6, none⟩ (.int .u32 v6)).setCell ⟨w.heap.size, 7, none⟩ (.slice a9 n9 c9)) = wF at hzF hKF ⊢
  simp at hzF
  have x0 := hzF.cell 0
  have x1 := hzF.cell 1
  have x2 := hzF.cell 2
  have x3 := hzF.cell 3
  have x4 := hzF.cell 4
  have x5 := hzF.cell 5
  have x6 := hzF.cell 6
  have x7 := hzF.cell 7
  simp at x0 x1 x2 x3 x4 x5 x6 x7
  refine bodyPost_ret (v := entV ⟨v1, v2, v3, v4, ky, v5, v6, fr⟩ a9 n9 c9) (by simp [results, Try.results130, go_sem, x0, x1, x2, x3, x4, x5, x6, x7]) rfl ⟨a9, n9, c9, rfl, ?_, ?_, ?_, by omega, by unfold maxB; omega, by have := hO9.len; unfold maxB; omega⟩
  · have h1 := hO9.kept hKa (fun k hk (e : k = _) => by have := hk.1; have := hK8.size; have := HS7.out; rw [show w7.drew.heap.size = w7.heap.size from rfl] at *; omega)
    have h2 := h1.kept hKb (fun k hk (e : k = _) => by have := hk.1; have := hK8.size; have := HS7.out; rw [show w7.drew.heap.size = w7.heap.size from rfl] at *; omega)
    have h3 := h2.kept hKF (fun k hk (e : k = _) => by have := hk.1; have := hK8.size; have := HS7.out; rw [show w7.drew.heap.size = w7.heap.size from rfl] at *; omega)
    exact h3.mono (new_mono (Nat.le_trans hK7.size hK8.size) (Nat.le_trans hKa.size (Nat.le_trans hKb.size hKF.size)))
  · have h1 := hR9.kept hKa (fun k hk (e : k = _) => by have := hF k hk; omega)
    have h2 := h1.kept hKb (fun k hk (e : k = _) => by have := hF k hk; omega)
    exact h2.kept hKF (fun k hk (e : k = _) => by have := hF k hk; omega)
  · refine hK7.trans (T := fun k => P k ∨ k = w.heap.size) ((s0_4.mono (fun k _ h => .inl h)).trans hKF (fun k _ (e : k = _) => .inr e)) (fun k hlt hk => ?_)
    rw [HP.out] at hk
    rcases hk with (hk | hk) | hk
    · exact hk
    · omega
    · omega
end Go.Proofs.Ytlhlljjchggnjaa
