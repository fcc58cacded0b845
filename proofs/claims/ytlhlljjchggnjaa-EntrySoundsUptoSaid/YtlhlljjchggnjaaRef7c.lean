/- The walks of the reference for entries and records: many entries, a record; are two one? -/
import Derived.Test.YtlhlljjchggnjaaRef7b
import Derived.Test.YtlhlljjchggnjaaLaw5
namespace Go.Proofs.Ytlhlljjchggnjaa
open Go.RowKit

theorem entB_ge (e : Ent) : e.key.length + e.frag.length ≤ (entB e).length := by
  rw [entB_eq]
  simp only [List.length_append, textB]
  omega
theorem entsB_take_le (l : List Ent) (k : Nat) : (entsB (l.take k)).length ≤ (entsB l).length := by
  conv => rhs; rw [← List.take_append_drop k l]
  unfold entsB
  rw [List.flatMap_append, List.length_append]
  omega
theorem manyB_eq (l : List Ent) : listB entB l = numB l.length ++ entsB l := rfl

set_option maxRecDepth 100000 in
set_option maxHeartbeats 4000000 in
theorem refmany_c (w : World) (F : Nat → Prop) (a : Option Addr) (n c : Nat) (xs : List Ent) (h : ShEnt.Sl w F a n c xs) (hT : (entsB xs).length ≤ 100000000000000) :
    Calls Try.prog 132 #[.slice a n c] w fun e w' => ∃ a' m c', e = .returned (.slice a' m c') ∧ By.Own w' (new w w') a' m c' (listB entB xs) ∧ Kept w w' nix := by
  have hm := h.max
  have L := hid h.len
  have HM := hid (manyB_eq xs)
  have hL := lit_in w [(n : Int)] #[.int .i64 n] 3 (0, 0) 1 rfl rfl (by omega) (fun x hx => by simp at hx; subst hx; unfold i64p; omega)
  have hkl := alloc_kept w (.cells #[.int .i64 n] 3)
  have kn := refnums_c _ _ _ _ _ _ hL (by omega)
  rw [show numsB [(n : Int)] = numB n by simp [numsB]] at kn
  clear hL
  have hnl := numB_len (n : Int)
  go_enter Try.func132, Try.ntmps132
  go_wp2_with (go_at_call 131; (with_reducible refine kn.mono ?_); rintro r w1 ⟨a1, m1, c1, rfl, hO1, hK1⟩)
  go_loopw [3, 4] (fun s i wr => ∃ (k m3 : Nat) (a3 : Option Addr) (c3 : Nat), i = .int .i64 k ∧ s = .slice a3 m3 c3 ∧ By.Own wr (new w wr) a3 m3 c3 (numB n ++ entsB (xs.take k)) ∧ Kept w wr nix ∧ k ≤ n) (fun _ i _ => n - (intOf i).toNat)
  case atStart => exact ⟨0, m1, a1, c1, rfl, rfl, by simpa [entsB] using hO1.mono (new_mono hkl.size (Nat.le_refl _)), hkl.n hK1, by omega⟩
  case round =>
    clear hO1 hK1 kn hkl
    obtain ⟨k, m3, a3, c3, rfl, rfl, hO, hKw, hk⟩ := hrel
    by_cases hlt : k < n
    · have hkl : k < xs.length := by have := L.out; omega
      obtain ⟨g, o, ai, ni, ci, rfl, _, hgl, hc, hX, hXb, hkb, hwf⟩ := ent_at h k hkl
      obtain ⟨c0, c1, c2, c3', c4, c5, c6, c7⟩ := cells8 hKw hc
      clear hc
      have HS := hid (entsB_snoc xs k hkl)
      have ht1 := entsB_take_le xs (k + 1)
      rw [HS.out, List.length_append] at ht1
      have hge := entB_ge xs[k]
      have hol := hO.len
      rw [List.length_append] at hol
      generalize xs[k] = x at *
      have ko := refone_c wr _ x ai ni ci (hX.kept hKw (fun _ _ => id)) hwf (by have := hX.len; omega)
      have Hwf := hid hwf
      clear hwf
      have hra := fun ty (w3 : World) (a4 : Option Addr) (m4 c4 : Nat) (hO4 : By.Own w3 (new wr w3) a4 m4 c4 (entB x)) (hK4 : Kept wr w3 nix) => run_app_f (w0 := w) ty (hKw.n hK4) ((hO.kept hK4 (fun _ _ => id)).mono (new_mono (Nat.le_refl _) hK4.size)) hO4.sl (fun _ q _ hq hb2 => by have h1 := (hO.blkF hb2).2; have h2 := hq.1; omega) (by have := hO4.len; omega)
      have Hra := hid hra
      clear hra
      go_wp2_with (first
        | (at_builtin; refine wpList_app_r rfl (.tmp 15) (.tmp 20) rfl rfl rfl (Hra.out _ _ _ _ _ hO2 hK2) ?_)
        | (go_at_call 134; (with_reducible refine ko.mono ?_); rintro e w2 ⟨a4, m4, c4, rfl, hO2, hK2⟩))
      rintro a5 c5 w5 ⟨hO5, hK5, -, -⟩
      go_wp2_with fail
      refine ⟨⟨k + 1, m3 + m4, a5, c5, by go_num, by simp, by rw [HS.out, ← List.append_assoc]; exact hO5, hK5, by omega⟩, by simp [intOf]; omega⟩
    · have : k = n := by omega
      subst this
      rw [List.take_of_length_le (by have := L.out; omega)] at hO
      go_wp2_with fail
      go_ret
      refine ⟨a3, m3, c3, rfl, ?_, hKw⟩
      rw [HM.out, L.out]
      exact hO

set_option maxRecDepth 100000 in
set_option maxHeartbeats 8000000 in
theorem refrecord_c (w : World) (F : Nat → Prop) (r : Rc) (a : Option Addr) (n c : Nat) (a2 : Option Addr) (n2 c2 : Nat) (hr : ShRc.R w F r (recCs r a n c a2 n2 c2)) (hT : (recB r).length ≤ 100000000000000) (hn : n ≤ 1000000000000) :
    Calls Try.prog 59 #[rcV r a n c a2 n2 c2] w fun e w' => ∃ a' m' c', e = .returned (.slice a' m' c') ∧ By.Own w' (new w w') a' m' c' (recB r) ∧ Kept w w' nix := by
  obtain ⟨a_, n_, c_, a2_, n2_, c2_, he, hM, hMb, hE, hEb, p1, p2, p3, p4⟩ := hr
  simp only [recCs, List.cons.injEq, Value.slice.injEq, and_true, true_and] at he
  obtain ⟨⟨rfl, rfl, rfl⟩, rfl, rfl, rfl⟩ := he
  have HB := hid (recB_eq r)
  have hBl := congrArg List.length HB.out
  simp only [List.length_append] at hBl
  have HLM := hid hM.len
  have HLE := hid hE.len
  have hka := alloc_kept w (.cells #[.int .i64 r.kind, .int .i64 r.conf.epoch, .slice a n c, .int .i64 r.pos, .int .i64 r.last, .slice a2 n2 c2] 61)
  have hBa := Blk.new_ w #[.int .i64 r.kind, .int .i64 r.conf.epoch, .slice a n c, .int .i64 r.pos, .int .i64 r.last, .slice a2 n2 c2] 61
  have hsz1 : (w.alloc (.cells #[.int .i64 r.kind, .int .i64 r.conf.epoch, .slice a n c, .int .i64 r.pos, .int .i64 r.last, .slice a2 n2 c2] 61)).heap.size = w.heap.size + 1 := World.size_alloc _ _
  generalize hW1 : w.alloc (.cells #[.int .i64 r.kind, .int .i64 r.conf.epoch, .slice a n c, .int .i64 r.pos, .int .i64 r.last, .slice a2 n2 c2] 61) = wa at hka hBa hsz1
  have hns : ∀ x ∈ recNums r, i64p x := by
    intro x hx
    simp only [recNums, List.mem_cons, List.not_mem_nil, or_false] at hx
    rcases hx with rfl | rfl | rfl | rfl | rfl <;> first | assumption | (have := HLM.out; unfold i64p; omega)
  have hL := lit_in wa (recNums r) #[.int .i64 r.kind, .int .i64 r.conf.epoch, .int .i64 r.pos, .int .i64 r.last, .int .i64 n] 3 (0, 0) 5 (by simp [recNums, HLM.out]) rfl (by omega) hns
  rw [hsz1] at hL
  have hkb := alloc_kept wa (.cells #[.int .i64 r.kind, .int .i64 r.conf.epoch, .int .i64 r.pos, .int .i64 r.last, .int .i64 n] 3)
  have kn := refnums_c _ _ _ _ _ _ hL (by omega)
  have hB2 := hBa.kept hkb (fun h => h)
  have hk2 := hka.n hkb
  have hnl : (numsB (recNums r)).length ≤ 50 := numsB_len (recNums r)
  have hml := numsB_len r.conf.members
  clear hL hBa hns
  subst hW1
  go_enter Try.func59, Try.ntmps59
  go_wp2_with (go_at_call 131; (with_reducible refine kn.mono ?_); rintro e w1 ⟨a1, m1, c1, rfl, hO1, hK1⟩; have hB3 := hB2.kept hK1 (fun h => h); have q2 := hB3.cell 2; have q5 := hB3.cell 5; simp at q2 q5)
  have hKw1 := hk2.n hK1
  have hO1w := hO1.mono (new_mono hk2.size (Nat.le_refl w1.heap.size))
  have l1 := hO1.len
  have km := refnums_c _ _ _ _ _ _ (hM.kept hKw1 (fun _ _ => id)) (by omega)
  have hra := fun ty (w3 : World) (a4 : Option Addr) (m4 c4 : Nat) (hO4 : By.Own w3 (new w1 w3) a4 m4 c4 (numsB r.conf.members)) (hK4 : Kept w1 w3 nix) => run_app_f (w0 := w) ty (hKw1.n hK4) ((hO1w.kept hK4 (fun _ _ => id)).mono (new_mono (Nat.le_refl _) hK4.size)) hO4.sl (fun _ q _ hq hb2 => by have h1 := (hO1.blkF hb2).2; have h2 := hq.1; omega) (by have := hO4.len; omega)
  have Hra := hid hra
  clear hra
  go_wp2_with (first
    | (at_builtin; refine wpList_app_r rfl (.tmp 19) (.tmp 23) rfl rfl rfl (Hra.out _ _ _ _ _ hO2 hK2) ?_)
    | (go_at_call 131; (with_reducible refine km.mono ?_); rintro e w2 ⟨a4, m4, c4, rfl, hO2, hK2⟩))
  rintro a5 c5 w5 ⟨hO5, hK5, hk5, -⟩
  have hB5 := (hB3.kept hK2 (fun h => h)).kept hk5 (fun hb2 => by have h2 := (hO1.blkF hb2).1.1; have := hkb.size; omega)
  have z5 := hB5.cell 5
  simp at z5
  have l5 := hO5.len
  rw [List.length_append] at l5
  have ky := refmany_c _ _ _ _ _ _ (hE.kept hK5 (fun _ _ => id)) (by omega)
  have hll : (listB entB r.entries).length = (numB r.entries.length).length + (entsB r.entries).length := by rw [manyB_eq, List.length_append]
  have hrb := fun ty (w6 : World) (a6 : Option Addr) (m6 c6 : Nat) (hO6 : By.Own w6 (new w5 w6) a6 m6 c6 (listB entB r.entries)) (hK6 : Kept w5 w6 nix) => run_app_f (w0 := w) ty (hK5.n hK6) ((hO5.kept hK6 (fun _ _ => id)).mono (new_mono (Nat.le_refl _) hK6.size)) hO6.sl (fun _ q _ hq hb2 => by have h1 := (hO5.blkF hb2).2; have h2 := hq.1; omega) (by have l6 := hO6.len; omega)
  have Hrb := hid hrb
  clear hrb
  go_wp2_with (first
    | (at_builtin; refine wpList_app_r rfl (.tmp 25) (.tmp 28) rfl rfl rfl (Hrb.out _ _ _ _ _ hO6 hK6) ?_)
    | (go_at_call 132; (with_reducible refine ky.mono ?_); rintro e w6 ⟨a6, m6, c6, rfl, hO6, hK6⟩))
  rintro a8 c8 w8 ⟨hO8, hK8, -, -⟩
  go_wp2_with fail
  go_ret
  refine ⟨a8, _, c8, rfl, ?_, hK8⟩
  rw [HB.out, List.append_assoc _ (numB _) _, ← manyB_eq]
  exact hO8

/-! ### Are two one? -/
set_option maxRecDepth 100000 in
set_option maxHeartbeats 4000000 in
theorem refsame_c (w : World) (F F2 : Nat → Prop) (x y : Ent) (a : Option Addr) (n c : Nat) (a2 : Option Addr) (n2 c2 : Nat) (h : By.Sl w F a n c x.frag) (h2 : By.Sl w F2 a2 n2 c2 y.frag) (hx : x.Wf) (hy : y.Wf) (hsx : x.key.length + n ≤ 140737488340000) (hsy : y.key.length + n2 ≤ 140737488340000) :
    Calls Try.prog 64 #[entV x a n c, entV y a2 n2 c2] w fun r w' => r = .returned (.bool (entB x == entB y)) ∧ Kept w w' nix := by
  have hk1 := alloc_kept w (.cells #[.int .i64 x.seq, .int .i64 x.client, .int .i64 x.num, .int .i64 x.op, strv x.key, .int .i64 x.size, .int .u32 x.sum, .slice a n c] 72)
  have hk2 := alloc_kept (w.alloc (.cells #[.int .i64 x.seq, .int .i64 x.client, .int .i64 x.num, .int .i64 x.op, strv x.key, .int .i64 x.size, .int .u32 x.sum, .slice a n c] 72)) (.cells #[.int .i64 y.seq, .int .i64 y.client, .int .i64 y.num, .int .i64 y.op, strv y.key, .int .i64 y.size, .int .u32 y.sum, .slice a2 n2 c2] 72)
  have hB1 := (Blk.new_ w #[.int .i64 x.seq, .int .i64 x.client, .int .i64 x.num, .int .i64 x.op, strv x.key, .int .i64 x.size, .int .u32 x.sum, .slice a n c] 72).kept hk2 (fun h => h)
  have hB2 := Blk.new_ (w.alloc (.cells #[.int .i64 x.seq, .int .i64 x.client, .int .i64 x.num, .int .i64 x.op, strv x.key, .int .i64 x.size, .int .u32 x.sum, .slice a n c] 72)) #[.int .i64 y.seq, .int .i64 y.client, .int .i64 y.num, .int .i64 y.op, strv y.key, .int .i64 y.size, .int .u32 y.sum, .slice a2 n2 c2] 72
  rw [World.size_alloc] at hB2
  have hkw := hk1.n hk2
  have HX := hid hx
  have HY := hid hy
  clear hx hy hk1 hk2
  go_enter Try.func64, Try.ntmps64
  go_wp2_with fail
  generalize (w.alloc (.cells #[.int .i64 x.seq, .int .i64 x.client, .int .i64 x.num, .int .i64 x.op, strv x.key, .int .i64 x.size, .int .u32 x.sum, .slice a n c] 72)).alloc (.cells #[.int .i64 y.seq, .int .i64 y.client, .int .i64 y.num, .int .i64 y.op, strv y.key, .int .i64 y.size, .int .u32 y.sum, .slice a2 n2 c2] 72) = wb at *
  have q0 := fun W (hK : Kept wb W nix) => (hB1.kept hK (fun h => h)).cell 0
  have q1 := fun W (hK : Kept wb W nix) => (hB1.kept hK (fun h => h)).cell 1
  have q2 := fun W (hK : Kept wb W nix) => (hB1.kept hK (fun h => h)).cell 2
  have q3 := fun W (hK : Kept wb W nix) => (hB1.kept hK (fun h => h)).cell 3
  have q4 := fun W (hK : Kept wb W nix) => (hB1.kept hK (fun h => h)).cell 4
  have q5 := fun W (hK : Kept wb W nix) => (hB1.kept hK (fun h => h)).cell 5
  have q6 := fun W (hK : Kept wb W nix) => (hB1.kept hK (fun h => h)).cell 6
  have q7 := fun W (hK : Kept wb W nix) => (hB1.kept hK (fun h => h)).cell 7
  have p0 := fun W (hK : Kept wb W nix) => (hB2.kept hK (fun h => h)).cell 0
  have p1 := fun W (hK : Kept wb W nix) => (hB2.kept hK (fun h => h)).cell 1
  have p2 := fun W (hK : Kept wb W nix) => (hB2.kept hK (fun h => h)).cell 2
  have p3 := fun W (hK : Kept wb W nix) => (hB2.kept hK (fun h => h)).cell 3
  have p4 := fun W (hK : Kept wb W nix) => (hB2.kept hK (fun h => h)).cell 4
  have p5 := fun W (hK : Kept wb W nix) => (hB2.kept hK (fun h => h)).cell 5
  have p6 := fun W (hK : Kept wb W nix) => (hB2.kept hK (fun h => h)).cell 6
  have p7 := fun W (hK : Kept wb W nix) => (hB2.kept hK (fun h => h)).cell 7
  simp at q0 q1 q2 q3 q4 q5 q6 q7 p0 p1 p2 p3 p4 p5 p6 p7
  have s0_0 : Kept wb wb.drew nix := (Kept.refl _ _).drew
  refine wp_region_held (S := fun W => Kept wb W nix ∧ True) (by kernel_rfl) ?_
  have HS : Kept wb wb.drew nix ∧ True := ⟨s0_0, trivial⟩
  show wpAnyH _ _ _ _ _ _ _ _ wb.drew
  refine wpAnyH_take (i := 0) (oi := { dst := some 5, op := Op.load 72 (Operand.tmp 2), type := 72, pos := "ref.go:140", after := #[], guard := none }) (v := ?_) rfl (by kernel_rfl) (by kernel_rfl) (by kernel_rfl) (fun _ _ _ h => h) (.inl ⟨by rfl, fun W hS => ?_⟩) HS ?_
  rotate_left
  · obtain ⟨t0, -⟩ := hS
    go_simp
    try with_reducible rfl
  rotate_left
  try simp only [Act.put, List.setIfInBounds_toArray, List.set_cons_zero, List.set_cons_succ]
  refine wpAnyH_take (i := 3) (oi := { dst := some 8, op := Op.load 72 (Operand.tmp 3), type := 72, pos := "ref.go:140", after := #[], guard := none }) (v := ?_) rfl (by kernel_rfl) (by kernel_rfl) (by kernel_rfl) (fun _ _ _ h => h) (.inl ⟨by rfl, fun W hS => ?_⟩) HS ?_
  rotate_left
  · obtain ⟨t0, -⟩ := hS
    go_simp
    try with_reducible rfl
  rotate_left
  try simp only [Act.put, List.setIfInBounds_toArray, List.set_cons_zero, List.set_cons_succ]
  refine wpAnyH_one (i := 1) (oi := { dst := some 6, op := Op.call { callee := Callee.value (Operand.func 134), args := #[Operand.tmp 5], argTypes := #[72] }, type := 22, pos := "ref.go:140", after := #[{ on := 0, ground := Ground.data }], guard := none }) rfl (by kernel_rfl) (by rfl) (fun K hK => ?_)
  go_simp
  refine (refone_c _ F x a n c (h.kept (hkw.n s0_0) (fun _ _ => id)) HX.out hsx).mono ?_; rintro r w1 ⟨a3, m3, c3, rfl, hO1, hK1⟩
  have r1 := fun W (hK : Kept w1 W nix) => strBy (hO1.sl.kept hK (fun _ _ => id))
  have s0_1 := s0_0.n hK1
  have s1_1 := Kept.refl w1 nix
  clear HS
  refine hK _ _ (fun W => Kept w1 W nix ∧ Kept wb W nix ∧ True) ⟨s1_1, s0_1, trivial⟩ (fun _ h => h.2) ?_
  have HS : Kept w1 w1 nix ∧ Kept wb w1 nix ∧ True := ⟨s1_1, s0_1, trivial⟩
  clear hK K
  try simp only [Act.put, List.setIfInBounds_toArray, List.set_cons_zero, List.set_cons_succ]
  refine wpAnyH_take (i := 2) (oi := { dst := some 7, op := Op.convert 22 9 (Operand.tmp 6), type := 9, pos := "ref.go:140", after := #[{ on := 1, ground := Ground.data }], guard := none }) (v := ?_) rfl (by kernel_rfl) (by kernel_rfl) (by kernel_rfl) (fun _ _ _ h => h) (.inl ⟨by rfl, fun W hS => ?_⟩) HS ?_
  rotate_left
  · obtain ⟨t1, t0, -⟩ := hS
    go_simp
    try with_reducible rfl
  rotate_left
  try simp only [Act.put, List.setIfInBounds_toArray, List.set_cons_zero, List.set_cons_succ]
  refine wpAnyH_one (i := 4) (oi := { dst := some 9, op := Op.call { callee := Callee.value (Operand.func 134), args := #[Operand.tmp 8], argTypes := #[72] }, type := 22, pos := "ref.go:140", after := #[{ on := 3, ground := Ground.data }, { on := 1, ground := Ground.chain }], guard := none }) rfl (by kernel_rfl) (by rfl) (fun K hK => ?_)
  go_simp
  refine (refone_c _ F2 y a2 n2 c2 (h2.kept (hkw.n s0_1) (fun _ _ => id)) HY.out hsy).mono ?_; rintro r w2 ⟨a4, m4, c4, rfl, hO2, hK2⟩
  have r2 := fun W (hK : Kept w2 W nix) => strBy (hO2.sl.kept hK (fun _ _ => id))
  have s0_2 := s0_1.n hK2
  have s1_2 := s1_1.n hK2
  have s2_2 := Kept.refl w2 nix
  clear HS
  refine hK _ _ (fun W => Kept w2 W nix ∧ Kept w1 W nix ∧ Kept wb W nix ∧ True) ⟨s2_2, s1_2, s0_2, trivial⟩ (fun _ h => h.2) ?_
  have HS : Kept w2 w2 nix ∧ Kept w1 w2 nix ∧ Kept wb w2 nix ∧ True := ⟨s2_2, s1_2, s0_2, trivial⟩
  clear hK K
  try simp only [Act.put, List.setIfInBounds_toArray, List.set_cons_zero, List.set_cons_succ]
  refine wpAnyH_take (i := 5) (oi := { dst := some 10, op := Op.convert 22 9 (Operand.tmp 9), type := 9, pos := "ref.go:140", after := #[{ on := 4, ground := Ground.data }], guard := none }) (v := ?_) rfl (by kernel_rfl) (by kernel_rfl) (by kernel_rfl) (fun _ _ _ h => h) (.inl ⟨by rfl, fun W hS => ?_⟩) HS ?_
  rotate_left
  · obtain ⟨t2, t1, t0, -⟩ := hS
    go_simp
    try with_reducible rfl
  rotate_left
  try simp only [Act.put, List.setIfInBounds_toArray, List.set_cons_zero, List.set_cons_succ]
  refine wpAnyH_take (i := 6) (oi := { dst := some 11, op := Op.binOp BinOp.eql 9 (Operand.tmp 7) (Operand.tmp 10) 9, type := 4, pos := "ref.go:140", after := #[{ on := 2, ground := Ground.data }, { on := 5, ground := Ground.data }], guard := none }) (v := ?_) rfl (by kernel_rfl) (by kernel_rfl) (by kernel_rfl) (fun _ _ _ h => h) (.inl ⟨by rfl, fun W hS => ?_⟩) HS ?_
  rotate_left
  · obtain ⟨t2, t1, t0, -⟩ := hS
    go_simp
    try with_reducible rfl
  rotate_left
  try simp only [Act.put, List.setIfInBounds_toArray, List.set_cons_zero, List.set_cons_succ]
  refine wpAnyH_take (i := 7) (oi := { dst := some 4, op := Op.assign (Operand.tmp 11), type := 4, pos := "ref.go:140", after := #[{ on := 6, ground := Ground.data }, { on := 4, ground := Ground.chain }, { on := 0, ground := Ground.phase }, { on := 1, ground := Ground.phase }, { on := 2, ground := Ground.phase }, { on := 3, ground := Ground.phase }, { on := 4, ground := Ground.phase }, { on := 5, ground := Ground.phase }, { on := 6, ground := Ground.phase }], guard := none }) (v := ?_) rfl (by kernel_rfl) (by kernel_rfl) (by kernel_rfl) (fun _ _ _ h => h) (.inl ⟨by rfl, fun W hS => ?_⟩) HS ?_
  rotate_left
  · obtain ⟨t2, t1, t0, -⟩ := hS
    go_simp
    try with_reducible rfl
  rotate_left
  try simp only [Act.put, List.setIfInBounds_toArray, List.set_cons_zero, List.set_cons_succ]
  refine wpAnyH_done (by kernel_rfl) ?_ _
  go_wp2_with fail
  go_ret
  exact ⟨rfl, hkw.n s0_2⟩

set_option maxRecDepth 100000 in
set_option maxHeartbeats 4000000 in
theorem refsamerec_c (w : World) (F F2 : Nat → Prop) (x y : Rc) (a : Option Addr) (n c : Nat) (b : Option Addr) (m d : Nat) (a2 : Option Addr) (n2 c2 : Nat) (b2 : Option Addr) (m2 d2 : Nat) (hx : ShRc.R w F x (recCs x a n c b m d)) (hy : ShRc.R w F2 y (recCs y a2 n2 c2 b2 m2 d2)) (hsx : (recB x).length ≤ 100000000000000) (hsy : (recB y).length ≤ 100000000000000) (hn : n ≤ 1000000000000) (hn2 : n2 ≤ 1000000000000) :
    Calls Try.prog 60 #[rcV x a n c b m d, rcV y a2 n2 c2 b2 m2 d2] w fun r w' => r = .returned (.bool (recB x == recB y)) ∧ Kept w w' nix := by
  have hk1 := alloc_kept w (.cells #[.int .i64 x.kind, .int .i64 x.conf.epoch, .slice a n c, .int .i64 x.pos, .int .i64 x.last, .slice b m d] 61)
  have hk2 := alloc_kept (w.alloc (.cells #[.int .i64 x.kind, .int .i64 x.conf.epoch, .slice a n c, .int .i64 x.pos, .int .i64 x.last, .slice b m d] 61)) (.cells #[.int .i64 y.kind, .int .i64 y.conf.epoch, .slice a2 n2 c2, .int .i64 y.pos, .int .i64 y.last, .slice b2 m2 d2] 61)
  have hB1 := (Blk.new_ w #[.int .i64 x.kind, .int .i64 x.conf.epoch, .slice a n c, .int .i64 x.pos, .int .i64 x.last, .slice b m d] 61).kept hk2 (fun h => h)
  have hB2 := Blk.new_ (w.alloc (.cells #[.int .i64 x.kind, .int .i64 x.conf.epoch, .slice a n c, .int .i64 x.pos, .int .i64 x.last, .slice b m d] 61)) #[.int .i64 y.kind, .int .i64 y.conf.epoch, .slice a2 n2 c2, .int .i64 y.pos, .int .i64 y.last, .slice b2 m2 d2] 61
  rw [World.size_alloc] at hB2
  have hkw := hk1.n hk2
  have HX := hid hx
  have HY := hid hy
  clear hx hy hk1 hk2
  go_enter Try.func60, Try.ntmps60
  go_wp2_with fail
  generalize (w.alloc (.cells #[.int .i64 x.kind, .int .i64 x.conf.epoch, .slice a n c, .int .i64 x.pos, .int .i64 x.last, .slice b m d] 61)).alloc (.cells #[.int .i64 y.kind, .int .i64 y.conf.epoch, .slice a2 n2 c2, .int .i64 y.pos, .int .i64 y.last, .slice b2 m2 d2] 61) = wb at *
  have q0 := fun W (hK : Kept wb W nix) => (hB1.kept hK (fun h => h)).cell 0
  have q1 := fun W (hK : Kept wb W nix) => (hB1.kept hK (fun h => h)).cell 1
  have q2 := fun W (hK : Kept wb W nix) => (hB1.kept hK (fun h => h)).cell 2
  have q3 := fun W (hK : Kept wb W nix) => (hB1.kept hK (fun h => h)).cell 3
  have q4 := fun W (hK : Kept wb W nix) => (hB1.kept hK (fun h => h)).cell 4
  have q5 := fun W (hK : Kept wb W nix) => (hB1.kept hK (fun h => h)).cell 5
  have p0 := fun W (hK : Kept wb W nix) => (hB2.kept hK (fun h => h)).cell 0
  have p1 := fun W (hK : Kept wb W nix) => (hB2.kept hK (fun h => h)).cell 1
  have p2 := fun W (hK : Kept wb W nix) => (hB2.kept hK (fun h => h)).cell 2
  have p3 := fun W (hK : Kept wb W nix) => (hB2.kept hK (fun h => h)).cell 3
  have p4 := fun W (hK : Kept wb W nix) => (hB2.kept hK (fun h => h)).cell 4
  have p5 := fun W (hK : Kept wb W nix) => (hB2.kept hK (fun h => h)).cell 5
  simp at q0 q1 q2 q3 q4 q5 p0 p1 p2 p3 p4 p5
  have s0_0 : Kept wb wb.drew nix := (Kept.refl _ _).drew
  refine wp_region_held (S := fun W => Kept wb W nix ∧ True) (by kernel_rfl) ?_
  have HS : Kept wb wb.drew nix ∧ True := ⟨s0_0, trivial⟩
  show wpAnyH _ _ _ _ _ _ _ _ wb.drew
  refine wpAnyH_take (i := 0) (oi := { dst := some 5, op := Op.load 61 (Operand.tmp 2), type := 61, pos := "ref.go:146", after := #[], guard := none }) (v := ?_) rfl (by kernel_rfl) (by kernel_rfl) (by kernel_rfl) (fun _ _ _ h => h) (.inl ⟨by rfl, fun W hS => ?_⟩) HS ?_
  rotate_left
  · obtain ⟨t0, -⟩ := hS
    go_simp
    try with_reducible rfl
  rotate_left
  try simp only [Act.put, List.setIfInBounds_toArray, List.set_cons_zero, List.set_cons_succ]
  refine wpAnyH_take (i := 3) (oi := { dst := some 8, op := Op.load 61 (Operand.tmp 3), type := 61, pos := "ref.go:146", after := #[], guard := none }) (v := ?_) rfl (by kernel_rfl) (by kernel_rfl) (by kernel_rfl) (fun _ _ _ h => h) (.inl ⟨by rfl, fun W hS => ?_⟩) HS ?_
  rotate_left
  · obtain ⟨t0, -⟩ := hS
    go_simp
    try with_reducible rfl
  rotate_left
  try simp only [Act.put, List.setIfInBounds_toArray, List.set_cons_zero, List.set_cons_succ]
  refine wpAnyH_one (i := 1) (oi := { dst := some 6, op := Op.call { callee := Callee.value (Operand.func 59), args := #[Operand.tmp 5], argTypes := #[61] }, type := 22, pos := "ref.go:146", after := #[{ on := 0, ground := Ground.data }], guard := none }) rfl (by kernel_rfl) (by rfl) (fun K hK => ?_)
  go_simp
  refine (refrecord_c _ F x a n c b m d (ShRc.step HX.out (fun q _ hlt => (hkw.n s0_0).block q hlt id)) hsx hn).mono ?_; rintro r w1 ⟨a3, m3, c3, rfl, hO1, hK1⟩
  have r1 := fun W (hK : Kept w1 W nix) => strBy (hO1.sl.kept hK (fun _ _ => id))
  have s0_1 := s0_0.n hK1
  have s1_1 := Kept.refl w1 nix
  clear HS
  refine hK _ _ (fun W => Kept w1 W nix ∧ Kept wb W nix ∧ True) ⟨s1_1, s0_1, trivial⟩ (fun _ h => h.2) ?_
  have HS : Kept w1 w1 nix ∧ Kept wb w1 nix ∧ True := ⟨s1_1, s0_1, trivial⟩
  clear hK K
  try simp only [Act.put, List.setIfInBounds_toArray, List.set_cons_zero, List.set_cons_succ]
  refine wpAnyH_take (i := 2) (oi := { dst := some 7, op := Op.convert 22 9 (Operand.tmp 6), type := 9, pos := "ref.go:146", after := #[{ on := 1, ground := Ground.data }], guard := none }) (v := ?_) rfl (by kernel_rfl) (by kernel_rfl) (by kernel_rfl) (fun _ _ _ h => h) (.inl ⟨by rfl, fun W hS => ?_⟩) HS ?_
  rotate_left
  · obtain ⟨t1, t0, -⟩ := hS
    go_simp
    try with_reducible rfl
  rotate_left
  try simp only [Act.put, List.setIfInBounds_toArray, List.set_cons_zero, List.set_cons_succ]
  refine wpAnyH_one (i := 4) (oi := { dst := some 9, op := Op.call { callee := Callee.value (Operand.func 59), args := #[Operand.tmp 8], argTypes := #[61] }, type := 22, pos := "ref.go:146", after := #[{ on := 3, ground := Ground.data }, { on := 1, ground := Ground.chain }], guard := none }) rfl (by kernel_rfl) (by rfl) (fun K hK => ?_)
  go_simp
  refine (refrecord_c _ F2 y a2 n2 c2 b2 m2 d2 (ShRc.step HY.out (fun q _ hlt => (hkw.n s0_1).block q hlt id)) hsy hn2).mono ?_; rintro r w2 ⟨a4, m4, c4, rfl, hO2, hK2⟩
  have r2 := fun W (hK : Kept w2 W nix) => strBy (hO2.sl.kept hK (fun _ _ => id))
  have s0_2 := s0_1.n hK2
  have s1_2 := s1_1.n hK2
  have s2_2 := Kept.refl w2 nix
  clear HS
  refine hK _ _ (fun W => Kept w2 W nix ∧ Kept w1 W nix ∧ Kept wb W nix ∧ True) ⟨s2_2, s1_2, s0_2, trivial⟩ (fun _ h => h.2) ?_
  have HS : Kept w2 w2 nix ∧ Kept w1 w2 nix ∧ Kept wb w2 nix ∧ True := ⟨s2_2, s1_2, s0_2, trivial⟩
  clear hK K
  try simp only [Act.put, List.setIfInBounds_toArray, List.set_cons_zero, List.set_cons_succ]
  refine wpAnyH_take (i := 5) (oi := { dst := some 10, op := Op.convert 22 9 (Operand.tmp 9), type := 9, pos := "ref.go:146", after := #[{ on := 4, ground := Ground.data }], guard := none }) (v := ?_) rfl (by kernel_rfl) (by kernel_rfl) (by kernel_rfl) (fun _ _ _ h => h) (.inl ⟨by rfl, fun W hS => ?_⟩) HS ?_
  rotate_left
  · obtain ⟨t2, t1, t0, -⟩ := hS
    go_simp
    try with_reducible rfl
  rotate_left
  try simp only [Act.put, List.setIfInBounds_toArray, List.set_cons_zero, List.set_cons_succ]
  refine wpAnyH_take (i := 6) (oi := { dst := some 11, op := Op.binOp BinOp.eql 9 (Operand.tmp 7) (Operand.tmp 10) 9, type := 4, pos := "ref.go:146", after := #[{ on := 2, ground := Ground.data }, { on := 5, ground := Ground.data }], guard := none }) (v := ?_) rfl (by kernel_rfl) (by kernel_rfl) (by kernel_rfl) (fun _ _ _ h => h) (.inl ⟨by rfl, fun W hS => ?_⟩) HS ?_
  rotate_left
  · obtain ⟨t2, t1, t0, -⟩ := hS
    go_simp
    try with_reducible rfl
  rotate_left
  try simp only [Act.put, List.setIfInBounds_toArray, List.set_cons_zero, List.set_cons_succ]
  refine wpAnyH_take (i := 7) (oi := { dst := some 4, op := Op.assign (Operand.tmp 11), type := 4, pos := "ref.go:146", after := #[{ on := 6, ground := Ground.data }, { on := 4, ground := Ground.chain }, { on := 0, ground := Ground.phase }, { on := 1, ground := Ground.phase }, { on := 2, ground := Ground.phase }, { on := 3, ground := Ground.phase }, { on := 4, ground := Ground.phase }, { on := 5, ground := Ground.phase }, { on := 6, ground := Ground.phase }], guard := none }) (v := ?_) rfl (by kernel_rfl) (by kernel_rfl) (by kernel_rfl) (fun _ _ _ h => h) (.inl ⟨by rfl, fun W hS => ?_⟩) HS ?_
  rotate_left
  · obtain ⟨t2, t1, t0, -⟩ := hS
    go_simp
    try with_reducible rfl
  rotate_left
  try simp only [Act.put, List.setIfInBounds_toArray, List.set_cons_zero, List.set_cons_succ]
  refine wpAnyH_done (by kernel_rfl) ?_ _
  go_wp2_with fail
  go_ret
  exact ⟨rfl, hkw.n s0_2⟩
end Go.Proofs.Ytlhlljjchggnjaa
