/- The walks of layer 7's statements: the fixed fact. -/
import Derived.Test.YtlhlljjchggnjaaEntry6
import Derived.Test.YtlhlljjchggnjaaRef7c
import Derived.Test.YtlhlljjchggnjaaRefSum2
namespace Go.Proofs.Ytlhlljjchggnjaa
open Go.RowKit

theorem ShRc.kept {w w' : World} {F : Nat → Prop} {r : Rc} {cs : List Value} (h : ShRc.R w F r cs) (hk : Kept w w' nix) : ShRc.R w' F r cs := ShRc.step h (fun g _ hlt => hk.block g hlt id)
def awE : Ent := ⟨1, 0, 1, 1, [107], 1, 2147483648, [120]⟩
def awR : Rc := ⟨1, ⟨0, []⟩, 0, 0, [awE]⟩
theorem awE_wf : awE.Wf := by
  unfold awE Ent.Wf i64p lenOk
  simp
theorem awR_ok : recOk awR = true := by decide
theorem awR_sums : ∀ e ∈ awR.entries, 0 ≤ e.sum ∧ e.sum ≤ 4294967295 := by
  intro e he
  simp only [awR, List.mem_singleton] at he
  subst he
  simp [awE]
theorem recB_len {r : Rc} (h : recOk r = true) : (recB r).length ≤ 2000000 := by
  have h2 := h
  simp only [recOk, cnfOk, Bool.and_eq_true, inB_iff, decide_eq_true_eq] at h2
  obtain ⟨⟨⟨⟨⟨_, ⟨⟨_, hml⟩, _⟩⟩, _⟩, _⟩, hel⟩, hall⟩ := h2
  rw [recB_eq]
  simp only [List.length_append]
  have h3 := numsB_len (recNums r)
  have h4 : (recNums r).length = 5 := rfl
  have h5 := numsB_len r.conf.members
  have h6 := numB_len (r.entries.length : Int)
  have h7 := entsB_len r.entries hall
  omega

theorem rc_n {w : World} {F : Nat → Prop} {r : Rc} {a : Option Addr} {n c : Nat} {b : Option Addr} {m d : Nat} (h : ShRc.R w F r (recCs r a n c b m d)) : r.conf.members.length = n := by
  obtain ⟨a_, n_, c_, a2_, n2_, c2_, he, hM, hMb, hE, hEb, p1, p2, p3, p4⟩ := h
  simp only [recCs, List.cons.injEq, Value.slice.injEq, and_true, true_and] at he
  obtain ⟨⟨rfl, rfl, rfl⟩, rfl, rfl, rfl⟩ := he
  exact hM.len
set_option maxRecDepth 100000 in
set_option maxHeartbeats 8000000 in
theorem awake7_c (w : World) : Calls Try.prog 55 #[] w fun e w' => e = .returned (.bool true) ∧ Kept w w' nix := by
  have kc := kcBy
  -- the record in memory
  have hk1 := alloc_kept w (.cells #[.int .u8 120] 5 (1, 2))
  have hL1 := lit_by w [120] #[.int .u8 120] 5 (1, 2) 1 rfl rfl (by omega)
  have hs1 : (w.alloc (.cells #[.int .u8 120] 5 (1, 2))).heap.size = w.heap.size + 1 := World.size_alloc _ _
  generalize hW1 : w.alloc (.cells #[.int .u8 120] 5 (1, 2)) = w1 at hk1 hL1 hs1
  have hE1 : ShEnt.R w1 (new w w1) awE (entCs awE (some ⟨w.heap.size, 0, none⟩) 1 1) := ⟨_, 1, 1, rfl, hL1, by unfold maxB; omega, by unfold maxB; decide, awE_wf⟩
  have hk2 := alloc_kept w1 (.cells (entCs awE (some ⟨w.heap.size, 0, none⟩) 1 1).toArray 72)
  have hS2 := boxed_sl 72 hE1
  have hs2 : (w1.alloc (.cells (entCs awE (some ⟨w.heap.size, 0, none⟩) 1 1).toArray 72)).heap.size = w1.heap.size + 1 := World.size_alloc _ _
  have hEn : ShEnt.Sl (w1.alloc (.cells (entCs awE (some ⟨w.heap.size, 0, none⟩) 1 1).toArray 72)) (fun _ => True) (some ⟨w.heap.size + 1, 0, none⟩) 1 1 [awE] := by rw [← hs1]; exact hS2.mono (fun _ _ => trivial)
  generalize hW2 : w1.alloc (.cells (entCs awE (some ⟨w.heap.size, 0, none⟩) 1 1).toArray 72) = w2 at hk2 hs2 hEn
  have hRc : ShRc.R w2 (fun _ => True) awR (recCs awR none 0 0 (some ⟨w.heap.size + 1, 0, none⟩) 1 1) := ⟨none, 0, 0, _, 1, 1, rfl, Sh.Sl.nil _ _ _, by unfold maxB; omega, hEn, by unfold maxB entBytes; omega, by simp [awR, i64p], by simp [awR, i64p], by simp [awR, i64p], by simp [awR, i64p]⟩
  have hk3 := alloc_kept w2 (.cells (recCs awR none 0 0 (some ⟨w.heap.size + 1, 0, none⟩) 1 1).toArray 61)
  have hB3 := Blk.new_ w2 (recCs awR none 0 0 (some ⟨w.heap.size + 1, 0, none⟩) 1 1).toArray 61
  have hs3 : (w2.alloc (.cells (recCs awR none 0 0 (some ⟨w.heap.size + 1, 0, none⟩) 1 1).toArray 61)).heap.size = w2.heap.size + 1 := World.size_alloc _ _
  have hR3 := ShRc.kept hRc hk3
  generalize hW3 : w2.alloc (.cells (recCs awR none 0 0 (some ⟨w.heap.size + 1, 0, none⟩) 1 1).toArray 61) = w3 at hk3 hB3 hs3 hR3
  have hKw3 := (hk1.n hk2).n hk3
  have HD1 := hid (recDec_recB awR_ok awR_sums)
  have HD2 := hid (recDec_more awR_ok awR_sums 0)
  have HlenB := hid (recB_len awR_ok)
  have k1 := encode_c w3 _ awR _ _ _ _ _ _ hR3
  rw [show recEnc awR = (recB awR, 0) by simp [recEnc, awR_ok]] at k1
  simp only at k1
  obtain ⟨bs, hbs⟩ : ∃ bs, recB awR = bs := ⟨_, rfl⟩
  rw [hbs] at HD1 HD2 HlenB k1
  have HBS := hid hbs
  clear hbs
  have hbs : w2.heap.size = w.heap.size + 2 := by omega
  rw [hbs] at hB3
  have hBe := (Blk.new_ w1 (entCs awE (some ⟨w.heap.size, 0, none⟩) 1 1).toArray 72)
  rw [hs1, hW2] at hBe
  have hBe3 := hBe.kept hk3 (fun h => h)
  have hsz3 : w3.heap.size = w.heap.size + 3 := by omega
  clear hBe hRc hEn hS2 hL1 hE1
  have hks := HlenB.out
  go_enter Try.func55, Try.ntmps55
  have c1 := hB3.cell 0
  have E3 : w3 = ((w.alloc (.cells #[.int .u8 120] 5 (1, 2))).alloc (.cells #[.int .i64 1, .int .i64 0, .int .i64 1, .int .i64 1, .string ⟨#[107]⟩, .int .i64 1, .int .u32 2147483648, .slice (some ⟨w.heap.size, 0, none⟩) 1 1] 72)).alloc (.cells #[.int .i64 1, .int .i64 0, .slice none 0 0, .int .i64 0, .int .i64 0, .slice (some ⟨w.heap.size + 1, 0, none⟩) 1 1] 61) := by rw [← hW3, ← hW2, ← hW1]; rfl
  have HE3 := hid E3
  clear E3 hW1 hW2 hW3 c1 hk1 hk2 hk3
  go_wp2_with fail
  rw [← HE3.out]
  simp only [rcV, awR] at k1
  refine k1.mono ?_
  rintro e w4 ⟨a4, m4, c4, rfl, hO4, hK4⟩
  have hl4 := hO4.len
  have hm4 : m4 ≤ 2000000 := by omega
  have hB4 := hB3.kept hK4 (fun h => h)
  have hBe4 := hBe3.kept hK4 (fun h => h)
  have hR4 := ShRc.kept hR3 hK4
  have hKw4 := hKw3.n hK4
  have k2 := decode_c w4 _ a4 m4 c4 bs hO4.sl (by unfold maxB; omega)
  rw [HD1.out] at k2
  simp only at k2
  go_wp2_with fail
  refine k2.mono ?_
  rintro e w5 ⟨a5, n5, c5, b5, m5, d5, rfl, hX5, hK5⟩
  have hKw5 := hKw4.n hK5
  have hA6 := alloc_kept w5 (.cells #[.int .i64 awR.kind, .int .i64 awR.conf.epoch, .slice a5 n5 c5, .int .i64 awR.pos, .int .i64 awR.last, .slice b5 m5 d5] 61)
  have hB6 := Blk.new_ w5 #[.int .i64 awR.kind, .int .i64 awR.conf.epoch, .slice a5 n5 c5, .int .i64 awR.pos, .int .i64 awR.last, .slice b5 m5 d5] 61
  have hs6 : (w5.alloc (.cells #[.int .i64 awR.kind, .int .i64 awR.conf.epoch, .slice a5 n5 c5, .int .i64 awR.pos, .int .i64 awR.last, .slice b5 m5 d5] 61)).heap.size = w5.heap.size + 1 := World.size_alloc _ _
  have hA7 := alloc_kept (w5.alloc (.cells #[.int .i64 awR.kind, .int .i64 awR.conf.epoch, .slice a5 n5 c5, .int .i64 awR.pos, .int .i64 awR.last, .slice b5 m5 d5] 61)) (.cells #[.int .u8 0] 5)
  have hL7 := lit_by (w5.alloc (.cells #[.int .i64 awR.kind, .int .i64 awR.conf.epoch, .slice a5 n5 c5, .int .i64 awR.pos, .int .i64 awR.last, .slice b5 m5 d5] 61)) [0] #[.int .u8 0] 5 (0, 0) 1 rfl rfl (by omega)
  have hs7 : ((w5.alloc (.cells #[.int .i64 awR.kind, .int .i64 awR.conf.epoch, .slice a5 n5 c5, .int .i64 awR.pos, .int .i64 awR.last, .slice b5 m5 d5] 61)).alloc (.cells #[.int .u8 0] 5)).heap.size = w5.heap.size + 2 := by rw [World.size_alloc, hs6]
  rw [hs6] at hL7
  have hB7 := hB6.kept hA7 (fun h => h)
  have hK57 := hA6.n hA7
  clear hA6 hA7 hB6
  obtain ⟨w7, hw7⟩ : ∃ x, x = (w5.alloc (.cells #[.int .i64 awR.kind, .int .i64 awR.conf.epoch, .slice a5 n5 c5, .int .i64 awR.pos, .int .i64 awR.last, .slice b5 m5 d5] 61)).alloc (.cells #[.int .u8 0] 5) := ⟨_, rfl⟩
  rw [← hw7] at hL7 hs7 hB7 hK57
  have hO7 := ((hO4.kept hK5 (fun _ _ => id)).kept hK57 (fun _ _ => id))
  have hs34 := hKw3.size
  have hs45 : w4.heap.size ≤ w5.heap.size := hK5.size
  have hs34b : w3.heap.size ≤ w4.heap.size := hK4.size
  have hra := fun ty => run_app_f (w0 := w) ty (hKw5.n hK57) (hO7.mono (fun q hq => ⟨by have := hq.1; omega, by have := hq.2; omega⟩)) hL7 (fun _ q _ hq hb2 => by have h1 := (hO4.blkF hb2).2; have h2 := hq.1; rw [hs6] at h2; omega) (by omega)
  rw [hw7] at hra
  have Hra := hid hra
  clear hra
  have HW7 := hid hw7
  clear hw7
  go_wp2_with (at_builtin; refine wpList_app_r rfl (.tmp 24) (.tmp 25) rfl rfl rfl (Hra.out _) ?_)
  rintro a8 c8 w8 ⟨hO8, hKw8, hk8, -⟩
  rw [← HW7.out] at hk8
  have hnb : ∀ q, blk a4 q → w3.heap.size ≤ q ∧ q < w4.heap.size := fun q hq => (hO4.blkF hq).1
  have hX8 : ShRc.R w8 (new w4 w5) awR (recCs awR a5 n5 c5 b5 m5 d5) := ShRc.step (ShRc.kept hX5 hK57) (fun q hq hlt => hk8.block q hlt (fun h => by have h1 := hnb q h; have h2 := hq.1; omega))
  have hB8 := hB7.kept hk8 (fun h => by have h1 := hnb _ h; omega)
  have hB3_8 := ((hB4.kept hK5 (fun h => h)).kept hK57 (fun h => h)).kept hk8 (fun h => by have h1 := hnb _ h; omega)
  have hBe8 := ((hBe4.kept hK5 (fun h => h)).kept hK57 (fun h => h)).kept hk8 (fun h => by have h1 := hnb _ h; omega)
  have hl8 := hO8.len
  have k3 := decode_c w8 _ a8 (m4 + 1) c8 (bs ++ [0]) hO8.sl (by unfold maxB; omega)
  rw [HD2.out] at k3
  simp only at k3
  have hRw8 : ShRc.R w8 (fun _ => True) awR (recCs awR none 0 0 (some ⟨w.heap.size + 1, 0, none⟩) 1 1) := ShRc.step hR3 (fun q _ hlt => (hk8.block q (by have h1 := hK57.size; omega) (fun h => by have h1 := hnb _ h; omega)).trans (((hK4.n hK5).n hK57).block q hlt (fun h => h)))
  go_wp2_with (
    go_at_call 58; (with_reducible refine k3.mono ?_); rintro e w9 ⟨a9, n9, c9, b9, m9, d9, rfl, hX9, hK9⟩
    have kx := fun C => hK9.n (alloc_kept w9 (.cells C 61))
    have q0 := fun C => (hB8.kept (kx C) (fun h => h)).cell 0
    have q1 := fun C => (hB8.kept (kx C) (fun h => h)).cell 1
    have q2 := fun C => (hB8.kept (kx C) (fun h => h)).cell 2
    have q3 := fun C => (hB8.kept (kx C) (fun h => h)).cell 3
    have q4 := fun C => (hB8.kept (kx C) (fun h => h)).cell 4
    have q5 := fun C => (hB8.kept (kx C) (fun h => h)).cell 5
    have p0 := fun C => (hB3_8.kept (kx C) (fun h => h)).cell 0
    have p1 := fun C => (hB3_8.kept (kx C) (fun h => h)).cell 1
    have p2 := fun C => (hB3_8.kept (kx C) (fun h => h)).cell 2
    have p3 := fun C => (hB3_8.kept (kx C) (fun h => h)).cell 3
    have p4 := fun C => (hB3_8.kept (kx C) (fun h => h)).cell 4
    have p5 := fun C => (hB3_8.kept (kx C) (fun h => h)).cell 5
    simp [awR, recCs] at q0 q1 q2 q3 q4 q5 p0 p1 p2 p3 p4 p5)
  have hK10 := kx #[.int .i64 Rc.zero.kind, .int .i64 Rc.zero.conf.epoch, .slice a9 n9 c9, .int .i64 Rc.zero.pos, .int .i64 Rc.zero.last, .slice b9 m9 d9]
  clear q0 q1 q2 q3 q4 q5 p0 p1 p2 p3 p4 p5 kx
  generalize w9.alloc (.cells #[.int .i64 Rc.zero.kind, .int .i64 Rc.zero.conf.epoch, .slice a9 n9 c9, .int .i64 Rc.zero.pos, .int .i64 Rc.zero.last, .slice b9 m9 d9] 61) = w10 at *
  have hX10 := ShRc.kept hX8 hK10
  have hR10 := ShRc.kept hRw8 hK10
  have hlen5 := HlenB.out
  have k4 := refsamerec_c w10 _ _ awR awR a5 n5 c5 b5 m5 d5 none 0 0 (some ⟨w.heap.size + 1, 0, none⟩) 1 1 hX10 hR10 (by rw [HBS.out]; omega) (by rw [HBS.out]; omega) (by rw [← rc_n hX8]; simp [awR]) (by omega)
  simp only [rcV, awR] at k4
  with_reducible refine k4.mono ?_
  rintro e w11 ⟨rfl, hK11⟩
  have hK8_11 := hK10.n hK11
  have hB3_11 := hB3_8.kept hK8_11 (fun h => h)
  have p0 := hB3_11.cell 5
  have hBe11 := hBe8.kept hK8_11 (fun h => h)
  have q0 := hBe11.cell 0
  have q1 := hBe11.cell 1
  have q2 := hBe11.cell 2
  have q3 := hBe11.cell 3
  have q4 := hBe11.cell 4
  have q5 := hBe11.cell 5
  have q6 := hBe11.cell 6
  have q7 := hBe11.cell 7
  simp [awR, recCs, awE, entCs] at p0 q0 q1 q2 q3 q4 q5 q6 q7
  go_wp2_with fail
  have k5 := esound_c w11 awE (some ⟨w.heap.size, 0, none⟩) 1 1 rfl
  simp only [entV, awE] at k5
  refine k5.mono ?_
  rintro e w12 ⟨rfl, hK12⟩
  rw [show entOk (⟨1, 0, 1, 1, [107], 1, 2147483648, [120]⟩ : Ent) = true by decide]
  have k6 := esound_c w12 ⟨-1, 0, 0, 0, [], 0, 0, []⟩ none 0 0 rfl
  simp only [entV] at k6
  go_wp2_with fail
  with_reducible refine k6.mono ?_
  rintro e w13 ⟨rfl, hK13⟩
  rw [show entOk (⟨-1, 0, 0, 0, [], 0, 0, []⟩ : Ent) = false by decide]
  go_wp2_with fail
  refine (refof_c w13 (fun _ => True) none 0 0 [] (Sh.Sl.nil _ _ _) (by omega)).mono ?_
  rintro e w14 ⟨rfl, hK14⟩
  rw [show (sumB []).toNat = 0 by decide]
  go_wp2_with fail
  go_ret
  exact ⟨rfl, ((((hKw8.n hK8_11).n hK12).n hK13).n hK14)⟩
end Go.Proofs.Ytlhlljjchggnjaa
