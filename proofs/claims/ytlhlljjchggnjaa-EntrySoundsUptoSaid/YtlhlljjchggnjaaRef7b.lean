/- The walks of the reference for entries and records: their bytes. -/
import Derived.Test.YtlhlljjchggnjaaRef7
import Derived.Test.YtlhlljjchggnjaaEntry5
namespace Go.Proofs.Ytlhlljjchggnjaa
open Go.RowKit

set_option maxRecDepth 100000 in
set_option maxHeartbeats 2000000 in
theorem refnums_c (w : World) (F : Nat → Prop) (a : Option Addr) (n c : Nat) (xs : List Int) (h : In.Sl w F a n c xs) (hb : n ≤ 10000000000000) :
    Calls Try.prog 131 #[.slice a n c] w fun e w' => ∃ a' m c', e = .returned (.slice a' m c') ∧ By.Own w' (new w w') a' m c' (numsB xs) ∧ Kept w w' nix := by
  have hm := h.max
  have L := hid h.len
  have hO0 := own_empty w 5
  have hK0 := alloc_kept w (.cells #[] 5)
  go_enter Try.func131, Try.ntmps131
  go_wp2_with fail
  go_loopw [3, 4] (fun s i wr => ∃ (k m3 : Nat) (a3 : Option Addr) (c3 : Nat), i = .int .i64 k ∧ s = .slice a3 m3 c3 ∧ By.Own wr (new w wr) a3 m3 c3 (numsB (xs.take k)) ∧ Kept w wr nix ∧ k ≤ n) (fun _ i _ => n - (intOf i).toNat)
  case atStart => exact ⟨0, 0, _, _, rfl, rfl, hO0, hK0, by omega⟩
  case round =>
    clear hO0 hK0
    obtain ⟨k, m3, a3, c3, rfl, rfl, hO, hKw, hk⟩ := hrel
    by_cases hlt : k < n
    · have hkl : k < xs.length := by have := L.out; omega
      obtain ⟨g, o, rfl, _, hgl, hc⟩ := plain_at h k _ (List.getElem?_eq_getElem hkl)
      have hc' := hKw.cell hc (fun h => h)
      have hp := ints_p h _ (List.getElem_mem hkl)
      have HS := hid (numsB_snoc xs k hkl)
      have hml := numsB_take_len xs k
      have hol := hO.len
      generalize xs[k] = x at *
      have kn := refnum_c wr x hp.1 hp.2
      have hxl := numB_len x
      go_wp2_with (first
        | (at_builtin; refine wpList_app_r rfl (.tmp 12) (.tmp 17) rfl rfl rfl (run_app_f (w0 := w) _ (hKw.n hK2) ((hO.kept hK2 (fun _ _ => id)).mono (new_mono (Nat.le_refl _) hK2.size)) hO2.sl (fun _ q _ hq hb2 => by have h1 := (hO.blkF hb2).2; have h2 := hq.1; omega) (by have := hO2.len; omega)) ?_)
        | (go_at_call 37; (with_reducible refine kn.mono ?_); rintro e w2 ⟨a4, m4, c4, rfl, hO2, hK2⟩))
      rintro a5 c5 w5 ⟨hO5, hK5, -, -⟩
      go_wp2_with fail
      refine ⟨⟨k + 1, m3 + m4, a5, c5, by go_num, by simp, by rw [HS.out]; exact hO5, hK5, by omega⟩, by simp [intOf]; omega⟩
    · have : k = n := by omega
      subst this
      rw [List.take_of_length_le (by have := L.out; omega)] at hO
      go_wp2_with fail
      go_ret
      exact ⟨a3, m3, c3, rfl, hO, hKw⟩

set_option maxRecDepth 100000 in
set_option maxHeartbeats 4000000 in
theorem refone_c (w : World) (F2 : Nat → Prop) (e : Ent) (a : Option Addr) (n c : Nat) (hf : By.Sl w F2 a n c e.frag) (hw : e.Wf) (hsz : e.key.length + n ≤ 140737488340000) :
    Calls Try.prog 134 #[entV e a n c] w fun r w' => ∃ a' m' c', r = .returned (.slice a' m' c') ∧ By.Own w' (new w w') a' m' c' (entB e) ∧ Kept w w' nix := by
  have hns : ∀ x ∈ entNums e, i64p x := by
    obtain ⟨h1, h2, h3, h4, h5, h6, _⟩ := hw
    intro x hx
    simp only [entNums, List.mem_cons, List.not_mem_nil, or_false] at hx
    rcases hx with rfl | rfl | rfl | rfl | rfl | rfl <;> first | assumption | (unfold i64p; omega)
  have hsum := hw.2.2.2.2.2.1
  have HW := hid hw
  clear hw
  have HE := hid (entB_eq e)
  have hfl := hf.len
  have hka := alloc_kept w (.cells #[.int .i64 e.seq, .int .i64 e.client, .int .i64 e.num, .int .i64 e.op, strv e.key, .int .i64 e.size, .int .u32 e.sum, .slice a n c] 72)
  have hBa := Blk.new_ w #[.int .i64 e.seq, .int .i64 e.client, .int .i64 e.num, .int .i64 e.op, strv e.key, .int .i64 e.size, .int .u32 e.sum, .slice a n c] 72
  have hsz1 : (w.alloc (.cells #[.int .i64 e.seq, .int .i64 e.client, .int .i64 e.num, .int .i64 e.op, strv e.key, .int .i64 e.size, .int .u32 e.sum, .slice a n c] 72)).heap.size = w.heap.size + 1 := World.size_alloc _ _
  have hkb := alloc_kept (w.alloc (.cells #[.int .i64 e.seq, .int .i64 e.client, .int .i64 e.num, .int .i64 e.op, strv e.key, .int .i64 e.size, .int .u32 e.sum, .slice a n c] 72)) (.cells #[.int .i64 e.seq, .int .i64 e.client, .int .i64 e.num, .int .i64 e.op, .int .i64 e.size, .int .i64 e.sum] 3)
  have hL := lit_in (w.alloc (.cells #[.int .i64 e.seq, .int .i64 e.client, .int .i64 e.num, .int .i64 e.op, strv e.key, .int .i64 e.size, .int .u32 e.sum, .slice a n c] 72)) (entNums e) #[.int .i64 e.seq, .int .i64 e.client, .int .i64 e.num, .int .i64 e.op, .int .i64 e.size, .int .i64 e.sum] 3 (0, 0) 6 rfl rfl (by omega) hns
  rw [World.size_alloc] at hL
  have kn := refnums_c _ _ _ _ _ _ hL (by omega)
  have hnl : (numsB (entNums e)).length ≤ 60 := numsB_len (entNums e)
  have hk2 := hka.n hkb
  have hB2 := hBa.kept hkb (fun h => h)
  clear hL hBa hns
  have hkl : e.key.length ≤ maxB := by unfold maxB; omega
  go_enter Try.func134, Try.ntmps134
  go_wp2_with (first
    | (go_at_call 131; (with_reducible refine kn.mono ?_); rintro r w1 ⟨a1, m1, c1, rfl, hO1, hK1⟩; have hB3 := hB2.kept hK1 (fun h => h); have q4 := hB3.cell 4; have q7 := hB3.cell 7; simp at q4 q7; have l1 := hO1.len)
    | (refine wpList_conv (o := ⟨some 22, _, _, _, _, _⟩) rfl (.tmp 21) rfl e.key rfl hkl ?_; rintro cv w2 ⟨hX2, hK2⟩))
  have hkA := hk2.n hK1
  have hO1w := hO1.mono (new_mono hk2.size (Nat.le_refl w1.heap.size))
  have hO2 := hO1w.kept hK2 (fun _ _ => id)
  have hB4 := hB3.kept hK2 (fun h => h)
  have kt := reftext_c w2 _ _ _ _ _ hX2 (by omega)
  have hra := fun ty (w3 : World) (a3 : Option Addr) (m3 c3 : Nat) (hO3 : By.Own w3 (new w2 w3) a3 m3 c3 (textB e.key)) (hK3 : Kept w2 w3 nix) => run_app_f (w0 := w) ty ((hkA.n hK2).n hK3) ((hO2.kept hK3 (fun _ _ => id)).mono (new_mono (Nat.le_refl _) (Nat.le_trans hK2.size hK3.size))) hO3.sl (fun _ q _ hq hb2 => by have h1 := (hO2.blkF hb2).2; have h2 := hq.1; omega) (by have l3 := hO3.len; have l3b := textB_len e.key; omega)
  have Hra := hid hra
  clear hra
  go_wp2_with (first
    | (at_builtin; refine wpList_app_r rfl (.tmp 19) (.tmp 23) rfl rfl rfl (Hra.out _ _ _ _ _ hO3 hK3) ?_)
    | (go_at_call 39; (with_reducible refine kt.mono ?_); rintro r w3 ⟨a3, m3, c3, rfl, hO3, hK3⟩))
  have l3 := hO3.len
  have l3b := textB_len e.key
  rintro a5 c5 w5 ⟨hO5, hK5, hk5, hb5⟩
  have hB5 := (hB4.kept hK3 (fun h => h)).kept hk5 (fun hb2 => by have h2 := (hO1.blkF hb2).1.1; have := hkb.size; omega)
  have z7 := hB5.cell 7
  simp at z7
  have kt2 := reftext_c w5 _ _ _ _ _ (hf.kept hK5 (fun _ _ => id)) (by omega)
  have hrb := fun ty (w6 : World) (a6 : Option Addr) (m6 c6 : Nat) (hO6 : By.Own w6 (new w5 w6) a6 m6 c6 (textB e.frag)) (hK6 : Kept w5 w6 nix) => run_app_f (w0 := w) ty (hK5.n hK6) ((hO5.kept hK6 (fun _ _ => id)).mono (new_mono (Nat.le_refl _) hK6.size)) hO6.sl (fun _ q _ hq hb2 => by have h1 := (hO5.blkF hb2).2; have h2 := hq.1; omega) (by have l6 := hO6.len; have l6b := textB_len e.frag; omega)
  have Hrb := hid hrb
  clear hrb
  go_wp2_with (first
    | (at_builtin; refine wpList_app_r rfl (.tmp 25) (.tmp 28) rfl rfl rfl (Hrb.out _ _ _ _ _ hO6 hK6) ?_)
    | (go_at_call 39; (with_reducible refine kt2.mono ?_); rintro r w6 ⟨a6, m6, c6, rfl, hO6, hK6⟩))
  rintro a8 c8 w8 ⟨hO8, hK8, -, -⟩
  go_wp2_with fail
  go_ret
  refine ⟨a8, _, c8, rfl, ?_, hK8⟩
  rw [HE.out]
  exact hO8
end Go.Proofs.Ytlhlljjchggnjaa
