/- EntryCut: the walk. -/
import Derived.Test.YtlhlljjchggnjaaLaw7c
namespace Go.Proofs.Ytlhlljjchggnjaa
open Go.RowKit

set_option maxRecDepth 100000 in
set_option maxHeartbeats 8000000 in
theorem entrycut_c (w : World) (F : Nat → Prop) (r : Rc) (a : Option Addr) (n c : Nat) (b : Option Addr) (m d : Nat) (x : Int) (hx1 : 0 ≤ x) (hx2 : x ≤ 255) (hr : ShRc.R w F r (recCs r a n c b m d)) :
    Calls Try.prog 15 #[rcV r a n c b m d, .int .u8 x] w fun e w' => e = .returned (.bool true) ∧ Kept w w' nix := by
  obtain ⟨y, rfl⟩ : ∃ y : UInt8, x = (y.toNat : Int) := ⟨UInt8.ofNat x.toNat, by rw [UInt8.toNat_ofNat', Nat.mod_eq_of_lt (by omega)]; omega⟩
  clear hx1 hx2
  have hk1 := alloc_kept w (.cells #[.int .i64 r.kind, .int .i64 r.conf.epoch, .slice a n c, .int .i64 r.pos, .int .i64 r.last, .slice b m d] 61)
  have hr1 := ShRc.kept hr hk1
  have ka := fun W => awake7_c W
  have HWf := hid (rc_sums (rc_wf hr))
  clear hr
  by_cases h60 : 60 < m
  · go_enter Try.func15, Try.ntmps15
    go_wp2_with (go_at_call 55; refine (ka _).mono ?_; rintro e w2 ⟨rfl, hK2⟩)
    go_ret
    exact ⟨rfl, hk1.n hK2⟩
  by_cases h200 : 200 < n
  · go_enter Try.func15, Try.ntmps15
    go_wp2_with (go_at_call 55; refine (ka _).mono ?_; rintro e w2 ⟨rfl, hK2⟩)
    go_ret
    exact ⟨rfl, hk1.n hK2⟩
  go_enter Try.func15, Try.ntmps15
  go_wp2_with fail
  generalize w.alloc (.cells #[.int .i64 r.kind, .int .i64 r.conf.epoch, .slice a n c, .int .i64 r.pos, .int .i64 r.last, .slice b m d] 61) = w1 at *
  refine (encode_c w1 _ r a n c b m d hr1).mono ?_
  rintro e w2 ⟨a2, m2, c2, rfl, hO2, hK2⟩
  cases hok : recOk r
  · have hE : recEnc r = ([], 2) := by simp [recEnc, hok]
    rw [hE] at hO2 ⊢
    simp only
    go_wp2_with (go_at_call 55; (with_reducible refine (ka _).mono ?_); rintro e w4 ⟨rfl, hK4⟩)
    go_ret
    exact ⟨rfl, (hk1.n hK2).n hK4⟩
  · have hE : recEnc r = (recB r, 0) := by simp [recEnc, hok]
    have HD := hid (recDec_less hok HWf.out)
    have HD2 := hid (recDec_more hok HWf.out y)
    have HL2 := recB_len hok
    have hpos : 0 < (recB r).length := by
      rw [recB, List.length_append]
      have : 0 < (numB r.kind).length := enc7_pos _ _
      omega
    clear hok
    rw [hE] at hO2 ⊢
    clear hE
    simp only at hO2 ⊢
    have HP := hid trivial
    obtain ⟨bs, hbs⟩ : ∃ bs, recB r = bs := ⟨_, rfl⟩
    rw [hbs] at HD HD2 HL2 hpos hO2
    clear hbs
    have hl2 := hO2.len
    have hS2 := hO2.sl
    obtain ⟨m2, rfl⟩ : ∃ k, m2 = k + 1 := ⟨m2 - 1, by omega⟩
    have hcap := hS2.cap
    have k4 := decode_c w2 _ a2 m2 c2 _ (hS2.take m2 (by omega)) (by unfold maxB; omega)
    rw [show bs.take m2 = bs.dropLast by rw [List.dropLast_eq_take]; congr 1; omega, HD.out] at k4
    simp only at k4
    have hO0 := fun W => own_empty W 5
    have hK0 := fun W => alloc_kept W (.cells #[] 5)
    have HRA : Hid (∀ (ty : TypeId) (W : World) (sz : Nat) (_ : W.heap.size = sz) (_ : Kept w2 W nix), ∃ a' c' w', (Builtin.append_ #[22, 22] ty #[.slice (some ⟨sz, 0, none⟩) 0 0, .slice a2 (m2 + 1) c2]).run Try.prog (W.alloc (.cells #[] 5)) = .ok (.slice a' (0 + (m2 + 1)) c') w' ∧ Apped W (W.alloc (.cells #[] 5)) (some ⟨sz, 0, none⟩) 0 (m2 + 1) [] bs a' c' w') :=
      hid (fun ty W sz hs hK => by subst hs; exact run_app_f0 (w0 := W) ty (hK0 W) (hO0 W) (hS2.kept hK (fun _ _ => id)) (by omega))
    go_wp2_with fail
    refine k4.mono ?_
    rintro e w4 ⟨a4, n4, c4, b4, m4, d4, rfl, hX4, hK4⟩
    go_wp2_with (at_builtin; refine wpList_app_r rfl (.tmp 50) (.tmp 51) rfl rfl rfl (HRA.out _ _ _ (World.size_alloc _ _) (hK4.n (alloc_kept _ _))) ?_)
    rintro a5 c5 w5 ⟨hO5, hK5, -, -⟩
    rw [List.nil_append, Nat.zero_add] at hO5
    have hK4a := hK4.n (alloc_kept w4 (.cells #[.int .i64 Rc.zero.kind, .int .i64 Rc.zero.conf.epoch, .slice a4 n4 c4, .int .i64 Rc.zero.pos, .int .i64 Rc.zero.last, .slice b4 m4 d4] 61))
    generalize w4.alloc (.cells #[.int .i64 Rc.zero.kind, .int .i64 Rc.zero.conf.epoch, .slice a4 n4 c4, .int .i64 Rc.zero.pos, .int .i64 Rc.zero.last, .slice b4 m4 d4] 61) = wa at *
    have hO6 := hO5.kept (alloc_kept w5 (.cells #[.int .u8 (y.toNat : Int)] 5)) (fun _ _ => id)
    have hL6 := lit_by w5 [y] #[.int .u8 (y.toNat : Int)] 5 (0, 0) 1 rfl rfl (by omega)
    have hK6 := hK5.n (alloc_kept w5 (.cells #[.int .u8 (y.toNat : Int)] 5))
    have hsz6 : (w5.alloc (.cells #[.int .u8 (y.toNat : Int)] 5)).heap.size = w5.heap.size + 1 := World.size_alloc _ _
    have HRB := hid (fun ty => run_app_f (w0 := wa) ty hK6 (hO6.mono (new_mono (Nat.le_refl _) (by omega))) hL6 (fun _ q _ hq hb2 => by have h1 := (hO5.blkF hb2).2; have h2 := hq.1; omega) (by omega))
    clear hK6 hL6 hO6 hsz6
    go_wp2_with (at_builtin; refine wpList_app_r rfl (.tmp 52) (.tmp 54) rfl rfl rfl (HRB.out _) ?_)
    rintro a7 c7 w7 ⟨hO7, hK7, -, -⟩
    have k8 := decode_c w7 _ a7 (m2 + 1 + 1) c7 _ hO7.sl (by unfold maxB; omega)
    rw [HD2.out] at k8
    simp only at k8
    go_wp2_with fail
    with_reducible refine k8.mono ?_
    rintro e w8 ⟨a8, n8, c8, b8, m8, d8, rfl, hX8, hK8⟩
    go_wp2_with (go_at_call 55; (with_reducible refine (ka _).mono ?_); rintro e w9 ⟨rfl, hK9⟩)
    go_ret
    exact ⟨rfl, (((hk1.n hK2).n (hK4a.n hK7)).n hK8).n ((alloc_kept _ _).n hK9)⟩
end Go.Proofs.Ytlhlljjchggnjaa
