/- The walks of layer 8's statements: the frame, the fixed fact, no disk. -/
import Derived.Test.YtlhlljjchggnjaaDisk3
import Derived.Test.YtlhlljjchggnjaaLaw5
namespace Go.Proofs.Ytlhlljjchggnjaa
open Go.RowKit

theorem u8_range {x : Int} (h : (Lit.int .u8 x).wf = true) : 0 ≤ x ∧ x ≤ 255 := by
  have h1 : IntKind.u8.min = 0 := rfl
  have h2 : IntKind.u8.max = 255 := rfl
  simpa [Lit.wf, h1, h2] using h
/-- A disk that was made since world w; nothing of w was written. -/
structure DW (w W : World) (g : Nat) (s : Dsk) : Prop where
  d : DiskAt W (new w W) g s
  k : Kept w W nix
namespace DW
variable {w W W' : World} {g : Nat} {s s' : Dsk}
theorem le (h : DW w W g s) : w.heap.size ≤ g := h.d.2.1.1
theorem kept (h : DW w W g s) (hk : Kept W W' nix) : DW w W' g s := ⟨(h.d.kept hk (fun _ _ => id)).mono (new_mono (Nat.le_refl _) hk.size), h.k.n hk⟩
theorem step (h : DW w W g s) (hd : DiskAt W' (fun k => new w W k ∨ new W W' k) g s') (hk : Kept W W' (one g)) : DW w W' g s' :=
  ⟨hd.mono (fun k hk' => hk'.elim (new_mono (Nat.le_refl _) hk.size k) (new_mono h.k.size (Nat.le_refl _) k)), h.k.o hk h.le⟩
theorem step1 (h : DW w W g s) (hd : DiskAt W' (new w W) g s') (hk : Kept W W' (one g)) : DW w W' g s' := h.step (hd.mono (fun _ => .inl)) hk
/-- What stood at w reads as it did. -/
theorem sl {α : Type} {d : Sh α} {F : Nat → Prop} {a : Option Addr} {n c : Nat} {xs : List α} (h : DW w W g s) (hs : d.Sl w F a n c xs) : d.Sl W F a n c xs := hs.kept h.k (fun _ _ => id)
end DW
section
variable {w W : World} {g : Nat} {s : Dsk} (h : DW w W g s)
theorem dnew_d (w W : World) (hk : Kept w W nix) (room : Int) : Calls Try.prog 46 #[.int .i64 room] W fun e w' => ∃ g, e = .returned (.pointer (some ⟨g, 0, none⟩)) ∧ DW w w' g (dNew room) :=
  (dnew_c W room).mono fun e w' ⟨g, he, hd, hk2⟩ => ⟨g, he, hd.mono (new_mono hk.size (Nat.le_refl _)), hk.n hk2⟩
include h
theorem dtear_d (n : Int) (hn : n ≤ 9223372036854775807) : Calls Try.prog 50 #[.pointer (some ⟨g, 0, none⟩), .int .i64 n] W fun e w' => e = .returned (.tuple #[]) ∧ DW w w' g (dTear s n) :=
  (dtear_c W _ g s h.d n hn).mono fun e w' ⟨he, hd, hk⟩ => ⟨he, h.step1 hd hk⟩
theorem dcrash_d : Calls Try.prog 51 #[.pointer (some ⟨g, 0, none⟩)] W fun e w' => e = .returned (.tuple #[]) ∧ DW w w' g (dCrash s) :=
  (dcrash_c W _ g s h.d).mono fun e w' ⟨he, hd, hk⟩ => ⟨he, h.step1 hd hk⟩
theorem dstart_d : Calls Try.prog 52 #[.pointer (some ⟨g, 0, none⟩)] W fun e w' => e = .returned (.tuple #[]) ∧ DW w w' g (dStart s) :=
  (dstart_c W _ g s h.d).mono fun e w' ⟨he, hd, hk⟩ => ⟨he, h.step1 hd hk⟩
theorem dread_d : Calls Try.prog 48 #[.pointer (some ⟨g, 0, none⟩)] W fun e w' => ∃ a n c, e = .returned (.tuple #[.slice a n c, .int .i64 (dRead s).2]) ∧ By.Own w' (new W w') a n c (dRead s).1 ∧ DW w w' g s ∧ Kept W w' nix :=
  (dread_c W _ g s h.d).mono fun e w' ⟨a, n, c, he, ho, hk⟩ => ⟨a, n, c, he, ho, h.kept hk, hk⟩
theorem dappend_d (Fx : Nat → Prop) (a2 : Option Addr) (n2 c2 : Nat) (x : List UInt8) (hS : By.Sl W Fx a2 n2 c2 x) (hn2 : n2 ≤ 140737471000000) :
    Calls Try.prog 49 #[.pointer (some ⟨g, 0, none⟩), .slice a2 n2 c2] W fun e w' => e = .returned (.int .i64 (dAppend s x).1) ∧ DW w w' g (dAppend s x).2 ∧ Kept W w' (one g) :=
  (dappend_c W _ g s h.d Fx a2 n2 c2 x hS hn2).mono fun e w' ⟨he, hd, hk⟩ => ⟨he, h.step hd hk, hk⟩
theorem dreplace_d (Fx : Nat → Prop) (a2 : Option Addr) (n2 c2 : Nat) (x : List UInt8) (hS : By.Sl W Fx a2 n2 c2 x) (hn2 : n2 ≤ 140737471000000) (hne : ∀ k, Fx k → ¬ k = g) :
    Calls Try.prog 53 #[.pointer (some ⟨g, 0, none⟩), .slice a2 n2 c2] W fun e w' => e = .returned (.int .i64 (dReplace s x).1) ∧ DW w w' g (dReplace s x).2 ∧ Kept W w' (one g) :=
  (dreplace_c W _ g s h.d Fx a2 n2 c2 x hS hn2 hne).mono fun e w' ⟨he, hd, hk⟩ => ⟨he, h.step hd hk, hk⟩
theorem dup_d : Calls Try.prog 54 #[.pointer (some ⟨g, 0, none⟩)] W fun e w' => e = .returned (.bool (!s.down)) ∧ W = w' := dup_c W _ g s h.d
end

set_option maxRecDepth 100000 in
set_option maxHeartbeats 2000000 in
theorem awake8_c (w : World) : Calls Try.prog 47 #[] w fun e w' => e = .returned (.bool true) ∧ Kept w w' nix := by
  have kc := kcBy
  go_enter Try.func47, Try.ntmps47
  go_wp2_with (first | (go_at_call 46; refine (dnew_d w _ (Kept.refl _ _) 5).mono ?_; rintro e w1 ⟨g, rfl, hD1⟩))
  have hL1 := lit_by w1 [97, 98] #[.int .u8 97, .int .u8 98] 5 (2, 3) 2 rfl rfl (by omega)
  have hE1 := hD1.kept (alloc_kept w1 (.cells #[.int .u8 97, .int .u8 98] 5 (2, 3)))
  have c2 := dappend_d hE1 _ _ _ _ _ hL1 (by omega)
  rw [show dAppend (dNew 5) [97, 98] = (0, ⟨5, [97, 98], 0, false, false⟩) by rfl] at c2
  go_wp2_with (first | (go_at_call 49; (with_reducible refine c2.mono ?_); rintro e w2 ⟨rfl, hD2, -⟩))
  have hL2 := lit_by w2 [99, 100, 101, 102] #[.int .u8 99, .int .u8 100, .int .u8 101, .int .u8 102] 5 (4, 5) 4 rfl rfl (by omega)
  have hE2 := hD2.kept (alloc_kept w2 (.cells #[.int .u8 99, .int .u8 100, .int .u8 101, .int .u8 102] 5 (4, 5)))
  have c3 := dappend_d hE2 _ _ _ _ _ hL2 (by omega)
  rw [show dAppend ⟨5, [97, 98], 0, false, false⟩ [99, 100, 101, 102] = (5, ⟨5, [97, 98], 0, false, false⟩) by rfl] at c3
  go_wp2_with (first | (go_at_call 49; (with_reducible refine c3.mono ?_); rintro e w3 ⟨rfl, hD3, -⟩))
  have c4 := dtear_d hD3 1 (by omega)
  go_wp2_with (first | (go_at_call 50; (with_reducible refine c4.mono ?_); rintro e w4 ⟨rfl, hD4⟩))
  have hL4 := lit_by w4 [120, 121] #[.int .u8 120, .int .u8 121] 5 (2, 3) 2 rfl rfl (by omega)
  have hE4 := hD4.kept (alloc_kept w4 (.cells #[.int .u8 120, .int .u8 121] 5 (2, 3)))
  have c5 := dappend_d hE4 _ _ _ _ _ hL4 (by omega)
  rw [show dAppend (dTear ⟨5, [97, 98], 0, false, false⟩ 1) [120, 121] = (6, ⟨5, [97, 98, 120], 1, false, true⟩) by rfl] at c5
  go_wp2_with (first | (go_at_call 49; (with_reducible refine c5.mono ?_); rintro e w5 ⟨rfl, hD5, -⟩))
  have c6 := dup_d hD5
  have c7 := dread_d hD5
  go_wp2_with (first
    | (go_at_call 54; (with_reducible refine c6.mono ?_); rintro e w6 ⟨rfl, rfl⟩)
    | (go_at_call 48; (with_reducible refine c7.mono ?_); rintro e w7 ⟨a7, n7, c7, rfl, hO7, hD7, -⟩))
  have c8 := dstart_d hD7
  go_wp2_with (first | (go_at_call 52; (with_reducible refine c8.mono ?_); rintro e w8 ⟨rfl, hD8⟩))
  have c9 := dread_d hD8
  rw [show dRead (dStart ⟨5, [97, 98, 120], 1, false, true⟩) = ([97, 98, 120], 0) by rfl] at c9
  go_wp2_with (first | (go_at_call 48; (with_reducible refine c9.mono ?_); rintro e w9 ⟨a9, n9, c9, rfl, hO9, hD9, -⟩; have q9 := strBy hO9.sl))
  go_ret
  exact ⟨rfl, hD9.k⟩

set_option maxRecDepth 100000 in
set_option maxHeartbeats 2000000 in
theorem disknone_c (w : World) (F : Nat → Prop) (a : Option Addr) (n c : Nat) (x : List UInt8) (k : Int) (hS : By.Sl w F a n c x) (hn : n ≤ 140737488355328) :
    Calls Try.prog 12 #[.slice a n c, .int .i64 k] w fun e w' => e = .returned (.bool true) ∧ Kept w w' nix := by
  go_enter Try.func12, Try.ntmps12
  go_wp2_with (first
    | (go_at_call 50; refine (dtear_nil _ _).mono ?_; rintro e w1 ⟨rfl, rfl⟩)
    | (go_at_call 51; refine (dcrash_nil _).mono ?_; rintro e w1 ⟨rfl, rfl⟩)
    | (go_at_call 52; refine (dstart_nil _).mono ?_; rintro e w1 ⟨rfl, rfl⟩)
    | (go_at_call 48; refine (dread_nil _).mono ?_; rintro e w1 ⟨rfl, rfl⟩)
    | (go_at_call 47; refine (awake8_c _).mono ?_; rintro e w2 ⟨rfl, hK2⟩)
    | (go_at_call 49; refine (dappend_nil _ _).mono ?_; rintro e w1 ⟨rfl, rfl⟩)
    | (go_at_call 53; refine (dreplace_nil _ _ _ _ _ _ (hS.kept hK2 (fun _ _ => id)) hn).mono ?_; rintro e w3 ⟨rfl, hK3⟩)
    | (go_at_call 54; refine (dup_nil _).mono ?_; rintro e w1 ⟨rfl, rfl⟩))
  go_ret
  exact ⟨rfl, hK2.n hK3⟩
end Go.Proofs.Ytlhlljjchggnjaa
