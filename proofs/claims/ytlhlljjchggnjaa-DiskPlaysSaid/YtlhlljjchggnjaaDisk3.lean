/- The walks of package disk, more: Replace; no disk. -/
import Derived.Test.YtlhlljjchggnjaaDisk2
namespace Go.Proofs.Ytlhlljjchggnjaa
open Go.RowKit

section
variable (w : World) (F : Nat → Prop) (g : Nat) (s : Dsk) (h : DiskAt w F g s)
include h

set_option maxRecDepth 100000 in
set_option maxHeartbeats 2000000 in
theorem dreplace_c (Fx : Nat → Prop) (a2 : Option Addr) (n2 c2 : Nat) (x : List UInt8) (hS : By.Sl w Fx a2 n2 c2 x) (hn2 : n2 ≤ 140737471000000) (hne : ∀ k, Fx k → ¬ k = g) :
    Calls Try.prog 53 #[.pointer (some ⟨g, 0, none⟩), .slice a2 n2 c2] w fun e w' => e = .returned (.int .i64 (dReplace s x).1) ∧ DiskAt w' (fun k => F k ∨ new w w' k) g (dReplace s x).2 ∧ Kept w w' (one g) := by
  have hD := hid h
  obtain ⟨h0, h1, a, c, Fb, h2, h3, h4⟩ := h
  have k0 := h2.cell 0
  have k1 := h2.cell 1
  have k2 := h2.cell 2
  have k3 := h2.cell 3
  have k4 := h2.cell 4
  have f1 := h2.froz 1
  have f3 := h2.froz 3
  have f4 := h2.froz 4
  simp at k0 k1 k2 k3 k4
  have hb := h0.b
  have hr := h0.room
  have htr := h0.tear
  have hcap := hS.cap
  have hmax := hS.max
  have hlx := hid hS.len
  have hlt := h2.lt
  have hSh := hid hS
  clear hS
  -- the way through write, whatever the state
  have later : ∀ (w2 : World) (a3 : Option Addr) (c3 : Nat), By.Own w2 (new w w2) a3 n2 c3 x → Kept w w2 nix → ¬ (s.torn = true ∧ s.down = false ∧ n2 ≤ s.room) →
      Calls Try.prog 122 #[.pointer (some ⟨g, 0, none⟩), .slice a3 n2 c3, .int .i64 0] w2 fun e w' => e = .returned (.int .i64 (dReplace s x).1) ∧ DiskAt w' (fun k => F k ∨ new w w' k) g (dReplace s x).2 ∧ Kept w w' (one g) := by
    intro w2 a3 c3 hO hK hne
    have hl := hlx.out
    subst hl
    have hD2 : DiskAt w2 (fun k => F k ∨ new w w2 k) g s := (hD.out.kept hK (fun _ _ => id)).mono (fun _ h => .inl h)
    have hR : dReplace s x = dWrite s x 0 := by unfold dReplace; rw [if_neg hne]
    refine (dwrite_c w2 _ g s hD2 _ a3 c3 0 x hO.sl (fun k hk => ⟨.inr hk, fun e => by have := hk.1; omega⟩) (by omega)).mono ?_
    rintro e w3 ⟨rfl, hD3, hK3⟩
    rw [hR]
    exact ⟨rfl, hD3.mono (fun k hk => hk.imp id (fun hn => ⟨hn.1, Nat.lt_of_lt_of_le hn.2 hK3.size⟩)), (hK.mono (fun _ _ h => h.elim)).trans hK3 (fun _ _ h => h)⟩
  have Hlater := hid later
  clear later
  obtain ⟨room, b, tear, torn, down⟩ := s
  simp only at *
  by_cases hcase : torn = true ∧ down = false ∧ n2 ≤ room
  · obtain ⟨rfl, rfl, hfit⟩ := hcase
    by_cases htl : n2 ≤ tear
    · have E := hid (show dReplace ⟨room, b, tear, true, false⟩ x = (6, ⟨room, x, tear, false, true⟩) by have := hlx.out; simp [dReplace, this, hfit, htl])
      have hK := ((Kept.refl w (one g)).set1 (g := g) (i := 3) (.bool false) rfl).set1 (g := g) (i := 4) (.bool true) rfl
      have hB := (h2.set 3 (.bool false)).set 4 (.bool true)
      simp at hB
      have hS2 := hSh.out.kept hK (fun k hk e => hne k hk e)
      go_enter Try.func53, Try.ntmps53
      go_wp2_with (go_at_call 118; refine (clone_c _ _ _ _ _ _ hS2 (by omega)).mono ?_; rintro e w2 ⟨a3, c3, rfl, hO, hK2⟩; have hB2 := hB.kept hK2 (fun h => h); have q1 := hB2.cell 1; have q2 := hB2.froz 1; simp at q1)
      go_ret
      rw [E.out]
      have hK3 := (hK.trans (hK2.mono (fun _ _ h => h.elim)) (fun _ _ h => h)).set1 (g := g) (i := 1) (.slice a3 n2 c3) rfl
      have hB3 := hB2.set 1 (.slice a3 n2 c3)
      have hl := hlx.out
      subst hl
      refine ⟨rfl, ⟨⟨hfit, hr, htr⟩, .inl h1, a3, c3, new w w2, ?_, ?_, ?_⟩, hK3⟩
      · simpa using hB3
      · refine (hO.sl.mono (fun k hk => ?_)).kept ((Kept.refl w2 (one g)).set1 _ rfl) (fun k hk e => ?_)
        · exact ⟨Nat.le_trans hK.size hk.1, hk.2⟩
        · have e' : k = g := e
          have := hk.1
          omega
      · intro k hk
        refine ⟨.inr ⟨hk.1, ?_⟩, fun e => by have := hk.1; omega⟩
        rw [size_setCell]
        exact hk.2
    · have E := hid (show dReplace ⟨room, b, tear, true, false⟩ x = (6, ⟨room, b, tear, false, true⟩) by have := hlx.out; simp [dReplace, this, hfit, htl])
      have hK := ((Kept.refl w (one g)).set1 (g := g) (i := 3) (.bool false) rfl).set1 (g := g) (i := 4) (.bool true) rfl
      have hB := (h2.set 3 (.bool false)).set 4 (.bool true)
      simp at hB
      go_enter Try.func53, Try.ntmps53
      go_wp2_with fail
      go_ret
      rw [E.out]
      exact ⟨rfl, ⟨⟨hb, hr, htr⟩, .inl h1, a, c, Fb, hB, h3.kept hK (fun k hk e => (h4 k hk).2 e), fun k hk => ⟨.inl (h4 k hk).1, (h4 k hk).2⟩⟩, hK⟩
  · have hS2 := hSh.out
    have arm : ∀ (w2 : World) (a3 : Option Addr) (c3 : Nat), By.Own w2 (new w w2) a3 n2 c3 x → Kept w w2 nix → Calls Try.prog 122 #[.pointer (some ⟨g, 0, none⟩), .slice a3 n2 c3, .int .i64 0] w2 fun e w' => e = .returned (.int .i64 (dReplace ⟨room, b, tear, torn, down⟩ x).1) ∧ DiskAt w' (fun k => F k ∨ new w w' k) g (dReplace ⟨room, b, tear, torn, down⟩ x).2 ∧ Kept w w' (one g) :=
      fun w2 a3 c3 h5 h6 => Hlater.out w2 a3 c3 h5 h6 hcase
    have Harm := hid arm
    clear arm Hlater
    obtain ⟨q, hq⟩ : ∃ q, q = dReplace ⟨room, b, tear, torn, down⟩ x := ⟨_, rfl⟩
    rw [← hq] at Harm ⊢
    clear hq hD
    have hways : (torn = false) ∨ (torn = true ∧ down = true) ∨ (torn = true ∧ down = false ∧ room < n2) := by
      cases torn <;> cases down <;> simp at hcase ⊢
      omega
    clear hcase
    rcases hways with rfl | ⟨rfl, rfl⟩ | ⟨rfl, rfl, hfull⟩
    all_goals
      go_enter Try.func53, Try.ntmps53
      go_wp2_with (first
        | (go_at_call 118; refine (clone_c _ _ _ _ _ _ hS2 (by omega)).mono ?_; rintro e w2 ⟨a3, c3, rfl, hO, hK2⟩)
        | (go_at_call 122; refine (Harm.out _ _ _ hO hK2).mono ?_; rintro e w3 ⟨rfl, hD3, hK3⟩))
      go_ret
      exact ⟨rfl, hD3, hK3⟩
end

/-! ### No disk -/
section
variable (w : World)
set_option maxRecDepth 100000 in
theorem dtear_nil (n : Int) : Calls Try.prog 50 #[.pointer none, .int .i64 n] w fun e w' => e = .returned (.tuple #[]) ∧ w = w' := by
  go_enter Try.func50, Try.ntmps50
  go_wp2
  go_end0
  exact ⟨rfl, rfl⟩
set_option maxRecDepth 100000 in
theorem dcrash_nil : Calls Try.prog 51 #[.pointer none] w fun e w' => e = .returned (.tuple #[]) ∧ w = w' := by
  go_enter Try.func51, Try.ntmps51
  go_wp2
  go_end0
  exact ⟨rfl, rfl⟩
set_option maxRecDepth 100000 in
theorem dstart_nil : Calls Try.prog 52 #[.pointer none] w fun e w' => e = .returned (.tuple #[]) ∧ w = w' := by
  go_enter Try.func52, Try.ntmps52
  go_wp2
  go_end0
  exact ⟨rfl, rfl⟩
set_option maxRecDepth 100000 in
theorem dup_nil : Calls Try.prog 54 #[.pointer none] w fun e w' => e = .returned (.bool false) ∧ w = w' := by
  go_enter Try.func54, Try.ntmps54
  go_wp2
  go_ret
  exact ⟨rfl, rfl⟩
set_option maxRecDepth 100000 in
theorem dread_nil : Calls Try.prog 48 #[.pointer none] w fun e w' => e = .returned (.tuple #[.slice none 0 0, .int .i64 1]) ∧ w = w' := by
  go_enter Try.func48, Try.ntmps48
  go_wp2
  go_ret2
  exact ⟨rfl, rfl⟩
set_option maxRecDepth 100000 in
theorem dappend_nil (v : Value) : Calls Try.prog 49 #[.pointer none, v] w fun e w' => e = .returned (.int .i64 1) ∧ w = w' := by
  go_enter Try.func49, Try.ntmps49
  go_wp2
  go_ret
  exact ⟨rfl, rfl⟩
set_option maxRecDepth 100000 in
theorem dwrite_nil (v : Value) (t : Int) : Calls Try.prog 122 #[.pointer none, v, .int .i64 t] w fun e w' => e = .returned (.int .i64 1) ∧ w = w' := by
  go_enter Try.func122, Try.ntmps122
  go_wp2
  go_ret
  exact ⟨rfl, rfl⟩
set_option maxRecDepth 100000 in
theorem dreplace_nil (F : Nat → Prop) (a : Option Addr) (n c : Nat) (x : List UInt8) (hS : By.Sl w F a n c x) (hn : n ≤ 140737488355328) : Calls Try.prog 53 #[.pointer none, .slice a n c] w fun e w' => e = .returned (.int .i64 1) ∧ Kept w w' nix := by
  have hSh := hid hS
  clear hS
  go_enter Try.func53, Try.ntmps53
  go_wp2_with (first
    | (go_at_call 118; refine (clone_c _ _ _ _ _ _ hSh.out hn).mono ?_; rintro e w2 ⟨a3, c3, rfl, hO, hK2⟩)
    | (go_at_call 122; refine (dwrite_nil _ _ _).mono ?_; rintro e w3 ⟨rfl, rfl⟩))
  go_ret
  exact ⟨rfl, hK2⟩
end
end Go.Proofs.Ytlhlljjchggnjaa
