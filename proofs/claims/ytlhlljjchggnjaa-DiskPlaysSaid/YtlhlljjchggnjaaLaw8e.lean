/- The walk of DiskPlays. -/
import Derived.Test.YtlhlljjchggnjaaLaw8d
import Derived.Test.YtlhlljjchggnjaaStruct
import Derived.Test.YtlhlljjchggnjaaApp
import Derived.Deep.DeepCutAuto
import Derived.Deep.CutBlock
import Derived.Outline
namespace Go.Proofs.Ytlhlljjchggnjaa
open Go.RowKit

/-- What happens to a disk. -/
structure Act8 where
  what : Int
  n : Int
  b : List UInt8
def ShAct8 : Sh Act8 where
  k := 3
  kpos := by omega
  R := fun w F x cs => ∃ a n c, cs = [.int .i64 x.what, .int .i64 x.n, .slice a n c] ∧ By.Sl w F a n c x.b ∧ n ≤ maxB ∧ i64p x.what ∧ i64p x.n
  len := fun ⟨_, _, _, h, _⟩ => by rw [h]; rfl
  one := fun ⟨_, _, _, h, _⟩ u hu => by
    rw [h] at hu
    simp only [List.mem_cons, List.not_mem_nil, or_false] at hu
    rcases hu with rfl | rfl | rfl <;> rfl
  step := fun ⟨a, n, c, h, h2, h3⟩ hm => ⟨a, n, c, h, h2.step hm, h3⟩
  mono := fun ⟨a, n, c, h, h2, h3⟩ hm => ⟨a, n, c, h, h2.mono hm, h3⟩
  bound := fun ⟨a, n, c, h, h2, h3⟩ => ⟨a, n, c, h, h2.bound, h3⟩
theorem opAct8 : Opens Try.prog 54 ShAct8 := by
  refine Opens.to (sh := In.pair (In.pair (By.slc 1))) (opens_struct Try.underlying54 (by kernel_rfl) ?_) ?_
  · refine opensF_cons (opens_i64 Try.underlying3) rfl (by kernel_rfl) rfl ?_
    refine opensF_cons (opens_i64 Try.underlying3) rfl (by kernel_rfl) rfl ?_
    exact opensF_one opBytes rfl (by kernel_rfl)
  · rintro w F ⟨a1, a2, a3⟩ cs ⟨_, _, rfl, ⟨rfl, p1⟩, _, _, rfl, ⟨rfl, p2⟩, a, n, c, rfl, p8, p9⟩
    exact ⟨⟨a1, a2, a3⟩, a, n, c, rfl, p8, by omega, p1, p2⟩
theorem opActs8 : Opens Try.prog 52 (ShAct8.slc 40) := opens_slice Try.underlying52 opAct8 (by kernel_rfl) (by kernel_rfl)
theorem act8_at {w : World} {F : Nat → Prop} {a : Option Addr} {n c : Nat} {xs : List Act8} (h : ShAct8.Sl w F a n c xs) (i : Nat) (hi : i < xs.length) :
    ∃ g o ai ni ci, a = some ⟨g, o, none⟩ ∧ g < w.heap.size ∧ w.cell? ⟨g, o + i * 3, none⟩ = some (.int .i64 xs[i].what) ∧ w.cell? ⟨g, o + i * 3 + 1, none⟩ = some (.int .i64 xs[i].n) ∧ w.cell? ⟨g, o + i * 3 + 2, none⟩ = some (.slice ai ni ci) ∧ By.Sl w F ai ni ci xs[i].b ∧ i64p xs[i].what ∧ i64p xs[i].n := by
  obtain ⟨g, o, cs, e, _, hlt, ⟨ai, ni, ci, hcs, hS, hB, h1, h2⟩, hc⟩ := h.elem i _ (List.getElem?_eq_getElem hi)
  subst hcs
  exact ⟨g, o, ai, ni, ci, e, hlt, hc 0 _ rfl, hc 1 _ rfl, hc 2 _ rfl, hS, h1, h2⟩

section
variable {w W : World} {g : Nat} {s : Dsk} (h : DW w W g s)
include h
theorem dtear_e (n : Int) (hn : n ≤ 9223372036854775807) : Calls Try.prog 50 #[.pointer (some ⟨g, 0, none⟩), .int .i64 n] W fun e w' => e = .returned (.tuple #[]) ∧ DW w w' g (dTear s n) ∧ Kept W w' (one g) :=
  (dtear_c W _ g s h.d n hn).mono fun e w' ⟨he, hd, hk⟩ => ⟨he, h.step1 hd hk, hk⟩
theorem dcrash_e : Calls Try.prog 51 #[.pointer (some ⟨g, 0, none⟩)] W fun e w' => e = .returned (.tuple #[]) ∧ DW w w' g (dCrash s) ∧ Kept W w' (one g) :=
  (dcrash_c W _ g s h.d).mono fun e w' ⟨he, hd, hk⟩ => ⟨he, h.step1 hd hk, hk⟩
theorem dstart_e : Calls Try.prog 52 #[.pointer (some ⟨g, 0, none⟩)] W fun e w' => e = .returned (.tuple #[]) ∧ DW w w' g (dStart s) ∧ Kept W w' (one g) :=
  (dstart_c W _ g s h.d).mono fun e w' ⟨he, hd, hk⟩ => ⟨he, h.step1 hd hk, hk⟩
end
theorem dReplace_full {r t : Nat} {b y : List UInt8} {torn : Bool} (h : r < y.length) : dReplace ⟨r, b, t, torn, false⟩ y = (5, ⟨r, b, t, torn, false⟩) := by
  have h1 : ¬ y.length ≤ r := by omega
  simp [dReplace, dWrite, h1]
theorem dReplace_fits {r t : Nat} {b y : List UInt8} (h : y.length ≤ r) : dReplace ⟨r, b, t, false, false⟩ y = (0, ⟨r, y, t, false, false⟩) := by
  simp [dReplace, dWrite]
  omega
theorem dReplace_old {r t : Nat} {b y : List UInt8} (h : y.length ≤ r) (h2 : t < y.length) : dReplace ⟨r, b, t, true, false⟩ y = (6, ⟨r, b, t, false, true⟩) := by
  have h3 : ¬ y.length ≤ t := by omega
  simp [dReplace, h, h3]
theorem dReplace_new {r t : Nat} {b y : List UInt8} (h : y.length ≤ r) (h2 : y.length ≤ t) : dReplace ⟨r, b, t, true, false⟩ y = (6, ⟨r, y, t, false, true⟩) := by
  simp [dReplace, h, h2]
theorem dReplace_down {r t : Nat} {b y : List UInt8} {torn : Bool} : dReplace ⟨r, b, t, torn, true⟩ y = (6, ⟨r, b, t, torn, true⟩) := by simp [dReplace, dWrite]

set_option maxRecDepth 100000 in
set_option maxHeartbeats 8000000 in
theorem diskplays_c (w : World) (F : Nat → Prop) (a : Option Addr) (n c : Nat) (xs : List Act8) (room : Int) (h0 : i64p room) (hS : ShAct8.Sl w F a n c xs) :
    Calls Try.prog 11 #[.int .i64 room, .slice a n c] w fun e w' => e = .returned (.bool true) ∧ Kept w w' nix := by
  have hm := hS.max
  have L := hid hS.len
  obtain ⟨h0l, h0u⟩ := h0
  obtain ⟨R, hR, hRl⟩ : ∃ R : Nat, dNew room = ⟨R, [], 0, false, false⟩ ∧ min (max room 0) 16777216 = (R : Int) := by
    refine ⟨min room.toNat 16777216, rfl, ?_⟩
    omega
  have E0 := hid hR
  clear hR
  have HR := hid hRl
  clear hRl
  go_enter Try.func11, Try.ntmps11
  go_upto_if 22 with (first | (go_at_call 46; refine (dnew_d w _ (Kept.refl _ _) _).mono ?_; rintro e w1 ⟨g, rfl, hD1⟩))
  go_cut [6] (fun m wx => m = .int .i64 (max room 0) ∧ wx = w1)
  case first =>
    go_wp2_with fail
    all_goals
      go_meet
      exact ⟨by congr 1; omega, rfl⟩
  case rest =>
  obtain ⟨rfl, rfl⟩ := hcut
  go_upto_if 24 with fail
  go_cut [6] (fun m wx => m = .int .i64 R ∧ wx = wc)
  case first =>
    have := HR.out
    go_wp2_with fail
    all_goals
      go_meet
      exact ⟨by congr 1; omega, rfl⟩
  case rest =>
  obtain ⟨rfl, rfl⟩ := hcut
  rw [E0.out] at hD1
  go_wp2_with fail
  go_loopw [7, 8, 9, 10, 11] (fun al dn tn te i wr => ∃ (k t nA cA : Nat) (b : List UInt8) (down torn : Bool) (aA : Option Addr) (Fa : Nat → Prop), i = .int .i64 k ∧ te = .int .i64 t ∧ tn = .bool torn ∧ dn = .bool down ∧ al = .slice aA nA cA ∧ DW w wr g ⟨R, b, t, torn, down⟩ ∧ By.Sl wr Fa aA nA cA b ∧ (∀ k, Fa k → ¬ k = g) ∧ k ≤ n) (fun _ _ _ _ i _ => n - (intOf i).toNat)
  case atStart => exact ⟨0, 0, 0, 0, [], false, false, _, nix, rfl, rfl, rfl, rfl, rfl, hD1.kept (alloc_kept _ _), Sh.Sl.empty _ _ _ (by omega) nofun, fun _ => False.elim, Nat.zero_le _⟩
  case round =>
    obtain ⟨k, t, nA, cA, b, down, torn, aA, Fa, rfl, rfl, rfl, rfl, rfl, hD, hA, hFa, hk⟩ := hrel
    by_cases hlt : k < n ∧ k < 60
    · obtain ⟨hlt1, hlt2⟩ := hlt
      have hkl : k < xs.length := by have := L.out; omega
      obtain ⟨gl, o, ai, ni, ci, rfl, hgl, q0, q1, q2, hX, hp1, hp2⟩ := act8_at hS k hkl
      generalize xs[k] = x at *
      obtain ⟨wh, N, y⟩ := x
      simp only at q0 q1 q2 hX hp1 hp2
      have c0 := hD.k.cell q0 (fun h => h)
      have c1 := hD.k.cell q1 (fun h => h)
      have c2 := hD.k.cell q2 (fun h => h)
      have Ly := hid hX.len
      have La := hid hA.len
      have hcy := hX.cap
      have hbR := hD.d.1.b
      have hRR := hD.d.1.room
      simp only at hbR hRR
      have hnA : nA ≤ 16777216 := by have := La.out; omega
      -- the act's own block
      have hDa := hD.kept (alloc_kept wr (.cells #[.int .i64 wh, .int .i64 N, .slice ai ni ci] 54))
      have hBa := Blk.new_ wr #[.int .i64 wh, .int .i64 N, .slice ai ni ci] 54
      have hAa := hA.kept (alloc_kept wr (.cells #[.int .i64 wh, .int .i64 N, .slice ai ni ci] 54)) (fun _ _ => id)
      have hgw : g < wr.heap.size := hD.lt
      by_cases h100 : 100 < ni
      · go_wp2_with fail
        refine ⟨⟨k + 1, t, nA, cA, b, down, torn, aA, Fa, by go_num, rfl, rfl, rfl, rfl, hDa, hAa, hFa, by omega⟩, by simp [intOf]; omega⟩
      · have hX0 := hX.kept hDa.k (fun _ _ => id)
        have hO0 := own_empty (wr.alloc (.cells #[.int .i64 wh, .int .i64 N, .slice ai ni ci] 54)) 5
        rw [World.size_alloc] at hO0
        have hXb := hid hX.bound
        have hK0 := alloc_kept (wr.alloc (.cells #[.int .i64 wh, .int .i64 N, .slice ai ni ci] 54)) (.cells #[] 5)
        -- the last part of a round: all is read and compared
        -- the same where the power is gone
        by_cases hw0 : wh = 0
        · subst hw0
          go_wp2_with (at_builtin; refine wpList_app_r rfl (.tmp 51) (.tmp 53) rfl rfl rfl (run_app_f0 _ hK0 hO0 hX0 (by omega)) ?_)
          rintro a3 c3 w3 ⟨hO3, hK3, -, -⟩
          have hD3 := hDa.kept hK3
          have hB3 := hBa.kept hK3 (fun h => h)
          have hA3 := hAa.kept hK3 (fun _ _ => id)
          have b0 := hB3.cell 0
          have b2 := hB3.cell 2
          simp at b0 b2
          clear hO3
          go_wp2_with fail
          have b2W := fun W (hK : Kept w3 W nix) => hK.cell b2 (fun h => h)
          have s0_0 : Kept w3 w3.drew nix := (Kept.refl _ _).drew
          refine wp_region_held (S := fun W => Kept w3 W nix ∧ True) (by kernel_rfl) ?_
          have HS : Kept w3 w3.drew nix ∧ True := ⟨s0_0, trivial⟩
          show wpAnyH _ _ _ _ _ _ _ _ w3.drew
          refine wpAnyH_take (i := 1) (oi := { dst := some 59, op := Op.move (Operand.tmp 7), type := 22, pos := "law.go:49", after := #[], guard := none }) (v := ?_) rfl (by kernel_rfl) (by kernel_rfl) (by kernel_rfl) (fun _ _ _ h => h) (.inl ⟨by rfl, fun W hS => ?_⟩) HS ?_
          rotate_left
          · obtain ⟨t0, -⟩ := hS
            go_simp
            try with_reducible rfl
          rotate_left
          try simp only [Act.put, List.setIfInBounds_toArray, List.set_cons_zero, List.set_cons_succ]
          refine wpAnyH_take (i := 3) (oi := { dst := some 61, op := Op.fieldAddr 54 (Operand.tmp 12) 2, type := 0, pos := "law.go:49", after := #[], guard := none }) (v := ?_) rfl (by kernel_rfl) (by kernel_rfl) (by kernel_rfl) (fun _ _ _ h => h) (.inl ⟨by rfl, fun W hS => ?_⟩) HS ?_
          rotate_left
          · obtain ⟨t0, -⟩ := hS
            go_simp
            try with_reducible rfl
          rotate_left
          try simp only [Act.put, List.setIfInBounds_toArray, List.set_cons_zero, List.set_cons_succ]
          refine wpAnyH_take (i := 4) (oi := { dst := some 62, op := Op.load 22 (Operand.tmp 61), type := 22, pos := "law.go:49", after := #[{ on := 3, ground := Ground.data }], guard := none }) (v := ?_) rfl (by kernel_rfl) (by kernel_rfl) (by kernel_rfl) (fun _ _ _ h => h) (.inl ⟨by rfl, fun W hS => ?_⟩) HS ?_
          rotate_left
          · obtain ⟨t0, -⟩ := hS
            go_simp
            try with_reducible rfl
          rotate_left
          try simp only [Act.put, List.setIfInBounds_toArray, List.set_cons_zero, List.set_cons_succ]
          refine wpAnyH_one (i := 0) (oi := { dst := some 58, op := Op.buildSlice 22 0 #[], type := 22, pos := "law.go:49", after := #[], guard := none }) rfl (by kernel_rfl) (by rfl) (fun K hK => ?_)
          go_simp
          have hK4 : Kept w3 (w3.alloc (.cells #[] 5)).drew nix := (alloc_kept w3 _).drew
          have hO4 : By.Own (w3.alloc (.cells #[] 5)).drew (new w3 (w3.alloc (.cells #[] 5)).drew) (some ⟨w3.heap.size, 0, none⟩) 0 0 [] := own_empty w3.drew 5
          generalize (w3.alloc (.cells #[] 5)).drew = w4 at hK4 hO4 ⊢
          clear HS
          refine hK _ _ (fun W => Kept w3 W nix ∧ True) ⟨hK4, trivial⟩ (fun _ h => h) ?_
          have HS : Kept w3 w4 nix ∧ True := ⟨hK4, trivial⟩
          clear hK K
          try simp only [Act.put, List.setIfInBounds_toArray, List.set_cons_zero, List.set_cons_succ]
          refine wpAnyH_one (i := 2) (oi := { dst := some 60, op := Op.call { callee := Callee.builtin Builtin.append, args := #[Operand.tmp 58, Operand.tmp 59], argTypes := #[22, 22] }, type := 22, pos := "law.go:49", after := #[{ on := 0, ground := Ground.data }, { on := 1, ground := Ground.data }], guard := none }) rfl (by kernel_rfl) (by rfl) (fun K hK => ?_)
          refine wp_app_r (.tmp 58) (.tmp 59) rfl rfl rfl (run_app_f0 _ hK4 hO4 hA3 (by omega)) ?_
          rintro a5 c5 w5 ⟨hO5, hK5, -, -⟩
          clear HS
          refine hK _ _ (fun W => Kept w3 W nix ∧ True) ⟨hK5, trivial⟩ (fun _ h => h) ?_
          have HS : Kept w3 w5 nix ∧ True := ⟨hK5, trivial⟩
          clear hK K
          try simp only [Act.put, List.setIfInBounds_toArray, List.set_cons_zero, List.set_cons_succ]
          refine wpAnyH_one (i := 5) (oi := { dst := some 63, op := Op.call { callee := Callee.builtin Builtin.append, args := #[Operand.tmp 60, Operand.tmp 62], argTypes := #[22, 22] }, type := 22, pos := "law.go:49", after := #[{ on := 2, ground := Ground.data }, { on := 4, ground := Ground.data }, { on := 2, ground := Ground.chain }], guard := none }) rfl (by kernel_rfl) (by rfl) (fun K hK => ?_)
          refine wp_app_r (.tmp 60) (.tmp 62) rfl rfl rfl (run_app_f0 _ hK5 hO5 (hX.kept hD3.k (fun _ _ => id)) (by omega)) ?_
          rintro a6 c6 w6 ⟨hO6, hK6, -, -⟩
          clear HS
          refine hK _ _ (fun W => Kept w3 W nix ∧ True) ⟨hK6, trivial⟩ (fun _ h => h) ?_
          have HS : Kept w3 w6 nix ∧ True := ⟨hK6, trivial⟩
          clear hK K
          try simp only [Act.put, List.setIfInBounds_toArray, List.set_cons_zero, List.set_cons_succ]
          refine wpAnyH_take (i := 6) (oi := { dst := some 13, op := Op.assign (Operand.tmp 63), type := 22, pos := "law.go:49", after := #[{ on := 5, ground := Ground.data }, { on := 5, ground := Ground.chain }, { on := 0, ground := Ground.phase }, { on := 1, ground := Ground.phase }, { on := 2, ground := Ground.phase }, { on := 3, ground := Ground.phase }, { on := 4, ground := Ground.phase }, { on := 5, ground := Ground.phase }], guard := none }) (v := ?_) rfl (by kernel_rfl) (by kernel_rfl) (by kernel_rfl) (fun _ _ _ h => h) (.inl ⟨by rfl, fun W hS => ?_⟩) HS ?_
          rotate_left
          · obtain ⟨t0, -⟩ := hS
            go_simp
            try with_reducible rfl
          rotate_left
          try simp only [Act.put, List.setIfInBounds_toArray, List.set_cons_zero, List.set_cons_succ]
          refine wpAnyH_done (by kernel_rfl) ?_ _
          have hD6 := hD3.kept hK6
          have hB6 := hB3.kept hK6 (fun h => h)
          have hA6 := hA3.kept hK6 (fun _ _ => id)
          rw [List.nil_append, Nat.zero_add] at hO6
          have e0 := hB6.cell 0
          have e2 := hB6.cell 2
          simp at e0 e2
          have hX6 := hX.kept hD6.k (fun _ _ => id)
          clear hO5 hO4 hK5 hK4 b2W HS s0_0
          have hlen6 := hid hO6.len
          have ka := dappend_d hD6 _ _ _ _ _ hX6 (by omega)
          have hgB : ¬ g = wr.heap.size := by omega
          have hNX := hO6.sl
          have hNF : ∀ q, new w3 w6 q → ¬ q = g := fun q hq e => by have := hq.1; have := hD3.lt; omega
          cases down
          · by_cases hfull : R < nA + ni
            · as_aux_lemma =>
                rw [show dAppend ⟨R, b, t, torn, false⟩ y = (5, ⟨R, b, t, torn, false⟩) by have := La.out; have := Ly.out; simp [dAppend, dWrite]; omega] at ka
                go_wp2_with (first | (go_at_call 49; (with_reducible refine ka.mono ?_); rintro e w7 ⟨rfl, hD7, hK7⟩; have hB7 := hB6.kept hK7 (fun e => hgB (Eq.symm e)); have f0 := hB7.cell 0; have f2 := hB7.cell 2; simp at f0 f2; have hA7 := hA6.kept hK7 hFa; have hN7 := hNX.kept hK7 hNF))
                have kr := dread_d hD7
                have ku := dup_d hD7
                rw [show ∀ s, dRead s = if s.down then ([], 6) else (s.b, 0) from fun _ => rfl] at kr
                simp only [if_true, if_false, Bool.false_eq_true] at kr
                simp only at ku
                go_wp2_with (first
                  | (go_at_call 48; (with_reducible refine kr.mono ?_); rintro e wR ⟨aR, nR, cR, rfl, hOR, hDR, hKR⟩; have rR := strBy hOR.sl; have hAR := hA7.kept hKR (fun _ _ => id); have rA := strBy hAR; have kv := dup_d hDR; simp only at kv)
                  | (go_at_call 54; (with_reducible refine kv.mono ?_); rintro e wU ⟨rfl, rfl⟩))
                exact ⟨⟨k + 1, t, _, _, b, _, _, _, Fa, by go_num, rfl, rfl, rfl, rfl, hDR, hAR, hFa, by omega⟩, by simp [intOf]; omega⟩
            · cases torn
              · as_aux_lemma =>
                  rw [dAppend_fits (by have := La.out; have := Ly.out; omega)] at ka
                  go_wp2_with (first | (go_at_call 49; (with_reducible refine ka.mono ?_); rintro e w7 ⟨rfl, hD7, hK7⟩; have hB7 := hB6.kept hK7 (fun e => hgB (Eq.symm e)); have f0 := hB7.cell 0; have f2 := hB7.cell 2; simp at f0 f2; have hA7 := hA6.kept hK7 hFa; have hN7 := hNX.kept hK7 hNF))
                  have kr := dread_d hD7
                  have ku := dup_d hD7
                  rw [show ∀ s, dRead s = if s.down then ([], 6) else (s.b, 0) from fun _ => rfl] at kr
                  simp only [if_true, if_false, Bool.false_eq_true] at kr
                  simp only at ku
                  go_wp2_with (first
                    | (go_at_call 48; (with_reducible refine kr.mono ?_); rintro e wR ⟨aR, nR, cR, rfl, hOR, hDR, hKR⟩; have rR := strBy hOR.sl; have hAR := hN7.kept hKR (fun _ _ => id); have rA := strBy hAR; have kv := dup_d hDR; simp only at kv)
                    | (go_at_call 54; (with_reducible refine kv.mono ?_); rintro e wU ⟨rfl, rfl⟩))
                  exact ⟨⟨k + 1, t, _, _, _, _, _, _, _, by go_num, rfl, rfl, rfl, rfl, hDR, hAR, hNF, by omega⟩, by simp [intOf]; omega⟩
              · rw [dAppend_torn (by have := La.out; have := Ly.out; omega)] at ka
                by_cases ht : t < ni
                · as_aux_lemma =>
                    rw [show min t y.length = t by have := Ly.out; omega] at ka
                    go_wp2_with (first | (go_at_call 49; (with_reducible refine ka.mono ?_); rintro e w7 ⟨rfl, hD7, hK7⟩; have hB7 := hB6.kept hK7 (fun e => hgB (Eq.symm e)); have f0 := hB7.cell 0; have f2 := hB7.cell 2; simp at f0 f2; have hA7 := hA6.kept hK7 hFa; have hN7 := hNX.kept hK7 hNF))
                    have tb := hid hD7
                    have b2W := fun W (hK : Kept w7 W nix) => hK.cell f2 (fun h => h)
                    have t1 : (0 : Int) ≤ (t : Int) := by omega
                    have t2 : (t : Int) ≤ (ci : Int) := by omega
                    have t3 : t ≤ ci := by omega
                    have s0_0 : Kept w7 w7.drew nix := (Kept.refl _ _).drew
                    refine wp_region_held (S := fun W => Kept w7 W nix ∧ True) (by kernel_rfl) ?_
                    have HS : Kept w7 w7.drew nix ∧ True := ⟨s0_0, trivial⟩
                    show wpAnyH _ _ _ _ _ _ _ _ w7.drew
                    refine wpAnyH_take (i := 1) (oi := { dst := some 96, op := Op.move (Operand.tmp 7), type := 22, pos := "law.go:67", after := #[], guard := none }) (v := ?_) rfl (by kernel_rfl) (by kernel_rfl) (by kernel_rfl) (fun _ _ _ h => h) (.inl ⟨by rfl, fun W hS => ?_⟩) HS ?_
                    rotate_left
                    · obtain ⟨t0, -⟩ := hS
                      go_simp
                      try with_reducible rfl
                    rotate_left
                    try simp only [Act.put, List.setIfInBounds_toArray, List.set_cons_zero, List.set_cons_succ]
                    refine wpAnyH_take (i := 3) (oi := { dst := some 98, op := Op.fieldAddr 54 (Operand.tmp 12) 2, type := 0, pos := "law.go:67", after := #[], guard := none }) (v := ?_) rfl (by kernel_rfl) (by kernel_rfl) (by kernel_rfl) (fun _ _ _ h => h) (.inl ⟨by rfl, fun W hS => ?_⟩) HS ?_
                    rotate_left
                    · obtain ⟨t0, -⟩ := hS
                      go_simp
                      try with_reducible rfl
                    rotate_left
                    try simp only [Act.put, List.setIfInBounds_toArray, List.set_cons_zero, List.set_cons_succ]
                    refine wpAnyH_take (i := 4) (oi := { dst := some 99, op := Op.load 22 (Operand.tmp 98), type := 22, pos := "law.go:67", after := #[{ on := 3, ground := Ground.data }], guard := none }) (v := ?_) rfl (by kernel_rfl) (by kernel_rfl) (by kernel_rfl) (fun _ _ _ h => h) (.inl ⟨by rfl, fun W hS => ?_⟩) HS ?_
                    rotate_left
                    · obtain ⟨t0, -⟩ := hS
                      go_simp
                      try with_reducible rfl
                    rotate_left
                    try simp only [Act.put, List.setIfInBounds_toArray, List.set_cons_zero, List.set_cons_succ]
                    refine wpAnyH_take (i := 5) (oi := { dst := some 100, op := Op.move (Operand.tmp 10), type := 3, pos := "law.go:67", after := #[], guard := none }) (v := ?_) rfl (by kernel_rfl) (by kernel_rfl) (by kernel_rfl) (fun _ _ _ h => h) (.inl ⟨by rfl, fun W hS => ?_⟩) HS ?_
                    rotate_left
                    · obtain ⟨t0, -⟩ := hS
                      go_simp
                      try with_reducible rfl
                    rotate_left
                    try simp only [Act.put, List.setIfInBounds_toArray, List.set_cons_zero, List.set_cons_succ]
                    refine wpAnyH_take (i := 6) (oi := { dst := some 101, op := Op.slice 22 (Operand.tmp 99) none (some (Operand.tmp 100)) none, type := 22, pos := "law.go:67", after := #[{ on := 4, ground := Ground.data }, { on := 5, ground := Ground.data }], guard := none }) (v := ?_) rfl (by kernel_rfl) (by kernel_rfl) (by kernel_rfl) (fun _ _ _ h => h) (.inl ⟨by rfl, fun W hS => ?_⟩) HS ?_
                    rotate_left
                    · obtain ⟨t0, -⟩ := hS
                      go_simp
                      try with_reducible rfl
                    rotate_left
                    try simp only [Act.put, List.setIfInBounds_toArray, List.set_cons_zero, List.set_cons_succ]
                    refine wpAnyH_one (i := 0) (oi := { dst := some 95, op := Op.buildSlice 22 0 #[], type := 22, pos := "law.go:67", after := #[], guard := none }) rfl (by kernel_rfl) (by rfl) (fun K hK => ?_)
                    go_simp
                    have hK8 : Kept w7 (w7.alloc (.cells #[] 5)).drew nix := (alloc_kept w7 _).drew
                    have hO8 : By.Own (w7.alloc (.cells #[] 5)).drew (new w7 (w7.alloc (.cells #[] 5)).drew) (some ⟨w7.heap.size, 0, none⟩) 0 0 [] := own_empty w7.drew 5
                    generalize (w7.alloc (.cells #[] 5)).drew = w8 at hK8 hO8 ⊢
                    clear HS
                    refine hK _ _ (fun W => Kept w7 W nix ∧ True) ⟨hK8, trivial⟩ (fun _ h => h) ?_
                    have HS : Kept w7 w8 nix ∧ True := ⟨hK8, trivial⟩
                    clear hK K
                    try simp only [Act.put, List.setIfInBounds_toArray, List.set_cons_zero, List.set_cons_succ]
                    refine wpAnyH_one (i := 2) (oi := { dst := some 97, op := Op.call { callee := Callee.builtin Builtin.append, args := #[Operand.tmp 95, Operand.tmp 96], argTypes := #[22, 22] }, type := 22, pos := "law.go:67", after := #[{ on := 0, ground := Ground.data }, { on := 1, ground := Ground.data }], guard := none }) rfl (by kernel_rfl) (by rfl) (fun K hK => ?_)
                    refine wp_app_r (.tmp 95) (.tmp 96) rfl rfl rfl (run_app_f0 _ hK8 hO8 hA7 (by omega)) ?_
                    rintro a9 c9 w9 ⟨hO9, hK9, -, -⟩
                    clear HS
                    refine hK _ _ (fun W => Kept w7 W nix ∧ True) ⟨hK9, trivial⟩ (fun _ h => h) ?_
                    have HS : Kept w7 w9 nix ∧ True := ⟨hK9, trivial⟩
                    clear hK K
                    try simp only [Act.put, List.setIfInBounds_toArray, List.set_cons_zero, List.set_cons_succ]
                    refine wpAnyH_one (i := 7) (oi := { dst := some 102, op := Op.call { callee := Callee.builtin Builtin.append, args := #[Operand.tmp 97, Operand.tmp 101], argTypes := #[22, 22] }, type := 22, pos := "law.go:67", after := #[{ on := 2, ground := Ground.data }, { on := 6, ground := Ground.data }, { on := 2, ground := Ground.chain }], guard := none }) rfl (by kernel_rfl) (by rfl) (fun K hK => ?_)
                    refine wp_app_r (.tmp 97) (.tmp 101) rfl rfl rfl (run_app_f0 _ hK9 hO9 ((hX.take t (by omega)).kept hD7.k (fun _ _ => id)) (by omega)) ?_
                    rintro aa ca wa ⟨hOa, hKa, -, -⟩
                    clear HS
                    refine hK _ _ (fun W => Kept w7 W nix ∧ True) ⟨hKa, trivial⟩ (fun _ h => h) ?_
                    have HS : Kept w7 wa nix ∧ True := ⟨hKa, trivial⟩
                    clear hK K
                    try simp only [Act.put, List.setIfInBounds_toArray, List.set_cons_zero, List.set_cons_succ]
                    refine wpAnyH_take (i := 8) (oi := { dst := some 13, op := Op.assign (Operand.tmp 102), type := 22, pos := "law.go:67", after := #[{ on := 7, ground := Ground.data }, { on := 7, ground := Ground.chain }, { on := 0, ground := Ground.phase }, { on := 1, ground := Ground.phase }, { on := 2, ground := Ground.phase }, { on := 3, ground := Ground.phase }, { on := 4, ground := Ground.phase }, { on := 5, ground := Ground.phase }, { on := 6, ground := Ground.phase }, { on := 7, ground := Ground.phase }], guard := none }) (v := ?_) rfl (by kernel_rfl) (by kernel_rfl) (by kernel_rfl) (fun _ _ _ h => h) (.inl ⟨by rfl, fun W hS => ?_⟩) HS ?_
                    rotate_left
                    · obtain ⟨t0, -⟩ := hS
                      go_simp
                      try with_reducible rfl
                    rotate_left
                    try simp only [Act.put, List.setIfInBounds_toArray, List.set_cons_zero, List.set_cons_succ]
                    refine wpAnyH_done (by kernel_rfl) ?_ _
                    have hDa := hD7.kept hKa
                    have hBa := hB7.kept hKa (fun h => h)
                    rw [List.nil_append, Nat.zero_add] at hOa
                    have g0 := hBa.cell 0
                    have g2 := hBa.cell 2
                    simp at g0 g2
                    have hNa := hOa.sl
                    have hNG : ∀ q, new w7 wa q → ¬ q = g := fun q hq e => by have := hq.1; have := hD7.lt; omega
                    clear hO9 hO8 hK9 hK8 b2W HS s0_0
                    have kr := dread_d hDa
                    have ku := dup_d hDa
                    rw [show ∀ s, dRead s = if s.down then ([], 6) else (s.b, 0) from fun _ => rfl] at kr
                    simp only [if_true, if_false, Bool.false_eq_true] at kr
                    simp only at ku
                    go_wp2_with (first
                      | (go_at_call 48; (with_reducible refine kr.mono ?_); rintro e wR ⟨aR, nR, cR, rfl, hOR, hDR, hKR⟩; obtain rfl : nR = 0 := hOR.len.symm; have hAR := hNa.kept hKR (fun _ _ => id); have kv := dup_d hDR; simp only at kv)
                      | (go_at_call 54; (with_reducible refine kv.mono ?_); rintro e wU ⟨rfl, rfl⟩))
                    exact ⟨⟨k + 1, t, _, _, _, _, _, _, _, by go_num, rfl, rfl, rfl, rfl, hDR, hAR, hNG, by omega⟩, by simp [intOf]; omega⟩
                · as_aux_lemma =>
                    rw [show min t y.length = y.length by have := Ly.out; omega, List.take_length] at ka
                    go_wp2_with (first | (go_at_call 49; (with_reducible refine ka.mono ?_); rintro e w7 ⟨rfl, hD7, hK7⟩; have hB7 := hB6.kept hK7 (fun e => hgB (Eq.symm e)); have f0 := hB7.cell 0; have f2 := hB7.cell 2; simp at f0 f2; have hA7 := hA6.kept hK7 hFa; have hN7 := hNX.kept hK7 hNF))
                    have kr := dread_d hD7
                    have ku := dup_d hD7
                    rw [show ∀ s, dRead s = if s.down then ([], 6) else (s.b, 0) from fun _ => rfl] at kr
                    simp only [if_true, if_false, Bool.false_eq_true] at kr
                    simp only at ku
                    go_wp2_with (first
                      | (go_at_call 48; (with_reducible refine kr.mono ?_); rintro e wR ⟨aR, nR, cR, rfl, hOR, hDR, hKR⟩; obtain rfl : nR = 0 := hOR.len.symm; have hAR := hN7.kept hKR (fun _ _ => id); have kv := dup_d hDR; simp only at kv)
                      | (go_at_call 54; (with_reducible refine kv.mono ?_); rintro e wU ⟨rfl, rfl⟩))
                    exact ⟨⟨k + 1, t, _, _, _, _, _, _, _, by go_num, rfl, rfl, rfl, rfl, hDR, hAR, hNF, by omega⟩, by simp [intOf]; omega⟩
          · as_aux_lemma =>
              rw [dAppend_down] at ka
              go_wp2_with (first | (go_at_call 49; (with_reducible refine ka.mono ?_); rintro e w7 ⟨rfl, hD7, hK7⟩; have hB7 := hB6.kept hK7 (fun e => hgB (Eq.symm e)); have f0 := hB7.cell 0; have f2 := hB7.cell 2; simp at f0 f2; have hA7 := hA6.kept hK7 hFa; have hN7 := hNX.kept hK7 hNF))
              have kr := dread_d hD7
              have ku := dup_d hD7
              rw [show ∀ s, dRead s = if s.down then ([], 6) else (s.b, 0) from fun _ => rfl] at kr
              simp only [if_true, if_false, Bool.false_eq_true] at kr
              simp only at ku
              go_wp2_with (first
                | (go_at_call 48; (with_reducible refine kr.mono ?_); rintro e wR ⟨aR, nR, cR, rfl, hOR, hDR, hKR⟩; obtain rfl : nR = 0 := hOR.len.symm; have hAR := hA7.kept hKR (fun _ _ => id); have kv := dup_d hDR; simp only at kv)
                | (go_at_call 54; (with_reducible refine kv.mono ?_); rintro e wU ⟨rfl, rfl⟩))
              exact ⟨⟨k + 1, t, _, _, b, _, _, _, Fa, by go_num, rfl, rfl, rfl, rfl, hDR, hAR, hFa, by omega⟩, by simp [intOf]; omega⟩
        · by_cases hw1 : wh = 1
          · subst hw1
            clear hw0
            go_wp2_with (at_builtin; refine wpList_app_r rfl (.tmp 51) (.tmp 53) rfl rfl rfl (run_app_f0 _ hK0 hO0 hX0 (by omega)) ?_)
            rintro a3 c3 w6 ⟨hO6, hK6, -, -⟩
            have hD6 := hDa.kept hK6
            have hB6 := hBa.kept hK6 (fun h => h)
            have hA6 := hAa.kept hK6 (fun _ _ => id)
            have e0 := hB6.cell 0
            have e2 := hB6.cell 2
            simp at e0 e2
            rw [List.nil_append, Nat.zero_add] at hO6
            have hX6 := hXb.out.kept hD6.k (fun _ _ => id)
            have ka := dreplace_d hD6 _ _ _ _ _ hX6 (by omega) (fun q hq e => by have := hq.2; have := hD.le; omega)
            have hgB : ¬ g = wr.heap.size := by omega
            have hNX := hO6.sl
            have hNF : ∀ q, new (wr.alloc (.cells #[.int .i64 1, .int .i64 N, .slice ai ni ci] 54)) w6 q → ¬ q = g := fun q hq e => by have := hq.1; rw [World.size_alloc] at this; omega
            cases down
            · by_cases hfull : R < ni
              · as_aux_lemma =>
                  rw [dReplace_full (by have := Ly.out; omega)] at ka
                  go_wp2_with (first | (go_at_call 53; (with_reducible refine ka.mono ?_); rintro e w7 ⟨rfl, hD7, hK7⟩; have hB7 := hB6.kept hK7 (fun e => hgB (Eq.symm e)); have f0 := hB7.cell 0; have f2 := hB7.cell 2; simp at f0 f2; have hA7 := hA6.kept hK7 hFa; have hN7 := hNX.kept hK7 hNF))
                  have kr := dread_d hD7
                  have ku := dup_d hD7
                  rw [show ∀ s, dRead s = if s.down then ([], 6) else (s.b, 0) from fun _ => rfl] at kr
                  simp only [if_true, if_false, Bool.false_eq_true] at kr
                  simp only at ku
                  go_wp2_with (first
                    | (go_at_call 48; (with_reducible refine kr.mono ?_); rintro e wR ⟨aR, nR, cR, rfl, hOR, hDR, hKR⟩; have rR := strBy hOR.sl; have hAR := hA7.kept hKR (fun _ _ => id); have rA := strBy hAR; have kv := dup_d hDR; simp only at kv)
                    | (go_at_call 54; (with_reducible refine kv.mono ?_); rintro e wU ⟨rfl, rfl⟩))
                  exact ⟨⟨k + 1, t, _, _, b, _, _, _, Fa, by go_num, rfl, rfl, rfl, rfl, hDR, hAR, hFa, by omega⟩, by simp [intOf]; omega⟩
              · cases torn
                · as_aux_lemma =>
                    rw [dReplace_fits (by have := Ly.out; omega)] at ka
                    go_wp2_with (first | (go_at_call 53; (with_reducible refine ka.mono ?_); rintro e w7 ⟨rfl, hD7, hK7⟩; have hB7 := hB6.kept hK7 (fun e => hgB (Eq.symm e)); have f0 := hB7.cell 0; have f2 := hB7.cell 2; simp at f0 f2; have hA7 := hA6.kept hK7 hFa; have hN7 := hNX.kept hK7 hNF))
                    have kr := dread_d hD7
                    have ku := dup_d hD7
                    rw [show ∀ s, dRead s = if s.down then ([], 6) else (s.b, 0) from fun _ => rfl] at kr
                    simp only [if_true, if_false, Bool.false_eq_true] at kr
                    simp only at ku
                    go_wp2_with (first
                      | (go_at_call 48; (with_reducible refine kr.mono ?_); rintro e wR ⟨aR, nR, cR, rfl, hOR, hDR, hKR⟩; have rR := strBy hOR.sl; have hAR := hN7.kept hKR (fun _ _ => id); have rA := strBy hAR; have kv := dup_d hDR; simp only at kv)
                      | (go_at_call 54; (with_reducible refine kv.mono ?_); rintro e wU ⟨rfl, rfl⟩))
                    exact ⟨⟨k + 1, t, _, _, _, _, _, _, _, by go_num, rfl, rfl, rfl, rfl, hDR, hAR, hNF, by omega⟩, by simp [intOf]; omega⟩
                · by_cases ht : t < ni
                  · as_aux_lemma =>
                      rw [dReplace_old (by have := Ly.out; omega) (by have := Ly.out; omega)] at ka
                      go_wp2_with (first | (go_at_call 53; (with_reducible refine ka.mono ?_); rintro e w7 ⟨rfl, hD7, hK7⟩; have hB7 := hB6.kept hK7 (fun e => hgB (Eq.symm e)); have f0 := hB7.cell 0; have f2 := hB7.cell 2; simp at f0 f2; have hA7 := hA6.kept hK7 hFa; have hN7 := hNX.kept hK7 hNF))
                      have kr := dread_d hD7
                      have ku := dup_d hD7
                      rw [show ∀ s, dRead s = if s.down then ([], 6) else (s.b, 0) from fun _ => rfl] at kr
                      simp only [if_true, if_false, Bool.false_eq_true] at kr
                      simp only at ku
                      go_wp2_with (first
                        | (go_at_call 48; (with_reducible refine kr.mono ?_); rintro e wR ⟨aR, nR, cR, rfl, hOR, hDR, hKR⟩; obtain rfl : nR = 0 := hOR.len.symm; have hAR := hA7.kept hKR (fun _ _ => id); have kv := dup_d hDR; simp only at kv)
                        | (go_at_call 54; (with_reducible refine kv.mono ?_); rintro e wU ⟨rfl, rfl⟩))
                      exact ⟨⟨k + 1, t, _, _, b, _, _, _, Fa, by go_num, rfl, rfl, rfl, rfl, hDR, hAR, hFa, by omega⟩, by simp [intOf]; omega⟩
                  · as_aux_lemma =>
                      rw [dReplace_new (by have := Ly.out; omega) (by have := Ly.out; omega)] at ka
                      have ht2 : ni ≤ t := by omega
                      go_wp2_with (first | (go_at_call 53; (with_reducible refine ka.mono ?_); rintro e w7 ⟨rfl, hD7, hK7⟩; have hB7 := hB6.kept hK7 (fun e => hgB (Eq.symm e)); have f0 := hB7.cell 0; have f2 := hB7.cell 2; simp at f0 f2; have hA7 := hA6.kept hK7 hFa; have hN7 := hNX.kept hK7 hNF))
                      have kr := dread_d hD7
                      have ku := dup_d hD7
                      rw [show ∀ s, dRead s = if s.down then ([], 6) else (s.b, 0) from fun _ => rfl] at kr
                      simp only [if_true, if_false, Bool.false_eq_true] at kr
                      simp only at ku
                      go_wp2_with (first
                        | (go_at_call 48; (with_reducible refine kr.mono ?_); rintro e wR ⟨aR, nR, cR, rfl, hOR, hDR, hKR⟩; obtain rfl : nR = 0 := hOR.len.symm; have hAR := hN7.kept hKR (fun _ _ => id); have kv := dup_d hDR; simp only at kv)
                        | (go_at_call 54; (with_reducible refine kv.mono ?_); rintro e wU ⟨rfl, rfl⟩))
                      exact ⟨⟨k + 1, t, _, _, _, _, _, _, _, by go_num, rfl, rfl, rfl, rfl, hDR, hAR, hNF, by omega⟩, by simp [intOf]; omega⟩
            · as_aux_lemma =>
                rw [dReplace_down] at ka
                go_wp2_with (first | (go_at_call 53; (with_reducible refine ka.mono ?_); rintro e w7 ⟨rfl, hD7, hK7⟩; have hB7 := hB6.kept hK7 (fun e => hgB (Eq.symm e)); have f0 := hB7.cell 0; have f2 := hB7.cell 2; simp at f0 f2; have hA7 := hA6.kept hK7 hFa; have hN7 := hNX.kept hK7 hNF))
                have kr := dread_d hD7
                have ku := dup_d hD7
                rw [show ∀ s, dRead s = if s.down then ([], 6) else (s.b, 0) from fun _ => rfl] at kr
                simp only [if_true, if_false, Bool.false_eq_true] at kr
                simp only at ku
                go_wp2_with (first
                  | (go_at_call 48; (with_reducible refine kr.mono ?_); rintro e wR ⟨aR, nR, cR, rfl, hOR, hDR, hKR⟩; obtain rfl : nR = 0 := hOR.len.symm; have hAR := hA7.kept hKR (fun _ _ => id); have kv := dup_d hDR; simp only at kv)
                  | (go_at_call 54; (with_reducible refine kv.mono ?_); rintro e wU ⟨rfl, rfl⟩))
                exact ⟨⟨k + 1, t, _, _, b, _, _, _, Fa, by go_num, rfl, rfl, rfl, rfl, hDR, hAR, hFa, by omega⟩, by simp [intOf]; omega⟩
          · have W0 : (wh == 0) = false := by rw [Bool.eq_false_iff]; simpa using hw0
            have W1 : (wh == 1) = false := by rw [Bool.eq_false_iff]; simpa using hw1
            by_cases hw2 : wh = 2
            · subst hw2
              have kt := dtear_e hDa N hp2.2
              clear hX0 hO0 hK0
              have hgB : ¬ g = wr.heap.size := by omega
              have hp21 := hp2.1
              have hp22 := hp2.2
              rcases Int.lt_or_le N 0 with hN | hN
              · as_aux_lemma =>
                  go_wp2_with (first | (go_at_call 50; (with_reducible refine kt.mono ?_); rintro e w7 ⟨rfl, hD7, hK7⟩))
                  have hB7 := hBa.kept hK7 (fun e => hgB (Eq.symm e))
                  have f1 := hB7.cell 1
                  simp at f1
                  have hA7 := hAa.kept hK7 hFa
                  have f1W := fun W (hK : Kept w7 W nix) => hK.cell f1 (fun h => h)
                  rw [show dTear ⟨R, b, t, torn, down⟩ N = ⟨R, b, 0, true, down⟩ by simp [dTear]; omega] at hD7
                  have s0_0 : Kept w7 w7.drew nix := (Kept.refl _ _).drew
                  refine wp_region_held (S := fun W => Kept w7 W nix ∧ True) (by kernel_rfl) ?_
                  have HS : Kept w7 w7.drew nix ∧ True := ⟨s0_0, trivial⟩
                  show wpAnyH _ _ _ _ _ _ _ _ w7.drew
                  refine wpAnyH_take (i := 0) (oi := { dst := some 123, op := Op.fieldAddr 54 (Operand.tmp 12) 1, type := 0, pos := "law.go:80", after := #[{ on := 2, ground := Ground.gcOnly Departure.lateStores }], guard := none }) (v := ?_) rfl (by kernel_rfl) (by kernel_rfl) (by kernel_rfl) (fun _ _ _ h => h) (.inl ⟨by rfl, fun W hS => ?_⟩) HS ?_
                  rotate_left
                  · obtain ⟨t0, -⟩ := hS
                    go_simp
                    try with_reducible rfl
                  rotate_left
                  try simp only [Act.put, List.setIfInBounds_toArray, List.set_cons_zero, List.set_cons_succ]
                  refine wpAnyH_take (i := 1) (oi := { dst := some 124, op := Op.load 3 (Operand.tmp 123), type := 3, pos := "law.go:80", after := #[{ on := 0, ground := Ground.data }, { on := 2, ground := Ground.gcOnly Departure.lateStores }], guard := none }) (v := ?_) rfl (by kernel_rfl) (by kernel_rfl) (by kernel_rfl) (fun _ _ _ h => h) (.inl ⟨by rfl, fun W hS => ?_⟩) HS ?_
                  rotate_left
                  · obtain ⟨t0, -⟩ := hS
                    go_simp
                    try with_reducible rfl
                  rotate_left
                  try simp only [Act.put, List.setIfInBounds_toArray, List.set_cons_zero, List.set_cons_succ]
                  refine wpAnyH_take (i := 2) (oi := { dst := some 9, op := Op.assign (Operand.const (Value.bool true)), type := 4, pos := "law.go:80", after := #[{ on := 0, ground := Ground.textOnly Departure.lateStores }, { on := 1, ground := Ground.textOnly Departure.lateStores }], guard := none }) (v := ?_) rfl (by kernel_rfl) (by kernel_rfl) (by kernel_rfl) (fun _ _ _ h => h) (.inl ⟨by rfl, fun W hS => ?_⟩) HS ?_
                  rotate_left
                  · obtain ⟨t0, -⟩ := hS
                    go_simp
                    try with_reducible rfl
                  rotate_left
                  try simp only [Act.put, List.setIfInBounds_toArray, List.set_cons_zero, List.set_cons_succ]
                  refine wpAnyH_take (i := 3) (oi := { dst := some 10, op := Op.assign (Operand.tmp 124), type := 3, pos := "law.go:80", after := #[{ on := 1, ground := Ground.data }, { on := 2, ground := Ground.chain }, { on := 0, ground := Ground.phase }, { on := 1, ground := Ground.phase }, { on := 2, ground := Ground.phase }], guard := none }) (v := ?_) rfl (by kernel_rfl) (by kernel_rfl) (by kernel_rfl) (fun _ _ _ h => h) (.inl ⟨by rfl, fun W hS => ?_⟩) HS ?_
                  rotate_left
                  · obtain ⟨t0, -⟩ := hS
                    go_simp
                    try with_reducible rfl
                  rotate_left
                  try simp only [Act.put, List.setIfInBounds_toArray, List.set_cons_zero, List.set_cons_succ]
                  refine wpAnyH_done (by kernel_rfl) ?_ _
                  have hD8 := hD7.kept (Kept.refl _ _).drew
                  have hA8 := hA7.kept (Kept.refl w7 nix).drew (fun _ _ => id)
                  cases down
                  · skip
                    have kr := dread_d hD8
                    have ku := dup_d hD8
                    rw [show ∀ s, dRead s = if s.down then ([], 6) else (s.b, 0) from fun _ => rfl] at kr
                    simp only [if_true, if_false, Bool.false_eq_true] at kr
                    simp only at ku
                    go_wp2_with (first
                      | (go_at_call 48; (with_reducible refine kr.mono ?_); rintro e wR ⟨aR, nR, cR, rfl, hOR, hDR, hKR⟩; have rR := strBy hOR.sl; have hAR := hA8.kept hKR (fun _ _ => id); have rA := strBy hAR; have kv := dup_d hDR; simp only at kv)
                      | (go_at_call 54; (with_reducible refine kv.mono ?_); rintro e wU ⟨rfl, rfl⟩))
                    exact ⟨⟨k + 1, 0, _, _, b, _, _, _, Fa, by go_num, rfl, rfl, rfl, rfl, hDR, hAR, hFa, by omega⟩, by simp [intOf]; omega⟩
                  · skip
                    have kr := dread_d hD8
                    have ku := dup_d hD8
                    rw [show ∀ s, dRead s = if s.down then ([], 6) else (s.b, 0) from fun _ => rfl] at kr
                    simp only [if_true, if_false, Bool.false_eq_true] at kr
                    simp only at ku
                    go_wp2_with (first
                      | (go_at_call 48; (with_reducible refine kr.mono ?_); rintro e wR ⟨aR, nR, cR, rfl, hOR, hDR, hKR⟩; obtain rfl : nR = 0 := hOR.len.symm; have hAR := hA8.kept hKR (fun _ _ => id); have kv := dup_d hDR; simp only at kv)
                      | (go_at_call 54; (with_reducible refine kv.mono ?_); rintro e wU ⟨rfl, rfl⟩))
                    exact ⟨⟨k + 1, 0, _, _, b, _, _, _, Fa, by go_num, rfl, rfl, rfl, rfl, hDR, hAR, hFa, by omega⟩, by simp [intOf]; omega⟩
              · as_aux_lemma =>
                  obtain ⟨M, rfl⟩ := Int.eq_ofNat_of_zero_le hN
                  go_wp2_with (first | (go_at_call 50; (with_reducible refine kt.mono ?_); rintro e w7 ⟨rfl, hD7, hK7⟩))
                  have hB7 := hBa.kept hK7 (fun e => hgB (Eq.symm e))
                  have f1 := hB7.cell 1
                  simp at f1
                  have hA7 := hAa.kept hK7 hFa
                  have f1W := fun W (hK : Kept w7 W nix) => hK.cell f1 (fun h => h)
                  rw [show dTear ⟨R, b, t, torn, down⟩ (M : Int) = ⟨R, b, M, true, down⟩ by simp [dTear]] at hD7
                  have s0_0 : Kept w7 w7.drew nix := (Kept.refl _ _).drew
                  refine wp_region_held (S := fun W => Kept w7 W nix ∧ True) (by kernel_rfl) ?_
                  have HS : Kept w7 w7.drew nix ∧ True := ⟨s0_0, trivial⟩
                  show wpAnyH _ _ _ _ _ _ _ _ w7.drew
                  refine wpAnyH_take (i := 0) (oi := { dst := some 123, op := Op.fieldAddr 54 (Operand.tmp 12) 1, type := 0, pos := "law.go:80", after := #[{ on := 2, ground := Ground.gcOnly Departure.lateStores }], guard := none }) (v := ?_) rfl (by kernel_rfl) (by kernel_rfl) (by kernel_rfl) (fun _ _ _ h => h) (.inl ⟨by rfl, fun W hS => ?_⟩) HS ?_
                  rotate_left
                  · obtain ⟨t0, -⟩ := hS
                    go_simp
                    try with_reducible rfl
                  rotate_left
                  try simp only [Act.put, List.setIfInBounds_toArray, List.set_cons_zero, List.set_cons_succ]
                  refine wpAnyH_take (i := 1) (oi := { dst := some 124, op := Op.load 3 (Operand.tmp 123), type := 3, pos := "law.go:80", after := #[{ on := 0, ground := Ground.data }, { on := 2, ground := Ground.gcOnly Departure.lateStores }], guard := none }) (v := ?_) rfl (by kernel_rfl) (by kernel_rfl) (by kernel_rfl) (fun _ _ _ h => h) (.inl ⟨by rfl, fun W hS => ?_⟩) HS ?_
                  rotate_left
                  · obtain ⟨t0, -⟩ := hS
                    go_simp
                    try with_reducible rfl
                  rotate_left
                  try simp only [Act.put, List.setIfInBounds_toArray, List.set_cons_zero, List.set_cons_succ]
                  refine wpAnyH_take (i := 2) (oi := { dst := some 9, op := Op.assign (Operand.const (Value.bool true)), type := 4, pos := "law.go:80", after := #[{ on := 0, ground := Ground.textOnly Departure.lateStores }, { on := 1, ground := Ground.textOnly Departure.lateStores }], guard := none }) (v := ?_) rfl (by kernel_rfl) (by kernel_rfl) (by kernel_rfl) (fun _ _ _ h => h) (.inl ⟨by rfl, fun W hS => ?_⟩) HS ?_
                  rotate_left
                  · obtain ⟨t0, -⟩ := hS
                    go_simp
                    try with_reducible rfl
                  rotate_left
                  try simp only [Act.put, List.setIfInBounds_toArray, List.set_cons_zero, List.set_cons_succ]
                  refine wpAnyH_take (i := 3) (oi := { dst := some 10, op := Op.assign (Operand.tmp 124), type := 3, pos := "law.go:80", after := #[{ on := 1, ground := Ground.data }, { on := 2, ground := Ground.chain }, { on := 0, ground := Ground.phase }, { on := 1, ground := Ground.phase }, { on := 2, ground := Ground.phase }], guard := none }) (v := ?_) rfl (by kernel_rfl) (by kernel_rfl) (by kernel_rfl) (fun _ _ _ h => h) (.inl ⟨by rfl, fun W hS => ?_⟩) HS ?_
                  rotate_left
                  · obtain ⟨t0, -⟩ := hS
                    go_simp
                    try with_reducible rfl
                  rotate_left
                  try simp only [Act.put, List.setIfInBounds_toArray, List.set_cons_zero, List.set_cons_succ]
                  refine wpAnyH_done (by kernel_rfl) ?_ _
                  have hD8 := hD7.kept (Kept.refl _ _).drew
                  have hA8 := hA7.kept (Kept.refl w7 nix).drew (fun _ _ => id)
                  cases down
                  · skip
                    have kr := dread_d hD8
                    have ku := dup_d hD8
                    rw [show ∀ s, dRead s = if s.down then ([], 6) else (s.b, 0) from fun _ => rfl] at kr
                    simp only [if_true, if_false, Bool.false_eq_true] at kr
                    simp only at ku
                    go_wp2_with (first
                      | (go_at_call 48; (with_reducible refine kr.mono ?_); rintro e wR ⟨aR, nR, cR, rfl, hOR, hDR, hKR⟩; have rR := strBy hOR.sl; have hAR := hA8.kept hKR (fun _ _ => id); have rA := strBy hAR; have kv := dup_d hDR; simp only at kv)
                      | (go_at_call 54; (with_reducible refine kv.mono ?_); rintro e wU ⟨rfl, rfl⟩))
                    exact ⟨⟨k + 1, M, _, _, b, _, _, _, Fa, by go_num, rfl, rfl, rfl, rfl, hDR, hAR, hFa, by omega⟩, by simp [intOf]; omega⟩
                  · skip
                    have kr := dread_d hD8
                    have ku := dup_d hD8
                    rw [show ∀ s, dRead s = if s.down then ([], 6) else (s.b, 0) from fun _ => rfl] at kr
                    simp only [if_true, if_false, Bool.false_eq_true] at kr
                    simp only at ku
                    go_wp2_with (first
                      | (go_at_call 48; (with_reducible refine kr.mono ?_); rintro e wR ⟨aR, nR, cR, rfl, hOR, hDR, hKR⟩; obtain rfl : nR = 0 := hOR.len.symm; have hAR := hA8.kept hKR (fun _ _ => id); have kv := dup_d hDR; simp only at kv)
                      | (go_at_call 54; (with_reducible refine kv.mono ?_); rintro e wU ⟨rfl, rfl⟩))
                    exact ⟨⟨k + 1, M, _, _, b, _, _, _, Fa, by go_num, rfl, rfl, rfl, rfl, hDR, hAR, hFa, by omega⟩, by simp [intOf]; omega⟩
            · have W2 : (wh == 2) = false := by rw [Bool.eq_false_iff]; simpa using hw2
              have hgB : ¬ g = wr.heap.size := by omega
              by_cases hw3 : wh = 3
              · as_aux_lemma =>
                  subst hw3
                  have kt := dcrash_e hDa
                  clear hX0 hO0 hK0
                  go_wp2_with (first | (go_at_call 51; (with_reducible refine kt.mono ?_); rintro e w7 ⟨rfl, hD7, hK7⟩; have hA7 := hAa.kept hK7 hFa))
                  rw [show dCrash ⟨R, b, t, torn, down⟩ = ⟨R, b, t, torn, true⟩ from rfl] at hD7
                  have kr := dread_d hD7
                  have ku := dup_d hD7
                  rw [show ∀ s, dRead s = if s.down then ([], 6) else (s.b, 0) from fun _ => rfl] at kr
                  simp only [if_true, if_false, Bool.false_eq_true] at kr
                  simp only at ku
                  go_wp2_with (first
                    | (go_at_call 48; (with_reducible refine kr.mono ?_); rintro e wR ⟨aR, nR, cR, rfl, hOR, hDR, hKR⟩; obtain rfl : nR = 0 := hOR.len.symm; have hAR := hA7.kept hKR (fun _ _ => id); have kv := dup_d hDR; simp only at kv)
                    | (go_at_call 54; (with_reducible refine kv.mono ?_); rintro e wU ⟨rfl, rfl⟩))
                  exact ⟨⟨k + 1, t, _, _, b, _, _, _, Fa, by go_num, rfl, rfl, rfl, rfl, hDR, hAR, hFa, by omega⟩, by simp [intOf]; omega⟩
              · as_aux_lemma =>
                  have W3 : (wh == 3) = false := by rw [Bool.eq_false_iff]; simpa using hw3
                  have kt := dstart_e hDa
                  clear hX0 hO0 hK0
                  go_wp2_with (first | (go_at_call 52; (with_reducible refine kt.mono ?_); rintro e w7 ⟨rfl, hD7, hK7⟩; have hA7 := hAa.kept hK7 hFa))
                  rw [show dStart ⟨R, b, t, torn, down⟩ = ⟨R, b, t, false, false⟩ from rfl] at hD7
                  have kr := dread_d hD7
                  have ku := dup_d hD7
                  rw [show ∀ s, dRead s = if s.down then ([], 6) else (s.b, 0) from fun _ => rfl] at kr
                  simp only [if_true, if_false, Bool.false_eq_true] at kr
                  simp only at ku
                  go_wp2_with (first
                    | (go_at_call 48; (with_reducible refine kr.mono ?_); rintro e wR ⟨aR, nR, cR, rfl, hOR, hDR, hKR⟩; have rR := strBy hOR.sl; have hAR := hA7.kept hKR (fun _ _ => id); have rA := strBy hAR; have kv := dup_d hDR; simp only at kv)
                    | (go_at_call 54; (with_reducible refine kv.mono ?_); rintro e wU ⟨rfl, rfl⟩))
                  exact ⟨⟨k + 1, t, _, _, b, _, _, _, Fa, by go_num, rfl, rfl, rfl, rfl, hDR, hAR, hFa, by omega⟩, by simp [intOf]; omega⟩
    · go_wp2_with (first | (go_at_call 47; refine (awake8_c _).mono ?_; rintro e w2 ⟨rfl, hK2⟩))
      all_goals
        go_ret
        exact ⟨rfl, hD.k.n hK2⟩
end Go.Proofs.Ytlhlljjchggnjaa
