/- The walks of package entry: records that are sound. -/
import Derived.Test.YtlhlljjchggnjaaEntry
namespace Go.Proofs.Ytlhlljjchggnjaa
open Go.RowKit

/-- Element k of a slice of entries: its cells. -/
theorem ent_at {w : World} {F : Nat → Prop} {a : Option Addr} {n c : Nat} {xs : List Ent} (h : ShEnt.Sl w F a n c xs) (i : Nat) (hi : i < xs.length) :
    ∃ g o ai ni ci, a = some ⟨g, o, none⟩ ∧ F g ∧ g < w.heap.size ∧ (w.cell? ⟨g, o + i * 8, none⟩ = some (.int .i64 xs[i].seq) ∧ w.cell? ⟨g, o + i * 8 + 1, none⟩ = some (.int .i64 xs[i].client) ∧ w.cell? ⟨g, o + i * 8 + 2, none⟩ = some (.int .i64 xs[i].num) ∧ w.cell? ⟨g, o + i * 8 + 3, none⟩ = some (.int .i64 xs[i].op) ∧
      w.cell? ⟨g, o + i * 8 + 4, none⟩ = some (strv xs[i].key) ∧ w.cell? ⟨g, o + i * 8 + 5, none⟩ = some (.int .i64 xs[i].size) ∧ w.cell? ⟨g, o + i * 8 + 6, none⟩ = some (.int .u32 xs[i].sum) ∧ w.cell? ⟨g, o + i * 8 + 7, none⟩ = some (.slice ai ni ci)) ∧ By.Sl w F ai ni ci xs[i].frag ∧ ni ≤ maxB ∧ xs[i].key.length ≤ maxB ∧ xs[i].Wf := by
  obtain ⟨g, o, cs, e, hF, hlt, ⟨ai, ni, ci, hcs, hS, hB, h1, h2⟩, hc⟩ := h.elem i _ (List.getElem?_eq_getElem hi)
  subst hcs
  exact ⟨g, o, ai, ni, ci, e, hF, hlt, ⟨hc 0 _ rfl, hc 1 _ rfl, hc 2 _ rfl, hc 3 _ rfl, hc 4 _ rfl, hc 5 _ rfl, hc 6 _ rfl, hc 7 _ rfl⟩, hS, hB, h1, h2⟩
/-- The same in a later world. -/
theorem cells8 {w w' : World} {g o : Nat} {v0 v1 v2 v3 v4 v5 v6 v7 : Value} (hK : Kept w w' nix) (h : w.cell? ⟨g, o, none⟩ = some v0 ∧ w.cell? ⟨g, o + 1, none⟩ = some v1 ∧ w.cell? ⟨g, o + 2, none⟩ = some v2 ∧ w.cell? ⟨g, o + 3, none⟩ = some v3 ∧ w.cell? ⟨g, o + 4, none⟩ = some v4 ∧ w.cell? ⟨g, o + 5, none⟩ = some v5 ∧ w.cell? ⟨g, o + 6, none⟩ = some v6 ∧ w.cell? ⟨g, o + 7, none⟩ = some v7) :
    w'.cell? ⟨g, o, none⟩ = some v0 ∧ w'.cell? ⟨g, o + 1, none⟩ = some v1 ∧ w'.cell? ⟨g, o + 2, none⟩ = some v2 ∧ w'.cell? ⟨g, o + 3, none⟩ = some v3 ∧ w'.cell? ⟨g, o + 4, none⟩ = some v4 ∧ w'.cell? ⟨g, o + 5, none⟩ = some v5 ∧ w'.cell? ⟨g, o + 6, none⟩ = some v6 ∧ w'.cell? ⟨g, o + 7, none⟩ = some v7 :=
  ⟨hK.cell h.1 id, hK.cell h.2.1 id, hK.cell h.2.2.1 id, hK.cell h.2.2.2.1 id, hK.cell h.2.2.2.2.1 id, hK.cell h.2.2.2.2.2.1 id, hK.cell h.2.2.2.2.2.2.1 id, hK.cell h.2.2.2.2.2.2.2 id⟩

set_option maxRecDepth 100000 in
set_option maxHeartbeats 1000000 in
theorem soundbad_c (w : World) (e : Ent) (a : Option Addr) (n c : Nat) (hn : e.frag.length = n) : Calls Try.prog 168 #[entV e a n c] w fun r w' => r = .returned (.bool (!entOk e)) ∧ Kept w w' nix := by
  have hk := alloc_kept w (.cells #[.int .i64 e.seq, .int .i64 e.client, .int .i64 e.num, .int .i64 e.op, strv e.key, .int .i64 e.size, .int .u32 e.sum, .slice a n c] 72)
  have HN := hid hn
  clear hn
  go_enter Try.func168, Try.ntmps168
  go_wp2_with (go_at_call 61; refine (esound_c _ e a n c HN.out).mono ?_; rintro r w1 ⟨rfl, hK1⟩)
  go_ret
  exact ⟨rfl, hk.n hK1⟩

set_option maxRecDepth 100000 in
set_option maxHeartbeats 1000000 in
theorem soundIx (p : Ent → Bool) (hf : ∀ (w : World) (e : Ent) (a : Option Addr) (n c : Nat), e.frag.length = n → Calls Try.prog 168 #[entV e a n c] w fun r w' => r = .returned (.bool (p e)) ∧ Kept w w' nix)
    (w : World) (F : Nat → Prop) (a : Option Addr) (n c : Nat) (xs : List Ent) (h : ShEnt.Sl w F a n c xs) :
    Calls Try.prog 160 #[.slice a n c, .func (.func 168) #[] #[]] w fun e w' => (∃ i : Int, e = .returned (.int .i64 i) ∧ IxOf p xs i) ∧ Kept w w' nix := by
  have hm := h.max
  have L := hid h.len
  go_enter Try.func160, Try.ntmps160
  go_wp2_with fail
  go_loopw [8] (fun i wr => ∃ k : Nat, i = .int .i64 k ∧ k ≤ n ∧ Kept w wr nix ∧ (xs.take k).any p = false) (fun i _ => n - (intOf i).toNat)
  case atStart => exact ⟨0, rfl, Nat.zero_le _, Kept.refl _ _, rfl⟩
  case round =>
    obtain ⟨k, rfl, hk, hK, hno⟩ := hrel
    have HN := hid hno
    clear hno
    by_cases hlt : k < n
    · have hkl : k < xs.length := by have := L.out; omega
      obtain ⟨g, o, ai, ni, ci, rfl, _, hgl, hc, hX, _⟩ := ent_at h k hkl
      obtain ⟨c0, c1, c2, c3, c4, c5, c6, c7⟩ := cells8 hK hc
      clear hc
      have HL := hid hX.len
      have H1 := hid (fun h1 => IxOf.some_ (p := p) hkl h1 HN.out)
      have H2 := hid (fun h1 => not_any_take p xs k hkl HN.out h1)
      generalize xs[k] = x at *
      have hfx := fun W => hf W x ai ni ci HL.out
      clear hf
      cases hpx : p x
      all_goals
        simp only [hpx] at hfx
        go_wp2_with (go_at_call 168; (with_reducible refine (hfx _).mono ?_); rintro e w2 ⟨rfl, hK2⟩)
      · refine ⟨⟨k + 1, by go_num, by omega, hK.n hK2, H2.out hpx⟩, by simp [intOf]; omega⟩
      · go_ret
        exact ⟨⟨_, rfl, H1.out hpx⟩, hK.n hK2⟩
    · have : k = n := by omega
      subst this
      have HE := HN.out
      rw [List.take_of_length_le (by have := L.out; omega)] at HE
      have HE2 := hid HE
      clear HE
      go_wp2_with fail
      go_ret
      exact ⟨⟨_, rfl, IxOf.none_ HE2.out⟩, hK⟩
set_option maxRecDepth 100000 in
theorem soundHas (p : Ent → Bool) (hf : ∀ (w : World) (e : Ent) (a : Option Addr) (n c : Nat), e.frag.length = n → Calls Try.prog 168 #[entV e a n c] w fun r w' => r = .returned (.bool (p e)) ∧ Kept w w' nix)
    (w : World) (F : Nat → Prop) (a : Option Addr) (n c : Nat) (xs : List Ent) (h : ShEnt.Sl w F a n c xs) :
    Calls Try.prog 146 #[.slice a n c, .func (.func 168) #[] #[]] w fun e w' => e = .returned (.bool (xs.any p)) ∧ Kept w w' nix := by
  have hx := soundIx p hf w F a n c xs h
  go_enter Try.func146, Try.ntmps146
  go_wp2_with (go_at_call 160; (with_reducible refine hx.mono ?_); rintro e w2 ⟨⟨i, rfl, hI⟩, hK2⟩)
  go_ret
  exact ⟨ret_bool hI.any, hK2⟩

/-- A record by value. -/
abbrev rcV (r : Rc) (a : Option Addr) (n c : Nat) (a2 : Option Addr) (n2 c2 : Nat) : Value := .agg #[.int .i64 r.kind, .int .i64 r.conf.epoch, .slice a n c, .int .i64 r.pos, .int .i64 r.last, .slice a2 n2 c2]

set_option maxRecDepth 100000 in
set_option maxHeartbeats 2000000 in
theorem rsound_c (w : World) (F F2 : Nat → Prop) (r : Rc) (a : Option Addr) (n c : Nat) (a2 : Option Addr) (n2 c2 : Nat) (h : In.Sl w F a n c r.conf.members) (h2 : ShEnt.Sl w F2 a2 n2 c2 r.entries) :
    Calls Try.prog 125 #[rcV r a n c a2 n2 c2] w fun e w' => e = .returned (.bool (recOk r)) ∧ Kept w w' nix := by
  have hk := alloc_kept w (.cells #[.int .i64 r.kind, .int .i64 r.conf.epoch, .slice a n c, .int .i64 r.pos, .int .i64 r.last, .slice a2 n2 c2] 61)
  have hm := econf_c _ F r.conf a n c (h.kept hk (fun _ _ => id))
  have L := hid h.len
  have L2 := hid h2.len
  go_enter Try.func125, Try.ntmps125
  go_wp2_with (first
    | (go_at_call 133; refine (within_c _ _ _ _).mono ?_; rintro r1 w1 ⟨rfl, rfl⟩)
    | (go_at_call 169; (with_reducible refine hm.mono ?_); rintro r1 w2 ⟨rfl, hK2⟩; have hkK := hk.n hK2; have hh := soundHas (fun e => !entOk e) soundbad_c _ F2 a2 n2 c2 _ (h2.kept hkK (fun _ _ => id)); rw [any_not_all] at hh; have hB2 := (Blk.new_ w #[.int .i64 r.kind, .int .i64 r.conf.epoch, .slice a n c, .int .i64 r.pos, .int .i64 r.last, .slice a2 n2 c2] 61).kept hK2 (fun h => h); have q2 := hB2.cell 3; have q3 := hB2.cell 4; have q4 := hB2.cell 5; simp at q2 q3 q4)
    | (go_at_call 146; (with_reducible refine hh.mono ?_); rintro r1 w3 ⟨rfl, hK3⟩))
  all_goals
    go_ret
    refine ⟨ret_bool ?_, by first | exact hk | exact hkK | exact hkK.n hK3⟩
    have l := L.out
    have l2 := L2.out
    rw [Bool.eq_iff_iff]
    simp [recOk, *]
    try omega
end Go.Proofs.Ytlhlljjchggnjaa
