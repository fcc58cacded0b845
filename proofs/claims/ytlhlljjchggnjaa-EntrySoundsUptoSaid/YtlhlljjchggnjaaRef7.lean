/- The walks of the reference for entries and records: what is sound. -/
import Derived.Test.YtlhlljjchggnjaaEntry2
import Derived.Test.YtlhlljjchggnjaaRef4
namespace Go.Proofs.Ytlhlljjchggnjaa
open Go.RowKit

set_option maxHeartbeats 400000 in
theorem refin_c (w : World) (n lo hi : Int) : Calls Try.prog 127 #[.int .i64 n, .int .i64 lo, .int .i64 hi] w fun e w' => e = .returned (.bool (inB n lo hi)) ∧ w = w' := by
  by_cases h1 : lo ≤ n
  · go_enter Try.func127, Try.ntmps127
    go_wp2
    go_ret
    exact ⟨by simp [inB, h1], rfl⟩
  · have h2 : n < lo := by omega
    go_enter Try.func127, Try.ntmps127
    go_wp2
    go_ret
    exact ⟨ret_bool (by simp [inB]; omega), rfl⟩

set_option maxRecDepth 100000 in
set_option maxHeartbeats 1000000 in
theorem refentry_c (w : World) (e : Ent) (a : Option Addr) (n c : Nat) (hn : e.frag.length = n) : Calls Try.prog 62 #[entV e a n c] w fun r w' => r = .returned (.bool (entOk e)) ∧ Kept w w' nix := by
  have hk := alloc_kept w (.cells #[.int .i64 e.seq, .int .i64 e.client, .int .i64 e.num, .int .i64 e.op, strv e.key, .int .i64 e.size, .int .u32 e.sum, .slice a n c] 72)
  go_enter Try.func62, Try.ntmps62
  go_wp2_with (go_at_call 127; refine (refin_c _ _ _ _).mono ?_; rintro r w1 ⟨rfl, rfl⟩)
  all_goals
    go_ret
    refine ⟨ret_bool ?_, hk⟩
    subst hn
    rw [Bool.eq_iff_iff]
    simp [entOk, *]
    try omega

theorem all_take_succ {α : Type} (p : α → Bool) (l : List α) (k : Nat) (h : k < l.length) : (l.take (k + 1)).all p = ((l.take k).all p && p l[k]) := by
  rw [List.take_succ_eq_append_getElem h, List.all_append]
  simp
theorem all_false {α : Type} (p : α → Bool) (l : List α) (k : Nat) (h : k < l.length) (hp : p l[k] = false) : l.all p = false := by
  rw [Bool.eq_false_iff]
  intro h2
  rw [List.all_eq_true] at h2
  rw [h2 _ (List.getElem_mem h)] at hp
  cases hp

set_option maxRecDepth 100000 in
set_option maxHeartbeats 1000000 in
theorem refconf_c (w : World) (F : Nat → Prop) (x : Cnf) (a : Option Addr) (n c : Nat) (h : In.Sl w F a n c x.members) :
    Calls Try.prog 128 #[.agg #[.int .i64 x.epoch, .slice a n c]] w fun r w' => r = .returned (.bool (cnfOk x)) ∧ Kept w w' nix := by
  have hka := alloc_kept w (.cells #[.int .i64 x.epoch, .slice a n c] 58)
  have hm := h.max
  have L := hid h.len
  have hBa := Blk.new_ w #[.int .i64 x.epoch, .slice a n c] 58
  go_enter Try.func128, Try.ntmps128
  go_wp2_with fail
  go_loopw [3] (fun i wr => ∃ k : Nat, i = .int .i64 k ∧ k ≤ n ∧ Kept w wr nix ∧ Blk wr w.heap.size #[.int .i64 x.epoch, .slice a n c] ∧ (x.members.take k).all (inB · 0 15) = true) (fun i _ => n - (intOf i).toNat)
  case atStart => exact ⟨0, rfl, Nat.zero_le _, hka, hBa, rfl⟩
  case round =>
    clear hka hBa
    obtain ⟨k, rfl, hk, hKw, hB, hall⟩ := hrel
    have HA := hid hall
    clear hall
    have b0 := hB.cell 0
    have b1 := hB.cell 1
    simp at b0 b1
    by_cases hlt : k < n
    · have hkl : k < x.members.length := by have := L.out; omega
      obtain ⟨g, o, rfl, _, hgl, hc⟩ := plain_at h k _ (List.getElem?_eq_getElem hkl)
      have hc' := hKw.cell hc (fun h => h)
      have H1 := hid (all_take_succ (inB · 0 15) x.members k hkl)
      have H2 := hid (fun hp => all_false (inB · 0 15) x.members k hkl hp)
      generalize x.members[k] = y at *
      have ki := refin_c wr y 0 15
      cases hy : inB y 0 15
      all_goals
        rw [hy] at ki
        go_wp2_with (go_at_call 127; (with_reducible refine ki.mono ?_); rintro r w1 ⟨rfl, rfl⟩)
      · go_ret
        have h5 := H2.out hy
        exact ⟨ret_bool (by simp [cnfOk, h5]), hKw⟩
      · refine ⟨⟨k + 1, by go_num, by omega, hKw, hB, by rw [H1.out, HA.out, hy]; rfl⟩, by simp [intOf]; omega⟩
    · have : k = n := by omega
      subst this
      have h5 := HA.out
      rw [List.take_of_length_le (by have := L.out; omega)] at h5
      have H5 := hid h5
      clear h5
      go_wp2_with (go_at_call 127; refine (refin_c _ _ _ _).mono ?_; rintro r w1 ⟨rfl, rfl⟩)
      all_goals
        go_ret
        refine ⟨ret_bool ?_, hKw⟩
        have h5 := H5.out
        have l := L.out
        rw [Bool.eq_iff_iff]
        simp only [cnfOk, h5, Bool.and_true]
        simp [*]
        try omega

set_option maxRecDepth 100000 in
set_option maxHeartbeats 2000000 in
theorem refentries_c (w : World) (F : Nat → Prop) (a : Option Addr) (n c : Nat) (xs : List Ent) (h : ShEnt.Sl w F a n c xs) :
    Calls Try.prog 129 #[.slice a n c] w fun r w' => r = .returned (.bool (decide (xs.length ≤ 4096) && xs.all entOk)) ∧ Kept w w' nix := by
  have hm := h.max
  have L := hid h.len
  by_cases hbig : 4096 < n
  · go_enter Try.func129, Try.ntmps129
    go_wp2_with fail
    go_ret
    exact ⟨ret_bool (by have := L.out; simp; omega), Kept.refl _ _⟩
  · have HL := hid (show decide (xs.length ≤ 4096) = true by have := L.out; simp; omega)
    rw [HL.out]
    go_enter Try.func129, Try.ntmps129
    go_wp2_with fail
    go_loopw [3] (fun i wr => ∃ k : Nat, i = .int .i64 k ∧ k ≤ n ∧ Kept w wr nix ∧ (xs.take k).all entOk = true) (fun i _ => n - (intOf i).toNat)
    case atStart => exact ⟨0, rfl, Nat.zero_le _, Kept.refl _ _, rfl⟩
    case round =>
      obtain ⟨k, rfl, hk, hKw, hall⟩ := hrel
      have HA := hid hall
      clear hall
      by_cases hlt : k < n
      · have hkl : k < xs.length := by have := L.out; omega
        obtain ⟨g, o, ai, ni, ci, rfl, _, hgl, hc, hX, _⟩ := ent_at h k hkl
        obtain ⟨c0, c1, c2, c3, c4, c5, c6, c7⟩ := cells8 hKw hc
        clear hc
        have H1 := hid (all_take_succ entOk xs k hkl)
        have H2 := hid (fun hp => all_false entOk xs k hkl hp)
        generalize xs[k] = y at *
        have ki := refentry_c wr y ai ni ci hX.len
        cases hy : entOk y
        all_goals
          rw [hy] at ki
          go_wp2_with (go_at_call 62; (with_reducible refine ki.mono ?_); rintro r w1 ⟨rfl, hK1⟩)
        · go_ret
          have h5 := H2.out hy
          exact ⟨ret_bool (by simp [h5]), hKw.n hK1⟩
        · refine ⟨⟨k + 1, by go_num, by omega, hKw.n hK1, by rw [H1.out, HA.out, hy]; rfl⟩, by simp [intOf]; omega⟩
      · have : k = n := by omega
        subst this
        have h5 := HA.out
        rw [List.take_of_length_le (by have := L.out; omega)] at h5
        have H5 := hid h5
        clear h5
        go_wp2_with fail
        go_ret
        exact ⟨ret_bool (by simp [H5.out]), hKw⟩

set_option maxRecDepth 100000 in
set_option maxHeartbeats 2000000 in
theorem refrec_c (w : World) (F F2 : Nat → Prop) (r : Rc) (a : Option Addr) (n c : Nat) (a2 : Option Addr) (n2 c2 : Nat) (h : In.Sl w F a n c r.conf.members) (h2 : ShEnt.Sl w F2 a2 n2 c2 r.entries) :
    Calls Try.prog 57 #[rcV r a n c a2 n2 c2] w fun e w' => e = .returned (.bool (recOk r)) ∧ Kept w w' nix := by
  have hk := alloc_kept w (.cells #[.int .i64 r.kind, .int .i64 r.conf.epoch, .slice a n c, .int .i64 r.pos, .int .i64 r.last, .slice a2 n2 c2] 61)
  have hm := refconf_c _ F r.conf a n c (h.kept hk (fun _ _ => id))
  have HR := hid (show recOk r = (inB r.kind 1 4 && cnfOk r.conf && inB r.pos 0 15 && inB r.last 0 1099511627776 && (decide (r.entries.length ≤ 4096) && r.entries.all entOk)) by simp only [recOk, Bool.and_assoc])
  rw [HR.out]
  go_enter Try.func57, Try.ntmps57
  go_wp2_with (first
    | (go_at_call 127; refine (refin_c _ _ _ _).mono ?_; rintro r1 w1 ⟨rfl, rfl⟩)
    | (go_at_call 128; (with_reducible refine hm.mono ?_); rintro r1 w2 ⟨rfl, hK2⟩; have hkK := hk.n hK2; have hh := refentries_c _ F2 a2 n2 c2 _ (h2.kept hkK (fun _ _ => id)); have hB2 := (Blk.new_ w #[.int .i64 r.kind, .int .i64 r.conf.epoch, .slice a n c, .int .i64 r.pos, .int .i64 r.last, .slice a2 n2 c2] 61).kept hK2 (fun h => h); have q2 := hB2.cell 3; have q3 := hB2.cell 4; have q4 := hB2.cell 5; simp at q2 q3 q4)
    | (go_at_call 129; (with_reducible refine hh.mono ?_); rintro r1 w3 ⟨rfl, hK3⟩))
  all_goals
    go_ret
    refine ⟨ret_bool ?_, by first | exact hk | exact hkK | exact hkK.n hK3⟩
    simp [*]
end Go.Proofs.Ytlhlljjchggnjaa
