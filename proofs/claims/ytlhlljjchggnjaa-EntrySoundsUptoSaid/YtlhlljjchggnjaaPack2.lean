/- The walks of package pack, more: Count, Text, End of a reader; Text. -/
import Derived.Test.YtlhlljjchggnjaaPack
namespace Go.Proofs.Ytlhlljjchggnjaa
open Go.RowKit

set_option maxHeartbeats 400000 in
theorem rcount_c (w : World) (F : Nat → Prop) (g : Nat) (s : Rdr) (most : Int) (h : RdrAt w F g s) :
    Calls Try.prog 44 #[.pointer (some ⟨g, 0, none⟩), .int .i64 most] w fun e w' => e = .returned (.int .i64 (rCount most s).1) ∧ RdrAt w' F g (rCount most s).2 ∧ Kept w w' (one g) := by
  have hc := rnum_c w F g s h
  have hd : rCount most s = if (rNum s).1 < 0 ∨ (rNum s).1 > most then (0, rFail) else rNum s := rfl
  rw [hd]
  generalize rNum s = q at *
  clear hd
  obtain ⟨v, s1⟩ := q
  simp only at hc ⊢
  by_cases hb : v < 0 ∨ v > most
  · rw [if_pos hb]
    by_cases hn : v < 0
    · clear hb
      go_enter Try.func44, Try.ntmps44
      go_wp2_with (first | (go_at_call 41; refine hc.mono ?_; rintro e w1 ⟨rfl, hR1, hK1⟩) | (go_at_call 120; refine (fail_c _ F g s1 (by assumption)).mono ?_; rintro e w2 ⟨rfl, hR2, hK2⟩))
      go_ret
      exact ⟨rfl, ‹RdrAt _ F g rFail›, Kept.trans ‹Kept w _ (one g)› hK2 (fun _ _ h => h)⟩
    · have hn2 : most < v := by omega
      clear hb
      go_enter Try.func44, Try.ntmps44
      go_wp2_with (first | (go_at_call 41; refine hc.mono ?_; rintro e w1 ⟨rfl, hR1, hK1⟩) | (go_at_call 120; refine (fail_c _ F g s1 (by assumption)).mono ?_; rintro e w2 ⟨rfl, hR2, hK2⟩))
      go_ret
      exact ⟨rfl, ‹RdrAt _ F g rFail›, Kept.trans ‹Kept w _ (one g)› hK2 (fun _ _ h => h)⟩
  · rw [if_neg hb]
    have hn : ¬ v < 0 := fun h => hb (.inl h)
    have hn2 : ¬ most < v := fun h => hb (.inr h)
    clear hb
    go_enter Try.func44, Try.ntmps44
    go_wp2_with (first | (go_at_call 41; refine hc.mono ?_; rintro e w1 ⟨rfl, hR1, hK1⟩))
    go_ret
    exact ⟨rfl, hR1, hK1⟩

set_option maxHeartbeats 400000 in
theorem rend_c (w : World) (F : Nat → Prop) (g : Nat) (s : Rdr) (h : RdrAt w F g s) :
    Calls Try.prog 43 #[.pointer (some ⟨g, 0, none⟩)] w fun e w' => e = .returned (.bool (rEnd s)) ∧ w = w' := by
  obtain ⟨bs, bad⟩ := s
  obtain ⟨h1, a, c, Fb, h2, h3, h4⟩ := h
  have k0 := h2.cell 0
  have k1 := h2.cell 1
  simp at k0 k1
  have E : Hid (rEnd (bs, bad) = (!bad && bs.isEmpty)) := rfl
  cases bad
  · go_enter Try.func43, Try.ntmps43
    go_wp2
    go_ret
    rw [E.out]
    refine ⟨?_, rfl⟩
    cases bs <;> simp <;> omega
  · go_enter Try.func43, Try.ntmps43
    go_wp2
    go_ret
    rw [E.out]
    exact ⟨rfl, rfl⟩

/-- r.b = r.b[m:], whatever the address. -/
theorem rdr_cut2 {w : World} {F Fb : Nat → Prop} {g m n c : Nat} {a : Option Addr} {bs : List UInt8} {bad : Bool} (h1 : F g) (h2 : Blk w g #[.slice a n c, .bool bad]) (h3 : By.Sl w Fb a n c bs) (h4 : ∀ h, Fb h → F h ∧ h ≠ g)
    (hk : m ≤ n) (ad : Option Addr) (M C : Nat) (had : ad = if c = m then a else a.map (·.add m)) (hM : M = n - m) (hC : C = c - m) :
    RdrAt (w.setCell ⟨g, 0, none⟩ (.slice ad M C)) F g (bs.drop m, bad) := by
  subst hM; subst hC
  have h5 := h2.set 0 (.slice ad (n - m) (c - m))
  have hK := (Kept.refl w (one g)).set1 (g := g) (i := 0) (.slice ad (n - m) (c - m)) rfl
  have h6 := (h3.kept hK (fun h hh e => (h4 h hh).2 e)).cut m n c hk (Nat.le_refl _) h3.cap (Nat.le_refl _) 1 rfl
  have hl := h3.len
  subst hl
  rw [List.take_of_length_le (Nat.le_refl _), Nat.mul_one, ← had] at h6
  refine ⟨h1, ad, c - m, Fb, ?_, ?_, h4⟩
  · rw [List.length_drop]
    simpa using h5
  · rw [List.length_drop]
    exact h6

set_option maxHeartbeats 400000 in
theorem rtext_c (w : World) (F : Nat → Prop) (g : Nat) (s : Rdr) (h : RdrAt w F g s) (hF : ∀ k, F k → k < w.heap.size) (hb : s.1.length ≤ 140737488355328) :
    Calls Try.prog 42 #[.pointer (some ⟨g, 0, none⟩)] w fun e w' => ∃ a n c, e = .returned (.slice a n c) ∧ By.Own w' (new w w') a n c (rText s).1 ∧ RdrAt w' F g (rText s).2 ∧ Kept w w' (one g) := by
  have hc := rcount_c w F g s s.1.length h
  have hr := rCount_range s.1.length s (by omega)
  have hd : rText s = if (rCount s.1.length s).1 > (rCount s.1.length s).2.1.length then ([], rFail) else ((rCount s.1.length s).2.1.take (rCount s.1.length s).1.toNat, ((rCount s.1.length s).2.1.drop (rCount s.1.length s).1.toNat, (rCount s.1.length s).2.2)) := rfl
  rw [hd]
  clear hd
  generalize rCount s.1.length s = q at *
  obtain ⟨v, s1⟩ := q
  simp only at hc hr ⊢
  obtain ⟨hv0, hvn⟩ := hr
  obtain ⟨m, rfl⟩ := Int.eq_ofNat_of_zero_le hv0
  obtain ⟨h1, a, c, Fb, h2, h3, h4⟩ := h
  have k0 := h2.cell 0
  simp at k0
  by_cases hm : s1.1.length < m
  · rw [if_pos (by omega)]
    go_enter Try.func42, Try.ntmps42
    go_wp2_with (first | (go_at_call 44; refine hc.mono ?_; rintro e w1 ⟨rfl, hR1, hK1⟩; have hR1' := hR1; obtain ⟨p1, a1, c1, Fb1, p2, p3, p4⟩ := hR1'; have kk0 := p2.cell 0; simp at kk0) | (go_at_call 120; refine (fail_c _ F g s1 (by assumption)).mono ?_; rintro e w2 ⟨rfl, hR2, hK2⟩))
    go_ret
    exact ⟨none, 0, 0, rfl, Sh.Own.nil _ _ _, hR2, Kept.trans ‹Kept w _ (one g)› hK2 (fun _ _ h => h)⟩
  · rw [if_neg (by omega)]
    go_enter Try.func42, Try.ntmps42
    go_wp2_with (first | (go_at_call 44; refine hc.mono ?_; rintro e w1 ⟨rfl, hR1, hK1⟩; have hR1' := hR1; obtain ⟨p1, a1, c1, Fb1, p2, p3, p4⟩ := hR1'; have kk0 := p2.cell 0; have hcap := p3.cap; simp at kk0) | (go_at_call 118; refine (clone_c _ _ _ _ _ _ (p3.take m (by omega)) (by omega)).mono ?_; rintro e w2 ⟨a2, c2, rfl, hO2, hK2⟩; have hcap2 := hO2.cap) | (go_at_call 119; refine (clip_c _ _ _ _ hcap2).mono ?_; rintro e w3 ⟨rfl, rfl⟩; have q2 := p2.kept hK2 (fun h => h); have kq0 := q2.cell 0; have fq0 := q2.froz 0; simp at kq0))
    all_goals
      go_ret
      have hgw := hF g h1
      have hsz := hK1.size
      refine ⟨a2, m, m, rfl, ?_, rdr_cut2 p1 q2 (p3.kept hK2 (fun _ _ => id)) p4 (by omega) _ _ _ ?_ ?_ ?_, ?_⟩
      · refine Sh.Own.mono (F := new w1 w2) ((hO2.clip).kept ((Kept.refl w2 (one g)).set1 _ rfl) (fun k hk e => ?_)) (fun k hk => ⟨Nat.le_trans hsz hk.1, ?_⟩)
        · have e' : k = g := e
          have := hk.1
          omega
        · rw [size_setCell]
          exact hk.2
      · simp_all
      · omega
      · omega
      · exact ((hK1.trans (hK2.mono (fun _ _ h => h.elim)) (fun _ _ h => h)).set1 _ rfl)


set_option maxHeartbeats 400000 in
theorem text_c (w : World) (F F2 : Nat → Prop) (a a2 : Option Addr) (n c n2 c2 : Nat) (bs ss : List UInt8) (h : By.Sl w F a n c bs) (hs : By.Sl w F2 a2 n2 c2 ss) (hb : n + n2 ≤ 140737488350000) :
    Calls Try.prog 38 #[.slice a n c, .slice a2 n2 c2] w fun e w' => ∃ a' m, e = .returned (.slice a' m m) ∧ By.Own w' (new w w') a' m m (bs ++ textB ss) ∧ Kept w w' nix := by
  have hl := hs.len
  have hn := h.len
  have hx := num_c w F a n c bs (n2 : Int) h (by omega) (by omega) (by omega)
  have hnl := numB_len (n2 : Int)
  go_enter Try.func38, Try.ntmps38
  go_wp2_with (first | (go_at_call 36; refine hx.mono ?_; rintro e w1 ⟨a1, m1, rfl, hO1, hK1⟩; have hlen1 := hO1.len; have hs1 := hs.kept hK1 (fun _ _ => id)) | (at_builtin; refine wpList_app_plain rfl (.tmp 8) (.tmp 9) 22 5 rfl (.int .u8 0) 1 Try.underlying22 infoBy rfl (by omega) rfl rfl hO1 hs1 ?hd ?hb ?_))
  case hd =>
    intro hm g hg hg2
    have q1 := (hO1.blkF hg2).1.1
    have q2 := (hs.blkF hm hg).2
    omega
  case hb =>
    simp only [List.length_append] at hlen1
    omega
  intro a3 c3 w3 hO3 hK3 _
  have hcap := hO3.cap
  go_wp2_with (go_at_call 119; refine (clip_c _ _ _ _ hcap).mono ?_; rintro e w4 ⟨rfl, rfl⟩)
  go_ret
  refine ⟨a3, m1 + n2, by simp, ?_, hK1.trans hK3 (fun g hlt hg => ?_)⟩
  · have h5 := (hO3.mono (fun g hg => hg.elim (new_mono (Nat.le_refl _) hK3.size g) (new_mono hK1.size (Nat.le_refl _) g))).clip
    rw [textB, hl]
    simpa using h5
  · have := (hO1.blkF hg).1.1
    omega
end Go.Proofs.Ytlhlljjchggnjaa
