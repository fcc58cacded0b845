/- The walks of package pack and of the library's functions on bytes that it calls. -/
import Derived.Test.YtlhlljjchggnjaaProg
import Derived.Test.YtlhlljjchggnjaaBase2
import Derived.Test.YtlhlljjchggnjaaMath
namespace Go.Proofs.Ytlhlljjchggnjaa
open Go.RowKit

theorem infoBy : (Try.prog.info? 5).map (fun i => (i.zero, i.size, i.bytes)) = some (some (.int .u8 0), 1, 1) := by kernel_rfl
theorem eqNilBy (w : World) (a : Option Addr) (n c : Nat) : (binOp .eql 22 (.slice a n c) (.slice none 0 0)).run Try.prog w = .ok (.bool a.isNone) w := Lib.run_eql_slice_nil w 22 5 a n c 0 0 Try.underlying22

theorem own_empty (w : World) (e : TypeId) : By.Own (w.alloc (.cells #[] e)) (new w (w.alloc (.cells #[] e))) (some ⟨w.heap.size, 0, none⟩) 0 0 [] :=
  ⟨rfl, Nat.le_refl _, by omega, .inr ⟨w.heap.size, 0, [], rfl, ⟨Nat.le_refl _, by simp⟩, by simp, fun j hj => absurd hj (by simp), Sh.Rs.nil, by simp⟩⟩

set_option maxHeartbeats 400000 in
theorem clone_c (w : World) (F : Nat → Prop) (a : Option Addr) (n c : Nat) (bs : List UInt8) (h : By.Sl w F a n c bs) (hb : n ≤ 140737488355328) :
    Calls Try.prog 118 #[.slice a n c] w fun e w' => ∃ a' c', e = .returned (.slice a' n c') ∧ By.Own w' (new w w') a' n c' bs ∧ Kept w w' nix := by
  have hq := eqNilBy
  cases a with
  | none =>
    have h0 := h.2.2.2.1 rfl
    obtain rfl : n = 0 := by have := h.cap; omega
    subst h0
    obtain rfl := List.eq_nil_of_length_eq_zero h.len
    go_enter Try.func118, Try.ntmps118
    go_wp2
    go_ret
    exact ⟨_, _, rfl, Sh.Own.nil _ _ _, Kept.refl _ _⟩
  | some ad =>
    have hown := own_empty w 5
    have hk := (Kept.refl w nix).alloc (.cells #[] 5)
    have hsrc := h.kept hk (fun _ _ => id)
    go_enter Try.func118, Try.ntmps118
    go_wp2_with (at_builtin; refine wpList_app_plain rfl (.tmp 5) (.tmp 6) 22 5 rfl (.int .u8 0) 1 Try.underlying22 infoBy rfl (by omega) rfl rfl hown hsrc ?_ ?_ ?_)
    · intro hm g hg hg2
      have h1 := (h.blkF hm hg).2
      have h2 := hown.blkF hg2
      have h3 : w.heap.size ≤ g := h2.1.1
      omega
    · omega
    · intro a' c' w' h1 h2 h3
      go_wp2
      go_ret
      refine ⟨a', c', by simp, ?_, hk.trans h2 (fun g hg hb => ?_)⟩
      · refine plain_own (by simpa using h1) (fun g _ hg => ?_)
        have hs := h2.size
        rcases hg with hg | hg
        · exact ⟨hg.1, Nat.lt_of_lt_of_le hg.2 hs⟩
        · exact ⟨Nat.le_trans (by simp) hg.1, hg.2⟩
      · have := (hown.blkF hb).1.1
        omega

set_option maxHeartbeats 400000 in
theorem clip_c (w : World) (a : Option Addr) (n c : Nat) (h : n ≤ c) :
    Calls Try.prog 119 #[.slice a n c] w fun e w' => e = .returned (.slice a n n) ∧ w = w' := by
  go_enter Try.func119, Try.ntmps119
  go_wp2
  go_ret
  exact ⟨rfl, rfl⟩

set_option maxHeartbeats 400000 in
theorem num_c (w : World) (F : Nat → Prop) (a : Option Addr) (n c : Nat) (bs : List UInt8) (x : Int) (h : By.Sl w F a n c bs) (hb : n ≤ 140737488350000) (hx : -9223372036854775808 ≤ x) (hx2 : x ≤ 9223372036854775807) :
    Calls Try.prog 36 #[.slice a n c, .int .i64 x] w fun e w' => ∃ a' m, e = .returned (.slice a' m m) ∧ By.Own w' (new w w') a' m m (bs ++ numB x) ∧ Kept w w' nix := by
  have hz := zz_bits x hx hx2
  have hzl := zz_lt x hx hx2
  have hl10 := numB_len x
  go_enter Try.func36, Try.ntmps36
  go_wp2_with (go_at_call 118; refine (clone_c _ F _ _ _ bs h (by omega)).mono ?_; rintro e w1 ⟨a1, c1, rfl, hO1, hK1⟩)
  go_loopw [5, 6] (fun s u wr => ∃ (k m : Nat) (pre : List UInt8) (uu : Nat) (a2 : Option Addr) (c2 : Nat), s = .slice a2 m c2 ∧ u = .int .u64 uu ∧ By.Own wr (new w wr) a2 m c2 (bs ++ pre) ∧ Kept w wr nix ∧ pre ++ enc7 k uu = numB x ∧ uu < 18446744073709551616 ∧ uu < 128 ^ (k + 1)) (fun _ u _ => (intOf u).toNat)
  case atStart =>
    exact ⟨9, _, [], zz x, a1, c1, rfl, rfl, by simpa using hO1, hK1, by simp [numB], hzl, by omega⟩
  case round =>
    obtain ⟨k, m, pre, uu, a2, c2, rfl, rfl, hO, hK, hpre, hu, hk⟩ := hrel
    have hm : m ≤ 140737488350010 := by
      have h1 := hO.len
      have h2 := congrArg List.length hpre
      have h3 := enc7_pos k uu
      have h4 := h.len
      simp only [List.length_append] at h1 h2
      omega
    have hfresh : ∀ w3 : World, wr.heap.size ≤ w3.heap.size → ∀ g, new w wr g ∨ new wr w3 g → new w w3 g := fun w3 hsz g hg => hg.elim (fun hg => ⟨hg.1, Nat.lt_of_lt_of_le hg.2 hsz⟩) (fun hg => ⟨Nat.le_trans hK.size hg.1, hg.2⟩)
    have hkeep : ∀ (w3 : World), Kept wr w3 (blk a2) → Kept w w3 nix := fun w3 hK3 => hK.trans hK3 (fun g hlt hb => by have := (hO.blkF hb).1.1; omega)
    by_cases h7 : 127 < uu
    · have hmb := more_bits uu
      go_wp2_with (at_builtin; refine wpList_push_plain rfl (.tmp 20) (.tmp 24) 22 5 rfl (.int .u8 0) 1 Try.underlying22 infoBy rfl (by omega) rfl rfl (UInt8.ofNat (uu % 128 + 128)) _ ?hv hO (by omega) ?_)
      case hv =>
        show Value.int .u8 _ = Value.int .u8 _
        congr 1
        rw [UInt8.toNat_ofNat', Nat.mod_eq_of_lt (by omega)]
        omega
      intro a3 c3 w3 hO3 hK3 _
      go_wp2
      cases k with
      | zero => omega
      | succ k =>
        rw [enc7_big _ _ (by omega)] at hpre
        refine ⟨⟨k, m + 1, pre ++ [UInt8.ofNat (uu % 128 + 128)], uu / 128, a3, c3, rfl, by simp, ?_, hkeep _ hK3, by rw [← hpre]; simp, by omega, ?_⟩, by simp [intOf]; omega⟩
        · simpa using hO3.mono (hfresh _ hK3.size)
        · rw [Nat.pow_succ] at hk
          omega
    · rw [enc7_small _ _ (by omega)] at hpre
      have hw : IntKind.u8.wrap (uu : Int) = (((UInt8.ofNat uu).toNat : Nat) : Int) := by rw [IntKind.wrap_u8, UInt8.toNat_ofNat', Nat.mod_eq_of_lt (by omega)]; omega
      go_wp2_with (first | (at_builtin; refine wpList_push_plain rfl (.tmp 26) (.tmp 29) 22 5 rfl (.int .u8 0) 1 Try.underlying22 infoBy rfl (by omega) rfl rfl (UInt8.ofNat uu) _ ?hv hO (by omega) ?_) | (go_at_call 119; refine (clip_c _ _ _ _ ‹_›).mono ?_; rintro e w4 ⟨rfl, rfl⟩))
      case hv =>
        show Value.int .u8 _ = Value.int .u8 _
        congr 1
      intro a3 c3 w3 hO3 hK3 _
      have hcap := hO3.cap
      go_wp2_with (go_at_call 119; refine (clip_c _ _ _ _ hcap).mono ?_; rintro e w4 ⟨rfl, rfl⟩)
      go_ret
      refine ⟨a3, m + 1, by simp, ?_, hkeep _ hK3⟩
      simpa using (hO3.mono (hfresh _ hK3.size)).clip

/-- A reader in memory: its own block g; what is left to read lies elsewhere. -/
def RdrAt (w : World) (F : Nat → Prop) (g : Nat) (s : Rdr) : Prop :=
  F g ∧ ∃ a c Fb, Blk w g #[.slice a s.1.length c, .bool s.2] ∧ By.Sl w Fb a s.1.length c s.1 ∧ ∀ h, Fb h → F h ∧ h ≠ g
theorem RdrAt.mono {w : World} {F G : Nat → Prop} {g : Nat} {s : Rdr} (h : RdrAt w F g s) (hm : ∀ k, F k → G k) : RdrAt w G g s := by
  obtain ⟨h1, a, c, Fb, h2, h3, h4⟩ := h
  exact ⟨hm g h1, a, c, Fb, h2, h3, fun k hk => ⟨hm k (h4 k hk).1, (h4 k hk).2⟩⟩
theorem RdrAt.kept {w w' : World} {F S : Nat → Prop} {g : Nat} {s : Rdr} (h : RdrAt w F g s) (hk : Kept w w' S) (hd : ∀ k, F k → ¬ S k) : RdrAt w' F g s := by
  obtain ⟨h1, a, c, Fb, h2, h3, h4⟩ := h
  exact ⟨h1, a, c, Fb, h2.kept hk (hd g h1), h3.kept hk (fun k hk => hd k (h4 k hk).1), h4⟩
theorem RdrAt.bound {w : World} {F : Nat → Prop} {g : Nat} {s : Rdr} (h : RdrAt w F g s) : RdrAt w (fun k => F k ∧ k < w.heap.size) g s := by
  obtain ⟨h1, a, c, Fb, h2, h3, h4⟩ := h
  exact ⟨⟨h1, h2.lt⟩, a, c, _, h2, h3.bound, fun k hk => ⟨⟨(h4 k hk.1).1, hk.2⟩, (h4 k hk.1).2⟩⟩

set_option maxHeartbeats 400000 in
theorem new_c (w : World) (F : Nat → Prop) (a : Option Addr) (n c : Nat) (bs : List UInt8) (h : By.Sl w F a n c bs) (hb : n ≤ 140737488355328) :
    Calls Try.prog 40 #[.slice a n c] w fun e w' => ∃ g, e = .returned (.pointer (some ⟨g, 0, none⟩)) ∧ RdrAt w' (new w w') g (bs, false) ∧ Kept w w' nix := by
  go_enter Try.func40, Try.ntmps40
  go_wp2_with (go_at_call 118; refine (clone_c _ F _ _ _ bs h hb).mono ?_; rintro e w1 ⟨a1, c1, rfl, hO1, hK1⟩)
  go_ret
  have hl := hO1.len
  subst hl
  refine ⟨w1.heap.size, rfl, ⟨⟨hK1.size, by simp⟩, a1, c1, new w w1, Blk.new_ _ _ _, ?_, fun k hk => ⟨⟨hk.1, Nat.lt_of_lt_of_le hk.2 (by simp)⟩, fun e => ?_⟩⟩, hK1.alloc _⟩
  · exact hO1.sl.kept ((Kept.refl w1 nix).alloc _) (fun _ _ => id)
  · have := hk.2; omega

set_option maxHeartbeats 400000 in
theorem fail_c (w : World) (F : Nat → Prop) (g : Nat) (s : Rdr) (h : RdrAt w F g s) :
    Calls Try.prog 120 #[.pointer (some ⟨g, 0, none⟩)] w fun e w' => e = .returned (.int .i64 0) ∧ RdrAt w' F g rFail ∧ Kept w w' (one g) := by
  obtain ⟨h1, a, c, Fb, h2, h3, h4⟩ := h
  have k0 := h2.cell 0
  have k1 := h2.cell 1
  have f0 := h2.froz 0
  have f1 := h2.froz 1
  simp at k0 k1
  go_enter Try.func120, Try.ntmps120
  go_wp2
  go_ret
  refine ⟨rfl, ⟨h1, none, 0, nix, ?_, Sh.Sl.nil _ _ _, fun _ => False.elim⟩, ((Kept.refl w (one g)).set1 _ rfl).set1 _ rfl⟩
  have h5 := (h2.set 1 (.bool true)).set 0 (.slice none 0 0)
  simpa [rFail] using h5

/-- The reader goes on behind k bytes. -/
theorem rdr_cut {w : World} {F Fb : Nat → Prop} {g gb ob c k : Nat} {bs : List UInt8} {bad : Bool} (h1 : F g) (h2 : Blk w g #[.slice (some ⟨gb, ob, none⟩) bs.length c, .bool bad]) (h3 : By.Sl w Fb (some ⟨gb, ob, none⟩) bs.length c bs) (h4 : ∀ h, Fb h → F h ∧ h ≠ g)
    (hk : k ≤ bs.length) (ad : Addr) (had : ad = if c = k then ⟨gb, ob, none⟩ else ⟨gb, ob + k, none⟩) :
    RdrAt (w.setCell ⟨g, 0, none⟩ (.slice (some ad) (bs.length - k) (c - k))) F g (bs.drop k, bad) := by
  have h5 := h2.set 0 (.slice (some ad) (bs.length - k) (c - k))
  have hK := (Kept.refl w (one g)).set1 (g := g) (i := 0) (.slice (some ad) (bs.length - k) (c - k)) rfl
  have h6 := (h3.kept hK (fun h hh e => (h4 h hh).2 e)).cut k bs.length c hk (Nat.le_refl _) h3.cap (Nat.le_refl _) 1 rfl
  refine ⟨h1, some ad, c - k, Fb, ?_, ?_, h4⟩
  · rw [List.length_drop]
    simpa using h5
  · rw [List.length_drop]
    rw [List.take_of_length_le (Nat.le_refl _)] at h6
    have e : (if c = k then some (⟨gb, ob, none⟩ : Addr) else (some (⟨gb, ob, none⟩ : Addr)).map (·.add (k * 1))) = some ad := by
      rw [had]
      split
      · rfl
      · rw [Option.map_some, Addr.add_lit, Nat.mul_one]
    rw [e] at h6
    exact h6

set_option maxRecDepth 100000 in
set_option maxHeartbeats 1000000 in
theorem rnum_c (w : World) (F : Nat → Prop) (g : Nat) (s : Rdr) (h : RdrAt w F g s) :
    Calls Try.prog 41 #[.pointer (some ⟨g, 0, none⟩)] w fun e w' => e = .returned (.int .i64 (rNum s).1) ∧ RdrAt w' F g (rNum s).2 ∧ Kept w w' (one g) := by
  have hR := h
  obtain ⟨bs, bad⟩ := s
  obtain ⟨h1, a, c, Fb, h2, h3, h4⟩ := h
  have k0 := h2.cell 0
  have k1 := h2.cell 1
  have f0 := h2.froz 0
  have f1 := h2.froz 1
  simp at k0 k1
  have hmax := h3.max
  go_enter Try.func41, Try.ntmps41
  go_wp2
  go_loop [3, 4] (fun u n => ∃ (k uu : Nat), u = .int .u64 uu ∧ n = .int .i64 k ∧ rdU k uu (bs.drop k) = rdU 0 0 bs ∧ k ≤ 9 ∧ k ≤ bs.length ∧ uu < 128 ^ k) (fun _ n => 10 - (intOf n).toNat)
  case atStart => exact ⟨0, 0, rfl, rfl, by simp, by omega, by omega, by omega⟩
  case round =>
    obtain ⟨k, uu, rfl, rfl, hr, hk9, hkl, hu⟩ := hrel
    by_cases hge : bs.length ≤ k
    · have e0 : rNum (bs, bad) = (0, rFail) := by
        have hd : bs.drop k = [] := List.drop_eq_nil_of_le hge
        rw [hd] at hr
        simp only [rNum, ← hr, rdU]
      have E := hid e0
      clear e0 hr
      go_wp2_with (go_at_call 120; refine (fail_c _ F g (bs, bad) hR).mono ?_; rintro e w1 ⟨rfl, hR1, hK1⟩)
      go_ret
      rw [E.out]
      exact ⟨rfl, hR1, hK1⟩
    · obtain ⟨gb, ob, rfl, hF, hlt, hc⟩ := plain_at h3 k _ (List.getElem?_eq_getElem (show k < bs.length by omega))
      have hdrop := List.drop_eq_getElem_cons (show k < bs.length by omega)
      generalize hx : bs[k] = x at *
      unfold u8v at hc
      have hxr := x.toNat_lt
      rw [hdrop, rdU_step] at hr
      have hcap := h3.cap
      have cut := fun ad => rdr_cut (ad := ad) h1 h2 h3 h4 (show k + 1 ≤ bs.length by omega)
      by_cases h9 : k = 9 ∧ 1 < x.toNat
      · obtain ⟨rfl, hx1⟩ := h9
        rw [if_pos (.inr ⟨rfl, hx1⟩)] at hr
        have E := hid (show rNum (bs, bad) = (0, rFail) by simp only [rNum, ← hr])
        clear hr hx hdrop cut
        go_wp2_with (go_at_call 120; refine (fail_c _ F g (bs, bad) hR).mono ?_; rintro e w1 ⟨rfl, hR1, hK1⟩)
        go_ret
        rw [E.out]
        exact ⟨rfl, hR1, hK1⟩
      · rw [if_neg (by omega)] at hr
        obtain ⟨vv, hvv⟩ : ∃ vv : Nat, vv = uu + x.toNat % 128 * 128 ^ k := ⟨_, rfl⟩
        have hacc := acc_bits uu x.toNat k hu (by omega) hk9 (fun e => by
          have : ¬ 1 < x.toNat := fun h => h9 ⟨e, h⟩
          omega)
        rw [← hvv] at hacc
        have hvl : vv < 18446744073709551616 := by
          have h5 := acc_lt x.toNat k hk9 (fun e => by
            have : ¬ 1 < x.toNat := fun h => h9 ⟨e, h⟩
            omega)
          have h6 := pow128_le hk9
          omega
        have HV := hid hvv
        by_cases h128 : x.toNat < 128
        · rw [if_pos h128] at hr
          by_cases hz : x.toNat = 0 ∧ k > 0
          · rw [if_pos hz] at hr
            have E := hid (show rNum (bs, bad) = (0, rFail) by simp only [rNum, ← hr])
            obtain ⟨hz1, hz2⟩ := hz
            have hz3 : x.toNat ≤ 0 := by omega
            clear hr hx hdrop hz1 hvv cut hacc
            rcases Nat.lt_or_ge k 9 with hk | hk
            · have hb : ((k : Int) == 9) = false := beq_eq_false_iff_ne.2 (by omega)
              go_wp2_with (go_at_call 120; refine (fail_c _ F g (bs, bad) hR).mono ?_; rintro e w1 ⟨rfl, hR1, hK1⟩)
              go_ret
              rw [E.out]
              exact ⟨rfl, hR1, hK1⟩
            · have hb : ((k : Int) == 9) = true := beq_iff_eq.2 (by omega)
              go_wp2_with (go_at_call 120; refine (fail_c _ F g (bs, bad) hR).mono ?_; rintro e w1 ⟨rfl, hR1, hK1⟩)
              go_ret
              rw [E.out]
              exact ⟨rfl, hR1, hK1⟩
          · rw [if_neg hz] at hr
            have E := hid (show rNum (bs, bad) = (unzz vv, (bs.drop (k + 1), bad)) by
              rw [Nat.mod_eq_of_lt h128] at hvv
              rw [hvv]
              simp only [rNum, ← hr])
            have HU := unzz_walk vv hvl
            have fin : ∀ (ad : Addr) (M C : Nat), ad = (if c = k + 1 then (⟨gb, ob, none⟩ : Addr) else ⟨gb, ob + (k + 1), none⟩) → M = bs.length - (k + 1) → C = c - (k + 1) → ∀ (e : Ending) (w' : World), e = .returned (.int .i64 (unzz vv)) → w' = w.setCell ⟨g, 0, none⟩ (.slice (some ad) M C) →
                e = .returned (.int .i64 (rNum (bs, bad)).1) ∧ RdrAt w' F g (rNum (bs, bad)).2 ∧ Kept w w' (one g) := by
              rintro ad M C had rfl rfl e w' rfl rfl
              rw [E.out]
              exact ⟨rfl, cut ad had, (Kept.refl w (one g)).set1 _ rfl⟩
            clear hr hx hdrop hvv cut E
            by_cases hcc : c = k + 1
            · subst hcc
              have FIN := hid (fin ⟨gb, ob, none⟩ 0 0 (by rw [if_pos rfl]) (by omega) (by omega))
              clear fin
              have h9t : ((k : Int) == 9) = true ∨ ((k : Int) == 9) = false := by cases h : ((k : Int) == 9) <;> simp
              rcases h9t with hb | hb
              · have hx1 : x.toNat ≤ 1 := by
                  have := beq_iff_eq.1 hb
                  omega
                have hk0 : 0 < k := by
                  have := beq_iff_eq.1 hb
                  omega
                have hx0 : ((x.toNat : Int) == 0) = false := beq_eq_false_iff_ne.2 (by omega)
                clear hz h9
                go_wp2
                go_ret
                refine FIN.out _ _ ?_ ?_ <;> first | rfl | (simp; done) | (simp; omega) | skip
              · rcases Nat.eq_zero_or_pos k with hk0 | hk0
                · have hk1 : k ≤ 0 := by omega
                  clear hz hk0
                  cases hx0 : ((x.toNat : Int) == 0)
                  · go_wp2
                    go_ret
                    refine FIN.out _ _ ?_ ?_ <;> first | rfl | (simp; done) | (simp; omega) | skip
                  · go_wp2
                    go_ret
                    refine FIN.out _ _ ?_ ?_ <;> first | rfl | (simp; done) | (simp; omega) | skip
                · have hx0 : ((x.toNat : Int) == 0) = false := beq_eq_false_iff_ne.2 (by omega)
                  clear hz
                  go_wp2
                  go_ret
                  refine FIN.out _ _ ?_ ?_ <;> first | rfl | (simp; done) | (simp; omega) | skip
            · have FIN := hid (fin ⟨gb, ob + (k + 1), none⟩ (bs.length - (k + 1)) (c - (k + 1)) (by rw [if_neg hcc]) rfl rfl)
              clear fin
              have h9t : ((k : Int) == 9) = true ∨ ((k : Int) == 9) = false := by cases h : ((k : Int) == 9) <;> simp
              rcases h9t with hb | hb
              · have hx1 : x.toNat ≤ 1 := by
                  have := beq_iff_eq.1 hb
                  omega
                have hk0 : 0 < k := by
                  have := beq_iff_eq.1 hb
                  omega
                have hx0 : ((x.toNat : Int) == 0) = false := beq_eq_false_iff_ne.2 (by omega)
                clear hz h9
                go_wp2
                go_ret
                refine FIN.out _ _ ?_ ?_ <;> first | rfl | (simp; done) | (simp; omega) | skip
              · rcases Nat.eq_zero_or_pos k with hk0 | hk0
                · have hk1 : k ≤ 0 := by omega
                  clear hz hk0
                  cases hx0 : ((x.toNat : Int) == 0)
                  · go_wp2
                    go_ret
                    refine FIN.out _ _ ?_ ?_ <;> first | rfl | (simp; done) | (simp; omega) | skip
                  · go_wp2
                    go_ret
                    refine FIN.out _ _ ?_ ?_ <;> first | rfl | (simp; done) | (simp; omega) | skip
                · have hx0 : ((x.toNat : Int) == 0) = false := beq_eq_false_iff_ne.2 (by omega)
                  clear hz
                  go_wp2
                  go_ret
                  refine FIN.out _ _ ?_ ?_ <;> first | rfl | (simp; done) | (simp; omega) | skip
        · rw [if_neg h128, ← hvv] at hr
          have hk : k < 9 := by
            have : ¬ (k = 9 ∧ 1 < x.toNat) := h9
            omega
          have hu' : vv < 128 ^ (k + 1) := by
            rw [hvv, Nat.pow_succ]
            have : x.toNat % 128 * 128 ^ k ≤ 127 * 128 ^ k := Nat.mul_le_mul_right _ (by omega)
            omega
          have hrr := hid hr
          clear hr hx hdrop hvv cut
          go_wp2
          go_round
          case rel => exact ⟨k + 1, vv, rfl, by go_num, hrr.out, by omega, by omega, hu'⟩
          case measure => simp [intOf]; omega
end Go.Proofs.Ytlhlljjchggnjaa
