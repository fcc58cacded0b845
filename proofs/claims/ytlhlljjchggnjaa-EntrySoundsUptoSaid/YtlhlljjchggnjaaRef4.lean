/- The walks of the reference for numbers and texts. -/
import Derived.Test.YtlhlljjchggnjaaPack2
namespace Go.Proofs.Ytlhlljjchggnjaa
open Go.RowKit

theorem zz_neg (x : Int) (h0 : -9223372036854775808 ≤ x) (h : x < 0) : (-1 - x) * 2 + 1 = ((zz x : Nat) : Int) := by
  unfold zz; rw [if_neg (by omega)]; omega
theorem zz_pos (x : Int) (h : 0 ≤ x) : x * 2 = ((zz x : Nat) : Int) := by
  unfold zz; rw [if_pos h]; omega

set_option maxRecDepth 100000 in
set_option maxHeartbeats 400000 in
theorem refnum_c (w : World) (x : Int) (hx : -9223372036854775808 ≤ x) (hx2 : x ≤ 9223372036854775807) :
    Calls Try.prog 37 #[.int .i64 x] w fun e w' => ∃ a' m c', e = .returned (.slice a' m c') ∧ By.Own w' (new w w') a' m c' (numB x) ∧ Kept w w' nix := by
  have hzl := zz_lt x hx hx2
  have hl10 := numB_len x
  have hown := own_empty w 5
  have hkE := (Kept.refl w nix).alloc (.cells #[] 5)
  have hb : (x < 0 ∧ (-1 - x) * 2 + 1 = ((zz x : Nat) : Int)) ∨ (¬ x < 0 ∧ x * 2 = ((zz x : Nat) : Int)) := by
    by_cases hneg : x < 0
    · exact .inl ⟨hneg, zz_neg x hx hneg⟩
    · exact .inr ⟨hneg, zz_pos x (by omega)⟩
  rcases hb with ⟨hneg, hz⟩ | ⟨hneg, hz⟩
  all_goals
    go_enter Try.func37, Try.ntmps37
    go_wp2
    clear hz
    go_loopw [3, 4] (fun u s wr => ∃ (k m : Nat) (pre : List UInt8) (uu : Nat) (a2 : Option Addr) (c2 : Nat), s = .slice a2 m c2 ∧ u = .int .u64 uu ∧ By.Own wr (new w wr) a2 m c2 pre ∧ Kept w wr nix ∧ pre ++ enc7 k uu = numB x ∧ uu < 18446744073709551616 ∧ uu < 128 ^ (k + 1)) (fun u _ _ => (intOf u).toNat)
    case atStart =>
      exact ⟨9, 0, [], zz x, _, _, rfl, rfl, hown, hkE, by simp [numB], hzl, by omega⟩
    case round =>
      obtain ⟨k, m, pre, uu, a2, c2, rfl, rfl, hO, hK, hpre, hu, hk⟩ := hrel
      have hm : m ≤ 10 := by
        have h1 := hO.len
        have h2 := congrArg List.length hpre
        have h3 := enc7_pos k uu
        simp only [List.length_append] at h1 h2
        omega
      have hfresh : ∀ w3 : World, wr.heap.size ≤ w3.heap.size → ∀ g, new w wr g ∨ new wr w3 g → new w w3 g := fun w3 hsz g hg => hg.elim (new_mono (Nat.le_refl _) hsz g) (new_mono hK.size (Nat.le_refl _) g)
      have hkeep : ∀ (w3 : World), Kept wr w3 (blk a2) → Kept w w3 nix := fun w3 hK3 => hK.trans hK3 (fun g hlt hb => by have := (hO.blkF hb).1.1; omega)
      by_cases h7 : 128 ≤ uu
      · go_wp2_with (at_builtin; refine wpList_push_plain rfl (.tmp 18) (.tmp 23) 22 5 rfl (.int .u8 0) 1 Try.underlying22 infoBy rfl (by omega) rfl rfl (UInt8.ofNat (uu % 128 + 128)) _ ?hv hO (by omega) ?_)
        case hv =>
          show Value.int .u8 _ = Value.int .u8 _
          congr 1
          rw [UInt8.toNat_ofNat', Nat.mod_eq_of_lt (by omega)]
          omega
        intro a3 c3 w3 hO3 hK3 _
        go_wp2
        cases k with
        | zero => omega
        | succ k =>
          rw [enc7_big _ _ (by omega)] at hpre
          refine ⟨⟨k, m + 1, pre ++ [UInt8.ofNat (uu % 128 + 128)], uu / 128, a3, c3, rfl, by simp, ?_, hkeep _ hK3, by rw [← hpre]; simp, by omega, ?_⟩, by simp [intOf]; omega⟩
          · simpa using hO3.mono (hfresh _ hK3.size)
          · rw [Nat.pow_succ] at hk
            omega
      · rw [enc7_small _ _ (by omega)] at hpre
        go_wp2_with (at_builtin; refine wpList_push_plain rfl (.tmp 27) (.tmp 30) 22 5 rfl (.int .u8 0) 1 Try.underlying22 infoBy rfl (by omega) rfl rfl (UInt8.ofNat uu) _ ?hv hO (by omega) ?_)
        case hv =>
          show Value.int .u8 _ = Value.int .u8 _
          congr 1
          rw [UInt8.toNat_ofNat', Nat.mod_eq_of_lt (by omega)]
        intro a3 c3 w3 hO3 hK3 _
        go_wp2
        go_ret
        refine ⟨a3, m + 1, c3, by simp, ?_, hkeep _ hK3⟩
        simpa using hO3.mono (hfresh _ hK3.size)

set_option maxHeartbeats 400000 in
theorem reftext_c (w : World) (F : Nat → Prop) (a : Option Addr) (n c : Nat) (ss : List UInt8) (hs : By.Sl w F a n c ss) (hb : n ≤ 140737488350000) :
    Calls Try.prog 39 #[.slice a n c] w fun e w' => ∃ a' m c', e = .returned (.slice a' m c') ∧ By.Own w' (new w w') a' m c' (textB ss) ∧ Kept w w' nix := by
  have hl := hs.len
  have hx := refnum_c w (n : Int) (by omega) (by omega)
  have hnl := numB_len (n : Int)
  go_enter Try.func39, Try.ntmps39
  go_wp2_with (first | (go_at_call 37; refine hx.mono ?_; rintro e w1 ⟨a1, m1, c1, rfl, hO1, hK1⟩; have hlen1 := hO1.len; have hs1 := hs.kept hK1 (fun _ _ => id)) | (at_builtin; refine wpList_app_plain rfl (.tmp 5) (.tmp 6) 22 5 rfl (.int .u8 0) 1 Try.underlying22 infoBy rfl (by omega) rfl rfl hO1 hs1 ?hd ?hb ?_))
  case hd =>
    intro hm g hg hg2
    have q1 := (hO1.blkF hg2).1.1
    have q2 := (hs.blkF hm hg).2
    omega
  case hb => omega
  intro a3 c3 w3 hO3 hK3 _
  go_wp2
  go_ret
  refine ⟨a3, m1 + n, c3, by simp, ?_, hK1.trans hK3 (fun g hlt hg => ?_)⟩
  · have h5 := (hO3.mono (fun g hg => hg.elim (new_mono (Nat.le_refl _) hK3.size g) (new_mono hK1.size (Nat.le_refl _) g)))
    rw [textB, hl]
    simpa using h5
  · have := (hO1.blkF hg).1.1
    omega

theorem mask32 (v : Int) (h0 : 0 ≤ v) (h1 : v < 18446744073709551616) : bits .and .u64 v 4294967295 = v % 4294967296 := by
  obtain ⟨n, rfl⟩ := Int.eq_ofNat_of_zero_le h0
  rw [show (4294967295 : Int) = ((4294967295 : Nat) : Int) from rfl, bits_and_u64_nat _ _ (by omega) (by omega)]
  have := Nat.and_two_pow_sub_one_eq_mod n 32
  rw [show 2 ^ 32 - 1 = 4294967295 from rfl] at this
  rw [this]
  omega
set_option maxRecDepth 100000 in
set_option maxHeartbeats 400000 in
theorem mul64_c (w : World) (u : Nat) (hu : u < 18446744073709551616) :
    Calls Try.prog 121 #[.int .u64 u, .int .u64 128] w fun e w' => e = .returned (.tuple #[.int .u64 ((u * 128 / 18446744073709551616 : Nat) : Int), .int .u64 ((u * 128 % 18446744073709551616 : Nat) : Int)]) ∧ w = w' := by
  have m1 := mask32 (u : Int) (by omega) (by omega)
  have m2 := mask32 128 (by omega) (by omega)
  rw [show (128 : Int) % 4294967296 = 128 from rfl] at m2
  have m3 := mask32 ((u : Int) / 4294967296 * 128 + (u : Int) % 4294967296 * 128 / 4294967296) (by omega) (by omega)
  go_enter Try.func121, Try.ntmps121
  go_wp2
  go_ret2
  refine ⟨?_, rfl⟩
  simp [IntKind.wrap_u64]
  omega

set_option maxRecDepth 100000 in
set_option maxHeartbeats 1000000 in
theorem refread_c (w : World) (F : Nat → Prop) (a : Option Addr) (n c : Nat) (bs : List UInt8) (h : By.Sl w F a n c bs) :
    Calls Try.prog 45 #[.slice a n c] w fun e w' => e = .returned (.tuple #[.int .i64 (refRead bs).1, .int .i64 (refRead bs).2]) ∧ w = w' := by
  have hmax := h.max
  have hlen := h.len
  have hlen2 := hid hlen
  clear hlen
  go_enter Try.func45, Try.ntmps45
  go_wp2
  go_loop [4] (fun v => ∃ j : Nat, v = .int .i64 ((j : Int) + 1) ∧ j ≤ n ∧ ((j ≤ 9 ∧ rdU j (hval (bs.take j)) (bs.drop j) = rdU 0 0 bs) ∨ (j = 10 ∧ rdU 0 0 bs = none))) (fun v => 12 - (intOf v).toNat)
  case atStart => exact ⟨0, rfl, by omega, .inl ⟨by omega, by simp [hval]⟩⟩
  case round =>
    obtain ⟨j, rfl, hjn, hr⟩ := hrel
    by_cases hA : n < j + 1 ∨ 10 < j + 1
    · have E := hid (show refRead bs = (0, 0) by
        have h0 : rdU 0 0 bs = none := by
          rcases hr with ⟨h9, hr⟩ | ⟨_, hr⟩
          · rw [← hr, List.drop_eq_nil_of_le (by have := hlen2.out; omega)]
            rfl
          · exact hr
        simp [refRead, h0])
      clear hr
      by_cases hB : n < j + 1
      · clear hA
        go_wp2
        go_ret2
        rw [E.out]
        exact ⟨rfl, rfl⟩
      · have hC : 10 < j + 1 := by omega
        clear hA
        go_wp2
        go_ret2
        rw [E.out]
        exact ⟨rfl, rfl⟩
    · have hj1 : j + 1 ≤ n := by omega
      have hj2 : j + 1 ≤ 10 := by omega
      have hjl : j < bs.length := by have := hlen2.out; omega
      replace hr : rdU j (hval (bs.take j)) (bs.drop j) = rdU 0 0 bs := by
        rcases hr with ⟨_, hr⟩ | ⟨h10, _⟩
        · exact hr
        · omega
      clear hA
      obtain ⟨gb, ob, rfl, hF, hlt, hc⟩ := plain_at h j _ (List.getElem?_eq_getElem hjl)
      have hdrop := List.drop_eq_getElem_cons hjl
      have hht := hval_take bs j hjl
      generalize hx : bs[j] = x at *
      unfold u8v at hc
      have hxr := x.toNat_lt
      rw [hdrop, rdU_step] at hr
      by_cases h128 : 128 ≤ x.toNat
      · have hr2 : (j + 1 ≤ 9 ∧ rdU (j + 1) (hval (bs.take (j + 1))) (bs.drop (j + 1)) = rdU 0 0 bs) ∨ (j + 1 = 10 ∧ rdU 0 0 bs = none) := by
          by_cases h9 : j = 9
          · rw [if_pos (.inr ⟨h9, by omega⟩)] at hr
            exact .inr ⟨by omega, hr.symm⟩
          · rw [if_neg (by omega), if_neg (by omega), ← hht] at hr
            exact .inl ⟨by omega, hr⟩
        have HR := hid hr2
        clear hr hr2 hht hdrop hx
        go_wp2
        go_round
        case rel => exact ⟨j + 1, by go_num, hj1, HR.out⟩
        case measure => simp [intOf]; omega
      · -- the number is decoded, the highest digit first
        have hl2 : (bs.take (j + 1)).length = j + 1 := by rw [List.length_take]; omega
        have hdig : ∀ t, (ht : t < j + 1) → ∃ y : UInt8, w.cell? ⟨gb, ob + t, none⟩ = some (.int .u8 (y.toNat : Int)) ∧ hval ((bs.take (j + 1)).drop t) = y.toNat % 128 + 128 * hval ((bs.take (j + 1)).drop (t + 1)) := by
          intro t ht
          have htl : t < bs.length := by omega
          obtain ⟨g2, o2, e2, _, _, hc2⟩ := plain_at h t _ (List.getElem?_eq_getElem htl)
          injection e2 with e2
          injection e2 with e3 e4
          subst e3; subst e4
          refine ⟨bs[t], hc2, ?_⟩
          have := hval_drop (bs.take (j + 1)) t (by omega)
          rw [List.getElem_take] at this
          exact this
        have hend : hval ((bs.take (j + 1)).drop (j + 1)) = 0 := by rw [List.drop_eq_nil_of_le (by omega)]; rfl
        have hbig : hval ((bs.take (j + 1)).drop 0) = hval (bs.take (j + 1)) := by simp
        have hvl := hval_lt (bs.take j)
        rw [List.length_take, Nat.min_eq_left (by omega)] at hvl
        -- what is answered
        have E := hid (show (18446744073709551616 ≤ hval (bs.take (j + 1)) ∨ (0 < j ∧ x.toNat = 0) → refRead bs = (0, 0)) ∧
            (hval (bs.take (j + 1)) < 18446744073709551616 → ¬ (0 < j ∧ x.toNat = 0) → refRead bs = (unzz (hval (bs.take (j + 1))), j + 1)) by
          have hp := pow128_le (show j ≤ 9 by omega)
          have hx128 : x.toNat % 128 = x.toNat := Nat.mod_eq_of_lt (by omega)
          rw [hx128] at hht
          have hover : 18446744073709551616 ≤ hval (bs.take (j + 1)) ↔ (j = 9 ∧ 1 < x.toNat) := by
            rw [hht]
            by_cases h9 : j = 9
            · subst h9
              omega
            · have h8 := Nat.pow_le_pow_right (n := 128) (by omega) (show j ≤ 8 by omega)
              have h7 : x.toNat * 128 ^ j ≤ 127 * 128 ^ j := Nat.mul_le_mul_right _ (by omega)
              omega
          have hnone : rdU 0 0 bs = none → refRead bs = (0, 0) := fun h0 => by simp [refRead, h0]
          refine ⟨fun hcase => hnone ?_, fun h1 h2 => ?_⟩
          · by_cases ho : j = 9 ∧ 1 < x.toNat
            · rw [if_pos (.inr ho)] at hr
              exact hr.symm
            · rcases hcase with hcase | hcase
              · exact absurd (hover.1 hcase) ho
              · rw [if_neg (by omega), if_pos (by omega), if_pos ⟨hcase.2, hcase.1⟩] at hr
                exact hr.symm
          · have ho : ¬ (j = 9 ∧ 1 < x.toNat) := fun ho => by have := hover.2 ho; omega
            rw [if_neg (by omega), if_pos (by omega), if_neg (by omega), ← hht] at hr
            simp only [refRead, ← hr, List.length_drop]
            congr 1
            omega)
        generalize hval (bs.take (j + 1)) = V at *
        have HD := hid hdig
        have HE := hid hend
        have HB := hid hbig
        clear hr hht hdrop hx hdig hend hbig hvl
        go_wp2
        go_loop [5, 6, 7] (fun u b i => ∃ (t uu : Nat) (bb : Bool), t ≤ j + 1 ∧ u = .int .u64 uu ∧ b = .bool bb ∧ ((t = 0 ∧ i = .int .i64 (-1)) ∨ ∃ t', t = t' + 1 ∧ i = .int .i64 (t' : Int)) ∧ uu < 18446744073709551616 ∧
            (bb = true → 18446744073709551616 ≤ hval ((bs.take (j + 1)).drop t)) ∧ (bb = false → uu = hval ((bs.take (j + 1)).drop t))) (fun _ _ i => (intOf i + 1).toNat)
        case atStart => exact ⟨j + 1, 0, false, Nat.le_refl _, rfl, rfl, .inr ⟨j, rfl, rfl⟩, by omega, by simp, fun _ => HE.out.symm⟩
        case round =>
          obtain ⟨t, uu, bb, ht, rfl, rfl, hi, hu, hb1, hb2⟩ := hrel
          rcases hi with ⟨rfl, rfl⟩ | ⟨t', rfl, rfl⟩
          · rw [HB.out] at hb1 hb2
            have HB1 := hid hb1
            have HB2 := hid hb2
            clear hb1 hb2
            have D1 : ∀ (e : Ending) (w' : World), (18446744073709551616 ≤ V ∨ (0 < j ∧ x.toNat = 0)) → e = .returned (.tuple #[.int .i64 0, .int .i64 0]) → w = w' →
                e = .returned (.tuple #[.int .i64 (refRead bs).1, .int .i64 (refRead bs).2]) ∧ w = w' := by
              rintro e w' hcase rfl rfl
              rw [E.out.1 hcase]
              exact ⟨rfl, rfl⟩
            have D2 : ∀ (e : Ending) (w' : World) (r : Int), uu = V → ¬ (0 < j ∧ x.toNat = 0) → r = unzz uu → e = .returned (.tuple #[.int .i64 r, .int .i64 ((j : Int) + 1)]) → w = w' →
                e = .returned (.tuple #[.int .i64 (refRead bs).1, .int .i64 (refRead bs).2]) ∧ w = w' := by
              rintro e w' r rfl hcase rfl rfl rfl
              rw [E.out.2 hu hcase]
              exact ⟨rfl, rfl⟩
            have H1 := hid D1
            have H2 := hid D2
            clear D1 D2 E
            cases bb
            · have hj0 : 0 < j ∨ j ≤ 0 := by omega
              have hp : ((uu : Int) % 2 == 1) = true ∨ ((uu : Int) % 2 == 1) = false := by cases h : ((uu : Int) % 2 == 1) <;> simp
              have HP1 : Hid (((uu : Int) % 2 == 1) = true → -1 - (uu : Int) / 2 = unzz uu) := by
                intro h
                have := eq_of_beq h
                unfold unzz
                rw [if_neg (by omega)]
                omega
              have HP2 : Hid (((uu : Int) % 2 == 1) = false → (uu : Int) / 2 = unzz uu) := by
                intro h
                have h2 : ¬ ((uu : Int) % 2 = 1) := by simpa using h
                unfold unzz
                rw [if_pos (by omega)]
                omega
              have hxz : ((x.toNat : Int) == 0) = true ∨ ((x.toNat : Int) == 0) = false := by cases h : ((x.toNat : Int) == 0) <;> simp
              rcases hj0 with hj0 | hj0
              · rcases hxz with hx0 | hx0
                · have HX : Hid (x.toNat = 0) := by
                    have := eq_of_beq hx0
                    show x.toNat = 0
                    omega
                  go_wp2
                  go_ret2
                  exact H1.out _ _ (.inr ⟨hj0, HX.out⟩) (by simp) rfl
                · have HX : Hid (¬ x.toNat = 0) := by
                    have h2 : ¬ ((x.toNat : Int) = 0) := by simpa using hx0
                    show ¬ x.toNat = 0
                    omega
                  rcases hp with hp | hp
                  · go_wp2
                    go_ret2
                    exact H2.out _ _ _ (HB2.out (by simp)) (fun h => HX.out h.2) (HP1.out hp) (by simp) rfl
                  · go_wp2
                    go_ret2
                    exact H2.out _ _ _ (HB2.out (by simp)) (fun h => HX.out h.2) (HP2.out hp) (by simp) rfl
              · rcases hp with hp | hp
                · go_wp2
                  go_ret2
                  exact H2.out _ _ _ (HB2.out (by simp)) (fun h => by omega) (HP1.out hp) (by simp) rfl
                · go_wp2
                  go_ret2
                  exact H2.out _ _ _ (HB2.out (by simp)) (fun h => by omega) (HP2.out hp) (by simp) rfl
            · go_wp2
              go_ret2
              exact H1.out _ _ (.inl (HB1.out (by simp))) (by simp) rfl
          · obtain ⟨y, hy, hyv⟩ := HD.out t' (by omega)
            have HY := hid hyv
            have hyr := y.toNat_lt
            clear hyv
            have HB1 := hid hb1
            have HB2 := hid hb2
            clear hb1 hb2
            have hiv : ((t' = 0 ∧ Value.int .i64 ((t' : Int) - 1) = .int .i64 (-1)) ∨ ∃ s, t' = s + 1 ∧ Value.int .i64 ((t' : Int) - 1) = .int .i64 (s : Int)) := by
              cases t' with
              | zero => exact .inl ⟨rfl, by simp⟩
              | succ s => exact .inr ⟨s, rfl, by congr 1; omega⟩
            have HI := hid hiv
            clear hiv
            cases bb
            · go_wp2_with (go_at_call 121; refine (mul64_c _ uu hu).mono ?_; rintro e w1 ⟨rfl, rfl⟩)
              have e1 := HB2.out (by simp)
              have e2 := HY.out
              refine ⟨⟨t', uu * 128 % 18446744073709551616 + y.toNat % 128, decide (0 < (uu : Int) * 128 / 18446744073709551616), by omega, by congr 1, rfl, HI.out, by omega, fun hd => ?_, fun hd => ?_⟩, by simp [intOf]⟩
              · have := of_decide_eq_true hd
                omega
              · have := of_decide_eq_false hd
                omega
            · go_wp2_with (go_at_call 121; refine (mul64_c _ uu hu).mono ?_; rintro e w1 ⟨rfl, rfl⟩)
              have e1 := HB1.out (by simp)
              have e2 := HY.out
              refine ⟨⟨t', uu * 128 % 18446744073709551616 + y.toNat % 128, true, by omega, by congr 1, rfl, HI.out, by omega, fun _ => by omega, fun hd => by cases hd⟩, by simp [intOf]⟩
end Go.Proofs.Ytlhlljjchggnjaa
