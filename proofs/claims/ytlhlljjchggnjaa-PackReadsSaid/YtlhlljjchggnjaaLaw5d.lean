/- The walk of PackReads. -/
import Derived.Test.YtlhlljjchggnjaaLaw5
import Derived.Test.YtlhlljjchggnjaaMath2
import Derived.Test.YtlhlljjchggnjaaOpen2
namespace Go.Proofs.Ytlhlljjchggnjaa
open Go.RowKit

theorem rdU_drop : ∀ (bs : List UInt8) (j u v : Nat) (r : List UInt8), rdU j u bs = some (v, r) → ∃ m, 0 < m ∧ m ≤ bs.length ∧ r = bs.drop m
  | [], _, _, _, _, h => by cases h
  | x :: t, j, u, v, r, h => by
    rw [rdU_step] at h
    split at h
    · cases h
    · split at h
      · split at h
        · cases h
        · injection h with h
          injection h with _ h
          exact ⟨1, by omega, by simp, by simp [h]⟩
      · obtain ⟨m, h1, h2, h3⟩ := rdU_drop t _ _ _ _ h
        exact ⟨m + 1, by omega, by simp; omega, by simpa using h3⟩
/-- Both readings of the bytes that are left. -/
theorem read_two (rs : List UInt8) (bad : Bool) : (refRead rs = (0, 0) ∧ rNum (rs, bad) = (0, rFail)) ∨
    ∃ (v : Int) (m : Nat), 0 < m ∧ m ≤ rs.length ∧ refRead rs = (v, m) ∧ rNum (rs, bad) = (v, (rs.drop m, bad)) := by
  cases h : rdU 0 0 rs with
  | none => exact .inl ⟨by simp [refRead, h], by simp [rNum, h]⟩
  | some q =>
    obtain ⟨u, r⟩ := q
    obtain ⟨m, h1, h2, rfl⟩ := rdU_drop rs 0 0 u r h
    refine .inr ⟨unzz u, m, h1, h2, ?_, by simp [rNum, h]⟩
    simp only [refRead, h, List.length_drop]
    rw [show rs.length - (rs.length - m) = m by omega]
theorem sl_drop {w : World} {F : Nat → Prop} {m n c : Nat} {a : Option Addr} {bs : List UInt8} (h : By.Sl w F a n c bs) (hk : m ≤ n) (ad : Option Addr) (M C : Nat) (had : ad = if c = m then a else a.map (·.add m)) (hM : M = n - m) (hC : C = c - m) :
    By.Sl w F ad M C (bs.drop m) := by
  subst hM; subst hC
  have h6 := h.cut m n c hk (Nat.le_refl _) h.cap (Nat.le_refl _) 1 rfl
  have hl := h.len
  rw [List.take_of_length_le (by omega), Nat.mul_one, ← had] at h6
  exact h6
theorem rText_none (rs : List UInt8) (bad : Bool) (h : rNum (rs, bad) = (0, rFail)) : rText (rs, bad) = ([], rFail) := by
  have hc : rCount (rs.length : Int) (rs, bad) = (0, rFail) := by
    unfold rCount
    rw [h]
    split <;> rfl
  unfold rText
  simp only [hc]
  rfl
theorem rText_some (rs : List UInt8) (bad : Bool) (v : Int) (m : Nat) (hm : m ≤ rs.length) (h : rNum (rs, bad) = (v, (rs.drop m, bad))) :
    rText (rs, bad) = if v < 0 ∨ v > (rs.length : Int) - m then ([], rFail) else ((rs.drop m).take v.toNat, ((rs.drop m).drop v.toNat, bad)) := by
  have hc : rCount (rs.length : Int) (rs, bad) = if v < 0 ∨ v > (rs.length : Int) then (0, rFail) else (v, (rs.drop m, bad)) := by
    unfold rCount
    rw [h]
  unfold rText
  simp only [hc]
  by_cases h1 : v < 0 ∨ v > (rs.length : Int)
  · simp only [if_pos h1]
    rw [if_pos (show v < 0 ∨ v > (rs.length : Int) - m by omega)]
    simp [rFail]
  · simp only [if_neg h1, List.length_drop]
    by_cases h2 : v > ((rs.length - m : Nat) : Int)
    · rw [if_pos h2, if_pos (by omega)]
    · rw [if_neg h2, if_neg (by omega)]

set_option maxRecDepth 100000 in
set_option maxHeartbeats 8000000 in
theorem packreads_c (w : World) (F1 F2 : Nat → Prop) (a1 a2 : Option Addr) (n1 c1 n2 c2 : Nat) (bs : List UInt8) (ns : List Int) (h1 : By.Sl w F1 a1 n1 c1 bs) (h2 : In.Sl w F2 a2 n2 c2 ns) :
    Calls Try.prog 7 #[.slice a1 n1 c1, .slice a2 n2 c2] w fun e w' => e = .returned (.bool true) ∧ Kept w w' nix := by
  have hm2 := h2.max
  have L2 := hid h2.len
  have hcap1 := h1.cap
  obtain ⟨N, BS, h1', hb, hcase⟩ : ∃ N BS, By.Sl w F1 a1 N c1 BS ∧ N ≤ 500 ∧ ((500 < n1 ∧ N = 500) ∨ (n1 ≤ 500 ∧ N = n1)) := by
    by_cases h5 : 500 < n1
    · exact ⟨500, _, h1.take 500 (by omega), by omega, .inl ⟨h5, rfl⟩⟩
    · exact ⟨n1, _, h1, by omega, .inr ⟨by omega, rfl⟩⟩
  clear h1
  rcases hcase with ⟨hn, rfl⟩ | ⟨hn, rfl⟩
  all_goals
    go_enter Try.func7, Try.ntmps7
    go_wp2_with (first | (go_at_call 40; refine (new_c _ _ _ _ _ _ h1' (by omega)).mono ?_; rintro e w3 ⟨g3, rfl, hR3, hK3⟩))
    have hg3 : w.heap.size ≤ g3 := hR3.1.1
    go_loopw [6, 7, 8] (fun b bad i wr => ∃ (k : Nat) (bd : Bool) (rs : List UInt8) (a : Option Addr) (n c : Nat), i = .int .i64 k ∧ bad = .bool bd ∧ b = .slice a n c ∧ By.Sl w F1 a n c rs ∧ RdrAt wr (new w wr) g3 (rs, bd) ∧ Kept w wr nix ∧ (bd = true → rs = []) ∧ n ≤ 500 ∧ k ≤ n2 ∧ k ≤ 60) (fun _ _ i _ => 60 - (intOf i).toNat)
    case atStart => exact ⟨0, false, _, a1, _, c1, rfl, rfl, rfl, h1', hR3, hK3, nofun, hb, by omega, by omega⟩
    case round =>
      obtain ⟨k, bd, rs, a, n, c, rfl, rfl, rfl, hS, hR, hK, hbd, hn5, hkn, hk60⟩ := hrel
      have hlen := hS.len
      have hSK := hid (hS.kept hK (fun _ _ => id))
      have hSw := hid hS
      clear hS h1' hR3 hK3
      by_cases hlt : k < n2 ∧ k < 60
      · obtain ⟨hlt1, hlt2⟩ := hlt
        have hkl : k < ns.length := by have := L2.out; omega
        obtain ⟨g, o, rfl, _, hgl, hc⟩ := plain_at h2 k _ (List.getElem?_eq_getElem hkl)
        have hc' := hK.cell hc (fun h => h)
        generalize ns[k] = x at *
        clear hc
        have hb0 := hid hbd
        clear hbd
        rcases read_two rs bd with ⟨e1, e2⟩ | ⟨v, m, hm0, hmn, e1, e2⟩
        · have hr1 := refread_c _ _ _ _ _ _ hSK.out
          rw [e1] at hr1
          by_cases hx1 : x = 1
          · subst hx1
            have hcall := rtext_c _ _ _ _ hR (fun k hk => hk.2) (by simp only; omega)
            rw [rText_none _ _ e2] at hcall
            cases bd
            all_goals
              go_wp2_with (first
                | (go_at_call 45; refine hr1.mono ?_; rintro e w2 ⟨rfl, rfl⟩)
                | (go_at_call 42; refine hcall.mono ?_; rintro e w2 ⟨a5, n5, c5, rfl, hO2, hR2, hK2⟩; have q1 := strBy hO2.sl))
              refine ⟨⟨k + 1, true, [], none, 0, 0, by go_num, rfl, rfl, Sh.Sl.nil _ _ _, hR2.mono (new_mono (Nat.le_refl _) hK2.size), hK.o hK2 hg3, fun _ => rfl, by omega, by omega, by omega⟩, by simp [intOf]; omega⟩
          · by_cases hx0 : x = 0
            · subst hx0
              clear hx1
              have hcall := rnum_c _ _ _ _ hR
              rw [e2] at hcall
              cases bd
              all_goals
                go_wp2_with (first
                  | (go_at_call 45; refine hr1.mono ?_; rintro e w2 ⟨rfl, rfl⟩)
                  | (go_at_call 41; refine hcall.mono ?_; rintro e w2 ⟨rfl, hR2, hK2⟩))
                refine ⟨⟨k + 1, true, [], none, 0, 0, by go_num, rfl, rfl, Sh.Sl.nil _ _ _, hR2.mono (new_mono (Nat.le_refl _) hK2.size), hK.o hK2 hg3, fun _ => rfl, by omega, by omega, by omega⟩, by simp [intOf]; omega⟩
            · have hcall := rcount_c _ _ _ _ x hR
              rw [show rCount x (rs, bd) = (0, rFail) by unfold rCount; rw [e2]; split <;> rfl] at hcall
              cases bd
              all_goals
                go_wp2_with (first
                  | (go_at_call 45; refine hr1.mono ?_; rintro e w2 ⟨rfl, rfl⟩)
                  | (go_at_call 44; refine hcall.mono ?_; rintro e w2 ⟨rfl, hR2, hK2⟩))
                refine ⟨⟨k + 1, true, [], none, 0, 0, by go_num, rfl, rfl, Sh.Sl.nil _ _ _, hR2.mono (new_mono (Nat.le_refl _) hK2.size), hK.o hK2 hg3, fun _ => rfl, by omega, by omega, by omega⟩, by simp [intOf]; omega⟩
        · have hr1 := refread_c _ _ _ _ _ _ hSK.out
          rw [e1] at hr1
          obtain rfl : bd = false := by
            cases bd
            · rfl
            · have := hb0.out rfl
              subst this
              simp at hmn
              omega
          by_cases hx1 : x = 1
          · subst hx1
            have hcall := rtext_c _ _ _ _ hR (fun k hk => hk.2) (by simp only; omega)
            rw [rText_some _ _ _ _ hmn e2] at hcall
            have T1 : ((m : Int) == 0) = false := by rw [Bool.eq_false_iff]; simp only [ne_eq, beq_iff_eq]; omega
            by_cases hv : v < 0 ∨ v > (rs.length : Int) - m
            · rw [if_pos hv] at hcall
              by_cases hv0 : v < 0
              · clear hv
                have T2 : decide (v < 0) = true := by simpa using hv0
                go_wp2_with (first
                  | (go_at_call 45; refine hr1.mono ?_; rintro e w2 ⟨rfl, rfl⟩)
                  | (go_at_call 42; refine hcall.mono ?_; rintro e w2 ⟨a5, n5, c5, rfl, hO2, hR2, hK2⟩; have q1 := strBy hO2.sl))
                refine ⟨⟨k + 1, true, [], none, 0, 0, by go_num, rfl, rfl, Sh.Sl.nil _ _ _, hR2.mono (new_mono (Nat.le_refl _) hK2.size), hK.o hK2 hg3, fun _ => rfl, by omega, by omega, by omega⟩, by simp [intOf]; omega⟩
              · have T2 : decide (v < 0) = false := by simpa using hv0
                have T3 : decide ((n : Int) - m < v) = true := by simp only [decide_eq_true_eq]; omega
                clear hv
                go_wp2_with (first
                  | (go_at_call 45; refine hr1.mono ?_; rintro e w2 ⟨rfl, rfl⟩)
                  | (go_at_call 42; refine hcall.mono ?_; rintro e w2 ⟨a5, n5, c5, rfl, hO2, hR2, hK2⟩; have q1 := strBy hO2.sl))
                refine ⟨⟨k + 1, true, [], none, 0, 0, by go_num, rfl, rfl, Sh.Sl.nil _ _ _, hR2.mono (new_mono (Nat.le_refl _) hK2.size), hK.o hK2 hg3, fun _ => rfl, by omega, by omega, by omega⟩, by simp [intOf]; omega⟩
            · rw [if_neg hv] at hcall
              obtain ⟨v, rfl⟩ := Int.eq_ofNat_of_zero_le (show 0 ≤ v by omega)
              rw [Int.toNat_natCast, List.drop_drop] at hcall
              have T2 : decide ((v : Int) < 0) = false := by simp
              have T3 : decide ((n : Int) - m < v) = false := by simp only [decide_eq_false_iff_not]; omega
              have hvm : m + v ≤ n := by omega
              clear hv
              have hcut := strBy (hSK.out.cut m (m + v) c (by omega) hvm (by have := hSK.out.cap; omega) (Nat.le_refl _) 1 rfl)
              have E1 : (rs.take (m + v)).drop m = (rs.drop m).take v := by rw [List.drop_take]; congr 1; omega
              rw [E1, Nat.mul_one, show m + v - m = v by omega] at hcut
              have hcap := hSK.out.cap
              by_cases hcm : c = m
              · rw [if_pos hcm] at hcut
                subst hcm
                rw [Nat.sub_self] at hcut
                go_wp2_with (first
                  | (go_at_call 45; refine hr1.mono ?_; rintro e w2 ⟨rfl, rfl⟩)
                  | (go_at_call 42; refine hcall.mono ?_; rintro e w2 ⟨a5, n5, c5, rfl, hO2, hR2, hK2⟩; have q1 := strBy hO2.sl))
                all_goals
                  refine ⟨⟨k + 1, false, rs.drop (c + v), _, _, _, by go_num, rfl, rfl, sl_drop hSw.out (by omega) _ _ _ ?_ rfl rfl, hR2.mono (new_mono (Nat.le_refl _) hK2.size), hK.o hK2 hg3, nofun, by omega, by omega, by omega⟩, by simp [intOf]; omega⟩
                  have hv00 : v = 0 := by omega
                  simp_all
              · rw [if_neg hcm] at hcut
                go_wp2_with (first
                  | (go_at_call 45; refine hr1.mono ?_; rintro e w2 ⟨rfl, rfl⟩)
                  | (go_at_call 42; refine hcall.mono ?_; rintro e w2 ⟨a5, n5, c5, rfl, hO2, hR2, hK2⟩; have q1 := strBy hO2.sl))
                all_goals
                  refine ⟨⟨k + 1, false, rs.drop (m + v), _, _, _, by go_num, rfl, rfl, sl_drop hSw.out (by omega) _ _ _ ?_ rfl rfl, hR2.mono (new_mono (Nat.le_refl _) hK2.size), hK.o hK2 hg3, nofun, by omega, by omega, by omega⟩, by simp [intOf]; omega⟩
                  simp_all
          · have T1 : ((m : Int) == 0) = false := by rw [Bool.eq_false_iff]; simp only [ne_eq, beq_iff_eq]; omega
            have hcap := hSK.out.cap
            by_cases hx0 : x = 0
            · subst hx0
              clear hx1
              have hcall := rnum_c _ _ _ _ hR
              rw [e2] at hcall
              go_wp2_with (first
                | (go_at_call 45; refine hr1.mono ?_; rintro e w2 ⟨rfl, rfl⟩)
                | (go_at_call 41; refine hcall.mono ?_; rintro e w2 ⟨rfl, hR2, hK2⟩))
              all_goals
                refine ⟨⟨k + 1, false, rs.drop (m), _, _, _, by go_num, rfl, rfl, sl_drop hSw.out (by omega) _ _ _ ?_ rfl rfl, hR2.mono (new_mono (Nat.le_refl _) hK2.size), hK.o hK2 hg3, nofun, by omega, by omega, by omega⟩, by simp [intOf]; omega⟩
                simp_all
            · have hcall := rcount_c _ _ _ _ x hR
              by_cases hv : v < 0 ∨ v > x
              · rw [show rCount x (rs, false) = (0, rFail) by unfold rCount; rw [e2]; simp only; rw [if_pos hv]] at hcall
                by_cases hv0 : v < 0
                · clear hv
                  have T2 : decide (v < 0) = true := by simpa using hv0
                  go_wp2_with (first
                    | (go_at_call 45; refine hr1.mono ?_; rintro e w2 ⟨rfl, rfl⟩)
                    | (go_at_call 44; refine hcall.mono ?_; rintro e w2 ⟨rfl, hR2, hK2⟩))
                  refine ⟨⟨k + 1, true, [], none, 0, 0, by go_num, rfl, rfl, Sh.Sl.nil _ _ _, hR2.mono (new_mono (Nat.le_refl _) hK2.size), hK.o hK2 hg3, fun _ => rfl, by omega, by omega, by omega⟩, by simp [intOf]; omega⟩
                · have T2 : decide (v < 0) = false := by simpa using hv0
                  have T3 : decide (x < v) = true := by simp only [decide_eq_true_eq]; omega
                  clear hv
                  go_wp2_with (first
                    | (go_at_call 45; refine hr1.mono ?_; rintro e w2 ⟨rfl, rfl⟩)
                    | (go_at_call 44; refine hcall.mono ?_; rintro e w2 ⟨rfl, hR2, hK2⟩))
                  refine ⟨⟨k + 1, true, [], none, 0, 0, by go_num, rfl, rfl, Sh.Sl.nil _ _ _, hR2.mono (new_mono (Nat.le_refl _) hK2.size), hK.o hK2 hg3, fun _ => rfl, by omega, by omega, by omega⟩, by simp [intOf]; omega⟩
              · rw [show rCount x (rs, false) = (v, (rs.drop m, false)) by unfold rCount; rw [e2]; simp only; rw [if_neg hv]] at hcall
                have T2 : decide (v < 0) = false := by simp only [decide_eq_false_iff_not]; omega
                have T3 : decide (x < v) = false := by simp only [decide_eq_false_iff_not]; omega
                clear hv
                go_wp2_with (first
                  | (go_at_call 45; refine hr1.mono ?_; rintro e w2 ⟨rfl, rfl⟩)
                  | (go_at_call 44; refine hcall.mono ?_; rintro e w2 ⟨rfl, hR2, hK2⟩))
                all_goals
                  refine ⟨⟨k + 1, false, rs.drop (m), _, _, _, by go_num, rfl, rfl, sl_drop hSw.out (by omega) _ _ _ ?_ rfl rfl, hR2.mono (new_mono (Nat.le_refl _) hK2.size), hK.o hK2 hg3, nofun, by omega, by omega, by omega⟩, by simp [intOf]; omega⟩
                  simp_all
      · have hx : rEnd (rs, bd) = (!bd && rs.isEmpty) := rfl
        have hb0 := hid hbd
        clear hbd
        rcases Nat.lt_or_ge 60 n2 with hB | hB
        all_goals
          cases bd
          · cases hrs : rs with
            | nil =>
              subst hrs
              simp at hlen
              subst hlen
              go_wp2_with (first
                | (go_at_call 35; refine (awake5_c _).mono ?_; rintro e w2 ⟨rfl, hK2⟩; have hR6 := hR.kept hK2 (fun _ _ => id))
                | (go_at_call 43; refine (rend_c _ _ _ _ hR6).mono ?_; rintro e w8 ⟨rfl, rfl⟩))
              go_ret
              exact ⟨rfl, hK.n hK2⟩
            | cons y ys =>
              subst hrs
              simp at hlen
              have T5 : ((n : Int) == 0) = false := by rw [Bool.eq_false_iff]; simp only [ne_eq, beq_iff_eq]; omega
              go_wp2_with (first
                | (go_at_call 35; refine (awake5_c _).mono ?_; rintro e w2 ⟨rfl, hK2⟩; have hR6 := hR.kept hK2 (fun _ _ => id))
                | (go_at_call 43; refine (rend_c _ _ _ _ hR6).mono ?_; rintro e w8 ⟨rfl, rfl⟩))
              go_ret
              exact ⟨rfl, hK.n hK2⟩
          · go_wp2_with (first
              | (go_at_call 35; refine (awake5_c _).mono ?_; rintro e w2 ⟨rfl, hK2⟩; have hR6 := hR.kept hK2 (fun _ _ => id))
              | (go_at_call 43; refine (rend_c _ _ _ _ hR6).mono ?_; rintro e w8 ⟨rfl, rfl⟩))
            go_ret
            exact ⟨rfl, hK.n hK2⟩
end Go.Proofs.Ytlhlljjchggnjaa
