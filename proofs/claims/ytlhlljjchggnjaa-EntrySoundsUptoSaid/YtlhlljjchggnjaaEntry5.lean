/- The walk of package entry's Encode. -/
import Derived.Test.YtlhlljjchggnjaaEntry4
namespace Go.Proofs.Ytlhlljjchggnjaa
open Go.RowKit

theorem entB_len {e : Ent} (h : entOk e = true) : (entB e).length ≤ 352 := by
  simp only [entOk, Bool.and_eq_true, inB_iff, decide_eq_true_eq] at h
  rw [entB_eq, List.length_append, List.length_append]
  have h1 := numsB_len (entNums e)
  have h2 : (entNums e).length = 6 := rfl
  have h3 := textB_len e.key
  have h4 := textB_len e.frag
  omega
def entsB (l : List Ent) : List UInt8 := l.flatMap entB
theorem entsB_snoc (l : List Ent) (k : Nat) (h : k < l.length) : entsB (l.take (k + 1)) = entsB (l.take k) ++ entB l[k] := by
  unfold entsB
  rw [List.take_succ_eq_append_getElem h, List.flatMap_append]
  simp
theorem entsB_len (l : List Ent) (h : l.all entOk = true) : (entsB l).length ≤ 352 * l.length := by
  induction l with
  | nil => simp [entsB]
  | cons x r ih =>
    simp only [List.all_cons, Bool.and_eq_true] at h
    have h1 := entB_len h.1
    have h2 := ih h.2
    unfold entsB at *
    simp only [List.flatMap_cons, List.length_append, List.length_cons]
    omega
theorem entsB_take_len (l : List Ent) (h : l.all entOk = true) (k : Nat) : (entsB (l.take k)).length ≤ 352 * k := by
  have h1 := entsB_len (l.take k) (by rw [List.all_eq_true] at h ⊢; exact fun x hx => h x (List.mem_of_mem_take hx))
  have h2 : (l.take k).length ≤ k := List.length_take_le _ _
  omega
def recNums (r : Rc) : List Int := [r.kind, r.conf.epoch, r.pos, r.last, r.conf.members.length]
theorem recB_eq (r : Rc) : recB r = numsB (recNums r) ++ numsB r.conf.members ++ numB r.entries.length ++ entsB r.entries := by simp [recB, recNums, numsB, entsB, listB]

set_option maxRecDepth 100000 in
set_option maxHeartbeats 8000000 in
theorem encode_c (w : World) (F : Nat → Prop) (r : Rc) (a : Option Addr) (n c : Nat) (a2 : Option Addr) (n2 c2 : Nat) (hr : ShRc.R w F r (recCs r a n c a2 n2 c2)) :
    Calls Try.prog 56 #[rcV r a n c a2 n2 c2] w fun e w' => ∃ a' m' c', e = .returned (.tuple #[.slice a' m' c', .int .i64 (recEnc r).2]) ∧ By.Own w' (new w w') a' m' c' (recEnc r).1 ∧ Kept w w' nix := by
  have HWf := hid (rc_wf hr)
  obtain ⟨a_, n_, c_, a2_, n2_, c2_, he, hM, hMb, hE, hEb, p1, p2, p3, p4⟩ := hr
  simp only [recCs, List.cons.injEq, Value.slice.injEq, and_true, true_and] at he
  obtain ⟨⟨rfl, rfl, rfl⟩, rfl, rfl, rfl⟩ := he
  have hka := alloc_kept w (.cells #[.int .i64 r.kind, .int .i64 r.conf.epoch, .slice a n c, .int .i64 r.pos, .int .i64 r.last, .slice a2 n2 c2] 61)
  have ks := rsound_c (w.alloc (.cells #[.int .i64 r.kind, .int .i64 r.conf.epoch, .slice a n c, .int .i64 r.pos, .int .i64 r.last, .slice a2 n2 c2] 61)) F F r a n c a2 n2 c2 (hM.kept hka (fun _ _ => id)) (hE.kept hka (fun _ _ => id))
  have hBa := Blk.new_ w #[.int .i64 r.kind, .int .i64 r.conf.epoch, .slice a n c, .int .i64 r.pos, .int .i64 r.last, .slice a2 n2 c2] 61
  cases hok : recOk r
  · have E := hid (show recEnc r = ([], 2) by simp [recEnc, hok])
    rw [hok] at ks
    clear hBa
    rw [E.out]
    go_enter Try.func56, Try.ntmps56
    go_wp2_with (go_at_call 125; (with_reducible refine ks.mono ?_); rintro e w1 ⟨rfl, hK1⟩)
    go_ret2
    exact ⟨_, _, _, rfl, Sh.Own.nil _ _ _, hka.n hK1⟩
  · have E := hid (show recEnc r = (recB r, 0) by simp [recEnc, hok])
    have hok2 := hok
    simp only [recOk, cnfOk, Bool.and_eq_true, inB_iff, decide_eq_true_eq] at hok2
    obtain ⟨⟨⟨⟨⟨_, ⟨⟨_, hml⟩, _⟩⟩, _⟩, _⟩, hel⟩, hall⟩ := hok2
    have HA := hid hall
    clear hall
    have HLM := hid hM.len
    have HLE := hid hE.len
    have hn16 : n ≤ 16 := by have := hM.len; omega
    have hn4096 : n2 ≤ 4096 := by have := hE.len; omega
    clear hml hel
    rw [hok] at ks
    have Hok := hid hok
    clear hok
    rw [E.out]
    simp only
    have hns : ∀ x ∈ recNums r, i64p x := by
      intro x hx
      simp only [recNums, List.mem_cons, List.not_mem_nil, or_false] at hx
      rcases hx with rfl | rfl | rfl | rfl | rfl <;> first | assumption | (have := HLM.out; unfold i64p; omega)
    have Hns := hid hns
    clear hns
    go_enter Try.func56, Try.ntmps56
    go_wp2_with (go_at_call 125; (with_reducible refine ks.mono ?_); rintro e w1 ⟨rfl, hK1⟩; have hB1 := hBa.kept hK1 (fun h => h); have q0 := hB1.cell 0; have q1 := hB1.cell 1; have q2 := hB1.cell 2; have q3 := hB1.cell 3; have q4 := hB1.cell 4; have q5 := hB1.cell 5; simp at q0 q1 q2 q3 q4 q5)
    have hkl := alloc_kept w1 (.cells #[.int .i64 r.kind, .int .i64 r.conf.epoch, .int .i64 r.pos, .int .i64 r.last, .int .i64 n] 3)
    have hL := lit_in w1 (recNums r) #[.int .i64 r.kind, .int .i64 r.conf.epoch, .int .i64 r.pos, .int .i64 r.last, .int .i64 n] 3 (0, 0) 5 (by simp [recNums, HLM.out]) rfl (by omega) Hns.out
    have hBl := hB1.kept hkl (fun h => h)
    have hKl := (hka.n hK1).n hkl
    clear hBa hB1
    go_loopw [4, 29] (fun s i wr => ∃ (k m3 : Nat) (a3 : Option Addr) (c3 : Nat) (Fl : Nat → Prop), i = .int .i64 k ∧ s = .slice a3 m3 c3 ∧ By.Own wr (new w wr) a3 m3 c3 (numsB ((recNums r).take k)) ∧ In.Sl wr Fl (some ⟨w1.heap.size, 0, none⟩) 5 5 (recNums r) ∧
      Blk wr w.heap.size #[.int .i64 r.kind, .int .i64 r.conf.epoch, .slice a n c, .int .i64 r.pos, .int .i64 r.last, .slice a2 n2 c2] ∧ Kept w wr nix ∧ k ≤ 5) (fun _ i _ => 5 - (intOf i).toNat)
    case atStart => exact ⟨0, 0, none, 0, _, rfl, rfl, Sh.Own.nil _ _ _, hL, hBl, hKl, by omega⟩
    case round =>
      obtain ⟨k, m3, a3, c3, Fl, rfl, rfl, hS, hLr, hBr, hKw, hk⟩ := hrel
      clear hkl hL hBl hKl
      have hm3 : m3 ≤ 50 := by
        have h1 := hS.len
        have h2 := numsB_take_len (recNums r) k
        omega
      by_cases hlt : k < 5
      · have hkl6 : k < (recNums r).length := hlt
        obtain ⟨g, o, ho, _, hgl, hc⟩ := plain_at hLr k _ (List.getElem?_eq_getElem hkl6)
        injection ho with ho
        injection ho with ho1 ho2
        subst ho1; subst ho2
        rw [Nat.zero_add] at hc
        have hp := Hns.out _ (List.getElem_mem hkl6)
        have HS := hid (numsB_snoc (recNums r) k hkl6)
        generalize (recNums r)[k] = x at *
        have hcall := num_c wr _ a3 m3 c3 _ x hS.sl (by omega) hp.1 hp.2
        go_wp2_with (go_at_call 36; (with_reducible refine hcall.mono ?_); rintro e w2 ⟨a4, m4, rfl, hO, hK2⟩)
        refine ⟨⟨k + 1, m4, a4, m4, Fl, by go_num, rfl, ?_, hLr.kept hK2 (fun _ _ => id), hBr.kept hK2 (fun h => h), hKw.n hK2, by omega⟩, by simp [intOf]; omega⟩
        rw [HS.out]
        exact hO.mono (new_mono hKw.size (Nat.le_refl _))
      · have hge : 5 ≤ k := by omega
        have ht : (recNums r).take k = recNums r := List.take_of_length_le hge
        rw [ht] at hS
        clear ht hlt hLr
        obtain ⟨wl, rfl⟩ : ∃ wl : World, wl = wr := ⟨_, rfl⟩
        have z2 := hBr.cell 2
        simp at z2
        go_wp2_with fail
        go_loopw [4, 41] (fun s i wr => ∃ (k m3 : Nat) (a3 : Option Addr) (c3 : Nat), i = .int .i64 k ∧ s = .slice a3 m3 c3 ∧ By.Own wr (new w wr) a3 m3 c3 (numsB (recNums r) ++ numsB (r.conf.members.take k)) ∧
          Blk wr w.heap.size #[.int .i64 r.kind, .int .i64 r.conf.epoch, .slice a n c, .int .i64 r.pos, .int .i64 r.last, .slice a2 n2 c2] ∧ Kept w wr nix ∧ k ≤ n) (fun _ i _ => n - (intOf i).toNat)
        case atStart => exact ⟨0, m3, a3, c3, rfl, rfl, by simpa [numsB] using hS, hBr, hKw, by omega⟩
        case round =>
          clear hS hBr hKw hm3 z2
          obtain ⟨k, m3, a3, c3, rfl, rfl, hS, hBr, hKw, hk⟩ := hrel
          have hm3 : m3 ≤ 50 + 10 * k := by
            have h1 := hS.len
            have h2 := numsB_len (recNums r)
            have h3 := numsB_take_len r.conf.members k
            have h4 : (recNums r).length = 5 := rfl
            rw [List.length_append] at h1
            omega
          by_cases hlt : k < n
          · have hkl6 : k < r.conf.members.length := by have := HLM.out; omega
            obtain ⟨g, o, rfl, _, hgl, hc⟩ := plain_at hM k _ (List.getElem?_eq_getElem hkl6)
            have hc' := hKw.cell hc (fun h => h)
            have hp := ints_p hM _ (List.getElem_mem hkl6)
            have HS := hid (numsB_snoc r.conf.members k hkl6)
            generalize r.conf.members[k] = x at *
            have hcall := num_c wr _ a3 m3 c3 _ x hS.sl (by omega) hp.1 hp.2
            go_wp2_with (go_at_call 36; (with_reducible refine hcall.mono ?_); rintro e w2 ⟨a4, m4, rfl, hO, hK2⟩)
            refine ⟨⟨k + 1, m4, a4, m4, by go_num, rfl, ?_, hBr.kept hK2 (fun h => h), hKw.n hK2, by omega⟩, by simp [intOf]; omega⟩
            rw [HS.out, ← List.append_assoc]
            exact hO.mono (new_mono hKw.size (Nat.le_refl _))
          · have : k = n := by omega
            subst this
            rw [List.take_of_length_le (by have := HLM.out; omega)] at hS
            clear hlt
            have z5 := hBr.cell 5
            simp at z5
            have hcall := num_c wr _ a3 m3 c3 _ (n2 : Int) hS.sl (by omega) (by omega) (by omega)
            go_wp2_with (go_at_call 36; (with_reducible refine hcall.mono ?_); rintro e w2 ⟨a4, m4, rfl, hO, hK2⟩; have hBs := hBr.kept hK2 (fun h => h); have z6 := hBs.cell 5; simp at z6)
            go_loopw [4, 57] (fun s i wr => ∃ (k m3 : Nat) (a3 : Option Addr) (c3 : Nat), i = .int .i64 k ∧ s = .slice a3 m3 c3 ∧ By.Own wr (new w wr) a3 m3 c3 (numsB (recNums r) ++ numsB r.conf.members ++ numB n2 ++ entsB (r.entries.take k)) ∧ Kept w wr nix ∧ k ≤ n2) (fun _ i _ => n2 - (intOf i).toNat)
            case atStart => exact ⟨0, m4, a4, m4, rfl, rfl, by simpa [entsB] using hO.mono (new_mono hKw.size (Nat.le_refl _)), hKw.n hK2, by omega⟩
            case round =>
              clear hS hBr hKw hm3 z5 z6 hO hBs hcall
              obtain ⟨k, m3, a3, c3, rfl, rfl, hS, hKw, hk⟩ := hrel
              have hm3 : m3 ≤ 300 + 352 * k := by
                have h1 := hS.len
                have h2 := numsB_len (recNums r)
                have h3 := numsB_len r.conf.members
                have h4 : (recNums r).length = 5 := rfl
                have h5 := entsB_take_len r.entries HA.out k
                have h6 := numB_len (n2 : Int)
                have h7 := HLM.out
                simp only [List.length_append] at h1
                omega
              by_cases hlt : k < n2
              · have hkl6 : k < r.entries.length := by have := HLE.out; omega
                obtain ⟨g, o, ai, ni, ci, rfl, _, hgl, hc, hX, hXb, hkb, hwf⟩ := ent_at hE k hkl6
                obtain ⟨c0, c1, c2, c3, c4, c5, c6, c7⟩ := cells8 hKw hc
                clear hc
                have hek : entOk r.entries[k] = true := List.all_eq_true.1 HA.out _ (List.getElem_mem hkl6)
                have HS := hid (entsB_snoc r.entries k hkl6)
                generalize r.entries[k] = x at *
                simp only [entOk, Bool.and_eq_true, inB_iff, decide_eq_true_eq] at hek
                obtain ⟨⟨⟨_, hk16⟩, _⟩, hf256⟩ := hek
                have hni : ni ≤ 256 := by have := hX.len; omega
                have hk0 := alloc_kept wr (.cells #[.int .i64 x.seq, .int .i64 x.client, .int .i64 x.num, .int .i64 x.op, strv x.key, .int .i64 x.size, .int .u32 x.sum, .slice ai ni ci] 72)
                have hcall := put_c _ _ _ a3 m3 _ _ x ai ni ci (hS.sl.kept hk0 (fun _ _ => id)) (hX.kept (hKw.n hk0) (fun _ _ => id)) hwf hkb (by omega)
                have Hwf := hid hwf
                clear hwf
                go_wp2_with (go_at_call 126; (with_reducible refine hcall.mono ?_); rintro e w3 ⟨a5, m5, rfl, hO3, hK3⟩)
                refine ⟨⟨k + 1, m5, a5, m5, by go_num, rfl, ?_, (hKw.n hk0).n hK3, by omega⟩, by simp [intOf]; omega⟩
                rw [HS.out, ← List.append_assoc]
                exact hO3.mono (new_mono (hKw.n hk0).size (Nat.le_refl _))
              · have : k = n2 := by omega
                subst this
                rw [List.take_of_length_le (by have := HLE.out; omega)] at hS
                clear hlt
                have HB := hid (recB_eq r)
                go_wp2_with fail
                go_ret2
                refine ⟨_, _, _, rfl, ?_, hKw⟩
                rw [HB.out, HLE.out]
                exact hS
end Go.Proofs.Ytlhlljjchggnjaa
