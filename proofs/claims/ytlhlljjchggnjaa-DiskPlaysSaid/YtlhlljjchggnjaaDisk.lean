/- The walks of slices.Grow and slices.Concat at bytes. -/
import Derived.Test.YtlhlljjchggnjaaPack2
import Derived.Test.YtlhlljjchggnjaaOpen2
import Derived.Lib.AppendZerosOnto
import Derived.Test.YtlhlljjchggnjaaBase3
namespace Go.Proofs.Ytlhlljjchggnjaa
open Go.RowKit

theorem own_zero (w : World) (C : Array Value) (G : Nat) (hC : C.size = G) (hG : G ≤ 9223372036854775807) :
    By.Own (w.drew.alloc (.cells C 5)) (new w (w.drew.alloc (.cells C 5))) (some ⟨w.heap.size, 0, none⟩) 0 G [] := by
  refine ⟨rfl, Nat.zero_le _, hG, .inr ⟨w.heap.size, 0, [], rfl, ⟨Nat.le_refl _, by simp⟩, by simp, fun j hj => ?_, Sh.Rs.nil, by simp⟩⟩
  have hh : (w.drew.alloc (.cells C 5)).heap[w.heap.size]? = some (.cells C 5 (0, 0)) := heap_alloc_new w.drew _
  have hj' : j < C.size := by
    have : j < G * 1 := hj
    omega
  generalize w.drew.alloc (.cells C 5) = W at hh ⊢
  rw [cell_of_row _ w.heap.size _ C 5 (0, 0) hh]
  refine ⟨?_, ?_⟩
  · rw [Nat.zero_add, Array.getElem?_eq_getElem hj']; rfl
  · simp [World.frozen?, hh]

/-- append(s, make(..)...), its run known, for the walk. -/
theorem wpList_appR {P : Program} {w w' : World} {ops : Array Oper} {rest : List Oper} {o : Oper} {act : Act} {Q : Exit → Act → World → Prop} (hgd : o.guard = none) (s x : Operand) (t tn : TypeId)
    (ho : o.op = .call { callee := .builtin .append, args := #[s, x], argTypes := #[t, tn] }) (vs vx v : Value) (hs : act.eval s = vs) (hx : act.eval x = vx)
    (hr : (Builtin.append_ #[t, tn] o.type #[vs, vx]).run P w = .ok v w')
    (h : wpList P ops Q rest (act.put o.dst v) w') : wpList P ops Q (o :: rest) act w := by
  refine wpList_plain hgd fun K hK => ?_
  unfold Oper.wp execOp
  simp only [ho, resolve, invoke, builtin, Sem.run_bind, Sem.run_pure, Result.andThen_ok, List.map_toArray, List.map_cons, List.map_nil, hs, hx, hr]
  exact hK _ _ h

set_option maxRecDepth 100000 in
set_option maxHeartbeats 1000000 in
theorem grow_c (w : World) (n : Nat) (hn : n ≤ 140737488355328) :
    Calls Try.prog 165 #[.slice none 0 0, .int .i64 n] w fun e w' => ∃ a c, e = .returned (.slice a 0 c) ∧ By.Own w' (new w w') a 0 c [] ∧ Kept w w' nix := by
  by_cases h0 : n = 0
  · subst h0
    go_enter Try.func165, Try.ntmps165
    go_wp2
    go_ret
    exact ⟨_, _, rfl, Sh.Own.nil _ _ _, Kept.refl _ _⟩
  · obtain ⟨i0, hi0, hi1⟩ := Option.map_eq_some_iff.1 infoBy
    simp only [Prod.mk.injEq] at hi1
    obtain ⟨hz, hs, hb⟩ := hi1
    have hrz := Lib.run_append_grow_zeros (P := Try.prog) w 22 3 22 5 i0 (.int .u8 0) .i64 .i64 Try.underlying22 Try.underlying3 hi0 hz none 0 0 [] (run_firstCells_none (P := Try.prog) w.drew _ _ _ _) n (by omega) (by omega) (by omega) (by omega) (by rw [hb]; omega) (growslice_fits (by omega) (by rw [hb]; omega))
    rw [Nat.zero_add] at hrz
    have hGn : n ≤ grownCap w n 0 5 := grownCap_ge w _ _ _
    have hG63 : grownCap w n 0 5 ≤ 9223372036854775807 := by
      have := grownCap_le_maxLen w n 0 5 (by unfold maxLen; omega)
      unfold maxLen at this
      omega
    generalize hG : grownCap w n 0 5 = G at *
    have hO := own_zero w (([] : List Value).toArray ++ Builtin.zeroCells (Value.int .u8 0).cells n ++ Builtin.zeroCells (Value.int .u8 0).cells (G - n)) G (by have h1 : (Value.int .u8 0).cells.size = 1 := rfl; simp [Builtin.zeroCells, h1]; omega) hG63
    have hK := ((Kept.refl w nix).drew).alloc (.cells (([] : List Value).toArray ++ Builtin.zeroCells (Value.int .u8 0).cells n ++ Builtin.zeroCells (Value.int .u8 0).cells (G - n)) 5)
    generalize ([] : List Value).toArray ++ Builtin.zeroCells (Value.int .u8 0).cells n ++ Builtin.zeroCells (Value.int .u8 0).cells (G - n) = C at *
    clear hi0 hG
    go_enter Try.func165, Try.ntmps165
    go_wp2_with (at_builtin; refine wpList_appR rfl (.tmp 20) (.tmp 21) 22 3 rfl _ _ _ rfl rfl hrz ?_)
    go_ret
    exact ⟨_, _, rfl, hO, hK⟩

/-! ### slices.Concat -/
def sumL (l : List (List UInt8)) : Nat := (l.map List.length).sum
theorem sumL_snoc (l : List (List UInt8)) (k : Nat) (h : k < l.length) : sumL (l.take (k + 1)) = sumL (l.take k) + l[k].length := by
  unfold sumL; rw [List.take_succ_eq_append_getElem h, List.map_append, List.sum_append]; simp
theorem sumL_take (l : List (List UInt8)) (k : Nat) : sumL (l.take k) ≤ sumL l := by
  have e : sumL l = sumL (l.take k) + sumL (l.drop k) := by
    conv => lhs; rw [← List.take_append_drop k l]
    unfold sumL
    rw [List.map_append, List.sum_append]
  omega
theorem flat_len (l : List (List UInt8)) : l.flatten.length = sumL l := by rw [List.length_flatten]; rfl
theorem flat_snoc (l : List (List UInt8)) (k : Nat) (h : k < l.length) : (l.take (k + 1)).flatten = (l.take k).flatten ++ l[k] := by
  rw [List.take_succ_eq_append_getElem h, List.flatten_append]; simp

set_option maxRecDepth 100000 in
set_option maxHeartbeats 2000000 in
theorem concat_c (w : World) (F : Nat → Prop) (a : Option Addr) (n c : Nat) (xss : List (List UInt8)) (h : (By.slc 1).Sl w F a n c xss) (hb : sumL xss ≤ 140737488350000) :
    Calls Try.prog 123 #[.slice a n c] w fun e w' => ∃ a' m c', e = .returned (.slice a' m c') ∧ By.Own w' (new w w') a' m c' xss.flatten ∧ Kept w w' nix := by
  have hm := h.max
  have L := hid h.len
  go_enter Try.func123, Try.ntmps123
  go_wp2_with fail
  go_loop [3, 11] (fun s i => ∃ k : Nat, i = .int .i64 k ∧ s = .int .i64 (sumL (xss.take k)) ∧ k ≤ n) (fun _ i => n - (intOf i).toNat)
  case atStart => exact ⟨0, rfl, rfl, by omega⟩
  case round =>
    obtain ⟨k, rfl, rfl, hk⟩ := hrel
    have hsk := sumL_take xss k
    by_cases hkn : k < n
    · have hkl : k < xss.length := by have := L.out; omega
      obtain ⟨g, o, ai, ni, ci, rfl, hgl, hc, hS, hB4⟩ := bys_at h k hkl
      have E := hid (sumL_snoc xss k hkl)
      have hsk1 := sumL_take xss (k + 1)
      have hli := hS.len
      rw [E.out, hli] at hsk1
      go_wp2_with fail
      refine ⟨⟨k + 1, by go_num, by rw [E.out]; go_num, by omega⟩, by simp [intOf]; omega⟩
    · have hkn2 : k = n := by omega
      subst hkn2
      rw [List.take_of_length_le (by have := L.out; omega)]
      go_wp2_with (first | (go_at_call 165; refine (grow_c _ (sumL xss) (by omega)).mono ?_; rintro e w2 ⟨a3, c3, rfl, hO3, hK3⟩))
      go_loopw [6, 27] (fun s i wr => ∃ (k m : Nat) (a' : Option Addr) (c' : Nat), i = .int .i64 k ∧ s = .slice a' m c' ∧ By.Own wr (new w wr) a' m c' (xss.take k).flatten ∧ Kept w wr nix ∧ k ≤ xss.length) (fun _ i _ => xss.length - (intOf i).toNat)
      case atStart => exact ⟨0, 0, a3, c3, rfl, rfl, hO3, hK3, Nat.zero_le _⟩
      case round =>
        obtain ⟨q, m, a4, c4, rfl, rfl, hO4, hK4, hq⟩ := hrel
        by_cases hqn : q < xss.length
        · obtain ⟨g, o, ai, ni, ci, rfl, hgl, hc, hS, hB4⟩ := bys_at h q hqn
          have hc' := hK4.cell hc (fun h => h)
          have E := hid (flat_snoc xss q hqn)
          have hS' := hS.kept hK4 (fun _ _ => id)
          have hSb := hid hS.bound
          have hl4 := hO4.len
          have hsk1 := sumL_take xss (q + 1)
          rw [sumL_snoc xss q hqn, hS.len, ← flat_len, hl4] at hsk1
          have hqk : q < k := by have := L.out; omega
          clear hc
          go_wp2_with (at_builtin; refine wpList_app_plain rfl (.tmp 31) (.tmp 32) 22 5 rfl (.int .u8 0) 1 Try.underlying22 infoBy rfl (by omega) rfl rfl hO4 hS' ?hd ?hb ?_)
          case hd =>
            intro hm g hg hg2
            have q1 := (hO4.blkF hg2).1.1
            have q2 := (hSb.out.blkF hm hg).1.2
            omega
          case hb => omega
          intro a5 c5 w5 hO5 hK5 _
          go_wp2_with fail
          refine ⟨⟨q + 1, m + ni, a5, c5, by go_num, rfl, ?_, hK4.trans hK5 (fun g hlt hg => ?_), by omega⟩, by simp [intOf]; omega⟩
          · rw [E.out]
            exact hO5.mono (fun g hg => hg.elim (new_mono (Nat.le_refl _) hK5.size g) (new_mono hK4.size (Nat.le_refl _) g))
          · have := (hO4.blkF hg).1.1
            omega
        · have hqk : q = k := by have := L.out; omega
          subst hqk
          rw [List.take_of_length_le (by omega)] at hO4
          go_wp2
          go_ret
          exact ⟨_, _, _, rfl, hO4, hK4⟩
end Go.Proofs.Ytlhlljjchggnjaa
