/- The walk of PackBack. -/
import Derived.Test.YtlhlljjchggnjaaLaw5
import Derived.Test.YtlhlljjchggnjaaMath2
import Derived.Test.YtlhlljjchggnjaaOpen
namespace Go.Proofs.Ytlhlljjchggnjaa
open Go.RowKit

def encN (l : List Int) : List UInt8 := l.flatMap numB
def encT (l : List (List UInt8)) : List UInt8 := l.flatMap textB
def sumT (l : List (List UInt8)) : Nat := (l.map List.length).sum
theorem encN_snoc (l : List Int) (k : Nat) (h : k < l.length) : encN (l.take (k + 1)) = encN (l.take k) ++ numB l[k] := by
  unfold encN; rw [List.take_succ_eq_append_getElem h, List.flatMap_append]; simp
theorem encT_snoc (l : List (List UInt8)) (k : Nat) (h : k < l.length) : encT (l.take (k + 1)) = encT (l.take k) ++ textB l[k] := by
  unfold encT; rw [List.take_succ_eq_append_getElem h, List.flatMap_append]; simp
theorem sumT_snoc (l : List (List UInt8)) (k : Nat) (h : k < l.length) : sumT (l.take (k + 1)) = sumT (l.take k) + l[k].length := by
  unfold sumT; rw [List.take_succ_eq_append_getElem h, List.map_append, List.sum_append]; simp
theorem encN_len (l : List Int) : (encN l).length ≤ 10 * l.length := by
  unfold encN
  induction l with
  | nil => simp
  | cons a r ih => have := numB_len a; simp only [List.flatMap_cons, List.length_append, List.length_cons]; omega
theorem encT_len (l : List (List UInt8)) : (encT l).length ≤ 10 * l.length + sumT l := by
  unfold encT sumT
  induction l with
  | nil => simp
  | cons a r ih => have := numB_len (a.length : Int); simp only [List.flatMap_cons, List.length_append, List.length_cons, List.map_cons, List.sum_cons, textB]; omega
theorem encN_drop (l : List Int) (k : Nat) (h : k < l.length) : encN (l.drop k) = numB l[k] ++ encN (l.drop (k + 1)) := by
  unfold encN; rw [List.drop_eq_getElem_cons h, List.flatMap_cons]
theorem encT_drop (l : List (List UInt8)) (k : Nat) (h : k < l.length) : encT (l.drop k) = textB l[k] ++ encT (l.drop (k + 1)) := by
  unfold encT; rw [List.drop_eq_getElem_cons h, List.flatMap_cons]

theorem opInts : Opens Try.prog 29 (In.slc 8) := opens_slice Try.underlying29 (opens_i64 Try.underlying3) (by kernel_rfl) (by kernel_rfl)
theorem opByss : Opens Try.prog 30 ((By.slc 1).slc 24) := opens_slice Try.underlying30 opBytes (by kernel_rfl) (by kernel_rfl)

/-- An element of a slice of slices of bytes. -/
theorem bys_at {w : World} {F : Nat → Prop} {a : Option Addr} {n c : Nat} {xs : List (List UInt8)} (h : (By.slc 1).Sl w F a n c xs) (i : Nat) (hi : i < xs.length) :
    ∃ g o ai ni ci, a = some ⟨g, o, none⟩ ∧ g < w.heap.size ∧ w.cell? ⟨g, o + i, none⟩ = some (.slice ai ni ci) ∧ By.Sl w F ai ni ci xs[i] ∧ ni ≤ maxB := by
  obtain ⟨g, o, cs, e, _, hlt, ⟨ai, ni, ci, hcs, hS, hB⟩, hc⟩ := h.elem i _ (List.getElem?_eq_getElem hi)
  subst hcs
  have hc0 := hc 0 _ rfl
  rw [show i * (By.slc 1).k + 0 = i from by show i * 1 + 0 = i; omega] at hc0
  exact ⟨g, o, ai, ni, ci, e, hlt, hc0, hS, by omega⟩

theorem encN_drop2 (l : List Int) (k m : Nat) (h : k < m) (h2 : k < l.length) : encN ((l.take m).drop k) = numB l[k] ++ encN ((l.take m).drop (k + 1)) := by
  rw [encN_drop (l.take m) k (by rw [List.length_take]; omega), List.getElem_take]
theorem encT_drop2 (l : List (List UInt8)) (k m : Nat) (h : k < m) (h2 : k < l.length) : encT ((l.take m).drop k) = textB l[k] ++ encT ((l.take m).drop (k + 1)) := by
  rw [encT_drop (l.take m) k (by rw [List.length_take]; omega), List.getElem_take]
theorem encT_nil (l : List (List UInt8)) (k m : Nat) (h : l.length ≤ k ∨ m ≤ k) : encT ((l.take m).drop k) = [] := by
  rw [List.drop_eq_nil_of_le (by rw [List.length_take]; omega)]; rfl
theorem encN_nil (l : List Int) (k m : Nat) (h : l.length ≤ k ∨ m ≤ k) : encN ((l.take m).drop k) = [] := by
  rw [List.drop_eq_nil_of_le (by rw [List.length_take]; omega)]; rfl
theorem take_end {α : Type} (l : List α) (k m : Nat) (h : (l.length ≤ k ∧ k ≤ m) ∨ k = m) : l.take k = l.take m := by
  rcases h with h | h
  · rw [List.take_of_length_le (by omega), List.take_of_length_le (by omega)]
  · rw [h]

theorem sumT_take (l : List (List UInt8)) (k m : Nat) (h : k ≤ m) : sumT (l.take k) ≤ sumT (l.take m) := by
  have e : l.take m = l.take k ++ (l.take m).drop k := by
    conv => lhs; rw [← List.take_append_drop k (l.take m), List.take_take, Nat.min_eq_left h]
  rw [e]
  unfold sumT
  rw [List.map_append, List.sum_append]
  omega
theorem sumT_drop (l : List (List UInt8)) (k : Nat) : sumT (l.drop k) ≤ sumT l := by
  have e : sumT l = sumT (l.take k) + sumT (l.drop k) := by
    conv => lhs; rw [← List.take_append_drop k l]
    unfold sumT
    rw [List.map_append, List.sum_append]
  omega
theorem sumT_mem (l : List (List UInt8)) (k m : Nat) (h : k < m) (hl : k < l.length) : sumT (l.take k) + l[k].length ≤ sumT (l.take m) := by
  rw [← sumT_snoc l k hl]
  exact sumT_take l (k + 1) m h

set_option maxRecDepth 100000 in
set_option maxHeartbeats 4000000 in
theorem packback_c (w : World) (F1 F2 : Nat → Prop) (a1 a2 : Option Addr) (n1 c1 n2 c2 : Nat) (ns : List Int) (ts : List (List UInt8)) (h1 : In.Sl w F1 a1 n1 c1 ns) (h2 : (By.slc 1).Sl w F2 a2 n2 c2 ts) :
    Calls Try.prog 4 #[.slice a1 n1 c1, .slice a2 n2 c2] w fun e w' => e = .returned (.bool true) ∧ Kept w w' nix := by
  have hm1 := h1.max
  have hm2 := h2.max
  have L1 := hid h1.len
  have L2 := hid h2.len
  have hown := (own_empty w 5).sl
  have hkE := alloc_kept w (.cells #[] 5)
  have NB := hid (fun x hx => plain_p h1 x hx)
  rcases Nat.lt_or_ge 30 n1 with hA | hA <;> rcases Nat.lt_or_ge 10 n2 with hB | hB
  all_goals
    go_enter Try.func4, Try.ntmps4
    go_wp2_with fail
    go_loopw [5, 6] (fun b i wr => ∃ (k m m2 : Nat) (a3 : Option Addr), i = .int .i64 k ∧ b = .slice a3 m m2 ∧ By.Sl wr (new w wr) a3 m m2 (encN (ns.take k)) ∧ Kept w wr nix ∧ k ≤ n1 ∧ k ≤ 30) (fun _ i _ => 30 - (intOf i).toNat)
    case atStart => exact ⟨0, 0, 0, _, rfl, rfl, by simpa [encN] using hown, hkE, by omega, by omega⟩
    case round =>
      obtain ⟨k, m, m2, a3, rfl, rfl, hB1, hK, hkn, hk30⟩ := hrel
      by_cases hlt : k < n1 ∧ k < 30
      · obtain ⟨hlt1, hlt2⟩ := hlt
        have hkl : k < ns.length := by have := L1.out; omega
        obtain ⟨g, o, rfl, _, hgl, hc⟩ := plain_at h1 k _ (List.getElem?_eq_getElem hkl)
        have hc' := hK.cell hc (fun h => h)
        have hx := NB.out _ (List.getElem_mem hkl)
        have E := hid (encN_snoc ns k hkl)
        have hlen := hB1.len
        have hl2 := encN_len (ns.take k)
        rw [List.length_take] at hl2
        generalize ns[k] = x at *
        clear hc
        go_wp2_with (first | (go_at_call 36; refine (num_c _ _ _ _ _ _ x hB1 (by omega) hx.1 hx.2).mono ?_; rintro e w2 ⟨a4, m4, rfl, hO, hK2⟩))
        refine ⟨⟨k + 1, m4, m4, a4, by go_num, rfl, ?_, hK.n hK2, by omega, by omega⟩, by simp [intOf]; omega⟩
        rw [E.out]
        exact hO.sl.mono (new_mono hK.size (Nat.le_refl _))
      · have hk0 := take_end ns k 30 (by have := L1.out; omega)
        rw [hk0] at hB1
        have hlen := hB1.len
        have hlN := encN_len (ns.take 30)
        rw [List.length_take] at hlN
        have hw1 := hid hB1
        have hw2 := hid hK
        clear hB1 hK hkE hown hk0
        go_wp2_with fail
        go_loop [7, 8] (fun b i => ∃ (k m : Nat), i = .int .i64 k ∧ b = .int .i64 m ∧ m = sumT (ts.take k) ∧ k ≤ n2 ∧ k ≤ 10 ∧ m ≤ 140737488355000) (fun _ i => 10 - (intOf i).toNat)
        case atStart => exact ⟨0, 0, rfl, rfl, rfl, by omega, by omega, by omega⟩
        case round =>
          obtain ⟨j, s, rfl, rfl, hs, hjn, hj10, hsm⟩ := hrel
          by_cases hlt2 : j < n2 ∧ j < 10 ∧ s < 500
          · obtain ⟨hlt21, hlt22, hlt23⟩ := hlt2
            have hjl : j < ts.length := by have := L2.out; omega
            obtain ⟨g, o, ai, ni, ci, rfl, hgl, hc, hS, hB4⟩ := bys_at h2 j hjl
            have hc' := hw2.out.cell hc (fun h => h)
            have E := hid (sumT_snoc ts j hjl)
            have hli := hS.len
            unfold maxB at hB4
            clear hc
            go_wp2_with fail
            refine ⟨⟨j + 1, s + ni, by go_num, by go_num, by rw [E.out]; omega, by omega, by omega, by omega⟩, by simp [intOf]; omega⟩
          · by_cases hs5 : 500 ≤ s
            · go_wp2_with (first
                | (go_at_call 35; refine (awake5_c _).mono ?_; rintro e w2 ⟨rfl, hK2⟩))
              all_goals
                go_ret
                exact ⟨rfl, hw2.out.n hK2⟩
            · have hk2 := take_end ts j 10 (by have := L2.out; omega)
              rw [hk2] at hs
              have hlT := encT_len (ts.take 10)
              rw [← hs, List.length_take] at hlT
              clear hk2
              go_wp2_with fail
              have hs5' : sumT (ts.take 10) < 500 := by omega
              clear hs5 hsm
              go_loopw [5, 9] (fun b i wr => ∃ (k m m2 : Nat) (a3 : Option Addr), i = .int .i64 k ∧ b = .slice a3 m m2 ∧ By.Sl wr (new w wr) a3 m m2 (encN (ns.take 30) ++ encT (ts.take k)) ∧ Kept w wr nix ∧ k ≤ n2 ∧ k ≤ 10) (fun _ i _ => 10 - (intOf i).toNat)
              case atStart => exact ⟨0, m, m2, a3, rfl, rfl, by simpa [encT] using hw1.out, hw2.out, by omega, by omega⟩
              case round =>
                obtain ⟨q, m3, m4, a4, rfl, rfl, hB3, hK3, hqn, hq10⟩ := hrel
                clear hw1 hw2
                by_cases hlt3 : q < n2 ∧ q < 10
                · obtain ⟨hlt31, hlt32⟩ := hlt3
                  have hql : q < ts.length := by have := L2.out; omega
                  obtain ⟨g, o, ai, ni, ci, rfl, hgl, hc, hS, hB4⟩ := bys_at h2 q hql
                  have hc' := hK3.cell hc (fun h => h)
                  have hS' := hS.kept hK3 (fun _ _ => id)
                  have E := hid (encT_snoc ts q hql)
                  have hli := hS.len
                  have hlen3 := hB3.len
                  have hle3 := encT_len (ts.take q)
                  have hle4 : sumT (ts.take q) ≤ sumT (ts.take 10) := sumT_take ts q 10 hq10
                  have hle5 := sumT_mem ts q 10 hlt32 hql
                  rw [List.length_take] at hle3
                  rw [List.length_append] at hlen3
                  clear hc
                  go_wp2_with (first | (go_at_call 38; refine (text_c _ _ _ _ _ _ _ _ _ _ _ hB3 hS' (by omega)).mono ?_; rintro e w2 ⟨a5, m5, rfl, hO, hK2⟩))
                  refine ⟨⟨q + 1, m5, m5, a5, by go_num, rfl, ?_, hK3.n hK2, by omega, by omega⟩, by simp [intOf]; omega⟩
                  rw [E.out, ← List.append_assoc]
                  exact hO.sl.mono (new_mono hK3.size (Nat.le_refl _))
                · rw [take_end ts q 10 (by have := L2.out; omega)] at hB3
                  have hlen3 := hB3.len
                  rw [List.length_append] at hlen3
                  go_wp2_with (first | (go_at_call 40; refine (new_c _ _ _ _ _ _ hB3 (by omega)).mono ?_; rintro e w3 ⟨g3, rfl, hR3, hK3b⟩))
                  have hg3 : w.heap.size ≤ g3 := Nat.le_trans hK3.size hR3.1.1
                  have hK4 := hid (hK3.n hK3b)
                  have hR4 := hid (hR3.mono (new_mono hK3.size (Nat.le_refl _)))
                  clear hK3 hR3 hK3b hB3
                  go_loopw [11] (fun i wr => ∃ (k : Nat), i = .int .i64 k ∧ RdrAt wr (new w wr) g3 (encN ((ns.take 30).drop k) ++ encT (ts.take 10), false) ∧ Kept w wr nix ∧ k ≤ n1 ∧ k ≤ 30) (fun i _ => 30 - (intOf i).toNat)
                  case atStart => exact ⟨0, rfl, hR4.out, hK4.out, by omega, by omega⟩
                  case round =>
                    obtain ⟨u, rfl, hR5, hK5, hun, hu30⟩ := hrel
                    clear hR4 hK4
                    by_cases hlt4 : u < n1 ∧ u < 30
                    · obtain ⟨hlt41, hlt42⟩ := hlt4
                      have hul : u < ns.length := by have := L1.out; omega
                      obtain ⟨g, o, rfl, _, hgl, hc⟩ := plain_at h1 u _ (List.getElem?_eq_getElem hul)
                      have hc' := fun W (h : Kept w W nix) => h.cell hc (fun h => h)
                      have hx := NB.out _ (List.getElem_mem hul)
                      rw [encN_drop2 ns u 30 hlt42 hul, List.append_assoc] at hR5
                      generalize ns[u] = x at *
                      clear hc
                      have E := rNum_numB x hx.1 hx.2 (encN ((ns.take 30).drop (u + 1)) ++ encT (ts.take 10)) false
                      have hR6 := hR5.kept (Kept.refl _ nix).drew (fun _ _ => id)
                      have hcall := rnum_c _ _ _ _ hR6
                      rw [E] at hcall
                      go_wp2_with fail
                      have s0_0 : Kept w wr.drew nix := (hK5).drew
                      refine wp_region_held (S := fun W => Kept w W nix ∧ True) (by kernel_rfl) ?_
                      have HS : Kept w wr.drew nix ∧ True := ⟨s0_0, trivial⟩
                      show wpAnyH _ _ _ _ _ _ _ _ wr.drew
                      refine wpAnyH_take (i := 0) (oi := { dst := some 82, op := Op.move (Operand.tmp 10), type := 31, pos := "law.go:46", after := #[], guard := none }) (v := ?_) rfl (by kernel_rfl) (by kernel_rfl) (by kernel_rfl) (fun _ _ _ h => h) (.inl ⟨by rfl, fun W hS => ?_⟩) HS ?_
                      rotate_left
                      · obtain ⟨t0, -⟩ := hS
                        go_simp
                        try with_reducible rfl
                      rotate_left
                      try simp only [Act.put, List.setIfInBounds_toArray, List.set_cons_zero, List.set_cons_succ]
                      refine wpAnyH_take (i := 2) (oi := { dst := some 84, op := Op.move (Operand.tmp 0), type := 29, pos := "law.go:46", after := #[], guard := none }) (v := ?_) rfl (by kernel_rfl) (by kernel_rfl) (by kernel_rfl) (fun _ _ _ h => h) (.inl ⟨by rfl, fun W hS => ?_⟩) HS ?_
                      rotate_left
                      · obtain ⟨t0, -⟩ := hS
                        go_simp
                        try with_reducible rfl
                      rotate_left
                      try simp only [Act.put, List.setIfInBounds_toArray, List.set_cons_zero, List.set_cons_succ]
                      refine wpAnyH_take (i := 3) (oi := { dst := some 85, op := Op.move (Operand.tmp 11), type := 3, pos := "law.go:46", after := #[], guard := none }) (v := ?_) rfl (by kernel_rfl) (by kernel_rfl) (by kernel_rfl) (fun _ _ _ h => h) (.inl ⟨by rfl, fun W hS => ?_⟩) HS ?_
                      rotate_left
                      · obtain ⟨t0, -⟩ := hS
                        go_simp
                        try with_reducible rfl
                      rotate_left
                      try simp only [Act.put, List.setIfInBounds_toArray, List.set_cons_zero, List.set_cons_succ]
                      refine wpAnyH_take (i := 4) (oi := { dst := some 86, op := Op.indexAddr 29 (Operand.tmp 84) (Operand.tmp 85), type := 0, pos := "law.go:46", after := #[{ on := 2, ground := Ground.data }, { on := 3, ground := Ground.data }], guard := none }) (v := ?_) rfl (by kernel_rfl) (by kernel_rfl) (by kernel_rfl) (fun _ _ _ h => h) (.inl ⟨by rfl, fun W hS => ?_⟩) HS ?_
                      rotate_left
                      · obtain ⟨t0, -⟩ := hS
                        go_simp
                        try with_reducible rfl
                      rotate_left
                      try simp only [Act.put, List.setIfInBounds_toArray, List.set_cons_zero, List.set_cons_succ]
                      refine wpAnyH_take (i := 5) (oi := { dst := some 87, op := Op.load 3 (Operand.tmp 86), type := 3, pos := "law.go:46", after := #[{ on := 4, ground := Ground.data }], guard := none }) (v := ?_) rfl (by kernel_rfl) (by kernel_rfl) (by kernel_rfl) (fun _ _ _ h => h) (.inl ⟨by rfl, fun W hS => ?_⟩) HS ?_
                      rotate_left
                      · obtain ⟨t0, -⟩ := hS
                        go_simp
                        try with_reducible rfl
                      rotate_left
                      try simp only [Act.put, List.setIfInBounds_toArray, List.set_cons_zero, List.set_cons_succ]
                      refine wpAnyH_one (i := 1) (oi := { dst := some 83, op := Op.call { callee := Callee.value (Operand.func 41), args := #[Operand.tmp 82], argTypes := #[31] }, type := 3, pos := "law.go:46", after := #[{ on := 0, ground := Ground.data }], guard := none }) rfl (by kernel_rfl) (by rfl) (fun K hK => ?_)
                      go_simp
                      refine hcall.mono ?_; rintro e w2 ⟨rfl, hR2, hK2⟩
                      have s0_1 := s0_0.o hK2 hg3
                      have s1_1 := Kept.refl w2 nix
                      clear HS
                      refine hK _ _ (fun W => Kept w2 W nix ∧ Kept w W nix ∧ True) ⟨s1_1, s0_1, trivial⟩ (fun _ h => h.2) ?_
                      have HS : Kept w2 w2 nix ∧ Kept w w2 nix ∧ True := ⟨s1_1, s0_1, trivial⟩
                      clear hK K
                      try simp only [Act.put, List.setIfInBounds_toArray, List.set_cons_zero, List.set_cons_succ]
                      refine wpAnyH_take (i := 6) (oi := { dst := some 88, op := Op.binOp BinOp.neq 3 (Operand.tmp 83) (Operand.tmp 87) 3, type := 4, pos := "law.go:46", after := #[{ on := 1, ground := Ground.data }, { on := 5, ground := Ground.data }], guard := none }) (v := ?_) rfl (by kernel_rfl) (by kernel_rfl) (by kernel_rfl) (fun _ _ _ h => h) (.inl ⟨by rfl, fun W hS => ?_⟩) HS ?_
                      rotate_left
                      · obtain ⟨t1, t0, -⟩ := hS
                        go_simp
                        try with_reducible rfl
                      rotate_left
                      try simp only [Act.put, List.setIfInBounds_toArray, List.set_cons_zero, List.set_cons_succ]
                      refine wpAnyH_done (by kernel_rfl) ?_ _
                      go_wp2_with fail
                      refine ⟨⟨u + 1, by go_num, ?_, s0_1, by omega, by omega⟩, by simp [intOf]; omega⟩
                      exact hR2.mono (new_mono (Nat.le_refl _) hK2.size)
                    · rw [encN_nil ns u 30 (by have := L1.out; omega), List.nil_append] at hR5
                      have hR6 := hid hR5
                      have hK6 := hid hK5
                      clear hR5 hK5
                      go_wp2_with fail
                      go_loopw [12] (fun i wr => ∃ (k : Nat), i = .int .i64 k ∧ RdrAt wr (new w wr) g3 (encT ((ts.take 10).drop k), false) ∧ Kept w wr nix ∧ k ≤ n2 ∧ k ≤ 10) (fun i _ => 10 - (intOf i).toNat)
                      case atStart => exact ⟨0, rfl, hR6.out, hK6.out, by omega, by omega⟩
                      case round =>
                        obtain ⟨v, rfl, hR5, hK5, hvn, hv10⟩ := hrel
                        clear hR6 hK6
                        by_cases hlt5 : v < n2 ∧ v < 10
                        · obtain ⟨hlt51, hlt52⟩ := hlt5
                          have hvl : v < ts.length := by have := L2.out; omega
                          obtain ⟨g, o, ai, ni, ci, rfl, hgl, hc, hS, hB4⟩ := bys_at h2 v hvl
                          have hc' := fun W (h : Kept w W nix) => h.cell hc (fun h => h)
                          have hst := fun W (h : Kept w W nix) => strBy (hS.kept h (fun _ _ => id))
                          have hli := hS.len
                          rw [encT_drop2 ts v 10 hlt52 hvl] at hR5
                          have hle := encT_len ((ts.take 10).drop (v + 1))
                          have hle2 := sumT_drop (ts.take 10) (v + 1)
                          have hle3 := sumT_mem ts v 10 hlt52 hvl
                          rw [List.length_drop, List.length_take] at hle
                          generalize ts[v] = x at *
                          clear hc
                          have hle4 := numB_len (x.length : Int)
                          have hlx : (textB x ++ encT ((ts.take 10).drop (v + 1))).length ≤ 2000 := by
                            rw [List.length_append, textB, List.length_append]
                            omega
                          have E := rText_textB x (by omega) (encT ((ts.take 10).drop (v + 1))) false
                          have hR6 := hR5.kept (Kept.refl _ nix).drew (fun _ _ => id)
                          have hcall := rtext_c _ _ _ _ hR6 (fun k hk => hk.2) (by simp only; omega)
                          rw [E] at hcall
                          go_wp2_with fail
                          have s0_0 : Kept w wr.drew nix := (hK5).drew
                          refine wp_region_held (S := fun W => Kept w W nix ∧ True) (by kernel_rfl) ?_
                          have HS : Kept w wr.drew nix ∧ True := ⟨s0_0, trivial⟩
                          show wpAnyH _ _ _ _ _ _ _ _ wr.drew
                          refine wpAnyH_take (i := 0) (oi := { dst := some 99, op := Op.move (Operand.tmp 10), type := 31, pos := "law.go:51", after := #[], guard := none }) (v := ?_) rfl (by kernel_rfl) (by kernel_rfl) (by kernel_rfl) (fun _ _ _ h => h) (.inl ⟨by rfl, fun W hS => ?_⟩) HS ?_
                          rotate_left
                          · obtain ⟨t0, -⟩ := hS
                            go_simp
                            try with_reducible rfl
                          rotate_left
                          try simp only [Act.put, List.setIfInBounds_toArray, List.set_cons_zero, List.set_cons_succ]
                          refine wpAnyH_take (i := 3) (oi := { dst := some 102, op := Op.move (Operand.tmp 1), type := 30, pos := "law.go:51", after := #[], guard := none }) (v := ?_) rfl (by kernel_rfl) (by kernel_rfl) (by kernel_rfl) (fun _ _ _ h => h) (.inl ⟨by rfl, fun W hS => ?_⟩) HS ?_
                          rotate_left
                          · obtain ⟨t0, -⟩ := hS
                            go_simp
                            try with_reducible rfl
                          rotate_left
                          try simp only [Act.put, List.setIfInBounds_toArray, List.set_cons_zero, List.set_cons_succ]
                          refine wpAnyH_take (i := 4) (oi := { dst := some 103, op := Op.move (Operand.tmp 12), type := 3, pos := "law.go:51", after := #[], guard := none }) (v := ?_) rfl (by kernel_rfl) (by kernel_rfl) (by kernel_rfl) (fun _ _ _ h => h) (.inl ⟨by rfl, fun W hS => ?_⟩) HS ?_
                          rotate_left
                          · obtain ⟨t0, -⟩ := hS
                            go_simp
                            try with_reducible rfl
                          rotate_left
                          try simp only [Act.put, List.setIfInBounds_toArray, List.set_cons_zero, List.set_cons_succ]
                          refine wpAnyH_take (i := 5) (oi := { dst := some 104, op := Op.indexAddr 30 (Operand.tmp 102) (Operand.tmp 103), type := 0, pos := "law.go:51", after := #[{ on := 3, ground := Ground.data }, { on := 4, ground := Ground.data }], guard := none }) (v := ?_) rfl (by kernel_rfl) (by kernel_rfl) (by kernel_rfl) (fun _ _ _ h => h) (.inl ⟨by rfl, fun W hS => ?_⟩) HS ?_
                          rotate_left
                          · obtain ⟨t0, -⟩ := hS
                            go_simp
                            try with_reducible rfl
                          rotate_left
                          try simp only [Act.put, List.setIfInBounds_toArray, List.set_cons_zero, List.set_cons_succ]
                          refine wpAnyH_take (i := 6) (oi := { dst := some 105, op := Op.load 22 (Operand.tmp 104), type := 22, pos := "law.go:51", after := #[{ on := 5, ground := Ground.data }], guard := none }) (v := ?_) rfl (by kernel_rfl) (by kernel_rfl) (by kernel_rfl) (fun _ _ _ h => h) (.inl ⟨by rfl, fun W hS => ?_⟩) HS ?_
                          rotate_left
                          · obtain ⟨t0, -⟩ := hS
                            go_simp
                            try with_reducible rfl
                          rotate_left
                          try simp only [Act.put, List.setIfInBounds_toArray, List.set_cons_zero, List.set_cons_succ]
                          refine wpAnyH_take (i := 7) (oi := { dst := some 106, op := Op.convert 22 9 (Operand.tmp 105), type := 9, pos := "law.go:51", after := #[{ on := 6, ground := Ground.data }], guard := none }) (v := ?_) rfl (by kernel_rfl) (by kernel_rfl) (by kernel_rfl) (fun _ _ _ h => h) (.inl ⟨by rfl, fun W hS => ?_⟩) HS ?_
                          rotate_left
                          · obtain ⟨t0, -⟩ := hS
                            go_simp
                            try with_reducible rfl
                          rotate_left
                          try simp only [Act.put, List.setIfInBounds_toArray, List.set_cons_zero, List.set_cons_succ]
                          refine wpAnyH_one (i := 1) (oi := { dst := some 100, op := Op.call { callee := Callee.value (Operand.func 42), args := #[Operand.tmp 99], argTypes := #[31] }, type := 22, pos := "law.go:51", after := #[{ on := 0, ground := Ground.data }], guard := none }) rfl (by kernel_rfl) (by rfl) (fun K hK => ?_)
                          go_simp
                          refine hcall.mono ?_; rintro e w2 ⟨a5, n5, c5, rfl, hO2, hR2, hK2⟩
                          have q1 := fun W (hK : Kept w2 W nix) => strBy (hO2.sl.kept hK (fun _ _ => id))
                          have s0_1 := s0_0.o hK2 hg3
                          have s1_1 := Kept.refl w2 nix
                          clear HS
                          refine hK _ _ (fun W => Kept w2 W nix ∧ Kept w W nix ∧ True) ⟨s1_1, s0_1, trivial⟩ (fun _ h => h.2) ?_
                          have HS : Kept w2 w2 nix ∧ Kept w w2 nix ∧ True := ⟨s1_1, s0_1, trivial⟩
                          clear hK K
                          try simp only [Act.put, List.setIfInBounds_toArray, List.set_cons_zero, List.set_cons_succ]
                          refine wpAnyH_take (i := 2) (oi := { dst := some 101, op := Op.convert 22 9 (Operand.tmp 100), type := 9, pos := "law.go:51", after := #[{ on := 1, ground := Ground.data }], guard := none }) (v := ?_) rfl (by kernel_rfl) (by kernel_rfl) (by kernel_rfl) (fun _ _ _ h => h) (.inl ⟨by rfl, fun W hS => ?_⟩) HS ?_
                          rotate_left
                          · obtain ⟨t1, t0, -⟩ := hS
                            go_simp
                            try with_reducible rfl
                          rotate_left
                          try simp only [Act.put, List.setIfInBounds_toArray, List.set_cons_zero, List.set_cons_succ]
                          refine wpAnyH_take (i := 8) (oi := { dst := some 107, op := Op.binOp BinOp.neq 9 (Operand.tmp 101) (Operand.tmp 106) 9, type := 4, pos := "law.go:51", after := #[{ on := 2, ground := Ground.data }, { on := 7, ground := Ground.data }], guard := none }) (v := ?_) rfl (by kernel_rfl) (by kernel_rfl) (by kernel_rfl) (fun _ _ _ h => h) (.inl ⟨by rfl, fun W hS => ?_⟩) HS ?_
                          rotate_left
                          · obtain ⟨t1, t0, -⟩ := hS
                            go_simp
                            try with_reducible rfl
                          rotate_left
                          try simp only [Act.put, List.setIfInBounds_toArray, List.set_cons_zero, List.set_cons_succ]
                          refine wpAnyH_done (by kernel_rfl) ?_ _
                          go_wp2_with fail
                          refine ⟨⟨v + 1, by go_num, ?_, s0_1, by omega, by omega⟩, by simp [intOf]; omega⟩
                          exact hR2.mono (new_mono (Nat.le_refl _) hK2.size)
                        · rw [encT_nil ts v 10 (by have := L2.out; omega)] at hR5
                          go_wp2_with (first
                            | (go_at_call 35; refine (awake5_c _).mono ?_; rintro e w2 ⟨rfl, hK2⟩; have hR6 := hR5.kept hK2 (fun _ _ => id))
                            | (go_at_call 43; refine (rend_c _ _ _ _ hR6).mono ?_; rintro e w8 ⟨rfl, rfl⟩))
                          go_ret
                          exact ⟨rfl, hK5.n hK2⟩
end Go.Proofs.Ytlhlljjchggnjaa
