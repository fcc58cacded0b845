/- The walks of package entry: Put, Same. -/
import Derived.Test.YtlhlljjchggnjaaEntry2
import Derived.Test.YtlhlljjchggnjaaConv
import Derived.Test.YtlhlljjchggnjaaLaw5
namespace Go.Proofs.Ytlhlljjchggnjaa
open Go.RowKit

/-- A literal's new block of whole numbers. -/
theorem lit_in (w : World) (xs : List Int) (arr : Array Value) (e : TypeId) (fr : Nat × Nat) (n : Nat) (harr : arr = (xs.map (Value.int .i64)).toArray) (hn : xs.length = n) (hm : n ≤ 9223372036854775807) (hp : ∀ x ∈ xs, i64p x) :
    In.Sl (w.alloc (.cells arr e fr)) (new w (w.alloc (.cells arr e fr))) (some ⟨w.heap.size, 0, none⟩) n n xs := lit_sl w xs arr e fr n harr hn hm hp
def numsB (l : List Int) : List UInt8 := l.flatMap numB
theorem numsB_len (l : List Int) : (numsB l).length ≤ 10 * l.length := by
  induction l with
  | nil => simp [numsB]
  | cons x r ih =>
    have := numB_len x
    unfold numsB at *
    simp only [List.flatMap_cons, List.length_append, List.length_cons]
    omega
theorem numsB_snoc (l : List Int) (k : Nat) (h : k < l.length) : numsB (l.take (k + 1)) = numsB (l.take k) ++ numB l[k] := by
  unfold numsB
  rw [List.take_succ_eq_append_getElem h, List.flatMap_append]
  simp
theorem numsB_take_len (l : List Int) (k : Nat) : (numsB (l.take k)).length ≤ 10 * k := by
  have h1 := numsB_len (l.take k)
  have h2 : (l.take k).length ≤ k := List.length_take_le _ _
  omega
theorem textB_len (s : List UInt8) : (textB s).length ≤ s.length + 10 := by
  have := numB_len (s.length : Int)
  rw [textB, List.length_append]
  omega
def entNums (e : Ent) : List Int := [e.seq, e.client, e.num, e.op, e.size, e.sum]
theorem entB_eq (e : Ent) : entB e = numsB (entNums e) ++ textB e.key ++ textB e.frag := by simp [entB, entNums, numsB]

set_option maxRecDepth 100000 in
set_option maxHeartbeats 4000000 in
theorem put_c (w : World) (F F2 : Nat → Prop) (b : Option Addr) (m cb : Nat) (bs : List UInt8) (e : Ent) (a : Option Addr) (n c : Nat) (hb : By.Sl w F b m cb bs) (hf : By.Sl w F2 a n c e.frag) (hw : e.Wf) (hkl : e.key.length ≤ maxB) (hsz : m + e.key.length + n ≤ 140737488340000) :
    Calls Try.prog 126 #[.slice b m cb, entV e a n c] w fun r w' => ∃ a' m', r = .returned (.slice a' m' m') ∧ By.Own w' (new w w') a' m' m' (bs ++ entB e) ∧ Kept w w' nix := by
  have hns : ∀ x ∈ entNums e, i64p x := by
    obtain ⟨h1, h2, h3, h4, h5, h6, _⟩ := hw
    intro x hx
    simp only [entNums, List.mem_cons, List.not_mem_nil, or_false] at hx
    rcases hx with rfl | rfl | rfl | rfl | rfl | rfl <;> first | assumption | (unfold i64p; omega)
  have hsum := hw.2.2.2.2.2.1
  have HW := hid hw
  clear hw
  have hka := alloc_kept w (.cells (entCs e a n c).toArray 72)
  have hkb := alloc_kept (w.alloc (.cells (entCs e a n c).toArray 72)) (.cells ((entNums e).map (Value.int .i64)).toArray 3)
  have hBa := (Blk.new_ w (entCs e a n c).toArray 72).kept hkb (fun h => h)
  have hL := lit_in (w.alloc (.cells (entCs e a n c).toArray 72)) (entNums e) _ 3 (0, 0) 6 rfl rfl (by omega) hns
  rw [World.size_alloc] at hL
  have hbB := hb.kept (hka.n hkb) (fun _ _ => id)
  have E : entNums e = [e.seq, e.client, e.num, e.op, e.size, e.sum] := rfl
  have HE := hid (entB_eq e)
  have hbl := hb.len
  rw [E] at hkb hBa hL hbB
  simp only [entCs, List.map_cons, List.map_nil] at hka hkb hBa hL hbB
  clear E
  go_enter Try.func126, Try.ntmps126
  go_wp2_with fail
  go_loopw [0, 22] (fun s i wr => ∃ (k m2 : Nat) (a2 : Option Addr) (c2 : Nat) (Fx Fl : Nat → Prop), i = .int .i64 k ∧ s = .slice a2 m2 c2 ∧ By.Sl wr Fx a2 m2 c2 (bs ++ numsB ((entNums e).take k)) ∧ In.Sl wr Fl (some ⟨w.heap.size + 1, 0, none⟩) 6 6 (entNums e) ∧
    Blk wr w.heap.size #[.int .i64 e.seq, .int .i64 e.client, .int .i64 e.num, .int .i64 e.op, strv e.key, .int .i64 e.size, .int .u32 e.sum, .slice a n c] ∧ Kept w wr nix ∧ k ≤ 6) (fun _ i _ => 6 - (intOf i).toNat)
  case atStart => exact ⟨0, m, b, cb, F, _, rfl, rfl, by simpa [numsB] using hbB, hL, hBa, hka.n hkb, by omega⟩
  case round =>
    obtain ⟨k, m2, a2, c2, Fx, Fl, rfl, rfl, hS, hLr, hBr, hKw, hk⟩ := hrel
    clear hka hkb hBa hL hbB
    have hm2 : m2 ≤ m + 60 := by
      have h1 := hS.len
      have h2 := numsB_take_len (entNums e) k
      rw [List.length_append] at h1
      omega
    by_cases hlt : k < 6
    · have hkl6 : k < (entNums e).length := hlt
      obtain ⟨g, o, ho, _, hgl, hc⟩ := plain_at hLr k _ (List.getElem?_eq_getElem hkl6)
      injection ho with ho
      injection ho with ho1 ho2
      subst ho1; subst ho2
      rw [Nat.zero_add] at hc
      have hp := hns _ (List.getElem_mem hkl6)
      have HS := hid (numsB_snoc (entNums e) k hkl6)
      have Hns := hid hns
      clear hns
      generalize (entNums e)[k] = x at *
      have hcall := num_c wr Fx a2 m2 c2 _ x hS (by omega) hp.1 hp.2
      go_wp2_with (go_at_call 36; (with_reducible refine hcall.mono ?_); rintro r w2 ⟨a3, m3, rfl, hO, hK2⟩)
      refine ⟨⟨k + 1, m3, a3, m3, new wr w2, Fl, by go_num, rfl, ?_, hLr.kept hK2 (fun _ _ => id), hBr.kept hK2 (fun h => h), hKw.n hK2, by omega⟩, by simp [intOf]; omega⟩
      rw [HS.out, ← List.append_assoc]
      exact hO.sl
    · obtain rfl : k = 6 := by omega
      have ht : (entNums e).take 6 = entNums e := rfl
      rw [ht] at hS
      clear ht hlt
      have q4 := hBr.cell 4
      have q7 := hBr.cell 7
      simp at q4 q7
      have q4W := fun W (hK : Kept wr W nix) => hK.cell q4 (fun h => h)
      have q7W := fun W (hK : Kept wr W nix) => hK.cell q7 (fun h => h)
      have hfn := hf.len
      have hSl := hS.len
      clear hLr hns
      go_wp2_with fail
      have s0_0 : Kept wr wr.drew nix := (Kept.refl _ _).drew
      refine wp_region_held (S := fun W => Kept wr W nix ∧ True) (by kernel_rfl) ?_
      have HS : Kept wr wr.drew nix ∧ True := ⟨s0_0, trivial⟩
      show wpAnyH _ _ _ _ _ _ _ _ wr.drew
      refine wpAnyH_take (i := 0) (oi := { dst := some 30, op := Op.move (Operand.tmp 0), type := 22, pos := "entry.go:36", after := #[], guard := none }) (v := ?_) rfl (by kernel_rfl) (by kernel_rfl) (by kernel_rfl) (fun _ _ _ h => h) (.inl ⟨by rfl, fun W hS => ?_⟩) HS ?_
      rotate_left
      · obtain ⟨t0, -⟩ := hS
        go_simp
        try with_reducible rfl
      rotate_left
      try simp only [Act.put, List.setIfInBounds_toArray, List.set_cons_zero, List.set_cons_succ]
      refine wpAnyH_take (i := 1) (oi := { dst := some 31, op := Op.fieldAddr 72 (Operand.tmp 3) 4, type := 0, pos := "entry.go:36", after := #[], guard := none }) (v := ?_) rfl (by kernel_rfl) (by kernel_rfl) (by kernel_rfl) (fun _ _ _ h => h) (.inl ⟨by rfl, fun W hS => ?_⟩) HS ?_
      rotate_left
      · obtain ⟨t0, -⟩ := hS
        go_simp
        try with_reducible rfl
      rotate_left
      try simp only [Act.put, List.setIfInBounds_toArray, List.set_cons_zero, List.set_cons_succ]
      refine wpAnyH_take (i := 2) (oi := { dst := some 32, op := Op.load 9 (Operand.tmp 31), type := 9, pos := "entry.go:36", after := #[{ on := 1, ground := Ground.data }], guard := none }) (v := ?_) rfl (by kernel_rfl) (by kernel_rfl) (by kernel_rfl) (fun _ _ _ h => h) (.inl ⟨by rfl, fun W hS => ?_⟩) HS ?_
      rotate_left
      · obtain ⟨t0, -⟩ := hS
        go_simp
        try with_reducible rfl
      rotate_left
      try simp only [Act.put, List.setIfInBounds_toArray, List.set_cons_zero, List.set_cons_succ]
      refine wpAnyH_take (i := 5) (oi := { dst := some 35, op := Op.fieldAddr 72 (Operand.tmp 3) 7, type := 0, pos := "entry.go:36", after := #[], guard := none }) (v := ?_) rfl (by kernel_rfl) (by kernel_rfl) (by kernel_rfl) (fun _ _ _ h => h) (.inl ⟨by rfl, fun W hS => ?_⟩) HS ?_
      rotate_left
      · obtain ⟨t0, -⟩ := hS
        go_simp
        try with_reducible rfl
      rotate_left
      try simp only [Act.put, List.setIfInBounds_toArray, List.set_cons_zero, List.set_cons_succ]
      refine wpAnyH_take (i := 6) (oi := { dst := some 36, op := Op.load 22 (Operand.tmp 35), type := 22, pos := "entry.go:36", after := #[{ on := 5, ground := Ground.data }], guard := none }) (v := ?_) rfl (by kernel_rfl) (by kernel_rfl) (by kernel_rfl) (fun _ _ _ h => h) (.inl ⟨by rfl, fun W hS => ?_⟩) HS ?_
      rotate_left
      · obtain ⟨t0, -⟩ := hS
        go_simp
        try with_reducible rfl
      rotate_left
      try simp only [Act.put, List.setIfInBounds_toArray, List.set_cons_zero, List.set_cons_succ]
      refine wpAnyH_one (i := 3) (oi := { dst := some 33, op := Op.convert 9 22 (Operand.tmp 32), type := 22, pos := "entry.go:36", after := #[{ on := 2, ground := Ground.data }], guard := none }) rfl (by kernel_rfl) (by rfl) (fun K hK => ?_)
      refine wp_conv (.tmp 32) rfl e.key rfl hkl ?_
      rintro cv w1 ⟨hX1, hK1⟩
      have s0_1 := s0_0.n hK1
      have s1_1 := Kept.refl w1 nix
      clear HS
      refine hK _ _ (fun W => Kept w1 W nix ∧ Kept wr W nix ∧ True) ⟨s1_1, s0_1, trivial⟩ (fun _ h => h.2) ?_
      have HS : Kept w1 w1 nix ∧ Kept wr w1 nix ∧ True := ⟨s1_1, s0_1, trivial⟩
      clear hK K
      try simp only [Act.put, List.setIfInBounds_toArray, List.set_cons_zero, List.set_cons_succ]
      refine wpAnyH_one (i := 4) (oi := { dst := some 34, op := Op.call { callee := Callee.value (Operand.func 38), args := #[Operand.tmp 30, Operand.tmp 33], argTypes := #[22, 22] }, type := 22, pos := "entry.go:36", after := #[{ on := 0, ground := Ground.data }, { on := 3, ground := Ground.data }], guard := none }) rfl (by kernel_rfl) (by rfl) (fun K hK => ?_)
      go_simp
      refine (text_c _ _ _ _ _ _ _ _ _ _ _ (hS.kept s0_1 (fun _ _ => id)) hX1 (by omega)).mono ?_; rintro r w2 ⟨a3, m3, rfl, hO2, hK2⟩
      have hl3 := hO2.len
      rw [List.length_append] at hl3
      have hl4 := textB_len e.key
      have s0_2 := s0_1.n hK2
      have s1_2 := s1_1.n hK2
      have s2_2 := Kept.refl w2 nix
      clear HS
      refine hK _ _ (fun W => Kept w2 W nix ∧ Kept w1 W nix ∧ Kept wr W nix ∧ True) ⟨s2_2, s1_2, s0_2, trivial⟩ (fun _ h => h.2) ?_
      have HS : Kept w2 w2 nix ∧ Kept w1 w2 nix ∧ Kept wr w2 nix ∧ True := ⟨s2_2, s1_2, s0_2, trivial⟩
      clear hK K
      try simp only [Act.put, List.setIfInBounds_toArray, List.set_cons_zero, List.set_cons_succ]
      refine wpAnyH_one (i := 7) (oi := { dst := some 37, op := Op.call { callee := Callee.value (Operand.func 38), args := #[Operand.tmp 34, Operand.tmp 36], argTypes := #[22, 22] }, type := 22, pos := "entry.go:36", after := #[{ on := 4, ground := Ground.data }, { on := 6, ground := Ground.data }, { on := 4, ground := Ground.chain }], guard := none }) rfl (by kernel_rfl) (by rfl) (fun K hK => ?_)
      go_simp
      refine (text_c _ _ _ _ _ _ _ _ _ _ _ hO2.sl (hf.kept (hKw.n s0_2) (fun _ _ => id)) (by omega)).mono ?_; rintro r w3 ⟨a4, m4, rfl, hO3, hK3⟩
      have s0_3 := s0_2.n hK3
      have s1_3 := s1_2.n hK3
      have s2_3 := s2_2.n hK3
      have s3_3 := Kept.refl w3 nix
      clear HS
      refine hK _ _ (fun W => Kept w3 W nix ∧ Kept w2 W nix ∧ Kept w1 W nix ∧ Kept wr W nix ∧ True) ⟨s3_3, s2_3, s1_3, s0_3, trivial⟩ (fun _ h => h.2) ?_
      have HS : Kept w3 w3 nix ∧ Kept w2 w3 nix ∧ Kept w1 w3 nix ∧ Kept wr w3 nix ∧ True := ⟨s3_3, s2_3, s1_3, s0_3, trivial⟩
      clear hK K
      try simp only [Act.put, List.setIfInBounds_toArray, List.set_cons_zero, List.set_cons_succ]
      refine wpAnyH_take (i := 8) (oi := { dst := some 4, op := Op.assign (Operand.tmp 37), type := 22, pos := "entry.go:36", after := #[{ on := 7, ground := Ground.data }, { on := 7, ground := Ground.chain }, { on := 0, ground := Ground.phase }, { on := 1, ground := Ground.phase }, { on := 2, ground := Ground.phase }, { on := 3, ground := Ground.phase }, { on := 4, ground := Ground.phase }, { on := 5, ground := Ground.phase }, { on := 6, ground := Ground.phase }, { on := 7, ground := Ground.phase }], guard := none }) (v := ?_) rfl (by kernel_rfl) (by kernel_rfl) (by kernel_rfl) (fun _ _ _ h => h) (.inl ⟨by rfl, fun W hS => ?_⟩) HS ?_
      rotate_left
      · obtain ⟨t3, t2, t1, t0, -⟩ := hS
        go_simp
        try with_reducible rfl
      rotate_left
      try simp only [Act.put, List.setIfInBounds_toArray, List.set_cons_zero, List.set_cons_succ]
      refine wpAnyH_done (by kernel_rfl) ?_ _
      go_wp2_with fail
      go_ret
      refine ⟨a4, m4, rfl, ?_, hKw.n s0_3⟩
      rw [HE.out, ← List.append_assoc, ← List.append_assoc]
      exact hO3.mono (new_mono (hKw.n s0_2).size (Nat.le_refl _))

/-- Are two one? Each field. -/
def entSame (x y : Ent) : Bool := decide (x.seq = y.seq) && decide (x.client = y.client) && decide (x.num = y.num) && decide (x.op = y.op) && decide (x.key = y.key) && decide (x.size = y.size) && decide (x.sum = y.sum) && decide (x.frag = y.frag)
set_option maxRecDepth 100000 in
set_option maxHeartbeats 4000000 in
theorem esame_c (w : World) (F F2 : Nat → Prop) (x y : Ent) (a : Option Addr) (n c : Nat) (a2 : Option Addr) (n2 c2 : Nat) (h : By.Sl w F a n c x.frag) (h2 : By.Sl w F2 a2 n2 c2 y.frag) :
    Calls Try.prog 63 #[entV x a n c, entV y a2 n2 c2] w fun r w' => r = .returned (.bool (entSame x y)) ∧ Kept w w' nix := by
  have hk : ∀ C1 C2, Kept w ((w.alloc (.cells C1 72)).alloc (.cells C2 72)) nix := fun C1 C2 => (alloc_kept w _).n (alloc_kept _ _)
  have r1 := fun C1 C2 => strBy (h.kept (hk C1 C2) (fun _ _ => id))
  have r2 := fun C1 C2 => strBy (h2.kept (hk C1 C2) (fun _ _ => id))
  go_enter Try.func63, Try.ntmps63
  go_wp2_with fail
  all_goals
    go_ret
    refine ⟨ret_bool ?_, hk _ _⟩
    rw [Bool.eq_iff_iff]
    simp [entSame, *]
    try omega
end Go.Proofs.Ytlhlljjchggnjaa
