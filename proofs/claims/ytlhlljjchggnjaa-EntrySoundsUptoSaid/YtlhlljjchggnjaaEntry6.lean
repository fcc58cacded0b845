/- The walk of package entry's Decode. -/
import Derived.Test.YtlhlljjchggnjaaEntry5
namespace Go.Proofs.Ytlhlljjchggnjaa
open Go.RowKit

section
variable {P : Program} {α : Type} {d : Sh α} {W : World} {F G : Nat → Prop} {a b : Option Addr} {n c m c2 : Nat} {xs ys : List α}
/-- append(s, x...) at one operation. -/
theorem wp_app_d {o : Oper} {act : Act} {K : Act → World → Prop} {Q : Exit → Act → World → Prop} (s x : Operand) (t e : TypeId)
    (ho : o.op = .call { callee := .builtin .append, args := #[s, x], argTypes := #[t, t] }) (z : Value) (bytes : Nat) (ht : P.underlying t = some (.slice e)) (hinfo : (P.info? e).map (fun i => (i.zero, i.size, i.bytes)) = some (some z, d.k, bytes)) (hz : z.cells.size = d.k) (hb0 : 0 < bytes)
    (hs : act.eval s = .slice a n c) (hx : act.eval x = .slice b m c2)
    (HO : d.Own W F a n c xs) (HX : d.Sl W G b m c2 ys) (hd : 0 < m → ∀ g, G g → ¬ blk a g) (hb : (n + m) * bytes ≤ 140737488355328)
    (h : ∀ a' c' w', d.Own w' (fun g => F g ∨ G g ∨ new W w' g) a' (n + m) c' (xs ++ ys) → Kept W w' (blk a) → (∀ h, blk a' h → blk a h ∨ new W w' h) → K (act.put o.dst (.slice a' (n + m) c')) w') : o.wp P act W K Q := by
  obtain ⟨a', c', w', hr, h2, h3, h4⟩ := run_app (P := P) (d := d) t o.type e z bytes ht hinfo hz HO HX hd hb hb0
  unfold Oper.wp execOp
  simp only [ho, resolve, invoke, builtin, Sem.run_bind, Sem.run_pure, Result.andThen_ok, List.map_toArray, List.map_cons, List.map_nil, hs, hx, hr]
  exact h a' c' w' h2 h3 h4
end
theorem infoIn : (Try.prog.info? 3).map (fun i => (i.zero, i.size, i.bytes)) = some (some (.int .i64 0), 1, 8) := by kernel_rfl
def entZ : Value := .agg #[.int .i64 0, .int .i64 0, .int .i64 0, .int .i64 0, .string ⟨#[]⟩, .int .i64 0, .int .u32 0, .slice none 0 0]
theorem infoEnt : (Try.prog.info? 72).map (fun i => (i.zero, i.size, i.bytes)) = some (some entZ, 8, 88) := by kernel_rfl

theorem rEnt_len (s : Rdr) : (rEnt s).2.1.length ≤ s.1.length := by
  unfold rEnt
  simp only
  exact Nat.le_trans (rText_len _).1 (Nat.le_trans (rText_len _).1 (Nat.le_trans (rCount_len _ _) (Nat.le_trans (rNum_len _) (Nat.le_trans (rNum_len _) (Nat.le_trans (rNum_len _) (Nat.le_trans (rNum_len _) (rNum_len _)))))))
theorem rMany_lenle {α : Type} (ra : Rdr → α × Rdr) (h : ∀ s, (ra s).2.1.length ≤ s.1.length) : ∀ n s, (rMany ra n s).2.1.length ≤ s.1.length
  | 0, _ => Nat.le_refl _
  | n + 1, s => by
    rw [rMany]
    exact Nat.le_trans (rMany_lenle ra h n _) (h s)
theorem rNum_i64 (s : Rdr) : i64p (rNum s).1 := by
  unfold rNum
  cases h : rdU 0 0 s.1 with
  | none => simp [i64p]
  | some q =>
    obtain ⟨u, r⟩ := q
    obtain ⟨u', _, _, h3, _, h5, _⟩ := rdU_inv _ _ _ _ _ h
    simp at h3
    subst h3
    exact unzz_bits u (by omega)
theorem rCount_i64 (m : Int) (s : Rdr) : i64p (rCount m s).1 := by
  unfold rCount
  split
  · simp [i64p]
  · exact rNum_i64 s
theorem rEnt_wf (s : Rdr) (hb : s.1.length ≤ 9223372036854775807) : (rEnt s).1.Wf := by
  unfold rEnt Ent.Wf lenOk
  simp only
  refine ⟨rNum_i64 _, rNum_i64 _, rNum_i64 _, rNum_i64 _, rNum_i64 _, rCount_range _ _ (by omega), ?_, ?_⟩
  · refine Nat.le_trans (rText_len _).2 (Nat.le_trans (Nat.le_trans (rCount_len _ _) (Nat.le_trans (rNum_len _) (Nat.le_trans (rNum_len _) (Nat.le_trans (rNum_len _) (Nat.le_trans (rNum_len _) (rNum_len _)))))) hb)
  · refine Nat.le_trans (rText_len _).2 (Nat.le_trans (rText_len _).1 (Nat.le_trans (Nat.le_trans (rCount_len _ _) (Nat.le_trans (rNum_len _) (Nat.le_trans (rNum_len _) (Nat.le_trans (rNum_len _) (Nat.le_trans (rNum_len _) (rNum_len _)))))) hb))

set_option maxRecDepth 100000 in
set_option maxHeartbeats 16000000 in
theorem decode_c (w : World) (F : Nat → Prop) (a : Option Addr) (n c : Nat) (bs : List UInt8) (h : By.Sl w F a n c bs) (hb : n ≤ maxB) :
    Calls Try.prog 58 #[.slice a n c] w fun e w' => ∃ a1 n1 c1 a2 n2 c2, e = .returned (.tuple #[rcV (recDec bs).1 a1 n1 c1 a2 n2 c2, .int .i64 (recDec bs).2]) ∧ ShRc.R w' (new w w') (recDec bs).1 (recCs (recDec bs).1 a1 n1 c1 a2 n2 c2) ∧ Kept w w' nix := by
  obtain ⟨v1, s1, e1⟩ : ∃ v s', rNum (bs, false) = (v, s') := ⟨_, _, rfl⟩
  obtain ⟨v2, s2, e2⟩ : ∃ v s', rNum s1 = (v, s') := ⟨_, _, rfl⟩
  obtain ⟨v3, s3, e3⟩ : ∃ v s', rNum s2 = (v, s') := ⟨_, _, rfl⟩
  obtain ⟨v4, s4, e4⟩ : ∃ v s', rNum s3 = (v, s') := ⟨_, _, rfl⟩
  obtain ⟨M, s5, e5, hM⟩ : ∃ (m : Nat) (s' : Rdr), rCount 16 s4 = ((m : Int), s') ∧ m ≤ 16 := by
    have hr := rCount_range 16 s4 (by omega)
    exact ⟨(rCount 16 s4).1.toNat, (rCount 16 s4).2, Prod.ext (by simp; omega) rfl, by omega⟩
  obtain ⟨ms, s6, e6⟩ : ∃ v s', rMany rNum M s5 = (v, s') := ⟨_, _, rfl⟩
  obtain ⟨N, s7, e7, hN⟩ : ∃ (m : Nat) (s' : Rdr), rCount 4096 s6 = ((m : Int), s') ∧ m ≤ 4096 := by
    have hr := rCount_range 4096 s6 (by omega)
    exact ⟨(rCount 4096 s6).1.toNat, (rCount 4096 s6).2, Prod.ext (by simp; omega) rfl, by omega⟩
  obtain ⟨es, s8, e8⟩ : ∃ v s', rMany rEnt N s7 = (v, s') := ⟨_, _, rfl⟩
  have E := hid (show rRec (bs, false) = (⟨v1, ⟨v2, ms⟩, v3, v4, es⟩, s8) by simp only [rRec, rRecN, rList, e1, e2, e3, e4, e5, e6, e7, e8, Int.toNat_natCast])
  have l1 := rNum_len (bs, false); rw [e1] at l1
  have l2 := rNum_len s1; rw [e2] at l2
  have l3 := rNum_len s2; rw [e3] at l3
  have l4 := rNum_len s3; rw [e4] at l4
  have l5 := rCount_len 16 s4; rw [e5] at l5
  have l6 := rMany_lenle rNum rNum_len M s5; rw [e6] at l6
  have l7 := rCount_len 4096 s6; rw [e7] at l7
  have i1 := rNum_i64 (bs, false); rw [e1] at i1
  have i2 := rNum_i64 s1; rw [e2] at i2
  have i3 := rNum_i64 s2; rw [e3] at i3
  have i4 := rNum_i64 s3; rw [e4] at i4
  have lbs := h.len
  simp only at l1 l2 l3 l4 l5 l6 l7 i1 i2 i3 i4
  have hL7 := hid (show s7.1.length ≤ maxB by omega)
  have HI := hid (And.intro i1 (And.intro i2 (And.intro i3 i4)))
  have HE1 := hid e1
  have HE2 := hid e2
  have HE3 := hid e3
  have HE4 := hid e4
  have HE5 := hid e5
  have HE6 := hid e6
  have HE7 := hid e7
  have HE8 := hid e8
  clear e1 e2 e3 e4 e5 e6 e7 e8 l1 l2 l3 l4 l5 l6 l7 i1 i2 i3 i4 lbs
  have hD : ∃ q, recDec bs = q := ⟨_, rfl⟩
  obtain ⟨q, hq⟩ := hD
  have HD := hid hq
  rw [hq]
  clear hq
  have hk0 := alloc_kept w (.cells #[.int .i64 0, .int .i64 0, .slice none 0 0, .int .i64 0, .int .i64 0, .slice none 0 0] 61)
  have hz0 := Blk.new_ w #[.int .i64 0, .int .i64 0, .slice none 0 0, .int .i64 0, .int .i64 0, .slice none 0 0] 61
  have hsz0 : (w.alloc (.cells #[.int .i64 0, .int .i64 0, .slice none 0 0, .int .i64 0, .int .i64 0, .slice none 0 0] 61)).heap.size = w.heap.size + 1 := World.size_alloc _ _
  have k0 := new_c _ _ a n c bs (h.kept hk0 (fun _ _ => id)) (by unfold maxB at hb; omega)
  go_enter Try.func58, Try.ntmps58
  go_wp2_with (go_at_call 40; (with_reducible refine k0.mono ?_); rintro e w1 ⟨g, rfl, hR1, hK1⟩)
  generalize w.alloc (.cells #[.int .i64 0, .int .i64 0, .slice none 0 0, .int .i64 0, .int .i64 0, .slice none 0 0] 61) = w0 at *
  obtain ⟨F1, hF1⟩ : ∃ F1 : Nat → Prop, F1 = new w0 w1 := ⟨_, rfl⟩
  rw [← hF1] at hR1
  have HF1 : ∀ q, F1 q → w0.heap.size ≤ q ∧ q < w1.heap.size := fun q hq => by rw [hF1] at hq; exact hq
  have HF := hid HF1
  clear hF1 HF1 k0
  have hg := HF.out g hR1.1
  have hgw : w.heap.size < g := by omega
  have hKw1 := hk0.n hK1
  have hz1 := hz0.kept hK1 (fun h => h)
  clear hz0 hk0 hK1
  have k1 := rnum_c _ F1 g _ hR1
  rw [HE1.out] at k1
  go_wp2_with (go_at_call 41; (with_reducible refine k1.mono ?_); rintro r w2 ⟨rfl, hR2, hK2⟩)
  have k2 := rnum_c _ F1 g _ hR2
  rw [HE2.out] at k2
  go_wp2_with (go_at_call 41; (with_reducible refine k2.mono ?_); rintro r w3 ⟨rfl, hR3, hK3⟩)
  have k3 := rnum_c _ F1 g _ hR3
  rw [HE3.out] at k3
  go_wp2_with (go_at_call 41; (with_reducible refine k3.mono ?_); rintro r w4 ⟨rfl, hR4, hK4⟩)
  have k4 := rnum_c _ F1 g _ hR4
  rw [HE4.out] at k4
  go_wp2_with (go_at_call 41; (with_reducible refine k4.mono ?_); rintro r w5 ⟨rfl, hR5, hK5⟩)
  have hzg : ¬ w.heap.size = g := by omega
  have hz5 := (((hz1.kept hK2 hzg).kept hK3 hzg).kept hK4 hzg).kept hK5 hzg
  have hKw5 := (((hKw1.o hK2 (Nat.le_of_lt hgw)).o hK3 (Nat.le_of_lt hgw)).o hK4 (Nat.le_of_lt hgw)).o hK5 (Nat.le_of_lt hgw)
  have hsz15 : w1.heap.size ≤ w5.heap.size := Nat.le_trans hK2.size (Nat.le_trans hK3.size (Nat.le_trans hK4.size hK5.size))
  have hB6 := Blk.new_ w5 #[.int .i64 v1, .int .i64 v2, .slice none 0 0, .int .i64 v3, .int .i64 v4, .slice none 0 0] 61
  have hA6 := alloc_kept w5 (.cells #[.int .i64 v1, .int .i64 v2, .slice none 0 0, .int .i64 v3, .int .i64 v4, .slice none 0 0] 61)
  have hsz6 : (w5.alloc (.cells #[.int .i64 v1, .int .i64 v2, .slice none 0 0, .int .i64 v3, .int .i64 v4, .slice none 0 0] 61)).heap.size = w5.heap.size + 1 := World.size_alloc _ _
  have hR6 := hR5.kept hA6 (fun _ _ => id)
  have hz6 := hz5.kept hA6 (fun h => h)
  have hKw6 := hKw5.n hA6
  clear hA6 hz5 hKw5 hz1 hKw1 hR1 hR2 hR3 hR4 hR5 k1 k2 k3 k4 hK2 hK3 hK4 hK5
  generalize w5.alloc (.cells #[.int .i64 v1, .int .i64 v2, .slice none 0 0, .int .i64 v3, .int .i64 v4, .slice none 0 0] 61) = w6 at *
  have k5 := rcount_c _ F1 g _ 16 hR6
  rw [HE5.out] at k5
  simp only at k5
  go_wp2_with (go_at_call 44; (with_reducible refine k5.mono ?_); rintro r w7 ⟨rfl, hR7, hK7⟩)
  have hB7 := hB6.kept hK7 (fun (e : _ = g) => by have := hg.2; omega)
  have hz7 := hz6.kept hK7 hzg
  have hKw7 := hKw6.o hK7 (Nat.le_of_lt hgw)
  have hsz7 := hK7.size
  clear hB6 hz6 hKw6 hR6 k5 hK7
  go_loopw [20] (fun i wr => ∃ (k : Nat) (am : Option Addr) (cm : Nat), i = .int .i64 k ∧ k ≤ M ∧ RdrAt wr F1 g (rMany rNum k s5).2 ∧ In.Own wr (new w6 wr) am k cm (rMany rNum k s5).1 ∧
    Blk wr w5.heap.size #[.int .i64 v1, .int .i64 v2, .slice am k cm, .int .i64 v3, .int .i64 v4, .slice none 0 0] ∧ Blk wr w.heap.size #[.int .i64 0, .int .i64 0, .slice none 0 0, .int .i64 0, .int .i64 0, .slice none 0 0] ∧ Kept w wr nix ∧ w6.heap.size ≤ wr.heap.size) (fun i _ => M - (intOf i).toNat)
  case atStart => exact ⟨0, none, 0, rfl, Nat.zero_le _, hR7, Sh.Own.nil _ _ _, hB7, hz7, hKw7, hsz7⟩
  case round =>
    clear hB7 hz7 hKw7 hsz7 hR7
    obtain ⟨k, am, cm, rfl, hk, hR, hO, hB, hz, hKw, hsz⟩ := hrel
    by_cases hlt : k < M
    · obtain ⟨P, hP⟩ : ∃ P : Nat → Prop, P = fun h => h = g ∨ blk am h := ⟨_, rfl⟩
      have hPg : ∀ W W', Kept W W' (one g) → Kept W W' P := fun W W' h => h.mono (fun k _ e => by subst hP; exact .inl e)
      have hPa : ∀ W W', Kept W W' (blk am) → Kept W W' P := fun W W' h => h.mono (fun k _ e => by subst hP; exact .inr e)
      have hPn : ∀ k, k < w6.heap.size → ¬ k = g → ¬ P k := fun k hk hkg hp => by
        subst hP
        rcases hp with hp | hp
        · exact hkg hp
        · have := (hO.blkF hp).1.1
          omega
      have HPn := hid hPn
      clear hP
      have hgB : ¬ w5.heap.size = g := by have := hg.2; omega
      have hPB := HPn.out w5.heap.size (by omega) hgB
      have m2 := hB.cell 2
      simp at m2
      have m2W := fun W (hK : Kept wr W P) => hK.cell m2 hPB
      obtain ⟨x, sx, ex⟩ : ∃ v s', rNum (rMany rNum k s5).2 = (v, s') := ⟨_, _, rfl⟩
      have EX := hid (show rMany rNum (k + 1) s5 = ((rMany rNum k s5).1 ++ [x], sx) by rw [rMany_snoc, ex])
      have hxi := rNum_i64 (rMany rNum k s5).2
      rw [ex] at hxi
      simp only at hxi
      have kN := rnum_c wr.drew F1 g _ (hR.kept (Kept.refl wr nix).drew (fun _ _ => id))
      rw [ex] at kN
      simp only at kN
      clear ex
      have hOl := hid hO.len
      have hbk : (k + 1) * 8 ≤ 140737488355328 := by omega
      generalize (rMany rNum k s5).1 = pre at *
      generalize (rMany rNum k s5).2 = sk at *
      go_wp2_with fail
      have s0_0 : Kept wr wr.drew P := (Kept.refl _ _).drew
      refine wp_region_T (S := fun W => Kept wr W P ∧ True) (t := 9) (by kernel_rfl) ?_
      have HS : Kept wr wr.drew P ∧ True := ⟨s0_0, trivial⟩
      show wpAnyT _ _ _ _ _ _ _ _ _ wr.drew
      refine wpAnyT_take (i := 0) (oi := { dst := some 22, op := Op.fieldAddr 61 (Operand.tmp 5) 1, type := 0, pos := "entry.go:71", after := #[], guard := none }) (v := ?_) rfl (by kernel_rfl) (by kernel_rfl) (by kernel_rfl) (by kernel_rfl) (fun _ _ _ h => h) (.inl ⟨by rfl, fun W hS => ?_⟩) HS ?_
      rotate_left
      · obtain ⟨t0, -⟩ := hS
        go_simp
        try with_reducible rfl
      rotate_left
      try simp only [Act.put, List.setIfInBounds_toArray, List.set_cons_zero, List.set_cons_succ]
      refine wpAnyT_take (i := 1) (oi := { dst := some 23, op := Op.fieldAddr 58 (Operand.tmp 22) 1, type := 0, pos := "entry.go:71", after := #[{ on := 0, ground := Ground.data }], guard := none }) (v := ?_) rfl (by kernel_rfl) (by kernel_rfl) (by kernel_rfl) (by kernel_rfl) (fun _ _ _ h => h) (.inl ⟨by rfl, fun W hS => ?_⟩) HS ?_
      rotate_left
      · obtain ⟨t0, -⟩ := hS
        go_simp
        try with_reducible rfl
      rotate_left
      try simp only [Act.put, List.setIfInBounds_toArray, List.set_cons_zero, List.set_cons_succ]
      refine wpAnyT_take (i := 2) (oi := { dst := some 24, op := Op.load 29 (Operand.tmp 23), type := 29, pos := "entry.go:71", after := #[{ on := 1, ground := Ground.data }], guard := none }) (v := ?_) rfl (by kernel_rfl) (by kernel_rfl) (by kernel_rfl) (by kernel_rfl) (fun _ _ _ h => h) (.inl ⟨by rfl, fun W hS => ?_⟩) HS ?_
      rotate_left
      · obtain ⟨t0, -⟩ := hS
        go_simp
        try with_reducible rfl
      rotate_left
      try simp only [Act.put, List.setIfInBounds_toArray, List.set_cons_zero, List.set_cons_succ]
      refine wpAnyT_take (i := 3) (oi := { dst := some 25, op := Op.move (Operand.tmp 4), type := 31, pos := "entry.go:71", after := #[], guard := none }) (v := ?_) rfl (by kernel_rfl) (by kernel_rfl) (by kernel_rfl) (by kernel_rfl) (fun _ _ _ h => h) (.inl ⟨by rfl, fun W hS => ?_⟩) HS ?_
      rotate_left
      · obtain ⟨t0, -⟩ := hS
        go_simp
        try with_reducible rfl
      rotate_left
      try simp only [Act.put, List.setIfInBounds_toArray, List.set_cons_zero, List.set_cons_succ]
      refine wpAnyT_one (i := 4) (oi := { dst := some 26, op := Op.call { callee := Callee.value (Operand.func 41), args := #[Operand.tmp 25], argTypes := #[31] }, type := 3, pos := "entry.go:71", after := #[{ on := 3, ground := Ground.data }], guard := none }) rfl (by kernel_rfl) (by rfl) (by rfl) (fun K hK => ?_)
      go_simp
      (with_reducible refine kN.mono ?_); rintro r w8 ⟨rfl, hR8, hK8⟩
      have hKP8 := hPg _ _ hK8
      have hO8 := (hO.kept (Kept.refl wr nix).drew (fun _ _ => id)).kept hK8 (fun q hq (e : q = g) => by have := hq.1; have := hg.2; omega)
      have hB8 := (hB.kept (Kept.refl wr nix).drew (fun h => h)).kept hK8 hgB
      have hz8 := (hz.kept (Kept.refl wr nix).drew (fun h => h)).kept hK8 hzg
      have hKw8 := (hKw.drew).o hK8 (Nat.le_of_lt hgw)
      have hs8 : wr.heap.size ≤ w8.heap.size := hK8.size
      have s0_1 := s0_0.trans hKP8 (fun _ _ h => h)
      have s1_1 := Kept.refl w8 P
      clear HS
      refine hK _ _ (fun W => Kept w8 W P ∧ Kept wr W P ∧ True) ⟨s1_1, s0_1, trivial⟩ (fun _ h => h.2) ?_
      have HS : Kept w8 w8 P ∧ Kept wr w8 P ∧ True := ⟨s1_1, s0_1, trivial⟩
      clear hK K
      try simp only [Act.put, List.setIfInBounds_toArray, List.set_cons_zero, List.set_cons_succ]
      refine wpAnyT_one (i := 5) (oi := { dst := some 27, op := Op.buildSlice 29 1 #[(0, Operand.tmp 26)], type := 29, pos := "entry.go:71", after := #[{ on := 4, ground := Ground.data }], guard := none }) rfl (by kernel_rfl) (by rfl) (by rfl) (fun K hK => ?_)
      go_simp
      have hA9 := alloc_kept w8 (.cells #[.int .i64 x] 3)
      have hL9 := lit_in w8 [x] #[.int .i64 x] 3 (0, 0) 1 rfl rfl (by omega) (fun y hy => by simp at hy; subst hy; exact hxi)
      have hKP9 : Kept w8 (w8.alloc (.cells #[.int .i64 x] 3)) P := hA9.mono (fun _ _ h => h.elim)
      have hO9 := hO8.kept hA9 (fun _ _ => id)
      have hB9 := hB8.kept hA9 (fun h => h)
      have hz9 := hz8.kept hA9 (fun h => h)
      have hR9 := hR8.kept hA9 (fun _ _ => id)
      have hKw9 := hKw8.n hA9
      have hs9 := hA9.size
      generalize w8.alloc (.cells #[.int .i64 x] 3) = w9 at *
      have s0_2 := s0_1.trans hKP9 (fun _ _ h => h)
      have s1_2 := s1_1.trans hKP9 (fun _ _ h => h)
      have s2_2 := Kept.refl w9 P
      clear HS
      refine hK _ _ (fun W => Kept w9 W P ∧ Kept w8 W P ∧ Kept wr W P ∧ True) ⟨s2_2, s1_2, s0_2, trivial⟩ (fun _ h => h.2) ?_
      have HS : Kept w9 w9 P ∧ Kept w8 w9 P ∧ Kept wr w9 P ∧ True := ⟨s2_2, s1_2, s0_2, trivial⟩
      clear hK K
      try simp only [Act.put, List.setIfInBounds_toArray, List.set_cons_zero, List.set_cons_succ]
      refine wpAnyT_one (i := 6) (oi := { dst := some 28, op := Op.call { callee := Callee.builtin Builtin.append, args := #[Operand.tmp 24, Operand.tmp 27], argTypes := #[29, 29] }, type := 29, pos := "entry.go:71", after := #[{ on := 2, ground := Ground.data }, { on := 5, ground := Ground.data }, { on := 4, ground := Ground.chain }], guard := none }) rfl (by kernel_rfl) (by rfl) (by rfl) (fun K hK => ?_)
      refine wp_app_d (d := In) (.tmp 24) (.tmp 27) 29 3 rfl (.int .i64 0) 8 Try.underlying29 infoIn rfl (by omega) rfl rfl hO9 hL9 (fun _ q hq hb2 => by have h1 := (hO.blkF hb2).2; have h2 := hq.1; omega) hbk ?_
      rintro a' c' wa hOa hKa hba
      have hKPa := hPa _ _ hKa
      have hnB : ¬ blk am w5.heap.size := fun hb2 => by have := (hO.blkF hb2).1.1; omega
      have hBa := hB9.kept hKa hnB
      have hza := hz9.kept hKa (fun hb2 => by have := (hO.blkF hb2).1.1; omega)
      have hRa := hR9.kept hKa (fun q hq hb2 => by have := (hO.blkF hb2).1.1; have := HF.out q hq; omega)
      have hKwa := hKw9.trans hKa (fun q hq hb2 => by have := (hO.blkF hb2).1.1; omega)
      have hsa := hKa.size
      have d2 := hBa.cell 2
      have d2f := hBa.froz 2
      simp at d2
      have s0_3 := s0_2.trans hKPa (fun _ _ h => h)
      have s1_3 := s1_2.trans hKPa (fun _ _ h => h)
      have s2_3 := s2_2.trans hKPa (fun _ _ h => h)
      have s3_3 := Kept.refl wa P
      clear HS
      refine hK _ _ (fun W => Kept wa W P ∧ Kept w9 W P ∧ Kept w8 W P ∧ Kept wr W P ∧ True) ⟨s3_3, s2_3, s1_3, s0_3, trivial⟩ (fun _ h => h.2) ?_
      have HS : Kept wa wa P ∧ Kept w9 wa P ∧ Kept w8 wa P ∧ Kept wr wa P ∧ True := ⟨s3_3, s2_3, s1_3, s0_3, trivial⟩
      clear hK K
      try simp only [Act.put, List.setIfInBounds_toArray, List.set_cons_zero, List.set_cons_succ]
      refine wpAnyT_take (i := 7) (oi := { dst := some 29, op := Op.fieldAddr 61 (Operand.tmp 5) 1, type := 0, pos := "entry.go:71", after := #[{ on := 0, ground := Ground.phase }, { on := 1, ground := Ground.phase }, { on := 2, ground := Ground.phase }, { on := 3, ground := Ground.phase }, { on := 4, ground := Ground.phase }, { on := 5, ground := Ground.phase }, { on := 6, ground := Ground.phase }], guard := none }) (v := ?_) rfl (by kernel_rfl) (by kernel_rfl) (by kernel_rfl) (by kernel_rfl) (fun _ _ _ h => h) (.inl ⟨by rfl, fun W hS => ?_⟩) HS ?_
      rotate_left
      · obtain ⟨t3, t2, t1, t0, -⟩ := hS
        go_simp
        try with_reducible rfl
      rotate_left
      try simp only [Act.put, List.setIfInBounds_toArray, List.set_cons_zero, List.set_cons_succ]
      refine wpAnyT_take (i := 8) (oi := { dst := some 30, op := Op.fieldAddr 58 (Operand.tmp 29) 1, type := 0, pos := "entry.go:71", after := #[{ on := 7, ground := Ground.data }, { on := 0, ground := Ground.phase }, { on := 1, ground := Ground.phase }, { on := 2, ground := Ground.phase }, { on := 3, ground := Ground.phase }, { on := 4, ground := Ground.phase }, { on := 5, ground := Ground.phase }, { on := 6, ground := Ground.phase }], guard := none }) (v := ?_) rfl (by kernel_rfl) (by kernel_rfl) (by kernel_rfl) (by kernel_rfl) (fun _ _ _ h => h) (.inl ⟨by rfl, fun W hS => ?_⟩) HS ?_
      rotate_left
      · obtain ⟨t3, t2, t1, t0, -⟩ := hS
        go_simp
        try with_reducible rfl
      rotate_left
      try simp only [Act.put, List.setIfInBounds_toArray, List.set_cons_zero, List.set_cons_succ]
      refine wpAnyT_turn (oi := { dst := none, op := Op.store 29 (Operand.tmp 30) (Operand.tmp 28), type := 0, pos := "entry.go:71", after := #[{ on := 8, ground := Ground.data }, { on := 6, ground := Ground.data }, { on := 6, ground := Ground.chain }, { on := 0, ground := Ground.phase }, { on := 1, ground := Ground.phase }, { on := 2, ground := Ground.phase }, { on := 3, ground := Ground.phase }, { on := 4, ground := Ground.phase }, { on := 5, ground := Ground.phase }, { on := 6, ground := Ground.phase }], guard := none }) rfl (by kernel_rfl) (by rfl) (fun K hK => ?_)
      go_simp
      obtain ⟨wb, hwb⟩ : ∃ x, x = wa.setCell ⟨w5.heap.size, 2, none⟩ (.slice a' (k + 1) c') := ⟨_, rfl⟩
      have hBb := hBa.set 2 (.slice a' (k + 1) c')
      have hKb : Kept wa (wa.setCell ⟨w5.heap.size, 2, none⟩ (.slice a' (k + 1) c')) (one w5.heap.size) := (Kept.refl wa _).set1 _ rfl
      rw [← hwb] at hBb hKb
      simp only [← hwb]
      clear hwb
      clear HS
      have s0_0 := Kept.refl wb P
      refine hK _ _ ?_
      clear hK K
      refine wpAny_of_held (S := fun W => Kept wb W P ∧ True) _ _ _ _ ?_
      have HS : Kept wb wb P ∧ True := ⟨s0_0, trivial⟩
      try simp only [Act.put, List.setIfInBounds_toArray, List.set_cons_zero, List.set_cons_succ]
      refine wpAnyH_done (by kernel_rfl) ?_ _
      simp at hBb
      go_wp2_with fail
      refine ⟨⟨k + 1, a', c', by go_num, by omega, ?_, ?_, hBb, hza.kept hKb (fun (e : _ = _) => by omega), hKwa.o hKb (by omega), by have := hKb.size; omega⟩, by simp [intOf]; omega⟩
      · rw [EX.out]
        exact hRa.kept hKb (fun q hq (e : q = _) => by have := HF.out q hq; omega)
      · rw [EX.out]
        refine (hOa.kept hKb (fun q hq (e : q = _) => ?_)).mono (fun q hq => ?_)
        · rcases hq with hq | hq | hq <;> (have := hq.1; omega)
        · have := hKb.size
          rcases hq with hq | hq | hq <;> exact ⟨by have := hq.1; omega, by have := hq.2; omega⟩
    · have : k = M := by omega
      subst this
      clear hlt hk
      rw [HE6.out] at hR hO
      simp only at hR hO
      have k6 := rcount_c _ F1 g _ 4096 hR
      rw [HE7.out] at k6
      simp only at k6
      have hMs := hO.sl
      go_wp2_with (go_at_call 44; (with_reducible refine k6.mono ?_); rintro r wl ⟨rfl, hRl, hKl⟩)
      have hgB : ¬ w5.heap.size = g := by have := hg.2; omega
      have hBl := hB.kept hKl hgB
      have hzl := hz.kept hKl hzg
      have hKwl := hKw.o hKl (Nat.le_of_lt hgw)
      have hMl := hMs.kept hKl (fun q hq (e : q = g) => by have := hq.1; have := hg.2; omega)
      have hszl : wr.heap.size ≤ wl.heap.size := hKl.size
      clear hB hz hKw hMs hR k6 hKl
      obtain ⟨wk, hwk⟩ : ∃ wk : World, wk = wr := ⟨_, rfl⟩
      rw [← hwk] at hMl hszl hsz
      clear hwk
      go_loopw [34] (fun i wr => ∃ (j : Nat) (ae : Option Addr) (ce : Nat), i = .int .i64 j ∧ j ≤ N ∧ RdrAt wr F1 g (rMany rEnt j s7).2 ∧ ShEnt.Own wr (new wl wr) ae j ce (rMany rEnt j s7).1 ∧
        Blk wr w5.heap.size #[.int .i64 v1, .int .i64 v2, .slice am k cm, .int .i64 v3, .int .i64 v4, .slice ae j ce] ∧ Blk wr w.heap.size #[.int .i64 0, .int .i64 0, .slice none 0 0, .int .i64 0, .int .i64 0, .slice none 0 0] ∧ Kept w wr nix ∧ In.Sl wr (new w6 wk) am k cm ms ∧ wl.heap.size ≤ wr.heap.size) (fun i _ => N - (intOf i).toNat)
      case atStart => exact ⟨0, none, 0, rfl, Nat.zero_le _, hRl, Sh.Own.nil _ _ _, hBl, hzl, hKwl, hMl, Nat.le_refl _⟩
      case round =>
        clear hRl hBl hzl hKwl hMl hO
        obtain ⟨j, ae, ce, rfl, hj, hR, hO, hB, hz, hKw, hMr, hszr⟩ := hrel
        by_cases hlt : j < N
        · obtain ⟨P, hP⟩ : ∃ P : Nat → Prop, P = fun h => h = g ∨ blk ae h := ⟨_, rfl⟩
          have hPg : ∀ W W', Kept W W' (one g) → Kept W W' P := fun W W' h => h.mono (fun k _ e => by subst hP; exact .inl e)
          have hPa : ∀ W W', Kept W W' (blk ae) → Kept W W' P := fun W W' h => h.mono (fun k _ e => by subst hP; exact .inr e)
          have hPn : ∀ k, k < wl.heap.size → ¬ k = g → ¬ P k := fun k hk hkg hp => by
            subst hP
            rcases hp with hp | hp
            · exact hkg hp
            · have := (hO.blkF hp).1.1
              omega
          have HPn := hid hPn
          clear hP hPn
          have hPB := HPn.out w5.heap.size (by omega) hgB
          have m2 := hB.cell 5
          simp at m2
          have m2W := fun W (hK : Kept wr W P) => hK.cell m2 hPB
          obtain ⟨x, sx, ex⟩ : ∃ v s', rEnt (rMany rEnt j s7).2 = (v, s') := ⟨_, _, rfl⟩
          have EX := hid (show rMany rEnt (j + 1) s7 = ((rMany rEnt j s7).1 ++ [x], sx) by rw [rMany_snoc, ex])
          have hlen := Nat.le_trans (rMany_lenle rEnt rEnt_len j s7) hL7.out
          have hxw := hid (rEnt_wf (rMany rEnt j s7).2 (by unfold maxB at hlen; omega))
          have kN := get_c wr.drew F1 g _ (hR.kept (Kept.refl wr nix).drew (fun _ _ => id)) (fun q hq => by have := HF.out q hq; show q < wr.heap.size; omega) hlen
          rw [ex] at kN hxw
          simp only at kN hxw
          clear ex
          have hOl := hid hO.len
          have hbk : (j + 1) * 88 ≤ 140737488355328 := by omega
          generalize (rMany rEnt j s7).1 = pre at *
          generalize (rMany rEnt j s7).2 = sk at *
          go_wp2_with fail
          have s0_0 : Kept wr wr.drew P := (Kept.refl _ _).drew
          refine wp_region_T (S := fun W => Kept wr W P ∧ True) (t := 7) (by kernel_rfl) ?_
          have HS : Kept wr wr.drew P ∧ True := ⟨s0_0, trivial⟩
          show wpAnyT _ _ _ _ _ _ _ _ _ wr.drew
          refine wpAnyT_take (i := 0) (oi := { dst := some 36, op := Op.fieldAddr 61 (Operand.tmp 5) 4, type := 0, pos := "entry.go:74", after := #[], guard := none }) (v := ?_) rfl (by kernel_rfl) (by kernel_rfl) (by kernel_rfl) (by kernel_rfl) (fun _ _ _ h => h) (.inl ⟨by rfl, fun W hS => ?_⟩) HS ?_
          rotate_left
          · obtain ⟨t0, -⟩ := hS
            go_simp
            try with_reducible rfl
          rotate_left
          try simp only [Act.put, List.setIfInBounds_toArray, List.set_cons_zero, List.set_cons_succ]
          refine wpAnyT_take (i := 1) (oi := { dst := some 37, op := Op.load 59 (Operand.tmp 36), type := 59, pos := "entry.go:74", after := #[{ on := 0, ground := Ground.data }], guard := none }) (v := ?_) rfl (by kernel_rfl) (by kernel_rfl) (by kernel_rfl) (by kernel_rfl) (fun _ _ _ h => h) (.inl ⟨by rfl, fun W hS => ?_⟩) HS ?_
          rotate_left
          · obtain ⟨t0, -⟩ := hS
            go_simp
            try with_reducible rfl
          rotate_left
          try simp only [Act.put, List.setIfInBounds_toArray, List.set_cons_zero, List.set_cons_succ]
          refine wpAnyT_take (i := 2) (oi := { dst := some 38, op := Op.move (Operand.tmp 4), type := 31, pos := "entry.go:74", after := #[], guard := none }) (v := ?_) rfl (by kernel_rfl) (by kernel_rfl) (by kernel_rfl) (by kernel_rfl) (fun _ _ _ h => h) (.inl ⟨by rfl, fun W hS => ?_⟩) HS ?_
          rotate_left
          · obtain ⟨t0, -⟩ := hS
            go_simp
            try with_reducible rfl
          rotate_left
          try simp only [Act.put, List.setIfInBounds_toArray, List.set_cons_zero, List.set_cons_succ]
          refine wpAnyT_one (i := 3) (oi := { dst := some 39, op := Op.call { callee := Callee.value (Operand.func 130), args := #[Operand.tmp 38], argTypes := #[31] }, type := 72, pos := "entry.go:74", after := #[{ on := 2, ground := Ground.data }], guard := none }) rfl (by kernel_rfl) (by rfl) (by rfl) (fun K hK => ?_)
          go_simp
          (with_reducible refine kN.mono ?_); rintro r w8 ⟨af, nf, cf, rfl, hOf, hR8, hK8, -, hky, hnf⟩
          have hKP8 := hPg _ _ hK8
          have hO8 := (hO.kept (Kept.refl wr nix).drew (fun _ _ => id)).kept hK8 (fun q hq (e : q = g) => by have := hq.1; have := hg.2; omega)
          have hB8 := (hB.kept (Kept.refl wr nix).drew (fun h => h)).kept hK8 hgB
          have hz8 := (hz.kept (Kept.refl wr nix).drew (fun h => h)).kept hK8 hzg
          have hM8 := (hMr.kept (Kept.refl wr nix).drew (fun _ _ => id)).kept hK8 (fun q hq (e : q = g) => by have := hq.1; have := hg.2; omega)
          have hKw8 := (hKw.drew).o hK8 (Nat.le_of_lt hgw)
          have hs8 : wr.heap.size ≤ w8.heap.size := hK8.size
          have hx8 : ShEnt.R w8 (new wr.drew w8) x (entCs x af nf cf) := ⟨af, nf, cf, rfl, hOf.sl, hnf, hky, hxw.out⟩
          have s0_1 := s0_0.trans hKP8 (fun _ _ h => h)
          have s1_1 := Kept.refl w8 P
          clear HS
          refine hK _ _ (fun W => Kept w8 W P ∧ Kept wr W P ∧ True) ⟨s1_1, s0_1, trivial⟩ (fun _ h => h.2) ?_
          have HS : Kept w8 w8 P ∧ Kept wr w8 P ∧ True := ⟨s1_1, s0_1, trivial⟩
          clear hK K
          try simp only [Act.put, List.setIfInBounds_toArray, List.set_cons_zero, List.set_cons_succ]
          refine wpAnyT_one (i := 4) (oi := { dst := some 40, op := Op.buildSlice 59 1 #[(0, Operand.tmp 39)], type := 59, pos := "entry.go:74", after := #[{ on := 3, ground := Ground.data }], guard := none }) rfl (by kernel_rfl) (by rfl) (by rfl) (fun K hK => ?_)
          go_simp
          have hA9 := alloc_kept w8 (.cells #[.int .i64 x.seq, .int .i64 x.client, .int .i64 x.num, .int .i64 x.op, strv x.key, .int .i64 x.size, .int .u32 x.sum, .slice af nf cf] 72)
          have hL9 : ShEnt.Sl (w8.alloc (.cells #[.int .i64 x.seq, .int .i64 x.client, .int .i64 x.num, .int .i64 x.op, strv x.key, .int .i64 x.size, .int .u32 x.sum, .slice af nf cf] 72)) (fun q => new wr.drew w8 q ∨ q = w8.heap.size) (some ⟨w8.heap.size, 0, none⟩) 1 1 [x] := boxed_sl 72 hx8
          have hKP9 : Kept w8 (w8.alloc (.cells #[.int .i64 x.seq, .int .i64 x.client, .int .i64 x.num, .int .i64 x.op, strv x.key, .int .i64 x.size, .int .u32 x.sum, .slice af nf cf] 72)) P := hA9.mono (fun _ _ h => h.elim)
          have hsz9 : (w8.alloc (.cells #[.int .i64 x.seq, .int .i64 x.client, .int .i64 x.num, .int .i64 x.op, strv x.key, .int .i64 x.size, .int .u32 x.sum, .slice af nf cf] 72)).heap.size = w8.heap.size + 1 := World.size_alloc _ _
          have hO9 := hO8.kept hA9 (fun _ _ => id)
          have hB9 := hB8.kept hA9 (fun h => h)
          have hz9 := hz8.kept hA9 (fun h => h)
          have hM9 := hM8.kept hA9 (fun _ _ => id)
          have hR9 := hR8.kept hA9 (fun _ _ => id)
          have hKw9 := hKw8.n hA9
          generalize w8.alloc (.cells #[.int .i64 x.seq, .int .i64 x.client, .int .i64 x.num, .int .i64 x.op, strv x.key, .int .i64 x.size, .int .u32 x.sum, .slice af nf cf] 72) = w9 at *
          have s0_2 := s0_1.trans hKP9 (fun _ _ h => h)
          have s1_2 := s1_1.trans hKP9 (fun _ _ h => h)
          have s2_2 := Kept.refl w9 P
          clear HS
          refine hK _ _ (fun W => Kept w9 W P ∧ Kept w8 W P ∧ Kept wr W P ∧ True) ⟨s2_2, s1_2, s0_2, trivial⟩ (fun _ h => h.2) ?_
          have HS : Kept w9 w9 P ∧ Kept w8 w9 P ∧ Kept wr w9 P ∧ True := ⟨s2_2, s1_2, s0_2, trivial⟩
          clear hK K
          try simp only [Act.put, List.setIfInBounds_toArray, List.set_cons_zero, List.set_cons_succ]
          refine wpAnyT_one (i := 5) (oi := { dst := some 41, op := Op.call { callee := Callee.builtin Builtin.append, args := #[Operand.tmp 37, Operand.tmp 40], argTypes := #[59, 59] }, type := 59, pos := "entry.go:74", after := #[{ on := 1, ground := Ground.data }, { on := 4, ground := Ground.data }, { on := 3, ground := Ground.chain }], guard := none }) rfl (by kernel_rfl) (by rfl) (by rfl) (fun K hK => ?_)
          refine wp_app_d (d := ShEnt) (.tmp 37) (.tmp 40) 59 72 rfl entZ 88 Try.underlying59 infoEnt rfl (by omega) rfl rfl hO9 hL9 (fun _ q hq hb2 => by have h1 := (hO.blkF hb2).2; rcases hq with h2 | h2; (have h3 : wr.heap.size ≤ q := h2.1; omega); omega) hbk ?_
          rintro a' c' wa hOa hKa hba
          have hKPa := hPa _ _ hKa
          have hnB : ¬ blk ae w5.heap.size := fun hb2 => by have := (hO.blkF hb2).1.1; omega
          have hBa := hB9.kept hKa hnB
          have hza := hz9.kept hKa (fun hb2 => by have := (hO.blkF hb2).1.1; omega)
          have hMa := hM9.kept hKa (fun q hq hb2 => by have := (hO.blkF hb2).1.1; have := hq.2; omega)
          have hRa := hR9.kept hKa (fun q hq hb2 => by have := (hO.blkF hb2).1.1; have := HF.out q hq; omega)
          have hKwa := hKw9.trans hKa (fun q hq hb2 => by have := (hO.blkF hb2).1.1; omega)
          have hsa := hKa.size
          have d2 := hBa.cell 5
          have d2f := hBa.froz 5
          simp at d2
          have s0_3 := s0_2.trans hKPa (fun _ _ h => h)
          have s1_3 := s1_2.trans hKPa (fun _ _ h => h)
          have s2_3 := s2_2.trans hKPa (fun _ _ h => h)
          have s3_3 := Kept.refl wa P
          clear HS
          refine hK _ _ (fun W => Kept wa W P ∧ Kept w9 W P ∧ Kept w8 W P ∧ Kept wr W P ∧ True) ⟨s3_3, s2_3, s1_3, s0_3, trivial⟩ (fun _ h => h.2) ?_
          have HS : Kept wa wa P ∧ Kept w9 wa P ∧ Kept w8 wa P ∧ Kept wr wa P ∧ True := ⟨s3_3, s2_3, s1_3, s0_3, trivial⟩
          clear hK K
          try simp only [Act.put, List.setIfInBounds_toArray, List.set_cons_zero, List.set_cons_succ]
          refine wpAnyT_take (i := 6) (oi := { dst := some 42, op := Op.fieldAddr 61 (Operand.tmp 5) 4, type := 0, pos := "entry.go:74", after := #[{ on := 0, ground := Ground.phase }, { on := 1, ground := Ground.phase }, { on := 2, ground := Ground.phase }, { on := 3, ground := Ground.phase }, { on := 4, ground := Ground.phase }, { on := 5, ground := Ground.phase }], guard := none }) (v := ?_) rfl (by kernel_rfl) (by kernel_rfl) (by kernel_rfl) (by kernel_rfl) (fun _ _ _ h => h) (.inl ⟨by rfl, fun W hS => ?_⟩) HS ?_
          rotate_left
          · obtain ⟨t3, t2, t1, t0, -⟩ := hS
            go_simp
            try with_reducible rfl
          rotate_left
          try simp only [Act.put, List.setIfInBounds_toArray, List.set_cons_zero, List.set_cons_succ]
          refine wpAnyT_turn (oi := { dst := none, op := Op.store 59 (Operand.tmp 42) (Operand.tmp 41), type := 0, pos := "entry.go:74", after := #[{ on := 6, ground := Ground.data }, { on := 5, ground := Ground.data }, { on := 5, ground := Ground.chain }, { on := 0, ground := Ground.phase }, { on := 1, ground := Ground.phase }, { on := 2, ground := Ground.phase }, { on := 3, ground := Ground.phase }, { on := 4, ground := Ground.phase }, { on := 5, ground := Ground.phase }], guard := none }) rfl (by kernel_rfl) (by rfl) (fun K hK => ?_)
          go_simp
          obtain ⟨wb, hwb⟩ : ∃ x, x = wa.setCell ⟨w5.heap.size, 5, none⟩ (.slice a' (j + 1) c') := ⟨_, rfl⟩
          have hBb := hBa.set 5 (.slice a' (j + 1) c')
          have hKb : Kept wa (wa.setCell ⟨w5.heap.size, 5, none⟩ (.slice a' (j + 1) c')) (one w5.heap.size) := (Kept.refl wa _).set1 _ rfl
          rw [← hwb] at hBb hKb
          simp only [← hwb]
          clear hwb
          clear HS
          have s0_0 := Kept.refl wb P
          refine hK _ _ ?_
          clear hK K
          refine wpAny_of_held (S := fun W => Kept wb W P ∧ True) _ _ _ _ ?_
          have HS : Kept wb wb P ∧ True := ⟨s0_0, trivial⟩
          try simp only [Act.put, List.setIfInBounds_toArray, List.set_cons_zero, List.set_cons_succ]
          refine wpAnyH_done (by kernel_rfl) ?_ _
          simp at hBb
          go_wp2_with fail
          have hsb := hKb.size
          refine ⟨⟨j + 1, a', c', by go_num, by omega, ?_, ?_, hBb, hza.kept hKb (fun (e : _ = _) => by omega), hKwa.o hKb (by omega), hMa.kept hKb (fun q hq (e : q = _) => by have := hq.1; omega), by omega⟩, by simp [intOf]; omega⟩
          · rw [EX.out]
            exact hRa.kept hKb (fun q hq (e : q = _) => by have := HF.out q hq; omega)
          · rw [EX.out]
            refine (hOa.kept hKb (fun q hq (e : q = _) => ?_)).mono (fun q hq => ?_)
            · rcases hq with hq | (hq | hq) | hq
              · have := hq.1; omega
              · have : wr.heap.size ≤ q := hq.1
                omega
              · omega
              · have := hq.1; omega
            · rcases hq with hq | (hq | hq) | hq
              · exact ⟨hq.1, by have := hq.2; omega⟩
              · have h1 : wr.heap.size ≤ q := hq.1
                exact ⟨by omega, by have := hq.2; omega⟩
              · exact ⟨by omega, by omega⟩
              · exact ⟨by have := hq.1; omega, by have := hq.2; omega⟩
        · have : j = N := by omega
          subst this
          clear hlt hj
          rw [HE8.out] at hR hO
          simp only at hR hO
          have ke := rend_c wr F1 g s8 hR
          have hEs := hO.sl
          clear hO
          cases hend : rEnd s8
          · have hqv : (Rc.zero, 2) = q := by rw [← HD.out]; unfold recDec; rw [E.out]; simp [hend]
            have Hqv := hid hqv
            clear hqv
            rw [hend] at ke
            have z0 := hz.cell 0
            have z1 := hz.cell 1
            have z2 := hz.cell 2
            have z3 := hz.cell 3
            have z4 := hz.cell 4
            have z5 := hz.cell 5
            simp at z0 z1 z2 z3 z4 z5
            have zf := fun i => hz.froz i
            go_wp2_with (go_at_call 43; (with_reducible refine ke.mono ?_); rintro r we ⟨rfl, rfl⟩)
            have hqv := Hqv.out
            have hzF := (((((hz.set 0 (.int .i64 0)).set 1 (.int .i64 0)).set 2 (.slice none 0 0)).set 3 (.int .i64 0)).set 4 (.int .i64 0)).set 5 (.slice none 0 0)
            have hKF := (((((((Kept.refl wr (one w.heap.size)).set1 (i := 0) (.int .i64 0) rfl).set1 (i := 1) (.int .i64 0) rfl).set1 (i := 2) (.slice none 0 0) rfl).set1 (i := 3) (.int .i64 0) rfl).set1 (i := 4) (.int .i64 0) rfl).set1 (i := 5) (.slice none 0 0) rfl)
            generalize ((((((wr.setCell ⟨w.heap.size, 0, none⟩ (.int .i64 0)).setCell ⟨w.heap.size, 1, none⟩ (.int .i64 0)).setCell ⟨w.heap.size, 2, none⟩ (.slice none 0 0)).setCell ⟨w.heap.size, 3, none⟩ (.int .i64 0)).setCell ⟨w.heap.size, 4, none⟩ (.int .i64 0)).setCell ⟨w.heap.size, 5, none⟩ (.slice none 0 0)) = wF at hzF hKF ⊢
            simp at hzF
            have x0 := hzF.cell 0
            have x1 := hzF.cell 1
            have x2 := hzF.cell 2
            have x3 := hzF.cell 3
            have x4 := hzF.cell 4
            have x5 := hzF.cell 5
            simp at x0 x1 x2 x3 x4 x5
            refine bodyPost_ret (v := .tuple #[rcV Rc.zero none 0 0 none 0 0, .int .i64 2]) (by simp [results, Try.results58, go_sem, x0, x1, x2, x3, x4, x5, Rc.zero, Cnf.zero]) rfl ?_
            rw [← hqv]
            exact ⟨none, 0, 0, none, 0, 0, rfl, ⟨none, 0, 0, none, 0, 0, rfl, Sh.Sl.nil _ _ _, by unfold maxB; omega, Sh.Sl.nil _ _ _, by unfold maxB; omega, by simp [Rc.zero, i64p], by simp [Rc.zero, Cnf.zero, i64p], by simp [Rc.zero, i64p], by simp [Rc.zero, i64p]⟩, hKw.o hKF (Nat.le_refl _)⟩
          · rw [hend] at ke
            have ks := rsound_c wr _ _ ⟨v1, ⟨v2, ms⟩, v3, v4, es⟩ am k cm ae j ce hMr hEs
            cases hok : recOk ⟨v1, ⟨v2, ms⟩, v3, v4, es⟩
            · have hqv : (Rc.zero, 2) = q := by rw [← HD.out]; unfold recDec; rw [E.out]; simp [hend, hok]
              have Hqv := hid hqv
              clear hqv
              rw [hok] at ks
              have b0 := hB.cell 0
              have b1 := hB.cell 1
              have b2 := hB.cell 2
              have b3 := hB.cell 3
              have b4 := hB.cell 4
              have b5 := hB.cell 5
              simp at b0 b1 b2 b3 b4 b5
              go_wp2_with (first
                | (go_at_call 43; (with_reducible refine ke.mono ?_); rintro r we ⟨rfl, rfl⟩)
                | (go_at_call 125; (with_reducible refine ks.mono ?_); rintro r ws ⟨rfl, hKs⟩; have hzs := hz.kept hKs (fun h => h); have z0 := hzs.cell 0; have z1 := hzs.cell 1; have z2 := hzs.cell 2; have z3 := hzs.cell 3; have z4 := hzs.cell 4; have z5 := hzs.cell 5; simp at z0 z1 z2 z3 z4 z5; have zf := fun i => hzs.froz i))
              have hKs2 := hKw.n hKs
              have hqv := Hqv.out
              have hzF := (((((hzs.set 0 (.int .i64 0)).set 1 (.int .i64 0)).set 2 (.slice none 0 0)).set 3 (.int .i64 0)).set 4 (.int .i64 0)).set 5 (.slice none 0 0)
              have hKF := (((((((Kept.refl ws (one w.heap.size)).set1 (i := 0) (.int .i64 0) rfl).set1 (i := 1) (.int .i64 0) rfl).set1 (i := 2) (.slice none 0 0) rfl).set1 (i := 3) (.int .i64 0) rfl).set1 (i := 4) (.int .i64 0) rfl).set1 (i := 5) (.slice none 0 0) rfl)
              generalize ((((((ws.setCell ⟨w.heap.size, 0, none⟩ (.int .i64 0)).setCell ⟨w.heap.size, 1, none⟩ (.int .i64 0)).setCell ⟨w.heap.size, 2, none⟩ (.slice none 0 0)).setCell ⟨w.heap.size, 3, none⟩ (.int .i64 0)).setCell ⟨w.heap.size, 4, none⟩ (.int .i64 0)).setCell ⟨w.heap.size, 5, none⟩ (.slice none 0 0)) = wF at hzF hKF ⊢
              simp at hzF
              have x0 := hzF.cell 0
              have x1 := hzF.cell 1
              have x2 := hzF.cell 2
              have x3 := hzF.cell 3
              have x4 := hzF.cell 4
              have x5 := hzF.cell 5
              simp at x0 x1 x2 x3 x4 x5
              refine bodyPost_ret (v := .tuple #[rcV Rc.zero none 0 0 none 0 0, .int .i64 2]) (by simp [results, Try.results58, go_sem, x0, x1, x2, x3, x4, x5, Rc.zero, Cnf.zero]) rfl ?_
              rw [← hqv]
              exact ⟨none, 0, 0, none, 0, 0, rfl, ⟨none, 0, 0, none, 0, 0, rfl, Sh.Sl.nil _ _ _, by unfold maxB; omega, Sh.Sl.nil _ _ _, by unfold maxB; omega, by simp [Rc.zero, i64p], by simp [Rc.zero, Cnf.zero, i64p], by simp [Rc.zero, i64p], by simp [Rc.zero, i64p]⟩, hKs2.o hKF (Nat.le_refl _)⟩
            · have hqv : (⟨v1, ⟨v2, ms⟩, v3, v4, es⟩, 0) = q := by rw [← HD.out]; unfold recDec; rw [E.out]; simp [hend, hok]
              have Hqv := hid hqv
              clear hqv
              rw [hok] at ks
              have b0 := hB.cell 0
              have b1 := hB.cell 1
              have b2 := hB.cell 2
              have b3 := hB.cell 3
              have b4 := hB.cell 4
              have b5 := hB.cell 5
              simp at b0 b1 b2 b3 b4 b5
              go_wp2_with (first
                | (go_at_call 43; (with_reducible refine ke.mono ?_); rintro r we ⟨rfl, rfl⟩)
                | (go_at_call 125; (with_reducible refine ks.mono ?_); rintro r ws ⟨rfl, hKs⟩; have hzs := hz.kept hKs (fun h => h); have z0 := hzs.cell 0; have z1 := hzs.cell 1; have z2 := hzs.cell 2; have z3 := hzs.cell 3; have z4 := hzs.cell 4; have z5 := hzs.cell 5; simp at z0 z1 z2 z3 z4 z5; have zf := fun i => hzs.froz i; have hBs := hB.kept hKs (fun h => h); have y0 := hBs.cell 0; have y1 := hBs.cell 1; have y2 := hBs.cell 2; have y3 := hBs.cell 3; have y4 := hBs.cell 4; have y5 := hBs.cell 5; simp at y0 y1 y2 y3 y4 y5))
              have hzF := (((((hzs.set 0 (.int .i64 v1)).set 1 (.int .i64 v2)).set 2 (.slice am k cm)).set 3 (.int .i64 v3)).set 4 (.int .i64 v4)).set 5 (.slice ae j ce)
              have hKF := (((((((Kept.refl ws (one w.heap.size)).set1 (i := 0) (.int .i64 v1) rfl).set1 (i := 1) (.int .i64 v2) rfl).set1 (i := 2) (.slice am k cm) rfl).set1 (i := 3) (.int .i64 v3) rfl).set1 (i := 4) (.int .i64 v4) rfl).set1 (i := 5) (.slice ae j ce) rfl)
              generalize ((((((ws.setCell ⟨w.heap.size, 0, none⟩ (.int .i64 v1)).setCell ⟨w.heap.size, 1, none⟩ (.int .i64 v2)).setCell ⟨w.heap.size, 2, none⟩ (.slice am k cm)).setCell ⟨w.heap.size, 3, none⟩ (.int .i64 v3)).setCell ⟨w.heap.size, 4, none⟩ (.int .i64 v4)).setCell ⟨w.heap.size, 5, none⟩ (.slice ae j ce)) = wF at hzF hKF ⊢
              simp at hzF
              have x0 := hzF.cell 0
              have x1 := hzF.cell 1
              have x2 := hzF.cell 2
              have x3 := hzF.cell 3
              have x4 := hzF.cell 4
              have x5 := hzF.cell 5
              simp at x0 x1 x2 x3 x4 x5
              refine bodyPost_ret (v := .tuple #[rcV ⟨v1, ⟨v2, ms⟩, v3, v4, es⟩ am k cm ae j ce, .int .i64 0]) (by simp [results, Try.results58, go_sem, x0, x1, x2, x3, x4, x5]) rfl ?_
              rw [← Hqv.out]
              have hsF := hKF.size
              have hsS := hKs.size
              have hsz16 : w.heap.size ≤ w6.heap.size := by omega
              refine ⟨am, k, cm, ae, j, ce, rfl, ⟨am, k, cm, ae, j, ce, rfl, ?_, by unfold maxB; omega, ?_, by unfold maxB entBytes; omega, HI.out.1, HI.out.2.1, HI.out.2.2.1, HI.out.2.2.2⟩, (hKw.n hKs).o hKF (Nat.le_refl _)⟩
              · refine ((hMr.kept hKs (fun _ _ => id)).kept hKF (fun q hq (e : q = _) => by have := hq.1; omega)).mono (fun q hq => ⟨by have := hq.1; omega, by have := hq.2; omega⟩)
              · refine ((hEs.kept hKs (fun _ _ => id)).kept hKF (fun q hq (e : q = _) => by have := hq.1; omega)).mono (fun q hq => ⟨by have := hq.1; omega, by have := hq.2; omega⟩)
end Go.Proofs.Ytlhlljjchggnjaa
