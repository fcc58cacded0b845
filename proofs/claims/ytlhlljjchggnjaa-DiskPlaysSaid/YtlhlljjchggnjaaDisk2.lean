/- The walks of package disk. -/
import Derived.Test.YtlhlljjchggnjaaDisk
namespace Go.Proofs.Ytlhlljjchggnjaa
open Go.RowKit

/-- Two slices in a block. -/
theorem sl_two {w : World} {F1 F2 : Nat → Prop} {g : Nat} {a1 a2 : Option Addr} {n1 c1 n2 c2 : Nat} {xs ys : List UInt8} (hB : Blk w g #[.slice a1 n1 c1, .slice a2 n2 c2]) (h1 : By.Sl w F1 a1 n1 c1 xs) (h2 : By.Sl w F2 a2 n2 c2 ys) (hb1 : n1 ≤ maxB) (hb2 : n2 ≤ maxB) :
    (By.slc 1).Sl w (fun _ => True) (some ⟨g, 0, none⟩) 2 2 [xs, ys] := by
  refine ⟨rfl, Nat.le_refl _, by omega, nofun, [.slice a1 n1 c1, .slice a2 n2 c2], ⟨rfl, fun i x hx => ?_⟩, fun _ => ⟨g, 0, rfl, trivial, fun j u hu => ?_⟩⟩
  · match i, hx with
    | 0, hx =>
      simp at hx
      subst hx
      exact ⟨a1, n1, c1, rfl, h1.mono (fun _ _ => trivial), by omega⟩
    | 1, hx =>
      simp at hx
      subst hx
      exact ⟨a2, n2, c2, rfl, h2.mono (fun _ _ => trivial), by omega⟩
    | n + 2, hx => simp at hx
  · rw [hB.cell]
    simpa using hu

/-- A disk, plainly. -/
structure Dsk where
  room : Nat
  b : List UInt8
  tear : Nat
  torn : Bool
  down : Bool
structure Dsk.Ok (s : Dsk) : Prop where
  b : s.b.length ≤ s.room
  room : s.room ≤ 16777216
  tear : s.tear ≤ 9223372036854775807
def dWrite (s : Dsk) (nb : List UInt8) (there : Nat) : Nat × Dsk :=
  if s.down then (6, s) else if s.room < nb.length then (5, s) else if s.torn then (6, { s with torn := false, down := true, b := nb.take (there + min s.tear (nb.length - there)) }) else (0, { s with b := nb })
def dAppend (s : Dsk) (x : List UInt8) : Nat × Dsk := dWrite s (s.b ++ x) s.b.length
def dReplace (s : Dsk) (x : List UInt8) : Nat × Dsk :=
  if s.torn = true ∧ s.down = false ∧ x.length ≤ s.room then (6, { s with torn := false, down := true, b := if x.length ≤ s.tear then x else s.b }) else dWrite s x 0
def dTear (s : Dsk) (n : Int) : Dsk := { s with torn := true, tear := n.toNat }
def dCrash (s : Dsk) : Dsk := { s with down := true }
def dStart (s : Dsk) : Dsk := { s with down := false, torn := false }
def dRead (s : Dsk) : List UInt8 × Nat := if s.down then ([], 6) else (s.b, 0)
def dNew (room : Int) : Dsk := ⟨min room.toNat 16777216, [], 0, false, false⟩
theorem dWrite_ok (s : Dsk) (h : s.Ok) (nb : List UInt8) (there : Nat) : (dWrite s nb there).2.Ok := by
  unfold dWrite
  obtain ⟨h1, h2, h3⟩ := h
  split
  · exact ⟨h1, h2, h3⟩
  · split
    · exact ⟨h1, h2, h3⟩
    · split
      · exact ⟨by simp only [List.length_take]; omega, h2, h3⟩
      · exact ⟨by simp only; omega, h2, h3⟩
theorem dReplace_ok (s : Dsk) (h : s.Ok) (x : List UInt8) : (dReplace s x).2.Ok := by
  unfold dReplace
  split
  · obtain ⟨h1, h2, h3⟩ := h
    rename_i hx
    refine ⟨?_, h2, h3⟩
    simp only
    split
    · exact hx.2.2
    · exact h1
  · exact dWrite_ok s h x 0

/-- A disk in memory: its own block g. -/
def DiskAt (w : World) (F : Nat → Prop) (g : Nat) (s : Dsk) : Prop :=
  s.Ok ∧ F g ∧ ∃ a c Fb, Blk w g #[.int .i64 s.room, .slice a s.b.length c, .int .i64 s.tear, .bool s.torn, .bool s.down] ∧ By.Sl w Fb a s.b.length c s.b ∧ ∀ h, Fb h → F h ∧ h ≠ g
theorem DiskAt.mono {w : World} {F G : Nat → Prop} {g : Nat} {s : Dsk} (h : DiskAt w F g s) (hm : ∀ k, F k → G k) : DiskAt w G g s := by
  obtain ⟨h0, h1, a, c, Fb, h2, h3, h4⟩ := h
  exact ⟨h0, hm g h1, a, c, Fb, h2, h3, fun k hk => ⟨hm k (h4 k hk).1, (h4 k hk).2⟩⟩
theorem DiskAt.kept {w w' : World} {F S : Nat → Prop} {g : Nat} {s : Dsk} (h : DiskAt w F g s) (hk : Kept w w' S) (hd : ∀ k, F k → ¬ S k) : DiskAt w' F g s := by
  obtain ⟨h0, h1, a, c, Fb, h2, h3, h4⟩ := h
  exact ⟨h0, h1, a, c, Fb, h2.kept hk (hd g h1), h3.kept hk (fun k hk => hd k (h4 k hk).1), h4⟩
theorem DiskAt.bound {w : World} {F : Nat → Prop} {g : Nat} {s : Dsk} (h : DiskAt w F g s) : DiskAt w (fun k => F k ∧ k < w.heap.size) g s := by
  obtain ⟨h0, h1, a, c, Fb, h2, h3, h4⟩ := h
  exact ⟨h0, ⟨h1, h2.lt⟩, a, c, _, h2, h3.bound, fun k hk => ⟨⟨(h4 k hk.1).1, hk.2⟩, (h4 k hk.1).2⟩⟩

set_option maxRecDepth 100000 in
set_option maxHeartbeats 1000000 in
theorem dnew_c (w : World) (room : Int) :
    Calls Try.prog 46 #[.int .i64 room] w fun e w' => ∃ g, e = .returned (.pointer (some ⟨g, 0, none⟩)) ∧ DiskAt w' (new w w') g (dNew room) ∧ Kept w w' nix := by
  have fin : ∀ v : Int, v = ((dNew room).room : Int) → DiskAt (w.alloc (.cells #[.int .i64 v, .slice none 0 0, .int .i64 0, .bool false, .bool false] 157)) (new w (w.alloc (.cells #[.int .i64 v, .slice none 0 0, .int .i64 0, .bool false, .bool false] 157))) w.heap.size (dNew room) := by
    intro v hv
    subst hv
    exact ⟨⟨Nat.zero_le _, by simp only [dNew]; omega, by simp only [dNew]; omega⟩, ⟨Nat.le_refl _, by simp⟩, none, 0, nix, Blk.new_ _ _ _, Sh.Sl.nil _ _ _, fun _ => False.elim⟩
  go_enter Try.func46, Try.ntmps46
  go_wp2
  all_goals
    go_ret
    exact ⟨w.heap.size, rfl, fin _ (by simp only [dNew]; omega), alloc_kept _ _⟩

section
variable (w : World) (F : Nat → Prop) (g : Nat) (s : Dsk) (h : DiskAt w F g s)
include h

set_option maxRecDepth 100000 in
set_option maxHeartbeats 1000000 in
theorem dtear_c (n : Int) (hn : n ≤ 9223372036854775807) :
    Calls Try.prog 50 #[.pointer (some ⟨g, 0, none⟩), .int .i64 n] w fun e w' => e = .returned (.tuple #[]) ∧ DiskAt w' F g (dTear s n) ∧ Kept w w' (one g) := by
  obtain ⟨h0, h1, a, c, Fb, h2, h3, h4⟩ := h
  have f2 := h2.froz 2
  have f3 := h2.froz 3
  have k2 := h2.cell 2
  have k3 := h2.cell 3
  simp at k2 k3
  have hK := ((Kept.refl w (one g)).set1 (g := g) (i := 3) (.bool true) rfl)
  have fin : ∀ v : Int, v = (n.toNat : Int) → DiskAt ((w.setCell ⟨g, 3, none⟩ (.bool true)).setCell ⟨g, 2, none⟩ (.int .i64 v)) F g (dTear s n) ∧ Kept w ((w.setCell ⟨g, 3, none⟩ (.bool true)).setCell ⟨g, 2, none⟩ (.int .i64 v)) (one g) := by
    intro v hv
    subst hv
    have hK2 := hK.set1 (g := g) (i := 2) (.int .i64 (n.toNat : Int)) rfl
    refine ⟨⟨⟨h0.b, h0.room, by simp only [dTear]; omega⟩, h1, a, c, Fb, ?_, h3.kept hK2 (fun k hk e => (h4 k hk).2 e), h4⟩, hK2⟩
    have h5 := (h2.set 3 (.bool true)).set 2 (.int .i64 (n.toNat : Int))
    simpa [dTear] using h5
  go_enter Try.func50, Try.ntmps50
  go_wp2
  all_goals
    go_end0
    exact ⟨rfl, fin _ (by omega)⟩

set_option maxRecDepth 100000 in
set_option maxHeartbeats 1000000 in
theorem dcrash_c :
    Calls Try.prog 51 #[.pointer (some ⟨g, 0, none⟩)] w fun e w' => e = .returned (.tuple #[]) ∧ DiskAt w' F g (dCrash s) ∧ Kept w w' (one g) := by
  obtain ⟨h0, h1, a, c, Fb, h2, h3, h4⟩ := h
  have f4 := h2.froz 4
  have k4 := h2.cell 4
  simp at k4
  have hK := ((Kept.refl w (one g)).set1 (g := g) (i := 4) (.bool true) rfl)
  go_enter Try.func51, Try.ntmps51
  go_wp2
  go_end0
  refine ⟨rfl, ⟨⟨h0.b, h0.room, h0.tear⟩, h1, a, c, Fb, ?_, h3.kept hK (fun k hk e => (h4 k hk).2 e), h4⟩, hK⟩
  have h5 := h2.set 4 (.bool true)
  simpa [dCrash] using h5

set_option maxRecDepth 100000 in
set_option maxHeartbeats 1000000 in
theorem dstart_c :
    Calls Try.prog 52 #[.pointer (some ⟨g, 0, none⟩)] w fun e w' => e = .returned (.tuple #[]) ∧ DiskAt w' F g (dStart s) ∧ Kept w w' (one g) := by
  obtain ⟨h0, h1, a, c, Fb, h2, h3, h4⟩ := h
  have f4 := h2.froz 4
  have k4 := h2.cell 4
  have f3 := h2.froz 3
  have k3 := h2.cell 3
  simp at k4 k3
  have hK := (((Kept.refl w (one g)).set1 (g := g) (i := 4) (.bool false) rfl)).set1 (g := g) (i := 3) (.bool false) rfl
  go_enter Try.func52, Try.ntmps52
  go_wp2
  go_end0
  refine ⟨rfl, ⟨⟨h0.b, h0.room, h0.tear⟩, h1, a, c, Fb, ?_, h3.kept hK (fun k hk e => (h4 k hk).2 e), h4⟩, hK⟩
  have h5 := (h2.set 4 (.bool false)).set 3 (.bool false)
  simpa [dStart] using h5

set_option maxRecDepth 100000 in
set_option maxHeartbeats 1000000 in
theorem dup_c :
    Calls Try.prog 54 #[.pointer (some ⟨g, 0, none⟩)] w fun e w' => e = .returned (.bool (!s.down)) ∧ w = w' := by
  obtain ⟨h0, h1, a, c, Fb, h2, h3, h4⟩ := h
  have k4 := h2.cell 4
  simp at k4
  go_enter Try.func54, Try.ntmps54
  go_wp2
  go_ret
  exact ⟨rfl, rfl⟩

set_option maxRecDepth 100000 in
set_option maxHeartbeats 1000000 in
theorem dread_c :
    Calls Try.prog 48 #[.pointer (some ⟨g, 0, none⟩)] w fun e w' => ∃ a n c, e = .returned (.tuple #[.slice a n c, .int .i64 (dRead s).2]) ∧ By.Own w' (new w w') a n c (dRead s).1 ∧ Kept w w' nix := by
  obtain ⟨h0, h1, a, c, Fb, h2, h3, h4⟩ := h
  have k4 := h2.cell 4
  have k1 := h2.cell 1
  simp at k4 k1
  have hb := h0.b
  have hr := h0.room
  obtain ⟨room, b, tear, torn, down⟩ := s
  simp only at *
  cases down
  · go_enter Try.func48, Try.ntmps48
    go_wp2_with (first
      | (go_at_call 118; refine (clone_c _ _ _ _ _ _ h3 (by omega)).mono ?_; rintro e w2 ⟨a2, c2, rfl, hO2, hK2⟩; have hcap2 := hO2.cap)
      | (go_at_call 119; refine (clip_c _ _ _ _ hcap2).mono ?_; rintro e w3 ⟨rfl, rfl⟩))
    go_ret2
    exact ⟨_, _, _, rfl, hO2.clip, hK2⟩
  · go_enter Try.func48, Try.ntmps48
    go_wp2
    go_ret2
    exact ⟨_, _, _, rfl, Sh.Own.nil _ _ _, Kept.refl _ _⟩

set_option maxRecDepth 100000 in
set_option maxHeartbeats 2000000 in
theorem dwrite_c (Fx : Nat → Prop) (a2 : Option Addr) (c2 there : Nat) (nb : List UInt8) (hS : By.Sl w Fx a2 nb.length c2 nb) (hx : ∀ k, Fx k → F k ∧ k ≠ g) (ht : there ≤ nb.length) :
    Calls Try.prog 122 #[.pointer (some ⟨g, 0, none⟩), .slice a2 nb.length c2, .int .i64 there] w fun e w' => e = .returned (.int .i64 (dWrite s nb there).1) ∧ DiskAt w' F g (dWrite s nb there).2 ∧ Kept w w' (one g) := by
  have hD := hid h
  obtain ⟨h0, h1, a, c, Fb, h2, h3, h4⟩ := h
  have k0 := h2.cell 0
  have k1 := h2.cell 1
  have k2 := h2.cell 2
  have k3 := h2.cell 3
  have k4 := h2.cell 4
  have f1 := h2.froz 1
  have f3 := h2.froz 3
  have f4 := h2.froz 4
  simp at k0 k1 k2 k3 k4
  have hb := h0.b
  have hr := h0.room
  have htr := h0.tear
  have hcap := hS.cap
  have hmax := hS.max
  obtain ⟨room, b, tear, torn, down⟩ := s
  simp only at *
  cases down
  · by_cases hfull : room < nb.length
    · have E := hid (show dWrite ⟨room, b, tear, torn, false⟩ nb there = (5, ⟨room, b, tear, torn, false⟩) by simp [dWrite, hfull])
      go_enter Try.func122, Try.ntmps122
      go_wp2
      go_ret
      rw [E.out]
      exact ⟨rfl, hD.out, Kept.refl _ _⟩
    · cases torn
      · have E := hid (show dWrite ⟨room, b, tear, false, false⟩ nb there = (0, ⟨room, nb, tear, false, false⟩) by simp [dWrite, hfull])
        have hK := (Kept.refl w (one g)).set1 (g := g) (i := 1) (.slice a2 nb.length c2) rfl
        go_enter Try.func122, Try.ntmps122
        go_wp2
        go_ret
        rw [E.out]
        refine ⟨rfl, ⟨⟨by simp only; omega, hr, htr⟩, h1, a2, c2, Fx, ?_, hS.kept hK (fun k hk e => (hx k hk).2 e), hx⟩, hK⟩
        have h5 := h2.set 1 (.slice a2 nb.length c2)
        simpa using h5
      · have E := hid (show dWrite ⟨room, b, tear, true, false⟩ nb there = (6, ⟨room, nb.take (there + min tear (nb.length - there)), tear, false, true⟩) by simp [dWrite, hfull])
        have fin : ∀ v : Nat, v = there + min tear (nb.length - there) → DiskAt (((w.setCell ⟨g, 3, none⟩ (.bool false)).setCell ⟨g, 4, none⟩ (.bool true)).setCell ⟨g, 1, none⟩ (.slice a2 v c2)) F g (dWrite ⟨room, b, tear, true, false⟩ nb there).2 ∧ Kept w (((w.setCell ⟨g, 3, none⟩ (.bool false)).setCell ⟨g, 4, none⟩ (.bool true)).setCell ⟨g, 1, none⟩ (.slice a2 v c2)) (one g) := by
          intro v hv
          have hK := (((Kept.refl w (one g)).set1 (g := g) (i := 3) (.bool false) rfl).set1 (g := g) (i := 4) (.bool true) rfl).set1 (g := g) (i := 1) (.slice a2 v c2) rfl
          rw [E.out, ← hv]
          have hvn : v ≤ nb.length := by omega
          have hlt : (nb.take v).length = v := by rw [List.length_take]; omega
          refine ⟨⟨⟨by simp only [hlt]; omega, hr, htr⟩, h1, a2, c2, Fx, ?_, ?_, hx⟩, hK⟩
          · have h5 := ((h2.set 3 (.bool false)).set 4 (.bool true)).set 1 (.slice a2 v c2)
            simp only [hlt]
            simpa using h5
          · simp only [hlt]
            exact (hS.take v hvn).kept hK (fun k hk e => (hx k hk).2 e)
        go_enter Try.func122, Try.ntmps122
        go_wp2
        all_goals
          go_ret
          refine ⟨by rw [E.out]; rfl, fin _ (by omega)⟩
  · have E := hid (show dWrite ⟨room, b, tear, torn, true⟩ nb there = (6, ⟨room, b, tear, torn, true⟩) by simp [dWrite])
    go_enter Try.func122, Try.ntmps122
    go_wp2
    go_ret
    rw [E.out]
    exact ⟨rfl, hD.out, Kept.refl _ _⟩

set_option maxRecDepth 100000 in
set_option maxHeartbeats 600000 in
theorem dappend_c (Fx : Nat → Prop) (a2 : Option Addr) (n2 c2 : Nat) (x : List UInt8) (hS : By.Sl w Fx a2 n2 c2 x) (hn2 : n2 ≤ 140737471000000) :
    Calls Try.prog 49 #[.pointer (some ⟨g, 0, none⟩), .slice a2 n2 c2] w fun e w' => e = .returned (.int .i64 (dAppend s x).1) ∧ DiskAt w' (fun k => F k ∨ new w w' k) g (dAppend s x).2 ∧ Kept w w' (one g) := by
  have hD := hid h
  obtain ⟨h0, h1, a, c, Fb, h2, h3, h4⟩ := h
  have k1 := fun W (hK : Kept w W nix) => (h2.kept hK (fun h => h)).cell 1
  simp at k1
  have hb := h0.b
  have hr := h0.room
  have hcap := hS.cap
  have hmax := hS.max
  have hlt := h2.lt
  have hlx := hS.len
  go_enter Try.func49, Try.ntmps49
  go_wp2_with fail
  have s0_0 : Kept w w.drew nix := (Kept.refl _ _).drew
  refine wp_region_T (S := fun W => Kept w W nix ∧ True) (t := 13) (by kernel_rfl) ?_
  have HS : Kept w w.drew nix ∧ True := ⟨s0_0, trivial⟩
  show wpAnyT _ _ _ _ _ _ _ _ _ w.drew
  refine wpAnyT_take (i := 0) (oi := { dst := some 7, op := Op.move (Operand.tmp 0), type := 42, pos := "disk.go:45", after := #[], guard := none }) (v := ?_) rfl (by kernel_rfl) (by kernel_rfl) (by kernel_rfl) (by kernel_rfl) (fun _ _ _ h => h) (.inl ⟨by rfl, fun W hS => ?_⟩) HS ?_
  rotate_left
  · obtain ⟨t0, -⟩ := hS
    go_simp
    try with_reducible rfl
  rotate_left
  try simp only [Act.put, List.setIfInBounds_toArray, List.set_cons_zero, List.set_cons_succ]
  refine wpAnyT_take (i := 1) (oi := { dst := some 8, op := Op.move (Operand.tmp 0), type := 42, pos := "disk.go:45", after := #[], guard := none }) (v := ?_) rfl (by kernel_rfl) (by kernel_rfl) (by kernel_rfl) (by kernel_rfl) (fun _ _ _ h => h) (.inl ⟨by rfl, fun W hS => ?_⟩) HS ?_
  rotate_left
  · obtain ⟨t0, -⟩ := hS
    go_simp
    try with_reducible rfl
  rotate_left
  try simp only [Act.put, List.setIfInBounds_toArray, List.set_cons_zero, List.set_cons_succ]
  refine wpAnyT_take (i := 2) (oi := { dst := some 9, op := Op.nilCheck (Operand.tmp 8), type := 0, pos := "disk.go:45", after := #[{ on := 1, ground := Ground.data }], guard := none }) (v := ?_) rfl (by kernel_rfl) (by kernel_rfl) (by kernel_rfl) (by kernel_rfl) (fun _ _ _ h => h) (.inl ⟨by rfl, fun W hS => ?_⟩) HS ?_
  rotate_left
  · obtain ⟨t0, -⟩ := hS
    go_simp
    try with_reducible rfl
  rotate_left
  try simp only [Act.put, List.setIfInBounds_toArray, List.set_cons_zero, List.set_cons_succ]
  refine wpAnyT_take (i := 3) (oi := { dst := some 10, op := Op.fieldAddr 157 (Operand.tmp 9) 1, type := 0, pos := "disk.go:45", after := #[{ on := 2, ground := Ground.data }], guard := none }) (v := ?_) rfl (by kernel_rfl) (by kernel_rfl) (by kernel_rfl) (by kernel_rfl) (fun _ _ _ h => h) (.inl ⟨by rfl, fun W hS => ?_⟩) HS ?_
  rotate_left
  · obtain ⟨t0, -⟩ := hS
    go_simp
    try with_reducible rfl
  rotate_left
  try simp only [Act.put, List.setIfInBounds_toArray, List.set_cons_zero, List.set_cons_succ]
  refine wpAnyT_take (i := 4) (oi := { dst := some 11, op := Op.load 22 (Operand.tmp 10), type := 22, pos := "disk.go:45", after := #[{ on := 3, ground := Ground.data }], guard := none }) (v := ?_) rfl (by kernel_rfl) (by kernel_rfl) (by kernel_rfl) (by kernel_rfl) (fun _ _ _ h => h) (.inl ⟨by rfl, fun W hS => ?_⟩) HS ?_
  rotate_left
  · obtain ⟨t0, -⟩ := hS
    go_simp
    try with_reducible rfl
  rotate_left
  try simp only [Act.put, List.setIfInBounds_toArray, List.set_cons_zero, List.set_cons_succ]
  refine wpAnyT_take (i := 5) (oi := { dst := some 12, op := Op.move (Operand.tmp 1), type := 22, pos := "disk.go:45", after := #[], guard := none }) (v := ?_) rfl (by kernel_rfl) (by kernel_rfl) (by kernel_rfl) (by kernel_rfl) (fun _ _ _ h => h) (.inl ⟨by rfl, fun W hS => ?_⟩) HS ?_
  rotate_left
  · obtain ⟨t0, -⟩ := hS
    go_simp
    try with_reducible rfl
  rotate_left
  try simp only [Act.put, List.setIfInBounds_toArray, List.set_cons_zero, List.set_cons_succ]
  refine wpAnyT_take (i := 8) (oi := { dst := some 15, op := Op.move (Operand.tmp 0), type := 42, pos := "disk.go:45", after := #[], guard := none }) (v := ?_) rfl (by kernel_rfl) (by kernel_rfl) (by kernel_rfl) (by kernel_rfl) (fun _ _ _ h => h) (.inl ⟨by rfl, fun W hS => ?_⟩) HS ?_
  rotate_left
  · obtain ⟨t0, -⟩ := hS
    go_simp
    try with_reducible rfl
  rotate_left
  try simp only [Act.put, List.setIfInBounds_toArray, List.set_cons_zero, List.set_cons_succ]
  refine wpAnyT_take (i := 9) (oi := { dst := some 16, op := Op.nilCheck (Operand.tmp 15), type := 0, pos := "disk.go:45", after := #[{ on := 8, ground := Ground.data }], guard := none }) (v := ?_) rfl (by kernel_rfl) (by kernel_rfl) (by kernel_rfl) (by kernel_rfl) (fun _ _ _ h => h) (.inl ⟨by rfl, fun W hS => ?_⟩) HS ?_
  rotate_left
  · obtain ⟨t0, -⟩ := hS
    go_simp
    try with_reducible rfl
  rotate_left
  try simp only [Act.put, List.setIfInBounds_toArray, List.set_cons_zero, List.set_cons_succ]
  refine wpAnyT_take (i := 10) (oi := { dst := some 17, op := Op.fieldAddr 157 (Operand.tmp 16) 1, type := 0, pos := "disk.go:45", after := #[{ on := 9, ground := Ground.data }], guard := none }) (v := ?_) rfl (by kernel_rfl) (by kernel_rfl) (by kernel_rfl) (by kernel_rfl) (fun _ _ _ h => h) (.inl ⟨by rfl, fun W hS => ?_⟩) HS ?_
  rotate_left
  · obtain ⟨t0, -⟩ := hS
    go_simp
    try with_reducible rfl
  rotate_left
  try simp only [Act.put, List.setIfInBounds_toArray, List.set_cons_zero, List.set_cons_succ]
  refine wpAnyT_take (i := 11) (oi := { dst := some 18, op := Op.load 22 (Operand.tmp 17), type := 22, pos := "disk.go:45", after := #[{ on := 10, ground := Ground.data }], guard := none }) (v := ?_) rfl (by kernel_rfl) (by kernel_rfl) (by kernel_rfl) (by kernel_rfl) (fun _ _ _ h => h) (.inl ⟨by rfl, fun W hS => ?_⟩) HS ?_
  rotate_left
  · obtain ⟨t0, -⟩ := hS
    go_simp
    try with_reducible rfl
  rotate_left
  try simp only [Act.put, List.setIfInBounds_toArray, List.set_cons_zero, List.set_cons_succ]
  refine wpAnyT_take (i := 12) (oi := { dst := some 19, op := Op.call { callee := Callee.builtin Builtin.len, args := #[Operand.tmp 18], argTypes := #[22] }, type := 3, pos := "disk.go:45", after := #[{ on := 11, ground := Ground.data }], guard := none }) (v := ?_) rfl (by kernel_rfl) (by kernel_rfl) (by kernel_rfl) (by kernel_rfl) (fun _ _ _ h => h) (.inl ⟨by rfl, fun W hS => ?_⟩) HS ?_
  rotate_left
  · obtain ⟨t0, -⟩ := hS
    go_simp
    try with_reducible rfl
  rotate_left
  try simp only [Act.put, List.setIfInBounds_toArray, List.set_cons_zero, List.set_cons_succ]
  refine wpAnyT_one (i := 6) (oi := { dst := some 13, op := Op.buildSlice 30 2 #[(0, Operand.tmp 11), (1, Operand.tmp 12)], type := 30, pos := "disk.go:45", after := #[{ on := 4, ground := Ground.data }, { on := 5, ground := Ground.data }], guard := none }) rfl (by kernel_rfl) (by rfl) (by rfl) (fun K hK => ?_)
  go_simp
  have hK1 : Kept w.drew (w.alloc (.cells #[.slice a s.b.length c, .slice a2 n2 c2] 22)).drew nix := alloc_kept w.drew _
  have hB1 : Blk (w.alloc (.cells #[.slice a s.b.length c, .slice a2 n2 c2] 22)).drew w.heap.size #[.slice a s.b.length c, .slice a2 n2 c2] := Blk.new_ w.drew _ _
  generalize (w.alloc (.cells #[.slice a s.b.length c, .slice a2 n2 c2] 22)).drew = w1 at hK1 hB1 ⊢
  have hKw1 : Kept w w1 nix := (Kept.refl w nix).drew.n hK1
  have hT := sl_two hB1 (h3.kept hKw1 (fun _ _ => id)) (hS.kept hKw1 (fun _ _ => id)) (by unfold maxB; omega) (by unfold maxB; omega)
  have s0_1 := s0_0.n hK1
  have s1_1 := Kept.refl w1 nix
  clear HS
  refine hK _ _ (fun W => Kept w1 W nix ∧ Kept w W nix ∧ True) ⟨s1_1, s0_1, trivial⟩ (fun _ h => h.2) ?_
  have HS : Kept w1 w1 nix ∧ Kept w w1 nix ∧ True := ⟨s1_1, s0_1, trivial⟩
  clear hK K
  try simp only [Act.put, List.setIfInBounds_toArray, List.set_cons_zero, List.set_cons_succ]
  refine wpAnyT_one (i := 7) (oi := { dst := some 14, op := Op.call { callee := Callee.value (Operand.func 123), args := #[Operand.tmp 13], argTypes := #[30] }, type := 22, pos := "disk.go:45", after := #[{ on := 6, ground := Ground.data }], guard := none }) rfl (by kernel_rfl) (by rfl) (by rfl) (fun K hK => ?_)
  go_simp
  refine (concat_c _ _ _ _ _ _ hT (by unfold sumL; simp; omega)).mono ?_; rintro e w2 ⟨a3, m3, c3, rfl, hO2, hK2⟩
  have hap : ([s.b, x] : List (List UInt8)).flatten = s.b ++ x := by simp
  rw [hap] at hO2
  obtain ⟨nb, hnb⟩ : ∃ nb, nb = s.b ++ x := ⟨_, rfl⟩
  rw [← hnb] at hO2
  have Hnb := hid hnb
  clear hnb hap
  have hl3 := hO2.len
  subst hl3
  have hKw2 : Kept w w2 nix := hKw1.n hK2
  have hO3 := hO2.sl.mono (new_mono hKw1.size (Nat.le_refl w2.heap.size))
  have hD2 : DiskAt w2 (fun k => F k ∨ new w w2 k) g s := (hD.out.kept hKw2 (fun _ _ => id)).mono (fun _ h => .inl h)
  have hcall := dwrite_c w2 _ g s hD2 _ a3 c3 s.b.length nb hO3 (fun k hk => ⟨.inr hk, fun e => by have := hk.1; omega⟩) (by rw [Hnb.out]; simp)
  have E := hid (show dWrite s nb s.b.length = dAppend s x by rw [Hnb.out]; rfl)
  have s0_2 := s0_1.n hK2
  have s1_2 := s1_1.n hK2
  have s2_2 := Kept.refl w2 nix
  clear HS
  refine hK _ _ (fun W => Kept w2 W nix ∧ Kept w1 W nix ∧ Kept w W nix ∧ True) ⟨s2_2, s1_2, s0_2, trivial⟩ (fun _ h => h.2) ?_
  have HS : Kept w2 w2 nix ∧ Kept w1 w2 nix ∧ Kept w w2 nix ∧ True := ⟨s2_2, s1_2, s0_2, trivial⟩
  clear hK K
  try simp only [Act.put, List.setIfInBounds_toArray, List.set_cons_zero, List.set_cons_succ]
  refine wpAnyT_turn (oi := { dst := some 20, op := Op.call { callee := Callee.value (Operand.func 122), args := #[Operand.tmp 7, Operand.tmp 14, Operand.tmp 19], argTypes := #[42, 22, 3] }, type := 44, pos := "disk.go:45", after := #[{ on := 0, ground := Ground.data }, { on := 7, ground := Ground.data }, { on := 12, ground := Ground.data }, { on := 7, ground := Ground.chain }], guard := none }) rfl (by kernel_rfl) (by rfl) (fun K hK => ?_)
  go_simp
  refine hcall.mono ?_; rintro e w3 ⟨rfl, hD3, hK3⟩
  rw [E.out] at hD3
  clear HS
  have s0_0 := Kept.refl w3 nix
  refine hK _ _ ?_
  clear hK K
  refine wpAny_of_held (S := fun W => Kept w3 W nix ∧ True) _ _ _ _ ?_
  have HS : Kept w3 w3 nix ∧ True := ⟨s0_0, trivial⟩
  try simp only [Act.put, List.setIfInBounds_toArray, List.set_cons_zero, List.set_cons_succ]
  refine wpAnyH_take (i := 14) (oi := { dst := some 4, op := Op.assign (Operand.tmp 20), type := 44, pos := "disk.go:45", after := #[{ on := 13, ground := Ground.data }, { on := 13, ground := Ground.chain }, { on := 0, ground := Ground.phase }, { on := 1, ground := Ground.phase }, { on := 2, ground := Ground.phase }, { on := 3, ground := Ground.phase }, { on := 4, ground := Ground.phase }, { on := 5, ground := Ground.phase }, { on := 6, ground := Ground.phase }, { on := 7, ground := Ground.phase }, { on := 8, ground := Ground.phase }, { on := 9, ground := Ground.phase }, { on := 10, ground := Ground.phase }, { on := 11, ground := Ground.phase }, { on := 12, ground := Ground.phase }, { on := 13, ground := Ground.phase }], guard := none }) (v := ?_) rfl (by kernel_rfl) (by kernel_rfl) (by kernel_rfl) (fun _ _ _ h => h) (.inl ⟨by rfl, fun W hS => ?_⟩) HS ?_
  rotate_left
  · obtain ⟨t0, -⟩ := hS
    go_simp
    try with_reducible rfl
  rotate_left
  try simp only [Act.put, List.setIfInBounds_toArray, List.set_cons_zero, List.set_cons_succ]
  refine wpAnyH_done (by kernel_rfl) ?_ _
  go_wp2_with fail
  go_ret
  rw [E.out]
  refine ⟨rfl, hD3.mono (fun k hk => hk.imp id (fun hn => ⟨hn.1, Nat.lt_of_lt_of_le hn.2 hK3.size⟩)), (hKw2.mono (fun _ _ h => h.elim)).trans hK3 (fun _ _ h => h)⟩
end
end Go.Proofs.Ytlhlljjchggnjaa
