/- The walks of package entry: what is sound. -/
import Derived.Test.YtlhlljjchggnjaaStruct
import Derived.Test.YtlhlljjchggnjaaApp
import Derived.Outline
namespace Go.Proofs.Ytlhlljjchggnjaa
open Go.RowKit

theorem ret_bool {a b : Bool} (h : a = b) : Ending.returned (.bool a) = .returned (.bool b) := by rw [h]
theorem ret_i64 {a b : Int} (h : a = b) : Ending.returned (.int .i64 a) = .returned (.int .i64 b) := by rw [h]

set_option maxHeartbeats 400000 in
theorem within_c (w : World) (n lo hi : Int) : Calls Try.prog 133 #[.int .i64 n, .int .i64 lo, .int .i64 hi] w fun e w' => e = .returned (.bool (inB n lo hi)) ∧ w = w' := by
  by_cases h1 : lo ≤ n
  · go_enter Try.func133, Try.ntmps133
    go_wp2
    go_ret
    exact ⟨by simp [inB, h1], rfl⟩
  · have h2 : n < lo := by omega
    go_enter Try.func133, Try.ntmps133
    go_wp2
    go_ret
    exact ⟨ret_bool (by simp [inB]; omega), rfl⟩

/-- An entry by value. -/
abbrev entV (e : Ent) (a : Option Addr) (n c : Nat) : Value := .agg #[.int .i64 e.seq, .int .i64 e.client, .int .i64 e.num, .int .i64 e.op, strv e.key, .int .i64 e.size, .int .u32 e.sum, .slice a n c]

set_option maxRecDepth 100000 in
set_option maxHeartbeats 1000000 in
theorem esound_c (w : World) (e : Ent) (a : Option Addr) (n c : Nat) (hn : e.frag.length = n) : Calls Try.prog 61 #[entV e a n c] w fun r w' => r = .returned (.bool (entOk e)) ∧ Kept w w' nix := by
  have hk := alloc_kept w (.cells #[.int .i64 e.seq, .int .i64 e.client, .int .i64 e.num, .int .i64 e.op, strv e.key, .int .i64 e.size, .int .u32 e.sum, .slice a n c] 72)
  go_enter Try.func61, Try.ntmps61
  go_wp2_with (go_at_call 133; refine (within_c _ _ _ _).mono ?_; rintro r w1 ⟨rfl, rfl⟩)
  all_goals
    go_ret
    refine ⟨ret_bool ?_, hk⟩
    subst hn
    rw [Bool.eq_iff_iff]
    simp [entOk, *]
    try omega

/-! ### slices.ContainsFunc of a function that only looks -/
theorem any_take_succ {α : Type} (p : α → Bool) (l : List α) (k : Nat) (h : k < l.length) : (l.take (k + 1)).any p = ((l.take k).any p || p l[k]) := by
  rw [List.take_succ_eq_append_getElem h, List.any_append]
  simp

theorem not_any_take {α : Type} (p : α → Bool) (l : List α) (k : Nat) (h : k < l.length) (h1 : (l.take k).any p = false) (h2 : p l[k] = false) : (l.take (k + 1)).any p = false := by
  rw [any_take_succ p l k h, h1, h2]
  rfl
/-- What IndexFunc answers. -/
def IxOf {α : Type} (p : α → Bool) (l : List α) (i : Int) : Prop := (i = -1 ∧ l.any p = false) ∨ ∃ (k : Nat) (hk : k < l.length), i = (k : Int) ∧ p l[k] = true ∧ (l.take k).any p = false
theorem IxOf.none_ {α : Type} {p : α → Bool} {l : List α} (h : l.any p = false) : IxOf p l (-1) := .inl ⟨rfl, h⟩
theorem IxOf.some_ {α : Type} {p : α → Bool} {l : List α} {k : Nat} (hk : k < l.length) (h : p l[k] = true) (h2 : (l.take k).any p = false) : IxOf p l k := .inr ⟨k, hk, rfl, h, h2⟩
theorem IxOf.bound {α : Type} {p : α → Bool} {l : List α} {i : Int} (h : IxOf p l i) : -1 ≤ i ∧ i ≤ l.length := by
  rcases h with ⟨rfl, _⟩ | ⟨k, hk, rfl, _⟩ <;> omega
theorem IxOf.any {α : Type} {p : α → Bool} {l : List α} {i : Int} (h : IxOf p l i) : decide (0 ≤ i) = l.any p := by
  rcases h with ⟨rfl, h⟩ | ⟨k, hk, rfl, h, _⟩
  · rw [h]; rfl
  · have : l.any p = true := List.any_eq_true.2 ⟨_, List.getElem_mem hk, h⟩
    rw [this]
    simp

set_option maxHeartbeats 400000 in
theorem confbad_c (w : World) (x : Int) : Calls Try.prog 183 #[.int .i64 x] w fun e w' => e = .returned (.bool (!inB x 0 15)) ∧ Kept w w' nix := by
  go_enter Try.func183, Try.ntmps183
  go_wp2_with (go_at_call 133; refine (within_c _ _ _ _).mono ?_; rintro r w1 ⟨rfl, rfl⟩)
  go_ret
  exact ⟨rfl, Kept.refl _ _⟩
set_option maxRecDepth 100000 in
set_option maxHeartbeats 1000000 in
theorem confIx (p : Int → Bool) (hf : ∀ (w : World) (x : Int), Calls Try.prog 183 #[.int .i64 x] w fun e w' => e = .returned (.bool (p x)) ∧ Kept w w' nix)
    (w : World) (F : Nat → Prop) (a : Option Addr) (n c : Nat) (xs : List Int) (h : In.Sl w F a n c xs) :
    Calls Try.prog 184 #[.slice a n c, .func (.func 183) #[] #[]] w fun e w' => (∃ i : Int, e = .returned (.int .i64 i) ∧ IxOf p xs i) ∧ Kept w w' nix := by
  have hm := h.max
  have L := hid h.len
  go_enter Try.func184, Try.ntmps184
  go_wp2_with fail
  go_loopw [8] (fun i wr => ∃ k : Nat, i = .int .i64 k ∧ k ≤ n ∧ Kept w wr nix ∧ (xs.take k).any p = false) (fun i _ => n - (intOf i).toNat)
  case atStart => exact ⟨0, rfl, Nat.zero_le _, Kept.refl _ _, rfl⟩
  case round =>
    obtain ⟨k, rfl, hk, hK, hno⟩ := hrel
    have HN := hid hno
    clear hno
    by_cases hlt : k < n
    · have hkl : k < xs.length := by have := L.out; omega
      obtain ⟨g, o, rfl, _, hgl, hc⟩ := plain_at h k _ (List.getElem?_eq_getElem hkl)
      have hc' := hK.cell hc (fun h => h)
      have H1 := hid (fun h1 => IxOf.some_ (p := p) hkl h1 HN.out)
      have H2 := hid (fun h1 => not_any_take p xs k hkl HN.out h1)
      generalize xs[k] = x at *
      have hfx := fun W => hf W x
      clear hf
      cases hpx : p x
      all_goals
        simp only [hpx] at hfx
        go_wp2_with (go_at_call 183; (with_reducible refine (hfx _).mono ?_); rintro e w2 ⟨rfl, hK2⟩)
      · refine ⟨⟨k + 1, by go_num, by omega, hK.n hK2, H2.out hpx⟩, by simp [intOf]; omega⟩
      · go_ret
        exact ⟨⟨_, rfl, H1.out hpx⟩, hK.n hK2⟩
    · have : k = n := by omega
      subst this
      have HE := HN.out
      rw [List.take_of_length_le (by have := L.out; omega)] at HE
      have HE2 := hid HE
      clear HE
      go_wp2_with fail
      go_ret
      exact ⟨⟨_, rfl, IxOf.none_ HE2.out⟩, hK⟩
set_option maxRecDepth 100000 in
theorem confHas (p : Int → Bool) (hf : ∀ (w : World) (x : Int), Calls Try.prog 183 #[.int .i64 x] w fun e w' => e = .returned (.bool (p x)) ∧ Kept w w' nix)
    (w : World) (F : Nat → Prop) (a : Option Addr) (n c : Nat) (xs : List Int) (h : In.Sl w F a n c xs) :
    Calls Try.prog 172 #[.slice a n c, .func (.func 183) #[] #[]] w fun e w' => e = .returned (.bool (xs.any p)) ∧ Kept w w' nix := by
  have hx := confIx p hf w F a n c xs h
  go_enter Try.func172, Try.ntmps172
  go_wp2_with (go_at_call 184; (with_reducible refine hx.mono ?_); rintro e w2 ⟨⟨i, rfl, hI⟩, hK2⟩)
  go_ret
  exact ⟨ret_bool hI.any, hK2⟩
theorem any_not_all {α : Type} (p : α → Bool) (l : List α) : l.any (fun x => !p x) = !l.all p := by
  induction l with
  | nil => rfl
  | cons x r ih => simp only [List.any_cons, List.all_cons, ih, Bool.not_and]

set_option maxRecDepth 100000 in
set_option maxHeartbeats 1000000 in
theorem econf_c (w : World) (F : Nat → Prop) (x : Cnf) (a : Option Addr) (n c : Nat) (h : In.Sl w F a n c x.members) :
    Calls Try.prog 169 #[.agg #[.int .i64 x.epoch, .slice a n c]] w fun r w' => r = .returned (.bool (cnfOk x)) ∧ Kept w w' nix := by
  have hk := alloc_kept w (.cells #[.int .i64 x.epoch, .slice a n c] 58)
  have hm := confHas (fun x => !inB x 0 15) confbad_c _ F a n c _ (h.kept hk (fun _ _ => id))
  rw [any_not_all] at hm
  have L := hid h.len
  go_enter Try.func169, Try.ntmps169
  go_wp2_with (first
    | (go_at_call 133; refine (within_c _ _ _ _).mono ?_; rintro r w1 ⟨rfl, rfl⟩)
    | (go_at_call 172; (with_reducible refine hm.mono ?_); rintro r w2 ⟨rfl, hK2⟩))
  all_goals
    go_ret
    refine ⟨ret_bool ?_, by first | exact hk | exact hk.n hK2⟩
    have l := L.out
    rw [Bool.eq_iff_iff]
    simp [cnfOk, *]
    try omega
end Go.Proofs.Ytlhlljjchggnjaa
