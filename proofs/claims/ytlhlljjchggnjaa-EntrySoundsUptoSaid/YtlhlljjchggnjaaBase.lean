/- Plain words of this seat, over any program: what a call keeps ('Kept'), shapes of data in memory that are read ('Sh', 'Sl'), a slice that the call may append to ('Own'). No Go text is named here. -/
import Derived.WalkKit
import Derived.WalkSpells
import Derived.WalkLawsBesides
import Derived.KernelRfl
namespace Go.Proofs.Ytlhlljjchggnjaa
open Go.RowKit

/-- A fact kept from the walk's rewriting. -/
theorem hid {p : Prop} (h : p) : Hid p := h

/-! ### 1. What is kept -/

/-- Nothing. -/
def nix : Nat → Prop := fun _ => False

/-- All blocks of w but those of S are as they were. -/
structure Kept (w w' : World) (S : Nat → Prop) : Prop where
  os : w'.os = w.os
  tape : w'.tape = w.tape
  output : w'.output = w.output
  size : w.heap.size ≤ w'.heap.size
  block : ∀ k, k < w.heap.size → ¬ S k → w'.heap[k]? = w.heap[k]?

namespace Kept
variable {w w' w'' : World} {S T : Nat → Prop}
theorem refl (w : World) (S : Nat → Prop) : Kept w w S := ⟨rfl, rfl, rfl, Nat.le_refl _, fun _ _ _ => rfl⟩
theorem mono (h : Kept w w' S) (hs : ∀ k, k < w.heap.size → S k → T k) : Kept w w' T :=
  ⟨h.os, h.tape, h.output, h.size, fun k hk hn => h.block k hk (fun hh => hn (hs k hk hh))⟩
/-- Two steps: the second may write what the first made. -/
theorem trans (h : Kept w w' S) (k : Kept w' w'' T) (hs : ∀ g, g < w.heap.size → T g → S g) : Kept w w'' S :=
  ⟨k.os.trans h.os, k.tape.trans h.tape, k.output.trans h.output, Nat.le_trans h.size k.size,
    fun g hg hn => (k.block g (Nat.lt_of_lt_of_le hg h.size) (fun ht => hn (hs g hg ht))).trans (h.block g hg hn)⟩
theorem alloc (h : Kept w w' S) (o : Obj) : Kept w (w'.alloc o) S :=
  h.trans (T := nix) ⟨rfl, rfl, rfl, by simp, fun k hk _ => Below.heap_alloc w' o k hk⟩ (fun _ _ hf => hf.elim)
theorem drew (h : Kept w w' S) : Kept w w'.drew S := ⟨h.os, h.tape, h.output, h.size, h.block⟩
theorem drewN (h : Kept w w' S) (n : Nat) : Kept w (w'.drewN n) S := ⟨h.os, h.tape, h.output, h.size, h.block⟩
theorem setCell (h : Kept w w' S) {p : Addr} (hp : p.block < w.heap.size → S p.block) (u : Value) : Kept w (w'.setCell p u) S :=
  h.trans (T := fun k => k = p.block) ⟨rfl, rfl, rfl, by simp [World.setCell], fun k _ hn => Below.heap_setCell w' p u k hn⟩
    (fun g hg e => by subst e; exact hp hg)
theorem grown (h : Kept w w' S) {row : Option Nat} (hg : w'.grownBy w'' row) (hr : ∀ k, row = some k → k < w.heap.size → S k) : Kept w w'' S :=
  h.trans (T := fun k => row = some k) ⟨hg.os, hg.tape, hg.output, hg.size, fun k hk hn => hg.block k hk (fun e => hn e.symm)⟩
    (fun g hg' e => hr g e hg')
theorem ofBelow (h : Below w.heap.size w w') (S : Nat → Prop) : Kept w w' S := ⟨h.os, h.tape, h.output, h.size, fun k hk _ => h.block k hk⟩
theorem toBelow (h : Kept w w' S) {B : Nat} (hB : B ≤ w.heap.size) (hs : ∀ k, k < B → ¬ S k) : Below B w w' :=
  ⟨h.os, h.tape, h.output, h.size, fun k hk => h.block k (by omega) (hs k hk)⟩
theorem below (h : Kept w w' nix) : Below w.heap.size w w' := h.toBelow (Nat.le_refl _) (fun _ _ => id)
theorem at_ (h : Kept w w' S) {g : Nat} {o : Obj} (hg : w.heap[g]? = some o) (hn : ¬ S g) : w'.heap[g]? = some o :=
  (h.block g (Array.getElem?_eq_some_iff.1 hg).1 hn).trans hg
theorem cell (h : Kept w w' S) {a : Addr} {v : Value} (hc : w.cell? a = some v) (hn : ¬ S a.block) : w'.cell? a = some v :=
  (World.cell?_of_block (w := w) (h.block a.block (World.block_lt_of_cell? w a hc) hn)).trans hc
theorem froz (h : Kept w w' S) {a : Addr} (hlt : a.block < w.heap.size) (hn : ¬ S a.block) : w'.frozen? a = w.frozen? a :=
  World.frozen?_of_block (w := w) (h.block a.block hlt hn)
end Kept

theorem lt_of_heap {w : World} {g : Nat} {o : Obj} (hg : w.heap[g]? = some o) : g < w.heap.size := (Array.getElem?_eq_some_iff.1 hg).1

theorem size_setCell (w : World) (a : Addr) (v : Value) : (w.setCell a v).heap.size = w.heap.size := by simp [World.setCell]
/-- What was made between two worlds. -/
def new (w w' : World) (g : Nat) : Prop := w.heap.size ≤ g ∧ g < w'.heap.size

/-! ### 2. Shapes -/

/-- How a value of Go's reads: its cells, and the blocks in which what it leads to lies. -/
structure Sh (α : Type) where
  k : Nat
  kpos : 0 < k
  R : World → (Nat → Prop) → α → List Value → Prop
  len : ∀ {w F x cs}, R w F x cs → cs.length = k
  one : ∀ {w F x cs}, R w F x cs → ∀ u ∈ cs, u.oneCell' = true
  step : ∀ {w w' F x cs}, R w F x cs → (∀ g, F g → g < w.heap.size → w'.heap[g]? = w.heap[g]?) → R w' F x cs
  mono : ∀ {w F G x cs}, R w F x cs → (∀ g, F g → G g) → R w G x cs
  bound : ∀ {w F x cs}, R w F x cs → R w (fun g => F g ∧ g < w.heap.size) x cs

/-- Many, one behind the other. -/
def Sh.Rs {α : Type} (d : Sh α) (w : World) (F : Nat → Prop) (xs : List α) (cs : List Value) : Prop :=
  cs.length = xs.length * d.k ∧ ∀ i x, xs[i]? = some x → d.R w F x ((cs.drop (i * d.k)).take d.k)

/-- A slice that reads. -/
def Sh.Sl {α : Type} (d : Sh α) (w : World) (F : Nat → Prop) (a : Option Addr) (n c : Nat) (xs : List α) : Prop :=
  xs.length = n ∧ n ≤ c ∧ c ≤ 9223372036854775807 ∧ (a = none → c = 0) ∧ ∃ cs, d.Rs w F xs cs ∧
    (0 < n → ∃ g o, a = some ⟨g, o, none⟩ ∧ F g ∧ ∀ j u, cs[j]? = some u → w.cell? ⟨g, o + j, none⟩ = some u)

section
variable {α β : Type} {d : Sh α} {w w' : World} {F G : Nat → Prop} {a : Option Addr} {n c : Nat} {xs ys : List α} {cs ds : List Value}

theorem Sh.Rs.step (h : d.Rs w F xs cs) (hm : ∀ g, F g → g < w.heap.size → w'.heap[g]? = w.heap[g]?) : d.Rs w' F xs cs :=
  ⟨h.1, fun i x hx => d.step (h.2 i x hx) hm⟩
theorem Sh.Rs.mono (h : d.Rs w F xs cs) (hm : ∀ g, F g → G g) : d.Rs w G xs cs := ⟨h.1, fun i x hx => d.mono (h.2 i x hx) hm⟩
theorem Sh.Rs.bound (h : d.Rs w F xs cs) : d.Rs w (fun g => F g ∧ g < w.heap.size) xs cs := ⟨h.1, fun i x hx => d.bound (h.2 i x hx)⟩
theorem Sh.Rs.nil : d.Rs w F [] [] := ⟨by simp, by simp⟩
theorem Sh.Rs.append (h : d.Rs w F xs cs) (k : d.Rs w F ys ds) : d.Rs w F (xs ++ ys) (cs ++ ds) := by
  refine ⟨by rw [List.length_append, List.length_append, h.1, k.1, Nat.add_mul], fun i x hx => ?_⟩
  by_cases hi : i < xs.length
  · rw [List.getElem?_append_left hi] at hx
    have h2 := h.2 i x hx
    have hle : i * d.k + d.k ≤ cs.length := by rw [h.1, ← Nat.succ_mul]; exact Nat.mul_le_mul_right _ hi
    rw [List.drop_append_of_le_length (by omega), List.take_append_of_le_length (by rw [List.length_drop]; omega)]
    exact h2
  · rw [List.getElem?_append_right (by omega)] at hx
    have h2 := k.2 _ x hx
    have hle : cs.length ≤ i * d.k := by rw [h.1]; exact Nat.mul_le_mul_right _ (by omega)
    rw [List.drop_append, List.drop_eq_nil_of_le hle, List.nil_append, h.1, ← Nat.sub_mul]
    exact h2
theorem Sh.Rs.one (h : d.Rs w F xs cs) : ∀ u ∈ cs, u.oneCell' = true := by
  intro u hu
  obtain ⟨j, hj, rfl⟩ := List.mem_iff_getElem.1 hu
  have hq : j / d.k < xs.length := by
    rw [Nat.div_lt_iff_lt_mul d.kpos, ← h.1]; exact hj
  refine d.one (h.2 (j / d.k) _ (List.getElem?_eq_getElem hq)) _ ?_
  rw [List.mem_iff_getElem?]
  refine ⟨j % d.k, ?_⟩
  rw [List.getElem?_take, if_pos (Nat.mod_lt _ d.kpos), List.getElem?_drop, Nat.mul_comm, Nat.div_add_mod, List.getElem?_eq_getElem hj]
theorem Sh.Rs.single {x : α} (h : d.R w F x cs) : d.Rs w F [x] cs := by
  refine ⟨by rw [d.len h]; simp, fun i y hy => ?_⟩
  have hi : i = 0 := by
    have := (List.getElem?_eq_some_iff.1 hy).1
    simpa using this
  subst hi
  simp at hy
  subst hy
  rw [Nat.zero_mul, List.drop_zero, List.take_of_length_le (by rw [d.len h]; exact Nat.le_refl _)]
  exact h
theorem Sh.Rs.take (h : d.Rs w F xs cs) (m : Nat) : d.Rs w F (xs.take m) (cs.take (m * d.k)) := by
  refine ⟨by rw [List.length_take, List.length_take, h.1, Nat.mul_min_mul_right], fun i x hx => ?_⟩
  rw [List.getElem?_take] at hx
  split at hx
  · rename_i hi
    have h2 := h.2 i x hx
    have : i * d.k + d.k ≤ m * d.k := by rw [← Nat.succ_mul]; exact Nat.mul_le_mul_right _ hi
    rw [List.drop_take, List.take_take, Nat.min_eq_left (by omega)]
    exact h2
  · cases hx
theorem Sh.Rs.drop (h : d.Rs w F xs cs) (m : Nat) : d.Rs w F (xs.drop m) (cs.drop (m * d.k)) := by
  refine ⟨by rw [List.length_drop, List.length_drop, h.1, Nat.sub_mul], fun i x hx => ?_⟩
  rw [List.getElem?_drop] at hx
  have h2 := h.2 _ x hx
  rw [List.drop_drop, ← Nat.add_mul]
  exact h2

theorem Sh.Sl.len (h : d.Sl w F a n c xs) : xs.length = n := h.1
theorem Sh.Sl.cap (h : d.Sl w F a n c xs) : n ≤ c := h.2.1
theorem Sh.Sl.max (h : d.Sl w F a n c xs) : n ≤ 9223372036854775807 := Nat.le_trans h.2.1 h.2.2.1
theorem Sh.Sl.step (h : d.Sl w F a n c xs) (hm : ∀ g, F g → g < w.heap.size → w'.heap[g]? = w.heap[g]?) : d.Sl w' F a n c xs := by
  obtain ⟨h1, h2, h3, h4, cs, h5, h6⟩ := h
  refine ⟨h1, h2, h3, h4, cs, h5.step hm, fun hn => ?_⟩
  obtain ⟨g, o, e, hF, hc⟩ := h6 hn
  refine ⟨g, o, e, hF, fun j u hu => ?_⟩
  have := hc j u hu
  exact (World.cell?_of_block (w := w) (a := ⟨g, o + j, none⟩) (hm g hF (World.block_lt_of_cell? w _ this))).trans this
theorem Sh.Sl.mono (h : d.Sl w F a n c xs) (hm : ∀ g, F g → G g) : d.Sl w G a n c xs := by
  obtain ⟨h1, h2, h3, h4, cs, h5, h6⟩ := h
  refine ⟨h1, h2, h3, h4, cs, h5.mono hm, fun hn => ?_⟩
  obtain ⟨g, o, e, hF, hc⟩ := h6 hn
  exact ⟨g, o, e, hm g hF, hc⟩
theorem Sh.Sl.bound (h : d.Sl w F a n c xs) : d.Sl w (fun g => F g ∧ g < w.heap.size) a n c xs := by
  obtain ⟨h1, h2, h3, h4, cs, h5, h6⟩ := h
  refine ⟨h1, h2, h3, h4, cs, h5.bound, fun hn => ?_⟩
  obtain ⟨g, o, e, hF, hc⟩ := h6 hn
  refine ⟨g, o, e, ⟨hF, ?_⟩, hc⟩
  have hcl : 0 < cs.length := by rw [h5.1, h1]; exact Nat.mul_pos hn d.kpos
  exact World.block_lt_of_cell? w ⟨g, o + 0, none⟩ (hc 0 _ (List.getElem?_eq_getElem hcl))
theorem Sh.Sl.kept {S : Nat → Prop} (h : d.Sl w F a n c xs) (hk : Kept w w' S) (hd : ∀ g, F g → ¬ S g) : d.Sl w' F a n c xs :=
  h.step fun g hF hlt => hk.block g hlt (hd g hF)
theorem Sh.Sl.nil (d : Sh α) (w : World) (F : Nat → Prop) : d.Sl w F none 0 0 [] := ⟨rfl, Nat.le_refl _, by omega, fun _ => rfl, [], Sh.Rs.nil, fun h => absurd h (by omega)⟩
/-- Empty, whatever the address. -/
theorem Sh.Sl.empty (d : Sh α) (w : World) (F : Nat → Prop) {a : Option Addr} {c : Nat} (hc : c ≤ 9223372036854775807) (ha : a = none → c = 0) : d.Sl w F a 0 c [] :=
  ⟨rfl, Nat.zero_le _, hc, ha, [], Sh.Rs.nil, fun h => absurd h (by omega)⟩
/-- Element i's cells. -/
theorem Sh.Sl.elem (h : d.Sl w F a n c xs) (i : Nat) (x : α) (hx : xs[i]? = some x) :
    ∃ g o cs, a = some ⟨g, o, none⟩ ∧ F g ∧ g < w.heap.size ∧ d.R w F x cs ∧ ∀ j u, cs[j]? = some u → w.cell? ⟨g, o + (i * d.k + j), none⟩ = some u := by
  obtain ⟨h1, h2, h3, h4, cs, h5, h6⟩ := h
  have hi := (List.getElem?_eq_some_iff.1 hx).1
  obtain ⟨g, o, e, hF, hc⟩ := h6 (by omega)
  have hR := h5.2 i x hx
  refine ⟨g, o, _, e, hF, ?_, hR, fun j u hu => ?_⟩
  · have hcl : 0 < cs.length := by rw [h5.1, h1]; exact Nat.mul_pos (by omega) d.kpos
    exact World.block_lt_of_cell? w ⟨g, o + 0, none⟩ (hc 0 _ (List.getElem?_eq_getElem hcl))
  · rw [List.getElem?_take] at hu
    split at hu
    · rw [List.getElem?_drop] at hu
      exact hc _ u hu
    · cases hu
/-- s[lo:hi] and s[lo:hi:mx]. -/
theorem Sh.Sl.cut (h : d.Sl w F a n c xs) (lo hi mx : Nat) (h1 : lo ≤ hi) (h2 : hi ≤ n) (h3 : hi ≤ mx) (h4 : mx ≤ c) (s : Nat) (hs : s = d.k) :
    d.Sl w F (if mx = lo then a else a.map (·.add (lo * s))) (hi - lo) (mx - lo) ((xs.take hi).drop lo) := by
  subst hs
  obtain ⟨k1, k2, k3, k4, cs, k5, k6⟩ := h
  refine ⟨by rw [List.length_drop, List.length_take]; omega, by omega, by omega, ?_, (cs.take (hi * d.k)).drop (lo * d.k), (k5.take hi).drop lo, fun hn => ?_⟩
  · intro e
    split at e
    · omega
    · have := k4 (by simpa using e)
      omega
  · obtain ⟨g, o, rfl, hF, hc⟩ := k6 (by omega)
    refine ⟨g, o + lo * d.k, ?_, hF, fun j u hu => ?_⟩
    · rw [if_neg (by omega), Option.map_some, Addr.add_lit]
    · rw [List.getElem?_drop, List.getElem?_take] at hu
      split at hu
      · have := hc _ u hu
        rwa [← Nat.add_assoc] at this
      · cases hu
end

/-! ### 3. A slice that is the holder's own: it may be appended to in place -/

/-- The block of an address. -/
def blk (a : Option Addr) (h : Nat) : Prop := ∃ ad, a = some ad ∧ ad.block = h

def Sh.Own {α : Type} (d : Sh α) (w : World) (F : Nat → Prop) (a : Option Addr) (n c : Nat) (xs : List α) : Prop :=
  xs.length = n ∧ n ≤ c ∧ c ≤ 9223372036854775807 ∧ ((a = none ∧ c = 0) ∨ ∃ g o cs, a = some ⟨g, o, none⟩ ∧ F g ∧ g < w.heap.size ∧
    (∀ j, j < c * d.k → (w.cell? ⟨g, o + j, none⟩).isSome = true ∧ w.frozen? ⟨g, o + j, none⟩ = false) ∧
    d.Rs w (fun h => F h ∧ h ≠ g) xs cs ∧ ∀ j u, cs[j]? = some u → w.cell? ⟨g, o + j, none⟩ = some u)

theorem setCells_heap {g : Nat} : ∀ (vs : List Value) (o : Nat) {w : World} (k : Nat), k ≠ g → (w.setCells g o vs).heap[k]? = w.heap[k]?
  | [], _, _, _, _ => rfl
  | v :: r, o, w, k, hk => by
    rw [World.setCells, setCells_heap r (o + 1) k hk]
    exact Below.heap_setCell w ⟨g, o, none⟩ v k hk
theorem setCells_rest (g : Nat) : ∀ (vs : List Value) (o : Nat) (w : World), (w.setCells g o vs).os = w.os ∧ (w.setCells g o vs).tape = w.tape ∧ (w.setCells g o vs).output = w.output ∧ (w.setCells g o vs).heap.size = w.heap.size
  | [], _, _ => ⟨rfl, rfl, rfl, rfl⟩
  | v :: r, o, w => by
    obtain ⟨h1, h2, h3, h4⟩ := setCells_rest g r (o + 1) (w.setCell ⟨g, o, none⟩ v)
    rw [World.setCells]
    exact ⟨h1, h2, h3, by rw [h4]; simp [World.setCell]⟩
theorem kept_setCells (w : World) (g o : Nat) (vs : List Value) : Kept w (w.setCells g o vs) (fun h => h = g) := by
  obtain ⟨h1, h2, h3, h4⟩ := setCells_rest g vs o w
  exact ⟨h1, h2, h3, by rw [h4]; exact Nat.le_refl _, fun k _ hn => setCells_heap vs o k hn⟩

section
variable {α : Type} {d : Sh α} {w w' : World} {F G : Nat → Prop} {a : Option Addr} {n c : Nat} {xs ys : List α} {cs : List Value}

theorem Sh.Own.len (h : d.Own w F a n c xs) : xs.length = n := h.1
theorem Sh.Own.cap (h : d.Own w F a n c xs) : n ≤ c := h.2.1
theorem Sh.Own.max (h : d.Own w F a n c xs) : n ≤ 9223372036854775807 := Nat.le_trans h.2.1 h.2.2.1
theorem Sh.Own.blkF (h : d.Own w F a n c xs) {g : Nat} (hg : blk a g) : F g ∧ g < w.heap.size := by
  obtain ⟨_, _, _, h4⟩ := h
  obtain ⟨ad, rfl, rfl⟩ := hg
  rcases h4 with ⟨h4, _⟩ | ⟨g, o, cs, e, hF, hlt, _⟩
  · cases h4
  · injection e with e
    subst e
    exact ⟨hF, hlt⟩
theorem Sh.Sl.take (h : d.Sl w F a n c xs) (m : Nat) (hm : m ≤ n) : d.Sl w F a m c (xs.take m) := by
  obtain ⟨h1, h2, h3, h4, cs, h5, h6⟩ := h
  refine ⟨by rw [List.length_take]; omega, by omega, h3, h4, cs.take (m * d.k), h5.take m, fun h0 => ?_⟩
  obtain ⟨g, o, e, hF, hc⟩ := h6 (by omega)
  refine ⟨g, o, e, hF, fun j u hu => ?_⟩
  rw [List.getElem?_take] at hu
  split at hu
  · exact hc j u hu
  · cases hu
theorem Sh.Sl.blkF (h : d.Sl w F a n c xs) (hn : 0 < n) {g : Nat} (hg : blk a g) : F g ∧ g < w.heap.size := by
  obtain ⟨_, _, _, _, cs, _, h6⟩ := h.bound
  obtain ⟨g', o, rfl, hF, _⟩ := h6 hn
  obtain ⟨ad, e, rfl⟩ := hg
  injection e with e
  subst e
  exact hF
/-- s[:len(s):len(s)]. -/
theorem Sh.Own.clip (h : d.Own w F a n c xs) : d.Own w F a n n xs := by
  obtain ⟨h1, h2, h3, h4⟩ := h
  refine ⟨h1, Nat.le_refl _, Nat.le_trans h2 h3, ?_⟩
  rcases h4 with ⟨rfl, rfl⟩ | ⟨g, o, cs, rfl, hF, hlt, hc, hR, hcs⟩
  · exact .inl ⟨rfl, by omega⟩
  · exact .inr ⟨g, o, cs, rfl, hF, hlt, fun j hj => hc j (Nat.lt_of_lt_of_le hj (Nat.mul_le_mul_right _ h2)), hR, hcs⟩
theorem Sh.Own.nil (d : Sh α) (w : World) (F : Nat → Prop) : d.Own w F none 0 0 [] := ⟨rfl, Nat.le_refl _, by omega, .inl ⟨rfl, rfl⟩⟩
theorem Sh.Own.sl (h : d.Own w F a n c xs) : d.Sl w F a n c xs := by
  obtain ⟨h1, h2, h3, h4⟩ := h
  rcases h4 with ⟨rfl, rfl⟩ | ⟨g, o, cs, rfl, hF, hlt, hc, hR, hcs⟩
  · obtain rfl : n = 0 := by omega
    obtain rfl := List.eq_nil_of_length_eq_zero h1
    exact Sh.Sl.nil d w F
  · exact ⟨h1, h2, h3, (by simp), cs, hR.mono (fun _ hg => hg.1), fun _ => ⟨g, o, rfl, hF, hcs⟩⟩
theorem Sh.Own.step (h : d.Own w F a n c xs) (hm : ∀ g, F g → g < w.heap.size → w'.heap[g]? = w.heap[g]?) : d.Own w' F a n c xs := by
  obtain ⟨h1, h2, h3, h4⟩ := h
  refine ⟨h1, h2, h3, ?_⟩
  rcases h4 with h4 | ⟨g, o, cs, rfl, hF, hlt, hc, hR, hcs⟩
  · exact .inl h4
  · have hb := hm g hF hlt
    have hlt' : g < w'.heap.size := by
      rw [Array.getElem?_eq_getElem hlt] at hb
      exact (Array.getElem?_eq_some_iff.1 hb).1
    refine .inr ⟨g, o, cs, rfl, hF, hlt', fun j hj => ?_, hR.step (fun k hk hl => hm k hk.1 hl), fun j u hu => ?_⟩
    · rw [World.cell?_of_block (w := w) (a := ⟨g, o + j, none⟩) hb, World.frozen?_of_block (w := w) (a := ⟨g, o + j, none⟩) hb]
      exact hc j hj
    · rw [World.cell?_of_block (w := w) (a := ⟨g, o + j, none⟩) hb]
      exact hcs j u hu
theorem Sh.Own.kept {S : Nat → Prop} (h : d.Own w F a n c xs) (hk : Kept w w' S) (hd : ∀ g, F g → ¬ S g) : d.Own w' F a n c xs :=
  h.step fun g hF hlt => hk.block g hlt (hd g hF)
theorem Sh.Own.mono (h : d.Own w F a n c xs) (hm : ∀ g, F g → G g) : d.Own w G a n c xs := by
  obtain ⟨h1, h2, h3, h4⟩ := h
  refine ⟨h1, h2, h3, ?_⟩
  rcases h4 with h4 | ⟨g, o, cs, rfl, hF, hlt, hc, hR, hcs⟩
  · exact .inl h4
  · exact .inr ⟨g, o, cs, rfl, hm g hF, hlt, hc, hR.mono (fun k hk => ⟨hm k hk.1, hk.2⟩), hcs⟩
theorem Sh.Own.bound (h : d.Own w F a n c xs) : d.Own w (fun g => F g ∧ g < w.heap.size) a n c xs := by
  obtain ⟨h1, h2, h3, h4⟩ := h
  refine ⟨h1, h2, h3, ?_⟩
  rcases h4 with h4 | ⟨g, o, cs, rfl, hF, hlt, hc, hR, hcs⟩
  · exact .inl h4
  · exact .inr ⟨g, o, cs, rfl, ⟨hF, hlt⟩, hlt, hc, hR.bound.mono (fun k hk => ⟨⟨hk.1.1, hk.2⟩, hk.1.2⟩), hcs⟩
/-- Out of the kit's word for a row of the call's own. -/
theorem Sh.Own.of_row {base e : Nat} {v : Value} (h : w.ownsRow base e d.k v n cs) (hR : d.Rs w F xs cs) (hF : ∀ g, F g → base ≤ g → False) :
    ∃ a c, v = .slice a n c ∧ d.Own w (fun g => F g ∨ (base ≤ g ∧ g < w.heap.size)) a n c xs ∧ (∀ h, blk a h → base ≤ h ∧ h < w.heap.size) := by
  have hl : xs.length = n := by
    have := h.1
    rw [hR.1] at this
    exact Nat.eq_of_mul_eq_mul_right d.kpos this
  rcases h.2 with ⟨rfl, rfl⟩ | ⟨g, cap, cur, rfl, hb, hh, hnc, hcm, hcs, htake⟩
  · exact ⟨none, 0, rfl, ⟨hl, Nat.le_refl _, by omega, .inl ⟨rfl, rfl⟩⟩, fun h hh => by obtain ⟨_, e, _⟩ := hh; cases e⟩
  · refine ⟨_, cap, rfl, ⟨hl, hnc, by simpa [maxLen] using hcm, .inr ⟨g, 0, cs, rfl, .inr ⟨hb, lt_of_heap hh⟩, lt_of_heap hh, fun j hj => ?_, hR.mono (fun k hk => ⟨.inl hk, fun e => hF k hk (e ▸ hb)⟩), fun j u hu => ?_⟩⟩, fun h hh' => by obtain ⟨_, e, e2⟩ := hh'; injection e with e; subst e; subst e2; exact ⟨hb, lt_of_heap hh⟩⟩
    · rw [cell_of_row w g _ cur e (0, 0) hh]
      refine ⟨?_, ?_⟩
      · rw [Array.getElem?_eq_getElem (by omega)]; rfl
      · simp [World.frozen?, hh]
    · rw [cell_of_row w g _ cur e (0, 0) hh, Nat.zero_add]
      rw [← htake, List.getElem?_take] at hu
      split at hu
      · simpa using hu
      · cases hu
end

/-! ### 4. append -/
section
variable {P : Program} {α : Type} {d : Sh α} {w : World} {F G : Nat → Prop} {a b : Option Addr} {n c m c2 : Nat} {xs ys : List α}

theorem run_app (t ty e : TypeId) (z : Value) (bytes : Nat) (ht : P.underlying t = some (.slice e)) (hinfo : (P.info? e).map (fun i => (i.zero, i.size, i.bytes)) = some (some z, d.k, bytes)) (hz : z.cells.size = d.k)
    (HO : d.Own w F a n c xs) (HX : d.Sl w G b m c2 ys) (hd : 0 < m → ∀ g, G g → ¬ blk a g) (hb : (n + m) * bytes ≤ 140737488355328) (hb0 : 0 < bytes) :
    ∃ a' c' w', (Builtin.append_ #[t, t] ty #[.slice a n c, .slice b m c2]).run P w = .ok (.slice a' (n + m) c') w' ∧ d.Own w' (fun g => F g ∨ G g ∨ new w w' g) a' (n + m) c' (xs ++ ys) ∧ Kept w w' (blk a) ∧ ∀ h, blk a' h → blk a h ∨ new w w' h := by
  obtain ⟨i, hi, hz0, hz1, hz2⟩ := info_parts hinfo
  have hlen : n + m ≤ 140737488355328 := Nat.le_trans (Nat.le_mul_of_pos_right _ hb0) hb
  have hxn := HO.len
  have hym := HX.len
  by_cases hm0 : m = 0
  · subst hm0
    obtain rfl := List.eq_nil_of_length_eq_zero hym
    refine ⟨a, c, w, ?_, by rw [List.append_nil]; exact HO.mono (fun g hg => .inl hg), Kept.refl _ _, fun _ hh => .inl hh⟩
    rcases HO.2.2.2 with ⟨rfl, rfl⟩ | ⟨g, o, cs, rfl, _⟩
    · have : n = 0 := by have := HO.cap; omega
      subst this
      cases b <;> simp [Builtin.append_, run_underlying ht, sizeOf, typeInfo, hi, Builtin.lenOf, Builtin.firstCells, loadCells, loadCellsFrom]
    · have hnc := HO.cap
      cases b <;> simp [Builtin.append_, run_underlying ht, sizeOf, typeInfo, hi, Builtin.lenOf, Builtin.firstCells, loadCells, loadCellsFrom, hnc, storeCells]
  obtain ⟨k1, k2, k3, k4, ds, k5, k6⟩ := HX
  obtain ⟨gb, ob, rfl, hGb, hdc⟩ := k6 (by omega)
  have hdl : ds.length = m * d.k := by rw [k5.1, hym]
  have hnews : ∀ j u, ds[j]? = some u → w.cell? ((⟨gb, ob, none⟩ : Addr).add j) = some u := fun j u hu => by rw [Addr.add_lit]; exact hdc j u hu
  obtain ⟨h1, h2, h3, h4⟩ := HO
  -- the arm that grows, from whatever old row
  have grow : ∀ (b0 : Addr) (cs : List Value), a = some b0 → c < n + m → d.Rs w F xs cs → (∀ j u, cs[j]? = some u → w.cell? (b0.add j) = some u) →
      ∃ a' c' w', (Builtin.append_ #[t, t] ty #[.slice a n c, .slice (some ⟨gb, ob, none⟩) m c2]).run P w = .ok (.slice a' (n + m) c') w' ∧ d.Own w' (fun g => F g ∨ G g ∨ new w w' g) a' (n + m) c' (xs ++ ys) ∧ Kept w w' (blk a) ∧ ∀ h, blk a' h → blk a h ∨ new w w' h := by
    rintro b0 cs rfl hg hR hcs
    obtain ⟨v', w', hrun, hown, hgrow⟩ := run_append_arg_grows (P := P) w t ty e i z d.k bytes ht hi hz0 hz1 hz2 hz d.kpos b0 n c cs (by rw [hR.1, h1]) hcs ⟨gb, ob, none⟩ m c2 ds hdl hnews hg (by simp only [maxLen]; omega) hb
    have hK : Kept w w' (blk (some b0)) := (Kept.refl w _).grown hgrow (fun k hk => by cases hk)
    have hRall : d.Rs w' (fun g => (F g ∨ G g) ∧ g < w.heap.size) (xs ++ ys) (cs ++ ds) := by
      have h5 : d.Rs w (fun g => (F g ∨ G g) ∧ g < w.heap.size) (xs ++ ys) (cs ++ ds) :=
        (hR.bound.mono (fun g hg => ⟨.inl hg.1, hg.2⟩)).append (k5.bound.mono (fun g hg => ⟨.inr hg.1, hg.2⟩))
      exact h5.step (fun g _ hlt => hgrow.block g hlt (by simp))
    obtain ⟨a', c', rfl, hO, hA⟩ := Sh.Own.of_row hown hRall (fun g hg hle => by have := hg.2; omega)
    exact ⟨a', c', w', hrun, hO.mono (fun g hg => hg.elim (fun h => h.1.elim .inl (fun h => .inr (.inl h))) (fun h => .inr (.inr h))), hK, fun h hh => .inr (hA h hh)⟩
  rcases h4 with ⟨rfl, rfl⟩ | ⟨g, o, cs, rfl, hF, hlt, hroom, hR, hcs⟩
  · obtain rfl : n = 0 := by omega
    obtain rfl := List.eq_nil_of_length_eq_zero h1
    obtain ⟨v', w', hrun, hown, hgrow, _⟩ := run_append_own (P := P) w w.heap.size t ty e i z d.k bytes ht hi hz0 hz1 hz2 hz d.kpos (.slice none 0 0) 0 [] (World.ownsRow_nil w _ e d.k) ⟨gb, ob, none⟩ m c2 ds hdl hnews k5.one (by simp only [maxLen]; omega) hb (Nat.le_refl _)
    have hRall : d.Rs w' (fun g => G g ∧ g < w.heap.size) ([] ++ ys) ([] ++ ds) := k5.bound.step (fun g _ hlt => hgrow.block g hlt (by simp [Value.ownBlock]))
    obtain ⟨a', c', rfl, hO, hA⟩ := Sh.Own.of_row hown hRall (fun g hg hle => by have := hg.2; omega)
    exact ⟨a', c', w', hrun, hO.mono (fun g hg => hg.elim (fun h => .inr (.inl h.1)) (fun h => .inr (.inr h))), (Kept.refl w _).grown hgrow (fun k hk => by simp [Value.ownBlock] at hk), fun h hh => .inr (hA h hh)⟩
  · have hcl : cs.length = n * d.k := by rw [hR.1, h1]
    by_cases hr : n + m ≤ c
    · have hfit : n * d.k + m * d.k ≤ c * d.k := by rw [← Nat.add_mul]; exact Nat.mul_le_mul_right _ hr
      have hrun := run_append_room_cells (P := P) w t ty e i ht hi g o n c ⟨gb, ob, none⟩ m c2 ds (by rw [hdl, hz1]) hnews k5.one hr
        (fun j hj => by rw [hz1, Nat.add_assoc]; exact (hroom _ (by omega)).1) (fun j hj => by rw [hz1, Nat.add_assoc]; exact (hroom _ (by omega)).2)
      rw [hz1] at hrun
      have hne : ∀ h, G h → h ≠ g := fun h hG e => hd (by omega) h hG ⟨_, rfl, e.symm⟩
      have hheap : ∀ h, h ≠ g → (w.setCells g (o + n * d.k) ds).heap[h]? = w.heap[h]? := fun h hh => setCells_heap ds _ h hh
      have hK := kept_setCells w g (o + n * d.k) ds
      have hin : ∀ j (hj : j < ds.length), (w.setCells g (o + n * d.k) ds).cell? ⟨g, o + n * d.k + j, none⟩ = some ds[j] :=
        World.cell?_setCells_in g ds _ w (fun j hj => by rw [Nat.add_assoc]; exact (hroom _ (by omega)).1)
      have hout : ∀ j, j < n * d.k ∨ n * d.k + m * d.k ≤ j → (w.setCells g (o + n * d.k) ds).cell? ⟨g, o + j, none⟩ = w.cell? ⟨g, o + j, none⟩ :=
        fun j hj => World.cell?_setCells_out g ds _ w _ (fun _ _ => by simp only; omega)
      refine ⟨some ⟨g, o, none⟩, c, _, hrun, ⟨by rw [List.length_append]; omega, hr, h3, .inr ⟨g, o, cs ++ ds, rfl, .inl hF, by rw [(setCells_rest g ds _ w).2.2.2]; exact hlt, fun j hj => ?_, ?_, fun j u hu => ?_⟩⟩, hK.mono (fun k _ hk => ⟨_, rfl, hk.symm⟩), fun _ hh => .inl hh⟩
      · rw [World.frozen?_setCells]
        refine ⟨?_, (hroom j hj).2⟩
        by_cases hjj : j < n * d.k ∨ n * d.k + m * d.k ≤ j
        · rw [hout j hjj]; exact (hroom j hj).1
        · have e : o + j = o + n * d.k + (j - n * d.k) := by omega
          rw [e, hin (j - n * d.k) (by omega)]; rfl
      · exact (Sh.Rs.step (hR.mono (G := fun h => (F h ∨ G h ∨ new w (w.setCells g (o + n * d.k) ds) h) ∧ h ≠ g) (fun h hh => ⟨.inl hh.1, hh.2⟩)) (fun h hh _ => hheap h hh.2)).append
          (Sh.Rs.step (k5.mono (G := fun h => (F h ∨ G h ∨ new w (w.setCells g (o + n * d.k) ds) h) ∧ h ≠ g) (fun h hh => ⟨.inr (.inl hh), hne h hh⟩)) (fun h hh _ => hheap h hh.2))
      · by_cases hj : j < cs.length
        · rw [List.getElem?_append_left hj] at hu
          rw [hout j (.inl (by omega))]
          exact hcs j u hu
        · rw [List.getElem?_append_right (by omega)] at hu
          obtain ⟨hjl, rfl⟩ := List.getElem?_eq_some_iff.1 hu
          have e : o + j = o + n * d.k + (j - cs.length) := by omega
          rw [e]
          exact hin _ hjl
    · exact grow ⟨g, o, none⟩ cs rfl (by omega) (hR.mono (fun _ hg => hg.1)) (fun j u hu => by rw [Addr.add_lit]; exact hcs j u hu)

/-- append(s, x...), for the walk. -/
theorem wpList_app {ops : Array Oper} {rest : List Oper} {o : Oper} {act : Act} {Q : Exit → Act → World → Prop} (hgd : o.guard = none) (s x : Operand) (t e : TypeId)
    (ho : o.op = .call { callee := .builtin .append, args := #[s, x], argTypes := #[t, t] }) (z : Value) (bytes : Nat) (ht : P.underlying t = some (.slice e)) (hinfo : (P.info? e).map (fun i => (i.zero, i.size, i.bytes)) = some (some z, d.k, bytes)) (hz : z.cells.size = d.k) (hb0 : 0 < bytes)
    (hs : act.eval s = .slice a n c) (hx : act.eval x = .slice b m c2)
    (HO : d.Own w F a n c xs) (HX : d.Sl w G b m c2 ys) (hd : 0 < m → ∀ g, G g → ¬ blk a g) (hb : (n + m) * bytes ≤ 140737488355328)
    (h : ∀ a' c' w', d.Own w' (fun g => F g ∨ G g ∨ new w w' g) a' (n + m) c' (xs ++ ys) → Kept w w' (blk a) → (∀ h, blk a' h → blk a h ∨ new w w' h) → wpList P ops Q rest (act.put o.dst (.slice a' (n + m) c')) w') : wpList P ops Q (o :: rest) act w := by
  obtain ⟨a', c', w', hr, h2, h3, h4⟩ := run_app (P := P) (d := d) t o.type e z bytes ht hinfo hz HO HX hd hb hb0
  refine wpList_plain hgd fun K hK => ?_
  unfold Oper.wp execOp
  simp only [ho, resolve, invoke, builtin, Sem.run_bind, Sem.run_pure, Result.andThen_ok, List.map_toArray, List.map_cons, List.map_nil, hs, hx, hr]
  exact hK _ _ (h a' c' w' h2 h3 h4)
end

/-! ### 5. Plain shapes -/

/-- One cell, which leads nowhere. -/
def Sh.plain {α : Type} (enc : α → Value) (h1 : ∀ x, (enc x).oneCell' = true) (p : α → Prop := fun _ => True) : Sh α where
  k := 1
  kpos := Nat.one_pos
  R := fun _ _ x cs => cs = [enc x] ∧ p x
  len := fun h => by rw [h.1]; rfl
  one := fun h u hu => by rw [h.1] at hu; simp at hu; rw [hu]; exact h1 _
  step := fun h _ => h
  mono := fun h _ => h
  bound := fun h => h
def u8v (x : UInt8) : Value := .int .u8 (x.toNat : Int)
abbrev strv (s : List UInt8) : Value := .string ⟨s.toArray⟩
abbrev By : Sh UInt8 := Sh.plain u8v (fun _ => rfl)
def i64p (x : Int) : Prop := -9223372036854775808 ≤ x ∧ x ≤ 9223372036854775807
abbrev In : Sh Int := Sh.plain (.int .i64) (fun _ => rfl) i64p
/-- No slice and no string that came in takes more. -/
def maxB : Nat := 140737488351232
abbrev St : Sh (List UInt8) := Sh.plain strv (fun _ => rfl) (fun s => s.length ≤ maxB)

section
variable {P : Program} {w w' : World} {F G : Nat → Prop} {a b : Option Addr} {n c : Nat} {bs : List UInt8}
theorem plain_inner {α : Type} {enc : α → Value} {h1 : ∀ x, (enc x).oneCell' = true} {p : α → Prop} {xs : List α} {cs : List Value} (h : (Sh.plain enc h1 p).Rs w F xs cs) : cs = xs.map enc := by
  have hl : cs.length = xs.length := by have := h.1; rw [this]; exact Nat.mul_one _
  refine List.ext_getElem? fun i => ?_
  by_cases hi : i < xs.length
  · have h2 : (cs.drop (i * 1)).take 1 = [enc xs[i]] := (h.2 i _ (List.getElem?_eq_getElem hi)).1
    rw [Nat.mul_one] at h2
    have h3 : ((cs.drop i).take 1)[0]? = some (enc xs[i]) := by rw [h2]; rfl
    rw [List.getElem?_take, if_pos (by omega), List.getElem?_drop] at h3
    rw [List.getElem?_map, List.getElem?_eq_getElem hi]
    exact h3
  · rw [List.getElem?_eq_none (by omega), List.getElem?_eq_none (by rw [List.length_map]; omega)]
theorem plain_Rs {α : Type} {enc : α → Value} {h1 : ∀ x, (enc x).oneCell' = true} {p : α → Prop} (xs : List α) (hp : ∀ x ∈ xs, p x) : (Sh.plain enc h1 p).Rs w F xs (xs.map enc) := by
  refine ⟨by rw [List.length_map]; exact (Nat.mul_one _).symm, fun i x hx => ⟨?_, hp x (List.mem_of_getElem? hx)⟩⟩
  show ((xs.map enc).drop (i * 1)).take 1 = [enc x]
  rw [Nat.mul_one]
  have hi := (List.getElem?_eq_some_iff.1 hx).1
  rw [List.getElem?_eq_getElem hi] at hx
  have e : xs[i] = x := Option.some.inj hx
  rw [List.drop_eq_getElem_cons (by rw [List.length_map]; exact hi)]
  simp [e]
/-- Plain elements: only the row's own block matters. -/
theorem plain_sl {α : Type} {enc : α → Value} {h1 : ∀ x, (enc x).oneCell' = true} {p : α → Prop} {xs : List α} (h : (Sh.plain enc h1 p).Sl w F a n c xs) : (Sh.plain enc h1 p).Sl w (fun g => F g ∧ blk a g) a n c xs := by
  obtain ⟨k1, k2, k3, k4, cs, k5, k6⟩ := h
  refine ⟨k1, k2, k3, k4, cs, ⟨k5.1, k5.2⟩, fun hn => ?_⟩
  obtain ⟨g, o, rfl, hF, hc⟩ := k6 hn
  exact ⟨g, o, rfl, ⟨hF, ⟨_, rfl, rfl⟩⟩, hc⟩
/-- Element i of a plain slice. -/
theorem plain_at {α : Type} {enc : α → Value} {h1 : ∀ x, (enc x).oneCell' = true} {p : α → Prop} {xs : List α} (h : (Sh.plain enc h1 p).Sl w F a n c xs) (i : Nat) (x : α) (hx : xs[i]? = some x) :
    ∃ g o, a = some ⟨g, o, none⟩ ∧ F g ∧ g < w.heap.size ∧ w.cell? ⟨g, o + i, none⟩ = some (enc x) := by
  obtain ⟨g, o, cs, e, hF, hlt, hR, hc⟩ := h.elem i x hx
  refine ⟨g, o, e, hF, hlt, ?_⟩
  have hR' : cs = [enc x] := hR.1
  have := hc 0 (enc x) (by rw [hR']; rfl)
  have e1 : (Sh.plain enc h1 p).k = 1 := rfl
  rw [e1, Nat.mul_one, Nat.add_zero] at this
  exact this
theorem plain_own {α : Type} {enc : α → Value} {h1 : ∀ x, (enc x).oneCell' = true} {p : α → Prop} {xs : List α} (h : (Sh.plain enc h1 p).Own w F a n c xs) (hG : ∀ g, blk a g → F g → G g) : (Sh.plain enc h1 p).Own w G a n c xs := by
  obtain ⟨k1, k2, k3, k4⟩ := h
  refine ⟨k1, k2, k3, ?_⟩
  rcases k4 with k4 | ⟨g, o, cs, rfl, hF, hlt, hr, hR, hc⟩
  · exact .inl k4
  · exact .inr ⟨g, o, cs, rfl, hG g ⟨_, rfl, rfl⟩ hF, hlt, hr, ⟨hR.1, hR.2⟩, hc⟩
theorem wpList_app_plain {α : Type} {enc : α → Value} {h1 : ∀ x, (enc x).oneCell' = true} {p : α → Prop} {xs ys : List α} {m c2 : Nat} {ops : Array Oper} {rest : List Oper} {o : Oper} {act : Act} {Q : Exit → Act → World → Prop} (hgd : o.guard = none) (s x : Operand) (t e : TypeId)
    (ho : o.op = .call { callee := .builtin .append, args := #[s, x], argTypes := #[t, t] }) (z : Value) (bytes : Nat) (ht : P.underlying t = some (.slice e)) (hinfo : (P.info? e).map (fun i => (i.zero, i.size, i.bytes)) = some (some z, 1, bytes)) (hz : z.cells.size = 1) (hb0 : 0 < bytes)
    (hs : act.eval s = .slice a n c) (hx : act.eval x = .slice b m c2)
    (HO : (Sh.plain enc h1 p).Own w F a n c xs) (HX : (Sh.plain enc h1 p).Sl w G b m c2 ys) (hd : 0 < m → ∀ g, blk b g → ¬ blk a g) (hb : (n + m) * bytes ≤ 140737488355328)
    (h : ∀ a' c' w', (Sh.plain enc h1 p).Own w' (fun g => F g ∨ new w w' g) a' (n + m) c' (xs ++ ys) → Kept w w' (blk a) → (∀ h, blk a' h → blk a h ∨ new w w' h) → wpList P ops Q rest (act.put o.dst (.slice a' (n + m) c')) w') : wpList P ops Q (o :: rest) act w := by
  refine wpList_app (d := Sh.plain enc h1 p) hgd s x t e ho z bytes ht hinfo hz hb0 hs hx HO (plain_sl HX) (fun hm g hg => hd hm g hg.2) hb ?_
  intro a' c' w' h2 h3 h4
  refine h a' c' w' (plain_own (plain_own h2 (G := fun g => (F g ∨ (G g ∧ blk b g) ∨ new w w' g) ∧ (blk a g ∨ new w w' g)) (fun g hg hh => ⟨hh, h4 g hg⟩)) (fun g _ hg => ?_)) h3 h4
  exact hg.2.elim (fun hg2 => .inl (HO.blkF hg2).1) .inr
theorem plain_p {α : Type} {enc : α → Value} {h1 : ∀ x, (enc x).oneCell' = true} {p : α → Prop} {xs : List α} (h : (Sh.plain enc h1 p).Sl w F a n c xs) : ∀ x ∈ xs, p x := by
  intro x hx
  obtain ⟨i, hi, rfl⟩ := List.mem_iff_getElem.1 hx
  obtain ⟨_, _, cs, _, _, _, hR, _⟩ := h.elem i _ (List.getElem?_eq_getElem hi)
  exact hR.2
theorem run_str (h : By.Sl w F a n c bs) (src dst e : TypeId) (hs : P.underlying src = some (.slice e)) (he : P.underlying e = some (.int .u8)) (hd : P.underlying dst = some .string) :
    (convert src dst (.slice a n c)).run P w = .ok (strv bs) w := by
  obtain ⟨k1, k2, k3, k4, cs, k5, k6⟩ := h
  subst k1
  have hcs := plain_inner k5
  cases a with
  | none =>
    have h0 := k4 rfl
    have : bs = [] := List.eq_nil_of_length_eq_zero (by omega)
    subst this
    exact run_convert_bytes_nil w src e hs he 0 c dst hd
  | some ad =>
    refine run_convert_bytes_back w src dst e ad c bs hs he hd (fun j hj => ?_)
    obtain ⟨g, o, e2, hF, hc⟩ := k6 (by omega)
    injection e2 with e2
    subst e2
    rw [Addr.add_lit]
    refine hc j _ ?_
    rw [hcs, List.getElem?_map, List.getElem?_eq_getElem hj]
    rfl
end

/-! ### 6. append(s, x): x lies in the new block of the variadic's slice -/
section
variable {P : Program} {α : Type} {d : Sh α} {W : World} {F G : Nat → Prop} {a : Option Addr} {n c : Nat} {xs : List α}
theorem boxed_sl (e : TypeId) {x : α} {cs : List Value} (h : d.R W G x cs) : d.Sl (W.alloc (.cells cs.toArray e)) (fun g => G g ∨ g = W.heap.size) (some ⟨W.heap.size, 0, none⟩) 1 1 [x] := by
  have h2 : d.R (W.alloc (.cells cs.toArray e)) (fun g => G g ∨ g = W.heap.size) x cs := d.mono (d.step h (fun g _ hlt => Below.heap_alloc W _ g hlt)) (fun _ hg => .inl hg)
  refine ⟨rfl, Nat.le_refl _, by omega, (by simp), cs, Sh.Rs.single h2, fun _ => ⟨W.heap.size, 0, rfl, .inr rfl, fun j u hu => ?_⟩⟩
  rw [Nat.zero_add, World.cell?_alloc_at _ _ _ _ rfl]
  simpa using hu
theorem wpList_push {ops : Array Oper} {rest : List Oper} {o : Oper} {act : Act} {Q : Exit → Act → World → Prop} (hgd : o.guard = none) (s x : Operand) (t e : TypeId)
    (ho : o.op = .call { callee := .builtin .append, args := #[s, x], argTypes := #[t, t] }) (z : Value) (bytes : Nat) (ht : P.underlying t = some (.slice e)) (hinfo : (P.info? e).map (fun i => (i.zero, i.size, i.bytes)) = some (some z, d.k, bytes)) (hz : z.cells.size = d.k) (hb0 : 0 < bytes)
    (hs : act.eval s = .slice a n c) (hx : act.eval x = .slice (some ⟨W.heap.size, 0, none⟩) 1 1) {y : α} {cs : List Value} (arr : Array Value) (harr : arr = cs.toArray) (hy : d.R W G y cs)
    (HO : d.Own W F a n c xs) (hd : ∀ g, G g → ¬ blk a g) (hb : (n + 1) * bytes ≤ 140737488355328)
    (h : ∀ a' c' w', d.Own w' (fun g => F g ∨ G g ∨ new W w' g) a' (n + 1) c' (xs ++ [y]) → Kept W w' (blk a) → (∀ h, blk a' h → blk a h ∨ new W w' h) → wpList P ops Q rest (act.put o.dst (.slice a' (n + 1) c')) w') : wpList P ops Q (o :: rest) act (W.alloc (.cells arr e)) := by
  subst harr
  have hk := (Kept.refl W nix).alloc (.cells cs.toArray e)
  refine wpList_app (d := d) hgd s x t e ho z bytes ht hinfo hz hb0 hs hx (HO.kept hk (fun _ _ => id)) (boxed_sl e hy) ?_ hb ?_
  · rintro _ g (hg | rfl) hg2
    · exact hd g hg hg2
    · have := (HO.blkF hg2).2; omega
  · intro a' c' w' h1 h2 h3
    have hsz := h2.size
    have hne : ∀ g, new (W.alloc (.cells cs.toArray e)) w' g → new W w' g := fun g hg => ⟨Nat.le_trans hk.size hg.1, hg.2⟩
    refine h a' c' w' (h1.mono (fun g hg => ?_)) ((hk.mono (fun _ _ hg => hg.elim)).trans h2 (fun _ _ hg => hg)) (fun g hg => (h3 g hg).imp id (hne g))
    rcases hg with hg | (hg | rfl) | hg
    · exact .inl hg
    · exact .inr (.inl hg)
    · exact .inr (.inr ⟨Nat.le_refl _, Nat.lt_of_lt_of_le (by simp) hsz⟩)
    · exact .inr (.inr (hne g hg))
end
section
variable {P : Program} {α : Type} {enc : α → Value} {h1 : ∀ x, (enc x).oneCell' = true} {p : α → Prop} {W : World} {F : Nat → Prop} {a : Option Addr} {n c : Nat} {xs : List α}
/-- The same for plain elements. -/
theorem wpList_push_plain {ops : Array Oper} {rest : List Oper} {o : Oper} {act : Act} {Q : Exit → Act → World → Prop} (hgd : o.guard = none) (s x : Operand) (t e : TypeId)
    (ho : o.op = .call { callee := .builtin .append, args := #[s, x], argTypes := #[t, t] }) (z : Value) (bytes : Nat) (ht : P.underlying t = some (.slice e)) (hinfo : (P.info? e).map (fun i => (i.zero, i.size, i.bytes)) = some (some z, 1, bytes)) (hz : z.cells.size = 1) (hb0 : 0 < bytes)
    (hs : act.eval s = .slice a n c) (hx : act.eval x = .slice (some ⟨W.heap.size, 0, none⟩) 1 1) (y : α) (v : Value) (hv : v = enc y)
    (HO : (Sh.plain enc h1 p).Own W F a n c xs) (hb : (n + 1) * bytes ≤ 140737488355328)
    (h : ∀ a' c' w', (Sh.plain enc h1 p).Own w' (fun g => F g ∨ new W w' g) a' (n + 1) c' (xs ++ [y]) → Kept W w' (blk a) → (∀ h, blk a' h → blk a h ∨ new W w' h) → wpList P ops Q rest (act.put o.dst (.slice a' (n + 1) c')) w') (hp : p y := by trivial) : wpList P ops Q (o :: rest) act (W.alloc (.cells #[v] e)) := by
  subst hv
  refine wpList_push (d := Sh.plain enc h1 p) (G := nix) hgd s x t e ho z bytes ht hinfo hz hb0 hs hx (cs := [enc y]) _ rfl ⟨rfl, hp⟩ HO (fun _ => False.elim) hb ?_
  intro a' c' w' h1 h2 h3
  exact h a' c' w' (h1.mono (fun g hg => hg.elim .inl (fun hg => hg.elim False.elim .inr))) h2 h3
end

/-! ### 7. A struct's block -/
/-- Block g holds these cells, none of them frozen. -/
def Blk (w : World) (g : Nat) (cs : Array Value) : Prop := ∃ e, w.heap[g]? = some (.cells cs e (0, 0))
namespace Blk
variable {w w' : World} {g h : Nat} {cs : Array Value}
theorem lt (k : Blk w g cs) : g < w.heap.size := by obtain ⟨e, k⟩ := k; exact lt_of_heap k
theorem cell (k : Blk w g cs) (i : Nat) : w.cell? ⟨g, i, none⟩ = cs[i]? := by obtain ⟨e, k⟩ := k; exact cell_of_row w g i cs e (0, 0) k
theorem froz (k : Blk w g cs) (i : Nat) : w.frozen? ⟨g, i, none⟩ = false := by obtain ⟨e, k⟩ := k; simp [World.frozen?, k]
theorem kept {S : Nat → Prop} (k : Blk w g cs) (hk : Kept w w' S) (hn : ¬ S g) : Blk w' g cs := by obtain ⟨e, k⟩ := k; exact ⟨e, hk.at_ k hn⟩
theorem new_ (w : World) (cs : Array Value) (e : TypeId) : Blk (w.alloc (.cells cs e)) w.heap.size cs := ⟨e, heap_alloc_new w _⟩
theorem set (k : Blk w g cs) (i : Nat) (v : Value) : Blk (w.setCell ⟨g, i, none⟩ v) g (cs.setIfInBounds i v) := by
  obtain ⟨e, k⟩ := k
  refine ⟨e, ?_⟩
  simp [World.setCell, Array.getElem?_modify, k]
theorem setOther (k : Blk w g cs) (hne : g ≠ h) (i : Nat) (v : Value) : Blk (w.setCell ⟨h, i, none⟩ v) g cs := by
  obtain ⟨e, k⟩ := k
  exact ⟨e, by rw [Below.heap_setCell _ _ _ _ hne]; exact k⟩
end Blk
theorem Kept.set1 {w w' : World} {S : Nat → Prop} (h : Kept w w' S) {g i : Nat} (v : Value) (hg : S g) : Kept w (w'.setCell ⟨g, i, none⟩ v) S := h.setCell (fun _ => hg) v
/-- Only block g. -/
def one (g : Nat) : Nat → Prop := fun h => h = g

/-- A literal's new block, whatever its mark. -/
theorem lit_sl {α : Type} {enc : α → Value} {h1 : ∀ x, (enc x).oneCell' = true} {p : α → Prop} (w : World) (xs : List α) (arr : Array Value) (e : TypeId) (fr : Nat × Nat) (n : Nat) (harr : arr = (xs.map enc).toArray) (hn : xs.length = n) (hm : n ≤ 9223372036854775807) (hp : ∀ x ∈ xs, p x) :
    (Sh.plain enc h1 p).Sl (w.alloc (.cells arr e fr)) (new w (w.alloc (.cells arr e fr))) (some ⟨w.heap.size, 0, none⟩) n n xs := by
  subst harr; subst hn
  refine ⟨rfl, Nat.le_refl _, hm, by simp, xs.map enc, plain_Rs xs hp, fun _ => ⟨w.heap.size, 0, rfl, ⟨Nat.le_refl _, by simp⟩, fun j u hu => ?_⟩⟩
  rw [Nat.zero_add, cell_of_row _ _ _ _ e fr (heap_alloc_new w _)]
  simpa using hu

end Go.Proofs.Ytlhlljjchggnjaa
