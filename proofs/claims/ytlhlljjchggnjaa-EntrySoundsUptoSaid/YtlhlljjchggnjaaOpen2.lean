/- What the inputs of these laws open to, more; an element of a slice of slices. (XLaw5c holds the same words: never import both.) -/
import Derived.Test.YtlhlljjchggnjaaProg
import Derived.Test.YtlhlljjchggnjaaOpen
namespace Go.Proofs.Ytlhlljjchggnjaa
open Go.RowKit

theorem opInts : Opens Try.prog 29 (In.slc 8) := opens_slice Try.underlying29 (opens_i64 Try.underlying3) (by kernel_rfl) (by kernel_rfl)
theorem opByss : Opens Try.prog 30 ((By.slc 1).slc 24) := opens_slice Try.underlying30 opBytes (by kernel_rfl) (by kernel_rfl)

/-- An element of a slice of slices of bytes. -/
theorem bys_at {w : World} {F : Nat → Prop} {a : Option Addr} {n c : Nat} {xs : List (List UInt8)} (h : (By.slc 1).Sl w F a n c xs) (i : Nat) (hi : i < xs.length) :
    ∃ g o ai ni ci, a = some ⟨g, o, none⟩ ∧ g < w.heap.size ∧ w.cell? ⟨g, o + i, none⟩ = some (.slice ai ni ci) ∧ By.Sl w F ai ni ci xs[i] ∧ ni ≤ maxB := by
  obtain ⟨g, o, cs, e, _, hlt, ⟨ai, ni, ci, hcs, hS, hB⟩, hc⟩ := h.elem i _ (List.getElem?_eq_getElem hi)
  subst hcs
  have hc0 := hc 0 _ rfl
  rw [show i * (By.slc 1).k + 0 = i from by show i * 1 + 0 = i; omega] at hc0
  exact ⟨g, o, ai, ni, ci, e, hlt, hc0, hS, by omega⟩
end Go.Proofs.Ytlhlljjchggnjaa
