/- More plain words: a region that draws its order, in which calls only make memory; chains of 'Kept'; strings. -/
import Derived.Test.YtlhlljjchggnjaaBase
import Derived.OrdersHeld
import Derived.Lib.Strings
namespace Go.Proofs.Ytlhlljjchggnjaa
open Go.RowKit
section
variable {P : Program} {ops : Array Oper} {Q : Exit → Act → World → Prop} {md : Region.Mode} {S : World → Prop}
theorem wpAnyH_more {S' : World → Prop} (hs : ∀ W, S' W → S W) : ∀ (fuel : Nat) (listed : Array Bool) (a : Act) (w : World), wpAnyH P md ops Q S' fuel listed a w → wpAnyH P md ops Q S fuel listed a w
  | 0, _, _, _, h => h
  | fuel + 1, _, _, _, h => ⟨h.1, fun i hi => wpOp_mono (fun a' w' h' => ⟨hs _ h'.1, wpAnyH_more hs fuel _ a' w' h'.2⟩) (h.2 i hi)⟩
/-- One operation alone may come up: a call. Behind it the condition may be told anew. -/
theorem wpAnyH_one {i : Nat} {oi : Oper} {fuel : Nat} {listed : Array Bool} {a : Act} {w : World} (hi : ops[i]? = some oi) (hr : Region.ready md ops listed = [i]) (hg : Region.wanted oi (yielded ops a.tmps) = true)
    (h : ∀ K : Act → World → Prop, (∀ a' w' (S' : World → Prop), S' w' → (∀ W, S' W → S W) → wpAnyH P md ops Q S' fuel (listed.setIfInBounds i true) a' w' → K a' w') → oi.wp P a w K Q) :
    wpAnyH P md ops Q S (fuel + 1) listed a w := by
  refine wpAnyH_all hr (by simp) (fun j hj => ?_)
  have : j = i := by simpa using hj
  subst this
  unfold wpOp
  simp only [hi, hg, if_true]
  refine .inl (h _ (fun a' w' S' h1 h2 h3 => ⟨h2 _ h1, wpAnyH_more h2 fuel _ a' w' h3⟩))
end

/-- Steps in a chain: nothing that stood at its begin is written. -/
theorem Kept.n {w w' w'' : World} (h : Kept w w' nix) (k : Kept w' w'' nix) : Kept w w'' nix := h.trans k (fun _ _ h => h)
theorem Kept.o {w w' w'' : World} {g : Nat} (h : Kept w w' nix) (k : Kept w' w'' (one g)) (hg : w.heap.size ≤ g) : Kept w w'' nix :=
  h.trans k (fun k hk e => by have e' : k = g := e; omega)
theorem alloc_kept (w : World) (o : Obj) : Kept w (w.alloc o) nix := (Kept.refl w nix).alloc o
theorem lit_by (w : World) (xs : List UInt8) (arr : Array Value) (e : TypeId) (fr : Nat × Nat) (n : Nat) (harr : arr = (xs.map u8v).toArray) (hn : xs.length = n) (hm : n ≤ 9223372036854775807) :
    By.Sl (w.alloc (.cells arr e fr)) (new w (w.alloc (.cells arr e fr))) (some ⟨w.heap.size, 0, none⟩) n n xs := lit_sl w xs arr e fr n harr hn hm (fun _ _ => trivial)
theorem new_mono {w w1 w2 w3 : World} (h1 : w.heap.size ≤ w1.heap.size) (h2 : w2.heap.size ≤ w3.heap.size) : ∀ g, new w1 w2 g → new w w3 g := fun _ hg => ⟨Nat.le_trans h1 hg.1, Nat.lt_of_lt_of_le hg.2 h2⟩
theorem cat_bytes (a b : List UInt8) : ((⟨a.toArray⟩ : ByteArray) ++ ⟨b.toArray⟩) = ⟨(a ++ b).toArray⟩ := by
  ext1
  rw [ByteArray.data_append]
  simp
theorem extract_bytes (l : List UInt8) (k : Nat) : ((⟨l.toArray⟩ : ByteArray).extract 0 k).toList = l.take k := by
  rw [ByteArray.toList_eq, Lib.extract_data]
  simp
end Go.Proofs.Ytlhlljjchggnjaa
