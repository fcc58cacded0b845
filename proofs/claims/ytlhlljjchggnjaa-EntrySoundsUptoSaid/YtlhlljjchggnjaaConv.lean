/- []byte(s) of a string that is no constant. -/
import Derived.Test.YtlhlljjchggnjaaStruct
import Derived.Test.YtlhlljjchggnjaaApp
import Derived.Laws.IdiomStrings
namespace Go.Proofs.Ytlhlljjchggnjaa
open Go.RowKit

/-- What a conversion leaves. -/
def Conved (w : World) (s : List UInt8) (c : Nat) (w' : World) : Prop := By.Sl w' (new w w') (some ⟨w.heap.size, 0, none⟩) s.length c s ∧ Kept w w' nix
theorem run_conv (w : World) (s : List UInt8) (hs : s.length ≤ maxB) :
    ∃ c w', (convert 9 22 (strv s)).run Try.prog w = .ok (.slice (some ⟨w.heap.size, 0, none⟩) s.length c) w' ∧ Conved w s c w' := by
  have hr := run_bytes_of_string (P := Try.prog) w 9 22 5 ⟨s.toArray⟩ Try.underlying9 Try.underlying22 Try.underlying5
  have hsz : (⟨s.toArray⟩ : ByteArray).size = s.length := by simp [ByteArray.size]
  rw [hsz] at hr
  have hge : s.length ≤ grownCap w s.length 0 5 := grownCap_ge w _ _ _
  have hle : grownCap w s.length 0 5 ≤ 9223372036854775807 := by
    have := grownCap_le_maxLen w s.length 0 5 (by unfold maxB at hs; unfold maxLen; omega)
    unfold maxLen at this
    omega
  generalize grownCap w s.length 0 5 = C at *
  refine ⟨C, _, hr, ⟨rfl, hge, hle, by simp, s.map u8v, plain_Rs s (fun _ _ => trivial), fun h0 => ⟨w.heap.size, 0, rfl, ⟨Nat.le_refl _, by simp⟩, fun j u hu => ?_⟩⟩, ((Kept.refl w nix).drew).alloc _⟩
  rw [Nat.zero_add, cell_of_row _ w.heap.size _ _ _ _ (heap_alloc_new w.drew _)]
  rw [List.getElem?_map] at hu
  obtain ⟨b, hb, rfl⟩ := Option.map_eq_some_iff.1 hu
  have hj := (List.getElem?_eq_some_iff.1 hb).1
  unfold bytesRow
  rw [Array.getElem?_append_left (by simp [hj])]
  simp only [Array.getElem?_map]
  simp [hb, u8v]
theorem wpList_conv {w : World} {ops : Array Oper} {rest : List Oper} {o : Oper} {act : Act} {Q : Exit → Act → World → Prop} (hgd : o.guard = none) (x : Operand) (ho : o.op = .convert 9 22 x) (s : List UInt8) (hx : act.eval x = strv s) (hs : s.length ≤ maxB)
    (h : ∀ c w', Conved w s c w' → wpList Try.prog ops Q rest (act.put o.dst (.slice (some ⟨w.heap.size, 0, none⟩) s.length c)) w') : wpList Try.prog ops Q (o :: rest) act w := by
  obtain ⟨c, w', hr, h2⟩ := run_conv w s hs
  refine wpList_plain hgd fun K hK => ?_
  unfold Oper.wp execOp
  simp only [ho, Sem.run_bind, Sem.run_pure, Result.andThen_ok, hx, hr]
  exact hK _ _ (h c w' h2)
theorem wp_conv {w : World} {o : Oper} {act : Act} {K : Act → World → Prop} {Q : Exit → Act → World → Prop} (x : Operand) (ho : o.op = .convert 9 22 x) (s : List UInt8) (hx : act.eval x = strv s) (hs : s.length ≤ maxB)
    (h : ∀ c w', Conved w s c w' → K (act.put o.dst (.slice (some ⟨w.heap.size, 0, none⟩) s.length c)) w') : o.wp Try.prog act w K Q := by
  obtain ⟨c, w', hr, h2⟩ := run_conv w s hs
  unfold Oper.wp execOp
  simp only [ho, Sem.run_bind, Sem.run_pure, Result.andThen_ok, hx, hr]
  exact h c w' h2
end Go.Proofs.Ytlhlljjchggnjaa
