/- PackNone holds: a nil reader returns zero values, whatever limit is asked. No condition. -/
import Derived.Test.YtlhlljjchggnjaaLaw5b
import Derived.Test.YtlhlljjchggnjaaOpen
import Derived.Test.YtlhlljjchggnjaaWords
namespace Go.Proofs.Ytlhlljjchggnjaa
open Go.ChangeShapes Go.WideShapes Go.ChangeAt Go.RowKit

set_option maxRecDepth 100000 in
theorem packNone_lifted (os : Os) (started : os.Started) (H : Type) (enc : TypeId × Value → H) :
    ReturnsInHanded {} Try.checked os 5 .any (Rows.packNoneSpec.pre6 enc Try.prog Try.f5 Rows.packNoneRow.domain false) (Rows.packNoneSpec.post enc Try.prog Try.f5 false true false false) := by
  refine returnsInHanded_of_change_sized (C := Try.checked) Try.own started (by kernel_rfl) Try.func5
    (ChangeSpec.witness6 (enc := enc) (C := Try.checked) false ⟨#[], #[.int .i64 0], []⟩ 8 (by kernel_rfl) (by kernel_rfl) (by kernel_rfl) (by kernel_rfl)) ?_
  intro W base args ds gs before hval0 hW _ hsz0 _
  have hsz : (DataW.weightsEach Try.prog (Try.f5.params.toList ++ Rows.packNoneSpec.plain.varTypes Try.prog) (ds ++ gs)).all (· ≤ reachBytes) = true := hsz0
  clear hsz0
  have hval : ∀ (j : Nat) t v, Try.f5.params[j]? = some t → args[j]? = some v → Value.okWide Try.prog W .any base t v := hval0
  clear hval0
  have hW' := hW
  obtain ⟨p, q, hA0, hV, rfl, _, _⟩ := hW
  have hA : DataW.TrodAll enc Try.prog W 0 (fun _ => true) true Try.f5.params.toList args.toList ds p := hA0
  rw [Try.params5] at hA hsz
  have hA1 := hA
  obtain ⟨v0, d0, rfl, rfl, h0⟩ := trodAll_one hA
  obtain ⟨rfl, rfl⟩ := trodVars_none hV
  clear hA0
  have hlt : ∀ x ∈ p, x.block < W.heap.size := fun x hx => hW'.lt x (by simpa using hx)
  obtain ⟨x0, rfl, b0, e0⟩ := opened_i64 Try.underlying3 (hval 0 3 v0 rfl rfl) h0
  refine (packnone_c W x0).mono fun e W' ⟨he, hk⟩ => ⟨_, he, ?_⟩
  exact law_post (tb := 4) Try.laidOut Try.underlying4 rfl (by kernel_rfl) rfl hW' hA1 hlt rfl rfl rfl hk

set_option maxRecDepth 100000 in
set_option maxHeartbeats 40000000 in
theorem packNone_closed : joinedFacts Try.prog 5 Try.f5 Rows.packNoneSpec Rows.packNoneRow = true := by
  unfold joinedFacts
  rw [io_enter, io_final, io_make]
  simp only [Bool.and_eq_true]
  repeat' refine And.intro ?_ ?_
  all_goals (first | exact True.intro | (as_aux_lemma => kernel_rfl))

theorem packNone_holds : Rows.PackNoneSaid :=
  OpenClaim.holds_of_wide 5 Try.f5 rfl rfl rfl rfl rfl rfl rfl ⟨rfl, rfl, rfl, rfl, rfl⟩ rfl rfl rfl rfl rfl (by kernel_rfl) Try.func5 packNone_closed
    (of_decide_eq_true (by kernel_rfl)) (by unfold Func.isWrapper; rw [if_neg (of_decide_eq_false (by kernel_rfl))]; exact ⟨rfl, rfl⟩)
    (fun os started H enc _ => packNone_lifted os started H enc)
end Go.Proofs.Ytlhlljjchggnjaa
