/- PackPuts holds: whatever bytes, number and text: Num and Text put what the reference puts behind them. No condition. -/
import Derived.Test.YtlhlljjchggnjaaLaw5
import Derived.Test.YtlhlljjchggnjaaOpen
import Derived.Test.YtlhlljjchggnjaaWords
namespace Go.Proofs.Ytlhlljjchggnjaa
open Go.ChangeShapes Go.WideShapes Go.ChangeAt Go.RowKit

set_option maxRecDepth 100000 in
theorem packPuts_lifted (os : Os) (started : os.Started) (H : Type) (enc : TypeId × Value → H) :
    ReturnsInHanded {} Try.checked os 3 .any (Rows.packPutsSpec.pre6 enc Try.prog Try.f3 Rows.packPutsRow.domain false) (Rows.packPutsSpec.post enc Try.prog Try.f3 false true false false) := by
  refine returnsInHanded_of_change_sized (C := Try.checked) Try.own started (by kernel_rfl) Try.func3
    (ChangeSpec.witness6 (enc := enc) (C := Try.checked) false ⟨#[], #[.slice none 0 0, .int .i64 0, .slice none 0 0], []⟩ 8 (by kernel_rfl) (by kernel_rfl) (by kernel_rfl) (by kernel_rfl)) ?_
  intro W base args ds gs before hval0 hW _ hsz0 _
  have hsz : (DataW.weightsEach Try.prog (Try.f3.params.toList ++ Rows.packPutsSpec.plain.varTypes Try.prog) (ds ++ gs)).all (· ≤ reachBytes) = true := hsz0
  clear hsz0
  have hval : ∀ (j : Nat) t v, Try.f3.params[j]? = some t → args[j]? = some v → Value.okWide Try.prog W .any base t v := hval0
  clear hval0
  have hW' := hW
  obtain ⟨p, q, hA0, hV, rfl, _, _⟩ := hW
  have hA : DataW.TrodAll enc Try.prog W 0 (fun _ => true) true Try.f3.params.toList args.toList ds p := hA0
  rw [Try.params3] at hA hsz
  obtain ⟨v0, v1, v2, d0, d1, d2, p0, p1, p2, rfl, rfl, rfl, h0, h1, h2⟩ := trodAll_three hA
  obtain ⟨rfl, rfl⟩ := trodVars_none hV
  clear hA0
  have hlt : ∀ x ∈ p0 ++ p1 ++ p2, x.block < W.heap.size := fun x hx => hW'.lt x (by simpa using hx)
  obtain ⟨a0, n0, c0, x0, rfl, r0, b0⟩ := opened_slice Try.underlying22 (hval 0 22 v0 rfl rfl) opBytes h0 (sizes_of hsz 0 22 d0 rfl rfl)
  obtain ⟨x1, rfl, b1, b1'⟩ := opened_i64 Try.underlying3 (hval 1 3 v1 rfl rfl) h1
  obtain ⟨a2, n2, c2, x2, rfl, r2, b2⟩ := opened_slice Try.underlying22 (hval 2 22 v2 rfl rfl) opBytes h2 (sizes_of hsz 2 22 d2 rfl rfl)
  refine (packputs_c W _ _ a0 a2 n0 c0 n2 c2 x0 x2 x1 r0 r2 b1 b1').mono fun e W' ⟨he, hk⟩ => ⟨_, he, ?_⟩
  exact law_post (tb := 4) Try.laidOut Try.underlying4 rfl (by kernel_rfl) rfl hW' hA hlt rfl rfl rfl hk

set_option maxRecDepth 100000 in
set_option maxHeartbeats 40000000 in
theorem packPuts_closed : joinedFacts Try.prog 3 Try.f3 Rows.packPutsSpec Rows.packPutsRow = true := by
  unfold joinedFacts
  rw [io_enter, io_final, io_make]
  simp only [Bool.and_eq_true]
  repeat' refine And.intro ?_ ?_
  all_goals (first | exact True.intro | (as_aux_lemma => kernel_rfl))

theorem packPuts_holds : Rows.PackPutsSaid :=
  OpenClaim.holds_of_wide 3 Try.f3 rfl rfl rfl rfl rfl rfl rfl ⟨rfl, rfl, rfl, rfl, rfl⟩ rfl rfl rfl rfl rfl (by kernel_rfl) Try.func3 packPuts_closed
    (of_decide_eq_true (by kernel_rfl)) (by unfold Func.isWrapper; rw [if_neg (of_decide_eq_false (by kernel_rfl))]; exact ⟨rfl, rfl⟩)
    (fun os started H enc _ => packPuts_lifted os started H enc)
end Go.Proofs.Ytlhlljjchggnjaa
