/- DiskTears holds: whatever two texts, number and way of writing: a torn append leaves what was there and the beginning that was said, a torn replacement the one or the other. No condition. -/
import Derived.Test.YtlhlljjchggnjaaLaw8c
import Derived.Test.YtlhlljjchggnjaaOpen
import Derived.Test.YtlhlljjchggnjaaWords
namespace Go.Proofs.Ytlhlljjchggnjaa
open Go.ChangeShapes Go.WideShapes Go.ChangeAt Go.RowKit

set_option maxRecDepth 100000 in
theorem diskTears_lifted (os : Os) (started : os.Started) (H : Type) (enc : TypeId × Value → H) :
    ReturnsInHanded {} Try.checked os 10 .any (Rows.diskTearsSpec.pre6 enc Try.prog Try.f10 Rows.diskTearsRow.domain false) (Rows.diskTearsSpec.post enc Try.prog Try.f10 false true false false) := by
  refine returnsInHanded_of_change_sized (C := Try.checked) Try.own started (by kernel_rfl) Try.func10
    (ChangeSpec.witness6 (enc := enc) (C := Try.checked) false ⟨#[], #[.slice none 0 0, .slice none 0 0, .int .i64 0, .bool false], []⟩ 8 (by kernel_rfl) (by kernel_rfl) (by kernel_rfl) (by kernel_rfl)) ?_
  intro W base args ds gs before hval0 hW _ hsz0 _
  have hsz : (DataW.weightsEach Try.prog (Try.f10.params.toList ++ Rows.diskTearsSpec.plain.varTypes Try.prog) (ds ++ gs)).all (· ≤ reachBytes) = true := hsz0
  clear hsz0
  have hval : ∀ (j : Nat) t v, Try.f10.params[j]? = some t → args[j]? = some v → Value.okWide Try.prog W .any base t v := hval0
  clear hval0
  have hW' := hW
  obtain ⟨p, q, hA0, hV, rfl, _, _⟩ := hW
  have hA : DataW.TrodAll enc Try.prog W 0 (fun _ => true) true Try.f10.params.toList args.toList ds p := hA0
  rw [Try.params10] at hA hsz
  have hA1 := hA
  obtain ⟨v0, v1, v2, v3, d0, d1, d2, d3, p0, p1, p2, p3, rfl, rfl, rfl, h0, h1, h2, h3⟩ := trodAll_four hA
  obtain ⟨rfl, rfl⟩ := trodVars_none hV
  clear hA0
  have hlt : ∀ x ∈ p0 ++ p1 ++ p2 ++ p3, x.block < W.heap.size := fun x hx => hW'.lt x (by simpa using hx)
  obtain ⟨a0, n0, c0, x0, rfl, r0, b0⟩ := opened_slice Try.underlying22 (hval 0 22 v0 rfl rfl) opBytes h0 (sizes_of hsz 0 22 d0 rfl rfl)
  obtain ⟨a1, n1, c1, x1, rfl, r1, b1⟩ := opened_slice Try.underlying22 (hval 1 22 v1 rfl rfl) opBytes h1 (sizes_of hsz 1 22 d1 rfl rfl)
  obtain ⟨x2, rfl, b2, e2⟩ := opened_i64 Try.underlying3 (hval 2 3 v2 rfl rfl) h2
  obtain ⟨x3, rfl, rfl, rfl⟩ := open_bool Try.underlying4 (hval 3 4 v3 rfl rfl) h3
  refine (disktears_c W _ _ a0 a1 n0 c0 n1 c1 x0 x1 x2 x3 r0 r1 b2 e2).mono fun e W' ⟨he, hk⟩ => ⟨_, he, ?_⟩
  exact law_post (tb := 4) Try.laidOut Try.underlying4 rfl (by kernel_rfl) rfl hW' hA1 hlt rfl rfl rfl hk

set_option maxRecDepth 100000 in
set_option maxHeartbeats 40000000 in
theorem diskTears_closed : joinedFacts Try.prog 10 Try.f10 Rows.diskTearsSpec Rows.diskTearsRow = true := by
  unfold joinedFacts
  rw [io_enter, io_final, io_make]
  simp only [Bool.and_eq_true]
  repeat' refine And.intro ?_ ?_
  all_goals (first | exact True.intro | (as_aux_lemma => kernel_rfl))

theorem diskTears_holds : Rows.DiskTearsSaid :=
  OpenClaim.holds_of_wide 10 Try.f10 rfl rfl rfl rfl rfl rfl rfl ⟨rfl, rfl, rfl, rfl, rfl⟩ rfl rfl rfl rfl rfl (by kernel_rfl) Try.func10 diskTears_closed
    (of_decide_eq_true (by kernel_rfl)) (by unfold Func.isWrapper; rw [if_neg (of_decide_eq_false (by kernel_rfl))]; exact ⟨rfl, rfl⟩)
    (fun os started H enc _ => diskTears_lifted os started H enc)
end Go.Proofs.Ytlhlljjchggnjaa
