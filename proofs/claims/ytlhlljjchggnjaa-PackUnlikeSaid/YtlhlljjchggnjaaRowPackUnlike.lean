/- PackUnlike holds: unlike numbers and texts have unlike encodings, none the beginning of another. No condition. -/
import Derived.Test.YtlhlljjchggnjaaLaw5b
import Derived.Test.YtlhlljjchggnjaaOpen
import Derived.Test.YtlhlljjchggnjaaWords
namespace Go.Proofs.Ytlhlljjchggnjaa
open Go.ChangeShapes Go.WideShapes Go.ChangeAt Go.RowKit

set_option maxRecDepth 100000 in
theorem packUnlike_lifted (os : Os) (started : os.Started) (H : Type) (enc : TypeId × Value → H) :
    ReturnsInHanded {} Try.checked os 6 .any (Rows.packUnlikeSpec.pre6 enc Try.prog Try.f6 Rows.packUnlikeRow.domain false) (Rows.packUnlikeSpec.post enc Try.prog Try.f6 false true false false) := by
  refine returnsInHanded_of_change_sized (C := Try.checked) Try.own started (by kernel_rfl) Try.func6
    (ChangeSpec.witness6 (enc := enc) (C := Try.checked) false ⟨#[], #[.int .i64 0, .int .i64 0, .slice none 0 0, .slice none 0 0], []⟩ 8 (by kernel_rfl) (by kernel_rfl) (by kernel_rfl) (by kernel_rfl)) ?_
  intro W base args ds gs before hval0 hW _ hsz0 _
  have hsz : (DataW.weightsEach Try.prog (Try.f6.params.toList ++ Rows.packUnlikeSpec.plain.varTypes Try.prog) (ds ++ gs)).all (· ≤ reachBytes) = true := hsz0
  clear hsz0
  have hval : ∀ (j : Nat) t v, Try.f6.params[j]? = some t → args[j]? = some v → Value.okWide Try.prog W .any base t v := hval0
  clear hval0
  have hW' := hW
  obtain ⟨p, q, hA0, hV, rfl, _, _⟩ := hW
  have hA : DataW.TrodAll enc Try.prog W 0 (fun _ => true) true Try.f6.params.toList args.toList ds p := hA0
  rw [Try.params6] at hA hsz
  have hA1 := hA
  obtain ⟨v0, v1, v2, v3, d0, d1, d2, d3, p0, p1, p2, p3, rfl, rfl, rfl, h0, h1, h2, h3⟩ := trodAll_four hA
  obtain ⟨rfl, rfl⟩ := trodVars_none hV
  clear hA0
  have hlt : ∀ x ∈ p0 ++ p1 ++ p2 ++ p3, x.block < W.heap.size := fun x hx => hW'.lt x (by simpa using hx)
  obtain ⟨x0, rfl, b0, e0⟩ := opened_i64 Try.underlying3 (hval 0 3 v0 rfl rfl) h0
  obtain ⟨x1, rfl, b1, e1⟩ := opened_i64 Try.underlying3 (hval 1 3 v1 rfl rfl) h1
  obtain ⟨a2, n2, c2, x2, rfl, r2, b2⟩ := opened_slice Try.underlying22 (hval 2 22 v2 rfl rfl) opBytes h2 (sizes_of hsz 2 22 d2 rfl rfl)
  obtain ⟨a3, n3, c3, x3, rfl, r3, b3⟩ := opened_slice Try.underlying22 (hval 3 22 v3 rfl rfl) opBytes h3 (sizes_of hsz 3 22 d3 rfl rfl)
  refine (packunlike_c W _ _ x0 x1 a2 a3 n2 c2 n3 c3 x2 x3 b0 e0 b1 e1 r2 r3).mono fun e W' ⟨he, hk⟩ => ⟨_, he, ?_⟩
  exact law_post (tb := 4) Try.laidOut Try.underlying4 rfl (by kernel_rfl) rfl hW' hA1 hlt rfl rfl rfl hk

set_option maxRecDepth 100000 in
set_option maxHeartbeats 40000000 in
theorem packUnlike_closed : joinedFacts Try.prog 6 Try.f6 Rows.packUnlikeSpec Rows.packUnlikeRow = true := by
  unfold joinedFacts
  rw [io_enter, io_final, io_make]
  simp only [Bool.and_eq_true]
  repeat' refine And.intro ?_ ?_
  all_goals (first | exact True.intro | (as_aux_lemma => kernel_rfl))

theorem packUnlike_holds : Rows.PackUnlikeSaid :=
  OpenClaim.holds_of_wide 6 Try.f6 rfl rfl rfl rfl rfl rfl rfl ⟨rfl, rfl, rfl, rfl, rfl⟩ rfl rfl rfl rfl rfl (by kernel_rfl) Try.func6 packUnlike_closed
    (of_decide_eq_true (by kernel_rfl)) (by unfold Func.isWrapper; rw [if_neg (of_decide_eq_false (by kernel_rfl))]; exact ⟨rfl, rfl⟩)
    (fun os started H enc _ => packUnlike_lifted os started H enc)
end Go.Proofs.Ytlhlljjchggnjaa
