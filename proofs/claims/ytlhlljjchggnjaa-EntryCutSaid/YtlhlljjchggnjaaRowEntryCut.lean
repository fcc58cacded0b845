/- EntryCut holds: a record of which a byte is missing, or that has one more, is refused. No condition. -/
import Derived.Test.YtlhlljjchggnjaaLaw7d
import Derived.Test.YtlhlljjchggnjaaOpenRc
import Derived.Test.YtlhlljjchggnjaaOpen
import Derived.Test.YtlhlljjchggnjaaWords
namespace Go.Proofs.Ytlhlljjchggnjaa
open Go.ChangeShapes Go.WideShapes Go.ChangeAt Go.RowKit

set_option maxRecDepth 100000 in
theorem entryCut_lifted (os : Os) (started : os.Started) (H : Type) (enc : TypeId × Value → H) :
    ReturnsInHanded {} Try.checked os 15 .any (Rows.entryCutSpec.pre6 enc Try.prog Try.f15 Rows.entryCutRow.domain false) (Rows.entryCutSpec.post enc Try.prog Try.f15 false true false false) := by
  refine returnsInHanded_of_change_sized (C := Try.checked) Try.own started (by kernel_rfl) Try.func15
    (ChangeSpec.witness6 (enc := enc) (C := Try.checked) false ⟨#[], #[.agg #[.int .i64 0, .int .i64 0, .slice none 0 0, .int .i64 0, .int .i64 0, .slice none 0 0], .int .u8 0], []⟩ 8 (by kernel_rfl) (by kernel_rfl) (by kernel_rfl) (by kernel_rfl)) ?_
  intro W base args ds gs before hval0 hW _ hsz0 _
  have hsz : (DataW.weightsEach Try.prog (Try.f15.params.toList ++ Rows.entryCutSpec.plain.varTypes Try.prog) (ds ++ gs)).all (· ≤ reachBytes) = true := hsz0
  clear hsz0
  have hval : ∀ (j : Nat) t v, Try.f15.params[j]? = some t → args[j]? = some v → Value.okWide Try.prog W .any base t v := hval0
  clear hval0
  have hW' := hW
  obtain ⟨p, q, hA0, hV, rfl, _, _⟩ := hW
  have hA : DataW.TrodAll enc Try.prog W 0 (fun _ => true) true Try.f15.params.toList args.toList ds p := hA0
  rw [Try.params15] at hA hsz
  have hA1 := hA
  obtain ⟨v0, v1, d0, d1, p0, p1, rfl, rfl, rfl, h0, h1⟩ := trodAll_two hA
  obtain ⟨rfl, rfl⟩ := trodVars_none hV
  clear hA0
  have hlt : ∀ x ∈ p0 ++ p1, x.block < W.heap.size := fun x hx => hW'.lt x (by simpa using hx)
  obtain ⟨a0, n0, c0, b0, m0, e0, x0, rfl, r0⟩ := opened_rc (hval 0 61 v0 rfl rfl) h0 (sizes_of hsz 0 61 d0 rfl rfl)
  obtain ⟨x1, rfl, rfl, rfl, w1⟩ := open_int Try.underlying5 (hval 1 5 v1 rfl rfl) h1
  refine (entrycut_c W _ x0 a0 n0 c0 b0 m0 e0 x1 (u8_rng w1).1 (u8_rng w1).2 r0).mono fun e W' ⟨he, hk⟩ => ⟨_, he, ?_⟩
  exact law_post (tb := 4) Try.laidOut Try.underlying4 rfl (by kernel_rfl) rfl hW' hA1 hlt rfl rfl rfl hk

set_option maxRecDepth 100000 in
set_option maxHeartbeats 40000000 in
theorem entryCut_closed : joinedFacts Try.prog 15 Try.f15 Rows.entryCutSpec Rows.entryCutRow = true := by
  unfold joinedFacts
  rw [io_enter, io_final, io_make]
  simp only [Bool.and_eq_true]
  repeat' refine And.intro ?_ ?_
  all_goals (first | exact True.intro | (as_aux_lemma => kernel_rfl))

theorem entryCut_holds : Rows.EntryCutSaid :=
  OpenClaim.holds_of_wide 15 Try.f15 rfl rfl rfl rfl rfl rfl rfl ⟨rfl, rfl, rfl, rfl, rfl⟩ rfl rfl rfl rfl rfl (by kernel_rfl) Try.func15 entryCut_closed
    (of_decide_eq_true (by kernel_rfl)) (by unfold Func.isWrapper; rw [if_neg (of_decide_eq_false (by kernel_rfl))]; exact ⟨rfl, rfl⟩)
    (fun os started H enc _ => entryCut_lifted os started H enc)
end Go.Proofs.Ytlhlljjchggnjaa
