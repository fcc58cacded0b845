/- The walks of layer 5's statements, more: no reader; unlike numbers and texts. -/
import Derived.Test.YtlhlljjchggnjaaLaw5
namespace Go.Proofs.Ytlhlljjchggnjaa
open Go.RowKit

set_option maxRecDepth 100000 in
theorem rnum_nil (w : World) : Calls Try.prog 41 #[.pointer none] w fun e w' => e = .returned (.int .i64 0) ∧ w = w' := by
  go_enter Try.func41, Try.ntmps41
  go_wp2
  go_ret
  exact ⟨rfl, rfl⟩
set_option maxRecDepth 100000 in
theorem rcount_nil (w : World) (most : Int) : Calls Try.prog 44 #[.pointer none, .int .i64 most] w fun e w' => e = .returned (.int .i64 0) ∧ w = w' := by
  go_enter Try.func44, Try.ntmps44
  go_wp2_with (go_at_call 41; refine (rnum_nil _).mono ?_; rintro e w1 ⟨rfl, rfl⟩)
  go_ret
  exact ⟨rfl, rfl⟩
set_option maxRecDepth 100000 in
theorem rtext_nil (w : World) : Calls Try.prog 42 #[.pointer none] w fun e w' => e = .returned (.slice none 0 0) ∧ w = w' := by
  go_enter Try.func42, Try.ntmps42
  go_wp2
  go_ret
  exact ⟨rfl, rfl⟩
set_option maxRecDepth 100000 in
theorem rend_nil (w : World) : Calls Try.prog 43 #[.pointer none] w fun e w' => e = .returned (.bool false) ∧ w = w' := by
  go_enter Try.func43, Try.ntmps43
  go_wp2
  go_ret
  exact ⟨rfl, rfl⟩

set_option maxRecDepth 100000 in
set_option maxHeartbeats 1000000 in
theorem packnone_c (w : World) (most : Int) : Calls Try.prog 5 #[.int .i64 most] w fun e w' => e = .returned (.bool true) ∧ Kept w w' nix := by
  go_enter Try.func5, Try.ntmps5
  go_wp2_with (first
    | (go_at_call 35; refine (awake5_c _).mono ?_; rintro e w1 ⟨rfl, hK1⟩)
    | (go_at_call 41; refine (rnum_nil _).mono ?_; rintro e w2 ⟨rfl, rfl⟩)
    | (go_at_call 42; refine (rtext_nil _).mono ?_; rintro e w2 ⟨rfl, rfl⟩)
    | (go_at_call 44; refine (rcount_nil _ _).mono ?_; rintro e w2 ⟨rfl, rfl⟩)
    | (go_at_call 43; refine (rend_nil _).mono ?_; rintro e w2 ⟨rfl, rfl⟩))
  go_ret
  exact ⟨rfl, hK1⟩
end Go.Proofs.Ytlhlljjchggnjaa
