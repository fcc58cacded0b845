/- append(s, x...) at bytes where s is fresh since a world w0: the slice stays fresh, nothing of w0 is written; at the list of operations and at one operation of a region that draws its order. -/
import Derived.Test.YtlhlljjchggnjaaPack2
import Derived.Test.YtlhlljjchggnjaaBase3
namespace Go.Proofs.Ytlhlljjchggnjaa
open Go.RowKit

section
variable {w0 W : World} {G : Nat → Prop} {a b : Option Addr} {n c m c2 : Nat} {xs ys : List UInt8}
theorem fresh_blk {F : Nat → Prop} (HO : By.Own W (new w0 W) a n c xs) : ∀ g, blk a g → w0.heap.size ≤ g := fun g hg => (HO.blkF hg).1.1
/-- What a law of append leaves. -/
def Apped (w0 W : World) (a : Option Addr) (n m : Nat) (xs ys : List UInt8) (a' : Option Addr) (c' : Nat) (w' : World) : Prop :=
  By.Own w' (new w0 w') a' (n + m) c' (xs ++ ys) ∧ Kept w0 w' nix ∧ Kept W w' (blk a) ∧ ∀ h, blk a' h → blk a h ∨ new W w' h
theorem run_app_f (ty : TypeId) (HK : Kept w0 W nix) (HO : By.Own W (new w0 W) a n c xs) (HX : By.Sl W G b m c2 ys) (hd : 0 < m → ∀ g, blk b g → G g → ¬ blk a g) (hb : n + m ≤ 140737488355328) :
    ∃ a' c' w', (Builtin.append_ #[22, 22] ty #[.slice a n c, .slice b m c2]).run Try.prog W = .ok (.slice a' (n + m) c') w' ∧ Apped w0 W a n m xs ys a' c' w' := by
  obtain ⟨a', c', w', h1, h2, h3, h4⟩ := run_app (P := Try.prog) (d := By) 22 ty 5 (.int .u8 0) 1 Try.underlying22 infoBy rfl HO (plain_sl HX) (fun hm g hg => hd hm g hg.2 hg.1) (by omega) (by omega)
  refine ⟨a', c', w', h1, ?_, HK.trans h3 (fun g hlt hg => by have := (HO.blkF hg).1.1; omega), h3, h4⟩
  refine plain_own h2 (fun g hg _ => ?_)
  rcases h4 g hg with h | h
  · exact new_mono (Nat.le_refl _) h3.size g (HO.blkF h).1
  · exact new_mono HK.size (Nat.le_refl _) g h
theorem run_app_f0 (ty : TypeId) (HK : Kept w0 W nix) (HO : By.Own W (new w0 W) a n c xs) (HX : By.Sl w0 G b m c2 ys) (hb : n + m ≤ 140737488355328) :
    ∃ a' c' w', (Builtin.append_ #[22, 22] ty #[.slice a n c, .slice b m c2]).run Try.prog W = .ok (.slice a' (n + m) c') w' ∧ Apped w0 W a n m xs ys a' c' w' :=
  run_app_f ty HK HO (HX.kept HK (fun _ _ => id)) (fun hm g hg _ hg2 => by have := (HX.blkF hm hg).2; have := (HO.blkF hg2).1.1; omega) hb
theorem wpList_app_r {ops : Array Oper} {rest : List Oper} {o : Oper} {act : Act} {Q : Exit → Act → World → Prop} (hgd : o.guard = none) (s x : Operand)
    (ho : o.op = .call { callee := .builtin .append, args := #[s, x], argTypes := #[22, 22] }) (hs : act.eval s = .slice a n c) (hx : act.eval x = .slice b m c2)
    (hr : ∃ a' c' w', (Builtin.append_ #[22, 22] o.type #[.slice a n c, .slice b m c2]).run Try.prog W = .ok (.slice a' (n + m) c') w' ∧ Apped w0 W a n m xs ys a' c' w')
    (h : ∀ a' c' w', Apped w0 W a n m xs ys a' c' w' → wpList Try.prog ops Q rest (act.put o.dst (.slice a' (n + m) c')) w') : wpList Try.prog ops Q (o :: rest) act W := by
  obtain ⟨a', c', w', hr, h2⟩ := hr
  refine wpList_plain hgd fun K hK => ?_
  unfold Oper.wp execOp
  simp only [ho, resolve, invoke, builtin, Sem.run_bind, Sem.run_pure, Result.andThen_ok, List.map_toArray, List.map_cons, List.map_nil, hs, hx, hr]
  exact hK _ _ (h a' c' w' h2)
theorem wp_app_r {o : Oper} {act : Act} {K : Act → World → Prop} {Q : Exit → Act → World → Prop} (s x : Operand)
    (ho : o.op = .call { callee := .builtin .append, args := #[s, x], argTypes := #[22, 22] }) (hs : act.eval s = .slice a n c) (hx : act.eval x = .slice b m c2)
    (hr : ∃ a' c' w', (Builtin.append_ #[22, 22] o.type #[.slice a n c, .slice b m c2]).run Try.prog W = .ok (.slice a' (n + m) c') w' ∧ Apped w0 W a n m xs ys a' c' w')
    (h : ∀ a' c' w', Apped w0 W a n m xs ys a' c' w' → K (act.put o.dst (.slice a' (n + m) c')) w') : o.wp Try.prog act W K Q := by
  obtain ⟨a', c', w', hr, h2⟩ := hr
  unfold Oper.wp execOp
  simp only [ho, resolve, invoke, builtin, Sem.run_bind, Sem.run_pure, Result.andThen_ok, List.map_toArray, List.map_cons, List.map_nil, hs, hx, hr]
  exact h a' c' w' h2
end
end Go.Proofs.Ytlhlljjchggnjaa
