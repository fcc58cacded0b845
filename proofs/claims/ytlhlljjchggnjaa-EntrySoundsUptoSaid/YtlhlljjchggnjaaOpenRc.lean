/- A record, an entry by value as an input. -/
import Derived.Test.YtlhlljjchggnjaaStruct
namespace Go.Proofs.Ytlhlljjchggnjaa
open Go.ChangeShapes Go.WideShapes Go.ChangeAt Go.RowKit

theorem opened_struct {α H : Type} {enc : TypeId × Value → H} {P : Program} {W : World} {sp : Nat → Bool} {held : Bool} {t : TypeId} {fs : Array Field} {sh : Sh α} {r : Reach} {b0 : Nat} {v : Value} {d : DataW H} {p : List MemPlace} (ht : P.underlying t = some (.struct fs)) (hv : Value.okWide P W r b0 t v) (ho : Opens P t sh)
    (h : DataW.Trod enc P W 0 sp held t v d p) (hs : ∀ n ∈ d.weights P t, n ≤ reachBytes) : ∃ cs x, v = .agg cs ∧ sh.R W (fun g => g < W.heap.size) x cs.toList := by
  obtain ⟨cs, rfl, _⟩ := okWide_struct ht hv
  obtain ⟨x, hx⟩ := opened ho h hs
  exact ⟨cs, x, rfl, hx⟩
set_option maxRecDepth 100000 in
theorem opened_rc {H : Type} {enc : TypeId × Value → H} {W : World} {sp : Nat → Bool} {held : Bool} {r : Reach} {b0 : Nat} {v : Value} {d : DataW H} {p : List MemPlace} (hv : Value.okWide Try.prog W r b0 61 v)
    (h : DataW.Trod enc Try.prog W 0 sp held 61 v d p) (hs : ∀ n ∈ d.weights Try.prog 61, n ≤ reachBytes) : ∃ a n c b m e x, v = .agg #[.int .i64 x.kind, .int .i64 x.conf.epoch, .slice a n c, .int .i64 x.pos, .int .i64 x.last, .slice b m e] ∧ ShRc.R W (fun g => g < W.heap.size) x (recCs x a n c b m e) := by
  obtain ⟨cs, x, rfl, hx⟩ := opened_struct Try.underlying61 hv opRc h hs
  have hx' := hx
  obtain ⟨a, n, c, b, m, e, he, _⟩ := hx'
  rw [he] at hx
  exact ⟨a, n, c, b, m, e, x, congrArg Value.agg (Array.ext' he), hx⟩
set_option maxRecDepth 100000 in
theorem opened_ent {H : Type} {enc : TypeId × Value → H} {W : World} {sp : Nat → Bool} {held : Bool} {r : Reach} {b0 : Nat} {v : Value} {d : DataW H} {p : List MemPlace} (hv : Value.okWide Try.prog W r b0 72 v)
    (h : DataW.Trod enc Try.prog W 0 sp held 72 v d p) (hs : ∀ n ∈ d.weights Try.prog 72, n ≤ reachBytes) : ∃ a n c x, v = .agg #[.int .i64 x.seq, .int .i64 x.client, .int .i64 x.num, .int .i64 x.op, strv x.key, .int .i64 x.size, .int .u32 x.sum, .slice a n c] ∧ ShEnt.R W (fun g => g < W.heap.size) x (entCs x a n c) := by
  obtain ⟨cs, x, rfl, hx⟩ := opened_struct Try.underlying72 hv opEnt h hs
  have hx' := hx
  obtain ⟨a, n, c, he, _⟩ := hx'
  rw [he] at hx
  exact ⟨a, n, c, x, congrArg Value.agg (Array.ext' he), hx⟩
theorem u8_rng {x : Int} (h : (Lit.int .u8 x).wf = true) : 0 ≤ x ∧ x ≤ 255 := by
  have h1 : IntKind.u8.min = 0 := rfl
  have h2 : IntKind.u8.max = 255 := rfl
  simpa [Lit.wf, h1, h2] using h
end Go.Proofs.Ytlhlljjchggnjaa
