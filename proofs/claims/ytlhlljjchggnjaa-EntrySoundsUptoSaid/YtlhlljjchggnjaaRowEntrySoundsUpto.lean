/- EntrySounds, of bulk at most 1048576, holds: an entry's soundness and sameness are as the reference says. -/
import Derived.Test.YtlhlljjchggnjaaLaw7f
import Derived.Test.YtlhlljjchggnjaaOpenRc
import Derived.Test.YtlhlljjchggnjaaOpen
import Derived.Test.YtlhlljjchggnjaaWords
import Derived.Test.YtlhlljjchggnjaaRows
import Derived.JoinedCond
import Derived.Deep.CondSized
namespace Go.Proofs.Ytlhlljjchggnjaa
open Go.ChangeShapes Go.WideShapes Go.ChangeAt Go.RowKit

theorem bulk_one {H : Type} (d : DataW H) : 1 ≤ Rows.uptoBulk d := by
  cases d with
  | lit l => cases l <;> simp [Rows.uptoBulk]
  | nil => simp [Rows.uptoBulk]
  | ptr d => simp [Rows.uptoBulk]
  | slice elems spare => simp [Rows.uptoBulk]
  | agg parts => simp [Rows.uptoBulk]
  | iface t d => simp [Rows.uptoBulk]
  | map entries => simp [Rows.uptoBulk]
  | held h => simp [Rows.uptoBulk]
theorem bulk_part {H : Type} {d : DataW H} {l : List (DataW H)} (h : d ∈ l) : Rows.uptoBulk d ≤ Rows.uptoBulkAll l := by
  induction l with
  | nil => cases h
  | cons x r ih =>
    simp only [Rows.uptoBulkAll]
    cases List.mem_cons.1 h with
    | inl e => subst e; omega
    | inr e => have := ih e; omega
theorem bulk_length {H : Type} (l : List (DataW H)) : l.length ≤ Rows.uptoBulkAll l := by
  induction l with
  | nil => simp [Rows.uptoBulkAll]
  | cons x r ih => have := bulk_one x; simp only [Rows.uptoBulkAll, List.length_cons]; omega

set_option maxRecDepth 100000 in
theorem ent_bulk {H : Type} {enc : TypeId × Value → H} {W : World} {sp : Nat → Bool} {held : Bool} {d : DataW H} {p : List MemPlace} {x : Ent} {a : Option Addr} {n c : Nat}
    (h : DataW.Trod enc Try.prog W 0 sp held 72 (.agg #[.int .i64 x.seq, .int .i64 x.client, .int .i64 x.num, .int .i64 x.op, strv x.key, .int .i64 x.size, .int .u32 x.sum, .slice a n c]) d p) : x.key.length + n ≤ 2 * Rows.uptoBulk d := by
  obtain ⟨fuel, hf⟩ := h
  obtain ⟨xs, m, _, hx, hl, hlen, hfs⟩ := DataW.trod_struct Try.underlying72 hf
  obtain ⟨rfl, rfl⟩ := Prod.mk.inj hx
  have hlen8 : xs.length = 8 := hlen
  have h4 := hfs 4 _ rfl
  have h7 := hfs 7 _ rfl
  rw [List.getElem?_eq_getElem (by omega)] at h4 h7
  have m4 : (xs[4]'(by omega)).1 ∈ xs.map (·.1) := List.mem_map_of_mem (List.getElem_mem _)
  have m7 : (xs[7]'(by omega)).1 ∈ xs.map (·.1) := List.mem_map_of_mem (List.getElem_mem _)
  have b4 := bulk_part m4
  have b7 := bulk_part m7
  have k4 : x.key.length ≤ Rows.uptoBulk (xs[4]'(by omega)).1 := by
    obtain ⟨s, hs, hy, _⟩ := DataW.trod_string Try.underlying9 h4
    have hs2 : List.take (Try.prog.cellsOf 9) (List.drop 4 (Value.agg #[.int .i64 x.seq, .int .i64 x.client, .int .i64 x.num, .int .i64 x.op, strv x.key, .int .i64 x.size, .int .u32 x.sum, .slice a n c]).cells.toList) = [.string s] := hs
    rw [show Try.prog.cellsOf 9 = 1 by kernel_rfl] at hs2
    have hs' : strv x.key = .string s := by simpa [Value.cells] using hs2
    rw [hy]
    simp only [strv, Value.string.injEq] at hs'
    subst hs'
    simp [Rows.uptoBulk]
  have k7 : n ≤ Rows.uptoBulk (xs[7]'(by omega)).1 := by
    rcases DataW.trod_slice Try.underlying22 h7 with ⟨hs, hy⟩ | ⟨a', len, cap, elems, rest, n2, hs, ha, hy, _, hlc, hcm, hel, hcell, hsp, hns⟩
    · have hs2 : List.take (Try.prog.cellsOf 22) (List.drop 7 (Value.agg #[.int .i64 x.seq, .int .i64 x.client, .int .i64 x.num, .int .i64 x.op, strv x.key, .int .i64 x.size, .int .u32 x.sum, .slice a n c]).cells.toList) = [.slice none 0 0] := hs
      rw [show Try.prog.cellsOf 22 = 1 by kernel_rfl] at hs2
      have hs' : a = none ∧ n = 0 ∧ c = 0 := by simpa [Value.cells] using hs2
      omega
    · have ha2 : List.take (Try.prog.cellsOf 22) (List.drop 7 (Value.agg #[.int .i64 x.seq, .int .i64 x.client, .int .i64 x.num, .int .i64 x.op, strv x.key, .int .i64 x.size, .int .u32 x.sum, .slice a n c]).cells.toList) = [.slice (some a') len cap] := ha
      rw [show Try.prog.cellsOf 22 = 1 by kernel_rfl] at ha2
      have hs' : a = some a' ∧ n = len ∧ c = cap := by simpa [Value.cells] using ha2
      rw [hy]
      have := bulk_length (elems.map (·.1))
      rw [List.length_map] at this
      simp only [Rows.uptoBulk]
      omega
  simp only [Rows.uptoBulk]
  omega

set_option maxRecDepth 100000 in
theorem entrySounds_contract (H : Type) (enc : TypeId × Value → H) (W : World) (base : Nat) (args : Array Value) (ds gs : List (DataW H)) (before : List MemPlace)
    (hval0 : ∀ (j : Nat) t v, Try.f17.params[j]? = some t → args[j]? = some v → Value.okWide Try.prog W .any base t v)
    (hW : DataW.Whole enc Try.prog Try.f17.params.toList Rows.entrySoundsSpec.vars false W args.toList ds gs before) (hkk : Rows.uptoSmall H (ds ++ gs) = true)
    (hsz0 : (DataW.weightsEach Try.prog (Try.f17.params.toList ++ Rows.entrySoundsSpec.plain.varTypes Try.prog) (ds ++ gs)).all (· ≤ reachBytes) = true) :
    Calls Try.prog 17 args W fun e W' => ∃ v, e = .returned v ∧ Rows.entrySoundsSpec.post enc Try.prog Try.f17 false true false false W args v W' := by
  have hsz := hsz0
  clear hsz0
  have hval : ∀ (j : Nat) t v, Try.f17.params[j]? = some t → args[j]? = some v → Value.okWide Try.prog W .any base t v := hval0
  clear hval0
  have hW' := hW
  obtain ⟨p, q, hA0, hV, rfl, _, _⟩ := hW
  have hA : DataW.TrodAll enc Try.prog W 0 (fun _ => true) true Try.f17.params.toList args.toList ds p := hA0
  rw [Try.params17] at hA hsz
  have hA1 := hA
  obtain ⟨v0, v1, d0, d1, p0, p1, rfl, rfl, rfl, h0, h1⟩ := trodAll_two hA
  obtain ⟨rfl, rfl⟩ := trodVars_none hV
  clear hA0
  have hlt : ∀ x ∈ p0 ++ p1, x.block < W.heap.size := fun x hx => hW'.lt x (by simpa using hx)
  obtain ⟨a0, n0, c0, x0, rfl, r0⟩ := opened_ent (hval 0 72 v0 rfl rfl) h0 (sizes_of hsz 0 72 d0 rfl rfl)
  obtain ⟨a1, n1, c1, x1, rfl, r1⟩ := opened_ent (hval 1 72 v1 rfl rfl) h1 (sizes_of hsz 1 72 d1 rfl rfl)
  have g0 := ent_bulk h0
  have g1 := ent_bulk h1
  have hb : Rows.uptoBulkAll ([d0, d1] ++ []) ≤ 1048576 := of_decide_eq_true hkk
  simp only [List.cons_append, List.nil_append, Rows.uptoBulkAll] at hb
  refine (entrysounds_c W _ _ x0 x1 a0 n0 c0 a1 n1 c1 r0 r1 (by omega) (by omega)).mono fun e W' ⟨he, hk⟩ => ⟨_, he, ?_⟩
  exact law_post (tb := 4) Try.laidOut Try.underlying4 rfl (by kernel_rfl) rfl hW' hA1 hlt rfl rfl rfl hk

set_option maxRecDepth 100000 in
theorem entrySoundsUpto_lifted (os : Os) (started : os.Started) (H : Type) (enc : TypeId × Value → H) (F : Stop.Interp) :
    ReturnsInHanded {} Try.checked os 17 .any ((Rows.OpenSpec.upto Rows.entrySoundsSpec).pre6 enc Try.prog Try.f17 Rows.entrySoundsUptoRow.domain false) (((Rows.OpenSpec.upto Rows.entrySoundsSpec).at F).post enc Try.prog Try.f17 false true false false) := by
  refine returnsInHanded_of_cond_sized (C := Try.checked) (s := Rows.OpenSpec.upto Rows.entrySoundsSpec) (k := Rows.uptoSmall) rfl Try.own started (by kernel_rfl) Try.func17
    (OpenSpec.witness (enc := enc) (C := Try.checked) (s := Rows.OpenSpec.upto Rows.entrySoundsSpec) (k := Rows.uptoSmall) rfl false ⟨#[], #[.agg #[.int .i64 0, .int .i64 0, .int .i64 0, .int .i64 0, .string ⟨#[]⟩, .int .i64 0, .int .u32 0, .slice none 0 0], .agg #[.int .i64 0, .int .i64 0, .int .i64 0, .int .i64 0, .string ⟨#[]⟩, .int .i64 0, .int .u32 0, .slice none 0 0]], []⟩ 8 (by kernel_rfl) (by kernel_rfl) (by kernel_rfl)
      (x := ([.agg [.lit (.int .i64 0), .lit (.int .i64 0), .lit (.int .i64 0), .lit (.int .i64 0), .lit (.string []), .lit (.int .i64 0), .lit (.int .u32 0), .nil], .agg [.lit (.int .i64 0), .lit (.int .i64 0), .lit (.int .i64 0), .lit (.int .i64 0), .lit (.string []), .lit (.int .i64 0), .lit (.int .u32 0), .nil]], [], [])) (by kernel_rfl) rfl (by kernel_rfl)) ?_
  intro W base args ds gs before hval hW _ hk hsz _
  exact entrySounds_contract H enc W base args ds gs before hval hW hk hsz

set_option maxRecDepth 100000 in
set_option maxHeartbeats 40000000 in
theorem entrySoundsUpto_closed : joinedFacts Try.prog 17 Try.f17 Rows.entrySoundsSpec Rows.entrySoundsUptoRow = true := by
  unfold joinedFacts
  rw [io_enter, io_final, io_make]
  simp only [Bool.and_eq_true]
  repeat' refine And.intro ?_ ?_
  all_goals (first | exact True.intro | (as_aux_lemma => kernel_rfl))

set_option maxRecDepth 100000 in
theorem entrySoundsUpto_holds : Rows.EntrySoundsUptoSaid :=
  OpenClaim.holds_of_cond 17 Try.f17 rfl rfl rfl rfl rfl rfl rfl ⟨rfl, rfl, rfl, rfl, rfl⟩ rfl rfl rfl rfl rfl (by kernel_rfl) Try.func17 entrySoundsUpto_closed
    (of_decide_eq_true (by kernel_rfl)) (by unfold Func.isWrapper; rw [if_neg (of_decide_eq_false (by kernel_rfl))]; exact ⟨rfl, rfl⟩)
    (fun os started H enc _ F => entrySoundsUpto_lifted os started H enc F)
end Go.Proofs.Ytlhlljjchggnjaa
