/- From what a row says of its arguments ('reads as data') to the shapes of this seat; and the frame of a statement's proof: a law's function that returns true and leaves what was there. -/
import Derived.Test.YtlhlljjchggnjaaBase2
import Derived.Test.YtlhlljjchggnjaaRows
import Derived.ProofKit
import Derived.SizedLaws
namespace Go.Proofs.Ytlhlljjchggnjaa
open Go.ChangeShapes Go.WideShapes Go.ChangeAt Go.RowKit

/-- Whatever reads as data of type t has the shape sh. -/
def Opens {α : Type} (P : Program) (t : TypeId) (sh : Sh α) : Prop :=
  ∀ (H : Type) (enc : TypeId × Value → H) (w : World) (sp : Nat → Bool) (held : Bool) (fuel : Nat) (cs : List Value) (d : DataW H) (ps : List MemPlace),
    DataW.trod enc P w 0 sp held fuel t cs = some (d, ps) → (∀ n ∈ d.weights P t, n ≤ reachBytes) → ∃ y, sh.R w (fun g => g < w.heap.size) y cs

/-- A slice as a shape. -/
def Sh.slc {α : Type} (d : Sh α) (B : Nat) : Sh (List α) where
  k := 1
  kpos := Nat.one_pos
  R := fun w F xs cs => ∃ a n c, cs = [.slice a n c] ∧ d.Sl w F a n c xs ∧ n * B ≤ maxB
  len := fun ⟨_, _, _, h, _⟩ => by rw [h]; rfl
  one := fun ⟨_, _, _, h, _⟩ u hu => by rw [h] at hu; simp at hu; rw [hu]; rfl
  step := fun ⟨a, n, c, h, h2, h3⟩ hm => ⟨a, n, c, h, h2.step hm, h3⟩
  mono := fun ⟨a, n, c, h, h2, h3⟩ hm => ⟨a, n, c, h, h2.mono hm, h3⟩
  bound := fun ⟨a, n, c, h, h2, h3⟩ => ⟨a, n, c, h, h2.bound, h3⟩

theorem opens_u8 {P : Program} {t : TypeId} (ht : P.underlying t = some (.int .u8)) : Opens P t By := by
  intro H enc w sp held fuel cs d ps h _
  obtain ⟨n, rfl, _, hw⟩ := DataW.trod_int ht h
  have h1 : IntKind.u8.min = 0 := rfl
  have h2 : IntKind.u8.max = 255 := rfl
  simp only [Lit.wf, Bool.and_eq_true, decide_eq_true_eq, h1, h2] at hw
  refine ⟨UInt8.ofNat n.toNat, ?_, trivial⟩
  show [Value.int .u8 n] = [u8v _]
  unfold u8v
  rw [UInt8.toNat_ofNat', Nat.mod_eq_of_lt (by omega)]
  congr 2
  omega
theorem opens_i64 {P : Program} {t : TypeId} (ht : P.underlying t = some (.int .i64)) : Opens P t In := by
  intro H enc w sp held fuel cs d ps h _
  obtain ⟨n, rfl, _, hw⟩ := DataW.trod_int ht h
  have h1 : IntKind.i64.min = -9223372036854775808 := rfl
  have h2 : IntKind.i64.max = 9223372036854775807 := rfl
  simp only [Lit.wf, Bool.and_eq_true, decide_eq_true_eq, h1, h2] at hw
  exact ⟨n, rfl, hw.1, hw.2⟩
theorem opens_str {P : Program} {t : TypeId} (ht : P.underlying t = some .string) : Opens P t St := by
  intro H enc w sp held fuel cs d ps h hs
  obtain ⟨s, rfl, hx, _⟩ := DataW.trod_string ht h
  obtain ⟨rfl, _⟩ := Prod.mk.inj hx
  have hl := hs s.data.toList.length (by simp [DataW.weights])
  exact ⟨s.data.toList, rfl, hl⟩

theorem rs_of_elems {α : Type} {sh : Sh α} {w : World} {F : Nat → Prop} {k : Nat} (hk : k = sh.k) (cells : Nat → List Value) : ∀ n, (∀ i, i < n → ∃ y, sh.R w F y (cells i)) →
    ∃ xs : List α, xs.length = n ∧ sh.Rs w F xs ((List.range n).flatMap cells)
  | 0, _ => ⟨[], rfl, Sh.Rs.nil⟩
  | n + 1, h => by
    obtain ⟨xs, hl, hR⟩ := rs_of_elems hk cells n (fun i hi => h i (by omega))
    obtain ⟨y, hy⟩ := h n (by omega)
    refine ⟨xs ++ [y], by rw [List.length_append, hl]; rfl, ?_⟩
    rw [List.range_succ, List.flatMap_append]
    refine hR.append ?_
    simp only [List.flatMap_cons, List.flatMap_nil, List.append_nil]
    exact Sh.Rs.single hy

theorem weightsAll_mem {H : Type} {P : Program} {e : TypeId} : ∀ {ds : List (DataW H)} {i : Nat} {d : DataW H}, ds[i]? = some d → ∀ n ∈ d.weights P e, n ∈ DataW.weightsAll P e ds
  | [], _, _, h, _, _ => by simp at h
  | x :: r, 0, d, h, n, hn => by
    simp at h
    subst h
    simp only [DataW.weightsAll, List.mem_append]
    exact .inl hn
  | x :: r, i + 1, d, h, n, hn => by
    simp at h
    simp only [DataW.weightsAll, List.mem_append]
    exact .inr (weightsAll_mem h n hn)

theorem opens_slice {α : Type} {P : Program} {t e : TypeId} {sh : Sh α} {B : Nat} (ht : P.underlying t = some (.slice e)) (he : Opens P e sh) (hc : P.cellsOf e = sh.k) (hB : P.bytesOf e = B) : Opens P t (sh.slc B) := by
  intro H enc w sp held fuel cs d ps h hs
  rcases DataW.trod_slice ht h with ⟨rfl, hx⟩ | ⟨a, len, cap, elems, rest, n, rfl, rfl, hx, _, hlc, hcm, hel, hcell, hsp, hns⟩
  · exact ⟨[], none, 0, 0, rfl, Sh.Sl.nil _ _ _, by simp [maxB]⟩
  · obtain ⟨rfl, _⟩ := Prod.mk.inj hx
    have hsz : (elems.length + rest.length) * P.bytesOf e ≤ reachBytes := hs _ (by simp [DataW.weights, ht])
    have hsz2 : len * B ≤ maxB := by
      rw [hB] at hsz
      have : len * B ≤ (elems.length + rest.length) * B := Nat.mul_le_mul_right _ (by omega)
      have hr : reachBytes = maxB := rfl
      omega
    -- each element's cells, and what they are
    have each : ∀ i, i < len → ∃ c, w.cells? 0 (a.add (i * sh.k)) sh.k = some c ∧ ∃ y, sh.R w (fun g => g < w.heap.size) y c := by
      intro i hi
      have h1 := hcell i hi
      rw [List.getElem?_eq_getElem (by omega), hc] at h1
      obtain ⟨c, hc1, hc2⟩ := Option.bind_eq_some_iff.1 h1
      refine ⟨c, hc1, ?_⟩
      refine he H enc w sp held n c _ _ (Prod.eta elems[i] ▸ hc2) (fun m hm => hs m ?_)
      simp only [DataW.weights, ht, List.mem_cons, List.mem_append]
      exact .inr (.inl (weightsAll_mem (i := i) (by rw [List.getElem?_map, List.getElem?_eq_getElem (by omega)]; rfl) m hm))
    obtain ⟨xs, hxl, hR⟩ := rs_of_elems (sh := sh) (w := w) (F := fun g => g < w.heap.size) rfl (fun i => (w.cells? 0 (a.add (i * sh.k)) sh.k).getD []) len (fun i hi => by
      obtain ⟨c, h1, y, hy⟩ := each i hi
      exact ⟨y, by rw [h1]; exact hy⟩)
    refine ⟨xs, some a, len, cap, rfl, ⟨hxl, hlc, by simpa [maxLen] using hcm, by simp, _, hR, fun h0 => ?_⟩, hsz2⟩
    obtain ⟨c0, hc0, _⟩ := each 0 h0
    obtain ⟨_, hl0, hcc0⟩ := World.cells?_some hc0
    have hk := sh.kpos
    have h00 := hcc0 0 hk
    rw [List.getElem?_eq_getElem (by omega), Nat.zero_mul] at h00
    have hspot : a.spot = none := World.cell?_spot (a := a) (by simpa [Addr.add] using h00)
    obtain ⟨g, o, s⟩ := a
    obtain rfl : s = none := hspot
    refine ⟨g, o, rfl, World.block_lt_of_cell? w ⟨g, o, none⟩ (by simpa [Addr.add] using h00), fun j u hu => ?_⟩
    have hj : j < len * sh.k := by
      have := (List.getElem?_eq_some_iff.1 hu).1
      rw [hR.1, hxl] at this
      exact this
    have hq : j / sh.k < len := by rw [Nat.div_lt_iff_lt_mul hk]; exact hj
    obtain ⟨c, hc1, y, hy⟩ := each (j / sh.k) hq
    obtain ⟨_, hl1, hcc1⟩ := World.cells?_some hc1
    have hm := Nat.mod_lt j hk
    have hcell1 := hcc1 (j % sh.k) hm
    have hdm := Nat.div_add_mod j sh.k
    have hadd : ((⟨g, o, none⟩ : Addr).add (j / sh.k * sh.k)).add (j % sh.k) = ⟨g, o + j, none⟩ := by
      rw [Addr.add_lit, Addr.add_lit, Nat.add_assoc, Nat.mul_comm, hdm]
    rw [hadd] at hcell1
    rw [hcell1]
    -- the j-th cell of all
    have hcs : (((List.range len).flatMap fun i => (w.cells? 0 ((⟨g, o, none⟩ : Addr).add (i * sh.k)) sh.k).getD []).drop (j / sh.k * sh.k)).take sh.k = c := by
      have hR2 := hR.2 (j / sh.k) _ (List.getElem?_eq_getElem (by omega))
      have hlen : ∀ m, m ≤ len → ((List.range m).flatMap fun i => (w.cells? 0 ((⟨g, o, none⟩ : Addr).add (i * sh.k)) sh.k).getD []).length = m * sh.k := by
        intro m
        induction m with
        | zero => intro _; simp
        | succ m ih =>
          intro hm
          obtain ⟨c2, hc2, _⟩ := each m (by omega)
          have hl2 := (World.cells?_some hc2).2.1
          rw [List.range_succ, List.flatMap_append, List.length_append, ih (by omega)]
          simp only [List.flatMap_cons, List.flatMap_nil, List.append_nil, hc2, Option.getD_some, hl2, Nat.succ_mul]
      have hsplit : List.range len = List.range (j / sh.k) ++ (j / sh.k) :: (List.range (len - (j / sh.k + 1))).map (· + (j / sh.k + 1)) := by
        have e : len = (j / sh.k + 1) + (len - (j / sh.k + 1)) := by omega
        rw [e, List.range_add, List.range_succ]
        simp [Nat.add_comm]
      rw [hsplit, List.flatMap_append, List.drop_append_of_le_length (by rw [hlen _ (by omega)]; exact Nat.le_refl _), List.drop_eq_nil_of_le (by rw [hlen _ (by omega)]; exact Nat.le_refl _), List.nil_append, List.flatMap_cons, hc1, Option.getD_some, List.take_append_of_le_length (by omega), List.take_of_length_le (by omega)]
    rw [← hcs, List.getElem?_take, if_pos hm, List.getElem?_drop, Nat.mul_comm, hdm]
    exact hu

/-! ### The frame of a law -/
theorem trodAll_below {H : Type} {enc : TypeId × Value → H} {P : Program} (hl : laidOutB P = true) {W W' : World} (hb : Below W.heap.size W W') :
    ∀ {ts : List TypeId} {vs : List Value} {ds : List (DataW H)} {ps : List MemPlace}, (ts.all fun t => P.readableRec t && decide (t < P.types.size)) = true → DataW.TrodAll enc P W 0 (fun _ => true) true ts vs ds ps → (∀ x ∈ ps, x.block < W.heap.size) →
      DataW.TrodAll enc P W' 0 (fun b => decide (b < W.heap.size)) true ts vs ds ps
  | [], [], [], _, _, h, _ => h
  | t :: ts, v :: vs, d :: ds, ps, hr, h, hlt => by
    obtain ⟨p, q, h1, h2, rfl⟩ := h
    simp only [List.all_cons, Bool.and_eq_true, decide_eq_true_eq] at hr
    exact ⟨p, q, Below.trod hl hr.1.1 hr.1.2 h1 hb (fun x hx => hlt x (List.mem_append_left _ hx)), trodAll_below hl hb hr.2 h2 (fun x hx => hlt x (List.mem_append_right _ hx)), rfl⟩

/-- A law's function returns true and leaves what was there: the row's 'post'. -/
theorem law_post {H : Type} {enc : TypeId × Value → H} {P : Program} {f : Func} {s : ChangeSpec} {W W' : World} {args : Array Value} {ds : List (DataW H)} {before p : List MemPlace} {tb : TypeId}
    (hl : laidOutB P = true) (hb : P.underlying tb = some .bool) (hres : f.resultTypes = #[tb]) (hread : (f.params.toList.all fun t => P.readableRec t && decide (t < P.types.size)) = true) (hvars : s.vars = [])
    (hW : DataW.Whole enc P f.params.toList s.vars false W args.toList ds [] before) (hA : DataW.TrodAll enc P W 0 (fun _ => true) true f.params.toList args.toList ds p) (hp : ∀ x ∈ p, x.block < W.heap.size)
    (h1 : (s.fn H (ds ++ [])).results = [.lit (.bool true)]) (h2 : (s.fn H (ds ++ [])).args = ds) (h3 : (s.fn H (ds ++ [])).vars = [])
    (hk : Kept W W' nix) : s.post enc P f false true false false W args (.bool true) W' := by
  refine ⟨ds, [], before, [], p, [], hW, ?_, ?_, ?_, hk.below.frame _, fun h => by cases h⟩
  · rw [h1, hres]
    exact trodAll_mk1 (shut_bool hb true)
  · rw [h2]
    exact trodAll_below hl hk.below hread hA hp
  · rw [h3, hvars]
    rfl

/-! ### Arguments -/
theorem sizes_of {H : Type} {P : Program} {ts : List TypeId} {ds : List (DataW H)} (h : (DataW.weightsEach P ts ds).all (· ≤ reachBytes) = true) (j : Nat) (t : TypeId) (d : DataW H) (ht : ts[j]? = some t) (hd : ds[j]? = some d) :
    ∀ n ∈ d.weights P t, n ≤ reachBytes := fun n hn => by
  have := List.all_eq_true.1 h n (DataW.weights_mem_each ht hd n hn)
  simpa using this
theorem opened {α H : Type} {enc : TypeId × Value → H} {P : Program} {W : World} {sp : Nat → Bool} {held : Bool} {t : TypeId} {sh : Sh α} {v : Value} {d : DataW H} {p : List MemPlace} (ho : Opens P t sh)
    (h : DataW.Trod enc P W 0 sp held t v d p) (hs : ∀ n ∈ d.weights P t, n ≤ reachBytes) : ∃ y, sh.R W (fun g => g < W.heap.size) y v.cells.toList := by
  obtain ⟨fuel, hf⟩ := h
  exact ho H enc W sp held fuel _ d p hf hs
theorem opened_slice {α H : Type} {enc : TypeId × Value → H} {P : Program} {W : World} {sp : Nat → Bool} {held : Bool} {t e : TypeId} {sh : Sh α} {B : Nat} {r : Reach} {b0 : Nat} {v : Value} {d : DataW H} {p : List MemPlace} (ht : P.underlying t = some (.slice e)) (hv : Value.okWide P W r b0 t v) (ho : Opens P t (sh.slc B))
    (h : DataW.Trod enc P W 0 sp held t v d p) (hs : ∀ n ∈ d.weights P t, n ≤ reachBytes) : ∃ a n c xs, v = .slice a n c ∧ sh.Sl W (fun g => g < W.heap.size) a n c xs ∧ n * B ≤ maxB := by
  obtain ⟨a, n, c, rfl⟩ := okWide_slice ht hv
  obtain ⟨xs, a', n', c', he, h2, h3⟩ := opened ho h hs
  simp [Value.cells] at he
  obtain ⟨rfl, rfl, rfl⟩ := he
  exact ⟨a, n, c, xs, rfl, h2, h3⟩
theorem opened_i64 {H : Type} {enc : TypeId × Value → H} {P : Program} {W : World} {sp : Nat → Bool} {held : Bool} {t : TypeId} {r : Reach} {b0 : Nat} {v : Value} {d : DataW H} {p : List MemPlace} (ht : P.underlying t = some (.int .i64)) (hv : Value.okWide P W r b0 t v)
    (h : DataW.Trod enc P W 0 sp held t v d p) : ∃ x, v = .int .i64 x ∧ -9223372036854775808 ≤ x ∧ x ≤ 9223372036854775807 := by
  obtain ⟨x, rfl, rfl, rfl, hw⟩ := open_int ht hv h
  have h1 : IntKind.i64.min = -9223372036854775808 := rfl
  have h2 : IntKind.i64.max = 9223372036854775807 := rfl
  simp only [Lit.wf, Bool.and_eq_true, decide_eq_true_eq, h1, h2] at hw
  exact ⟨x, rfl, hw.1, hw.2⟩
theorem Try.own : ownKnob Try.prog.godebug = none := by kernel_rfl
theorem Try.laidOut : laidOutB Try.prog = true := by kernel_rfl
theorem opBytes : Opens Try.prog 22 (By.slc 1) := opens_slice Try.underlying22 (opens_u8 Try.underlying5) (by kernel_rfl) (by kernel_rfl)
end Go.Proofs.Ytlhlljjchggnjaa
