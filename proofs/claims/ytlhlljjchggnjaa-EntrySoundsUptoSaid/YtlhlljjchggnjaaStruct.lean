/- Structs as shapes: their fields one behind the other; entries, configurations and records in memory, and what inputs of their types open to. -/
import Derived.Test.YtlhlljjchggnjaaOpen2
import Derived.Test.YtlhlljjchggnjaaCodec
namespace Go.Proofs.Ytlhlljjchggnjaa
open Go.ChangeShapes Go.WideShapes Go.ChangeAt Go.RowKit

section
variable {α β : Type}
/-- Two, one behind the other. -/
def Sh.pair (d1 : Sh α) (d2 : Sh β) : Sh (α × β) where
  k := d1.k + d2.k
  kpos := by have := d1.kpos; omega
  R := fun w F x cs => ∃ c1 c2, cs = c1 ++ c2 ∧ d1.R w F x.1 c1 ∧ d2.R w F x.2 c2
  len := fun ⟨_, _, h, h1, h2⟩ => by rw [h, List.length_append, d1.len h1, d2.len h2]
  one := fun ⟨_, _, h, h1, h2⟩ u hu => by
    rw [h, List.mem_append] at hu
    exact hu.elim (d1.one h1 u) (d2.one h2 u)
  step := fun ⟨a, b, h, h1, h2⟩ hm => ⟨a, b, h, d1.step h1 hm, d2.step h2 hm⟩
  mono := fun ⟨a, b, h, h1, h2⟩ hm => ⟨a, b, h, d1.mono h1 hm, d2.mono h2 hm⟩
  bound := fun ⟨a, b, h, h1, h2⟩ => ⟨a, b, h, d1.bound h1, d2.bound h2⟩

/-- Fields from cell off on. -/
def OpensF (P : Program) (fs : List Field) (off : Nat) (sh : Sh α) : Prop :=
  ∀ (H : Type) (enc : TypeId × Value → H) (w : World) (sp : Nat → Bool) (held : Bool) (fuel : Nat) (cs : List Value) (ys : List (DataW H × List MemPlace)), ys.length = fs.length → cs.length = off + sh.k →
    (∀ (i : Nat) (f : Field), fs[i]? = some f → DataW.trod enc P w 0 sp held fuel f.type ((cs.drop f.offset).take (P.cellsOf f.type)) = ys[i]?) → (∀ n ∈ DataW.weightsEach P (fs.map (·.type)) (ys.map (·.1)), n ≤ reachBytes) →
    ∃ y, sh.R w (fun g => g < w.heap.size) y (cs.drop off)
theorem opensF_one {P : Program} {f : Field} {off : Nat} {sh : Sh α} (ho : Opens P f.type sh) (hoff : f.offset = off) (hk : P.cellsOf f.type = sh.k) : OpensF P [f] off sh := by
  intro H enc w sp held fuel cs ys hl hc hf hs
  match ys, hl with
  | [y0], _ =>
    have h0 := hf 0 f rfl
    rw [hoff, hk, List.take_of_length_le (by rw [List.length_drop]; omega)] at h0
    exact ho H enc w sp held fuel _ y0.1 y0.2 (by simpa using h0) (fun n hn => hs n (by simp [DataW.weightsEach, hn]))
theorem opensF_cons {P : Program} {f : Field} {fs : List Field} {off off2 : Nat} {d1 : Sh α} {d2 : Sh β} (ho : Opens P f.type d1) (hoff : f.offset = off) (hk : P.cellsOf f.type = d1.k) (h2 : off2 = off + d1.k) (hr : OpensF P fs off2 d2) : OpensF P (f :: fs) off (d1.pair d2) := by
  subst h2
  intro H enc w sp held fuel cs ys hl hc hf hs
  have hc' : cs.length = off + (d1.k + d2.k) := hc
  match ys, hl with
  | y0 :: yr, hl =>
    have h0 := hf 0 f rfl
    rw [hoff, hk] at h0
    obtain ⟨x1, hx1⟩ := ho H enc w sp held fuel _ y0.1 y0.2 (by simpa using h0) (fun n hn => hs n (by simp [DataW.weightsEach, hn]))
    obtain ⟨x2, hx2⟩ := hr H enc w sp held fuel cs yr (by simpa using hl) (by omega) (fun i f hf' => by simpa using hf (i + 1) f (by simpa using hf')) (fun n hn => hs n (by simp [DataW.weightsEach, hn]))
    refine ⟨(x1, x2), _, _, ?_, hx1, hx2⟩
    rw [← List.drop_drop, List.take_append_drop]
theorem opens_struct {P : Program} {t : TypeId} {fs : Array Field} {sh : Sh α} (ht : P.underlying t = some (.struct fs)) (hc : P.cellsOf t = sh.k) (ho : OpensF P fs.toList 0 sh) : Opens P t sh := by
  intro H enc w sp held fuel cs d ps h hs
  obtain ⟨xs, n, _, hx, hl, hlen, hf⟩ := DataW.trod_struct ht h
  obtain ⟨rfl, rfl⟩ := Prod.mk.inj hx
  have := ho H enc w sp held n cs xs (by rw [hlen]; simp) (by omega) (fun i f hi => hf i f (by simpa using hi)) (fun n hn => hs n (by simpa only [DataW.weights, ht] using hn))
  simpa using this
theorem Opens.to {P : Program} {t : TypeId} {sh : Sh α} {sh' : Sh β} (h : Opens P t sh) (hm : ∀ w F y cs, sh.R w F y cs → ∃ x, sh'.R w F x cs) : Opens P t sh' := by
  intro H enc w sp held fuel cs d ps h1 h2
  obtain ⟨y, hy⟩ := h H enc w sp held fuel cs d ps h1 h2
  exact hm _ _ _ _ hy
end

/-! ### Plain fields -/
def u32p (x : Int) : Prop := 0 ≤ x ∧ x ≤ 4294967295
abbrev U32 : Sh Int := Sh.plain (.int .u32) (fun _ => rfl) u32p
theorem opens_u32 {P : Program} {t : TypeId} (ht : P.underlying t = some (.int .u32)) : Opens P t U32 := by
  intro H enc w sp held fuel cs d ps h _
  obtain ⟨n, rfl, _, hw⟩ := DataW.trod_int ht h
  have h1 : IntKind.u32.min = 0 := rfl
  have h2 : IntKind.u32.max = 4294967295 := rfl
  simp only [Lit.wf, Bool.and_eq_true, decide_eq_true_eq, h1, h2] at hw
  exact ⟨n, rfl, hw.1, hw.2⟩

/-! ### Entries, configurations, records -/
abbrev entCs (e : Ent) (a : Option Addr) (n c : Nat) : List Value := [.int .i64 e.seq, .int .i64 e.client, .int .i64 e.num, .int .i64 e.op, strv e.key, .int .i64 e.size, .int .u32 e.sum, .slice a n c]
/-- An entry: its cells; where its fragment lies. -/
def ShEnt : Sh Ent where
  k := 8
  kpos := by omega
  R := fun w F e cs => ∃ a n c, cs = entCs e a n c ∧ By.Sl w F a n c e.frag ∧ n ≤ maxB ∧ e.key.length ≤ maxB ∧ e.Wf
  len := fun ⟨_, _, _, h, _⟩ => by rw [h]; rfl
  one := fun ⟨_, _, _, h, _⟩ u hu => by
    rw [h] at hu
    simp only [entCs, List.mem_cons, List.not_mem_nil, or_false] at hu
    rcases hu with rfl | rfl | rfl | rfl | rfl | rfl | rfl | rfl <;> rfl
  step := fun ⟨a, n, c, h, h2, h3⟩ hm => ⟨a, n, c, h, h2.step hm, h3⟩
  mono := fun ⟨a, n, c, h, h2, h3⟩ hm => ⟨a, n, c, h, h2.mono hm, h3⟩
  bound := fun ⟨a, n, c, h, h2, h3⟩ => ⟨a, n, c, h, h2.bound, h3⟩
abbrev cnfCs (x : Cnf) (a : Option Addr) (n c : Nat) : List Value := [.int .i64 x.epoch, .slice a n c]
def ShCnf : Sh Cnf where
  k := 2
  kpos := by omega
  R := fun w F x cs => ∃ a n c, cs = cnfCs x a n c ∧ In.Sl w F a n c x.members ∧ n * 8 ≤ maxB ∧ i64p x.epoch
  len := fun ⟨_, _, _, h, _⟩ => by rw [h]; rfl
  one := fun ⟨_, _, _, h, _⟩ u hu => by
    rw [h] at hu
    simp only [cnfCs, List.mem_cons, List.not_mem_nil, or_false] at hu
    rcases hu with rfl | rfl <;> rfl
  step := fun ⟨a, n, c, h, h2, h3⟩ hm => ⟨a, n, c, h, h2.step hm, h3⟩
  mono := fun ⟨a, n, c, h, h2, h3⟩ hm => ⟨a, n, c, h, h2.mono hm, h3⟩
  bound := fun ⟨a, n, c, h, h2, h3⟩ => ⟨a, n, c, h, h2.bound, h3⟩
abbrev recCs (r : Rc) (a : Option Addr) (n c : Nat) (a2 : Option Addr) (n2 c2 : Nat) : List Value := [.int .i64 r.kind, .int .i64 r.conf.epoch, .slice a n c, .int .i64 r.pos, .int .i64 r.last, .slice a2 n2 c2]
/-- So many bytes an entry takes. -/
def entBytes : Nat := 88
def ShRc : Sh Rc where
  k := 6
  kpos := by omega
  R := fun w F r cs => ∃ a n c a2 n2 c2, cs = recCs r a n c a2 n2 c2 ∧ In.Sl w F a n c r.conf.members ∧ n * 8 ≤ maxB ∧ ShEnt.Sl w F a2 n2 c2 r.entries ∧ n2 * entBytes ≤ maxB ∧ i64p r.kind ∧ i64p r.conf.epoch ∧ i64p r.pos ∧ i64p r.last
  len := fun ⟨_, _, _, _, _, _, h, _⟩ => by rw [h]; rfl
  one := fun ⟨_, _, _, _, _, _, h, _⟩ u hu => by
    rw [h] at hu
    simp only [recCs, List.mem_cons, List.not_mem_nil, or_false] at hu
    rcases hu with rfl | rfl | rfl | rfl | rfl | rfl <;> rfl
  step := fun ⟨a, n, c, a2, n2, c2, h, h2, h3, h4, h5⟩ hm => ⟨a, n, c, a2, n2, c2, h, h2.step hm, h3, h4.step hm, h5⟩
  mono := fun ⟨a, n, c, a2, n2, c2, h, h2, h3, h4, h5⟩ hm => ⟨a, n, c, a2, n2, c2, h, h2.mono hm, h3, h4.mono hm, h5⟩
  bound := fun ⟨a, n, c, a2, n2, c2, h, h2, h3, h4, h5⟩ => ⟨a, n, c, a2, n2, c2, h, h2.bound, h3, h4.bound, h5⟩
theorem ints_p {w : World} {F : Nat → Prop} {a : Option Addr} {n c : Nat} {xs : List Int} (h : In.Sl w F a n c xs) : ∀ x ∈ xs, i64p x := plain_p h
/-- Each element of a slice reads. -/
theorem Sh.Sl.each {α : Type} {d : Sh α} {w : World} {F : Nat → Prop} {a : Option Addr} {n c : Nat} {xs : List α} (h : d.Sl w F a n c xs) : ∀ x ∈ xs, ∃ cs, d.R w F x cs := by
  intro x hx
  obtain ⟨i, hi⟩ := List.mem_iff_getElem?.1 hx
  obtain ⟨_, _, cs, _, _, _, hR, _⟩ := h.elem i x hi
  exact ⟨cs, hR⟩
theorem rc_wf {w : World} {F : Nat → Prop} {r : Rc} {cs : List Value} (h : ShRc.R w F r cs) : r.Wf := by
  obtain ⟨a, n, c, a2, n2, c2, _, h2, _, h4, _, h6, h7, h8, h9⟩ := h
  refine ⟨h6, h7, h8, h9, ⟨?_, ints_p h2⟩, ?_, fun e he => ?_⟩
  · have := h2.max; have := h2.len; omega
  · have := h4.max; have := h4.len; omega
  · obtain ⟨_, _, _, _, _, _, _, _, hw⟩ := h4.each e he
    exact hw
theorem rc_sums {r : Rc} (h : r.Wf) : ∀ e ∈ r.entries, 0 ≤ e.sum ∧ e.sum ≤ 4294967295 := fun e he => (h.2.2.2.2.2.2 e he).2.2.2.2.2.1

theorem opEnt : Opens Try.prog 72 ShEnt := by
  refine Opens.to (sh := In.pair (In.pair (In.pair (In.pair (St.pair (In.pair (U32.pair (By.slc 1)))))))) (opens_struct Try.underlying72 (by kernel_rfl) ?_) ?_
  · refine opensF_cons (opens_i64 Try.underlying3) rfl (by kernel_rfl) rfl ?_
    refine opensF_cons (opens_i64 Try.underlying3) rfl (by kernel_rfl) rfl ?_
    refine opensF_cons (opens_i64 Try.underlying3) rfl (by kernel_rfl) rfl ?_
    refine opensF_cons (opens_i64 Try.underlying3) rfl (by kernel_rfl) rfl ?_
    refine opensF_cons (opens_str Try.underlying9) rfl (by kernel_rfl) rfl ?_
    refine opensF_cons (opens_i64 Try.underlying3) rfl (by kernel_rfl) rfl ?_
    refine opensF_cons (opens_u32 Try.underlying70) rfl (by kernel_rfl) rfl ?_
    exact opensF_one opBytes rfl (by kernel_rfl)
  · rintro w F ⟨a1, a2, a3, a4, a5, a6, a7, a8⟩ cs ⟨_, _, rfl, ⟨rfl, p1⟩, _, _, rfl, ⟨rfl, p2⟩, _, _, rfl, ⟨rfl, p3⟩, _, _, rfl, ⟨rfl, p4⟩, _, _, rfl, ⟨rfl, p5⟩, _, _, rfl, ⟨rfl, p6⟩, _, _, rfl, ⟨rfl, p7⟩, a, n, c, rfl, p8, p9⟩
    refine ⟨⟨a1, a2, a3, a4, a5, a6, a7, a8⟩, a, n, c, rfl, p8, by omega, p5, p1, p2, p3, p4, p6, p7, ?_, ?_⟩
    · have : a5.length ≤ maxB := p5
      unfold maxB at this
      show a5.length ≤ _
      omega
    · have h1 := p8.max
      have h2 : a8.length = n := p8.len
      show a8.length ≤ _
      omega
theorem opCnf : Opens Try.prog 58 ShCnf := by
  refine Opens.to (sh := In.pair (In.slc 8)) (opens_struct Try.underlying58 (by kernel_rfl) ?_) ?_
  · refine opensF_cons (opens_i64 Try.underlying3) rfl (by kernel_rfl) rfl ?_
    exact opensF_one opInts rfl (by kernel_rfl)
  · rintro w F ⟨a1, a2⟩ cs ⟨_, _, rfl, ⟨rfl, p1⟩, a, n, c, rfl, p8, p9⟩
    exact ⟨⟨a1, a2⟩, a, n, c, rfl, p8, p9, p1⟩
theorem opEnts : Opens Try.prog 59 (ShEnt.slc entBytes) := opens_slice Try.underlying59 opEnt (by kernel_rfl) (by kernel_rfl)
theorem opRc : Opens Try.prog 61 ShRc := by
  refine Opens.to (sh := In.pair (ShCnf.pair (In.pair (In.pair (ShEnt.slc entBytes))))) (opens_struct Try.underlying61 (by kernel_rfl) ?_) ?_
  · refine opensF_cons (opens_i64 Try.underlying3) rfl (by kernel_rfl) rfl ?_
    refine opensF_cons opCnf rfl (by kernel_rfl) rfl ?_
    refine opensF_cons (opens_i64 Try.underlying3) rfl (by kernel_rfl) rfl ?_
    refine opensF_cons (opens_i64 Try.underlying3) rfl (by kernel_rfl) rfl ?_
    exact opensF_one opEnts rfl (by kernel_rfl)
  · rintro w F ⟨a1, a2, a3, a4, a5⟩ cs ⟨_, _, rfl, ⟨rfl, p1⟩, _, _, rfl, ⟨a, n, c, rfl, q1, q2, q3⟩, _, _, rfl, ⟨rfl, p3⟩, _, _, rfl, ⟨rfl, p4⟩, a', n', c', rfl, p8, p9⟩
    exact ⟨⟨a1, a2, a3, a4, a5⟩, a, n, c, a', n', c', rfl, q1, q2, p8, p9, p1, q3, p3, p4⟩
end Go.Proofs.Ytlhlljjchggnjaa
