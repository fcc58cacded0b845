/- Plain laws: readings of bytes that undo writings ('Codec'), their chains and lists; entries and records as bytes. No program is named here. -/
import Derived.Test.YtlhlljjchggnjaaBase
import Derived.Test.YtlhlljjchggnjaaMath2
namespace Go.Proofs.Ytlhlljjchggnjaa
open Go.RowKit

/-! ### 1. A reading and its writing -/
structure Codec {α : Type} (rd : Rdr → α × Rdr) (en : α → List UInt8) (ok : α → Prop) : Prop where
  fwd : ∀ x rest bad, ok x → rd (en x ++ rest, bad) = (x, (rest, bad))
  inv : ∀ bs bad x rest, rd (bs, bad) = (x, (rest, false)) → bad = false ∧ bs = en x ++ rest ∧ ok x

theorem rdU_inv : ∀ (bs : List UInt8) (j acc v : Nat) (r : List UInt8), rdU j acc bs = some (v, r) →
    ∃ u, j ≤ 9 ∧ bs = enc7 (9 - j) u ++ r ∧ v = acc + u * 128 ^ j ∧ (0 < j → 0 < u) ∧ u * 128 ^ j < 18446744073709551616 ∧ u < 128 ^ (9 - j + 1)
  | [], _, _, _, _, h => by cases h
  | x :: t, j, acc, v, r, h => by
    rw [rdU_step] at h
    have hx := x.toNat_lt
    split at h
    · cases h
    · rename_i h9
      have hj : j ≤ 9 := by omega
      split at h
      · rename_i h128
        split at h
        · cases h
        · rename_i h0
          injection h with h
          obtain ⟨rfl, rfl⟩ := Prod.mk.inj h
          refine ⟨x.toNat, hj, ?_, rfl, by omega, ?_, ?_⟩
          · rw [enc7_small _ _ h128]
            simp
          · by_cases e : j = 9
            · subst e
              omega
            · have := pow128_le (show j ≤ 8 + 1 by omega)
              have h2 := Nat.pow_le_pow_right (n := 128) (by omega) (show j ≤ 8 by omega)
              have := Nat.mul_le_mul (show x.toNat ≤ 127 by omega) h2
              omega
          · have := Nat.pow_le_pow_right (n := 128) (by omega) (show 1 ≤ 9 - j + 1 by omega)
            omega
      · rename_i h128
        obtain ⟨u, h1, h2, h3, h4, h5, h6⟩ := rdU_inv t _ _ _ _ h
        obtain ⟨k, hk⟩ : ∃ k, 9 - j = k + 1 := ⟨8 - j, by omega⟩
        have hk2 : 9 - (j + 1) = k := by omega
        rw [hk2] at h2 h6
        have h4' := h4 (by omega)
        refine ⟨x.toNat % 128 + 128 * u, hj, ?_, ?_, fun _ => by omega, ?_, ?_⟩
        · rw [hk, enc7_big _ _ (by omega), h2, show (x.toNat % 128 + 128 * u) / 128 = u by omega, show (x.toNat % 128 + 128 * u) % 128 + 128 = x.toNat by omega]
          simp
        · rw [h3, Nat.pow_succ, Nat.add_mul]
          rw [Nat.mul_comm (128 ^ j) 128, ← Nat.mul_assoc, Nat.mul_comm u 128, Nat.add_assoc]
        · have e : (x.toNat % 128 + 128 * u) * 128 ^ j = x.toNat % 128 * 128 ^ j + u * 128 ^ (j + 1) := by
            rw [Nat.add_mul, Nat.pow_succ, Nat.mul_comm (128 ^ j) 128, ← Nat.mul_assoc, Nat.mul_comm u 128]
          rw [e]
          -- u * 128^(j+1) < 2^64, which 128^(j+1) divides; the low part is below 128^(j+1)
          have hj8 : j ≤ 8 := by omega
          · have hp : 128 ^ (j + 1) * (2 ^ (64 - 7 * (j + 1))) = 18446744073709551616 := by
              rw [← pow128, ← Nat.pow_add, show 7 * (j + 1) + (64 - 7 * (j + 1)) = 64 by omega]
            have hlow : x.toNat % 128 * 128 ^ j < 128 ^ (j + 1) := by
              rw [Nat.pow_succ, Nat.mul_comm (128 ^ j) 128]
              exact Nat.mul_lt_mul_of_pos_right (by omega) (Nat.pow_pos (by omega))
            have hu : u < 2 ^ (64 - 7 * (j + 1)) := by
              refine Nat.lt_of_mul_lt_mul_left (a := 128 ^ (j + 1)) ?_
              rw [hp, Nat.mul_comm]
              exact h5
            have hu2 : (u + 1) * 128 ^ (j + 1) ≤ 2 ^ (64 - 7 * (j + 1)) * 128 ^ (j + 1) := Nat.mul_le_mul_right _ hu
            rw [Nat.mul_comm (2 ^ _) _, hp, Nat.add_mul] at hu2
            omega
        · rw [hk, Nat.pow_succ]
          omega
theorem zz_unzz (u : Nat) : zz (unzz u) = u := by
  unfold unzz zz
  split <;> split <;> omega
theorem num_codec : Codec rNum numB i64p where
  fwd := fun x rest bad h => rNum_numB x h.1 h.2 rest bad
  inv := by
    intro bs bad x rest h
    unfold rNum at h
    cases hr : rdU 0 0 bs with
    | none => simp [hr, rFail] at h
    | some q =>
      obtain ⟨u, r⟩ := q
      simp only [hr] at h
      obtain ⟨rfl, h'⟩ := Prod.mk.inj h
      obtain ⟨rfl, rfl⟩ := Prod.mk.inj h'
      obtain ⟨u', _, h2, h3, _, h5, _⟩ := rdU_inv _ _ _ _ _ hr
      simp at h3
      subst h3
      refine ⟨rfl, ?_, ?_⟩
      · rw [numB, zz_unzz]
        exact h2
      · have := unzz_bits u (by omega)
        exact this
theorem count_codec (m : Int) (hm : m ≤ 9223372036854775807) : Codec (rCount m) numB (fun x => 0 ≤ x ∧ x ≤ m) where
  fwd := fun x rest bad h => by
    unfold rCount
    rw [rNum_numB x (by omega) (by omega)]
    simp only
    rw [if_neg (by omega)]
  inv := by
    intro bs bad x rest h
    unfold rCount at h
    split at h
    · simp [rFail] at h
    · rename_i hn
      have := num_codec.inv _ _ _ _ h
      rw [h] at hn
      simp only at hn
      exact ⟨this.1, this.2.1, by omega⟩
theorem text_codec : Codec rText textB (fun s => s.length ≤ 9223372036854775807) where
  fwd := fun s rest bad hs => by
    have h := rNum_numB (s.length : Int) (by omega) (by omega) (s ++ rest) bad
    have hc : rCount ((textB s ++ rest).length : Int) (textB s ++ rest, bad) = ((s.length : Int), (s ++ rest, bad)) := by
      unfold rCount textB
      rw [List.append_assoc, h]
      simp only
      rw [if_neg]
      simp only [List.length_append]
      omega
    unfold rText
    simp only [hc]
    rw [if_neg (by simp only [List.length_append]; omega)]
    simp
  inv := by
    intro bs bad x rest h
    unfold rText at h
    simp only at h
    split at h
    · simp [rFail] at h
    · rename_i hn
      generalize hq : rCount (bs.length : Int) (bs, bad) = q at *
      obtain ⟨v, s1, b1⟩ := q
      simp only at h hn
      obtain ⟨rfl, h'⟩ := Prod.mk.inj h
      obtain ⟨rfl, rfl⟩ := Prod.mk.inj h'
      have hq2 := hq
      unfold rCount at hq
      split at hq
      · simp [rFail] at hq
      · rename_i hv
        have hi := num_codec.inv _ _ _ _ hq
        rw [hq] at hv
        simp only at hv
        have h1 := hi.2.2
        unfold i64p at h1
        have hl : (s1.take v.toNat).length = v.toNat := by rw [List.length_take]; omega
        refine ⟨hi.1, ?_, by omega⟩
        rw [textB, hl, List.append_assoc, List.take_append_drop, show ((v.toNat : Nat) : Int) = v by omega]
        exact hi.2.1

section
variable {α β : Type} {ra : Rdr → α × Rdr} {rb : Rdr → β × Rdr} {ea : α → List UInt8} {eb : β → List UInt8} {oa : α → Prop} {ob : β → Prop}
/-- One behind the other. -/
def rSeq (ra : Rdr → α × Rdr) (rb : Rdr → β × Rdr) (s : Rdr) : (α × β) × Rdr := (((ra s).1, (rb (ra s).2).1), (rb (ra s).2).2)
theorem Codec.seq (ha : Codec ra ea oa) (hb : Codec rb eb ob) : Codec (rSeq ra rb) (fun x => ea x.1 ++ eb x.2) (fun x => oa x.1 ∧ ob x.2) where
  fwd := fun x rest bad h => by
    unfold rSeq
    rw [List.append_assoc, ha.fwd _ _ _ h.1]
    simp only
    rw [hb.fwd _ _ _ h.2]
  inv := by
    intro bs bad x rest h
    unfold rSeq at h
    obtain ⟨rfl, h'⟩ := Prod.mk.inj h
    replace h := h'
    clear h'
    generalize hq : ra (bs, bad) = q at *
    obtain ⟨a, s1, b1⟩ := q
    simp only at h ⊢
    generalize hp : rb (s1, b1) = p at *
    obtain ⟨b, s2⟩ := p
    simp only at h ⊢
    subst h
    obtain ⟨rfl, rfl, h3⟩ := hb.inv _ _ _ _ hp
    obtain ⟨rfl, rfl, h6⟩ := ha.inv _ _ _ _ hq
    exact ⟨rfl, by simp, h6, h3⟩
/-- The same under other names. -/
theorem Codec.iso (ha : Codec ra ea oa) (f : α → β) (g : β → α) (hfg : ∀ x, g (f x) = x) (hgf : ∀ y, f (g y) = y) : Codec (fun s => (f (ra s).1, (ra s).2)) (fun y => ea (g y)) (fun y => oa (g y)) where
  fwd := fun y rest bad h => by
    simp only [ha.fwd _ _ _ h, hgf]
  inv := by
    intro bs bad x rest h
    obtain ⟨rfl, h'⟩ := Prod.mk.inj h
    have := ha.inv bs bad (ra (bs, bad)).1 rest (Prod.ext rfl h')
    simpa [hfg] using this
/-- So many of them. -/
def rMany (ra : Rdr → α × Rdr) : Nat → Rdr → List α × Rdr
  | 0, s => ([], s)
  | n + 1, s => ((ra s).1 :: (rMany ra n (ra s).2).1, (rMany ra n (ra s).2).2)
theorem rMany_len (ra : Rdr → α × Rdr) : ∀ n s, (rMany ra n s).1.length = n
  | 0, _ => rfl
  | n + 1, s => by simp [rMany, rMany_len ra n]
theorem rMany_snoc (ra : Rdr → α × Rdr) : ∀ n s, rMany ra (n + 1) s = ((rMany ra n s).1 ++ [(ra (rMany ra n s).2).1], (ra (rMany ra n s).2).2)
  | 0, s => rfl
  | n + 1, s => by
    have := rMany_snoc ra n (ra s).2
    rw [rMany, this]
    simp [rMany]
theorem rMany_fwd (ha : Codec ra ea oa) : ∀ (l : List α) (rest : List UInt8) (bad : Bool), (∀ x ∈ l, oa x) → rMany ra l.length (l.flatMap ea ++ rest, bad) = (l, (rest, bad))
  | [], _, _, _ => rfl
  | x :: r, rest, bad, h => by
    have e : (x :: r).flatMap ea ++ rest = ea x ++ (r.flatMap ea ++ rest) := by simp
    rw [List.length_cons, rMany, e, ha.fwd _ _ _ (h x List.mem_cons_self)]
    simp only
    rw [rMany_fwd ha r rest bad (fun y hy => h y (List.mem_cons_of_mem _ hy))]
theorem rMany_inv (ha : Codec ra ea oa) : ∀ (n : Nat) (bs : List UInt8) (bad : Bool) (l : List α) (rest : List UInt8), rMany ra n (bs, bad) = (l, (rest, false)) → bad = false ∧ bs = l.flatMap ea ++ rest ∧ ∀ x ∈ l, oa x
  | 0, bs, bad, l, rest, h => by
    obtain ⟨rfl, h'⟩ := Prod.mk.inj h
    obtain ⟨rfl, rfl⟩ := Prod.mk.inj h'
    exact ⟨rfl, by simp, by simp⟩
  | n + 1, bs, bad, l, rest, h => by
    rw [rMany] at h
    obtain ⟨rfl, h'⟩ := Prod.mk.inj h
    replace h := h'
    clear h'
    generalize hq : ra (bs, bad) = q at *
    obtain ⟨a, s1, b1⟩ := q
    simp only at h ⊢
    generalize hm : rMany ra n (s1, b1) = m at *
    obtain ⟨l, s2⟩ := m
    simp only at h ⊢
    subst h
    obtain ⟨rfl, rfl, h3⟩ := rMany_inv ha n s1 b1 l rest hm
    obtain ⟨rfl, rfl, h6⟩ := ha.inv _ _ _ _ hq
    refine ⟨rfl, by simp, fun x hx => ?_⟩
    rcases List.mem_cons.1 hx with rfl | hx
    · exact h6
    · exact h3 x hx
/-- How many, and they. -/
def rList (m : Int) (ra : Rdr → α × Rdr) (s : Rdr) : List α × Rdr := rMany ra (rCount m s).1.toNat (rCount m s).2
def listB (ea : α → List UInt8) (l : List α) : List UInt8 := numB l.length ++ l.flatMap ea
theorem Codec.list (ha : Codec ra ea oa) (m : Nat) (hm : m ≤ 9223372036854775807) : Codec (rList m ra) (listB ea) (fun l => l.length ≤ m ∧ ∀ x ∈ l, oa x) where
  fwd := fun l rest bad h => by
    unfold rList listB
    rw [List.append_assoc, (count_codec m (by omega)).fwd _ _ _ (by omega)]
    simp only [Int.toNat_natCast]
    exact rMany_fwd ha l rest bad h.2
  inv := by
    intro bs bad l rest h
    unfold rList at h
    have hl := rMany_len ra (rCount m (bs, bad)).1.toNat (rCount m (bs, bad)).2
    rw [h] at hl
    simp only at hl
    generalize hq : rCount m (bs, bad) = q at *
    obtain ⟨v, s1, b1⟩ := q
    simp only at h hl
    obtain ⟨rfl, h2, h3⟩ := rMany_inv ha _ _ _ _ _ h
    obtain ⟨rfl, h5, h6⟩ := (count_codec m (by omega)).inv _ _ _ _ hq
    refine ⟨rfl, ?_, by omega, h3⟩
    rw [listB, List.append_assoc, ← h2, hl, show ((v.toNat : Nat) : Int) = v by omega]
    exact h5
end
/-- Unlike values have unlike bytes, and none the beginning of another's. -/
theorem Codec.inj {α : Type} {ra : Rdr → α × Rdr} {ea : α → List UInt8} {oa : α → Prop} (h : Codec ra ea oa) {x y : α} (hx : oa x) (hy : oa y) {r s : List UInt8} (e : ea x ++ r = ea y ++ s) : x = y ∧ r = s := by
  have h1 := h.fwd x r false hx
  rw [e, h.fwd y s false hy] at h1
  obtain ⟨rfl, h2⟩ := Prod.mk.inj h1
  exact ⟨rfl, (Prod.mk.inj h2).1.symm⟩
theorem Codec.inj0 {α : Type} {ra : Rdr → α × Rdr} {ea : α → List UInt8} {oa : α → Prop} (h : Codec ra ea oa) {x y : α} (hx : oa x) (hy : oa y) (e : ea x = ea y) : x = y :=
  (h.inj hx hy (r := []) (s := []) (by rw [e])).1

/-- The same, spelled otherwise. -/
theorem Codec.as {α : Type} {rd rd' : Rdr → α × Rdr} {en en' : α → List UInt8} {ok ok' : α → Prop} (h : Codec rd en ok) (hr : ∀ s, rd' s = rd s) (he : ∀ x, en' x = en x) (ho : ∀ x, ok' x ↔ ok x) : Codec rd' en' ok' := by
  obtain rfl : rd' = rd := funext hr
  obtain rfl : en' = en := funext he
  obtain rfl : ok' = ok := funext fun x => propext (ho x)
  exact h

/-! ### 2. Entries and records -/
structure Ent where
  seq : Int
  client : Int
  num : Int
  op : Int
  key : List UInt8
  size : Int
  sum : Int
  frag : List UInt8
structure Cnf where
  epoch : Int
  members : List Int
structure Rc where
  kind : Int
  conf : Cnf
  pos : Int
  last : Int
  entries : List Ent
def Ent.zero : Ent := ⟨0, 0, 0, 0, [], 0, 0, []⟩
def Cnf.zero : Cnf := ⟨0, []⟩
def Rc.zero : Rc := ⟨0, Cnf.zero, 0, 0, []⟩
/-- What every value of the type is. -/
def lenOk (s : List UInt8) : Prop := s.length ≤ 9223372036854775807
def Ent.Wf (e : Ent) : Prop := i64p e.seq ∧ i64p e.client ∧ i64p e.num ∧ i64p e.op ∧ i64p e.size ∧ (0 ≤ e.sum ∧ e.sum ≤ 4294967295) ∧ lenOk e.key ∧ lenOk e.frag
def entB (e : Ent) : List UInt8 := numB e.seq ++ (numB e.client ++ (numB e.num ++ (numB e.op ++ (numB e.size ++ (numB e.sum ++ (textB e.key ++ textB e.frag))))))
def rEnt (s : Rdr) : Ent × Rdr :=
  let a := rNum s
  let b := rNum a.2
  let c := rNum b.2
  let d := rNum c.2
  let z := rNum d.2
  let u := rCount 4294967295 z.2
  let k := rText u.2
  let g := rText k.2
  (⟨a.1, b.1, c.1, d.1, k.1, z.1, u.1, g.1⟩, g.2)
theorem ent_codec : Codec rEnt entB Ent.Wf :=
  Codec.as (Codec.iso (num_codec.seq (num_codec.seq (num_codec.seq (num_codec.seq (num_codec.seq ((count_codec 4294967295 (by omega)).seq (text_codec.seq text_codec)))))))
    (fun p => (⟨p.1, p.2.1, p.2.2.1, p.2.2.2.1, p.2.2.2.2.2.2.1, p.2.2.2.2.1, p.2.2.2.2.2.1, p.2.2.2.2.2.2.2⟩ : Ent)) (fun e => (e.seq, e.client, e.num, e.op, e.size, e.sum, e.key, e.frag)) (fun _ => rfl) (fun _ => rfl))
    (fun s => by simp only [rEnt, rSeq]) (fun x => by simp only [entB]) (fun x => by simp only [Ent.Wf, lenOk])
def Cnf.Wf (c : Cnf) : Prop := i64p c.epoch ∧ ∀ x ∈ c.members, i64p x
def recB (r : Rc) : List UInt8 := numB r.kind ++ (numB r.conf.epoch ++ (numB r.pos ++ (numB r.last ++ (listB numB r.conf.members ++ listB entB r.entries))))
/-- A record is read: so many members, so many entries at most. -/
def rRecN (m n : Int) (s : Rdr) : Rc × Rdr :=
  let a := rNum s
  let b := rNum a.2
  let c := rNum b.2
  let d := rNum c.2
  let m := rList m rNum d.2
  let g := rList n rEnt m.2
  (⟨a.1, ⟨b.1, m.1⟩, c.1, d.1, g.1⟩, g.2)
abbrev rRec : Rdr → Rc × Rdr := rRecN 16 4096
def Rc.WfN (m n : Nat) (r : Rc) : Prop := i64p r.kind ∧ i64p r.conf.epoch ∧ i64p r.pos ∧ i64p r.last ∧ (r.conf.members.length ≤ m ∧ ∀ x ∈ r.conf.members, i64p x) ∧ (r.entries.length ≤ n ∧ ∀ e ∈ r.entries, e.Wf)
theorem rec_codec_ (m n : Nat) (hm : m ≤ 9223372036854775807) (hn : n ≤ 9223372036854775807) : Codec (rRecN m n) recB (Rc.WfN m n) :=
  Codec.as (Codec.iso (num_codec.seq (num_codec.seq (num_codec.seq (num_codec.seq ((num_codec.list m hm).seq (ent_codec.list n hn))))))
    (fun p => (⟨p.1, ⟨p.2.1, p.2.2.2.2.1⟩, p.2.2.1, p.2.2.2.1, p.2.2.2.2.2⟩ : Rc)) (fun r => (r.kind, r.conf.epoch, r.pos, r.last, r.conf.members, r.entries)) (fun _ => rfl) (fun _ => rfl))
    (fun s => by simp only [rRecN, rSeq]) (fun x => by simp only [recB]) (fun x => by simp only [Rc.WfN])
theorem rec_codec : Codec rRec recB (Rc.WfN 16 4096) := rec_codec_ 16 4096 (by omega) (by omega)
def Rc.Wf : Rc → Prop := Rc.WfN 9223372036854775807 9223372036854775807
/-- Whatever their lengths: like bytes, like records. -/
theorem recB_inj {a b : Rc} (ha : a.Wf) (hb : b.Wf) (e : recB a = recB b) : a = b := (rec_codec_ 9223372036854775807 9223372036854775807 (by omega) (by omega)).inj0 ha hb e

def inB (n lo hi : Int) : Bool := decide (lo ≤ n) && decide (n ≤ hi)
def entOk (e : Ent) : Bool := inB e.seq 0 1099511627776 && inB e.client 0 3 && inB e.num 0 1099511627776 && inB e.op 0 5 && decide (e.key.length ≤ 16) && inB e.size 0 256 && decide (e.frag.length ≤ 256)
def cnfOk (c : Cnf) : Bool := inB c.epoch 0 1099511627776 && decide (c.members.length ≤ 16) && c.members.all (inB · 0 15)
def recOk (r : Rc) : Bool := inB r.kind 1 4 && cnfOk r.conf && inB r.pos 0 15 && inB r.last 0 1099511627776 && decide (r.entries.length ≤ 4096) && r.entries.all entOk
theorem inB_iff {n lo hi : Int} : inB n lo hi = true ↔ lo ≤ n ∧ n ≤ hi := by simp [inB]
/-- The record of bytes. -/
def recDec (bs : List UInt8) : Rc × Int := if rEnd (rRec (bs, false)).2 && recOk (rRec (bs, false)).1 then ((rRec (bs, false)).1, 0) else (Rc.zero, 2)
def recEnc (r : Rc) : List UInt8 × Int := if recOk r then (recB r, 0) else ([], 2)
/-- A sound record can be written, and is read again. -/
theorem recOk_bounds {r : Rc} (h : recOk r = true) (hs : ∀ e ∈ r.entries, 0 ≤ e.sum ∧ e.sum ≤ 4294967295) : r.WfN 16 4096 := by
  simp only [recOk, cnfOk, Bool.and_eq_true, inB_iff, decide_eq_true_eq, List.all_eq_true] at h
  obtain ⟨⟨⟨⟨⟨h1, ⟨h2, h3⟩, h4⟩, h5⟩, h6⟩, h7⟩, h8⟩ := h
  refine ⟨?_, ?_, ?_, ?_, ⟨h3, fun x hx => ?_⟩, h7, fun e he => ?_⟩
  · unfold i64p; omega
  · unfold i64p; omega
  · unfold i64p; omega
  · unfold i64p; omega
  · have := h4 x hx
    unfold i64p; omega
  · have h9 := h8 e he
    simp only [entOk, Bool.and_eq_true, inB_iff, decide_eq_true_eq] at h9
    obtain ⟨⟨⟨⟨⟨⟨k1, k2⟩, k3⟩, k4⟩, k5⟩, k6⟩, k7⟩ := h9
    have := hs e he
    refine ⟨?_, ?_, ?_, ?_, ?_, this, ?_, ?_⟩
    · unfold i64p; omega
    · unfold i64p; omega
    · unfold i64p; omega
    · unfold i64p; omega
    · unfold i64p; omega
    · unfold lenOk; omega
    · unfold lenOk; omega
theorem recDec_recB {r : Rc} (h : recOk r = true) (hs : ∀ e ∈ r.entries, 0 ≤ e.sum ∧ e.sum ≤ 4294967295) : recDec (recB r) = (r, 0) := by
  have := rec_codec.fwd r [] false (recOk_bounds h hs)
  rw [List.append_nil] at this
  unfold recDec
  rw [this]
  simp [rEnd, h]
theorem recDec_inv {bs : List UInt8} {r : Rc} (h : recDec bs = (r, 0)) : recOk r = true ∧ recB r = bs ∧ ∀ e ∈ r.entries, 0 ≤ e.sum ∧ e.sum ≤ 4294967295 := by
  unfold recDec at h
  split at h
  · rename_i hc
    generalize hq : rRec (bs, false) = q at *
    obtain ⟨x, s1, b1⟩ := q
    simp only [rEnd, Bool.and_eq_true, Bool.not_eq_true', List.isEmpty_iff] at hc h
    obtain ⟨⟨rfl, rfl⟩, h2⟩ := hc
    obtain ⟨rfl, _⟩ := Prod.mk.inj h
    have := rec_codec.inv _ _ _ _ hq
    refine ⟨h2, by rw [this.2.1, List.append_nil], fun e he => (this.2.2.2.2.2.2.2.2 e he).2.2.2.2.2.1⟩
  · simp at h
theorem recDec_or (bs : List UInt8) : (∃ r, recDec bs = (r, 0) ∧ recOk r = true ∧ recB r = bs) ∨ recDec bs = (Rc.zero, 2) := by
  by_cases h : recDec bs = (Rc.zero, 2)
  · exact .inr h
  · refine .inl ⟨(recDec bs).1, ?_, ?_⟩
    · unfold recDec at h ⊢
      split
      · rfl
      · rename_i hn
        exact absurd (by rw [if_neg hn]) h
    · have h1 : recDec bs = ((recDec bs).1, 0) := by
        unfold recDec at h ⊢
        split
        · rfl
        · rename_i hn
          exact absurd (by rw [if_neg hn]) h
      have := recDec_inv h1
      exact ⟨this.1, this.2.1⟩
theorem recDec_more {r : Rc} (h : recOk r = true) (hs : ∀ e ∈ r.entries, 0 ≤ e.sum ∧ e.sum ≤ 4294967295) (x : UInt8) : recDec (recB r ++ [x]) = (Rc.zero, 2) := by
  have := rec_codec.fwd r [x] false (recOk_bounds h hs)
  unfold recDec
  rw [this]
  simp [rEnd]
theorem recDec_less {r : Rc} (h : recOk r = true) (hs : ∀ e ∈ r.entries, 0 ≤ e.sum ∧ e.sum ≤ 4294967295) : recDec (recB r).dropLast = (Rc.zero, 2) := by
  rcases recDec_or (recB r).dropLast with ⟨r', h1, h2, h3⟩ | h1
  · have h4 := recDec_inv h1
    have hne : recB r ≠ [] := by
      have h5 : 0 < (recB r).length := by
        rw [recB, List.length_append]
        have : 0 < (numB r.kind).length := enc7_pos _ _
        omega
      intro e
      rw [e] at h5
      exact absurd h5 (by simp)
    have e : recB r' ++ [(recB r).getLast hne] = recB r := by rw [h3, List.dropLast_concat_getLast]
    have h6 := recDec_more h4.1 h4.2.2 ((recB r).getLast hne)
    rw [e, recDec_recB h hs] at h6
    exact absurd (Prod.mk.inj h6).2 (by decide)
  · exact h1
end Go.Proofs.Ytlhlljjchggnjaa
