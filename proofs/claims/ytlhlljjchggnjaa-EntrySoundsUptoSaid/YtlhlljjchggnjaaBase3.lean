/- A region that draws its order and holds a call that writes what its loads read: until that call comes up a condition on the world is kept, behind it another one. -/
import Derived.Test.YtlhlljjchggnjaaBase2
namespace Go
section
variable {P : Program} {ops : Array Oper} {Q : Exit → Act → World → Prop} {md : Region.Mode} {S : World → Prop} {t : Nat}

/-- What has come up has come up behind all that it waits for. -/
def Region.closed (md : Region.Mode) (ops : Array Oper) (listed : Array Bool) : Bool :=
  (List.range listed.size).all fun j => !(listed.getD j true) || (match ops[j]? with
    | some o => o.after.all (fun e => !(Region.binds md e) || listed.getD e.on true)
    | none => true)
theorem getD_ft {listed : Array Bool} {k : Nat} (h : listed.getD k false = true) : listed.getD k true = true := by
  rcases Nat.lt_or_ge k listed.size with h' | h'
  · simp [h'] at h ⊢; exact h
  · simp [h'] at h
/-- t waits for i, over so many steps. -/
def Region.waits (md : Region.Mode) (ops : Array Oper) : Nat → Nat → Nat → Bool
  | 0, _, _ => false
  | n + 1, t, i => match ops[t]? with
    | some o => o.after.any (fun e => Region.binds md e && (e.on == i || Region.waits md ops n e.on i))
    | none => false
theorem Region.closed_spec {listed : Array Bool} (h : Region.closed md ops listed = true) {j : Nat} {o : Oper} (hj : ops[j]? = some o) (hl : listed.getD j true = true) (hlt : j < listed.size) :
    ∀ e ∈ o.after, Region.binds md e = true → listed.getD e.on true = true := by
  intro e he hb
  have h1 := List.all_eq_true.1 h j (List.mem_range.2 hlt)
  simp only [hl, hj, Bool.not_true, Bool.false_or] at h1
  have h2 := Array.all_eq_true_iff_forall_mem.1 h1 e he
  simpa [hb] using h2
theorem Region.closed_set {listed : Array Bool} (h : Region.closed md ops listed = true) {j : Nat} (hj : j ∈ Region.ready md ops listed) : Region.closed md ops (listed.setIfInBounds j true) = true := by
  obtain ⟨hun, oj, hoj, hall⟩ := mem_ready.1 hj
  have up : ∀ k, listed.getD k true = true → (listed.setIfInBounds j true).getD k true = true := by
    intro k hk
    by_cases e : j = k
    · subst e
      rcases Nat.lt_or_ge j listed.size with h' | h'
      · simp [h']
      · simp [h']
    · rw [getD_set_ne true e]; exact hk
  unfold Region.closed
  rw [List.all_eq_true]
  intro k hk
  have hk' := List.mem_range.1 hk
  rw [Array.size_setIfInBounds] at hk'
  cases ho : ops[k]? with
  | none => simp
  | some o =>
    simp only [Bool.or_eq_true, Bool.not_eq_true']
    by_cases hl : (listed.setIfInBounds j true).getD k true = true
    · refine .inr (Array.all_eq_true_iff_forall_mem.2 fun e he => ?_)
      by_cases hb : Region.binds md e = true
      · simp only [hb, Bool.not_true, Bool.false_or]
        by_cases e' : j = k
        · subst e'
          rw [hoj] at ho
          injection ho with ho
          subst ho
          have h3 := hall e he hb
          exact up _ (getD_ft h3)
        · rw [getD_set_ne true e'] at hl
          exact up _ (Region.closed_spec h ho hl hk' e he hb)
      · simp [hb]
    · exact .inl (by simpa using hl)
theorem Region.waits_spec {listed : Array Bool} (hc : Region.closed md ops listed = true) (hsz : listed.size = ops.size) {i : Nat} : ∀ (n t : Nat), Region.waits md ops n t i = true → (∀ o, ops[t]? = some o → ∀ e ∈ o.after, Region.binds md e = true → listed.getD e.on true = true) → t < ops.size → listed.getD i true = true
  | 0, _, h, _, _ => by simp [Region.waits] at h
  | n + 1, t, h, hp, hlt => by
    have ht : ops[t]? = some ops[t] := Array.getElem?_eq_getElem hlt
    simp only [Region.waits, ht] at h
    obtain ⟨e, he, h1⟩ := Array.any_eq_true'.1 h
    simp only [Bool.and_eq_true, Bool.or_eq_true, beq_iff_eq] at h1
    obtain ⟨hb, h2⟩ := h1
    have h3 := hp _ ht e he hb
    rcases h2 with rfl | h2
    · exact h3
    · by_cases hlt2 : e.on < ops.size
      · exact Region.waits_spec hc hsz n e.on h2 (fun o ho => Region.closed_spec hc ho h3 (by omega)) hlt2
      · cases n with
        | zero => simp [Region.waits] at h2
        | succ n => simp [Region.waits, Array.getElem?_eq_none (show ops.size ≤ e.on by omega)] at h2

/-- Whatever order is picked, S holds behind every operation ahead of t; behind t nothing is asked. -/
def wpAnyT (P : Program) (md : Region.Mode) (ops : Array Oper) (Q : Exit → Act → World → Prop) (S : World → Prop) (t : Nat) : Nat → Array Bool → Act → World → Prop
  | 0, listed, a, w => Region.ready md ops listed = [] ∧ Q .normal a w
  | fuel + 1, listed, a, w =>
    (Region.ready md ops listed = [] → Q .normal a w) ∧
    ∀ i ∈ Region.ready md ops listed, wpOp P ops Q i (fun a' w' => if i = t then wpAny P md ops Q fuel (listed.setIfInBounds i true) a' w' else S w' ∧ wpAnyT P md ops Q S t fuel (listed.setIfInBounds i true) a' w') a w
theorem wpAny_of_T : ∀ (fuel : Nat) (listed : Array Bool) (a : Act) (w : World), wpAnyT P md ops Q S t fuel listed a w → wpAny P md ops Q fuel listed a w
  | 0, _, _, _, h => h
  | fuel + 1, _, _, _, h => ⟨h.1, fun i hi => wpOp_mono (fun a' w' h' => by
      split at h'
      · exact h'
      · exact wpAny_of_T fuel _ a' w' h'.2) (h.2 i hi)⟩
theorem wpAnyT_first {i : Nat} {oi : Oper} {v : Value} (hi : ops[i]? = some oi) (hsel : ∀ (j : Nat) (o : Oper) cs b, ops[j]? = some o → o.op ≠ .select cs b) (ht : t < ops.size) (hti : t ≠ i) (hw : ∃ n, Region.waits md ops n t i = true)
    (hQ : ∀ c a w, Q (.panic c) (a.put oi.dst v) w → Q (.panic c) a w) :
    ∀ (fuel : Nat) (listed : Array Bool) (a : Act) (w : World), listed.size = ops.size → Region.closed md ops listed = true →
      (∀ j oj, ops[j]? = some oj → j ≠ i → listed.getD j true = false → (∀ e ∈ oj.after, Region.binds md e = true → e.on ≠ i) → oi.apart ops oj = true) →
      i ∈ Region.ready md ops listed → YieldsIf P ops S oi v a → S w →
      wpAnyT P md ops Q S t fuel (listed.setIfInBounds i true) (a.put oi.dst v) w → wpAnyT P md ops Q S t (fuel + 1) listed a w := by
  obtain ⟨nw, hw⟩ := hw
  -- t cannot come up while i has not
  have noT : ∀ (listed : Array Bool), listed.size = ops.size → Region.closed md ops listed = true → i ∈ Region.ready md ops listed → t ∈ Region.ready md ops listed → False := by
    intro listed hsz hc hr htr
    obtain ⟨hun, ot, hot, hall⟩ := mem_ready.1 htr
    have h1 := Region.waits_spec hc hsz nw t hw (fun o ho e he hb => by
      rw [hot] at ho
      injection ho with ho
      subst ho
      exact getD_ft (hall e he hb)) ht
    have h2 := (mem_ready.1 hr).1
    rw [h1] at h2
    cases h2
  intro fuel
  induction fuel with
  | zero =>
    intro listed a w hsz hc _ hr hy hS H
    refine ⟨fun h => (by rw [h] at hr; cases hr), fun j hj => ?_⟩
    by_cases hji : j = i
    · subst hji; exact hy.wpOp hi hS (by rw [if_neg (Ne.symm hti)]; exact ⟨hS, H⟩)
    · have := ready_mono hj hji
      rw [H.1] at this
      cases this
  | succ fuel ih =>
    intro listed a w hsz hc hfree hr hy hS H
    refine ⟨fun h => (by rw [h] at hr; cases hr), fun j hj => ?_⟩
    by_cases hji : j = i
    · subst hji; exact hy.wpOp hi hS (by rw [if_neg (Ne.symm hti)]; exact ⟨hS, H⟩)
    · have hjt : j ≠ t := fun e => noT listed hsz hc hr (e ▸ hj)
      have h1 := H.2 j (ready_mono hj hji)
      obtain ⟨hjun, oj, hoj, hall⟩ := mem_ready.1 hj
      have hnot : ∀ e ∈ oj.after, Region.binds md e = true → e.on ≠ i := fun e he hb heq => by
        have h1 := hall e he hb
        have h0 := (mem_ready.1 hr).1
        rw [heq] at h1
        rcases Nat.lt_or_ge i listed.size with h' | h'
        · simp [h'] at h0 h1; rw [h0] at h1; cases h1
        · simp [Array.getElem?_eq_none h'] at h1
      have h2 := wpOp_putIf hoj (hfree j oj hoj hji hjun hnot) (fun cs b => hsel i oi cs b hi) (fun cs b => hsel j oj cs b hoj) hQ hy h1
      have hfree' : ∀ k ok, ops[k]? = some ok → k ≠ i → (listed.setIfInBounds j true).getD k true = false →
          (∀ e ∈ ok.after, Region.binds md e = true → e.on ≠ i) → oi.apart ops ok = true := fun k ok hk hki hun hno => by
        refine hfree k ok hk hki ?_ hno
        by_cases hjk : j = k
        · subst hjk; exact hjun
        · rw [getD_set_ne true hjk] at hun; exact hun
      refine wpOp_mono (fun a' w' h3 => ?_) h2
      rw [if_neg hjt] at h3 ⊢
      refine ⟨h3.2.1, ih (listed.setIfInBounds j true) a' w' (by rw [Array.size_setIfInBounds]; exact hsz) (Region.closed_set hc hj) hfree' (ready_mono hr (Ne.symm hji)) h3.1 h3.2.1 ?_⟩
      rw [Array.setIfInBounds_comm _ _ hji]
      exact h3.2.2

/-! ### The moves -/
theorem wpAnyT_take {i : Nat} {oi : Oper} {v : Value} {fuel : Nat} {listed : Array Bool} {a : Act} {w : World} (hi : ops[i]? = some oi)
    (hs : Region.noSelect ops = true) (hf : Region.free md ops listed i = true) (hr : (Region.ready md ops listed).contains i = true)
    (hx : (listed.size == ops.size && Region.closed md ops listed && Region.waits md ops ops.size t i && decide (t < ops.size) && decide (t ≠ i)) = true)
    (hQ : ∀ c a w, Q (.panic c) (a.put oi.dst v) w → Q (.panic c) a w) (hy : YieldsIf P ops S oi v a) (hS : S w)
    (h : wpAnyT P md ops Q S t fuel (listed.setIfInBounds i true) (a.put oi.dst v) w) : wpAnyT P md ops Q S t (fuel + 1) listed a w := by
  simp only [Bool.and_eq_true, beq_iff_eq, decide_eq_true_eq] at hx
  obtain ⟨⟨⟨⟨x1, x2⟩, x3⟩, x4⟩, x5⟩ := hx
  exact wpAnyT_first hi (Region.noSelect_spec hs) x4 x5 ⟨_, x3⟩ hQ fuel listed a w x1 x2 (Region.free_spec hi hf) (by simpa using hr) hy hS h
theorem wpAnyT_more {S' : World → Prop} (hs : ∀ W, S' W → S W) : ∀ (fuel : Nat) (listed : Array Bool) (a : Act) (w : World), wpAnyT P md ops Q S' t fuel listed a w → wpAnyT P md ops Q S t fuel listed a w
  | 0, _, _, _, h => h
  | fuel + 1, _, _, _, h => ⟨h.1, fun i hi => wpOp_mono (fun a' w' h' => by
      split at h'
      · rename_i e; rw [if_pos e]; exact h'
      · rename_i e; rw [if_neg e]; exact ⟨hs _ h'.1, wpAnyT_more hs fuel _ a' w' h'.2⟩) (h.2 i hi)⟩
/-- One operation alone may come up, not yet t. -/
theorem wpAnyT_one {i : Nat} {oi : Oper} {fuel : Nat} {listed : Array Bool} {a : Act} {w : World} (hi : ops[i]? = some oi) (hr : Region.ready md ops listed = [i]) (hg : Region.wanted oi (yielded ops a.tmps) = true) (hit : decide (i ≠ t) = true)
    (h : ∀ K : Act → World → Prop, (∀ a' w' (S' : World → Prop), S' w' → (∀ W, S' W → S W) → wpAnyT P md ops Q S' t fuel (listed.setIfInBounds i true) a' w' → K a' w') → oi.wp P a w K Q) :
    wpAnyT P md ops Q S t (fuel + 1) listed a w := by
  refine ⟨fun h0 => (by rw [hr] at h0; cases h0), fun j hj => ?_⟩
  rw [hr] at hj
  have : j = i := by simpa using hj
  subst this
  unfold wpOp
  simp only [hi, hg, if_true]
  refine .inl (h _ (fun a' w' S' h1 h2 h3 => ?_))
  rw [if_neg (of_decide_eq_true hit)]
  exact ⟨h2 _ h1, wpAnyT_more h2 fuel _ a' w' h3⟩
/-- It is t's turn. -/
theorem wpAnyT_turn {oi : Oper} {fuel : Nat} {listed : Array Bool} {a : Act} {w : World} (hi : ops[t]? = some oi) (hr : Region.ready md ops listed = [t]) (hg : Region.wanted oi (yielded ops a.tmps) = true)
    (h : ∀ K : Act → World → Prop, (∀ a' w', wpAny P md ops Q fuel (listed.setIfInBounds t true) a' w' → K a' w') → oi.wp P a w K Q) :
    wpAnyT P md ops Q S t (fuel + 1) listed a w := by
  refine ⟨fun h0 => (by rw [hr] at h0; cases h0), fun j hj => ?_⟩
  rw [hr] at hj
  have : j = t := by simpa using hj
  subst this
  unfold wpOp
  simp only [hi, hg, if_true]
  refine .inl (h _ (fun a' w' h3 => ?_))
  simpa using h3
theorem wp_region_T {id : Nat} {a : Act} {w : World} (hm : P.follows .mixedOrders = true)
    (h : wpAnyT P .any ops Q S t ops.size (Array.replicate ops.size false) a { w with drawn := w.drawn + 1 }) : (Code.region id ops true).wp P Q a w :=
  wp_region_any hm (wpAny_of_T _ _ _ _ h)
end
end Go
