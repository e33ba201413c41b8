/-
  A region that draws its order: an operation may be taken first where its value hangs on a condition on the world that holds as long as the operation may be to come: behind each operation that does not wait for it.
-/
import Derived.OrdersHeld
import Derived.Deep.RegionHeld
import Derived.Deep.RegionLaw
import Derived.KernelRfl
namespace Go.Proofs.YtnphlekailodkaaGreatDoor
section
variable {P : Program} {ops : Array Oper} {Q : Exit → Act → World → Prop} {md : Region.Mode} {R : Nat → World → Prop}

/-- Operation j waits for operation i. -/
def waits (md : Region.Mode) (ops : Array Oper) (j i : Nat) : Bool := ((ops[j]?).map fun o => o.after.toList.any fun e => Region.binds md e && e.on == i).getD false

/-- Of the operations that were taken first: those that may be to come behind operation j. -/
def still (md : Region.Mode) (ops : Array Oper) (j : Nat) (T : List Nat) : List Nat := T.filter fun i => !waits md ops j i

/-- The conditions of all operations that are to come, or may be. -/
def Pend (R : Nat → World → Prop) (listed : Array Bool) (T : List Nat) (w : World) : Prop := ∀ i, listed.getD i true = false ∨ i ∈ T → R i w

def wpAnyR (P : Program) (md : Region.Mode) (ops : Array Oper) (Q : Exit → Act → World → Prop) (R : Nat → World → Prop) : Nat → Array Bool → List Nat → Act → World → Prop
  | 0, listed, _, a, w => Region.ready md ops listed = [] ∧ Q .normal a w
  | fuel + 1, listed, T, a, w =>
    (Region.ready md ops listed = [] → Q .normal a w) ∧
    ∀ i ∈ Region.ready md ops listed, wpOp P ops Q i (fun a' w' => Pend R (listed.setIfInBounds i true) (still md ops i T) w' ∧ wpAnyR P md ops Q R fuel (listed.setIfInBounds i true) (still md ops i T) a' w') a w

theorem wpAny_of_R : ∀ (fuel : Nat) (listed : Array Bool) (T : List Nat) (a : Act) (w : World), wpAnyR P md ops Q R fuel listed T a w → wpAny P md ops Q fuel listed a w
  | 0, _, _, _, _, h => h
  | fuel + 1, _, _, _, _, h => ⟨h.1, fun i hi => wpOp_mono (fun a' w' h' => wpAny_of_R fuel _ _ a' w' h'.2) (h.2 i hi)⟩

theorem still_sub {j : Nat} {T T' : List Nat} (h : ∀ i ∈ T, i ∈ T') : ∀ i ∈ still md ops j T, i ∈ still md ops j T' := by
  intro i hi
  unfold still at *
  rw [List.mem_filter] at *
  exact ⟨h i hi.1, hi.2⟩
theorem Pend.sub {listed : Array Bool} {T T' : List Nat} {w : World} (h : Pend R listed T' w) (hT : ∀ i ∈ T, i ∈ T') : Pend R listed T w := fun i hi => h i (hi.imp id (hT i))
theorem wpAnyR_sub : ∀ (fuel : Nat) (listed : Array Bool) (T T' : List Nat) (a : Act) (w : World), (∀ i ∈ T, i ∈ T') → wpAnyR P md ops Q R fuel listed T' a w → wpAnyR P md ops Q R fuel listed T a w
  | 0, _, _, _, _, _, _, h => h
  | fuel + 1, _, _, _, _, _, hT, h => ⟨h.1, fun i hi => wpOp_mono (fun a' w' h' => ⟨h'.1.sub (still_sub hT), wpAnyR_sub fuel _ _ _ a' w' (still_sub hT) h'.2⟩) (h.2 i hi)⟩

theorem unlisted_of {listed : Array Bool} {i j : Nat} (h : (listed.setIfInBounds i true).getD j true = false) : listed.getD j true = false ∧ j ≠ i := by
  by_cases hij : i = j
  · subst hij
    exfalso
    rcases Nat.lt_or_ge i listed.size with h' | h'
    · simp [h'] at h
    · rw [Array.getD_eq_getD_getElem?, Array.getElem?_eq_none (by simpa using h')] at h
      simp at h
  · rw [getD_set_ne true hij] at h; exact ⟨h, Ne.symm hij⟩

/-- An operation that may come up does not wait for one that is to come. -/
theorem waits_ready {listed : Array Bool} {i j : Nat} (hj : j ∈ Region.ready md ops listed) (hi : listed.getD i true = false) : waits md ops j i = false := by
  obtain ⟨_, o, ho, hall⟩ := mem_ready.1 hj
  unfold waits
  rw [ho]
  simp only [Option.map_some, Option.getD_some]
  rw [Bool.eq_false_iff]
  intro h
  obtain ⟨e, he, hb⟩ := List.any_eq_true.1 h
  simp only [Bool.and_eq_true, beq_iff_eq] at hb
  have h1 := hall e (by simpa using he) hb.1
  rw [hb.2] at h1
  rcases Nat.lt_or_ge i listed.size with h' | h'
  · simp [h'] at hi h1; rw [hi] at h1; cases h1
  · simp [Array.getElem?_eq_none h'] at h1

theorem wpAnyR_first {i : Nat} {oi : Oper} {v : Value} (hi : ops[i]? = some oi) (hsel : ∀ (j : Nat) (o : Oper) cs b, ops[j]? = some o → o.op ≠ .select cs b)
    (hQ : ∀ c a w, Q (.panic c) (a.put oi.dst v) w → Q (.panic c) a w) :
    ∀ (fuel : Nat) (listed : Array Bool) (T : List Nat) (a : Act) (w : World),
      (∀ j oj, ops[j]? = some oj → j ≠ i → listed.getD j true = false → (∀ e ∈ oj.after, Region.binds md e = true → e.on ≠ i) → oi.apart ops oj = true) →
      i ∈ Region.ready md ops listed → YieldsIf P ops (R i) oi v a → Pend R listed T w →
      wpAnyR P md ops Q R fuel (listed.setIfInBounds i true) (i :: T) (a.put oi.dst v) w → wpAnyR P md ops Q R (fuel + 1) listed T a w := by
  have base : ∀ (fuel : Nat) (listed : Array Bool) (T : List Nat) (a : Act) (w : World), i ∈ Region.ready md ops listed → YieldsIf P ops (R i) oi v a → Pend R listed T w →
      wpAnyR P md ops Q R fuel (listed.setIfInBounds i true) (i :: T) (a.put oi.dst v) w →
      wpOp P ops Q i (fun a' w' => Pend R (listed.setIfInBounds i true) (still md ops i T) w' ∧ wpAnyR P md ops Q R fuel (listed.setIfInBounds i true) (still md ops i T) a' w') a w := by
    intro fuel listed T a w hr hy hS H
    refine hy.wpOp hi (hS i (.inl (mem_ready.1 hr).1)) ⟨fun k hk => hS k (hk.imp (fun h => (unlisted_of h).1) (fun h => (List.mem_filter.1 h).1)), ?_⟩
    exact wpAnyR_sub fuel _ _ _ _ _ (fun k hk => List.mem_cons_of_mem _ (List.mem_filter.1 hk).1) H
  intro fuel
  induction fuel with
  | zero =>
    intro listed T a w _ hr hy hS H
    refine ⟨fun h => (by rw [h] at hr; cases hr), fun j hj => ?_⟩
    by_cases hji : j = i
    · subst hji; exact base 0 listed T a w hr hy hS H
    · have := ready_mono hj hji
      rw [H.1] at this
      cases this
  | succ fuel ih =>
    intro listed T a w hfree hr hy hS H
    refine ⟨fun h => (by rw [h] at hr; cases hr), fun j hj => ?_⟩
    by_cases hji : j = i
    · subst hji; exact base (fuel + 1) listed T a w hr hy hS H
    · have h1 := H.2 j (ready_mono hj hji)
      obtain ⟨hjun, oj, hoj, hall⟩ := mem_ready.1 hj
      have hiun := (mem_ready.1 hr).1
      have hw := waits_ready hj hiun
      have hnot : ∀ e ∈ oj.after, Region.binds md e = true → e.on ≠ i := fun e he hb heq => by
        unfold waits at hw
        rw [hoj] at hw
        simp only [Option.map_some, Option.getD_some] at hw
        have := List.any_eq_false.1 hw e (by simpa using he)
        simp [hb, heq] at this
      have hstill : still md ops j (i :: T) = i :: still md ops j T := by simp [still, hw]
      rw [hstill] at h1
      have h2 := wpOp_putIf hoj (hfree j oj hoj hji hjun hnot) (fun cs b => hsel i oi cs b hi) (fun cs b => hsel j oj cs b hoj) hQ hy h1
      have hfree' : ∀ k ok, ops[k]? = some ok → k ≠ i → (listed.setIfInBounds j true).getD k true = false →
          (∀ e ∈ ok.after, Region.binds md e = true → e.on ≠ i) → oi.apart ops ok = true := fun k ok hk hki hun hno =>
        hfree k ok hk hki (unlisted_of hun).1 hno
      refine wpOp_mono (fun a' w' h3 => ?_) h2
      have hP : Pend R (listed.setIfInBounds j true) (still md ops j T) w' := fun k hk => by
        by_cases hki : k = i
        · subst hki; exact h3.2.1 k (.inr (by simp))
        · refine h3.2.1 k (hk.imp (fun h => ?_) (fun h => List.mem_cons_of_mem _ h))
          obtain ⟨hk1, hk2⟩ := unlisted_of h
          rw [getD_set_ne true (Ne.symm hk2), getD_set_ne true (Ne.symm hki)]
          exact hk1
      refine ⟨hP, ih (listed.setIfInBounds j true) _ a' w' hfree' (ready_mono hr (Ne.symm hji)) h3.1 hP ?_⟩
      rw [Array.setIfInBounds_comm _ _ hji]
      exact h3.2.2

/-! ### The moves of a walk -/
theorem wpAnyR_take {i : Nat} {oi : Oper} {v : Value} {fuel : Nat} {listed : Array Bool} {T : List Nat} {a : Act} {w : World} (hi : ops[i]? = some oi)
    (hs : Region.noSelect ops = true) (hf : Region.free md ops listed i = true) (hr : (Region.ready md ops listed).contains i = true)
    (hQ : ∀ c a w, Q (.panic c) (a.put oi.dst v) w → Q (.panic c) a w) (hp : Pend R listed T w) (hy : YieldsIf P ops (R i) oi v a)
    (h : Pend R (listed.setIfInBounds i true) (i :: T) w → wpAnyR P md ops Q R fuel (listed.setIfInBounds i true) (i :: T) (a.put oi.dst v) w) : wpAnyR P md ops Q R (fuel + 1) listed T a w :=
  wpAnyR_first hi (Region.noSelect_spec hs) hQ fuel listed T a w (Region.free_spec hi hf) (by simpa using hr) hy hp (h fun k hk => by
    rcases hk with hk | hk
    · exact hp k (.inl (unlisted_of hk).1)
    · rcases List.mem_cons.1 hk with rfl | hk
      · exact hp k (.inl (mem_ready.1 (by simpa using hr : k ∈ Region.ready md ops listed)).1)
      · exact hp k (.inr hk))

/-- One operation alone may come up. -/
theorem wpAnyR_step {i : Nat} {o : Oper} {fuel : Nat} {listed : Array Bool} {T : List Nat} {a : Act} {w : World} (hr : Region.ready md ops listed = [i]) (hi : ops[i]? = some o)
    (hw : Region.wanted o (yielded ops a.tmps) = true)
    (h : ∀ K : Act → World → Prop, (∀ a' w', Pend R (listed.setIfInBounds i true) (still md ops i T) w' →
        (Pend R (listed.setIfInBounds i true) (still md ops i T) w' → wpAnyR P md ops Q R fuel (listed.setIfInBounds i true) (still md ops i T) a' w') → K a' w') → o.wp P a w K Q) :
    wpAnyR P md ops Q R (fuel + 1) listed T a w := by
  refine ⟨fun h0 => (by rw [hr] at h0; cases h0), fun j hj => ?_⟩
  rw [hr] at hj
  obtain rfl : j = i := by simpa using hj
  unfold wpOp
  simp only [hi, hw, if_true]
  exact .inl (h _ fun a' w' hp hk => ⟨hp, hk hp⟩)

/-- Several may come up. -/
def StepR (P : Program) (md : Region.Mode) (ops : Array Oper) (Q : Exit → Act → World → Prop) (R : Nat → World → Prop) (fuel : Nat) (listed : Array Bool) (T : List Nat) (a : Act) (w : World) (i : Nat) : Prop :=
  wpOp P ops Q i (fun a' w' => Pend R (listed.setIfInBounds i true) (still md ops i T) w' ∧ wpAnyR P md ops Q R fuel (listed.setIfInBounds i true) (still md ops i T) a' w') a w
theorem wpAnyR_two {i j : Nat} {fuel : Nat} {listed : Array Bool} {T : List Nat} {a : Act} {w : World} (hr : Region.ready md ops listed = [i, j])
    (h1 : StepR P md ops Q R fuel listed T a w i) (h2 : StepR P md ops Q R fuel listed T a w j) : wpAnyR P md ops Q R (fuel + 1) listed T a w := by
  refine ⟨fun h0 => (by rw [hr] at h0; cases h0), fun k hk => ?_⟩
  rw [hr] at hk
  rcases List.mem_cons.1 hk with rfl | hk
  · exact h1
  · obtain rfl : k = j := by simpa using hk
    exact h2
theorem stepR {i : Nat} {o : Oper} {fuel : Nat} {listed : Array Bool} {T : List Nat} {a : Act} {w : World} (hi : ops[i]? = some o)
    (hw : Region.wanted o (yielded ops a.tmps) = true)
    (h : ∀ K : Act → World → Prop, (∀ a' w', Pend R (listed.setIfInBounds i true) (still md ops i T) w' →
        (Pend R (listed.setIfInBounds i true) (still md ops i T) w' → wpAnyR P md ops Q R fuel (listed.setIfInBounds i true) (still md ops i T) a' w') → K a' w') → o.wp P a w K Q) :
    StepR P md ops Q R fuel listed T a w i := by
  unfold StepR wpOp
  simp only [hi, hw, if_true]
  exact .inl (h _ fun a' w' hp hk => ⟨hp, hk hp⟩)
theorem wpAnyR_done {listed : Array Bool} {T : List Nat} {a : Act} {w : World} (hr : Region.ready md ops listed = []) (h : Q .normal a w) :
    ∀ fuel, wpAnyR P md ops Q R fuel listed T a w
  | 0 => ⟨hr, h⟩
  | _ + 1 => ⟨fun _ => h, by rw [hr]; simp⟩
theorem wp_region_R {id : Nat} {a : Act} {w : World} (R : Nat → World → Prop) (hm : P.follows .mixedOrders = true) (hR : ∀ i, R i w.drew)
    (h : Pend R (Array.replicate ops.size false) [] w.drew → wpAnyR P .any ops Q R ops.size (Array.replicate ops.size false) [] a w.drew) : (Code.region id ops true).wp P Q a w :=
  wp_region_any hm (wpAny_of_R _ _ _ _ _ (h fun i _ => hR i))

/-- The conditions as a list. -/
def RL : List (Nat × (World → Prop)) → Nat → World → Prop
  | [], _, _ => True
  | (k, S) :: l, i, w => (i = k → S w) ∧ RL l i w
theorem RL_nil (w : World) : ∀ i, RL [] i w := fun _ => trivial
theorem RL_cons {k : Nat} {S : World → Prop} {l : List (Nat × (World → Prop))} {w : World} (hS : S w) (h : ∀ i, RL l i w) : ∀ i, RL ((k, S) :: l) i w := fun i => ⟨fun _ => hS, h i⟩
theorem pend_nil {listed : Array Bool} {T : List Nat} {w : World} : Pend (RL []) listed T w := fun _ _ => trivial
theorem pend_on {k : Nat} {S : World → Prop} {l : List (Nat × (World → Prop))} {listed : Array Bool} {T : List Nat} {w : World} (hS : S w) (h : Pend (RL l) listed T w) : Pend (RL ((k, S) :: l)) listed T w :=
  fun i hi => ⟨fun _ => hS, h i hi⟩
theorem pend_off {k : Nat} {S : World → Prop} {l : List (Nat × (World → Prop))} {listed : Array Bool} {T : List Nat} {w : World} (hk : (listed.getD k true && !T.contains k) = true) (h : Pend (RL l) listed T w) : Pend (RL ((k, S) :: l)) listed T w :=
  fun i hi => ⟨fun e => by
    subst e
    simp only [Bool.and_eq_true, Bool.not_eq_true'] at hk
    rcases hi with hi | hi
    · rw [hk.1] at hi; cases hi
    · have := hk.2; simp [hi] at this, h i hi⟩
end
end Go.Proofs.YtnphlekailodkaaGreatDoor
