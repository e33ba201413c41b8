/-
  The last order of a pair applies; cancelled, it leaves the one before: the plain law.
-/
import Derived.Test.YtfalajomfcfliaaGreatDoorAy
import Derived.Test.YtfalajomfcfliaaGreatDoorFo
namespace Go.Proofs.YtfalajomfcfliaaGreatDoor
namespace Pe

theorem next_parts {l : List Ent} {x : Ent} (h : next l x = 0) : formed x = 0 ∧ l.length ≠ 400 ∧ (x.kind = 5 → ordered l x.order = false) ∧ (x.kind = 6 → ordered l x.order = true ∧ called l x.order = false) := by
  have hf := next_formed h
  have hs := next_short h
  unfold next at h
  rw [if_neg (by rw [ne_eq, Decidable.not_not]; exact hf), if_neg hs] at h
  split at h
  · cases h
  split at h
  · cases h
  split at h
  · cases h
  split at h
  · cases h
  rename_i h5
  split at h
  · cases h
  rename_i h6
  split at h
  · cases h
  rename_i h7
  exact ⟨hf, hs, fun hk => by simpa [hk] using h5, fun hk => ⟨by simpa [hk] using h6, by simpa [hk] using h7⟩⟩
/-- A cancellation comes behind its order. -/
theorem called_ordered {l : List Ent} (h : Valid l) {o : Int} (ho : called l o = true) : ordered l o = true := by
  unfold called at ho
  obtain ⟨x, hx, hq⟩ := List.any_eq_true.1 ho
  simp only [Bool.and_eq_true, beq_iff_eq] at hq
  obtain ⟨i, hi⟩ := List.getElem?_of_mem hx
  have h1 := ((next_parts (h i x hi)).2.2.2 hq.1).1
  rw [hq.2] at h1
  unfold ordered at h1 ⊢
  obtain ⟨y, hy, hyq⟩ := List.any_eq_true.1 h1
  exact List.any_eq_true.2 ⟨y, List.mem_of_mem_take hy, hyq⟩
/-- The cancellation of an order. -/
def cancelOf (x : Ent) : Ent := { zero with day := x.day, kind := 6, order := x.order }
theorem formed_days {x : Ent} (h : formed x = 0) : daysOk x = true ∧ ranged x = true := by
  unfold formed at h
  split at h
  · cases h
  · rename_i h1
    split at h
    · cases h
    · rename_i h2
      exact ⟨by simpa using h1, by
        cases hr : ranged x
        · exact absurd (Or.inl hr) h2
        · rfl⟩
theorem formed_cancel {x : Ent} (h : formed x = 0) (hk : x.kind = 5) : formed (cancelOf x) = 0 := by
  obtain ⟨hd, hr⟩ := formed_days h
  have h1 : daysOk (cancelOf x) = true := by
    unfold daysOk at hd ⊢
    have e1 : (cancelOf x).day = x.day := rfl
    have e2 : (cancelOf x).since = 0 := rfl
    have e3 : (cancelOf x).til = 0 := rfl
    rw [e1, e2, e3]
    simp at hd ⊢
    omega
  have h2 : ranged (cancelOf x) = true := by
    unfold ranged at hr
    rw [hk] at hr
    simp only [Bool.and_eq_true] at hr
    show (isId x.order && ((0 : Int) == 0)) = true
    rw [hr.1.1.1.1]; rfl
  have h3 : rest (cancelOf x) = zero := rfl
  unfold formed
  rw [h1, h2, h3]
  simp [cancelOf]
theorem next_cancel {l : List Ent} {x : Ent} (hl : Valid l) (h : next l x = 0) (hk : x.kind = 5) (hn : l.length < 399) : next (l ++ [x]) (cancelOf x) = 0 := by
  obtain ⟨hf, _, h5, _⟩ := next_parts h
  have hc : called (l ++ [x]) x.order = false := by
    unfold called
    rw [List.any_append]
    have h1 : (l.any fun y => y.kind == 6 && y.order == x.order) = false := by
      cases hq : (l.any fun y => y.kind == 6 && y.order == x.order)
      · rfl
      · exact absurd ((called_ordered hl hq).symm.trans (h5 hk)) (by decide)
    rw [h1]
    simp [hk]
  have ho : ordered (l ++ [x]) x.order = true := by
    unfold ordered
    rw [List.any_append]
    simp [hk]
  unfold next
  rw [if_neg (by rw [ne_eq, Decidable.not_not]; exact formed_cancel hf hk), if_neg (by simp; omega), if_neg (by simp [cancelOf]), if_neg (by simp [cancelOf, zero]), if_neg (by simp [cancelOf]), if_neg (by simp [cancelOf]),
    if_neg (by rw [show (cancelOf x).order = x.order from rfl, ho]; simp), if_neg (by rw [show (cancelOf x).order = x.order from rfl, hc]; simp)]
theorem check_cancel {l : List Ent} {x : Ent} (h : (check (l ++ [x])).2 = 0) (hv : Valid l) (hx : next l x = 0) (hk : x.kind = 5) (hn : l.length < 399) : (check (l ++ [x] ++ [cancelOf x])).2 = 0 := by
  rw [check_snoc h, if_neg (by rw [ne_eq, Decidable.not_not]; exact next_cancel hv hx hk hn)]

/-! ### what an order and a cancellation change -/
theorem onDay_snoc (l : List Ent) (x : Ent) (k : Nat) (d : Int) : onDay (l ++ [x]) k d = onDay l k d ++ (if (x.kind == k && x.on d) = true then [x] else []) := by
  unfold onDay
  rw [List.filter_append, List.filter_cons]
  rfl
theorem onDay_other {l : List Ent} {x : Ent} {k : Nat} (h : x.kind ≠ k) (d : Int) : onDay (l ++ [x]) k d = onDay l k d := by
  rw [onDay_snoc, if_neg (by simp [h]), List.append_nil]
theorem dead_other {l : List Ent} {x : Ent} (h : x.kind ≠ 3) (p d : Int) : dead (l ++ [x]) p d = dead l p d := by unfold dead; rw [onDay_other h]
theorem home_other {l : List Ent} {x : Ent} (h3 : x.kind ≠ 3) (h2 : x.kind ≠ 2) (p d : Int) : home? (l ++ [x]) p d = home? l p d := by unfold home?; rw [dead_other h3, onDay_other h2]
theorem target_other {l : List Ent} {x : Ent} (h3 : x.kind ≠ 3) (h2 : x.kind ≠ 2) (z : Ent) (d : Int) : target (l ++ [x]) z d = target l z d := by unfold target reached; rw [dead_other h3, home_other h3 h2]
theorem bestOf_congr {q r : Ent → Bool} : ∀ {m : List Ent} (b : Option Ent), (∀ x ∈ m, q x = r x) → bestOf q b m = bestOf r b m
  | [], b, _ => rfl
  | x :: m, b, h => by
    have e : ∀ (q : Ent → Bool), bestOf q b (x :: m) = bestOf q (if q x = true then better b x else b) m := fun _ => rfl
    rw [e, e, h x (by simp)]
    exact bestOf_congr _ (fun y hy => h y (by simp [hy]))
theorem bestOf_app (q : Ent → Bool) (b : Option Ent) (m r : List Ent) : bestOf q b (m ++ r) = bestOf q (bestOf q b m) r := by
  unfold bestOf; rw [List.foldl_append]
/-- Where an order leads, as the law says it. -/
def toOf (m : List Ent) (x : Ent) (d : Int) : Pair := (x.other, if x.at_ = 0 ∧ dead m x.other d = false then (home? m x.other d).getD 0 else x.at_)
theorem order_last {l : List Ent} {x : Ent} {d : Int} (hv : Valid l) (hx : next l x = 0) (hk : x.kind = 5) (hp : x.place ≠ 0) (hon : x.on d = true) (hd : dead (l ++ [x]) x.person d = false) (ht : toOf (l ++ [x]) x d ≠ (x.person, x.place)) :
    order? (l ++ [x]) (x.person, x.place) d = some x := by
  unfold order?
  rw [if_neg (by rw [hd]; simp), onDay_snoc, if_pos (by simp [hk, hon]), bestOf_app]
  have hcn : cancelled (l ++ [x]) x.order d = false := by
    unfold cancelled
    rw [onDay_other (by omega)]
    cases hq : ((onDay l 6 d).any fun y => y.order == x.order)
    · rfl
    · exfalso
      obtain ⟨y, hy, hyo⟩ := List.any_eq_true.1 hq
      have hm := List.mem_filter.1 hy
      simp only [Bool.and_eq_true, beq_iff_eq] at hm
      have : called l x.order = true := List.any_eq_true.2 ⟨y, hm.1, by rw [hm.2.1]; simpa using hyo⟩
      have := (called_ordered hv this).symm.trans ((next_parts hx).2.2.1 hk)
      cases this
  have htg : target (l ++ [x]) x d ≠ ((x.person, x.place), true) := by
    intro e
    apply ht
    unfold target reached at e
    unfold toOf
    by_cases ha : x.at_ = 0
    · rw [if_neg (by simp [ha])] at e
      by_cases hdo : dead (l ++ [x]) x.other d = true
      · rw [if_pos hdo] at e
        rw [if_neg (by simp [hdo]), ha]
        exact (Prod.mk.inj e).1
      · rw [if_neg hdo] at e
        rw [if_pos ⟨ha, by simpa using hdo⟩]
        exact (Prod.mk.inj e).1
    · rw [if_pos ha] at e
      rw [if_neg (by simp [ha])]
      exact (Prod.mk.inj e).1
  have hs : suits (l ++ [x]) (x.person, x.place) d x = true := by
    unfold suits
    rw [hcn]
    simp [htg]
  show (if suits (l ++ [x]) (x.person, x.place) d x = true then better _ x else _) = some x
  rw [if_pos hs]
  cases bestOf (suits (l ++ [x]) (x.person, x.place) d) none (onDay l 5 d) with
  | none => rfl
  | some y => simp only [better]; rw [if_pos (.inl hp)]
theorem order_left {l : List Ent} {x : Ent} {d : Int} (hx : next l x = 0) (hk : x.kind = 5) (hd : 0 ≤ d) (c : Pair) : order? (l ++ [x] ++ [cancelOf x]) c d = order? l c d := by
  have hk6 : (cancelOf x).kind = 6 := rfl
  have hdead : ∀ p, dead (l ++ [x] ++ [cancelOf x]) p d = dead l p d := fun p => by rw [dead_other (by omega), dead_other (by omega)]
  have htg : ∀ z, target (l ++ [x] ++ [cancelOf x]) z d = target l z d := fun z => by rw [target_other (by omega) (by omega), target_other (by omega) (by omega)]
  have hcn : ∀ o, cancelled (l ++ [x] ++ [cancelOf x]) o d = (cancelled l o d || x.order == o) := fun o => by
    unfold cancelled
    rw [onDay_snoc, onDay_other (by omega), if_pos (by simp [Ent.on, cancelOf, zero, hd]), List.any_append]
    simp [cancelOf]
  unfold order?
  rw [hdead]
  congr 1
  rw [onDay_other (by omega), onDay_snoc, bestOf_app]
  have hno : ∀ z ∈ onDay l 5 d, (x.order == z.order) = false := fun z hz => by
    have hm := List.mem_filter.1 hz
    simp only [Bool.and_eq_true, beq_iff_eq] at hm
    have h5 := (next_parts hx).2.2.1 hk
    unfold ordered at h5
    have := List.any_eq_false.1 h5 z hm.1
    simp [hm.2.1] at this
    simp
    exact fun e => this e.symm
  have hsame : bestOf (suits (l ++ [x] ++ [cancelOf x]) c d) none (onDay l 5 d) = bestOf (suits l c d) none (onDay l 5 d) := bestOf_congr _ (fun z hz => by
    unfold suits
    rw [htg, hcn, hno z hz, Bool.or_false])
  rw [hsame]
  have hxs : suits (l ++ [x] ++ [cancelOf x]) c d x = false := by
    unfold suits
    rw [hcn]
    simp
  by_cases hon : (x.kind == 5 && x.on d) = true
  · rw [if_pos hon]
    show (if suits (l ++ [x] ++ [cancelOf x]) c d x = true then better _ x else _) = _
    rw [hxs]
    rfl
  · rw [if_neg hon]; rfl
end Pe
end Go.Proofs.YtfalajomfcfliaaGreatDoor
