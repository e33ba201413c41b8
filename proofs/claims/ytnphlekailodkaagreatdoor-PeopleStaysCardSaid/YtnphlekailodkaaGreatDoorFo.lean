/-
  The directory's questions, in plain Lean: who is dead, homes, heirs, orders, refusals, hops and routes; and the same as the reference asks them. No program in sight.
-/
import Derived.Test.YtnphlekailodkaaGreatDoorPe
namespace Go.Proofs.YtnphlekailodkaaGreatDoor
namespace Pe

abbrev Pair := Int × Int
/-- An entry holds on a day. -/
def Ent.on (x : Ent) (d : Int) : Bool := decide (x.since ≤ d) && (x.til == 0 || decide (d < x.til))
/-- The entries of a kind that hold on a day. -/
def onDay (l : List Ent) (k : Nat) (d : Int) : List Ent := l.filter fun x => x.kind == k && x.on d
def lastOf (l : List Ent) (q : Ent → Bool) : Option Ent := (l.filter q).getLast?
def dead (l : List Ent) (p d : Int) : Bool := (onDay l 3 d).any fun x => x.person == p
def home? (l : List Ent) (p d : Int) : Option Int := if dead l p d = true then none else (lastOf (onDay l 2 d) fun x => x.person == p).map (·.place)
def heir? (l : List Ent) (p d : Int) : Option Int := (lastOf (onDay l 4 d) fun x => x.person == p).map (·.other)
def reached (l : List Ent) (p d : Int) : Pair × Bool := if dead l p d = true then ((p, 0), true) else ((p, (home? l p d).getD 0), (home? l p d).isSome)
def target (l : List Ent) (x : Ent) (d : Int) : Pair × Bool := if x.at_ ≠ 0 then ((x.other, x.at_), true) else reached l x.other d
def cancelled (l : List Ent) (o d : Int) : Bool := (onDay l 6 d).any fun x => x.order == o
/-- An order that holds applies to a pair. -/
def suits (l : List Ent) (c : Pair) (d : Int) (x : Ent) : Bool := x.person == c.1 && (x.place == 0 || x.place == c.2) && !cancelled l x.order d && !(target l x d == (c, true))
def better (b : Option Ent) (x : Ent) : Option Ent := match b with
  | none => some x
  | some y => if x.place ≠ 0 ∨ y.place = 0 then some x else some y
def bestOf (q : Ent → Bool) (b : Option Ent) (m : List Ent) : Option Ent := m.foldl (fun b x => if q x = true then better b x else b) b
def order? (l : List Ent) (c : Pair) (d : Int) : Option Ent := if dead l c.1 d = true then none else bestOf (suits l c d) none (onDay l 5 d)
def refuses (l : List Ent) (c : Pair) (s d : Int) : Bool := !dead l c.1 d && (onDay l 7 d).any fun x => x.person == c.1 && (x.place == 0 || x.place == c.2) && (x.other == 0 || x.other == s)

/-- The dwellings of the living, in the order of the entries. -/
def dwell (l : List Ent) (d : Int) : List Pair := ((onDay l 2 d).filter fun x => !dead l x.person d).map fun x => (x.person, x.place)
def leP (a b : Pair) : Bool := decide (a.1 < b.1) || (a.1 == b.1 && decide (a.2 ≤ b.2))
/-- A list without what is equal to its neighbour. -/
def compact : List Pair → List Pair
  | [] => []
  | [x] => [x]
  | x :: y :: r => if x = y then compact (y :: r) else x :: compact (y :: r)
def pairs (l : List Ent) (d : Int) : List Pair := compact ((dwell l d).mergeSort leP)
def lives (l : List Ent) (c : Pair) (d : Int) : Bool := (pairs l d).contains c

structure Hop where
  kind : Nat
  frm : Pair
  to : Pair
  order : Int
deriving DecidableEq
def noHop : Hop := ⟨0, (0, 0), (0, 0), 0⟩
/-- The hop of a pair: 0: there is none; 1: it leads to no pair; 2: it leads to a pair. -/
def step (l : List Ent) (c : Pair) (d : Int) : Hop × Nat :=
  if dead l c.1 d = true then
    match heir? l c.1 d with
    | none => (noHop, 0)
    | some h => if (reached l h d).2 = true then (⟨2, c, (reached l h d).1, 0⟩, 2) else (⟨0, (0, 0), (h, 0), 0⟩, 1)
  else
    match order? l c d with
    | none => (noHop, 0)
    | some x => if (target l x d).2 = true then (⟨1, c, (target l x d).1, x.order⟩, 2) else (⟨0, (0, 0), (x.other, 0), 0⟩, 1)

structure Route where
  kind : Nat
  fin : Pair
  hops : List Hop
  back : Nat
deriving DecidableEq
def noRoute : Route := ⟨0, (0, 0), [], 0⟩
def seenAt (hs : List Hop) (c : Pair) : Option Nat := hs.findIdx? fun h => h.frm == c
def followFrom (l : List Ent) (s d : Int) : Nat → Pair → List Hop → Route
  | 0, at_, hs => ⟨0, at_, hs, 0⟩
  | n + 1, at_, hs =>
    if dead l at_.1 d = true ∧ heir? l at_.1 d = none then ⟨3, at_, hs, 0⟩
    else if refuses l at_ s d = true then ⟨2, at_, hs, 0⟩
    else if (step l at_ d).2 = 1 then ⟨5, (step l at_ d).1.to, hs, 0⟩
    else if (step l at_ d).2 = 2 then
      match seenAt (hs ++ [(step l at_ d).1]) (step l at_ d).1.to with
      | some i => ⟨6, (step l at_ d).1.to, hs ++ [(step l at_ d).1], i⟩
      | none => followFrom l s d n (step l at_ d).1.to (hs ++ [(step l at_ d).1])
    else ⟨if lives l at_ d = true then 1 else 4, at_, hs, 0⟩
def followArg (c : Pair) (s d : Int) : Bool := isId c.1 && isId c.2 && idOr s && decide (0 ≤ d) && decide (d ≤ 100000)
def follow (l : List Ent) (c : Pair) (s d : Int) : Route × Int := if followArg c s d = true then (followFrom l s d (l.length + 2) c [], 0) else (noRoute, 1)

/-! ### what holds of them -/
theorem lastOf_nil (q : Ent → Bool) : lastOf [] q = none := rfl
theorem lastOf_cons (x : Ent) (m : List Ent) (q : Ent → Bool) : lastOf (x :: m) q = (lastOf m q).or (if q x = true then some x else none) := by
  unfold lastOf
  rw [List.filter_cons]
  split
  · rw [List.getLast?_cons]; cases (m.filter q).getLast? <;> rfl
  · cases (m.filter q).getLast? <;> rfl
theorem lastOf_snoc (m : List Ent) (x : Ent) (q : Ent → Bool) : lastOf (m ++ [x]) q = if q x = true then some x else lastOf m q := by
  unfold lastOf
  rw [List.filter_append]
  by_cases h : q x = true
  · rw [if_pos h, List.filter_cons, if_pos h]; simp
  · rw [if_neg h, List.filter_cons, if_neg h]; simp
theorem lastOf_some {m : List Ent} {q : Ent → Bool} {x : Ent} (h : lastOf m q = some x) : x ∈ m ∧ q x = true := by
  unfold lastOf at h
  exact List.mem_filter.1 (List.mem_of_getLast? h)
theorem lastOf_none {m : List Ent} {q : Ent → Bool} : lastOf m q = none ↔ ∀ x ∈ m, q x = false := by
  unfold lastOf
  rw [List.getLast?_eq_none_iff, List.filter_eq_nil_iff]
  simp
theorem lastOf_congr {m : List Ent} {q r : Ent → Bool} (h : ∀ x ∈ m, q x = r x) : lastOf m q = lastOf m r := by
  unfold lastOf
  rw [List.filter_congr h]
theorem lastOf_onDay (l : List Ent) (k : Nat) (d : Int) (q : Ent → Bool) : lastOf (onDay l k d) q = lastOf l fun x => q x && (x.kind == k && x.on d) := by
  unfold lastOf onDay
  rw [List.filter_filter]
theorem dead_eq (l : List Ent) (p d : Int) : dead l p d = l.any fun x => x.kind == 3 && x.person == p && x.on d := by
  unfold dead onDay
  rw [List.any_filter]
  congr 1
  funext x
  cases x.kind == 3 <;> cases x.person == p <;> cases x.on d <;> rfl
theorem cancelled_eq (l : List Ent) (o d : Int) : cancelled l o d = l.any fun x => x.kind == 6 && x.order == o && x.on d := by
  unfold cancelled onDay
  rw [List.any_filter]
  congr 1
  funext x
  cases x.kind == 6 <;> cases x.order == o <;> cases x.on d <;> rfl
theorem heir_eq (l : List Ent) (p d : Int) : heir? l p d = (lastOf l fun x => x.kind == 4 && x.person == p && x.on d).map (·.other) := by
  unfold heir?
  rw [lastOf_onDay, lastOf_congr (r := fun x => x.kind == 4 && x.person == p && x.on d)]
  intro x _
  cases x.kind == 4 <;> cases x.person == p <;> cases x.on d <;> rfl
theorem home_eq (l : List Ent) (p d : Int) : home? l p d = if dead l p d = true then none else (lastOf l fun x => x.kind == 2 && x.person == p && x.on d).map (·.place) := by
  unfold home?
  rw [lastOf_onDay, lastOf_congr (r := fun x => x.kind == 2 && x.person == p && x.on d)]
  intro x _
  cases x.kind == 2 <;> cases x.person == p <;> cases x.on d <;> rfl
theorem refuses_eq (l : List Ent) (c : Pair) (s d : Int) : refuses l c s d = (!dead l c.1 d && l.any fun x => x.kind == 7 && x.person == c.1 && (x.place == 0 || x.place == c.2) && (x.other == 0 || x.other == s) && x.on d) := by
  unfold refuses onDay
  rw [List.any_filter]
  congr 2
  funext x
  cases x.kind == 7 <;> cases x.person == c.1 <;> cases x.on d <;> cases (x.place == 0 || x.place == c.2) <;> cases (x.other == 0 || x.other == s) <;> rfl
theorem best_last (q : Ent → Bool) : ∀ (m : List Ent) (b : Option Ent), bestOf q b m = (lastOf m fun x => q x && x.place != 0).or (match b with
    | none => lastOf m q
    | some y => if y.place = 0 then (lastOf m q).or (some y) else some y)
  | [], b => by
    cases b with
    | none => rfl
    | some y => simp [bestOf, lastOf_nil]
  | x :: m, b => by
    have ih := fun b => best_last q m b
    have e : bestOf q b (x :: m) = bestOf q (if q x = true then better b x else b) m := rfl
    rw [e, ih, lastOf_cons, lastOf_cons]
    by_cases h : q x = true
    · rw [if_pos h, if_pos h]
      by_cases hp : x.place = 0
      · have h2 : (q x && x.place != 0) = false := by simp [hp]
        rw [h2]
        simp only [Bool.false_eq_true, if_false, Option.or_none]
        congr 1
        cases b with
        | none => simp only [better]; rw [if_pos hp]
        | some y =>
          simp only [better]
          by_cases hy : y.place = 0
          · rw [if_pos (.inr hy)]
            simp only
            rw [if_pos hp, if_pos hy]
            cases lastOf m q <;> rfl
          · rw [if_neg (by simp [hp, hy])]
            simp only
            rw [if_neg hy, if_neg hy]
      · have h2 : (q x && x.place != 0) = true := by simp [h, hp]
        rw [h2]
        simp only [if_true]
        have h3 : better b x = some x := by
          cases b with
          | none => rfl
          | some y => simp only [better]; rw [if_pos (.inl hp)]
        rw [h3]
        simp only
        rw [if_neg hp]
        cases lastOf m (fun x => q x && x.place != 0) <;> rfl
    · have h2 : (q x && x.place != 0) = false := by simp [h]
      rw [h2, if_neg h, if_neg h]
      simp
/-- An order of the list applies to a pair: the reference's word. -/
def applies (l : List Ent) (c : Pair) (d : Int) (x : Ent) : Bool := x.kind == 5 && x.person == c.1 && (x.place == 0 || x.place == c.2) && (!dead l c.1 d && x.on d && !cancelled l x.order d && !(target l x d == (c, true)))
def orderR (l : List Ent) (c : Pair) (d : Int) : Option Ent := (lastOf l fun x => applies l c d x && x.place != 0).or (lastOf l (applies l c d))
theorem order_eq (l : List Ent) (c : Pair) (d : Int) : order? l c d = orderR l c d := by
  unfold order? orderR
  cases hd : dead l c.1 d
  · rw [if_neg (by simp), best_last, lastOf_onDay, lastOf_onDay]
    simp only
    have e : ∀ x : Ent, (suits l c d x && (x.kind == 5 && x.on d)) = applies l c d x := fun x => by
      unfold suits applies
      rw [hd]
      cases x.kind == 5 <;> cases x.person == c.1 <;> cases x.on d <;> cases (x.place == 0 || x.place == c.2) <;> cases cancelled l x.order d <;> cases (target l x d == (c, true)) <;> rfl
    congr 1
    · refine lastOf_congr fun x _ => ?_
      rw [← e x]
      cases suits l c d x <;> cases x.place != 0 <;> cases (x.kind == 5 && x.on d) <;> rfl
    · exact lastOf_congr fun x _ => e x
  · rw [if_pos rfl]
    have e : ∀ x : Ent, applies l c d x = false := fun x => by
      unfold applies
      rw [hd]
      simp
    rw [lastOf_none.2 (fun x _ => by rw [e]; rfl), lastOf_none.2 (fun x _ => e x)]
    rfl

theorem mem_compact : ∀ (l : List Pair) (c : Pair), c ∈ compact l ↔ c ∈ l
  | [], c => by simp [compact]
  | [x], c => by simp [compact]
  | x :: y :: r, c => by
    have ih := mem_compact (y :: r) c
    unfold compact
    split
    · rename_i h
      rw [ih, h]; simp
    · rw [List.mem_cons, ih, List.mem_cons (a := c) (b := x)]
theorem mem_dwell (l : List Ent) (c : Pair) (d : Int) : c ∈ dwell l d ↔ dead l c.1 d = false ∧ ∃ x ∈ l, x.kind = 2 ∧ x.on d = true ∧ x.person = c.1 ∧ x.place = c.2 := by
  unfold dwell onDay
  rw [List.mem_map]
  constructor
  · rintro ⟨x, hx, rfl⟩
    rw [List.mem_filter, List.mem_filter] at hx
    simp only [Bool.and_eq_true, beq_iff_eq, Bool.not_eq_true'] at hx
    exact ⟨hx.2, x, hx.1.1, hx.1.2.1, hx.1.2.2, rfl, rfl⟩
  · rintro ⟨hd, x, hx, hk, ho, hp, hq⟩
    refine ⟨x, ?_, by rw [hp, hq]⟩
    rw [List.mem_filter, List.mem_filter]
    simp only [Bool.and_eq_true, beq_iff_eq, Bool.not_eq_true']
    exact ⟨⟨hx, hk, ho⟩, by rw [hp]; exact hd⟩
theorem mem_pairs (l : List Ent) (c : Pair) (d : Int) : c ∈ pairs l d ↔ c ∈ dwell l d := by
  unfold pairs
  rw [mem_compact, List.mem_mergeSort]
/-- Who lives at a place: the reference's word. -/
def livesR (l : List Ent) (c : Pair) (d : Int) : Bool := !dead l c.1 d && l.any fun x => x.kind == 2 && x.person == c.1 && x.on d && x.place == c.2
theorem lives_eq (l : List Ent) (c : Pair) (d : Int) : lives l c d = livesR l c d := by
  unfold lives livesR
  rw [Bool.eq_iff_iff, List.contains_iff_mem, mem_pairs, mem_dwell, Bool.and_eq_true, Bool.not_eq_true', List.any_eq_true]
  refine and_congr_right' ?_
  constructor
  · rintro ⟨x, hx, hk, ho, hp, hq⟩
    exact ⟨x, hx, by simp [hk, ho, hp, hq]⟩
  · rintro ⟨x, hx, h⟩
    simp only [Bool.and_eq_true, beq_iff_eq] at h
    exact ⟨x, hx, h.1.1.1, h.1.2, h.1.1.2, h.2⟩

/-! ### routes end -/
/-- The pairs to which hops lead. -/
def targets (l : List Ent) (d : Int) : List Pair := l.map fun x => if x.kind = 5 then (target l x d).1 else (reached l x.other d).1
theorem step_target {l : List Ent} {c : Pair} {d : Int} (h : (step l c d).2 = 2) : (step l c d).1.to ∈ targets l d ∧ (step l c d).1.frm = c := by
  unfold step at h ⊢
  split
  · rename_i hd
    rw [if_pos hd] at h
    split
    · rename_i hh; simp only [hh] at h; cases h
    · rename_i p hh
      simp only [hh] at h
      split
      · refine ⟨?_, rfl⟩
        unfold heir? at hh
        rw [lastOf_onDay] at hh
        obtain ⟨x, hx, rfl⟩ := Option.map_eq_some_iff.1 hh
        obtain ⟨hm, hq⟩ := lastOf_some hx
        refine List.mem_map.2 ⟨x, hm, ?_⟩
        simp only [Bool.and_eq_true, beq_iff_eq] at hq
        rw [if_neg (by rw [hq.2.1]; decide)]
      · rename_i hr; rw [if_neg hr] at h; cases h
  · rename_i hd
    rw [if_neg hd] at h
    split
    · rename_i hh; simp only [hh] at h; cases h
    · rename_i x hh
      simp only [hh] at h
      split
      · refine ⟨?_, rfl⟩
        rw [order_eq] at hh
        unfold orderR at hh
        have hx : x ∈ l ∧ applies l c d x = true := by
          rcases Option.or_eq_some_iff.1 hh with h1 | ⟨_, h1⟩
          · have := lastOf_some h1
            simp only [Bool.and_eq_true] at this
            exact ⟨this.1, this.2.1⟩
          · exact lastOf_some h1
        refine List.mem_map.2 ⟨x, hx.1, ?_⟩
        have hk := hx.2
        unfold applies at hk
        simp only [Bool.and_eq_true, beq_iff_eq] at hk
        rw [if_pos hk.1.1.1]
      · rename_i hr; rw [if_neg hr] at h; cases h
theorem nodup_le : ∀ {a b : List Pair}, a.Nodup → (∀ x ∈ a, x ∈ b) → a.length ≤ b.length
  | [], b, _, _ => Nat.zero_le _
  | x :: a, b, hn, hs => by
    have hx := hs x (by simp)
    have h1 : (b.erase x).length = b.length - 1 := List.length_erase_of_mem hx
    have h2 : 0 < b.length := List.length_pos_of_mem hx
    rw [List.nodup_cons] at hn
    have := nodup_le (a := a) (b := b.erase x) hn.2 (fun y hy => (List.mem_erase_of_ne (fun e => hn.1 (by rw [← e]; exact hy))).2 (hs y (by simp [hy])))
    simp only [List.length_cons]
    omega
/-- A route on its way: the pairs are all different, and each but the first is one to which a hop leads. -/
structure OnWay (l : List Ent) (d : Int) (c : Pair) (at_ : Pair) (hs : List Hop) : Prop where
  nodup : (hs.map (·.frm) ++ [at_]).Nodup
  some : ∀ x ∈ hs.map (·.frm) ++ [at_], x = c ∨ x ∈ targets l d
theorem OnWay.start (l : List Ent) (d : Int) (c : Pair) : OnWay l d c c [] := ⟨by simp, by simp⟩
theorem OnWay.short {l : List Ent} {d : Int} {c at_ : Pair} {hs : List Hop} (h : OnWay l d c at_ hs) : hs.length ≤ l.length := by
  have := nodup_le (a := hs.map (·.frm) ++ [at_]) (b := c :: targets l d) h.nodup (fun x hx => by
    rcases h.some x hx with e | e
    · simp [e]
    · simp [e])
  simp [targets] at this
  exact this
theorem seenAt_none {hs : List Hop} {c : Pair} : seenAt hs c = none ↔ c ∉ hs.map (·.frm) := by
  unfold seenAt
  rw [List.findIdx?_eq_none_iff]
  simp only [beq_eq_false_iff_ne, List.mem_map, not_exists, not_and]
theorem OnWay.on {l : List Ent} {d : Int} {c at_ : Pair} {hs : List Hop} (h : OnWay l d c at_ hs) (h2 : (step l at_ d).2 = 2) (hn : seenAt (hs ++ [(step l at_ d).1]) (step l at_ d).1.to = none) : OnWay l d c (step l at_ d).1.to (hs ++ [(step l at_ d).1]) := by
  obtain ⟨ht, hf⟩ := step_target h2
  rw [seenAt_none] at hn
  have e : (hs ++ [(step l at_ d).1]).map (·.frm) = hs.map (·.frm) ++ [at_] := by simp [hf]
  rw [e] at hn
  constructor
  · rw [e, List.nodup_append]
    exact ⟨h.nodup, by simp, fun x hx y hy => by rw [List.mem_singleton.1 hy]; rintro rfl; exact hn hx⟩
  · rw [e]
    intro x hx
    rcases List.mem_append.1 hx with hx | hx
    · exact h.some x hx
    · rw [List.mem_singleton.1 hx]; exact .inr ht
end Pe
end Go.Proofs.YtnphlekailodkaaGreatDoor
