/-
  Entries of the directory, in plain Lean: what is formed, what may be entered behind a list; Check and Append. No program in sight.
-/
import Derived.WalkKit
namespace Go.Proofs.YtnphlekailodkaaGreatDoor
namespace Pe

structure Ent where
  day : Int
  kind : Nat
  since : Int
  til : Int
  person : Int
  place : Int
  other : Int
  at_ : Int
  order : Int
  name : List UInt8
deriving DecidableEq

def zero : Ent := ⟨0, 0, 0, 0, 0, 0, 0, 0, 0, []⟩
def isId (n : Int) : Bool := decide (1 ≤ n) && decide (n ≤ 1000000)
def idOr (n : Int) : Bool := n == 0 || isId n
def isLetter (c : UInt8) : Bool := (decide (97 ≤ c.toNat) && decide (c.toNat ≤ 122)) || (decide (48 ≤ c.toNat) && decide (c.toNat ≤ 57)) || c == 32 || c == 45
def isName (s : List UInt8) : Bool := decide (1 ≤ s.length) && decide (s.length ≤ 24) && s.all isLetter && s.getD 0 0 != 32 && s.getD (s.length - 1) 0 != 32

/-- The days of an entry are in their ranges. -/
def daysOk (x : Ent) : Bool := !(decide (x.day < 0) || decide (100000 < x.day) || decide (x.since < 0) || decide (100000 < x.since) || (x.til != 0 && (decide (x.til ≤ x.since) || decide (100000 < x.til))))
/-- The fields that the table names are in their ranges. -/
def ranged (x : Ent) : Bool :=
  match x.kind with
  | 1 => isId x.person
  | 2 => isId x.person && isId x.place
  | 3 => isId x.person && x.til == 0
  | 4 => isId x.person && isId x.other && x.person != x.other
  | 5 => isId x.order && isId x.person && isId x.other && idOr x.place && idOr x.at_
  | 6 => isId x.order && x.til == 0
  | 7 => isId x.person && idOr x.place && idOr x.other
  | _ => false
/-- What is left of the fields behind those that the table names. -/
def rest (x : Ent) : Ent :=
  let y := { x with day := 0, kind := 0, since := 0, til := 0 }
  match x.kind with
  | 1 => { y with person := 0, name := [] }
  | 2 => { y with person := 0, place := 0 }
  | 3 => { y with person := 0 }
  | 4 => { y with person := 0, other := 0 }
  | 5 => { y with order := 0, person := 0, other := 0, place := 0, at_ := 0 }
  | 6 => { y with order := 0 }
  | 7 => { y with person := 0, place := 0, other := 0 }
  | _ => y
def formed (x : Ent) : Int :=
  if daysOk x = false then 1 else if ranged x = false ∨ rest x ≠ zero then 1 else if x.kind = 1 ∧ isName x.name = false then 4 else 0

def named (l : List Ent) (p : Int) : Bool := l.any fun x => x.kind == 1 && x.person == p
def died (l : List Ent) (p : Int) : Bool := l.any fun x => x.kind == 3 && x.person == p
def ordered (l : List Ent) (o : Int) : Bool := l.any fun x => x.kind == 5 && x.order == o
def called (l : List Ent) (o : Int) : Bool := l.any fun x => x.kind == 6 && x.order == o
/-- The error of an entry behind a list. -/
def next (l : List Ent) (x : Ent) : Int :=
  if formed x ≠ 0 then formed x
  else if l.length = 400 then 2
  else if l ≠ [] ∧ x.day < (l.getLast?.getD zero).day then 7
  else if x.kind ≠ 1 ∧ ((x.person ≠ 0 ∧ named l x.person = false) ∨ (x.other ≠ 0 ∧ named l x.other = false)) then 5
  else if x.kind = 3 ∧ died l x.person = true then 6
  else if x.kind = 5 ∧ ordered l x.order = true then 6
  else if x.kind = 6 ∧ ordered l x.order = false then 5
  else if x.kind = 6 ∧ called l x.order = true then 6
  else 0
/-- The entries from i on, behind those before: the first one that is refused, and its error. -/
def checkFrom (l : List Ent) : Nat → List Ent → Nat × Int
  | _, [] => (0, 0)
  | i, x :: r => if next (l.take i) x ≠ 0 then (i, next (l.take i) x) else checkFrom l (i + 1) r
def check (l : List Ent) : Nat × Int := checkFrom l 0 l

/-! ### the reference -/
def idOr' (n : Int) : Bool := decide (0 ≤ n) && decide (n ≤ 1000000)
theorem idOr_eq (n : Int) : idOr' n = idOr n := by
  unfold idOr' idOr isId
  by_cases h0 : n = 0
  · subst h0; rfl
  · have h1 : (n == 0) = false := by simpa using h0
    rw [h1, Bool.false_or]
    by_cases h2 : 0 ≤ n
    · have h3 : decide (1 ≤ n) = true := by simp; omega
      have h4 : decide (0 ≤ n) = true := by simpa using h2
      rw [h3, h4]
    · have h3 : decide (1 ≤ n) = false := by simp; omega
      have h4 : decide (0 ≤ n) = false := by simpa using h2
      rw [h3, h4]
def daysR (x : Ent) : Bool := decide (0 ≤ x.day) && decide (x.day ≤ 100000) && decide (0 ≤ x.since) && decide (x.since ≤ 100000) && (x.til == 0 || (decide (x.since < x.til) && decide (x.til ≤ 100000)))
def rangedR (x : Ent) : Bool :=
  match x.kind with
  | 1 => isId x.person
  | 2 => isId x.person && isId x.place
  | 3 => isId x.person
  | 4 => isId x.person && isId x.other && x.person != x.other
  | 5 => isId x.order && isId x.person && isId x.other && idOr' x.place && idOr' x.at_
  | 6 => isId x.order
  | 7 => isId x.person && idOr' x.place && idOr' x.other
  | _ => false
def fieldsR (x : Ent) : Ent :=
  let y : Ent := { zero with day := x.day, kind := x.kind, since := x.since, til := x.til }
  match x.kind with
  | 1 => { y with person := x.person, name := x.name }
  | 2 => { y with person := x.person, place := x.place }
  | 3 => { y with person := x.person, til := 0 }
  | 4 => { y with person := x.person, other := x.other }
  | 5 => { y with order := x.order, person := x.person, place := x.place, other := x.other, at_ := x.at_ }
  | 6 => { y with order := x.order, til := 0 }
  | 7 => { y with person := x.person, place := x.place, other := x.other }
  | _ => y
def formedR (x : Ent) : Int :=
  if daysR x = false ∨ rangedR x = false ∨ x ≠ fieldsR x then 1 else if x.kind = 1 ∧ isName x.name = false then 4 else 0
theorem days_eq (x : Ent) : daysR x = daysOk x := by
  unfold daysR daysOk
  rw [Bool.eq_iff_iff]
  simp only [Bool.and_eq_true, Bool.or_eq_true, decide_eq_true_eq, beq_iff_eq, Bool.not_eq_true', Bool.or_eq_false_iff, decide_eq_false_iff_not, Bool.and_eq_false_iff, bne_eq_false_iff_eq]
  omega
theorem formed_eq (x : Ent) : formedR x = formed x := by
  have hd := days_eq x
  obtain ⟨day, kind, since, til, person, place, other, at_, order, name⟩ := x
  unfold formedR formed
  rw [hd]
  cases daysOk ⟨day, kind, since, til, person, place, other, at_, order, name⟩
  · simp
  · simp only [Bool.true_eq_false, false_or, if_false]
    have key : (rangedR ⟨day, kind, since, til, person, place, other, at_, order, name⟩ = false ∨ (⟨day, kind, since, til, person, place, other, at_, order, name⟩ : Ent) ≠ fieldsR ⟨day, kind, since, til, person, place, other, at_, order, name⟩) ↔ (ranged ⟨day, kind, since, til, person, place, other, at_, order, name⟩ = false ∨ rest ⟨day, kind, since, til, person, place, other, at_, order, name⟩ ≠ zero) := by
      match kind with
      | 0 => simp [rangedR, ranged]
      | 1 => simp [rangedR, ranged, fieldsR, rest, zero]
      | 2 => simp [rangedR, ranged, fieldsR, rest, zero]
      | 3 => simp [rangedR, ranged, fieldsR, rest, zero] <;> try grind
      | 4 => simp [rangedR, ranged, fieldsR, rest, zero]
      | 5 => simp [rangedR, ranged, fieldsR, rest, zero, idOr_eq]
      | 6 => simp [rangedR, ranged, fieldsR, rest, zero] <;> try grind
      | 7 => simp [rangedR, ranged, fieldsR, rest, zero, idOr_eq]
      | n + 8 => simp [rangedR, ranged]
    simp only [key]

def hasR (l : List Ent) (k : Nat) (p o : Int) : Bool := l.any fun x => x.kind == k && x.person == p && x.order == o
def orderedR (l : List Ent) (k : Nat) (o : Int) : Bool := l.any fun x => x.kind == k && x.order == o
def nextR (l : List Ent) (x : Ent) : Int :=
  if formed x ≠ 0 then formed x
  else if 400 ≤ l.length then 2
  else if 0 < l.length ∧ x.day < (l.getD (l.length - 1) zero).day then 7
  else if x.kind ≠ 1 ∧ ((x.person ≠ 0 ∧ named l x.person = false) ∨ (x.other ≠ 0 ∧ named l x.other = false)) then 5
  else if (x.kind = 3 ∧ hasR l 3 x.person 0 = true) ∨ (x.kind = 5 ∧ orderedR l 5 x.order = true) then 6
  else if x.kind = 6 ∧ orderedR l 5 x.order = false then 5
  else if x.kind = 6 ∧ orderedR l 6 x.order = true then 6
  else 0
/-- Each entry of a list is formed. -/
def AllFormed (l : List Ent) : Prop := ∀ x ∈ l, formed x = 0
theorem death_order {x : Ent} (h : formed x = 0) (hk : x.kind = 3) : x.order = 0 := by
  unfold formed at h
  split at h
  · cases h
  · split at h
    · cases h
    · rename_i _ h2
      have hr : rest x = zero := Classical.byContradiction fun hn => h2 (.inr hn)
      unfold rest at hr
      rw [hk] at hr
      have := congrArg Ent.order hr
      simpa [zero] using this
theorem has_eq {l : List Ent} (h : AllFormed l) (p : Int) : hasR l 3 p 0 = died l p := by
  unfold hasR died
  induction l with
  | nil => rfl
  | cons x r ih =>
    rw [List.any_cons, List.any_cons, ih (fun y hy => h y (by simp [hy]))]
    congr 1
    by_cases hk : x.kind = 3
    · rw [death_order (h x (by simp)) hk]; simp
    · have : (x.kind == 3) = false := by simpa using hk
      simp [this]
theorem next_eq {l : List Ent} (h : AllFormed l) (hl : l.length ≤ 400) (x : Ent) : nextR l x = next l x := by
  unfold nextR next
  rw [has_eq h]
  have e1 : (400 ≤ l.length) = (l.length = 400) := by apply propext; omega
  have e2 : (0 < l.length ∧ x.day < (l.getD (l.length - 1) zero).day) = (l ≠ [] ∧ x.day < (l.getLast?.getD zero).day) := by
    rw [List.getLast?_eq_getElem?, ← List.getD_eq_getElem?_getD]
    apply propext
    refine and_congr_left' ?_
    rw [List.length_pos_iff]
  simp only [e1, e2]
  have e3 : orderedR l 5 x.order = ordered l x.order := rfl
  have e4 : orderedR l 6 x.order = called l x.order := rfl
  rw [e3, e4]
  by_cases hk3 : x.kind = 3
  · simp [hk3]
  · by_cases hk5 : x.kind = 5
    · simp [hk5]
    · simp [hk3, hk5]

/-- A list whose entries can all be entered. -/
def Valid (l : List Ent) : Prop := ∀ i x, l[i]? = some x → next (l.take i) x = 0
theorem next_formed {l : List Ent} {x : Ent} (h : next l x = 0) : formed x = 0 := by
  unfold next at h
  by_cases hf : formed x = 0
  · exact hf
  · rw [if_pos hf] at h; exact absurd h hf
theorem next_short {l : List Ent} {x : Ent} (h : next l x = 0) : l.length ≠ 400 := by
  unfold next at h
  rw [if_neg (by rw [ne_eq, Decidable.not_not]; exact next_formed h)] at h
  intro e
  rw [if_pos e] at h
  cases h

def checkRFrom (l : List Ent) : Nat → List Ent → Nat × Int
  | _, [] => (0, 0)
  | i, x :: r => if nextR (l.take i) x ≠ 0 then (i, nextR (l.take i) x) else checkRFrom l (i + 1) r
def checkR (l : List Ent) : Nat × Int := checkRFrom l 0 l
theorem take_next {l : List Ent} {i : Nat} {x : Ent} {r : List Ent} (h : l.drop i = x :: r) : l.take (i + 1) = l.take i ++ [x] ∧ l.drop (i + 1) = r ∧ (l.take i).length = i ∧ l[i]? = some x := by
  have hi : l[i]? = some x := by rw [← List.head?_drop, h]; rfl
  have hl : i < l.length := (List.getElem?_eq_some_iff.1 hi).1
  refine ⟨by rw [List.take_add_one, hi]; rfl, by rw [← List.drop_drop, h]; rfl, by rw [List.length_take]; omega, hi⟩
theorem checkFrom_eq (l : List Ent) : ∀ (r : List Ent) (i : Nat), l.drop i = r → AllFormed (l.take i) → i ≤ 400 → checkRFrom l i r = checkFrom l i r
  | [], i, _, _, _ => rfl
  | x :: r, i, h, hf, hi => by
    obtain ⟨h1, h2, h3, _⟩ := take_next h
    have he := next_eq hf (by omega) x
    unfold checkRFrom checkFrom
    rw [he]
    split
    · rfl
    · rename_i hz
      rw [ne_eq, Decidable.not_not] at hz
      refine checkFrom_eq l r (i + 1) h2 ?_ (by have := next_short hz; omega)
      rw [h1]
      intro y hy
      rcases List.mem_append.1 hy with hy | hy
      · exact hf y hy
      · rw [List.mem_singleton.1 hy]; exact next_formed hz
theorem check_eq (l : List Ent) : checkR l = check l := checkFrom_eq l l 0 rfl (by intro y hy; simp at hy) (by omega)

end Pe
end Go.Proofs.YtnphlekailodkaaGreatDoor
