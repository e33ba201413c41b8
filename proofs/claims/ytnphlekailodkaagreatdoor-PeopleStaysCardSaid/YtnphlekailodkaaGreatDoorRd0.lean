/-
  Reading a line, in plain Lean.
-/
import Derived.Test.YtnphlekailodkaaGreatDoorLn
namespace Go.Proofs.YtnphlekailodkaaGreatDoor
open Go.RowKit

namespace Pe
/-- An entry with another field at a place. -/
def Ent.set (x : Ent) (o : Nat) (v : Int) : Ent :=
  match o with
  | 2 => { x with since := v }
  | 3 => { x with til := v }
  | 4 => { x with person := v }
  | 5 => { x with place := v }
  | 6 => { x with other := v }
  | 7 => { x with at_ := v }
  | 8 => { x with order := v }
  | _ => x
/-- The numbers of a line, read into places. -/
def readNums : List Nat → Ent → List UInt8 → Option (Ent × List UInt8)
  | [], x, l => some (x, l)
  | o :: r, x, l => match num? (cut1 l).1 with
    | none => none
    | some v => readNums r (x.set o v) (cut1 l).2
/-- The kind with a word; 0 if there is none. -/
def kindOf (s : List UInt8) : Nat := if s = word 1 then 1 else if s = word 2 then 2 else if s = word 3 then 3 else if s = word 4 then 4 else if s = word 5 then 5 else if s = word 6 then 6 else if s = word 7 then 7 else 0
theorem kindOf_iff {s : List UInt8} {k : Nat} (h1 : 1 ≤ k) (h7 : k ≤ 7) : kindOf s = k ↔ s = word k := by
  obtain rfl | rfl | rfl | rfl | rfl | rfl | rfl : k = 1 ∨ k = 2 ∨ k = 3 ∨ k = 4 ∨ k = 5 ∨ k = 6 ∨ k = 7 := by omega
  all_goals
    constructor
    · intro h
      unfold kindOf at h
      repeat' split at h
      all_goals first | assumption | omega
    · rintro rfl; decide
theorem kindOf_le (s : List UInt8) : kindOf s ≤ 7 := by
  unfold kindOf
  repeat' split
  all_goals omega
/-- What stands in a line, if it has the form of one. -/
def parse (l : List UInt8) : Option Ent :=
  match num? (cut1 l).1 with
  | none => none
  | some d =>
    let K := kindOf (cut1 (cut1 l).2).1
    match readNums (offs K) { zero with day := d, kind := K } (cut1 (cut1 l).2).2 with
    | none => none
    | some (x, r) => some (if K = 1 then { x with name := r } else x)
/-- What Read returns. -/
def readP (l : List UInt8) : Ent × Int :=
  match parse l with
  | none => (zero, 4)
  | some x => if formed x = 0 ∧ line x = l then (x, 0) else (zero, 4)
theorem set_kind (x : Ent) (o : Nat) (v : Int) : (x.set o v).kind = x.kind := by
  unfold Ent.set; split <;> rfl
theorem set_name (x : Ent) (o : Nat) (v : Int) : (x.set o v).name = x.name := by
  unfold Ent.set; split <;> rfl
theorem readNums_kind : ∀ (os : List Nat) (x : Ent) (l : List UInt8) (y : Ent) (r : List UInt8), readNums os x l = some (y, r) → y.kind = x.kind
  | [], x, l, y, r, h => by simp only [readNums, Option.some.injEq, Prod.mk.injEq] at h; rw [h.1]
  | o :: os, x, l, y, r, h => by
    unfold readNums at h
    split at h
    · cases h
    · rw [readNums_kind os _ _ _ _ h, set_kind]
end Pe
theorem eCells_set (x : Pe.Ent) (k : Nat) (v : Int) : ∀ o ∈ Pe.offs k, (eCells x).setIfInBounds o (.int .i64 v) = eCells (x.set o v) := by
  intro o ho
  have : o = 2 ∨ o = 3 ∨ o = 4 ∨ o = 5 ∨ o = 6 ∨ o = 7 ∨ o = 8 := by
    unfold Pe.offs at ho
    split at ho <;> simp at ho <;> omega
  rcases this with rfl | rfl | rfl | rfl | rfl | rfl | rfl <;> rfl
theorem eCells_kind (x : Pe.Ent) (k : Nat) : (eCells x).setIfInBounds 1 (.int .u8 (k : Int)) = eCells { x with kind := k } := rfl
theorem eCells_name (x : Pe.Ent) (r : List UInt8) : (eCells x).setIfInBounds 9 (.string (bs r)) = eCells { x with name := r } := rfl

end Go.Proofs.YtnphlekailodkaaGreatDoor
