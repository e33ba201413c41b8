/-
  The line of an entry, in plain Lean.
-/
import Derived.Test.YtnphlekailodkaaGreatDoorLb
import Derived.Test.YtnphlekailodkaaGreatDoorVf
import Derived.Lib.ItoaLen
namespace Go.Proofs.YtnphlekailodkaaGreatDoor
open Go.RowKit

theorem bs_append (a b : List UInt8) : bs a ++ bs b = bs (a ++ b) := by
  apply ByteArray.ext
  simp [bs]
namespace Pe
/-- A field by its place. -/
def Ent.get (x : Ent) : Nat → Int
  | 0 => x.day
  | 2 => x.since
  | 3 => x.til
  | 4 => x.person
  | 5 => x.place
  | 6 => x.other
  | 7 => x.at_
  | 8 => x.order
  | _ => 0
/-- The texts of fields, each behind a blank. -/
def nums (x : Ent) (l : List Nat) : List UInt8 := l.flatMap fun o => 32 :: dec (x.get o)
def head (x : Ent) : List UInt8 := dec x.day ++ [32] ++ word x.kind
def tail (x : Ent) : List UInt8 := if x.kind = 1 then 32 :: x.name else []
/-- The line of an entry. -/
def line (x : Ent) : List UInt8 := head x ++ nums x (offs x.kind) ++ tail x
theorem nums_snoc (x : Ent) (l : List Nat) (o : Nat) : nums x (l ++ [o]) = nums x l ++ (32 :: dec (x.get o)) := by simp [nums]

/-- What a formed entry is. -/
structure Fine (x : Ent) : Prop where
  kind1 : 1 ≤ x.kind
  kind7 : x.kind ≤ 7
  low : ∀ o, 0 ≤ x.get o
  high : ∀ o, x.get o ≤ 1000000
  isn : x.kind = 1 → isName x.name = true
  non : x.kind ≠ 1 → x.name = []
  same : fieldsR x = x
theorem isId_range {n : Int} (h : isId n = true) : 0 ≤ n ∧ n ≤ 1000000 := by
  simp only [isId, Bool.and_eq_true, decide_eq_true_eq] at h; omega
theorem idOr'_range {n : Int} (h : idOr' n = true) : 0 ≤ n ∧ n ≤ 1000000 := by
  simp only [idOr', Bool.and_eq_true, decide_eq_true_eq] at h; omega
theorem get_cases (x : Ent) (o : Nat) : x.get o = x.day ∨ x.get o = x.since ∨ x.get o = x.til ∨ x.get o = x.person ∨ x.get o = x.place ∨ x.get o = x.other ∨ x.get o = x.at_ ∨ x.get o = x.order ∨ x.get o = 0 := by
  unfold Ent.get; split <;> simp
theorem fine {x : Ent} (h : formed x = 0) : Fine x := by
  rw [← formed_eq] at h
  unfold formedR at h
  split at h
  · cases h
  rename_i hd
  simp only [not_or, Bool.not_eq_false, ne_eq, Decidable.not_not] at hd
  obtain ⟨hd, hr, hf⟩ := hd
  have hn : x.kind = 1 → isName x.name = true := fun hk => by
    by_cases hh : x.kind = 1 ∧ isName x.name = false
    · rw [if_pos hh] at h; cases h
    · cases hi : isName x.name with
      | true => rfl
      | false => exact absurd ⟨hk, hi⟩ hh
  clear h
  have hdays : 0 ≤ x.day ∧ x.day ≤ 100000 ∧ 0 ≤ x.since ∧ x.since ≤ 100000 ∧ 0 ≤ x.til ∧ x.til ≤ 100000 := by
    simp only [daysR, Bool.and_eq_true, Bool.or_eq_true, decide_eq_true_eq, beq_iff_eq] at hd
    omega
  have hk : 1 ≤ x.kind ∧ x.kind ≤ 7 := by
    by_cases h1 : 1 ≤ x.kind ∧ x.kind ≤ 7
    · exact h1
    · exfalso
      have hz : x.kind = 0 ∨ ∃ m, x.kind = m + 8 := by
        by_cases h0 : x.kind = 0
        · exact .inl h0
        · exact .inr ⟨x.kind - 8, by omega⟩
      unfold rangedR at hr
      rcases hz with hz | ⟨m, hz⟩
      · rw [hz] at hr; cases hr
      · rw [hz] at hr; cases hr
  have key : (0 ≤ x.person ∧ x.person ≤ 1000000) ∧ (0 ≤ x.place ∧ x.place ≤ 1000000) ∧ (0 ≤ x.other ∧ x.other ≤ 1000000) ∧ (0 ≤ x.at_ ∧ x.at_ ≤ 1000000) ∧ (0 ≤ x.order ∧ x.order ≤ 1000000) ∧ (x.kind ≠ 1 → x.name = []) := by
    obtain ⟨day, kind, since, til, person, place, other, at_, order, name⟩ := x
    dsimp only at *
    obtain rfl | rfl | rfl | rfl | rfl | rfl | rfl : kind = 1 ∨ kind = 2 ∨ kind = 3 ∨ kind = 4 ∨ kind = 5 ∨ kind = 6 ∨ kind = 7 := by omega
    all_goals
      simp only [rangedR, fieldsR, zero, Bool.and_eq_true, Ent.mk.injEq] at hr hf
      refine ⟨?_, ?_, ?_, ?_, ?_, ?_⟩
      all_goals first
        | exact isId_range (by first | exact hr | exact hr.1 | exact hr.2 | exact hr.1.1 | exact hr.1.2 | exact hr.1.1.1 | exact hr.1.1.2 | exact hr.1.1.1.1 | exact hr.1.1.1.2)
        | exact idOr'_range (by first | exact hr | exact hr.1 | exact hr.2 | exact hr.1.1 | exact hr.1.2 | exact hr.1.1.1 | exact hr.1.1.2 | exact hr.1.1.1.1 | exact hr.1.1.1.2)
        | (intro hh; first | exact absurd rfl hh | (have := hf; simp_all))
        | (have := hf; simp_all; omega)
        | (have := hf; simp_all)
  refine ⟨hk.1, hk.2, fun o => ?_, fun o => ?_, hn, key.2.2.2.2.2, hf.symm⟩
  · rcases get_cases x o with e | e | e | e | e | e | e | e | e <;> rw [e] <;> omega
  · rcases get_cases x o with e | e | e | e | e | e | e | e | e <;> rw [e] <;> omega
end Pe
theorem eCells_get (x : Pe.Ent) (k : Nat) : ∀ o ∈ Pe.offs k, (eCells x)[o]? = some (.int .i64 (x.get o)) := by
  intro o ho
  have : o = 2 ∨ o = 3 ∨ o = 4 ∨ o = 5 ∨ o = 6 ∨ o = 7 ∨ o = 8 := by
    unfold Pe.offs at ho
    split at ho <;> simp at ho <;> omega
  rcases this with rfl | rfl | rfl | rfl | rfl | rfl | rfl <;> rfl
theorem dec_length (n : Int) (h0 : -9223372036854775808 ≤ n) (h1 : n ≤ 9223372036854775807) : (dec n).length ≤ 21 := Lib.itoa_length_le n h0 h1

end Go.Proofs.YtnphlekailodkaaGreatDoor
