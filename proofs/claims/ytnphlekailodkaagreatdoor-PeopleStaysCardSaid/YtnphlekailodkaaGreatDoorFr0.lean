/-
  The reference's places and lives, in plain Lean: a number put into a sorted list, each once.
-/
import Derived.Test.YtnphlekailodkaaGreatDoorFo
namespace Go.Proofs.YtnphlekailodkaaGreatDoor
namespace Pe

/-- A number put before the first one that is not less; not again if it is there. -/
def ins (n : Int) : List Int → List Int
  | [] => [n]
  | x :: r => if n ≤ x then (if n = x then x :: r else n :: x :: r) else x :: ins n r
theorem mem_ins (n z : Int) : ∀ l : List Int, z ∈ ins n l ↔ z = n ∨ z ∈ l
  | [] => by simp [ins]
  | x :: r => by
    unfold ins
    split
    · split
      · rename_i h; subst h; simp
      · simp
    · rw [List.mem_cons, mem_ins n z r, List.mem_cons]
      constructor
      · rintro (h | h | h) <;> simp [h]
      · rintro (h | h | h) <;> simp [h]
theorem ins_less {n : Int} : ∀ {a : List Int} (b : List Int), (∀ x ∈ a, x < n) → ins n (a ++ b) = a ++ ins n b
  | [], b, _ => rfl
  | x :: a, b, h => by
    have hx := h x (by simp)
    have e : ins n (x :: (a ++ b)) = if n ≤ x then (if n = x then x :: (a ++ b) else n :: x :: (a ++ b)) else x :: ins n (a ++ b) := rfl
    rw [List.cons_append, e, if_neg (by omega), ins_less b (fun y hy => h y (by simp [hy])), List.cons_append]
theorem ins_done {n : Int} : ∀ {a : List Int} (b : List Int), (∃ x ∈ a, n ≤ x) → ins n (a ++ b) = ins n a ++ b
  | [], b, h => by obtain ⟨x, hx, _⟩ := h; cases hx
  | x :: a, b, h => by
    rw [List.cons_append]
    unfold ins
    by_cases hx : n ≤ x
    · rw [if_pos hx, if_pos hx]
      split <;> rfl
    · rw [if_neg hx, if_neg hx]
      obtain ⟨y, hy, hn⟩ := h
      rcases List.mem_cons.1 hy with rfl | hy
      · exact absurd hn hx
      · rw [ins_done b ⟨y, hy, hn⟩]; rfl
theorem ins_length (n : Int) : ∀ l : List Int, (ins n l).length ≤ l.length + 1
  | [] => by simp [ins]
  | x :: r => by
    unfold ins
    have := ins_length n r
    split
    · split <;> simp
    · simp; omega
/-- The numbers of some entries, each once, in ascending order. -/
def gather (f : Ent → Int) (q : Ent → Bool) (l : List Ent) : List Int := l.foldl (fun o x => if q x = true then ins (f x) o else o) []
theorem gather_snoc (f : Ent → Int) (q : Ent → Bool) (l : List Ent) (x : Ent) : gather f q (l ++ [x]) = if q x = true then ins (f x) (gather f q l) else gather f q l := by
  unfold gather; rw [List.foldl_append]; rfl
theorem mem_gather_from (f : Ent → Int) (q : Ent → Bool) (z : Int) : ∀ (l : List Ent) (o : List Int), z ∈ l.foldl (fun o x => if q x = true then ins (f x) o else o) o ↔ z ∈ o ∨ ∃ x ∈ l, q x = true ∧ f x = z
  | [], o => by simp
  | x :: r, o => by
    rw [List.foldl_cons, mem_gather_from f q z r]
    by_cases hq : q x = true
    · rw [if_pos hq, mem_ins]
      constructor
      · rintro ((h | h) | ⟨y, hy, h⟩)
        · exact .inr ⟨x, by simp, hq, h.symm⟩
        · exact .inl h
        · exact .inr ⟨y, by simp [hy], h⟩
      · rintro (h | ⟨y, hy, h1, h2⟩)
        · exact .inl (.inr h)
        · rcases List.mem_cons.1 hy with rfl | hy
          · exact .inl (.inl h2.symm)
          · exact .inr ⟨y, hy, h1, h2⟩
    · rw [if_neg hq]
      constructor
      · rintro (h | ⟨y, hy, h⟩)
        · exact .inl h
        · exact .inr ⟨y, by simp [hy], h⟩
      · rintro (h | ⟨y, hy, h1, h2⟩)
        · exact .inl h
        · rcases List.mem_cons.1 hy with rfl | hy
          · exact absurd h1 hq
          · exact .inr ⟨y, hy, h1, h2⟩
theorem mem_gather (f : Ent → Int) (q : Ent → Bool) (l : List Ent) (z : Int) : z ∈ gather f q l ↔ ∃ x ∈ l, q x = true ∧ f x = z := by
  unfold gather; rw [mem_gather_from]; simp
theorem gather_length (f : Ent → Int) (q : Ent → Bool) (l : List Ent) : (gather f q l).length ≤ l.length := by
  have h : ∀ (l : List Ent) (o : List Int), (l.foldl (fun o x => if q x = true then ins (f x) o else o) o).length ≤ o.length + l.length := by
    intro l
    induction l with
    | nil => intro o; simp
    | cons x r ih =>
      intro o
      have := ih (if q x = true then ins (f x) o else o)
      have h2 := ins_length (f x) o
      rw [List.foldl_cons]
      refine Nat.le_trans this ?_
      split <;> simp <;> omega
  simpa [gather] using h l []
/-- The places of a person: the reference's word. -/
def placesR (l : List Ent) (p d : Int) : List Int := if dead l p d = true then [] else gather (·.place) (fun x => x.kind == 2 && x.person == p && x.on d) l
theorem lives_places (l : List Ent) (c : Pair) (d : Int) : lives l c d = (placesR l c.1 d).contains c.2 := by
  rw [lives_eq]
  unfold livesR placesR
  cases hd : dead l c.1 d
  · rw [if_neg (by simp), Bool.eq_iff_iff, List.contains_iff_mem, mem_gather, Bool.not_false, Bool.true_and, List.any_eq_true]
    constructor
    · rintro ⟨x, hx, h⟩
      rw [Bool.and_eq_true, beq_iff_eq] at h
      exact ⟨x, hx, h⟩
    · rintro ⟨x, hx, h⟩
      exact ⟨x, hx, by rw [Bool.and_eq_true, beq_iff_eq]; exact h⟩
  · rw [if_pos rfl]; rfl
end Pe
end Go.Proofs.YtnphlekailodkaaGreatDoor
