/-
  Names and persons, in plain Lean: lists without what is equal to its neighbour, names put into sorted lists; what the directory sorts is what the reference gathers. No program in sight. Numbers and names sorted, each once; Persons of the directory, walked. The reference's AddedName, Persons, Names, Called and SameStrings, walked; Persons of the directory. The reference's Names, Called and SameStrings, walked. Persons, of the reference and of the directory, walked. Names and Called of the directory, walked.
-/
import Derived.Test.YtnphlekailodkaaGreatDoorFr1
import Derived.Lib.SlicesCompact
import Derived.Test.YtnphlekailodkaaGreatDoorLz
import Derived.Test.YtnphlekailodkaaGreatDoorSh2
import Derived.Test.YtnphlekailodkaaGreatDoorRp5
import Derived.Deep.QuietTactic
import Derived.BigQuiet
import Derived.Sort.Walk0
import Derived.Test.YtnphlekailodkaaGreatDoorPz
namespace Go.Proofs.YtnphlekailodkaaGreatDoor
namespace Pe
open Go.Lib

section
variable {α : Type} [Inhabited α] [DecidableEq α]
theorem mem_uniq {zs : List α} {z : α} : z ∈ Lib.compact zs ↔ z ∈ zs := by
  unfold Lib.compact compactUpTo
  simp only [List.mem_map, List.mem_filter, List.mem_range]
  constructor
  · rintro ⟨j, ⟨hj, _⟩, rfl⟩
    rw [getElem!_pos zs.toArray j (by simpa using hj)]
    simp
  · intro hz
    obtain ⟨j, hj, he⟩ := List.getElem_of_mem hz
    suffices hh : ∀ j, (hj : j < zs.length) → zs[j] = z → ∃ a, (a < zs.length ∧ keeps zs.toArray a = true) ∧ zs.toArray[a]! = z from hh j hj he
    intro j
    induction j with
    | zero =>
      intro hj he
      exact ⟨0, ⟨hj, keeps_lt_one _ 0 (by omega)⟩, by rw [getElem!_pos zs.toArray 0 (by simpa using hj)]; simpa using he⟩
    | succ j ih =>
      intro hj he
      cases hk : keeps zs.toArray (j + 1)
      · refine ih (by omega) ?_
        unfold keeps at hk
        simp only [Nat.add_one_ne_zero, false_or, decide_not, Nat.add_sub_cancel, Bool.not_eq_false', decide_eq_true_eq] at hk
        rw [getElem!_pos zs.toArray (j + 1) (by simpa using hj), getElem!_pos zs.toArray j (by simp; omega)] at hk
        simp only [List.getElem_toArray] at hk
        rw [← hk]; exact he
      · exact ⟨j + 1, ⟨hj, hk⟩, by rw [getElem!_pos zs.toArray (j + 1) (by simpa using hj)]; simpa using he⟩
theorem uniq_le (zs : List α) : (Lib.compact zs).length ≤ zs.length := by
  unfold Lib.compact compactUpTo
  rw [List.length_map]
  have := List.length_filter_le (keeps zs.toArray) (List.range zs.length)
  simpa using this
theorem uniq_strict {lt : α → α → Prop} {zs : List α} (hs : zs.Pairwise fun a b => ¬ lt b a) (tri : ∀ a b, ¬ lt b a → a ≠ b → lt a b) (tr : ∀ a b c, ¬ lt b a → lt b c → lt a c) : (Lib.compact zs).Pairwise lt := by
  unfold Lib.compact compactUpTo
  rw [List.pairwise_map]
  have hr : ((List.range zs.length).filter (keeps zs.toArray)).Pairwise (· < ·) := List.pairwise_lt_range.filter _
  refine List.Pairwise.imp_of_mem ?_ hr
  intro i j hi hj hij
  rw [List.mem_filter, List.mem_range] at hi hj
  obtain ⟨hj1, hk⟩ := hj
  have hi1 := hi.1
  unfold keeps at hk
  rw [decide_eq_true_eq] at hk
  have hne := hk.resolve_left (by omega)
  rw [getElem!_pos zs.toArray j (by simpa using hj1), getElem!_pos zs.toArray (j - 1) (by simp; omega)] at hne
  rw [getElem!_pos zs.toArray i (by simpa using hi1), getElem!_pos zs.toArray j (by simpa using hj1)]
  simp only [List.getElem_toArray] at hne ⊢
  rw [List.pairwise_iff_getElem] at hs
  have h1 : lt zs[j - 1] zs[j] := tri _ _ (hs (j - 1) j (by omega) hj1 (by omega)) (fun e => hne e.symm)
  by_cases hij2 : i = j - 1
  · subst hij2; exact h1
  · exact tr _ _ _ (hs i (j - 1) hi1 (by omega) (by omega)) h1
end

/-- Numbers in ascending order, each once. -/
def uniqI (l : List Int) : List Int := Lib.compact (l.mergeSort fun x y => decide (x ≤ y))
theorem mem_uniqI (l : List Int) (z : Int) : z ∈ uniqI l ↔ z ∈ l := by unfold uniqI; rw [mem_uniq, List.mem_mergeSort]
theorem uniqI_sorted (l : List Int) : (uniqI l).Pairwise (· < ·) := by
  unfold uniqI
  refine uniq_strict ?_ (fun a b h1 h2 => by omega) (fun a b c h1 h2 => by omega)
  have := List.pairwise_mergeSort (le := fun x y : Int => decide (x ≤ y)) (fun a b c h1 h2 => by simp at *; omega) (fun a b => by simp; omega) l
  refine this.imp fun h => ?_
  simp at h
  omega
theorem uniqI_eq {l r : List Int} (h : r.Pairwise (· < ·)) (hm : ∀ z, z ∈ r ↔ z ∈ l) : uniqI l = r :=
  sorted_ext (r := (· < ·)) int_irr int_tr (uniqI_sorted l) h (fun z => by rw [mem_uniqI, hm])
/-- Names in ascending order, each once. -/
def uniqS (l : List (List UInt8)) : List (List UInt8) := Lib.compact (l.mergeSort fun x y => decide (x ≤ y))
theorem mem_uniqS (l : List (List UInt8)) (z : List UInt8) : z ∈ uniqS l ↔ z ∈ l := by unfold uniqS; rw [mem_uniq, List.mem_mergeSort]
theorem str_lt {a b : List UInt8} (h : a ≤ b) (h2 : a ≠ b) : a < b := by
  rcases List.le_iff_lt_or_eq.1 h with h | h
  · exact h
  · exact absurd h h2
theorem uniqS_sorted (l : List (List UInt8)) : (uniqS l).Pairwise (· < ·) := by
  unfold uniqS
  refine uniq_strict ?_ (fun a b h1 h2 => str_lt (List.not_lt.1 h1) h2) (fun a b c h1 h2 => List.lt_of_le_of_lt (List.not_lt.1 h1) h2)
  have := List.pairwise_mergeSort (le := fun x y : List UInt8 => decide (x ≤ y)) (fun a b c h1 h2 => by simp only [decide_eq_true_eq] at *; exact List.le_trans h1 h2) (fun a b => by simp only [Bool.or_eq_true, decide_eq_true_eq]; exact List.le_total a b) l
  refine this.imp fun h => ?_
  rw [decide_eq_true_eq] at h
  exact List.not_lt.2 h
theorem uniqS_eq {l r : List (List UInt8)} (h : r.Pairwise (· < ·)) (hm : ∀ z, z ∈ r ↔ z ∈ l) : uniqS l = r :=
  sorted_ext (r := (· < ·)) (fun a => List.lt_irrefl a) (fun a b c h1 h2 => List.lt_trans h1 h2) (uniqS_sorted l) h (fun z => by rw [mem_uniqS, hm])

/-- A name put before the first one that is not less; not again if it is there. -/
def insS (n : List UInt8) : List (List UInt8) → List (List UInt8)
  | [] => [n]
  | x :: r => if n ≤ x then (if n = x then x :: r else n :: x :: r) else x :: insS n r
theorem mem_insS (n z : List UInt8) : ∀ l : List (List UInt8), z ∈ insS n l ↔ z = n ∨ z ∈ l
  | [] => by simp [insS]
  | x :: r => by
    unfold insS
    split
    · split
      · rename_i h; subst h; simp
      · simp
    · rw [List.mem_cons, mem_insS n z r, List.mem_cons]
      constructor
      · rintro (h | h | h) <;> simp [h]
      · rintro (h | h | h) <;> simp [h]
theorem insS_less {n : List UInt8} : ∀ {a : List (List UInt8)} (b : List (List UInt8)), (∀ x ∈ a, ¬ n ≤ x) → insS n (a ++ b) = a ++ insS n b
  | [], b, _ => rfl
  | x :: a, b, h => by
    have hx := h x (by simp)
    have e : insS n (x :: (a ++ b)) = if n ≤ x then (if n = x then x :: (a ++ b) else n :: x :: (a ++ b)) else x :: insS n (a ++ b) := rfl
    rw [List.cons_append, e, if_neg hx, insS_less b (fun y hy => h y (by simp [hy])), List.cons_append]
theorem insS_done {n : List UInt8} : ∀ {a : List (List UInt8)} (b : List (List UInt8)), (∃ x ∈ a, n ≤ x) → insS n (a ++ b) = insS n a ++ b
  | [], b, h => by obtain ⟨x, hx, _⟩ := h; cases hx
  | x :: a, b, h => by
    rw [List.cons_append]
    unfold insS
    by_cases hx : n ≤ x
    · rw [if_pos hx, if_pos hx]
      split <;> rfl
    · rw [if_neg hx, if_neg hx]
      obtain ⟨y, hy, hn⟩ := h
      rcases List.mem_cons.1 hy with rfl | hy
      · exact absurd hn hx
      · rw [insS_done b ⟨y, hy, hn⟩]; rfl
theorem insS_length (n : List UInt8) : ∀ l : List (List UInt8), (insS n l).length ≤ l.length + 1
  | [] => by simp [insS]
  | x :: r => by
    unfold insS
    have := insS_length n r
    split
    · split <;> simp
    · simp; omega
theorem insS_sorted (n : List UInt8) : ∀ {l : List (List UInt8)}, l.Pairwise (· < ·) → (insS n l).Pairwise (· < ·)
  | [], _ => by simp [insS]
  | x :: r, h => by
    have h' := h
    rw [List.pairwise_cons] at h
    unfold insS
    split
    · rename_i hle
      split
      · exact h'
      · rename_i hne
        have hlt := str_lt hle hne
        rw [List.pairwise_cons]
        refine ⟨fun z hz => ?_, h'⟩
        rcases List.mem_cons.1 hz with rfl | hz
        · exact hlt
        · exact List.lt_trans hlt (h.1 z hz)
    · rename_i hlt
      rw [List.pairwise_cons]
      refine ⟨fun z hz => ?_, insS_sorted n h.2⟩
      rcases (mem_insS n z r).1 hz with rfl | hz
      · exact List.not_le.1 hlt
      · exact h.1 z hz
/-- The names of some entries, each once, in ascending order. -/
def gatherS (q : Ent → Bool) (l : List Ent) : List (List UInt8) := l.foldl (fun o x => if q x = true then insS x.name o else o) []
theorem gatherS_snoc (q : Ent → Bool) (l : List Ent) (x : Ent) : gatherS q (l ++ [x]) = if q x = true then insS x.name (gatherS q l) else gatherS q l := by
  unfold gatherS; rw [List.foldl_append]; rfl
theorem mem_gatherS_from (q : Ent → Bool) (z : List UInt8) : ∀ (l : List Ent) (o : List (List UInt8)), z ∈ l.foldl (fun o x => if q x = true then insS x.name o else o) o ↔ z ∈ o ∨ ∃ x ∈ l, q x = true ∧ x.name = z
  | [], o => by simp
  | x :: r, o => by
    rw [List.foldl_cons, mem_gatherS_from q z r]
    by_cases hq : q x = true
    · rw [if_pos hq, mem_insS]
      constructor
      · rintro ((h | h) | ⟨y, hy, h⟩)
        · exact .inr ⟨x, by simp, hq, h.symm⟩
        · exact .inl h
        · exact .inr ⟨y, by simp [hy], h⟩
      · rintro (h | ⟨y, hy, h1, h2⟩)
        · exact .inl (.inr h)
        · rcases List.mem_cons.1 hy with rfl | hy
          · exact .inl (.inl h2.symm)
          · exact .inr ⟨y, hy, h1, h2⟩
    · rw [if_neg hq]
      constructor
      · rintro (h | ⟨y, hy, h⟩)
        · exact .inl h
        · exact .inr ⟨y, by simp [hy], h⟩
      · rintro (h | ⟨y, hy, h1, h2⟩)
        · exact .inl h
        · rcases List.mem_cons.1 hy with rfl | hy
          · exact absurd h1 hq
          · exact .inr ⟨y, hy, h1, h2⟩
theorem mem_gatherS (q : Ent → Bool) (l : List Ent) (z : List UInt8) : z ∈ gatherS q l ↔ ∃ x ∈ l, q x = true ∧ x.name = z := by
  unfold gatherS; rw [mem_gatherS_from]; simp
theorem gatherS_sorted (q : Ent → Bool) (l : List Ent) : (gatherS q l).Pairwise (· < ·) := by
  have h : ∀ (l : List Ent) (o : List (List UInt8)), o.Pairwise (· < ·) → (l.foldl (fun o x => if q x = true then insS x.name o else o) o).Pairwise (· < ·) := by
    intro l
    induction l with
    | nil => intro o ho; exact ho
    | cons x r ih =>
      intro o ho
      rw [List.foldl_cons]
      refine ih _ ?_
      split
      · exact insS_sorted _ ho
      · exact ho
  exact h l [] List.Pairwise.nil
theorem gatherS_on {q : Ent → Bool} {l : List Ent} {i : Nat} {x : Ent} (h : l[i]? = some x) (hq : q x = false) : gatherS q (l.take (i + 1)) = gatherS q (l.take i) := by
  rw [List.take_add_one, h]
  show gatherS q (l.take i ++ [x]) = _
  rw [gatherS_snoc, if_neg (by rw [hq]; simp)]
theorem gatherS_put {q : Ent → Bool} {l : List Ent} {i : Nat} {x : Ent} (h : l[i]? = some x) (hq : q x = true) : gatherS q (l.take (i + 1)) = insS x.name (gatherS q (l.take i)) := by
  rw [List.take_add_one, h]
  show gatherS q (l.take i ++ [x]) = _
  rw [gatherS_snoc, if_pos hq]
theorem gatherS_length (q : Ent → Bool) (l : List Ent) : (gatherS q l).length ≤ l.length := by
  have h : ∀ (l : List Ent) (o : List (List UInt8)), (l.foldl (fun o x => if q x = true then insS x.name o else o) o).length ≤ o.length + l.length := by
    intro l
    induction l with
    | nil => intro o; simp
    | cons x r ih =>
      intro o
      have := ih (if q x = true then insS x.name o else o)
      have h2 := insS_length x.name o
      rw [List.foldl_cons]
      refine Nat.le_trans this ?_
      split <;> simp <;> omega
  simpa [gatherS] using h l []
/-- All persons who have names. -/
def persons (l : List Ent) : List Int := gather (·.person) (fun x => x.kind == 1) l
/-- The names of a person on a day. -/
def names (l : List Ent) (p d : Int) : List (List UInt8) := gatherS (fun x => x.kind == 1 && x.person == p && x.on d) l
/-- The persons with a name on a day. -/
def calledS (l : List Ent) (s : List UInt8) (d : Int) : List Int := gather (·.person) (fun x => x.kind == 1 && x.name == s && x.on d) l
theorem persons_eq (l : List Ent) : uniqI ((l.filter fun x => x.kind == 1).map (·.person)) = persons l := by
  refine uniqI_eq (gather_sorted _ _ _) (fun z => ?_)
  rw [persons, mem_gather, List.mem_map]
  constructor
  · rintro ⟨x, hx, h1, h2⟩
    exact ⟨x, List.mem_filter.2 ⟨hx, h1⟩, h2⟩
  · rintro ⟨x, hx, h2⟩
    exact ⟨x, (List.mem_filter.1 hx).1, (List.mem_filter.1 hx).2, h2⟩
theorem names_eq (l : List Ent) (p d : Int) : uniqS (((onDay l 1 d).filter fun x => x.person == p).map (·.name)) = names l p d := by
  refine uniqS_eq (gatherS_sorted _ _) (fun z => ?_)
  rw [names, mem_gatherS, List.mem_map]
  constructor
  · rintro ⟨x, hx, h1, h2⟩
    simp only [Bool.and_eq_true] at h1
    exact ⟨x, List.mem_filter.2 ⟨List.mem_filter.2 ⟨hx, by rw [h1.1.1, h1.2]; rfl⟩, h1.1.2⟩, h2⟩
  · rintro ⟨x, hx, h2⟩
    obtain ⟨h3, h4⟩ := List.mem_filter.1 hx
    obtain ⟨h5, h6⟩ := List.mem_filter.1 h3
    simp only [Bool.and_eq_true] at h6
    exact ⟨x, h5, by rw [h6.1, h6.2, h4]; rfl, h2⟩
theorem calledS_eq (l : List Ent) (s : List UInt8) (d : Int) : uniqI (((onDay l 1 d).filter fun x => x.name == s).map (·.person)) = calledS l s d := by
  refine uniqI_eq (gather_sorted _ _ _) (fun z => ?_)
  rw [calledS, mem_gather, List.mem_map]
  constructor
  · rintro ⟨x, hx, h1, h2⟩
    simp only [Bool.and_eq_true] at h1
    exact ⟨x, List.mem_filter.2 ⟨List.mem_filter.2 ⟨hx, by rw [h1.1.1, h1.2]; rfl⟩, h1.1.2⟩, h2⟩
  · rintro ⟨x, hx, h2⟩
    obtain ⟨h3, h4⟩ := List.mem_filter.1 hx
    obtain ⟨h5, h6⟩ := List.mem_filter.1 h3
    simp only [Bool.and_eq_true] at h6
    exact ⟨x, h5, by rw [h6.1, h6.2, h4]; rfl, h2⟩

end Pe
end Go.Proofs.YtnphlekailodkaaGreatDoor

namespace Go.Proofs
open Go.Shelf Go.RowKit Go.Lib Go.Sort
namespace YtnphlekailodkaaGreatDoor

/-- The cells of a list of names. -/
def sRow (l : List (List UInt8)) : List Value := l.map fun s => Value.string (bs s)
theorem sRow_snoc (l : List (List UInt8)) (v : List UInt8) : sRow (l ++ [v]) = sRow l ++ [.string (bs v)] := by simp [sRow]
theorem infoStrN : (Tryz.prog.info? 9).map (fun i => (i.zero, i.size, i.bytes)) = some (some (.string ⟨#[]⟩), 1, 16) := by kernel_rfl
theorem SortI_calls {W : World} {base : Nat} {v : Value} {l : List (Int)} (h : W.ownsRow base 3 1 v l.length (nRow l)) (hn : l.length < 4611686018427387904) :
    Calls Tryz.prog 101 #[v] W fun e w' => e = .returned (.tuple #[]) ∧ w'.ownsRow base 3 1 v l.length (nRow (l.mergeSort fun x y => decide (x ≤ y))) ∧ Chg (fun i => v.ownBlock = some i) W w' := by
  by_cases h0 : l.length = 0
  · have hl : l = [] := List.eq_nil_of_length_eq_zero h0
    subst hl
    obtain ⟨A, cap, rfl, _⟩ := own_shape h
    refine (AnyG.slices_Sort_int_none laysSortI A cap W).mono ?_
    rintro e w' ⟨rfl, rfl⟩
    exact ⟨rfl, by simpa using h, Chg.refl _ _⟩
  · obtain ⟨g, cap, rfl, hbg, hlt, hnc, hcm⟩ := own_form h (by omega)
    have hcon := AnyG.slices_Sort_int laysSortI g 0 cap l W (own_holds1 (enc := (Value.int .i64)) h) hlt hn
    refine hcon.mono ?_
    rintro e w' ⟨rfl, m, os, rfl⟩
    have hso := sort_own (enc := (Value.int .i64)) h m (l.mergeSort fun x y => decide (x ≤ y)).toArray os (by simp)
    exact ⟨rfl, hso.1, hso.2.mono (fun i _ hi => by subst hi; rfl)⟩
theorem SortS_calls {W : World} {base : Nat} {v : Value} {l : List (List UInt8)} (h : W.ownsRow base 9 1 v l.length (sRow l)) (hn : l.length < 4611686018427387904) :
    Calls Tryz.prog 103 #[v] W fun e w' => e = .returned (.tuple #[]) ∧ w'.ownsRow base 9 1 v l.length (sRow (l.mergeSort fun x y => decide (x ≤ y))) ∧ Chg (fun i => v.ownBlock = some i) W w' := by
  by_cases h0 : l.length = 0
  · have hl : l = [] := List.eq_nil_of_length_eq_zero h0
    subst hl
    obtain ⟨A, cap, rfl, _⟩ := own_shape h
    refine (AnyG.slices_Sort_string_none laysSortS A cap W).mono ?_
    rintro e w' ⟨rfl, rfl⟩
    exact ⟨rfl, by simpa using h, Chg.refl _ _⟩
  · obtain ⟨g, cap, rfl, hbg, hlt, hnc, hcm⟩ := own_form h (by omega)
    have hcon := AnyG.slices_Sort_string laysSortS g 0 cap l W (own_holds1 (enc := encStr) h) hlt hn
    refine hcon.mono ?_
    rintro e w' ⟨rfl, m, os, rfl⟩
    have hso := sort_own (enc := encStr) h m (l.mergeSort fun x y => decide (x ≤ y)).toArray os (by simp)
    exact ⟨rfl, hso.1, hso.2.mono (fun i _ hi => by subst hi; rfl)⟩
theorem CompactI_calls {W : World} {base : Nat} {v : Value} {l : List (Int)} (h : W.ownsRow base 3 1 v l.length (nRow l)) (hn : l.length < 4611686018427387904) :
    Calls Tryz.prog 102 #[v] W fun e w' => ∃ v', e = .returned v' ∧ w'.ownsRow base 3 1 v' (Lib.compact l).length (nRow (Lib.compact l)) ∧ Chg (fun i => v.ownBlock = some i) W w' := by
  by_cases h0 : l.length = 0
  · have hl : l = [] := List.eq_nil_of_length_eq_zero h0
    subst hl
    obtain ⟨A, cap, rfl, _⟩ := own_shape h
    refine (AnyG.slices_Compact_int_empty laysCompactI A cap W).mono ?_
    rintro e w' ⟨rfl, rfl⟩
    exact ⟨_, rfl, h, Chg.refl _ _⟩
  · obtain ⟨g, cap, rfl, hbg, hlt, hnc, hcm⟩ := own_form h (by omega)
    have hcon := AnyG.slices_Compact_int laysCompactI g 0 cap l W (own_holds1 (enc := (Value.int .i64)) h) (by omega) hnc
    refine hcon.mono ?_
    rintro e w' ⟨rfl, m, rfl⟩
    have hle := Pe.uniq_le l
    have hso := sort_own (enc := (Value.int .i64)) h m (Lib.compact l ++ List.replicate (l.length - (Lib.compact l).length) 0).toArray #[] (by simp; omega)
    have hcut := own_cut hso.1 hle
    refine ⟨_, rfl, ?_, hso.2.mono (fun i _ hi => by subst hi; rfl)⟩
    have e1 : (((Lib.compact l ++ List.replicate (l.length - (Lib.compact l).length) 0).toArray.toList.map (Value.int .i64)).take (Lib.compact l).length) = nRow (Lib.compact l) := by
      rw [List.map_append, List.take_append_of_le_length (by simp), List.take_of_length_le (by simp)]
      rfl
    rw [e1] at hcut
    exact hcut
theorem CompactS_calls {W : World} {base : Nat} {v : Value} {l : List (List UInt8)} (h : W.ownsRow base 9 1 v l.length (sRow l)) (hn : l.length < 4611686018427387904) :
    Calls Tryz.prog 104 #[v] W fun e w' => ∃ v', e = .returned v' ∧ w'.ownsRow base 9 1 v' (Lib.compact l).length (sRow (Lib.compact l)) ∧ Chg (fun i => v.ownBlock = some i) W w' := by
  by_cases h0 : l.length = 0
  · have hl : l = [] := List.eq_nil_of_length_eq_zero h0
    subst hl
    obtain ⟨A, cap, rfl, _⟩ := own_shape h
    refine (AnyG.slices_Compact_string_empty laysCompactS A cap W).mono ?_
    rintro e w' ⟨rfl, rfl⟩
    exact ⟨_, rfl, h, Chg.refl _ _⟩
  · obtain ⟨g, cap, rfl, hbg, hlt, hnc, hcm⟩ := own_form h (by omega)
    have hcon := AnyG.slices_Compact_string laysCompactS g 0 cap l W (own_holds1 (enc := encStr) h) (by omega) hnc
    refine hcon.mono ?_
    rintro e w' ⟨rfl, m, rfl⟩
    have hle := Pe.uniq_le l
    have hso := sort_own (enc := encStr) h m (Lib.compact l ++ List.replicate (l.length - (Lib.compact l).length) []).toArray #[] (by simp; omega)
    have hcut := own_cut hso.1 hle
    refine ⟨_, rfl, ?_, hso.2.mono (fun i _ hi => by subst hi; rfl)⟩
    have e1 : (((Lib.compact l ++ List.replicate (l.length - (Lib.compact l).length) []).toArray.toList.map encStr).take (Lib.compact l).length) = sRow (Lib.compact l) := by
      rw [List.map_append, List.take_append_of_le_length (by simp), List.take_of_length_le (by simp)]
      rfl
    rw [e1] at hcut
    exact hcut

set_option maxRecDepth 1000000 in
set_option maxHeartbeats 4000000 in
theorem sortedI_calls {W : World} {base : Nat} {v : Value} {l : List (Int)} (h : W.ownsRow base 3 1 v l.length (nRow l)) (hn : l.length < 4611686018427387904) :
    Calls Tryz.prog 77 #[v] W fun e w' => ∃ v', e = .returned v' ∧ w'.ownsRow base 3 1 v' (Pe.uniqI l).length (nRow (Pe.uniqI l)) ∧ Chg (fun i => v.ownBlock = some i) W w' := by
  have hS := SortI_calls h hn
  obtain ⟨A, cap, rfl, _⟩ := own_shape h
  obtain ⟨S, hSS⟩ : ∃ S, S = l.mergeSort fun x y => decide (x ≤ y) := ⟨_, rfl⟩
  have hSl : S.length = l.length := by rw [hSS, List.length_mergeSort]
  have hu : Pe.uniqI l = Lib.compact S := by rw [hSS]; rfl
  rw [← hSS] at hS
  rw [hu]
  obtain ⟨n, hnn⟩ : ∃ n, n = l.length := ⟨_, rfl⟩
  rw [← hnn] at hS hSl ⊢
  have HS := Lib.hid hS
  have HL := Lib.hid (And.intro hSl (show n < 4611686018427387904 by omega))
  clear hS hSl hu hSS h hn hnn
  go_enter Tryz.func77, Tryz.ntmps77
  go_wp2_with fail
  refine HS.out.mono ?_
  rintro e w1 ⟨rfl, hs1, hc1⟩
  rw [← HL.out.1] at hs1
  have hC := CompactI_calls hs1 (by rw [HL.out.1]; exact HL.out.2)
  rw [HL.out.1] at hC
  have HC := Lib.hid (And.intro hC hc1)
  clear hs1 hc1 hC
  dsimp only
  go_wp2_with fail
  refine HC.out.1.mono ?_
  rintro e w2 ⟨v', rfl, hs2, hc2⟩
  have H2 := Lib.hid (And.intro hs2 (HC.out.2.trans hc2 (fun _ hi => .inl hi)))
  clear hs2 hc2
  dsimp only
  go_wp2
  go_ret
  exact ⟨v', rfl, H2.out.1, H2.out.2⟩
set_option maxRecDepth 1000000 in
set_option maxHeartbeats 4000000 in
theorem sortedS_calls {W : World} {base : Nat} {v : Value} {l : List (List UInt8)} (h : W.ownsRow base 9 1 v l.length (sRow l)) (hn : l.length < 4611686018427387904) :
    Calls Tryz.prog 78 #[v] W fun e w' => ∃ v', e = .returned v' ∧ w'.ownsRow base 9 1 v' (Pe.uniqS l).length (sRow (Pe.uniqS l)) ∧ Chg (fun i => v.ownBlock = some i) W w' := by
  have hS := SortS_calls h hn
  obtain ⟨A, cap, rfl, _⟩ := own_shape h
  obtain ⟨S, hSS⟩ : ∃ S, S = l.mergeSort fun x y => decide (x ≤ y) := ⟨_, rfl⟩
  have hSl : S.length = l.length := by rw [hSS, List.length_mergeSort]
  have hu : Pe.uniqS l = Lib.compact S := by rw [hSS]; rfl
  rw [← hSS] at hS
  rw [hu]
  obtain ⟨n, hnn⟩ : ∃ n, n = l.length := ⟨_, rfl⟩
  rw [← hnn] at hS hSl ⊢
  have HS := Lib.hid hS
  have HL := Lib.hid (And.intro hSl (show n < 4611686018427387904 by omega))
  clear hS hSl hu hSS h hn hnn
  go_enter Tryz.func78, Tryz.ntmps78
  go_wp2_with fail
  refine HS.out.mono ?_
  rintro e w1 ⟨rfl, hs1, hc1⟩
  rw [← HL.out.1] at hs1
  have hC := CompactS_calls hs1 (by rw [HL.out.1]; exact HL.out.2)
  rw [HL.out.1] at hC
  have HC := Lib.hid (And.intro hC hc1)
  clear hs1 hc1 hC
  dsimp only
  go_wp2_with fail
  refine HC.out.1.mono ?_
  rintro e w2 ⟨v', rfl, hs2, hc2⟩
  have H2 := Lib.hid (And.intro hs2 (HC.out.2.trans hc2 (fun _ hi => .inl hi)))
  clear hs2 hc2
  dsimp only
  go_wp2
  go_ret
  exact ⟨v', rfl, H2.out.1, H2.out.2⟩

end YtnphlekailodkaaGreatDoor
end Go.Proofs

namespace Go.Proofs.YtnphlekailodkaaGreatDoor
open Go.RowKit

theorem strLess (a b : List UInt8) : Op.bytesLess (bs a).toList (bs b).toList = decide (a < b) := by
  rw [ByteArray.toList_eq, ByteArray.toList_eq, bs_data, bs_data]
  exact bytesLess_eq _ _
/-- A list of names in memory. -/
structure StrsAt (w : World) (A : Option Addr) (n : Nat) (l : List (List UInt8)) : Prop where
  len : n = l.length
  at_ : l = [] ∨ ∃ ad, A = some ad ∧ ad.block < w.heap.size ∧ ∀ i x, l[i]? = some x → w.cell? (ad.add i) = some (.string (bs x))
theorem StrsAt.below {w w' : World} {A : Option Addr} {n : Nat} {l : List (List UInt8)} (h : StrsAt w A n l) (hb : Below w.heap.size w w') : StrsAt w' A n l := by
  refine ⟨h.len, h.at_.imp id ?_⟩
  rintro ⟨ad, hA, hl, hc⟩
  refine ⟨ad, hA, Nat.lt_of_lt_of_le hl hb.size, fun i x hi => ?_⟩
  rw [hb.cell (by unfold Addr.add; split <;> exact hl)]
  exact hc i x hi
theorem StrsAt.one {w : World} {A : Option Addr} {n : Nat} {l : List (List UInt8)} (h : StrsAt w A n l) {i : Nat} (hi : i < n) : ∃ x ad, l[i]? = some x ∧ A = some ad ∧ w.cell? (ad.add i) = some (.string (bs x)) := by
  have hl := h.len
  have hx : l[i]? = some (l[i]'(by omega)) := List.getElem?_eq_getElem (by omega)
  obtain ⟨ad, hA, _, hc⟩ := h.at_.resolve_left (fun e => by rw [e] at hl; simp at hl; omega)
  exact ⟨_, ad, hx, hA, hc i _ hx⟩
theorem own_strs {w : World} {base n : Nat} {v : Value} {l : List (List UInt8)} (h : w.ownsRow base 9 1 v n (sRow l)) (hn : n = l.length) : ∃ A c, v = .slice A n c ∧ StrsAt w A n l := by
  obtain ⟨A, c, rfl, hlc, hcm⟩ := own_shape h
  refine ⟨A, c, rfl, hn, ?_⟩
  by_cases h0 : n = 0
  · left; exact List.eq_nil_of_length_eq_zero (by omega)
  · right
    obtain ⟨g, cap, hv, _, hlt, _⟩ := own_form h (by omega)
    obtain ⟨rfl, _, rfl⟩ : A = some ⟨g, 0, none⟩ ∧ n = n ∧ c = cap := by injection hv with h1 h2 h3; exact ⟨h1, h2, h3⟩
    refine ⟨_, rfl, hlt, fun i x hi => ?_⟩
    have := own_range h i [.string (bs x)] (fun q u hu => by
      match q, hu with
      | 0, hu =>
        simp at hu
        subst hu
        simp [sRow, hi]) 0 _ rfl
    simpa [Addr.add_mid] using this
theorem Pe.take_gs {l : List (List UInt8)} {i : Nat} {y : List UInt8} (h : l[i]? = some y) : l.take (i + 1) = l.take i ++ [y] := by rw [List.take_add_one, h]; rfl

set_option maxRecDepth 1000000 in
set_option maxHeartbeats 8000000 in
theorem rAddedName_calls (A : Option Addr) (m c : Nat) (l : List (List UInt8)) (k : List UInt8) (w : World) (h : StrsAt w A m l) (hm : m ≤ 100000) :
    Calls Tryz.prog 79 #[.slice A m c, .string (bs k)] w fun e w' => ∃ v, e = .returned v ∧ w'.ownsRow w.heap.size 9 1 v (Pe.insS k l).length (sRow (Pe.insS k l)) ∧ Below w.heap.size w w' := by
  obtain ⟨i0, hi0, hz0, hz1, hz2⟩ := info_parts infoStrN
  have HI0 := Lib.hid (And.intro hi0 (And.intro hz0 (And.intro hz1 hz2)))
  have H := Lib.hid h
  clear hi0 hz0 hz1 hz2 h
  go_enter Tryz.func79, Tryz.ntmps79
  go_wp2_with fail
  go_loopg [5, 6, 7] m (fun q s5 s6 s7 wr => ∃ (i : Nat) (dn : Bool) (o : List (List UInt8)) (A' : Option Addr) (n' c' : Nat), s5 = .slice A' n' c' ∧ s6 = .bool dn ∧ s7 = .int .i64 (i : Int) ∧ i + q = m ∧ n' ≤ i + 1 ∧ Hid (n' = o.length ∧ Below w.heap.size w wr ∧ wr.ownsRow w.heap.size 9 1 (.slice A' n' c') n' (sRow o) ∧ (dn = false → o = l.take i ∧ ∀ x ∈ l.take i, ¬ k ≤ x) ∧ (dn = true → o = Pe.insS k (l.take i) ∧ ∃ x ∈ l.take i, k ≤ x)))
  case atStart => exact ⟨0, false, [], none, 0, 0, rfl, rfl, rfl, by omega, by omega, Lib.hid ⟨rfl, Below.refl _ _, World.ownsRow_nil _ _ _ _, fun _ => ⟨by simp, by simp⟩, fun e => by cases e⟩⟩
  case round =>
    obtain ⟨i, dn, o, A', n', c', rfl, rfl, rfl, hi, hn', hR⟩ := hrel
    by_cases hgo : i < m
    case neg =>
      have hd1 : decide ((i : Int) < (m : Int)) = false := by simp; omega
      have htk : l.take i = l := List.take_of_length_le (by have := H.out.len; omega)
      have HTK := Lib.hid htk
      clear htk
      cases dn
      · have hins : Pe.insS k l = o ++ [k] := by
          obtain ⟨h1, h2⟩ := hR.out.2.2.2.1 (by simp)
          rw [HTK.out] at h1 h2
          have := Pe.insS_less [] h2
          rw [List.append_nil] at this
          rw [this, h1]; rfl
        have HINS := Lib.hid hins
        clear hins
        go_wp2_with (at_builtin; refine wpList_append_lies _ rfl _ _ 58 rfl w.heap.size 9 i0 _ 1 16 Tryz.underlying58 HI0.out.1 HI0.out.2.1 HI0.out.2.2.1 HI0.out.2.2.2 (by rfl) (by decide) (.slice A' n' c') n' (sRow o) rfl (own_below hR.out.2.2.1 ((Below.refl _ wr).alloc (Nat.le_refl _) _)) ⟨wr.heap.size, 0, none⟩ 1 1 [.string (bs k)] rfl rfl (World.news_of_block (cs := #[.string (bs k)]) (t := 9) (fr := (0, 0)) (heap_alloc_new wr _)) ?o1 (by decide) ?o2 ?o3 ?o4 _ rfl ?_)
        case o1 => simp [Value.oneCell']
        case o2 => simp only [maxLen]; omega
        case o3 => omega
        case o4 => have := hR.out.2.1.size; simp; omega
        intro gn1 cn1 W1 hown hgr _ hlt
        have HA1 := Lib.hid (And.intro (show W1.ownsRow w.heap.size 9 1 (.slice (some ⟨gn1, 0, none⟩) (n' + 1) cn1) (n' + 1) (sRow (o ++ [k])) by rw [sRow_snoc]; exact hown) ((hR.out.2.1.alloc hR.out.2.1.size _).grown hgr (hR.out.2.1.alloc hR.out.2.1.size _).size (fun z hz => (hR.out.2.2.1.lt z hz).1)))
        clear hown hgr hlt
        go_wp2
        go_ret
        refine ⟨_, rfl, ?_, HA1.out.2⟩
        rw [HINS.out, show (o ++ [k]).length = n' + 1 by simp; exact hR.out.1.symm]
        exact HA1.out.1
      · go_wp2
        go_ret
        refine ⟨_, rfl, ?_, hR.out.2.1⟩
        obtain ⟨h1, _⟩ := hR.out.2.2.2.2 (by simp)
        rw [HTK.out] at h1
        rw [← h1, ← hR.out.1]
        exact hR.out.2.2.1
    have hd1 : decide ((i : Int) < (m : Int)) = true := by simp; omega
    obtain ⟨y, ad, hy, rfl, hcy⟩ := (H.out.below hR.out.2.1).one hgo
    have HYY := Lib.hid hy
    clear hy
    cases dn
    case true =>
      go_wp2_with (at_builtin; refine wpList_append_lies _ rfl _ _ 58 rfl w.heap.size 9 i0 _ 1 16 Tryz.underlying58 HI0.out.1 HI0.out.2.1 HI0.out.2.2.1 HI0.out.2.2.2 (by rfl) (by decide) (.slice A' n' c') n' (sRow o) rfl (own_below hR.out.2.2.1 ((Below.refl _ wr).alloc (Nat.le_refl _) _)) ⟨wr.heap.size, 0, none⟩ 1 1 [.string (bs y)] rfl rfl (World.news_of_block (cs := #[.string (bs y)]) (t := 9) (fr := (0, 0)) (heap_alloc_new wr _)) ?o1 (by decide) ?o2 ?o3 ?o4 _ rfl ?_)
      case o1 => simp [Value.oneCell']
      case o2 => simp only [maxLen]; omega
      case o3 => omega
      case o4 => have := hR.out.2.1.size; simp; omega
      intro gn1 cn1 W1 hown hgr _ hlt
      have HA1 := Lib.hid (And.intro (show W1.ownsRow w.heap.size 9 1 (.slice (some ⟨gn1, 0, none⟩) (n' + 1) cn1) (n' + 1) (sRow (o ++ [y])) by rw [sRow_snoc]; exact hown) ((hR.out.2.1.alloc hR.out.2.1.size _).grown hgr (hR.out.2.1.alloc hR.out.2.1.size _).size (fun z hz => (hR.out.2.2.1.lt z hz).1)))
      clear hown hgr hlt
      clear hcy
      go_wp2
      go_roundg (gk - 1)
      case measure => omega
      case rel =>
        refine ⟨i + 1, true, o ++ [y], some ⟨gn1, 0, none⟩, n' + 1, cn1, rfl, rfl, by go_num, by omega, by omega, Lib.hid ⟨by simp; exact hR.out.1, HA1.out.2, HA1.out.1, (fun e => by cases e), fun _ => ?_⟩⟩
        obtain ⟨h1, z, hz, hkz⟩ := hR.out.2.2.2.2 (by simp)
        rw [Pe.take_gs HYY.out]
        exact ⟨by rw [h1, Pe.insS_done _ ⟨z, hz, hkz⟩], z, by simp [hz], hkz⟩
    have hni : i = n' := by
      obtain ⟨h1, _⟩ := hR.out.2.2.2.1 (by simp)
      have h2 := H.out.len
      rw [hR.out.1, h1, List.length_take]; omega
    subst hni
    have hLT : Op.bytesLess (bs k).toList (bs y).toList = decide (k < y) := strLess k y
    have hEQ : ((bs k).toList == (bs y).toList) = decide (k = y) := bs_beq k y
    by_cases hky : k ≤ y
    case neg =>
      have f1 : Op.bytesLess (bs k).toList (bs y).toList = false := by rw [hLT, decide_eq_false (fun h => hky (List.le_of_lt h))]
      have f2 : ((bs k).toList == (bs y).toList) = false := by rw [hEQ, decide_eq_false (fun h => hky (by rw [h]; exact List.le_refl y))]
      have HK := Lib.hid hky
      clear hLT hEQ hky
      go_wp2_with (at_builtin; refine wpList_append_lies _ rfl _ _ 58 rfl w.heap.size 9 i0 _ 1 16 Tryz.underlying58 HI0.out.1 HI0.out.2.1 HI0.out.2.2.1 HI0.out.2.2.2 (by rfl) (by decide) (.slice A' i c') i (sRow o) rfl (own_below hR.out.2.2.1 ((Below.refl _ wr).alloc (Nat.le_refl _) _)) ⟨wr.heap.size, 0, none⟩ 1 1 [.string (bs y)] rfl rfl (World.news_of_block (cs := #[.string (bs y)]) (t := 9) (fr := (0, 0)) (heap_alloc_new wr _)) ?o1 (by decide) ?o2 ?o3 ?o4 _ rfl ?_)
      case o1 => simp [Value.oneCell']
      case o2 => simp only [maxLen]; omega
      case o3 => omega
      case o4 => have := hR.out.2.1.size; simp; omega
      intro gn1 cn1 W1 hown hgr _ hlt
      have HA1 := Lib.hid (And.intro (show W1.ownsRow w.heap.size 9 1 (.slice (some ⟨gn1, 0, none⟩) (i + 1) cn1) (i + 1) (sRow (o ++ [y])) by rw [sRow_snoc]; exact hown) ((hR.out.2.1.alloc hR.out.2.1.size _).grown hgr (hR.out.2.1.alloc hR.out.2.1.size _).size (fun z hz => (hR.out.2.2.1.lt z hz).1)))
      clear hown hgr hlt
      clear hcy f1 f2
      go_wp2
      go_roundg (gk - 1)
      case measure => omega
      case rel =>
        refine ⟨i + 1, false, o ++ [y], some ⟨gn1, 0, none⟩, i + 1, cn1, rfl, rfl, by go_num, by omega, by omega, Lib.hid ⟨by simp; exact hR.out.1, HA1.out.2, HA1.out.1, fun _ => ?_, (fun e => by cases e)⟩⟩
        obtain ⟨h1, h2⟩ := hR.out.2.2.2.1 (by simp)
        rw [Pe.take_gs HYY.out, ← h1]
        refine ⟨rfl, fun x hx => ?_⟩
        rcases List.mem_append.1 hx with hx | hx
        · rw [h1] at hx; exact h2 x hx
        · rw [List.mem_singleton.1 hx]; exact HK.out
    have HK := Lib.hid hky
    by_cases hkq : k = y
    · have f1 : Op.bytesLess (bs k).toList (bs y).toList = false := by rw [hLT, decide_eq_false (fun h => List.lt_irrefl y (by rw [hkq] at h; exact h))]
      have f2 : ((bs k).toList == (bs y).toList) = true := by rw [hEQ, decide_eq_true hkq]
      have HKQ := Lib.hid hkq
      clear hLT hEQ hky hkq
      go_wp2_with (at_builtin; refine wpList_append_lies _ rfl _ _ 58 rfl w.heap.size 9 i0 _ 1 16 Tryz.underlying58 HI0.out.1 HI0.out.2.1 HI0.out.2.2.1 HI0.out.2.2.2 (by rfl) (by decide) (.slice A' i c') i (sRow o) rfl (own_below hR.out.2.2.1 ((Below.refl _ wr).alloc (Nat.le_refl _) _)) ⟨wr.heap.size, 0, none⟩ 1 1 [.string (bs k)] rfl rfl (World.news_of_block (cs := #[.string (bs k)]) (t := 9) (fr := (0, 0)) (heap_alloc_new wr _)) ?o1 (by decide) ?o2 ?o3 ?o4 _ rfl ?_)
      case o1 => simp [Value.oneCell']
      case o2 => simp only [maxLen]; omega
      case o3 => omega
      case o4 => have := hR.out.2.1.size; simp; omega
      intro gn1 cn1 W1 hown hgr _ hlt
      have HA1 := Lib.hid (And.intro (show W1.ownsRow w.heap.size 9 1 (.slice (some ⟨gn1, 0, none⟩) (i + 1) cn1) (i + 1) (sRow (o ++ [k])) by rw [sRow_snoc]; exact hown) ((hR.out.2.1.alloc hR.out.2.1.size _).grown hgr (hR.out.2.1.alloc hR.out.2.1.size _).size (fun z hz => (hR.out.2.2.1.lt z hz).1)))
      clear hown hgr hlt
      have hcy1 := (H.out.below HA1.out.2).at_.resolve_left (fun e => by have := HYY.out; rw [e] at this; simp at this)
      obtain ⟨ad', e1, _, hcy1⟩ := hcy1
      obtain rfl : ad = ad' := by injection e1
      have hcy1 := hcy1 i y HYY.out
      clear hcy e1
      go_wp2
      go_roundg (gk - 1)
      case measure => omega
      case rel =>
        refine ⟨i + 1, true, o ++ [k], some ⟨gn1, 0, none⟩, i + 1, cn1, rfl, rfl, by go_num, by omega, by omega, Lib.hid ⟨by simp; exact hR.out.1, HA1.out.2, HA1.out.1, (fun e => by cases e), fun _ => ?_⟩⟩
        obtain ⟨h1, h2⟩ := hR.out.2.2.2.1 (by simp)
        rw [Pe.take_gs HYY.out, Pe.insS_less _ h2, h1]
        refine ⟨?_, y, by simp, HK.out⟩
        rw [HKQ.out]
        unfold Pe.insS
        rw [if_pos (List.le_refl y), if_pos rfl]
    have f1 : Op.bytesLess (bs k).toList (bs y).toList = true := by rw [hLT, decide_eq_true (Pe.str_lt hky hkq)]
    have f2 : ((bs k).toList == (bs y).toList) = false := by rw [hEQ, decide_eq_false hkq]
    have HKQ := Lib.hid hkq
    clear hLT hEQ hky hkq
    go_wp2_with (at_builtin; refine wpList_append_lies _ rfl _ _ 58 rfl w.heap.size 9 i0 _ 1 16 Tryz.underlying58 HI0.out.1 HI0.out.2.1 HI0.out.2.2.1 HI0.out.2.2.2 (by rfl) (by decide) (.slice A' i c') i (sRow o) rfl (own_below hR.out.2.2.1 ((Below.refl _ wr).alloc (Nat.le_refl _) _)) ⟨wr.heap.size, 0, none⟩ 1 1 [.string (bs k)] rfl rfl (World.news_of_block (cs := #[.string (bs k)]) (t := 9) (fr := (0, 0)) (heap_alloc_new wr _)) ?o1 (by decide) ?o2 ?o3 ?o4 _ rfl ?_)
    case o1 => simp [Value.oneCell']
    case o2 => simp only [maxLen]; omega
    case o3 => omega
    case o4 => have := hR.out.2.1.size; simp; omega
    intro gn1 cn1 W1 hown hgr _ hlt
    have HA1 := Lib.hid (And.intro (show W1.ownsRow w.heap.size 9 1 (.slice (some ⟨gn1, 0, none⟩) (i + 1) cn1) (i + 1) (sRow (o ++ [k])) by rw [sRow_snoc]; exact hown) ((hR.out.2.1.alloc hR.out.2.1.size _).grown hgr (hR.out.2.1.alloc hR.out.2.1.size _).size (fun z hz => (hR.out.2.2.1.lt z hz).1)))
    clear hown hgr hlt
    have hcy1 := (H.out.below HA1.out.2).at_.resolve_left (fun e => by have := HYY.out; rw [e] at this; simp at this)
    obtain ⟨ad', e1, _, hcy1⟩ := hcy1
    obtain rfl : ad = ad' := by injection e1
    have hcy1 := hcy1 i y HYY.out
    clear hcy e1
    go_wp2_with (at_builtin; refine wpList_append_lies _ rfl _ _ 58 rfl w.heap.size 9 i0 _ 1 16 Tryz.underlying58 HI0.out.1 HI0.out.2.1 HI0.out.2.2.1 HI0.out.2.2.2 (by rfl) (by decide) (.slice (some ⟨gn1, 0, none⟩) (i + 1) cn1) (i + 1) (sRow (o ++ [k])) rfl (own_below HA1.out.1 ((Below.refl _ W1).alloc (Nat.le_refl _) _)) ⟨W1.heap.size, 0, none⟩ 1 1 [.string (bs y)] rfl rfl (World.news_of_block (cs := #[.string (bs y)]) (t := 9) (fr := (0, 0)) (heap_alloc_new W1 _)) ?o1 (by decide) ?o2 ?o3 ?o4 _ rfl ?_)
    case o1 => simp [Value.oneCell']
    case o2 => simp only [maxLen]; omega
    case o3 => omega
    case o4 => have := HA1.out.2.size; simp; omega
    intro gn2 cn2 W2 hown hgr _ hlt
    have HA2 := Lib.hid (And.intro (show W2.ownsRow w.heap.size 9 1 (.slice (some ⟨gn2, 0, none⟩) ((i + 1) + 1) cn2) ((i + 1) + 1) (sRow ((o ++ [k]) ++ [y])) by rw [sRow_snoc]; exact hown) ((HA1.out.2.alloc HA1.out.2.size _).grown hgr (HA1.out.2.alloc HA1.out.2.size _).size (fun z hz => (HA1.out.1.lt z hz).1)))
    clear hown hgr hlt
    clear hcy1 f1 f2
    go_wp2
    go_roundg (gk - 1)
    case measure => omega
    case rel =>
      refine ⟨i + 1, true, (o ++ [k]) ++ [y], some ⟨gn2, 0, none⟩, i + 1 + 1, cn2, rfl, rfl, by go_num, by omega, by omega, Lib.hid ⟨by simp; exact hR.out.1, HA2.out.2, HA2.out.1, (fun e => by cases e), fun _ => ?_⟩⟩
      obtain ⟨h1, h2⟩ := hR.out.2.2.2.1 (by simp)
      rw [Pe.take_gs HYY.out, Pe.insS_less _ h2, h1]
      refine ⟨?_, y, by simp, HK.out⟩
      unfold Pe.insS
      rw [if_pos HK.out, if_neg HKQ.out]
      simp


end Go.Proofs.YtnphlekailodkaaGreatDoor

namespace Go.Proofs.YtnphlekailodkaaGreatDoor
open Go.RowKit

set_option maxRecDepth 1000000 in
set_option maxHeartbeats 8000000 in
theorem rNames_calls (A : Option Addr) (n c : Nat) (l : List Pe.Ent) (p d : Int) (w : World) (h : EntsAt w A n l) (hn : n ≤ 100000) :
    Calls Tryz.prog 47 #[.slice A n c, .int .i64 p, .int .i64 d] w fun e w' => ∃ v, e = .returned v ∧ w'.ownsRow w.heap.size 9 1 v (Pe.names l p d).length (sRow (Pe.names l p d)) ∧ Below w.heap.size w w' := by
  have H := Lib.hid h
  have hmost := h.most
  obtain ⟨V, hV⟩ : ∃ V, V = Pe.names l p d := ⟨_, rfl⟩
  rw [← hV]
  have HV := Lib.hid (show V = Pe.gatherS (fun x => x.kind == 1 && x.person == p && x.on d) l from hV)
  clear h hV
  go_enter Tryz.func47, Tryz.ntmps47
  go_wp2_with fail
  go_loopg [7, 8, 9] n (fun q s7 s8 s9 wr => ∃ (i : Nat) (o : List (List UInt8)) (A' : Option Addr) (n' c' : Nat), s7 = .slice A' n' c' ∧ s8 = .int .i64 (i : Int) ∧ i + q = n ∧ n' ≤ i ∧ Hid (n' = o.length ∧ Below w.heap.size w wr ∧ wr.ownsRow w.heap.size 9 1 (.slice A' n' c') n' (sRow o) ∧ o = Pe.gatherS (fun x => x.kind == 1 && x.person == p && x.on d) (l.take i)))
  case atStart => exact ⟨0, [], none, 0, 0, rfl, rfl, by omega, by omega, Lib.hid ⟨rfl, Below.refl _ _, World.ownsRow_nil _ _ _ _, rfl⟩⟩
  case round =>
    obtain ⟨i, o, A', n', c', rfl, rfl, hi, hn', hR⟩ := hrel
    have hE := Lib.hid (H.out.below hR.out.2.1)
    by_cases hgo : i < n
    case neg =>
      have hd1 : decide ((i : Int) < (n : Int)) = false := by simp; omega
      go_wp2
      go_ret
      refine ⟨_, rfl, ?_, hR.out.2.1⟩
      have h1 := hR.out.2.2.2
      rw [List.take_of_length_le (by have := H.out.len; omega), ← HV.out] at h1
      rw [← h1, ← hR.out.1]
      exact hR.out.2.2.1
    have hd1 : decide ((i : Int) < (n : Int)) = true := by simp; omega
    obtain ⟨x, ad, hx, rfl, hok, hcw⟩ := hE.out.one hgo
    have g0 : wr.cell? (ad.add (i * 10)) = some (.int .i64 x.day) := hcw 0 _ rfl
    have g1 : wr.cell? ⟨(ad.add (i * 10)).block, (ad.add (i * 10)).off + 1, none⟩ = some (.int .u8 (x.kind : Int)) := hcw 1 _ rfl
    have g2 : wr.cell? ⟨(ad.add (i * 10)).block, (ad.add (i * 10)).off + 2, none⟩ = some (.int .i64 x.since) := hcw 2 _ rfl
    have g3 : wr.cell? ⟨(ad.add (i * 10)).block, (ad.add (i * 10)).off + 3, none⟩ = some (.int .i64 x.til) := hcw 3 _ rfl
    have g4 : wr.cell? ⟨(ad.add (i * 10)).block, (ad.add (i * 10)).off + 4, none⟩ = some (.int .i64 x.person) := hcw 4 _ rfl
    have g5 : wr.cell? ⟨(ad.add (i * 10)).block, (ad.add (i * 10)).off + 5, none⟩ = some (.int .i64 x.place) := hcw 5 _ rfl
    have g6 : wr.cell? ⟨(ad.add (i * 10)).block, (ad.add (i * 10)).off + 6, none⟩ = some (.int .i64 x.other) := hcw 6 _ rfl
    have g7 : wr.cell? ⟨(ad.add (i * 10)).block, (ad.add (i * 10)).off + 7, none⟩ = some (.int .i64 x.at_) := hcw 7 _ rfl
    have g8 : wr.cell? ⟨(ad.add (i * 10)).block, (ad.add (i * 10)).off + 8, none⟩ = some (.int .i64 x.order) := hcw 8 _ rfl
    have g9 : wr.cell? ⟨(ad.add (i * 10)).block, (ad.add (i * 10)).off + 9, none⟩ = some (.string (bs x.name)) := hcw 9 _ rfl
    have HX := Lib.hid hx
    clear hx hcw hok
    obtain ⟨ov, hov⟩ : ∃ ov, ov = x.on d := ⟨_, rfl⟩
    have hhc := rHolds_calls x d wr
    rw [← hov] at hhc
    unfold eCells at hhc
    have HHC := Lib.hid hhc
    have HOV := Lib.hid hov
    clear hhc hov
    go_wp2_with fail
    refine HHC.out.mono ?_
    rintro e w2 ⟨rfl, hb2⟩
    have hc2 := (hE.out.below hb2).get HX.out
    have HB := Lib.hid (And.intro (hR.out.2.1.trans (hb2.mono hR.out.2.1.size)) (own_below hR.out.2.2.1 hb2))
    clear g0 g1 g2 g3 g4 g5 g6 g7 g8 g9
    have g0 : w2.cell? (ad.add (i * 10)) = some (.int .i64 x.day) := hc2 0 _ rfl
    have g1 : w2.cell? ⟨(ad.add (i * 10)).block, (ad.add (i * 10)).off + 1, none⟩ = some (.int .u8 (x.kind : Int)) := hc2 1 _ rfl
    have g2 : w2.cell? ⟨(ad.add (i * 10)).block, (ad.add (i * 10)).off + 2, none⟩ = some (.int .i64 x.since) := hc2 2 _ rfl
    have g3 : w2.cell? ⟨(ad.add (i * 10)).block, (ad.add (i * 10)).off + 3, none⟩ = some (.int .i64 x.til) := hc2 3 _ rfl
    have g4 : w2.cell? ⟨(ad.add (i * 10)).block, (ad.add (i * 10)).off + 4, none⟩ = some (.int .i64 x.person) := hc2 4 _ rfl
    have g5 : w2.cell? ⟨(ad.add (i * 10)).block, (ad.add (i * 10)).off + 5, none⟩ = some (.int .i64 x.place) := hc2 5 _ rfl
    have g6 : w2.cell? ⟨(ad.add (i * 10)).block, (ad.add (i * 10)).off + 6, none⟩ = some (.int .i64 x.other) := hc2 6 _ rfl
    have g7 : w2.cell? ⟨(ad.add (i * 10)).block, (ad.add (i * 10)).off + 7, none⟩ = some (.int .i64 x.at_) := hc2 7 _ rfl
    have g8 : w2.cell? ⟨(ad.add (i * 10)).block, (ad.add (i * 10)).off + 8, none⟩ = some (.int .i64 x.order) := hc2 8 _ rfl
    have g9 : w2.cell? ⟨(ad.add (i * 10)).block, (ad.add (i * 10)).off + 9, none⟩ = some (.string (bs x.name)) := hc2 9 _ rfl
    clear hc2 hb2
    dsimp only
    have k1 := nat_beq x.kind 1
    cases h1 : (x.kind == 1)
    · have q1 : ((x.kind : Int) == 1) = false := k1.trans h1
      have HQ := Lib.hid h1
      clear h1 k1
      go_wp2
      go_roundg (gk - 1)
      case measure => omega
      case rel => exact ⟨i + 1, o, A', n', c', rfl, by go_num, by omega, by omega, Lib.hid ⟨hR.out.1, HB.out.1, HB.out.2, by rw [Pe.gatherS_on HX.out ((by rw [HQ.out]; rfl))]; exact hR.out.2.2.2⟩⟩
    cases h2 : (x.person == p)
    · have q1 : ((x.kind : Int) == 1) = true := k1.trans h1
      have HQ := Lib.hid h2
      clear h1 k1
      go_wp2
      go_roundg (gk - 1)
      case measure => omega
      case rel => exact ⟨i + 1, o, A', n', c', rfl, by go_num, by omega, by omega, Lib.hid ⟨hR.out.1, HB.out.1, HB.out.2, by rw [Pe.gatherS_on HX.out ((by rw [HQ.out, Bool.and_false]; rfl))]; exact hR.out.2.2.2⟩⟩
    have q1 : ((x.kind : Int) == 1) = true := k1.trans h1
    have HQ := Lib.hid (And.intro h1 h2)
    clear h1 k1
    cases ov
    · skip
      go_wp2
      go_roundg (gk - 1)
      case measure => omega
      case rel => exact ⟨i + 1, o, A', n', c', rfl, by go_num, by omega, by omega, Lib.hid ⟨hR.out.1, HB.out.1, HB.out.2, by rw [Pe.gatherS_on HX.out ((by rw [← HOV.out, Bool.and_false]))]; exact hR.out.2.2.2⟩⟩
    obtain ⟨A2, cc2, hv2, hN2⟩ := own_strs HB.out.2 hR.out.1
    obtain ⟨rfl, rfl⟩ : A' = A2 ∧ c' = cc2 := by injection hv2 with e1 _ e3; exact ⟨e1, e3⟩
    have hac := rAddedName_calls A' n' c' o x.name w2 hN2 (by omega)
    have HAC := Lib.hid hac
    clear hac hN2 hv2
    go_wp2_with fail
    refine HAC.out.mono ?_
    rintro e w3 ⟨v, rfl, hown, hb3⟩
    have hle : (Pe.insS x.name o).length ≤ n' + 1 := by have := Pe.insS_length x.name o; have := hR.out.1; omega
    obtain ⟨n3, hn3⟩ : ∃ n3, n3 = (Pe.insS x.name o).length := ⟨_, rfl⟩
    rw [← hn3] at hown hle
    obtain ⟨A3, c3, rfl, _, _⟩ := own_shape hown
    have H3 := Lib.hid (And.intro (HB.out.1.trans (hb3.mono HB.out.1.size)) (And.intro (own_weaken hown HB.out.1.size) hn3))
    clear hb3 hown hn3
    clear g0 g1 g2 g3 g4 g5 g6 g7 g8 g9
    dsimp only
    go_wp2
    go_roundg (gk - 1)
    case measure => omega
    case rel =>
      refine ⟨i + 1, Pe.insS x.name o, A3, n3, c3, rfl, by go_num, by omega, by omega, Lib.hid ⟨H3.out.2.2, H3.out.1, H3.out.2.1, ?_⟩⟩
      rw [Pe.gatherS_put HX.out (by rw [HQ.out.1, HQ.out.2, ← HOV.out]; rfl), ← hR.out.2.2.2]

set_option maxRecDepth 1000000 in
set_option maxHeartbeats 8000000 in
theorem rCalled_calls (A : Option Addr) (n c : Nat) (l : List Pe.Ent) (s : List UInt8) (d : Int) (w : World) (h : EntsAt w A n l) (hn : n ≤ 100000) :
    Calls Tryz.prog 49 #[.slice A n c, .string (bs s), .int .i64 d] w fun e w' => ∃ v, e = .returned v ∧ w'.ownsRow w.heap.size 3 1 v (Pe.calledS l s d).length (nRow (Pe.calledS l s d)) ∧ Below w.heap.size w w' := by
  have H := Lib.hid h
  have hmost := h.most
  obtain ⟨V, hV⟩ : ∃ V, V = Pe.calledS l s d := ⟨_, rfl⟩
  rw [← hV]
  have HV := Lib.hid (show V = Pe.gather (·.person) (fun x => x.kind == 1 && x.name == s && x.on d) l from hV)
  clear h hV
  go_enter Tryz.func49, Tryz.ntmps49
  go_wp2_with fail
  go_loopg [7, 8, 9] n (fun q s7 s8 s9 wr => ∃ (i : Nat) (o : List Int) (A' : Option Addr) (n' c' : Nat), s7 = .slice A' n' c' ∧ s8 = .int .i64 (i : Int) ∧ i + q = n ∧ n' ≤ i ∧ Hid (n' = o.length ∧ Below w.heap.size w wr ∧ wr.ownsRow w.heap.size 3 1 (.slice A' n' c') n' (nRow o) ∧ o = Pe.gather (·.person) (fun x => x.kind == 1 && x.name == s && x.on d) (l.take i)))
  case atStart => exact ⟨0, [], none, 0, 0, rfl, rfl, by omega, by omega, Lib.hid ⟨rfl, Below.refl _ _, World.ownsRow_nil _ _ _ _, rfl⟩⟩
  case round =>
    obtain ⟨i, o, A', n', c', rfl, rfl, hi, hn', hR⟩ := hrel
    have hE := Lib.hid (H.out.below hR.out.2.1)
    by_cases hgo : i < n
    case neg =>
      have hd1 : decide ((i : Int) < (n : Int)) = false := by simp; omega
      go_wp2
      go_ret
      refine ⟨_, rfl, ?_, hR.out.2.1⟩
      have h1 := hR.out.2.2.2
      rw [List.take_of_length_le (by have := H.out.len; omega), ← HV.out] at h1
      rw [← h1, ← hR.out.1]
      exact hR.out.2.2.1
    have hd1 : decide ((i : Int) < (n : Int)) = true := by simp; omega
    obtain ⟨x, ad, hx, rfl, hok, hcw⟩ := hE.out.one hgo
    have g0 : wr.cell? (ad.add (i * 10)) = some (.int .i64 x.day) := hcw 0 _ rfl
    have g1 : wr.cell? ⟨(ad.add (i * 10)).block, (ad.add (i * 10)).off + 1, none⟩ = some (.int .u8 (x.kind : Int)) := hcw 1 _ rfl
    have g2 : wr.cell? ⟨(ad.add (i * 10)).block, (ad.add (i * 10)).off + 2, none⟩ = some (.int .i64 x.since) := hcw 2 _ rfl
    have g3 : wr.cell? ⟨(ad.add (i * 10)).block, (ad.add (i * 10)).off + 3, none⟩ = some (.int .i64 x.til) := hcw 3 _ rfl
    have g4 : wr.cell? ⟨(ad.add (i * 10)).block, (ad.add (i * 10)).off + 4, none⟩ = some (.int .i64 x.person) := hcw 4 _ rfl
    have g5 : wr.cell? ⟨(ad.add (i * 10)).block, (ad.add (i * 10)).off + 5, none⟩ = some (.int .i64 x.place) := hcw 5 _ rfl
    have g6 : wr.cell? ⟨(ad.add (i * 10)).block, (ad.add (i * 10)).off + 6, none⟩ = some (.int .i64 x.other) := hcw 6 _ rfl
    have g7 : wr.cell? ⟨(ad.add (i * 10)).block, (ad.add (i * 10)).off + 7, none⟩ = some (.int .i64 x.at_) := hcw 7 _ rfl
    have g8 : wr.cell? ⟨(ad.add (i * 10)).block, (ad.add (i * 10)).off + 8, none⟩ = some (.int .i64 x.order) := hcw 8 _ rfl
    have g9 : wr.cell? ⟨(ad.add (i * 10)).block, (ad.add (i * 10)).off + 9, none⟩ = some (.string (bs x.name)) := hcw 9 _ rfl
    have HX := Lib.hid hx
    clear hx hcw hok
    obtain ⟨ov, hov⟩ : ∃ ov, ov = x.on d := ⟨_, rfl⟩
    have hhc := rHolds_calls x d wr
    rw [← hov] at hhc
    unfold eCells at hhc
    have HHC := Lib.hid hhc
    have HOV := Lib.hid hov
    clear hhc hov
    go_wp2_with fail
    refine HHC.out.mono ?_
    rintro e w2 ⟨rfl, hb2⟩
    have hc2 := (hE.out.below hb2).get HX.out
    have HB := Lib.hid (And.intro (hR.out.2.1.trans (hb2.mono hR.out.2.1.size)) (own_below hR.out.2.2.1 hb2))
    clear g0 g1 g2 g3 g4 g5 g6 g7 g8 g9
    have g0 : w2.cell? (ad.add (i * 10)) = some (.int .i64 x.day) := hc2 0 _ rfl
    have g1 : w2.cell? ⟨(ad.add (i * 10)).block, (ad.add (i * 10)).off + 1, none⟩ = some (.int .u8 (x.kind : Int)) := hc2 1 _ rfl
    have g2 : w2.cell? ⟨(ad.add (i * 10)).block, (ad.add (i * 10)).off + 2, none⟩ = some (.int .i64 x.since) := hc2 2 _ rfl
    have g3 : w2.cell? ⟨(ad.add (i * 10)).block, (ad.add (i * 10)).off + 3, none⟩ = some (.int .i64 x.til) := hc2 3 _ rfl
    have g4 : w2.cell? ⟨(ad.add (i * 10)).block, (ad.add (i * 10)).off + 4, none⟩ = some (.int .i64 x.person) := hc2 4 _ rfl
    have g5 : w2.cell? ⟨(ad.add (i * 10)).block, (ad.add (i * 10)).off + 5, none⟩ = some (.int .i64 x.place) := hc2 5 _ rfl
    have g6 : w2.cell? ⟨(ad.add (i * 10)).block, (ad.add (i * 10)).off + 6, none⟩ = some (.int .i64 x.other) := hc2 6 _ rfl
    have g7 : w2.cell? ⟨(ad.add (i * 10)).block, (ad.add (i * 10)).off + 7, none⟩ = some (.int .i64 x.at_) := hc2 7 _ rfl
    have g8 : w2.cell? ⟨(ad.add (i * 10)).block, (ad.add (i * 10)).off + 8, none⟩ = some (.int .i64 x.order) := hc2 8 _ rfl
    have g9 : w2.cell? ⟨(ad.add (i * 10)).block, (ad.add (i * 10)).off + 9, none⟩ = some (.string (bs x.name)) := hc2 9 _ rfl
    clear hc2 hb2
    dsimp only
    have k1 := nat_beq x.kind 1
    cases h1 : (x.kind == 1)
    · have q1 : ((x.kind : Int) == 1) = false := k1.trans h1
      have HQ := Lib.hid h1
      clear h1 k1
      go_wp2
      go_roundg (gk - 1)
      case measure => omega
      case rel => exact ⟨i + 1, o, A', n', c', rfl, by go_num, by omega, by omega, Lib.hid ⟨hR.out.1, HB.out.1, HB.out.2, by rw [gather_on HX.out ((by rw [HQ.out]; rfl))]; exact hR.out.2.2.2⟩⟩
    have hbq := bs_beq x.name s
    cases h2 : (x.name == s)
    · have q1 : ((x.kind : Int) == 1) = true := k1.trans h1
      have hbz : ((bs x.name).toList == (bs s).toList) = false := by rw [hbq]; have := h2; simpa using this
      have HQ := Lib.hid h2
      clear hbq h2
      clear h1 k1
      go_wp2
      go_roundg (gk - 1)
      case measure => omega
      case rel => exact ⟨i + 1, o, A', n', c', rfl, by go_num, by omega, by omega, Lib.hid ⟨hR.out.1, HB.out.1, HB.out.2, by rw [gather_on HX.out ((by rw [HQ.out, Bool.and_false]; rfl))]; exact hR.out.2.2.2⟩⟩
    have q1 : ((x.kind : Int) == 1) = true := k1.trans h1
    have hbz : ((bs x.name).toList == (bs s).toList) = true := by rw [hbq]; have := h2; simpa using this
    have HQ := Lib.hid (And.intro h1 h2)
    clear h1 k1 hbq h2
    cases ov
    · skip
      go_wp2
      go_roundg (gk - 1)
      case measure => omega
      case rel => exact ⟨i + 1, o, A', n', c', rfl, by go_num, by omega, by omega, Lib.hid ⟨hR.out.1, HB.out.1, HB.out.2, by rw [gather_on HX.out ((by rw [← HOV.out, Bool.and_false]))]; exact hR.out.2.2.2⟩⟩
    obtain ⟨A2, cc2, hv2, hN2⟩ := own_nums HB.out.2 hR.out.1
    obtain ⟨rfl, rfl⟩ : A' = A2 ∧ c' = cc2 := by injection hv2 with e1 _ e3; exact ⟨e1, e3⟩
    have hac := radded_calls A' n' c' o x.person w2 hN2 (by omega)
    have HAC := Lib.hid hac
    clear hac hN2 hv2
    go_wp2_with fail
    refine HAC.out.mono ?_
    rintro e w3 ⟨v, rfl, hown, hb3⟩
    have hle : (Pe.ins x.person o).length ≤ n' + 1 := by have := Pe.ins_length x.person o; have := hR.out.1; omega
    obtain ⟨n3, hn3⟩ : ∃ n3, n3 = (Pe.ins x.person o).length := ⟨_, rfl⟩
    rw [← hn3] at hown hle
    obtain ⟨A3, c3, rfl, _, _⟩ := own_shape hown
    have H3 := Lib.hid (And.intro (HB.out.1.trans (hb3.mono HB.out.1.size)) (And.intro (own_weaken hown HB.out.1.size) hn3))
    clear hb3 hown hn3
    clear g0 g1 g2 g3 g4 g5 g6 g7 g8 g9
    dsimp only
    go_wp2
    go_roundg (gk - 1)
    case measure => omega
    case rel =>
      refine ⟨i + 1, Pe.ins x.person o, A3, n3, c3, rfl, by go_num, by omega, by omega, Lib.hid ⟨H3.out.2.2, H3.out.1, H3.out.2.1, ?_⟩⟩
      rw [gather_put HX.out (by rw [HQ.out.1, HQ.out.2, ← HOV.out]; rfl), ← hR.out.2.2.2]

set_option maxRecDepth 1000000 in
set_option maxHeartbeats 4000000 in
theorem rSameStrings_calls (A B : Option Addr) (n c m c' : Nat) (l r : List (List UInt8)) (w : World) (h : StrsAt w A n l) (h' : StrsAt w B m r) (hn : n ≤ 1000000) :
    Calls Tryz.prog 45 #[.slice A n c, .slice B m c'] w fun e w' => e = .returned (.bool (decide (l = r))) ∧ Below w.heap.size w w' := by
  have H := Lib.hid (And.intro h h')
  obtain ⟨V, hV⟩ : ∃ V, V = decide (l = r) := ⟨_, rfl⟩
  rw [← hV]
  have HV := Lib.hid hV
  clear h h' hV
  go_enter Tryz.func45, Tryz.ntmps45
  by_cases hnm : n = m
  case neg =>
    have hd1 : ((n : Int) != (m : Int)) = true := by simp; omega
    have HN := Lib.hid hnm
    clear hnm
    go_wp2
    go_ret
    refine ⟨?_, Below.refl _ _⟩
    have hv : V = false := by
      rw [HV.out]
      exact decide_eq_false (fun e => HN.out (by rw [H.out.1.len, H.out.2.len, e]))
    rw [hv]; rfl
  subst hnm
  have hd1 : ((n : Int) != (n : Int)) = false := by simp
  go_wp2_with fail
  go_loopg [5] n (fun q s5 wr => ∃ i : Nat, s5 = .int .i64 (i : Int) ∧ i + q = n ∧ Hid (Below w.heap.size w wr ∧ l.take i = r.take i))
  case atStart => exact ⟨0, by go_num, by omega, Lib.hid ⟨Below.refl _ _, by simp⟩⟩
  case round =>
    obtain ⟨i, rfl, hi, hR⟩ := hrel
    by_cases hgo : i < n
    case neg =>
      have hd1 : decide ((i : Int) < (n : Int)) = false := by simp; omega
      go_wp2
      go_ret
      refine ⟨?_, hR.out.1⟩
      have := hR.out.2
      have h1 := H.out.1.len
      have h2 := H.out.2.len
      rw [List.take_of_length_le (by omega), List.take_of_length_le (by omega)] at this
      rw [HV.out, decide_eq_true this]; rfl
    have hd1 : decide ((i : Int) < (n : Int)) = true := by simp; omega
    obtain ⟨x, ad, hx, rfl, hcx⟩ := (H.out.1.below hR.out.1).one hgo
    obtain ⟨y, bd, hy, rfl, hcy⟩ := (H.out.2.below hR.out.1).one hgo
    have HX := Lib.hid (And.intro hx hy)
    clear hx hy
    obtain ⟨E, hE⟩ : ∃ E, E = !decide (x = y) := ⟨_, rfl⟩
    have hq : ((bs x).toList == (bs y).toList) = !E := by rw [hE, bs_beq]; simp
    have HE := Lib.hid hE
    clear hE
    cases E
    · have HXY := Lib.hid (show x = y by have := HE.out; simpa using this.symm)
      go_upto_region 6 with fail
      go_quiet (fail)
      go_wp2
      go_roundg (gk - 1)
      case measure => omega
      case rel =>
        refine ⟨i + 1, by go_num, by omega, Lib.hid ⟨hR.out.1.trans ((below_drewN _ _).mono hR.out.1.size), ?_⟩⟩
        rw [List.take_add_one, List.take_add_one, hR.out.2, HX.out.1, HX.out.2, HXY.out]
    · have HXY := Lib.hid (show x ≠ y by have := HE.out; simpa using this.symm)
      go_upto_region 6 with fail
      go_quiet (fail)
      go_wp2
      go_ret
      refine ⟨?_, hR.out.1.trans ((below_drewN _ _).mono hR.out.1.size)⟩
      have hv : V = false := by
        rw [HV.out]
        exact decide_eq_false (fun e => HXY.out (by have h1 := HX.out.1; rw [e, HX.out.2] at h1; injection h1 with h1; exact h1.symm))
      rw [hv]; rfl

end Go.Proofs.YtnphlekailodkaaGreatDoor

namespace Go.Proofs.YtnphlekailodkaaGreatDoor
open Go.RowKit

set_option maxRecDepth 1000000 in
set_option maxHeartbeats 8000000 in
theorem rPersons_calls (A : Option Addr) (n c : Nat) (l : List Pe.Ent) (w : World) (h : EntsAt w A n l) (hn : n ≤ 100000) :
    Calls Tryz.prog 44 #[.slice A n c] w fun e w' => ∃ v, e = .returned v ∧ w'.ownsRow w.heap.size 3 1 v (Pe.persons l).length (nRow (Pe.persons l)) ∧ Below w.heap.size w w' := by
  have H := Lib.hid h
  have hmost := h.most
  obtain ⟨V, hV⟩ : ∃ V, V = Pe.persons l := ⟨_, rfl⟩
  rw [← hV]
  have HV := Lib.hid (show V = Pe.gather (·.person) (fun x => x.kind == 1) l from hV)
  clear h hV
  go_enter Tryz.func44, Tryz.ntmps44
  go_wp2_with fail
  go_loopg [3, 4] n (fun q s3 s4 wr => ∃ (i : Nat) (o : List Int) (A' : Option Addr) (n' c' : Nat), s3 = .slice A' n' c' ∧ s4 = .int .i64 (i : Int) ∧ i + q = n ∧ n' ≤ i ∧ Hid (n' = o.length ∧ Below w.heap.size w wr ∧ wr.ownsRow w.heap.size 3 1 (.slice A' n' c') n' (nRow o) ∧ o = Pe.gather (·.person) (fun x => x.kind == 1) (l.take i)))
  case atStart => exact ⟨0, [], none, 0, 0, rfl, rfl, by omega, by omega, Lib.hid ⟨rfl, Below.refl _ _, World.ownsRow_nil _ _ _ _, rfl⟩⟩
  case round =>
    obtain ⟨i, o, A', n', c', rfl, rfl, hi, hn', hR⟩ := hrel
    have hE := Lib.hid (H.out.below hR.out.2.1)
    by_cases hgo : i < n
    case neg =>
      have hd1 : decide ((i : Int) < (n : Int)) = false := by simp; omega
      go_wp2
      go_ret
      refine ⟨_, rfl, ?_, hR.out.2.1⟩
      have h1 := hR.out.2.2.2
      rw [List.take_of_length_le (by have := H.out.len; omega), ← HV.out] at h1
      rw [← h1, ← hR.out.1]
      exact hR.out.2.2.1
    have hd1 : decide ((i : Int) < (n : Int)) = true := by simp; omega
    obtain ⟨x, ad, hx, rfl, hok, hcw⟩ := hE.out.one hgo
    have g0 : wr.cell? (ad.add (i * 10)) = some (.int .i64 x.day) := hcw 0 _ rfl
    have g1 : wr.cell? ⟨(ad.add (i * 10)).block, (ad.add (i * 10)).off + 1, none⟩ = some (.int .u8 (x.kind : Int)) := hcw 1 _ rfl
    have g2 : wr.cell? ⟨(ad.add (i * 10)).block, (ad.add (i * 10)).off + 2, none⟩ = some (.int .i64 x.since) := hcw 2 _ rfl
    have g3 : wr.cell? ⟨(ad.add (i * 10)).block, (ad.add (i * 10)).off + 3, none⟩ = some (.int .i64 x.til) := hcw 3 _ rfl
    have g4 : wr.cell? ⟨(ad.add (i * 10)).block, (ad.add (i * 10)).off + 4, none⟩ = some (.int .i64 x.person) := hcw 4 _ rfl
    have g5 : wr.cell? ⟨(ad.add (i * 10)).block, (ad.add (i * 10)).off + 5, none⟩ = some (.int .i64 x.place) := hcw 5 _ rfl
    have g6 : wr.cell? ⟨(ad.add (i * 10)).block, (ad.add (i * 10)).off + 6, none⟩ = some (.int .i64 x.other) := hcw 6 _ rfl
    have g7 : wr.cell? ⟨(ad.add (i * 10)).block, (ad.add (i * 10)).off + 7, none⟩ = some (.int .i64 x.at_) := hcw 7 _ rfl
    have g8 : wr.cell? ⟨(ad.add (i * 10)).block, (ad.add (i * 10)).off + 8, none⟩ = some (.int .i64 x.order) := hcw 8 _ rfl
    have g9 : wr.cell? ⟨(ad.add (i * 10)).block, (ad.add (i * 10)).off + 9, none⟩ = some (.string (bs x.name)) := hcw 9 _ rfl
    have HX := Lib.hid hx
    clear hx hcw hok
    have k1 := nat_beq x.kind 1
    cases h1 : (x.kind == 1)
    · have q1 : ((x.kind : Int) == 1) = false := k1.trans h1
      have HQ := Lib.hid h1
      clear h1 k1
      go_wp2
      go_roundg (gk - 1)
      case measure => omega
      case rel => exact ⟨i + 1, o, A', n', c', rfl, by go_num, by omega, by omega, Lib.hid ⟨hR.out.1, hR.out.2.1, hR.out.2.2.1, by rw [gather_on HX.out HQ.out]; exact hR.out.2.2.2⟩⟩
    have q1 : ((x.kind : Int) == 1) = true := k1.trans h1
    have HQ := Lib.hid h1
    clear h1 k1
    obtain ⟨A2, cc2, hv2, hN2⟩ := own_nums hR.out.2.2.1 hR.out.1
    obtain ⟨rfl, rfl⟩ : A' = A2 ∧ c' = cc2 := by injection hv2 with e1 _ e3; exact ⟨e1, e3⟩
    have hac := radded_calls A' n' c' o x.person wr hN2 (by omega)
    have HAC := Lib.hid hac
    clear hac hN2 hv2
    go_wp2_with fail
    refine HAC.out.mono ?_
    rintro e w3 ⟨v, rfl, hown, hb3⟩
    have hle : (Pe.ins x.person o).length ≤ n' + 1 := by have := Pe.ins_length x.person o; have := hR.out.1; omega
    obtain ⟨n3, hn3⟩ : ∃ n3, n3 = (Pe.ins x.person o).length := ⟨_, rfl⟩
    rw [← hn3] at hown hle
    obtain ⟨A3, c3, rfl, _, _⟩ := own_shape hown
    have H3 := Lib.hid (And.intro (hR.out.2.1.trans (hb3.mono hR.out.2.1.size)) (And.intro (own_weaken hown hR.out.2.1.size) hn3))
    clear hb3 hown hn3
    clear g0 g1 g2 g3 g4 g5 g6 g7 g8 g9
    dsimp only
    go_wp2
    go_roundg (gk - 1)
    case measure => omega
    case rel =>
      refine ⟨i + 1, Pe.ins x.person o, A3, n3, c3, rfl, by go_num, by omega, by omega, Lib.hid ⟨H3.out.2.2, H3.out.1, H3.out.2.1, ?_⟩⟩
      rw [gather_put HX.out HQ.out, ← hR.out.2.2.2]

/-- The persons named by some entries. -/
def namedP (m : List Pe.Ent) : List Int := (m.filter fun x => x.kind == 1).map (·.person)
theorem namedP_next {l : List Pe.Ent} {i : Nat} {x : Pe.Ent} (hx : l[i]? = some x) : namedP (l.take (i + 1)) = namedP (l.take i) ++ (if (x.kind == 1) = true then [x.person] else []) := by
  rw [List.take_add_one, hx]
  unfold namedP
  simp only [Option.toList_some, List.filter_append, List.map_append]
  congr 1
  cases h : x.kind == 1 <;> simp [h]

set_option maxRecDepth 1000000 in
set_option maxHeartbeats 8000000 in
theorem Persons_calls (A : Option Addr) (n c : Nat) (l : List Pe.Ent) (w : World) (h : EntsAt w A n l) (hn : n ≤ 100000) :
    Calls Tryz.prog 43 #[.slice A n c] w fun e w' => ∃ v, e = .returned v ∧ w'.ownsRow w.heap.size 3 1 v (Pe.persons l).length (nRow (Pe.persons l)) ∧ Below w.heap.size w w' := by
  obtain ⟨i0, hi0, hz0, hz1, hz2⟩ := info_parts infoIntR
  have HI0 := Lib.hid (And.intro hi0 (And.intro hz0 (And.intro hz1 hz2)))
  have H := Lib.hid h
  have hmost := h.most
  obtain ⟨V, hV⟩ : ∃ V, V = Pe.persons l := ⟨_, rfl⟩
  rw [← hV]
  have HV := Lib.hid (show V = Pe.uniqI (namedP l) by rw [hV]; exact (Pe.persons_eq l).symm)
  clear h hV hi0 hz0 hz1 hz2
  go_enter Tryz.func43, Tryz.ntmps43
  go_wp2_with fail
  go_loopg [3, 8] n (fun q s3 s8 wr => ∃ (i n' : Nat) (o : List Int) (A' : Option Addr) (c' : Nat), s3 = .slice A' n' c' ∧ s8 = .int .i64 (i : Int) ∧ i + q = n ∧ n' ≤ i ∧ Hid (Below w.heap.size w wr ∧ wr.ownsRow w.heap.size 3 1 (.slice A' n' c') n' (nRow o) ∧ n' = o.length ∧ o = namedP (l.take i)))
  case atStart => exact ⟨0, 0, [], none, 0, rfl, by go_num, by omega, by omega, Lib.hid ⟨Below.refl _ _, World.ownsRow_nil _ _ _ _, rfl, rfl⟩⟩
  case round =>
    obtain ⟨i, n', o, A', c', rfl, rfl, hi, hn', hR⟩ := hrel
    by_cases hgo : i < n
    case neg =>
      have hd1 : decide ((i : Int) < (n : Int)) = false := by simp; omega
      have hsc := sortedI_calls (W := wr) (base := w.heap.size) (v := .slice A' n' c') (l := o) (by rw [← hR.out.2.2.1]; exact hR.out.2.1) (by have := hR.out.2.2.1; omega)
      have ho : o = namedP l := by
        have h1 := hR.out.2.2.2
        rwa [List.take_of_length_le (by have := H.out.len; omega)] at h1
      rw [ho, ← HV.out] at hsc
      have HSC := Lib.hid hsc
      clear hsc ho
      go_wp2_with fail
      refine HSC.out.mono ?_
      rintro e w3 ⟨v, rfl, hs3, hc3⟩
      have H3 := Lib.hid (And.intro hs3 (hR.out.1.trans (hc3.below (B := w.heap.size) (fun z hz => (hR.out.2.1.lt z hz).1) hR.out.1.size)))
      clear hs3 hc3
      dsimp only
      go_wp2
      go_ret
      exact ⟨v, rfl, H3.out.1, H3.out.2⟩
    have hd1 : decide ((i : Int) < (n : Int)) = true := by simp; omega
    obtain ⟨x, ad, hx, rfl, hok, hcw⟩ := (H.out.below hR.out.1).one hgo
    have g0 : wr.cell? (ad.add (i * 10)) = some (.int .i64 x.day) := hcw 0 _ rfl
    have g1 : wr.cell? ⟨(ad.add (i * 10)).block, (ad.add (i * 10)).off + 1, none⟩ = some (.int .u8 (x.kind : Int)) := hcw 1 _ rfl
    have g2 : wr.cell? ⟨(ad.add (i * 10)).block, (ad.add (i * 10)).off + 2, none⟩ = some (.int .i64 x.since) := hcw 2 _ rfl
    have g3 : wr.cell? ⟨(ad.add (i * 10)).block, (ad.add (i * 10)).off + 3, none⟩ = some (.int .i64 x.til) := hcw 3 _ rfl
    have g4 : wr.cell? ⟨(ad.add (i * 10)).block, (ad.add (i * 10)).off + 4, none⟩ = some (.int .i64 x.person) := hcw 4 _ rfl
    have g5 : wr.cell? ⟨(ad.add (i * 10)).block, (ad.add (i * 10)).off + 5, none⟩ = some (.int .i64 x.place) := hcw 5 _ rfl
    have g6 : wr.cell? ⟨(ad.add (i * 10)).block, (ad.add (i * 10)).off + 6, none⟩ = some (.int .i64 x.other) := hcw 6 _ rfl
    have g7 : wr.cell? ⟨(ad.add (i * 10)).block, (ad.add (i * 10)).off + 7, none⟩ = some (.int .i64 x.at_) := hcw 7 _ rfl
    have g8 : wr.cell? ⟨(ad.add (i * 10)).block, (ad.add (i * 10)).off + 8, none⟩ = some (.int .i64 x.order) := hcw 8 _ rfl
    have g9 : wr.cell? ⟨(ad.add (i * 10)).block, (ad.add (i * 10)).off + 9, none⟩ = some (.string (bs x.name)) := hcw 9 _ rfl
    have HX := Lib.hid hx
    clear hx hcw hok
    go_upto_region 5 with fail
    obtain ⟨xb, hxb⟩ : ∃ g, g = wr.heap.size := ⟨_, rfl⟩
    obtain ⟨w1, hw1⟩ : ∃ w0, w0 = wr.alloc (.cells (eCells x) 31) := ⟨_, rfl⟩
    have hbl : Below wr.heap.size wr w1 := by rw [hw1]; exact (Below.refl _ wr).alloc (Nat.le_refl _) _
    have hgb : Blk w1 xb 31 (eCells x) := by rw [hw1, hxb]; exact Blk.fresh _ _ _
    unfold eCells at hw1
    rw [← hxb, ← hw1]
    clear g0 g1 g2 g3 g4 g5 g6 g7 g8 g9
    have H1 := Lib.hid (And.intro (hR.out.1.trans (hbl.mono hR.out.1.size)) (own_below hR.out.2.1 hbl))
    have x1 : w1.cell? ⟨xb, 1, none⟩ = some (.int .u8 (x.kind : Int)) := hgb.cell 1
    have x4 : w1.cell? ⟨xb, 4, none⟩ = some (.int .i64 x.person) := hgb.cell 4
    clear hbl hxb hw1 hgb
    have k1 := nat_beq x.kind 1
    cases h1 : (x.kind == 1)
    · have q1 : ((x.kind : Int) == 1) = false := k1.trans h1
      have HQ := Lib.hid h1
      clear h1 k1
      go_wp2
      go_roundg (gk - 1)
      case measure => omega
      case rel => exact ⟨i + 1, n', o, A', c', rfl, by go_num, by omega, by omega, Lib.hid ⟨H1.out.1, H1.out.2, hR.out.2.2.1, by rw [namedP_next HX.out, HQ.out, ← hR.out.2.2.2]; simp⟩⟩
    have q1 : ((x.kind : Int) == 1) = true := k1.trans h1
    have HQ := Lib.hid h1
    clear h1 k1
    go_wp2_with (at_builtin; refine wpList_append_lies _ rfl _ _ 42 rfl w.heap.size 3 i0 _ 1 8 Tryz.underlying42 HI0.out.1 HI0.out.2.1 HI0.out.2.2.1 HI0.out.2.2.2 (by rfl) (by decide) (.slice A' n' c') n' (nRow o) rfl (own_below H1.out.2 ((Below.refl _ w1).alloc (Nat.le_refl _) _)) ⟨w1.heap.size, 0, none⟩ 1 1 [.int .i64 x.person] rfl rfl (World.news_of_block (cs := #[.int .i64 x.person]) (t := 3) (fr := (0, 0)) (heap_alloc_new w1 _)) ?o1 (by decide) ?o2 ?o3 ?o4 _ rfl ?_)
    case o1 => simp [Value.oneCell']
    case o2 => simp only [maxLen]; omega
    case o3 => omega
    case o4 => have := H1.out.1.size; (try simp); omega
    intro gn cn W2 hown hgr _ hlt
    have HA := Lib.hid (And.intro ((H1.out.1.alloc H1.out.1.size _).grown hgr (H1.out.1.alloc H1.out.1.size _).size (fun z hz => (H1.out.2.lt z hz).1)) (show W2.ownsRow w.heap.size 3 1 (.slice (some ⟨gn, 0, none⟩) (n' + 1) cn) (n' + 1) (nRow (o ++ [x.person])) by rw [nRow_snoc]; exact hown))
    clear hown hgr hlt x1 x4
    go_wp2
    go_roundg (gk - 1)
    case measure => omega
    case rel => exact ⟨i + 1, n' + 1, o ++ [x.person], some ⟨gn, 0, none⟩, cn, rfl, by go_num, by omega, by omega, Lib.hid ⟨HA.out.1, HA.out.2, by simp; exact hR.out.2.2.1, by rw [namedP_next HX.out, HQ.out, ← hR.out.2.2.2]; simp⟩⟩

end Go.Proofs.YtnphlekailodkaaGreatDoor

namespace Go.Proofs.YtnphlekailodkaaGreatDoor
open Go.RowKit Go.Shelf

attribute [local go_sem] Oper.semAt_some
/-- The names of a person among some entries. -/
def nml (p : Int) (m : List Pe.Ent) : List (List UInt8) := (m.filter fun x => x.person == p).map (·.name)
theorem nml_snoc (p : Int) (m : List Pe.Ent) (x : Pe.Ent) : nml p (m ++ [x]) = nml p m ++ (if (x.person == p) = true then [x.name] else []) := by
  unfold nml
  rw [List.filter_append, List.map_append]
  cases h : x.person == p <;> simp [h]
theorem nml_le (p : Int) (m : List Pe.Ent) : (nml p m).length ≤ m.length := by
  unfold nml
  rw [List.length_map]
  exact List.length_filter_le _ _
/-- The persons with a name among some entries. -/
def cll (p : List UInt8) (m : List Pe.Ent) : List Int := (m.filter fun x => x.name == p).map (·.person)
theorem cll_snoc (p : List UInt8) (m : List Pe.Ent) (x : Pe.Ent) : cll p (m ++ [x]) = cll p m ++ (if (x.name == p) = true then [x.person] else []) := by
  unfold cll
  rw [List.filter_append, List.map_append]
  cases h : x.name == p <;> simp [h]
theorem cll_le (p : List UInt8) (m : List Pe.Ent) : (cll p m).length ≤ m.length := by
  unfold cll
  rw [List.length_map]
  exact List.length_filter_le _ _

/-- What holds between two rounds of the loop over the names. -/
structure NameI (p : Int) (w : World) (b sz : Nat) (m : List Pe.Ent) (W : World) : Prop where
  pb : Blk W b 3 #[.int .i64 p]
  ov : ∃ v, Blk W (b + 1) 58 #[v] ∧ W.ownsRow sz 9 1 v (nml p m).length (sRow (nml p m))
  sz : sz ≤ W.heap.size
  bel : Below w.heap.size w W
section
variable {p : Int} {w : World} {b sz : Nat} {m : List Pe.Ent} {W W' : World}
theorem NameI.own {B : Nat} {row : Option Nat} (h : NameI p w b sz m W) (hw : w.heap.size ≤ B) (hg : W.grownBy W' row) (hr : ∀ r, row = some r → B ≤ r ∧ ∃ o : Obj, W.heap[r]? = some o ∧ o.isCells = false) : NameI p w b sz m W' :=
  ⟨h.pb.own hg hr, by obtain ⟨v, h1, h2⟩ := h.ov; exact ⟨v, h1.own hg hr, own_own h2 hg hr⟩, Nat.le_trans h.sz hg.size, below_own h.bel (Nat.le_refl _) hw hg hr⟩
theorem NameI.below (h : NameI p w b sz m W) (hb : Below W.heap.size W W') : NameI p w b sz m W' :=
  ⟨h.pb.below hb h.pb.lt, by obtain ⟨v, h1, h2⟩ := h.ov; exact ⟨v, h1.below hb h1.lt, own_below h2 hb⟩, Nat.le_trans h.sz hb.size, h.bel.trans (hb.mono h.bel.size)⟩
end

set_option maxRecDepth 1000000 in
set_option maxHeartbeats 8000000 in
theorem Names_calls (A : Option Addr) (n c : Nat) (l : List Pe.Ent) (p : Int) (d : Int) (w : World) (h : EntsAt w A n l) (hn : n ≤ 100000) :
    Calls Tryz.prog 46 #[.slice A n c, .int .i64 p, .int .i64 d] w fun e w' => ∃ v, e = .returned v ∧ w'.ownsRow w.heap.size 9 1 v (Pe.names l p d).length (sRow (Pe.names l p d)) ∧ Below w.heap.size w w' := by
  have hln := h.len
  have H := Lib.hid (And.intro h hln)
  clear h hln
  obtain ⟨i0, hi0, hz0, hz1, hz2⟩ := info_parts infoStrN
  have HI0 := Lib.hid (And.intro hi0 (And.intro hz0 (And.intro hz1 hz2)))
  clear hi0 hz0 hz1 hz2
  refine (callsIn_wide (n := 5)).1 ?_
  refine callsIn_of_wp_marks Tryz.func46 rfl trivial ?_ rfl
  simp only [Tryz.ntmps46, List.size_toArray, List.length_cons, List.length_nil, Nat.reduceAdd, Nat.reduceSub, Array.replicate_succ, Array.replicate_zero, List.push_toArray, List.append_toArray, List.nil_append, List.cons_append]
  gi_wp2_with fail
  refine ⟨trivial, (callsIn_wide.2 (all_calls A n c 1 d _)).mono ?_⟩
  rintro e w' ⟨rfl, rfl⟩
  obtain ⟨b, hb⟩ : ∃ b, b = w.heap.size := ⟨_, rfl⟩
  obtain ⟨W0, hW0⟩ : ∃ W0, W0 = ((((w.alloc (.cells #[.int .i64 p] 3)).alloc (.cells #[.slice none 0 0] 58)).alloc (.cells #[.slice A n c] 22)).alloc (.cells #[.int .u8 ((1 : Nat) : Int)] 5)).alloc (.cells #[.int .i64 d] 3) := ⟨_, rfl⟩
  have hi := Its.new ((w.alloc (.cells #[.int .i64 p] 3)).alloc (.cells #[.slice none 0 0] 58)) A n c 1 d
  have hp0 := ((((Blk.fresh w 3 #[.int .i64 p]).alloc (.cells #[.slice none 0 0] 58)).alloc (.cells #[.slice A n c] 22)).alloc (.cells #[.int .u8 ((1 : Nat) : Int)] 5)).alloc (.cells #[.int .i64 d] 3)
  have ho0 := (((Blk.fresh (w.alloc (.cells #[.int .i64 p] 3)) 58 #[.slice none 0 0]).alloc (.cells #[.slice A n c] 22)).alloc (.cells #[.int .u8 ((1 : Nat) : Int)] 5)).alloc (.cells #[.int .i64 d] 3)
  have hB0 : Below w.heap.size w W0 := by rw [hW0]; exact (((((Below.refl _ w).alloc (Nat.le_refl _) _).alloc (by simp) _).alloc (by simp; omega) _).alloc (by simp; omega) _).alloc (by simp; omega) _
  have hsz : W0.heap.size = w.heap.size + 5 := by rw [hW0]; simp
  simp only [World.size_alloc] at hi ho0 ⊢
  rw [← hW0] at hi hp0 ho0 ⊢
  rw [← hb] at hi hp0 ho0 ⊢
  have HW := Lib.hid (And.intro hi (And.intro (show NameI p w b W0.heap.size [] W0 from ⟨hp0, ⟨_, ho0, World.ownsRow_nil _ _ _ _⟩, Nat.le_refl _, hB0⟩) (And.intro hsz hb)))
  clear hi hp0 ho0 hB0 hW0 hsz hb
  gi_wp2_with fail
  refine wpIn_rangeFunc_ownH rfl (by omega) (gf := 93) (lb := #[.pointer (some ⟨b + 1 + 1, 0, none⟩), .pointer (some ⟨b + 1 + 1 + 1, 0, none⟩), .pointer (some ⟨b + 1 + 1 + 1 + 1, 0, none⟩)]) rfl trivial (enters_of Tryz.func93 (by kernel_rfl) rfl)
    (all_stops 4 (by omega) w.heap.size (b + 1 + 1) A n c 1 d l w W0 rfl HW.out.2.1.bel H.out.1 HW.out.1.b0 HW.out.1.b1 HW.out.1.b2) Keeps3.trans (Keeps3.put (by have := HW.out; omega) (by have := HW.out; omega)) (Below.refl _ _) (fun _ => rfl)
    (fun pre W => NameI p w b W0.heap.size (pre.map Subtype.val) W)
    (fun _ _ _ => False)
    (fun _ X Y row hs hg hr => hs.own (by have := HW.out; omega) hg hr)
    (fun _ _ _ _ _ hs _ _ => hs)
    HW.out.2.1
    (fun x a' W => ∃ Bx, W0.heap.size ≤ Bx ∧ Blk W Bx 31 (eCells x.1) ∧ a' = { tmps := #[.slice A n c, .int .i64 p, .int .i64 d, undef, .pointer (some ⟨b, 0, none⟩), undef, .slice none 0 0, .pointer (some ⟨b + 1, 0, none⟩), .pointer (some ⟨Bx, 0, none⟩), .slice A n c, .int .i64 d, .func (.func 93) #[] #[.pointer (some ⟨b + 1 + 1, 0, none⟩), .pointer (some ⟨b + 1 + 1 + 1, 0, none⟩), .pointer (some ⟨b + 1 + 1 + 1 + 1, 0, none⟩)], .agg (eCells x.1), undef, undef, undef, undef, undef, undef, undef, undef, undef, undef, undef], defers := [] })
    (fun x a' _ X Y row hs hg hr => by obtain ⟨Bx, h1, h2, h3⟩ := hs; exact ⟨Bx, h1, h2.own hg hr, h3⟩)
    ?assign ?body ?done ?stop
  case assign =>
    rintro lp pre x W K hI hK
    have HA := Lib.hid hI
    clear hI
    unfold eCells
    gi_wp2
    exact hK _ _ ((KeepsOthers.alloc _ _).from _) (Keeps3.of_below ((Below.refl _ W).alloc (Nat.le_refl _) _)) (HA.out.below ((Below.refl _ W).alloc (Nat.le_refl _) _)) ⟨W.heap.size, HA.out.sz, Blk.fresh W 31 (eCells x.1), rfl⟩
  case body =>
    rintro lp pre x a' W hl ⟨r, hr⟩ hI ⟨Bx, hBx, bX, rfl⟩ hlt
    have p0 : W.cell? ⟨b, 0, none⟩ = some (.int .i64 p) := hI.pb.cell 0
    have x4 : W.cell? ⟨Bx, 4, none⟩ = some (.int .i64 x.1.person) := bX.cell 4
    have x9 : W.cell? ⟨Bx, 9, none⟩ = some (.string (bs x.1.name)) := bX.cell 9
    obtain ⟨D, hD⟩ : ∃ D, D = nml p (pre.map Subtype.val) := ⟨_, rfl⟩
    have hnx : nml p ((pre ++ [x]).map Subtype.val) = D ++ (if (x.1.person == p) = true then [x.1.name] else []) := by
      rw [List.map_append, hD]; exact nml_snoc p (pre.map Subtype.val) x.1
    have hDn : D.length ≤ 100000 := by
      have h1 := nml_le p (pre.map Subtype.val)
      have h2 := H.out.2
      rw [hD]
      rw [List.length_map] at h1
      omega
    obtain ⟨v, hvb, hvo⟩ := hI.ov
    rw [← hD] at hvo
    have o0 : W.cell? ⟨b + 1, 0, none⟩ = some v := hvb.cell 0
    have HA := Lib.hid (And.intro hI (And.intro hD hnx))
    have HB := Lib.hid (And.intro hvb hvo)
    clear hI bX hr hnx hD hvb hvo
    have hszW : W0.heap.size ≤ W.heap.size := HA.out.1.sz
    skip
    cases hd : (x.1.person == p)
    case false =>
      skip
      have HD := Lib.hid hd
      skip
      gi_wp2
      refine ⟨(KeepsOthers.of_below (Below.refl W.heap.size W)).from _, Keeps3.of_below (Below.refl W.heap.size W), ?_⟩
      show NameI p w b W0.heap.size ((pre ++ [x]).map Subtype.val) W
      have h9 := HA.out.1
      refine ⟨h9.pb, ?_, h9.sz, h9.bel⟩
      rw [HA.out.2.2, HD.out, if_neg (by simp), List.append_nil, HA.out.2.1]
      exact h9.ov
    case true =>
      skip
      have HD := Lib.hid hd
      skip
      gi_wp2_with (gi_at_builtin; refine wpListIn_append_own _ rfl _ _ 58 rfl W0.heap.size 9 i0 _ 1 16 Tryz.underlying58 HI0.out.1 HI0.out.2.1 HI0.out.2.2.1 HI0.out.2.2.2 rfl (by decide) v D.length (sRow D) rfl (HB.out.2.alloc _) ⟨W.heap.size, 0, none⟩ 1 1 [.string (bs x.1.name)] rfl rfl ?ac1 ?ac2 ?ac3 ?ac4 ?ac5 ?_)
      case ac1 => exact World.news_of_block (cs := #[.string (bs x.1.name)]) (t := 9) (fr := (0, 0)) (heap_alloc_new W _)
      case ac2 => intro u hu; simp at hu; subst hu; rfl
      case ac3 => simp only [maxLen]; omega
      case ac4 => omega
      case ac5 => (try simp); omega
      intro v' w7 hown7 hgrow7 _
      obtain ⟨g7, cap7, rfl⟩ := ownsRow_succ hown7
      have hgc : ∀ j (o : Obj), v.ownBlock = some j → (W.alloc (.cells #[.string (bs x.1.name)] 9)).heap[j]? = some o → o.isCells = true := by
        intro j o ej hj
        rcases (HB.out.2.alloc (.cells #[.string (bs x.1.name)] 9)).2 with ⟨rfl, _⟩ | ⟨g, cap, cur, rfl, _, hgb, _⟩
        · simp [Value.ownBlock] at ej
        · obtain rfl : g = j := by simpa [Value.ownBlock] using ej
          rw [hgb] at hj; cases hj; rfl
      have hC7 : Chg (fun i => W0.heap.size ≤ i ∨ i = b + 1) W w7 := (((Chg.refl (fun i => W0.heap.size ≤ i ∨ i = b + 1) W).alloc (.cells #[.string (bs x.1.name)] 9)).trans (Chg.of_grownBy (fp := fun i => W0.heap.size ≤ i ∨ i = b + 1) hgrow7 (fun k hk => .inl (.inl (HB.out.2.lt k hk).1))) (fun i hi => .inl hi))
      have hvb7 : Blk w7 (b + 1) 58 #[v] := (HB.out.1.alloc _).grown hgrow7 (fun e => by have := (HB.out.2.lt _ e.symm).1; have := HW.out; omega)
      have o7 : w7.cell? ⟨b + 1, 0, none⟩ = some v := hvb7.cell 0
      have f7 := hvb7.frozen 0
      have hC8 := hC7.setCell (p := ⟨b + 1, 0, none⟩) (.inl (.inr rfl)) (.slice (some ⟨g7, 0, none⟩) (D.length + 1) cap7)
      have hK8 := ((KeepsOthers.alloc W (.cells #[.string (bs x.1.name)] 9)).trans (KeepsOthers.of_grownBy hgrow7 hgc)).trans (KeepsOthers.setCell w7 ⟨b + 1, 0, none⟩ (.slice (some ⟨g7, 0, none⟩) (D.length + 1) cap7))
      have hO8 := ((Chg.refl (fun i => i = b + 1) w7).setCell (p := ⟨b + 1, 0, none⟩) (.inl rfl) (.slice (some ⟨g7, 0, none⟩) (D.length + 1) cap7)).own hown7 (fun k hk e => by have := (hown7.lt k hk).1; have := HW.out; omega)
      have H8 := Lib.hid (And.intro hC8 (And.intro hK8 (And.intro hO8 (hvb7.put 0 (.slice (some ⟨g7, 0, none⟩) (D.length + 1) cap7)))))
      clear hC7 hC8 hK8 hO8 hvb7 hown7 hgrow7 hgc
      gi_wp2
      refine ⟨H8.out.2.1.from _, Keeps3.of_chg (fp := fun i => W0.heap.size ≤ i ∨ i = b + 1) H8.out.1 (fun i hi => by have := HW.out; omega), ?_⟩
      show NameI p w b W0.heap.size ((pre ++ [x]).map Subtype.val) _
      refine ⟨H8.out.1.blk HA.out.1.pb (by have := HW.out; omega), ⟨_, H8.out.2.2.2, ?_⟩, Nat.le_trans HA.out.1.sz H8.out.1.size, HA.out.1.bel.trans (H8.out.1.below (fun i hi => by have := HW.out; omega) HA.out.1.bel.size)⟩
      rw [HA.out.2.2, if_pos HD.out, List.length_append, sRow_snoc]
      exact H8.out.2.2.1
  case done =>
    rintro D ys W hD hS hI hK
    obtain ⟨v, hvb, hvo⟩ := hI.ov
    have hdl : nml p (ys.map Subtype.val) = nml p (Pe.onDay l 1 d) := by rw [hS]
    rw [hdl] at hvo
    have o0 : W.cell? ⟨b + 1, 0, none⟩ = some v := hvb.cell 0
    have hdn : (nml p (Pe.onDay l 1 d)).length ≤ 100000 := by
      have h1 := nml_le p (Pe.onDay l 1 d)
      have h2 : (Pe.onDay l 1 d).length ≤ l.length := List.length_filter_le _ _
      have h3 := H.out.2
      omega
    have hsc := sortedS_calls (l := nml p (Pe.onDay l 1 d)) hvo (by omega)
    rw [show Pe.uniqS (nml p (Pe.onDay l 1 d)) = Pe.names l p d from Pe.names_eq l p d] at hsc
    have HSC := Lib.hid hsc
    have HA := Lib.hid (And.intro hI (And.intro hvb (And.intro hvo hK)))
    clear hI hvb hvo hK hS hdl hsc
    gi_wp2_with fail
    refine ⟨trivial, (callsIn_wide.2 HSC.out).mono ?_⟩
    rintro e w4 ⟨v4, rfl, hs4, hc4⟩
    have H4 := Lib.hid (And.intro hs4 hc4)
    clear hs4 hc4
    dsimp only
    gi_wp2
    have hD4 : w4.heap[D]? = some (.deferred (some [])) := (H4.out.2.block D (Array.getElem?_eq_some_iff.1 HA.out.2.2.2).1 (fun e => by
      rcases HA.out.2.2.1.2 with ⟨rfl, _⟩ | ⟨g, cp, cur, rfl, _, hgb, _⟩
      · simp [Value.ownBlock] at e
      · obtain rfl : g = D := by simpa [Value.ownBlock] using e
        rw [HA.out.2.2.2] at hgb; cases hgb)).trans HA.out.2.2.2
    refine ⟨by simp, .inl ⟨_, _, rfl, run_takeDeferred hD4, ?_⟩⟩
    refine ⟨_, results_tmp rfl _ _ _, v4, rfl, ?_, ?_⟩
    · exact own_weaken (ownsRow_putObj H4.out.1 _ hD4 rfl) (by have := HW.out; omega)
    · exact (HA.out.1.bel.trans (H4.out.2.below (fun i hi => by have := (HA.out.2.2.1.lt _ hi).1; have := HW.out; omega) HA.out.1.bel.size)).trans (belowK_b (w := w) (Nat.le_refl _) _ D _ _ (by have := HW.out; omega) hD4 rfl rfl)
  case stop =>
    rintro D jc pre W _ _ h _
    exact h.elim

/-- What holds between two rounds of the loop over the names. -/
structure CallI (p : List UInt8) (w : World) (b sz : Nat) (m : List Pe.Ent) (W : World) : Prop where
  pb : Blk W b 9 #[.string (bs p)]
  ov : ∃ v, Blk W (b + 1) 42 #[v] ∧ W.ownsRow sz 3 1 v (cll p m).length (nRow (cll p m))
  sz : sz ≤ W.heap.size
  bel : Below w.heap.size w W
section
variable {p : List UInt8} {w : World} {b sz : Nat} {m : List Pe.Ent} {W W' : World}
theorem CallI.own {B : Nat} {row : Option Nat} (h : CallI p w b sz m W) (hw : w.heap.size ≤ B) (hg : W.grownBy W' row) (hr : ∀ r, row = some r → B ≤ r ∧ ∃ o : Obj, W.heap[r]? = some o ∧ o.isCells = false) : CallI p w b sz m W' :=
  ⟨h.pb.own hg hr, by obtain ⟨v, h1, h2⟩ := h.ov; exact ⟨v, h1.own hg hr, own_own h2 hg hr⟩, Nat.le_trans h.sz hg.size, below_own h.bel (Nat.le_refl _) hw hg hr⟩
theorem CallI.below (h : CallI p w b sz m W) (hb : Below W.heap.size W W') : CallI p w b sz m W' :=
  ⟨h.pb.below hb h.pb.lt, by obtain ⟨v, h1, h2⟩ := h.ov; exact ⟨v, h1.below hb h1.lt, own_below h2 hb⟩, Nat.le_trans h.sz hb.size, h.bel.trans (hb.mono h.bel.size)⟩
end

set_option maxRecDepth 1000000 in
set_option maxHeartbeats 8000000 in
theorem Called_calls (A : Option Addr) (n c : Nat) (l : List Pe.Ent) (p : List UInt8) (d : Int) (w : World) (h : EntsAt w A n l) (hn : n ≤ 100000) :
    Calls Tryz.prog 48 #[.slice A n c, .string (bs p), .int .i64 d] w fun e w' => ∃ v, e = .returned v ∧ w'.ownsRow w.heap.size 3 1 v (Pe.calledS l p d).length (nRow (Pe.calledS l p d)) ∧ Below w.heap.size w w' := by
  have hln := h.len
  have H := Lib.hid (And.intro h hln)
  clear h hln
  obtain ⟨i0, hi0, hz0, hz1, hz2⟩ := info_parts infoIntR
  have HI0 := Lib.hid (And.intro hi0 (And.intro hz0 (And.intro hz1 hz2)))
  clear hi0 hz0 hz1 hz2
  refine (callsIn_wide (n := 5)).1 ?_
  refine callsIn_of_wp_marks Tryz.func48 rfl trivial ?_ rfl
  simp only [Tryz.ntmps48, List.size_toArray, List.length_cons, List.length_nil, Nat.reduceAdd, Nat.reduceSub, Array.replicate_succ, Array.replicate_zero, List.push_toArray, List.append_toArray, List.nil_append, List.cons_append]
  gi_wp2_with fail
  refine ⟨trivial, (callsIn_wide.2 (all_calls A n c 1 d _)).mono ?_⟩
  rintro e w' ⟨rfl, rfl⟩
  obtain ⟨b, hb⟩ : ∃ b, b = w.heap.size := ⟨_, rfl⟩
  obtain ⟨W0, hW0⟩ : ∃ W0, W0 = ((((w.alloc (.cells #[.string (bs p)] 9)).alloc (.cells #[.slice none 0 0] 42)).alloc (.cells #[.slice A n c] 22)).alloc (.cells #[.int .u8 ((1 : Nat) : Int)] 5)).alloc (.cells #[.int .i64 d] 3) := ⟨_, rfl⟩
  have hi := Its.new ((w.alloc (.cells #[.string (bs p)] 9)).alloc (.cells #[.slice none 0 0] 42)) A n c 1 d
  have hp0 := ((((Blk.fresh w 9 #[.string (bs p)]).alloc (.cells #[.slice none 0 0] 42)).alloc (.cells #[.slice A n c] 22)).alloc (.cells #[.int .u8 ((1 : Nat) : Int)] 5)).alloc (.cells #[.int .i64 d] 3)
  have ho0 := (((Blk.fresh (w.alloc (.cells #[.string (bs p)] 9)) 42 #[.slice none 0 0]).alloc (.cells #[.slice A n c] 22)).alloc (.cells #[.int .u8 ((1 : Nat) : Int)] 5)).alloc (.cells #[.int .i64 d] 3)
  have hB0 : Below w.heap.size w W0 := by rw [hW0]; exact (((((Below.refl _ w).alloc (Nat.le_refl _) _).alloc (by simp) _).alloc (by simp; omega) _).alloc (by simp; omega) _).alloc (by simp; omega) _
  have hsz : W0.heap.size = w.heap.size + 5 := by rw [hW0]; simp
  simp only [World.size_alloc] at hi ho0 ⊢
  rw [← hW0] at hi hp0 ho0 ⊢
  rw [← hb] at hi hp0 ho0 ⊢
  have HW := Lib.hid (And.intro hi (And.intro (show CallI p w b W0.heap.size [] W0 from ⟨hp0, ⟨_, ho0, World.ownsRow_nil _ _ _ _⟩, Nat.le_refl _, hB0⟩) (And.intro hsz hb)))
  clear hi hp0 ho0 hB0 hW0 hsz hb
  gi_wp2_with fail
  refine wpIn_rangeFunc_ownH rfl (by omega) (gf := 93) (lb := #[.pointer (some ⟨b + 1 + 1, 0, none⟩), .pointer (some ⟨b + 1 + 1 + 1, 0, none⟩), .pointer (some ⟨b + 1 + 1 + 1 + 1, 0, none⟩)]) rfl trivial (enters_of Tryz.func93 (by kernel_rfl) rfl)
    (all_stops 4 (by omega) w.heap.size (b + 1 + 1) A n c 1 d l w W0 rfl HW.out.2.1.bel H.out.1 HW.out.1.b0 HW.out.1.b1 HW.out.1.b2) Keeps3.trans (Keeps3.put (by have := HW.out; omega) (by have := HW.out; omega)) (Below.refl _ _) (fun _ => rfl)
    (fun pre W => CallI p w b W0.heap.size (pre.map Subtype.val) W)
    (fun _ _ _ => False)
    (fun _ X Y row hs hg hr => hs.own (by have := HW.out; omega) hg hr)
    (fun _ _ _ _ _ hs _ _ => hs)
    HW.out.2.1
    (fun x a' W => ∃ Bx, W0.heap.size ≤ Bx ∧ Blk W Bx 31 (eCells x.1) ∧ a' = { tmps := #[.slice A n c, .string (bs p), .int .i64 d, undef, .pointer (some ⟨b, 0, none⟩), undef, .slice none 0 0, .pointer (some ⟨b + 1, 0, none⟩), .pointer (some ⟨Bx, 0, none⟩), .slice A n c, .int .i64 d, .func (.func 93) #[] #[.pointer (some ⟨b + 1 + 1, 0, none⟩), .pointer (some ⟨b + 1 + 1 + 1, 0, none⟩), .pointer (some ⟨b + 1 + 1 + 1 + 1, 0, none⟩)], .agg (eCells x.1), undef, undef, undef, undef, undef, undef, undef, undef, undef, undef, undef], defers := [] })
    (fun x a' _ X Y row hs hg hr => by obtain ⟨Bx, h1, h2, h3⟩ := hs; exact ⟨Bx, h1, h2.own hg hr, h3⟩)
    ?assign ?body ?done ?stop
  case assign =>
    rintro lp pre x W K hI hK
    have HA := Lib.hid hI
    clear hI
    unfold eCells
    gi_wp2
    exact hK _ _ ((KeepsOthers.alloc _ _).from _) (Keeps3.of_below ((Below.refl _ W).alloc (Nat.le_refl _) _)) (HA.out.below ((Below.refl _ W).alloc (Nat.le_refl _) _)) ⟨W.heap.size, HA.out.sz, Blk.fresh W 31 (eCells x.1), rfl⟩
  case body =>
    rintro lp pre x a' W hl ⟨r, hr⟩ hI ⟨Bx, hBx, bX, rfl⟩ hlt
    have p0 : W.cell? ⟨b, 0, none⟩ = some (.string (bs p)) := hI.pb.cell 0
    have x4 : W.cell? ⟨Bx, 4, none⟩ = some (.int .i64 x.1.person) := bX.cell 4
    have x9 : W.cell? ⟨Bx, 9, none⟩ = some (.string (bs x.1.name)) := bX.cell 9
    obtain ⟨D, hD⟩ : ∃ D, D = cll p (pre.map Subtype.val) := ⟨_, rfl⟩
    have hnx : cll p ((pre ++ [x]).map Subtype.val) = D ++ (if (x.1.name == p) = true then [x.1.person] else []) := by
      rw [List.map_append, hD]; exact cll_snoc p (pre.map Subtype.val) x.1
    have hDn : D.length ≤ 100000 := by
      have h1 := cll_le p (pre.map Subtype.val)
      have h2 := H.out.2
      rw [hD]
      rw [List.length_map] at h1
      omega
    obtain ⟨v, hvb, hvo⟩ := hI.ov
    rw [← hD] at hvo
    have o0 : W.cell? ⟨b + 1, 0, none⟩ = some v := hvb.cell 0
    have HA := Lib.hid (And.intro hI (And.intro hD hnx))
    have HB := Lib.hid (And.intro hvb hvo)
    clear hI bX hr hnx hD hvb hvo
    have hszW : W0.heap.size ≤ W.heap.size := HA.out.1.sz
    have hbq := bs_beq x.1.name p
    cases hd : (x.1.name == p)
    case false =>
      have hbz : ((bs x.1.name).toList == (bs p).toList) = false := by rw [hbq]; have := hd; simpa using this
      clear hbq
      have HD := Lib.hid hd
      clear hd
      gi_wp2
      refine ⟨(KeepsOthers.of_below (Below.refl W.heap.size W)).from _, Keeps3.of_below (Below.refl W.heap.size W), ?_⟩
      show CallI p w b W0.heap.size ((pre ++ [x]).map Subtype.val) W
      have h9 := HA.out.1
      refine ⟨h9.pb, ?_, h9.sz, h9.bel⟩
      rw [HA.out.2.2, HD.out, if_neg (by simp), List.append_nil, HA.out.2.1]
      exact h9.ov
    case true =>
      have hbz : ((bs x.1.name).toList == (bs p).toList) = true := by rw [hbq]; have := hd; simpa using this
      clear hbq
      have HD := Lib.hid hd
      clear hd
      gi_wp2_with (gi_at_builtin; refine wpListIn_append_own _ rfl _ _ 42 rfl W0.heap.size 3 i0 _ 1 8 Tryz.underlying42 HI0.out.1 HI0.out.2.1 HI0.out.2.2.1 HI0.out.2.2.2 rfl (by decide) v D.length (nRow D) rfl (HB.out.2.alloc _) ⟨W.heap.size, 0, none⟩ 1 1 [.int .i64 x.1.person] rfl rfl ?ac1 ?ac2 ?ac3 ?ac4 ?ac5 ?_)
      case ac1 => exact World.news_of_block (cs := #[.int .i64 x.1.person]) (t := 3) (fr := (0, 0)) (heap_alloc_new W _)
      case ac2 => intro u hu; simp at hu; subst hu; rfl
      case ac3 => simp only [maxLen]; omega
      case ac4 => omega
      case ac5 => (try simp); omega
      intro v' w7 hown7 hgrow7 _
      obtain ⟨g7, cap7, rfl⟩ := ownsRow_succ hown7
      have hgc : ∀ j (o : Obj), v.ownBlock = some j → (W.alloc (.cells #[.int .i64 x.1.person] 3)).heap[j]? = some o → o.isCells = true := by
        intro j o ej hj
        rcases (HB.out.2.alloc (.cells #[.int .i64 x.1.person] 3)).2 with ⟨rfl, _⟩ | ⟨g, cap, cur, rfl, _, hgb, _⟩
        · simp [Value.ownBlock] at ej
        · obtain rfl : g = j := by simpa [Value.ownBlock] using ej
          rw [hgb] at hj; cases hj; rfl
      have hC7 : Chg (fun i => W0.heap.size ≤ i ∨ i = b + 1) W w7 := (((Chg.refl (fun i => W0.heap.size ≤ i ∨ i = b + 1) W).alloc (.cells #[.int .i64 x.1.person] 3)).trans (Chg.of_grownBy (fp := fun i => W0.heap.size ≤ i ∨ i = b + 1) hgrow7 (fun k hk => .inl (.inl (HB.out.2.lt k hk).1))) (fun i hi => .inl hi))
      have hvb7 : Blk w7 (b + 1) 42 #[v] := (HB.out.1.alloc _).grown hgrow7 (fun e => by have := (HB.out.2.lt _ e.symm).1; have := HW.out; omega)
      have o7 : w7.cell? ⟨b + 1, 0, none⟩ = some v := hvb7.cell 0
      have f7 := hvb7.frozen 0
      have hC8 := hC7.setCell (p := ⟨b + 1, 0, none⟩) (.inl (.inr rfl)) (.slice (some ⟨g7, 0, none⟩) (D.length + 1) cap7)
      have hK8 := ((KeepsOthers.alloc W (.cells #[.int .i64 x.1.person] 3)).trans (KeepsOthers.of_grownBy hgrow7 hgc)).trans (KeepsOthers.setCell w7 ⟨b + 1, 0, none⟩ (.slice (some ⟨g7, 0, none⟩) (D.length + 1) cap7))
      have hO8 := ((Chg.refl (fun i => i = b + 1) w7).setCell (p := ⟨b + 1, 0, none⟩) (.inl rfl) (.slice (some ⟨g7, 0, none⟩) (D.length + 1) cap7)).own hown7 (fun k hk e => by have := (hown7.lt k hk).1; have := HW.out; omega)
      have H8 := Lib.hid (And.intro hC8 (And.intro hK8 (And.intro hO8 (hvb7.put 0 (.slice (some ⟨g7, 0, none⟩) (D.length + 1) cap7)))))
      clear hC7 hC8 hK8 hO8 hvb7 hown7 hgrow7 hgc
      gi_wp2
      refine ⟨H8.out.2.1.from _, Keeps3.of_chg (fp := fun i => W0.heap.size ≤ i ∨ i = b + 1) H8.out.1 (fun i hi => by have := HW.out; omega), ?_⟩
      show CallI p w b W0.heap.size ((pre ++ [x]).map Subtype.val) _
      refine ⟨H8.out.1.blk HA.out.1.pb (by have := HW.out; omega), ⟨_, H8.out.2.2.2, ?_⟩, Nat.le_trans HA.out.1.sz H8.out.1.size, HA.out.1.bel.trans (H8.out.1.below (fun i hi => by have := HW.out; omega) HA.out.1.bel.size)⟩
      rw [HA.out.2.2, if_pos HD.out, List.length_append, nRow_snoc]
      exact H8.out.2.2.1
  case done =>
    rintro D ys W hD hS hI hK
    obtain ⟨v, hvb, hvo⟩ := hI.ov
    have hdl : cll p (ys.map Subtype.val) = cll p (Pe.onDay l 1 d) := by rw [hS]
    rw [hdl] at hvo
    have o0 : W.cell? ⟨b + 1, 0, none⟩ = some v := hvb.cell 0
    have hdn : (cll p (Pe.onDay l 1 d)).length ≤ 100000 := by
      have h1 := cll_le p (Pe.onDay l 1 d)
      have h2 : (Pe.onDay l 1 d).length ≤ l.length := List.length_filter_le _ _
      have h3 := H.out.2
      omega
    have hsc := sortedI_calls (l := cll p (Pe.onDay l 1 d)) hvo (by omega)
    rw [show Pe.uniqI (cll p (Pe.onDay l 1 d)) = Pe.calledS l p d from Pe.calledS_eq l p d] at hsc
    have HSC := Lib.hid hsc
    have HA := Lib.hid (And.intro hI (And.intro hvb (And.intro hvo hK)))
    clear hI hvb hvo hK hS hdl hsc
    gi_wp2_with fail
    refine ⟨trivial, (callsIn_wide.2 HSC.out).mono ?_⟩
    rintro e w4 ⟨v4, rfl, hs4, hc4⟩
    have H4 := Lib.hid (And.intro hs4 hc4)
    clear hs4 hc4
    dsimp only
    gi_wp2
    have hD4 : w4.heap[D]? = some (.deferred (some [])) := (H4.out.2.block D (Array.getElem?_eq_some_iff.1 HA.out.2.2.2).1 (fun e => by
      rcases HA.out.2.2.1.2 with ⟨rfl, _⟩ | ⟨g, cp, cur, rfl, _, hgb, _⟩
      · simp [Value.ownBlock] at e
      · obtain rfl : g = D := by simpa [Value.ownBlock] using e
        rw [HA.out.2.2.2] at hgb; cases hgb)).trans HA.out.2.2.2
    refine ⟨by simp, .inl ⟨_, _, rfl, run_takeDeferred hD4, ?_⟩⟩
    refine ⟨_, results_tmp rfl _ _ _, v4, rfl, ?_, ?_⟩
    · exact own_weaken (ownsRow_putObj H4.out.1 _ hD4 rfl) (by have := HW.out; omega)
    · exact (HA.out.1.bel.trans (H4.out.2.below (fun i hi => by have := (HA.out.2.2.1.lt _ hi).1; have := HW.out; omega) HA.out.1.bel.size)).trans (belowK_b (w := w) (Nat.le_refl _) _ D _ _ (by have := HW.out; omega) hD4 rfl rfl)
  case stop =>
    rintro D jc pre W _ _ h _
    exact h.elim

end Go.Proofs.YtnphlekailodkaaGreatDoor
