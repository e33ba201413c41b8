/-
  Small facts of lists of entries, in plain Lean and in memory; what Check says of a longer list.
-/
import Derived.Test.YtnphlekailodkaaGreatDoorPa
namespace Go.Proofs.YtnphlekailodkaaGreatDoor
open Go.RowKit

theorem any_yes {α : Type} {l : List α} {i : Nat} {x : α} {p : α → Bool} (h : l[i]? = some x) (hp : p x = true) : l.any p = true :=
  List.any_eq_true.2 ⟨x, List.mem_of_getElem? h, hp⟩
theorem any_on {α : Type} {l : List α} {i : Nat} {x : α} {p : α → Bool} (h : l[i]? = some x) (h0 : (l.take i).any p = false) (hp : p x = false) : (l.take (i + 1)).any p = false := by
  rw [List.take_add_one, h, List.any_append, h0]
  simp [hp]
theorem any_end {α : Type} {l : List α} {i : Nat} {p : α → Bool} (h0 : (l.take i).any p = false) (h : l.length ≤ i) : l.any p = false := by
  rwa [List.take_of_length_le h] at h0
theorem nat_beq (a b : Nat) : ((a : Int) == (b : Int)) = (a == b) := by
  by_cases h : a = b
  · simp [h]
  · have h1 : (a == b) = false := by simpa using h
    rw [h1]; simp; omega
theorem EntsAt.one {w : World} {A : Option Addr} {n : Nat} {l : List Pe.Ent} (h : EntsAt w A n l) {i : Nat} (hi : i < n) : ∃ x ad, l[i]? = some x ∧ A = some ad ∧ EOk x ∧ ∀ j v, (eCells x)[j]? = some v → w.cell? ((ad.add (i * 10)).add j) = some v := by
  have hl := h.len
  have hx : l[i]? = some (l[i]'(by omega)) := List.getElem?_eq_getElem (by omega)
  obtain ⟨ad, hA, _, hc⟩ := h.at_.resolve_left (fun e => by rw [e] at hl; simp at hl; omega)
  exact ⟨_, ad, hx, hA, h.ok _ (List.mem_of_getElem? hx), fun j v hv => hc i _ hx j v hv⟩

theorem EntsAt.get {w : World} {ad : Addr} {n : Nat} {l : List Pe.Ent} (h : EntsAt w (some ad) n l) {i : Nat} {x : Pe.Ent} (hx : l[i]? = some x) : ∀ j v, (eCells x)[j]? = some v → w.cell? ((ad.add (i * 10)).add j) = some v := by
  obtain ⟨ad', hA, _, hc⟩ := h.at_.resolve_left (fun e => by rw [e] at hx; simp at hx)
  cases hA
  exact hc i _ hx

namespace Pe
theorem checkFrom_app (l t : List Ent) : ∀ (r : List Ent) (i : Nat), l.drop i = r → i ≤ l.length → checkFrom (l ++ t) i (r ++ t) = if (checkFrom l i r).2 ≠ 0 then checkFrom l i r else checkFrom (l ++ t) l.length t
  | [], i, h, hi => by
    have : i = l.length := by have := List.drop_eq_nil_iff.1 h; omega
    subst this
    simp [checkFrom]
  | x :: r, i, h, hi => by
    have hlt : i < l.length := by
      rcases Nat.lt_or_ge i l.length with h1 | h1
      · exact h1
      · rw [List.drop_eq_nil_of_le h1] at h; cases h
    have hr : l.drop (i + 1) = r := by
      rw [List.drop_eq_getElem_cons hlt] at h
      injection h
    have ht : (l ++ t).take i = l.take i := by rw [List.take_append_of_le_length hi]
    rw [List.cons_append]
    by_cases hn : next (l.take i) x ≠ 0
    · have e1 : checkFrom l i (x :: r) = (i, next (l.take i) x) := by rw [checkFrom, if_pos hn]
      have e2 : checkFrom (l ++ t) i (x :: (r ++ t)) = (i, next (l.take i) x) := by rw [checkFrom, ht, if_pos hn]
      rw [e1, e2, if_pos hn]
    · have e1 : checkFrom l i (x :: r) = checkFrom l (i + 1) r := by rw [checkFrom, if_neg hn]
      have e2 : checkFrom (l ++ t) i (x :: (r ++ t)) = checkFrom (l ++ t) (i + 1) (r ++ t) := by rw [checkFrom, ht, if_neg hn]
      rw [e1, e2]
      exact checkFrom_app l t r (i + 1) hr hlt
theorem check_app (l t : List Ent) (h : (check l).2 = 0) : check (l ++ t) = checkFrom (l ++ t) l.length t := by
  have := checkFrom_app l t l 0 rfl (Nat.zero_le _)
  unfold check at h ⊢
  rw [this, if_neg (by simp [h])]
theorem check_snoc {l : List Ent} {x : Ent} (h : (check l).2 = 0) : check (l ++ [x]) = if next l x ≠ 0 then (l.length, next l x) else (0, 0) := by
  rw [check_app l [x] h]
  simp only [checkFrom, List.take_left]
theorem check_stop {l : List Ent} {k : Nat} {x : Ent} (hx : l[k]? = some x) (h : (check (l.take k)).2 = 0) (h1 : (check (l.take k ++ [x])).2 ≠ 0) : check l = (k, (check (l.take k ++ [x])).2) := by
  rw [check_snoc h] at h1 ⊢
  obtain ⟨hk, hx2⟩ := List.getElem?_eq_some_iff.1 hx
  have hl : (l.take k).length = k := by rw [List.length_take]; omega
  have e : l = l.take k ++ (x :: l.drop (k + 1)) := by
    rw [← hx2, ← List.drop_eq_getElem_cons hk, List.take_append_drop]
  by_cases hn : next (l.take k) x ≠ 0
  · rw [if_pos hn]
    have h2 := check_app (l.take k) (x :: l.drop (k + 1)) h
    rw [← e] at h2
    rw [h2]
    simp only [checkFrom, hl]
    rw [if_pos hn]
  · rw [if_neg hn] at h1
    exact absurd rfl h1
theorem checkFrom_zero (l : List Ent) : ∀ (r : List Ent) (i : Nat), (checkFrom l i r).2 = 0 → checkFrom l i r = (0, 0)
  | [], i, _ => rfl
  | x :: r, i, h => by
    simp only [checkFrom] at h ⊢
    by_cases hn : next (l.take i) x ≠ 0
    · rw [if_pos hn] at h; exact absurd h hn
    · rw [if_neg hn] at h ⊢
      exact checkFrom_zero l r (i + 1) h
theorem check_zero {l : List Ent} (h : (check l).2 = 0) : check l = (0, 0) := checkFrom_zero l l 0 h
end Pe
end Go.Proofs.YtnphlekailodkaaGreatDoor
