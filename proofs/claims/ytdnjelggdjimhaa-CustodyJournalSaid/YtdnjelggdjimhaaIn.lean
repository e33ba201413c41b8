/-
  What came in, read as plain lists: []byte, []int, []string.
-/
import Derived.Test.YtdnjelggdjimhaaJl1
import Derived.WalkKit
import Derived.ProofKit
import Derived.OpenShut
import Derived.ShutString
import Derived.ChangeOld
import Derived.Below
import Derived.Deep.Slices
import Derived.Deep.Strs
import Derived.Deep.Fields
namespace Go.Proofs.Ytdnjelggdjimhaa
open Go.ChangeShapes Go.WideShapes Go.ChangeAt Go.RowKit Go.Deep

theorem list_choose {α : Type} {P : Nat → α → Prop} : ∀ n : Nat, (∀ i, i < n → ∃ a, P i a) → ∃ l : List α, l.length = n ∧ ∀ i a, l[i]? = some a → P i a
  | 0, _ => ⟨[], rfl, fun i a h => by simp at h⟩
  | n + 1, h => by
    obtain ⟨l, hl, hp⟩ := list_choose n (fun i hi => h i (by omega))
    obtain ⟨a, ha⟩ := h n (by omega)
    refine ⟨l ++ [a], by simp [hl], fun i b hb => ?_⟩
    by_cases hi : i < n
    · rw [List.getElem?_append_left (by omega)] at hb
      exact hp i b hb
    · have : i < (l ++ [a]).length := (List.getElem?_eq_some_iff.1 hb).1
      have hin : i = n := by simp [hl] at this; omega
      subst hin
      rw [List.getElem?_append_right (by omega), hl, Nat.sub_self] at hb
      cases hb
      exact ha

section
variable {H : Type} {enc : TypeId × Value → H} {W : World}
theorem bytes_in {fuel : Nat} {v : Value} {x : DataW H × List MemPlace} (h : DataW.trod enc Try.prog W 0 (fun _ => true) true fuel 22 [v] = some x) : ∃ A a c l, v = .slice A a c ∧ BytesAt W A a c l := by
  rcases open_ints Try.underlying22 Try.underlying5 (by kernel_rfl) h with ⟨hcs, _⟩ | ⟨x, len, cap, zs, hcs, _, hlc, hm, hz, _, hc, hwf⟩
  · cases hcs
    exact ⟨none, 0, 0, [], rfl, rfl, Nat.le_refl _, .inl rfl⟩
  · cases hcs
    have hz' : zs.length = cap := by simpa using hz
    refine ⟨_, _, _, (zs.take len).map fun n => UInt8.ofNat n.toNat, rfl, by simp; omega, hlc, .inr ⟨x, rfl, fun j v hv => ?_⟩⟩
    simp only [bvs, List.map_map, List.getElem?_map, List.getElem?_take] at hv
    split at hv
    · rename_i hj
      have hjz : j < zs.length := by omega
      rw [List.getElem?_eq_getElem hjz] at hv
      simp only [Option.map_some, Option.some.injEq] at hv
      have hw := hwf _ (List.getElem_mem hjz)
      have hb := bounds_u8 hw
      rw [hc j hjz, ← hv, List.getD_eq_getElem?_getD, List.getElem?_eq_getElem hjz]
      simp only [Option.getD_some, Function.comp, bv]
      congr 2
      rw [UInt8.toNat_ofNat_of_lt' (by simp [UInt8.size]; omega)]
      omega
    · simp at hv
theorem ints_in {fuel : Nat} {v : Value} {x : DataW H × List MemPlace} (h : DataW.trod enc Try.prog W 0 (fun _ => true) true fuel 32 [v] = some x) : ∃ A a c l, v = .slice A a c ∧ IntsAt W A a l := by
  rcases open_ints Try.underlying32 Try.underlying3 (by kernel_rfl) h with ⟨hcs, _⟩ | ⟨x, len, cap, zs, hcs, _, hlc, hm, hz, _, hc, hwf⟩
  · cases hcs
    exact ⟨none, 0, 0, [], rfl, rfl, .inl rfl⟩
  · cases hcs
    have hz' : zs.length = cap := by simpa using hz
    by_cases h0 : len = 0
    · subst h0
      exact ⟨_, _, _, [], rfl, rfl, .inl rfl⟩
    refine ⟨_, _, _, zs.take len, rfl, by simp; omega, .inr ⟨x, rfl, ?_, fun j hj => ?_⟩⟩
    · have := World.block_lt_of_cell? W _ (hc 0 (by omega))
      have hb : (x.add 0).block = x.block := by unfold Addr.add; split <;> rfl
      rwa [hb] at this
    · rw [List.length_take] at hj
      rw [hc j (by omega)]
      congr 2
      rw [List.getD_eq_getElem?_getD, List.getD_eq_getElem?_getD, List.getElem?_take, if_pos (by omega)]


theorem bs_toList (S : ByteArray) : bs S.data.toList = S := by
  apply ByteArray.ext
  simp [bs]

theorem texts_in {fuel : Nat} {A : Option Addr} {n c : Nat} {x : DataW H × List MemPlace} (h : DataW.trod enc Try.prog W 0 (fun _ => true) true fuel 44 [.slice A n c] = some x) : ∃ l, TextsAt W A n l := by
  rcases open_strs Try.underlying44 Try.underlying9 (by kernel_rfl) h with ⟨hcs, _⟩ | ⟨a, len, cap, m, Sx, hcs, _, hl, hc, hm, hx, hi⟩
  · cases hcs
    exact ⟨[], rfl, by omega, .inl rfl⟩
  · cases hcs
    have hmc : m = c := by simpa using hm
    refine ⟨(List.range n).map fun i => (Sx i).data.toList, by simp, by simp only [maxLen] at hc; omega, ?_⟩
    by_cases h0 : n = 0
    · subst h0; exact .inl rfl
    refine .inr ⟨a, rfl, ?_, fun i s hs => ?_⟩
    · have := World.block_lt_of_cell? W _ (hi 0 (by omega)).1
      have hb : (a.add 0).block = a.block := by unfold Addr.add; split <;> rfl
      rwa [hb] at this
    · have hin : i < n := by have := (List.getElem?_eq_some_iff.1 hs).1; simpa using this
      rw [(hi i (by omega)).1]
      rw [List.getElem?_map, List.getElem?_range hin] at hs
      simp only [Option.map_some, Option.some.injEq] at hs
      rw [← hs, bs_toList]
theorem texts_cap {fuel : Nat} {A : Option Addr} {n c : Nat} {x : DataW H × List MemPlace} (h : DataW.trod enc Try.prog W 0 (fun _ => true) true fuel 44 [.slice A n c] = some x) : (A = none ∧ n = 0 ∧ c = 0) ∨ (A ≠ none ∧ n ≤ c) := by
  rcases open_strs Try.underlying44 Try.underlying9 (by kernel_rfl) h with ⟨hcs, _⟩ | ⟨a, len, cap, m, Sx, hcs, _, hl, hc, hm, hx, hi⟩
  · cases hcs
    exact .inl ⟨rfl, rfl, rfl⟩
  · cases hcs
    exact .inr ⟨by simp, hl⟩
end

end Go.Proofs.Ytdnjelggdjimhaa
