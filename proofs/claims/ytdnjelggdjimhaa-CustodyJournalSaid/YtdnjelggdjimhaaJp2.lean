/-
  The plain law of the journal: a disk whose sectors are torn holds the first records.
-/
import Derived.Test.YtdnjelggdjimhaaJp1
namespace Go.Proofs.Ytdnjelggdjimhaa
namespace Dk

/-- No sector of a record. -/
def bad (x : Sec) : Prop := x.getD 0 0 = 0 ∨ x.getD 63 0 ≠ 1
structure Under (L' L : List Sec) : Prop where
  len : L'.length = L.length
  at_ : ∀ p, L'.getD p zsec = L.getD p zsec ∨ bad (L'.getD p zsec)

theorem ld_under {L' L : List Sec} (h : Under L' L) {p kind : Nat} (hk : kind = 1 ∨ kind = 2) (ht : (ldL L' p kind).2 = true) : ldL L' p kind = ldL L p kind ∧ L'.getD p zsec = L.getD p zsec := by
  unfold ldL at ht ⊢
  by_cases hp : p < L'.length
  · rw [if_pos hp] at ht ⊢
    rw [if_pos (by rw [← h.len]; exact hp)]
    simp only [Bool.and_eq_true, beq_iff_eq] at ht
    rcases h.at_ p with he | hb | hb
    · rw [he]; exact ⟨rfl, rfl⟩
    · exfalso
      rw [hb] at ht
      rcases hk with rfl | rfl
      · exact absurd ht.1 (by decide)
      · exact absurd ht.1 (by decide)
    · exact absurd ht.2 hb
  · rw [if_neg hp] at ht; cases ht

theorem recGoL_true {L : List Sec} {size f next : Nat} {y : Sec × Bool} {b : List UInt8} {r : List UInt8 × Nat} (h : recGoL L size f next y b = some r) : y.2 = true := by
  cases f with
  | zero => cases h
  | succ f =>
    unfold recGoL at h
    split at h
    · rename_i h1; exact h1.1
    · cases h
theorem recGo_under {L' L : List Sec} (h : Under L' L) (size : Nat) : ∀ (f next : Nat) (y : Sec × Bool) (b s : List UInt8) (q : Nat), recGoL L' size f next y b = some (s, q) →
    recGoL L size f next y b = some (s, q) ∧ next ≤ q ∧ ∀ i, next ≤ i → i < q → L'.getD i zsec = L.getD i zsec
  | 0, _, _, _, _, _, hr => by cases hr
  | f + 1, next, y, b, s, q, hr => by
    unfold recGoL at hr ⊢
    split at hr
    · rename_i h1
      rw [if_pos h1]
      split at hr
      · rename_i h2
        rw [if_pos h2]
        cases hr
        exact ⟨rfl, Nat.le_refl _, fun i h3 h4 => by omega⟩
      · rename_i h2
        rw [if_neg h2]
        have ht := recGoL_true hr
        obtain ⟨e1, e2⟩ := ld_under h (.inr rfl) ht
        obtain ⟨h3, h4, h5⟩ := recGo_under h size f (next + 1) _ _ s q hr
        rw [← e1]
        refine ⟨h3, by omega, fun i hi hq => ?_⟩
        rcases Nat.eq_or_lt_of_le hi with rfl | hlt
        · exact e2
        · exact h5 i (by omega) hq
    · cases hr
theorem rec_under {L' L : List Sec} (h : Under L' L) {p q : Nat} {s : List UInt8} (hr : recL L' p = some (s, q)) : recL L p = some (s, q) ∧ p < q ∧ ∀ i, p ≤ i → i < q → L'.getD i zsec = L.getD i zsec := by
  unfold recL at hr ⊢
  have ht := recGoL_true hr
  obtain ⟨e1, e2⟩ := ld_under h (.inl rfl) ht
  rw [← e1]
  obtain ⟨h3, h4, h5⟩ := recGo_under h _ _ _ _ _ _ _ hr
  refine ⟨h3, by omega, fun i hi hq => ?_⟩
  rcases Nat.eq_or_lt_of_le hi with rfl | hlt
  · exact e2
  · exact h5 i (by omega) hq

theorem take_agree {L' L : List Sec} (hl : L'.length = L.length) (n : Nat) (h : ∀ i, i < n → L'.getD i zsec = L.getD i zsec) : L'.take n = L.take n := by
  apply List.ext_getElem?
  intro i
  rw [List.getElem?_take, List.getElem?_take]
  split
  · rename_i hi
    have := h i hi
    by_cases hL : i < L.length
    · simp only [List.getD_eq_getElem?_getD, List.getElem?_eq_getElem hL, List.getElem?_eq_getElem (show i < L'.length by omega), Option.getD_some] at this ⊢
      rw [this]
    · rw [List.getElem?_eq_none (by omega), List.getElem?_eq_none (by omega)]
  · rfl

/-- The records that a disk holds: they lie at its head, and none begins behind them. -/
def Holds (L : List Sec) (rs : List (List UInt8)) : Prop := ∃ T, L = encs rs ++ T ∧ recL L (encs rs).length = none
theorem Holds.recs {L : List Sec} {rs : List (List UInt8)} (h : Holds L rs) (hs : ∀ s ∈ rs, s.length < 16777216) {f : Nat} (hf : rs.length ≤ f) : recsL L f 0 = (rs, (encs rs).length) := by
  obtain ⟨T, hL, hn⟩ := h
  have := recs_encs T rs [] f hs hf
  simp only [List.nil_append, List.length_nil] at this
  rw [← hL] at this
  rw [this]
  have hz : recsL L (f - rs.length) (encs rs).length = ([], (encs rs).length) := by
    cases f - rs.length with
    | zero => rfl
    | succ g => unfold recsL; rw [hn]
  rw [hz]; simp

theorem under_holds {L' L : List Sec} (h : Under L' L) (T : List Sec) : ∀ (rs : List (List UInt8)) (A : List Sec), (∀ s ∈ rs, s.length < 16777216) → L = A ++ (encs rs ++ T) → L'.take A.length = A → recL L (A ++ encs rs).length = none →
    ∃ m, m ≤ rs.length ∧ (∃ T', L' = A ++ (encs (rs.take m) ++ T')) ∧ recL L' (A ++ encs (rs.take m)).length = none ∧
      ∀ k, k ≤ rs.length → (∀ i, i < (A ++ encs (rs.take k)).length → L'.getD i zsec = L.getD i zsec) → k ≤ m
  | [], A, _, hL, hA, hn => by
    refine ⟨0, Nat.le_refl _, ⟨L'.drop A.length, ?_⟩, ?_, fun k hk _ => hk⟩
    · conv => lhs; rw [← List.take_append_drop A.length L', hA]
      simp [encs]
    · cases hr : recL L' (A ++ encs (List.take 0 ([] : List (List UInt8)))).length with
      | none => rfl
      | some r =>
        obtain ⟨s, q⟩ := r
        have := (rec_under h hr).1
        have e : (A ++ encs (List.take 0 ([] : List (List UInt8)))).length = (A ++ encs ([] : List (List UInt8))).length := rfl
        rw [e, hn] at this
        cases this
  | s :: rs, A, hs, hL, hA, hn => by
    have hL2 : L = A ++ (encR s ++ (encs rs ++ T)) := by rw [hL]; simp [encs]
    have hL3 : L = (A ++ encR s) ++ (encs rs ++ T) := by rw [hL2]; simp
    have hrec : recL L A.length = some (s, A.length + manyOf s.length) := by rw [hL2]; exact rec_enc s (hs s (by simp)) A _
    have hsplit : ∀ n, (∀ i, i < n → L'.getD i zsec = L.getD i zsec) → (A ++ encR s).length ≤ n → L' = (A ++ encR s) ++ L'.drop (A ++ encR s).length := fun n ha hn' => by
      have := take_agree h.len (A ++ encR s).length (fun i hi => ha i (by omega))
      conv => lhs; rw [← List.take_append_drop (A ++ encR s).length L', this]
      congr 1
      rw [hL3, List.take_left]
    cases hr : recL L' A.length with
    | none =>
      refine ⟨0, Nat.zero_le _, ⟨L'.drop A.length, ?_⟩, ?_, fun k hk ha => ?_⟩
      · conv => lhs; rw [← List.take_append_drop A.length L', hA]
        simp [encs]
      · simpa [encs] using hr
      · cases k with
        | zero => exact Nat.le_refl _
        | succ k =>
          exfalso
          have e := hsplit _ ha (by simp [encs])
          have := rec_enc s (hs s (by simp)) A (L'.drop (A ++ encR s).length)
          rw [← List.append_assoc, ← e, hr] at this
          cases this
    | some r =>
      obtain ⟨s', q⟩ := r
      obtain ⟨h1, h2, h3⟩ := rec_under h hr
      rw [hrec] at h1
      cases h1
      have hag : ∀ i, i < (A ++ encR s).length → L'.getD i zsec = L.getD i zsec := fun i hi => by
        by_cases hiA : i < A.length
        · have e1 : L'[i]? = (L'.take A.length)[i]? := by rw [List.getElem?_take, if_pos hiA]
          have e2 : L[i]? = A[i]? := by rw [hL, List.getElem?_append_left hiA]
          rw [List.getD_eq_getElem?_getD, List.getD_eq_getElem?_getD, e1, hA, e2]
        · rw [List.length_append, length_encR] at hi
          exact h3 i (by omega) hi
      have e := hsplit _ hag (Nat.le_refl _)
      have hA' : L'.take (A ++ encR s).length = A ++ encR s := by conv => lhs; rw [e]
                                                                  rw [List.take_left]
      obtain ⟨m, hm, ⟨T', hT'⟩, hn', hk'⟩ := under_holds h T rs (A ++ encR s) (fun x hx => hs x (by simp [hx])) hL3 hA' (by rw [List.append_assoc]; simpa [encs] using hn)
      refine ⟨m + 1, by simpa using hm, ⟨T', by rw [hT']; simp [encs]⟩, by simpa [encs] using hn', fun k hk ha => ?_⟩
      cases k with
      | zero => exact Nat.zero_le _
      | succ k =>
        have := hk' k (by simpa using hk) (fun i hi => ha i (by simpa [encs] using hi))
        omega

end Dk
end Go.Proofs.Ytdnjelggdjimhaa
