/-
  The plain law of the journal: a journal on a disk, and a crash.
-/
import Derived.Test.YtdnjelggdjimhaaJp2
namespace Go.Proofs.Ytdnjelggdjimhaa
namespace Dk

def zs (n : Nat) : List Sec := List.replicate n zsec
/-- Sectors, written one behind the other. -/
def placed : Nat → List Sec → List (Nat × Sec)
  | _, [] => []
  | a, x :: P => (a, x) :: placed (a + 1) P
theorem placed_append (P Q : List Sec) : ∀ a, placed a (P ++ Q) = placed a P ++ placed (a + P.length) Q := by
  induction P with
  | nil => intro a; simp [placed]
  | cons x P ih => intro a; simp only [List.cons_append, placed, ih, List.length_cons]; rw [show a + 1 + P.length = a + (P.length + 1) from by omega]
theorem put_placed (P : List Sec) : ∀ (A : List Sec) (c : Nat), putAll (A ++ zs (P.length + c)) (placed A.length P) = A ++ (P ++ zs c) := by
  induction P with
  | nil => intro A c; simp [placed, putAll]
  | cons x P ih =>
    intro A c
    have h1 : put1 (A ++ zs ((x :: P).length + c)) (A.length, x) = (A ++ [x]) ++ zs (P.length + c) := by
      unfold put1 zs
      rw [show (x :: P).length + c = (P.length + c) + 1 from by simp; omega, List.replicate_succ]
      simp
    have := ih (A ++ [x]) c
    rw [List.length_append] at this
    simp only [putAll, placed, List.foldl_cons] at this ⊢
    rw [h1]
    simpa using this

theorem bad_torn (x : Sec) (n : Nat) (hn : n < 64) (hx : x.length = 64) : bad (x.take n ++ zsec.drop n) := by
  right
  rw [List.getD_eq_getElem?_getD, List.getElem?_append_right (by rw [List.length_take]; omega), List.length_take, Nat.min_eq_left (by omega), List.getElem?_drop]
  unfold zsec
  rw [List.getElem?_replicate, if_pos (by omega)]
  decide
theorem torn_placed (keep : List Int) (P : List Sec) : ∀ (j : Nat) (A : List Sec) (c : Nat), (∀ x ∈ P, x.length = 64) →
    ∃ P', tornFrom keep j (A ++ zs (P.length + c)) (placed A.length P) = A ++ (P' ++ zs c) ∧ P'.length = P.length ∧ ∀ i, P'.getD i zsec = P.getD i zsec ∨ bad (P'.getD i zsec) := by
  induction P with
  | nil => intro j A c _; exact ⟨[], by simp [placed, tornFrom], rfl, fun i => .inl rfl⟩
  | cons x P ih =>
    intro j A c h
    obtain ⟨y, hy, hyx⟩ : ∃ y, torn1 (A ++ zs ((x :: P).length + c)) (keptOf keep j) (A.length, x) = (A ++ [y]) ++ zs (P.length + c) ∧ (y = x ∨ bad y) := by
      refine ⟨x.take (keptOf keep j) ++ zsec.drop (keptOf keep j), ?_, ?_⟩
      · unfold torn1 zs
        rw [show (x :: P).length + c = (P.length + c) + 1 from by simp; omega, List.replicate_succ]
        have : (A ++ zsec :: List.replicate (P.length + c) zsec).getD A.length zsec = zsec := by
          rw [List.getD_eq_getElem?_getD, List.getElem?_append_right (Nat.le_refl _)]; simp
        simp only [this]
        simp
      · rcases Nat.lt_or_ge (keptOf keep j) 64 with hlt | hge
        · exact .inr (bad_torn x _ hlt (h x (by simp)))
        · left
          have := keptOf_le keep j
          rw [show keptOf keep j = 64 from by omega, List.take_of_length_le (by rw [h x (by simp)]; exact Nat.le_refl _), List.drop_of_length_le (by rw [length_zsec]; exact Nat.le_refl _), List.append_nil]
    obtain ⟨P', h1, h2, h3⟩ := ih (j + 1) (A ++ [y]) c (fun z hz => h z (by simp [hz]))
    refine ⟨y :: P', ?_, by simp [h2], fun i => ?_⟩
    · simp only [placed, tornFrom]
      rw [hy]
      rw [List.length_append] at h1
      rw [show A.length + 1 = A.length + [y].length from rfl, h1]
      simp
    · cases i with
      | zero => simpa using hyx
      | succ i => simpa using h3 i

/-- A journal on a disk: the first k records are durable, the others and the sectors part lie in the writes that are not. -/
structure Core (d : D) (rs : List (List UInt8)) (k : Nat) (part : List Sec) : Prop where
  short : ∀ s ∈ rs, s.length ≤ 60000
  k_le : k ≤ rs.length
  room : (encs rs ++ part).length ≤ d.dur.length
  dur : d.dur = encs (rs.take k) ++ zs (d.dur.length - (encs (rs.take k)).length)
  wr : d.wr = placed (encs (rs.take k)).length (encs (rs.drop k) ++ part)
  part64 : ∀ x ∈ part, x.length = 64
  ok : Ok d

theorem encs_split (rs : List (List UInt8)) (k : Nat) : encs (rs.take k) ++ encs (rs.drop k) = encs rs := by rw [← encs_append, List.take_append_drop]
theorem encs_64 (rs : List (List UInt8)) : ∀ x ∈ encs rs, x.length = 64 := by
  intro x hx
  simp only [encs, encR, List.mem_flatMap, List.mem_map] at hx
  obtain ⟨_, _, _, _, rfl⟩ := hx
  exact length_enc _ _
theorem Core.dur' {d : D} {rs : List (List UInt8)} {k : Nat} {part : List Sec} (h : Core d rs k part) : d.dur = encs (rs.take k) ++ zs ((encs (rs.drop k) ++ part).length + (d.dur.length - (encs rs ++ part).length)) := by
  have hr := h.room
  have he : (encs rs).length = (encs (rs.take k)).length + (encs (rs.drop k)).length := by rw [← encs_split rs k, List.length_append]
  rw [List.length_append] at hr
  rw [show (encs (rs.drop k) ++ part).length + (d.dur.length - (encs rs ++ part).length) = d.dur.length - (encs (rs.take k)).length from by simp only [List.length_append]; omega]
  exact h.dur
theorem Core.now {d : D} {rs : List (List UInt8)} {k : Nat} {part : List Sec} (h : Core d rs k part) : d.now = encs rs ++ (part ++ zs (d.dur.length - (encs rs ++ part).length)) := by
  rw [h.ok.now, h.wr]
  conv => lhs; rw [h.dur']
  rw [put_placed, List.append_assoc, ← List.append_assoc (encs (rs.take k)), encs_split]

/-- Part of a record. -/
def PartOf (part : List Sec) : Prop := part = [] ∨ ∃ s : List UInt8, s.length ≤ 60000 ∧ part = (encR s).take part.length ∧ part.length < manyOf s.length
theorem recGoL_false {L : List Sec} {size f next : Nat} {y : Sec × Bool} {b : List UInt8} (h : y.2 = false) : recGoL L size f next y b = none := by
  cases hr : recGoL L size f next y b with
  | none => rfl
  | some r => rw [recGoL_true hr] at h; cases h
theorem recGo_part (s : List UInt8) (hs : s.length < 16777216) (L : List Sec) (p j : Nat) (hj : j < manyOf s.length) (hL : ∀ i, i < j → L[p + i]? = some (enc (i == 0) (s.drop (i * 59)))) (hz : (ldL L (p + j) 2).2 = false) :
    ∀ (f i : Nat), i < j → recGoL L s.length f (p + i + 1) (enc (i == 0) (s.drop (i * 59)), true) (s.take (i * 59)) = none
  | 0, i, hi => rfl
  | f + 1, i, hi => by
    have hm : manyOf s.length = max 1 ((s.length + 58) / 59) := rfl
    have hdl : (s.drop (i * 59)).length < 16777216 := by rw [List.length_drop]; omega
    unfold recGoL
    rw [lft_enc _ _ hdl, dataOf_enc _ _ hdl, if_pos ⟨rfl, by rw [List.length_drop, List.length_take]; omega⟩]
    have hcat : s.take (i * 59) ++ (s.drop (i * 59)).take 59 = s.take ((i + 1) * 59) := by
      rw [show (i + 1) * 59 = i * 59 + 59 from by omega, List.take_add]
    rw [hcat, if_neg (by rw [List.length_take]; omega)]
    by_cases hl : i + 1 = j
    · rw [show p + i + 1 = p + j from by omega]
      exact recGoL_false hz
    · have hx := hL (i + 1) (by omega)
      rw [show p + i + 1 = p + (i + 1) from by omega, ldL_at hx 2]
      have : (enc (i + 1 == 0) (s.drop ((i + 1) * 59))).getD 0 0 == UInt8.ofNat 2 && (enc (i + 1 == 0) (s.drop ((i + 1) * 59))).getD 63 0 == 1 := by
        rw [enc_0, enc_63]; rfl
      rw [this]
      exact recGo_part s hs L p j hj hL hz f (i + 1) (by omega)

theorem ld_zero {L A : List Sec} {c : Nat} (h : L = A ++ zs c) (kind : Nat) (hk : kind = 1 ∨ kind = 2) : (ldL L A.length kind).2 = false := by
  unfold ldL
  by_cases hp : A.length < L.length
  · rw [if_pos hp]
    have hx : L.getD A.length zsec = zsec := by
      rw [h, List.getD_eq_getElem?_getD, List.getElem?_append_right (Nat.le_refl _), Nat.sub_self]
      unfold zs
      rw [List.getElem?_replicate]
      split <;> rfl
    rw [hx]
    rcases hk with rfl | rfl <;> rfl
  · rw [if_neg hp]
theorem stops (A part : List Sec) (c : Nat) (hp : PartOf part) : recL (A ++ (part ++ zs c)) A.length = none := by
  by_cases hpe : part = []
  · subst hpe
    unfold recL
    exact recGoL_false (ld_zero (c := c) (by simp) 1 (.inl rfl))
  · rcases hp with h0 | ⟨s, hs, hpart, hlt⟩
    · exact absurd h0 hpe
    · have hs' : s.length < 16777216 := by omega
      have hpos : 0 < part.length := List.length_pos_iff.2 hpe
      have hL : ∀ i, i < part.length → (A ++ (part ++ zs c))[A.length + i]? = some (enc (i == 0) (s.drop (i * 59))) := fun i hi => by
        rw [List.getElem?_append_right (by omega), Nat.add_sub_cancel_left, List.getElem?_append_left hi, hpart, List.getElem?_take, if_pos hi, encR_get s i (by omega)]
      have h0 := ldL_at (hL 0 hpos) 1
      have hv : ((enc (0 == 0) (s.drop (0 * 59))).getD 0 0 == UInt8.ofNat 1 && (enc (0 == 0) (s.drop (0 * 59))).getD 63 0 == 1) = true := by rw [enc_0, enc_63]; rfl
      rw [hv, show A.length + 0 = A.length from rfl] at h0
      unfold recL
      rw [h0]
      have hsz : lft (enc (0 == 0) (s.drop (0 * 59))) = s.length := by rw [lft_enc _ _ (by simpa using hs')]; simp
      rw [hsz]
      have hz : (ldL (A ++ (part ++ zs c)) (A.length + part.length) 2).2 = false := by
        have := ld_zero (L := A ++ (part ++ zs c)) (A := A ++ part) (c := c) (by simp) 2 (.inr rfl)
        rwa [List.length_append] at this
      exact recGo_part s hs' _ _ part.length hlt hL hz _ 0 hpos
theorem Core.holds {d : D} {rs : List (List UInt8)} {k : Nat} {part : List Sec} (h : Core d rs k part) (hp : PartOf part) : Holds d.now rs :=
  ⟨part ++ zs _, h.now, by rw [h.now]; exact stops _ _ _ hp⟩

/-- A disk behind a crash: it holds the records; the rest may be anything. -/
structure Clean (d : D) (rs : List (List UInt8)) : Prop where
  wr : d.wr = []
  down : d.down = false
  holds : Holds d.now rs
  short : ∀ s ∈ rs, s.length ≤ 60000
  ok : Ok d

theorem under_mid (A P' P Z : List Sec) (h2 : P'.length = P.length) (h3 : ∀ i, P'.getD i zsec = P.getD i zsec ∨ bad (P'.getD i zsec)) : Under (A ++ (P' ++ Z)) (A ++ (P ++ Z)) := by
  refine ⟨by simp only [List.length_append]; omega, fun p => ?_⟩
  by_cases hpa : p < A.length
  · left
    rw [List.getD_eq_getElem?_getD, List.getD_eq_getElem?_getD, List.getElem?_append_left hpa, List.getElem?_append_left hpa]
  · have e1 : (A ++ (P' ++ Z))[p]? = (P' ++ Z)[p - A.length]? := List.getElem?_append_right (by omega)
    have e2 : (A ++ (P ++ Z))[p]? = (P ++ Z)[p - A.length]? := List.getElem?_append_right (by omega)
    rw [List.getD_eq_getElem?_getD, List.getD_eq_getElem?_getD, e1, e2]
    by_cases hpb : p - A.length < P'.length
    · rw [List.getElem?_append_left hpb, List.getElem?_append_left (by omega)]
      have := h3 (p - A.length)
      rwa [List.getD_eq_getElem?_getD, List.getD_eq_getElem?_getD] at this
    · left
      have e3 : (P' ++ Z)[p - A.length]? = Z[p - A.length - P'.length]? := List.getElem?_append_right (by omega)
      have e4 : (P ++ Z)[p - A.length]? = Z[p - A.length - P.length]? := List.getElem?_append_right (by omega)
      rw [e3, e4, h2]

theorem Core.crash {d : D} {rs : List (List UInt8)} {k : Nat} {part : List Sec} (h : Core d rs k part) (hp : PartOf part) (keep : List Int) : ∃ m, k ≤ m ∧ m ≤ rs.length ∧ Clean (crash d keep) (rs.take m) := by
  have hP : ∀ x ∈ encs (rs.drop k) ++ part, x.length = 64 := fun x hx => by
    rcases List.mem_append.1 hx with hx | hx
    · exact encs_64 _ x hx
    · exact h.part64 x hx
  obtain ⟨P', h1, h2, h3⟩ := torn_placed keep (encs (rs.drop k) ++ part) 0 (encs (rs.take k)) (d.dur.length - (encs rs ++ part).length) hP
  rw [← h.dur', ← h.wr] at h1
  have hnow : (Dk.crash d keep).now = encs (rs.take k) ++ (P' ++ zs (d.dur.length - (encs rs ++ part).length)) := h1
  have hold : d.now = encs (rs.take k) ++ ((encs (rs.drop k) ++ part) ++ zs (d.dur.length - (encs rs ++ part).length)) := by rw [h.now, ← encs_split rs k]; simp
  have hU : Under (Dk.crash d keep).now d.now := by
    rw [hnow, hold]
    exact under_mid _ _ _ _ h2 h3
  obtain ⟨m, hm, ⟨T', hT'⟩, hn', hk'⟩ := under_holds hU (part ++ zs (d.dur.length - (encs rs ++ part).length)) rs [] (fun s hs => by have := h.short s hs; omega) (by rw [h.now]; rfl) rfl (h.holds hp).choose_spec.2
  refine ⟨m, hk' k h.k_le (fun i hi => ?_), hm, rfl, rfl, ⟨T', by simpa using hT', by simpa using hn'⟩, fun s hs => h.short s (List.mem_of_mem_take hs), crash_ok h.ok keep⟩
  rw [List.nil_append] at hi
  rw [hnow, hold, List.getD_eq_getElem?_getD, List.getD_eq_getElem?_getD, List.getElem?_append_left hi, List.getElem?_append_left hi]

end Dk
end Go.Proofs.Ytdnjelggdjimhaa
