/-
  The directory's sorted lists are the reference's: the plain law of places, dwellers and pairs.
-/
import Derived.Test.YtnphlekailodkaaGreatDoorAg
namespace Go.Proofs.YtnphlekailodkaaGreatDoor
namespace Pe

theorem sorted_ext {α : Type} {r : α → α → Prop} (irr : ∀ a, ¬ r a a) (tr : ∀ a b c, r a b → r b c → r a c) : ∀ {a b : List α}, a.Pairwise r → b.Pairwise r → (∀ x, x ∈ a ↔ x ∈ b) → a = b
  | [], [], _, _, _ => rfl
  | [], y :: b, _, _, h => by have := (h y).2 (by simp); cases this
  | x :: a, [], _, _, h => by have := (h x).1 (by simp); cases this
  | x :: a, y :: b, ha, hb, h => by
    rw [List.pairwise_cons] at ha hb
    have hxy : x = y := by
      rcases List.mem_cons.1 ((h x).1 (by simp)) with e | hx
      · exact e
      · rcases List.mem_cons.1 ((h y).2 (by simp)) with e | hy
        · exact e.symm
        · exact absurd (tr _ _ _ (ha.1 y hy) (hb.1 x hx)) (irr x)
    subst hxy
    congr 1
    refine sorted_ext irr tr ha.2 hb.2 (fun z => ?_)
    constructor
    · intro hz
      rcases List.mem_cons.1 ((h z).1 (by simp [hz])) with e | hz'
      · exact absurd (ha.1 z hz) (by rw [e]; exact irr x)
      · exact hz'
    · intro hz
      rcases List.mem_cons.1 ((h z).2 (by simp [hz])) with e | hz'
      · exact absurd (hb.1 z hz) (by rw [e]; exact irr x)
      · exact hz'
theorem ins_sorted (n : Int) : ∀ {l : List Int}, l.Pairwise (· < ·) → (ins n l).Pairwise (· < ·)
  | [], _ => by simp [ins]
  | x :: r, h => by
    have h' := h
    rw [List.pairwise_cons] at h
    unfold ins
    split
    · rename_i hle
      split
      · exact h'
      · rename_i hne
        rw [List.pairwise_cons]
        refine ⟨fun z hz => ?_, h'⟩
        rcases List.mem_cons.1 hz with rfl | hz
        · omega
        · have := h.1 z hz; omega
    · rename_i hlt
      rw [List.pairwise_cons]
      refine ⟨fun z hz => ?_, ins_sorted n h.2⟩
      rcases (mem_ins n z r).1 hz with rfl | hz
      · omega
      · exact h.1 z hz
theorem gather_sorted (f : Ent → Int) (q : Ent → Bool) (l : List Ent) : (gather f q l).Pairwise (· < ·) := by
  have h : ∀ (l : List Ent) (o : List Int), o.Pairwise (· < ·) → (l.foldl (fun o x => if q x = true then ins (f x) o else o) o).Pairwise (· < ·) := by
    intro l
    induction l with
    | nil => intro o ho; exact ho
    | cons x r ih =>
      intro o ho
      rw [List.foldl_cons]
      refine ih _ ?_
      split
      · exact ins_sorted _ ho
      · exact ho
  exact h l [] List.Pairwise.nil
def ltP (a b : Pair) : Prop := a.1 < b.1 ∨ (a.1 = b.1 ∧ a.2 < b.2)
theorem ltP_irr (a : Pair) : ¬ ltP a a := by unfold ltP; omega
theorem ltP_tr (a b c : Pair) (h1 : ltP a b) (h2 : ltP b c) : ltP a c := by unfold ltP at *; omega
theorem leP_iff (a b : Pair) : leP a b = true ↔ a.1 < b.1 ∨ (a.1 = b.1 ∧ a.2 ≤ b.2) := by
  unfold leP
  simp only [Bool.or_eq_true, Bool.and_eq_true, decide_eq_true_eq, beq_iff_eq]
theorem leP_lt {a b : Pair} (h : leP a b = true) (hne : a ≠ b) : ltP a b := by
  rw [leP_iff] at h
  unfold ltP
  rcases h with h | ⟨h1, h2⟩
  · exact .inl h
  · refine .inr ⟨h1, ?_⟩
    have : a.2 ≠ b.2 := fun e => hne (Prod.ext h1 e)
    omega
theorem compact_sorted : ∀ {l : List Pair}, l.Pairwise (fun a b => leP a b = true) → (compact l).Pairwise ltP
  | [], _ => by simp [compact]
  | [x], _ => by simp [compact]
  | x :: y :: r, h => by
    have h' := h
    rw [List.pairwise_cons] at h
    have ih := compact_sorted h.2
    unfold compact
    split
    · exact ih
    · rename_i hne
      rw [List.pairwise_cons]
      refine ⟨fun z hz => ?_, ih⟩
      rw [mem_compact] at hz
      refine leP_lt (h.1 z hz) (fun e => ?_)
      subst e
      rcases List.mem_cons.1 hz with e | hz
      · exact hne e
      · have h1 := h.1 y (by simp)
        have h2 := (List.pairwise_cons.1 h.2).1 _ hz
        rw [leP_iff] at h1 h2
        exact hne (Prod.ext (by omega) (by omega))
theorem pairs_sorted (l : List Ent) (d : Int) : (pairs l d).Pairwise ltP := by
  unfold pairs
  refine compact_sorted (List.pairwise_mergeSort (le := leP) ?_ ?_ _)
  · intro a b c h1 h2
    rw [leP_iff] at *
    omega
  · intro a b
    rw [Bool.or_eq_true, leP_iff, leP_iff]
    omega
theorem mem_places (l : List Ent) (p d z : Int) : z ∈ places l p d ↔ lives l (p, z) d = true := by
  unfold places lives
  rw [List.contains_iff_mem, List.mem_map]
  constructor
  · rintro ⟨x, hx, rfl⟩
    obtain ⟨h1, h2⟩ := List.mem_filter.1 hx
    rw [beq_iff_eq] at h2
    rw [← h2]; exact h1
  · intro h
    exact ⟨(p, z), List.mem_filter.2 ⟨h, by simp⟩, rfl⟩
theorem mem_dwellers (l : List Ent) (q d z : Int) : z ∈ dwellers l q d ↔ lives l (z, q) d = true := by
  unfold dwellers lives
  rw [List.contains_iff_mem, List.mem_map]
  constructor
  · rintro ⟨x, hx, rfl⟩
    obtain ⟨h1, h2⟩ := List.mem_filter.1 hx
    rw [beq_iff_eq] at h2
    rw [← h2]; exact h1
  · intro h
    exact ⟨(z, q), List.mem_filter.2 ⟨h, by simp⟩, rfl⟩
theorem int_irr (a : Int) : ¬ a < a := by omega
theorem int_tr (a b c : Int) (h1 : a < b) (h2 : b < c) : a < c := by omega
theorem places_eq (l : List Ent) (p d : Int) : places l p d = placesR l p d := by
  refine sorted_ext (r := (· < ·)) int_irr int_tr ?_ ?_ (fun z => ?_)
  · unfold places
    rw [List.pairwise_map]
    refine List.Pairwise.imp_of_mem ?_ ((pairs_sorted l d).filter _)
    intro a b ha hb h
    have h1 := (List.mem_filter.1 ha).2
    have h2 := (List.mem_filter.1 hb).2
    rw [beq_iff_eq] at h1 h2
    unfold ltP at h
    omega
  · unfold placesR
    split
    · exact List.Pairwise.nil
    · exact gather_sorted _ _ _
  · rw [mem_places, lives_places, List.contains_iff_mem]
/-- The persons of all dwellings, in ascending order: the reference's word. -/
def dwellingR (l : List Ent) : List Int := gather (·.person) (fun x => x.kind == 2) l
def dwellersR (l : List Ent) (q d : Int) : List Int := (dwellingR l).filter fun p => lives l (p, q) d
def pairsR (l : List Ent) (d : Int) : List Pair := (dwellingR l).flatMap fun p => (placesR l p d).map fun q => (p, q)
theorem lives_dwelling {l : List Ent} {c : Pair} {d : Int} (h : lives l c d = true) : c.1 ∈ dwellingR l := by
  unfold lives at h
  rw [List.contains_iff_mem, mem_pairs, mem_dwell] at h
  obtain ⟨_, x, hx, hk, _, hp, _⟩ := h
  unfold dwellingR
  rw [mem_gather]
  exact ⟨x, hx, by simp [hk], hp⟩
theorem dwellers_eq (l : List Ent) (q d : Int) : dwellers l q d = dwellersR l q d := by
  refine sorted_ext (r := (· < ·)) int_irr int_tr ?_ ?_ (fun z => ?_)
  · unfold dwellers
    rw [List.pairwise_map]
    refine List.Pairwise.imp_of_mem ?_ ((pairs_sorted l d).filter _)
    intro a b ha hb h
    have h1 := (List.mem_filter.1 ha).2
    have h2 := (List.mem_filter.1 hb).2
    rw [beq_iff_eq] at h1 h2
    unfold ltP at h
    omega
  · exact (gather_sorted _ _ _).filter _
  · rw [mem_dwellers]
    unfold dwellersR
    rw [List.mem_filter]
    exact ⟨fun h => ⟨lives_dwelling h, h⟩, fun h => h.2⟩
theorem pairs_eq (l : List Ent) (d : Int) : pairs l d = pairsR l d := by
  refine sorted_ext (r := ltP) ltP_irr ltP_tr (pairs_sorted l d) ?_ (fun z => ?_)
  · unfold pairsR
    rw [List.pairwise_flatMap]
    constructor
    · intro p _
      rw [List.pairwise_map]
      refine List.Pairwise.imp ?_ (show (placesR l p d).Pairwise (· < ·) by
        unfold placesR
        split
        · exact List.Pairwise.nil
        · exact gather_sorted _ _ _)
      intro a b h
      exact .inr ⟨rfl, h⟩
    · refine List.Pairwise.imp ?_ (gather_sorted _ _ _)
      intro a b h x hx y hy
      obtain ⟨q, _, rfl⟩ := List.mem_map.1 hx
      obtain ⟨q', _, rfl⟩ := List.mem_map.1 hy
      exact .inl h
  · unfold pairsR
    rw [List.mem_flatMap]
    constructor
    · intro h
      have hl : lives l z d = true := by unfold lives; rw [List.contains_iff_mem]; exact h
      refine ⟨z.1, lives_dwelling hl, List.mem_map.2 ⟨z.2, ?_, rfl⟩⟩
      rw [lives_places, List.contains_iff_mem] at hl
      exact hl
    · rintro ⟨p, _, hz⟩
      obtain ⟨q, hq, rfl⟩ := List.mem_map.1 hz
      have hl : lives l (p, q) d = true := by rw [lives_places, List.contains_iff_mem]; exact hq
      unfold lives at hl
      rw [List.contains_iff_mem] at hl
      exact hl
end Pe
end Go.Proofs.YtnphlekailodkaaGreatDoor
