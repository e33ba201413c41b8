/-
  The plain law of the journal: Append, Sync, Open.
-/
import Derived.Test.YtdnjelggdjimhaaJp3
namespace Go.Proofs.Ytdnjelggdjimhaa
namespace Dk

theorem pad_64 (x : List UInt8) (h : x.length = 64) : pad x = x := by simp [pad, h]
theorem core_spent {d : D} {rs : List (List UInt8)} {k : Nat} {part : List Sec} (h : Core d rs k part) : Core (spent d) rs k part :=
  ⟨h.short, h.k_le, by rw [spent_dur]; exact h.room, by rw [spent_dur]; exact h.dur, by rw [spent_wr]; exact h.wr, h.part64, spent_ok h.ok⟩
theorem core_write {d : D} {rs : List (List UInt8)} {k : Nat} {part : List Sec} (h : Core d rs k part) (hd : d.down = false) (x : Sec) (hx : x.length = 64) (hr : (encs rs ++ part).length < d.now.length) :
    (spends d = true → writeErr d (((encs rs ++ part).length : Nat) : Int) 64 = 0 ∧ (write d (((encs rs ++ part).length : Nat) : Int) x).down = false ∧ (write d (((encs rs ++ part).length : Nat) : Int) x).armed = d.armed ∧ Core (write d (((encs rs ++ part).length : Nat) : Int) x) rs k (part ++ [x])) ∧
    (spends d = false → writeErr d (((encs rs ++ part).length : Nat) : Int) 64 = 70 ∧ (write d (((encs rs ++ part).length : Nat) : Int) x).down = true ∧ Core (write d (((encs rs ++ part).length : Nat) : Int) x) rs k part) := by
  obtain ⟨p, hp⟩ : ∃ p, p = (encs rs ++ part).length := ⟨_, rfl⟩
  rw [← hp] at hr ⊢
  have hw : write d (p : Int) x = if spends d then wrote (Dk.spent d) p x else Dk.spent d := by
    unfold write
    rw [hd, if_neg (by decide), if_neg (by omega), if_neg (by omega), Int.toNat_natCast, pad_64 x hx]
  have he : writeErr d (p : Int) 64 = if spends d then 0 else 70 := by
    unfold writeErr
    rw [hd, if_neg (by decide), if_neg (by omega), if_neg (by omega)]
  rw [hw, he]
  have hs := core_spent h
  constructor
  · intro hsp
    rw [hsp]
    refine ⟨rfl, by simp only [if_true, wrote]; rw [spent_down d hsp]; exact hd, by simp only [if_true, wrote]; exact spent_armed d, h.short, h.k_le, ?_, ?_, ?_, ?_, ?_⟩
    · simp only [if_true, wrote]
      rw [spent_dur, ← List.append_assoc, List.length_append, ← hp, h.ok.same, List.length_singleton]
      omega
    · simp only [if_true, wrote]; rw [spent_dur]; exact h.dur
    · simp only [if_true, wrote]
      rw [spent_wr, h.wr, ← List.append_assoc, placed_append (encs (rs.drop k) ++ part) [x]]
      congr 1
      rw [show (encs (rs.take k)).length + (encs (rs.drop k) ++ part).length = p from by rw [hp, ← encs_split rs k]; simp only [List.length_append]; omega]
      rfl
    · intro y hy
      rcases List.mem_append.1 hy with hy | hy
      · exact h.part64 y hy
      · rw [List.mem_singleton.1 hy]; exact hx
    · exact wrote_ok hs.ok (by rw [spent_now]; exact hr) hx
  · intro hsp
    rw [hsp]
    exact ⟨rfl, spent_down' d hsp, hs⟩

theorem Core.close {d : D} {rs : List (List UInt8)} {k : Nat} {s : List UInt8} (h : Core d rs k (encR s)) (hs : s.length ≤ 60000) : Core d (rs ++ [s]) k [] := by
  refine ⟨fun x hx => ?_, by have := h.k_le; simp; omega, ?_, ?_, ?_, fun x hx => by simp at hx, h.ok⟩
  · rcases List.mem_append.1 hx with hx | hx
    · exact h.short x hx
    · rw [List.mem_singleton.1 hx]; exact hs
  · have := h.room; rw [encs_append, encs_one, List.append_nil]; exact this
  · rw [List.take_append_of_le_length h.k_le]; exact h.dur
  · rw [List.take_append_of_le_length h.k_le, List.drop_append_of_le_length h.k_le, encs_append, encs_one, List.append_nil]; exact h.wr

theorem app_go {rs : List (List UInt8)} {k : Nat} {s : List UInt8} (hs : s.length ≤ 60000) : ∀ (f i : Nat) (d : D), Core d rs k ((encR s).take i) → d.down = false → i + f = manyOf s.length → (encs rs).length + manyOf s.length ≤ d.now.length →
    ((appGo d (encs rs).length s f i).2 = 0 ∧ (appGo d (encs rs).length s f i).1.down = false ∧ (appGo d (encs rs).length s f i).1.armed = d.armed ∧ Core (appGo d (encs rs).length s f i).1 (rs ++ [s]) k []) ∨
    (d.armed = true ∧ (appGo d (encs rs).length s f i).2 = 70 ∧ (appGo d (encs rs).length s f i).1.down = true ∧ ∃ part, PartOf part ∧ Core (appGo d (encs rs).length s f i).1 rs k part)
  | 0, i, d, hc, hd, hi, _ => by
    left
    have : (encR s).take i = encR s := List.take_of_length_le (by rw [length_encR]; omega)
    rw [this] at hc
    exact ⟨rfl, hd, rfl, hc.close hs⟩
  | f + 1, i, d, hc, hd, hi, hroom => by
    have hil : i < manyOf s.length := by omega
    have hlen : (encs rs ++ (encR s).take i).length = (encs rs).length + i := by rw [List.length_append, List.length_take, length_encR]; omega
    obtain ⟨h1, h2⟩ := core_write hc hd (enc (i == 0) (s.drop (i * 59))) (length_enc _ _) (by rw [hlen]; omega)
    rw [hlen] at h1 h2
    unfold appGo
    cases hsp : spends d
    · obtain ⟨e1, e2, e3⟩ := h2 hsp
      right
      rw [e1, if_neg (by decide)]
      refine ⟨?_, rfl, e2, _, ?_, e3⟩
      · unfold spends at hsp
        cases ha : d.armed
        · simp [ha] at hsp
        · rfl
      · right
        exact ⟨s, hs, by rw [List.length_take, length_encR, Nat.min_eq_left (by omega)], by rw [List.length_take, length_encR]; omega⟩
    · obtain ⟨e1, e2, e3, e4⟩ := h1 hsp
      rw [e1, if_pos rfl]
      have e5 : (encR s).take i ++ [enc (i == 0) (s.drop (i * 59))] = (encR s).take (i + 1) := by rw [List.take_add_one, encR_get s i hil]; rfl
      rw [e5] at e4
      have := app_go hs f (i + 1) _ e4 e2 (by omega) (by rw [write_len]; exact hroom)
      rwa [e3] at this

/-- What Append does. -/
theorem Core.append {d : D} {rs : List (List UInt8)} {k : Nat} (h : Core d rs k []) (hd : d.down = false) (s : List UInt8) (hs : s.length ≤ 60000) (hroom : (encs rs).length + manyOf s.length ≤ d.now.length) :
    ((appGo d (encs rs).length s (manyOf s.length) 0).2 = 0 ∧ (appGo d (encs rs).length s (manyOf s.length) 0).1.down = false ∧ (appGo d (encs rs).length s (manyOf s.length) 0).1.armed = d.armed ∧ Core (appGo d (encs rs).length s (manyOf s.length) 0).1 (rs ++ [s]) k []) ∨
    (d.armed = true ∧ (appGo d (encs rs).length s (manyOf s.length) 0).2 = 70 ∧ (appGo d (encs rs).length s (manyOf s.length) 0).1.down = true ∧ ∃ part, PartOf part ∧ Core (appGo d (encs rs).length s (manyOf s.length) 0).1 rs k part) :=
  app_go hs (manyOf s.length) 0 d (by simpa using h) hd (by omega) hroom

theorem Core.sync {d : D} {rs : List (List UInt8)} {k : Nat} (h : Core d rs k []) (hd : d.down = false) :
    (flushErr d = 0 ∧ (flush d).down = false ∧ (flush d).armed = d.armed ∧ Core (flush d) rs rs.length []) ∨ (d.armed = true ∧ flushErr d = 70 ∧ (flush d).down = true ∧ Core (flush d) rs k []) := by
  unfold flushErr flush
  rw [hd]
  cases hsp : spends d
  · right
    refine ⟨?_, rfl, spent_down' d hsp, core_spent h⟩
    unfold spends at hsp
    cases ha : d.armed
    · simp [ha] at hsp
    · rfl
  · left
    have hn : (flushed (Dk.spent d)).dur = d.now := by simp only [flushed]; rw [spent_dur, spent_wr]; exact h.ok.now.symm
    have hnow := h.now
    simp only [List.nil_append, List.append_nil] at hnow
    refine ⟨rfl, by simp only [if_true, Bool.false_eq_true, if_false, flushed]; rw [spent_down d hsp]; exact hd, by simp only [if_true, Bool.false_eq_true, if_false, flushed]; exact spent_armed d, h.short, Nat.le_refl _, ?_, ?_, ?_, fun x hx => by simp at hx, flushed_ok (core_spent h).ok⟩
    · simp only [if_true, Bool.false_eq_true, if_false]
      rw [hn, ← h.ok.same]; exact h.room
    · simp only [if_true, Bool.false_eq_true, if_false]
      rw [hn, List.take_length]
      conv => lhs; rw [hnow]
      rw [← h.ok.same]
    · simp only [if_true, Bool.false_eq_true, if_false, flushed]
      rw [List.drop_length]; rfl

end Dk
end Go.Proofs.Ytdnjelggdjimhaa
