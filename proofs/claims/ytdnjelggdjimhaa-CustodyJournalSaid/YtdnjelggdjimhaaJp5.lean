/-
  The plain law of the journal: Open.
-/
import Derived.Test.YtdnjelggdjimhaaJp4
namespace Go.Proofs.Ytdnjelggdjimhaa
namespace Dk

theorem clr_zero {d : D} : ∀ (f i : Nat), (∀ p, i ≤ p → d.now.getD p zsec = zsec) → clr d i f = (flush d, flushErr d)
  | 0, _, _ => rfl
  | f + 1, i, h => by
    unfold clr
    rw [if_pos (h i (Nat.le_refl _))]
    exact clr_zero f (i + 1) (fun p hp => h p (by omega))

theorem found_of {d : D} {rs : List (List UInt8)} (hd : d.down = false) (h : Holds d.now rs) (hs : ∀ s ∈ rs, s.length ≤ 60000) : found d = (rs, (encs rs).length) ∧ (encs rs).length ≤ d.now.length := by
  have hl : (encs rs).length ≤ d.now.length := by obtain ⟨T, hT, _⟩ := h; rw [hT]; simp
  refine ⟨?_, hl⟩
  unfold found
  rw [recs_L hd]
  exact h.recs (fun s hx => by have := hs s hx; omega) (by have := length_encs rs; omega)

theorem zs_get (c p : Nat) : (zs c).getD p zsec = zsec := by
  unfold zs
  rw [List.getD_eq_getElem?_getD, List.getElem?_replicate]
  split <;> rfl

/-- Open of a journal that is up. -/
theorem Core.open_ {d : D} {rs : List (List UInt8)} {k : Nat} (h : Core d rs k []) (hd : d.down = false) :
    found d = (rs, (encs rs).length) ∧ (((cleared d).2 = 0 ∧ (cleared d).1.down = false ∧ (cleared d).1.armed = d.armed ∧ Core (cleared d).1 rs rs.length []) ∨ (d.armed = true ∧ (cleared d).2 = 70 ∧ (cleared d).1.down = true ∧ Core (cleared d).1 rs k [])) := by
  obtain ⟨hf, hle⟩ := found_of hd (h.holds (.inl rfl)) h.short
  have hc : cleared d = (flush d, flushErr d) := by
    unfold cleared
    rw [hf]
    refine clr_zero _ _ (fun p hp => ?_)
    rw [h.now, List.nil_append, List.getD_eq_getElem?_getD, List.getElem?_append_right hp, ← List.getD_eq_getElem?_getD]
    exact zs_get _ _
  rw [hc]
  exact ⟨hf, h.sync hd⟩

/-- A disk whose sectors from e on are being made zero. -/
structure Clr (L : List Sec) (e : Nat) (d : D) : Prop where
  dur : d.dur = L
  wr : ∀ p ∈ d.wr, p.2 = zsec ∧ e ≤ p.1
  len : d.now.length = L.length
  low : ∀ p, p < e → d.now.getD p zsec = L.getD p zsec
  ok : Ok d

theorem torn_zero (keep : List Int) (e : Nat) (wr : List (Nat × Sec)) : ∀ (j : Nat) (l : List Sec), (∀ p ∈ wr, p.2 = zsec ∧ e ≤ p.1) →
    (∀ p, (tornFrom keep j l wr).getD p zsec = l.getD p zsec ∨ bad ((tornFrom keep j l wr).getD p zsec)) ∧ (∀ p, p < e → (tornFrom keep j l wr).getD p zsec = l.getD p zsec) := by
  induction wr with
  | nil => intro j l _; exact ⟨fun p => .inl rfl, fun p _ => rfl⟩
  | cons pr wr ih =>
    intro j l h
    obtain ⟨q, x⟩ := pr
    obtain ⟨hx, hq⟩ := h (q, x) (by simp)
    simp only at hx hq
    subst hx
    obtain ⟨i1, i2⟩ := ih (j + 1) (torn1 l (keptOf keep j) (q, zsec)) (fun p hp => h p (by simp [hp]))
    have h1 : ∀ p, p ≠ q → (torn1 l (keptOf keep j) (q, zsec)).getD p zsec = l.getD p zsec := fun p hp => by
      unfold torn1
      simp only [List.getD_eq_getElem?_getD, List.getElem?_set_ne (Ne.symm hp)]
    have h2 : (torn1 l (keptOf keep j) (q, zsec)).getD q zsec = l.getD q zsec ∨ ((torn1 l (keptOf keep j) (q, zsec)).getD q zsec).getD 0 0 = 0 := by
      unfold torn1
      by_cases hql : q < l.length
      · rw [List.getD_eq_getElem?_getD, List.getElem?_set_self hql]
        simp only [Option.getD_some]
        cases hk : keptOf keep j with
        | zero => left; simp
        | succ n =>
          right
          unfold zsec
          rw [show (64 : Nat) = 63 + 1 from rfl, List.replicate_succ, List.take_succ_cons]
          rfl
      · left
        rw [List.getD_eq_getElem?_getD, List.getD_eq_getElem?_getD, List.getElem?_eq_none (by simp; omega), List.getElem?_eq_none (by omega)]
    simp only [tornFrom]
    refine ⟨fun p => ?_, fun p hp => ?_⟩
    · rcases i1 p with h3 | h3
      · by_cases hpq : p = q
        · subst hpq
          rcases h2 with h4 | h4
          · left; rw [h3, h4]
          · right; left; rw [h3]; exact h4
        · left; rw [h3, h1 p hpq]
      · exact .inr h3
    · rw [i2 p hp, h1 p (by omega)]

theorem Clr.crash {L : List Sec} {rs : List (List UInt8)} {d : D} (h : Clr L (encs rs).length d) (hL : Holds L rs) (hs : ∀ s ∈ rs, s.length ≤ 60000) (keep : List Int) : Clean (crash d keep) rs := by
  obtain ⟨t1, t2⟩ := torn_zero keep (encs rs).length d.wr 0 d.dur h.wr
  rw [h.dur] at t1 t2
  have hnow : (Dk.crash d keep).now = tornFrom keep 0 L d.wr := by show tornFrom keep 0 d.dur d.wr = _; rw [h.dur]
  have hU : Under (Dk.crash d keep).now L := ⟨by rw [hnow, length_tornFrom], by rw [hnow]; exact t1⟩
  obtain ⟨T, hT, hn⟩ := hL
  obtain ⟨m, hm, ⟨T', hT'⟩, hn', hk'⟩ := under_holds hU T rs [] (fun s hx => by have := hs s hx; omega) (by rw [hT]; rfl) rfl (by simpa using hn)
  have hmr : m = rs.length := Nat.le_antisymm hm (hk' rs.length (Nat.le_refl _) (fun i hi => by
    rw [hnow]; exact t2 i (by simpa using hi)))
  subst hmr
  rw [List.take_length] at hT' hn'
  exact ⟨rfl, rfl, ⟨T', by simpa using hT', by simpa using hn'⟩, hs, crash_ok h.ok keep⟩

theorem Clr.flush {L : List Sec} {rs : List (List UInt8)} {d : D} (h : Clr L (encs rs).length d) (hL : Holds L rs) (hs : ∀ s ∈ rs, s.length ≤ 60000) (hd : d.down = false) (hz : ∀ p, (encs rs).length ≤ p → d.now.getD p zsec = zsec) :
    (flushErr d = 0 ∧ (flush d).down = false ∧ (flush d).armed = d.armed ∧ Core (flush d) rs rs.length []) ∨ (d.armed = true ∧ flushErr d = 70 ∧ (flush d).down = true ∧ Clr L (encs rs).length (flush d)) := by
  unfold flushErr Dk.flush
  rw [hd]
  have hcs : Clr L (encs rs).length (spent d) := ⟨by rw [spent_dur]; exact h.dur, by rw [spent_wr]; exact h.wr, by rw [spent_now]; exact h.len, by rw [spent_now]; exact h.low, spent_ok h.ok⟩
  cases hsp : spends d
  · right
    refine ⟨?_, rfl, spent_down' d hsp, hcs⟩
    unfold spends at hsp
    cases ha : d.armed
    · simp [ha] at hsp
    · rfl
  · left
    have hn : (flushed (spent d)).dur = d.now := by simp only [flushed]; rw [spent_dur, spent_wr]; exact h.ok.now.symm
    obtain ⟨T, hT, _⟩ := hL
    have hle : (encs rs).length ≤ d.now.length := by rw [h.len, hT]; simp
    have hnow : d.now = encs rs ++ zs (d.now.length - (encs rs).length) := by
      have h1 := take_agree h.len (encs rs).length h.low
      have h2 : L.take (encs rs).length = encs rs := by rw [hT, List.take_left]
      conv => lhs; rw [← List.take_append_drop (encs rs).length d.now, h1, h2]
      congr 1
      apply List.ext_getElem
      · simp [zs]
      · intro i hi1 hi2
        have h3 := hz ((encs rs).length + i) (by omega)
        rw [List.length_drop] at hi1
        rw [List.getD_eq_getElem?_getD, List.getElem?_eq_getElem (by omega), Option.getD_some] at h3
        rw [List.getElem_drop, h3]
        simp [zs]
    refine ⟨rfl, by simp only [if_true, Bool.false_eq_true, if_false, flushed]; rw [spent_down d hsp]; exact hd, by simp only [if_true, Bool.false_eq_true, if_false, flushed]; exact spent_armed d, hs, Nat.le_refl _, ?_, ?_, ?_, fun x hx => by simp at hx, flushed_ok hcs.ok⟩
    · simp only [if_true, Bool.false_eq_true, if_false]
      rw [hn, List.append_nil]; exact hle
    · simp only [if_true, Bool.false_eq_true, if_false]
      rw [hn, List.take_length]; exact hnow
    · simp only [if_true, Bool.false_eq_true, if_false, flushed]
      rw [List.drop_length]; rfl

theorem clr_go {L : List Sec} {rs : List (List UInt8)} (hL : Holds L rs) (hs : ∀ s ∈ rs, s.length ≤ 60000) : ∀ (f i : Nat) (d : D), Clr L (encs rs).length d → d.down = false → i + f = d.now.length → (encs rs).length ≤ i → (∀ p, (encs rs).length ≤ p → p < i → d.now.getD p zsec = zsec) →
    ((clr d i f).2 = 0 ∧ (clr d i f).1.down = false ∧ (clr d i f).1.armed = d.armed ∧ Core (clr d i f).1 rs rs.length []) ∨ (d.armed = true ∧ (clr d i f).2 = 70 ∧ (clr d i f).1.down = true ∧ Clr L (encs rs).length (clr d i f).1)
  | 0, i, d, h, hd, hi, _, hz => by
    unfold clr
    refine h.flush hL hs hd (fun p hp => ?_)
    by_cases hpi : p < i
    · exact hz p hp hpi
    · rw [List.getD_eq_getElem?_getD, List.getElem?_eq_none (by omega)]; rfl
  | f + 1, i, d, h, hd, hi, hei, hz => by
    unfold clr
    by_cases h0 : d.now.getD i zsec = zsec
    · rw [if_pos h0]
      refine clr_go hL hs f (i + 1) d h hd (by omega) (by omega) (fun p hp hpi => ?_)
      rcases Nat.lt_or_ge p i with h1 | h1
      · exact hz p hp h1
      · rw [show p = i from by omega]; exact h0
    · rw [if_neg h0]
      have hw : write d (i : Int) [] = if spends d then wrote (spent d) i zsec else spent d := by
        unfold write
        rw [hd, if_neg (by decide), if_neg (by omega), if_neg (by simp), Int.toNat_natCast]
        rfl
      have he : writeErr d (i : Int) 0 = if spends d then 0 else 70 := by
        unfold writeErr
        rw [hd, if_neg (by decide), if_neg (by omega), if_neg (by decide)]
      have hcs : Clr L (encs rs).length (spent d) := ⟨by rw [spent_dur]; exact h.dur, by rw [spent_wr]; exact h.wr, by rw [spent_now]; exact h.len, by rw [spent_now]; exact h.low, spent_ok h.ok⟩
      rw [hw, he]
      cases hsp : spends d
      · right
        rw [if_neg (by decide), if_neg (by decide), if_neg (by decide)]
        refine ⟨?_, rfl, spent_down' d hsp, hcs⟩
        unfold spends at hsp
        cases ha : d.armed
        · simp [ha] at hsp
        · rfl
      · simp only [if_true]
        have hcw : Clr L (encs rs).length (wrote (spent d) i zsec) := by
          refine ⟨hcs.dur, fun p hp => ?_, by simp only [wrote, List.length_set]; exact hcs.len, fun p hp => ?_, wrote_ok hcs.ok (by rw [spent_now]; omega) length_zsec⟩
          · simp only [wrote, List.mem_append, List.mem_singleton] at hp
            rcases hp with hp | rfl
            · exact hcs.wr p hp
            · exact ⟨rfl, hei⟩
          · simp only [wrote]
            rw [List.getD_eq_getElem?_getD, List.getElem?_set_ne (by omega), ← List.getD_eq_getElem?_getD]
            exact hcs.low p hp
        have ha : (wrote (spent d) i zsec).armed = d.armed := by simp only [wrote]; exact spent_armed d
        have := clr_go hL hs f (i + 1) (wrote (spent d) i zsec) hcw (by simp only [wrote]; rw [spent_down d hsp]; exact hd) (by simp only [wrote, List.length_set]; rw [spent_now]; omega) (by omega) (fun p hp hpi => by
          simp only [wrote]
          by_cases hpe : p = i
          · subst hpe
            rw [List.getD_eq_getElem?_getD, List.getElem?_set_self (by rw [spent_now]; omega)]; rfl
          · rw [List.getD_eq_getElem?_getD, List.getElem?_set_ne (fun e => hpe e.symm), ← List.getD_eq_getElem?_getD, spent_now]
            exact hz p hp (by omega))
        rwa [ha] at this

/-- Open of a disk behind a crash. -/
theorem Clean.open_ {d : D} {rs : List (List UInt8)} (h : Clean d rs) :
    found d = (rs, (encs rs).length) ∧ (((cleared d).2 = 0 ∧ (cleared d).1.down = false ∧ (cleared d).1.armed = d.armed ∧ Core (cleared d).1 rs rs.length []) ∨ (d.armed = true ∧ (cleared d).2 = 70 ∧ (cleared d).1.down = true ∧ ∀ keep, Clean (crash (cleared d).1 keep) rs)) := by
  obtain ⟨hf, hle⟩ := found_of h.down h.holds h.short
  refine ⟨hf, ?_⟩
  have hdn : d.dur = d.now := by rw [h.ok.now, h.wr]; rfl
  have hc0 : Clr d.now (encs rs).length d := ⟨hdn, by rw [h.wr]; simp, rfl, fun p _ => rfl, h.ok⟩
  have := clr_go h.holds h.short (d.now.length - (encs rs).length) (encs rs).length d hc0 h.down (by omega) (Nat.le_refl _) (fun p h1 h2 => by omega)
  unfold cleared
  rw [hf]
  rcases this with this | ⟨h1, h2, h3, h4⟩
  · exact .inl this
  · exact .inr ⟨h1, h2, h3, fun keep => h4.crash h.holds h.short keep⟩

theorem new_clean (n : Nat) (h1 : 16 ≤ n) (h2 : n ≤ 65536) : Clean (new n) [] :=
  ⟨rfl, rfl, ⟨(new n).now, by simp [encs], recGoL_false (ld_zero (A := []) (c := n) rfl 1 (.inl rfl))⟩, by simp, new_ok n h1 h2⟩
theorem Clean.stop {d : D} {rs : List (List UInt8)} (h : Clean d rs) (n : Int) (hn : n ≤ 9223372036854775807) : Clean (stop d n) rs := by
  have hok := stop_ok h.ok n hn
  unfold Dk.stop at hok ⊢
  split
  · exact h
  · split
    · exact h
    · rename_i h1 h2
      rw [if_neg h1, if_neg h2] at hok
      exact ⟨h.wr, h.down, h.holds, h.short, hok⟩
theorem core_stop {d : D} {rs : List (List UInt8)} {k : Nat} {part : List Sec} (h : Core d rs k part) (n : Int) (hn : n ≤ 9223372036854775807) : Core (stop d n) rs k part ∧ (stop d n).down = d.down := by
  have hok := stop_ok h.ok n hn
  unfold Dk.stop at hok ⊢
  split
  · exact ⟨h, rfl⟩
  · split
    · exact ⟨h, rfl⟩
    · rename_i h1 h2
      rw [if_neg h1, if_neg h2] at hok
      exact ⟨⟨h.short, h.k_le, h.room, h.dur, h.wr, h.part64, hok⟩, rfl⟩

end Dk
end Go.Proofs.Ytdnjelggdjimhaa
