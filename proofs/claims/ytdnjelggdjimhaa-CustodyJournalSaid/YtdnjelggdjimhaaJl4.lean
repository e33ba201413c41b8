/-
  The journal in memory, whatever comes: Append, Sync, Open and Stop where the power may fail.
-/
import Derived.Test.YtdnjelggdjimhaaJl2
namespace Go.Proofs.Ytdnjelggdjimhaa
open Go.RowKit

/-- What a step of a disk may change. -/
abbrev FpD (base g : Nat) (d : Dk.D) (w : World) : Nat → Prop := fun i => ∃ vd vn vw, DiskAt w base g d vd vn vw ∧ fpD g vd vn vw i
/-- What a step of a journal may change. -/
abbrev FpJ (base g jb : Nat) (d : Dk.D) (w : World) : Nat → Prop := fun i => i = jb ∨ ∃ vd vn vw, DiskAt w base g d vd vn vw ∧ fpD g vd vn vw i

theorem append_up {base g jb : Nat} {w : World} {d : Dk.D} {rs : List (List UInt8)} {k : Nat} (h : JOn w base g jb d rs k []) (hd : d.down = false) (s : List UInt8) (hs : s.length ≤ 60000) (hr : (Dk.encs rs).length + Dk.manyOf s.length ≤ d.now.length) :
    Calls Try.prog 19 #[.pointer (some ⟨jb, 0, none⟩), .string (bs s)] w fun e w' => ∃ d', Chg (FpJ base g jb d w) w w' ∧ d'.now.length = d.now.length ∧
      ((e = .returned (.int .i64 0) ∧ JOn w' base g jb d' (rs ++ [s]) k [] ∧ d'.down = false ∧ d'.armed = d.armed) ∨
       (d.armed = true ∧ e = .returned (.int .i64 70) ∧ d'.down = true ∧ ∃ part, Dk.PartOf part ∧ JOn w' base g jb d' rs k part)) := by
  obtain ⟨⟨hb, vd, vn, vw, hD⟩, hlow, hJ, hc⟩ := h
  have hn := hD.ok.many.2
  have hle := Dk.length_encs rs
  refine (append_calls (e := (Dk.encs rs).length) (r := rs.length) s (by omega) hJ hD (by have := hc.wr_le; omega) (by omega) (by omega)).mono ?_
  intro e w' hA
  rcases hA with ⟨h1, _⟩ | ⟨_, h1, _⟩ | ⟨_, _, h1, _⟩ | ⟨_, _, _, rfl, hU, hJ'⟩
  · omega
  · rw [hd] at h1; cases h1
  · omega
  · obtain ⟨vd', vn', vw', hD', hch, _⟩ := hU
    refine ⟨(Dk.appGo d (Dk.encs rs).length s (Dk.manyOf s.length) 0).1, hch.mono (fun i _ hi => hi.imp id (fun h => ⟨vd, vn, vw, hD, h⟩)), Dk.app_len _ _ _ _ _, ?_⟩
    rcases hc.append hd s hs hr with hap | ⟨ha, he, hdn, part, hp, hcp⟩
    · left
      rw [hap.1]
      refine ⟨rfl, ⟨⟨Nat.le_trans hb hch.size, vd', vn', vw', hD'⟩, hlow, ?_, hap.2.2.2⟩, hap.2.1, hap.2.2.1⟩
      rcases hJ' with ⟨_, hJ'⟩ | ⟨hne, _⟩
      · rw [Dk.encs_append, Dk.encs_one, List.length_append, Dk.length_encR]
        simpa using hJ'
      · exact absurd hap.1 hne
    · right
      rw [he]
      refine ⟨ha, rfl, hdn, part, hp, ⟨⟨Nat.le_trans hb hch.size, vd', vn', vw', hD'⟩, hlow, ?_, hcp⟩⟩
      rcases hJ' with ⟨hz, _⟩ | ⟨_, hJ'⟩
      · rw [he] at hz; cases hz
      · exact hJ'

/-- Append of a journal whose disk is down, or that has no room. -/
theorem append_not {base g jb : Nat} {w : World} {d : Dk.D} {rs : List (List UInt8)} {k : Nat} {part : List Dk.Sec} (h : JOn w base g jb d rs k part) (s : List UInt8) (hs : s.length ≤ 1099511627776) (hr : 60000 < s.length ∨ d.down = true ∨ d.now.length < (Dk.encs rs).length + Dk.manyOf s.length) :
    Calls Try.prog 19 #[.pointer (some ⟨jb, 0, none⟩), .string (bs s)] w fun e w' => JOn w' base g jb d rs k part ∧ Chg (fun _ => False) w w' ∧
      ((60000 < s.length ∧ e = .returned (.int .i64 2)) ∨ (s.length ≤ 60000 ∧ d.down = true ∧ e = .returned (.int .i64 70)) ∨ (s.length ≤ 60000 ∧ d.down = false ∧ d.now.length < (Dk.encs rs).length + Dk.manyOf s.length ∧ e = .returned (.int .i64 72))) := by
  have h0 := h
  obtain ⟨⟨hb, vd, vn, vw, hD⟩, hlow, hJ, hc⟩ := h
  have hn := hD.ok.many.2
  have hle := Dk.length_encs rs
  have hlr : (Dk.encs rs).length ≤ 65536 := by
    have h1 := hc.room
    have h2 := hc.ok.same
    rw [List.length_append] at h1
    omega
  refine (append_calls (e := (Dk.encs rs).length) (r := rs.length) s hs hJ hD (by have := hc.wr_le; omega) (by omega) (by omega)).mono ?_
  intro e w' hA
  rcases hA with ⟨h1, rfl, rfl⟩ | ⟨h1, h2, rfl, rfl⟩ | ⟨h1, h2, h3, rfl, hch⟩ | ⟨h1, h2, h3, _⟩
  · exact ⟨h0, Chg.refl _ _, .inl ⟨h1, rfl⟩⟩
  · exact ⟨h0, Chg.refl _ _, .inr (.inl ⟨h1, h2, rfl⟩)⟩
  · exact ⟨⟨⟨Nat.le_trans hb hch.size, vd, vn, vw, hD.new_ hch⟩, hlow, hch.blk hJ (fun h => h), hc⟩, hch, .inr (.inr ⟨h1, h2, h3, rfl⟩)⟩
  · rcases hr with hr | hr | hr
    · omega
    · rw [h2] at hr; cases hr
    · omega

/-- Sync, the disk being up. -/
theorem sync_up {base g jb : Nat} {w : World} {d : Dk.D} {rs : List (List UInt8)} {k : Nat} (h : JOn w base g jb d rs k []) (hd : d.down = false) :
    Calls Try.prog 20 #[.pointer (some ⟨jb, 0, none⟩)] w fun e w' => ∃ d', Chg (FpJ base g jb d w) w w' ∧ d'.now.length = d.now.length ∧
      ((e = .returned (.int .i64 0) ∧ JOn w' base g jb d' rs rs.length [] ∧ d'.down = false ∧ d'.armed = d.armed) ∨
       (d.armed = true ∧ e = .returned (.int .i64 70) ∧ d'.down = true ∧ JOn w' base g jb d' rs k [])) := by
  obtain ⟨⟨hb, vd, vn, vw, hD⟩, hlow, hJ, hc⟩ := h
  refine (sync_calls hJ hD).mono ?_
  rintro e w' ⟨rfl, hU, hJ'⟩
  obtain ⟨vd', vn', vw', hD', hch, _⟩ := hU
  refine ⟨Dk.flush d, hch.mono (fun i _ hi => .inr ⟨vd, vn, vw, hD, hi⟩), by rw [Dk.flush_now], ?_⟩
  rcases hc.sync hd with hs | ⟨ha, he, hdn, hcs⟩
  · left
    rw [hs.1]
    exact ⟨rfl, ⟨⟨Nat.le_trans hb hch.size, vd', vn', vw', hD'⟩, hlow, hJ', hs.2.2.2⟩, hs.2.1, hs.2.2.1⟩
  · right
    rw [he]
    exact ⟨ha, rfl, hdn, ⟨⟨Nat.le_trans hb hch.size, vd', vn', vw', hD'⟩, hlow, hJ', hcs⟩⟩
theorem sync_down {base g jb : Nat} {w : World} {d : Dk.D} {rs : List (List UInt8)} {k : Nat} {part : List Dk.Sec} (h : JOn w base g jb d rs k part) (hd : d.down = true) :
    Calls Try.prog 20 #[.pointer (some ⟨jb, 0, none⟩)] w fun e w' => e = .returned (.int .i64 70) ∧ JOn w' base g jb d rs k part ∧ Chg (FpJ base g jb d w) w w' := by
  obtain ⟨⟨hb, vd, vn, vw, hD⟩, hlow, hJ, hc⟩ := h
  refine (sync_calls hJ hD).mono ?_
  rintro e w' ⟨rfl, hU, hJ'⟩
  obtain ⟨vd', vn', vw', hD', hch, _⟩ := hU
  have hf : Dk.flush d = d := by unfold Dk.flush; rw [hd]; rfl
  have he : Dk.flushErr d = 70 := by unfold Dk.flushErr; rw [hd]; rfl
  rw [he]
  rw [hf] at hD'
  exact ⟨rfl, ⟨⟨Nat.le_trans hb hch.size, vd', vn', vw', hD'⟩, hlow, hJ', hc⟩, hch.mono (fun i _ hi => .inr ⟨vd, vn, vw, hD, hi⟩)⟩

theorem stop_len (d : Dk.D) (n : Int) : (Dk.stop d n).now.length = d.now.length := by
  unfold Dk.stop
  split
  · rfl
  · split <;> rfl
/-- Stop of a journal's disk. -/
theorem stop_on {base g jb : Nat} {w : World} {d : Dk.D} {rs : List (List UInt8)} {k : Nat} {part : List Dk.Sec} (h : JOn w base g jb d rs k part) (n : Int) (hn : n ≤ 9223372036854775807) :
    Calls Try.prog 23 #[.pointer (some ⟨g, 0, none⟩), .int .i64 n] w fun e w' => e = .returned (.int .i64 (Dk.stopErr d n)) ∧ JOn w' base g jb (Dk.stop d n) rs k part ∧ (Dk.stop d n).down = d.down ∧ Chg (FpD base g d w) w w' := by
  obtain ⟨⟨hb, vd, vn, vw, hD⟩, hlow, hJ, hc⟩ := h
  refine (stop_upd n hD hn).mono ?_
  rintro e w' ⟨rfl, hU⟩
  obtain ⟨vd', vn', vw', hD', hch, _⟩ := hU
  obtain ⟨hc', hdn⟩ := Dk.core_stop hc n hn
  exact ⟨rfl, ⟨⟨Nat.le_trans hb hch.size, vd', vn', vw', hD'⟩, hlow, hch.blk hJ (JBlk.apart hJ hD), hc'⟩, hdn, hch.mono (fun i _ hi => ⟨vd, vn, vw, hD, hi⟩)⟩
/-- Stop of a disk behind a crash. -/
theorem stop_clean {base g : Nat} {w : World} {d : Dk.D} {rs : List (List UInt8)} (h : DOn w base g d) (hc : Dk.Clean d rs) (n : Int) (hn : n ≤ 9223372036854775807) :
    Calls Try.prog 23 #[.pointer (some ⟨g, 0, none⟩), .int .i64 n] w fun e w' => e = .returned (.int .i64 (Dk.stopErr d n)) ∧ DOn w' base g (Dk.stop d n) ∧ Dk.Clean (Dk.stop d n) rs ∧ Chg (FpD base g d w) w w' := by
  obtain ⟨hb, vd, vn, vw, hD⟩ := h
  refine (stop_upd n hD hn).mono ?_
  rintro e w' ⟨rfl, hU⟩
  obtain ⟨vd', vn', vw', hD', hch, _⟩ := hU
  exact ⟨rfl, ⟨Nat.le_trans hb hch.size, vd', vn', vw', hD'⟩, hc.stop n hn, hch.mono (fun i _ hi => ⟨vd, vn, vw, hD, hi⟩)⟩

/-- Open of a disk behind a crash. -/
theorem open_any {base g : Nat} {w : World} {d : Dk.D} {rs : List (List UInt8)} (h : DOn w base g d) (hc : Dk.Clean d rs) :
    Calls Try.prog 18 #[.pointer (some ⟨g, 0, none⟩)] w fun e w' => ∃ d', Chg (FpD base g d w) w w' ∧ d'.now.length = d.now.length ∧
      ((∃ jb vl, e = .returned (.tuple #[.pointer (some ⟨jb, 0, none⟩), vl, .int .i64 0]) ∧ w.heap.size ≤ jb ∧ JOn w' base g jb d' rs rs.length [] ∧ d'.down = false ∧ d'.armed = d.armed ∧ w'.ownsRow base 9 1 vl rs.length (svs rs)) ∨
       (d.armed = true ∧ e = .returned (.tuple #[.pointer none, .slice none 0 0, .int .i64 70]) ∧ d'.down = true ∧ DOn w' base g d' ∧ ∀ keep, Dk.Clean (Dk.crash d' keep) rs)) := by
  obtain ⟨hb, vd, vn, vw, hD⟩ := h
  refine (open_calls hD (by rw [hc.wr]; simp)).mono ?_
  intro e w' hO
  obtain ⟨hf, hcl⟩ := hc.open_
  rcases hO with ⟨hdn, _⟩ | ⟨_, hU, hO⟩
  · rw [hc.down] at hdn; cases hdn
  · obtain ⟨vd', vn', vw', hD', hch, _⟩ := hU
    refine ⟨(Dk.cleared d).1, hch.mono (fun i _ hi => ⟨vd, vn, vw, hD, hi⟩), by unfold Dk.cleared; rw [Dk.clr_len], ?_⟩
    rcases hcl with hcl | ⟨ha, he, hdn, hk⟩
    · left
      rcases hO with ⟨hne, _⟩ | ⟨_, jb, vl, rfl, hjl, hJ, hown⟩
      · exact absurd hcl.1 hne
      · rw [hf] at hJ hown
        exact ⟨jb, vl, rfl, hjl, ⟨⟨Nat.le_trans hb hch.size, vd', vn', vw', hD'⟩, Nat.le_trans hb hjl, hJ, hcl.2.2.2⟩, hcl.2.1, hcl.2.2.1, own_weaken hown hb⟩
    · right
      rcases hO with ⟨_, rfl⟩ | ⟨hz, _⟩
      · rw [he]
        exact ⟨ha, rfl, hdn, ⟨Nat.le_trans hb hch.size, vd', vn', vw', hD'⟩, hk⟩
      · rw [he] at hz; cases hz
/-- Open of a disk with a journal on it, the disk being up. -/
theorem open_live {base g jb : Nat} {w : World} {d : Dk.D} {rs : List (List UInt8)} {k : Nat} (h : JOn w base g jb d rs k []) (hd : d.down = false) :
    Calls Try.prog 18 #[.pointer (some ⟨g, 0, none⟩)] w fun e w' => ∃ d', Chg (FpD base g d w) w w' ∧ d'.now.length = d.now.length ∧
      ((∃ jb' vl, e = .returned (.tuple #[.pointer (some ⟨jb', 0, none⟩), vl, .int .i64 0]) ∧ w.heap.size ≤ jb' ∧ JOn w' base g jb' d' rs rs.length [] ∧ d'.down = false ∧ d'.armed = d.armed ∧ w'.ownsRow base 9 1 vl rs.length (svs rs)) ∨
       (d.armed = true ∧ e = .returned (.tuple #[.pointer none, .slice none 0 0, .int .i64 70]) ∧ d'.down = true ∧ JOn w' base g jb d' rs k [])) := by
  obtain ⟨⟨hb, vd, vn, vw, hD⟩, hlow, hJ0, hc⟩ := h
  refine (open_calls hD (by have := hc.wr_le; omega)).mono ?_
  intro e w' hO
  obtain ⟨hf, hcl⟩ := hc.open_ hd
  rcases hO with ⟨hdn, _⟩ | ⟨_, hU, hO⟩
  · rw [hd] at hdn; cases hdn
  · obtain ⟨vd', vn', vw', hD', hch, _⟩ := hU
    refine ⟨(Dk.cleared d).1, hch.mono (fun i _ hi => ⟨vd, vn, vw, hD, hi⟩), by unfold Dk.cleared; rw [Dk.clr_len], ?_⟩
    rcases hcl with hcl | ⟨ha, he, hdn, hk⟩
    · left
      rcases hO with ⟨hne, _⟩ | ⟨_, jb, vl, rfl, hjl, hJ, hown⟩
      · exact absurd hcl.1 hne
      · rw [hf] at hJ hown
        exact ⟨jb, vl, rfl, hjl, ⟨⟨Nat.le_trans hb hch.size, vd', vn', vw', hD'⟩, Nat.le_trans hb hjl, hJ, hcl.2.2.2⟩, hcl.2.1, hcl.2.2.1, own_weaken hown hb⟩
    · right
      rcases hO with ⟨_, rfl⟩ | ⟨hz, _⟩
      · rw [he]
        exact ⟨ha, rfl, hdn, ⟨Nat.le_trans hb hch.size, vd', vn', vw', hD'⟩, hlow, hch.blk hJ0 (JBlk.apart hJ0 hD), hk⟩
      · rw [he] at hz; cases hz

end Go.Proofs.Ytdnjelggdjimhaa
