/-
  The journal in memory and what it holds: Open, Append, Sync, Crash as the laws use them.
-/
import Derived.Test.YtdnjelggdjimhaaJl1
namespace Go.Proofs.Ytdnjelggdjimhaa
open Go.RowKit

namespace Dk
theorem flush_now (d : D) : (flush d).now = d.now := by
  unfold flush
  split
  · rfl
  · split
    · simp only [flushed]; exact spent_now d
    · exact spent_now d
theorem clr_len : ∀ (f i : Nat) (d : D), (clr d i f).1.now.length = d.now.length
  | 0, i, d => by unfold clr; rw [flush_now]
  | f + 1, i, d => by
    unfold clr
    split
    · exact clr_len f (i + 1) d
    · split
      · rw [clr_len f (i + 1), write_len]
      · rw [write_len]
theorem app_len (e : Nat) (s : List UInt8) : ∀ (f i : Nat) (d : D), (appGo d e s f i).1.now.length = d.now.length
  | 0, i, d => rfl
  | f + 1, i, d => by
    unfold appGo
    split
    · rw [app_len e s f (i + 1), write_len]
    · rw [write_len]
theorem Core.wr_le {d : D} {rs : List (List UInt8)} {k : Nat} {part : List Sec} (h : Core d rs k part) : d.wr.length ≤ 65536 := by
  have hl : ∀ (P : List Sec) (a : Nat), (placed a P).length = P.length := by
    intro P
    induction P with
    | nil => intro a; rfl
    | cons x P ih => intro a; simp [placed, ih]
  have h1 := h.room
  have h2 := h.ok.many
  have h3 := h.ok.same
  have he : (encs rs).length = (encs (rs.take k)).length + (encs (rs.drop k)).length := by rw [← encs_split rs k, List.length_append]
  rw [h.wr, hl, List.length_append]
  rw [List.length_append] at h1
  omega
end Dk

/-- A disk in memory. -/
def DOn (w : World) (base g : Nat) (d : Dk.D) : Prop := base ≤ w.heap.size ∧ ∃ vd vn vw, DiskAt w base g d vd vn vw
/-- A journal in memory, on its disk. -/
structure JOn (w : World) (base g jb : Nat) (d : Dk.D) (rs : List (List UInt8)) (k : Nat) (part : List Dk.Sec) : Prop where
  disk : DOn w base g d
  low : base ≤ jb
  jb : JBlk w jb g ((Dk.encs rs).length : Int) (rs.length : Int)
  core : Dk.Core d rs k part

/-- Open of a disk behind a crash, the power being sure. -/
theorem open_clean {base g : Nat} {w : World} {d : Dk.D} {rs : List (List UInt8)} (h : DOn w base g d) (hc : Dk.Clean d rs) (ha : d.armed = false) :
    Calls Try.prog 18 #[.pointer (some ⟨g, 0, none⟩)] w fun e w' => ∃ jb vl d', e = .returned (.tuple #[.pointer (some ⟨jb, 0, none⟩), vl, .int .i64 0]) ∧ JOn w' base g jb d' rs rs.length [] ∧ d'.down = false ∧ d'.armed = false ∧ d'.now.length = d.now.length ∧
      w'.ownsRow base 9 1 vl rs.length (svs rs) ∧ Below base w w' ∧ Chg (fun i => ∃ vd vn vw, DiskAt w base g d vd vn vw ∧ fpD g vd vn vw i) w w' := by
  obtain ⟨hb, vd, vn, vw, hD⟩ := h
  refine (open_calls hD (by rw [hc.wr]; simp)).mono ?_
  intro e w' hO
  obtain ⟨hf, hcl⟩ := hc.open_
  have hcl := hcl.resolve_right (fun h => by rw [ha] at h; exact absurd h.1 (by decide))
  rcases hO with ⟨hdn, _⟩ | ⟨_, hU, hO⟩
  · rw [hc.down] at hdn; cases hdn
  · rcases hO with ⟨hne, _⟩ | ⟨_, jb, vl, rfl, hjl, hJ, hown⟩
    · exact absurd hcl.1 hne
    · rw [hf] at hJ hown
      have hbe := hU.below hD hb
      obtain ⟨vd', vn', vw', hD', hch, _⟩ := hU
      exact ⟨jb, vl, (Dk.cleared d).1, rfl, ⟨⟨Nat.le_trans hb hbe.size, vd', vn', vw', hD'⟩, Nat.le_trans hb hjl, hJ, hcl.2.2.2⟩, hcl.2.1, by rw [hcl.2.2.1]; exact ha, by unfold Dk.cleared; rw [Dk.clr_len], own_weaken hown hb, hbe, hch.mono (fun i _ hi => ⟨vd, vn, vw, hD, hi⟩)⟩

/-- Append of a journal that is up and sure, where there is room. -/
theorem append_sure {base g jb : Nat} {w : World} {d : Dk.D} {rs : List (List UInt8)} {k : Nat} (h : JOn w base g jb d rs k []) (hd : d.down = false) (ha : d.armed = false) (s : List UInt8) (hs : s.length ≤ 60000) (hr : (Dk.encs rs).length + Dk.manyOf s.length ≤ d.now.length) :
    Calls Try.prog 19 #[.pointer (some ⟨jb, 0, none⟩), .string (bs s)] w fun e w' => e = .returned (.int .i64 0) ∧ ∃ d', JOn w' base g jb d' (rs ++ [s]) k [] ∧ d'.down = false ∧ d'.armed = false ∧ d'.now.length = d.now.length ∧
      Chg (fun i => i = jb ∨ ∃ vd vn vw, DiskAt w base g d vd vn vw ∧ fpD g vd vn vw i) w w' := by
  obtain ⟨⟨hb, vd, vn, vw, hD⟩, hlow, hJ, hc⟩ := h
  have hn := hD.ok.many.2
  have hle := Dk.length_encs rs
  refine (append_calls (e := (Dk.encs rs).length) (r := rs.length) s (by omega) hJ hD (by have := hc.wr_le; omega) (by omega) (by omega)).mono ?_
  intro e w' hA
  have hap := (hc.append hd s hs hr).resolve_right (fun h => by rw [ha] at h; exact absurd h.1 (by decide))
  rcases hA with ⟨h1, _⟩ | ⟨_, h1, _⟩ | ⟨_, _, h1, _⟩ | ⟨_, _, _, rfl, hU, hJ'⟩
  · omega
  · rw [hd] at h1; cases h1
  · omega
  · rw [hap.1]
    obtain ⟨vd', vn', vw', hD', hch, _⟩ := hU
    refine ⟨rfl, _, ⟨⟨Nat.le_trans hb hch.size, vd', vn', vw', hD'⟩, hlow, ?_, hap.2.2.2⟩, hap.2.1, by rw [hap.2.2.1]; exact ha, Dk.app_len _ _ _ _ _, hch.mono (fun i _ hi => hi.imp id (fun h => ⟨vd, vn, vw, hD, h⟩))⟩
    rcases hJ' with ⟨_, hJ'⟩ | ⟨hne, _⟩
    · rw [Dk.encs_append, Dk.encs_one, List.length_append, Dk.length_encR]
      simpa using hJ'
    · exact absurd hap.1 hne

/-- Sync of a journal that is up and sure. -/
theorem sync_sure {base g jb : Nat} {w : World} {d : Dk.D} {rs : List (List UInt8)} {k : Nat} (h : JOn w base g jb d rs k []) (hd : d.down = false) (ha : d.armed = false) :
    Calls Try.prog 20 #[.pointer (some ⟨jb, 0, none⟩)] w fun e w' => e = .returned (.int .i64 0) ∧ ∃ d', JOn w' base g jb d' rs rs.length [] ∧ d'.down = false ∧ d'.armed = false ∧ d'.now.length = d.now.length ∧
      Chg (fun i => i = jb ∨ ∃ vd vn vw, DiskAt w base g d vd vn vw ∧ fpD g vd vn vw i) w w' := by
  obtain ⟨⟨hb, vd, vn, vw, hD⟩, hlow, hJ, hc⟩ := h
  refine (sync_calls hJ hD).mono ?_
  rintro e w' ⟨rfl, hU, hJ'⟩
  have hs := (hc.sync hd).resolve_right (fun h => by rw [ha] at h; exact absurd h.1 (by decide))
  rw [hs.1]
  obtain ⟨vd', vn', vw', hD', hch, _⟩ := hU
  exact ⟨rfl, _, ⟨⟨Nat.le_trans hb hch.size, vd', vn', vw', hD'⟩, hlow, hJ', hs.2.2.2⟩, hs.2.1, by rw [hs.2.2.1]; exact ha, by rw [Dk.flush_now], hch.mono (fun i _ hi => .inr ⟨vd, vn, vw, hD, hi⟩)⟩

/-- Crash of a journal's disk. -/
theorem crash_on {base g : Nat} {w : World} {d : Dk.D} (A : Option Addr) (n c : Nat) (keep : List Int) (h : DOn w base g d) (hn : n = keep.length) (hk : ∀ v : Value, (∀ k, v.ownBlock = some k → base ≤ k) → KeepAt w v A keep) :
    Calls Try.prog 12 #[.pointer (some ⟨g, 0, none⟩), .slice A n c] w fun e w' => e = .returned (.tuple #[]) ∧ DOn w' base g (Dk.crash d keep) ∧
      Chg (fun i => ∃ vd vn vw, DiskAt w base g d vd vn vw ∧ fpD g vd vn vw i) w w' := by
  obtain ⟨hb, vd, vn, vw, hD⟩ := h
  refine (crash_upd A n c keep hD hn (hk vd (fun k hk => (hD.dur.lt k hk).1))).mono ?_
  rintro e w' ⟨rfl, hU⟩
  obtain ⟨vd', vn', vw', hD', hch, _⟩ := hU
  exact ⟨rfl, ⟨Nat.le_trans hb hch.size, vd', vn', vw', hD'⟩, hch.mono (fun i _ hi => ⟨vd, vn, vw, hD, hi⟩)⟩
/-- A row of strings is none of a disk's. -/
theorem str_apart {w : World} {base base' g n : Nat} {d : Dk.D} {vd vn vw v : Value} {xs : List Value} (h : w.ownsRow base' 9 1 v n xs) (hD : DiskAt w base g d vd vn vw) : ∀ k, v.ownBlock = some k → ¬ fpD g vd vn vw k := by
  rintro k hk (e | e | e | e)
  · exact own_ne_blk h hD.blk (by decide) k hk e
  · exact own_ne_own h hD.dur (by decide) k k hk e rfl
  · exact own_ne_own h hD.now (by decide) k k hk e rfl
  · exact own_ne_own h hD.wr (by decide) k k hk e rfl
theorem str_keep {w w' : World} {base base' g n : Nat} {d : Dk.D} {v : Value} {xs : List Value} (h : w.ownsRow base' 9 1 v n xs) (hc : Chg (fun i => ∃ vd vn vw, DiskAt w base g d vd vn vw ∧ fpD g vd vn vw i) w w') : w'.ownsRow base' 9 1 v n xs :=
  hc.own h (fun k hk => fun ⟨_, _, _, hD, hf⟩ => str_apart h hD k hk hf)
theorem str_keepJ {w w' : World} {base base' g jb n : Nat} {d : Dk.D} {v : Value} {xs : List Value} {e r : Int} (h : w.ownsRow base' 9 1 v n xs) (hJ : JBlk w jb g e r) (hc : Chg (fun i => i = jb ∨ ∃ vd vn vw, DiskAt w base g d vd vn vw ∧ fpD g vd vn vw i) w w') : w'.ownsRow base' 9 1 v n xs := by
  refine hc.own h (fun k hk => ?_)
  rintro (hf | ⟨_, _, _, hD, hf⟩)
  · exact own_ne_blk h hJ (by decide) k hk hf
  · exact str_apart h hD k hk hf

/-- What a disk's step changes lies at or beyond its base. -/
theorem chg_below {base g jb : Nat} {w w' : World} {d : Dk.D} (hb : base ≤ w.heap.size) (hj : base ≤ jb) (h : Chg (fun i => i = jb ∨ ∃ vd vn vw, DiskAt w base g d vd vn vw ∧ fpD g vd vn vw i) w w') : Below base w w' := by
  refine h.below (fun i hi => ?_) hb
  rcases hi with rfl | ⟨vd, vn, vw, hD, hi⟩
  · exact hj
  · exact hD.high i hi
theorem chg_below' {base g : Nat} {w w' : World} {d : Dk.D} (hb : base ≤ w.heap.size) (h : Chg (fun i => ∃ vd vn vw, DiskAt w base g d vd vn vw ∧ fpD g vd vn vw i) w w') : Below base w w' := by
  refine h.below (fun i hi => ?_) hb
  obtain ⟨vd, vn, vw, hD, hi⟩ := hi
  exact hD.high i hi

set_option maxRecDepth 100000 in
set_option maxHeartbeats 1000000 in
theorem journals_calls (w : World) : Calls Try.prog 21 #[] w fun e w' => e = .returned (.bool true) ∧ Below w.heap.size w w' := by
  go_enter Try.func21, Try.ntmps21
  go_wp2_with fail
  refine (new_yes 32 _ (by omega) (by omega)).mono ?_
  rintro e w1 ⟨g, vd, vn, vw, rfl, hD, hB⟩
  have H1 := Lib.hid (And.intro (show DOn w1 w.heap.size g (Dk.new 32) from ⟨hB.size, vd, vn, vw, hD⟩) hB)
  clear hD hB
  go_wp2_with fail
  refine (open_clean H1.out.1 (Dk.new_clean 32 (by omega) (by omega)) rfl).mono ?_
  rintro e w2 ⟨jb, vl, d2, rfl, hJ2, hd2, ha2, hl2, ho2, hB2, _⟩
  obtain ⟨A, c, rfl, _⟩ := own_texts ho2 rfl
  have hn2 : 32 ≤ d2.now.length := by rw [hl2]; decide
  have H2 := Lib.hid (And.intro hJ2 (And.intro hd2 (And.intro ha2 (And.intro hn2 (H1.out.2.trans hB2)))))
  clear hJ2 hd2 ha2 hl2 ho2 hB2 hn2
  go_wp2_with fail
  have hroom : (Dk.encs []).length + Dk.manyOf ([111, 110, 101] : List UInt8).length ≤ d2.now.length := by
    have h1 := H2.out.2.2.2.1
    have h2 : Dk.manyOf ([111, 110, 101] : List UInt8).length = 1 := by decide
    have h3 : (Dk.encs []).length = 0 := rfl
    omega
  refine (append_sure H2.out.1 H2.out.2.1 H2.out.2.2.1 [111, 110, 101] (by decide) hroom).mono ?_
  rintro e w3 ⟨rfl, d3, hJ3, hd3, ha3, hl3, hc3⟩
  have H3 := Lib.hid (And.intro hJ3 (And.intro hd3 (And.intro ha3 (H2.out.2.2.2.2.trans (chg_below H2.out.1.disk.1 H2.out.1.low hc3)))))
  clear hJ3 hd3 ha3 hl3 hc3
  go_wp2_with fail
  refine (sync_sure H3.out.1 H3.out.2.1 H3.out.2.2.1).mono ?_
  rintro e w4 ⟨rfl, d4, hJ4, hd4, ha4, hl4, hc4⟩
  have H4 := Lib.hid (And.intro hJ4 (And.intro hd4 (And.intro ha4 (H3.out.2.2.2.trans (chg_below H3.out.1.disk.1 H3.out.1.low hc4)))))
  clear hJ4 hd4 ha4 hl4 hc4
  go_wp2_with fail
  refine (crash_on none 0 0 [] H4.out.1.disk rfl (fun v _ => .inl rfl)).mono ?_
  rintro e w5 ⟨rfl, hD5, hc5⟩
  obtain ⟨m, hm1, hm2, hcl⟩ := Dk.Core.crash H4.out.1.core (.inl rfl) []
  have hmm : ([] ++ [[111, 110, 101]] : List (List UInt8)).take m = [[111, 110, 101]] := by rw [List.take_of_length_le hm1]; rfl
  rw [hmm] at hcl
  have H5 := Lib.hid (And.intro hD5 (And.intro hcl (H4.out.2.2.2.trans (chg_below' H4.out.1.disk.1 hc5))))
  clear hD5 hc5 hm1 hm2 hcl hmm
  go_wp2_with fail
  refine (open_clean H5.out.1 H5.out.2.1 rfl).mono ?_
  rintro e w6 ⟨jb2, vl2, d6, rfl, hJ6, hd6, ha6, hl6, ho6, hB6, _⟩
  obtain ⟨g2, c2, rfl, _⟩ := own_form ho6 (by decide)
  have hcell : w6.cell? ⟨g2, 0, none⟩ = some (.string ⟨#[111, 110, 101]⟩) := own_range ho6 0 [.string ⟨#[111, 110, 101]⟩] (fun j v hv => by
    match j, hv with
    | 0, hv => simp at hv; subst hv; rfl) 0 _ rfl
  have H6 := Lib.hid (And.intro hJ6 (H5.out.2.2.trans hB6))
  clear hJ6 hd6 ha6 hl6 ho6 hB6
  go_wp2_with fail
  refine (len_calls H6.out.1.jb).mono ?_
  rintro e w7 ⟨rfl, rfl⟩
  go_wp2
  go_ret
  exact ⟨rfl, H6.out.2⟩

end Go.Proofs.Ytdnjelggdjimhaa
