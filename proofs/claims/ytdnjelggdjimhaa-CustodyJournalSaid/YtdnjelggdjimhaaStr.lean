/-
  Bytes and strings: what a conversion leaves.
-/
import Derived.Test.YtdnjelggdjimhaaWk4
import Derived.Lib.SlBytesConst
import Derived.Laws.BytesArg
namespace Go.Proofs.Ytdnjelggdjimhaa
open Go.RowKit

theorem fold_bytes (l : List UInt8) : (l.map fun b => (b.toNat : Int)).foldl (fun (r : ByteArray) n => r.push (UInt8.ofNat n.toNat)) ByteArray.empty = ⟨l.toArray⟩ := by
  rw [foldl_push_bytes]
  show (⟨#[] ++ _⟩ : ByteArray) = _
  rw [Array.empty_append, List.map_map]
  congr 2
  conv => rhs; rw [← List.map_id l]
  refine List.map_congr_left (fun b _ => ?_)
  simp
theorem run_str_of {w : World} (l : List UInt8) (a : Addr) (c : Nat) (h : ∀ j v, (bvs l)[j]? = some v → w.cell? (a.add j) = some v) :
    (convert 22 9 (.slice (some a) l.length c)).run Try.prog w = .ok (.string ⟨l.toArray⟩) w := by
  rw [run_convert_bytes_string w 22 9 5 _ _ _ Try.underlying22 Try.underlying5 Try.underlying9]
  have e : bvs l = (l.map fun b => (b.toNat : Int)).map (Value.int .u8) := by simp [bvs, bv]
  have hl := run_loadCells_list (P := Try.prog) w a (bvs l) h
  rw [length_bvs] at hl
  rw [run_bytesToString w a l.length c (l.map fun b => (b.toNat : Int)) (by rw [hl, e]), fold_bytes]

/-- The cells of a block that has just been laid. -/
theorem src_new (w : World) (t : TypeId) (l : List Value) (fr : Nat × Nat) : SrcAt (w.alloc (.cells l.toArray t fr)) (some ⟨w.heap.size, 0, none⟩) l :=
  .inr ⟨_, rfl, fun j v hv => by
    rw [Addr.add_mid, Nat.zero_add, cell_of_row _ _ _ _ _ _ (heap_alloc_new w (.cells l.toArray t fr))]
    simpa using hv⟩

theorem DiskAt.keep {w w' : World} {base g : Nat} {d : Dk.D} {vd vn vw : Value} {fp : Nat → Prop} (h : DiskAt w base g d vd vn vw) (hc : Chg fp w w') (hn : ∀ k, fpD g vd vn vw k → ¬ fp k) : DiskAt w' base g d vd vn vw :=
  ⟨hc.blk h.blk (hn g (.inl rfl)), h.low, hc.own h.dur (fun k hk => hn k (.inr (.inl hk))), hc.own h.now (fun k hk => hn k (.inr (.inr (.inl hk)))), hc.own h.wr (fun k hk => hn k (.inr (.inr (.inr hk)))), h.two, h.ok⟩
theorem DiskAt.new_ {w w' : World} {base g : Nat} {d : Dk.D} {vd vn vw : Value} (h : DiskAt w base g d vd vn vw) (hc : Chg (fun _ => False) w w') : DiskAt w' base g d vd vn vw := h.keep hc (fun _ _ h => h)
/-- The blocks of a disk lie at or beyond its base. -/
theorem DiskAt.high {w : World} {base g : Nat} {d : Dk.D} {vd vn vw : Value} (h : DiskAt w base g d vd vn vw) : ∀ k, fpD g vd vn vw k → base ≤ k := by
  rintro k (rfl | hk | hk | hk)
  · exact h.low
  · exact (h.dur.lt k hk).1
  · exact (h.now.lt k hk).1
  · exact (h.wr.lt k hk).1
theorem DiskAt.lt {w : World} {base g : Nat} {d : Dk.D} {vd vn vw : Value} (h : DiskAt w base g d vd vn vw) : ∀ k, fpD g vd vn vw k → k < w.heap.size := by
  rintro k (rfl | hk | hk | hk)
  · exact h.blk.lt
  · exact (h.dur.lt k hk).2
  · exact (h.now.lt k hk).2
  · exact (h.wr.lt k hk).2

/-- A disk at block g, wherever its rows lie: what a call of one of its functions leaves. -/
def DiskIn (w : World) (base g : Nat) (d : Dk.D) : Prop := ∃ vd vn vw, DiskAt w base g d vd vn vw
def fpDisk (w : World) (base g : Nat) (d : Dk.D) (k : Nat) : Prop := ∃ vd vn vw, DiskAt w base g d vd vn vw ∧ fpD g vd vn vw k


/-- A step of a disk: its blocks, and new ones, may have changed. -/
def Upd (base g : Nat) (vd vn vw : Value) (w : World) (d' : Dk.D) (w' : World) : Prop :=
  ∃ vd' vn' vw', DiskAt w' base g d' vd' vn' vw' ∧ Chg (fpD g vd vn vw) w w' ∧ ∀ k, fpD g vd' vn' vw' k → fpD g vd vn vw k ∨ w.heap.size ≤ k

theorem write_upd {g base : Nat} {w : World} {d : Dk.D} {vd vn vw : Value} (at_ : Int) (A : Option Addr) (n c : Nat) (bs : List UInt8) (h : DiskAt w base g d vd vn vw) (hn : n = bs.length)
    (hs : SrcAt w A (bvs bs)) (hne : bs ≠ [] → ∀ ad, A = some ad → ad.block ≠ g) (HROOM : d.wr.length + 1 ≤ maxLen ∧ (d.wr.length + 1) * 72 ≤ 140737488355328) :
    Calls Try.prog 10 #[.pointer (some ⟨g, 0, none⟩), .int .i64 at_, .slice A n c] w fun e w' => e = .returned (.int .i64 (Dk.writeErr d at_ bs.length)) ∧ Upd base g vd vn vw w (Dk.write d at_ bs) w' := by
  refine (write_any g base w d vd vn vw at_ A n c bs h hn hs hne HROOM).mono ?_
  rintro e w' ⟨rfl, vw', h1, h2, h3⟩
  refine ⟨rfl, vd, vn, vw', h1, h2.mono ?_, ?_⟩
  · rintro i _ (rfl | hi | hi)
    · exact .inl rfl
    · exact .inr (.inr (.inl hi))
    · exact .inr (.inr (.inr hi))
  · rintro k (hk | hk | hk | hk)
    · exact .inl (.inl hk)
    · exact .inl (.inr (.inl hk))
    · exact .inl (.inr (.inr (.inl hk)))
    · rcases h3 with h3 | ⟨q, h3, hq⟩
      · exact .inl (.inr (.inr (.inr (by rw [← h3]; exact hk))))
      · rw [h3] at hk; cases hk; exact .inr hq
theorem flush_upd {g base : Nat} {w : World} {d : Dk.D} {vd vn vw : Value} (h : DiskAt w base g d vd vn vw) :
    Calls Try.prog 11 #[.pointer (some ⟨g, 0, none⟩)] w fun e w' => e = .returned (.int .i64 (Dk.flushErr d)) ∧ Upd base g vd vn vw w (Dk.flush d) w' := by
  refine (flush_any g base w d vd vn vw h).mono ?_
  rintro e w' ⟨rfl, vw', h1, h2, h3⟩
  refine ⟨rfl, vd, vn, vw', h1, h2.mono ?_, ?_⟩
  · rintro i _ (rfl | hi)
    · exact .inl rfl
    · exact .inr (.inl hi)
  · rintro k (hk | hk | hk | hk)
    · exact .inl (.inl hk)
    · exact .inl (.inr (.inl hk))
    · exact .inl (.inr (.inr (.inl hk)))
    · rcases h3 with rfl | rfl
      · exact .inl (.inr (.inr (.inr hk)))
      · simp [Value.ownBlock] at hk
theorem stop_upd {g base : Nat} {w : World} {d : Dk.D} {vd vn vw : Value} (calls : Int) (h : DiskAt w base g d vd vn vw) (hc : calls ≤ 9223372036854775807) :
    Calls Try.prog 23 #[.pointer (some ⟨g, 0, none⟩), .int .i64 calls] w fun e w' => e = .returned (.int .i64 (Dk.stopErr d calls)) ∧ Upd base g vd vn vw w (Dk.stop d calls) w' := by
  refine (stop_any g base w d vd vn vw calls h hc).mono ?_
  rintro e w' ⟨rfl, h1, h2⟩
  exact ⟨rfl, vd, vn, vw, h1, h2.mono (fun i _ hi => .inl hi), fun k hk => .inl hk⟩
theorem crash_upd {g base : Nat} {w : World} {d : Dk.D} {vd vn vw : Value} (A : Option Addr) (n c : Nat) (keep : List Int) (h : DiskAt w base g d vd vn vw) (hn : n = keep.length) (hk : KeepAt w vd A keep) :
    Calls Try.prog 12 #[.pointer (some ⟨g, 0, none⟩), .slice A n c] w fun e w' => e = .returned (.tuple #[]) ∧ Upd base g vd vn vw w (Dk.crash d keep) w' := by
  refine (crash_any g base w d vd vn vw A n c keep h hn hk).mono ?_
  rintro e w' ⟨rfl, vn', q, hq, hq', h1, h2⟩
  refine ⟨rfl, vd, vn', _, h1, h2.mono ?_, ?_⟩
  · rintro i _ (rfl | hi)
    · exact .inl rfl
    · exact .inr (.inl hi)
  · rintro k (hk | hk | hk | hk)
    · exact .inl (.inl hk)
    · exact .inl (.inr (.inl hk))
    · rw [hq] at hk; cases hk; exact .inr hq'
    · simp [Value.ownBlock] at hk
theorem Upd.below {base g : Nat} {vd vn vw : Value} {w w' : World} {d d' : Dk.D} (hu : Upd base g vd vn vw w d' w') (h : DiskAt w base g d vd vn vw) (hb : base ≤ w.heap.size) : Below base w w' := by
  obtain ⟨_, _, _, _, hc, _⟩ := hu
  exact hc.below h.high hb

end Go.Proofs.Ytdnjelggdjimhaa
