/-
  A disk and its model, side by side: what a step of one leaves of the other.
-/
import Derived.Test.YtdnjelggdjimhaaMd4
import Derived.Test.YtdnjelggdjimhaaTn
namespace Go.Proofs.Ytdnjelggdjimhaa
open Go.RowKit

theorem run_str_at {w : World} {A : Option Addr} {n c : Nat} {l : List UInt8} (hn : n = l.length) (h : SrcAt w A (bvs l)) : (convert 22 9 (.slice A n c)).run Try.prog w = .ok (.string (bs l)) w := by
  subst hn
  cases A with
  | none =>
    have hl : l = [] := by
      rcases h with h | ⟨ad, h, _⟩
      · exact List.map_eq_nil_iff.1 h
      · cases h
    subst hl
    exact run_convert_bytes_nil w 22 5 Try.underlying22 Try.underlying5 _ _ 9 Try.underlying9
  | some a =>
    refine run_str_of l a c (fun j v hv => ?_)
    rcases h with h | ⟨ad, h, hc⟩
    · rw [h] at hv; cases hv
    · cases h; exact hc j v hv

theorem ModelAt.keep {w w' : World} {base m : Nat} {d : Dk.D} {vd vp : Value} {fp : Nat → Prop} (h : ModelAt w base m d vd vp) (hc : Chg fp w w') (hn : ∀ k, fpM m vd vp k → ¬ fp k) : ModelAt w' base m d vd vp :=
  ⟨hc.blk h.blk (hn m (.inl rfl)), h.low, hc.own h.dur (fun k hk => hn k (.inr (.inl hk))), hc.own h.wr (fun k hk => hn k (.inr (.inr hk))), h.ok⟩
theorem ModelAt.high {w : World} {base m : Nat} {d : Dk.D} {vd vp : Value} (h : ModelAt w base m d vd vp) : ∀ k, fpM m vd vp k → base ≤ k := by
  rintro k (rfl | hk | hk)
  · exact h.low
  · exact (h.dur.lt k hk).1
  · exact (h.wr.lt k hk).1
theorem ModelAt.lt {w : World} {base m : Nat} {d : Dk.D} {vd vp : Value} (h : ModelAt w base m d vd vp) : ∀ k, fpM m vd vp k → k < w.heap.size := by
  rintro k (rfl | hk | hk)
  · exact h.blk.lt
  · exact (h.dur.lt k hk).2
  · exact (h.wr.lt k hk).2

/-- A disk's blocks are none of a model's. -/
theorem fp_apart {w : World} {base base' g m : Nat} {d d' : Dk.D} {vd vn vw vd' vp : Value} (h : DiskAt w base g d vd vn vw) (h' : ModelAt w base' m d' vd' vp) : ∀ k, fpD g vd vn vw k → ¬ fpM m vd' vp k := by
  rintro k (rfl | hk | hk | hk) (h1 | h1 | h1)
  · exact Blk.apart h.blk h'.blk (by decide) h1
  · exact own_ne_blk h'.dur h.blk (by decide) k h1 rfl
  · exact own_ne_blk h'.wr h.blk (by decide) k h1 rfl
  · exact own_ne_blk h.dur h'.blk (by decide) k hk h1
  · exact own_ne_own h.dur h'.dur (by decide) k k hk h1 rfl
  · exact own_ne_own h.dur h'.wr (by decide) k k hk h1 rfl
  · exact own_ne_blk h.now h'.blk (by decide) k hk h1
  · exact own_ne_own h.now h'.dur (by decide) k k hk h1 rfl
  · exact own_ne_own h.now h'.wr (by decide) k k hk h1 rfl
  · exact own_ne_blk h.wr h'.blk (by decide) k hk h1
  · exact own_ne_own h.wr h'.dur (by decide) k k hk h1 rfl
  · exact own_ne_own h.wr h'.wr (by decide) k k hk h1 rfl

/-- A disk and its model. -/
def Both (w : World) (base g m : Nat) (d : Dk.D) : Prop := base ≤ w.heap.size ∧ ∃ vd vn vw vd' vp, DiskAt w base g d vd vn vw ∧ ModelAt w base m d vd' vp
theorem Both.new_ {w w' : World} {base g m : Nat} {d : Dk.D} (h : Both w base g m d) (hc : Chg (fun _ => False) w w') : Both w' base g m d := by
  obtain ⟨hb, vd, vn, vw, vd', vp, h1, h2⟩ := h
  exact ⟨Nat.le_trans hb hc.size, vd, vn, vw, vd', vp, h1.new_ hc, h2.keep hc (fun _ _ h => h)⟩

/-- The step of the disk, then that of the model. -/
theorem Upd.model {base g m : Nat} {w w' : World} {d d' e : Dk.D} {vd vn vw vd2 vp : Value} (hu : Upd base g vd vn vw w d' w') (h : DiskAt w base g d vd vn vw) (h' : ModelAt w base m e vd2 vp) : ModelAt w' base m e vd2 vp := by
  obtain ⟨_, _, _, _, hc, _⟩ := hu
  exact h'.keep hc (fun k hk hd => fp_apart h h' k hd hk)
theorem UpdM.disk {base g m : Nat} {w w' : World} {d d' e : Dk.D} {vd vn vw vd2 vp : Value} (hu : UpdM base m vd2 vp w d' w') (h : DiskAt w base g d vd vn vw) (h' : ModelAt w base m e vd2 vp) : DiskAt w' base g d vd vn vw := by
  obtain ⟨_, _, _, hc, _⟩ := hu
  exact h.keep hc (fun k hk hm => fp_apart h h' k hk hm)
theorem UpdM.below {base m : Nat} {vd vp : Value} {w w' : World} {d d' : Dk.D} (hu : UpdM base m vd vp w d' w') (h : ModelAt w base m d vd vp) (hb : base ≤ w.heap.size) : Below base w w' := by
  obtain ⟨_, _, _, hc, _⟩ := hu
  exact hc.below h.high hb

namespace Dk
/-- An operation: what it does to a disk. -/
def stepD (d : D) (kd : Nat) (s : Int) (data : List UInt8) (n : Int) (keep : List Int) : D :=
  if kd % 5 = 0 then d else if kd % 5 = 1 then write d s data else if kd % 5 = 2 then flush d else if kd % 5 = 3 then stop d n else crash d keep
theorem write_wr (d : D) (s : Int) (l : List UInt8) : (write d s l).wr.length ≤ d.wr.length + 1 := by
  unfold write
  split
  · omega
  · split
    · omega
    · split
      · omega
      · split
        · simp [wrote, spent_wr]
        · rw [spent_wr]; omega
theorem flush_wr (d : D) : (flush d).wr.length ≤ d.wr.length := by
  unfold flush
  split
  · omega
  · split
    · simp [flushed]
    · rw [spent_wr]; omega
theorem stop_wr (d : D) (n : Int) : (stop d n).wr.length ≤ d.wr.length := by
  unfold stop
  split
  · omega
  · split
    · omega
    · exact Nat.le_refl _
theorem stepD_wr (d : D) (kd : Nat) (s : Int) (data : List UInt8) (n : Int) (keep : List Int) : (stepD d kd s data n keep).wr.length ≤ d.wr.length + 1 := by
  unfold stepD
  split
  · omega
  · split
    · exact write_wr _ _ _
    · split
      · have := flush_wr d; omega
      · split
        · have := stop_wr d n; omega
        · simp [crash]
end Dk

/-- A list of ints that came in. -/
def IntsAt (w : World) (A : Option Addr) (n : Nat) (l : List Int) : Prop := n = l.length ∧ (l = [] ∨ ∃ ad, A = some ad ∧ ad.block < w.heap.size ∧ ∀ j, j < l.length → w.cell? (ad.add j) = some (.int .i64 (l.getD j 0)))
theorem IntsAt.below {w w' : World} {A : Option Addr} {n : Nat} {l : List Int} (h : IntsAt w A n l) (hb : Below w.heap.size w w') : IntsAt w' A n l := by
  refine ⟨h.1, h.2.imp id ?_⟩
  rintro ⟨ad, hA, hl, hc⟩
  refine ⟨ad, hA, Nat.lt_of_lt_of_le hl hb.size, fun j hj => ?_⟩
  have := hc j hj
  have hbl : (ad.add j).block = ad.block := by unfold Addr.add; split <;> rfl
  rw [(Chg.of_below (fp := fun _ => False) hb).cell (by rw [hbl]; exact hl) (fun h => h)]
  exact this

/-- An operation of a script, as a value. -/
structure OpAt (w0 : World) (v : Value) (kd : Nat) (s : Int) (data : List UInt8) (n : Int) (keep : List Int) : Prop where
  val : ∃ A a c B b e, v = .agg #[.int .u8 (kd : Int), .int .i64 s, .slice A a c, .int .i64 n, .slice B b e] ∧ BytesAt w0 A a c data ∧ IntsAt w0 B b keep
  kd : kd < 256
  n : n ≤ 9223372036854775807
  data : data.length ≤ 200

end Go.Proofs.Ytdnjelggdjimhaa
