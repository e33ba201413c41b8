/-
  The walks of small and disk.
-/
import Derived.Test.YtdnjelggdjimhaaSp3
import Derived.Deep.Slices
namespace Go.Proofs.Ytdnjelggdjimhaa
open Go.RowKit

theorem own_weaken {w : World} {base base' : Nat} {e : TypeId} {size n : Nat} {v : Value} {xs : List Value} (h : w.ownsRow base e size v n xs) (hb : base' ≤ base) : w.ownsRow base' e size v n xs := by
  refine ⟨h.1, h.2.imp id ?_⟩
  rintro ⟨g, cap, cur, h1, h2, h3⟩
  exact ⟨g, cap, cur, h1, Nat.le_trans hb h2, h3⟩
theorem ModelAt.weaken {w : World} {base base' m : Nat} {d : Dk.D} {vd vp : Value} (h : ModelAt w base m d vd vp) (hb : base' ≤ base) : ModelAt w base' m d vd vp :=
  ⟨h.blk, Nat.le_trans hb h.low, own_weaken h.dur hb, own_weaken h.wr hb, h.ok⟩

set_option maxHeartbeats 1000000 in
theorem disk_calls (sectors : Int) (w : World) : Calls Try.prog 16 #[.int .i64 sectors] w fun e w' => ∃ n g m, e = .returned (.tuple #[.pointer (some ⟨g, 0, none⟩), .pointer (some ⟨m, 0, none⟩), .bool true]) ∧ 16 ≤ n ∧ n ≤ 80 ∧ Both w' w.heap.size g m (Dk.new n) ∧ Below w.heap.size w w' := by
  go_enter Try.func16, Try.ntmps16
  go_wp2_with fail
  obtain ⟨n, h1, h2, he⟩ : ∃ n : Nat, 16 ≤ n ∧ n ≤ 80 ∧ wrap64 (16 + wrap64 ((IntKind.u64.wrap sectors).tmod 65)) = (n : Int) := by
    have hw : 0 ≤ IntKind.u64.wrap sectors := by simp [IntKind.wrap_u64]; omega
    refine ⟨16 + ((IntKind.u64.wrap sectors).tmod 65).toNat, ?_, ?_, ?_⟩
    · omega
    · rw [Int.tmod_eq_emod_of_nonneg hw]; omega
    · rw [Int.tmod_eq_emod_of_nonneg hw]; unfold wrap64; omega
  first | rw [he] | trace_state
  have HE := Lib.hid (And.intro h1 h2)
  clear he h1 h2
  refine (new_yes n _ HE.out.1 (by have := HE.out.2; omega)).mono ?_
  rintro e w1 ⟨g, vd, vn, vw, rfl, hD, hB⟩
  have HD := Lib.hid hD
  have HB := Lib.hid hB
  clear hD hB
  go_wp2_with fail
  refine (mnew_yes n _ HE.out.1 (by have := HE.out.2; omega)).mono ?_
  rintro e w2 ⟨m, vd', vp, rfl, hM, hB2⟩
  have HM := Lib.hid hM
  have HB2 := Lib.hid hB2
  clear hM hB2
  go_wp2
  go_ret3
  refine ⟨n, g, m, rfl, HE.out.1, HE.out.2, ⟨Nat.le_trans HB.out.size HB2.out.size, vd, vn, vw, vd', vp, HD.out.new_ (Chg.of_below HB2.out), HM.out.weaken HB.out.size⟩, HB.out.trans (HB2.out.mono HB.out.size)⟩

end Go.Proofs.Ytdnjelggdjimhaa
