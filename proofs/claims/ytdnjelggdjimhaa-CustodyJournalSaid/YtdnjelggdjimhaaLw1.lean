/-
  The walk of the check that the disk's statements are not empty.
-/
import Derived.Test.YtdnjelggdjimhaaStr
namespace Go.Proofs.Ytdnjelggdjimhaa
open Go.RowKit

theorem disks_1 : Dk.writeErr (Dk.new 16) 0 ([97, 98, 99] : List UInt8).length = 0 ∧ (Dk.new 16).wr.length = 0 := by decide +kernel
def dk1 : Dk.D := Dk.write (Dk.new 16) 0 [97, 98, 99]
def dk2 : Dk.D := Dk.flush dk1
def dk3 : Dk.D := Dk.write dk2 0 [120, 121, 122]
def dk4 : Dk.D := Dk.crash dk3 [1]
theorem disks_2 : Dk.flushErr dk1 = 0 := by decide +kernel
theorem disks_3 : Dk.writeErr dk2 0 ([120, 121, 122] : List UInt8).length = 0 ∧ dk2.wr.length = 0 := by decide +kernel
theorem disks_4 : Dk.readErr dk4 0 = 0 ∧ (dk4.now.getD 0 Dk.zsec).take 4 = [120, 98, 99, 0] := by decide +kernel

set_option maxRecDepth 100000 in
set_option maxHeartbeats 1000000 in
theorem disks_calls (w : World) : Calls Try.prog 8 #[] w fun e w' => e = .returned (.bool true) ∧ Below w.heap.size w w' := by
  have kc := fun (w : World) (C : Array Value) (n c : Nat) => Lib.run_convert_bytes_const (P := Try.prog) w 22 5 C n c Try.underlying22 Try.underlying5
  go_enter Try.func8, Try.ntmps8
  go_wp2_with fail
  refine (new_no 15 _ (by omega)).mono ?_
  rintro e w0 ⟨rfl, rfl⟩
  go_wp2_with fail
  refine (new_yes 16 _ (by omega) (by omega)).mono ?_
  rintro e w1 ⟨g, vd, vn, vw, rfl, hD, hB⟩
  have HD := Lib.hid hD
  have HB := Lib.hid hB
  clear hD hB
  go_wp2_with fail
  refine (write_upd 0 _ 3 3 [97, 98, 99] (HD.out.new_ ((Chg.refl _ w1).alloc _)) rfl (src_new w1 5 (bvs [97, 98, 99]) (3, 4)) (fun _ ad e => by cases e; exact Nat.ne_of_gt HD.out.blk.lt) (by rw [disks_1.2]; simp [maxLen])).mono ?_
  rw [disks_1.1, show Dk.write (Dk.new 16) 0 [97, 98, 99] = dk1 from rfl]
  rintro e w2 ⟨rfl, hU⟩
  have hB2 := hU.below (HD.out.new_ ((Chg.refl _ w1).alloc _)) (by have := HB.out.size; simp; omega)
  obtain ⟨vd2, vn2, vw2, hD2, hc2, _⟩ := hU
  have HD2 := Lib.hid hD2
  have HB2 := Lib.hid ((HB.out.alloc HB.out.size _).trans hB2)
  clear hD2 hc2 hB2
  go_wp2_with fail
  refine (flush_upd HD2.out).mono ?_
  rw [disks_2, show Dk.flush dk1 = dk2 from rfl]
  rintro e w3 ⟨rfl, hU⟩
  have hB3 := hU.below HD2.out HB2.out.size
  obtain ⟨vd3, vn3, vw3, hD3, hc3, _⟩ := hU
  have HD3 := Lib.hid hD3
  have HB3 := Lib.hid (HB2.out.trans hB3)
  clear hD3 hc3 hB3
  go_wp2_with fail
  refine (write_upd 0 _ 3 3 [120, 121, 122] (HD3.out.new_ ((Chg.refl _ w3).alloc _)) rfl (src_new w3 5 (bvs [120, 121, 122]) (3, 4)) (fun _ ad e => by cases e; exact Nat.ne_of_gt HD3.out.blk.lt) (by rw [disks_3.2]; simp [maxLen])).mono ?_
  rw [disks_3.1, show Dk.write dk2 0 [120, 121, 122] = dk3 from rfl]
  rintro e w4 ⟨rfl, hU⟩
  have hB4 := hU.below (HD3.out.new_ ((Chg.refl _ w3).alloc _)) (by have := HB3.out.size; simp; omega)
  obtain ⟨vd4, vn4, vw4, hD4, hc4, _⟩ := hU
  have HD4 := Lib.hid hD4
  have HB4 := Lib.hid ((HB3.out.alloc HB3.out.size _).trans hB4)
  clear hD4 hc4 hB4
  go_wp2_with fail
  refine (crash_upd _ 1 1 [1] (HD4.out.new_ ((Chg.refl _ w4).alloc _)) rfl (.inr ⟨⟨w4.heap.size, 0, none⟩, rfl, fun e => by have := (HD4.out.dur.lt _ e).2; simp at this, fun j hj => by
    obtain rfl : j = 0 := by simpa using hj
    simp [Addr.add]⟩)).mono ?_
  rw [show Dk.crash dk3 [1] = dk4 from rfl]
  rintro e w5 ⟨rfl, hU⟩
  have hB5 := hU.below (HD4.out.new_ ((Chg.refl _ w4).alloc _)) (by have := HB4.out.size; simp; omega)
  obtain ⟨vd5, vn5, vw5, hD5, hc5, _⟩ := hU
  have HD5 := Lib.hid hD5
  have HB5 := Lib.hid ((HB4.out.alloc HB4.out.size _).trans hB5)
  clear hD5 hc5 hB5
  go_wp2_with fail
  refine (read_any g _ w5 dk4 vd5 vn5 vw5 0 HD5.out).mono ?_
  rintro e w6 ⟨hc6, hr⟩
  obtain ⟨b, rfl, hb, hbl⟩ := (hr.resolve_left (fun h => h.1 disks_4.1)).2
  have hcv : (convert 22 9 (.slice (some ⟨b, 0, none⟩) 4 64)).run Try.prog w6 = .ok (.string ⟨#[120, 98, 99, 0]⟩) w6 := by
    have := run_str_of (w := w6) ((dk4.now.getD 0 Dk.zsec).take 4) ⟨b, 0, none⟩ 64 (fun j v hv => by
      rw [Addr.add_mid, Nat.zero_add, hbl.cell, ← bvs_take, List.getElem?_take] at *
      split at hv
      · simpa using hv
      · cases hv)
    rw [disks_4.2] at this
    exact this
  have HB6 := Lib.hid (HB5.out.trans (hc6.below (fun _ h => h.elim) HB5.out.size))
  clear hc6 hr hbl
  go_wp2
  go_ret
  exact ⟨rfl, HB6.out⟩

end Go.Proofs.Ytdnjelggdjimhaa
