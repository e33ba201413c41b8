/-
  The walk of a step: an operation on a disk and on its model.
-/
import Derived.Test.YtdnjelggdjimhaaSp1
namespace Go.Proofs.Ytdnjelggdjimhaa
open Go.RowKit

/-- The operation, boxed. -/
structure BoxAt (w0 w : World) (base g m : Nat) (d d' : Dk.D) (vs : Array Value) (b : Nat) : Prop where
  blk : Blk w b 43 vs
  low : base ≤ b
  both : base ≤ w.heap.size ∧ ∃ vd vn vw vd2 vp, DiskAt w base g d vd vn vw ∧ ModelAt w base m d' vd2 vp
  below : Below base w0 w
section
variable {w0 w : World} {base g m : Nat} {d d' : Dk.D} {vs : Array Value} {b : Nat}
theorem BoxAt.ne (h : BoxAt w0 w base g m d d' vs b) {vd vn vw : Value} (hD : DiskAt w base g d vd vn vw) : ¬ fpD g vd vn vw b := by
  rintro (e | e | e | e)
  · exact Blk.apart h.blk hD.blk (by decide) e
  · exact own_ne_blk hD.dur h.blk (by decide) b e rfl
  · exact own_ne_blk hD.now h.blk (by decide) b e rfl
  · exact own_ne_blk hD.wr h.blk (by decide) b e rfl
theorem BoxAt.neM (h : BoxAt w0 w base g m d d' vs b) {vd vp : Value} (hM : ModelAt w base m d' vd vp) : ¬ fpM m vd vp b := by
  rintro (e | e | e)
  · exact Blk.apart h.blk hM.blk (by decide) e
  · exact own_ne_blk hM.dur h.blk (by decide) b e rfl
  · exact own_ne_blk hM.wr h.blk (by decide) b e rfl
theorem BoxAt.start {w : World} {base g m : Nat} {d : Dk.D} (h : Both w base g m d) (vs : Array Value) : BoxAt w (w.alloc (.cells vs 43)) base g m d d vs w.heap.size :=
  ⟨Blk.fresh _ _ _, h.1, h.new_ ((Chg.refl _ w).alloc _), (Below.refl _ _).alloc h.1 _⟩
theorem BoxAt.new_ {w' : World} (h : BoxAt w0 w base g m d d' vs b) (hc : Chg (fun _ => False) w w') : BoxAt w0 w' base g m d d' vs b := by
  obtain ⟨h1, h2, ⟨hb, vd, vn, vw, vd', vp, hD, hM⟩, h4⟩ := h
  exact ⟨hc.blk h1 (fun h => h), h2, ⟨Nat.le_trans hb hc.size, vd, vn, vw, vd', vp, hD.new_ hc, hM.keep hc (fun _ _ h => h)⟩, h4.trans (hc.below (fun _ h => h.elim) hb)⟩
theorem BoxAt.upd {w' : World} {d2 : Dk.D} {vd vn vw : Value} (h : BoxAt w0 w base g m d d' vs b) (hD : DiskAt w base g d vd vn vw) (hu : Upd base g vd vn vw w d2 w') : BoxAt w0 w' base g m d2 d' vs b := by
  have hne := h.ne hD
  have hbe := hu.below hD h.both.1
  obtain ⟨h1, h2, ⟨hb, _, _, _, vd', vp, _, hM⟩, h4⟩ := h
  have hm := hu.model hD hM
  obtain ⟨vd2, vn2, vw2, hD2, hc, _⟩ := hu
  exact ⟨hc.blk h1 hne, h2, ⟨Nat.le_trans hb hc.size, vd2, vn2, vw2, vd', vp, hD2, hm⟩, h4.trans hbe⟩
theorem BoxAt.updM {w' : World} {d2 : Dk.D} {vd vp : Value} (h : BoxAt w0 w base g m d d' vs b) (hM : ModelAt w base m d' vd vp) (hu : UpdM base m vd vp w d2 w') : BoxAt w0 w' base g m d d2 vs b := by
  have hne := h.neM hM
  have hbe := hu.below hM h.both.1
  obtain ⟨h1, h2, ⟨hb, vd', vn', vw', _, _, hD, _⟩, h4⟩ := h
  have hd := hu.disk hD hM
  obtain ⟨vd2, vp2, hM2, hc, _⟩ := hu
  exact ⟨hc.blk h1 hne, h2, ⟨Nat.le_trans hb hc.size, vd', vn', vw', vd2, vp2, hd, hM2⟩, h4.trans hbe⟩
theorem BoxAt.out (h : BoxAt w0 w base g m d d vs b) : Both w base g m d ∧ Below base w0 w := ⟨h.both, h.below⟩
theorem BoxAt.bytes (h : BoxAt w0 w base g m d d' vs b) {W0 : World} (hW : Below base W0 w0) (hs : W0.heap.size = base) {A : Option Addr} {n c : Nat} {l : List UInt8} (hl : BytesAt W0 A n c l) : BytesAt w A n c l :=
  hl.below (by rw [hs]; exact hW.trans h.below)
theorem BoxAt.ints (h : BoxAt w0 w base g m d d' vs b) {W0 : World} (hW : Below base W0 w0) (hs : W0.heap.size = base) {A : Option Addr} {n : Nat} {l : List Int} (hl : IntsAt W0 A n l) : IntsAt w A n l :=
  hl.below (by rw [hs]; exact hW.trans h.below)
theorem keep_box (h : BoxAt w0 w base g m d d' vs b) {W0 : World} (hW : Below base W0 w0) (hs : W0.heap.size = base) {A : Option Addr} {n : Nat} {l : List Int} (hl : IntsAt W0 A n l) {v : Value} (hv : ∀ k, v.ownBlock = some k → base ≤ k) : KeepAt w v A l := by
  rcases hl.2 with h0 | ⟨ad', hA', hlt', _⟩
  · exact .inl h0
  · refine ((h.ints hW hs hl).2).imp id ?_
    rintro ⟨ad, hA, hlt, hc⟩
    refine ⟨ad, hA, fun e => ?_, hc⟩
    rw [hA] at hA'; cases hA'
    have := hv _ e
    omega
end

set_option maxRecDepth 100000 in
set_option maxHeartbeats 1000000 in
theorem step_read {w : World} {base g m : Nat} {d : Dk.D} (kd : Nat) (s : Int) (A B : Option Addr) (a c b e : Nat) (n : Int) (h : Both w base g m d) (hr : (kd : Int).tmod 5 = 0) :
    Calls Try.prog 17 #[.pointer (some ⟨g, 0, none⟩), .pointer (some ⟨m, 0, none⟩), .agg #[.int .u8 (kd : Int), .int .i64 s, .slice A a c, .int .i64 n, .slice B b e]] w fun e w' => e = .returned (.bool true) ∧ Both w' base g m d ∧ Below base w w' := by
  have HX := Lib.hid (BoxAt.start h #[.int .u8 (kd : Int), .int .i64 s, .slice A a c, .int .i64 n, .slice B b e])
  clear h
  go_enter Try.func17, Try.ntmps17
  go_wp2_with fail
  obtain ⟨wX, hwX⟩ : ∃ wX, wX = w.alloc (.cells #[.int .u8 (kd : Int), .int .i64 s, .slice A a c, .int .i64 n, .slice B b e] 43) := ⟨_, rfl⟩
  rw [← hwX] at HX ⊢
  clear hwX
  obtain ⟨hb, vd, vn, vw, vd2, vp, hD, hM⟩ := HX.out.both
  refine (read_any g base wX d vd vn vw s hD).mono ?_
  rintro e1 w1 ⟨hc1, hres⟩
  have HX1 := Lib.hid (HX.out.new_ hc1)
  have hM1 := hM.keep hc1 (fun _ _ h => h)
  have hx1 : w1.cell? ⟨w.heap.size, 1, none⟩ = some (.int .i64 s) := HX1.out.blk.cell 1
  have HM1 := Lib.hid hM1
  have HE := Lib.hid hres
  clear hres hD hM hM1 hb HX
  rcases HE.out with ⟨hne, rfl⟩ | ⟨hz, q, rfl, hq, hqb⟩
  · have HNE := Lib.hid hne
    clear hne
    go_wp2_with fail
    refine (mread_any s HM1.out).mono ?_
    rintro e2 w2 ⟨rfl, hres2⟩
    obtain ⟨_, rfl⟩ := hres2.resolve_right (fun h => HNE.out h.1)
    have hcv : (convert 22 9 (.slice none 0 0)).run Try.prog w1 = .ok (.string ⟨#[]⟩) w1 := run_convert_bytes_nil w1 22 5 Try.underlying22 Try.underlying5 _ _ 9 Try.underlying9
    go_wp2
    go_ret
    exact ⟨rfl, HX1.out.out⟩
  · obtain ⟨S, hS⟩ : ∃ S, S = bs (d.now.getD s.toNat Dk.zsec) := ⟨_, rfl⟩
    have hl64 : (d.now.getD s.toNat Dk.zsec).length = 64 := Dk.getD_64 HM1.out.ok.now64 _
    have hcv : (convert 22 9 (.slice (some ⟨q, 0, none⟩) 64 64)).run Try.prog w1 = .ok (.string S) w1 := by
      rw [hS]
      refine run_str_at hl64.symm (.inr ⟨_, rfl, fun j v hv => ?_⟩)
      rw [Addr.add_mid, hqb.cell, Nat.zero_add]
      simpa using hv
    have HZ := Lib.hid (And.intro hz hS)
    clear hz hqb hS hl64 hq
    go_wp2_with fail
    refine (mread_any s HM1.out).mono ?_
    rintro e2 w2 ⟨rfl, hres2⟩
    obtain ⟨_, rfl⟩ := hres2.resolve_left (fun h => h.1 HZ.out.1)
    rw [← HZ.out.2]
    go_wp2
    go_ret
    exact ⟨rfl, HX1.out.out⟩

set_option maxRecDepth 100000 in
set_option maxHeartbeats 1000000 in
theorem step_flush {w : World} {base g m : Nat} {d : Dk.D} (kd : Nat) (s : Int) (A B : Option Addr) (a c b e : Nat) (n : Int) (h : Both w base g m d) (hr : (kd : Int).tmod 5 = 2) :
    Calls Try.prog 17 #[.pointer (some ⟨g, 0, none⟩), .pointer (some ⟨m, 0, none⟩), .agg #[.int .u8 (kd : Int), .int .i64 s, .slice A a c, .int .i64 n, .slice B b e]] w fun e w' => e = .returned (.bool true) ∧ Both w' base g m (Dk.flush d) ∧ Below base w w' := by
  have HX := Lib.hid (BoxAt.start h #[.int .u8 (kd : Int), .int .i64 s, .slice A a c, .int .i64 n, .slice B b e])
  clear h
  go_enter Try.func17, Try.ntmps17
  go_wp2_with fail
  obtain ⟨wX, hwX⟩ : ∃ wX, wX = w.alloc (.cells #[.int .u8 (kd : Int), .int .i64 s, .slice A a c, .int .i64 n, .slice B b e] 43) := ⟨_, rfl⟩
  rw [← hwX] at HX ⊢
  clear hwX
  obtain ⟨hb, vd, vn, vw, vd2, vp, hD, hM⟩ := HX.out.both
  refine (flush_upd hD).mono ?_
  rintro e1 w1 ⟨rfl, hU⟩
  have HX1 := Lib.hid (HX.out.upd hD hU)
  clear hD hM hU
  obtain ⟨_, vd', vn', vw', vd2', vp', _, hM⟩ := HX1.out.both
  have HM := Lib.hid hM
  clear hM
  go_wp2_with fail
  refine (mflush_any HM.out).mono ?_
  rintro e1 w2 ⟨rfl, hU⟩
  have HX2 := Lib.hid (HX1.out.updM HM.out hU)
  clear hU
  go_wp2
  go_ret
  exact ⟨rfl, HX2.out.out⟩

set_option maxRecDepth 100000 in
set_option maxHeartbeats 1000000 in
theorem step_crash {w W0 : World} {base g m : Nat} {d : Dk.D} (kd : Nat) (s : Int) (A B : Option Addr) (a c b e : Nat) (n : Int) (keep : List Int) (h : Both w base g m d) (hr : (kd : Int).tmod 5 = 4) (hW : Below base W0 w) (hs : W0.heap.size = base) (hk : IntsAt W0 B b keep) :
    Calls Try.prog 17 #[.pointer (some ⟨g, 0, none⟩), .pointer (some ⟨m, 0, none⟩), .agg #[.int .u8 (kd : Int), .int .i64 s, .slice A a c, .int .i64 n, .slice B b e]] w fun e w' => e = .returned (.bool true) ∧ Both w' base g m (Dk.crash d keep) ∧ Below base w w' := by
  have HX := Lib.hid (BoxAt.start h #[.int .u8 (kd : Int), .int .i64 s, .slice A a c, .int .i64 n, .slice B b e])
  have HK := Lib.hid hk
  have HW := Lib.hid (And.intro hW hs)
  clear h hk hW hs
  go_enter Try.func17, Try.ntmps17
  go_wp2_with fail
  obtain ⟨wX, hwX⟩ : ∃ wX, wX = w.alloc (.cells #[.int .u8 (kd : Int), .int .i64 s, .slice A a c, .int .i64 n, .slice B b e] 43) := ⟨_, rfl⟩
  rw [← hwX] at HX ⊢
  clear hwX
  obtain ⟨hb, vd, vn, vw, vd2, vp, hD, hM⟩ := HX.out.both
  refine (crash_upd B b e keep hD HK.out.1 (keep_box HX.out HW.out.1 HW.out.2 HK.out (fun k hk => (hD.dur.lt k hk).1))).mono ?_
  rintro e1 w1 ⟨rfl, hU⟩
  have HX1 := Lib.hid (HX.out.upd hD hU)
  have hx4 : w1.cell? ⟨w.heap.size, 4, none⟩ = some (.slice B b e) := HX1.out.blk.cell 4
  clear hD hM hU
  obtain ⟨_, vd', vn', vw', vd2', vp', _, hM⟩ := HX1.out.both
  have HM := Lib.hid hM
  clear hM
  go_wp2_with fail
  refine (mcrash_any B b e keep HM.out HK.out.1 (keep_box HX1.out HW.out.1 HW.out.2 HK.out (fun k hk => (HM.out.dur.lt k hk).1))).mono ?_
  rintro e1 w2 ⟨rfl, hU⟩
  have HX2 := Lib.hid (HX1.out.updM HM.out hU)
  clear hU
  go_wp2
  go_ret
  exact ⟨rfl, HX2.out.out⟩

end Go.Proofs.Ytdnjelggdjimhaa
