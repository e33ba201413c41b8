/-
  Write and Read return what the reference returns: the law's walk.
-/
import Derived.Test.YtfalajomfcfliaaGreatDoorQr
import Derived.Test.YtfalajomfcfliaaGreatDoorLa
namespace Go.Proofs.YtfalajomfcfliaaGreatDoor
open Go.RowKit

set_option maxRecDepth 1000000 in
set_option maxHeartbeats 8000000 in
theorem writes_law (x : Pe.Ent) (l : List UInt8) (w : World) (hx : x.name.length ≤ 9223372036854775807) (hl : l.length ≤ 140737488355328) (hL : Laid w) :
    Calls Tryz.prog 6 #[.agg (eCells x), .string (bs l)] w (Law w) := by
  obtain ⟨f, hf⟩ : ∃ f, f = Pe.formed x := ⟨_, rfl⟩
  obtain ⟨s, hs⟩ : ∃ s, s = if f = 0 then Pe.line x else [] := ⟨_, rfl⟩
  have hw := fun w0 (hb : Below w.heap.size w w0) => Write_calls x hx w0 (hL.below hb)
  rw [← hf, ← hs] at hw
  have hw2 := fun w0 (hb : Below w.heap.size w w0) => rWrite_calls x hx w0 (hL.below hb)
  rw [← hf, ← hs] at hw2
  obtain ⟨⟨z, q⟩, hz⟩ : ∃ u, u = Pe.readP l := ⟨_, rfl⟩
  have hr := fun w0 (hb : Below w.heap.size w w0) => Read_calls l hl w0 (hL.below hb)
  rw [← hz] at hr
  have hr2 := fun w0 (hb : Below w.heap.size w w0) => rRead_calls l hl w0 (hL.below hb)
  rw [Pe.readR_eq, ← hz] at hr2
  have H := Lib.hid (And.intro hw (And.intro hw2 (And.intro hr (And.intro hr2 hL))))
  clear hw hw2 hr hr2 hL hs hz hf hx hl
  go_enter Tryz.func6, Tryz.ntmps6
  unfold eCells
  go_upto_region 1 with fail
  obtain ⟨ex, hex⟩ : ∃ ex, ex = w.heap.size := ⟨_, rfl⟩
  obtain ⟨w1, hw1⟩ : ∃ w1, w1 = w.alloc (.cells (eCells x) 29) := ⟨_, rfl⟩
  have hb1 : Below w.heap.size w w1 := by rw [hw1]; exact (Below.refl _ w).alloc (Nat.le_refl _) _
  have hx1 : Blk w1 ex 29 (eCells x) := by rw [hw1, hex]; exact Blk.fresh _ _ _
  unfold eCells at hw1
  rw [← hex, ← hw1]
  have H1 := Lib.hid (And.intro hb1 hx1)
  clear hb1 hx1 hw1 hex
  have c0 : w1.cell? ⟨ex, 0, none⟩ = some (.int .i64 x.day) := H1.out.2.cell 0
  have c1 : w1.cell? ⟨ex, 1, none⟩ = some (.int .u8 (x.kind : Int)) := H1.out.2.cell 1
  have c2 : w1.cell? ⟨ex, 2, none⟩ = some (.int .i64 x.since) := H1.out.2.cell 2
  have c3 : w1.cell? ⟨ex, 3, none⟩ = some (.int .i64 x.til) := H1.out.2.cell 3
  have c4 : w1.cell? ⟨ex, 4, none⟩ = some (.int .i64 x.person) := H1.out.2.cell 4
  have c5 : w1.cell? ⟨ex, 5, none⟩ = some (.int .i64 x.place) := H1.out.2.cell 5
  have c6 : w1.cell? ⟨ex, 6, none⟩ = some (.int .i64 x.other) := H1.out.2.cell 6
  have c7 : w1.cell? ⟨ex, 7, none⟩ = some (.int .i64 x.at_) := H1.out.2.cell 7
  have c8 : w1.cell? ⟨ex, 8, none⟩ = some (.int .i64 x.order) := H1.out.2.cell 8
  have c9 : w1.cell? ⟨ex, 9, none⟩ = some (.string (bs x.name)) := H1.out.2.cell 9
  go_wp2_with fail
  refine (H.out.1 w1 H1.out.1).mono ?_
  rintro e w2 ⟨rfl, hb2⟩
  have H2 := Lib.hid (And.intro (H1.out.1.trans (hb2.mono H1.out.1.size)) (H1.out.2.below hb2 H1.out.2.lt))
  clear hb2
  clear c0 c1 c2 c3 c4 c5 c6 c7 c8 c9
  have c0 : w2.cell? ⟨ex, 0, none⟩ = some (.int .i64 x.day) := H2.out.2.cell 0
  have c1 : w2.cell? ⟨ex, 1, none⟩ = some (.int .u8 (x.kind : Int)) := H2.out.2.cell 1
  have c2 : w2.cell? ⟨ex, 2, none⟩ = some (.int .i64 x.since) := H2.out.2.cell 2
  have c3 : w2.cell? ⟨ex, 3, none⟩ = some (.int .i64 x.til) := H2.out.2.cell 3
  have c4 : w2.cell? ⟨ex, 4, none⟩ = some (.int .i64 x.person) := H2.out.2.cell 4
  have c5 : w2.cell? ⟨ex, 5, none⟩ = some (.int .i64 x.place) := H2.out.2.cell 5
  have c6 : w2.cell? ⟨ex, 6, none⟩ = some (.int .i64 x.other) := H2.out.2.cell 6
  have c7 : w2.cell? ⟨ex, 7, none⟩ = some (.int .i64 x.at_) := H2.out.2.cell 7
  have c8 : w2.cell? ⟨ex, 8, none⟩ = some (.int .i64 x.order) := H2.out.2.cell 8
  have c9 : w2.cell? ⟨ex, 9, none⟩ = some (.string (bs x.name)) := H2.out.2.cell 9
  dsimp only
  go_wp2_with fail
  refine (H.out.2.1 w2 H2.out.1).mono ?_
  rintro e w3 ⟨rfl, hb3⟩
  have H3 := Lib.hid (H2.out.1.trans (hb3.mono H2.out.1.size))
  clear hb3
  clear c0 c1 c2 c3 c4 c5 c6 c7 c8 c9
  dsimp only
  go_wp2_with fail
  refine (H.out.2.2.1 w3 H3.out).mono ?_
  rintro e w4 ⟨rfl, hb4⟩
  have H4 := Lib.hid (H3.out.trans (hb4.mono H3.out.size))
  clear hb4
  unfold eCells
  dsimp only
  go_upto_region 4 with fail
  obtain ⟨ey, hey⟩ : ∃ ey, ey = w4.heap.size := ⟨_, rfl⟩
  obtain ⟨w5, hw5⟩ : ∃ w5, w5 = w4.alloc (.cells (eCells z) 29) := ⟨_, rfl⟩
  have hb5 : Below w.heap.size w w5 := by rw [hw5]; exact H4.out.alloc H4.out.size _
  have hy5 : Blk w5 ey 29 (eCells z) := by rw [hw5, hey]; exact Blk.fresh _ _ _
  unfold eCells at hw5
  rw [← hey, ← hw5]
  have H5 := Lib.hid (And.intro hb5 hy5)
  clear hb5 hy5 hw5 hey
  go_wp2_with fail
  refine (H.out.2.2.2.1 w5 H5.out.1).mono ?_
  rintro e w6 ⟨rfl, hb6⟩
  have H6 := Lib.hid (And.intro (H5.out.1.trans (hb6.mono H5.out.1.size)) (H5.out.2.below hb6 H5.out.2.lt))
  clear hb6
  unfold eCells
  dsimp only
  go_upto_region 5 with fail
  obtain ⟨ez, hez⟩ : ∃ ez, ez = w6.heap.size := ⟨_, rfl⟩
  obtain ⟨w7, hw7⟩ : ∃ w7, w7 = w6.alloc (.cells (eCells z) 29) := ⟨_, rfl⟩
  have hb7 : Below w.heap.size w w7 := by rw [hw7]; exact H6.out.1.alloc H6.out.1.size _
  have hy7 : Blk w7 ey 29 (eCells z) := by rw [hw7]; exact H6.out.2.alloc _
  have hz7 : Blk w7 ez 29 (eCells z) := by rw [hw7, hez]; exact Blk.fresh _ _ _
  unfold eCells at hw7
  rw [← hez, ← hw7]
  have H7 := Lib.hid (And.intro hb7 (And.intro hy7 hz7))
  clear hb7 hy7 hz7 hw7 hez
  go_wp2_with fail
  refine (alive_calls w7 (H.out.2.2.2.2.below H7.out.1)).mono ?_
  rintro e w8 ⟨rfl, hb8⟩
  have H8 := Lib.hid (And.intro (H7.out.1.trans (hb8.mono H7.out.1.size)) (And.intro (H7.out.2.1.below hb8 H7.out.2.1.lt) (H7.out.2.2.below hb8 H7.out.2.2.lt)))
  clear hb8
  have c0 : w8.cell? ⟨ey, 0, none⟩ = some (.int .i64 z.day) := H8.out.2.1.cell 0
  have c1 : w8.cell? ⟨ey, 1, none⟩ = some (.int .u8 (z.kind : Int)) := H8.out.2.1.cell 1
  have c2 : w8.cell? ⟨ey, 2, none⟩ = some (.int .i64 z.since) := H8.out.2.1.cell 2
  have c3 : w8.cell? ⟨ey, 3, none⟩ = some (.int .i64 z.til) := H8.out.2.1.cell 3
  have c4 : w8.cell? ⟨ey, 4, none⟩ = some (.int .i64 z.person) := H8.out.2.1.cell 4
  have c5 : w8.cell? ⟨ey, 5, none⟩ = some (.int .i64 z.place) := H8.out.2.1.cell 5
  have c6 : w8.cell? ⟨ey, 6, none⟩ = some (.int .i64 z.other) := H8.out.2.1.cell 6
  have c7 : w8.cell? ⟨ey, 7, none⟩ = some (.int .i64 z.at_) := H8.out.2.1.cell 7
  have c8 : w8.cell? ⟨ey, 8, none⟩ = some (.int .i64 z.order) := H8.out.2.1.cell 8
  have c9 : w8.cell? ⟨ey, 9, none⟩ = some (.string (bs z.name)) := H8.out.2.1.cell 9
  have k0 : w8.cell? ⟨ez, 0, none⟩ = some (.int .i64 z.day) := H8.out.2.2.cell 0
  have k1 : w8.cell? ⟨ez, 1, none⟩ = some (.int .u8 (z.kind : Int)) := H8.out.2.2.cell 1
  have k2 : w8.cell? ⟨ez, 2, none⟩ = some (.int .i64 z.since) := H8.out.2.2.cell 2
  have k3 : w8.cell? ⟨ez, 3, none⟩ = some (.int .i64 z.til) := H8.out.2.2.cell 3
  have k4 : w8.cell? ⟨ez, 4, none⟩ = some (.int .i64 z.person) := H8.out.2.2.cell 4
  have k5 : w8.cell? ⟨ez, 5, none⟩ = some (.int .i64 z.place) := H8.out.2.2.cell 5
  have k6 : w8.cell? ⟨ez, 6, none⟩ = some (.int .i64 z.other) := H8.out.2.2.cell 6
  have k7 : w8.cell? ⟨ez, 7, none⟩ = some (.int .i64 z.at_) := H8.out.2.2.cell 7
  have k8 : w8.cell? ⟨ez, 8, none⟩ = some (.int .i64 z.order) := H8.out.2.2.cell 8
  have k9 : w8.cell? ⟨ez, 9, none⟩ = some (.string (bs z.name)) := H8.out.2.2.cell 9
  have hq : ∀ w0, (binOp .eql 29 (.agg (eCells z)) (.agg (eCells z))).run Tryz.prog w0 = .ok (.bool true) w0 := fun w0 => by
    have := eql_ent z z w0
    rw [show decide (z = z) = true by simp] at this
    exact this
  unfold eCells at hq
  have q3 : ((bs s).toList == (bs s).toList) = true := by simp
  dsimp only
  go_wp2
  go_ret
  exact ⟨rfl, H8.out.1⟩

end Go.Proofs.YtfalajomfcfliaaGreatDoor
