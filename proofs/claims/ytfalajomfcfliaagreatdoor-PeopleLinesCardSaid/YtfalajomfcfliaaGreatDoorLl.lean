/-
  Read and Write are inverse to each other: the law's walk.
-/
import Derived.Test.YtfalajomfcfliaaGreatDoorLa
namespace Go.Proofs.YtfalajomfcfliaaGreatDoor
open Go.RowKit

namespace Pe
theorem nums_length (x : Ent) (hf : Fine x) : ∀ os : List Nat, (nums x os).length ≤ 22 * os.length
  | [] => by simp [nums]
  | o :: os => by
    have h1 := nums_length x hf os
    have h2 := dec_length (x.get o) (by have := hf.low o; omega) (by have := hf.high o; omega)
    rw [nums_cons]
    simp only [List.length_cons, List.length_append]
    omega
theorem name_short {x : Ent} (hf : Fine x) : x.name.length ≤ 24 := by
  by_cases hk : x.kind = 1
  · have := hf.isn hk
    simp only [isName, Bool.and_eq_true, decide_eq_true_eq] at this
    omega
  · rw [hf.non hk]; simp
theorem line_short {x : Ent} (h : formed x = 0) : (line x).length ≤ 1000 := by
  have hf := fine h
  have h1 := nums_length x hf (offs x.kind)
  have h2 := dec_length x.day (by have := hf.low 0; simp only [Ent.get] at this; omega) (by have := hf.high 0; simp only [Ent.get] at this; omega)
  have h3 : (word x.kind).length ≤ 8 := by unfold word; split <;> decide
  have h4 : (offs x.kind).length ≤ 7 := by unfold offs; split <;> decide
  have h5 : (tail x).length ≤ 25 := by
    have := name_short hf
    unfold tail
    split <;> simp <;> omega
  unfold line head
  simp only [List.length_append, List.length_cons, List.length_nil]
  omega
end Pe

set_option maxRecDepth 1000000 in
set_option maxHeartbeats 8000000 in
theorem lines_law (x : Pe.Ent) (l : List UInt8) (w : World) (hx : x.name.length ≤ 9223372036854775807) (hl : l.length ≤ 140737488355328) (hL : Laid w) :
    Calls Tryz.prog 7 #[.agg (eCells x), .string (bs l)] w (Law w) := by
  obtain ⟨f, hf⟩ : ∃ f, f = Pe.formed x := ⟨_, rfl⟩
  obtain ⟨s, hs⟩ : ∃ s, s = if f = 0 then Pe.line x else [] := ⟨_, rfl⟩
  have hss : s.length ≤ 1000 := by
    rw [hs]
    split
    · exact Pe.line_short (by rw [← hf]; assumption)
    · simp
  obtain ⟨⟨y, g⟩, hy⟩ : ∃ z, z = Pe.readP s := ⟨_, rfl⟩
  have hok : f = 0 → y = x ∧ g = 0 := fun h0 => by
    rw [hs, if_pos h0, Pe.readP_line (by rw [← hf]; exact h0)] at hy
    injection hy with h1 h2
    exact ⟨h1, h2⟩
  have hno : f ≠ 0 → s = [] := fun h0 => by rw [hs, if_neg h0]
  have hw := fun w0 (hb : Below w.heap.size w w0) => Write_calls x hx w0 (hL.below hb)
  rw [← hf, ← hs] at hw
  have hr := fun w0 (hb : Below w.heap.size w w0) => Read_calls s (by omega) w0 (hL.below hb)
  rw [← hy] at hr
  obtain ⟨⟨z, q⟩, hz⟩ : ∃ u, u = Pe.readP l := ⟨_, rfl⟩
  have hr2 := fun w0 (hb : Below w.heap.size w w0) => Read_calls l hl w0 (hL.below hb)
  rw [← hz] at hr2
  have hzz := Pe.readP_ok hz.symm
  have H := Lib.hid (And.intro hw (And.intro hr (And.intro hr2 (And.intro hok (And.intro hno (And.intro hzz hL))))))
  clear hw hr hr2 hok hno hzz hL hs hss hy hz hf hx hl
  go_enter Tryz.func7, Tryz.ntmps7
  unfold eCells
  go_upto_region 1 with fail
  obtain ⟨ex, hex⟩ : ∃ ex, ex = w.heap.size := ⟨_, rfl⟩
  obtain ⟨w1, hw1⟩ : ∃ w1, w1 = w.alloc (.cells (eCells x) 29) := ⟨_, rfl⟩
  have hb1 : Below w.heap.size w w1 := by rw [hw1]; exact (Below.refl _ w).alloc (Nat.le_refl _) _
  have hx1 : Blk w1 ex 29 (eCells x) := by rw [hw1, hex]; exact Blk.fresh _ _ _
  unfold eCells at hw1
  rw [← hex, ← hw1]
  have H1 := Lib.hid (And.intro hb1 hx1)
  clear hb1 hx1 hw1 hex
  have c0 : w1.cell? ⟨ex, 0, none⟩ = some (.int .i64 x.day) := H1.out.2.cell 0
  have c1 : w1.cell? ⟨ex, 1, none⟩ = some (.int .u8 (x.kind : Int)) := H1.out.2.cell 1
  have c2 : w1.cell? ⟨ex, 2, none⟩ = some (.int .i64 x.since) := H1.out.2.cell 2
  have c3 : w1.cell? ⟨ex, 3, none⟩ = some (.int .i64 x.til) := H1.out.2.cell 3
  have c4 : w1.cell? ⟨ex, 4, none⟩ = some (.int .i64 x.person) := H1.out.2.cell 4
  have c5 : w1.cell? ⟨ex, 5, none⟩ = some (.int .i64 x.place) := H1.out.2.cell 5
  have c6 : w1.cell? ⟨ex, 6, none⟩ = some (.int .i64 x.other) := H1.out.2.cell 6
  have c7 : w1.cell? ⟨ex, 7, none⟩ = some (.int .i64 x.at_) := H1.out.2.cell 7
  have c8 : w1.cell? ⟨ex, 8, none⟩ = some (.int .i64 x.order) := H1.out.2.cell 8
  have c9 : w1.cell? ⟨ex, 9, none⟩ = some (.string (bs x.name)) := H1.out.2.cell 9
  go_wp2_with fail
  refine (H.out.1 w1 H1.out.1).mono ?_
  rintro e w2 ⟨rfl, hb2⟩
  have H2 := Lib.hid (And.intro (H1.out.1.trans (hb2.mono H1.out.1.size)) (H1.out.2.below hb2 H1.out.2.lt))
  clear hb2
  clear c0 c1 c2 c3 c4 c5 c6 c7 c8 c9
  dsimp only
  go_wp2_with fail
  refine (H.out.2.1 w2 H2.out.1).mono ?_
  rintro e w3 ⟨rfl, hb3⟩
  have H3 := Lib.hid (And.intro (H2.out.1.trans (hb3.mono H2.out.1.size)) (H2.out.2.below hb3 H2.out.2.lt))
  clear hb3
  unfold eCells
  dsimp only
  go_upto_region 3 with fail
  obtain ⟨ey, hey⟩ : ∃ ey, ey = w3.heap.size := ⟨_, rfl⟩
  obtain ⟨w4, hw4⟩ : ∃ w4, w4 = w3.alloc (.cells (eCells y) 29) := ⟨_, rfl⟩
  have hb4 : Below w.heap.size w w4 := by rw [hw4]; exact H3.out.1.alloc H3.out.1.size _
  have hx4 : Blk w4 ex 29 (eCells x) := by rw [hw4]; exact H3.out.2.alloc _
  have hy4 : Blk w4 ey 29 (eCells y) := by rw [hw4, hey]; exact Blk.fresh _ _ _
  unfold eCells at hw4
  rw [← hey, ← hw4]
  have H4 := Lib.hid (And.intro hb4 (And.intro hx4 hy4))
  clear hb4 hx4 hy4 hw4 hey
  by_cases h0 : f = 0
  · obtain ⟨rfl, rfl⟩ := H.out.2.2.2.1 h0
    subst h0
    have k0 : w4.cell? ⟨ex, 0, none⟩ = some (.int .i64 y.day) := H4.out.2.1.cell 0
    have k1 : w4.cell? ⟨ex, 1, none⟩ = some (.int .u8 (y.kind : Int)) := H4.out.2.1.cell 1
    have k2 : w4.cell? ⟨ex, 2, none⟩ = some (.int .i64 y.since) := H4.out.2.1.cell 2
    have k3 : w4.cell? ⟨ex, 3, none⟩ = some (.int .i64 y.til) := H4.out.2.1.cell 3
    have k4 : w4.cell? ⟨ex, 4, none⟩ = some (.int .i64 y.person) := H4.out.2.1.cell 4
    have k5 : w4.cell? ⟨ex, 5, none⟩ = some (.int .i64 y.place) := H4.out.2.1.cell 5
    have k6 : w4.cell? ⟨ex, 6, none⟩ = some (.int .i64 y.other) := H4.out.2.1.cell 6
    have k7 : w4.cell? ⟨ex, 7, none⟩ = some (.int .i64 y.at_) := H4.out.2.1.cell 7
    have k8 : w4.cell? ⟨ex, 8, none⟩ = some (.int .i64 y.order) := H4.out.2.1.cell 8
    have k9 : w4.cell? ⟨ex, 9, none⟩ = some (.string (bs y.name)) := H4.out.2.1.cell 9
    have c0 : w4.cell? ⟨ey, 0, none⟩ = some (.int .i64 y.day) := H4.out.2.2.cell 0
    have c1 : w4.cell? ⟨ey, 1, none⟩ = some (.int .u8 (y.kind : Int)) := H4.out.2.2.cell 1
    have c2 : w4.cell? ⟨ey, 2, none⟩ = some (.int .i64 y.since) := H4.out.2.2.cell 2
    have c3 : w4.cell? ⟨ey, 3, none⟩ = some (.int .i64 y.til) := H4.out.2.2.cell 3
    have c4 : w4.cell? ⟨ey, 4, none⟩ = some (.int .i64 y.person) := H4.out.2.2.cell 4
    have c5 : w4.cell? ⟨ey, 5, none⟩ = some (.int .i64 y.place) := H4.out.2.2.cell 5
    have c6 : w4.cell? ⟨ey, 6, none⟩ = some (.int .i64 y.other) := H4.out.2.2.cell 6
    have c7 : w4.cell? ⟨ey, 7, none⟩ = some (.int .i64 y.at_) := H4.out.2.2.cell 7
    have c8 : w4.cell? ⟨ey, 8, none⟩ = some (.int .i64 y.order) := H4.out.2.2.cell 8
    have c9 : w4.cell? ⟨ey, 9, none⟩ = some (.string (bs y.name)) := H4.out.2.2.cell 9
    have hq : ∀ w0, (binOp .neq 29 (.agg (eCells y)) (.agg (eCells y))).run Tryz.prog w0 = .ok (.bool false) w0 := fun w0 => by
      have := neq_ent y y w0
      rw [show (!decide (y = y)) = false by simp] at this
      exact this
    unfold eCells at hq
    go_wp2_with fail
    clear k0 k1 k2 k3 k4 k5 k6 k7 k8 k9
    clear c0 c1 c2 c3 c4 c5 c6 c7 c8 c9
    clear hq
    refine (H.out.2.2.1 w4 H4.out.1).mono ?_
    rintro e w5 ⟨rfl, hb5⟩
    have H5 := Lib.hid (H4.out.1.trans (hb5.mono H4.out.1.size))
    clear hb5
    unfold eCells
    dsimp only
    go_upto_region 6 with fail
    obtain ⟨ez, hez⟩ : ∃ ez, ez = w5.heap.size := ⟨_, rfl⟩
    obtain ⟨w6, hw6⟩ : ∃ w6, w6 = w5.alloc (.cells (eCells z) 29) := ⟨_, rfl⟩
    have hb6 : Below w.heap.size w w6 := by rw [hw6]; exact H5.out.alloc H5.out.size _
    have hz6 : Blk w6 ez 29 (eCells z) := by rw [hw6, hez]; exact Blk.fresh _ _ _
    unfold eCells at hw6
    rw [← hez, ← hw6]
    have H6 := Lib.hid (And.intro hb6 hz6)
    clear hb6 hz6 hw6 hez
    have c0 : w6.cell? ⟨ez, 0, none⟩ = some (.int .i64 z.day) := H6.out.2.cell 0
    have c1 : w6.cell? ⟨ez, 1, none⟩ = some (.int .u8 (z.kind : Int)) := H6.out.2.cell 1
    have c2 : w6.cell? ⟨ez, 2, none⟩ = some (.int .i64 z.since) := H6.out.2.cell 2
    have c3 : w6.cell? ⟨ez, 3, none⟩ = some (.int .i64 z.til) := H6.out.2.cell 3
    have c4 : w6.cell? ⟨ez, 4, none⟩ = some (.int .i64 z.person) := H6.out.2.cell 4
    have c5 : w6.cell? ⟨ez, 5, none⟩ = some (.int .i64 z.place) := H6.out.2.cell 5
    have c6 : w6.cell? ⟨ez, 6, none⟩ = some (.int .i64 z.other) := H6.out.2.cell 6
    have c7 : w6.cell? ⟨ez, 7, none⟩ = some (.int .i64 z.at_) := H6.out.2.cell 7
    have c8 : w6.cell? ⟨ez, 8, none⟩ = some (.int .i64 z.order) := H6.out.2.cell 8
    have c9 : w6.cell? ⟨ez, 9, none⟩ = some (.string (bs z.name)) := H6.out.2.cell 9
    rcases H.out.2.2.2.2.2.1 with ⟨rfl, hz1, hz2⟩ | ⟨rfl, rfl⟩
    · have hwz := Write_calls z (by have := Pe.name_short (Pe.fine hz1); omega) w6 (H.out.2.2.2.2.2.2.below H6.out.1)
      rw [hz1, if_pos rfl, hz2] at hwz
      have HWZ := Lib.hid hwz
      clear hwz hz1 hz2
      go_wp2_with fail
      refine HWZ.out.mono ?_
      rintro e w7 ⟨rfl, hb7⟩
      have H7 := Lib.hid (And.intro (H6.out.1.trans (hb7.mono H6.out.1.size)) (H6.out.2.below hb7 H6.out.2.lt))
      clear hb7
      clear c0 c1 c2 c3 c4 c5 c6 c7 c8 c9
      dsimp only
      go_wp2_with fail
      refine (alive_calls w7 (H.out.2.2.2.2.2.2.below H7.out.1)).mono ?_
      rintro e w8 ⟨rfl, hb8⟩
      have H8 := Lib.hid (H7.out.1.trans (hb8.mono H7.out.1.size))
      clear hb8
      have q3 : ((bs l).toList == (bs l).toList) = true := by simp
      dsimp only
      go_wp2
      go_ret
      exact ⟨rfl, H8.out⟩
    · have hwz := Write_calls Pe.zero (by decide) w6 (H.out.2.2.2.2.2.2.below H6.out.1)
      rw [show Pe.formed Pe.zero = 1 by decide, if_neg (by decide)] at hwz
      have HWZ := Lib.hid hwz
      clear hwz
      go_wp2_with fail
      refine HWZ.out.mono ?_
      rintro e w7 ⟨rfl, hb7⟩
      have H7 := Lib.hid (And.intro (H6.out.1.trans (hb7.mono H6.out.1.size)) (H6.out.2.below hb7 H6.out.2.lt))
      clear hb7
      clear c0 c1 c2 c3 c4 c5 c6 c7 c8 c9
      dsimp only
      go_wp2_with fail
      refine (alive_calls w7 (H.out.2.2.2.2.2.2.below H7.out.1)).mono ?_
      rintro e w8 ⟨rfl, hb8⟩
      have H8 := Lib.hid (And.intro (H7.out.1.trans (hb8.mono H7.out.1.size)) (H7.out.2.below hb8 H7.out.2.lt))
      clear hb8
      have z0 : w8.cell? ⟨ez, 0, none⟩ = some (.int .i64 0) := H8.out.2.cell 0
      have z1 : w8.cell? ⟨ez, 1, none⟩ = some (.int .u8 0) := H8.out.2.cell 1
      have z2 : w8.cell? ⟨ez, 2, none⟩ = some (.int .i64 0) := H8.out.2.cell 2
      have z3 : w8.cell? ⟨ez, 3, none⟩ = some (.int .i64 0) := H8.out.2.cell 3
      have z4 : w8.cell? ⟨ez, 4, none⟩ = some (.int .i64 0) := H8.out.2.cell 4
      have z5 : w8.cell? ⟨ez, 5, none⟩ = some (.int .i64 0) := H8.out.2.cell 5
      have z6 : w8.cell? ⟨ez, 6, none⟩ = some (.int .i64 0) := H8.out.2.cell 6
      have z7 : w8.cell? ⟨ez, 7, none⟩ = some (.int .i64 0) := H8.out.2.cell 7
      have z8 : w8.cell? ⟨ez, 8, none⟩ = some (.int .i64 0) := H8.out.2.cell 8
      have z9 : w8.cell? ⟨ez, 9, none⟩ = some (.string ⟨#[]⟩) := H8.out.2.cell 9
      have hq : ∀ w0, (binOp .eql 29 (.agg #[.int .i64 0, .int .u8 0, .int .i64 0, .int .i64 0, .int .i64 0, .int .i64 0, .int .i64 0, .int .i64 0, .int .i64 0, .string ⟨#[]⟩]) (.agg #[.int .i64 0, .int .u8 0, .int .i64 0, .int .i64 0, .int .i64 0, .int .i64 0, .int .i64 0, .int .i64 0, .int .i64 0, .string ⟨#[]⟩])).run Tryz.prog w0 = .ok (.bool true) w0 := fun w0 => eql_ent Pe.zero Pe.zero w0
      dsimp only
      go_wp2
      go_ret
      exact ⟨rfl, H8.out.1⟩
  · have hse := H.out.2.2.2.2.1 h0
    have d1 : (f == 0) = false := by simpa using h0
    have d2 : (f != 0) = true := by simpa using h0
    have q5 : (bs s).toList.isEmpty = true := by rw [hse, ByteArray.toList_eq, bs_data]; rfl
    clear hse h0
    go_wp2_with fail
    clear d1 d2 q5
    refine (H.out.2.2.1 w4 H4.out.1).mono ?_
    rintro e w5 ⟨rfl, hb5⟩
    have H5 := Lib.hid (H4.out.1.trans (hb5.mono H4.out.1.size))
    clear hb5
    unfold eCells
    dsimp only
    go_upto_region 6 with fail
    obtain ⟨ez, hez⟩ : ∃ ez, ez = w5.heap.size := ⟨_, rfl⟩
    obtain ⟨w6, hw6⟩ : ∃ w6, w6 = w5.alloc (.cells (eCells z) 29) := ⟨_, rfl⟩
    have hb6 : Below w.heap.size w w6 := by rw [hw6]; exact H5.out.alloc H5.out.size _
    have hz6 : Blk w6 ez 29 (eCells z) := by rw [hw6, hez]; exact Blk.fresh _ _ _
    unfold eCells at hw6
    rw [← hez, ← hw6]
    have H6 := Lib.hid (And.intro hb6 hz6)
    clear hb6 hz6 hw6 hez
    have c0 : w6.cell? ⟨ez, 0, none⟩ = some (.int .i64 z.day) := H6.out.2.cell 0
    have c1 : w6.cell? ⟨ez, 1, none⟩ = some (.int .u8 (z.kind : Int)) := H6.out.2.cell 1
    have c2 : w6.cell? ⟨ez, 2, none⟩ = some (.int .i64 z.since) := H6.out.2.cell 2
    have c3 : w6.cell? ⟨ez, 3, none⟩ = some (.int .i64 z.til) := H6.out.2.cell 3
    have c4 : w6.cell? ⟨ez, 4, none⟩ = some (.int .i64 z.person) := H6.out.2.cell 4
    have c5 : w6.cell? ⟨ez, 5, none⟩ = some (.int .i64 z.place) := H6.out.2.cell 5
    have c6 : w6.cell? ⟨ez, 6, none⟩ = some (.int .i64 z.other) := H6.out.2.cell 6
    have c7 : w6.cell? ⟨ez, 7, none⟩ = some (.int .i64 z.at_) := H6.out.2.cell 7
    have c8 : w6.cell? ⟨ez, 8, none⟩ = some (.int .i64 z.order) := H6.out.2.cell 8
    have c9 : w6.cell? ⟨ez, 9, none⟩ = some (.string (bs z.name)) := H6.out.2.cell 9
    rcases H.out.2.2.2.2.2.1 with ⟨rfl, hz1, hz2⟩ | ⟨rfl, rfl⟩
    · have hwz := Write_calls z (by have := Pe.name_short (Pe.fine hz1); omega) w6 (H.out.2.2.2.2.2.2.below H6.out.1)
      rw [hz1, if_pos rfl, hz2] at hwz
      have HWZ := Lib.hid hwz
      clear hwz hz1 hz2
      go_wp2_with fail
      refine HWZ.out.mono ?_
      rintro e w7 ⟨rfl, hb7⟩
      have H7 := Lib.hid (And.intro (H6.out.1.trans (hb7.mono H6.out.1.size)) (H6.out.2.below hb7 H6.out.2.lt))
      clear hb7
      clear c0 c1 c2 c3 c4 c5 c6 c7 c8 c9
      dsimp only
      go_wp2_with fail
      refine (alive_calls w7 (H.out.2.2.2.2.2.2.below H7.out.1)).mono ?_
      rintro e w8 ⟨rfl, hb8⟩
      have H8 := Lib.hid (H7.out.1.trans (hb8.mono H7.out.1.size))
      clear hb8
      have q3 : ((bs l).toList == (bs l).toList) = true := by simp
      dsimp only
      go_wp2
      go_ret
      exact ⟨rfl, H8.out⟩
    · have hwz := Write_calls Pe.zero (by decide) w6 (H.out.2.2.2.2.2.2.below H6.out.1)
      rw [show Pe.formed Pe.zero = 1 by decide, if_neg (by decide)] at hwz
      have HWZ := Lib.hid hwz
      clear hwz
      go_wp2_with fail
      refine HWZ.out.mono ?_
      rintro e w7 ⟨rfl, hb7⟩
      have H7 := Lib.hid (And.intro (H6.out.1.trans (hb7.mono H6.out.1.size)) (H6.out.2.below hb7 H6.out.2.lt))
      clear hb7
      clear c0 c1 c2 c3 c4 c5 c6 c7 c8 c9
      dsimp only
      go_wp2_with fail
      refine (alive_calls w7 (H.out.2.2.2.2.2.2.below H7.out.1)).mono ?_
      rintro e w8 ⟨rfl, hb8⟩
      have H8 := Lib.hid (And.intro (H7.out.1.trans (hb8.mono H7.out.1.size)) (H7.out.2.below hb8 H7.out.2.lt))
      clear hb8
      have z0 : w8.cell? ⟨ez, 0, none⟩ = some (.int .i64 0) := H8.out.2.cell 0
      have z1 : w8.cell? ⟨ez, 1, none⟩ = some (.int .u8 0) := H8.out.2.cell 1
      have z2 : w8.cell? ⟨ez, 2, none⟩ = some (.int .i64 0) := H8.out.2.cell 2
      have z3 : w8.cell? ⟨ez, 3, none⟩ = some (.int .i64 0) := H8.out.2.cell 3
      have z4 : w8.cell? ⟨ez, 4, none⟩ = some (.int .i64 0) := H8.out.2.cell 4
      have z5 : w8.cell? ⟨ez, 5, none⟩ = some (.int .i64 0) := H8.out.2.cell 5
      have z6 : w8.cell? ⟨ez, 6, none⟩ = some (.int .i64 0) := H8.out.2.cell 6
      have z7 : w8.cell? ⟨ez, 7, none⟩ = some (.int .i64 0) := H8.out.2.cell 7
      have z8 : w8.cell? ⟨ez, 8, none⟩ = some (.int .i64 0) := H8.out.2.cell 8
      have z9 : w8.cell? ⟨ez, 9, none⟩ = some (.string ⟨#[]⟩) := H8.out.2.cell 9
      have hq : ∀ w0, (binOp .eql 29 (.agg #[.int .i64 0, .int .u8 0, .int .i64 0, .int .i64 0, .int .i64 0, .int .i64 0, .int .i64 0, .int .i64 0, .int .i64 0, .string ⟨#[]⟩]) (.agg #[.int .i64 0, .int .u8 0, .int .i64 0, .int .i64 0, .int .i64 0, .int .i64 0, .int .i64 0, .int .i64 0, .int .i64 0, .string ⟨#[]⟩])).run Tryz.prog w0 = .ok (.bool true) w0 := fun w0 => eql_ent Pe.zero Pe.zero w0
      dsimp only
      go_wp2
      go_ret
      exact ⟨rfl, H8.out.1⟩

end Go.Proofs.YtfalajomfcfliaaGreatDoor
