/-
  The reference's form of an entry.
-/
import Derived.Test.YtfalajomfcfliaaGreatDoorPr3
import Derived.Test.YtfalajomfcfliaaGreatDoorEe
import Derived.Test.YtfalajomfcfliaaGreatDoorPc
import Derived.Deep.CutBlock
import Derived.Deep.QuietTactic
import Derived.BigQuiet
namespace Go.Proofs.YtfalajomfcfliaaGreatDoor
open Go.RowKit

set_option maxRecDepth 1000000 in
set_option maxHeartbeats 4000000 in
theorem rformed_calls (x : Pe.Ent) (hx : x.name.length ≤ 9223372036854775807) (w : World) : Calls Tryz.prog 43 #[.agg (eCells x)] w fun e w' => e = .returned (.int .i64 (Pe.formed x)) ∧ Below w.heap.size w w' := by
  obtain ⟨B, hB⟩ : ∃ B, B = Pe.daysR x := ⟨_, rfl⟩
  obtain ⟨R, hR⟩ : ∃ R, R = Pe.rangedR x := ⟨_, rfl⟩
  obtain ⟨Y, hY⟩ : ∃ Y, Y = Pe.fieldsR x := ⟨_, rfl⟩
  obtain ⟨N, hN⟩ : ∃ N, N = Pe.isName x.name := ⟨_, rfl⟩
  have hrc := fun w0 => ranged_calls x w0
  have hfc := fun w0 => fields_calls x w0
  have hnc := fun w0 => qIsName_calls x.name hx w0
  have hv : Pe.formed x = if B = false ∨ R = false ∨ x ≠ Y then 1 else if x.kind = 1 ∧ N = false then 4 else 0 := by rw [← Pe.formed_eq, Pe.formedR, ← hB, ← hR, ← hY, ← hN]
  obtain ⟨V, hV⟩ : ∃ V, V = Pe.formed x := ⟨_, rfl⟩
  rw [← hR] at hrc
  rw [← hY] at hfc
  rw [← hN] at hnc
  rw [← hV] at hv ⊢
  have H := Lib.hid (And.intro hv (And.intro hB (And.intro hrc (And.intro hfc hnc))))
  clear hv hB hrc hfc hnc hR hY hN hx hV
  go_enter Tryz.func43, Tryz.ntmps43
  unfold eCells
  go_upto_region 1 with fail
  go_cut [3] (fun s3 wx => s3 = .bool B ∧ wx = w.alloc (.cells #[.int .i64 x.day, .int .u8 (x.kind : Int), .int .i64 x.since, .int .i64 x.til, .int .i64 x.person, .int .i64 x.place, .int .i64 x.other, .int .i64 x.at_, .int .i64 x.order, .string (bs x.name)] 29))
  case first =>
    cases hz : (x.til == 0)
    all_goals
      have HZ := Lib.hid hz
      go_wp2
      all_goals
        go_meet
        refine ⟨?_, rfl⟩
        rw [H.out.2.1]
        refine congrArg Value.bool ?_
        have hz2 := HZ.out
        unfold Pe.daysR
        rw [Bool.eq_iff_iff]
        simp only [Bool.or_eq_true, Bool.and_eq_true, decide_eq_true_eq, beq_iff_eq, beq_eq_false_iff_ne] at hz2 ⊢
        first | omega | (simp <;> omega)
  case rest =>
    obtain ⟨rfl, rfl⟩ := hcut
    apply_assumption
    obtain ⟨ex, hex⟩ : ∃ ex, ex = w.heap.size := ⟨_, rfl⟩
    obtain ⟨w0, hw0⟩ : ∃ w0, w0 = w.alloc (.cells (eCells x) 29) := ⟨_, rfl⟩
    have hB0 : Below w.heap.size w w0 := by rw [hw0]; exact (Below.refl _ w).alloc (Nat.le_refl _) _
    have hE0 : Blk w0 ex 29 (eCells x) := by rw [hw0, hex]; exact Blk.fresh _ _ _
    unfold eCells at hw0
    rw [← hw0, ← hex]
    have H0 := Lib.hid (And.intro hB0 (And.intro hE0 hex))
    clear hB0 hE0 hw0 hex
    have c0 : w0.cell? ⟨ex, 0, none⟩ = some (.int .i64 x.day) := H0.out.2.1.cell 0
    have c1 : w0.cell? ⟨ex, 1, none⟩ = some (.int .u8 (x.kind : Int)) := H0.out.2.1.cell 1
    have c2 : w0.cell? ⟨ex, 2, none⟩ = some (.int .i64 x.since) := H0.out.2.1.cell 2
    have c3 : w0.cell? ⟨ex, 3, none⟩ = some (.int .i64 x.til) := H0.out.2.1.cell 3
    have c4 : w0.cell? ⟨ex, 4, none⟩ = some (.int .i64 x.person) := H0.out.2.1.cell 4
    have c5 : w0.cell? ⟨ex, 5, none⟩ = some (.int .i64 x.place) := H0.out.2.1.cell 5
    have c6 : w0.cell? ⟨ex, 6, none⟩ = some (.int .i64 x.other) := H0.out.2.1.cell 6
    have c7 : w0.cell? ⟨ex, 7, none⟩ = some (.int .i64 x.at_) := H0.out.2.1.cell 7
    have c8 : w0.cell? ⟨ex, 8, none⟩ = some (.int .i64 x.order) := H0.out.2.1.cell 8
    have c9 : w0.cell? ⟨ex, 9, none⟩ = some (.string (bs x.name)) := H0.out.2.1.cell 9
    go_wp2_with fail
    refine (H.out.2.2.1 w0).mono ?_
    rintro e w1 ⟨rfl, hB1⟩
    have H1 := Lib.hid (And.intro (H0.out.1.trans (hB1.mono H0.out.1.size)) (H0.out.2.1.below hB1 H0.out.2.1.lt))
    clear hB1
    clear c0 c1 c2 c3 c4 c5 c6 c7 c8 c9
    have c0 : w1.cell? ⟨ex, 0, none⟩ = some (.int .i64 x.day) := H1.out.2.cell 0
    have c1 : w1.cell? ⟨ex, 1, none⟩ = some (.int .u8 (x.kind : Int)) := H1.out.2.cell 1
    have c2 : w1.cell? ⟨ex, 2, none⟩ = some (.int .i64 x.since) := H1.out.2.cell 2
    have c3 : w1.cell? ⟨ex, 3, none⟩ = some (.int .i64 x.til) := H1.out.2.cell 3
    have c4 : w1.cell? ⟨ex, 4, none⟩ = some (.int .i64 x.person) := H1.out.2.cell 4
    have c5 : w1.cell? ⟨ex, 5, none⟩ = some (.int .i64 x.place) := H1.out.2.cell 5
    have c6 : w1.cell? ⟨ex, 6, none⟩ = some (.int .i64 x.other) := H1.out.2.cell 6
    have c7 : w1.cell? ⟨ex, 7, none⟩ = some (.int .i64 x.at_) := H1.out.2.cell 7
    have c8 : w1.cell? ⟨ex, 8, none⟩ = some (.int .i64 x.order) := H1.out.2.cell 8
    have c9 : w1.cell? ⟨ex, 9, none⟩ = some (.string (bs x.name)) := H1.out.2.cell 9
    dsimp only
    go_wp2_with fail
    refine (H.out.2.2.2.1 w1).mono ?_
    rintro e w2 ⟨rfl, hB2⟩
    have H2 := Lib.hid (And.intro (H1.out.1.trans (hB2.mono H1.out.1.size)) (H1.out.2.below hB2 H1.out.2.lt))
    clear hB2
    clear c0 c1 c2 c3 c4 c5 c6 c7 c8 c9
    dsimp only
    unfold eCells
    go_upto_region 4 with fail
    obtain ⟨ey, hey⟩ : ∃ ey, ey = w2.heap.size := ⟨_, rfl⟩
    obtain ⟨w3, hw3⟩ : ∃ w3, w3 = w2.alloc (.cells (eCells Y) 29) := ⟨_, rfl⟩
    have hB3 : Below w.heap.size w w3 := by rw [hw3]; exact H2.out.1.alloc H2.out.1.size _
    have hE3 : Blk w3 ex 29 (eCells x) := by rw [hw3]; exact H2.out.2.alloc _
    have hY3 : Blk w3 ey 29 (eCells Y) := by rw [hw3, hey]; exact Blk.fresh _ _ _
    unfold eCells at hw3
    rw [← hw3, ← hey]
    have H3 := Lib.hid (And.intro hB3 (And.intro hE3 (And.intro hY3 hey)))
    clear hB3 hE3 hY3 hw3 hey
    have c0 : w3.cell? ⟨ex, 0, none⟩ = some (.int .i64 x.day) := H3.out.2.1.cell 0
    have c1 : w3.cell? ⟨ex, 1, none⟩ = some (.int .u8 (x.kind : Int)) := H3.out.2.1.cell 1
    have c2 : w3.cell? ⟨ex, 2, none⟩ = some (.int .i64 x.since) := H3.out.2.1.cell 2
    have c3 : w3.cell? ⟨ex, 3, none⟩ = some (.int .i64 x.til) := H3.out.2.1.cell 3
    have c4 : w3.cell? ⟨ex, 4, none⟩ = some (.int .i64 x.person) := H3.out.2.1.cell 4
    have c5 : w3.cell? ⟨ex, 5, none⟩ = some (.int .i64 x.place) := H3.out.2.1.cell 5
    have c6 : w3.cell? ⟨ex, 6, none⟩ = some (.int .i64 x.other) := H3.out.2.1.cell 6
    have c7 : w3.cell? ⟨ex, 7, none⟩ = some (.int .i64 x.at_) := H3.out.2.1.cell 7
    have c8 : w3.cell? ⟨ex, 8, none⟩ = some (.int .i64 x.order) := H3.out.2.1.cell 8
    have c9 : w3.cell? ⟨ex, 9, none⟩ = some (.string (bs x.name)) := H3.out.2.1.cell 9
    have y0 : w3.cell? ⟨ey, 0, none⟩ = some (.int .i64 Y.day) := H3.out.2.2.1.cell 0
    have y1 : w3.cell? ⟨ey, 1, none⟩ = some (.int .u8 (Y.kind : Int)) := H3.out.2.2.1.cell 1
    have y2 : w3.cell? ⟨ey, 2, none⟩ = some (.int .i64 Y.since) := H3.out.2.2.1.cell 2
    have y3 : w3.cell? ⟨ey, 3, none⟩ = some (.int .i64 Y.til) := H3.out.2.2.1.cell 3
    have y4 : w3.cell? ⟨ey, 4, none⟩ = some (.int .i64 Y.person) := H3.out.2.2.1.cell 4
    have y5 : w3.cell? ⟨ey, 5, none⟩ = some (.int .i64 Y.place) := H3.out.2.2.1.cell 5
    have y6 : w3.cell? ⟨ey, 6, none⟩ = some (.int .i64 Y.other) := H3.out.2.2.1.cell 6
    have y7 : w3.cell? ⟨ey, 7, none⟩ = some (.int .i64 Y.at_) := H3.out.2.2.1.cell 7
    have y8 : w3.cell? ⟨ey, 8, none⟩ = some (.int .i64 Y.order) := H3.out.2.2.1.cell 8
    have y9 : w3.cell? ⟨ey, 9, none⟩ = some (.string (bs Y.name)) := H3.out.2.2.1.cell 9
    cases B
    · go_wp2
      go_ret
      refine ⟨?_, H3.out.1⟩
      rw [H.out.1]; simp
    cases R
    · go_wp2
      go_ret
      refine ⟨?_, H3.out.1⟩
      rw [H.out.1]; simp
    have hq : ∀ w0, (binOp .neq 29 (.agg (eCells x)) (.agg (eCells Y))).run Tryz.prog w0 = .ok (.bool (!decide (x = Y))) w0 := fun w0 => neq_ent x Y w0
    unfold eCells at hq
    by_cases hxy : x = Y
    case neg =>
      have hd1 : (!decide (x = Y)) = true := by simp [hxy]
      rw [hd1] at hq
      have HX := Lib.hid hxy
      clear hxy hd1
      go_wp2
      go_ret
      refine ⟨?_, H3.out.1⟩
      rw [H.out.1]; simp [HX.out]
    have hd1 : (!decide (x = Y)) = false := by simp [hxy]
    rw [hd1] at hq
    have HX := Lib.hid hxy
    clear hxy hd1
    go_wp2_with fail
    refine (H.out.2.2.2.2 w3).mono ?_
    rintro e w4 ⟨rfl, rfl⟩
    dsimp only
    by_cases hk : x.kind = 1
    · have q1 : ((x.kind : Int) == 1) = true := by rw [hk]; rfl
      have HK := Lib.hid hk
      clear hk
      cases N
      all_goals
        go_wp2
        go_ret
        refine ⟨?_, H3.out.1⟩
        have hk2 := HK.out
        rw [HX.out] at hk2
        rw [H.out.1]; simp [HX.out, hk2]
    · have q1 : ((x.kind : Int) == 1) = false := by simp; omega
      have HK := Lib.hid hk
      clear hk
      go_wp2
      go_ret
      refine ⟨?_, H3.out.1⟩
      have hk2 := HK.out
      rw [HX.out] at hk2
      rw [H.out.1]; simp [HX.out, hk2]

end Go.Proofs.YtfalajomfcfliaaGreatDoor
