/-
  The chapter's examples hold.
-/
import Derived.Test.YtnphlekailodkaaGreatDoorAv1
import Derived.Test.YtnphlekailodkaaGreatDoorFw
namespace Go.Proofs.YtnphlekailodkaaGreatDoor
open Go.RowKit Go.Shelf

namespace Pe
theorem follow_r : follow sampleL (2, 8) 0 65 = (⟨1, (1, 9), [⟨2, (2, 8), (1, 9), 0⟩], 0⟩, 0) := by
  have h : followArg (2, 8) 0 65 = true := by decide
  unfold follow
  rw [if_pos h, followFromR_eq]
  exact congrArg (·, (0 : Int)) sample_r
theorem follow_s : (follow sampleL (1, 9) 2 72).1.kind = 2 ∧ (follow sampleL (1, 9) 2 72).2 = 0 := by
  have h : followArg (1, 9) 2 72 = true := by decide
  unfold follow
  rw [if_pos h, followFromR_eq]
  exact ⟨sample_s, rfl⟩
theorem follow_t : (follow sampleL (1, 7) 0 80).1.kind = 4 ∧ (follow sampleL (1, 7) 0 80).2 = 0 := by
  have h : followArg (1, 7) 0 80 = true := by decide
  unfold follow
  rw [if_pos h, followFromR_eq]
  exact ⟨sample_t, rfl⟩
end Pe

set_option maxRecDepth 1000000 in
set_option maxHeartbeats 8000000 in
theorem alive_calls (w : World) (hL : Laid w) : Calls Tryz.prog 16 #[] w fun e w' => e = .returned (.bool true) ∧ Below w.heap.size w w' := by
  have H := Lib.hid hL
  clear hL
  go_enter Tryz.func16, Tryz.ntmps16
  go_wp2_with fail
  refine (sample_calls w H.out).mono ?_
  rintro e w1 ⟨A, c, rfl, hE1, hb1⟩
  have H1 := Lib.hid (And.intro hE1 hb1)
  clear hE1 hb1
  dsimp only
  go_wp2_with fail
  refine (Follow_calls A 9 c Pe.sampleL (2, 8) 0 65 w1 H1.out.1 (by omega)).mono ?_
  rintro e w2 ⟨⟨v, rfl, ho⟩, hb2⟩
  rw [Pe.follow_r] at ho ⊢
  have ho1 : w2.ownsRow w1.heap.size 66 6 v 1 (hRow [⟨2, (2, 8), (1, 9), 0⟩]) := ho
  obtain ⟨g, cap, rfl, hbg, hlt, _⟩ := own_form ho1 (by decide)
  have hcell : w2.cell? ⟨g, 0, none⟩ = some (.int .u8 2) := by
    have h6 := own_range ho1 0 [.int .u8 2] (fun q u hu => by
      match q, hu with
      | 0, hu => simp at hu; subst hu; rfl)
    exact h6 0 _ rfl
  have H2 := Lib.hid (And.intro (H1.out.1.below hb2) (And.intro (H1.out.2.trans (hb2.mono H1.out.2.size)) (And.intro hcell hlt)))
  clear ho ho1 hb2 hcell hlt hbg
  rw [show rCells ((⟨1, (1, 9), [⟨2, (2, 8), (1, 9), 0⟩], 0⟩ : Pe.Route), (0 : Int)).1 (.slice (some ⟨g, 0, none⟩) 1 cap) = #[.int .u8 1, .int .i64 1, .int .i64 9, .slice (some ⟨g, 0, none⟩) 1 cap, .int .i64 0] from rfl]
  dsimp only
  go_upto_region 5 with fail
  obtain ⟨b, hb⟩ : ∃ b, b = w2.heap.size := ⟨_, rfl⟩
  obtain ⟨w3, hw3⟩ : ∃ w3, w3 = w2.alloc (.cells #[.int .u8 1, .int .i64 1, .int .i64 9, .slice (some ⟨g, 0, none⟩) 1 cap, .int .i64 0] 34) := ⟨_, rfl⟩
  have hb23 : Below w2.heap.size w2 w3 := by rw [hw3]; exact (Below.refl _ w2).alloc (Nat.le_refl _) _
  have hR3 : Blk w3 b 34 #[.int .u8 1, .int .i64 1, .int .i64 9, .slice (some ⟨g, 0, none⟩) 1 cap, .int .i64 0] := by rw [hw3, hb]; exact Blk.fresh _ _ _
  rw [← hb, ← hw3]
  have H3 := Lib.hid (And.intro hb23 (And.intro hR3 (H2.out.1.below hb23)))
  clear hb hw3 hb23 hR3
  go_wp2_with fail
  refine (Follow_calls A 9 c Pe.sampleL (1, 9) 2 72 w3 H3.out.2.2 (by omega)).mono ?_
  rintro e w4 ⟨⟨v4, rfl, ho4⟩, hb4⟩
  have H4 := Lib.hid (And.intro hb4 (H3.out.2.2.below hb4))
  obtain ⟨R4, hR4⟩ : ∃ R4, R4 = Pe.follow Pe.sampleL (1, 9) 2 72 := ⟨_, rfl⟩
  have hk4 := Pe.follow_s
  rw [← hR4] at hk4 ho4 ⊢
  unfold rCells
  rw [hk4.1, hk4.2]
  obtain ⟨m4, hm4⟩ : ∃ m, m = R4.1.hops.length := ⟨_, rfl⟩
  rw [← hm4] at ho4
  obtain ⟨A4, c4, rfl, _, _⟩ := own_shape ho4
  clear ho4 hb4 hR4 hk4 hm4
  dsimp only
  go_upto_region 6 with fail
  obtain ⟨b4, hb4⟩ : ∃ b4, b4 = w4.heap.size := ⟨_, rfl⟩
  obtain ⟨w5, hw5⟩ : ∃ w5, w5 = w4.alloc (.cells #[.int .u8 2, .int .i64 R4.1.fin.1, .int .i64 R4.1.fin.2, .slice A4 m4 c4, .int .i64 (R4.1.back : Int)] 34) := ⟨_, rfl⟩
  have hb45 : Below w4.heap.size w4 w5 := by rw [hw5]; exact (Below.refl _ w4).alloc (Nat.le_refl _) _
  have hR5 : Blk w5 b4 34 #[.int .u8 2, .int .i64 R4.1.fin.1, .int .i64 R4.1.fin.2, .slice A4 m4 c4, .int .i64 (R4.1.back : Int)] := by rw [hw5, hb4]; exact Blk.fresh _ _ _
  rw [← hb4, ← hw5]
  have H5 := Lib.hid (And.intro hb45 (And.intro hR5 (H4.out.2.below hb45)))
  clear hb4 hw5 hb45 hR5
  go_wp2_with fail
  refine (Follow_calls A 9 c Pe.sampleL (1, 7) 0 80 w5 H5.out.2.2 (by omega)).mono ?_
  rintro e w6 ⟨⟨v6, rfl, ho6⟩, hb6⟩
  have H6 := Lib.hid hb6
  obtain ⟨R6, hR6⟩ : ∃ R6, R6 = Pe.follow Pe.sampleL (1, 7) 0 80 := ⟨_, rfl⟩
  have hk6 := Pe.follow_t
  rw [← hR6] at hk6 ho6 ⊢
  unfold rCells
  rw [hk6.1, hk6.2]
  obtain ⟨m6, hm6⟩ : ∃ m, m = R6.1.hops.length := ⟨_, rfl⟩
  rw [← hm6] at ho6
  obtain ⟨A6, c6, rfl, _, _⟩ := own_shape ho6
  clear ho6 hb6 hR6 hk6 hm6
  dsimp only
  go_upto_region 8 with fail
  obtain ⟨b6, hb6⟩ : ∃ b6, b6 = w6.heap.size := ⟨_, rfl⟩
  obtain ⟨w7, hw7⟩ : ∃ w7, w7 = (w6.alloc (.cells #[.int .u8 4, .int .i64 R6.1.fin.1, .int .i64 R6.1.fin.2, .slice A6 m6 c6, .int .i64 (R6.1.back : Int)] 34)).alloc (.cells #[.int .i64 1, .int .i64 9] 28) := ⟨_, rfl⟩
  have hb67 : Below w6.heap.size w6 w7 := by rw [hw7]; exact ((Below.refl _ w6).alloc (Nat.le_refl _) _).alloc (by simp) _
  have hR7 : Blk w7 b6 34 #[.int .u8 4, .int .i64 R6.1.fin.1, .int .i64 R6.1.fin.2, .slice A6 m6 c6, .int .i64 (R6.1.back : Int)] := by rw [hw7, hb6]; exact (Blk.fresh _ _ _).alloc _
  have hP7 : Blk w7 (b6 + 1) 28 #[.int .i64 1, .int .i64 9] := by
    rw [hw7, hb6]
    have := Blk.fresh (w6.alloc (.cells #[.int .u8 4, .int .i64 R6.1.fin.1, .int .i64 R6.1.fin.2, .slice A6 m6 c6, .int .i64 (R6.1.back : Int)] 34)) 28 #[.int .i64 1, .int .i64 9]
    simpa using this
  rw [← hb6, ← hw7]
  have s1 := H4.out.1.trans (H5.out.1.mono H4.out.1.size)
  have s2 := s1.trans (H6.out.mono s1.size)
  have s3 := s2.trans (hb67.mono s2.size)
  have tt := H3.out.1.trans (s3.mono H3.out.1.size)
  have u := H6.out.trans (hb67.mono H6.out.size)
  have hR3 := H3.out.2.1.below s3 H3.out.2.1.lt
  have hR5 := H5.out.2.1.below u H5.out.2.1.lt
  have x0 : w7.cell? ⟨b, 0, none⟩ = some (.int .u8 1) := hR3.cell 0
  have x1 : w7.cell? ⟨b, 1, none⟩ = some (.int .i64 1) := hR3.cell 1
  have x2 : w7.cell? ⟨b, 2, none⟩ = some (.int .i64 9) := hR3.cell 2
  have x3 : w7.cell? ⟨b, 3, none⟩ = some (.slice (some ⟨g, 0, none⟩) 1 cap) := hR3.cell 3
  have x4 : w7.cell? ⟨g, 0, none⟩ = some (.int .u8 2) := (tt.cell (p := ⟨g, 0, none⟩) H2.out.2.2.2).trans H2.out.2.2.1
  have x5 : w7.cell? ⟨b4, 0, none⟩ = some (.int .u8 2) := hR5.cell 0
  have x6 : w7.cell? ⟨b6, 0, none⟩ = some (.int .u8 4) := hR7.cell 0
  have x7 : w7.cell? ⟨b6 + 1, 0, none⟩ = some (.int .i64 1) := hP7.cell 0
  have x8 : w7.cell? ⟨b6 + 1, 1, none⟩ = some (.int .i64 9) := hP7.cell 1
  have H7 := Lib.hid (H2.out.2.1.trans (tt.mono H2.out.2.1.size))
  clear hb67 hR7 hP7 hw7 hb6 s1 s2 s3 tt u hR3 hR5
  have hq : ∀ w0, (binOp .eql 28 (.agg #[.int .i64 1, .int .i64 9]) (.agg #[.int .i64 1, .int .i64 9])).run Tryz.prog w0 = .ok (.bool true) w0 := fun w0 => eql_pair (1, 9) (1, 9) w0
  go_wp2
  go_ret
  exact ⟨rfl, H7.out⟩

end Go.Proofs.YtnphlekailodkaaGreatDoor
