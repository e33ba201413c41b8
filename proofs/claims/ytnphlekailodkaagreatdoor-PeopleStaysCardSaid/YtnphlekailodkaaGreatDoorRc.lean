/-
  Where a person is reached; the target of an order.
-/
import Derived.Test.YtnphlekailodkaaGreatDoorHh
import Derived.Test.YtnphlekailodkaaGreatDoorRd1
namespace Go.Proofs.YtnphlekailodkaaGreatDoor
open Go.RowKit

/-- The cells of a pair. -/
def pCells (c : Pe.Pair) : Array Value := #[.int .i64 c.1, .int .i64 c.2]
theorem infoCand : (Tryz.prog.info? 28).map (·.size) = some 2 := by kernel_rfl

set_option maxRecDepth 1000000 in
set_option maxHeartbeats 4000000 in
theorem reached_calls (A : Option Addr) (n c : Nat) (l : List Pe.Ent) (p d : Int) (w : World) (h : EntsAt w A n l) :
    Calls Tryz.prog 68 #[.slice A n c, .int .i64 p, .int .i64 d] w fun e w' => e = .returned (.tuple #[.agg (pCells (Pe.reached l p d).1), .bool (Pe.reached l p d).2]) ∧ Below w.heap.size w w' := by
  have H := Lib.hid h
  clear h
  go_enter Tryz.func68, Tryz.ntmps68
  go_wp2_with fail
  obtain ⟨b, hb⟩ : ∃ b, b = w.heap.size := ⟨_, rfl⟩
  obtain ⟨w1, hw1⟩ : ∃ w1, w1 = w.alloc (.cells #[.int .i64 0, .int .i64 0] 28) := ⟨_, rfl⟩
  have hB1 : Below w.heap.size w w1 := by rw [hw1]; exact (Below.refl _ w).alloc (Nat.le_refl _) _
  have hC1 : Blk w1 b 28 #[.int .i64 0, .int .i64 0] := by rw [hw1, hb]; exact Blk.fresh w _ _
  rw [← hb, ← hw1]
  have H1 := Lib.hid (And.intro hB1 (And.intro hC1 hb))
  clear hB1 hC1 hw1 hb
  refine (Dead_calls A n c l p d w1 (H.out.below H1.out.1)).mono ?_
  rintro e w2 ⟨rfl, hb2⟩
  have hC2 := H1.out.2.1.below hb2 H1.out.2.1.lt
  have c0 : w2.cell? ⟨b, 0, none⟩ = some (.int .i64 0) := hC2.cell 0
  have c1 : w2.cell? ⟨b, 1, none⟩ = some (.int .i64 0) := hC2.cell 1
  have f0 : w2.frozen? ⟨b, 0, none⟩ = false := hC2.frozen 0
  have f1 : w2.frozen? ⟨b, 1, none⟩ = false := hC2.frozen 1
  have H2 := Lib.hid (And.intro (H1.out.1.trans (hb2.mono H1.out.1.size)) hC2)
  clear hb2 hC2
  dsimp only
  cases hd : Pe.dead l p d
  · have HD := Lib.hid hd
    clear hd
    go_wp2_with fail
    refine (Home_calls A n c l p d w2 (H.out.below H2.out.1)).mono ?_
    rintro e w3 ⟨rfl, hb3⟩
    have hC3 := H2.out.2.below hb3 H2.out.2.lt
    clear c0 c1 f0 f1
    have c0 : w3.cell? ⟨b, 0, none⟩ = some (.int .i64 0) := hC3.cell 0
    have c1 : w3.cell? ⟨b, 1, none⟩ = some (.int .i64 0) := hC3.cell 1
    have f0 : w3.frozen? ⟨b, 0, none⟩ = false := hC3.frozen 0
    have f1 : w3.frozen? ⟨b, 1, none⟩ = false := hC3.frozen 1
    have H3 := Lib.hid (And.intro (H2.out.1.trans (hb3.mono H2.out.1.size)) hC3)
    clear hb3 hC3
    dsimp only
    go_wp2
    have hr : Pe.reached l p d = ((p, (Pe.home? l p d).getD 0), (Pe.home? l p d).isSome) := by unfold Pe.reached; rw [if_neg (by rw [HD.out]; simp)]
    refine bodyPost_ret (results_row2 (P := Tryz.prog) (fn := Tryz.f68) rfl _ _ b (pCells (Pe.reached l p d).1) _ rfl (by rw [hr]; exact (H3.out.2.put 0 _).put 1 _) Tryz.underlying28 rfl infoCand) rfl ⟨?_, ?_⟩
    · rw [hr]; rfl
    · exact (H3.out.1.setCell (p := ⟨b, 0, none⟩) (by have := H1.out.2.2; simp; omega) _).setCell (p := ⟨b, 1, none⟩) (by have := H1.out.2.2; simp; omega) _
  · have HD := Lib.hid hd
    clear hd
    go_wp2
    have hr : Pe.reached l p d = ((p, 0), true) := by unfold Pe.reached; rw [if_pos HD.out]
    refine bodyPost_ret (results_row2 (P := Tryz.prog) (fn := Tryz.f68) rfl _ _ b (pCells (Pe.reached l p d).1) _ rfl (by rw [hr]; exact (H2.out.2.put 0 _).put 1 _) Tryz.underlying28 rfl infoCand) rfl ⟨?_, ?_⟩
    · rw [hr]; rfl
    · exact (H2.out.1.setCell (p := ⟨b, 0, none⟩) (by have := H1.out.2.2; simp; omega) _).setCell (p := ⟨b, 1, none⟩) (by have := H1.out.2.2; simp; omega) _

set_option maxRecDepth 1000000 in
set_option maxHeartbeats 4000000 in
theorem target_calls (A : Option Addr) (n c : Nat) (l : List Pe.Ent) (x : Pe.Ent) (d : Int) (w : World) (h : EntsAt w A n l) :
    Calls Tryz.prog 67 #[.slice A n c, .agg (eCells x), .int .i64 d] w fun e w' => e = .returned (.tuple #[.agg (pCells (Pe.target l x d).1), .bool (Pe.target l x d).2]) ∧ Below w.heap.size w w' := by
  have H := Lib.hid h
  clear h
  go_enter Tryz.func67, Tryz.ntmps67
  unfold eCells
  go_upto_region 1 with fail
  obtain ⟨b, hb⟩ : ∃ b, b = w.heap.size := ⟨_, rfl⟩
  obtain ⟨w1, hw1⟩ : ∃ w1, w1 = (w.alloc (.cells (eCells x) 31)).alloc (.cells #[.int .i64 0, .int .i64 0] 28) := ⟨_, rfl⟩
  have hB1 : Below w.heap.size w w1 := by rw [hw1]; exact ((Below.refl _ w).alloc (Nat.le_refl _) _).alloc (by simp) _
  have hE1 : Blk w1 b 31 (eCells x) := by rw [hw1, hb]; exact (Blk.fresh w _ _).alloc _
  have hC1 : Blk w1 (b + 1) 28 #[.int .i64 0, .int .i64 0] := by rw [hw1, hb]; have := Blk.fresh (w.alloc (.cells (eCells x) 31)) 28 #[.int .i64 0, .int .i64 0]; simpa using this
  unfold eCells at hw1
  rw [← hb, ← hw1]
  have H1 := Lib.hid (And.intro hB1 (And.intro hC1 (And.intro hE1 hb)))
  clear hB1 hC1 hE1 hw1 hb
  have e6 : w1.cell? ⟨b, 6, none⟩ = some (.int .i64 x.other) := H1.out.2.2.1.cell 6
  have e7 : w1.cell? ⟨b, 7, none⟩ = some (.int .i64 x.at_) := H1.out.2.2.1.cell 7
  have c0 : w1.cell? ⟨b + 1, 0, none⟩ = some (.int .i64 0) := H1.out.2.1.cell 0
  have c1 : w1.cell? ⟨b + 1, 1, none⟩ = some (.int .i64 0) := H1.out.2.1.cell 1
  have f0 : w1.frozen? ⟨b + 1, 0, none⟩ = false := H1.out.2.1.frozen 0
  have f1 : w1.frozen? ⟨b + 1, 1, none⟩ = false := H1.out.2.1.frozen 1
  by_cases ha : x.at_ = 0
  · have d1 : (x.at_ != 0) = false := by simp [ha]
    have HA := Lib.hid ha
    clear ha
    go_wp2_with fail
    refine (reached_calls A n c l x.other d w1 (H.out.below H1.out.1)).mono ?_
    rintro e w2 ⟨rfl, hb2⟩
    have hr : Pe.target l x d = Pe.reached l x.other d := by unfold Pe.target; rw [if_neg (by simp [HA.out])]
    rw [← hr]
    have HR := Lib.hid hr
    clear hr c0 c1 f0 f1 e6 e7
    have hC2 := H1.out.2.1.below hb2 H1.out.2.1.lt
    have c0 : w2.cell? ⟨b + 1, 0, none⟩ = some (.int .i64 0) := hC2.cell 0
    have c1 : w2.cell? ⟨b + 1, 1, none⟩ = some (.int .i64 0) := hC2.cell 1
    have f0 : w2.frozen? ⟨b + 1, 0, none⟩ = false := hC2.frozen 0
    have f1 : w2.frozen? ⟨b + 1, 1, none⟩ = false := hC2.frozen 1
    have H2 := Lib.hid (And.intro (H1.out.1.trans (hb2.mono H1.out.1.size)) hC2)
    clear hb2 hC2
    unfold pCells
    dsimp only
    go_wp2
    refine bodyPost_ret (results_row2 (P := Tryz.prog) (fn := Tryz.f67) rfl _ _ (b + 1) (pCells (Pe.target l x d).1) _ rfl ((H2.out.2.put 0 _).put 1 _) Tryz.underlying28 rfl infoCand) rfl ⟨rfl, ?_⟩
    exact (H2.out.1.setCell (p := ⟨b + 1, 0, none⟩) (by have := H1.out.2.2.2; simp; omega) _).setCell (p := ⟨b + 1, 1, none⟩) (by have := H1.out.2.2.2; simp; omega) _
  · have d1 : (x.at_ != 0) = true := by simp [ha]
    have HA := Lib.hid ha
    clear ha
    go_wp2
    have hr : Pe.target l x d = ((x.other, x.at_), true) := by unfold Pe.target; rw [if_pos HA.out]
    refine bodyPost_ret (results_row2 (P := Tryz.prog) (fn := Tryz.f67) rfl _ _ (b + 1) (pCells (Pe.target l x d).1) _ rfl (by rw [hr]; exact (H1.out.2.1.put 0 _).put 1 _) Tryz.underlying28 rfl infoCand) rfl ⟨by rw [hr]; rfl, ?_⟩
    exact (H1.out.1.setCell (p := ⟨b + 1, 0, none⟩) (by have := H1.out.2.2.2; simp; omega) _).setCell (p := ⟨b + 1, 1, none⟩) (by have := H1.out.2.2.2; simp; omega) _

end Go.Proofs.YtnphlekailodkaaGreatDoor
