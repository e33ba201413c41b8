/-
  The reference's questions, walked: who is reached, targets, what applies, orders.
-/
import Derived.Test.YtnphlekailodkaaGreatDoorRp2
import Derived.Test.YtnphlekailodkaaGreatDoorPq
import Derived.Test.YtnphlekailodkaaGreatDoorRd1
import Derived.Test.YtnphlekailodkaaGreatDoorOr
import Derived.Test.YtnphlekailodkaaGreatDoorOrd
namespace Go.Proofs.YtnphlekailodkaaGreatDoor
open Go.RowKit

set_option maxRecDepth 1000000 in
set_option maxHeartbeats 4000000 in
theorem rReached_calls (A : Option Addr) (n c : Nat) (l : List Pe.Ent) (p d : Int) (w : World) (h : EntsAt w A n l) :
    Calls Tryz.prog 74 #[.slice A n c, .int .i64 p, .int .i64 d] w fun e w' => e = .returned (.tuple #[.agg (pCells (Pe.reached l p d).1), .bool (Pe.reached l p d).2]) ∧ Below w.heap.size w w' := by
  have H := Lib.hid h
  clear h
  go_enter Tryz.func74, Tryz.ntmps74
  go_wp2_with fail
  obtain ⟨b, hb⟩ : ∃ b, b = w.heap.size := ⟨_, rfl⟩
  obtain ⟨w1, hw1⟩ : ∃ w1, w1 = w.alloc (.cells #[.int .i64 0, .int .i64 0] 28) := ⟨_, rfl⟩
  have hB1 : Below w.heap.size w w1 := by rw [hw1]; exact (Below.refl _ w).alloc (Nat.le_refl _) _
  have hC1 : Blk w1 b 28 #[.int .i64 0, .int .i64 0] := by rw [hw1, hb]; exact Blk.fresh w _ _
  rw [← hb, ← hw1]
  have H1 := Lib.hid (And.intro hB1 (And.intro hC1 hb))
  clear hB1 hC1 hw1 hb
  refine (rDead_calls A n c l p d w1 (H.out.below H1.out.1)).mono ?_
  rintro e w2 ⟨rfl, hb2⟩
  have hC2 := H1.out.2.1.below hb2 H1.out.2.1.lt
  have c0 : w2.cell? ⟨b, 0, none⟩ = some (.int .i64 0) := hC2.cell 0
  have c1 : w2.cell? ⟨b, 1, none⟩ = some (.int .i64 0) := hC2.cell 1
  have f0 : w2.frozen? ⟨b, 0, none⟩ = false := hC2.frozen 0
  have f1 : w2.frozen? ⟨b, 1, none⟩ = false := hC2.frozen 1
  have H2 := Lib.hid (And.intro (H1.out.1.trans (hb2.mono H1.out.1.size)) hC2)
  clear hb2 hC2
  dsimp only
  cases hd : Pe.dead l p d
  · have HD := Lib.hid hd
    clear hd
    go_wp2_with fail
    refine (rHome_calls A n c l p d w2 (H.out.below H2.out.1)).mono ?_
    rintro e w3 ⟨rfl, hb3⟩
    have hC3 := H2.out.2.below hb3 H2.out.2.lt
    clear c0 c1 f0 f1
    have c0 : w3.cell? ⟨b, 0, none⟩ = some (.int .i64 0) := hC3.cell 0
    have c1 : w3.cell? ⟨b, 1, none⟩ = some (.int .i64 0) := hC3.cell 1
    have f0 : w3.frozen? ⟨b, 0, none⟩ = false := hC3.frozen 0
    have f1 : w3.frozen? ⟨b, 1, none⟩ = false := hC3.frozen 1
    have H3 := Lib.hid (And.intro (H2.out.1.trans (hb3.mono H2.out.1.size)) hC3)
    clear hb3 hC3
    dsimp only
    go_wp2
    have hr : Pe.reached l p d = ((p, (Pe.home? l p d).getD 0), (Pe.home? l p d).isSome) := by unfold Pe.reached; rw [if_neg (by rw [HD.out]; simp)]
    refine bodyPost_ret (results_row2 (P := Tryz.prog) (fn := Tryz.f74) rfl _ _ b (pCells (Pe.reached l p d).1) _ rfl (by rw [hr]; exact (H3.out.2.put 0 _).put 1 _) Tryz.underlying28 rfl infoCand) rfl ⟨?_, ?_⟩
    · rw [hr]; rfl
    · exact (H3.out.1.setCell (p := ⟨b, 0, none⟩) (by have := H1.out.2.2; simp; omega) _).setCell (p := ⟨b, 1, none⟩) (by have := H1.out.2.2; simp; omega) _
  · have HD := Lib.hid hd
    clear hd
    go_wp2
    have hr : Pe.reached l p d = ((p, 0), true) := by unfold Pe.reached; rw [if_pos HD.out]
    refine bodyPost_ret (results_row2 (P := Tryz.prog) (fn := Tryz.f74) rfl _ _ b (pCells (Pe.reached l p d).1) _ rfl (by rw [hr]; exact (H2.out.2.put 0 _).put 1 _) Tryz.underlying28 rfl infoCand) rfl ⟨?_, ?_⟩
    · rw [hr]; rfl
    · exact (H2.out.1.setCell (p := ⟨b, 0, none⟩) (by have := H1.out.2.2; simp; omega) _).setCell (p := ⟨b, 1, none⟩) (by have := H1.out.2.2; simp; omega) _

set_option maxRecDepth 1000000 in
set_option maxHeartbeats 4000000 in
theorem rtarget_calls (A : Option Addr) (n c : Nat) (l : List Pe.Ent) (x : Pe.Ent) (d : Int) (w : World) (h : EntsAt w A n l) :
    Calls Tryz.prog 72 #[.slice A n c, .agg (eCells x), .int .i64 d] w fun e w' => e = .returned (.tuple #[.agg (pCells (Pe.target l x d).1), .bool (Pe.target l x d).2]) ∧ Below w.heap.size w w' := by
  have H := Lib.hid h
  clear h
  go_enter Tryz.func72, Tryz.ntmps72
  unfold eCells
  go_upto_region 1 with fail
  obtain ⟨b, hb⟩ : ∃ b, b = w.heap.size := ⟨_, rfl⟩
  obtain ⟨w1, hw1⟩ : ∃ w1, w1 = (w.alloc (.cells (eCells x) 31)).alloc (.cells #[.int .i64 0, .int .i64 0] 28) := ⟨_, rfl⟩
  have hB1 : Below w.heap.size w w1 := by rw [hw1]; exact ((Below.refl _ w).alloc (Nat.le_refl _) _).alloc (by simp) _
  have hE1 : Blk w1 b 31 (eCells x) := by rw [hw1, hb]; exact (Blk.fresh w _ _).alloc _
  have hC1 : Blk w1 (b + 1) 28 #[.int .i64 0, .int .i64 0] := by rw [hw1, hb]; have := Blk.fresh (w.alloc (.cells (eCells x) 31)) 28 #[.int .i64 0, .int .i64 0]; simpa using this
  unfold eCells at hw1
  rw [← hb, ← hw1]
  have H1 := Lib.hid (And.intro hB1 (And.intro hC1 (And.intro hE1 hb)))
  clear hB1 hC1 hE1 hw1 hb
  have e6 : w1.cell? ⟨b, 6, none⟩ = some (.int .i64 x.other) := H1.out.2.2.1.cell 6
  have e7 : w1.cell? ⟨b, 7, none⟩ = some (.int .i64 x.at_) := H1.out.2.2.1.cell 7
  have c0 : w1.cell? ⟨b + 1, 0, none⟩ = some (.int .i64 0) := H1.out.2.1.cell 0
  have c1 : w1.cell? ⟨b + 1, 1, none⟩ = some (.int .i64 0) := H1.out.2.1.cell 1
  have f0 : w1.frozen? ⟨b + 1, 0, none⟩ = false := H1.out.2.1.frozen 0
  have f1 : w1.frozen? ⟨b + 1, 1, none⟩ = false := H1.out.2.1.frozen 1
  by_cases ha : x.at_ = 0
  · have d1 : (x.at_ != 0) = false := by simp [ha]
    have HA := Lib.hid ha
    clear ha
    go_wp2_with fail
    refine (rReached_calls A n c l x.other d w1 (H.out.below H1.out.1)).mono ?_
    rintro e w2 ⟨rfl, hb2⟩
    have hr : Pe.target l x d = Pe.reached l x.other d := by unfold Pe.target; rw [if_neg (by simp [HA.out])]
    rw [← hr]
    have HR := Lib.hid hr
    clear hr c0 c1 f0 f1 e6 e7
    have hC2 := H1.out.2.1.below hb2 H1.out.2.1.lt
    have c0 : w2.cell? ⟨b + 1, 0, none⟩ = some (.int .i64 0) := hC2.cell 0
    have c1 : w2.cell? ⟨b + 1, 1, none⟩ = some (.int .i64 0) := hC2.cell 1
    have f0 : w2.frozen? ⟨b + 1, 0, none⟩ = false := hC2.frozen 0
    have f1 : w2.frozen? ⟨b + 1, 1, none⟩ = false := hC2.frozen 1
    have H2 := Lib.hid (And.intro (H1.out.1.trans (hb2.mono H1.out.1.size)) hC2)
    clear hb2 hC2
    unfold pCells
    dsimp only
    go_wp2
    refine bodyPost_ret (results_row2 (P := Tryz.prog) (fn := Tryz.f72) rfl _ _ (b + 1) (pCells (Pe.target l x d).1) _ rfl ((H2.out.2.put 0 _).put 1 _) Tryz.underlying28 rfl infoCand) rfl ⟨rfl, ?_⟩
    exact (H2.out.1.setCell (p := ⟨b + 1, 0, none⟩) (by have := H1.out.2.2.2; simp; omega) _).setCell (p := ⟨b + 1, 1, none⟩) (by have := H1.out.2.2.2; simp; omega) _
  · have d1 : (x.at_ != 0) = true := by simp [ha]
    have HA := Lib.hid ha
    clear ha
    go_wp2
    have hr : Pe.target l x d = ((x.other, x.at_), true) := by unfold Pe.target; rw [if_pos HA.out]
    refine bodyPost_ret (results_row2 (P := Tryz.prog) (fn := Tryz.f72) rfl _ _ (b + 1) (pCells (Pe.target l x d).1) _ rfl (by rw [hr]; exact (H1.out.2.1.put 0 _).put 1 _) Tryz.underlying28 rfl infoCand) rfl ⟨by rw [hr]; rfl, ?_⟩
    exact (H1.out.1.setCell (p := ⟨b + 1, 0, none⟩) (by have := H1.out.2.2.2; simp; omega) _).setCell (p := ⟨b + 1, 1, none⟩) (by have := H1.out.2.2.2; simp; omega) _


theorem applies_eq (l : List Pe.Ent) (cd : Pe.Pair) (d : Int) (x : Pe.Ent) : Pe.applies l cd d x = (!((x.kind : Int) != 5) && !(x.person != cd.1) && (!(x.place != 0) || !(x.place != cd.2)) && (!Pe.dead l cd.1 d && x.on d && !Pe.cancelled l x.order d && (!(Pe.target l x d).2 || !decide ((Pe.target l x d).1 = cd)))) := by
  unfold Pe.applies
  have e : ∀ t : Pe.Pair × Bool, (t == (cd, true)) = (t.2 && decide (t.1 = cd)) := by
    rintro ⟨p, f⟩
    rw [Bool.eq_iff_iff]
    cases f <;> simp
  rw [e, show ((x.kind : Int) != 5) = !(x.kind == 5) from by rw [← nat_beq x.kind 5]; rfl]
  simp [bne]
theorem appl_no : ∀ {k p q r D o c t u : Bool}, (k = true ∨ p = true ∨ (q = true ∧ r = true)) → (!k && !p && (!q || !r) && (!D && o && !c && (!t || !u))) = false := by decide
theorem appl_yes : ∀ {k p q r D o c t u : Bool}, k = false → p = false → (q = false ∨ r = false) → (!k && !p && (!q || !r) && (!D && o && !c && (!t || !u))) = (!D && o && !c && (!t || !u)) := by decide

set_option maxRecDepth 1000000 in
set_option maxHeartbeats 8000000 in
theorem rapplies_calls (A : Option Addr) (n c : Nat) (l : List Pe.Ent) (x : Pe.Ent) (cd : Pe.Pair) (d : Int) (w : World) (h : EntsAt w A n l) :
    Calls Tryz.prog 149 #[.slice A n c, .agg (eCells x), .agg (pCells cd), .int .i64 d] w fun e w' => e = .returned (.bool (Pe.applies l cd d x)) ∧ Below w.heap.size w w' := by
  have H := Lib.hid h
  obtain ⟨V, hV⟩ : ∃ V, V = Pe.applies l cd d x := ⟨_, rfl⟩
  rw [← hV]
  rw [applies_eq] at hV
  obtain ⟨D, hD⟩ : ∃ D, D = Pe.dead l cd.1 d := ⟨_, rfl⟩
  obtain ⟨O, hO⟩ : ∃ O, O = x.on d := ⟨_, rfl⟩
  obtain ⟨C, hC⟩ : ∃ C, C = Pe.cancelled l x.order d := ⟨_, rfl⟩
  obtain ⟨⟨T, I⟩, hT⟩ : ∃ z, z = Pe.target l x d := ⟨_, rfl⟩
  rw [← hD, ← hO, ← hC, ← hT] at hV
  have hdc := fun w0 (hb : Below w.heap.size w w0) => rDead_calls A n c l cd.1 d w0 (H.out.below hb)
  have hoc := fun w0 => rHolds_calls x d w0
  have hcc := fun w0 (hb : Below w.heap.size w w0) => rcancelled_calls A n c l x.order d w0 (H.out.below hb)
  have htc := fun w0 (hb : Below w.heap.size w w0) => rtarget_calls A n c l x d w0 (H.out.below hb)
  rw [← hD] at hdc
  rw [← hO] at hoc
  rw [← hC] at hcc
  rw [← hT] at htc
  have HV := Lib.hid hV
  have HC := Lib.hid (And.intro hdc (And.intro hcc htc))
  unfold eCells at hoc
  have HO := Lib.hid hoc
  clear hdc hoc hcc htc hD hO hC hT h hV
  go_enter Tryz.func149, Tryz.ntmps149
  unfold eCells pCells
  go_upto_region 1 with fail
  obtain ⟨b, hb⟩ : ∃ b, b = w.heap.size := ⟨_, rfl⟩
  obtain ⟨w1, hw1⟩ : ∃ w1, w1 = (w.alloc (.cells (eCells x) 31)).alloc (.cells (pCells cd) 28) := ⟨_, rfl⟩
  have hB1 : Below w.heap.size w w1 := by rw [hw1]; exact ((Below.refl _ w).alloc (Nat.le_refl _) _).alloc (by simp) _
  have hE1 : Blk w1 b 31 (eCells x) := by rw [hw1, hb]; exact (Blk.fresh w _ _).alloc _
  have hC1 : Blk w1 (b + 1) 28 (pCells cd) := by rw [hw1, hb]; have := Blk.fresh (w.alloc (.cells (eCells x) 31)) 28 (pCells cd); simpa using this
  unfold eCells pCells at hw1
  rw [← hb, ← hw1]
  have H1 := Lib.hid (And.intro hB1 (And.intro hC1 hE1))
  clear hB1 hC1 hE1 hw1 hb
  have c0 : w1.cell? ⟨b, 0, none⟩ = some (.int .i64 x.day) := H1.out.2.2.cell 0
  have c1 : w1.cell? ⟨b, 1, none⟩ = some (.int .u8 (x.kind : Int)) := H1.out.2.2.cell 1
  have c2 : w1.cell? ⟨b, 2, none⟩ = some (.int .i64 x.since) := H1.out.2.2.cell 2
  have c3 : w1.cell? ⟨b, 3, none⟩ = some (.int .i64 x.til) := H1.out.2.2.cell 3
  have c4 : w1.cell? ⟨b, 4, none⟩ = some (.int .i64 x.person) := H1.out.2.2.cell 4
  have c5 : w1.cell? ⟨b, 5, none⟩ = some (.int .i64 x.place) := H1.out.2.2.cell 5
  have c6 : w1.cell? ⟨b, 6, none⟩ = some (.int .i64 x.other) := H1.out.2.2.cell 6
  have c7 : w1.cell? ⟨b, 7, none⟩ = some (.int .i64 x.at_) := H1.out.2.2.cell 7
  have c8 : w1.cell? ⟨b, 8, none⟩ = some (.int .i64 x.order) := H1.out.2.2.cell 8
  have c9 : w1.cell? ⟨b, 9, none⟩ = some (.string (bs x.name)) := H1.out.2.2.cell 9
  have k0 : w1.cell? ⟨b + 1, 0, none⟩ = some (.int .i64 cd.1) := H1.out.2.1.cell 0
  have k1 : w1.cell? ⟨b + 1, 1, none⟩ = some (.int .i64 cd.2) := H1.out.2.1.cell 1
  cases h1 : ((x.kind : Int) != 5)
  case true =>
    have HQ := Lib.hid h1
    go_wp2
    go_ret
    exact ⟨by rw [HV.out, appl_no (.inl HQ.out)]; rfl, H1.out.1⟩
  cases h2 : (x.person != cd.1)
  case true =>
    have HQ := Lib.hid h2
    go_wp2
    go_ret
    exact ⟨by rw [HV.out, appl_no (.inr (.inl HQ.out))]; rfl, H1.out.1⟩
  have HQ1 := Lib.hid (And.intro h1 h2)
  cases h3 : (x.place != 0)
  case false =>
    have HQ := Lib.hid h3
    have HV2 := Lib.hid (show V = (!D && O && !C && (!I || !decide (T = cd))) by rw [HV.out, appl_yes HQ1.out.1 HQ1.out.2 (.inl HQ.out)])
    go_upto_region 3 with fail
    clear h1 h2 h3
    go_wp2_with fail
    refine (HC.out.1 w1 H1.out.1).mono ?_
    rintro e w2 ⟨rfl, hb2⟩
    have H2 := Lib.hid (And.intro (H1.out.1.trans (hb2.mono H1.out.1.size)) (And.intro (H1.out.2.1.below hb2 H1.out.2.1.lt) (H1.out.2.2.below hb2 H1.out.2.2.lt)))
    clear c0 c1 c2 c3 c4 c5 c6 c7 c8 c9
    clear hb2 k0 k1
    have c0 : w2.cell? ⟨b, 0, none⟩ = some (.int .i64 x.day) := H2.out.2.2.cell 0
    have c1 : w2.cell? ⟨b, 1, none⟩ = some (.int .u8 (x.kind : Int)) := H2.out.2.2.cell 1
    have c2 : w2.cell? ⟨b, 2, none⟩ = some (.int .i64 x.since) := H2.out.2.2.cell 2
    have c3 : w2.cell? ⟨b, 3, none⟩ = some (.int .i64 x.til) := H2.out.2.2.cell 3
    have c4 : w2.cell? ⟨b, 4, none⟩ = some (.int .i64 x.person) := H2.out.2.2.cell 4
    have c5 : w2.cell? ⟨b, 5, none⟩ = some (.int .i64 x.place) := H2.out.2.2.cell 5
    have c6 : w2.cell? ⟨b, 6, none⟩ = some (.int .i64 x.other) := H2.out.2.2.cell 6
    have c7 : w2.cell? ⟨b, 7, none⟩ = some (.int .i64 x.at_) := H2.out.2.2.cell 7
    have c8 : w2.cell? ⟨b, 8, none⟩ = some (.int .i64 x.order) := H2.out.2.2.cell 8
    have c9 : w2.cell? ⟨b, 9, none⟩ = some (.string (bs x.name)) := H2.out.2.2.cell 9
    dsimp only
    go_wp2_with fail
    refine (HO.out w2).mono ?_
    rintro e w3 ⟨rfl, hb3⟩
    have H3 := Lib.hid (And.intro (H2.out.1.trans (hb3.mono H2.out.1.size)) (And.intro (H2.out.2.1.below hb3 H2.out.2.1.lt) (H2.out.2.2.below hb3 H2.out.2.2.lt)))
    clear c0 c1 c2 c3 c4 c5 c6 c7 c8 c9
    clear hb3
    have c0 : w3.cell? ⟨b, 0, none⟩ = some (.int .i64 x.day) := H3.out.2.2.cell 0
    have c1 : w3.cell? ⟨b, 1, none⟩ = some (.int .u8 (x.kind : Int)) := H3.out.2.2.cell 1
    have c2 : w3.cell? ⟨b, 2, none⟩ = some (.int .i64 x.since) := H3.out.2.2.cell 2
    have c3 : w3.cell? ⟨b, 3, none⟩ = some (.int .i64 x.til) := H3.out.2.2.cell 3
    have c4 : w3.cell? ⟨b, 4, none⟩ = some (.int .i64 x.person) := H3.out.2.2.cell 4
    have c5 : w3.cell? ⟨b, 5, none⟩ = some (.int .i64 x.place) := H3.out.2.2.cell 5
    have c6 : w3.cell? ⟨b, 6, none⟩ = some (.int .i64 x.other) := H3.out.2.2.cell 6
    have c7 : w3.cell? ⟨b, 7, none⟩ = some (.int .i64 x.at_) := H3.out.2.2.cell 7
    have c8 : w3.cell? ⟨b, 8, none⟩ = some (.int .i64 x.order) := H3.out.2.2.cell 8
    have c9 : w3.cell? ⟨b, 9, none⟩ = some (.string (bs x.name)) := H3.out.2.2.cell 9
    dsimp only
    go_wp2_with fail
    refine (HC.out.2.1 w3 H3.out.1).mono ?_
    rintro e w4 ⟨rfl, hb4⟩
    have H4 := Lib.hid (And.intro (H3.out.1.trans (hb4.mono H3.out.1.size)) (And.intro (H3.out.2.1.below hb4 H3.out.2.1.lt) (H3.out.2.2.below hb4 H3.out.2.2.lt)))
    clear c0 c1 c2 c3 c4 c5 c6 c7 c8 c9
    clear hb4
    have c0 : w4.cell? ⟨b, 0, none⟩ = some (.int .i64 x.day) := H4.out.2.2.cell 0
    have c1 : w4.cell? ⟨b, 1, none⟩ = some (.int .u8 (x.kind : Int)) := H4.out.2.2.cell 1
    have c2 : w4.cell? ⟨b, 2, none⟩ = some (.int .i64 x.since) := H4.out.2.2.cell 2
    have c3 : w4.cell? ⟨b, 3, none⟩ = some (.int .i64 x.til) := H4.out.2.2.cell 3
    have c4 : w4.cell? ⟨b, 4, none⟩ = some (.int .i64 x.person) := H4.out.2.2.cell 4
    have c5 : w4.cell? ⟨b, 5, none⟩ = some (.int .i64 x.place) := H4.out.2.2.cell 5
    have c6 : w4.cell? ⟨b, 6, none⟩ = some (.int .i64 x.other) := H4.out.2.2.cell 6
    have c7 : w4.cell? ⟨b, 7, none⟩ = some (.int .i64 x.at_) := H4.out.2.2.cell 7
    have c8 : w4.cell? ⟨b, 8, none⟩ = some (.int .i64 x.order) := H4.out.2.2.cell 8
    have c9 : w4.cell? ⟨b, 9, none⟩ = some (.string (bs x.name)) := H4.out.2.2.cell 9
    dsimp only
    go_wp2_with fail
    refine (HC.out.2.2 w4 H4.out.1).mono ?_
    rintro e w5 ⟨rfl, hb5⟩
    have H5 := Lib.hid (And.intro (H4.out.1.trans (hb5.mono H4.out.1.size)) (H4.out.2.1.below hb5 H4.out.2.1.lt))
    clear c0 c1 c2 c3 c4 c5 c6 c7 c8 c9
    clear hb5
    unfold pCells
    dsimp only
    go_upto_region 7 with fail
    obtain ⟨g, hg⟩ : ∃ g, g = w5.heap.size := ⟨_, rfl⟩
    obtain ⟨w6, hw6⟩ : ∃ w6, w6 = w5.alloc (.cells (pCells T) 28) := ⟨_, rfl⟩
    have hb6 : Below w5.heap.size w5 w6 := by rw [hw6]; exact (Below.refl _ w5).alloc (Nat.le_refl _) _
    have hg6 : Blk w6 g 28 (pCells T) := by rw [hw6, hg]; exact Blk.fresh _ _ _
    unfold pCells at hw6
    rw [← hg, ← hw6]
    have H6 := Lib.hid (And.intro (H5.out.1.trans (hb6.mono H5.out.1.size)) (And.intro (H5.out.2.below hb6 H5.out.2.lt) hg6))
    clear hb6 hg6 hw6 hg
    have t0 : w6.cell? ⟨g, 0, none⟩ = some (.int .i64 T.1) := H6.out.2.2.cell 0
    have t1 : w6.cell? ⟨g, 1, none⟩ = some (.int .i64 T.2) := H6.out.2.2.cell 1
    have k0 : w6.cell? ⟨b + 1, 0, none⟩ = some (.int .i64 cd.1) := H6.out.2.1.cell 0
    have k1 : w6.cell? ⟨b + 1, 1, none⟩ = some (.int .i64 cd.2) := H6.out.2.1.cell 1
    have hnq : ∀ w0, (binOp .neq 28 (.agg #[.int .i64 T.1, .int .i64 T.2]) (.agg #[.int .i64 cd.1, .int .i64 cd.2])).run Tryz.prog w0 = .ok (.bool (!decide (T = cd))) w0 := fun w0 => neq_pair T cd w0
    obtain ⟨E, hE⟩ : ∃ E, E = !decide (T = cd) := ⟨_, rfl⟩
    rw [← hE] at hnq
    have HE := Lib.hid (show V = (!D && O && !C && (!I || E)) by rw [HV2.out, hE])
    clear hE
    cases D
    case true =>
      go_wp2
      go_ret
      exact ⟨by rw [HE.out]; rfl, H6.out.1⟩
    cases O
    case false =>
      go_wp2
      go_ret
      exact ⟨by rw [HE.out]; rfl, H6.out.1⟩
    cases C
    case true =>
      go_wp2
      go_ret
      exact ⟨by rw [HE.out]; rfl, H6.out.1⟩
    cases I
    case false =>
      go_wp2
      go_ret
      exact ⟨by rw [HE.out]; rfl, H6.out.1⟩
    go_wp2
    go_ret
    exact ⟨by rw [HE.out]; rfl, H6.out.1⟩
  cases h4 : (x.place != cd.2)
  case true =>
    have HQ := Lib.hid (And.intro h3 h4)
    go_wp2
    go_ret
    exact ⟨by rw [HV.out, appl_no (.inr (.inr HQ.out))]; rfl, H1.out.1⟩
  have HQ := Lib.hid h4
  have HV2 := Lib.hid (show V = (!D && O && !C && (!I || !decide (T = cd))) by rw [HV.out, appl_yes HQ1.out.1 HQ1.out.2 (.inr HQ.out)])
  go_upto_region 3 with fail
  clear h1 h2 h3 h4
  go_wp2_with fail
  refine (HC.out.1 w1 H1.out.1).mono ?_
  rintro e w2 ⟨rfl, hb2⟩
  have H2 := Lib.hid (And.intro (H1.out.1.trans (hb2.mono H1.out.1.size)) (And.intro (H1.out.2.1.below hb2 H1.out.2.1.lt) (H1.out.2.2.below hb2 H1.out.2.2.lt)))
  clear c0 c1 c2 c3 c4 c5 c6 c7 c8 c9
  clear hb2 k0 k1
  have c0 : w2.cell? ⟨b, 0, none⟩ = some (.int .i64 x.day) := H2.out.2.2.cell 0
  have c1 : w2.cell? ⟨b, 1, none⟩ = some (.int .u8 (x.kind : Int)) := H2.out.2.2.cell 1
  have c2 : w2.cell? ⟨b, 2, none⟩ = some (.int .i64 x.since) := H2.out.2.2.cell 2
  have c3 : w2.cell? ⟨b, 3, none⟩ = some (.int .i64 x.til) := H2.out.2.2.cell 3
  have c4 : w2.cell? ⟨b, 4, none⟩ = some (.int .i64 x.person) := H2.out.2.2.cell 4
  have c5 : w2.cell? ⟨b, 5, none⟩ = some (.int .i64 x.place) := H2.out.2.2.cell 5
  have c6 : w2.cell? ⟨b, 6, none⟩ = some (.int .i64 x.other) := H2.out.2.2.cell 6
  have c7 : w2.cell? ⟨b, 7, none⟩ = some (.int .i64 x.at_) := H2.out.2.2.cell 7
  have c8 : w2.cell? ⟨b, 8, none⟩ = some (.int .i64 x.order) := H2.out.2.2.cell 8
  have c9 : w2.cell? ⟨b, 9, none⟩ = some (.string (bs x.name)) := H2.out.2.2.cell 9
  dsimp only
  go_wp2_with fail
  refine (HO.out w2).mono ?_
  rintro e w3 ⟨rfl, hb3⟩
  have H3 := Lib.hid (And.intro (H2.out.1.trans (hb3.mono H2.out.1.size)) (And.intro (H2.out.2.1.below hb3 H2.out.2.1.lt) (H2.out.2.2.below hb3 H2.out.2.2.lt)))
  clear c0 c1 c2 c3 c4 c5 c6 c7 c8 c9
  clear hb3
  have c0 : w3.cell? ⟨b, 0, none⟩ = some (.int .i64 x.day) := H3.out.2.2.cell 0
  have c1 : w3.cell? ⟨b, 1, none⟩ = some (.int .u8 (x.kind : Int)) := H3.out.2.2.cell 1
  have c2 : w3.cell? ⟨b, 2, none⟩ = some (.int .i64 x.since) := H3.out.2.2.cell 2
  have c3 : w3.cell? ⟨b, 3, none⟩ = some (.int .i64 x.til) := H3.out.2.2.cell 3
  have c4 : w3.cell? ⟨b, 4, none⟩ = some (.int .i64 x.person) := H3.out.2.2.cell 4
  have c5 : w3.cell? ⟨b, 5, none⟩ = some (.int .i64 x.place) := H3.out.2.2.cell 5
  have c6 : w3.cell? ⟨b, 6, none⟩ = some (.int .i64 x.other) := H3.out.2.2.cell 6
  have c7 : w3.cell? ⟨b, 7, none⟩ = some (.int .i64 x.at_) := H3.out.2.2.cell 7
  have c8 : w3.cell? ⟨b, 8, none⟩ = some (.int .i64 x.order) := H3.out.2.2.cell 8
  have c9 : w3.cell? ⟨b, 9, none⟩ = some (.string (bs x.name)) := H3.out.2.2.cell 9
  dsimp only
  go_wp2_with fail
  refine (HC.out.2.1 w3 H3.out.1).mono ?_
  rintro e w4 ⟨rfl, hb4⟩
  have H4 := Lib.hid (And.intro (H3.out.1.trans (hb4.mono H3.out.1.size)) (And.intro (H3.out.2.1.below hb4 H3.out.2.1.lt) (H3.out.2.2.below hb4 H3.out.2.2.lt)))
  clear c0 c1 c2 c3 c4 c5 c6 c7 c8 c9
  clear hb4
  have c0 : w4.cell? ⟨b, 0, none⟩ = some (.int .i64 x.day) := H4.out.2.2.cell 0
  have c1 : w4.cell? ⟨b, 1, none⟩ = some (.int .u8 (x.kind : Int)) := H4.out.2.2.cell 1
  have c2 : w4.cell? ⟨b, 2, none⟩ = some (.int .i64 x.since) := H4.out.2.2.cell 2
  have c3 : w4.cell? ⟨b, 3, none⟩ = some (.int .i64 x.til) := H4.out.2.2.cell 3
  have c4 : w4.cell? ⟨b, 4, none⟩ = some (.int .i64 x.person) := H4.out.2.2.cell 4
  have c5 : w4.cell? ⟨b, 5, none⟩ = some (.int .i64 x.place) := H4.out.2.2.cell 5
  have c6 : w4.cell? ⟨b, 6, none⟩ = some (.int .i64 x.other) := H4.out.2.2.cell 6
  have c7 : w4.cell? ⟨b, 7, none⟩ = some (.int .i64 x.at_) := H4.out.2.2.cell 7
  have c8 : w4.cell? ⟨b, 8, none⟩ = some (.int .i64 x.order) := H4.out.2.2.cell 8
  have c9 : w4.cell? ⟨b, 9, none⟩ = some (.string (bs x.name)) := H4.out.2.2.cell 9
  dsimp only
  go_wp2_with fail
  refine (HC.out.2.2 w4 H4.out.1).mono ?_
  rintro e w5 ⟨rfl, hb5⟩
  have H5 := Lib.hid (And.intro (H4.out.1.trans (hb5.mono H4.out.1.size)) (H4.out.2.1.below hb5 H4.out.2.1.lt))
  clear c0 c1 c2 c3 c4 c5 c6 c7 c8 c9
  clear hb5
  unfold pCells
  dsimp only
  go_upto_region 7 with fail
  obtain ⟨g, hg⟩ : ∃ g, g = w5.heap.size := ⟨_, rfl⟩
  obtain ⟨w6, hw6⟩ : ∃ w6, w6 = w5.alloc (.cells (pCells T) 28) := ⟨_, rfl⟩
  have hb6 : Below w5.heap.size w5 w6 := by rw [hw6]; exact (Below.refl _ w5).alloc (Nat.le_refl _) _
  have hg6 : Blk w6 g 28 (pCells T) := by rw [hw6, hg]; exact Blk.fresh _ _ _
  unfold pCells at hw6
  rw [← hg, ← hw6]
  have H6 := Lib.hid (And.intro (H5.out.1.trans (hb6.mono H5.out.1.size)) (And.intro (H5.out.2.below hb6 H5.out.2.lt) hg6))
  clear hb6 hg6 hw6 hg
  have t0 : w6.cell? ⟨g, 0, none⟩ = some (.int .i64 T.1) := H6.out.2.2.cell 0
  have t1 : w6.cell? ⟨g, 1, none⟩ = some (.int .i64 T.2) := H6.out.2.2.cell 1
  have k0 : w6.cell? ⟨b + 1, 0, none⟩ = some (.int .i64 cd.1) := H6.out.2.1.cell 0
  have k1 : w6.cell? ⟨b + 1, 1, none⟩ = some (.int .i64 cd.2) := H6.out.2.1.cell 1
  have hnq : ∀ w0, (binOp .neq 28 (.agg #[.int .i64 T.1, .int .i64 T.2]) (.agg #[.int .i64 cd.1, .int .i64 cd.2])).run Tryz.prog w0 = .ok (.bool (!decide (T = cd))) w0 := fun w0 => neq_pair T cd w0
  obtain ⟨E, hE⟩ : ∃ E, E = !decide (T = cd) := ⟨_, rfl⟩
  rw [← hE] at hnq
  have HE := Lib.hid (show V = (!D && O && !C && (!I || E)) by rw [HV2.out, hE])
  clear hE
  cases D
  case true =>
    go_wp2
    go_ret
    exact ⟨by rw [HE.out]; rfl, H6.out.1⟩
  cases O
  case false =>
    go_wp2
    go_ret
    exact ⟨by rw [HE.out]; rfl, H6.out.1⟩
  cases C
  case true =>
    go_wp2
    go_ret
    exact ⟨by rw [HE.out]; rfl, H6.out.1⟩
  cases I
  case false =>
    go_wp2
    go_ret
    exact ⟨by rw [HE.out]; rfl, H6.out.1⟩
  go_wp2
  go_ret
  exact ⟨by rw [HE.out]; rfl, H6.out.1⟩

end Go.Proofs.YtnphlekailodkaaGreatDoor

namespace Go.Proofs.YtnphlekailodkaaGreatDoor
open Go.RowKit

set_option maxRecDepth 1000000 in
set_option maxHeartbeats 8000000 in
theorem rOrder_calls (A : Option Addr) (n c : Nat) (l : List Pe.Ent) (cd : Pe.Pair) (d : Int) (w : World) (h : EntsAt w A n l) :
    Calls Tryz.prog 114 #[.slice A n c, .agg (pCells cd), .int .i64 d] w fun e w' => e = .returned (.tuple #[.agg (eCells ((Pe.order? l cd d).getD Pe.zero)), .bool (Pe.order? l cd d).isSome]) ∧ Below w.heap.size w w' := by
  have H := Lib.hid h
  have hmost := h.most
  obtain ⟨V, hV⟩ : ∃ V, V = Pe.order? l cd d := ⟨_, rfl⟩
  rw [← hV]
  rw [Pe.order_eq, Pe.orderR] at hV
  have HV := Lib.hid hV
  have hap := fun x w0 (hb : Below w.heap.size w w0) => rapplies_calls A n c l x cd d w0 (H.out.below hb)
  have HAP0 := Lib.hid hap
  clear hap h hV
  go_enter Tryz.func114, Tryz.ntmps114
  unfold pCells
  go_upto_region 1 with fail
  obtain ⟨b, hb⟩ : ∃ b, b = w.heap.size := ⟨_, rfl⟩
  obtain ⟨w1, hw1⟩ : ∃ w1, w1 = (w.alloc (.cells (pCells cd) 28)).alloc (.cells (eCells Pe.zero) 31) := ⟨_, rfl⟩
  have hB1 : Below w.heap.size w w1 := by rw [hw1]; exact ((Below.refl _ w).alloc (Nat.le_refl _) _).alloc (by simp) _
  have hC1 : Blk w1 b 28 (pCells cd) := by rw [hw1, hb]; exact (Blk.fresh w _ _).alloc _
  have hE1 : Blk w1 (b + 1) 31 (eCells Pe.zero) := by rw [hw1, hb]; have := Blk.fresh (w.alloc (.cells (pCells cd) 28)) 31 (eCells Pe.zero); simpa using this
  rw [eCells_zero] at hw1
  unfold pCells at hw1
  rw [← hb, ← hw1]
  have H1 := Lib.hid (And.intro hB1 (And.intro hC1 (And.intro hE1 hb)))
  clear hB1 hC1 hE1 hw1 hb
  go_wp2_with fail
  go_loopg [8, 9] n (fun q s8 s9 wr => ∃ (i : Nat) (z : Int), s8 = .int .i64 z ∧ z + 1 = (i : Int) ∧ i = q ∧ i ≤ n ∧ Hid (Below w.heap.size w wr ∧ Blk wr b 28 (pCells cd) ∧ Blk wr (b + 1) 31 (eCells Pe.zero) ∧ Pe.lastOf (l.drop i) (fun x => Pe.applies l cd d x && x.place != 0) = none))
  case atStart => exact ⟨n, (n : Int) - 1, by go_num, by omega, rfl, by omega, Lib.hid ⟨H1.out.1, H1.out.2.1, H1.out.2.2.1, by rw [List.drop_of_length_le (by have := H.out.len; omega)]; rfl⟩⟩
  case round =>
    obtain ⟨i, z, rfl, hz, rfl, hin, hR⟩ := hrel
    cases i with
    | zero =>
      obtain rfl : z = -1 := by omega
      clear hz
      have hz0 := hR.out.2.2.2
      rw [List.drop_zero] at hz0
      obtain ⟨wo, hwo⟩ : ∃ wo : World, wo = wr := ⟨_, rfl⟩
      have HO1 := Lib.hid hz0
      have HO2 := Lib.hid hR.out
      clear hz0 hR
      subst hwo
      go_wp2_with fail
      go_loopg [10, 11] n (fun q s10 s11 wr => ∃ (i : Nat) (z : Int), s10 = .int .i64 z ∧ z + 1 = (i : Int) ∧ i = q ∧ i ≤ n ∧ Hid (Below w.heap.size w wr ∧ Blk wr b 28 (pCells cd) ∧ Blk wr (b + 1) 31 (eCells Pe.zero) ∧ Pe.lastOf (l.drop i) (Pe.applies l cd d) = none))
      case atStart => exact ⟨n, (n : Int) - 1, by go_num, by omega, rfl, by omega, Lib.hid ⟨HO2.out.1, HO2.out.2.1, HO2.out.2.2.1, by rw [List.drop_of_length_le (by have := H.out.len; omega)]; rfl⟩⟩
      case round =>
        obtain ⟨i, z, rfl, hz, rfl, hin, hR⟩ := hrel
        cases i with
        | zero =>
          obtain rfl : z = -1 := by omega
          clear hz
          have hz0 := hR.out.2.2.2
          rw [List.drop_zero] at hz0
          have HZ0 := Lib.hid hz0
          clear hz0
          go_wp2_with (refine wpList_store_ent (op := ⟨none, .store 31 (.tmp 6) (.tmp 60), _, _, _, _⟩) Pe.zero Pe.zero rfl (.tmp 6) (.tmp 60) rfl (b + 1) hR.out.2.2.1 rfl rfl ?_; intro w9 hB9 hC9)
          refine bodyPost_ret (results_row2 (P := Tryz.prog) (fn := Tryz.f114) rfl _ _ (b + 1) (eCells (Pe.zero)) _ rfl hB9 Tryz.underlying31 rfl infoEntryN) rfl ⟨?_, (hR.out.1.trans (hC9.below (fun i hi => by have := H1.out.2.2.2; omega) hR.out.1.size))⟩
          rw [HV.out, HO1.out, HZ0.out]; rfl
        | succ i =>
        obtain rfl : z = (i : Int) := by omega
        clear hz
        have hE := Lib.hid (H.out.below hR.out.1)
        obtain ⟨x, ad, hx, rfl, hok, hcw⟩ := hE.out.one (i := i) (by omega)
        have hlt : i < n := by omega
        have HX := Lib.hid hx
        clear hx hcw hok
        obtain ⟨av, hav⟩ : ∃ av, av = Pe.applies l cd d x := ⟨_, rfl⟩
        have hhc := HAP0.out x wr.drew hR.out.1.drew
        rw [← hav] at hhc
        unfold eCells pCells at hhc
        have HHC := Lib.hid hhc
        have HAV := Lib.hid hav
        clear hhc hav
        go_upto_region 10 with fail
        refine wp_region_R (RL [(4, fun w' => EntsAt w' (some ad) n l), (5, fun w' => w'.cell? ⟨b, 0, none⟩ = some (.int .i64 cd.1) ∧ w'.cell? ⟨b, 1, none⟩ = some (.int .i64 cd.2))]) (by kernel_rfl) (RL_cons (hE.out.below ((Below.refl _ wr).drew)) (RL_cons ⟨hR.out.2.1.drew.cell 0, hR.out.2.1.drew.cell 1⟩ (RL_nil _))) (fun hp => ?_)
        refine wpAnyR_take (i := 0) (oi := ⟨some 47, _, _, _, _, _⟩) (v := ?_) rfl (by kernel_rfl) (by kernel_rfl) (by kernel_rfl) (fun _ _ _ h => h) hp (.inl ⟨by rfl, fun w _ => ?_⟩) (fun hq => ?_)
        rotate_left
        · go_simp
          with_reducible rfl
        clear hp; have hp := hq; clear hq
        try simp only [Act.put, List.setIfInBounds_toArray, List.set_cons_zero, List.set_cons_succ]
        refine wpAnyR_take (i := 1) (oi := ⟨some 48, _, _, _, _, _⟩) (v := ?_) rfl (by kernel_rfl) (by kernel_rfl) (by kernel_rfl) (fun _ _ _ h => h) hp (.inl ⟨by rfl, fun w _ => ?_⟩) (fun hq => ?_)
        rotate_left
        · go_simp
          with_reducible rfl
        clear hp; have hp := hq; clear hq
        try simp only [Act.put, List.setIfInBounds_toArray, List.set_cons_zero, List.set_cons_succ]
        refine wpAnyR_take (i := 2) (oi := ⟨some 49, _, _, _, _, _⟩) (v := ?_) rfl (by kernel_rfl) (by kernel_rfl) (by kernel_rfl) (fun _ _ _ h => h) hp (.inl ⟨by rfl, fun w _ => ?_⟩) (fun hq => ?_)
        rotate_left
        · go_simp
          with_reducible rfl
        clear hp; have hp := hq; clear hq
        try simp only [Act.put, List.setIfInBounds_toArray, List.set_cons_zero, List.set_cons_succ]
        refine wpAnyR_take (i := 3) (oi := ⟨some 50, _, _, _, _, _⟩) (v := ?_) rfl (by kernel_rfl) (by kernel_rfl) (by kernel_rfl) (fun _ _ _ h => h) hp (.inl ⟨by rfl, fun w _ => ?_⟩) (fun hq => ?_)
        rotate_left
        · go_simp
          with_reducible rfl
        clear hp; have hp := hq; clear hq
        try simp only [Act.put, List.setIfInBounds_toArray, List.set_cons_zero, List.set_cons_succ]
        refine wpAnyR_take (i := 4) (oi := ⟨some 51, _, _, _, _, _⟩) (v := ?_) rfl (by kernel_rfl) (by kernel_rfl) (by kernel_rfl) (fun _ _ _ h => h) hp (.inl ⟨by rfl, fun w hR => ?_⟩) (fun hq => ?_)
        rotate_left
        · have hR := hR.1 rfl
          (try dsimp only at hR)
          have hcw := hR.get HX.out
          clear hR
          have g0 : w.cell? (ad.add (i * 10)) = some (.int .i64 x.day) := hcw 0 _ rfl
          have g1 : w.cell? ⟨(ad.add (i * 10)).block, (ad.add (i * 10)).off + 1, none⟩ = some (.int .u8 (x.kind : Int)) := hcw 1 _ rfl
          have g2 : w.cell? ⟨(ad.add (i * 10)).block, (ad.add (i * 10)).off + 2, none⟩ = some (.int .i64 x.since) := hcw 2 _ rfl
          have g3 : w.cell? ⟨(ad.add (i * 10)).block, (ad.add (i * 10)).off + 3, none⟩ = some (.int .i64 x.til) := hcw 3 _ rfl
          have g4 : w.cell? ⟨(ad.add (i * 10)).block, (ad.add (i * 10)).off + 4, none⟩ = some (.int .i64 x.person) := hcw 4 _ rfl
          have g5 : w.cell? ⟨(ad.add (i * 10)).block, (ad.add (i * 10)).off + 5, none⟩ = some (.int .i64 x.place) := hcw 5 _ rfl
          have g6 : w.cell? ⟨(ad.add (i * 10)).block, (ad.add (i * 10)).off + 6, none⟩ = some (.int .i64 x.other) := hcw 6 _ rfl
          have g7 : w.cell? ⟨(ad.add (i * 10)).block, (ad.add (i * 10)).off + 7, none⟩ = some (.int .i64 x.at_) := hcw 7 _ rfl
          have g8 : w.cell? ⟨(ad.add (i * 10)).block, (ad.add (i * 10)).off + 8, none⟩ = some (.int .i64 x.order) := hcw 8 _ rfl
          have g9 : w.cell? ⟨(ad.add (i * 10)).block, (ad.add (i * 10)).off + 9, none⟩ = some (.string (bs x.name)) := hcw 9 _ rfl
          clear hcw
          go_simp
          with_reducible rfl
        clear hp; have hp := hq; clear hq
        try simp only [Act.put, List.setIfInBounds_toArray, List.set_cons_zero, List.set_cons_succ]
        refine wpAnyR_take (i := 5) (oi := ⟨some 52, _, _, _, _, _⟩) (v := ?_) rfl (by kernel_rfl) (by kernel_rfl) (by kernel_rfl) (fun _ _ _ h => h) hp (.inl ⟨by rfl, fun w hR => ?_⟩) (fun hq => ?_)
        rotate_left
        · have hR := hR.2.1 rfl
          (try dsimp only at hR)
          obtain ⟨h1, h2⟩ := hR
          go_simp
          with_reducible rfl
        clear hp; have hp := hq; clear hq
        try simp only [Act.put, List.setIfInBounds_toArray, List.set_cons_zero, List.set_cons_succ]
        refine wpAnyR_take (i := 6) (oi := ⟨some 53, _, _, _, _, _⟩) (v := ?_) rfl (by kernel_rfl) (by kernel_rfl) (by kernel_rfl) (fun _ _ _ h => h) hp (.inl ⟨by rfl, fun w _ => ?_⟩) (fun hq => ?_)
        rotate_left
        · go_simp
          with_reducible rfl
        clear hp; have hp := hq; clear hq
        try simp only [Act.put, List.setIfInBounds_toArray, List.set_cons_zero, List.set_cons_succ]
        refine wpAnyR_step (i := 7) (o := ⟨some 54, _, _, _, _, _⟩) (by kernel_rfl) rfl (by rfl) (fun K hK => ?_) -- Op.call { callee := Callee.value (Operand.func 149), args := #[Operand.tmp 47, Operand.tmp 51, Operand.tmp 52,
        go_simp
        refine HHC.out.mono ?_
        rintro e w2 ⟨rfl, hb2⟩
        show K _ _
        have HB := Lib.hid (And.intro (hR.out.1.drew.trans (hb2.mono hR.out.1.size)) (And.intro (hR.out.2.1.drew.below hb2 hR.out.2.1.lt) (hR.out.2.2.1.drew.below hb2 hR.out.2.2.1.lt)))
        have HE2 := Lib.hid ((hE.out.below ((Below.refl _ wr).drew)).below hb2)
        clear hb2
        refine hK _ _ (pend_off (by kernel_rfl) (pend_off (by kernel_rfl) pend_nil)) (fun hq => ?_)
        clear hp hK K; have hp := hq; clear hq
        try simp only [Act.put, List.setIfInBounds_toArray, List.set_cons_zero, List.set_cons_succ]
        refine wpAnyR_take (i := 8) (oi := ⟨some 11, _, _, _, _, _⟩) (v := ?_) rfl (by kernel_rfl) (by kernel_rfl) (by kernel_rfl) (fun _ _ _ h => h) hp (.inl ⟨by rfl, fun w _ => ?_⟩) (fun hq => ?_)
        rotate_left
        · go_simp
          with_reducible rfl
        clear hp; have hp := hq; clear hq
        try simp only [Act.put, List.setIfInBounds_toArray, List.set_cons_zero, List.set_cons_succ]
        refine wpAnyR_done (by kernel_rfl) ?_ _
        clear hp
        have hc2 := HE2.out.get HX.out
        have g0 : w2.cell? (ad.add (i * 10)) = some (.int .i64 x.day) := hc2 0 _ rfl
        have g1 : w2.cell? ⟨(ad.add (i * 10)).block, (ad.add (i * 10)).off + 1, none⟩ = some (.int .u8 (x.kind : Int)) := hc2 1 _ rfl
        have g2 : w2.cell? ⟨(ad.add (i * 10)).block, (ad.add (i * 10)).off + 2, none⟩ = some (.int .i64 x.since) := hc2 2 _ rfl
        have g3 : w2.cell? ⟨(ad.add (i * 10)).block, (ad.add (i * 10)).off + 3, none⟩ = some (.int .i64 x.til) := hc2 3 _ rfl
        have g4 : w2.cell? ⟨(ad.add (i * 10)).block, (ad.add (i * 10)).off + 4, none⟩ = some (.int .i64 x.person) := hc2 4 _ rfl
        have g5 : w2.cell? ⟨(ad.add (i * 10)).block, (ad.add (i * 10)).off + 5, none⟩ = some (.int .i64 x.place) := hc2 5 _ rfl
        have g6 : w2.cell? ⟨(ad.add (i * 10)).block, (ad.add (i * 10)).off + 6, none⟩ = some (.int .i64 x.other) := hc2 6 _ rfl
        have g7 : w2.cell? ⟨(ad.add (i * 10)).block, (ad.add (i * 10)).off + 7, none⟩ = some (.int .i64 x.at_) := hc2 7 _ rfl
        have g8 : w2.cell? ⟨(ad.add (i * 10)).block, (ad.add (i * 10)).off + 8, none⟩ = some (.int .i64 x.order) := hc2 8 _ rfl
        have g9 : w2.cell? ⟨(ad.add (i * 10)).block, (ad.add (i * 10)).off + 9, none⟩ = some (.string (bs x.name)) := hc2 9 _ rfl
        clear hc2
        cases av
        · go_wp2
          go_roundg i
          case measure => omega
          case rel => exact ⟨i, (i : Int) - 1, by go_num, by omega, rfl, by omega, Lib.hid ⟨HB.out.1, HB.out.2.1, HB.out.2.2, Pe.last_on HX.out hR.out.2.2.2 HAV.out.symm⟩⟩
        · go_wp2_with (refine wpList_store_ent (op := ⟨none, .store 31 (.tmp 6) (.tmp 59), _, _, _, _⟩) Pe.zero x rfl (.tmp 6) (.tmp 59) rfl (b + 1) HB.out.2.2 rfl rfl ?_; intro w9 hB9 hC9)
          refine bodyPost_ret (results_row2 (P := Tryz.prog) (fn := Tryz.f114) rfl _ _ (b + 1) (eCells (x)) _ rfl hB9 Tryz.underlying31 rfl infoEntryN) rfl ⟨?_, (HB.out.1.trans (hC9.below (fun i hi => by have := H1.out.2.2.2; omega) HB.out.1.size))⟩
          rw [HV.out, HO1.out, (Pe.last_found HX.out hR.out.2.2.2 HAV.out.symm)]; rfl
    | succ i =>
    obtain rfl : z = (i : Int) := by omega
    clear hz
    have hE := Lib.hid (H.out.below hR.out.1)
    obtain ⟨x, ad, hx, rfl, hok, hcw⟩ := hE.out.one (i := i) (by omega)
    have hlt : i < n := by omega
    have HX := Lib.hid hx
    clear hx hcw hok
    obtain ⟨av, hav⟩ : ∃ av, av = Pe.applies l cd d x := ⟨_, rfl⟩
    have hhc := HAP0.out x wr.drew hR.out.1.drew
    rw [← hav] at hhc
    unfold eCells pCells at hhc
    have HHC := Lib.hid hhc
    have HAV := Lib.hid hav
    clear hhc hav
    go_upto_region 4 with fail
    refine wp_region_R (RL [(4, fun w' => EntsAt w' (some ad) n l), (5, fun w' => w'.cell? ⟨b, 0, none⟩ = some (.int .i64 cd.1) ∧ w'.cell? ⟨b, 1, none⟩ = some (.int .i64 cd.2))]) (by kernel_rfl) (RL_cons (hE.out.below ((Below.refl _ wr).drew)) (RL_cons ⟨hR.out.2.1.drew.cell 0, hR.out.2.1.drew.cell 1⟩ (RL_nil _))) (fun hp => ?_)
    refine wpAnyR_take (i := 0) (oi := ⟨some 19, _, _, _, _, _⟩) (v := ?_) rfl (by kernel_rfl) (by kernel_rfl) (by kernel_rfl) (fun _ _ _ h => h) hp (.inl ⟨by rfl, fun w _ => ?_⟩) (fun hq => ?_)
    rotate_left
    · go_simp
      with_reducible rfl
    clear hp; have hp := hq; clear hq
    try simp only [Act.put, List.setIfInBounds_toArray, List.set_cons_zero, List.set_cons_succ]
    refine wpAnyR_take (i := 1) (oi := ⟨some 20, _, _, _, _, _⟩) (v := ?_) rfl (by kernel_rfl) (by kernel_rfl) (by kernel_rfl) (fun _ _ _ h => h) hp (.inl ⟨by rfl, fun w _ => ?_⟩) (fun hq => ?_)
    rotate_left
    · go_simp
      with_reducible rfl
    clear hp; have hp := hq; clear hq
    try simp only [Act.put, List.setIfInBounds_toArray, List.set_cons_zero, List.set_cons_succ]
    refine wpAnyR_take (i := 2) (oi := ⟨some 21, _, _, _, _, _⟩) (v := ?_) rfl (by kernel_rfl) (by kernel_rfl) (by kernel_rfl) (fun _ _ _ h => h) hp (.inl ⟨by rfl, fun w _ => ?_⟩) (fun hq => ?_)
    rotate_left
    · go_simp
      with_reducible rfl
    clear hp; have hp := hq; clear hq
    try simp only [Act.put, List.setIfInBounds_toArray, List.set_cons_zero, List.set_cons_succ]
    refine wpAnyR_take (i := 3) (oi := ⟨some 22, _, _, _, _, _⟩) (v := ?_) rfl (by kernel_rfl) (by kernel_rfl) (by kernel_rfl) (fun _ _ _ h => h) hp (.inl ⟨by rfl, fun w _ => ?_⟩) (fun hq => ?_)
    rotate_left
    · go_simp
      with_reducible rfl
    clear hp; have hp := hq; clear hq
    try simp only [Act.put, List.setIfInBounds_toArray, List.set_cons_zero, List.set_cons_succ]
    refine wpAnyR_take (i := 4) (oi := ⟨some 23, _, _, _, _, _⟩) (v := ?_) rfl (by kernel_rfl) (by kernel_rfl) (by kernel_rfl) (fun _ _ _ h => h) hp (.inl ⟨by rfl, fun w hR => ?_⟩) (fun hq => ?_)
    rotate_left
    · have hR := hR.1 rfl
      (try dsimp only at hR)
      have hcw := hR.get HX.out
      clear hR
      have g0 : w.cell? (ad.add (i * 10)) = some (.int .i64 x.day) := hcw 0 _ rfl
      have g1 : w.cell? ⟨(ad.add (i * 10)).block, (ad.add (i * 10)).off + 1, none⟩ = some (.int .u8 (x.kind : Int)) := hcw 1 _ rfl
      have g2 : w.cell? ⟨(ad.add (i * 10)).block, (ad.add (i * 10)).off + 2, none⟩ = some (.int .i64 x.since) := hcw 2 _ rfl
      have g3 : w.cell? ⟨(ad.add (i * 10)).block, (ad.add (i * 10)).off + 3, none⟩ = some (.int .i64 x.til) := hcw 3 _ rfl
      have g4 : w.cell? ⟨(ad.add (i * 10)).block, (ad.add (i * 10)).off + 4, none⟩ = some (.int .i64 x.person) := hcw 4 _ rfl
      have g5 : w.cell? ⟨(ad.add (i * 10)).block, (ad.add (i * 10)).off + 5, none⟩ = some (.int .i64 x.place) := hcw 5 _ rfl
      have g6 : w.cell? ⟨(ad.add (i * 10)).block, (ad.add (i * 10)).off + 6, none⟩ = some (.int .i64 x.other) := hcw 6 _ rfl
      have g7 : w.cell? ⟨(ad.add (i * 10)).block, (ad.add (i * 10)).off + 7, none⟩ = some (.int .i64 x.at_) := hcw 7 _ rfl
      have g8 : w.cell? ⟨(ad.add (i * 10)).block, (ad.add (i * 10)).off + 8, none⟩ = some (.int .i64 x.order) := hcw 8 _ rfl
      have g9 : w.cell? ⟨(ad.add (i * 10)).block, (ad.add (i * 10)).off + 9, none⟩ = some (.string (bs x.name)) := hcw 9 _ rfl
      clear hcw
      go_simp
      with_reducible rfl
    clear hp; have hp := hq; clear hq
    try simp only [Act.put, List.setIfInBounds_toArray, List.set_cons_zero, List.set_cons_succ]
    refine wpAnyR_take (i := 5) (oi := ⟨some 24, _, _, _, _, _⟩) (v := ?_) rfl (by kernel_rfl) (by kernel_rfl) (by kernel_rfl) (fun _ _ _ h => h) hp (.inl ⟨by rfl, fun w hR => ?_⟩) (fun hq => ?_)
    rotate_left
    · have hR := hR.2.1 rfl
      (try dsimp only at hR)
      obtain ⟨h1, h2⟩ := hR
      go_simp
      with_reducible rfl
    clear hp; have hp := hq; clear hq
    try simp only [Act.put, List.setIfInBounds_toArray, List.set_cons_zero, List.set_cons_succ]
    refine wpAnyR_take (i := 6) (oi := ⟨some 25, _, _, _, _, _⟩) (v := ?_) rfl (by kernel_rfl) (by kernel_rfl) (by kernel_rfl) (fun _ _ _ h => h) hp (.inl ⟨by rfl, fun w _ => ?_⟩) (fun hq => ?_)
    rotate_left
    · go_simp
      with_reducible rfl
    clear hp; have hp := hq; clear hq
    try simp only [Act.put, List.setIfInBounds_toArray, List.set_cons_zero, List.set_cons_succ]
    refine wpAnyR_step (i := 7) (o := ⟨some 26, _, _, _, _, _⟩) (by kernel_rfl) rfl (by rfl) (fun K hK => ?_) -- Op.call { callee := Callee.value (Operand.func 149), args := #[Operand.tmp 19, Operand.tmp 23, Operand.tmp 24,
    go_simp
    refine HHC.out.mono ?_
    rintro e w2 ⟨rfl, hb2⟩
    show K _ _
    have HB := Lib.hid (And.intro (hR.out.1.drew.trans (hb2.mono hR.out.1.size)) (And.intro (hR.out.2.1.drew.below hb2 hR.out.2.1.lt) (hR.out.2.2.1.drew.below hb2 hR.out.2.2.1.lt)))
    have HE2 := Lib.hid ((hE.out.below ((Below.refl _ wr).drew)).below hb2)
    clear hb2
    refine hK _ _ (pend_off (by kernel_rfl) (pend_off (by kernel_rfl) pend_nil)) (fun hq => ?_)
    clear hp hK K; have hp := hq; clear hq
    try simp only [Act.put, List.setIfInBounds_toArray, List.set_cons_zero, List.set_cons_succ]
    refine wpAnyR_take (i := 8) (oi := ⟨some 9, _, _, _, _, _⟩) (v := ?_) rfl (by kernel_rfl) (by kernel_rfl) (by kernel_rfl) (fun _ _ _ h => h) hp (.inl ⟨by rfl, fun w _ => ?_⟩) (fun hq => ?_)
    rotate_left
    · go_simp
      with_reducible rfl
    clear hp; have hp := hq; clear hq
    try simp only [Act.put, List.setIfInBounds_toArray, List.set_cons_zero, List.set_cons_succ]
    refine wpAnyR_done (by kernel_rfl) ?_ _
    clear hp
    have hc2 := HE2.out.get HX.out
    have g0 : w2.cell? (ad.add (i * 10)) = some (.int .i64 x.day) := hc2 0 _ rfl
    have g1 : w2.cell? ⟨(ad.add (i * 10)).block, (ad.add (i * 10)).off + 1, none⟩ = some (.int .u8 (x.kind : Int)) := hc2 1 _ rfl
    have g2 : w2.cell? ⟨(ad.add (i * 10)).block, (ad.add (i * 10)).off + 2, none⟩ = some (.int .i64 x.since) := hc2 2 _ rfl
    have g3 : w2.cell? ⟨(ad.add (i * 10)).block, (ad.add (i * 10)).off + 3, none⟩ = some (.int .i64 x.til) := hc2 3 _ rfl
    have g4 : w2.cell? ⟨(ad.add (i * 10)).block, (ad.add (i * 10)).off + 4, none⟩ = some (.int .i64 x.person) := hc2 4 _ rfl
    have g5 : w2.cell? ⟨(ad.add (i * 10)).block, (ad.add (i * 10)).off + 5, none⟩ = some (.int .i64 x.place) := hc2 5 _ rfl
    have g6 : w2.cell? ⟨(ad.add (i * 10)).block, (ad.add (i * 10)).off + 6, none⟩ = some (.int .i64 x.other) := hc2 6 _ rfl
    have g7 : w2.cell? ⟨(ad.add (i * 10)).block, (ad.add (i * 10)).off + 7, none⟩ = some (.int .i64 x.at_) := hc2 7 _ rfl
    have g8 : w2.cell? ⟨(ad.add (i * 10)).block, (ad.add (i * 10)).off + 8, none⟩ = some (.int .i64 x.order) := hc2 8 _ rfl
    have g9 : w2.cell? ⟨(ad.add (i * 10)).block, (ad.add (i * 10)).off + 9, none⟩ = some (.string (bs x.name)) := hc2 9 _ rfl
    clear hc2
    cases av
    · go_wp2
      go_roundg i
      case measure => omega
      case rel => exact ⟨i, (i : Int) - 1, by go_num, by omega, rfl, by omega, Lib.hid ⟨HB.out.1, HB.out.2.1, HB.out.2.2, Pe.last_on HX.out hR.out.2.2.2 (by rw [← HAV.out]; rfl)⟩⟩
    cases hp : (x.place != 0)
    · have HP := Lib.hid hp
      go_wp2
      go_roundg i
      case measure => omega
      case rel => exact ⟨i, (i : Int) - 1, by go_num, by omega, rfl, by omega, Lib.hid ⟨HB.out.1, HB.out.2.1, HB.out.2.2, Pe.last_on HX.out hR.out.2.2.2 (by rw [HP.out, Bool.and_false])⟩⟩
    · have HP := Lib.hid hp
      go_upto_region 6 with fail
      clear hp
      go_wp2_with (refine wpList_store_ent (op := ⟨none, .store 31 (.tmp 6) (.tmp 39), _, _, _, _⟩) Pe.zero x rfl (.tmp 6) (.tmp 39) rfl (b + 1) HB.out.2.2 rfl rfl ?_; intro w9 hB9 hC9)
      refine bodyPost_ret (results_row2 (P := Tryz.prog) (fn := Tryz.f114) rfl _ _ (b + 1) (eCells (x)) _ rfl hB9 Tryz.underlying31 rfl infoEntryN) rfl ⟨?_, (HB.out.1.trans (hC9.below (fun i hi => by have := H1.out.2.2.2; omega) HB.out.1.size))⟩
      rw [HV.out, (Pe.last_found HX.out hR.out.2.2.2 (by rw [← HAV.out, HP.out]; rfl))]; rfl

end Go.Proofs.YtnphlekailodkaaGreatDoor

