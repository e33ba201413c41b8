/-
  Order and Refuses return what the reference returns: the law's walk.
-/
import Derived.Test.YtfalajomfcfliaaGreatDoorLw
import Derived.Test.YtfalajomfcfliaaGreatDoorRp4
import Derived.Test.YtfalajomfcfliaaGreatDoorOrd
namespace Go.Proofs.YtfalajomfcfliaaGreatDoor
open Go.RowKit

set_option maxRecDepth 1000000 in
set_option maxHeartbeats 8000000 in
theorem orders_law (A : Option Addr) (n c : Nat) (l : List Pe.Ent) (cd : Pe.Pair) (s d : Int) (w : World) (h : EntsAt w A n l) (hL : Laid w) :
    Calls Tryz.prog 8 #[.slice A n c, .agg (pCells cd), .int .i64 s, .int .i64 d] w (Law w) := by
  have hoc := fun w0 (hb : Below w.heap.size w w0) => Order_calls A n c l cd d w0 (h.below hb)
  have hor := fun w0 (hb : Below w.heap.size w w0) => rOrder_calls A n c l cd d w0 (h.below hb)
  have hrc := fun w0 (hb : Below w.heap.size w w0) => Refuses_calls A n c l cd s d w0 (h.below hb)
  have hrr := fun w0 (hb : Below w.heap.size w w0) => rRefuses_calls A n c l cd s d w0 (h.below hb)
  obtain ⟨y, hy⟩ : ∃ y, y = (Pe.order? l cd d).getD Pe.zero := ⟨_, rfl⟩
  obtain ⟨I, hI⟩ : ∃ I, I = (Pe.order? l cd d).isSome := ⟨_, rfl⟩
  obtain ⟨R, hR⟩ : ∃ R, R = Pe.refuses l cd s d := ⟨_, rfl⟩
  rw [← hy, ← hI] at hoc hor
  rw [← hR] at hrc hrr
  unfold pCells at hoc hor hrc hrr
  have HC := Lib.hid (And.intro hoc (And.intro hor (And.intro hrc hrr)))
  have H := Lib.hid (And.intro h hL)
  clear hoc hor hrc hrr hy hI hR h hL
  have hfe := fun w0 => Few_calls A n c w0
  have HFE := Lib.hid hfe
  clear hfe
  go_enter Tryz.func8, Tryz.ntmps8
  unfold pCells
  go_upto_region 1 with fail
  obtain ⟨b, hb⟩ : ∃ b, b = w.heap.size := ⟨_, rfl⟩
  obtain ⟨w1, hw1⟩ : ∃ w1, w1 = w.alloc (.cells (pCells cd) 40) := ⟨_, rfl⟩
  have hb1 : Below w.heap.size w w1 := by rw [hw1]; exact (Below.refl _ w).alloc (Nat.le_refl _) _
  have hc1 : Blk w1 b 40 (pCells cd) := by rw [hw1, hb]; exact Blk.fresh _ _ _
  unfold pCells at hw1
  rw [← hb, ← hw1]
  have H1 := Lib.hid (And.intro hb1 hc1)
  have k0 : w1.cell? ⟨b, 0, none⟩ = some (.int .i64 cd.1) := hc1.cell 0
  have k1 : w1.cell? ⟨b, 1, none⟩ = some (.int .i64 cd.2) := hc1.cell 1
  clear hb1 hc1 hw1 hb
  by_cases hfew : n ≤ 60
  case neg =>
    have d1 : decide (n ≤ 60) = false := by simpa using hfew
    have HD := Lib.hid d1
    clear d1 hfew
    go_wp2_with fail
    refine (HFE.out w1).mono ?_
    rintro e w2 ⟨rfl, rfl⟩
    rw [HD.out]
    dsimp only
    go_wp2_with fail
    refine (alive_calls w2 (H.out.2.below H1.out.1)).mono ?_
    rintro e wy ⟨rfl, hby⟩
    have HY := Lib.hid (H1.out.1.trans (hby.mono H1.out.1.size))
    clear hby
    dsimp only
    go_wp2
    go_ret
    exact ⟨rfl, HY.out⟩
  have d1 : decide (n ≤ 60) = true := by simpa using hfew
  have HD := Lib.hid d1
  clear d1 hfew
  go_wp2_with fail
  refine (HFE.out w1).mono ?_
  rintro e w2 ⟨rfl, rfl⟩
  rw [HD.out]
  dsimp only
  go_wp2_with fail
  refine (HC.out.1 w2 H1.out.1).mono ?_
  rintro e w3 ⟨rfl, hb3⟩
  have H3 := Lib.hid (And.intro (H1.out.1.trans (hb3.mono H1.out.1.size)) (H1.out.2.below hb3 H1.out.2.lt))
  clear hb3 k0 k1
  unfold eCells
  dsimp only
  go_upto_region 4 with fail
  obtain ⟨g, hg⟩ : ∃ g, g = w3.heap.size := ⟨_, rfl⟩
  obtain ⟨w4, hw4⟩ : ∃ w4, w4 = w3.alloc (.cells (eCells y) 29) := ⟨_, rfl⟩
  have hb4 : Below w3.heap.size w3 w4 := by rw [hw4]; exact (Below.refl _ w3).alloc (Nat.le_refl _) _
  have hg4 : Blk w4 g 29 (eCells y) := by rw [hw4, hg]; exact Blk.fresh _ _ _
  unfold eCells at hw4
  rw [← hg, ← hw4]
  have H4 := Lib.hid (And.intro (H3.out.1.trans (hb4.mono H3.out.1.size)) (And.intro (H3.out.2.below hb4 H3.out.2.lt) hg4))
  clear hb4 hg4 hw4 hg
  have k0 : w4.cell? ⟨b, 0, none⟩ = some (.int .i64 cd.1) := H4.out.2.1.cell 0
  have k1 : w4.cell? ⟨b, 1, none⟩ = some (.int .i64 cd.2) := H4.out.2.1.cell 1
  go_wp2_with fail
  refine (HC.out.2.1 w4 H4.out.1).mono ?_
  rintro e w5 ⟨rfl, hb5⟩
  have H5 := Lib.hid (And.intro (H4.out.1.trans (hb5.mono H4.out.1.size)) (And.intro (H4.out.2.1.below hb5 H4.out.2.1.lt) (H4.out.2.2.below hb5 H4.out.2.2.lt)))
  clear hb5 k0 k1
  unfold eCells
  dsimp only
  go_upto_region 5 with fail
  obtain ⟨g2, hg2⟩ : ∃ g2, g2 = w5.heap.size := ⟨_, rfl⟩
  obtain ⟨w6, hw6⟩ : ∃ w6, w6 = w5.alloc (.cells (eCells y) 29) := ⟨_, rfl⟩
  have hb6 : Below w5.heap.size w5 w6 := by rw [hw6]; exact (Below.refl _ w5).alloc (Nat.le_refl _) _
  have hg6 : Blk w6 g2 29 (eCells y) := by rw [hw6, hg2]; exact Blk.fresh _ _ _
  unfold eCells at hw6
  rw [← hg2, ← hw6]
  have H6 := Lib.hid (And.intro (H5.out.1.trans (hb6.mono H5.out.1.size)) (And.intro (H5.out.2.1.below hb6 H5.out.2.1.lt) (And.intro (H5.out.2.2.below hb6 H5.out.2.2.lt) hg6)))
  clear hb6 hg6 hw6 hg2
  have heq : ∀ w0, (binOp .eql 29 (.agg (eCells y)) (.agg (eCells y))).run Tryz.prog w0 = .ok (.bool true) w0 := fun w0 => by
    have := eql_ent y y w0
    rw [show decide (y = y) = true by simp] at this
    exact this
  unfold eCells at heq
  refine wp_region_R (RL [(2, fun w' => Blk w' g 29 (eCells y)), (3, fun w' => Blk w' g2 29 (eCells y)), (13, fun w' => Blk w' b 40 (pCells cd)), (18, fun w' => Blk w' b 40 (pCells cd))]) (by kernel_rfl) (RL_cons H6.out.2.2.1.drew (RL_cons H6.out.2.2.2.drew (RL_cons H6.out.2.1.drew (RL_cons H6.out.2.1.drew (RL_nil _))))) (fun hp => ?_)
  refine wpAnyR_step (i := 0) (o := ⟨some 31, _, _, _, _, _⟩) (by kernel_rfl) rfl (by rfl) (fun K hK => ?_) -- Op.call { callee := Callee.value (Operand.func 15), args := #[], argTypes := #[] }
  go_simp
  refine (alive_calls _ (H.out.2.below H6.out.1.drew)).mono ?_
  rintro e w7 ⟨rfl, hb7⟩
  show K _ _
  have HB7 := Lib.hid (H6.out.1.drew.trans (hb7.mono H6.out.1.size))
  have hS2 := H6.out.2.2.1.drew.below hb7 H6.out.2.2.1.lt
  have hS3 := H6.out.2.2.2.drew.below hb7 H6.out.2.2.2.lt
  have hS13 := H6.out.2.1.drew.below hb7 H6.out.2.1.lt
  have hS18 := hS13
  have HS7 := Lib.hid (And.intro hS2 (And.intro hS3 hS13))
  clear hb7
  refine hK _ _ (pend_on hS2 (pend_on hS3 (pend_on hS13 (pend_on hS18 pend_nil)))) (fun hq => ?_)
  clear hp hK K; have hp := hq; clear hq
  try simp only [Act.put, List.setIfInBounds_toArray, List.set_cons_zero, List.set_cons_succ]
  refine wpAnyR_take (i := 1) (oi := ⟨some 32, _, _, _, _, _⟩) (v := ?_) rfl (by kernel_rfl) (by kernel_rfl) (by kernel_rfl) (fun _ _ _ h => h) hp (.inl ⟨by rfl, fun w _ => ?_⟩) (fun hq => ?_)
  rotate_left
  · go_simp
    with_reducible rfl
  clear hp; have hp := hq; clear hq
  try simp only [Act.put, List.setIfInBounds_toArray, List.set_cons_zero, List.set_cons_succ]
  refine wpAnyR_take (i := 2) (oi := ⟨some 33, _, _, _, _, _⟩) (v := ?_) rfl (by kernel_rfl) (by kernel_rfl) (by kernel_rfl) (fun _ _ _ h => h) hp (.inl ⟨by rfl, fun w hR => ?_⟩) (fun hq => ?_)
  rotate_left
  · have hR := hR.1 rfl
    (try dsimp only at hR)
    have c0 : w.cell? ⟨g, 0, none⟩ = some (.int .i64 y.day) := hR.cell 0
    have c1 : w.cell? ⟨g, 1, none⟩ = some (.int .u8 (y.kind : Int)) := hR.cell 1
    have c2 : w.cell? ⟨g, 2, none⟩ = some (.int .i64 y.since) := hR.cell 2
    have c3 : w.cell? ⟨g, 3, none⟩ = some (.int .i64 y.til) := hR.cell 3
    have c4 : w.cell? ⟨g, 4, none⟩ = some (.int .i64 y.person) := hR.cell 4
    have c5 : w.cell? ⟨g, 5, none⟩ = some (.int .i64 y.place) := hR.cell 5
    have c6 : w.cell? ⟨g, 6, none⟩ = some (.int .i64 y.other) := hR.cell 6
    have c7 : w.cell? ⟨g, 7, none⟩ = some (.int .i64 y.at_) := hR.cell 7
    have c8 : w.cell? ⟨g, 8, none⟩ = some (.int .i64 y.order) := hR.cell 8
    have c9 : w.cell? ⟨g, 9, none⟩ = some (.string (bs y.name)) := hR.cell 9
    clear hR
    go_simp
    with_reducible rfl
  clear hp; have hp := hq; clear hq
  try simp only [Act.put, List.setIfInBounds_toArray, List.set_cons_zero, List.set_cons_succ]
  refine wpAnyR_take (i := 3) (oi := ⟨some 34, _, _, _, _, _⟩) (v := ?_) rfl (by kernel_rfl) (by kernel_rfl) (by kernel_rfl) (fun _ _ _ h => h) hp (.inl ⟨by rfl, fun w hR => ?_⟩) (fun hq => ?_)
  rotate_left
  · have hR := hR.2.1 rfl
    (try dsimp only at hR)
    have c0 : w.cell? ⟨g2, 0, none⟩ = some (.int .i64 y.day) := hR.cell 0
    have c1 : w.cell? ⟨g2, 1, none⟩ = some (.int .u8 (y.kind : Int)) := hR.cell 1
    have c2 : w.cell? ⟨g2, 2, none⟩ = some (.int .i64 y.since) := hR.cell 2
    have c3 : w.cell? ⟨g2, 3, none⟩ = some (.int .i64 y.til) := hR.cell 3
    have c4 : w.cell? ⟨g2, 4, none⟩ = some (.int .i64 y.person) := hR.cell 4
    have c5 : w.cell? ⟨g2, 5, none⟩ = some (.int .i64 y.place) := hR.cell 5
    have c6 : w.cell? ⟨g2, 6, none⟩ = some (.int .i64 y.other) := hR.cell 6
    have c7 : w.cell? ⟨g2, 7, none⟩ = some (.int .i64 y.at_) := hR.cell 7
    have c8 : w.cell? ⟨g2, 8, none⟩ = some (.int .i64 y.order) := hR.cell 8
    have c9 : w.cell? ⟨g2, 9, none⟩ = some (.string (bs y.name)) := hR.cell 9
    clear hR
    go_simp
    with_reducible rfl
  clear hp; have hp := hq; clear hq
  try simp only [Act.put, List.setIfInBounds_toArray, List.set_cons_zero, List.set_cons_succ]
  refine wpAnyR_take (i := 4) (oi := ⟨some 35, _, _, _, _, _⟩) (v := ?_) rfl (by kernel_rfl) (by kernel_rfl) (by kernel_rfl) (fun _ _ _ h => h) hp (.inl ⟨by rfl, fun w _ => ?_⟩) (fun hq => ?_)
  rotate_left
  · go_simp
    with_reducible rfl
  clear hp; have hp := hq; clear hq
  try simp only [Act.put, List.setIfInBounds_toArray, List.set_cons_zero, List.set_cons_succ]
  refine wpAnyR_take (i := 5) (oi := ⟨some 36, _, _, _, _, _⟩) (v := ?_) rfl (by kernel_rfl) (by kernel_rfl) (by kernel_rfl) (fun _ _ _ h => h) hp (.inl ⟨by rfl, fun w _ => ?_⟩) (fun hq => ?_)
  rotate_left
  · go_simp
    with_reducible rfl
  clear hp; have hp := hq; clear hq
  try simp only [Act.put, List.setIfInBounds_toArray, List.set_cons_zero, List.set_cons_succ]
  refine wpAnyR_take (i := 6) (oi := ⟨some 37, _, _, _, _, _⟩) (v := ?_) rfl (by kernel_rfl) (by kernel_rfl) (by kernel_rfl) (fun _ _ _ h => h) hp (.inl ⟨by rfl, fun w _ => ?_⟩) (fun hq => ?_)
  rotate_left
  · go_simp
    with_reducible rfl
  clear hp; have hp := hq; clear hq
  try simp only [Act.put, List.setIfInBounds_toArray, List.set_cons_zero, List.set_cons_succ]
  refine wpAnyR_take (i := 7) (oi := ⟨some 38, _, _, _, _, _⟩) (v := ?_) rfl (by kernel_rfl) (by kernel_rfl) (by kernel_rfl) (fun _ _ _ h => h) hp (.inl ⟨by rfl, fun w _ => ?_⟩) (fun hq => ?_)
  rotate_left
  · go_simp
    with_reducible rfl
  clear hp; have hp := hq; clear hq
  try simp only [Act.put, List.setIfInBounds_toArray, List.set_cons_zero, List.set_cons_succ]
  refine wpAnyR_take (i := 8) (oi := ⟨some 39, _, _, _, _, _⟩) (v := ?_) rfl (by kernel_rfl) (by kernel_rfl) (by kernel_rfl) (fun _ _ _ h => h) hp (.inl ⟨by rfl, fun w _ => ?_⟩) (fun hq => ?_)
  rotate_left
  · go_simp
    with_reducible rfl
  clear hp; have hp := hq; clear hq
  try simp only [Act.put, List.setIfInBounds_toArray, List.set_cons_zero, List.set_cons_succ]
  refine wpAnyR_take (i := 9) (oi := ⟨some 40, _, _, _, _, _⟩) (v := ?_) rfl (by kernel_rfl) (by kernel_rfl) (by kernel_rfl) (fun _ _ _ h => h) hp (.inl ⟨by rfl, fun w _ => ?_⟩) (fun hq => ?_)
  rotate_left
  · go_simp
    with_reducible rfl
  clear hp; have hp := hq; clear hq
  try simp only [Act.put, List.setIfInBounds_toArray, List.set_cons_zero, List.set_cons_succ]
  refine wpAnyR_take (i := 10) (oi := ⟨some 41, _, _, _, _, _⟩) (v := ?_) rfl (by kernel_rfl) (by kernel_rfl) (by kernel_rfl) (fun _ _ _ h => h) hp (.inl ⟨by rfl, fun w _ => ?_⟩) (fun hq => ?_)
  rotate_left
  · go_simp
    with_reducible rfl
  clear hp; have hp := hq; clear hq
  try simp only [Act.put, List.setIfInBounds_toArray, List.set_cons_zero, List.set_cons_succ]
  refine wpAnyR_take (i := 11) (oi := ⟨some 42, _, _, _, _, _⟩) (v := ?_) rfl (by kernel_rfl) (by kernel_rfl) (by kernel_rfl) (fun _ _ _ h => h) hp (.inl ⟨by rfl, fun w _ => ?_⟩) (fun hq => ?_)
  rotate_left
  · go_simp
    with_reducible rfl
  clear hp; have hp := hq; clear hq
  try simp only [Act.put, List.setIfInBounds_toArray, List.set_cons_zero, List.set_cons_succ]
  refine wpAnyR_take (i := 12) (oi := ⟨some 43, _, _, _, _, _⟩) (v := ?_) rfl (by kernel_rfl) (by kernel_rfl) (by kernel_rfl) (fun _ _ _ h => h) hp (.inl ⟨by rfl, fun w _ => ?_⟩) (fun hq => ?_)
  rotate_left
  · go_simp
    with_reducible rfl
  clear hp; have hp := hq; clear hq
  try simp only [Act.put, List.setIfInBounds_toArray, List.set_cons_zero, List.set_cons_succ]
  refine wpAnyR_take (i := 13) (oi := ⟨some 44, _, _, _, _, _⟩) (v := ?_) rfl (by kernel_rfl) (by kernel_rfl) (by kernel_rfl) (fun _ _ _ h => h) hp (.inl ⟨by rfl, fun w hR => ?_⟩) (fun hq => ?_)
  rotate_left
  · have hR := hR.2.2.1 rfl
    (try dsimp only at hR)
    have k0 : w.cell? ⟨b, 0, none⟩ = some (.int .i64 cd.1) := hR.cell 0
    have k1 : w.cell? ⟨b, 1, none⟩ = some (.int .i64 cd.2) := hR.cell 1
    clear hR
    go_simp
    with_reducible rfl
  clear hp; have hp := hq; clear hq
  try simp only [Act.put, List.setIfInBounds_toArray, List.set_cons_zero, List.set_cons_succ]
  refine wpAnyR_take (i := 14) (oi := ⟨some 45, _, _, _, _, _⟩) (v := ?_) rfl (by kernel_rfl) (by kernel_rfl) (by kernel_rfl) (fun _ _ _ h => h) hp (.inl ⟨by rfl, fun w _ => ?_⟩) (fun hq => ?_)
  rotate_left
  · go_simp
    with_reducible rfl
  clear hp; have hp := hq; clear hq
  try simp only [Act.put, List.setIfInBounds_toArray, List.set_cons_zero, List.set_cons_succ]
  refine wpAnyR_take (i := 15) (oi := ⟨some 46, _, _, _, _, _⟩) (v := ?_) rfl (by kernel_rfl) (by kernel_rfl) (by kernel_rfl) (fun _ _ _ h => h) hp (.inl ⟨by rfl, fun w _ => ?_⟩) (fun hq => ?_)
  rotate_left
  · go_simp
    with_reducible rfl
  clear hp; have hp := hq; clear hq
  try simp only [Act.put, List.setIfInBounds_toArray, List.set_cons_zero, List.set_cons_succ]
  refine wpAnyR_take (i := 17) (oi := ⟨some 48, _, _, _, _, _⟩) (v := ?_) rfl (by kernel_rfl) (by kernel_rfl) (by kernel_rfl) (fun _ _ _ h => h) hp (.inl ⟨by rfl, fun w _ => ?_⟩) (fun hq => ?_)
  rotate_left
  · go_simp
    with_reducible rfl
  clear hp; have hp := hq; clear hq
  try simp only [Act.put, List.setIfInBounds_toArray, List.set_cons_zero, List.set_cons_succ]
  refine wpAnyR_take (i := 18) (oi := ⟨some 49, _, _, _, _, _⟩) (v := ?_) rfl (by kernel_rfl) (by kernel_rfl) (by kernel_rfl) (fun _ _ _ h => h) hp (.inl ⟨by rfl, fun w hR => ?_⟩) (fun hq => ?_)
  rotate_left
  · have hR := hR.2.2.2.1 rfl
    (try dsimp only at hR)
    have k0 : w.cell? ⟨b, 0, none⟩ = some (.int .i64 cd.1) := hR.cell 0
    have k1 : w.cell? ⟨b, 1, none⟩ = some (.int .i64 cd.2) := hR.cell 1
    clear hR
    go_simp
    with_reducible rfl
  clear hp; have hp := hq; clear hq
  try simp only [Act.put, List.setIfInBounds_toArray, List.set_cons_zero, List.set_cons_succ]
  refine wpAnyR_take (i := 19) (oi := ⟨some 50, _, _, _, _, _⟩) (v := ?_) rfl (by kernel_rfl) (by kernel_rfl) (by kernel_rfl) (fun _ _ _ h => h) hp (.inl ⟨by rfl, fun w _ => ?_⟩) (fun hq => ?_)
  rotate_left
  · go_simp
    with_reducible rfl
  clear hp; have hp := hq; clear hq
  try simp only [Act.put, List.setIfInBounds_toArray, List.set_cons_zero, List.set_cons_succ]
  refine wpAnyR_take (i := 20) (oi := ⟨some 51, _, _, _, _, _⟩) (v := ?_) rfl (by kernel_rfl) (by kernel_rfl) (by kernel_rfl) (fun _ _ _ h => h) hp (.inl ⟨by rfl, fun w _ => ?_⟩) (fun hq => ?_)
  rotate_left
  · go_simp
    with_reducible rfl
  clear hp; have hp := hq; clear hq
  try simp only [Act.put, List.setIfInBounds_toArray, List.set_cons_zero, List.set_cons_succ]
  refine wpAnyR_step (i := 16) (o := ⟨some 47, _, _, _, _, _⟩) (by kernel_rfl) rfl (by rfl) (fun K hK => ?_) -- Op.call { callee := Callee.value (Operand.func 26), args := #[Operand.tmp 43, Operand.tmp 44, Operand.tmp 45, 
  go_simp
  refine (HC.out.2.2.1 w7 HB7.out).mono ?_
  rintro e w8 ⟨rfl, hb8⟩
  show K _ _
  have HB8 := Lib.hid (HB7.out.trans (hb8.mono HB7.out.size))
  have hS2 := HS7.out.1.below hb8 HS7.out.1.lt
  have hS3 := HS7.out.2.1.below hb8 HS7.out.2.1.lt
  have hS13 := HS7.out.2.2.below hb8 HS7.out.2.2.lt
  have hS18 := hS13
  have HS8 := Lib.hid (And.intro hS2 (And.intro hS3 hS13))
  clear hb8
  refine hK _ _ (pend_on hS2 (pend_on hS3 (pend_off (by kernel_rfl) (pend_on hS18 pend_nil)))) (fun hq => ?_)
  clear hp hK K; have hp := hq; clear hq
  try simp only [Act.put, List.setIfInBounds_toArray, List.set_cons_zero, List.set_cons_succ]
  refine wpAnyR_step (i := 21) (o := ⟨some 52, _, _, _, _, _⟩) (by kernel_rfl) rfl (by rfl) (fun K hK => ?_) -- Op.call { callee := Callee.value (Operand.func 27), args := #[Operand.tmp 48, Operand.tmp 49, Operand.tmp 50, 
  go_simp
  refine (HC.out.2.2.2 w8 HB8.out).mono ?_
  rintro e w9 ⟨rfl, hb9⟩
  show K _ _
  have HB9 := Lib.hid (HB8.out.trans (hb9.mono HB8.out.size))
  have hS2 := HS8.out.1.below hb9 HS8.out.1.lt
  have hS3 := HS8.out.2.1.below hb9 HS8.out.2.1.lt
  have hS13 := HS8.out.2.2.below hb9 HS8.out.2.2.lt
  have hS18 := hS13
  clear hb9
  refine hK _ _ (pend_on hS2 (pend_on hS3 (pend_off (by kernel_rfl) (pend_off (by kernel_rfl) pend_nil)))) (fun hq => ?_)
  clear hp hK K; have hp := hq; clear hq
  try simp only [Act.put, List.setIfInBounds_toArray, List.set_cons_zero, List.set_cons_succ]
  refine wpAnyR_take (i := 22) (oi := ⟨some 53, _, _, _, _, _⟩) (v := ?_) rfl (by kernel_rfl) (by kernel_rfl) (by kernel_rfl) (fun _ _ _ h => h) hp (.inl ⟨by rfl, fun w _ => ?_⟩) (fun hq => ?_)
  rotate_left
  · go_simp
    with_reducible rfl
  clear hp; have hp := hq; clear hq
  try simp only [Act.put, List.setIfInBounds_toArray, List.set_cons_zero, List.set_cons_succ]
  refine wpAnyR_take (i := 23) (oi := ⟨some 54, _, _, _, _, _⟩) (v := ?_) rfl (by kernel_rfl) (by kernel_rfl) (by kernel_rfl) (fun _ _ _ h => h) hp (.inl ⟨by rfl, fun w _ => ?_⟩) (fun hq => ?_)
  rotate_left
  · go_simp
    with_reducible rfl
  clear hp; have hp := hq; clear hq
  try simp only [Act.put, List.setIfInBounds_toArray, List.set_cons_zero, List.set_cons_succ]
  refine wpAnyR_take (i := 24) (oi := ⟨some 8, _, _, _, _, _⟩) (v := ?_) rfl (by kernel_rfl) (by kernel_rfl) (by kernel_rfl) (fun _ _ _ h => h) hp (.inl ⟨by rfl, fun w _ => ?_⟩) (fun hq => ?_)
  rotate_left
  · go_simp
    with_reducible rfl
  clear hp; have hp := hq; clear hq
  try simp only [Act.put, List.setIfInBounds_toArray, List.set_cons_zero, List.set_cons_succ]
  refine wpAnyR_done (by kernel_rfl) ?_ _
  clear hp
  go_wp2
  go_ret
  exact ⟨rfl, HB9.out⟩

end Go.Proofs.YtfalajomfcfliaaGreatDoor
