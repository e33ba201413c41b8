/-
  The walk of a step: Stop and Write, whose two calls stand in one statement.
-/
import Derived.Test.YtdnjelggdjimhaaSp2
namespace Go.Proofs.Ytdnjelggdjimhaa
open Go.RowKit

set_option maxRecDepth 100000 in
set_option maxHeartbeats 1000000 in
theorem step_stop {w : World} {base g m : Nat} {d : Dk.D} (kd : Nat) (s : Int) (A B : Option Addr) (a c b e : Nat) (n : Int) (h : Both w base g m d) (hr : (kd : Int).tmod 5 = 3) (hn : n ≤ 9223372036854775807) :
    Calls Try.prog 17 #[.pointer (some ⟨g, 0, none⟩), .pointer (some ⟨m, 0, none⟩), .agg #[.int .u8 (kd : Int), .int .i64 s, .slice A a c, .int .i64 n, .slice B b e]] w fun e w' => e = .returned (.bool true) ∧ Both w' base g m (Dk.stop d n) ∧ Below base w w' := by
  have HX := Lib.hid (BoxAt.start h #[.int .u8 (kd : Int), .int .i64 s, .slice A a c, .int .i64 n, .slice B b e])
  clear h
  go_enter Try.func17, Try.ntmps17
  go_wp2_with fail
  obtain ⟨wX, hwX⟩ : ∃ wX, wX = w.alloc (.cells #[.int .u8 (kd : Int), .int .i64 s, .slice A a c, .int .i64 n, .slice B b e] 43) := ⟨_, rfl⟩
  rw [← hwX] at HX ⊢
  clear hwX
  have hx3 : wX.cell? ⟨w.heap.size, 3, none⟩ = some (.int .i64 n) := HX.out.blk.cell 3
  refine wp_region_R (RL [(2, fun w' => w'.cell? ⟨w.heap.size, 3, none⟩ = some (.int .i64 n)), (6, fun w' => w'.cell? ⟨w.heap.size, 3, none⟩ = some (.int .i64 n))]) (by kernel_rfl) (RL_cons hx3 (RL_cons hx3 (RL_nil _))) (fun hp => ?_)
  refine wpAnyR_take (i := 0) (oi := ⟨some 64, _, _, _, _, _⟩) (v := ?_) rfl (by kernel_rfl) (by kernel_rfl) (by kernel_rfl) (fun _ _ _ h => h) hp (.inl ⟨by rfl, fun w _ => ?_⟩) (fun hq => ?_)
  rotate_left
  · go_simp
    with_reducible rfl
  clear hp; have hp := hq; clear hq
  try simp only [Act.put, List.setIfInBounds_toArray, List.set_cons_zero, List.set_cons_succ]
  refine wpAnyR_take (i := 1) (oi := ⟨some 65, _, _, _, _, _⟩) (v := ?_) rfl (by kernel_rfl) (by kernel_rfl) (by kernel_rfl) (fun _ _ _ h => h) hp (.inl ⟨by rfl, fun w _ => ?_⟩) (fun hq => ?_)
  rotate_left
  · go_simp
    with_reducible rfl
  clear hp; have hp := hq; clear hq
  try simp only [Act.put, List.setIfInBounds_toArray, List.set_cons_zero, List.set_cons_succ]
  refine wpAnyR_take (i := 2) (oi := ⟨some 66, _, _, _, _, _⟩) (v := ?_) rfl (by kernel_rfl) (by kernel_rfl) (by kernel_rfl) (fun _ _ _ h => h) hp (.inl ⟨by rfl, fun w hR => ?_⟩) (fun hq => ?_)
  rotate_left
  · have hR := hR.1 rfl
    (try dsimp only at hR)
    go_simp
    with_reducible rfl
  clear hp; have hp := hq; clear hq
  try simp only [Act.put, List.setIfInBounds_toArray, List.set_cons_zero, List.set_cons_succ]
  refine wpAnyR_take (i := 4) (oi := ⟨some 68, _, _, _, _, _⟩) (v := ?_) rfl (by kernel_rfl) (by kernel_rfl) (by kernel_rfl) (fun _ _ _ h => h) hp (.inl ⟨by rfl, fun w _ => ?_⟩) (fun hq => ?_)
  rotate_left
  · go_simp
    with_reducible rfl
  clear hp; have hp := hq; clear hq
  try simp only [Act.put, List.setIfInBounds_toArray, List.set_cons_zero, List.set_cons_succ]
  refine wpAnyR_take (i := 5) (oi := ⟨some 69, _, _, _, _, _⟩) (v := ?_) rfl (by kernel_rfl) (by kernel_rfl) (by kernel_rfl) (fun _ _ _ h => h) hp (.inl ⟨by rfl, fun w _ => ?_⟩) (fun hq => ?_)
  rotate_left
  · go_simp
    with_reducible rfl
  clear hp; have hp := hq; clear hq
  try simp only [Act.put, List.setIfInBounds_toArray, List.set_cons_zero, List.set_cons_succ]
  refine wpAnyR_take (i := 6) (oi := ⟨some 70, _, _, _, _, _⟩) (v := ?_) rfl (by kernel_rfl) (by kernel_rfl) (by kernel_rfl) (fun _ _ _ h => h) hp (.inl ⟨by rfl, fun w hR => ?_⟩) (fun hq => ?_)
  rotate_left
  · have hR := hR.2.1 rfl
    (try dsimp only at hR)
    go_simp
    with_reducible rfl
  clear hp; have hp := hq; clear hq
  try simp only [Act.put, List.setIfInBounds_toArray, List.set_cons_zero, List.set_cons_succ]
  refine wpAnyR_step (i := 3) (o := ⟨some 67, _, _, _, _, _⟩) (by kernel_rfl) rfl (by rfl) (fun K hK => ?_) -- Op.call { callee := Callee.value (Operand.func 23), args := #[Operand.tmp 64, Operand.tmp 66], argTypes := #[2
  go_simp
  obtain ⟨hb, vd, vn, vw, vd2, vp, hD, hM⟩ := (HX.out.new_ (Chg.refl _ wX).drew).both
  refine (stop_upd n hD hn).mono ?_
  rintro e1 w1 ⟨rfl, hU⟩
  show K _ _
  have HX1 := Lib.hid ((HX.out.new_ (Chg.refl _ wX).drew).upd hD hU)
  have hS2 : w1.cell? ⟨w.heap.size, 3, none⟩ = some (.int .i64 n) := HX1.out.blk.cell 3
  have hS6 := hS2
  refine hK _ _ (pend_off (by kernel_rfl) (pend_on hS6 pend_nil)) (fun hq => ?_)
  clear hp hK K; have hp := hq; clear hq
  try simp only [Act.put, List.setIfInBounds_toArray, List.set_cons_zero, List.set_cons_succ]
  refine wpAnyR_step (i := 7) (o := ⟨some 71, _, _, _, _, _⟩) (by kernel_rfl) rfl (by rfl) (fun K hK => ?_) -- Op.call { callee := Callee.value (Operand.func 35), args := #[Operand.tmp 68, Operand.tmp 70], argTypes := #[3
  go_simp
  obtain ⟨_, vd', vn', vw', vd2', vp', _, hM⟩ := HX1.out.both
  refine (mstop_any n hM hn).mono ?_
  rintro e1 w2 ⟨rfl, hU2⟩
  show K _ _
  have HX2 := Lib.hid (HX1.out.updM hM hU2)
  refine hK _ _ (pend_off (by kernel_rfl) (pend_off (by kernel_rfl) pend_nil)) (fun hq => ?_)
  clear hp hK K; have hp := hq; clear hq
  try simp only [Act.put, List.setIfInBounds_toArray, List.set_cons_zero, List.set_cons_succ]
  refine wpAnyR_take (i := 8) (oi := ⟨some 72, _, _, _, _, _⟩) (v := ?_) rfl (by kernel_rfl) (by kernel_rfl) (by kernel_rfl) (fun _ _ _ h => h) hp (.inl ⟨by rfl, fun w _ => ?_⟩) (fun hq => ?_)
  rotate_left
  · go_simp
    with_reducible rfl
  clear hp; have hp := hq; clear hq
  try simp only [Act.put, List.setIfInBounds_toArray, List.set_cons_zero, List.set_cons_succ]
  refine wpAnyR_take (i := 9) (oi := ⟨some 6, _, _, _, _, _⟩) (v := ?_) rfl (by kernel_rfl) (by kernel_rfl) (by kernel_rfl) (fun _ _ _ h => h) hp (.inl ⟨by rfl, fun w _ => ?_⟩) (fun hq => ?_)
  rotate_left
  · go_simp
    with_reducible rfl
  clear hp; have hp := hq; clear hq
  try simp only [Act.put, List.setIfInBounds_toArray, List.set_cons_zero, List.set_cons_succ]
  refine wpAnyR_done (by kernel_rfl) ?_ _
  clear hp
  go_wp2
  go_ret
  exact ⟨rfl, HX2.out.out⟩

set_option maxRecDepth 100000 in
set_option maxHeartbeats 1000000 in
theorem step_write {w W0 : World} {base g m : Nat} {d : Dk.D} (kd : Nat) (s : Int) (A B : Option Addr) (a c b e : Nat) (n : Int) (data : List UInt8) (h : Both w base g m d) (hr : (kd : Int).tmod 5 = 1) (hW : Below base W0 w) (hs : W0.heap.size = base) (hk : BytesAt W0 A a c data)
    (hl : data.length ≤ 4611686018427387904) (HROOM : d.wr.length + 1 ≤ maxLen ∧ (d.wr.length + 1) * 72 ≤ 140737488355328) :
    Calls Try.prog 17 #[.pointer (some ⟨g, 0, none⟩), .pointer (some ⟨m, 0, none⟩), .agg #[.int .u8 (kd : Int), .int .i64 s, .slice A a c, .int .i64 n, .slice B b e]] w fun e w' => e = .returned (.bool true) ∧ Both w' base g m (Dk.write d s data) ∧ Below base w w' := by
  have HX := Lib.hid (BoxAt.start h #[.int .u8 (kd : Int), .int .i64 s, .slice A a c, .int .i64 n, .slice B b e])
  have HK := Lib.hid hk
  have HW := Lib.hid (And.intro hW hs)
  have HR := Lib.hid HROOM
  clear h hk hW hs HROOM
  go_enter Try.func17, Try.ntmps17
  go_wp2_with fail
  obtain ⟨wX, hwX⟩ : ∃ wX, wX = w.alloc (.cells #[.int .u8 (kd : Int), .int .i64 s, .slice A a c, .int .i64 n, .slice B b e] 43) := ⟨_, rfl⟩
  rw [← hwX] at HX ⊢
  clear hwX
  have hx1 : wX.cell? ⟨w.heap.size, 1, none⟩ = some (.int .i64 s) := HX.out.blk.cell 1
  have hx2 : wX.cell? ⟨w.heap.size, 2, none⟩ = some (.slice A a c) := HX.out.blk.cell 2
  have hxs : SrcAt wX A (bvs data) := (HX.out.bytes HW.out.1 HW.out.2 HK.out).src
  refine wp_region_R (RL [(2, fun w' => w'.cell? ⟨w.heap.size, 1, none⟩ = some (.int .i64 s)), (4, fun w' => w'.cell? ⟨w.heap.size, 2, none⟩ = some (.slice A a c)), (8, fun w' => w'.cell? ⟨w.heap.size, 1, none⟩ = some (.int .i64 s)), (10, fun w' => w'.cell? ⟨w.heap.size, 2, none⟩ = some (.slice A a c)), (11, fun w' => SrcAt w' A (bvs data))]) (by kernel_rfl) (RL_cons hx1 (RL_cons hx2 (RL_cons hx1 (RL_cons hx2 (RL_cons hxs (RL_nil _)))))) (fun hp => ?_)
  clear hxs
  refine wpAnyR_take (i := 0) (oi := ⟨some 41, _, _, _, _, _⟩) (v := ?_) rfl (by kernel_rfl) (by kernel_rfl) (by kernel_rfl) (fun _ _ _ h => h) hp (.inl ⟨by rfl, fun w _ => ?_⟩) (fun hq => ?_)
  rotate_left
  · go_simp
    with_reducible rfl
  clear hp; have hp := hq; clear hq
  try simp only [Act.put, List.setIfInBounds_toArray, List.set_cons_zero, List.set_cons_succ]
  refine wpAnyR_take (i := 1) (oi := ⟨some 42, _, _, _, _, _⟩) (v := ?_) rfl (by kernel_rfl) (by kernel_rfl) (by kernel_rfl) (fun _ _ _ h => h) hp (.inl ⟨by rfl, fun w _ => ?_⟩) (fun hq => ?_)
  rotate_left
  · go_simp
    with_reducible rfl
  clear hp; have hp := hq; clear hq
  try simp only [Act.put, List.setIfInBounds_toArray, List.set_cons_zero, List.set_cons_succ]
  refine wpAnyR_take (i := 2) (oi := ⟨some 43, _, _, _, _, _⟩) (v := ?_) rfl (by kernel_rfl) (by kernel_rfl) (by kernel_rfl) (fun _ _ _ h => h) hp (.inl ⟨by rfl, fun w hR => ?_⟩) (fun hq => ?_)
  rotate_left
  · have hR := hR.1 rfl
    (try dsimp only at hR)
    go_simp
    with_reducible rfl
  clear hp; have hp := hq; clear hq
  try simp only [Act.put, List.setIfInBounds_toArray, List.set_cons_zero, List.set_cons_succ]
  refine wpAnyR_take (i := 3) (oi := ⟨some 44, _, _, _, _, _⟩) (v := ?_) rfl (by kernel_rfl) (by kernel_rfl) (by kernel_rfl) (fun _ _ _ h => h) hp (.inl ⟨by rfl, fun w _ => ?_⟩) (fun hq => ?_)
  rotate_left
  · go_simp
    with_reducible rfl
  clear hp; have hp := hq; clear hq
  try simp only [Act.put, List.setIfInBounds_toArray, List.set_cons_zero, List.set_cons_succ]
  refine wpAnyR_take (i := 4) (oi := ⟨some 45, _, _, _, _, _⟩) (v := ?_) rfl (by kernel_rfl) (by kernel_rfl) (by kernel_rfl) (fun _ _ _ h => h) hp (.inl ⟨by rfl, fun w hR => ?_⟩) (fun hq => ?_)
  rotate_left
  · have hR := hR.2.1 rfl
    (try dsimp only at hR)
    go_simp
    with_reducible rfl
  clear hp; have hp := hq; clear hq
  try simp only [Act.put, List.setIfInBounds_toArray, List.set_cons_zero, List.set_cons_succ]
  refine wpAnyR_take (i := 6) (oi := ⟨some 47, _, _, _, _, _⟩) (v := ?_) rfl (by kernel_rfl) (by kernel_rfl) (by kernel_rfl) (fun _ _ _ h => h) hp (.inl ⟨by rfl, fun w _ => ?_⟩) (fun hq => ?_)
  rotate_left
  · go_simp
    with_reducible rfl
  clear hp; have hp := hq; clear hq
  try simp only [Act.put, List.setIfInBounds_toArray, List.set_cons_zero, List.set_cons_succ]
  refine wpAnyR_take (i := 7) (oi := ⟨some 48, _, _, _, _, _⟩) (v := ?_) rfl (by kernel_rfl) (by kernel_rfl) (by kernel_rfl) (fun _ _ _ h => h) hp (.inl ⟨by rfl, fun w _ => ?_⟩) (fun hq => ?_)
  rotate_left
  · go_simp
    with_reducible rfl
  clear hp; have hp := hq; clear hq
  try simp only [Act.put, List.setIfInBounds_toArray, List.set_cons_zero, List.set_cons_succ]
  refine wpAnyR_take (i := 8) (oi := ⟨some 49, _, _, _, _, _⟩) (v := ?_) rfl (by kernel_rfl) (by kernel_rfl) (by kernel_rfl) (fun _ _ _ h => h) hp (.inl ⟨by rfl, fun w hR => ?_⟩) (fun hq => ?_)
  rotate_left
  · have hR := hR.2.2.1 rfl
    (try dsimp only at hR)
    go_simp
    with_reducible rfl
  clear hp; have hp := hq; clear hq
  try simp only [Act.put, List.setIfInBounds_toArray, List.set_cons_zero, List.set_cons_succ]
  refine wpAnyR_take (i := 9) (oi := ⟨some 50, _, _, _, _, _⟩) (v := ?_) rfl (by kernel_rfl) (by kernel_rfl) (by kernel_rfl) (fun _ _ _ h => h) hp (.inl ⟨by rfl, fun w _ => ?_⟩) (fun hq => ?_)
  rotate_left
  · go_simp
    with_reducible rfl
  clear hp; have hp := hq; clear hq
  try simp only [Act.put, List.setIfInBounds_toArray, List.set_cons_zero, List.set_cons_succ]
  refine wpAnyR_take (i := 10) (oi := ⟨some 51, _, _, _, _, _⟩) (v := ?_) rfl (by kernel_rfl) (by kernel_rfl) (by kernel_rfl) (fun _ _ _ h => h) hp (.inl ⟨by rfl, fun w hR => ?_⟩) (fun hq => ?_)
  rotate_left
  · have hR := hR.2.2.2.1 rfl
    (try dsimp only at hR)
    go_simp
    with_reducible rfl
  clear hp; have hp := hq; clear hq
  try simp only [Act.put, List.setIfInBounds_toArray, List.set_cons_zero, List.set_cons_succ]
  refine wpAnyR_take (i := 11) (oi := ⟨some 52, _, _, _, _, _⟩) (v := ?_) rfl (by kernel_rfl) (by kernel_rfl) (by kernel_rfl) (fun _ _ _ h => h) hp (.inl ⟨by rfl, fun w hR => ?_⟩) (fun hq => ?_)
  rotate_left
  · have hR := hR.2.2.2.2.1 rfl
    (try dsimp only at hR)
    have hcv := run_str_at (c := c) HK.out.len hR
    clear hR
    go_simp
    with_reducible rfl
  clear hp; have hp := hq; clear hq
  try simp only [Act.put, List.setIfInBounds_toArray, List.set_cons_zero, List.set_cons_succ]
  refine wpAnyR_step (i := 5) (o := ⟨some 46, _, _, _, _, _⟩) (by kernel_rfl) rfl (by rfl) (fun K hK => ?_) -- Op.call { callee := Callee.value (Operand.func 10), args := #[Operand.tmp 41, Operand.tmp 43, Operand.tmp 45],
  go_simp
  obtain ⟨hb, vd, vn, vw, vd2, vp, hD, hM⟩ := (HX.out.new_ (Chg.refl _ wX).drew).both
  have hsrc := ((HX.out.new_ (Chg.refl _ wX).drew).bytes HW.out.1 HW.out.2 HK.out)
  refine (write_upd s A a c data hD hsrc.len hsrc.src (fun hne ad hA e => by have := HK.out.block hne ad hA; have := HW.out.2; have := hD.low; omega) HR.out).mono ?_
  rintro e1 w1 ⟨rfl, hU⟩
  show K _ _
  have HX1 := Lib.hid ((HX.out.new_ (Chg.refl _ wX).drew).upd hD hU)
  have hS2 : w1.cell? ⟨w.heap.size, 1, none⟩ = some (.int .i64 s) := HX1.out.blk.cell 1
  have hS4 : w1.cell? ⟨w.heap.size, 2, none⟩ = some (.slice A a c) := HX1.out.blk.cell 2
  have hS8 := hS2
  have hS10 := hS4
  have hS11 : SrcAt w1 A (bvs data) := (HX1.out.bytes HW.out.1 HW.out.2 HK.out).src
  refine hK _ _ (pend_off (by kernel_rfl) (pend_off (by kernel_rfl) (pend_on hS8 (pend_on hS10 (pend_on hS11 pend_nil))))) (fun hq => ?_)
  clear hp hK K; have hp := hq; clear hq
  try simp only [Act.put, List.setIfInBounds_toArray, List.set_cons_zero, List.set_cons_succ]
  refine wpAnyR_step (i := 12) (o := ⟨some 53, _, _, _, _, _⟩) (by kernel_rfl) rfl (by rfl) (fun K hK => ?_) -- Op.call { callee := Callee.value (Operand.func 33), args := #[Operand.tmp 47, Operand.tmp 49, Operand.tmp 52],
  go_simp
  obtain ⟨_, vd', vn', vw', vd2', vp', _, hM⟩ := HX1.out.both
  refine (mwrite_any s data hM hl ⟨HR.out.1, by have := HR.out.2; omega⟩).mono ?_
  rintro e1 w2 ⟨rfl, hU2⟩
  show K _ _
  have HX2 := Lib.hid (HX1.out.updM hM hU2)
  have hS8 : w2.cell? ⟨w.heap.size, 1, none⟩ = some (.int .i64 s) := HX2.out.blk.cell 1
  have hS2 := hS8
  have hS10 : w2.cell? ⟨w.heap.size, 2, none⟩ = some (.slice A a c) := HX2.out.blk.cell 2
  have hS4 := hS10
  have hS11 : SrcAt w2 A (bvs data) := (HX2.out.bytes HW.out.1 HW.out.2 HK.out).src
  refine hK _ _ (pend_off (by kernel_rfl) (pend_off (by kernel_rfl) (pend_off (by kernel_rfl) (pend_on hS10 (pend_off (by kernel_rfl) pend_nil))))) (fun hq => ?_)
  clear hp hK K; have hp := hq; clear hq
  try simp only [Act.put, List.setIfInBounds_toArray, List.set_cons_zero, List.set_cons_succ]
  refine wpAnyR_take (i := 13) (oi := ⟨some 54, _, _, _, _, _⟩) (v := ?_) rfl (by kernel_rfl) (by kernel_rfl) (by kernel_rfl) (fun _ _ _ h => h) hp (.inl ⟨by rfl, fun w _ => ?_⟩) (fun hq => ?_)
  rotate_left
  · go_simp
    with_reducible rfl
  clear hp; have hp := hq; clear hq
  try simp only [Act.put, List.setIfInBounds_toArray, List.set_cons_zero, List.set_cons_succ]
  refine wpAnyR_take (i := 14) (oi := ⟨some 6, _, _, _, _, _⟩) (v := ?_) rfl (by kernel_rfl) (by kernel_rfl) (by kernel_rfl) (fun _ _ _ h => h) hp (.inl ⟨by rfl, fun w _ => ?_⟩) (fun hq => ?_)
  rotate_left
  · go_simp
    with_reducible rfl
  clear hp; have hp := hq; clear hq
  try simp only [Act.put, List.setIfInBounds_toArray, List.set_cons_zero, List.set_cons_succ]
  refine wpAnyR_done (by kernel_rfl) ?_ _
  clear hp
  go_wp2
  go_ret
  exact ⟨rfl, HX2.out.out⟩

/-- A step: both do the operation. -/
theorem step_any {w W0 : World} {base g m : Nat} {d : Dk.D} (v : Value) (kd : Nat) (s : Int) (data : List UInt8) (n : Int) (keep : List Int) (h : Both w base g m d) (ho : OpAt W0 v kd s data n keep) (hW : Below base W0 w) (hs : W0.heap.size = base)
    (HROOM : d.wr.length ≤ 1000) :
    Calls Try.prog 17 #[.pointer (some ⟨g, 0, none⟩), .pointer (some ⟨m, 0, none⟩), v] w fun e w' => e = .returned (.bool true) ∧ Both w' base g m (Dk.stepD d kd s data n keep) ∧ Below base w w' := by
  obtain ⟨⟨A, a, c, B, b, e, rfl, hA, hB⟩, hkd, hn, hl⟩ := ho
  have ht : (kd : Int).tmod 5 = ((kd % 5 : Nat) : Int) := by rw [Int.tmod_eq_emod_of_nonneg (by omega)]; omega
  have h5 : kd % 5 < 5 := Nat.mod_lt _ (by omega)
  have R : d.wr.length + 1 ≤ maxLen ∧ (d.wr.length + 1) * 72 ≤ 140737488355328 := ⟨by simp only [maxLen]; omega, by omega⟩
  unfold Dk.stepD
  split
  · rename_i h0; exact step_read kd s A B a c b e n h (by rw [ht, h0]; rfl)
  · split
    · rename_i h0; exact step_write kd s A B a c b e n data h (by rw [ht, h0]; rfl) hW hs hA (by omega) R
    · split
      · rename_i h0; exact step_flush kd s A B a c b e n h (by rw [ht, h0]; rfl)
      · split
        · rename_i h0; exact step_stop kd s A B a c b e n h (by rw [ht, h0]; rfl) hn
        · exact step_crash kd s A B a c b e n keep h (by rw [ht]; omega) hW hs hB

end Go.Proofs.Ytdnjelggdjimhaa
