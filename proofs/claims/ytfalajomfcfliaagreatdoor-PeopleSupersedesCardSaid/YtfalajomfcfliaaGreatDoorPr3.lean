/-
  The reference's fields of an entry.
-/
import Derived.Test.YtfalajomfcfliaaGreatDoorPr2
namespace Go.Proofs.YtfalajomfcfliaaGreatDoor
open Go.RowKit

theorem infoEntryN : (Tryz.prog.info? 29).map (·.size) = some 10 := by kernel_rfl
theorem results_fields (w : World) (b : Nat) (X : Array Value) (tmps : Array Value) (hB : Blk w b 29 X) (hX : X.size = 10) (h2 : tmps.getD 2 undef = .pointer (some ⟨b, 0, none⟩)) :
    (results Tryz.f81 tmps).run Tryz.prog w = .ok (.agg X) w := by
  have hl : (loadVar 29 ⟨b, 0, none⟩).run Tryz.prog w = .ok (.agg X) w := run_loadVar_row _ _ 29 29 X (0, 0) _ hB Tryz.underlying29 rfl (by rw [infoEntryN, hX])
  unfold results
  rw [show Tryz.f81.results = #[.cell 2 29] from rfl]
  have ha : (asAddr (tmps.getD 2 undef)).run Tryz.prog w = .ok ⟨b, 0, none⟩ w := by rw [h2]; rfl
  simp only [List.mapM_toArray, List.mapM_cons, List.mapM_nil, Sem.run_bind, Sem.run_map, Sem.run_pure, Result.andThen, ha, hl, bind_pure_comp, map_bind, bind_assoc]
  rfl

theorem blk_second (w : World) (a c : Obj) (t : TypeId) (cs : Array Value) : Blk (((w.alloc a).alloc (.cells cs t)).alloc c) (w.heap.size + 1) t cs := by
  have := (Blk.fresh (w.alloc a) t cs).alloc c
  rwa [World.size_alloc] at this
theorem below_three (w : World) (a b c : Obj) : Below w.heap.size w (((w.alloc a).alloc b).alloc c) := (((Below.refl _ w).alloc (Nat.le_refl _) _).alloc (by simp) _).alloc (by simp; omega) _

set_option maxRecDepth 1000000 in
set_option maxHeartbeats 4000000 in
theorem fields_calls (x : Pe.Ent) (w : World) : Calls Tryz.prog 81 #[.agg (eCells x)] w fun e w' => e = .returned (.agg (eCells (Pe.fieldsR x))) ∧ Below w.heap.size w w' := by
  obtain ⟨R, hR⟩ : ∃ R, R = eCells (Pe.fieldsR x) := ⟨_, rfl⟩
  rw [← hR]
  have HR := Lib.hid hR
  clear hR
  obtain ⟨day, kind, since, til, person, place, other, at_, order, name⟩ := x
  have hE : bs [] = ⟨#[]⟩ := rfl
  obtain ⟨S, hS⟩ : ∃ S, S = bs name := ⟨_, rfl⟩
  have HS := Lib.hid hS
  have HE := Lib.hid hE
  unfold eCells
  dsimp only at *
  rw [← hS]
  clear hS hE
  obtain rfl | rfl | rfl | rfl | rfl | rfl | rfl | rfl | ⟨kk, rfl⟩ : kind = 0 ∨ kind = 1 ∨ kind = 2 ∨ kind = 3 ∨ kind = 4 ∨ kind = 5 ∨ kind = 6 ∨ kind = 7 ∨ ∃ kk, kind = kk + 8 := by
    by_cases h8 : 8 ≤ kind
    · exact .inr (.inr (.inr (.inr (.inr (.inr (.inr (.inr ⟨kind - 8, by omega⟩)))))))
    · omega
  · go_enter Tryz.func81, Tryz.ntmps81
    go_wp2
    refine bodyPost_ret (results_fields _ (w.heap.size + 1) _ _ (blk_second w _ _ _ _) rfl rfl) rfl ⟨?_, below_three w _ _ _⟩
    rw [HR.out]
    unfold Pe.fieldsR eCells
    try rw [HS.out]
    first | rfl | (rw [← HE.out]; rfl)
  · go_enter Tryz.func81, Tryz.ntmps81
    go_wp2
    refine bodyPost_ret (results_fields _ (w.heap.size + 1) _ _ (blk_second w _ _ _ _) rfl rfl) rfl ⟨?_, below_three w _ _ _⟩
    rw [HR.out]
    unfold Pe.fieldsR eCells
    try rw [HS.out]
    first | rfl | (rw [← HE.out]; rfl)
  · go_enter Tryz.func81, Tryz.ntmps81
    go_wp2
    refine bodyPost_ret (results_fields _ (w.heap.size + 1) _ _ (blk_second w _ _ _ _) rfl rfl) rfl ⟨?_, below_three w _ _ _⟩
    rw [HR.out]
    unfold Pe.fieldsR eCells
    try rw [HS.out]
    first | rfl | (rw [← HE.out]; rfl)
  · go_enter Tryz.func81, Tryz.ntmps81
    go_wp2
    refine bodyPost_ret (results_fields _ (w.heap.size + 1) _ _ (blk_second w _ _ _ _) rfl rfl) rfl ⟨?_, below_three w _ _ _⟩
    rw [HR.out]
    unfold Pe.fieldsR eCells
    try rw [HS.out]
    first | rfl | (rw [← HE.out]; rfl)
  · go_enter Tryz.func81, Tryz.ntmps81
    go_wp2
    refine bodyPost_ret (results_fields _ (w.heap.size + 1) _ _ (blk_second w _ _ _ _) rfl rfl) rfl ⟨?_, below_three w _ _ _⟩
    rw [HR.out]
    unfold Pe.fieldsR eCells
    try rw [HS.out]
    first | rfl | (rw [← HE.out]; rfl)
  · go_enter Tryz.func81, Tryz.ntmps81
    go_wp2
    refine bodyPost_ret (results_fields _ (w.heap.size + 1) _ _ (blk_second w _ _ _ _) rfl rfl) rfl ⟨?_, below_three w _ _ _⟩
    rw [HR.out]
    unfold Pe.fieldsR eCells
    try rw [HS.out]
    first | rfl | (rw [← HE.out]; rfl)
  · go_enter Tryz.func81, Tryz.ntmps81
    go_wp2
    refine bodyPost_ret (results_fields _ (w.heap.size + 1) _ _ (blk_second w _ _ _ _) rfl rfl) rfl ⟨?_, below_three w _ _ _⟩
    rw [HR.out]
    unfold Pe.fieldsR eCells
    try rw [HS.out]
    first | rfl | (rw [← HE.out]; rfl)
  · go_enter Tryz.func81, Tryz.ntmps81
    go_wp2
    refine bodyPost_ret (results_fields _ (w.heap.size + 1) _ _ (blk_second w _ _ _ _) rfl rfl) rfl ⟨?_, below_three w _ _ _⟩
    rw [HR.out]
    unfold Pe.fieldsR eCells
    try rw [HS.out]
    first | rfl | (rw [← HE.out]; rfl)
  · have q1 : (((kk + 8 : Nat) : Int) == 1) = false := by simp; omega
    have q2 : (((kk + 8 : Nat) : Int) == 2) = false := by simp; omega
    have q3 : (((kk + 8 : Nat) : Int) == 3) = false := by simp; omega
    have q4 : (((kk + 8 : Nat) : Int) == 4) = false := by simp; omega
    have q5 : (((kk + 8 : Nat) : Int) == 5) = false := by simp; omega
    have q6 : (((kk + 8 : Nat) : Int) == 6) = false := by simp; omega
    have q7 : (((kk + 8 : Nat) : Int) == 7) = false := by simp; omega
    go_enter Tryz.func81, Tryz.ntmps81
    go_wp2
    refine bodyPost_ret (results_fields _ (w.heap.size + 1) _ _ (blk_second w _ _ _ _) rfl rfl) rfl ⟨?_, below_three w _ _ _⟩
    rw [HR.out]
    unfold Pe.fieldsR eCells
    try rw [HS.out]
    first | rfl | (rw [← HE.out]; rfl)

end Go.Proofs.YtfalajomfcfliaaGreatDoor
