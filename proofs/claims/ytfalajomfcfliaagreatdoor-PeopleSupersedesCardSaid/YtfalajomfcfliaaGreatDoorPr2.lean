/-
  The reference's form of an entry.
-/
import Derived.Test.YtfalajomfcfliaaGreatDoorPr1
namespace Go.Proofs.YtfalajomfcfliaaGreatDoor
open Go.RowKit

set_option maxRecDepth 1000000 in
set_option maxHeartbeats 4000000 in
theorem ranged_calls (x : Pe.Ent) (w : World) : Calls Tryz.prog 80 #[.agg (eCells x)] w fun e w' => e = .returned (.bool (Pe.rangedR x)) ∧ Below w.heap.size w w' := by
  obtain ⟨day, kind, since, til, person, place, other, at_, order, name⟩ := x
  obtain ⟨S, hS⟩ : ∃ S, S = bs name := ⟨_, rfl⟩
  unfold eCells
  dsimp only at *
  rw [← hS]
  clear hS
  obtain rfl | rfl | rfl | rfl | rfl | rfl | rfl | rfl | ⟨kk, rfl⟩ : kind = 0 ∨ kind = 1 ∨ kind = 2 ∨ kind = 3 ∨ kind = 4 ∨ kind = 5 ∨ kind = 6 ∨ kind = 7 ∨ ∃ kk, kind = kk + 8 := by
    by_cases h8 : 8 ≤ kind
    · exact .inr (.inr (.inr (.inr (.inr (.inr (.inr (.inr ⟨kind - 8, by omega⟩)))))))
    · omega
  · go_enter Tryz.func80, Tryz.ntmps80
    go_wp2_with (first | (go_at_call 61; refine (rid_calls _ _).mono ?_; rintro e w' ⟨rfl, rfl⟩) | (go_at_call 62; refine (ridOrNone_calls _ _).mono ?_; rintro e w' ⟨rfl, rfl⟩) | fail)
    all_goals
      go_ret
      refine ⟨?_, (Below.refl _ w).alloc (Nat.le_refl _) _⟩
      refine congrArg Ending.returned (congrArg Value.bool ?_)
      simp_all [Pe.rangedR]
  · go_enter Tryz.func80, Tryz.ntmps80
    go_wp2_with (first | (go_at_call 61; refine (rid_calls _ _).mono ?_; rintro e w' ⟨rfl, rfl⟩) | (go_at_call 62; refine (ridOrNone_calls _ _).mono ?_; rintro e w' ⟨rfl, rfl⟩) | fail)
    all_goals
      go_ret
      refine ⟨?_, (Below.refl _ w).alloc (Nat.le_refl _) _⟩
      refine congrArg Ending.returned (congrArg Value.bool ?_)
      simp_all [Pe.rangedR]
  · go_enter Tryz.func80, Tryz.ntmps80
    go_wp2_with (first | (go_at_call 61; refine (rid_calls _ _).mono ?_; rintro e w' ⟨rfl, rfl⟩) | (go_at_call 62; refine (ridOrNone_calls _ _).mono ?_; rintro e w' ⟨rfl, rfl⟩) | fail)
    all_goals
      go_ret
      refine ⟨?_, (Below.refl _ w).alloc (Nat.le_refl _) _⟩
      refine congrArg Ending.returned (congrArg Value.bool ?_)
      simp_all [Pe.rangedR]
  · go_enter Tryz.func80, Tryz.ntmps80
    go_wp2_with (first | (go_at_call 61; refine (rid_calls _ _).mono ?_; rintro e w' ⟨rfl, rfl⟩) | (go_at_call 62; refine (ridOrNone_calls _ _).mono ?_; rintro e w' ⟨rfl, rfl⟩) | fail)
    all_goals
      go_ret
      refine ⟨?_, (Below.refl _ w).alloc (Nat.le_refl _) _⟩
      refine congrArg Ending.returned (congrArg Value.bool ?_)
      simp_all [Pe.rangedR]
  · go_enter Tryz.func80, Tryz.ntmps80
    go_wp2_with (first | (go_at_call 61; refine (rid_calls _ _).mono ?_; rintro e w' ⟨rfl, rfl⟩) | (go_at_call 62; refine (ridOrNone_calls _ _).mono ?_; rintro e w' ⟨rfl, rfl⟩) | fail)
    all_goals
      go_ret
      refine ⟨?_, (Below.refl _ w).alloc (Nat.le_refl _) _⟩
      refine congrArg Ending.returned (congrArg Value.bool ?_)
      simp_all [Pe.rangedR]
  · go_enter Tryz.func80, Tryz.ntmps80
    go_wp2_with (first | (go_at_call 61; refine (rid_calls _ _).mono ?_; rintro e w' ⟨rfl, rfl⟩) | (go_at_call 62; refine (ridOrNone_calls _ _).mono ?_; rintro e w' ⟨rfl, rfl⟩) | fail)
    all_goals
      go_ret
      refine ⟨?_, (Below.refl _ w).alloc (Nat.le_refl _) _⟩
      refine congrArg Ending.returned (congrArg Value.bool ?_)
      simp_all [Pe.rangedR]
  · go_enter Tryz.func80, Tryz.ntmps80
    go_wp2_with (first | (go_at_call 61; refine (rid_calls _ _).mono ?_; rintro e w' ⟨rfl, rfl⟩) | (go_at_call 62; refine (ridOrNone_calls _ _).mono ?_; rintro e w' ⟨rfl, rfl⟩) | fail)
    all_goals
      go_ret
      refine ⟨?_, (Below.refl _ w).alloc (Nat.le_refl _) _⟩
      refine congrArg Ending.returned (congrArg Value.bool ?_)
      simp_all [Pe.rangedR]
  · go_enter Tryz.func80, Tryz.ntmps80
    go_wp2_with (first | (go_at_call 61; refine (rid_calls _ _).mono ?_; rintro e w' ⟨rfl, rfl⟩) | (go_at_call 62; refine (ridOrNone_calls _ _).mono ?_; rintro e w' ⟨rfl, rfl⟩) | fail)
    all_goals
      go_ret
      refine ⟨?_, (Below.refl _ w).alloc (Nat.le_refl _) _⟩
      refine congrArg Ending.returned (congrArg Value.bool ?_)
      simp_all [Pe.rangedR]
  · have q1 : (((kk + 8 : Nat) : Int) == 1) = false := by simp; omega
    have q2 : (((kk + 8 : Nat) : Int) == 2) = false := by simp; omega
    have q3 : (((kk + 8 : Nat) : Int) == 3) = false := by simp; omega
    have q4 : (((kk + 8 : Nat) : Int) == 4) = false := by simp; omega
    have q5 : (((kk + 8 : Nat) : Int) == 5) = false := by simp; omega
    have q6 : (((kk + 8 : Nat) : Int) == 6) = false := by simp; omega
    have q7 : (((kk + 8 : Nat) : Int) == 7) = false := by simp; omega
    go_enter Tryz.func80, Tryz.ntmps80
    go_wp2_with (first | (go_at_call 61; refine (rid_calls _ _).mono ?_; rintro e w' ⟨rfl, rfl⟩) | (go_at_call 62; refine (ridOrNone_calls _ _).mono ?_; rintro e w' ⟨rfl, rfl⟩) | fail)
    all_goals
      go_ret
      refine ⟨?_, (Below.refl _ w).alloc (Nat.le_refl _) _⟩
      refine congrArg Ending.returned (congrArg Value.bool ?_)
      simp_all [Pe.rangedR]

end Go.Proofs.YtfalajomfcfliaaGreatDoor
