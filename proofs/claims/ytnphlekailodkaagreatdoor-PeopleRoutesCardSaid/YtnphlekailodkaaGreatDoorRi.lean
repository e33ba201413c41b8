/-
  The reference's id and idOrNone, walked.
-/
import Derived.Test.YtnphlekailodkaaGreatDoorPw1
namespace Go.Proofs.YtnphlekailodkaaGreatDoor
open Go.RowKit

theorem rid_calls (n : Int) (w : World) : Calls Tryz.prog 88 #[.int .i64 n] w fun e w' => e = .returned (.bool (Pe.isId n)) ∧ w = w' := by
  obtain ⟨B, hB⟩ : ∃ B, B = Pe.isId n := ⟨_, rfl⟩
  rw [← hB]
  have HB := Lib.hid hB
  clear hB
  go_enter Tryz.func88, Tryz.ntmps88
  go_wp2
  all_goals
    go_ret
    refine ⟨?_, rfl⟩
    rw [HB.out]
    refine congrArg Ending.returned (congrArg Value.bool ?_)
    unfold Pe.isId
    rw [Bool.eq_iff_iff]
    simp only [Bool.and_eq_true, decide_eq_true_eq]
    first | omega | (simp; omega)
theorem ridOrNone_calls (n : Int) (w : World) : Calls Tryz.prog 89 #[.int .i64 n] w fun e w' => e = .returned (.bool (Pe.idOr' n)) ∧ w = w' := by
  obtain ⟨B, hB⟩ : ∃ B, B = Pe.idOr' n := ⟨_, rfl⟩
  rw [← hB]
  have HB := Lib.hid hB
  clear hB
  go_enter Tryz.func89, Tryz.ntmps89
  go_wp2
  all_goals
    go_ret
    refine ⟨?_, rfl⟩
    rw [HB.out]
    refine congrArg Ending.returned (congrArg Value.bool ?_)
    unfold Pe.idOr'
    rw [Bool.eq_iff_iff]
    simp only [Bool.and_eq_true, decide_eq_true_eq]
    first | omega | (simp; omega)

end Go.Proofs.YtnphlekailodkaaGreatDoor
