/-
  The reference's id and idOrNone, walked.
-/
import Derived.Test.YtfalajomfcfliaaGreatDoorPw1
namespace Go.Proofs.YtfalajomfcfliaaGreatDoor
open Go.RowKit

theorem rid_calls (n : Int) (w : World) : Calls Tryz.prog 61 #[.int .i64 n] w fun e w' => e = .returned (.bool (Pe.isId n)) ∧ w = w' := by
  obtain ⟨B, hB⟩ : ∃ B, B = Pe.isId n := ⟨_, rfl⟩
  rw [← hB]
  have HB := Lib.hid hB
  clear hB
  go_enter Tryz.func61, Tryz.ntmps61
  go_wp2
  all_goals
    go_ret
    refine ⟨?_, rfl⟩
    rw [HB.out]
    refine congrArg Ending.returned (congrArg Value.bool ?_)
    unfold Pe.isId
    rw [Bool.eq_iff_iff]
    simp only [Bool.and_eq_true, decide_eq_true_eq]
    first | omega | (simp; omega)
theorem ridOrNone_calls (n : Int) (w : World) : Calls Tryz.prog 62 #[.int .i64 n] w fun e w' => e = .returned (.bool (Pe.idOr' n)) ∧ w = w' := by
  obtain ⟨B, hB⟩ : ∃ B, B = Pe.idOr' n := ⟨_, rfl⟩
  rw [← hB]
  have HB := Lib.hid hB
  clear hB
  go_enter Tryz.func62, Tryz.ntmps62
  go_wp2
  all_goals
    go_ret
    refine ⟨?_, rfl⟩
    rw [HB.out]
    refine congrArg Ending.returned (congrArg Value.bool ?_)
    unfold Pe.idOr'
    rw [Bool.eq_iff_iff]
    simp only [Bool.and_eq_true, decide_eq_true_eq]
    first | omega | (simp; omega)

end Go.Proofs.YtfalajomfcfliaaGreatDoor
