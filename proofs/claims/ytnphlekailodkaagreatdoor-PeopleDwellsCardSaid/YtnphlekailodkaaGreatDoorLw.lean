/-
  What a law does; Few of the reference.
-/
import Derived.Test.YtnphlekailodkaaGreatDoorAv2
namespace Go.Proofs.YtnphlekailodkaaGreatDoor
open Go.RowKit

/-- What a law does: it returns true, and what was there stays. -/
def Law (w : World) (e : Ending) (w' : World) : Prop := e = .returned (.bool true) ∧ Below w.heap.size w w'

set_option maxRecDepth 1000000 in
set_option maxHeartbeats 2000000 in
theorem Few_calls (A : Option Addr) (n c : Nat) (w : World) : Calls Tryz.prog 17 #[.slice A n c] w fun e w' => e = .returned (.bool (decide (n ≤ 60))) ∧ w' = w := by
  by_cases h : n ≤ 60
  · have d1 : decide ((n : Int) ≤ 60) = true := by simp; omega
    have h2 : decide (n ≤ 60) = true := by simpa using h
    rw [h2]
    clear h2 h
    go_enter Tryz.func17, Tryz.ntmps17
    go_wp2
    go_ret
    exact ⟨rfl, rfl⟩
  · have d1 : decide ((n : Int) ≤ 60) = false := by simp; omega
    have h2 : decide (n ≤ 60) = false := by simpa using h
    rw [h2]
    clear h2 h
    go_enter Tryz.func17, Tryz.ntmps17
    go_wp2
    go_ret
    exact ⟨rfl, rfl⟩

end Go.Proofs.YtnphlekailodkaaGreatDoor
