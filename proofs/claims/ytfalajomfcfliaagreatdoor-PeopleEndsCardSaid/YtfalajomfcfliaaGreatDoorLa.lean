/-
  Laws of Check: PeopleChecks, PeopleValid.
-/
import Derived.Test.YtfalajomfcfliaaGreatDoorAv2
import Derived.Test.YtfalajomfcfliaaGreatDoorPr8
namespace Go.Proofs.YtfalajomfcfliaaGreatDoor
open Go.RowKit

/-- What a law does: it returns true, and what was there stays. -/
def Law (w : World) (e : Ending) (w' : World) : Prop := e = .returned (.bool true) ∧ Below w.heap.size w w'

set_option maxRecDepth 1000000 in
set_option maxHeartbeats 8000000 in
theorem checks_law (A : Option Addr) (n c : Nat) (l : List Pe.Ent) (w : World) (h : EntsAt w A n l) (hc : n ≤ c) (hL : Laid w) : Calls Tryz.prog 3 #[.slice A n c] w (Law w) := by
  have H := Lib.hid (And.intro h (And.intro hc hL))
  clear h hc hL
  go_enter Tryz.func3, Tryz.ntmps3
  go_wp2_with fail
  refine (Check_calls A n c l w H.out.1).mono ?_
  rintro e w1 ⟨rfl, hb1⟩
  have H1 := Lib.hid hb1
  clear hb1
  dsimp only
  go_wp2_with fail
  refine (rCheck_calls A n c l w1 (H.out.1.below H1.out) H.out.2.1).mono ?_
  rintro e w2 ⟨rfl, hb2⟩
  have H2 := Lib.hid (H1.out.trans (hb2.mono H1.out.size))
  clear hb2
  rw [Pe.check_eq]
  obtain ⟨⟨i, f⟩, hif⟩ : ∃ z, z = Pe.check l := ⟨_, rfl⟩
  rw [← hif]
  clear hif
  dsimp only
  go_wp2_with fail
  refine (alive_calls w2 (H.out.2.2.below H2.out)).mono ?_
  rintro e w3 ⟨rfl, hb3⟩
  have H3 := Lib.hid (H2.out.trans (hb3.mono H2.out.size))
  clear hb3
  dsimp only
  go_wp2
  go_ret
  exact ⟨rfl, H3.out⟩

end Go.Proofs.YtfalajomfcfliaaGreatDoor
