/-
  A pair that came in.
-/
import Derived.Test.YtnphlekailodkaaGreatDoorEi
import Derived.Test.YtnphlekailodkaaGreatDoorRc
namespace Go.Proofs.YtnphlekailodkaaGreatDoor
open Go.ChangeShapes Go.WideShapes Go.ChangeAt Go.RowKit Go.Deep

section
variable {H : Type} {enc : TypeId × Value → H} {W : World}
set_option maxRecDepth 100000 in
theorem pair_in {fuel : Nat} {cs : List Value} {x : DataW H × List MemPlace} (h : DataW.trod enc Tryz.prog W 0 (fun _ => true) true fuel 28 cs = some x) : ∃ e : Pe.Pair, (pCells e).toList = cs := by
  obtain ⟨xs, n, _, _, hl, _, hf⟩ := DataW.trod_struct Tryz.underlying28 h
  rw [show Tryz.prog.cellsOf 28 = 2 from by kernel_rfl] at hl
  match cs, hl with
  | [c0, c1], _ =>
    have ki : Tryz.prog.cellsOf 3 = 1 := by kernel_rfl
    have h0 : DataW.trod enc Tryz.prog W 0 (fun _ => true) true n 3 (List.take (Tryz.prog.cellsOf 3) (List.drop 0 [c0, c1])) = xs[0]? := hf 0 _ rfl
    have h1 : DataW.trod enc Tryz.prog W 0 (fun _ => true) true n 3 (List.take (Tryz.prog.cellsOf 3) (List.drop 1 [c0, c1])) = xs[1]? := hf 1 _ rfl
    rw [ki] at h0
    rw [ki] at h1
    have some_of : ∀ i, i < 2 → ∃ y, xs[i]? = some y := fun i hi => ⟨_, List.getElem?_eq_getElem (by simp_all)⟩
    obtain ⟨y0, e0⟩ := some_of 0 (by omega)
    obtain ⟨y1, e1⟩ := some_of 1 (by omega)
    obtain ⟨z0, q0, _, w0⟩ := DataW.trod_int Tryz.underlying3 (h0.trans e0)
    obtain ⟨z1, q1, _, w1⟩ := DataW.trod_int Tryz.underlying3 (h1.trans e1)
    cases q0
    cases q1
    exact ⟨(z0, z1), rfl⟩
end

end Go.Proofs.YtnphlekailodkaaGreatDoor
