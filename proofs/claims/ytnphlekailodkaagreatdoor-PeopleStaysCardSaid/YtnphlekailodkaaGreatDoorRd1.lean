/-
  Read: its closure, and stores of whole entries.
-/
import Derived.Test.YtnphlekailodkaaGreatDoorRd0
import Derived.Test.YtnphlekailodkaaGreatDoorWt
import Derived.Laws.ResultCell
namespace Go.Proofs.YtnphlekailodkaaGreatDoor
open Go.RowKit

set_option maxRecDepth 1000000 in
set_option maxHeartbeats 4000000 in
theorem Read_1_calls (lb : Nat) (l : List UInt8) (w : World) (hB : Blk w lb 9 #[.string (bs l)]) (hl : l.length ≤ 9223372036854775807) :
    Calls Tryz.prog 107 #[.pointer (some ⟨lb, 0, none⟩)] w fun e w' => e = .returned (.string (bs (Pe.cut1 l).1)) ∧ Blk w' lb 9 #[.string (bs (Pe.cut1 l).2)] ∧ Chg (fun i => i = lb) w w' := by
  have c0 : w.cell? ⟨lb, 0, none⟩ = some (.string (bs l)) := hB.cell 0
  have f0 := hB.frozen 0
  have hcc := Cut_calls l w hl
  have H := Lib.hid (And.intro hB hcc)
  clear hB hcc
  go_enter Tryz.func107, Tryz.ntmps107
  go_wp2_with fail
  refine H.out.2.mono ?_
  rintro e w1 ⟨⟨v, rfl⟩, n, rfl⟩
  dsimp only
  go_wp2
  go_ret
  exact ⟨rfl, H.out.1.put 0 _, ((Chg.refl (fun i => i = lb) w).drewN n).setCell (p := ⟨lb, 0, none⟩) (.inl rfl) _⟩

theorem infoEntryN : (Tryz.prog.info? 31).map (·.size) = some 10 := by kernel_rfl
/-- Two results, the first a row of cells. -/
theorem results_row2 {P : Program} {fn : Func} {p u : Tmp} {ty : TypeId} (h : fn.results = #[.cell p ty, .tmp u]) (tmps : Array Value) (w : World) (g : Nat) (cs : Array Value) (d : TypeDesc)
    (hp : tmps.getD p undef = .pointer (some ⟨g, 0, none⟩)) (hg : Blk w g ty cs) (hu : P.underlying ty = some d) (hd : (match d with | .struct _ | .array _ _ => true | _ => false) = true) (hi : (P.info? ty).map (·.size) = some cs.size) :
    (results fn tmps).run P w = .ok (.tuple #[.agg cs, tmps.getD u undef]) w := by
  rw [results_cell_tmp h tmps P w]
  have ha : (asAddr (tmps.getD p undef)).run P w = .ok ⟨g, 0, none⟩ w := by rw [hp]; rfl
  have hl : (loadVar ty ⟨g, 0, none⟩).run P w = .ok (.agg cs) w := run_loadVar_row _ _ ty ty cs (0, 0) _ hg hu hd hi
  rw [ha]
  simp only [Result.andThen]
  rw [hl]

end Go.Proofs.YtnphlekailodkaaGreatDoor
