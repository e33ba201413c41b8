/-
  DERIVED: THE SHELF's CONTRACTS AT THIS DUMP, IN PLAIN WORDS (tools/lay-plain.mjs out of 'YtnphlekailodkaaGreatDoorSh3.lean', which tools/lay-shelf.mjs wrote): THE SAME DECLARATIONS UNDER THE SAME NAMES: 'import', 'namespace', 'open', 'def', 'theorem' AND NOTHING ELSE: no command of the shelf's: FOR A HAND-IN. Each laying: the table of numbers ('.._ren') and one theorem, a field a fact of the dump's own or the kernel's comparison; each contract: ONE APPLICATION.
-/
import Derived.Shelf.SlicesG.Equal
import Derived.Shelf.SlGeneric
import Derived.Ground.SlgnProg
import Derived.Test.YtnphlekailodkaaGreatDoorProg
namespace Go.Proofs
open Go.Shelf
def YtnphlekailodkaaGreatDoor.laysEqualI_ren : Go.Shelf.Ren := ⟨fun | 33 => 106 | n => n, fun | 22 => 42 | 23 => 3 | 4 => 4 | 3 => 3 | 0 => 0 | n => n, fun | n => n⟩
theorem YtnphlekailodkaaGreatDoor.laysEqualI : Go.Proofs.SlLaysN.n33 Tryz.prog YtnphlekailodkaaGreatDoor.laysEqualI_ren := {
  mixed := by kernel_rfl
  f33 := ⟨Tryz.f106.name, by decide, Tryz.func106.trans (congrArg some (by kernel_rfl))⟩
  t0 := Tryz.underlying0
  a0 := Tryz.isAgg0
  z0 := Tryz.sizeOf0
  v0 := Tryz.zeroValue0
  t3 := Tryz.underlying3
  a3 := Tryz.isAgg3
  z3 := Tryz.sizeOf3
  v3 := Tryz.zeroValue3
  t4 := Tryz.underlying4
  a4 := Tryz.isAgg4
  z4 := Tryz.sizeOf4
  v4 := Tryz.zeroValue4
  t22 := Tryz.underlying42
  a22 := Tryz.isAgg42
  z22 := Tryz.sizeOf42
  v22 := Tryz.zeroValue42
  t23 := Tryz.underlying3
  a23 := Tryz.isAgg3
  z23 := Tryz.sizeOf3
  v23 := Tryz.zeroValue3 }
def YtnphlekailodkaaGreatDoor.laysEqualS_ren : Go.Shelf.Ren := ⟨fun | 34 => 105 | n => n, fun | 25 => 58 | 26 => 9 | 4 => 4 | 3 => 3 | 0 => 0 | n => n, fun | n => n⟩
theorem YtnphlekailodkaaGreatDoor.laysEqualS : Go.Proofs.SlLaysN.n34 Tryz.prog YtnphlekailodkaaGreatDoor.laysEqualS_ren := {
  mixed := by kernel_rfl
  f34 := ⟨Tryz.f105.name, by decide, Tryz.func105.trans (congrArg some (by kernel_rfl))⟩
  t0 := Tryz.underlying0
  a0 := Tryz.isAgg0
  z0 := Tryz.sizeOf0
  v0 := Tryz.zeroValue0
  t3 := Tryz.underlying3
  a3 := Tryz.isAgg3
  z3 := Tryz.sizeOf3
  v3 := Tryz.zeroValue3
  t4 := Tryz.underlying4
  a4 := Tryz.isAgg4
  z4 := Tryz.sizeOf4
  v4 := Tryz.zeroValue4
  t25 := Tryz.underlying58
  a25 := Tryz.isAgg58
  z25 := Tryz.sizeOf58
  v25 := Tryz.zeroValue58
  t26 := Tryz.underlying9
  a26 := Tryz.isAgg9
  z26 := Tryz.sizeOf9
  v26 := Tryz.zeroValue9 }
end Go.Proofs
