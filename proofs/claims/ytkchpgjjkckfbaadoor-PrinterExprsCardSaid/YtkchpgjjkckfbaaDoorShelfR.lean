/-
  DERIVED: THE SHELF's CONTRACTS AT THIS DUMP, IN PLAIN WORDS (tools/lay-plain.mjs out of 'TrydShelfT.lean', which tools/lay-shelf.mjs wrote): THE SAME DECLARATIONS UNDER THE SAME NAMES: 'import', 'namespace', 'open', 'def', 'theorem' AND NOTHING ELSE: no command of the shelf's: FOR A HAND-IN. Each laying: the table of numbers ('.._ren') and one theorem, a field a fact of the dump's own or the kernel's comparison; each contract: ONE APPLICATION.
-/
import Derived.Shelf.Strings.BuilderRune
import Derived.Test.YtkchpgjjkckfbaaDoorProg
namespace Go.Proofs
open Go.Shelf
def Tryd.blays242_ren : Go.Shelf.Ren := ⟨fun | 242 => 125 | 278 => 132 | n => n, fun | 72 => 50 | 70 => 47 | 37 => 48 | 21 => 21 | 51 => 176 | 4 => 4 | 5 => 5 | 46 => 171 | n => n, fun | n => n⟩
theorem Tryd.blays242 : Go.Proofs.Lays.n242 Tryd.prog Tryd.blays242_ren := {
  mixed := by kernel_rfl
  f242 := Tryd.func125.trans (congrArg some (by kernel_rfl))
  f278 := Tryd.func132.trans (congrArg some (by kernel_rfl))
  t4 := Tryd.underlying4
  a4 := Tryd.isAgg4
  z4 := Tryd.sizeOf4
  v4 := Tryd.zeroValue4
  t5 := Tryd.underlying5
  a5 := Tryd.isAgg5
  z5 := Tryd.sizeOf5
  v5 := Tryd.zeroValue5
  t21 := Tryd.underlying21
  a21 := Tryd.isAgg21
  z21 := Tryd.sizeOf21
  v21 := Tryd.zeroValue21
  t37 := Tryd.underlying48
  a37 := Tryd.isAgg48
  z37 := Tryd.sizeOf48
  v37 := Tryd.zeroValue48
  t46 := Tryd.underlying171
  a46 := Tryd.isAgg171
  z46 := Tryd.sizeOf171
  v46 := Tryd.zeroValue171
  t51 := Tryd.underlying176
  a51 := Tryd.isAgg176
  z51 := Tryd.sizeOf176
  v51 := Tryd.zeroValue176 }
end Go.Proofs
