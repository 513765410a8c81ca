/- The library's functions that this program calls, laid at its numbers (printed by a program out of the kit's layings). -/
import Derived.Test.YtokihacnhefbfaaDoorProg
import Derived.Shelf.Small.Strs
set_option linter.unusedVariables false
set_option linter.unusedSimpArgs false
namespace Go.Proofs.YtokihacnhefbfaaDoor
open Go Go.Proofs Go.Shelf
def lays137_ren : Go.Shelf.Ren := ⟨fun | 137 => 12 | 217 => 24 | 266 => 37 | n => n, fun | 9 => 9 | 5 => 5 | 3 => 3 | n => n, fun | n => n⟩
theorem lays137 : Go.Proofs.Lays.n137 Tryd.prog lays137_ren := {
  mixed := by kernel_rfl,
  f137 := Tryd.func12.trans (congrArg some (by kernel_rfl)),
  f217 := Tryd.func24.trans (congrArg some (by kernel_rfl)),
  f266 := Tryd.func37.trans (congrArg some (by kernel_rfl)),
  t3 := Tryd.underlying3,
  a3 := Tryd.isAgg3,
  z3 := Tryd.sizeOf3,
  v3 := Tryd.zeroValue3,
  t5 := Tryd.underlying5,
  a5 := Tryd.isAgg5,
  z5 := Tryd.sizeOf5,
  v5 := Tryd.zeroValue5,
  t9 := Tryd.underlying9,
  a9 := Tryd.isAgg9,
  z9 := Tryd.sizeOf9,
  v9 := Tryd.zeroValue9 }
end Go.Proofs.YtokihacnhefbfaaDoor
