/- What came in: a place of an array. -/
import Derived.Test.YtecgicpimgghaaaS7
set_option linter.unusedVariables false
set_option linter.unusedSimpArgs false
namespace Go.Sep
open Go
theorem Ok.elem {P : Program} {W : World} {m k : Nat} {e : TypeId} {cs cs' : List Value} (g : ∀ i, i < k → Ok P W m e ((cs.drop (i * P.cellsOf e)).take (P.cellsOf e))) (i s : Nat) (hi : i < k) (hc : P.cellsOf e = s) (hx : (cs.drop (i * s)).take s = cs') : Ok P W m e cs' := by
  subst hc hx
  exact g i hi
end Go.Sep
