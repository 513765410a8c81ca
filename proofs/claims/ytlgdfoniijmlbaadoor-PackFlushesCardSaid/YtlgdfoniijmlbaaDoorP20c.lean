/- Laws of a packer, by definition. -/
import Derived.Test.YtlgdfoniijmlbaaDoorP19b
import Derived.Test.YtlgdfoniijmlbaaDoorP20b
set_option linter.unusedVariables false
set_option linter.unusedSimpArgs false
namespace Go.Sep
open Go
theorem mok_pd {w0 : World} {H : List Chunk} {p : Pd} (h : PdOk w0 H p) (h2 : wk (mgP p) ≤ 2048) : mOk (mgP p) := by
  have h3 := wk_ge (mgP p)
  have e : (mgP p).2.length = p.data.length := rfl
  exact ⟨h.id.1, h.id.2, h.byte, by omega⟩
theorem splitV_one {m : Mg} (h : mOk m) (h2 : wk m ≤ 2048) : splitV (joinB [m]) = ([m], 0) := splitV_join (by simp) (fun x hx => by rw [List.mem_singleton.1 hx]; exact h) (by rw [usedM_one]; exact h2)
/-- One message upon nothing: it is given away at once, or waits. -/
theorem one_way {room : Nat} {m : Mg} (h : wk m ≤ room) : (addOu room [] m = [joinB [m]] ∧ addLu room [] m = []) ∨ (addOu room [] m = [] ∧ addLu room [] m = [m]) := by
  rw [addOu, addLu, if_pos h, if_pos h]
  by_cases h2 : room < wk m + 8
  · have := addNB (ms := []) (m := m) (room := room) (by simp only [usedM]; omega) (by simp only [usedM]; omega)
    exact .inl ⟨this.1, this.2⟩
  · have := addNn (ms := []) (m := m) (room := room) (by simp only [usedM]; omega)
    exact .inr ⟨this.1, this.2⟩
theorem getD_out {os : List Sl} {x : List Int} (h : outD os = [x]) : os.length = 1 ∧ (os.getD 0 default).d = x := by
  have hl := outD_len os
  rw [h] at hl
  have h1 : os.length = 1 := hl.symm
  refine ⟨h1, ?_⟩
  rw [outD_getD (by omega), h]; rfl
end Go.Sep
