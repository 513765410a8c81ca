/- What is found of an ID. -/
import Derived.Test.YthigfghfpmpiiaaDoorP19c
set_option linter.unusedVariables false
set_option linter.unusedSimpArgs false
namespace Go.Sep
open Go
theorem mg_le2 {l : List Pd} {ms : List Mg} (h : mg l = ms) (hu : usedM ms ≤ 2048) : l.length ≤ 256 := by
  have := usedM_len ms
  have h2 := mg_len l
  rw [h] at h2; omega
def slP (p : Pd) : Sl := ⟨p.a, p.n, p.c, p.data⟩
theorem slP_ok {w0 : World} {H : List Chunk} {p : Pd} (h : PdOk w0 H p) : SlOk w0 H (slP p) := ⟨h.len, h.max, h.byte, h.rd⟩
/-- The data of all of an ID, in order. -/
def findM (ms : List Mg) (id : Int) : List (List Int) := ms.filterMap fun m => if m.1 = id then some m.2 else none
theorem find_yes {l : List Pd} {k : Nat} {id : Int} (hk : k < l.length) (h : (l.getD k default).id = id) : findM (mg (l.take (k + 1))) id = findM (mg (l.take k)) id ++ [(l.getD k default).data] := by
  rw [mg_snoc hk]
  unfold findM
  rw [List.filterMap_append]
  congr 1
  show List.filterMap _ [((l.getD k default).id, (l.getD k default).data)] = _
  generalize l.getD k default = p at *
  simp [h]
theorem find_no {l : List Pd} {k : Nat} {id : Int} (hk : k < l.length) (h : ¬ (l.getD k default).id = id) : findM (mg (l.take (k + 1))) id = findM (mg (l.take k)) id := by
  rw [mg_snoc hk]
  unfold findM
  rw [List.filterMap_append]
  show _ ++ List.filterMap _ [((l.getD k default).id, (l.getD k default).data)] = _
  generalize l.getD k default = p at *
  simp [h]
end Go.Sep
