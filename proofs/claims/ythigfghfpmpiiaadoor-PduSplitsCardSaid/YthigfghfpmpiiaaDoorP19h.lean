/- The document's Split: its test of the first is the product's. -/
import Derived.Test.YthigfghfpmpiiaaDoorP19g
set_option linter.unusedVariables false
set_option linter.unusedSimpArgs false
namespace Go.Sep
open Go
theorem one_iff {es : List Int} (hB : Byte es) (h8 : 8 ≤ es.length) (hw : wholeN (lenB es) ≤ es.length) (hm : es.length ≤ 2048) : bytesM (idB es, (es.drop 8).take (lenB es)) = es.take (wholeN (lenB es)) ↔ (firstS es).2.2 = 0 := by
  have hwg := whole_ge (lenB es)
  have hdl : ((es.drop 8).take (lenB es)).length = lenB es := by rw [List.length_take, List.length_drop]; omega
  have hir := idB_rng hB
  constructor
  · intro h
    have hok : mOk (idB es, (es.drop 8).take (lenB es)) := ⟨hir.1, hir.2, hB.seg 8 _, by show ((es.drop 8).take (lenB es)).length ≤ 2048; omega⟩
    have := first_join (rest := es.drop (wholeN (lenB es))) hok
    rw [h, List.take_append_drop] at this
    rw [this]
  · intro h
    rcases first_bytes hB h with ⟨h1, _⟩ | h1
    · rcases first_or es with ⟨_, _, _, h2, h3⟩ | ⟨h2, _⟩
      · rw [h2, h3] at h1
        have hl : (bytesM (idB es, (es.drop 8).take (lenB es))).length = wholeN (lenB es) := by
          rw [bytesM_len]; show wholeN ((es.drop 8).take (lenB es)).length = _; rw [hdl]
        have := congrArg (List.take (wholeN (lenB es))) h1
        rw [List.take_left' hl] at this
        exact this.symm
      · exact absurd h h2
    · omega
end Go.Sep
