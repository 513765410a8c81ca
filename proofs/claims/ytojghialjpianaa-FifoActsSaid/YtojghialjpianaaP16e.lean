/- Acts upon a ring. -/
import Derived.Test.YtojghialjpianaaP16c
set_option linter.unusedVariables false
set_option linter.unusedSimpArgs false
namespace Go.Sep
open Go
/-- An act. -/
structure As where
  k : Int
  x : Fs
instance : Inhabited As := ⟨⟨0, default⟩⟩
def AcC (y : As) : List Value := .int .i64 y.k :: FsC y.x
instance : RowE AcC 12 := ⟨fun _ => rfl, fun r u hu => by
  simp only [AcC, FsC, FC, List.mem_cons, List.mem_nil_iff, or_false] at hu
  rcases hu with rfl | rfl | rfl | rfl | rfl | rfl | rfl | rfl | rfl | rfl | rfl | rfl <;> rfl⟩
theorem chk_len {f : Frm} (h : chkF f = 0) : f.data.length ≤ 2048 := by
  rcases chkF_or f with _ | g
  · by_cases hk : (codeS f.kind f.data.length).2 = 0
    · unfold codeS at hk
      by_cases h1 : f.kind = 3 ∧ 1 ≤ (f.data.length : Int) ∧ (f.data.length : Int) ≤ 2048
      · omega
      · rw [if_neg h1] at hk
        by_cases h2 : f.kind = 1 ∧ 0 ≤ (f.data.length : Int) ∧ (f.data.length : Int) ≤ 8
        · omega
        · rw [if_neg h2] at hk
          by_cases h3 : f.kind = 2 ∧ 0 ≤ (f.data.length : Int) ∧ (f.data.length : Int) ≤ 64 ∧ fdSize (fdUp f.data.length) = f.data.length
          · omega
          · rw [if_neg h3] at hk; cases hk
    · have := chkF_2 (f := f) (fun g => hk g.1)
      rw [h] at this; cases this
  · rw [h] at g; cases g
theorem getD_mem2 {ls : List As} {w0 : World} {H : List Chunk} (h : ∀ y ∈ ls, FsOk w0 H y.x) (k : Nat) : FsOk w0 H (ls.getD k default).x := by
  rw [List.getD_eq_getElem?_getD]
  by_cases hk : k < ls.length
  · rw [List.getElem?_eq_getElem hk]; exact h _ (List.getElem_mem hk)
  · rw [List.getElem?_eq_none (by omega)]; exact FsOk.dflt
end Go.Sep
