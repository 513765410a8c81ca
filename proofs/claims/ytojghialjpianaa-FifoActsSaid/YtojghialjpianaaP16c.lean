/- More laws of rings of frames. -/
import Derived.Test.YtojghialjpianaaP16b
set_option linter.unusedVariables false
set_option linter.unusedSimpArgs false
namespace Go.Sep
open Go
theorem satr {w0 : World} {G X : List Chunk} (h : ∃ w, Sat w0 w (G ++ X)) : ∃ w, Sat w0 w X := h.imp fun _ => Sat.app
theorem satmv2 {w0 w : World} {D C G X : List Chunk} {c d f : Chunk} (h : Sat w0 w (D ++ (C ++ (c :: d :: f :: (G ++ X))))) : Sat w0 w (d :: f :: ((D ++ (C ++ G)) ++ X)) := by
  have p : (D ++ (C ++ (c :: d :: f :: (G ++ X)))).Perm (c :: d :: f :: ((D ++ (C ++ G)) ++ X)) := by
    rw [← List.append_assoc, ← List.append_assoc D C G, List.append_assoc (D ++ C) G X]
    refine List.perm_middle.trans (.cons c (List.perm_middle.trans (.cons d (List.perm_middle.trans (.cons f ?_)))))
    exact .refl _
  exact (h.perm p).tail
theorem satcl {w0 w : World} {A B C G X : List Chunk} {a b c d f : Chunk} (h : Sat w0 w (a :: (A ++ (b :: (B ++ (c :: (C ++ (d :: (G ++ (f :: X)))))))))) : Sat w0 w (d :: f :: ([] ++ X)) := by
  have h2 := h.tail.app.tail.app.tail.app
  refine Sat.sub ?_ h2
  exact .cons_cons d (List.sublist_append_right G (f :: X))
end Go.Sep
