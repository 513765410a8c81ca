/- The reference's ring beside the ring. -/
import Derived.Test.YtojghialjpianaaP16e
set_option linter.unusedVariables false
set_option linter.unusedSimpArgs false
namespace Go.Sep
open Go
theorem frs_same {L M : List Fs} (h : frs M = frs L) (k : Nat) : (L.getD k default).f = (M.getD k default).f := by
  have hl := congrArg List.length h
  rw [frs_len, frs_len] at hl
  by_cases hk : k < L.length
  · rw [frs_get L k hk, frs_get M k (by omega), h]
  · have h1 : L[k]? = none := List.getElem?_eq_none (by omega)
    have h2 : M[k]? = none := List.getElem?_eq_none (by omega)
    rw [List.getD_eq_getElem?_getD, List.getD_eq_getElem?_getD, h1, h2]
theorem satC {w0 w : World} {A G X : List Chunk} {m r v q o : Chunk} (h : Sat w0 w (m :: r :: (A ++ (v :: q :: o :: (G ++ X))))) : Sat w0 w (q :: m :: (G ++ X)) := by
  have p : (m :: r :: (A ++ (v :: q :: o :: (G ++ X)))).Perm (r :: (A ++ (m :: v :: q :: o :: (G ++ X)))) := (List.Perm.swap _ _ _).trans (.cons r List.perm_middle.symm)
  have h2 := (h.perm p).tail.app
  refine Sat.perm ?_ (.swap _ _ _)
  exact Sat.sub (.cons_cons m (.cons v (.cons_cons q (.cons o (.refl _))))) h2
theorem Rd.nilF {W : World} {H : List Chunk} {c : Nat} : Rd W H Option.none 0 c 11 (([] : List Fs).flatMap FsC) := ⟨rfl, Nat.zero_le _, fun h => absurd h (by simp), fun p hp => by cases hp⟩
theorem satC2 {w0 w : World} {A G X : List Chunk} {r v q o : Chunk} {b n1 o1 : Nat} {room : Int} (hn : n1 = 0) (ho : o1 = 0) (h : Sat w0 w (.var b 48 [.int .i64 room, .int .i64 0, .slice none 0 0] :: r :: (A ++ (v :: q :: o :: (G ++ X))))) : Sat w0 w (q :: .var b 48 [.int .i64 room, .int .i64 ((o1 : Nat) : Int), .slice none n1 0] :: (G ++ X)) := by
  subst hn ho
  exact satC h
end Go.Sep
