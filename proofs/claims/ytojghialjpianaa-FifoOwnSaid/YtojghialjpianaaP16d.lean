/- Writing into the bytes of the frames of a row. -/
import Derived.Test.YtojghialjpianaaP16c
set_option linter.unusedVariables false
set_option linter.unusedSimpArgs false
namespace Go.Sep
open Go
def rowI (x : Fs) : Chunk := .row x.a x.n x.c 5 1 ((x.f.data.map inc).map (.int .u8))
def RI (out : List Fs) (k : Nat) : List Chunk := (out.take k).map rowI ++ (out.drop k).map rowOf
def RX (out : List Fs) (k : Nat) : List Chunk := (out.take k).map rowI ++ (out.drop (k + 1)).map rowOf
theorem RI_start (out : List Fs) : (rowsOf out).Perm (RI out 0) := by
  rw [rowsOf, RI, List.take_zero, List.drop_zero]
  exact List.reverse_perm _
theorem RI_take {out : List Fs} {k : Nat} (hk : k < out.length) : (RI out k).Perm (rowOf (out.getD k default) :: RX out k) := by
  have e : out.drop k = out.getD k default :: out.drop (k + 1) := by
    rw [List.drop_eq_getElem_cons hk, List.getD_eq_getElem?_getD, List.getElem?_eq_getElem hk]; rfl
  rw [RI, e, RX, List.map_cons]
  exact List.perm_middle
theorem RI_put {out : List Fs} {k : Nat} (hk : k < out.length) : (rowI (out.getD k default) :: RX out k).Perm (RI out (k + 1)) := by
  rw [RI, fs_take hk, RX, List.map_append, List.append_assoc]
  exact List.perm_middle.symm
theorem ow_a {out : List Fs} {k : Nat} {v r : Chunk} {X : List Chunk} (hk : k < out.length) : (v :: r :: (RI out k ++ X)).Perm (rowOf (out.getD k default) :: v :: r :: (RX out k ++ X)) := by
  have p : (RI out k ++ X).Perm (rowOf (out.getD k default) :: (RX out k ++ X)) := (RI_take hk).append_right X
  exact (List.Perm.cons v (List.Perm.cons r p)).trans ((List.Perm.cons v (.swap _ _ _)).trans (.swap _ _ _))
theorem ow_b {w0 w : World} {out : List Fs} {k : Nat} {v r : Chunk} {X : List Chunk} (hk : k < out.length) (h : Sat w0 w (rowI (out.getD k default) :: v :: r :: (RX out k ++ X))) : Sat w0 w (r :: (RI out (k + 1) ++ X)) := by
  have p : (rowI (out.getD k default) :: (RX out k ++ X)).Perm (RI out (k + 1) ++ X) := (RI_put hk).append_right X
  have q : (rowI (out.getD k default) :: v :: r :: (RX out k ++ X)).Perm (v :: r :: (RI out (k + 1) ++ X)) := (List.Perm.swap _ _ _).trans (.cons v ((List.Perm.swap _ _ _).trans (.cons r p)))
  exact (h.perm q).tail
theorem satow {w0 w : World} {D C X : List Chunk} {a b c : Chunk} (h : Sat w0 w (D ++ (C ++ (a :: b :: c :: X)))) : Sat w0 w (c :: ((D ++ C) ++ X)) := by
  have p : (D ++ (C ++ (a :: b :: c :: X))).Perm (a :: b :: c :: ((D ++ C) ++ X)) := by
    rw [← List.append_assoc]
    exact List.perm_middle.trans (.cons a (List.perm_middle.trans (.cons b List.perm_middle)))
  exact (h.perm p).tail.tail
theorem frs_getD {L : List Fs} {k : Nat} {l : List Frm} (h : frs L = l) (hk : k < l.length) : (L.getD k default).f = l.getD k (zeroF 0) := by
  have := congrArg List.length h
  rw [frs_len] at this
  rw [frs_get L k (by omega), h]
end Go.Sep
