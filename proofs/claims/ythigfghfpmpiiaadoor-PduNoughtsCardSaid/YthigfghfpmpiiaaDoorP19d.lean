/- A byte that must be 0 and isn't. -/
import Derived.Test.YthigfghfpmpiiaaDoorP19c
set_option linter.unusedVariables false
set_option linter.unusedSimpArgs false
namespace Go.Sep
open Go
theorem getD_set_ne {es : List Int} {j k : Nat} {b : Int} (h : j ≠ k) : (es.set j b).getD k 0 = es.getD k 0 := by
  rw [List.getD_eq_getElem?_getD, List.getD_eq_getElem?_getD, List.getElem?_set_ne h]
theorem getD_set_eq {es : List Int} {j : Nat} {b : Int} (h : j < es.length) : (es.set j b).getD j 0 = b := by
  rw [List.getD_eq_getElem?_getD, List.getElem?_set_self h]; rfl
theorem noughts {m : Mg} {j : Nat} {b : Int} (hm : mOk m) (hw : wk m ≤ 2048) (h6 : 6 ≤ j) (hj : j < wk m) (hp : j < 8 ∨ 8 + m.2.length ≤ j) (hb : b ≠ 0) : splitV ((bytesM m).set j b) = ([], 5) := by
  have hlen : ((bytesM m).set j b).length = wk m := by rw [List.length_set, bytesM_len]
  have hge := wk_ge m
  have hwk : wholeN m.2.length = wk m := rfl
  have hf := first_join (m := m) (rest := []) hm
  rw [List.append_nil] at hf
  have hL0 : lenB (bytesM m) = m.2.length := by
    rcases first_or (bytesM m) with ⟨_, _, _, _, h2⟩ | ⟨h1, _⟩
    · rw [hf] at h2
      have h3 : wholeN (lenB (bytesM m)) = wk m := by
        rcases first_or (bytesM m) with ⟨_, _, _, h4, _⟩ | ⟨h1, _⟩
        · rw [hf] at h4; exact h4.symm
        · rw [hf] at h1; exact absurd rfl h1
      have h5 := congrArg (fun x : Mg => x.2.length) h2
      dsimp only at h5
      rw [List.length_take, List.length_drop, bytesM_len] at h5
      have h6 := whole_ge (lenB (bytesM m))
      omega
    · rw [hf] at h1; exact absurd rfl h1
  have hL : lenB ((bytesM m).set j b) = m.2.length := by
    rw [← hL0]; unfold lenB
    rw [getD_set_ne (by omega), getD_set_ne (by omega)]
  have hne : (bytesM m).set j b ≠ [] := fun e => by rw [e] at hlen; simp at hlen; omega
  have hff : firstS ((bytesM m).set j b) = ((0, []), 0, 5) := by
    refine first_form (by omega) (by rw [hL, hlen]; omega) ?_
    have hg := getD_set_eq (es := bytesM m) (j := j) (b := b) (by rw [bytesM_len]; exact hj)
    rcases hp with hp | hp
    · left
      intro hz
      have := zs_iff.1 hz (j - 6) (by rw [List.length_take, List.length_drop, hlen]; omega)
      rw [getD_take (by omega), getD_drop, show 6 + (j - 6) = j by omega, hg] at this
      exact hb this
    · right
      intro hz
      rw [hL] at hz
      have := zs_iff.1 hz (j - (8 + m.2.length)) (by rw [List.length_take, List.length_drop, hlen]; omega)
      rw [getD_take (by omega), getD_drop, show 8 + m.2.length + (j - (8 + m.2.length)) = j by omega, hg] at this
      exact hb this
  rw [splitV, if_neg hne, if_neg (by omega)]
  obtain ⟨q, hq⟩ : ∃ q, ((bytesM m).set j b).length = q + 1 := ⟨wk m - 1, by omega⟩
  rw [hq, splitF_bad hne (by rw [hff]; decide), hff]
def plc (L k : Nat) : List Int := 6 :: 7 :: (List.range k).map fun i => ((8 + L + i : Nat) : Int)
theorem plc_len (L k : Nat) : (plc L k).length = k + 2 := by simp [plc]
theorem plc_snoc (L k : Nat) : plc L k ++ [((8 + L + k : Nat) : Int)] = plc L (k + 1) := by simp [plc, List.range_succ]
theorem plc_get (L k i : Nat) (h : i < k + 2) : 6 ≤ (plc L k).getD i 0 ∧ (plc L k).getD i 0 < 8 + L + k ∧ ((plc L k).getD i 0 < 8 ∨ (8 + L : Int) ≤ (plc L k).getD i 0) := by
  rcases i with _ | _ | i
  · simp [plc]; omega
  · simp [plc]; omega
  · have e : (plc L k).getD (i + 2) 0 = ((8 + L + i : Nat) : Int) := by
      simp only [plc, List.getD_cons_succ]
      rw [List.getD_eq_getElem?_getD, List.getElem?_map, List.getElem?_range (by omega)]; rfl
    rw [e]

    omega
end Go.Sep
