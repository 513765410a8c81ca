/- Two containers one behind the other; a container that is cut off. -/
import Derived.Test.YthigfghfpmpiiaaDoorP19c
set_option linter.unusedVariables false
set_option linter.unusedSimpArgs false
namespace Go.Sep
open Go
theorem joinS_or : ∀ (ps : List Pd) (out : List Int), (joinS ps out).2 = 0 ∨ (joinS ps out).2 = 2
  | [], out => .inl rfl
  | p :: r, out => by
    rw [joinS]
    split
    · exact joinS_or r _
    · exact .inr rfl
theorem join_big {ps : List Pd} (h0 : 0 < ps.length) (h : 2048 < usedM (mg ps)) : (joinV ps).2 = 2 := by
  rcases joinS_or ps [] with e | e
  · have := join_ok (ps := ps) (by rw [joinV_cons (by omega)]; exact e)
    omega
  · rw [joinV_cons (by omega)]; exact e
theorem joinB_app (a b : List Mg) : joinB (a ++ b) = joinB a ++ joinB b := by simp [joinB]
theorem take_join {ms : List Mg} (i : Nat) : (joinB ms).take (usedM (ms.take i)) = joinB (ms.take i) := by
  have e : joinB ms = joinB (ms.take i) ++ joinB (ms.drop i) := by rw [← joinB_app, List.take_append_drop]
  rw [e, List.take_left' (joinB_len _)]
/-- Cut off within the first: too short. -/
theorem first_cut {m : Mg} {k : Nat} (hm : mOk m) (h0 : 0 < k) (hk : k < wk m) : firstS ((bytesM m).take k) = ((0, []), 0, 3) := by
  have hl : ((bytesM m).take k).length = k := by rw [List.length_take, bytesM_len]; omega
  by_cases h8 : k < 8
  · exact first_short (by omega)
  · have hf := first_join (m := m) (rest := []) hm
    rw [List.append_nil] at hf
    have hw : wholeN (lenB (bytesM m)) = wk m := by
      rcases first_or (bytesM m) with ⟨_, _, _, h4, _⟩ | ⟨h1, _⟩
      · rw [hf] at h4; exact h4.symm
      · rw [hf] at h1; exact absurd rfl h1
    have hL : lenB ((bytesM m).take k) = lenB (bytesM m) := by
      unfold lenB; rw [getD_take (by omega), getD_take (by omega)]
    exact first_short2 (by omega) (by rw [hL, hl, hw]; exact hk)
theorem splitF_cut : ∀ (ms : List Mg) (f k : Nat) (acc : List Mg), (∀ m ∈ ms, mOk m) → k ≤ f → k < usedM ms → (∀ i, i < ms.length → usedM (ms.take i) ≠ k) → splitF f ((joinB ms).take k) acc = ([], 3)
  | [], f, k, acc, _, _, hk, _ => by simp only [usedM] at hk; omega
  | m :: r, f, k, acc, hm, hf, hk, hb => by
    have hge := wk_ge m
    have h0 : 0 < k := by
      have := hb 0 (by simp)
      simp only [List.take_zero, usedM] at this; omega
    obtain ⟨f, rfl⟩ : ∃ j, f = j + 1 := ⟨f - 1, by omega⟩
    have hu : usedM (m :: r) = wk m + usedM r := rfl
    have ej : joinB (m :: r) = bytesM m ++ joinB r := rfl
    have hbl := bytesM_len m
    by_cases h1 : k < wk m
    · have e1 : (joinB (m :: r)).take k = (bytesM m).take k := by rw [ej, List.take_append_of_le_length (by omega)]
      rw [e1]
      have hc := first_cut (hm m (by simp)) h0 h1
      rw [splitF_bad (by intro e; have := congrArg List.length e; rw [List.length_take, hbl] at this; simp at this; omega) (by rw [hc]; decide), hc]
    · have e1 : (joinB (m :: r)).take k = bytesM m ++ (joinB r).take (k - wk m) := by
        rw [ej, List.take_append, hbl, List.take_of_length_le (by omega)]
      rw [e1]
      have hfj := first_join (m := m) (rest := (joinB r).take (k - wk m)) (hm m (by simp))
      rw [splitF_step (by intro e; have := congrArg List.length e; rw [List.length_append, hbl] at this; simp at this; omega) (by rw [hfj]), hfj]
      dsimp only
      rw [List.drop_left' hbl]
      refine splitF_cut r f (k - wk m) _ (fun x hx => hm x (by simp [hx])) (by omega) (by omega) (fun i hi e => ?_)
      refine hb (i + 1) (by simp; omega) ?_
      rw [List.take_succ_cons]
      show wk m + usedM (r.take i) = k
      omega
theorem split_cut {ms : List Mg} {k : Nat} (hm : ∀ m ∈ ms, mOk m) (hu : usedM ms ≤ 2048) (hk : k < usedM ms) (hb : ∀ i, i < ms.length → usedM (ms.take i) ≠ k) : splitV ((joinB ms).take k) = ([], 3) := by
  have hl : ((joinB ms).take k).length = k := by rw [List.length_take, joinB_len]; omega
  have h0 : 0 < k := by
    cases ms with
    | nil => simp only [usedM] at hk; omega
    | cons m r => have := hb 0 (by simp); simp only [List.take_zero, usedM] at this; omega
  rw [splitV, if_neg (by intro e; rw [e] at hl; simp at hl; omega), if_neg (by omega), hl]
  exact splitF_cut ms k k [] hm (Nat.le_refl _) hk hb
theorem split_at {ms : List Mg} {i : Nat} (hm : ∀ m ∈ ms, mOk m) (hu : usedM ms ≤ 2048) (h0 : 0 < usedM (ms.take i)) : splitV ((joinB ms).take (usedM (ms.take i))) = (ms.take i, 0) := by
  rw [take_join]
  have hle : usedM (ms.take i) ≤ usedM ms := by
    have e : ms = ms.take i ++ ms.drop i := (List.take_append_drop ..).symm
    rw [congrArg usedM e, usedM_app]; omega
  exact splitV_join (by intro e; rw [e] at h0; cases h0) (fun m h => hm m (List.mem_of_mem_take h)) (by omega)
end Go.Sep
