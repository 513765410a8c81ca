/- What is found of an ID: all IDs together are all. -/
import Derived.Test.YthigfghfpmpiiaaDoorP19f
set_option linter.unusedVariables false
set_option linter.unusedSimpArgs false
namespace Go.Sep
open Go
/-- How many have one of these IDs. -/
def cntI (ids : List Int) (ms : List Mg) : Nat := (ms.filter fun m => decide (m.1 ∈ ids)).length
theorem cnt_none (ms : List Mg) : cntI [] ms = 0 := by simp [cntI]
theorem cnt_le (ids : List Int) (ms : List Mg) : cntI ids ms ≤ ms.length := List.length_filter_le ..
theorem cnt_add {ids : List Int} {id : Int} (h : ¬ id ∈ ids) : ∀ ms : List Mg, cntI (ids ++ [id]) ms = cntI ids ms + (findM ms id).length
  | [] => by simp [cntI, findM]
  | m :: ms => by
    have ih := cnt_add h ms
    unfold cntI findM at *
    by_cases h1 : m.1 = id
    · subst h1
      simp only [List.filter_cons, List.mem_append, List.mem_singleton, h, false_or, or_true, decide_true, decide_false, if_true, Bool.false_eq_true, if_false, List.filterMap_cons, List.length_cons] at ih ⊢
      omega
    · by_cases h2 : m.1 ∈ ids
      · simp only [List.filter_cons, List.mem_append, List.mem_singleton, h1, h2, or_false, decide_true, if_true, if_false, List.filterMap_cons, List.length_cons] at ih ⊢
        omega
      · simp only [List.filter_cons, List.mem_append, List.mem_singleton, h1, h2, or_false, decide_false, Bool.false_eq_true, if_false, List.filterMap_cons] at ih ⊢
        omega
theorem cnt_all {ids : List Int} {ms : List Mg} (h : ∀ m ∈ ms, m.1 ∈ ids) : cntI ids ms = ms.length := by
  unfold cntI
  rw [List.filter_eq_self.2 (fun m hm => decide_eq_true (h m hm))]
theorem findM_app (a b : List Mg) (id : Int) : findM (a ++ b) id = findM a id ++ findM b id := by unfold findM; rw [List.filterMap_append]
theorem find_len {l : List Pd} {k : Nat} {id : Int} (hk : l.length ≤ k) : findM (mg (l.take k)) id = findM (mg l) id := by rw [List.take_of_length_le hk]
/-- The next of an ID is what is found next. -/
theorem find_at {l : List Pd} {k : Nat} {id : Int} (hk : k < l.length) (h : (l.getD k default).id = id) : (findM (mg (l.take k)) id).length < (findM (mg l) id).length ∧ (findM (mg l) id).getD (findM (mg (l.take k)) id).length [] = (l.getD k default).data := by
  have e : findM (mg l) id = findM (mg (l.take k)) id ++ (l.getD k default).data :: findM (mg (l.drop (k + 1))) id := by
    have h1 := find_yes hk h
    have h2 : mg l = mg (l.take (k + 1)) ++ mg (l.drop (k + 1)) := by rw [← mg_app, List.take_append_drop]
    rw [h2, findM_app, h1, List.append_assoc]; rfl
  rw [e]
  generalize findM (mg (l.take k)) id = X
  constructor
  · simp
  · simp [List.getD]
theorem find_le {l : List Pd} {k : Nat} {id : Int} : (findM (mg (l.take k)) id).length ≤ (findM (mg l) id).length := by
  have h2 : mg l = mg (l.take k) ++ mg (l.drop k) := by rw [← mg_app, List.take_append_drop]
  rw [h2, findM_app, List.length_append]; omega
/-- All that came so far are met. -/
theorem met_new {l : List Pd} {k : Nat} {ids : List Int} (hk : k < l.length) (h : ∀ i, i < k → (l.getD i default).id ∈ ids) : ∀ i, i < k + 1 → (l.getD i default).id ∈ ids ++ [(l.getD k default).id] := by
  intro i hi
  rcases Nat.lt_or_ge i k with h3 | h3
  · exact List.mem_append_left _ (h i h3)
  · obtain rfl : i = k := by omega
    exact List.mem_append_right _ (List.mem_singleton.2 rfl)
theorem met_old {l : List Pd} {k : Nat} {ids : List Int} (h : ∀ i, i < k → (l.getD i default).id ∈ ids) (hm : (l.getD k default).id ∈ ids) : ∀ i, i < k + 1 → (l.getD i default).id ∈ ids := by
  intro i hi
  rcases Nat.lt_or_ge i k with h3 | h3
  · exact h i h3
  · obtain rfl : i = k := by omega
    exact hm
theorem met_all {l : List Pd} {ids : List Int} (h : ∀ i, i < l.length → (l.getD i default).id ∈ ids) : cntI ids (mg l) = l.length := by
  rw [cnt_all, mg_len]
  intro m hm
  obtain ⟨p, hp, rfl⟩ := List.mem_map.1 hm
  obtain ⟨i, hi, rfl⟩ := List.getElem_of_mem hp
  have := h i hi
  rw [List.getD_eq_getElem?_getD, List.getElem?_eq_getElem hi] at this
  exact this
end Go.Sep
