/- Laws of a packer, by definition. -/
import Derived.Test.YthigfghfpmpiiaaDoorP19b
import Derived.Test.YthigfghfpmpiiaaDoorP20b
set_option linter.unusedVariables false
set_option linter.unusedSimpArgs false
namespace Go.Sep
open Go
theorem mok_pd {w0 : World} {H : List Chunk} {p : Pd} (h : PdOk w0 H p) (h2 : wk (mgP p) ≤ 2048) : mOk (mgP p) := by
  have h3 := wk_ge (mgP p)
  have e : (mgP p).2.length = p.data.length := rfl
  exact ⟨h.id.1, h.id.2, h.byte, by omega⟩
theorem splitV_one {m : Mg} (h : mOk m) (h2 : wk m ≤ 2048) : splitV (joinB [m]) = ([m], 0) := splitV_join (by simp) (fun x hx => by rw [List.mem_singleton.1 hx]; exact h) (by rw [usedM_one]; exact h2)
/-- One message upon nothing: it is given away at once, or waits. -/
theorem one_way {room : Nat} {m : Mg} (h : wk m ≤ room) : (addOu room [] m = [joinB [m]] ∧ addLu room [] m = []) ∨ (addOu room [] m = [] ∧ addLu room [] m = [m]) := by
  rw [addOu, addLu, if_pos h, if_pos h]
  by_cases h2 : room < wk m + 8
  · have := addNB (ms := []) (m := m) (room := room) (by simp only [usedM]; omega) (by simp only [usedM]; omega)
    exact .inl ⟨this.1, this.2⟩
  · have := addNn (ms := []) (m := m) (room := room) (by simp only [usedM]; omega)
    exact .inr ⟨this.1, this.2⟩
theorem getD_out {os : List Sl} {x : List Int} (h : outD os = [x]) : os.length = 1 ∧ (os.getD 0 default).d = x := by
  have hl := outD_len os
  rw [h] at hl
  have h1 : os.length = 1 := hl.symm
  refine ⟨h1, ?_⟩
  rw [outD_getD (by omega), h]; rfl
end Go.Sep
namespace Go.Sep
/-- The groups of messages that are given away. -/
def grpF (room : Nat) (ms : List Mg) (m : Mg) : List (List Mg) := (if room < usedM ms + wk m then [ms] else []) ++ (if room < usedM ((addF room ms m).2 ++ [m]) + 8 then [(addF room ms m).2 ++ [m]] else [])
def addG (room : Nat) (ms : List Mg) (m : Mg) : List (List Mg) := if wk m ≤ room then grpF room ms m else []
def flushG (ms : List Mg) : List (List Mg) := if ms = [] then [] else [ms]
theorem addOu_G (room : Nat) (ms : List Mg) (m : Mg) : addOu room ms m = (addG room ms m).map joinB := by
  unfold addOu addG
  split
  · unfold addO grpF addF
    split <;> split <;> simp
  · rfl
theorem flushO_G (ms : List Mg) : flushO ms = (flushG ms).map joinB := by
  unfold flushO flushG; split <;> rfl
def nextOk (room : Nat) (C ms : List Mg) : Prop := match ms with
  | [] => room < usedM C + 8
  | m :: _ => room < usedM C + wk m ∨ room < usedM C + 8
def Chain (room : Nat) (Cs : List (List Mg)) (ms : List Mg) : Prop := ∀ i, i < Cs.length → nextOk room (Cs.getD i []) ((Cs ++ [ms]).getD (i + 1) [])
theorem getDL {α : Type} {a b : List α} {k : Nat} {d : α} (h : k < a.length) : (a ++ b).getD k d = a.getD k d := getD_app_l h
theorem getDR {α : Type} {a : List α} {x d : α} : (a ++ [x]).getD a.length d = x := by
  rw [List.getD_eq_getElem?_getD, List.getElem?_append_right (Nat.le_refl _), Nat.sub_self]; rfl
theorem Chain.nil {room : Nat} {ms : List Mg} : Chain room [] ms := fun i h => by cases h
theorem Chain.push {room : Nat} {Cs : List (List Mg)} {ms ms' : List Mg} (h : Chain room Cs ms) (hn : nextOk room ms ms') : Chain room (Cs ++ [ms]) ms' := by
  intro i hi
  rw [List.length_append, List.length_singleton] at hi
  by_cases h2 : i < Cs.length
  · rw [getDL h2, getDL (by rw [List.length_append, List.length_singleton]; omega)]
    exact h i h2
  · obtain rfl : i = Cs.length := by omega
    rw [getDR, show Cs.length + 1 = (Cs ++ [ms]).length by simp, getDR]
    exact hn
theorem Chain.turn {room : Nat} {Cs : List (List Mg)} {ms ms' : List Mg} (h : Chain room Cs ms) (hn : ∀ C, nextOk room C ms → nextOk room C ms') : Chain room Cs ms' := by
  intro i hi
  have h1 := h i hi
  by_cases h2 : i + 1 < Cs.length
  · rw [getDL h2] at h1 ⊢; exact h1
  · obtain h3 : i + 1 = Cs.length := by omega
    rw [h3, getDR] at h1 ⊢
    exact hn _ h1
theorem nextOk_snoc {room : Nat} {C ms : List Mg} {m : Mg} (h : nextOk room C ms) : nextOk room C (ms ++ [m]) := by
  cases ms with
  | nil => exact .inr h
  | cons a ms => exact h
theorem Chain.add {room : Nat} {Cs : List (List Mg)} {ms : List Mg} (m : Mg) (h : Chain room Cs ms) : Chain room (Cs ++ addG room ms m) (addLu room ms m) := by
  unfold addG addLu
  split
  · rename_i hw
    unfold grpF addL
    by_cases h1 : room < usedM ms + wk m
    · rw [if_pos h1, addF_gt h1]
      have hp := h.push (ms' := [m]) (Or.inl h1 : nextOk room ms [m])
      split
      · rename_i h2
        rw [List.nil_append] at h2
        have := hp.push (ms' := []) h2
        simpa [List.append_assoc] using this
      · simpa using hp
    · rw [if_neg h1, addF_le (by omega)]
      have ht := h.turn (ms' := ms ++ [m]) (fun C => nextOk_snoc)
      split
      · rename_i h2
        have := ht.push (ms' := []) h2
        simpa using this
      · simpa using ht
  · simpa using h
def AllOk (room : Nat) (Cs : List (List Mg)) : Prop := ∀ C ∈ Cs, C ≠ [] ∧ (∀ m ∈ C, mOk m) ∧ usedM C ≤ room
theorem AllOk.app {room : Nat} {A B : List (List Mg)} (h : AllOk room A) (h2 : AllOk room B) : AllOk room (A ++ B) := fun C hC => (List.mem_append.1 hC).elim (h C) (h2 C)
theorem AllOk.flush {room : Nat} {ms : List Mg} (hm : ∀ m ∈ ms, mOk m) (hu : usedM ms ≤ room) : AllOk room (flushG ms) := by
  intro C hC
  unfold flushG at hC
  split at hC
  · cases hC
  · rename_i h0
    rw [List.mem_singleton.1 hC]; exact ⟨h0, hm, hu⟩
theorem AllOk.add {room : Nat} {ms : List Mg} {m : Mg} (hm : ∀ x ∈ ms, mOk x) (hu : usedM ms ≤ room) (h : wk m ≤ room → mOk m) : AllOk room (addG room ms m) := by
  intro C hC
  unfold addG at hC
  split at hC
  · rename_i hw
    unfold grpF at hC
    rcases List.mem_append.1 hC with hC | hC
    · split at hC
      · rename_i h1
        rw [List.mem_singleton.1 hC]
        exact ⟨add_ne h1 hw, hm, hu⟩
      · cases hC
    · split at hC
      · rw [List.mem_singleton.1 hC]
        refine ⟨by simp, fun x hx => ?_, addF_used hw⟩
        rcases List.mem_append.1 hx with hx | hx
        · unfold addF at hx
          split at hx
          · cases hx
          · exact hm x hx
        · rw [List.mem_singleton.1 hx]; exact h hw
      · cases hC
  · cases hC
theorem Chain.good {room : Nat} {Cs : List (List Mg)} {ms : List Mg} (h : Chain room Cs ms) : ∀ i, i + 1 < (Cs ++ flushG ms).length → nextOk room ((Cs ++ flushG ms).getD i []) ((Cs ++ flushG ms).getD (i + 1) []) := by
  intro i hi
  unfold flushG at *
  split at hi
  · rename_i h0
    rw [if_pos h0]
    rw [List.append_nil] at hi ⊢
    have := h i (by omega)
    rwa [getDL hi] at this
  · rename_i h0
    rw [if_neg h0]
    rw [List.length_append, List.length_singleton] at hi
    have := h i (by omega)
    rwa [getDL (by omega : i < Cs.length)]
theorem mok_all {w0 : World} {H : List Chunk} {l : List Pd} (h : ∀ y ∈ l, PdOk w0 H y) (hu : usedM (mg l) ≤ 2048) : ∀ m ∈ mg l, mOk m := by
  intro m hm
  obtain ⟨p, hp, rfl⟩ := List.mem_map.1 hm
  exact mok_pd (h p hp) (Nat.le_trans (usedM_mem _ _ hm) hu)
theorem AllOk.get {room : Nat} {Cs : List (List Mg)} (h : AllOk room Cs) {k : Nat} (hk : k < Cs.length) : Cs.getD k [] ≠ [] ∧ (∀ m ∈ Cs.getD k [], mOk m) ∧ usedM (Cs.getD k []) ≤ room := by
  have e : Cs.getD k [] = Cs[k] := by rw [List.getD_eq_getElem?_getD, List.getElem?_eq_getElem hk]; rfl
  rw [e]; exact h _ (List.getElem_mem hk)
theorem out_get {os : List Sl} {Cs : List (List Mg)} (h : outD os = Cs.map joinB) {k : Nat} (hk : k < os.length) : k < Cs.length ∧ (os.getD k default).d = joinB (Cs.getD k []) := by
  have hl := congrArg List.length h
  rw [outD_len, List.length_map] at hl
  refine ⟨by omega, ?_⟩
  rw [outD_getD hk, h, List.getD_eq_getElem?_getD, List.getElem?_map, List.getElem?_eq_getElem (by omega), List.getD_eq_getElem?_getD, List.getElem?_eq_getElem (by omega)]; rfl
end Go.Sep
