/- What is added comes, in order, each once. -/
import Derived.Test.YtlgdfoniijmlbaaDoorP20c
set_option linter.unusedVariables false
set_option linter.unusedSimpArgs false
namespace Go.Sep
open Go
theorem flush_flat (ms : List Mg) : (flushG ms).flatten = ms := by
  unfold flushG; split
  · rename_i h; rw [h]; rfl
  · simp
theorem add_flat (room : Nat) (ms : List Mg) (m : Mg) : (addG room ms m).flatten ++ addLu room ms m = ms ++ (if wk m ≤ room then [m] else []) := by
  unfold addG addLu
  split
  · rename_i hw
    unfold grpF addL
    by_cases h1 : room < usedM ms + wk m
    · rw [if_pos h1, addF_gt h1]
      split <;> simp
    · rw [if_neg h1, addF_le (by omega)]
      split <;> simp
  · simp
def tickG (wait : Nat) (ms : List Mg) (age : Nat) : List (List Mg) := if ms = [] then [] else if age + 1 < wait then [] else [ms]
theorem tickO_G (wait : Nat) (ms : List Mg) (age : Nat) : tickO wait ms age = (tickG wait ms age).map joinB := by
  unfold tickO tickG; split
  · rfl
  · split <;> rfl
theorem tick_flat (wait : Nat) (ms : List Mg) (age : Nat) : (tickG wait ms age).flatten ++ tickL wait ms age = ms := by
  unfold tickG tickL; split
  · simp
  · split <;> simp
theorem AllOk.tick {room wait age : Nat} {ms : List Mg} (hm : ∀ m ∈ ms, mOk m) (hu : usedM ms ≤ room) : AllOk room (tickG wait ms age) := by
  intro C hC
  unfold tickG at hC
  split at hC
  · cases hC
  · rename_i h0
    split at hC
    · cases hC
    · rw [List.mem_singleton.1 hC]; exact ⟨h0, hm, hu⟩
theorem tickG_len (wait : Nat) (ms : List Mg) (age : Nat) : (tickG wait ms age).length ≤ 1 := by
  unfold tickG; split
  · simp
  · split <;> simp
theorem addG_len (room : Nat) (ms : List Mg) (m : Mg) : (addG room ms m).length ≤ 2 := by
  unfold addG grpF; split
  · split <;> split <;> simp
  · simp
theorem flushG_len (ms : List Mg) : (flushG ms).length ≤ 1 := by unfold flushG; split <;> simp
theorem grp_take {Cs : List (List Mg)} {k : Nat} (hk : k < Cs.length) : (Cs.take (k + 1)).flatten = (Cs.take k).flatten ++ Cs.getD k [] := by
  rw [List.take_succ_eq_append_getElem hk, List.flatten_append, List.getD_eq_getElem?_getD, List.getElem?_eq_getElem hk]
  simp
theorem mg_le {l : List Pd} {ms : List Mg} (h : mg l = ms) (hu : usedM ms ≤ 2048) : l.length ≤ 256 := by
  have := usedM_len ms
  have h2 := mg_len l
  rw [h] at h2; omega
end Go.Sep
namespace Go.Sep
theorem tick_age0 {wait age : Nat} {ms : List Mg} (h : ms = [] → age = 0) (h2 : tickL wait ms age = []) : tickA wait ms age = 0 := by
  unfold tickL at h2; unfold tickA
  split
  · rename_i h0; exact h h0
  · rename_i h0
    rw [if_neg h0] at h2
    split
    · rename_i h3; rw [if_pos h3] at h2; exact absurd h2 h0
    · rfl
theorem add_age0 {room age : Nat} {ms : List Mg} {m : Mg} (hu : usedM ms + 8 ≤ room) (h : ms = [] → age = 0) (h2 : addLu room ms m = []) : ageO (addOu room ms m) age = 0 := by
  unfold ageO
  split
  · rename_i h0
    rcases addOu_nil hu h0 with e | e
    · rw [e] at h2; simp at h2
    · exact h (by rw [← e]; exact h2)
  · rfl
end Go.Sep
namespace Go.Sep
theorem flush_age0 {l : List Pd} {age age1 : Nat} (h : mg l = [] → age = 0) (h1 : age1 = if l = [] then age else 0) : age1 = 0 := by
  rw [h1]; split
  · rename_i h0; exact h (by rw [h0]; rfl)
  · rfl
theorem flush_aget {l : List Pd} {age age1 wait : Nat} (h : age < wait) (h1 : age1 = if l = [] then age else 0) : age1 < wait := by
  rw [h1]; split <;> omega
end Go.Sep
