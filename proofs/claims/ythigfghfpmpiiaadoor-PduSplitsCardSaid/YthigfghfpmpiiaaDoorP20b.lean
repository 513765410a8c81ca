/- Acts upon a packer, by definition. -/
import Derived.Test.YthigfghfpmpiiaaDoorP20
set_option linter.unusedVariables false
set_option linter.unusedSimpArgs false
namespace Go.Sep
open Go
/-- An act. -/
structure Ac where
  k : Int
  p : Pd
  n : Int
instance : Inhabited Ac := ⟨⟨0, default, 0⟩⟩
def AcQ (y : Ac) : List Value := [.int .i64 y.k, .int .u32 y.p.id, .slice y.p.a y.p.n y.p.c, .int .u8 y.n]
instance : RowE AcQ 4 := ⟨fun _ => rfl, fun r u hu => by
  simp only [AcQ, List.mem_cons, List.mem_nil_iff, or_false] at hu
  rcases hu with rfl | rfl | rfl | rfl <;> rfl⟩
structure AcOk (w0 : World) (H : List Chunk) (y : Ac) : Prop where
  p : PdOk w0 H y.p
  n0 : 0 ≤ y.n
  n1 : y.n ≤ 255
theorem AcOk.dflt {w0 : World} {H : List Chunk} : AcOk w0 H default := ⟨PdOk.dflt, by decide, by decide⟩
theorem ac_mem {w0 : World} {H : List Chunk} {l : List Ac} (h : ∀ y ∈ l, AcOk w0 H y) (k : Nat) : AcOk w0 H (l.getD k default) := by
  rw [List.getD_eq_getElem?_getD]
  by_cases hk : k < l.length
  · rw [List.getElem?_eq_getElem hk]; exact h _ (List.getElem_mem hk)
  · rw [List.getElem?_eq_none (by omega)]; exact AcOk.dflt
def addOu (room : Nat) (ms : List Mg) (m : Mg) : List (List Int) := if wk m ≤ room then addO room ms m else []
def addLu (room : Nat) (ms : List Mg) (m : Mg) : List Mg := if wk m ≤ room then addL room ms m else ms
def addE (room : Nat) (m : Mg) : Int := if wk m ≤ room then 0 else 2
theorem addLu_used {room : Nat} {ms : List Mg} {m : Mg} (h8 : 8 ≤ room) (h : usedM ms + 8 ≤ room) : usedM (addLu room ms m) + 8 ≤ room := by
  unfold addLu
  split
  · exact addL_used h8
  · exact h
theorem tickL_used {wait age room : Nat} {ms : List Mg} (h8 : 8 ≤ room) (h : usedM ms + 8 ≤ room) : usedM (tickL wait ms age) + 8 ≤ room := by
  unfold tickL
  split
  · exact h
  · split
    · exact h
    · simp only [usedM]; omega
theorem tickA_lt {wait age : Nat} {ms : List Mg} (h : age < wait) : tickA wait ms age < wait := by
  unfold tickA
  split
  · exact h
  · split <;> omega
theorem ageO_lt {wait age : Nat} {o : List (List Int)} (h : age < wait) : ageO o age < wait := by
  unfold ageO
  split <;> omega
theorem pdmix {w0 : World} {D G : List Chunk} {L L1 : List Pd} (h : ∀ y ∈ L, PdOk w0 G y) (h1 : ∀ y ∈ L1, y ∈ L ∨ PdOk w0 D y) : ∀ y ∈ L1, PdOk w0 (D ++ G) y := fun y hy => (h1 y hy).elim (fun m => (h y m).app) (fun m => m.sub SubL.by)
end Go.Sep
namespace Go.Sep
theorem alive1 : addOu 24 (mg []) (1, [1]) = [] ∧ addLu 24 (mg []) (1, [1]) = [(1, [1])] ∧ addE 24 (1, [1]) = 0 := by
  have h : wk (1, [1]) ≤ 24 := by decide
  have h2 := addNn (room := 24) (ms := []) (m := (1, [1])) (by decide)
  rw [addOu, addLu, addE, if_pos h, if_pos h, if_pos h]
  exact ⟨h2.1, h2.2, rfl⟩
theorem alive2 : (addOu 24 [(1, [1])] (1, [1])).length = 1 ∧ ((addOu 24 [(1, [1])] (1, [1])).getD 0 []).length = 24 := by
  have h : wk (1, [1]) ≤ 24 := by decide
  have h2 := addNB (room := 24) (ms := [(1, [1])]) (m := (1, [1])) (by decide) (by decide)
  rw [addOu, if_pos h, h2.1]
  refine ⟨by simp [flushO], ?_⟩
  show (joinB _).length = 24
  rw [joinB_len]; decide
theorem getD_memS {os : List Sl} {k : Nat} (h : k < os.length) : os.getD k default ∈ os := by
  rw [List.getD_eq_getElem?_getD, List.getElem?_eq_getElem h]; exact List.getElem_mem h
theorem outD_getD {os : List Sl} {k : Nat} (h : k < os.length) : (os.getD k default).d = (outD os).getD k [] := by
  rw [List.getD_eq_getElem?_getD, List.getElem?_eq_getElem h, List.getD_eq_getElem?_getD, outD, List.getElem?_map, List.getElem?_eq_getElem h]; rfl
end Go.Sep
namespace Go.Sep
theorem age_same {l M : List Pd} {age : Nat} (h : mg M = mg l) : (if M = [] then age else 0) = (if l = [] then age else 0) := by
  by_cases hl : l = []
  · rw [if_pos hl, if_pos (mg_nil.1 (by rw [h, hl]; rfl))]
  · rw [if_neg hl, if_neg (fun e => hl (mg_nil.1 (by rw [← h, e]; rfl)))]
end Go.Sep
namespace Go.Sep
theorem tickO_len (wait : Nat) (ms : List Mg) (age : Nat) : (tickO wait ms age).length ≤ 1 := by
  unfold tickO; split
  · simp
  · split <;> simp
theorem addOu_len (room : Nat) (ms : List Mg) (m : Mg) : (addOu room ms m).length ≤ 2 := by
  unfold addOu; split
  · exact addO_len _ _ _
  · simp
end Go.Sep
namespace Go.Sep
/-- One message more where nothing waits that gives anything away: who waits stays, or is one more. -/
theorem addOu_nil {room : Nat} {ms : List Mg} {m : Mg} (hu : usedM ms + 8 ≤ room) (h : addOu room ms m = []) : addLu room ms m = ms ++ [m] ∨ addLu room ms m = ms := by
  unfold addOu at h
  unfold addLu
  split at h
  · rename_i hw
    rw [if_pos hw]
    by_cases h1 : room < usedM ms + wk m
    · by_cases h2 : room < wk m + 8
      · have := (addAB h1 hw h2).1; rw [this] at h; simp [flushO] at h
      · have := (addAn h1 hw (by omega)).1; rw [this, flushO_ne (add_ne h1 hw)] at h; cases h
    · by_cases h2 : room < usedM ms + wk m + 8
      · have := (addNB (ms := ms) (m := m) (room := room) (by omega) h2).1; rw [this] at h; simp [flushO] at h
      · exact .inl (addNn (by omega)).2
  · rename_i hw; rw [if_neg hw]; exact .inr rfl
theorem addOu_one {room : Nat} {m : Mg} : (addOu room [] m).length ≤ 1 := by
  unfold addOu
  split
  · rename_i hw
    by_cases h2 : room < wk m + 8
    · rw [(addNB (ms := []) (m := m) (room := room) (by simp only [usedM]; omega) (by simp only [usedM]; omega)).1]; exact flushO_len _
    · rw [(addNn (ms := []) (m := m) (room := room) (by simp only [usedM]; omega)).1]; simp
  · simp
theorem addLu_out {room : Nat} {m : Mg} (h : addOu room [] m ≠ []) : addLu room [] m = [] := by
  unfold addOu at h
  unfold addLu
  split at h
  · rename_i hw
    rw [if_pos hw]
    by_cases h2 : room < wk m + 8
    · exact (addNB (ms := []) (m := m) (room := room) (by simp only [usedM]; omega) (by simp only [usedM]; omega)).2
    · exact absurd (addNn (ms := []) (m := m) (room := room) (by simp only [usedM]; omega)).1 h
  · exact absurd rfl h
theorem addE_or (room : Nat) (m : Mg) : (addE room m = 0 ∧ wk m ≤ room) ∨ (addE room m = 2 ∧ room < wk m) := by
  unfold addE; split
  · exact .inl ⟨rfl, by assumption⟩
  · exact .inr ⟨rfl, by omega⟩
theorem addOu_bad {room : Nat} {ms : List Mg} {m : Mg} (h : room < wk m) : addOu room ms m = [] ∧ addLu room ms m = ms := by
  rw [addOu, addLu, if_neg (by omega), if_neg (by omega)]; exact ⟨rfl, rfl⟩
theorem addLu_ok {room : Nat} {m : Mg} (h : wk m ≤ room) (ho : addOu room [] m = []) : addLu room [] m = [m] := by
  unfold addOu at ho; rw [if_pos h] at ho
  unfold addLu; rw [if_pos h]
  by_cases h2 : room < wk m + 8
  · rw [(addNB (ms := []) (m := m) (room := room) (by simp only [usedM]; omega) (by simp only [usedM]; omega)).1] at ho; simp [flushO] at ho
  · exact (addNn (ms := []) (m := m) (room := room) (by simp only [usedM]; omega)).2
theorem tick_ne {wait age : Nat} {ms : List Mg} (h : ms ≠ []) : (tickO wait ms age = [] ∧ age + 1 < wait ∧ tickL wait ms age = ms ∧ tickA wait ms age = age + 1) ∨ ((tickO wait ms age).length = 1 ∧ wait ≤ age + 1) := by
  by_cases h2 : age + 1 < wait
  · left; rw [tickO, tickL, tickA, if_neg h, if_neg h, if_neg h, if_pos h2, if_pos h2, if_pos h2]; exact ⟨rfl, h2, rfl, rfl⟩
  · right; rw [tickO, if_neg h, if_neg h2]; exact ⟨rfl, by omega⟩
end Go.Sep
