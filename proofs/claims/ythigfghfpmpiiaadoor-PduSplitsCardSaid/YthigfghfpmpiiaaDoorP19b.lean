/- Containers split: what is answered, by definition; what is joined is split into the same. -/
import Derived.Test.YthigfghfpmpiiaaDoorP20
import Derived.Test.YthigfghfpmpiiaaDoorS29
set_option linter.unusedVariables false
set_option linter.unusedSimpArgs false
namespace Go.Sep
open Go
def Zs (es : List Int) : Prop := ∀ x ∈ es, x = 0
instance (es : List Int) : Decidable (Zs es) := inferInstanceAs (Decidable (∀ x ∈ es, x = 0))
def lenB (es : List Int) : Nat := (es.getD 4 0 * 256 + es.getD 5 0).toNat
def idB (es : List Int) : Int := es.getD 0 0 * 16777216 + es.getD 1 0 * 65536 + es.getD 2 0 * 256 + es.getD 3 0
/-- The first of a container: its message, how many bytes it has, or the error. -/
def firstS (es : List Int) : Mg × Nat × Int :=
  if es.length < 8 then ((0, []), 0, 3)
  else if es.length < wholeN (lenB es) then ((0, []), 0, 3)
  else if Zs ((es.drop 6).take 2) ∧ Zs ((es.drop (8 + lenB es)).take (wholeN (lenB es) - (8 + lenB es))) then ((idB es, (es.drop 8).take (lenB es)), wholeN (lenB es), 0)
  else ((0, []), 0, 5)
def splitF : Nat → List Int → List Mg → List Mg × Int
  | 0, _, acc => (acc, 0)
  | k + 1, es, acc => if es = [] then (acc, 0) else if (firstS es).2.2 = 0 then splitF k (es.drop (firstS es).2.1) (acc ++ [(firstS es).1]) else ([], (firstS es).2.2)
def splitV (es : List Int) : List Mg × Int := if es = [] then ([], 9) else if 2048 < es.length then ([], 2) else splitF es.length es []
theorem first_short {es : List Int} (h : es.length < 8) : firstS es = ((0, []), 0, 3) := if_pos h
theorem first_short2 {es : List Int} (h : 8 ≤ es.length) (h2 : es.length < wholeN (lenB es)) : firstS es = ((0, []), 0, 3) := by
  rw [firstS, if_neg (by omega), if_pos h2]
theorem first_form {es : List Int} (h : 8 ≤ es.length) (h2 : wholeN (lenB es) ≤ es.length) (h3 : ¬ Zs ((es.drop 6).take 2) ∨ ¬ Zs ((es.drop (8 + lenB es)).take (wholeN (lenB es) - (8 + lenB es)))) : firstS es = ((0, []), 0, 5) := by
  rw [firstS, if_neg (by omega), if_neg (by omega), if_neg (by rintro ⟨a, b⟩; exact h3.elim (fun g => g a) (fun g => g b))]
theorem first_ok {es : List Int} (h : 8 ≤ es.length) (h2 : wholeN (lenB es) ≤ es.length) (h3 : Zs ((es.drop 6).take 2)) (h4 : Zs ((es.drop (8 + lenB es)).take (wholeN (lenB es) - (8 + lenB es)))) : firstS es = ((idB es, (es.drop 8).take (lenB es)), wholeN (lenB es), 0) := by
  rw [firstS, if_neg (by omega), if_neg (by omega), if_pos ⟨h3, h4⟩]
theorem first_or (es : List Int) : ((firstS es).2.2 = 0 ∧ 8 ≤ es.length ∧ wholeN (lenB es) ≤ es.length ∧ (firstS es).2.1 = wholeN (lenB es) ∧ (firstS es).1 = (idB es, (es.drop 8).take (lenB es))) ∨ ((firstS es).2.2 ≠ 0 ∧ (firstS es).1 = (0, []) ∧ (firstS es).2.1 = 0) := by
  unfold firstS
  split
  · right; exact ⟨by decide, rfl, rfl⟩
  · split
    · right; exact ⟨by decide, rfl, rfl⟩
    · split
      · left; exact ⟨rfl, by omega, by omega, rfl, rfl⟩
      · right; exact ⟨by decide, rfl, rfl⟩
theorem first_adv {es : List Int} (h : (firstS es).2.2 = 0) : 8 ≤ (firstS es).2.1 ∧ (firstS es).2.1 ≤ es.length := by
  rcases first_or es with ⟨_, h1, h2, h3, _⟩ | ⟨h1, _⟩
  · rw [h3]; unfold wholeN at *; omega
  · exact absurd h h1
theorem splitF_step {k : Nat} {es : List Int} {acc : List Mg} (h : es ≠ []) (h0 : (firstS es).2.2 = 0) : splitF (k + 1) es acc = splitF k (es.drop (firstS es).2.1) (acc ++ [(firstS es).1]) := by
  rw [splitF, if_neg h, if_pos h0]
theorem splitF_bad {k : Nat} {es : List Int} {acc : List Mg} (h : es ≠ []) (h0 : (firstS es).2.2 ≠ 0) : splitF (k + 1) es acc = ([], (firstS es).2.2) := by
  rw [splitF, if_neg h, if_neg h0]
theorem splitF_nil {k : Nat} {acc : List Mg} : splitF k [] acc = (acc, 0) := by
  cases k with
  | zero => rfl
  | succ k => rw [splitF, if_pos rfl]
/-- A message that may be, by itself. -/
def mOk (m : Mg) : Prop := 0 ≤ m.1 ∧ m.1 ≤ 4294967295 ∧ Byte m.2 ∧ m.2.length ≤ 2048
theorem getD_app_l {α : Type} {a b : List α} {k : Nat} {d : α} (h : k < a.length) : (a ++ b).getD k d = a.getD k d := by
  rw [List.getD_eq_getElem?_getD, List.getD_eq_getElem?_getD, List.getElem?_append_left h]
theorem hd8 (id : Int) (L : Nat) : (hdP id L).length = 8 := rfl
theorem first_join {m : Mg} {rest : List Int} (h : mOk m) : firstS (bytesM m ++ rest) = (m, wk m, 0) := by
  obtain ⟨i0, i1, hb, hl⟩ := h
  have e : bytesM m ++ rest = hdP m.1 m.2.length ++ (m.2 ++ (List.replicate (padN m.2.length) 0 ++ rest)) := by
    unfold bytesM; simp only [List.append_assoc]
  have hw : ∀ n : Int, IntKind.u8.wrap n = n % 256 := fun n => by rw [IntKind.wrap_u8]
  have p24 : (2 : Int) ^ 24 = 16777216 := by decide
  have p16 : (2 : Int) ^ 16 = 65536 := by decide
  have p8 : (2 : Int) ^ 8 = 256 := by decide
  have g : ∀ k, k < 8 → (bytesM m ++ rest).getD k 0 = (hdP m.1 m.2.length).getD k 0 := fun k hk => by
    rw [e, getD_app_l (by rw [hd8]; exact hk)]
  have g4 := g 4 (by omega); have g5 := g 5 (by omega)
  have g0 := g 0 (by omega); have g1 := g 1 (by omega); have g2 := g 2 (by omega); have g3 := g 3 (by omega)
  simp only [hdP, List.getD_cons_succ, List.getD_cons_zero, hw, p24, p16, p8] at g0 g1 g2 g3 g4 g5
  have hlen : lenB (bytesM m ++ rest) = m.2.length := by unfold lenB; rw [g4, g5]; omega
  have hid : idB (bytesM m ++ rest) = m.1 := by unfold idB; rw [g0, g1, g2, g3]; omega
  have hL : (bytesM m ++ rest).length = wk m + rest.length := by rw [List.length_append, bytesM_len]
  have hwk : wholeN m.2.length = wk m := rfl
  have hge := wk_ge m
  have d8 : (bytesM m ++ rest).drop 8 = m.2 ++ (List.replicate (padN m.2.length) 0 ++ rest) := by
    rw [e, List.drop_left' (hd8 _ _)]
  have h3 : Zs (((bytesM m ++ rest).drop 6).take 2) := by
    rw [e]
    intro x hx
    simp [hdP] at hx
    exact hx
  have h4 : Zs (((bytesM m ++ rest).drop (8 + m.2.length)).take (wholeN m.2.length - (8 + m.2.length))) := by
    rw [show 8 + m.2.length = 8 + m.2.length from rfl, ← List.drop_drop, d8, List.drop_left' rfl, List.take_append_of_le_length (by rw [List.length_replicate]; unfold wholeN; omega)]
    intro x hx
    have := List.mem_of_mem_take hx
    exact (List.mem_replicate.1 this).2
  rw [first_ok (by rw [hL]; omega) (by rw [hlen, hL, hwk]; omega) h3 (by rw [hlen]; exact h4), hlen, hid, d8, List.take_left' rfl, hwk]
theorem splitF_join : ∀ (ms : List Mg) (k : Nat) (acc : List Mg), (∀ m ∈ ms, mOk m) → usedM ms ≤ k → splitF k (joinB ms) acc = (acc ++ ms, 0)
  | [], k, acc, _, _ => by rw [show joinB [] = [] from rfl, splitF_nil]; simp
  | m :: ms, k, acc, h, hk => by
    have hge := wk_ge m
    have hu : usedM (m :: ms) = wk m + usedM ms := rfl
    obtain ⟨k, rfl⟩ : ∃ j, k = j + 1 := ⟨k - 1, by omega⟩
    have hf := first_join (m := m) (rest := joinB ms) (h m (by simp))
    have ej : joinB (m :: ms) = bytesM m ++ joinB ms := rfl
    rw [ej, splitF_step (by
      intro e0
      have := congrArg List.length e0
      rw [List.length_append, bytesM_len] at this
      simp at this; omega) (by rw [hf]), hf]
    dsimp only
    rw [List.drop_left' (bytesM_len m), splitF_join ms k (acc ++ [m]) (fun x hx => h x (by simp [hx])) (by omega)]
    simp
theorem splitV_join {ms : List Mg} (h0 : ms ≠ []) (h : ∀ m ∈ ms, mOk m) (hu : usedM ms ≤ 2048) : splitV (joinB ms) = (ms, 0) := by
  have hl := joinB_len ms
  have h1 := usedM_len ms
  have h2 : 0 < ms.length := List.length_pos_iff.2 h0
  rw [splitV, if_neg (by intro e; rw [e] at hl; simp at hl; omega), if_neg (by omega), splitF_join ms _ [] h (by omega)]
  rfl
end Go.Sep
namespace Go.Sep
open Go
theorem zs_iff {es : List Int} : Zs es ↔ ∀ j, j < es.length → es.getD j 0 = 0 := by
  constructor
  · intro h j hj
    rw [List.getD_eq_getElem?_getD, List.getElem?_eq_getElem hj]; exact h _ (List.getElem_mem hj)
  · intro h x hx
    obtain ⟨i, hi, rfl⟩ := List.mem_iff_getElem.1 hx
    have := h i hi
    rwa [List.getD_eq_getElem?_getD, List.getElem?_eq_getElem hi] at this
theorem getD_take {es : List Int} {k j : Nat} (h : j < k) : (es.take k).getD j 0 = es.getD j 0 := by
  rw [List.getD_eq_getElem?_getD, List.getD_eq_getElem?_getD, List.getElem?_take, if_pos h]
theorem getD_drop {es : List Int} {k j : Nat} : (es.drop k).getD j 0 = es.getD (k + j) 0 := by
  rw [List.getD_eq_getElem?_getD, List.getD_eq_getElem?_getD, List.getElem?_drop]
theorem zs_take {es : List Int} {k : Nat} (hk : k ≤ es.length) (hz : ∀ j, k ≤ j → j < es.length → es.getD j 0 = 0) : Zs (es.take k) ↔ Zs es := by
  rw [zs_iff, zs_iff]
  constructor
  · intro h j hj
    by_cases hjk : j < k
    · have := h j (by rw [List.length_take]; omega)
      rwa [getD_take hjk] at this
    · exact hz j (by omega) hj
  · intro h j hj
    rw [List.length_take] at hj
    rw [getD_take (by omega)]; exact h j (by omega)
theorem lenB_eq {es : List Int} (hB : Byte es) : es.getD 4 0 * 2 ^ 8 + es.getD 5 0 = ((lenB es : Nat) : Int) := by
  have h4 := hB.get 4; have h5 := hB.get 5
  have p8 : (2 : Int) ^ 8 = 256 := by decide
  unfold lenB; rw [p8]; omega
theorem idB_eq {es : List Int} : es.getD 0 0 * 2 ^ 24 + es.getD 1 0 * 2 ^ 16 + es.getD 2 0 * 2 ^ 8 + es.getD 3 0 = idB es := by
  have p24 : (2 : Int) ^ 24 = 16777216 := by decide
  have p16 : (2 : Int) ^ 16 = 65536 := by decide
  have p8 : (2 : Int) ^ 8 = 256 := by decide
  unfold idB; rw [p8, p16, p24]
theorem idB_rng {es : List Int} (hB : Byte es) : 0 ≤ idB es ∧ idB es ≤ 4294967295 := by
  have h0 := hB.get 0; have h1 := hB.get 1; have h2 := hB.get 2; have h3 := hB.get 3
  unfold idB; omega
theorem lenB_max {es : List Int} (hB : Byte es) : lenB es ≤ 65535 := by
  have h4 := hB.get 4; have h5 := hB.get 5
  unfold lenB; omega
theorem whole_ge (L : Nat) : 8 + L ≤ wholeN L ∧ wholeN L ≤ 11 + L := by have := pad_lt L; unfold wholeN; omega
theorem Byte.seg {es : List Int} (h : Byte es) (a b : Nat) : Byte ((es.drop a).take b) := fun x hx => h x (List.mem_of_mem_drop (List.mem_of_mem_take hx))
end Go.Sep
