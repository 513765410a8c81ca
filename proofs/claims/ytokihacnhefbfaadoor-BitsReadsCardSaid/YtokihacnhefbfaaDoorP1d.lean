/- A text is read as its bits: plain laws. -/
import Derived.Test.YtokihacnhefbfaaDoorP1c
set_option linter.unusedVariables false
set_option linter.unusedSimpArgs false
namespace Go.Sep
open Go
def txt (es : List Int) : List Int := es.map fun z => 48 + z
theorem txt_len (es : List Int) : (txt es).length = es.length := List.length_map _
theorem txt_byte {es : List Int} (h : Bit es) : Byte (txt es) := by
  intro z hz
  obtain ⟨x, hx, rfl⟩ := List.mem_map.1 hz
  obtain ⟨j, hj, rfl⟩ := List.getElem_of_mem hx
  have := h j
  rw [List.getD_eq_getElem?_getD, List.getElem?_eq_getElem hj] at this
  simp only [Option.getD_some] at this
  omega
theorem txt_mem {es : List Int} (h : Bit es) {z : Int} (hz : z ∈ txt es) : z = 48 ∨ z = 49 := by
  obtain ⟨x, hx, rfl⟩ := List.mem_map.1 hz
  obtain ⟨j, hj, rfl⟩ := List.getElem_of_mem hx
  have := h j
  rw [List.getD_eq_getElem?_getD, List.getElem?_eq_getElem hj] at this
  simp only [Option.getD_some] at this
  omega
theorem flt_txt {l : List Int} (h : ∀ z ∈ l, z = 48 ∨ z = 49) : fltI l = l := by
  unfold fltI
  rw [List.filter_eq_self]
  intro z hz
  have := h z hz
  exact decide_eq_true (by omega)
theorem flt_app (a b : List Int) : fltI (a ++ b) = fltI a ++ fltI b := List.filter_append _ _
theorem read_txt {es l : List Int} (h : Bit es) (hl : fltI l = txt es) : readS l = (es, 0) := by
  have hok : okC l = true := by
    unfold okC
    rw [hl, List.all_eq_true]
    intro z hz
    exact decide_eq_true (txt_mem h hz)
  rw [read_ok hok, hl]
  unfold txt
  rw [List.map_map]
  congr 1
  conv => rhs; rw [← List.map_id es]
  apply List.map_congr_left
  intro z _
  simp only [Function.comp_apply, id]
  omega
theorem read_txt0 {es : List Int} (h : Bit es) : readS (txt es) = (es, 0) := read_txt h (flt_txt fun _ hz => txt_mem h hz)
theorem take_mem {es : List Int} (h : Bit es) (k : Nat) {z : Int} (hz : z ∈ (txt es).take k) : z = 48 ∨ z = 49 := txt_mem h (List.mem_of_mem_take hz)
theorem drop_mem {es : List Int} (h : Bit es) (k : Nat) {z : Int} (hz : z ∈ (txt es).drop k) : z = 48 ∨ z = 49 := txt_mem h (List.mem_of_mem_drop hz)
theorem read_txt1 {es : List Int} (h : Bit es) (k : Nat) : readS ((([32] ++ (txt es).take k) ++ [32, 32]) ++ (txt es).drop k) = (es, 0) := by
  refine read_txt h ?_
  rw [flt_app, flt_app, flt_app, flt_txt fun _ hz => take_mem h k hz, flt_txt fun _ hz => drop_mem h k hz]
  show ([] ++ (txt es).take k) ++ [] ++ (txt es).drop k = _
  simp
theorem read_sign {es : List Int} (h : Bit es) (k : Nat) (z : Int) : ((readS (((txt es).take k ++ [z]) ++ (txt es).drop k)).2 = 0 ↔ z = 48 ∨ z = 49 ∨ z = 32) ∧ (¬ (z = 48 ∨ z = 49 ∨ z = 32) → readS (((txt es).take k ++ [z]) ++ (txt es).drop k) = ([], 2)) := by
  have e : okC (((txt es).take k ++ [z]) ++ (txt es).drop k) = true ↔ z = 48 ∨ z = 49 ∨ z = 32 := by
    unfold okC
    rw [flt_app, flt_app, flt_txt fun _ hz => take_mem h k hz, flt_txt fun _ hz => drop_mem h k hz, List.all_append, List.all_append]
    have h1 : ((txt es).take k).all (fun z => decide (z = 48 ∨ z = 49)) = true := List.all_eq_true.2 fun z hz => decide_eq_true (take_mem h k hz)
    have h2 : ((txt es).drop k).all (fun z => decide (z = 48 ∨ z = 49)) = true := List.all_eq_true.2 fun z hz => decide_eq_true (drop_mem h k hz)
    rw [h1, h2, Bool.true_and, Bool.and_true]
    by_cases hz : z = 32
    · subst hz; simp [fltI]
    · have : fltI [z] = [z] := by unfold fltI; rw [List.filter_cons_of_pos (by simpa using hz)]; rfl
      rw [this]
      simp [hz]
  constructor
  · rw [← e]
    by_cases hok : okC (((txt es).take k ++ [z]) ++ (txt es).drop k) = true
    · rw [read_ok hok]; exact ⟨fun _ => hok, fun _ => rfl⟩
    · rw [read_bad hok]; exact ⟨fun h => (by cases h), fun h => absurd h hok⟩
  · intro hn
    exact read_bad (fun hok => hn (e.1 hok))
theorem txt_blank {l : List Int} (h : Byte l) (k : Nat) : Byte ((([32] ++ l.take k) ++ [32, 32]) ++ l.drop k) := by
  intro z hz
  simp only [List.mem_append, List.mem_cons, List.not_mem_nil, or_false] at hz
  rcases hz with ((rfl | hz) | (rfl | rfl)) | hz
  · decide
  · exact h z (List.mem_of_mem_take hz)
  · decide
  · decide
  · exact h z (List.mem_of_mem_drop hz)
theorem txt_sign {l : List Int} (h : Byte l) (k : Nat) {s : Int} (hs : 0 ≤ s ∧ s ≤ 255) : Byte ((l.take k ++ [s]) ++ l.drop k) := by
  intro z hz
  simp only [List.mem_append, List.mem_cons, List.not_mem_nil, or_false] at hz
  rcases hz with (hz | rfl) | hz
  · exact h z (List.mem_of_mem_take hz)
  · exact hs
  · exact h z (List.mem_of_mem_drop hz)
theorem sign_index {z : Int} (hz : 0 ≤ z ∧ z ≤ 255) : (0 ≤ Lib.indexByte [48, 49, 32] z.toNat.toUInt8) ↔ (z = 48 ∨ z = 49 ∨ z = 32) := by
  have key : ∀ n : Nat, n ≤ 255 → ((0 ≤ Lib.indexByte [48, 49, 32] n.toUInt8) ↔ (n = 48 ∨ n = 49 ∨ n = 32)) := by
    intro n hn
    have h1 := u8I_eq (z := (n : Int)) (k := 48) (by omega) (by decide)
    have h2 := u8I_eq (z := (n : Int)) (k := 49) (by omega) (by decide)
    have h3 := u8I_eq (z := (n : Int)) (k := 32) (by omega) (by decide)
    have e0 : u8I (n : Int) = n.toUInt8 := by unfold u8I; rw [Int.toNat_natCast]
    have e1 : u8I 48 = (48 : UInt8) := rfl
    have e2 : u8I 49 = (49 : UInt8) := rfl
    have e3 : u8I 32 = (32 : UInt8) := rfl
    rw [e0] at h1 h2 h3
    rw [e1] at h1; rw [e2] at h2; rw [e3] at h3
    unfold Lib.indexByte Lib.indexByte Lib.indexByte Lib.indexByte
    by_cases a1 : n.toUInt8 = 48
    · simp [a1]; have := h1.1 a1; omega
    · by_cases a2 : n.toUInt8 = 49
      · simp [a2]; have := h2.1 a2; omega
      · by_cases a3 : n.toUInt8 = 32
        · simp [a3]; have := h3.1 a3; omega
        · have b1 : ¬ (48 : UInt8) = n.toUInt8 := fun e => a1 e.symm
          have b2 : ¬ (49 : UInt8) = n.toUInt8 := fun e => a2 e.symm
          have b3 : ¬ (32 : UInt8) = n.toUInt8 := fun e => a3 e.symm
          simp [b1, b2, b3]
          refine ⟨fun e => a1 (h1.2 (by omega)), fun e => a2 (h2.2 (by omega)), fun e => a3 (h3.2 (by omega))⟩
  have := key z.toNat (by omega)
  rw [this]
  omega
end Go.Sep
