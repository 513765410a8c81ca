/- Texts as bits: what is left out, what may be, what is read. Plain laws. -/
import Derived.Test.YtokihacnhefbfaaDoorP1b
import Derived.Test.YtokihacnhefbfaaDoorS32
import Derived.Lib.Replace
import Derived.Lib.SlTrimSet
set_option linter.unusedVariables false
set_option linter.unusedSimpArgs false
namespace Go.Sep
open Go
def u8I (z : Int) : UInt8 := UInt8.ofNat z.toNat
def fltI (es : List Int) : List Int := es.filter fun z => decide (z ≠ 32)
def okC (es : List Int) : Bool := (fltI es).all fun z => decide (z = 48 ∨ z = 49)
def readS (es : List Int) : List Int × Int := if okC es = true then ((fltI es).map (· - 48), 0) else ([], 2)
theorem repl_cons {b : UInt8} (hb : b ≠ 32) (k : Nat) (l : List UInt8) : Lib.replaceK [32] [] k (b :: l) = b :: Lib.replaceK [32] [] k l := by
  cases k with
  | zero => rfl
  | succ k =>
    have hp : ([32] : List UInt8).isPrefixOf (b :: l) = false := by simp [List.isPrefixOf, Ne.symm hb]
    have hix : Lib.index (b :: l) [32] = if Lib.index l [32] == -1 then -1 else Lib.index l [32] + 1 := by rw [Lib.index, hp]; simp
    by_cases hm : Lib.index l [32] = -1
    · rw [Lib.replaceK, Lib.replaceK, hix, hm]; rfl
    · have hge := Lib.index_ge l [32]
      obtain ⟨i, hi⟩ : ∃ i : Nat, Lib.index l [32] = i := ⟨(Lib.index l [32]).toNat, by omega⟩
      rw [Lib.replaceK_hit [32] [] k (b :: l) (i + 1) (by rw [hix, if_neg (fun e => hm (beq_iff_eq.1 e)), hi]; omega), Lib.replaceK_hit [32] [] k l i hi]
      simp
theorem repl_filter : ∀ l : List UInt8, Lib.replaceK [32] [] (Lib.count l [32]) l = l.filter fun b => b != 32
  | [] => by rw [Lib.count_one]; rfl
  | b :: l => by
    by_cases h : b = 32
    · subst h
      have hix : Lib.index ((32 : UInt8) :: l) [32] = ((0 : Nat) : Int) := by rw [Lib.index]; simp [List.isPrefixOf]
      rw [Lib.count_cons_eq, Nat.add_comm, Lib.replaceK_hit [32] [] _ _ 0 hix]
      simp [repl_filter l]
    · rw [Lib.count_cons_ne b 32 l h, repl_cons h, repl_filter l, List.filter_cons_of_pos (by simpa using h)]
theorem replaceAll_filter (l : List UInt8) : Lib.replaceAll l [32] [] = l.filter fun b => b != 32 := by
  rw [← repl_filter l]
  unfold Lib.replaceAll Lib.replace Lib.replaceNum
  rw [if_neg (by decide), if_pos (.inl (by decide))]
theorem u8I_eq {z k : Int} (hz : 0 ≤ z ∧ z ≤ 255) (hk : 0 ≤ k ∧ k ≤ 255) : u8I z = u8I k ↔ z = k := by
  unfold u8I
  constructor
  · intro h
    have := congrArg UInt8.toNat h
    simp only [UInt8.toNat_ofNat'] at this
    omega
  · intro h; rw [h]
theorem replaceAll_strI {es : List Int} (hb : Byte es) : (⟨(Lib.replaceAll (strI es).data.toList [32] []).toArray⟩ : ByteArray) = strI (fltI es) := by
  rw [replaceAll_filter]
  apply ByteArray.ext
  show ((es.map u8I).toArray.toList.filter _).toArray = ((fltI es).map u8I).toArray
  congr 1
  rw [List.toList_toArray, List.filter_map]
  unfold fltI
  congr 1
  apply List.filter_congr
  intro z hz
  have h := u8I_eq (k := 32) (hb z hz) (by decide)
  have e : u8I 32 = (32 : UInt8) := rfl
  rw [e] at h
  simp only [Function.comp_apply, bne, decide_not]
  congr 1
  rw [Bool.eq_iff_iff]
  simpa using h
theorem dropWhile_nil {α : Type} {p : α → Bool} : ∀ {l : List α}, l.dropWhile p = [] ↔ l.all p = true
  | [] => by simp
  | a :: l => by
    rw [List.dropWhile_cons, List.all_cons]
    cases h : p a with
    | true => simp [dropWhile_nil (l := l)]
    | false => simp
theorem trim_nil {l cs : List UInt8} : Lib.trimS l cs = [] ↔ l.all (cs.contains ·) = true := by
  unfold Lib.trimS Lib.trimLeftS Lib.trimRightS
  rw [dropWhile_nil, List.all_reverse]
  have h := List.takeWhile_append_dropWhile (p := (cs.contains ·)) (l := l.reverse)
  have h2 : (l.reverse.takeWhile (cs.contains ·)).all (cs.contains ·) = true := List.all_takeWhile
  have h3 : l.all (cs.contains ·) = l.reverse.all (cs.contains ·) := List.all_reverse.symm
  rw [h3]
  conv => rhs; rw [← h, List.all_append, h2, Bool.true_and]
theorem trim_ok {fs : List Int} (hb : Byte fs) : (Lib.trimS (strI fs).data.toList [48, 49] == ([] : List UInt8)) = fs.all fun z => decide (z = 48 ∨ z = 49) := by
  rw [Bool.eq_iff_iff, beq_iff_eq, trim_nil]
  show ((fs.map u8I).toArray.toList.all _) = true ↔ _
  rw [List.toList_toArray, List.all_map, List.all_eq_true, List.all_eq_true]
  have e1 : u8I 48 = (48 : UInt8) := rfl
  have e2 : u8I 49 = (49 : UInt8) := rfl
  have key : ∀ z ∈ fs, (([48, 49] : List UInt8).contains (u8I z) = true ↔ decide (z = 48 ∨ z = 49) = true) := fun z hz => by
    have h1 := u8I_eq (k := 48) (hb z hz) (by decide)
    have h2 := u8I_eq (k := 49) (hb z hz) (by decide)
    rw [e1] at h1; rw [e2] at h2
    simp [h1, h2]
  exact ⟨fun h z hz => (key z hz).1 (h z hz), fun h z hz => (key z hz).2 (h z hz)⟩
theorem flt_byte {es : List Int} (hb : Byte es) : Byte (fltI es) := fun z hz => hb z (List.mem_filter.1 hz).1
theorem flt_len (es : List Int) : (fltI es).length ≤ es.length := List.length_filter_le _ _
theorem countB_le' (s old : ByteArray) (h : 1 ≤ old.size) : Lib.countB s old ≤ s.size := Lib.countB_le old h s.size s (Nat.le_refl _)
theorem dec_get {l : List Int} {k : Nat} (hk : k < l.length) : ((l.take k).map (· - 48) ++ l.drop k).getD k 0 = l.getD k 0 := by
  have hl : ((l.take k).map (fun z : Int => z - 48)).length = k := by simp [List.length_take]; omega
  rw [drop_cons hk, List.getD_eq_getElem?_getD, List.getElem?_append_right (by omega), hl, Nat.sub_self]; rfl
theorem dec_step {l : List Int} {k : Nat} (hk : k < l.length) : ((l.take k).map (· - 48) ++ l.drop k).set k (l.getD k 0 - 48) = (l.take (k + 1)).map (· - 48) ++ l.drop (k + 1) := by
  rw [take_succ hk, drop_cons hk, List.map_append, List.set_append_right _ _ (by simp [List.length_take]; omega)]
  have : k - ((l.take k).map (fun z : Int => z - 48)).length = 0 := by simp [List.length_take]; omega
  rw [this]; simp
theorem okC_get {es : List Int} {k : Nat} (h : okC es = true) (hk : k < (fltI es).length) : (fltI es).getD k 0 = 48 ∨ (fltI es).getD k 0 = 49 := by
  have := List.all_eq_true.1 h ((fltI es).getD k 0) (by rw [List.getD_eq_getElem?_getD, List.getElem?_eq_getElem hk]; exact List.getElem_mem hk)
  simpa using this
theorem read_bad {es : List Int} (h : ¬ okC es = true) : readS es = ([], 2) := if_neg h
theorem read_ok {es : List Int} (h : okC es = true) : readS es = ((fltI es).map (· - 48), 0) := if_pos h
/-- One more sign that is looked at. -/
theorem flt_take {es : List Int} {k : Nat} (hk : k < es.length) : fltI (es.take (k + 1)) = if es.getD k 0 = 32 then fltI (es.take k) else fltI (es.take k) ++ [es.getD k 0] := by
  rw [take_succ hk]
  unfold fltI
  rw [List.filter_append]
  by_cases h : es.getD k 0 = 32
  · rw [if_pos h, List.filter_cons_of_neg (by simp only [h]; decide)]; simp
  · rw [if_neg h, List.filter_cons_of_pos (by simpa using h)]; simp
theorem okC_all {es : List Int} (h : ∀ j, j < es.length → es.getD j 0 = 32 ∨ es.getD j 0 = 48 ∨ es.getD j 0 = 49) : okC es = true := by
  refine List.all_eq_true.2 fun z hz => ?_
  obtain ⟨h1, h2⟩ := List.mem_filter.1 hz
  obtain ⟨j, hj, rfl⟩ := List.getElem_of_mem h1
  have := h j hj
  rw [List.getD_eq_getElem?_getD, List.getElem?_eq_getElem hj] at this
  have h3 := of_decide_eq_true h2
  refine decide_eq_true ?_
  simp only [Option.getD_some] at this
  omega
theorem flt_same {es : List Int} {k : Nat} (hk : k < es.length) (h : es.getD k 0 = 32) : fltI (es.take (k + 1)) = fltI (es.take k) := by rw [flt_take hk, if_pos h]
theorem flt_more {es : List Int} {k : Nat} (hk : k < es.length) (h : es.getD k 0 ≠ 32) : fltI (es.take (k + 1)) = fltI (es.take k) ++ [es.getD k 0] := by rw [flt_take hk, if_neg h]
theorem all_ext {P : Nat → Prop} {k : Nat} (h : ∀ j, j < k → P j) (hk : P k) : ∀ j, j < k + 1 → P j := fun j hj => by
  rcases Nat.lt_or_ge j k with h1 | h1
  · exact h j h1
  · obtain rfl : j = k := by omega
    exact hk
theorem okC_sub {es : List Int} {k : Nat} (hk : k < es.length) (h : es.getD k 0 ≠ 32 ∧ es.getD k 0 ≠ 48 ∧ es.getD k 0 ≠ 49) : ¬ okC es = true := by
  intro hok
  have hm : es.getD k 0 ∈ es := by rw [List.getD_eq_getElem?_getD, List.getElem?_eq_getElem hk]; exact List.getElem_mem hk
  have := List.all_eq_true.1 hok (es.getD k 0) (List.mem_filter.2 ⟨hm, by simpa using h.1⟩)
  have h9 := of_decide_eq_true this
  omega
end Go.Sep
