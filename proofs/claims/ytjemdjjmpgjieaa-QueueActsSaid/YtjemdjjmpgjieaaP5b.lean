import Derived.Test.YtjemdjjmpgjieaaP5
set_option linter.unusedVariables false
set_option linter.unusedSimpArgs false
/- Frames: what sizes and codes are to one another; copies; kinds. -/
namespace Go.Sep
open Go
theorem sizeS_bd (k n : Int) : 0 ≤ (sizeS k n).1 ∧ (sizeS k n).1 ≤ 2048 ∧ ((sizeS k n).2 = 0 ∨ ((sizeS k n).2 = 2 ∧ (sizeS k n).1 = 0)) := by
  have hb := fun h0 h1 => fd_back (c := n) h0 h1
  unfold sizeS; split
  · simp; omega
  · split
    · simp; omega
    · split
      · have := hb (by omega) (by omega); simp; omega
      · simp
theorem codeS_bd (k n : Int) : 0 ≤ (codeS k n).1 ∧ (codeS k n).1 ≤ 2048 ∧ ((codeS k n).2 = 0 ∨ ((codeS k n).2 = 2 ∧ (codeS k n).1 = 0)) := by
  unfold codeS; split
  · simp; omega
  · split
    · simp; omega
    · split
      · have := fd_up (n := n) (by omega) (by omega); simp; omega
      · simp
theorem fitS_bd (k n : Int) : 0 ≤ (fitS k n).1 ∧ (fitS k n).1 ≤ 2048 ∧ ((fitS k n).2 = 0 ∨ ((fitS k n).2 = 2 ∧ (fitS k n).1 = 0)) := by
  unfold fitS; split
  · simp; omega
  · split
    · simp; omega
    · split
      · have := fd_up (n := n) (by omega) (by omega); have := fd_back (c := fdUp n) (by omega) (by omega); simp; omega
      · simp
theorem back1 {k n : Int} (h : (sizeS k n).2 = 0) : codeS k (sizeS k n).1 = (n, 0) := by
  unfold sizeS at h ⊢
  split at h
  · rename_i hk; rw [if_pos hk]; unfold codeS; rw [if_pos (by dsimp only; omega)]; simp
  · rename_i hk; rw [if_neg hk]
    split at h
    · rename_i hk2
      rw [if_pos hk2]
      unfold codeS
      rcases hk2.1 with h1 | h1
      · rw [if_neg (by dsimp only; omega), if_pos (by dsimp only; omega)]
      · have e : fdSize n = n := by unfold fdSize; rw [if_pos (by omega)]
        have hb := fd_back (c := n) (by omega) (by omega)
        rw [e] at hb
        simp only
        rw [if_neg (by omega), if_neg (by omega), if_pos ⟨h1, by omega, by omega, by rw [hb.1, e]⟩, hb.1]
    · rename_i hk2; rw [if_neg hk2]
      split at h
      · rename_i hk3; rw [if_pos hk3]
        have hb := fd_back (c := n) (by omega) (by omega)
        unfold codeS
        simp only
        rw [if_neg (by omega), if_neg (by omega), if_pos ⟨by omega, by omega, by omega, by rw [hb.1]⟩, hb.1]
      · simp at h
theorem back2 {k n : Int} (h : (codeS k n).2 = 0) : sizeS k (codeS k n).1 = (n, 0) := by
  unfold codeS at h ⊢
  split at h
  · rename_i hk; rw [if_pos hk]; unfold sizeS; rw [if_pos (by dsimp only; omega)]; simp
  · rename_i hk; rw [if_neg hk]
    split at h
    · rename_i hk2; rw [if_pos hk2]; unfold sizeS; rw [if_neg (by dsimp only; omega), if_pos (by dsimp only; omega)]
    · rename_i hk2; rw [if_neg hk2]
      split at h
      · rename_i hk3; rw [if_pos hk3]
        have hu := fd_up (n := n) (by omega) (by omega)
        unfold sizeS
        simp only
        rw [if_neg (by omega)]
        split
        · have e : fdSize (fdUp n) = fdUp n := by unfold fdSize; rw [if_pos (by omega)]
          rw [show fdUp n = n by have := hk3.2.2.2; omega]
        · rw [if_pos (by omega), hk3.2.2.2]
      · simp at h
theorem back3 {k n : Int} (h : (fitS k n).2 = 0) : (codeS k (fitS k n).1).2 = 0 ∧ n ≤ (fitS k n).1 ∧ ((fitS k n).1 = n ↔ (codeS k n).2 = 0) := by
  unfold fitS at h ⊢
  split at h
  · rename_i hk; rw [if_pos hk]
    simp only
    refine ⟨by unfold codeS; rw [if_pos (by omega)], by omega, ?_⟩
    unfold codeS
    split
    · simp; omega
    · rw [if_neg (by omega), if_neg (by omega)]; simp; omega
  · rename_i hk; rw [if_neg hk]
    split at h
    · rename_i hk2; rw [if_pos hk2]
      simp only
      have : (codeS k n).2 = 0 := by unfold codeS; rw [if_neg (by omega), if_pos (by omega)]
      exact ⟨this, by omega, by simp [this]⟩
    · rename_i hk2; rw [if_neg hk2]
      split at h
      · rename_i hk3; rw [if_pos hk3]
        have hu := fd_up (n := n) (by omega) (by omega)
        have hb := fd_back (c := fdUp n) (by omega) (by omega)
        simp only
        refine ⟨?_, hu.2.2.1, ?_⟩
        · unfold codeS; rw [if_neg (by omega), if_neg (by omega), if_pos ⟨by omega, by omega, by omega, by rw [hb.1]⟩]
        · unfold codeS
          rw [if_neg (by omega), if_neg (by omega)]
          constructor
          · intro e; rw [if_pos ⟨by omega, by omega, by omega, e⟩]
          · intro e
            split at e
            · rename_i hh; exact hh.2.2.2
            · simp at e
      · simp at h
theorem back4 {k n : Int} (h : ¬ (fitS k n).2 = 0) : (codeS k n).2 = 2 := by
  have hb := (codeS_bd k n).2.2
  rcases hb with hb | hb
  · exfalso
    unfold codeS at hb
    unfold fitS at h
    split at hb
    · rw [if_pos (by omega)] at h; exact h rfl
    · split at hb
      · rw [if_neg (by omega), if_pos (by omega)] at h; exact h rfl
      · split at hb
        · rw [if_neg (by omega), if_neg (by omega), if_pos (by omega)] at h; exact h rfl
        · simp at hb
  · exact hb.1
theorem up_mono {a b : Int} (h : a ≤ b) : fdUp a ≤ fdUp b := by unfold fdUp; grind (splits := 60)
theorem rises1 {k a b : Int} (hab : a ≤ b) (h0 : 0 ≤ a) (h : (fitS k b).2 = 0) : (fitS k a).2 = 0 ∧ (fitS k a).1 ≤ (fitS k b).1 := by
  by_cases h3 : k = 3 ∧ 0 ≤ b ∧ b ≤ 2048
  · have e1 : fitS k b = (max b 1, 0) := if_pos h3
    have e2 : fitS k a = (max a 1, 0) := if_pos (by omega)
    rw [e1, e2]; exact ⟨rfl, by dsimp only; omega⟩
  · by_cases h1 : k = 1 ∧ 0 ≤ b ∧ b ≤ 8
    · have e1 : fitS k b = (b, 0) := by unfold fitS; rw [if_neg h3, if_pos h1]
      have e2 : fitS k a = (a, 0) := by unfold fitS; rw [if_neg (by omega), if_pos (by omega)]
      rw [e1, e2]; exact ⟨rfl, hab⟩
    · by_cases h2 : k = 2 ∧ 0 ≤ b ∧ b ≤ 64
      · have e1 : fitS k b = (fdSize (fdUp b), 0) := by unfold fitS; rw [if_neg h3, if_neg h1, if_pos h2]
        have e2 : fitS k a = (fdSize (fdUp a), 0) := by unfold fitS; rw [if_neg (by omega), if_neg (by omega), if_pos (by omega)]
        rw [e1, e2]
        have h4 := up_mono hab
        have ha := fd_up (n := a) (by omega) (by omega)
        have hb := fd_up (n := b) (by omega) (by omega)
        refine ⟨rfl, ?_⟩
        dsimp only
        rcases Int.lt_or_le (fdUp a) (fdUp b) with hl | hl
        · exact Int.le_of_lt (fd_mono ha.1 hl hb.2.1)
        · rw [show fdUp a = fdUp b by omega]; exact Int.le_refl _
      · exfalso; unfold fitS at h; rw [if_neg h3, if_neg h1, if_neg h2] at h; simp at h
theorem rises2 {k a b : Int} (h1 : (codeS k a).2 = 0) (h2 : (codeS k b).2 = 0) : a < b ↔ (codeS k a).1 < (codeS k b).1 := by
  have e1 := back2 h1
  have e2 := back2 h2
  have key : ∀ c d : Int, (sizeS k c).2 = 0 → (sizeS k d).2 = 0 → c < d → (sizeS k c).1 < (sizeS k d).1 := by
    intro c d hc hd hlt
    unfold sizeS at hc hd ⊢
    split at hc
    · rename_i hk; rw [if_pos hk]
      split at hd
      · rename_i hk2; rw [if_pos hk2]; simp; omega
      · split at hd
        · omega
        · split at hd
          · omega
          · simp at hd
    · rename_i hk; rw [if_neg hk]
      split at hc
      · rename_i hk2; rw [if_pos hk2]
        split at hd
        · omega
        · rename_i hk3; rw [if_neg hk3]
          split at hd
          · rename_i hk4; rw [if_pos hk4]; simp; omega
          · rename_i hk4; rw [if_neg hk4]
            split at hd
            · rename_i hk5; rw [if_pos hk5]
              have := fd_mono (a := c) (b := d) (by omega) hlt (by omega)
              have e : fdSize c = c := by unfold fdSize; rw [if_pos (by omega)]
              simp only; omega
            · simp at hd
      · rename_i hk2; rw [if_neg hk2]
        split at hc
        · rename_i hk3; rw [if_pos hk3]
          split at hd
          · omega
          · rename_i hk4; rw [if_neg hk4]
            split at hd
            · omega
            · rename_i hk5; rw [if_neg hk5]
              split at hd
              · rename_i hk6; rw [if_pos hk6]; exact fd_mono (by omega) hlt (by omega)
              · simp at hd
        · simp at hc
  have k1 := key (codeS k a).1 (codeS k b).1 (by rw [e1]) (by rw [e2])
  have k2 := key (codeS k b).1 (codeS k a).1 (by rw [e2]) (by rw [e1])
  rw [e1, e2] at k1 k2
  constructor
  · intro h
    rcases Int.lt_or_le (codeS k a).1 (codeS k b).1 with hl | hl
    · exact hl
    · rcases Int.lt_or_le (codeS k b).1 (codeS k a).1 with hm | hm
      · have := k2 hm; simp at this; omega
      · have he : (codeS k a).1 = (codeS k b).1 := by omega
        rw [he, e2] at e1; cases e1; omega
  · intro h; have := k1 h; simpa using this
theorem code_len {k n : Int} (h : (codeS k n).2 = 0) : (k = 1 ∧ n ≤ 8) ∨ (k = 2 ∧ n ≤ 64) ∨ (k = 3 ∧ 1 ≤ n ∧ n ≤ 2048) := by
  unfold codeS at h
  split at h
  · omega
  · split at h
    · omega
    · split at h
      · omega
      · simp at h
def ofKind (f : Frm) (k : Int) : Frm := { f with kind := k }
def cntK (f : Frm) : Nat → Int
  | 0 => 0
  | m + 1 => cntK f m + (if chkF (ofKind f ((m : Int) + 1)) = 0 then 1 else 0)
theorem chk_ok_iff {f : Frm} : chkF f = 0 ↔ okF f = true := by unfold chkF; split <;> simp_all
theorem kinds1 {f : Frm} (h : chkF f = 0) : 1 ≤ cntK f 3 := by
  have hk := code_kind (okF_iff.1 (chk_ok_iff.1 h)).1
  have e : ofKind f f.kind = f := rfl
  simp only [cntK]
  rcases hk with hk | hk | hk <;> rw [hk] at e <;> simp only [show ((0 : Nat) : Int) + 1 = 1 from rfl, show ((1 : Nat) : Int) + 1 = 2 from rfl, show ((2 : Nat) : Int) + 1 = 3 from rfl] <;> rw [e, if_pos h] <;> split <;> (try split) <;> omega
theorem kinds2 {f : Frm} (h : chkF f = 0) (hb : f.ext = true ∨ f.rtr = true ∨ f.brs = true ∨ f.esi = true ∨ f.sec = true ∨ ¬ f.sdt = 0 ∨ ¬ f.vcid = 0 ∨ ¬ f.af = 0 ∨ 64 < (f.data.length : Int)) : cntK f 3 = 1 := by
  have hf := okF_iff.1 (chk_ok_iff.1 h)
  have hl := code_len hf.1
  have key : ∀ k : Int, k ≠ f.kind → chkF (ofKind f k) ≠ 0 := by
    intro k hk h2
    have hg := okF_iff.1 (chk_ok_iff.1 h2)
    have hl2 := code_len hg.1
    have r1 := hf.2.2.2
    have r2 := hg.2.2.2
    unfold RestF at r1 r2
    simp only [ofKind] at hl2 r2
    grind
  have e : ofKind f f.kind = f := rfl
  simp only [cntK, show ((0 : Nat) : Int) + 1 = 1 from rfl, show ((1 : Nat) : Int) + 1 = 2 from rfl, show ((2 : Nat) : Int) + 1 = 3 from rfl]
  rcases hl with hl | hl | hl <;> (have hk := hl.1; rw [hk] at e key; rw [e, if_pos h])
  · rw [if_neg (key 2 (by omega)), if_neg (key 3 (by omega))]; rfl
  · rw [if_neg (key 1 (by omega)), if_neg (key 3 (by omega))]; rfl
  · rw [if_neg (key 1 (by omega)), if_neg (key 2 (by omega))]; rfl
def inc (z : Int) : Int := IntKind.u8.wrap (z + 1)
theorem inc_ne {z : Int} (h : 0 ≤ z ∧ z ≤ 255) : inc z ≠ z := by
  unfold inc
  have : IntKind.u8.wrap (z + 1) = (z + 1) % 256 := by simp [IntKind.wrap, IntKind.bits, IntKind.signed]
  rw [this]; omega
theorem inc_byte (es : List Int) : Byte (es.map inc) := fun x hx => by
  obtain ⟨z, _, rfl⟩ := List.mem_map.1 hx
  exact wrap_range .u8 _
theorem same_inc {f : Frm} (hf : FrOk f) (h : 0 < f.data.length) : sameF { f with data := f.data.map inc } f = false := by
  cases hs : sameF { f with data := f.data.map inc } f with
  | false => rfl
  | true =>
    exfalso
    have := congrArg Frm.data (sameF_iff.1 hs)
    simp only at this
    cases hd : f.data with
    | nil => rw [hd] at h; simp at h
    | cons z l =>
      rw [hd] at this
      simp only [List.map_cons, List.cons.injEq] at this
      exact inc_ne (hf.data z (by rw [hd]; simp)) this.1
theorem sameF_ne {f g : Frm} (h : g ≠ f) : sameF g f = false := by
  cases hs : sameF g f with
  | false => rfl
  | true => exact absurd (sameF_iff.1 hs) h
theorem wrap_ne {k : IntKind} {z : Int} (h0 : loK k ≤ z) (h1 : z ≤ hiK k) : k.wrap (z + 1) ≠ z := by
  cases k <;> simp only [loK, hiK] at h0 h1 <;> simp [IntKind.wrap, IntKind.bits, IntKind.signed] <;> omega
/-- A row that is counted up, so far. -/
theorem inc_step {es : List Int} {k : Nat} (hk : k < es.length) : ((es.take k).map inc ++ es.drop k).set k (inc (es.getD k 0)) = (es.take (k + 1)).map inc ++ es.drop (k + 1) := by
  rw [take_succ hk, drop_cons hk, List.map_append, List.set_append_right _ _ (by simp [List.length_take]; omega)]
  have : k - ((es.take k).map inc).length = 0 := by simp [List.length_take]; omega
  rw [this]; simp
theorem inc_get {es : List Int} {k : Nat} (hk : k < es.length) : ((es.take k).map inc ++ es.drop k).getD k 0 = es.getD k 0 := by
  have hl : ((es.take k).map inc).length = k := by simp [List.length_take]; omega
  rw [drop_cons hk, List.getD_eq_getElem?_getD, List.getElem?_append_right (by omega), hl, Nat.sub_self]; rfl
end Go.Sep
