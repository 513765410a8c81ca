/- Containers: what is split was joined so. -/
import Derived.Test.YthigfghfpmpiiaaDoorP20c
set_option linter.unusedVariables false
set_option linter.unusedSimpArgs false
namespace Go.Sep
open Go
theorem joinS_ok : ∀ (ps : List Pd) (out : List Int), out.length ≤ 2048 → (joinS ps out).2 = 0 → out.length + usedM (mg ps) ≤ 2048
  | [], out, h, _ => by simpa [mg, usedM] using h
  | p :: r, out, h, h2 => by
    rw [joinS] at h2
    split at h2
    · rename_i g
      have hw : wk (mgP p) = wholeN p.data.length := rfl
      have := joinS_ok r (out ++ bytesP p) (by rw [List.length_append, bytesP_len]; omega) h2
      rw [List.length_append, bytesP_len] at this
      have e : usedM (mg (p :: r)) = wk (mgP p) + usedM (mg r) := rfl
      omega
    · cases h2
theorem join_ok {ps : List Pd} (h : (joinV ps).2 = 0) : 0 < ps.length ∧ usedM (mg ps) ≤ 2048 ∧ joinV ps = (joinB (mg ps), 0) := by
  by_cases h0 : ps = []
  · rw [joinV, if_pos h0] at h; cases h
  · have hl : 0 < ps.length := List.length_pos_iff.2 h0
    have h1 := h
    rw [joinV_cons (by omega)] at h1
    have := joinS_ok ps [] (by simp) h1
    rw [List.length_nil, Nat.zero_add] at this
    exact ⟨hl, this, joinV_mg hl this⟩
theorem wk_mod (m : Mg) : wk m % 4 = 0 := by unfold wk wholeN padN; omega
theorem usedM_mod (ms : List Mg) : usedM ms % 4 = 0 := by
  induction ms with
  | nil => rfl
  | cons m ms ih => have := wk_mod m; simp only [usedM]; omega
theorem splitF_err : ∀ (k : Nat) (es : List Int) (acc : List Mg), (splitF k es acc).2 ≠ 0 → (splitF k es acc).1 = []
  | 0, es, acc, h => absurd rfl h
  | k + 1, es, acc, h => by
    rw [splitF] at h ⊢
    split at h
    · exact absurd rfl h
    · rename_i h0
      rw [if_neg h0]
      split at h
      · rename_i h1; rw [if_pos h1]; exact splitF_err k _ _ h
      · rename_i h1; rw [if_neg h1]
theorem split_err {es : List Int} (h : (splitV es).2 ≠ 0) : (splitV es).1 = [] := by
  unfold splitV at *
  split at h
  · rename_i h0; rw [if_pos h0]
  · rename_i h0; rw [if_neg h0]
    split at h
    · rename_i h1; rw [if_pos h1]
    · rename_i h1; rw [if_neg h1]; exact splitF_err _ _ _ h
theorem zs_rep {es : List Int} (h : Zs es) : es = List.replicate es.length 0 := List.eq_replicate_iff.2 ⟨rfl, h⟩
/-- The bytes of the first are what its message is put into. -/
theorem first_bytes {es : List Int} (hB : Byte es) (h : (firstS es).2.2 = 0) : es = bytesM (firstS es).1 ++ es.drop (firstS es).2.1 ∧ mOk (firstS es).1 ∨ 2048 < es.length := by
  by_cases hbig : 2048 < es.length
  · exact .inr hbig
  left
  have hz : Zs ((es.drop 6).take 2) ∧ Zs ((es.drop (8 + lenB es)).take (wholeN (lenB es) - (8 + lenB es))) := by
    unfold firstS at h
    split at h
    · cases h
    · split at h
      · cases h
      · split at h
        · assumption
        · cases h
  rcases first_or es with ⟨_, h8, hw, h1, h2⟩ | ⟨h1, _⟩
  rotate_left
  · exact absurd h h1
  have hge := whole_ge (lenB es)
  have hir := idB_rng hB
  rw [h1, h2]
  have b := fun k => hB.get k
  have b0 := b 0; have b1 := b 1; have b2 := b 2; have b3 := b 3; have b4 := b 4; have b5 := b 5
  have hdl : ((es.drop 8).take (lenB es)).length = lenB es := by rw [List.length_take, List.length_drop]; omega
  have hL : ((lenB es : Nat) : Int) = es.getD 4 0 * 256 + es.getD 5 0 := by unfold lenB; omega
  have h8e : es.take 8 = hdP (idB es) (lenB es) := by
    obtain ⟨x0, x1, x2, x3, x4, x5, x6, x7, tl, rfl⟩ : ∃ x0 x1 x2 x3 x4 x5 x6 x7 tl, es = x0 :: x1 :: x2 :: x3 :: x4 :: x5 :: x6 :: x7 :: tl := by
      match es, h8 with
      | x0 :: x1 :: x2 :: x3 :: x4 :: x5 :: x6 :: x7 :: tl, _ => exact ⟨x0, x1, x2, x3, x4, x5, x6, x7, tl, rfl⟩
    have e6 : x6 = 0 := hz.1 x6 (by simp)
    have e7 : x7 = 0 := hz.1 x7 (by simp)
    have hw : ∀ n : Int, IntKind.u8.wrap n = n % 256 := fun n => by rw [IntKind.wrap_u8]
    have p24 : (2 : Int) ^ 24 = 16777216 := by decide
    have p16 : (2 : Int) ^ 16 = 65536 := by decide
    have p8 : (2 : Int) ^ 8 = 256 := by decide
    simp only [List.getD_cons_succ, List.getD_cons_zero] at b0 b1 b2 b3 b4 b5 hL
    unfold hdP
    rw [hL]
    simp only [hw, p24, p16, p8, idB, List.getD_cons_succ, List.getD_cons_zero, List.take_succ_cons, List.take_zero, e6, e7]
    rw [show (x0 * 16777216 + x1 * 65536 + x2 * 256 + x3) / 16777216 = x0 by omega, show (x0 * 16777216 + x1 * 65536 + x2 * 256 + x3) / 65536 % 256 = x1 by omega, show (x0 * 16777216 + x1 * 65536 + x2 * 256 + x3) / 256 % 256 = x2 by omega, show (x0 * 16777216 + x1 * 65536 + x2 * 256 + x3) % 256 = x3 by omega, show (x4 * 256 + x5) / 256 = x4 by omega, show (x4 * 256 + x5) % 256 = x5 by omega]
  have hpad := zs_rep hz.2
  have hpl : ((es.drop (8 + lenB es)).take (wholeN (lenB es) - (8 + lenB es))).length = padN (lenB es) := by
    rw [List.length_take, List.length_drop]; unfold wholeN at *; omega
  rw [hpl] at hpad
  refine ⟨?_, hir.1, hir.2, hB.seg _ _, by show ((es.drop 8).take (lenB es)).length ≤ _; rw [hdl]; omega⟩
  show es = (hdP (idB es) ((es.drop 8).take (lenB es)).length ++ (es.drop 8).take (lenB es) ++ List.replicate (padN ((es.drop 8).take (lenB es)).length) 0) ++ _
  rw [hdl, ← h8e, ← hpad]
  have e1 : es.take 8 ++ (es.drop 8).take (lenB es) = es.take (8 + lenB es) := (List.take_add ..).symm
  have e2 : es.take (8 + lenB es) ++ (es.drop (8 + lenB es)).take (wholeN (lenB es) - (8 + lenB es)) = es.take (wholeN (lenB es)) := by
    rw [← List.take_add, show 8 + lenB es + (wholeN (lenB es) - (8 + lenB es)) = wholeN (lenB es) by omega]
  rw [e1, e2, List.take_append_drop]
theorem splitF_joined : ∀ (k : Nat) (es : List Int) (acc : List Mg), Byte es → es.length ≤ k → es.length ≤ 2048 → (splitF k es acc).2 = 0 → ∃ rest, (splitF k es acc).1 = acc ++ rest ∧ joinB rest = es ∧ ∀ m ∈ rest, mOk m
  | 0, es, acc, _, hk, _, _ => by
    obtain rfl : es = [] := List.eq_nil_of_length_eq_zero (by omega)
    exact ⟨[], by simp [splitF], rfl, by simp⟩
  | k + 1, es, acc, hB, hk, hm, h => by
    by_cases h0 : es = []
    · subst h0; rw [splitF_nil]; exact ⟨[], by simp, rfl, by simp⟩
    · by_cases h1 : (firstS es).2.2 = 0
      · rw [splitF_step h0 h1] at h ⊢
        have hadv := first_adv h1
        obtain ⟨hb, hmo⟩ := (first_bytes hB h1).resolve_right (by omega)
        obtain ⟨rest, e1, e2, e3⟩ := splitF_joined k (es.drop (firstS es).2.1) (acc ++ [(firstS es).1]) (hB.drop _) (by rw [List.length_drop]; omega) (by rw [List.length_drop]; omega) h
        refine ⟨(firstS es).1 :: rest, by rw [e1]; simp, ?_, fun m hm => (List.mem_cons.1 hm).elim (fun e => e ▸ hmo) (e3 m)⟩
        show bytesM _ ++ joinB rest = es
        rw [e2, ← hb]
      · rw [splitF_bad h0 h1] at h; exact absurd h h1
theorem split_joined {es : List Int} (hB : Byte es) (h : (splitV es).2 = 0) : joinB (splitV es).1 = es ∧ (splitV es).1 ≠ [] ∧ usedM (splitV es).1 ≤ 2048 ∧ ∀ m ∈ (splitV es).1, mOk m := by
  unfold splitV at *
  split at h
  · cases h
  · rename_i h0
    rw [if_neg h0]
    split at h
    · cases h
    · rename_i h1
      rw [if_neg h1]
      obtain ⟨rest, e1, e2, e3⟩ := splitF_joined es.length es [] hB (Nat.le_refl _) (by omega) h
      rw [List.nil_append] at e1
      rw [e1]
      refine ⟨e2, ?_, ?_, e3⟩
      · rintro rfl; exact h0 e2.symm
      · rw [← joinB_len, e2]; omega
end Go.Sep
