/- Stuff bits: what is put is got, what is got was put. -/
import Derived.Test.YtilffbgepliamaaP3
set_option linter.unusedVariables false
set_option linter.unusedSimpArgs false
namespace Go.Proofs.Ytilffbgepliamaa.M
open Go Go.Sep Go.Proofs

def tl : List Int → List Int → List Int
  | _, [] => []
  | o, b :: l => (if 5 ≤ (st o).2 then [1 - (st o).1, b] else [b]) ++ tl (stepS o b) l
theorem fold_tl : ∀ (l o : List Int), l.foldl stepS o = o ++ tl o l
  | [], o => by simp [tl]
  | b :: l, o => by
    rw [List.foldl_cons, fold_tl l, tl]
    unfold stepS
    split <;> simp
theorem stuffed_tl (es : List Int) : stuffed es = tl [] es := by unfold stuffed; rw [fold_tl]; rfl
theorem stepS_ok {o : List Int} {b : Int} (h5 : (st o).2 ≤ 5) (ho : Bit o) (h0 : 0 ≤ b) (h1 : b ≤ 1) : (st (stepS o b)).2 ≤ 5 ∧ Bit (stepS o b) := by
  have hl := st_bit o ho
  unfold stepS
  split
  · rw [st2, nxt_ne (show (st o).1 ≠ 1 - (st o).1 by omega)]
    exact ⟨nxt_le (by omega), (ho.append (Bit.mk (by omega) (by omega) Bit.nil)).append (Bit.mk h0 h1 Bit.nil)⟩
  · rw [st_app]
    exact ⟨nxt_le (by omega), ho.append (Bit.mk h0 h1 Bit.nil)⟩
theorem get_tl : ∀ (l o : List Int) (r : List Int × Int × Bool), (st o).2 ≤ 5 → Bit o → Bit l → getF o r (tl o l) = some (r.1 ++ l, r.2.1 + (((tl o l).length : Int) - l.length), if l.isEmpty then r.2.2 else false)
  | [], o, r, _, _, _ => by simp [tl, getF]
  | b :: l, o, r, h5, ho, hb => by
    obtain ⟨⟨b0, b1⟩, hl⟩ := hb.cons
    have hs := stepS_ok h5 ho b0 b1
    have hlb := st_bit o ho
    by_cases hf : 5 ≤ (st o).2
    · have e1 : stepS o b = o ++ [1 - (st o).1] ++ [b] := by unfold stepS; rw [if_pos hf]
      have ih := get_tl l (stepS o b) (r.1 ++ [b], r.2.1 + 1, false) hs.1 hs.2 hl
      rw [tl, if_pos hf, List.cons_append, List.cons_append, List.nil_append, getF, if_pos hf, if_neg (by omega), getF, st_app, if_neg (by simp only [nxt_ne (show (st o).1 ≠ 1 - (st o).1 by omega)]; omega), ← e1]
      simp only at ih ⊢
      rw [ih]
      simp only [List.append_assoc, List.singleton_append, List.length_cons, List.isEmpty_cons, Option.some.injEq, Prod.mk.injEq, true_and]
      refine ⟨by omega, ?_⟩
      cases l <;> simp
    · have e1 : stepS o b = o ++ [b] := by unfold stepS; rw [if_neg hf]
      have ih := get_tl l (stepS o b) (r.1 ++ [b], r.2.1, false) hs.1 hs.2 hl
      rw [tl, if_neg hf, List.singleton_append, getF, if_neg hf, ← e1, ih]
      simp only [List.append_assoc, List.singleton_append, List.length_cons, List.isEmpty_cons, Option.some.injEq, Prod.mk.injEq, true_and]
      refine ⟨by omega, ?_⟩
      cases l <;> simp
theorem tl_get : ∀ (raw o : List Int) (r y : List Int × Int × Bool), (st o).2 ≤ 5 → Bit o → Bit raw → getF o r raw = some y → y.2.2 = false → ∃ l, y.1 = r.1 ++ l ∧ raw = tl o l ∧ Bit l
  | [], o, r, y, _, _, _, h, _ => by cases h; exact ⟨[], by simp, rfl, Bit.nil⟩
  | b :: raw, o, r, y, h5, ho, hb, h, hy => by
    obtain ⟨⟨b0, b1⟩, hl⟩ := hb.cons
    have hlb := st_bit o ho
    by_cases hf : 5 ≤ (st o).2
    · rw [getF, if_pos hf] at h
      split at h
      · cases h
      · rename_i hne
        have hb1 : b = 1 - (st o).1 := by omega
        match raw, hl, h with
        | [], _, h => cases h; cases hy
        | b2 :: raw2, hl, h =>
          obtain ⟨⟨c0, c1⟩, hl2⟩ := hl.cons
          rw [getF, st_app, if_neg (by simp only [nxt_ne (show (st o).1 ≠ b by omega)]; omega)] at h
          have e1 : stepS o b2 = o ++ [b] ++ [b2] := by unfold stepS; rw [if_pos hf, hb1]
          have hs := stepS_ok h5 ho c0 c1
          rw [← e1] at h
          obtain ⟨l, h1, h2, h3⟩ := tl_get raw2 _ _ y hs.1 hs.2 hl2 h hy
          refine ⟨b2 :: l, by rw [h1]; simp, ?_, Bit.mk c0 c1 h3⟩
          rw [tl, if_pos hf, ← h2, hb1]; rfl
    · rw [getF, if_neg hf] at h
      have e1 : stepS o b = o ++ [b] := by unfold stepS; rw [if_neg hf]
      have hs := stepS_ok h5 ho b0 b1
      rw [← e1] at h
      obtain ⟨l, h1, h2, h3⟩ := tl_get raw _ _ y hs.1 hs.2 hl h hy
      refine ⟨b :: l, by rw [h1]; simp, ?_, Bit.mk b0 b1 h3⟩
      rw [tl, if_neg hf, ← h2]; rfl
theorem tl_bits : ∀ (l o : List Int), (st o).2 ≤ 5 → Bit o → Bit l → Bit (tl o l) ∧ (tl o l).length ≤ 2 * l.length ∧ l.length ≤ (tl o l).length
  | [], _, _, _, _ => ⟨Bit.nil, Nat.le_refl _, Nat.le_refl _⟩
  | b :: l, o, h5, ho, hb => by
    obtain ⟨⟨b0, b1⟩, hl⟩ := hb.cons
    have hs := stepS_ok h5 ho b0 b1
    have hlb := st_bit o ho
    obtain ⟨i1, i2, i3⟩ := tl_bits l (stepS o b) hs.1 hs.2 hl
    rw [tl]
    split
    · exact ⟨(Bit.mk (by omega) (by omega) (Bit.mk b0 b1 Bit.nil)).append i1, by simp; omega, by simp; omega⟩
    · exact ⟨(Bit.mk b0 b1 Bit.nil).append i1, by simp; omega, by simp; omega⟩
/-- What is put is got. -/
theorem put_fit {es : List Int} (hB : Byte es) (hc : chk es = 0) (hl : es.length ≤ 3000) : putV es = (stuffed es, 0) ∧ getV (stuffed es) = (es, 0) ∧ cntV (stuffed es) = (((stuffed es).length : Int) - es.length, 0) ∧ (stuffed es).length ≤ 6000 ∧ Bit (stuffed es) := by
  have hb := bit_of hB (chk_zero.1 hc).2
  obtain ⟨i1, i2, i3⟩ := tl_bits es [] (by simp [st]) Bit.nil hb
  have hg := get_tl es [] ([], 0, false) (by simp [st]) Bit.nil hb
  rw [← stuffed_tl] at i1 i2 i3 hg
  have hcs : chk (stuffed es) = 0 := chk_zero.2 ⟨by omega, i1.good⟩
  refine ⟨?_, ?_, ?_, by omega, i1⟩
  · unfold putV; rw [if_pos hc, if_pos (by omega)]
  · unfold getV; rw [if_pos hcs, hg]; simp
  · unfold cntV; rw [if_pos hcs, hg]; simp
theorem get_fit {raw y : List Int} (hB : Byte raw) (h : getV raw = (y, 0)) : putV y = (raw, 0) ∧ Byte y := by
  unfold getV at h
  split at h
  · rename_i hc
    have hcz := chk_zero.1 hc
    have hb := bit_of hB hcz.2
    cases hg : getF [] ([], 0, false) raw with
    | none => rw [hg] at h; cases h
    | some r =>
      obtain ⟨o, q, d⟩ := r
      rw [hg] at h
      cases d with
      | true => cases h
      | false =>
        have e : o = y := (Prod.mk.inj h).1
        subst e
        obtain ⟨l, h1, h2, h3⟩ := tl_get raw [] ([], 0, false) (o, q, false) (by simp [st]) Bit.nil hb hg rfl
        have hol : o = l := by simpa using h1
        subst hol
        have hle := getF_len _ _ _ _ hg
        refine ⟨?_, h3.byte⟩
        unfold putV
        have hst : stuffed o = raw := by rw [stuffed_tl, ← h2]
        rw [if_pos (chk_zero.2 ⟨by simp at hle; omega, h3.good⟩), hst, if_pos hcz.1]
  · cases h
theorem getV_err {es : List Int} (h : (getV es).2 ≠ 0) : (getV es).1 = [] := by
  unfold getV at h ⊢
  split
  · split
    · rfl
    · rfl
    · rename_i hh _ _ _ g; rw [if_pos hh, g] at h; exact absurd rfl h
  · rfl
theorem putV_bad {es : List Int} (hc : ¬ chk es = 0) : putV es = ([], 2) := if_neg hc
end Go.Proofs.Ytilffbgepliamaa.M
