/- Runs of stuffed rows: never six alike; how many stuff bits there are at most; what a turned stuff bit does. -/
import Derived.Test.YtilffbgepliamaaP3c
import Derived.Test.YtilffbgepliamaaP1
set_option linter.unusedVariables false
set_option linter.unusedSimpArgs false
namespace Go.Proofs.Ytilffbgepliamaa.M
open Go Go.Sep Go.Proofs

theorem st_run : ∀ p : List Int, (st p).2 = runV p := by
  refine app_ind rfl ?_
  intro p b ih
  rw [st_app, runV_snoc]
  show nxt (st p).1 (st p).2 b = _
  unfold nxt
  by_cases h0 : p = []
  · subst h0; simp [st]
  · have hl : 0 < p.length := List.length_pos_iff.2 h0
    have h1 := st_pos p h0
    have h2 : (st p).1 = lastI p := by rw [st_last p hl]; rfl
    rw [h2, ih]
    rw [ih] at h1
    by_cases hb : lastI p = b
    · rw [if_pos ⟨by omega, hb⟩, if_pos ⟨hl, hb⟩]
    · rw [if_neg (fun h => hb h.2), if_neg (fun h => hb h.2)]
/-- Every beginning of a stuffed row has a run of five at most. -/
theorem tl_pre : ∀ (l o : List Int) (j : Nat), (st o).2 ≤ 5 → Bit o → Bit l → (st (o ++ (tl o l).take j)).2 ≤ 5
  | [], o, j, h, _, _ => by simpa [tl] using h
  | b :: l, o, j, h, ho, hb => by
    obtain ⟨⟨b0, b1⟩, hl⟩ := hb.cons
    have hs := stepS_ok h ho b0 b1
    have hlb := st_bit o ho
    cases j with
    | zero => simpa using h
    | succ j =>
      have ih := fun j => tl_pre l (stepS o b) j hs.1 hs.2 hl
      by_cases hf : 5 ≤ (st o).2
      · have e : stepS o b = o ++ [1 - (st o).1] ++ [b] := by unfold stepS; rw [if_pos hf]
        rw [tl, if_pos hf]
        simp only [List.cons_append, List.nil_append, List.take_succ_cons]
        cases j with
        | zero =>
          rw [List.take_zero, st_app]
          show nxt _ _ _ ≤ 5
          rw [nxt_ne (by omega)]; omega
        | succ j =>
          have := ih j
          rw [e] at this ⊢
          simpa using this
      · have e : stepS o b = o ++ [b] := by unfold stepS; rw [if_neg hf]
        rw [tl, if_neg hf]
        have := ih j
        rw [e] at this ⊢
        simpa using this
theorem stuffed_pre {es : List Int} (hb : Bit es) (j : Nat) : runV ((stuffed es).take j) ≤ 5 := by
  have := tl_pre es [] j (by simp [st]) Bit.nil hb
  rw [List.nil_append, ← stuffed_tl, st_run] at this
  exact this
/-- The stuff bits are at most a quarter. -/
theorem tl_count : ∀ (l o : List Int), (st o).2 ≤ 5 → Bit o → Bit l → (st (o ++ tl o l)).2 + 4 * (((tl o l).length : Int) - l.length) ≤ (st o).2 + l.length
  | [], o, _, _, _ => by simp [tl]
  | b :: l, o, h, ho, hb => by
    obtain ⟨⟨b0, b1⟩, hl⟩ := hb.cons
    have hs := stepS_ok h ho b0 b1
    have hlb := st_bit o ho
    have ih := tl_count l (stepS o b) hs.1 hs.2 hl
    by_cases hf : 5 ≤ (st o).2
    · have e : stepS o b = o ++ [1 - (st o).1] ++ [b] := by unfold stepS; rw [if_pos hf]
      have e2 : (st (stepS o b)).2 ≤ 2 := by
        rw [e, st2, nxt_ne (show (st o).1 ≠ 1 - (st o).1 by omega)]
        show nxt _ _ _ ≤ 2
        unfold nxt; split <;> omega
      rw [tl, if_pos hf]
      rw [e] at ih e2 ⊢
      simp only [List.append_assoc, List.cons_append, List.nil_append, List.length_cons] at ih e2 ⊢
      omega
    · have e : stepS o b = o ++ [b] := by unfold stepS; rw [if_neg hf]
      have e2 : (st (stepS o b)).2 ≤ (st o).2 + 1 := by
        rw [e, st_app]
        show nxt _ _ _ ≤ _
        have := (st_range o).1
        unfold nxt; split <;> omega
      rw [tl, if_neg hf]
      rw [e] at ih e2 ⊢
      simp only [List.append_assoc, List.cons_append, List.nil_append, List.length_cons] at ih e2 ⊢
      omega
theorem stuffed_len {es : List Int} (hb : Bit es) (h : 0 < es.length) : (((stuffed es).length : Nat) : Int) ≤ es.length + ((es.length : Int) - 1) / 4 := by
  have := tl_count es [] (by simp [st]) Bit.nil hb
  rw [List.nil_append, ← stuffed_tl, st_run, st_run] at this
  have h2 := (tl_bits es [] (by simp [st]) Bit.nil hb).2.2
  rw [← stuffed_tl] at h2
  have h3 := runV_pos (es := stuffed es) (by omega)
  have h4 : runV [] = 0 := rfl
  omega
theorem stuffed_take (es : List Int) (k : Nat) : ∃ r, stuffed es = stuffed (es.take k) ++ r := by
  refine ⟨tl (stuffed (es.take k)) (es.drop k), ?_⟩
  conv => lhs; rw [← List.take_append_drop k es]
  unfold stuffed
  rw [List.foldl_append, fold_tl]
theorem stuffed_ge {es : List Int} (hb : Bit es) : es.length ≤ (stuffed es).length := by
  have h2 := (tl_bits es [] (by simp [st]) Bit.nil hb).2.2
  rwa [← stuffed_tl] at h2
/-- Where a run of five is gone on, nothing is got. -/
theorem getF_six : ∀ (l p : List Int) (r : List Int × Int × Bool) (i : Nat), i < l.length → 5 ≤ (st (p ++ l.take i)).2 → l.getD i 0 = (st (p ++ l.take i)).1 → getF p r l = none
  | [], _, _, _, h, _, _ => by simp at h
  | b :: l, p, r, 0, _, h5, he => by
    simp only [List.take_zero, List.append_nil, List.getD_cons_zero] at h5 he
    simp only [getF]
    rw [if_pos h5, if_pos he]
  | b :: l, p, r, i + 1, hi, h5, he => by
    simp only [List.take_succ_cons, List.getD_cons_succ] at h5 he
    have key := fun r => getF_six l (p ++ [b]) r i (by simpa using hi) (by simpa using h5) (by simpa using he)
    simp only [getF]
    split
    · split
      · rfl
      · exact key _
    · exact key _
theorem get_six {es : List Int} {i : Nat} (hc : chk es = 0) (hi : i < es.length) (h : runV (es.take (i + 1)) = 6) : getV es = ([], 4) := by
  have h1 : es.take (i + 1) = es.take i ++ [es.getD i 0] := take_succ hi
  rw [h1, runV_snoc] at h
  split at h
  · rename_i hh
    have h5 : (st (es.take i)).2 = 5 := by rw [st_run]; omega
    have hl : (st (es.take i)).1 = lastI (es.take i) := st_last _ hh.1
    have := getF_six es [] ([], 0, false) i hi (by rw [List.nil_append]; omega) (by rw [List.nil_append, hl]; exact hh.2.symm)
    unfold getV; rw [if_pos hc, this]
  · omega
/-- A row that grew has a stuff bit. -/
theorem tl_has : ∀ (l o : List Int), l.length < (tl o l).length → ∃ i, i < (tl o l).length ∧ 5 ≤ (st (o ++ (tl o l).take i)).2 ∧ (tl o l).getD i 0 = 1 - (st (o ++ (tl o l).take i)).1
  | [], o, h => by simp [tl] at h
  | b :: l, o, h => by
    by_cases hf : 5 ≤ (st o).2
    · refine ⟨0, by omega, by simpa using hf, ?_⟩
      rw [tl, if_pos hf]; simp
    · rw [tl, if_neg hf] at h ⊢
      have e : stepS o b = o ++ [b] := by unfold stepS; rw [if_neg hf]
      rw [e] at h ⊢
      obtain ⟨i, h1, h2, h3⟩ := tl_has l (o ++ [b]) (by simpa using h)
      refine ⟨i + 1, by simpa using h1, ?_, ?_⟩
      · simpa using h2
      · simpa using h3
/-- A bit behind a run of five is the other one. -/
theorem tl_next : ∀ (l o : List Int) (i : Nat), (st o).2 ≤ 5 → Bit o → Bit l → i < (tl o l).length → 5 ≤ (st (o ++ (tl o l).take i)).2 → (tl o l).getD i 0 = 1 - (st (o ++ (tl o l).take i)).1
  | [], o, i, _, _, _, h, _ => by simp [tl] at h
  | b :: l, o, i, h, ho, hb, hi, h5 => by
    obtain ⟨⟨b0, b1⟩, hl⟩ := hb.cons
    have hs := stepS_ok h ho b0 b1
    have hlb := st_bit o ho
    by_cases hf : 5 ≤ (st o).2
    · have e : stepS o b = o ++ [1 - (st o).1] ++ [b] := by unfold stepS; rw [if_pos hf]
      rw [tl, if_pos hf, e] at hi h5 ⊢
      rw [e] at hs
      simp only [List.cons_append, List.nil_append] at hi h5 ⊢
      match i, hi, h5 with
      | 0, _, _ => simp
      | 1, _, h5 =>
        simp only [List.take_succ_cons, List.take_zero] at h5
        rw [st_app] at h5
        have := nxt_ne (last := (st o).1) (run := (st o).2) (b := 1 - (st o).1) (by omega)
        simp only [this] at h5; omega
      | i + 2, hi, h5 =>
        have := tl_next l _ i hs.1 hs.2 hl (by simpa using hi) (by simpa using h5)
        simpa using this
    · have e : stepS o b = o ++ [b] := by unfold stepS; rw [if_neg hf]
      rw [tl, if_neg hf, e] at hi h5 ⊢
      rw [e] at hs
      simp only [List.cons_append, List.nil_append] at hi h5 ⊢
      match i, hi, h5 with
      | 0, _, h5 => simp at h5; omega
      | i + 1, hi, h5 =>
        have := tl_next l _ i hs.1 hs.2 hl (by simpa using hi) (by simpa using h5)
        simpa using this
/-- The first stuff bit turned. -/
theorem six_turn {es : List Int} {i : Nat} (hb : Bit es) (hi : i < (stuffed es).length) (h5 : runV ((stuffed es).take i) = 5) : getF [] ([], 0, false) ((stuffed es).set i (1 - (stuffed es).getD i 0)) = none := by
  rw [stuffed_tl] at *
  have hn := tl_next es [] i (by simp [st]) Bit.nil hb hi (by rw [List.nil_append, st_run]; omega)
  rw [List.nil_append] at hn
  refine getF_six _ [] _ i (by simpa using hi) ?_ ?_
  · rw [List.nil_append, List.take_set_of_le (Nat.le_refl _), st_run]; omega
  · rw [List.nil_append, List.take_set_of_le (Nat.le_refl _), List.getD_eq_getElem?_getD, List.getElem?_set_self hi]
    simp only [Option.getD_some]
    omega
theorem six_has {es : List Int} (hb : Bit es) (h : (stuffed es).length ≠ es.length) : ∃ i, i < (stuffed es).length ∧ 5 ≤ i ∧ runV ((stuffed es).take i) = 5 := by
  have hg := stuffed_ge hb
  have hp := fun i => stuffed_pre hb i
  rw [stuffed_tl] at *
  obtain ⟨i, h1, h2, _⟩ := tl_has es [] (by omega)
  rw [List.nil_append, st_run] at h2
  have h3 := hp i
  have h4 := (runV_range ((tl [] es).take i)).2
  rw [List.length_take] at h4
  exact ⟨i, h1, by omega, by omega⟩
theorem six_get {es : List Int} {i : Nat} (hB : Byte es) (hc : chk es = 0) (hl : es.length ≤ 2000) (hi : i < (stuffed es).length) (h5 : runV ((stuffed es).take i) = 5) :
    getV ((stuffed es).set i (1 - (stuffed es).getD i 0)) = ([], 4) ∧ cntV ((stuffed es).set i (1 - (stuffed es).getD i 0)) = (0, 4) := by
  have hb := bit_of hB (chk_zero.1 hc).2
  obtain ⟨_, _, _, hln, hbs⟩ := put_fit hB hc (by omega)
  have hx : Bit ((stuffed es).set i (1 - (stuffed es).getD i 0)) := bit_iff.2 fun x hx => by
    rcases List.mem_or_eq_of_mem_set hx with h | rfl
    · exact bit_iff.1 hbs x h
    · have := hbs i; omega
  have hch : chk ((stuffed es).set i (1 - (stuffed es).getD i 0)) = 0 := chk_ok (by rw [List.length_set]; omega) hx.good
  have := six_turn hb hi h5
  unfold getV cntV
  rw [if_pos hch, if_pos hch, this]
  exact ⟨rfl, rfl⟩
end Go.Proofs.Ytilffbgepliamaa.M
