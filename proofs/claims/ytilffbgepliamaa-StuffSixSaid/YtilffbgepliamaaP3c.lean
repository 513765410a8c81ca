/- Stuff bits: the first bits of what was put, taken, are these. -/
import Derived.Test.YtilffbgepliamaaP3t
import Derived.Test.YtilffbgepliamaaP3b
set_option linter.unusedVariables false
set_option linter.unusedSimpArgs false
namespace Go.Proofs.Ytilffbgepliamaa.M
open Go Go.Sep Go.Proofs

theorem take_tl (n : Nat) (more : List Int) : ∀ (l p o : List Int), (st p).2 ≤ 5 → Bit p → Bit l → o.length ≤ n → n ≤ o.length + l.length →
    takeF n p o (tl p l ++ more) = (o ++ l.take (n - o.length), ((p.length + (tl p (l.take (n - o.length))).length : Nat) : Int), 0) := by
  intro l
  induction l with
  | nil =>
    intro p o h5 hp hl h1 h2
    have hn : n = o.length := by simp at h2; omega
    subst hn
    simp only [tl, List.nil_append, List.take_nil, List.append_nil, List.length_nil, Nat.add_zero]
    cases more with
    | nil => rw [takeF, if_neg (by omega)]
    | cons c m => rw [takeF, if_pos rfl]
  | cons b l ih =>
    intro p o h5 hp hl h1 h2
    obtain ⟨⟨b0, b1⟩, hb⟩ := hl.cons
    have hlb := st_bit p hp
    have hs := stepS_ok h5 hp b0 b1
    by_cases hn : n = o.length
    · subst hn
      rw [Nat.sub_self, List.take_zero, tl, List.append_nil, List.length_nil, Nat.add_zero]
      have : ∃ c m, tl p (b :: l) ++ more = c :: m := by rw [tl]; split <;> exact ⟨_, _, rfl⟩
      obtain ⟨c, m, hcm⟩ := this
      rw [hcm, takeF, if_pos rfl]
    · obtain ⟨q, hq⟩ : ∃ q, n - o.length = q + 1 := ⟨n - o.length - 1, by omega⟩
      have hq2 : n - (o ++ [b]).length = q := by simp; omega
      have ih' := ih (stepS p b) (o ++ [b]) hs.1 hs.2 hb (by simp; omega) (by simp at h2 ⊢; omega)
      rw [hq2] at ih'
      rw [hq, List.take_succ_cons, tl, tl]
      have ho : ¬ (o.length : Int) = n := by omega
      by_cases hf : 5 ≤ (st p).2
      · have e1 : stepS p b = p ++ [1 - (st p).1] ++ [b] := by unfold stepS; rw [if_pos hf]
        rw [if_pos hf, List.cons_append, List.cons_append, List.cons_append, List.nil_append, List.cons_append, takeF, if_neg ho, if_pos hf, if_neg (by omega), takeF, if_neg ho, st_app, if_neg (by simp only [nxt_ne (show (st p).1 ≠ 1 - (st p).1 by omega)]; omega), ← e1, ih', e1]
        simp; omega
      · have e1 : stepS p b = p ++ [b] := by unfold stepS; rw [if_neg hf]
        rw [if_neg hf, List.singleton_append, List.cons_append, takeF, if_neg ho, if_neg hf, ← e1, ih', e1]
        simp; omega
theorem parts_law {es more : List Int} {k : Nat} (hb : Bit es) (hm : Bit more) (hl : es.length ≤ 2000) (hl2 : more.length ≤ 2000) (hk : k ≤ es.length) :
    takeV (stuffed es ++ more) k = (es.take k, ((stuffed (es.take k)).length : Int), 0) := by
  obtain ⟨i1, i2, i3⟩ := tl_bits es [] (by simp [st]) Bit.nil hb
  rw [← stuffed_tl] at i1 i2
  unfold takeV
  rw [if_pos (chk_zero.2 ⟨by rw [List.length_append]; omega, (i1.append hm).good⟩), if_pos ⟨by omega, by omega⟩, stuffed_tl, take_tl k more es [] [] (by simp [st]) Bit.nil hb (by simp) (by simpa using hk)]
  simp [stuffed_tl]
end Go.Proofs.Ytilffbgepliamaa.M
