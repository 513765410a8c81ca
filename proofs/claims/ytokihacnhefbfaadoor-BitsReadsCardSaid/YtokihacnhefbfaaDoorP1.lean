/- Runs at a row's end. -/
import Derived.Test.YtokihacnhefbfaaDoorS10
set_option linter.unusedVariables false
set_option linter.unusedSimpArgs false
namespace Go.Sep
open Go
def lastI (es : List Int) : Int := es.getD (es.length - 1) 0
def runV (es : List Int) : Int := ((es.reverse.takeWhile (· == lastI es)).length : Nat)
def RunI (es : List Int) (k : Nat) : Prop := k ≤ es.length ∧ ∀ i, i < k → es.getD (es.length - 1 - i) 0 = lastI es
theorem lastI_get {es : List Int} {n : Nat} (hn : n = es.length) (h : 0 < n) : es.getD ((n : Int) - 1).toNat 0 = lastI es := by
  have : ((n : Int) - 1).toNat = es.length - 1 := by omega
  rw [this]; rfl
theorem tw_len {p : Int → Bool} : ∀ (l : List Int) (k : Nat), k ≤ l.length → (∀ i, i < k → p (l.getD i 0) = true) → (k = l.length ∨ p (l.getD k 0) = false) → (l.takeWhile p).length = k
  | [], k, h, _, _ => by simp at h; simp [h]
  | x :: l, 0, _, _, h3 => by
    rcases h3 with h3 | h3
    · simp at h3
    · simp at h3; simp [h3]
  | x :: l, k + 1, h1, h2, h3 => by
    have hx : p x = true := by simpa using h2 0 (by omega)
    rw [List.takeWhile_cons, hx]
    simp only [if_true, List.length_cons]
    rw [tw_len l k (by simpa using h1) (fun i hi => by simpa using h2 (i + 1) (by omega)) (by simpa using h3)]
theorem rev_get {es : List Int} {i : Nat} (h : i < es.length) : es.reverse.getD i 0 = es.getD (es.length - 1 - i) 0 := by
  simp only [List.getD_eq_getElem?_getD]
  rw [List.getElem?_reverse h]
theorem RunI.start {es : List Int} : RunI es 0 := ⟨Nat.zero_le _, fun i h => absurd h (Nat.not_lt_zero _)⟩
theorem RunI.step' {es : List Int} {k : Nat} (h : RunI es k) (hk : k < es.length) (e : es.getD (es.length - 1 - k) 0 = lastI es) : RunI es (k + 1) := ⟨hk, fun i hi => by
  rcases Nat.lt_or_ge i k with h' | h'
  · exact h.2 i h'
  · obtain rfl : i = k := by omega
    exact e⟩
theorem RunI.run {es : List Int} {k : Nat} (h : RunI es k) (h3 : k = es.length ∨ ¬ es.getD (es.length - 1 - k) 0 = lastI es) : runV es = k := by
  unfold runV
  rw [tw_len es.reverse k (by simpa using h.1) (fun i hi => by rw [rev_get (by have := h.1; omega)]; simpa using h.2 i hi) ?_]
  rcases h3 with h3 | h3
  · exact .inl (by simpa using h3)
  · rcases Nat.lt_or_ge k es.length with hk | hk
    · exact .inr (by rw [rev_get hk]; simpa using h3)
    · have := h.1; exact .inl (by simp; omega)
theorem RunI.step {es : List Int} {n k : Nat} (h : RunI es k) (hk : k < n ∧ n = es.length) (e : es.getD ((n : Int) - 1 - k).toNat 0 = lastI es) : RunI es (k + 1) := by
  refine h.step' (by omega) ?_
  rwa [show ((n : Int) - 1 - k).toNat = es.length - 1 - k by omega] at e
theorem RunI.stop {es : List Int} {n k : Nat} (h : RunI es k) (hk : k < n ∧ n = es.length) (e : ¬ es.getD ((n : Int) - 1 - k).toNat 0 = lastI es) : (k : Int) = runV es := by
  refine (h.run (.inr ?_)).symm
  rwa [show ((n : Int) - 1 - k).toNat = es.length - 1 - k by omega] at e
theorem RunI.end {es : List Int} {k : Nat} (h : RunI es k) (hk : k = es.length) : (k : Int) = runV es := (h.run (.inl hk)).symm
theorem runV_nil {es : List Int} (h : es.length = 0) : runV es = 0 := by
  rw [List.eq_nil_of_length_eq_zero h]; rfl
theorem lastI_snoc (p : List Int) (b : Int) : lastI (p ++ [b]) = b := by unfold lastI; simp [List.getD_eq_getElem?_getD]
theorem runV_snoc (p : List Int) (b : Int) : runV (p ++ [b]) = if 0 < p.length ∧ lastI p = b then runV p + 1 else 1 := by
  have e : runV (p ++ [b]) = ((b :: p.reverse).takeWhile (· == b)).length := by
    unfold runV; rw [lastI_snoc, List.reverse_append]; rfl
  rw [e, List.takeWhile_cons]
  simp only [beq_self_eq_true, if_true, List.length_cons]
  split
  · rename_i h
    obtain ⟨_, rfl⟩ := h
    unfold runV; simp
  · rename_i h
    have : (p.reverse.takeWhile (· == b)) = [] := by
      cases hr : p.reverse with
      | nil => rfl
      | cons x l =>
        have hp : p = l.reverse ++ [x] := by rw [← List.reverse_reverse p, hr]; simp
        have hx : lastI p = x := by rw [hp, lastI_snoc]
        have hl : 0 < p.length := by rw [hp]; simp
        rw [List.takeWhile_cons, if_neg]
        intro he
        exact h ⟨hl, by rw [hx]; simpa using he⟩
    rw [this]; rfl
theorem runV_range (es : List Int) : 0 ≤ runV es ∧ runV es ≤ es.length := by
  unfold runV
  have : (es.reverse.takeWhile (· == lastI es)).length ≤ es.reverse.length := (List.takeWhile_sublist _).length_le
  rw [List.length_reverse] at this
  omega
theorem runV_RunI (es : List Int) : RunI es (runV es).toNat ∧ ((runV es).toNat = es.length ∨ ¬ es.getD (es.length - 1 - (runV es).toNat) 0 = lastI es) := by
  have key : ∀ d k, es.length - k = d → RunI es k → ∃ k', RunI es k' ∧ (k' = es.length ∨ ¬ es.getD (es.length - 1 - k') 0 = lastI es) := by
    intro d
    induction d with
    | zero => exact fun k hd h => ⟨k, h, .inl (by have := h.1; omega)⟩
    | succ d ih =>
      intro k hd h
      by_cases e : es.getD (es.length - 1 - k) 0 = lastI es
      · exact ih (k + 1) (by omega) (h.step' (by omega) e)
      · exact ⟨k, h, .inr e⟩
  obtain ⟨k, h1, h2⟩ := key _ 0 rfl RunI.start
  have := h1.run h2
  rw [this]
  exact ⟨h1, h2⟩
theorem runV_pos {es : List Int} (h : 0 < es.length) : 1 ≤ runV es := by
  rcases List.eq_nil_or_concat es with rfl | ⟨p, b, rfl⟩
  · simp at h
  · rw [List.concat_eq_append, runV_snoc]; have := (runV_range p).1; split <;> omega
end Go.Sep
