/- Stuff bits: what is computed, in plain lists. -/
import Derived.Test.YtilffbgepliamaaS10
set_option linter.unusedVariables false
set_option linter.unusedSimpArgs false
namespace Go.Proofs.Ytilffbgepliamaa.M
open Go Go.Sep Go.Proofs

def nxt (last run b : Int) : Int := if 0 < run ∧ last = b then run + 1 else 1
/-- How a row of raw bits ends: the last bit, and how many alike. -/
def st (p : List Int) : Int × Int := p.foldl (fun s b => (b, nxt s.1 s.2 b)) (0, 0)
theorem st_app (p : List Int) (b : Int) : st (p ++ [b]) = (b, nxt (st p).1 (st p).2 b) := by simp [st]
theorem st_nil : st [] = (0, 0) := rfl
theorem app_ind {P : List Int → Prop} (h0 : P []) (h : ∀ p b, P p → P (p ++ [b])) : ∀ p, P p := by
  intro p
  have : ∀ q : List Int, P q.reverse := by
    intro q
    induction q with
    | nil => exact h0
    | cons b q ih => rw [List.reverse_cons]; exact h _ b ih
  have h2 := this p.reverse
  rwa [List.reverse_reverse] at h2
theorem st_range : ∀ p : List Int, 0 ≤ (st p).2 ∧ (st p).2 ≤ p.length := by
  refine app_ind (by simp [st]) (fun p b ih => ?_)
  rw [st_app]
  simp only [nxt, List.length_append, List.length_singleton]
  split <;> omega
theorem st_pos (p : List Int) (h : p ≠ []) : 1 ≤ (st p).2 := by
  obtain ⟨q, b, rfl⟩ : ∃ q b, p = q ++ [b] := ⟨p.dropLast, p.getLast h, (List.dropLast_concat_getLast h).symm⟩
  rw [st_app]
  have := (st_range q).1
  simp only [nxt]
  split <;> omega
theorem st_bit (p : List Int) (h : Bit p) : 0 ≤ (st p).1 ∧ (st p).1 ≤ 1 := by
  by_cases hp : p = []
  · subst hp; simp [st]
  · obtain ⟨q, b, rfl⟩ : ∃ q b, p = q ++ [b] := ⟨p.dropLast, p.getLast hp, (List.dropLast_concat_getLast hp).symm⟩
    rw [st_app]
    exact bit_iff.1 h b (by simp)
theorem st_last (p : List Int) (h : 0 < p.length) : (st p).1 = p.getD (p.length - 1) 0 := by
  have hp : p ≠ [] := List.length_pos_iff.1 h
  obtain ⟨q, b, rfl⟩ : ∃ q b, p = q ++ [b] := ⟨p.dropLast, p.getLast hp, (List.dropLast_concat_getLast hp).symm⟩
  rw [st_app]; simp
/-- The last five are alike. -/
def full5 (p : List Int) : Bool := decide (5 ≤ p.length ∧ p.getD (p.length - 1) 0 = p.getD (p.length - 2) 0 ∧ p.getD (p.length - 1) 0 = p.getD (p.length - 3) 0 ∧ p.getD (p.length - 1) 0 = p.getD (p.length - 4) 0 ∧ p.getD (p.length - 1) 0 = p.getD (p.length - 5) 0)
theorem full5_st (p : List Int) : full5 p = decide (5 ≤ (st p).2) := by
  unfold full5
  by_cases h : 5 ≤ p.length
  · obtain ⟨q, e, d, c, b, a, rfl⟩ : ∃ q e d c b a, p = q ++ [e] ++ [d] ++ [c] ++ [b] ++ [a] := by
      have key : ∀ p : List Int, 0 < p.length → ∃ q b, p = q ++ [b] := fun p hp => ⟨p.dropLast, p.getLast (List.length_pos_iff.1 hp), (List.dropLast_concat_getLast (List.length_pos_iff.1 hp)).symm⟩
      obtain ⟨p1, a, rfl⟩ := key p (by omega)
      simp only [List.length_append, List.length_singleton] at h
      obtain ⟨p2, b, rfl⟩ := key p1 (by omega)
      simp only [List.length_append, List.length_singleton] at h
      obtain ⟨p3, c, rfl⟩ := key p2 (by omega)
      simp only [List.length_append, List.length_singleton] at h
      obtain ⟨p4, d, rfl⟩ := key p3 (by omega)
      simp only [List.length_append, List.length_singleton] at h
      obtain ⟨p5, e, rfl⟩ := key p4 (by omega)
      exact ⟨p5, e, d, c, b, a, rfl⟩
    have hr := (st_range q).1
    rw [st_app, st_app, st_app, st_app, st_app]
    have hl : (q ++ [e] ++ [d] ++ [c] ++ [b] ++ [a]).length = q.length + 5 := by simp
    have g : ∀ i, (q ++ [e] ++ [d] ++ [c] ++ [b] ++ [a]).getD (q.length + i) 0 = [e, d, c, b, a].getD i 0 := by
      intro i
      simp only [List.append_assoc, List.getD_eq_getElem?_getD]
      rw [List.getElem?_append_right (by omega)]
      simp
    rw [hl, show q.length + 5 - 1 = q.length + 4 by omega, show q.length + 5 - 2 = q.length + 3 by omega, show q.length + 5 - 3 = q.length + 2 by omega, show q.length + 5 - 4 = q.length + 1 by omega, show q.length + 5 - 5 = q.length + 0 by omega, g, g, g, g, g]
    simp only [List.getD_cons_succ, List.getD_cons_zero, nxt]
    congr 1
    apply propext
    generalize (st q).2 = r at hr ⊢
    generalize (st q).1 = l
    constructor
    · rintro ⟨_, rfl, rfl, rfl, rfl⟩
      split <;> simp <;> omega
    · intro h
      refine ⟨by omega, ?_⟩
      grind
  · have := (st_range p).2
    rw [decide_eq_false (by omega), decide_eq_false (by omega)]
/-- One bit more, ahead of it a stuff bit where one is due. -/
def stepS (o : List Int) (b : Int) : List Int := (if 5 ≤ (st o).2 then o ++ [1 - (st o).1] else o) ++ [b]
def stuffed (es : List Int) : List Int := es.foldl stepS []
/-- What Put's loop knows. -/
structure SI (es : List Int) (k : Nat) (o : List Int) : Prop where
  kn : k ≤ es.length
  all : (es.drop k).foldl stepS o = stuffed es
  len : o.length ≤ 2 * k
  r5 : (st o).2 ≤ 5
  bits : Bit o
theorem SI.start {es : List Int} : SI es 0 [] := ⟨Nat.zero_le _, rfl, Nat.le_refl _, by simp [st], Bit.nil⟩
theorem nxt_le {last run b : Int} (h : run ≤ 4) : nxt last run b ≤ 5 := by unfold nxt; split <;> omega
theorem nxt_ne {last run b : Int} (h : last ≠ b) : nxt last run b = 1 := if_neg fun g => h g.2
theorem st2 (o : List Int) (z b : Int) : st (o ++ [z] ++ [b]) = (b, nxt z (nxt (st o).1 (st o).2 z) b) := by rw [st_app, st_app]
theorem SI.stuff {es o : List Int} {k : Nat} (h : SI es k o) (hk : k < es.length) (hb : 0 ≤ es.getD k 0 ∧ es.getD k 0 ≤ 1) (hd : (st o).2 = 5) : SI es (k + 1) (o ++ [1 - (st o).1] ++ [es.getD k 0]) := by
  have hl := st_bit o h.bits
  refine ⟨hk, ?_, by have := h.len; simp; omega, ?_, (h.bits.append (Bit.mk (by omega) (by omega) Bit.nil)).append (Bit.mk hb.1 hb.2 Bit.nil)⟩
  · rw [← h.all, drop_cons hk, List.foldl_cons]
    congr 1
    unfold stepS; rw [if_pos (by omega)]
  · rw [st2, nxt_ne (show (st o).1 ≠ 1 - (st o).1 by omega)]; exact nxt_le (by omega)
theorem SI.see {es o : List Int} {k : Nat} (h : SI es k o) (hk : k < es.length) (hb : 0 ≤ es.getD k 0 ∧ es.getD k 0 ≤ 1) (hd : ¬ (st o).2 = 5) : SI es (k + 1) (o ++ [es.getD k 0]) := by
  have h5 := h.r5
  refine ⟨hk, ?_, by have := h.len; simp; omega, ?_, h.bits.append (Bit.mk hb.1 hb.2 Bit.nil)⟩
  · rw [← h.all, drop_cons hk, List.foldl_cons]
    congr 1
    unfold stepS; rw [if_neg (by omega)]
  · rw [st_app]; exact nxt_le (by omega)
theorem SI.done {es o : List Int} {k : Nat} (h : SI es k o) (hk : k = es.length) : o = stuffed es := by
  have := h.all
  rwa [hk, List.drop_length] at this
def putV (es : List Int) : List Int × Int := if chk es = 0 then (if (stuffed es).length ≤ 65536 then (stuffed es, 0) else ([], 2)) else ([], 2)

/-- Going through raw bits: what they tell, how many stuff bits, whether the last one was one. -/
def getF : List Int → List Int × Int × Bool → List Int → Option (List Int × Int × Bool)
  | _, r, [] => some r
  | p, r, b :: l => if 5 ≤ (st p).2 then (if b = (st p).1 then none else getF (p ++ [b]) (r.1, r.2.1 + 1, true) l) else getF (p ++ [b]) (r.1 ++ [b], r.2.1, false) l
/-- What the loops over raw bits know. -/
structure UI (es : List Int) (k : Nat) (o : List Int) (n : Int) (d : Bool) : Prop where
  kn : k ≤ es.length
  all : getF (es.take k) (o, n, d) (es.drop k) = getF [] ([], 0, false) es
  len : o.length ≤ k
  n0 : 0 ≤ n
  nk : n ≤ k
  r5 : (st (es.take k)).2 ≤ 5
theorem UI.start {es : List Int} : UI es 0 [] 0 false := ⟨Nat.zero_le _, rfl, Nat.le_refl _, by omega, by omega, by simp [st]⟩
theorem getF_step {es : List Int} {k : Nat} {r : List Int × Int × Bool} (hk : k < es.length) : getF (es.take k) r (es.drop k) = if 5 ≤ (st (es.take k)).2 then (if es.getD k 0 = (st (es.take k)).1 then none else getF (es.take (k + 1)) (r.1, r.2.1 + 1, true) (es.drop (k + 1))) else getF (es.take (k + 1)) (r.1 ++ [es.getD k 0], r.2.1, false) (es.drop (k + 1)) := by
  rw [drop_cons hk, getF, take_succ hk]
theorem UI.stuff {es o : List Int} {k : Nat} {n : Int} {d : Bool} (h : UI es k o n d) (hk : k < es.length) (hd : (st (es.take k)).2 = 5) (hb : ¬ es.getD k 0 = (st (es.take k)).1) : UI es (k + 1) o (n + 1) true := by
  have h1 := h.len
  have h2 := h.n0
  have h3 := h.nk
  refine ⟨hk, ?_, by omega, by omega, by omega, ?_⟩
  · rw [← h.all, getF_step hk, if_pos (by omega), if_neg hb]
  · rw [take_succ hk, st_app, nxt_ne (fun e => hb e.symm)]; simp
theorem UI.see {es o : List Int} {k : Nat} {n : Int} {d : Bool} (h : UI es k o n d) (hk : k < es.length) (hd : ¬ (st (es.take k)).2 = 5) : UI es (k + 1) (o ++ [es.getD k 0]) n false := by
  have h1 := h.len
  have h2 := h.n0
  have h3 := h.nk
  have h5 := h.r5
  refine ⟨hk, ?_, by simp; omega, by omega, by omega, ?_⟩
  · rw [← h.all, getF_step hk, if_neg (by omega)]
  · rw [take_succ hk, st_app]; exact nxt_le (by omega)
theorem UI.bad {es o : List Int} {k : Nat} {n : Int} {d : Bool} (h : UI es k o n d) (hk : k < es.length) (hd : (st (es.take k)).2 = 5) (hb : es.getD k 0 = (st (es.take k)).1) : getF [] ([], 0, false) es = none := by
  rw [← h.all, getF_step hk, if_pos (by omega), if_pos hb]
theorem UI.done {es o : List Int} {k : Nat} {n : Int} {d : Bool} (h : UI es k o n d) (hk : k = es.length) : getF [] ([], 0, false) es = some (o, n, d) := by
  rw [← h.all, hk, List.drop_length]; rfl
def getV (es : List Int) : List Int × Int := if chk es = 0 then (match getF [] ([], 0, false) es with | none => ([], 4) | some (_, _, true) => ([], 7) | some (o, _, false) => (o, 0)) else ([], 2)
def cntV (es : List Int) : Int × Int := if chk es = 0 then (match getF [] ([], 0, false) es with | none => (0, 4) | some (_, n, _) => (n, 0)) else (0, 2)
theorem nxt_bd {last run b : Int} (h0 : 0 ≤ run) (h5 : run ≤ 5) : 1 ≤ nxt last run b ∧ nxt last run b ≤ 6 := by unfold nxt; split <;> omega
theorem putV_le (es : List Int) : (putV es).1.length ≤ 65536 := by
  unfold putV
  split
  · split
    · assumption
    · simp
  · simp
theorem getF_len : ∀ (l p : List Int) (r o : List Int × Int × Bool), getF p r l = some o → o.1.length ≤ r.1.length + l.length
  | [], p, r, o, h => by cases h; simp
  | b :: l, p, r, o, h => by
    unfold getF at h
    split at h
    · split at h
      · cases h
      · have := getF_len l _ _ o h; simp at this ⊢; omega
    · have := getF_len l _ _ o h; simp at this ⊢; omega
theorem getV_le (es : List Int) : (getV es).1.length ≤ 65536 := by
  unfold getV
  split
  · rename_i h
    have := (chk_zero.1 h).1
    split
    · simp
    · simp
    · rename_i o _ g
      have := getF_len _ _ _ _ g
      simp at this ⊢; omega
  · simp
theorem putA : putV [1, 1, 1, 1, 1, 1] = ([1, 1, 1, 1, 1, 0, 1], 0) := by decide
theorem getA : getV [1, 1, 1, 1, 1, 1] = ([], 4) := by decide
end Go.Proofs.Ytilffbgepliamaa.M
