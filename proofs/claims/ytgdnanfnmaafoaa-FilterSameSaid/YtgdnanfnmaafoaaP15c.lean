/- The least bank lets in the same. -/
import Derived.Test.YtgdnanfnmaafoaaP15b
set_option linter.unusedVariables false
set_option linter.unusedSimpArgs false
namespace Go.Sep
open Go
def valB (d : Bool) (o : Option Rul) : Bool := match o with | some q => q.inn | none => d
theorem fits_kR (q : Rul) (f : Frm) : fitsR (kR q) f = fitsR q f := rfl
theorem dd_find {p : Rul → Bool} (hp : ∀ q, p (kR q) = p q) (rs : List Rul) : ∀ k, k ≤ rs.length → (ddK rs k).find? p = (rs.take k).find? p
  | 0, _ => by simp [ddK]
  | k + 1, hk => by
    have ih := dd_find hp rs k (by omega)
    rw [take_snoc (by omega), List.find?_append]
    by_cases hm : kR (rs.getD k default) ∈ (rs.take k).map kR
    · rw [ddK_old hm, ih]
      cases hf : (rs.take k).find? p with
      | some x => rfl
      | none =>
        obtain ⟨q', hq', e⟩ := List.mem_map.1 hm
        have h1 := List.find?_eq_none.1 hf q' hq'
        have h2 : p (rs.getD k default) = p q' := by rw [← hp, ← e, hp]
        have h3 : p (rs.getD k default) = false := by rw [h2]; simpa using h1
        rw [List.find?_cons, h3]
        rfl
    · rw [ddK_new hm, List.find?_append, ih]
theorem trim_find {p : Rul → Bool} (L : List Rul) (d : Bool) : ∀ m, m ≤ L.length → valB d ((L.take (trimN L d m)).find? p) = valB d ((L.take m).find? p)
  | 0, _ => rfl
  | m + 1, hm => by
    unfold trimN
    split
    · rename_i h
      rw [trim_find L d m (by omega), take_snoc (by omega), List.find?_append]
      cases (L.take m).find? p with
      | some x => rfl
      | none =>
        rw [List.find?_cons]
        cases p (L.getD m default) with
        | true => exact h.symm
        | false => rfl
    · rfl
theorem least_find {p : Rul → Bool} (hp : ∀ q, p (kR q) = p q) (rs : List Rul) (d : Bool) : valB d ((leastS rs d).find? p) = valB d (rs.find? p) := by
  unfold leastS
  rw [trim_find _ _ _ (Nat.le_refl _), List.take_length, dd_find hp rs rs.length (Nat.le_refl _), List.take_length]
end Go.Sep
namespace Go.Sep
open Go
theorem in_find {rs : List Rul} {d : Bool} {f : Frm} (h1 : chkB rs = 0) (h2 : chkF f = 0) : inB rs d f = (valB d (rs.find? fun q => fitsR q f), 0) := by
  cases hf : rs.findIdx? (fun q => fitsR q f) with
  | none =>
    have hn : rs.find? (fun q => fitsR q f) = none := by
      rw [List.find?_eq_none]
      intro x hx
      have := List.findIdx?_eq_none_iff.1 hf x hx
      simp [this]
    have e : findB rs f = (0, 9) := by rw [find_ok h1 h2]; unfold firstP; rw [hf]
    rw [in_none (by rw [e]), hn]
    rfl
  | some i =>
    obtain ⟨hi, hp, hno⟩ := List.findIdx?_eq_some_iff_getElem.1 hf
    have hs : rs.find? (fun q => fitsR q f) = some rs[i] := by
      rw [List.find?_eq_some_iff_getElem]
      exact ⟨hp, i, hi, rfl, fun j hj => by simpa using hno j hj⟩
    have e : findB rs f = ((i : Int), 0) := by rw [find_ok h1 h2]; unfold firstP; rw [hf]
    have g : rs[i] = rs.getD i default := by rw [List.getD_eq_getElem?_getD, List.getElem?_eq_getElem hi]; rfl
    rw [in_hit (by rw [e]), hs, e, g]
    rfl
theorem dd_mem {rs : List Rul} : ∀ {k : Nat}, k ≤ rs.length → ∀ q ∈ ddK rs k, q ∈ rs.take k
  | 0, _, q, hq => by simp [ddK] at hq
  | k + 1, hk, q, hq => by
    rw [take_snoc (by omega)]
    unfold ddK at hq
    split at hq
    · exact List.mem_append.2 (.inl (dd_mem (by omega) q hq))
    · rcases List.mem_append.1 hq with hq | hq
      · exact List.mem_append.2 (.inl (dd_mem (by omega) q hq))
      · exact List.mem_append.2 (.inr hq)
theorem least_mem {rs : List Rul} {d : Bool} {q : Rul} (h : q ∈ leastS rs d) : q ∈ rs := by
  have := dd_mem (Nat.le_refl _) q (List.mem_of_mem_take h)
  rwa [List.take_length] at this
theorem least_chk {rs : List Rul} {d : Bool} (h : chkB rs = 0) : chkB (leastS rs d) = 0 := by
  have hl := chkB_le h
  have hl2 : (leastS rs d).length ≤ rs.length := by
    have := ddK_len rs rs.length
    unfold leastS
    rw [List.length_take]
    omega
  refine chkB_ok (by omega) ?_
  unfold badB
  rw [List.any_eq_false]
  intro q hq
  have hb : badB rs = false := by
    unfold chkB at h
    split at h
    · cases h
    · rename_i g; cases e : badB rs <;> simp_all
  have := List.any_eq_false.1 hb q (least_mem hq)
  simpa using this
theorem dd_nodup (rs : List Rul) : ∀ k, k ≤ rs.length → ((ddK rs k).map kR).Nodup
  | 0, _ => by simp [ddK]
  | k + 1, hk => by
    have ih := dd_nodup rs k (by omega)
    unfold ddK
    split
    · exact ih
    · rename_i h
      rw [List.map_append, List.nodup_append]
      refine ⟨ih, by simp, ?_⟩
      intro a ha b hb e
      subst e
      obtain ⟨q, hq, rfl⟩ := List.mem_map.1 ha
      have hb' : kR q = kR (rs.getD k default) := by simpa using hb
      exact h (by rw [← hb']; exact List.mem_map.2 ⟨q, dd_mem (by omega) q hq, rfl⟩)
theorem drop_dflt' {α : Type} [Inhabited α] {rs : List α} {k : Nat} (h : k < rs.length) : rs.drop k = rs.getD k default :: rs.drop (k + 1) := by
  rw [List.drop_eq_getElem_cons h, List.getD_eq_getElem?_getD, List.getElem?_eq_getElem h]
  rfl
theorem dd_id {L : List Rul} (h : (L.map kR).Nodup) : ∀ k, k ≤ L.length → ddK L k = L.take k
  | 0, _ => by simp [ddK]
  | k + 1, hk => by
    have ih := dd_id h k (by omega)
    rw [take_snoc (by omega), ddK_new ?_, ih]
    intro hm
    have e : (L.map kR) = (L.take k).map kR ++ (L.drop k).map kR := by rw [← List.map_append, List.take_append_drop]
    rw [e, List.nodup_append] at h
    refine h.2.2 _ hm _ ?_ rfl
    rw [drop_dflt' (by omega)]
    simp
end Go.Sep
namespace Go.Sep
open Go
theorem getD_take {α : Type} [Inhabited α] {L : List α} {i m : Nat} (h : i < m) : (L.take m).getD i default = L.getD i default := by
  rw [List.getD_eq_getElem?_getD, List.getD_eq_getElem?_getD, List.getElem?_take, if_pos h]
theorem trim_id (L : List Rul) (d : Bool) : ∀ m, trimN (L.take (trimN L d m)) d (trimN L d m) = trimN L d m
  | 0 => rfl
  | m + 1 => by
    have ih := trim_id L d m
    by_cases h : (L.getD m default).inn = d
    · rw [show trimN L d (m + 1) = trimN L d m from if_pos h]
      exact ih
    · rw [show trimN L d (m + 1) = m + 1 from if_neg h]
      refine trimN_stop (.inr ?_)
      rw [Nat.add_sub_cancel, getD_take (by omega)]
      exact h
theorem least_id (rs : List Rul) (d : Bool) : leastS (leastS rs d) d = leastS rs d := by
  have hn : ((leastS rs d).map kR).Nodup := by
    unfold leastS
    exact (dd_nodup rs rs.length (Nat.le_refl _)).sublist ((List.take_sublist _ _).map _)
  have hl : (leastS rs d).length = trimN (ddK rs rs.length) d (ddK rs rs.length).length := by
    unfold leastS
    rw [List.length_take]
    have := trimN_le (ddK rs rs.length) d (ddK rs rs.length).length
    omega
  show (ddK (leastS rs d) (leastS rs d).length).take (trimN (ddK (leastS rs d) (leastS rs d).length) d (ddK (leastS rs d) (leastS rs d).length).length) = leastS rs d
  rw [dd_id hn _ (Nat.le_refl _), List.take_length, hl]
  have e : trimN (leastS rs d) d (trimN (ddK rs rs.length) d (ddK rs rs.length).length) = trimN (ddK rs rs.length) d (ddK rs rs.length).length := trim_id _ d _
  rw [e, ← hl, List.take_length]
theorem least_in {rs : List Rul} {d : Bool} {f : Frm} (h1 : chkB rs = 0) (h2 : chkF f = 0) : inB (leastS rs d) d f = inB rs d f := by
  rw [in_find h1 h2, in_find (least_chk h1) h2, least_find (fun q => fits_kR q f)]
theorem leastV_ok {rs : List Rul} {d : Bool} (h : chkB rs = 0) : leastV rs d = (leastS rs d, d, 0) := if_pos h
theorem in_badF {rs : List Rul} {d : Bool} {f : Frm} (h : ¬ chkF f = 0) : inB rs d f = (false, 2) := by
  unfold inB
  rw [find_bad (.inr h)]
  rfl
theorem least_in' {rs : List Rul} {d : Bool} {f : Frm} (h1 : chkB rs = 0) : inB (leastS rs d) d f = inB rs d f := by
  by_cases h2 : chkF f = 0
  · exact least_in h1 h2
  · rw [in_badF h2, in_badF h2]
end Go.Sep
namespace Go.Sep
open Go
theorem least_zero {rs : List Rul} {d : Bool} (h : (leastV rs d).2.2 = 0) : chkB rs = 0 := by
  unfold leastV at h
  split at h
  · assumption
  · exact h
theorem same_in {rs : List Rul} {d : Bool} {f : Frm} (h : chkB rs = 0) : inB (leastV rs d).1 (leastV rs d).2.1 f = inB rs d f := by
  rw [leastV_ok h]; exact least_in' h
theorem same_id {rs : List Rul} {d : Bool} (h : chkB rs = 0) : leastV (leastV rs d).1 (leastV rs d).2.1 = ((leastV rs d).1, (leastV rs d).2.1, 0) := by
  rw [leastV_ok h]
  show leastV (leastS rs d) d = (leastS rs d, d, 0)
  rw [leastV_ok (least_chk h), least_id]
theorem same_chk {rs : List Rul} {d : Bool} (h : chkB rs = 0) : chkB (leastV rs d).1 = 0 := by
  rw [leastV_ok h]; exact least_chk h
end Go.Sep
