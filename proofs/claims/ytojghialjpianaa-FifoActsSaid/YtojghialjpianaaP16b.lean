/- What a ring of frames holds behind pushes and pops. -/
import Derived.Test.YtojghialjpianaaP16
set_option linter.unusedVariables false
set_option linter.unusedSimpArgs false
namespace Go.Sep
open Go
theorem okmix {w0 : World} {D G : List Chunk} {L L1 : List Fs} (h : ∀ y ∈ L, FsOk w0 G y) (h1 : ∀ y ∈ L1, y ∈ L ∨ FsOk w0 D y) : ∀ y ∈ L1, FsOk w0 (D ++ G) y := fun y hy => (h1 y hy).elim (fun m => (h y m).app) (fun m => m.appr)
def goodL (l : List Fs) : List Fs := l.filter fun x => decide (chkF x.f = 0)
theorem goodL_snoc {ls : List Fs} {k : Nat} (hk : k < ls.length) : goodL (ls.take (k + 1)) = if chkF (ls.getD k default).f = 0 then goodL (ls.take k) ++ [ls.getD k default] else goodL (ls.take k) := by
  unfold goodL
  rw [fs_take hk, List.filter_append]
  by_cases h : chkF (ls.getD k default).f = 0
  · rw [if_pos h]; simp only [List.filter_cons, List.filter_nil, decide_eq_true h, if_true]
  · rw [if_neg h]; simp only [List.filter_cons, List.filter_nil, decide_eq_false h, Bool.false_eq_true, if_false, List.append_nil]
theorem goodL_mem {ls : List Fs} {k : Nat} : ∀ x ∈ goodL (ls.take k), x ∈ ls ∧ chkF x.f = 0 := fun x hx => by
  have := List.mem_filter.1 hx
  exact ⟨List.mem_of_mem_take this.1, of_decide_eq_true this.2⟩
theorem goodL_len (ls : List Fs) (k : Nat) : (goodL (ls.take k)).length ≤ ls.length := by
  refine Nat.le_trans (List.length_filter_le _ _) ?_
  rw [List.length_take]; omega
structure OrdI (room : Nat) (ls : List Fs) (k : Nat) (gs L : List Fs) (over : Nat) : Prop where
  gd : gs = goodL (ls.take k)
  fr : frs L = (frs gs).take room
  ov : over = gs.length - room
theorem OrdI.start (room : Nat) (ls : List Fs) : OrdI room ls 0 [] [] 0 := ⟨rfl, by simp [frs], by simp⟩
theorem OrdI.len {room k over : Nat} {ls gs L : List Fs} (h : OrdI room ls k gs L over) : L.length = min room gs.length := by
  have := congrArg List.length h.fr
  rw [frs_len, List.length_take, frs_len] at this
  exact this
theorem OrdI.good {room k over n o1 : Nat} {ls gs L L1 : List Fs} (h : OrdI room ls k gs L over) (hk : k < ls.length) (hc : chkF (ls.getD k default).f = 0) (hf : frs L1 = pushL room (frs L) (ls.getD k default).f) (ho : o1 = pushO room n over (ls.getD k default).f) (hn : n = L.length) : OrdI room ls (k + 1) (gs ++ [ls.getD k default]) L1 o1 := by
  have hl := h.len
  have hov := h.ov
  refine ⟨by rw [goodL_snoc hk, if_pos hc, ← h.gd], ?_, ?_⟩
  · rw [hf]
    have e : frs (gs ++ [ls.getD k default]) = frs gs ++ [(ls.getD k default).f] := by simp [frs]
    rw [e]
    rcases pushL_or room (frs L) (ls.getD k default).f with ⟨_, h2, h3⟩ | ⟨h2, h3⟩
    · rw [frs_len] at h2
      rw [h3, h.fr, List.take_of_length_le (by rw [frs_len]; omega), List.take_of_length_le (by rw [List.length_append, frs_len, List.length_singleton]; omega)]
    · rw [frs_len] at h2
      rw [h3, h.fr, List.take_append_of_le_length (by rw [frs_len]; omega)]
  · rw [ho, List.length_append, List.length_singleton]
    rcases pushO_or room n over (ls.getD k default).f with h2 | h2 <;> omega
theorem OrdI.bad {room k over n o1 : Nat} {ls gs L L1 : List Fs} (h : OrdI room ls k gs L over) (hk : k < ls.length) (hc : ¬ chkF (ls.getD k default).f = 0) (hf : frs L1 = pushL room (frs L) (ls.getD k default).f) (ho : o1 = pushO room n over (ls.getD k default).f) : OrdI room ls (k + 1) gs L1 o1 := by
  refine ⟨by rw [goodL_snoc hk, if_neg hc, ← h.gd], ?_, ?_⟩
  · rw [hf, pushL, if_neg (by omega), h.fr]
  · rw [ho, pushO, if_neg (by omega), h.ov]
theorem ord_head {room k n : Nat} {gs L : List Fs} (h : frs L = ((frs gs).take room).drop k) (hk : k < n) (hn : n = min room gs.length) : (L.getD 0 default).f = ((gs.take n).getD k default).f ∧ 0 < L.length := by
  have hl := congrArg List.length h
  rw [frs_len, List.length_drop, List.length_take, frs_len] at hl
  refine ⟨?_, by omega⟩
  rw [frs_get L 0 (by omega), frs_get (gs.take n) k (by rw [List.length_take]; omega), h]
  simp only [frs, List.getD_eq_getElem?_getD, List.getElem?_drop, List.getElem?_take, List.map_take, Nat.add_zero]
  rw [if_pos (by omega), if_pos (by omega)]
theorem ord_tail {room k : Nat} {gs L : List Fs} (h : frs L = ((frs gs).take room).drop k) : frs L.tail = ((frs gs).take room).drop (k + 1) := by
  rw [frs_tail, h, List.tail_drop]
theorem ord_end {room n : Nat} {gs L : List Fs} (h : frs L = ((frs gs).take room).drop n) (hn : n = min room gs.length) : L = [] := by
  refine frs_nil ?_
  rw [h, List.drop_of_length_le (by rw [List.length_take, frs_len]; omega)]
theorem tail_ok {P : Fs → Prop} {L : List Fs} (h : ∀ x ∈ L, P x) : ∀ x ∈ L.tail, P x := fun x hx => h x (List.mem_of_mem_tail hx)
theorem Rd.preF {w0 : World} {H : List Chunk} {a : Option Addr} {m c : Nat} {gs : List Fs} (k : Nat) (h : Rd w0 H a m c 11 (gs.flatMap FsC)) (hk : k ≤ m) : Rd w0 H (subA a 0 c 11) (k - 0) (c - 0) 11 ((gs.take k).flatMap FsC) := by
  have h2 := Rd.sub h (l := 0) (h := k) (Nat.zero_le _) hk
  rw [Nat.zero_mul, List.drop_zero, Nat.sub_zero, flat_take (enc := FsC) (sz := 11) (fun _ => rfl)] at h2
  rw [Nat.sub_zero]
  exact h2
theorem pushI_or (room q : Nat) (f : Frm) : (pushI room q f = true ∧ chkF f = 0 ∧ q < room) ∨ (pushI room q f = false ∧ (chkF f ≠ 0 ∨ room ≤ q)) := by
  unfold pushI
  by_cases h : chkF f = 0 ∧ q < room
  · exact .inl ⟨decide_eq_true h, h⟩
  · exact .inr ⟨decide_eq_false h, by omega⟩
theorem al_ok {w0 : World} {G : List Chunk} {L al : List Fs} (hLo : ∀ y ∈ L, FsOk w0 G y) (haf : frs al = frs L) (han : ∀ x ∈ al, x.n = x.f.data.length) (hs : ∃ w, Sat w0 w (rowsOf al)) : ∀ x ∈ al, FsOk w0 (rowsOf al) x := by
  have key : ∀ x ∈ al, ∃ y ∈ L, y.f = x.f := fun x hx => by
    have h : x.f ∈ frs al := List.mem_map_of_mem hx
    rw [haf] at h
    obtain ⟨y, hy, e⟩ := List.mem_map.1 h
    exact ⟨y, hy, e⟩
  refine rows_ok hs han (fun x hx => ?_) (fun x hx => ?_)
  · obtain ⟨y, hy, e⟩ := key x hx
    have h := hLo y hy
    rw [← e, ← h.len]; exact h.max
  · obtain ⟨y, hy, e⟩ := key x hx
    rw [← e]; exact (hLo y hy).ok
theorem push_bd {room : Nat} {l l1 : List Frm} {f : Frm} (h : l1 = pushL room l f) (hc : ¬ chkF f = 0) : l1 = l := by rw [h, pushL, if_neg (by omega)]
theorem push_gd {room : Nat} {l l1 : List Frm} {f : Frm} (h : l1 = pushL room l f) (hc : chkF f = 0) (hl : l.length < room) : l1 = l ++ [f] := by rw [h, pushL, if_pos ⟨hc, hl⟩]
theorem frs_app (a b : List Fs) : frs (a ++ b) = frs a ++ frs b := by simp [frs]
theorem frs_cons {L : List Fs} (h : 0 < L.length) : frs L = (L.getD 0 default).f :: frs L.tail := by
  cases L with
  | nil => simp at h
  | cons a l => rfl
end Go.Sep
