/- The order of a queue's entries. Plain laws. -/
import Derived.Test.YtjemdjjmpgjieaaP14
set_option linter.unusedVariables false
set_option linter.unusedSimpArgs false
namespace Go.Sep
open Go
theorem cmpE_lt {x y : En} : cmpE x y < 0 ↔ (x.key < y.key ∨ (x.key = y.key ∧ x.no < y.no)) := by
  unfold cmpE cmpI
  split <;> split <;> (try split) <;> omega
theorem ltE_iff {x y : En} : ltE x y = true ↔ (x.key < y.key ∨ (x.key = y.key ∧ x.no < y.no)) := by
  unfold ltE
  rw [decide_eq_true_iff, cmpE_lt]
theorem ltE_not {x y : En} : ltE x y = false ↔ (y.key < x.key ∨ (x.key = y.key ∧ y.no ≤ x.no)) := by
  rw [← Bool.not_eq_true, ltE_iff]; omega
/-- Sorted: who comes later is not ahead. -/
def SortedE (L : List En) : Prop := ∀ i j, i < j → j < L.length → ltE (gE L j) (gE L i) = false
/-- An item that is handed out. -/
structure It where
  no : Int
  fs : Fs
instance : Inhabited It := ⟨⟨0, default⟩⟩
def ItC (i : It) : List Value := .int .i64 i.no :: FsC i.fs
instance : RowE ItC 12 := ⟨fun _ => rfl, fun r u hu => by
  simp only [ItC, FsC, FC, List.mem_cons, List.mem_nil_iff, or_false] at hu
  rcases hu with rfl | rfl | rfl | rfl | rfl | rfl | rfl | rfl | rfl | rfl | rfl | rfl <;> rfl⟩
def itP (i : It) : Int × Frm := (i.no, i.fs.f)
def enP (e : En) : Int × Frm := (e.no, e.fs.f)
theorem take_en {n k : Nat} {M : List En} (hk : k < n) (hn : n = M.length) : (M.take (k + 1)) = M.take k ++ [gE M k] := by
  subst hn
  rw [List.take_succ_eq_append_getElem hk]
  unfold gE
  rw [List.getD_eq_getElem?_getD, List.getElem?_eq_getElem hk]; rfl
theorem gE_in {L : List En} {i : Nat} (h : i < L.length) : gE L i ∈ L := List.mem_of_getElem? (gE_get h)
end Go.Sep
namespace Go.Sep
open Go
def leE (x y : En) : Prop := ltE y x = false
theorem leE_iff {x y : En} : leE x y ↔ (x.key < y.key ∨ (x.key = y.key ∧ x.no ≤ y.no)) := by
  unfold leE; rw [ltE_not]; omega
theorem leE.trans {x y z : En} (h1 : leE x y) (h2 : leE y z) : leE x z := by
  rw [leE_iff] at *; omega
theorem leE.refl (x : En) : leE x x := by rw [leE_iff]; omega
theorem leE.of_lt {x y : En} (h : ltE x y = true) : leE x y := by rw [leE_iff]; rw [ltE_iff] at h; omega
theorem leE.of_not {x y : En} (h : ¬ ltE x y = true) : leE y x := by unfold leE; simpa using h
theorem swap_get {L : List En} {i j : Nat} (hi : i < L.length) (hj : j < L.length) (k : Nat) : gE (swapL L i j) k = if k = j then gE L i else if k = i then gE L j else gE L k := by
  have g : ∀ (M : List En) (q : Nat), gE M q = (M[q]?).getD default := fun M q => by unfold gE; exact List.getD_eq_getElem?_getD
  rw [g]
  unfold swapL
  by_cases h1 : k = j
  · subst h1
    rw [if_pos rfl, List.getElem?_set_self (by simpa using hj)]
    rfl
  · rw [if_neg h1, List.getElem?_set_ne (fun e => h1 e.symm)]
    by_cases h2 : k = i
    · subst h2
      rw [if_pos rfl, List.getElem?_set_self hi]
      rfl
    · rw [if_neg h2, List.getElem?_set_ne (fun e => h2 e.symm), g]
theorem swap_j {L : List En} {i j : Nat} (hi : i < L.length) (hj : j < L.length) : gE (swapL L i j) j = gE L i := by rw [swap_get hi hj, if_pos rfl]
theorem swap_i {L : List En} {i j : Nat} (hi : i < L.length) (hj : j < L.length) (hne : i ≠ j) : gE (swapL L i j) i = gE L j := by rw [swap_get hi hj, if_neg hne, if_pos rfl]
theorem swap_o {L : List En} {i j k : Nat} (hi : i < L.length) (hj : j < L.length) (h1 : k ≠ i) (h2 : k ≠ j) : gE (swapL L i j) k = gE L k := by rw [swap_get hi hj, if_neg h2, if_neg h1]
theorem swapL_perm {L : List En} {i j : Nat} (hi : i < L.length) (hj : j < L.length) : (swapL L i j).Perm L := by
  classical
  rw [List.perm_iff_count]
  intro a
  unfold swapL
  rw [List.count_set (by simpa using hj), List.count_set hi]
  have ei : gE L i = L[i] := by have := gE_get hi; rw [List.getElem?_eq_getElem hi] at this; exact (Option.some.inj this).symm
  have ej : gE L j = L[j] := by have := gE_get hj; rw [List.getElem?_eq_getElem hj] at this; exact (Option.some.inj this).symm
  rw [ei, ej]
  have ci : L[i] == a → 0 < L.count a := fun h => List.count_pos_iff.2 (by rw [← beq_iff_eq.1 h]; exact List.getElem_mem hi)
  have cj : L[j] == a → 0 < L.count a := fun h => List.count_pos_iff.2 (by rw [← beq_iff_eq.1 h]; exact List.getElem_mem hj)
  rw [List.getElem_set]
  by_cases hij : i = j
  · subst hij
    simp only [if_true]
    by_cases h : L[i] == a
    · have := ci h; simp only [h, if_true]; omega
    · simp only [h]; simp
  · rw [if_neg hij]
    by_cases h1 : L[i] == a <;> by_cases h2 : L[j] == a <;> simp only [h1, h2, if_true, Bool.false_eq_true, if_false]
    · have := ci h1; omega
    · have := ci h1; omega
    · omega
    · omega
/-- The first n make a heap. -/
def HeapN (L : List En) (n : Nat) : Prop := ∀ c, 0 < c → c < n → leE (gE L ((c - 1) / 2)) (gE L c)
def UpInv (L : List En) (j n : Nat) : Prop := (∀ c, 0 < c → c < n → c ≠ j → leE (gE L ((c - 1) / 2)) (gE L c)) ∧ (∀ c, 0 < c → c < n → (c - 1) / 2 = j → 0 < j → leE (gE L ((j - 1) / 2)) (gE L c))
theorem up_heap (n : Nat) : ∀ (j : Nat) (L : List En), n ≤ L.length → j < n → UpInv L j n → HeapN (upL L j) n := by
  intro j
  induction j using Nat.strongRecOn with
  | ind j ih =>
    intro L hn hj ⟨h1, h2⟩
    by_cases h0 : j = 0
    · subst h0
      rw [up_0]
      exact fun c hc hcn => h1 c hc hcn (by omega)
    · by_cases hl : ltE (gE L j) (gE L ((j - 1) / 2)) = true
      · rw [up_yes (by omega) hl]
        have hp : (j - 1) / 2 < L.length := by omega
        have hjl : j < L.length := by omega
        refine ih _ (by omega) _ (by rw [swapL_len]; exact hn) (by omega) ⟨fun c hc hcn hne => ?_, fun c hc hcn hpc h0p => ?_⟩
        · by_cases hcj : c = j
          · subst hcj
            rw [swap_i hp hjl (by omega), swap_j hp hjl]
            exact leE.of_lt hl
          · rw [swap_o hp hjl hne hcj]
            by_cases hpj : (c - 1) / 2 = j
            · rw [hpj, swap_j hp hjl]
              exact h2 c hc hcn hpj (by omega)
            · by_cases hpp : (c - 1) / 2 = (j - 1) / 2
              · rw [hpp, swap_i hp hjl (by omega)]
                have := h1 c hc hcn hcj
                rw [hpp] at this
                exact (leE.of_lt hl).trans this
              · rw [swap_o hp hjl hpp hpj]
                exact h1 c hc hcn hcj
        · rw [swap_o hp hjl (by omega) (by omega)]
          have hpp := h1 ((j - 1) / 2) h0p (by omega) (by omega)
          by_cases hcj : c = j
          · subst hcj
            rw [swap_j hp hjl]; exact hpp
          · rw [swap_o hp hjl (by omega) hcj]
            have := h1 c hc hcn hcj
            rw [hpc] at this
            exact hpp.trans this
      · rw [up_no hl]
        intro c hc hcn
        by_cases hcj : c = j
        · subst hcj; exact leE.of_not hl
        · exact h1 c hc hcn hcj
theorem up_perm (j : Nat) : ∀ L : List En, j < L.length → (upL L j).Perm L := by
  induction j using Nat.strongRecOn with
  | ind j ih =>
    intro L hj
    by_cases h0 : j = 0
    · subst h0; rw [up_0]
    · by_cases hl : ltE (gE L j) (gE L ((j - 1) / 2)) = true
      · rw [up_yes (by omega) hl]
        exact (ih _ (by omega) _ (by rw [swapL_len]; omega)).trans (swapL_perm (by omega) hj)
      · rw [up_no hl]
theorem up_out (j : Nat) : ∀ (L : List En) (k : Nat), j < L.length → j < k → gE (upL L j) k = gE L k := by
  induction j using Nat.strongRecOn with
  | ind j ih =>
    intro L k hj hk
    by_cases h0 : j = 0
    · subst h0; rw [up_0]
    · by_cases hl : ltE (gE L j) (gE L ((j - 1) / 2)) = true
      · rw [up_yes (by omega) hl, ih _ (by omega) _ _ (by rw [swapL_len]; omega) (by omega), swap_o (by omega) hj (by omega) (by omega)]
      · rw [up_no hl]
theorem kid_le {L : List En} {i n c : Nat} (hc : c < n) (h : (c - 1) / 2 = i) (h0 : 0 < c) : leE (gE L (kid L i n)) (gE L c) := by
  rcases (by omega : c = 2 * i + 1 ∨ c = 2 * i + 2) with rfl | rfl
  · by_cases h : 2 * i + 2 < n ∧ ltE (gE L (2 * i + 2)) (gE L (2 * i + 1)) = true
    · rw [kid_2 h.1 h.2]; exact leE.of_lt h.2
    · rw [kid_1 h]; exact leE.refl _
  · by_cases h : 2 * i + 2 < n ∧ ltE (gE L (2 * i + 2)) (gE L (2 * i + 1)) = true
    · rw [kid_2 h.1 h.2]; exact leE.refl _
    · rw [kid_1 h]; exact leE.of_not (fun h2 => h ⟨hc, h2⟩)
def DownInv (L : List En) (i n : Nat) : Prop := (∀ c, 0 < c → c < n → (c - 1) / 2 ≠ i → leE (gE L ((c - 1) / 2)) (gE L c)) ∧ (∀ c, 0 < c → c < n → (c - 1) / 2 = i → 0 < i → leE (gE L ((i - 1) / 2)) (gE L c))
theorem down_step {L : List En} {i n : Nat} (hn : n ≤ L.length) (hk : 2 * i + 1 < n) (hl : ltE (gE L (kid L i n)) (gE L i) = true)
    (h1 : ∀ c, 0 < c → c < n → (c - 1) / 2 ≠ i → c ≠ i → leE (gE L ((c - 1) / 2)) (gE L c)) (h2 : ∀ c, 0 < c → c < n → (c - 1) / 2 = i → 0 < i → leE (gE L ((i - 1) / 2)) (gE L c)) : DownInv (swapL L i (kid L i n)) (kid L i n) n := by
  have hor := kid_or L i n
  have hkle := fun c (a : c < n) (b : (c - 1) / 2 = i) (d : 0 < c) => kid_le (L := L) a b d
  generalize kid L i n = j at *
  have hi : i < L.length := by omega
  have hj : j < L.length := by omega
  refine ⟨fun c hc hcn hpc => ?_, fun c hc hcn hpc h0 => ?_⟩
  · by_cases hcj : c = j
    · subst hcj
      rw [swap_j hi hj, show (c - 1) / 2 = i by omega, swap_i hi hj (by omega)]
      exact leE.of_lt hl
    · by_cases hpi : (c - 1) / 2 = i
      · rw [hpi, swap_i hi hj (by omega), swap_o hi hj (by omega) hcj]
        exact hkle c hcn hpi hc
      · by_cases hci : c = i
        · subst hci
          rw [swap_i hi hj (by omega), swap_o hi hj (by omega) (by omega)]
          exact h2 j (by omega) (by omega) (by omega) hc
        · rw [swap_o hi hj hci hcj, swap_o hi hj hpi hpc]
          exact h1 c hc hcn hpi hci
  · rw [show (j - 1) / 2 = i by omega, swap_i hi hj (by omega), swap_o hi hj (by omega) (by omega)]
    have := h1 c hc hcn (by omega) (by omega)
    rwa [hpc] at this
theorem down_heap : ∀ (m : Nat) (L : List En) (i n : Nat), n - i ≤ m → n ≤ L.length → DownInv L i n → HeapN (downL L i n).1 n := by
  intro m
  induction m with
  | zero =>
    intro L i n h hn ⟨h1, _⟩
    rw [down_end (by omega)]
    exact fun c hc hcn => h1 c hc hcn (by omega)
  | succ m ih =>
    intro L i n h hn ⟨h1, h2⟩
    by_cases he : n ≤ 2 * i + 1
    · rw [down_end he]
      exact fun c hc hcn => h1 c hc hcn (by omega)
    · by_cases hl : ltE (gE L (kid L i n)) (gE L i) = true
      · have hor := kid_or L i n
        rw [down_yes (by omega) hl]
        exact ih _ _ _ (by omega) (by rw [swapL_len]; exact hn) (down_step hn (by omega) hl (fun c a b d _ => h1 c a b d) h2)
      · rw [down_no (by omega) hl]
        intro c hc hcn
        by_cases hpc : (c - 1) / 2 = i
        · rw [hpc]; exact (leE.of_not hl).trans (kid_le hcn hpc hc)
        · exact h1 c hc hcn hpc
theorem down_perm : ∀ (m : Nat) (L : List En) (i n : Nat), n - i ≤ m → n ≤ L.length → (downL L i n).1.Perm L := by
  intro m
  induction m with
  | zero => intro L i n h hn; rw [down_end (by omega)]
  | succ m ih =>
    intro L i n h hn
    by_cases he : n ≤ 2 * i + 1
    · rw [down_end he]
    · by_cases hl : ltE (gE L (kid L i n)) (gE L i) = true
      · have hor := kid_or L i n
        rw [down_yes (by omega) hl]
        exact (ih _ _ _ (by omega) (by rw [swapL_len]; exact hn)).trans (swapL_perm (by omega) (by omega))
      · rw [down_no (by omega) hl]
theorem down_out : ∀ (m : Nat) (L : List En) (i n k : Nat), n - i ≤ m → n ≤ L.length → n ≤ k → gE (downL L i n).1 k = gE L k := by
  intro m
  induction m with
  | zero => intro L i n k h hn hk; rw [down_end (by omega)]
  | succ m ih =>
    intro L i n k h hn hk
    by_cases he : n ≤ 2 * i + 1
    · rw [down_end he]
    · by_cases hl : ltE (gE L (kid L i n)) (gE L i) = true
      · have hor := kid_or L i n
        rw [down_yes (by omega) hl, ih _ _ _ _ (by omega) (by rw [swapL_len]; exact hn) hk, swap_o (by omega) (by omega) (by omega) (by omega)]
      · rw [down_no (by omega) hl]
theorem down_mono : ∀ (m : Nat) (L : List En) (i n : Nat), n - i ≤ m → i ≤ (downL L i n).2 := by
  intro m
  induction m with
  | zero => intro L i n h; rw [down_end (by omega)]; exact Nat.le_refl _
  | succ m ih =>
    intro L i n h
    by_cases he : n ≤ 2 * i + 1
    · rw [down_end he]; exact Nat.le_refl _
    · by_cases hl : ltE (gE L (kid L i n)) (gE L i) = true
      · have hor := kid_or L i n
        rw [down_yes (by omega) hl]
        exact Nat.le_trans (by omega) (ih _ _ _ (by omega))
      · rw [down_no (by omega) hl]; exact Nat.le_refl _
theorem root_le {L : List En} {n : Nat} (h : HeapN L n) : ∀ k, k < n → leE (gE L 0) (gE L k) := by
  intro k
  induction k using Nat.strongRecOn with
  | ind k ih =>
    intro hk
    by_cases h0 : k = 0
    · subst h0; exact leE.refl _
    · exact (ih ((k - 1) / 2) (by omega) (by omega)).trans (h k (by omega) hk)
theorem HeapN.le {L : List En} {n m : Nat} (h : HeapN L n) (hm : m ≤ n) : HeapN L m := fun c hc hcm => h c hc (by omega)
theorem gE_take {L : List En} {k m : Nat} (h : k < m) : gE (L.take m) k = gE L k := by
  unfold gE; rw [List.getD_eq_getElem?_getD, List.getElem?_take, if_pos h, ← List.getD_eq_getElem?_getD]
theorem HeapN.take {L : List En} {m : Nat} (h : HeapN L m) : HeapN (L.take m) m := fun c hc hcm => by
  rw [gE_take (by omega), gE_take hcm]; exact h c hc hcm
theorem gE_app {L : List En} {e : En} {k : Nat} (h : k < L.length) : gE (L ++ [e]) k = gE L k := by
  unfold gE; rw [List.getD_eq_getElem?_getD, List.getElem?_append_left h, ← List.getD_eq_getElem?_getD]
/-- One more. -/
theorem push_heap {L : List En} {e : En} (h : HeapN L L.length) : HeapN (upL (L ++ [e]) L.length) (L.length + 1) := by
  refine up_heap _ _ _ (by simp) (by omega) ⟨fun c hc hcn hne => ?_, fun c hc hcn hpc h0 => by omega⟩
  rw [gE_app (by omega), gE_app (by omega)]
  exact h c hc (by omega)
theorem push_perm {L : List En} {e : En} : (upL (L ++ [e]) L.length).Perm (L ++ [e]) := up_perm _ _ (by simp)
/-- The first taken out. -/
theorem pop_heap {L : List En} (h0 : 0 < L.length) (h : HeapN L L.length) : HeapN ((popL L).take (L.length - 1)) (L.length - 1) := by
  refine HeapN.take ?_
  unfold popL
  refine down_heap _ _ _ _ (Nat.le_refl _) (by rw [swapL_len]; omega) ⟨fun c hc hcn hpc => ?_, fun c hc hcn hpc h00 => by omega⟩
  rw [swap_o h0 (by omega) (by omega) (by omega), swap_o h0 (by omega) (by omega) (by omega)]
  exact h c hc (by omega)
theorem pop_last {L : List En} (h0 : 0 < L.length) : gE (popL L) (L.length - 1) = gE L 0 := by
  unfold popL
  rw [down_out _ _ _ _ _ (Nat.le_refl _) (by rw [swapL_len]; omega) (Nat.le_refl _), swap_j h0 (by omega)]
theorem pop_perm {L : List En} (h0 : 0 < L.length) : (popL L).Perm L := by
  unfold popL
  exact (down_perm _ _ _ _ (Nat.le_refl _) (by rw [swapL_len]; omega)).trans (swapL_perm h0 (by omega))
/-- A list is its beginning and its last. -/
theorem take_last {L : List En} (h0 : 0 < L.length) : L = L.take (L.length - 1) ++ [gE L (L.length - 1)] := by
  have := take_en (n := L.length) (k := L.length - 1) (M := L) (by omega) rfl
  rw [← this, Nat.sub_add_cancel h0, List.take_length]
theorem pop_rest {L : List En} (h0 : 0 < L.length) : (gE L 0 :: (popL L).take (L.length - 1)).Perm L := by
  have hl := popL_len L
  have h1 := take_last (L := popL L) (by omega)
  rw [hl, pop_last h0] at h1
  have h2 := pop_perm h0
  rw [h1] at h2
  exact (List.perm_append_comm (l₁ := [gE L 0])).trans h2
/-- Any one taken out. -/
theorem rem_last {L : List En} {i : Nat} (hi : i < L.length) : gE (remL L i) (L.length - 1) = gE L i := by
  unfold remL
  split
  · rename_i h; rw [h]
  · have e : gE (downL (swapL L i (L.length - 1)) i (L.length - 1)).1 (L.length - 1) = gE L i := by
      rw [down_out _ _ _ _ _ (Nat.le_refl _) (by rw [swapL_len]; omega) (Nat.le_refl _), swap_j hi (by omega)]
    split
    · exact e
    · rw [up_out _ _ _ (by rw [downL_len _ _ _ _ (Nat.le_refl _), swapL_len]; exact hi) (by omega)]
      exact e
theorem rem_perm {L : List En} {i : Nat} (hi : i < L.length) : (remL L i).Perm L := by
  have h1 : (downL (swapL L i (L.length - 1)) i (L.length - 1)).1.Perm L := (down_perm _ _ _ _ (Nat.le_refl _) (by rw [swapL_len]; omega)).trans (swapL_perm hi (by omega))
  unfold remL
  split
  · exact .refl _
  · split
    · exact h1
    · exact (up_perm _ _ (by rw [downL_len _ _ _ _ (Nat.le_refl _), swapL_len]; exact hi)).trans h1
theorem rem_heap {L : List En} {i : Nat} (hi : i < L.length) (h : HeapN L L.length) : HeapN ((remL L i).take (L.length - 1)) (L.length - 1) := by
  refine HeapN.take ?_
  unfold remL
  split
  · exact h.le (by omega)
  · rename_i hne
    have hm : L.length - 1 < L.length := by omega
    have o : ∀ k, k ≠ i → k < L.length - 1 → gE (swapL L i (L.length - 1)) k = gE L k := fun k h1 h2 => swap_o hi hm h1 (by omega)
    have h1 : ∀ c, 0 < c → c < L.length - 1 → (c - 1) / 2 ≠ i → c ≠ i → leE (gE (swapL L i (L.length - 1)) ((c - 1) / 2)) (gE (swapL L i (L.length - 1)) c) := fun c hc hcn hpc hci => by
      rw [o _ hpc (by omega), o _ hci hcn]; exact h c hc (by omega)
    have h2 : ∀ c, 0 < c → c < L.length - 1 → (c - 1) / 2 = i → 0 < i → leE (gE (swapL L i (L.length - 1)) ((i - 1) / 2)) (gE (swapL L i (L.length - 1)) c) := fun c hc hcn hpc h0 => by
      rw [o _ (by omega) (by omega), o _ (by omega) hcn]
      have a := h i h0 hi
      have b := h c hc (by omega)
      rw [hpc] at b
      exact a.trans b
    have hlen : L.length - 1 ≤ (swapL L i (L.length - 1)).length := by rw [swapL_len]; omega
    have hup : UpInv (swapL L i (L.length - 1)) i (L.length - 1) → HeapN (upL (swapL L i (L.length - 1)) i) (L.length - 1) := fun hu => up_heap _ _ _ hlen (by omega) hu
    by_cases he : L.length - 1 ≤ 2 * i + 1
    · rw [down_end he, if_neg (Nat.lt_irrefl i)]
      exact hup ⟨fun c hc hcn hci => h1 c hc hcn (by omega) hci, h2⟩
    · by_cases hl : ltE (gE (swapL L i (L.length - 1)) (kid (swapL L i (L.length - 1)) i (L.length - 1))) (gE (swapL L i (L.length - 1)) i) = true
      · have hor := kid_or (swapL L i (L.length - 1)) i (L.length - 1)
        have hst := down_step hlen (by omega) hl h1 h2
        rw [down_yes (by omega) hl, if_pos (Nat.lt_of_lt_of_le (by omega : i < kid (swapL L i (L.length - 1)) i (L.length - 1)) (down_mono _ _ _ _ (Nat.le_refl _)))]
        exact down_heap _ _ _ _ (Nat.le_refl _) (by rw [swapL_len]; exact hlen) hst
      · rw [down_no (by omega) hl, if_neg (Nat.lt_irrefl i)]
        refine hup ⟨fun c hc hcn hci => ?_, h2⟩
        by_cases hpc : (c - 1) / 2 = i
        · rw [hpc]; exact (leE.of_not hl).trans (kid_le hcn hpc hc)
        · exact h1 c hc hcn hpc hci
theorem rem_rest {L : List En} {i : Nat} (hi : i < L.length) : (gE L i :: (remL L i).take (L.length - 1)).Perm L := by
  have hl := remL_len L i
  have h1 := take_last (L := remL L i) (by omega)
  rw [hl, rem_last hi] at h1
  have h2 := rem_perm hi
  rw [h1] at h2
  exact (List.perm_append_comm (l₁ := [gE L i])).trans h2
end Go.Sep

namespace Go.Sep
open Go
structure QI (w0 : World) (L : List En) (last : Int) (G : List Chunk) : Prop where
  heap : HeapN L L.length
  nd : (L.map (·.no)).Nodup
  ok : ∀ e ∈ L, 1 ≤ e.no ∧ e.no ≤ last ∧ e.key = keyF e.fs.f ∧ chkF e.fs.f = 0 ∧ FsOk w0 G e.fs
theorem QI.nil {w0 : World} {last : Int} {G : List Chunk} : QI w0 [] last G := ⟨fun c h1 h2 => by simp at h2, .nil, fun e h => by cases h⟩
theorem QI.fs {w0 : World} {L : List En} {last : Int} {G : List Chunk} (h : QI w0 L last G) : ∀ e ∈ L, FsOk w0 G e.fs := fun e he => (h.ok e he).2.2.2.2
theorem no_inj {L : List En} (h : (L.map (·.no)).Nodup) {x y : En} (hx : x ∈ L) (hy : y ∈ L) (e : x.no = y.no) : x = y := by
  induction L with
  | nil => cases hx
  | cons a l ih =>
    rw [List.map_cons, List.nodup_cons] at h
    rcases List.mem_cons.1 hx with h1 | h1
    · rcases List.mem_cons.1 hy with h2 | h2
      · rw [h1, h2]
      · exact absurd (show a.no ∈ l.map (·.no) from List.mem_map.2 ⟨y, h2, by rw [← e, h1]⟩) h.1
    · rcases List.mem_cons.1 hy with h2 | h2
      · exact absurd (show a.no ∈ l.map (·.no) from List.mem_map.2 ⟨x, h1, by rw [e, h2]⟩) h.1
      · exact ih h.2 h1 h2
theorem perm_nd {A B : List En} (h : A.Perm B) (hn : (B.map (·.no)).Nodup) : (A.map (·.no)).Nodup := (h.map _).nodup_iff.2 hn
theorem QI.put {w0 : World} {x : Fs} {L L' : List En} {D G : List Chunk} {last last' er : Int} {n n' : Nat} {room no : Int} (h : QI w0 L last G) (hl : 0 ≤ last) (hn : n = L.length)
    (hlin : (chkF x.f ≠ 0 ∧ no = 0 ∧ er = 2 ∧ n' = n ∧ last' = last) ∨ (chkF x.f = 0 ∧ room ≤ n ∧ no = 0 ∧ er = 8 ∧ n' = n ∧ last' = last) ∨ (chkF x.f = 0 ∧ n < room ∧ no = last + 1 ∧ er = 0 ∧ n' = n + 1 ∧ last' = last + 1))
    (hL : (er ≠ 0 ∧ L' = L ∧ D = []) ∨ (er = 0 ∧ ∃ y : Fs, y.f = x.f ∧ FsOk w0 D y ∧ L' = upL (L ++ [⟨last + 1, y, keyF x.f⟩]) n)) : QI w0 L' last' (D ++ G) := by
  rcases hL with ⟨he, rfl, rfl⟩ | ⟨he, y, hyf, hy, rfl⟩
  · have : last' = last := by omega
    subst this; exact h
  · have hc : chkF x.f = 0 := by omega
    have hla : last' = last + 1 := by omega
    subst hla hn
    have hp := push_perm (L := L) (e := ⟨last + 1, y, keyF x.f⟩)
    refine ⟨by rw [upL_len]; simpa using push_heap h.heap, perm_nd hp ?_, fun e he => ?_⟩
    · rw [List.map_append, List.nodup_append]
      refine ⟨h.nd, by simp, fun a ha b hb => ?_⟩
      obtain ⟨q, hq, rfl⟩ := List.mem_map.1 ha
      have : b = last + 1 := by simpa using hb
      have := (h.ok q hq).2.1
      omega
    · rcases List.mem_append.1 (hp.mem_iff.1 he) with h1 | h1
      · obtain ⟨a, b, c, d, e5⟩ := h.ok e h1
        exact ⟨a, by omega, c, d, e5.app⟩
      · rw [List.mem_singleton.1 h1]
        exact ⟨by show 1 ≤ last + 1; omega, Int.le_refl _, by show keyF x.f = keyF y.f; rw [hyf], by show chkF y.f = 0; rw [hyf]; exact hc, hy.appr⟩
theorem QI.sub {w0 : World} {L M : List En} {last : Int} {G : List Chunk} (h : QI w0 L last G) (x : En) (hp : (x :: M).Perm L) (hh : HeapN M M.length) : QI w0 M last G := by
  have hn := perm_nd hp h.nd
  rw [List.map_cons, List.nodup_cons] at hn
  exact ⟨hh, hn.2, fun e he => h.ok e (hp.mem_iff.1 (List.mem_cons_of_mem _ he))⟩
theorem QI.pop {w0 : World} {L : List En} {last : Int} {G : List Chunk} (h : QI w0 L last G) (h0 : 0 < L.length) : QI w0 ((popL L).take (L.length - 1)) last G :=
  h.sub (gE L 0) (pop_rest h0) (by rw [List.length_take, popL_len, Nat.min_eq_left (by omega)]; exact pop_heap h0 h.heap)
theorem QI.rem {w0 : World} {L : List En} {last : Int} {G : List Chunk} (h : QI w0 L last G) {i : Nat} (hi : i < L.length) : QI w0 ((remL L i).take (L.length - 1)) last G :=
  h.sub (gE L i) (rem_rest hi) (by rw [List.length_take, remL_len, Nat.min_eq_left (by omega)]; exact rem_heap hi h.heap)
theorem sorted_pair {L : List En} (h : SortedE L) : L.Pairwise leE := by
  rw [List.pairwise_iff_getElem]
  intro i j hi hj hij
  have := h i j hij hj
  have e : ∀ k (hk : k < L.length), gE L k = L[k] := fun k hk => by have := gE_get hk; rw [List.getElem?_eq_getElem hk] at this; exact (Option.some.inj this).symm
  rw [e i hi, e j hj] at this
  exact this
theorem leE.anti {L : List En} (hn : (L.map (·.no)).Nodup) {x y : En} (hx : x ∈ L) (hy : y ∈ L) (h1 : leE x y) (h2 : leE y x) : x = y := by
  rw [leE_iff] at h1 h2
  exact no_inj hn hx hy (by omega)
/-- One order alone is sorted. -/
theorem sorted_one {A B : List En} (hn : (A.map (·.no)).Nodup) (ha : SortedE A) (hb : SortedE B) (hp : A.Perm B) : A = B :=
  List.Perm.eq_of_pairwise (le := leE) (fun _ _ h1 h2 a b => leE.anti hn h1 (hp.mem_iff.2 h2) a b) (sorted_pair ha) (sorted_pair hb) hp
theorem gE_drop {L : List En} {i k : Nat} : gE (L.drop i) k = gE L (i + k) := by
  unfold gE; rw [List.getD_eq_getElem?_getD, List.getElem?_drop, ← List.getD_eq_getElem?_getD]
/-- Who is taken out is the first in the order. -/
theorem first_is {L S : List En} (h : HeapN L L.length) (hn : (L.map (·.no)).Nodup) (hs : SortedE S) (hp : S.Perm L) (h0 : 0 < L.length) : gE S 0 = gE L 0 := by
  have hl := hp.length_eq
  have hm : gE L 0 ∈ S := hp.mem_iff.2 (gE_in h0)
  have hm0 : gE S 0 ∈ L := hp.mem_iff.1 (gE_in (by omega))
  obtain ⟨k, hk, he⟩ := List.getElem_of_mem hm
  obtain ⟨q, hq, he2⟩ := List.getElem_of_mem hm0
  have e1 : gE S k = gE L 0 := by have := gE_get hk; rw [List.getElem?_eq_getElem hk, he] at this; exact (Option.some.inj this).symm
  have e2 : gE L q = gE S 0 := by have := gE_get hq; rw [List.getElem?_eq_getElem hq, he2] at this; exact (Option.some.inj this).symm
  have a : leE (gE S 0) (gE L 0) := by
    rw [← e1]
    rcases Nat.eq_zero_or_pos k with h1 | h1
    · subst h1; exact leE.refl _
    · exact hs 0 k h1 hk
  have b : leE (gE L 0) (gE S 0) := by rw [← e2]; exact root_le h q hq
  exact leE.anti hn hm0 (gE_in h0) a b
theorem sorted_drop {S : List En} (h : SortedE S) (i : Nat) : SortedE (S.drop i) := fun a b hab hb => by
  rw [List.length_drop] at hb
  rw [gE_drop, gE_drop]
  exact h _ _ (by omega) (by omega)
theorem drop_first {S : List En} {i : Nat} (h : i < S.length) : S.drop i = gE S i :: S.drop (i + 1) := by
  rw [List.drop_eq_getElem_cons h]
  have := gE_get h
  rw [List.getElem?_eq_getElem h] at this
  rw [Option.some.inj this]
theorem pop_next {L S : List En} {i : Nat} (h : HeapN L L.length) (hn : (L.map (·.no)).Nodup) (hs : SortedE S) (hp : L.Perm (S.drop i)) (hi : i < S.length) : gE L 0 = gE S i ∧ ((popL L).take (L.length - 1)).Perm (S.drop (i + 1)) := by
  have hl := hp.length_eq
  rw [List.length_drop] at hl
  have e : gE L 0 = gE S i := by
    have := first_is h hn (sorted_drop hs i) hp.symm (by omega)
    rw [gE_drop, Nat.add_zero] at this
    exact this.symm
  refine ⟨e, ?_⟩
  have h1 := (pop_rest (L := L) (by omega)).trans hp
  rw [drop_first hi, e] at h1
  exact List.Perm.cons_inv h1
theorem sorted_strict {S : List En} (hn : (S.map (·.no)).Nodup) (hs : SortedE S) {i j : Nat} (hij : i < j) (hj : j < S.length) : (gE S i).key < (gE S j).key ∨ ((gE S i).key = (gE S j).key ∧ (gE S i).no < (gE S j).no) := by
  have h1 : leE (gE S i) (gE S j) := hs i j hij hj
  rw [leE_iff] at h1
  have hne : (gE S i).no ≠ (gE S j).no := by
    intro e
    have hm := List.nodup_iff_pairwise_ne.1 hn
    rw [List.pairwise_iff_getElem] at hm
    have := hm i j (by simp; omega) (by simpa using hj) hij
    apply this
    have q : ∀ k (hk : k < S.length), gE S k = S[k] := fun k hk => by have := gE_get hk; rw [List.getElem?_eq_getElem hk] at this; exact (Option.some.inj this).symm
    rw [List.getElem_map, List.getElem_map, ← q i (by omega), ← q j hj]
    exact e
  omega
end Go.Sep
